/- Package draw, for the walks of its statements: what its calls do; the statements' own first test. -/
import Derived.Test.YthbffkdfahlpdaaWork
import Derived.Test.YthbffkdfahlpdaaSampled
set_option linter.unusedVariables false
namespace Go.Proofs.Ythbffkdfahlpdaa
open Go.RowKit Go.MapKept

section
variable {w w' : World} {b : Nat} {S S' : Nat → Prop} {ls : List (List Int)}
instance {b : Nat} {ls : List (List Int)} : Mov (fun w S => TapeAt w b S ls) := ⟨fun h hz hs => h.move hz hs⟩
theorem TapeAt.keep {own own' : Nat → Nat} {c : Nat} (h : TapeAt w b (fun k => own k = c) ls) (K : Keeps w w' own own' c) : TapeAt w' b (fun k => own' k = c) ls := h.move K.size K.block
theorem t_New (v : Value) (vs : List Value) (ls : List (List Int)) (w : World) (S : Nat → Prop) (h : Cells w S v ls.length 1 vs) (hL : AllL (Lane w S) vs ls) (hb : ls.length ≤ 1000000) (hbs : ∀ l ∈ ls, l.length ≤ 1000000) :
    Calls Try.prog 15 #[v] w (MakesP w fun b w S => TapeAt w b S ls) :=
  (tape_New v vs ls w S h hL hb hbs).mono fun _ _ ⟨b, he, hm, S', hs, ht⟩ => ⟨b, he, hm, ht.mono fun k _ q => hs k q⟩
theorem t_Copy (h : TapeAt w b S ls) (hb : ls.length ≤ 1000000) (hbs : ∀ l ∈ ls, l.length ≤ 1000000) :
    Calls Try.prog 20 #[.pointer (some ⟨b, 0, none⟩)] w (MakesP w fun b w S => TapeAt w b S ls) :=
  (tape_Copy h hb hbs).mono fun _ _ ⟨b, he, hm, S', hs, ht⟩ => ⟨b, he, hm, ht.mono fun k _ q => hs k q⟩
theorem t_Next (h : TapeAt w b S ls) (i : Int) (hi : -9223372036854775808 ≤ i ∧ i ≤ 9223372036854775807) :
    Calls Try.prog 17 #[.pointer (some ⟨b, 0, none⟩), .int .i64 i] w (After S w (.int .u64 ((ln ls i).headD 0)) fun w S => TapeAt w b S (nx ls i)) :=
  (tape_Next h i hi).mono fun _ _ ⟨he, hm, ht⟩ => ⟨he, hm, S, fun _ q => .inl q, ht⟩
theorem t_Pick (h : TapeAt w b S ls) (i : Int) (hi : -9223372036854775808 ≤ i ∧ i ≤ 9223372036854775807) (p : Int) :
    Calls Try.prog 18 #[.pointer (some ⟨b, 0, none⟩), .int .i64 i, .int .u64 p] w (After S w (.bool (decide ((ln ls i).headD 0 / 4 < p))) fun w S => TapeAt w b S (nx ls i)) :=
  (tape_Pick h i hi p).mono fun _ _ ⟨he, hm, ht⟩ => ⟨he, hm, S, fun _ q => .inl q, ht⟩
end

/-- One lane, written out. -/
theorem lane_lit (w : World) (xs : List Int) (h : xs.length ≤ 1000000) : Lane (w.alloc (.cells (xs.map (Value.int .u64)).toArray 28)) (fun _ => True) (.slice (some ⟨w.heap.size, 0, none⟩) xs.length xs.length) xs :=
  (Row.fresh (n := xs.length) (size := 1) w (xs.map (Value.int .u64)) 28 (by simp) (by unfold maxLen; omega)).cells.mono fun _ _ _ => trivial
/-- 'New(lane)'. -/
theorem t_New1 (w : World) (u : Value) (xs : List Int) (S : Nat → Prop) (h : Lane w S u xs) (hb : xs.length ≤ 1000000) {n : Nat} (hn : n = w.heap.size) :
    Calls Try.prog 15 #[.slice (some ⟨n, 0, none⟩) 1 1] (w.alloc (.cells #[u] 25)) (MakesP w fun b w S => TapeAt w b S [xs]) := by
  subst hn
  refine (t_New _ [u] [xs] _ (fun _ => True) ?_ ⟨rfl, fun i hi => ?_⟩ (by simp) (by simpa using hb)).mono fun _ _ q => q.from ((Mod.refl _ _).alloc _)
  · exact (Row.fresh (n := 1) (size := 1) w [u] 25 rfl (by decide)).cells.mono fun _ _ _ => trivial
  · obtain rfl : i = 0 := by simpa using hi
    exact ⟨u, rfl, (Cells.alloc h _).mono fun _ _ _ => trivial⟩
/-- 'New([]uint64{..})'. -/
theorem t_NewL (w : World) (xs : List Int) (hb : xs.length ≤ 1000000) {vs : Array Value} (hv : vs = (xs.map (Value.int .u64)).toArray) {n : Nat} (hn : n = xs.length) :
    Calls Try.prog 15 #[.slice (some ⟨w.heap.size + 1, 0, none⟩) 1 1] ((w.alloc (.cells vs 28)).alloc (.cells #[.slice (some ⟨w.heap.size, 0, none⟩) n n] 25)) (MakesP w fun b w S => TapeAt w b S [xs]) := by
  subst hv hn
  exact (t_New1 _ _ xs _ (lane_lit w xs hb) hb (by simp)).mono fun _ _ q => q.from ((Mod.refl _ _).alloc _)

theorem d_Hash (key : ByteArray) (hk : key.size ≤ 1000000) (w : World) :
    Calls Try.prog 23 #[.string key] w (After Nil w (.int .u64 (hashOf key : Nat)) fun _ _ => True) :=
  (draw_Hash key hk w).mono fun _ _ ⟨he, hm⟩ => ⟨he, hm, Nil, fun _ q => .inl q, trivial⟩
theorem d_Sampled (key : ByteArray) (hk : key.size ≤ 1000000) (i : Int) (hi : -9223372036854775808 ≤ i ∧ i ≤ 9223372036854775807) (w : World) :
    Calls Try.prog 25 #[.string key, .int .i64 i] w (After Nil w (.bool (sampled (hashOf key) i)) fun _ _ => True) :=
  (draw_Sampled key hk i hi w).mono fun _ _ ⟨he, hm⟩ => ⟨he, hm, Nil, fun _ q => .inl q, trivial⟩
theorem hash_ab : hashOf ⟨#[97]⟩ ≠ hashOf ⟨#[98]⟩ := by
  unfold hashOf hfold hmix
  simp only [List.foldl_cons, List.foldl_nil]
  unfold hstep
  decide +kernel

set_option maxHeartbeats 1600000 in
set_option maxRecDepth 100000 in
theorem draw_awake (w : World) : Calls Try.prog 14 #[] w fun e w' => e = .returned (.bool true) ∧ Mod Nil w w' := by
  have HB := hid (Home.start none0 w)
  go_enter Try.func14, Try.ntmps14
  go_wp2_with fail
  with_reducible refine (step_makep HB.out 1 (t_NewL w [5, 4611686018427387904] (by decide) (by simp) (by simp))).mono ?_
  rintro e x1 ⟨b, own1, rfl, hB', hL', hK'⟩
  have HT := hid hL'
  replace HB := hid hB'
  clear hB' hL' hK'
  go_wp2_with fail
  have hct := step_turn HB.out (by decide) (t_Next HT.out 0 (by decide))
  with_reducible refine hct.mono ?_
  clear hct
  rintro e x2 ⟨own2, rfl, hB', hL', hK'⟩
  replace HT := hid hL'
  replace HB := hid hB'
  clear hB' hL' hK'
  go_wp2_with fail
  have hct := step_turn HB.out (by decide) (t_Pick HT.out 0 (by decide) 4611686018427387904)
  with_reducible refine hct.mono ?_
  clear hct
  rintro e x3 ⟨own3, rfl, hB', hL', hK'⟩
  replace HT := hid hL'
  replace HB := hid hB'
  clear hB' hL' hK'
  go_wp2_with fail
  have hct := step_makep HB.out 2 (t_Copy HT.out (by decide) (by decide))
  with_reducible refine hct.mono ?_
  clear hct
  rintro e x4 ⟨b2, own4, rfl, hB', hL', hK'⟩
  replace HT := hid (HT.out.keep (hK' 1))
  have HC := hid hL'
  replace HB := hid hB'
  clear hB' hL' hK'
  go_wp2_with fail
  have hct := step_turn HB.out (by decide) (t_Next HT.out 0 (by decide))
  with_reducible refine hct.mono ?_
  clear hct
  rintro e x5 ⟨own5, rfl, hB', hL', hK'⟩
  replace HC := hid (HC.out.keep (hK' 2 (by decide)))
  replace HT := hid hL'
  replace HB := hid hB'
  clear hB' hL' hK'
  go_wp2_with fail
  have hct := (tape_Left HC.out 0 (by decide))
  with_reducible refine hct.mono ?_
  clear hct
  rintro e w' ⟨rfl, rfl⟩
  go_wp2_with fail
  have hct := step_turn HB.out (by decide) (t_Next HT.out 7 (by decide))
  with_reducible refine hct.mono ?_
  clear hct
  rintro e x7 ⟨own7, rfl, hB', hL', hK'⟩
  replace HC := hid (HC.out.keep (hK' 2 (by decide)))
  replace HT := hid hL'
  replace HB := hid hB'
  clear hB' hL' hK'
  go_wp2_with fail
  have hct := step_quiet HB.out (d_Hash ⟨#[]⟩ (by decide) _)
  with_reducible refine hct.mono ?_
  clear hct
  rintro e x8 ⟨rfl, hB', hK'⟩
  replace HT := hid (HT.out.keep (hK' 1))
  replace HC := hid (HC.out.keep (hK' 2))
  replace HB := hid hB'
  clear hB' hK'
  go_wp2_with fail
  with_reducible refine ((ref02_Hash ⟨#[]⟩ (by decide) _)).mono ?_
  rintro e w' ⟨rfl, rfl⟩
  have ha := d_Hash ⟨#[97]⟩ (by decide)
  have hb := d_Hash ⟨#[98]⟩ (by decide)
  have hab := hash_ab
  generalize hashOf ⟨#[97]⟩ = A at ha hab
  generalize hashOf ⟨#[98]⟩ = B at hb hab
  have hne : ((A : Int) != (B : Int)) = true := net (by omega)
  have HA := hid ha; have HBB := hid hb
  clear ha hb hab
  go_wp2_with fail
  have hct := step_quiet HB.out (HA.out _)
  with_reducible refine hct.mono ?_
  clear hct
  rintro e x10 ⟨rfl, hB', hK'⟩
  replace HT := hid (HT.out.keep (hK' 1))
  replace HC := hid (HC.out.keep (hK' 2))
  replace HB := hid hB'
  clear hB' hK'
  go_wp2_with fail
  have hct := step_quiet HB.out (HBB.out _)
  with_reducible refine hct.mono ?_
  clear hct
  rintro e x11 ⟨rfl, hB', hK'⟩
  replace HT := hid (HT.out.keep (hK' 1))
  replace HC := hid (HC.out.keep (hK' 2))
  replace HB := hid hB'
  clear hB' hK'
  go_wp2_with fail
  have hct := step_quiet HB.out (d_Sampled ⟨#[97]⟩ (by decide) 0 (by decide) _)
  with_reducible refine hct.mono ?_
  clear hct
  rintro e x12 ⟨rfl, hB', hK'⟩
  replace HT := hid (HT.out.keep (hK' 1))
  replace HC := hid (HC.out.keep (hK' 2))
  replace HB := hid hB'
  clear hB' hK'
  go_wp2
  go_ret
  exact ⟨rfl, HB.out.nil⟩
end Go.Proofs.Ythbffkdfahlpdaa
