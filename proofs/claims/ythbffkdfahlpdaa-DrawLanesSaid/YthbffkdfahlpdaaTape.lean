/- The tape of package draw: what it is in memory; what each of its calls does. -/
import Derived.Test.YthbffkdfahlpdaaLibE
import Derived.Test.YthbffkdfahlpdaaProg
import Derived.Deep.QuietTactic
import Derived.Deep.DeepCutAuto
import Derived.BigQuiet
set_option linter.unusedVariables false
namespace Go.Proofs.Ythbffkdfahlpdaa
open Go.RowKit Go.MapKept

theorem sl_u64 : ElemT Try.prog 25 28 1 8 := elemT (z := .int .u64 0) Try.underlying25 (by kernel_rfl) rfl
theorem sl_lane : ElemT Try.prog 22 25 1 24 := elemT (z := .slice none 0 0) Try.underlying22 (by kernel_rfl) rfl
theorem ones_u (l : List Int) : ∀ u ∈ l.map (Value.int .u64), u.oneCell' = true := by
  intro u hu; obtain ⟨x, _, rfl⟩ := List.mem_map.1 hu; rfl

/-- vs stand for ls, one by one. -/
def AllL (R : Value → List Int → Prop) (vs : List Value) (ls : List (List Int)) : Prop := vs.length = ls.length ∧ ∀ i (h : i < ls.length), ∃ u, vs[i]? = some u ∧ R u ls[i]
theorem AllL.mono {R R' : Value → List Int → Prop} {vs : List Value} {ls : List (List Int)} (h : AllL R vs ls) (hs : ∀ u l, R u l → R' u l) : AllL R' vs ls :=
  ⟨h.1, fun i hi => by obtain ⟨u, hu, hc⟩ := h.2 i hi; exact ⟨u, hu, hs _ _ hc⟩⟩
theorem AllL.push {R : Value → List Int → Prop} {vs : List Value} {ls : List (List Int)} (h : AllL R vs ls) {u : Value} {l : List Int} (hc : R u l) : AllL R (vs ++ [u]) (ls ++ [l]) := by
  refine ⟨by simp [h.1], fun i hi => ?_⟩
  by_cases e : i < ls.length
  · obtain ⟨u', h1, h2⟩ := h.2 i e
    refine ⟨u', by rw [List.getElem?_append_left (by rw [h.1]; exact e)]; exact h1, ?_⟩
    rw [List.getElem_append_left e]; exact h2
  · have e : i = ls.length := by simp at hi; omega
    subst e
    refine ⟨u, by rw [← h.1, List.getElem?_append_right (Nat.le_refl _)]; simp, ?_⟩
    rw [List.getElem_append_right (Nat.le_refl _)]; simpa using hc

/-- u is a slice that holds l, and is read. -/
def Lane (w : World) (S : Nat → Prop) (u : Value) (l : List Int) : Prop := Cells w S u l.length 1 (l.map (Value.int .u64))
/-- u is a slice that holds l, in a block of its own kind. -/
def OLane (w : World) (S : Nat → Prop) (u : Value) (l : List Int) : Prop :=
  ∃ g off cap cur, u = .slice (some ⟨g, off, none⟩) l.length cap ∧ S g ∧ Blk w g cur 28 ∧ l.length ≤ cap ∧ cap ≤ maxLen ∧ ∀ j x, l[j]? = some x → cur[off + j]? = some (.int .u64 x)
section
variable {w w' : World} {S S' : Nat → Prop} {u : Value} {l : List Int}
theorem OLane.lane (h : OLane w S u l) : Lane w S u l := by
  obtain ⟨g, off, cap, cur, rfl, hS, hB, h1, h2, h3⟩ := h
  refine ⟨_, cap, rfl, h1, h2, by simp, .inr ⟨g, off, rfl, hS, hB.lt, fun j v hj => ?_⟩⟩
  rw [List.getElem?_map, Option.map_eq_some_iff] at hj
  obtain ⟨x, hx, rfl⟩ := hj
  exact hB.at _ _ (h3 j x hx)
theorem OLane.move (h : OLane w S u l) (hs : ∀ k, k < w.heap.size → S k → S' k ∧ w'.heap[k]? = w.heap[k]?) : OLane w' S' u l := by
  obtain ⟨g, off, cap, cur, rfl, hS, hB, h1, h2, h3⟩ := h
  exact ⟨g, off, cap, cur, rfl, (hs g hB.lt hS).1, hB.same (hs g hB.lt hS).2, h1, h2, h3⟩
/-- Blocks that turned are of another kind. -/
theorem OLane.other {T : Nat → Prop} (h : OLane w S u l) (hm : Mod T w w') (hT : ∀ k cur, Blk w k cur 28 → ¬ T k) : OLane w' S u l := by
  obtain ⟨g, off, cap, cur, rfl, hS, hB, h1, h2, h3⟩ := h
  exact ⟨g, off, cap, cur, rfl, hS, hB.same (hm.block g hB.lt (hT g cur hB)), h1, h2, h3⟩
theorem OLane.fresh {g : Nat} (hS : S g) (hB : Blk w g (l.map (Value.int .u64)) 28) (hl : l.length ≤ maxLen) : OLane w S (.slice (some ⟨g, 0, none⟩) l.length l.length) l :=
  ⟨g, 0, _, _, rfl, hS, hB, Nat.le_refl _, hl, fun j x hx => by rw [Nat.zero_add, List.getElem?_map, hx]; rfl⟩
end

/-- The tape at b: its lanes are ls. -/
def TapeAt (w : World) (b : Nat) (S : Nat → Prop) (ls : List (List Int)) : Prop :=
  ∃ v vs, Blk w b [v] 71 ∧ S b ∧ Row w S 25 1 v ls.length vs ∧ AllL (OLane w S) vs ls
section
variable {w w' : World} {b : Nat} {S S' : Nat → Prop} {ls : List (List Int)}
theorem TapeAt.move (h : TapeAt w b S ls) (hz : w.heap.size ≤ w'.heap.size) (hs : ∀ k, k < w.heap.size → S k → S' k ∧ w'.heap[k]? = w.heap[k]?) : TapeAt w' b S' ls := by
  obtain ⟨v, vs, h1, h2, h3, h4⟩ := h
  exact ⟨v, vs, h1.same (hs b h1.lt h2).2, (hs b h1.lt h2).1, h3.move hz hs, h4.mono fun _ _ q => q.move hs⟩
theorem TapeAt.mono (h : TapeAt w b S ls) (hs : ∀ k, k < w.heap.size → S k → S' k) : TapeAt w b S' ls := h.move (Nat.le_refl _) fun k hk q => ⟨hs k hk q, rfl⟩
theorem TapeAt.mod {T : Nat → Prop} (h : TapeAt w b S ls) (hm : Mod T w w') (hd : ∀ k, k < w.heap.size → S k → ¬ T k) : TapeAt w' b S ls :=
  h.move hm.size fun k hk q => ⟨q, hm.block k hk (hd k hk q)⟩
theorem TapeAt.modNil (h : TapeAt w b S ls) (hm : Mod Nil w w') : TapeAt w' b S ls := h.mod hm fun _ _ _ q => q
theorem TapeAt.lt (h : TapeAt w b S ls) : b < w.heap.size ∧ S b := by obtain ⟨v, vs, h1, h2, _⟩ := h; exact ⟨h1.lt, h2⟩

def NewInv (w wr : World) (b k : Nat) (ls : List (List Int)) : Prop :=
  Mod Nil w wr ∧ w.heap.size < wr.heap.size ∧ ∃ u vs', Blk wr b [u] 71 ∧ Row wr (fun x => w.heap.size ≤ x) 25 1 u k vs' ∧ AllL (OLane wr (fun x => w.heap.size ≤ x)) vs' (ls.take k)

set_option maxHeartbeats 1600000 in
set_option maxRecDepth 100000 in
theorem tape_New (v : Value) (vs : List Value) (ls : List (List Int)) (w : World) (S : Nat → Prop) (h : Cells w S v ls.length 1 vs) (hL : AllL (Lane w S) vs ls) (hb : ls.length ≤ 1000000) (hbs : ∀ l ∈ ls, l.length ≤ 1000000) :
    Calls Try.prog 15 #[v] w fun e w' => ∃ b, e = .returned (.pointer (some ⟨b, 0, none⟩)) ∧ Mod Nil w w' ∧ ∃ S', (∀ k, S' k → w.heap.size ≤ k) ∧ TapeAt w' b S' ls := by
  obtain ⟨a, cap, rfl, hc1, hc2, _, hc⟩ := h.shape
  unfold maxLen at hc2
  have HL := hid hL
  clear hL h
  go_enter Try.func15, Try.ntmps15
  go_wp2_with fail
  go_loopw [11] (fun i wr => ∃ k : Nat, k ≤ ls.length ∧ i = .int .i64 k ∧ NewInv w wr w.heap.size k ls) (fun i _ => ls.length - (intOf i).toNat)
  case atStart => exact ⟨0, by omega, rfl, (Mod.refl _ _).alloc _, by simp, .slice none 0 0, [], Blk.new w [.slice none 0 0] _, Row.nil _ _ _ _, rfl, fun i hi => by simp at hi⟩
  case round =>
    obtain ⟨k, hk, rfl, hm, hwz, u, vs', hB, hR, hN⟩ := hrel
    by_cases hlt : k < ls.length
    · obtain ⟨g, off, rfl, _, _, hcell⟩ := hc (by omega)
      obtain ⟨y, hy, hcy⟩ := HL.out.2 k hlt
      obtain ⟨l, hl⟩ : ∃ l, l = ls[k] := ⟨_, rfl⟩
      have hlb : l.length ≤ 1000000 := hbs l (hl ▸ List.getElem_mem hlt)
      have p0 := hm.cell (hcell k y hy) (fun q => q)
      rw [← hl] at hcy
      have hcy2 : Lane wr S y l := Cells.modNil hcy hm
      obtain ⟨ay, cy, rfl, hy1, hy2, _, _⟩ := Cells.shape hcy2
      unfold maxLen at hy2
      have HCY : Hid (Cells wr S (.slice ay l.length cy) l.length 1 (l.map (Value.int .u64))) := hid hcy2
      have HB := hid hB; have HR := hid hR; have HN := hid hN; have HM := hid hm; have HX := hid hl
      clear hcell hy hcy hcy2 hB hR hN hm hl hc
      go_wp2_with (first
        | (at_make; refine wpMakeBlk rfl _ _ rfl sl_u64 rfl rfl (by omega) (by unfold maxLen; omega) ?_; intro w1 cur hlen hB1 hm1; have HB1 := hid hB1; have HM1 := hid hm1; have HC1 := hid (Cells.modNil HCY.out hm1); clear hB1 hm1)
        | ((with_reducible refine wpCopyBlk (cap := l.length) rfl (.tmp 18) (.tmp 19) 25 25 rfl sl_u64 ?_ ?_ HC1.out (ones_u _) HB1.out hlen w (by omega) (HM.out.trans HM1.out) ?_); exact rfl; exact rfl; intro w2 hB2 hm2 hoth hsz
           have hkeep : ∀ k, k < wr.heap.size → w2.heap[k]? = wr.heap[k]? := fun k hk => (hoth k (by omega) (Nat.lt_of_lt_of_le hk HM1.out.size)).trans (HM1.out.block k hk fun q => q)
           have hz2 : wr.heap.size ≤ w2.heap.size := Nat.le_trans HM1.out.size hsz
           have hT2 := HB.out.same (hkeep _ hwz)
           have pb := hT2.at 0 _ rfl
           have HT2 := hid hT2
           have HR2 := hid (HR.out.move hz2 fun k hk q => ⟨q, hkeep k hk⟩)
           have HN2 := hid ((HN.out.mono fun _ _ q => q.move fun k hk p => ⟨p, hkeep k hk⟩).push (OLane.fresh (S := fun x => w.heap.size ≤ x) (l := l) (by omega) hB2 (by unfold maxLen; omega)))
           have HM2 := hid hm2
           clear hoth hB2 hkeep hT2 hm2)
        | (at_builtin; refine wpRowPush rfl _ _ rfl sl_lane (by omega) HR2.out.self rfl rfl (by simp) [.slice (some ⟨wr.heap.size, 0, none⟩) l.length l.length] 25 rfl ?_ ?_ ?_ ?_))
      · simp [Value.oneCell']
      · unfold maxLen; omega
      · omega
      · intro v3 w3 hR3 hm3 hz3
        obtain ⟨a3, c3, rfl, _, _⟩ := hR3.len
        have hT3 := hm3.blk HT2.out (fun q => HR2.out.ne HT2.out (by decide) _ q rfl)
        have pb3 := hT3.at 0 _ rfl
        have fb3 := hT3.free 0
        have hN3 : AllL (OLane w3 (fun x => w.heap.size ≤ x)) (vs' ++ [.slice (some ⟨wr.heap.size, 0, none⟩) l.length l.length]) (ls.take k ++ [l]) :=
          HN2.out.mono fun _ _ q => q.other hm3 fun k cur hb q => HR2.out.ne hb (by decide) _ q rfl
        have HT3 := hid hT3; have HR3 := hid hR3; have HM3 := hid hm3; have HN3 := hid hN3
        clear hT3 hR3 hm3 hN3
        go_wp2
        go_roundw
        case rel =>
          refine ⟨k + 1, by omega, by go_num, ?_, ?_, .slice a3 (k + 1) c3, vs' ++ [.slice (some ⟨wr.heap.size, 0, none⟩) l.length l.length], HT3.out.set 0 _, ?_, ?_⟩
          · exact (HM2.out.trans' HM3.out fun j hj q => absurd (HR2.out.2 j q) (by omega)).setCell (fun hp => (Nat.lt_irrefl _ hp).elim) _
          · simp; omega
          · exact (HR3.out.setne (HR3.out.ne HT3.out (by decide)) _).mono fun j _ q => q.elim (fun q => HR2.out.2 j q) (fun q => by omega)
          · rw [List.take_succ_eq_append_getElem hlt, ← HX.out]
            exact HN3.out.mono fun _ _ q => q.other ((Mod.refl (fun j => j = w.heap.size) w3).setCell (fun _ => rfl) _) fun j cur hb e => hb.ne HT3.out (by decide) e
        case measure => simp [intOf]; omega
    · go_wp2
      go_ret
      have : k = ls.length := by omega
      subst this
      rw [List.take_length] at hN
      exact ⟨_, rfl, hm, _, fun _ q => q, u, vs', hB, Nat.le_refl _, hR, hN⟩
end
end Go.Proofs.Ythbffkdfahlpdaa
