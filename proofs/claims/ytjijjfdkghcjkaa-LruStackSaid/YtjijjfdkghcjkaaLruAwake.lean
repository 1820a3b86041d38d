/- The statements' own first test of package lru comes to true. -/
import Derived.Test.YtjijjfdkghcjkaaLruB
set_option linter.unusedVariables false
namespace Go.Proofs.Ytjijjfdkghcjkaa
open Go.RowKit Go.MapKept

section
variable {w w' : World} {S S' : Nat → Prop} {b n : Nat} {most : Int} {ks ks' : List ByteArray} {r : Value}
theorem lru_Request_as (h : LruAt w S b most ks n) (hb : n ≤ 100000000) (key : ByteArray) (e : lruStep most ks key = r) (e' : lruReq most ks key = ks') :
    Calls Try.prog 16 #[.pointer (some ⟨b, 0, none⟩), .string key] w (After S w r fun w S => LruAt w S b most ks' (n + 1)) := by
  subst e e'; exact lru_Request h hb key
theorem lru_Adopt_as (h : LruAt w S b most ks n) (hb : n ≤ 100000000) (key : ByteArray) {x : Bool} (e : lruRoom most ks key = x) (e' : (if lruRoom most ks key then bk ks key else ks) = ks') :
    Calls Try.prog 24 #[.pointer (some ⟨b, 0, none⟩), .string key] w (After S w (.bool x) fun w S => LruAt w S b most ks' (n + 1)) := by
  subst e e'; exact lru_Adopt h hb key
theorem lru_Remove_as (h : LruAt w S b most ks n) (hb : n ≤ 1000000000) (key : ByteArray) {x : Bool} (e : decide (key ∈ ks) = x) (e' : rm ks key = ks') :
    Calls Try.prog 28 #[.pointer (some ⟨b, 0, none⟩), .string key] w (After S w (.bool x) fun w S => LruAt w S b most ks' n) := by
  subst e e'; exact lru_Remove h hb key
theorem lru_Has_as (h : LruAt w S b most ks n) (key : ByteArray) {x : Bool} (e : decide (key ∈ ks) = x) :
    Calls Try.prog 18 #[.pointer (some ⟨b, 0, none⟩), .string key] w fun e w' => e = .returned (.bool x) ∧ w = w' := by
  subst e; exact lru_Has h key
theorem lru_Resize_as (h : LruAt w S b most ks n) (hb : n ≤ 100000000) (m : Int) (hm : -9223372036854775808 ≤ m ∧ m ≤ 9223372036854775807) {m' : Int} {out : List ByteArray} (e1 : max m 0 = m') (e2 : lruKeep m ks = ks') (e3 : lruOut m ks = out) :
    Calls Try.prog 23 #[.pointer (some ⟨b, 0, none⟩), .int .i64 m] w (AfterMake S w (fun w S => LruAt w S b m' ks' n) fun v w S => Row w S 9 1 v out.length (out.map Value.string)) := by
  subst e1 e2 e3; exact lru_Resize h hb m hm
/-- 'Same' of two rows. -/
theorem w_Same {v u : Value} {xs ys : List ByteArray} {S S' : Nat → Prop} (h : Strs w S v xs) (h' : Strs w S' u ys) {x : Bool} (e : decide (xs = ys) = x) :
    Calls Try.prog 22 #[v, u] w (Reads w (.bool x)) := by
  subst e; exact ref03_Same v u xs ys w S S' h h'
theorem Row.strs' {e : Nat} {v : Value} {n : Nat} {ks : List ByteArray} (h : Row w S e 1 v n (ks.map Value.string)) : Strs w (fun _ => True) v ks := Cells.mono h.strs fun _ _ _ => trivial
theorem BlkAt.strs {b : Nat} {l : List Value} {T : TypeId} (h : BlkAt w S b l T) (xs : List ByteArray) (hl : l = xs.map Value.string) {n : Nat} (hn : n = xs.length) (hb : xs.length ≤ 1000000) : Strs w (fun _ => True) (.slice (some ⟨b, 0, none⟩) n n) xs := by
  subst hl hn
  refine ⟨_, _, rfl, Nat.le_refl _, by unfold maxLen; omega, by simp, .inr ⟨b, 0, rfl, trivial, h.1.lt, fun j u hj => ?_⟩⟩
  rw [Nat.zero_add]; exact h.1.at j u hj
end

set_option maxHeartbeats 3200000 in
set_option maxRecDepth 100000 in
theorem lru_awake (w : World) : Calls Try.prog 14 #[] w fun e w' => e = .returned (.bool true) ∧ Mod Nil w w' := by
  have HB := hid (Home.start none0 w)
  go_enter Try.func14, Try.ntmps14
  go_wp2_with fail
  have hct := step_makep HB.out 1 (lru_New 2 (by decide))
  with_reducible refine hct.mono ?_
  clear hct
  rintro e x1 ⟨b, own1, rfl, hB', hL', hK'⟩
  have HC := hid hL'
  replace HB := hid hB'
  clear hB' hL' hK'
  go_wp2_with fail
  have hct := step_turn HB.out (by decide) (lru_Request_as HC.out (by omega) ⟨#[97]⟩ (r := (.agg #[.bool false, .string ⟨#[]⟩, .bool false])) (ks' := [⟨#[97]⟩]) (by kernel_rfl) (by decide +kernel))
  with_reducible refine hct.mono ?_
  clear hct
  rintro e x2 ⟨own2, rfl, hB', hL', hK'⟩
  replace HC := hid hL'
  replace HB := hid hB'
  clear hB' hL' hK'
  go_wp2_with fail
  have hct := step_turn HB.out (by decide) (lru_Request_as HC.out (by omega) ⟨#[98]⟩ (r := (.agg #[.bool false, .string ⟨#[]⟩, .bool false])) (ks' := [⟨#[97]⟩, ⟨#[98]⟩]) (by kernel_rfl) (by decide +kernel))
  with_reducible refine hct.mono ?_
  clear hct
  rintro e x3 ⟨own3, rfl, hB', hL', hK'⟩
  replace HC := hid hL'
  replace HB := hid hB'
  clear hB' hL' hK'
  go_wp2_with fail
  obtain ⟨own4, hB', hL', hK'⟩ := home_alloc HB.out [.bool false, .string ⟨#[]⟩, .bool false] 27 2
  replace HC := hid (HC.out.keep (hK' 1))
  have Ha := hid hL'
  replace HB := hid hB'
  clear hB' hL' hK'
  have hsz_x4 : Hid ((x3.alloc (.cells [.bool false, .string ⟨#[]⟩, .bool false].toArray 27)).heap.size = x3.heap.size + 1) := hid (by simp)
  generalize x3.alloc (.cells [.bool false, .string ⟨#[]⟩, .bool false].toArray 27) = x4 at HB hsz_x4 HC Ha ⊢
  obtain ⟨own5, hB', hL', hK'⟩ := home_alloc HB.out [.bool false, .string ⟨#[]⟩, .bool false] 27 3
  replace HC := hid (HC.out.keep (hK' 1))
  replace Ha := hid (Ha.out.keep (hK' 2))
  rw [hsz_x4.out] at hL'
  have Hb := hid hL'
  replace HB := hid hB'
  clear hB' hL' hK'
  have hsz_x5 : Hid ((x4.alloc (.cells [.bool false, .string ⟨#[]⟩, .bool false].toArray 27)).heap.size = x3.heap.size + 2) := hid (by simp [hsz_x4.out])
  generalize x4.alloc (.cells [.bool false, .string ⟨#[]⟩, .bool false].toArray 27) = x5 at HB hsz_x5 HC Ha Hb ⊢
  have a0 := Ha.out.1.at 0 _ rfl
  have a1 := Ha.out.1.at 1 _ rfl
  have a2 := Ha.out.1.at 2 _ rfl
  have alt := Ha.out.1.lt
  have b0 := Hb.out.1.at 0 _ rfl
  have b1 := Hb.out.1.at 1 _ rfl
  have b2 := Hb.out.1.at 2 _ rfl
  have blt := Hb.out.1.lt
  go_wp2_with fail
  have hct := step_turn HB.out (by decide) (lru_Request_as HC.out (by omega) ⟨#[97]⟩ (r := .agg #[.bool true, .string ⟨#[]⟩, .bool false]) (ks' := [⟨#[98]⟩, ⟨#[97]⟩]) (by kernel_rfl) (by decide +kernel))
  with_reducible refine hct.mono ?_
  clear hct
  rintro e x6 ⟨own6, rfl, hB', hL', hK'⟩
  replace Ha := hid (Ha.out.keep (hK' 2 (by decide)))
  replace Hb := hid (Hb.out.keep (hK' 3 (by decide)))
  replace HC := hid hL'
  replace HB := hid hB'
  clear hB' hL' hK'
  replace a0 := Ha.out.1.at 0 _ rfl
  replace a1 := Ha.out.1.at 1 _ rfl
  replace a2 := Ha.out.1.at 2 _ rfl
  replace alt := Ha.out.1.lt
  replace b0 := Hb.out.1.at 0 _ rfl
  replace b1 := Hb.out.1.at 1 _ rfl
  replace b2 := Hb.out.1.at 2 _ rfl
  replace blt := Hb.out.1.lt
  go_wp2_with fail
  have hct := step_turn HB.out (by decide) (lru_Request_as HC.out (by omega) ⟨#[99]⟩ (r := .agg #[.bool false, .string ⟨#[98]⟩, .bool true]) (ks' := [⟨#[97]⟩, ⟨#[99]⟩]) (by kernel_rfl) (by decide +kernel))
  with_reducible refine hct.mono ?_
  clear hct
  rintro e x7 ⟨own7, rfl, hB', hL', hK'⟩
  replace Ha := hid (Ha.out.keep (hK' 2 (by decide)))
  replace Hb := hid (Hb.out.keep (hK' 3 (by decide)))
  replace HC := hid hL'
  replace HB := hid hB'
  clear hB' hL' hK'
  replace a0 := Ha.out.1.at 0 _ rfl
  replace a1 := Ha.out.1.at 1 _ rfl
  replace a2 := Ha.out.1.at 2 _ rfl
  replace alt := Ha.out.1.lt
  replace b0 := Hb.out.1.at 0 _ rfl
  replace b1 := Hb.out.1.at 1 _ rfl
  replace b2 := Hb.out.1.at 2 _ rfl
  replace blt := Hb.out.1.lt
  go_wp2_with fail
  obtain ⟨own8, hB', hL', hK'⟩ := home_alloc HB.out [.bool true, .string ⟨#[]⟩, .bool false] 27 4
  replace HC := hid (HC.out.keep (hK' 1))
  replace Ha := hid (Ha.out.keep (hK' 2))
  replace Hb := hid (Hb.out.keep (hK' 3))
  have Hd := hid hL'
  replace HB := hid hB'
  clear hB' hL' hK'
  have hsz_x8 : Hid ((x7.alloc (.cells [.bool true, .string ⟨#[]⟩, .bool false].toArray 27)).heap.size = x7.heap.size + 1) := hid (by simp)
  generalize x7.alloc (.cells [.bool true, .string ⟨#[]⟩, .bool false].toArray 27) = x8 at HB hsz_x8 HC Ha Hb Hd ⊢
  replace a0 := Ha.out.1.at 0 _ rfl
  replace a1 := Ha.out.1.at 1 _ rfl
  replace a2 := Ha.out.1.at 2 _ rfl
  replace alt := Ha.out.1.lt
  replace b0 := Hb.out.1.at 0 _ rfl
  replace b1 := Hb.out.1.at 1 _ rfl
  replace b2 := Hb.out.1.at 2 _ rfl
  replace blt := Hb.out.1.lt
  obtain ⟨own9, hB', hL', hK'⟩ := home_alloc HB.out [.bool false, .string ⟨#[98]⟩, .bool true] 27 5
  replace HC := hid (HC.out.keep (hK' 1))
  replace Ha := hid (Ha.out.keep (hK' 2))
  replace Hb := hid (Hb.out.keep (hK' 3))
  replace Hd := hid (Hd.out.keep (hK' 4))
  rw [hsz_x8.out] at hL'
  have He := hid hL'
  replace HB := hid hB'
  clear hB' hL' hK'
  have hsz_x9 : Hid ((x8.alloc (.cells [.bool false, .string ⟨#[98]⟩, .bool true].toArray 27)).heap.size = x7.heap.size + 2) := hid (by simp [hsz_x8.out])
  generalize x8.alloc (.cells [.bool false, .string ⟨#[98]⟩, .bool true].toArray 27) = x9 at HB hsz_x9 HC Ha Hb Hd He ⊢
  replace a0 := Ha.out.1.at 0 _ rfl
  replace a1 := Ha.out.1.at 1 _ rfl
  replace a2 := Ha.out.1.at 2 _ rfl
  replace alt := Ha.out.1.lt
  replace b0 := Hb.out.1.at 0 _ rfl
  replace b1 := Hb.out.1.at 1 _ rfl
  replace b2 := Hb.out.1.at 2 _ rfl
  replace blt := Hb.out.1.lt
  have d0 := Hd.out.1.at 0 _ rfl
  have d1 := Hd.out.1.at 1 _ rfl
  have d2 := Hd.out.1.at 2 _ rfl
  have dlt := Hd.out.1.lt
  have e0 := He.out.1.at 0 _ rfl
  have e1 := He.out.1.at 1 _ rfl
  have e2 := He.out.1.at 2 _ rfl
  have elt := He.out.1.lt
  go_wp2_with fail
  have hct := step_read HB.out (reads_as (lru_Victim HC.out) (r' := .tuple #[.string ⟨#[97]⟩, .bool true]) (by kernel_rfl))
  with_reducible refine hct.mono ?_
  clear hct
  rintro e x10 ⟨rfl, hB', hK'⟩
  replace HC := hid (HC.out.keep (hK' 1))
  replace Ha := hid (Ha.out.keep (hK' 2))
  replace Hb := hid (Hb.out.keep (hK' 3))
  replace Hd := hid (Hd.out.keep (hK' 4))
  replace He := hid (He.out.keep (hK' 5))
  replace HB := hid hB'
  clear hB' hK'
  replace a0 := Ha.out.1.at 0 _ rfl
  replace a1 := Ha.out.1.at 1 _ rfl
  replace a2 := Ha.out.1.at 2 _ rfl
  replace alt := Ha.out.1.lt
  replace b0 := Hb.out.1.at 0 _ rfl
  replace b1 := Hb.out.1.at 1 _ rfl
  replace b2 := Hb.out.1.at 2 _ rfl
  replace blt := Hb.out.1.lt
  replace d0 := Hd.out.1.at 0 _ rfl
  replace d1 := Hd.out.1.at 1 _ rfl
  replace d2 := Hd.out.1.at 2 _ rfl
  replace dlt := Hd.out.1.lt
  replace e0 := He.out.1.at 0 _ rfl
  replace e1 := He.out.1.at 1 _ rfl
  replace e2 := He.out.1.at 2 _ rfl
  replace elt := He.out.1.lt
  go_wp2_with fail
  have hct := step_turn HB.out (by decide) (lru_Adopt_as HC.out (by omega) ⟨#[120]⟩ (x := false) (ks' := [⟨#[97]⟩, ⟨#[99]⟩]) (by decide +kernel) (by decide +kernel))
  with_reducible refine hct.mono ?_
  clear hct
  rintro e x11 ⟨own11, rfl, hB', hL', hK'⟩
  replace Ha := hid (Ha.out.keep (hK' 2 (by decide)))
  replace Hb := hid (Hb.out.keep (hK' 3 (by decide)))
  replace Hd := hid (Hd.out.keep (hK' 4 (by decide)))
  replace He := hid (He.out.keep (hK' 5 (by decide)))
  replace HC := hid hL'
  replace HB := hid hB'
  clear hB' hL' hK'
  replace a0 := Ha.out.1.at 0 _ rfl
  replace a1 := Ha.out.1.at 1 _ rfl
  replace a2 := Ha.out.1.at 2 _ rfl
  replace alt := Ha.out.1.lt
  replace b0 := Hb.out.1.at 0 _ rfl
  replace b1 := Hb.out.1.at 1 _ rfl
  replace b2 := Hb.out.1.at 2 _ rfl
  replace blt := Hb.out.1.lt
  replace d0 := Hd.out.1.at 0 _ rfl
  replace d1 := Hd.out.1.at 1 _ rfl
  replace d2 := Hd.out.1.at 2 _ rfl
  replace dlt := Hd.out.1.lt
  replace e0 := He.out.1.at 0 _ rfl
  replace e1 := He.out.1.at 1 _ rfl
  replace e2 := He.out.1.at 2 _ rfl
  replace elt := He.out.1.lt
  go_wp2_with fail
  have hct := step_turn HB.out (by decide) (lru_Remove_as HC.out (by omega) ⟨#[97]⟩ (x := true) (ks' := [⟨#[99]⟩]) (by decide +kernel) (by decide +kernel))
  with_reducible refine hct.mono ?_
  clear hct
  rintro e x12 ⟨own12, rfl, hB', hL', hK'⟩
  replace Ha := hid (Ha.out.keep (hK' 2 (by decide)))
  replace Hb := hid (Hb.out.keep (hK' 3 (by decide)))
  replace Hd := hid (Hd.out.keep (hK' 4 (by decide)))
  replace He := hid (He.out.keep (hK' 5 (by decide)))
  replace HC := hid hL'
  replace HB := hid hB'
  clear hB' hL' hK'
  replace a0 := Ha.out.1.at 0 _ rfl
  replace a1 := Ha.out.1.at 1 _ rfl
  replace a2 := Ha.out.1.at 2 _ rfl
  replace alt := Ha.out.1.lt
  replace b0 := Hb.out.1.at 0 _ rfl
  replace b1 := Hb.out.1.at 1 _ rfl
  replace b2 := Hb.out.1.at 2 _ rfl
  replace blt := Hb.out.1.lt
  replace d0 := Hd.out.1.at 0 _ rfl
  replace d1 := Hd.out.1.at 1 _ rfl
  replace d2 := Hd.out.1.at 2 _ rfl
  replace dlt := Hd.out.1.lt
  replace e0 := He.out.1.at 0 _ rfl
  replace e1 := He.out.1.at 1 _ rfl
  replace e2 := He.out.1.at 2 _ rfl
  replace elt := He.out.1.lt
  go_wp2_with fail
  have hct := step_turn HB.out (by decide) (lru_Adopt_as HC.out (by omega) ⟨#[120]⟩ (x := true) (ks' := [⟨#[99]⟩, ⟨#[120]⟩]) (by decide +kernel) (by decide +kernel))
  with_reducible refine hct.mono ?_
  clear hct
  rintro e x13 ⟨own13, rfl, hB', hL', hK'⟩
  replace Ha := hid (Ha.out.keep (hK' 2 (by decide)))
  replace Hb := hid (Hb.out.keep (hK' 3 (by decide)))
  replace Hd := hid (Hd.out.keep (hK' 4 (by decide)))
  replace He := hid (He.out.keep (hK' 5 (by decide)))
  replace HC := hid hL'
  replace HB := hid hB'
  clear hB' hL' hK'
  replace a0 := Ha.out.1.at 0 _ rfl
  replace a1 := Ha.out.1.at 1 _ rfl
  replace a2 := Ha.out.1.at 2 _ rfl
  replace alt := Ha.out.1.lt
  replace b0 := Hb.out.1.at 0 _ rfl
  replace b1 := Hb.out.1.at 1 _ rfl
  replace b2 := Hb.out.1.at 2 _ rfl
  replace blt := Hb.out.1.lt
  replace d0 := Hd.out.1.at 0 _ rfl
  replace d1 := Hd.out.1.at 1 _ rfl
  replace d2 := Hd.out.1.at 2 _ rfl
  replace dlt := Hd.out.1.lt
  replace e0 := He.out.1.at 0 _ rfl
  replace e1 := He.out.1.at 1 _ rfl
  replace e2 := He.out.1.at 2 _ rfl
  replace elt := He.out.1.lt
  clear a0 a1 a2 alt
  clear b0 b1 b2 blt
  clear d0 d1 d2 dlt
  clear e0 e1 e2 elt
  go_wp2_with fail
  have hct := step_make HB.out 6 (lru_Keys HC.out (by omega))
  with_reducible refine hct.mono ?_
  clear hct
  rintro e x14 ⟨v1, own14, rfl, hB', hL', hK'⟩
  replace HC := hid (HC.out.keep (hK' 1))
  replace Ha := hid (Ha.out.keep (hK' 2))
  replace Hb := hid (Hb.out.keep (hK' 3))
  replace Hd := hid (Hd.out.keep (hK' 4))
  replace He := hid (He.out.keep (hK' 5))
  have HV := hid hL'
  replace HB := hid hB'
  clear hB' hL' hK'
  go_wp2_with fail
  obtain ⟨own15, hB', hL', hK'⟩ := home_alloc HB.out [.string ⟨#[99]⟩, .string ⟨#[120]⟩] 9 7
  replace HC := hid (HC.out.keep (hK' 1))
  replace Ha := hid (Ha.out.keep (hK' 2))
  replace Hb := hid (Hb.out.keep (hK' 3))
  replace Hd := hid (Hd.out.keep (hK' 4))
  replace He := hid (He.out.keep (hK' 5))
  replace HV := hid (HV.out.keep (hK' 6))
  have HT := hid hL'
  replace HB := hid hB'
  clear hB' hL' hK'
  have hsz_x15 : Hid ((x14.alloc (.cells [.string ⟨#[99]⟩, .string ⟨#[120]⟩].toArray 9)).heap.size = x14.heap.size + 1) := hid (by simp)
  generalize x14.alloc (.cells [.string ⟨#[99]⟩, .string ⟨#[120]⟩].toArray 9) = x15 at HB hsz_x15 HC Ha Hb Hd He HV HT ⊢
  go_wp2_with fail
  have hct := step_read HB.out (w_Same HV.out.strs' (HT.out.strs (n := 2) [⟨#[99]⟩, ⟨#[120]⟩] rfl rfl (by decide)) (x := true) (by decide +kernel))
  with_reducible refine hct.mono ?_
  clear hct
  rintro e x16 ⟨rfl, hB', hK'⟩
  replace HC := hid (HC.out.keep (hK' 1))
  replace Ha := hid (Ha.out.keep (hK' 2))
  replace Hb := hid (Hb.out.keep (hK' 3))
  replace Hd := hid (Hd.out.keep (hK' 4))
  replace He := hid (He.out.keep (hK' 5))
  replace HV := hid (HV.out.keep (hK' 6))
  replace HT := hid (HT.out.keep (hK' 7))
  replace HB := hid hB'
  clear hB' hK'
  go_wp2_with fail
  have hct := (lru_Len HC.out)
  with_reducible refine hct.mono ?_
  clear hct
  rintro e w' ⟨rfl, rfl⟩
  go_wp2_with fail
  have hct := (lru_Has_as HC.out ⟨#[99]⟩ (x := true) (by decide +kernel))
  with_reducible refine hct.mono ?_
  clear hct
  rintro e w' ⟨rfl, rfl⟩
  go_wp2_with fail
  have hct := step_turnmake HB.out (by decide) 8 (lru_Resize_as HC.out (by omega) 1 (by decide) (m' := 1) (ks' := [⟨#[120]⟩]) (out := [⟨#[99]⟩]) (by decide) (by decide +kernel) (by decide +kernel))
  with_reducible refine hct.mono ?_
  clear hct
  rintro e x19 ⟨v2, own19, rfl, hB', hL', hN', hK'⟩
  replace Ha := hid (Ha.out.keep (hK' 2 (by decide)))
  replace Hb := hid (Hb.out.keep (hK' 3 (by decide)))
  replace Hd := hid (Hd.out.keep (hK' 4 (by decide)))
  replace He := hid (He.out.keep (hK' 5 (by decide)))
  replace HV := hid (HV.out.keep (hK' 6 (by decide)))
  replace HT := hid (HT.out.keep (hK' 7 (by decide)))
  replace HC := hid hL'
  have HW := hid hN'
  replace HB := hid hB'
  clear hB' hL' hN' hK'
  go_wp2_with fail
  obtain ⟨own20, hB', hL', hK'⟩ := home_alloc HB.out [.string ⟨#[99]⟩] 9 9
  replace HC := hid (HC.out.keep (hK' 1))
  replace Ha := hid (Ha.out.keep (hK' 2))
  replace Hb := hid (Hb.out.keep (hK' 3))
  replace Hd := hid (Hd.out.keep (hK' 4))
  replace He := hid (He.out.keep (hK' 5))
  replace HV := hid (HV.out.keep (hK' 6))
  replace HT := hid (HT.out.keep (hK' 7))
  replace HW := hid (HW.out.keep (hK' 8))
  have HU := hid hL'
  replace HB := hid hB'
  clear hB' hL' hK'
  have hsz_x20 : Hid ((x19.alloc (.cells [.string ⟨#[99]⟩].toArray 9)).heap.size = x19.heap.size + 1) := hid (by simp)
  generalize x19.alloc (.cells [.string ⟨#[99]⟩].toArray 9) = x20 at HB hsz_x20 HC Ha Hb Hd He HV HT HW HU ⊢
  go_wp2_with fail
  have hct := step_read HB.out (w_Same HW.out.strs' (HU.out.strs (n := 1) [⟨#[99]⟩] rfl rfl (by decide)) (x := true) (by decide +kernel))
  with_reducible refine hct.mono ?_
  clear hct
  rintro e x21 ⟨rfl, hB', hK'⟩
  replace HC := hid (HC.out.keep (hK' 1))
  replace Ha := hid (Ha.out.keep (hK' 2))
  replace Hb := hid (Hb.out.keep (hK' 3))
  replace Hd := hid (Hd.out.keep (hK' 4))
  replace He := hid (He.out.keep (hK' 5))
  replace HV := hid (HV.out.keep (hK' 6))
  replace HT := hid (HT.out.keep (hK' 7))
  replace HW := hid (HW.out.keep (hK' 8))
  replace HU := hid (HU.out.keep (hK' 9))
  replace HB := hid hB'
  clear hB' hK'
  go_wp2_with fail
  with_reducible refine ((lru_Ghosts)).mono ?_
  rintro e w' ⟨rfl, rfl⟩
  go_wp2
  go_ret
  exact ⟨rfl, HB.out.nil⟩
end Go.Proofs.Ytjijjfdkghcjkaa
