/- Package lru: what a cache is in memory; what each of its calls does to its residents. -/
import Derived.Test.YtjijjfdkghcjkaaRev
import Derived.Deep.QuietTactic
import Derived.BigQuiet
import Derived.Deep.DeepCutAuto
set_option linter.unusedVariables false
namespace Go.Proofs.Ytjijjfdkghcjkaa
open Go.RowKit Go.MapKept

/-- Block b is a cache of these residents, those that go first ahead. -/
def LruAt (w : World) (S : Nat → Prop) (b : Nat) (most : Int) (ks : List ByteArray) (n : Nat) : Prop :=
  ∃ own lb, Owned S own 2 ∧ BlkAt w (fun k => own k = 1) b [.int .i64 most, .pointer (some ⟨lb, 0, none⟩)] 78 ∧ LL w (fun k => own k = 2) lb ks.reverse n

section
variable {w w' : World} {S S' : Nat → Prop} {b n : Nat} {most : Int} {ks : List ByteArray}
theorem LruAt.move (h : LruAt w S b most ks n) (hz : w.heap.size ≤ w'.heap.size) (hs : ∀ k, k < w.heap.size → S k → S' k ∧ w'.heap[k]? = w.heap[k]?) : LruAt w' S' b most ks n := by
  obtain ⟨own, lb, hO, hC, hL⟩ := h
  obtain ⟨hO', hK⟩ := hO.move hs hz
  exact ⟨_, lb, hO', hC.keep (hK 1 (by decide)), hL.keep (hK 2 (by decide))⟩
instance {b n : Nat} {most : Int} {ks : List ByteArray} : Mov (fun w S => LruAt w S b most ks n) := ⟨fun h hz hs => h.move hz hs⟩
theorem LruAt.keep {own own' : Nat → Nat} {c : Nat} (h : LruAt w (fun k => own k = c) b most ks n) (K : Keeps w w' own own' c) : LruAt w' (fun k => own' k = c) b most ks n := h.move K.size K.block
theorem LruAt.uniq (h : LruAt w S b most ks n) : ks.Nodup := by
  obtain ⟨own, lb, hO, hC, hL⟩ := h; exact nodup_reverse.1 hL.uniq
theorem LruAt.le (h : LruAt w S b most ks n) : ks.length ≤ n := by
  obtain ⟨own, lb, hO, hC, hL⟩ := h; have := hL.le; simpa using this
theorem LruAt.up (h : LruAt w S b most ks n) {m : Nat} (hm : n ≤ m) : LruAt w S b most ks m := by
  obtain ⟨own, lb, hO, hC, hL⟩ := h; exact ⟨own, lb, hO, hC, hL.up hm⟩

theorem lru_New (most : Int) (hm : -9223372036854775808 ≤ most ∧ most ≤ 9223372036854775807) : Calls Try.prog 15 #[.int .i64 most] w (MakesP w fun b w S => LruAt w S b (max most 0) [] 0) := by
  have HB := hid (Home.start none0 w)
  by_cases h0 : most < 0
  · rw [show max most 0 = 0 by omega]
    go_enter Try.func15, Try.ntmps15
    go_wp2_with fail
    have hct := step_makep HB.out 2 (w_New)
    with_reducible refine hct.mono ?_
    clear hct
    rintro e x1 ⟨lb, own1, rfl, hB', hL', hK'⟩
    have HL := hid hL'
    replace HB := hid hB'
    clear hB' hL' hK'
    go_wp2_with fail
    obtain ⟨own2, hB', hL', hK'⟩ := home_alloc HB.out [.int .i64 0, .pointer (some ⟨lb, 0, none⟩)] 78 1
    replace HL := hid (HL.out.keep (hK' 2))
    have HC := hid hL'
    replace HB := hid hB'
    clear hB' hL' hK'
    have hsz_x2 : Hid ((x1.alloc (.cells [.int .i64 0, .pointer (some ⟨lb, 0, none⟩)].toArray 78)).heap.size = x1.heap.size + 1) := hid (by simp)
    generalize x1.alloc (.cells [.int .i64 0, .pointer (some ⟨lb, 0, none⟩)].toArray 78) = x2 at HB hsz_x2 HL HC ⊢
    go_ret
    exact ⟨_, rfl, HB.out.nil, Mov.mono (R := fun w S => LruAt w S _ 0 [] 0) ⟨lim own2 2, lb, lim_owned own2 2, HC.out.keep (Keeps.lim _ _ (by decide)), HL.out.keep (Keeps.lim _ _ (by decide))⟩ fun k q => HB.out.newLim k (by unfold lim at q; split at q <;> omega)⟩
  · rw [show max most 0 = most by omega]
    go_enter Try.func15, Try.ntmps15
    go_wp2_with fail
    have hct := step_makep HB.out 2 (w_New)
    with_reducible refine hct.mono ?_
    clear hct
    rintro e x1 ⟨lb, own1, rfl, hB', hL', hK'⟩
    have HL := hid hL'
    replace HB := hid hB'
    clear hB' hL' hK'
    go_wp2_with fail
    obtain ⟨own2, hB', hL', hK'⟩ := home_alloc HB.out [.int .i64 most, .pointer (some ⟨lb, 0, none⟩)] 78 1
    replace HL := hid (HL.out.keep (hK' 2))
    have HC := hid hL'
    replace HB := hid hB'
    clear hB' hL' hK'
    have hsz_x2 : Hid ((x1.alloc (.cells [.int .i64 most, .pointer (some ⟨lb, 0, none⟩)].toArray 78)).heap.size = x1.heap.size + 1) := hid (by simp)
    generalize x1.alloc (.cells [.int .i64 most, .pointer (some ⟨lb, 0, none⟩)].toArray 78) = x2 at HB hsz_x2 HL HC ⊢
    go_ret
    exact ⟨_, rfl, HB.out.nil, Mov.mono (R := fun w S => LruAt w S _ most [] 0) ⟨lim own2 2, lb, lim_owned own2 2, HC.out.keep (Keeps.lim _ _ (by decide)), HL.out.keep (Keeps.lim _ _ (by decide))⟩ fun k q => HB.out.newLim k (by unfold lim at q; split at q <;> omega)⟩

theorem lru_Has (h : LruAt w S b most ks n) (key : ByteArray) : Calls Try.prog 18 #[.pointer (some ⟨b, 0, none⟩), .string key] w fun e w' => e = .returned (.bool (decide (key ∈ ks))) ∧ w = w' := by
  obtain ⟨own, lb, hO, hC, hL⟩ := h
  have c1 := hC.1.at 1 _ rfl
  have hq := w_Has hL key
  rw [show decide (key ∈ ks.reverse) = decide (key ∈ ks) by simp] at hq
  have HL := hid hq
  clear hC hL hq
  go_enter Try.func18, Try.ntmps18
  go_wp2_with fail
  have hct := (HL.out)
  with_reducible refine hct.mono ?_
  clear hct
  rintro e w' ⟨rfl, rfl⟩
  go_wp2
  go_ret
  exact ⟨rfl, rfl⟩

theorem lru_Len (h : LruAt w S b most ks n) : Calls Try.prog 17 #[.pointer (some ⟨b, 0, none⟩)] w fun e w' => e = .returned (.int .i64 ks.length) ∧ w = w' := by
  obtain ⟨own, lb, hO, hC, hL⟩ := h
  have c1 := hC.1.at 1 _ rfl
  have hq := w_Len hL
  rw [List.length_reverse] at hq
  have HL := hid hq
  clear hC hL hq
  go_enter Try.func17, Try.ntmps17
  go_wp2_with fail
  have hct := (HL.out)
  with_reducible refine hct.mono ?_
  clear hct
  rintro e w' ⟨rfl, rfl⟩
  go_wp2
  go_ret
  exact ⟨rfl, rfl⟩

theorem lru_Ghosts : Calls Try.prog 34 #[.pointer (some ⟨b, 0, none⟩)] w fun e w' => e = .returned (.slice none 0 0) ∧ w = w' := by
  go_enter Try.func34, Try.ntmps34
  go_wp2
  go_ret
  exact ⟨rfl, rfl⟩

/-- Who would go. -/
def headV (ks : List ByteArray) : Value := .tuple #[.string (ks.head?.getD ⟨#[]⟩), .bool (decide (0 < ks.length))]

theorem lru_Victim (h : LruAt w S b most ks n) : Calls Try.prog 33 #[.pointer (some ⟨b, 0, none⟩)] w (Reads w (headV ks)) := by
  obtain ⟨own, lb, hO, hC, hL⟩ := h
  have c1 := hC.1.at 1 _ rfl
  have hq := w_Last hL
  rw [List.length_reverse, head_getD_reverse] at hq
  have HL := hid hq
  clear hC hL hq
  unfold headV
  generalize ks.head?.getD ⟨#[]⟩ = x at *
  generalize decide (0 < ks.length) = y at *
  go_enter Try.func33, Try.ntmps33
  go_wp2_with fail
  have hct := (HL.out)
  with_reducible refine hct.mono ?_
  clear hct
  rintro e w' ⟨rfl, nq, rfl⟩
  go_wp2
  go_ret2
  exact ⟨rfl, nq, rfl⟩

theorem lru_Drop (h : LruAt w S b most ks n) (hb : n ≤ 1000000000) : Calls Try.prog 31 #[.pointer (some ⟨b, 0, none⟩)] w (After S w (headV ks) fun w S => LruAt w S b most ks.tail n) := by
  obtain ⟨own, lb, hO, hC, hL⟩ := h
  have hq := w_Pop hL hb
  rw [List.length_reverse, head_getD_reverse, dropLast_reverse] at hq
  unfold headV
  have HB := hid (Home.start own w)
  have HC := hid hC; have HL := hid hL; have HQ := hid hq
  clear hC hL hq
  generalize ks.head?.getD ⟨#[]⟩ = x at *
  generalize decide (0 < ks.length) = y at *
  have c1 := HC.out.1.at 1 _ rfl
  go_enter Try.func31, Try.ntmps31
  go_wp2_with fail
  have hct := step_turn HB.out (by decide) (HQ.out)
  with_reducible refine hct.mono ?_
  clear hct
  rintro e x1 ⟨own1, rfl, hB', hL', hK'⟩
  replace HC := hid (HC.out.keep (hK' 1 (by decide)))
  replace HL := hid hL'
  replace HB := hid hB'
  clear hB' hL' hK'
  replace c1 := HC.out.1.at 1 _ rfl
  go_wp2
  go_ret2
  exact ⟨rfl, HB.out.mod hO.has, _, HB.out.leftLim hO.has 2, lim own1 2, lb, lim_owned own1 2, HC.out.keep (Keeps.lim _ _ (by decide)), HL.out.keep (Keeps.lim _ _ (by decide))⟩

theorem lru_Remove (h : LruAt w S b most ks n) (hb : n ≤ 1000000000) (key : ByteArray) : Calls Try.prog 28 #[.pointer (some ⟨b, 0, none⟩), .string key] w (After S w (.bool (decide (key ∈ ks))) fun w S => LruAt w S b most (rm ks key) n) := by
  obtain ⟨own, lb, hO, hC, hL⟩ := h
  have hq := w_Remove hL hb key
  rw [rm_reverse, show decide (key ∈ ks.reverse) = decide (key ∈ ks) by simp] at hq
  have HB := hid (Home.start own w)
  have HC := hid hC; have HL := hid hL; have HQ := hid hq
  clear hC hL hq
  have c1 := HC.out.1.at 1 _ rfl
  go_enter Try.func28, Try.ntmps28
  go_wp2_with fail
  have hct := step_turn HB.out (by decide) (HQ.out)
  with_reducible refine hct.mono ?_
  clear hct
  rintro e x1 ⟨own1, rfl, hB', hL', hK'⟩
  replace HC := hid (HC.out.keep (hK' 1 (by decide)))
  replace HL := hid hL'
  replace HB := hid hB'
  clear hB' hL' hK'
  replace c1 := HC.out.1.at 1 _ rfl
  go_wp2
  go_ret
  exact ⟨rfl, HB.out.mod hO.has, _, HB.out.leftLim hO.has 2, lim own1 2, lb, lim_owned own1 2, HC.out.keep (Keeps.lim _ _ (by decide)), HL.out.keep (Keeps.lim _ _ (by decide))⟩

theorem lru_Keys (h : LruAt w S b most ks n) (hb : n ≤ 1000000000) : Calls Try.prog 19 #[.pointer (some ⟨b, 0, none⟩)] w (Makes w fun v w S => Row w S 9 1 v ks.length (ks.map Value.string)) := by
  have hle := h.le
  obtain ⟨own, lb, hO, hC, hL⟩ := h
  have c1 := hC.1.at 1 _ rfl
  have hq := w_Keys hL hb
  have HB := hid (Home.start none0 w)
  have HQ := hid hq
  clear hC hL hq
  go_enter Try.func19, Try.ntmps19
  go_wp2_with fail
  have hct := step_make HB.out 3 (HQ.out)
  with_reducible refine hct.mono ?_
  clear hct
  rintro e x1 ⟨v, own1, rfl, hB', hL', hK'⟩
  have HR := hid hL'
  replace HB := hid hB'
  clear hB' hL' hK'
  have hq : Calls Try.prog 65 #[v] x1 (After (fun k => own1 k = 3) x1 (.tuple #[]) fun w S => Row w S 9 1 v ks.length (ks.map Value.string)) := by
    have := w_Reverse HR.out (by simp; omega)
    rwa [List.reverse_reverse] at this
  have HQ2 := hid hq
  clear hq
  go_wp2_with fail
  have hct := step_turn HB.out (by decide) (HQ2.out)
  with_reducible refine hct.mono ?_
  clear hct
  rintro e x2 ⟨own2, rfl, hB', hL', hK'⟩
  replace HR := hid hL'
  replace HB := hid hB'
  clear hB' hL' hK'
  go_wp2
  go_ret
  exact ⟨_, rfl, HB.out.nil, HR.out.mono fun k _ q => HB.out.newLim k (by omega)⟩
end
end Go.Proofs.Ytjijjfdkghcjkaa
