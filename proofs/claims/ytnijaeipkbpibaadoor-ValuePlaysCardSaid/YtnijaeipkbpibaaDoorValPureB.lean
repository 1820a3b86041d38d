/- Package value: what was put. -/
import Derived.Test.YtnijaeipkbpibaaDoorValPure
import Derived.Test.YtnijaeipkbpibaaDoorActsV
set_option linter.unusedVariables false
namespace Go.Proofs.YtnijaeipkbpibaaDoor
open Go.RowKit Go.MapKept
/-- A store behind j calls, loosely. -/
structure VL (M : List (ByteArray × It)) (bys : Int) (j : Nat) : Prop where
  it : ItB M
  nd : (M.map (·.1)).Nodup
  b0 : -(320 * (j : Int)) ≤ bys
  b1 : bys ≤ 320 * (j : Int)
theorem VL.new : VL [] 0 0 := ⟨ItB_nil, by simp, by omega, by omega⟩
variable {M : List (ByteArray × It)} {S : List (KR ByteArray)} {bys d n : Int} {j : Nat} {k v z : ByteArray}
theorem VL.up (h : VL M bys j) : VL M bys (j + 1) := ⟨h.it, h.nd, by have := h.b0; omega, by have := h.b1; omega⟩
theorem valPut_1 : (valPut M S bys k v d).1 = put (valDel M S bys k).1 k (k, v, d) := by unfold valPut; split <;> rfl
theorem valPut_3 : (valPut M S bys k v d).2.2 = (valDel M S bys k).2.2.1 + ((k.size : Int) + (v.size : Int)) := by unfold valPut; split <;> rfl
theorem valDel_1 : (valDel M S bys k).1 = del M k := by
  unfold valDel; split
  · rfl
  · rename_i h; exact (del_none (by simpa using h)).symm
theorem VL.put (h : VL M bys j) (hr : rightC k v d = 0) : VL (valPut M S bys k v d).1 (valPut M S bys k v d).2.2 (j + 1) := by
  obtain ⟨r0, r1, r2, r3⟩ := rightC_ok hr
  have hb := valDel_by (S := S) (bys := bys) h.it k
  have h0 := h.b0; have h1 := h.b1
  refine ⟨fun y hy => ?_, ?_, by rw [valPut_3]; omega, by rw [valPut_3]; omega⟩
  · rw [valPut_1, valDel_1] at hy
    rcases mem_put hy with e | e
    · subst e; exact ⟨rfl, r1, r2⟩
    · exact h.it y (mem_del e)
  · rw [valPut_1, valDel_1]; exact nodup_put (nodup_del h.nd _) _ _
theorem valPut_lk : lk (valPut M S bys k v d).1 k = some (k, v, d) := by rw [valPut_1]; exact lk_put_same _ _ _
theorem valPut_ne (h : z ≠ k) : lk (valPut M S bys k v d).1 z = lk M z := by rw [valPut_1, lk_put_other _ _ h, valDel_1, lk_del_ne h]
theorem getOk_of (h : lk M k = some (k, v, d)) : getOk M k n ↔ (d ≤ 0 ∨ n < d) := by
  unfold getOk; rw [h]; simp
theorem getOk_congr {M' : List (ByteArray × It)} (h : lk M' z = lk M z) : getOk M' z n ↔ getOk M z n := by
  unfold getOk; rw [h]
theorem getOk_del (h : (M.map (·.1)).Nodup) : ¬ getOk (del M k) k n := by
  unfold getOk; rw [lk_del h, if_pos rfl]; simp
theorem take_succ_all {α : Type} {xs : List α} {k : Nat} {y : α} {p : α → Prop} (h : xs[k]? = some y) (hall : ∀ x ∈ xs.take k, p x) (hy : p y) : ∀ x ∈ xs.take (k + 1), p x := by
  intro x hx
  rw [List.take_add_one, h] at hx
  rcases List.mem_append.1 hx with q | q
  · exact hall x q
  · simp at q; subst q; exact hy
/-- Few calls. -/
def few5 (xs : List Act5) : Prop := xs.length ≤ 150
theorem range_sub {w : World} {g o : Nat} {cs : List Value} (h : w.rangeAt g o cs) (i n : Nat) : w.rangeAt g (o + i) ((cs.drop i).take n) := fun j v hj => by
  rw [List.getElem?_take] at hj
  split at hj
  · rw [List.getElem?_drop] at hj
    have := h (i + j) v hj
    rwa [← Nat.add_assoc] at this
  · cases hj
end Go.Proofs.YtnijaeipkbpibaaDoor
