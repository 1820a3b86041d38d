/- Package arc: what the statements on rows of keys want. -/
import Derived.Test.YtnijaeipkbpibaaArcPureB
set_option linter.unusedVariables false
namespace Go.Proofs.Ytnijaeipkbpibaa
variable {most p : Int} {t1 t2 b1 b2 rw : LB} {key : ByteArray}

/-- Keys asked for once each. -/
structure AOnce (m p : Int) (rw t1 t2 b1 b2 : LB) : Prop where
  row : t1 = lastRev m rw
  e2 : t2 = []
  e3 : b1 = []
  e4 : b2 = []
  share : p = 0
theorem AOnce.new {m : Int} : AOnce m 0 [] [] [] [] [] := ⟨by simp [lastRev], rfl, rfl, rfl, rfl⟩
theorem AOnce.step {m p : Int} (h : AOnce m p rw t1 t2 b1 b2) (hm : 1 ≤ m) (hk : key ∉ rw) {x} (hx : arcReq m p t1 t2 b1 b2 key = x) :
    AOnce m x.1 (rw ++ [key]) x.2.1 x.2.2.1 x.2.2.2.1 x.2.2.2.2.1 ∧ x.2.2.2.2.2.1 = false ∧ x.2.2.2.2.2.2.2 = decide (((rw ++ [key]).length : Int) > m) ∧
    (x.2.2.2.2.2.2.2 = true → x.2.2.2.2.2.2.1 = (rw ++ [key]).getD (rw.length - m.toNat) ⟨#[]⟩ ∧ m ≤ (rw.length : Int)) := by
  obtain ⟨rfl, rfl, rfl, rfl, rfl⟩ := h
  have hk1 : key ∉ lastRev m rw := fun q => hk (lastRev_mem q)
  have hl := lastRev_length (show 0 ≤ m by omega) rw
  rw [arcReq_new (by omega) hk1 (by simp) (by simp) (by simp) rfl] at hx
  have e2 : arcAll2 m 0 (lastRev m rw) [] [] [] = ((lastRev m rw).length : Int) := by unfold arcAll2; simp
  have e4 : arcAll4 m 0 (lastRev m rw) [] [] [] = ((lastRev m rw).length : Int) := by unfold arcAll4; simp
  unfold arcFresh at hx
  rw [e2, e4] at hx
  simp only [List.length_append, List.length_singleton]
  by_cases hf : (rw.length : Int) < m
  · rw [if_neg (by omega), if_neg (by omega), if_pos (by omega)] at hx
    subst hx
    refine ⟨⟨?_, rfl, rfl, rfl, rfl⟩, rfl, (decide_eq_false (by omega)).symm, fun q => by simp at q⟩
    dsimp only; rw [fr_not hk1, lastRev_push_room hf]
  · obtain ⟨p1, p2⟩ := lastRev_push_full (m := m) hm (rw := rw) (by omega) key
    have h0 : 0 < (lastRev m rw).length := by omega
    rw [if_pos (by omega), if_pos (by omega), decide_eq_true h0] at hx
    subst hx
    refine ⟨⟨?_, rfl, rfl, rfl, rfl⟩, rfl, (decide_eq_true (by omega)).symm, fun _ => ⟨?_, by omega⟩⟩
    · dsimp only; rw [fr_not (fun q => hk1 (mem_dl q)), p1]
    · show lastOf (lastRev m rw) = _
      rw [p2, List.getD_eq_getElem?_getD, List.getD_eq_getElem?_getD, List.getElem?_append_left (by omega)]
theorem AOnce.keys {m p : Int} (h : AOnce m p rw t1 t2 b1 b2) : t1.reverse ++ t2.reverse = rw.drop (rw.length - m.toNat) := by
  obtain ⟨rfl, rfl, rfl, rfl, rfl⟩ := h
  unfold lastRev; simp
end Go.Proofs.Ytnijaeipkbpibaa
