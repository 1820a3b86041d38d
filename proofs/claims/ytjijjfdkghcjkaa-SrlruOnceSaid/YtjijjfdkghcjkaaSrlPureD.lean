/- Package srlru: what the statements on rows of keys want. -/
import Derived.Test.YtjijjfdkghcjkaaSrlPureC
set_option linter.unusedVariables false
namespace Go.Proofs.Ytjijjfdkghcjkaa
variable {most target : Int} {ns cs gs L rw : LB} {ms : Mks} {key : ByteArray}

/-- The last m of a row, from the last one on. -/
def lastRev (m : Int) (rw : LB) : LB := (rw.drop (rw.length - m.toNat)).reverse
theorem lastRev_length {m : Int} (h : 0 ≤ m) (rw : LB) : ((lastRev m rw).length : Int) = min (rw.length : Int) m := by
  unfold lastRev; rw [List.length_reverse, List.length_drop]; omega
theorem lastRev_push_room {m : Int} (h : (rw.length : Int) < m) (key : ByteArray) : lastRev m (rw ++ [key]) = key :: lastRev m rw := by
  unfold lastRev
  rw [show (rw ++ [key]).length - m.toNat = 0 by simp; omega, show rw.length - m.toNat = 0 by omega]
  simp
theorem lastRev_push_full {m : Int} (h1 : 1 ≤ m) (h : m ≤ (rw.length : Int)) (key : ByteArray) : lastRev m (rw ++ [key]) = key :: (lastRev m rw).dropLast ∧ lastOf (lastRev m rw) = rw.getD (rw.length - m.toNat) ⟨#[]⟩ := by
  unfold lastRev
  obtain ⟨i, hi⟩ : ∃ i, rw.length - m.toNat = i := ⟨_, rfl⟩
  have hlt : i < rw.length := by omega
  rw [show (rw ++ [key]).length - m.toNat = i + 1 by simp; omega, hi]
  constructor
  · rw [List.drop_append_of_le_length (by omega), List.reverse_append, List.drop_eq_getElem_cons hlt, List.reverse_cons (a := rw[i]), List.dropLast_concat]
    rfl
  · rw [List.drop_eq_getElem_cons hlt, List.reverse_cons]
    simp [lastOf, hlt]
/-- Keys asked for once each: one more. -/
structure OnceI (m t : Int) (rw ns cs gs : LB) (ms : Mks) : Prop where
  i : SrlI m t ns cs gs ms
  row : ns = lastRev m rw
  no : cs = []
  half : t = m / 2
  told : ∀ k, (lk ms k).isSome = true → k ∈ rw
theorem OnceI.new {m : Int} (h : 0 ≤ m) : OnceI m (m / 2) [] [] [] [] [] := ⟨SrlI.new h, by simp [lastRev], rfl, rfl, fun k q => by simp [lk] at q⟩
theorem OnceI.step {m t : Int} (h : OnceI m t rw ns cs gs ms) (hm : 1 ≤ m) (hk : key ∉ rw) {x} (hx : srlReq m t ns cs gs ms key = x) :
    OnceI m x.1 (rw ++ [key]) x.2.1 x.2.2.1 x.2.2.2.1 x.2.2.2.2.1 ∧ x.2.2.2.2.2.1 = false ∧ x.2.2.2.2.2.2.2 = decide (((rw ++ [key]).length : Int) > m) ∧
    (x.2.2.2.2.2.2.2 = true → x.2.2.2.2.2.2.1 = (rw ++ [key]).getD (rw.length - m.toNat) ⟨#[]⟩ ∧ m ≤ (rw.length : Int)) := by
  have hn : lk ms key = none := by
    cases e : lk ms key with
    | none => rfl
    | some v => exact absurd (h.told key (by rw [e]; rfl)) hk
  obtain ⟨f1, f2, f3, f4⟩ := h.i.fresh (by omega) hn hx
  have r := (h.i.req key hx).1
  obtain rfl := h.no
  have hl := lastRev_length (show 0 ≤ m by omega) rw
  rw [← h.row] at hl
  have ht : ∀ k, (lk x.2.2.2.2.1 k).isSome = true → k ∈ rw ++ [key] := fun k q => (f3 k q).elim (fun e => by simp [e]) fun e => List.mem_append_left _ (h.told k e)
  simp only [List.nil_append, List.length_append, List.length_singleton] at f4 ⊢
  by_cases hf : (ns.length : Int) < m
  · rw [if_pos hf] at f4
    obtain ⟨g1, g2, g3⟩ := f4
    refine ⟨⟨r, by rw [g1, lastRev_push_room (by omega), h.row], g2, f1.trans h.half, ht⟩, f2, by rw [g3, decide_eq_false (by omega)], fun q => by rw [g3] at q; cases q⟩
  · rw [if_neg hf] at f4
    obtain ⟨g1, g2, g3⟩ := f4
    obtain ⟨p1, p2⟩ := lastRev_push_full (m := m) hm (rw := rw) (by omega) key
    have hN : srlN ns = ns.dropLast := by unfold srlN; rw [if_pos (by omega)]
    have hC : srlC ns [] = ([] : LB) := by unfold srlC; split <;> rfl
    refine ⟨⟨r, by rw [g1, p1, hN, h.row], by rw [g2, hC], f1.trans h.half, ht⟩, f2, by rw [g3, decide_eq_true (by omega)], fun _ => ⟨?_, by omega⟩⟩
    rw [g3]
    show lastOf ns = _
    rw [h.row, p2, List.getD_eq_getElem?_getD, List.getD_eq_getElem?_getD, List.getElem?_append_left (by omega)]
theorem OnceI.keys {m t : Int} (h : OnceI m t rw ns cs gs ms) : (cs ++ ns).reverse = rw.drop (rw.length - m.toNat) := by
  obtain rfl := h.no
  rw [h.row]; unfold lastRev; simp
end Go.Proofs.Ytjijjfdkghcjkaa
