/- Package srlru: what the statements on rows of keys want. -/
import Derived.Test.YtjijjfdkghcjkaaSrlPureC
set_option linter.unusedVariables false
namespace Go.Proofs.Ytjijjfdkghcjkaa
variable {most target : Int} {ns cs gs L rw : LB} {ms : Mks} {key : ByteArray}

/-- The last m of a row, from the last one on. -/
def lastRev (m : Int) (rw : LB) : LB := (rw.drop (rw.length - m.toNat)).reverse
theorem lastRev_length {m : Int} (h : 0 ≤ m) (rw : LB) : ((lastRev m rw).length : Int) = min (rw.length : Int) m := by
  unfold lastRev; rw [List.length_reverse, List.length_drop]; omega
theorem lastRev_push_room {m : Int} (h : (rw.length : Int) < m) (key : ByteArray) : lastRev m (rw ++ [key]) = key :: lastRev m rw := by
  unfold lastRev
  rw [show (rw ++ [key]).length - m.toNat = 0 by simp; omega, show rw.length - m.toNat = 0 by omega]
  simp
theorem lastRev_push_full {m : Int} (h1 : 1 ≤ m) (h : m ≤ (rw.length : Int)) (key : ByteArray) : lastRev m (rw ++ [key]) = key :: (lastRev m rw).dropLast ∧ lastOf (lastRev m rw) = rw.getD (rw.length - m.toNat) ⟨#[]⟩ := by
  unfold lastRev
  obtain ⟨i, hi⟩ : ∃ i, rw.length - m.toNat = i := ⟨_, rfl⟩
  have hlt : i < rw.length := by omega
  rw [show (rw ++ [key]).length - m.toNat = i + 1 by simp; omega, hi]
  constructor
  · rw [List.drop_append_of_le_length (by omega), List.reverse_append, List.drop_eq_getElem_cons hlt, List.reverse_cons (a := rw[i]), List.dropLast_concat]
    rfl
  · rw [List.drop_eq_getElem_cons hlt, List.reverse_cons]
    simp [lastOf, hlt]
/-- Keys asked for once each: one more. -/
structure OnceI (m t : Int) (rw ns cs gs : LB) (ms : Mks) : Prop where
  i : SrlI m t ns cs gs ms
  row : ns = lastRev m rw
  no : cs = []
  half : t = m / 2
  told : ∀ k, (lk ms k).isSome = true → k ∈ rw
theorem OnceI.new {m : Int} (h : 0 ≤ m) : OnceI m (m / 2) [] [] [] [] [] := ⟨SrlI.new h, by simp [lastRev], rfl, rfl, fun k q => by simp [lk] at q⟩
theorem OnceI.step {m t : Int} (h : OnceI m t rw ns cs gs ms) (hm : 1 ≤ m) (hk : key ∉ rw) {x} (hx : srlReq m t ns cs gs ms key = x) :
    OnceI m x.1 (rw ++ [key]) x.2.1 x.2.2.1 x.2.2.2.1 x.2.2.2.2.1 ∧ x.2.2.2.2.2.1 = false ∧ x.2.2.2.2.2.2.2 = decide (((rw ++ [key]).length : Int) > m) ∧
    (x.2.2.2.2.2.2.2 = true → x.2.2.2.2.2.2.1 = (rw ++ [key]).getD (rw.length - m.toNat) ⟨#[]⟩ ∧ m ≤ (rw.length : Int)) := by
  have hn : lk ms key = none := by
    cases e : lk ms key with
    | none => rfl
    | some v => exact absurd (h.told key (by rw [e]; rfl)) hk
  obtain ⟨f1, f2, f3, f4⟩ := h.i.fresh (by omega) hn hx
  have r := (h.i.req key hx).1
  obtain rfl := h.no
  have hl := lastRev_length (show 0 ≤ m by omega) rw
  rw [← h.row] at hl
  have ht : ∀ k, (lk x.2.2.2.2.1 k).isSome = true → k ∈ rw ++ [key] := fun k q => (f3 k q).elim (fun e => by simp [e]) fun e => List.mem_append_left _ (h.told k e)
  simp only [List.nil_append, List.length_append, List.length_singleton] at f4 ⊢
  by_cases hf : (ns.length : Int) < m
  · rw [if_pos hf] at f4
    obtain ⟨g1, g2, g3⟩ := f4
    refine ⟨⟨r, by rw [g1, lastRev_push_room (by omega), h.row], g2, f1.trans h.half, ht⟩, f2, by rw [g3, decide_eq_false (by omega)], fun q => by rw [g3] at q; cases q⟩
  · rw [if_neg hf] at f4
    obtain ⟨g1, g2, g3⟩ := f4
    obtain ⟨p1, p2⟩ := lastRev_push_full (m := m) hm (rw := rw) (by omega) key
    have hN : srlN ns = ns.dropLast := by unfold srlN; rw [if_pos (by omega)]
    have hC : srlC ns [] = ([] : LB) := by unfold srlC; split <;> rfl
    refine ⟨⟨r, by rw [g1, p1, hN, h.row], by rw [g2, hC], f1.trans h.half, ht⟩, f2, by rw [g3, decide_eq_true (by omega)], fun _ => ⟨?_, by omega⟩⟩
    rw [g3]
    show lastOf ns = _
    rw [h.row, p2, List.getD_eq_getElem?_getD, List.getD_eq_getElem?_getD, List.getElem?_append_left (by omega)]
theorem OnceI.keys {m t : Int} (h : OnceI m t rw ns cs gs ms) : (cs ++ ns).reverse = rw.drop (rw.length - m.toNat) := by
  obtain rfl := h.no
  rw [h.row]; unfold lastRev; simp
/-- Dropped j times. -/
structure DropI (m t : Int) (L ns cs gs : LB) (ms : Mks) (j : Nat) : Prop where
  i : SrlI m t ns cs gs ms
  row : cs ++ ns = L.take (L.length - j)
  le : j ≤ L.length
theorem DropI.start {m t : Int} (h : SrlI m t ns cs gs ms) : DropI m t (cs ++ ns) ns cs gs ms 0 := ⟨h, by rw [Nat.sub_zero, List.take_length], Nat.zero_le _⟩
theorem DropI.step {m t : Int} {j : Nat} (h : DropI m t L ns cs gs ms j) (hj : j < L.length) {x} (hx : srlDrop m t ns cs gs ms = x) :
    DropI m t L x.1 x.2.1 gs x.2.2.1 (j + 1) ∧ x.2.2.2.2 = true ∧ x.2.2.2.1 = L.reverse.getD j ⟨#[]⟩ := by
  obtain ⟨h1, h2, h3⟩ := h.i.drop hx
  have hlen : (cs ++ ns).length = L.length - j := by rw [h.row, List.length_take]; omega
  obtain ⟨p, hp⟩ : ∃ p, L.length - j = p + 1 := ⟨L.length - j - 1, by omega⟩
  have hpl : p < L.length := by omega
  have e : cs ++ ns = L.take p ++ [L[p]] := by rw [h.row, hp, List.take_succ_eq_append_getElem hpl]
  refine ⟨⟨h1, ?_, hj⟩, by rw [h3]; exact decide_eq_true (by omega), ?_⟩
  · rw [h2, e, List.dropLast_concat]; congr 1; omega
  · rw [h3, e]
    show lastOf (L.take p ++ [L[p]]) = _
    rw [List.getD_eq_getElem?_getD, List.getElem?_reverse hj, List.getElem?_eq_getElem (by omega)]
    simp only [lastOf, List.getLast?_append, List.getLast?_singleton, Option.some_or, Option.getD_some]
    congr 1; omega
theorem DropI.fin {m t : Int} {j : Nat} (h : DropI m t L ns cs gs ms j) (hj : ¬ j < L.length) : cs = [] ∧ ns = [] := by
  have := h.row
  rw [show L.length - j = 0 by omega, List.take_zero] at this
  exact List.append_eq_nil_iff.1 this
theorem adopt_row {m t : Int} (h : SrlI m t ns cs gs ms) (hk : key ∉ cs ++ ns) {x} (hx : srlAdopt m t ns cs gs ms key = x) :
    SrlI m t x.1 cs x.2.1 x.2.2.1 ∧ x.2.2.2 = decide ((((cs ++ ns).reverse).length : Int) < m) ∧ ((((cs ++ ns).reverse).length : Int) < m → ((cs ++ x.1).reverse).getD ns.length ⟨#[]⟩ = key ∧ 0 < ((cs ++ x.1).reverse).length ∧ ns.length < ((cs ++ x.1).reverse).length) := by
  obtain ⟨h1, h2⟩ := h.adopt key hx
  rw [List.length_reverse]
  by_cases hl : ((cs ++ ns).length : Int) < m
  · rw [if_pos ⟨hk, hl⟩] at h2
    refine ⟨h1, by rw [h2.2.2, decide_eq_true hl], fun _ => ?_⟩
    rw [h2.1]
    have e : (cs ++ key :: ns).reverse = ns.reverse ++ key :: cs.reverse := by simp
    rw [e]
    refine ⟨?_, by simp; omega, by simp⟩
    rw [List.getD_eq_getElem?_getD, List.getElem?_append_right (by simp)]
    simp
  · rw [if_neg fun q => hl q.2] at h2
    subst h2
    exact ⟨h1, by rw [decide_eq_false hl], fun q => absurd q hl⟩
end Go.Proofs.Ytjijjfdkghcjkaa
