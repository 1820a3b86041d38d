/- A walk over a map inside a fence. Over any program; no condition. -/
import Derived.Test.YtnijaeipkbpibaaDoorIter
import Derived.Sort.MapsRangeIn
import Derived.RangeFuncGives
set_option linter.unusedVariables false
namespace Go.Proofs.YtnijaeipkbpibaaDoor
open Go.RowKit Go.MapKept
section
variable {κ α : Type} {g : κ → Value} {f : α → Value} {b r : Nat} {l rest' : List (κ × α)} {k e t : TypeId}
theorem IterAt.left_eq {w : World} (h : IterAt g f w b r l rest') : w.rangeLeft b r = rest'.length := by
  obtain ⟨_, es, clock, since, seen, c0, hb, _, hr, _, _, _, hl, _⟩ := h
  simp only [World.rangeLeft, hb, hr]
  simpa using congrArg List.length hl
theorem IterAt.of_walks {w w' : World} (h : IterAt g f w b r l rest') (hk : KeepsWalks w w') : IterAt g f w' b r l rest' := by
  obtain ⟨_, es, clock, since, seen, c0, hb, _, hr, _⟩ := id h
  exact h.same ((hk.same b _ hb rfl).trans hb.symm) ((hk.same r _ hr rfl).trans hr.symm)
theorem IterAt.isW {w : World} (h : IterAt g f w b r l rest') : ∃ o : Obj, w.heap[r]? = some o ∧ o.isWalk = true := by
  obtain ⟨_, es, clock, since, seen, c0, hb, _, hr, _⟩ := h
  exact ⟨_, hr, rfl⟩
variable {F : Fence} {n : Nat} {P : Program} (w : World) {ops : Array Oper} {rest : List Oper} {o : Oper} {a : Act} {Q : Exit → Act → World → Prop}
theorem wpListIn_rangeM (hg : o.guard = none) (m : Operand) (t : TypeId) (hop : o.op = Op.range t m) (k e : TypeId) (ht : P.underlying t = some (.map k e)) (b : Nat) (hm : a.eval m = .map (some b)) (h : MapAt g f w b l)
    (hK : ∀ w', IterAt g f w' b w.heap.size l l → w.grownBy w' none → w'.heap.size = w.heap.size + 1 → wpListIn F n P ops Q rest (a.put o.dst (.pointer (some ⟨w.heap.size, 0, none⟩))) w') :
    wpListIn F n P ops Q (o :: rest) a w := by
  refine wpListIn_plain hg fun K' hK' => ?_
  obtain ⟨c, hrun, r1⟩ := h.range (P := P) ht
  unfold Oper.wpIn
  refine ⟨by simp [Oper.about, hop], ?_⟩
  rw [Oper.semAt_plain F _ _ (by rw [hop]; intro c hc'; cases hc')]
  simp [execOp, hop, hm, hrun, Result.andThen]
  exact hK' _ _ (hK _ r1 (World.grownBy_alloc w _ none) (by simp))
theorem wpListIn_nextM (hg : o.guard = none) (it : Operand) (hop : o.op = Op.next it false) (b r : Nat) (hit : a.eval it = .pointer (some ⟨r, 0, none⟩)) (h : IterAt g f w b r l rest')
    (hDone : rest' = [] → wpListIn F n P ops Q rest (a.put o.dst (.tuple #[.bool false])) w)
    (hMore : ∀ (i : Nat) (p : κ × α) (w' : World), rest'[i]? = some p → IterAt g f w' b r l (rest'.eraseIdx i) → w.grownBy w' (some r) → w'.heap.size = w.heap.size → (Instr.entry (.pointer (some ⟨r, 0, none⟩))).run P w' = .ok (.tuple #[g p.1, f p.2]) w' →
      wpListIn F n P ops Q rest (a.put o.dst (.tuple #[.bool true, g p.1, f p.2])) w') :
    wpListIn F n P ops Q (o :: rest) a w := by
  refine wpListIn_plain hg fun K' hK' => ?_
  unfold Oper.wpIn
  refine ⟨by simp [Oper.about, hop], ?_⟩
  rw [Oper.semAt_plain F _ _ (by rw [hop]; intro c hc'; cases hc')]
  rcases h.next (P := P) o.type with ⟨h0, hrun⟩ | ⟨i, p, w', hp, hrun, hi, hg', hs, hen⟩
  · simp [execOp, hop, hit, hrun, Result.andThen]
    exact hK' _ _ (hDone h0)
  · simp [execOp, hop, hit, hrun, Result.andThen]
    exact hK' _ _ (hMore i p w' hp hi hg' hs hen)
end
end Go.Proofs.YtnijaeipkbpibaaDoor
