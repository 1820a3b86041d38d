/- Slices cut at their end, wherever they begin. -/
import Derived.Test.YthbffkdfahlpdaaSepG
set_option linter.unusedVariables false
namespace Go.Proofs.Ythbffkdfahlpdaa
open Go.RowKit Go.MapKept
theorem o_cutToA {P : Program} {σ : List (Nat × Value)} {x : Operand} {n size : Nat} {t ty e : TypeId} {dst : Option Tmp} {pos : String} {after : Array Edge} {g : Option (Nat × Bool)} {a : Option Addr} {cap h : Nat} {kd : IntKind} {q : Int} {hi : Operand} (hx : ev σ x = some (.slice a n cap)) (hhi : ev σ hi = some (.int kd q)) (hq : q = (h : Int)) (hn : h ≤ cap) (ht : P.underlying t = some (.slice e)) (hz : sizeT P e size = true) :
    OprV P σ ⟨dst, .slice t x none (some hi) none, ty, pos, after, g⟩ (.slice a h cap) := oprV_of fun ρ hρ w => by
  subst hq
  have hm : a.map (fun y => y.add 0) = a := by cases a <;> simp [Addr.add]
  unfold sizeT at hz
  cases hq : P.info? e with
  | none => simp [hq] at hz
  | some q =>
    simp [hq] at hz
    by_cases h0 : cap = 0
    · subst h0
      simp [execOp, hρ x _ hx, hρ hi _ hhi, Instr.sliceAt, Instr.slice, Instr.sliceBounds, Instr.sliceBound, asIntOf, run_underlying ht, sizeOf, typeInfo, hq, hz, hn, Result.andThen]
    · simp [execOp, hρ x _ hx, hρ hi _ hhi, Instr.sliceAt, Instr.slice, Instr.sliceBounds, Instr.sliceBound, asIntOf, run_underlying ht, sizeOf, typeInfo, hq, hz, hn, Result.andThen, h0, hm]
end Go.Proofs.Ythbffkdfahlpdaa
