/- Steps compared. -/
import Derived.Test.YtjijjfdkghcjkaaSepJ
import Derived.Test.YtjijjfdkghcjkaaRefA
set_option linter.unusedVariables false
namespace Go.Proofs.Ytjijjfdkghcjkaa
open Go.RowKit Go.MapKept

theorem o_eqStep {σ : List (Nat × Value)} {dst : Option Tmp} {ty yt : TypeId} {pos : String} {after : Array Edge} {g : Option (Nat × Bool)} {x y : Operand} (a0 b0 : Bool) (a1 b1 : ByteArray) (a2 b2 : Bool) (hx : ev σ x = some (.agg #[bV a0, sV a1, bV a2])) (hy : ev σ y = some (.agg #[bV b0, sV b1, bV b2])) :
    OprV Try.prog σ ⟨dst, .binOp .eql 27 x y yt, ty, pos, after, g⟩ (.bool (decide (a0 = b0 ∧ a1 = b1 ∧ a2 = b2))) := oprV_of fun ρ hρ w => by
  have u4 := Try.underlying4
  have a4_ := Try.isAgg4
  have z4_ := Try.sizeOf4
  have u9 := Try.underlying9
  have a9_ := Try.isAgg9
  have z9_ := Try.sizeOf9
  have hS : Try.prog.underlying 27 = some (.struct (Try.prog.fieldsOf 27)) := by kernel_rfl
  have hp : Try.prog.stoodInHeld 27 = false := by kernel_rfl
  simp only [execOp, hρ x _ hx, hρ y _ hy, Sem.run_bind, run_eqGuard_agg (P := Try.prog) w .eql 27 _ _ _ _ (by kernel_rfl), Result.andThen_ok]
  rw [run_eql_struct, show (10000 : Nat) = 9999 + 1 from rfl, run_equalIn_agg w 9999 27 _ _ hS hp]
  simp only [Program.fieldsOf, Try.underlying27]
  go_simp
  by_cases h0 : a0 = b0 <;> by_cases h1 : a1 = b1 <;> by_cases h2 : a2 = b2 <;> simp [h0, h1, h2, tl_iff]
theorem o_eqStep_ne {σ : List (Nat × Value)} {dst : Option Tmp} {ty yt : TypeId} {pos : String} {after : Array Edge} {g : Option (Nat × Bool)} {x y : Operand} (a0 b0 : Bool) (a1 b1 : ByteArray) (a2 b2 : Bool) (hx : ev σ x = some (.agg #[bV a0, sV a1, bV a2])) (hy : ev σ y = some (.agg #[bV b0, sV b1, bV b2])) :
    OprV Try.prog σ ⟨dst, .binOp .neq 27 x y yt, ty, pos, after, g⟩ (.bool (decide (¬ (a0 = b0 ∧ a1 = b1 ∧ a2 = b2)))) := oprV_of fun ρ hρ w => by
  have u4 := Try.underlying4
  have a4_ := Try.isAgg4
  have z4_ := Try.sizeOf4
  have u9 := Try.underlying9
  have a9_ := Try.isAgg9
  have z9_ := Try.sizeOf9
  have hS : Try.prog.underlying 27 = some (.struct (Try.prog.fieldsOf 27)) := by kernel_rfl
  have hp : Try.prog.stoodInHeld 27 = false := by kernel_rfl
  simp only [execOp, hρ x _ hx, hρ y _ hy, Sem.run_bind, run_eqGuard_agg (P := Try.prog) w .neq 27 _ _ _ _ (by kernel_rfl), Result.andThen_ok]
  rw [run_neq_struct, show (10000 : Nat) = 9999 + 1 from rfl, run_equalIn_agg w 9999 27 _ _ hS hp]
  simp only [Program.fieldsOf, Try.underlying27]
  go_simp
  by_cases h0 : a0 = b0 <;> by_cases h1 : a1 = b1 <;> by_cases h2 : a2 = b2 <;> simp [h0, h1, h2, tl_iff]

end Go.Proofs.Ytjijjfdkghcjkaa
