/- errors.Is at an api.Errno: its contract (after the worked example 'toyas'). -/
import Derived.Test.YtnijaeipkbpibaaDoorProg
import Derived.WalkKit
import Derived.LaidEql
import Derived.Stop.Asserts
import Derived.RowKitTokens
set_option linter.unusedVariables false
namespace Go.Proofs.YtnijaeipkbpibaaDoor
open Go.RowKit Go.Extern.Stop Go.Stop Go.Extern

/-! ### errors.Is over a *api.Fault that holds an api.Errno, at an api.Errno -/
theorem Tryd.isTypeOf (v : Value) (w : World) : (ReflectliteType.typeOf #[.iface 71 v]).run Tryd.prog w = .ok (.iface 121 (.agg #[.pointer (some ⟨1, 71, none⟩)])) w := by kernel_rfl
theorem Tryd.isComparable (w : World) : ((ReflectliteType.method fun t => do Rtype.noPackHeld "Comparable" t; (fun a => Value.bool a.comparable) <$> typeInfo t) #[.agg #[.pointer (some ⟨1, 71, none⟩)]]).run Tryd.prog w = .ok (.bool true) w := by kernel_rfl
theorem Tryd.isMethodComparable (v : Value) (w : World) : (Go.method 285 121 v "Comparable").run Tryd.prog w = .ok (105, v) w := by kernel_rfl
theorem Tryd.noIsF (v : Value) (xT : TypeId) (w : World) : (Instr.typeAssert (.iface 83 v) xT 133 true).run Tryd.prog w = .ok (.tuple #[.nilIface, .bool false]) w := run_typeAssert_lacksB Tryd.underlying133 (by kernel_rfl) (by kernel_rfl) v xT w
theorem Tryd.hasUnwrapF (v : Value) (xT : TypeId) (w : World) : (Instr.typeAssert (.iface 83 v) xT 128 true).run Tryd.prog w = .ok (.tuple #[.iface 83 v, .bool true]) w := run_typeAssert_hasB Tryd.underlying128 (by kernel_rfl) v xT w
theorem Tryd.methodUnwrap (v : Value) (w : World) : (Go.method 285 83 v "Unwrap").run Tryd.prog w = .ok (99, v) w := by kernel_rfl
theorem Tryd.noIsE (v : Value) (xT : TypeId) (w : World) : (Instr.typeAssert (.iface 71 v) xT 133 true).run Tryd.prog w = .ok (.tuple #[.nilIface, .bool false]) w := run_typeAssert_lacksB Tryd.underlying133 (by kernel_rfl) (by kernel_rfl) v xT w
theorem Tryd.noUnwrapE (v : Value) (xT : TypeId) (w : World) : (Instr.typeAssert (.iface 71 v) xT 128 true).run Tryd.prog w = .ok (.tuple #[.nilIface, .bool false]) w := run_typeAssert_lacksB Tryd.underlying128 (by kernel_rfl) (by kernel_rfl) v xT w
theorem Tryd.noUnwrapsE (v : Value) (xT : TypeId) (w : World) : (Instr.typeAssert (.iface 71 v) xT 130 true).run Tryd.prog w = .ok (.tuple #[.nilIface, .bool false]) w := run_typeAssert_lacksB Tryd.underlying130 (by kernel_rfl) (by kernel_rfl) v xT w

section
variable {P : Program} (w : World)
theorem run_equalIn_iface_int (d : Nat) {ti tn : TypeId} {ms : Array (String × TypeId)} {i : TypeInfo} {k : IntKind} (a b : Int)
    (hi : P.underlying ti = some (.interface ms)) (hn : P.underlying tn = some (.int k)) (hinfo : P.info? tn = some i) (hcomp : i.comparable = true) :
    (Op.equalIn (d + 2) ti (.iface tn (.int k a)) (.iface tn (.int k b))).run P w = .ok (a == b) w := by
  simp [Op.equalIn, run_underlying hi, run_underlying hn, typeInfo, hinfo, hcomp]
theorem run_eql_iface_int {ti tn : TypeId} {ms : Array (String × TypeId)} {k : IntKind} (a b : Int)
    (hi : P.underlying ti = some (.interface ms)) (hn : P.underlying tn = some (.int k)) (hc : (P.info? tn).map (·.comparable) = some true) :
    (binOp .eql ti (.iface tn (.int k a)) (.iface tn (.int k b))).run P w = .ok (.bool (a == b)) w := by
  obtain ⟨i, hinfo, hcomp⟩ := Option.map_eq_some_iff.1 hc
  simp only [binOp]
  simp [Op.equal, Op.maxDepth, run_equalIn_iface_int w 9998 a b hi hn hinfo hcomp]
end
set_option maxRecDepth 100000 in
set_option maxHeartbeats 4000000 in
theorem is_fault (pb : Nat) (c d : Int) (w : World) (h1 : w.cell? ⟨pb, 2, none⟩ = some (.iface 71 (.int .i64 c))) :
    Calls Tryd.prog 41 #[.iface 83 (.pointer (some ⟨pb, 0, none⟩)), .iface 71 (.int .i64 d)] w fun e w' => e = .returned (.bool (decide (c = d))) ∧ w' = w := by
  have hT := @run_callFunc_extern Tryd.prog 53 _ ReflectliteType.typeOf Tryd.func53 (by kernel_rfl) (by kernel_rfl) (by kernel_rfl) (by kernel_rfl)
  have hC := @run_callFunc_extern Tryd.prog 105 _ (ReflectliteType.method fun t => do Rtype.noPackHeld "Comparable" t; pure (.bool (← typeInfo t).comparable)) Tryd.func105 (by kernel_rfl) (by kernel_rfl) (by kernel_rfl) (by kernel_rfl)
  have a1 := Tryd.isTypeOf
  have a2 := Tryd.isComparable
  have a3 := Tryd.isMethodComparable
  have a4 := Tryd.noIsF
  have a5 := Tryd.hasUnwrapF
  have a6 := Tryd.methodUnwrap
  have a7 := Tryd.noIsE
  have a8 := Tryd.noUnwrapE
  have a9 := Tryd.noUnwrapsE
  have q1 := fun vx vy w => run_eql_iface_types (P := Tryd.prog) 83 71 vx vy Tryd.underlying30 (by decide) w
  have q2 := fun w => run_eql_iface_int (P := Tryd.prog) (tn := 71) w c d Tryd.underlying30 Tryd.underlying71 (by kernel_rfl)
  go_enter Tryd.func41, Tryd.ntmps41
  go_wp2
  refine wp_loop_rounds 2 ?_
  rw [rounds_succ]
  go_wp2
  rw [rounds_succ]
  by_cases hcd : c = d
  · subst hcd
    have q3 : (c == c) = true := by simp
    simp only [q3] at q2
    go_wp2
    all_goals (go_ret; simp_all)
  · have q3 : (c == d) = false := by simpa using hcd
    simp only [q3] at q2
    go_wp2
    all_goals (go_ret; simp_all)

end Go.Proofs.YtnijaeipkbpibaaDoor
