/- 'HeapPops' comes to true at every input, and leaves what was there as it was. No condition. -/
import Derived.Test.YtnnjccfcalgokaaRows
import Derived.Test.YtnnjccfcalgokaaHpPops
import Derived.WalkKit
import Derived.ProofKit
import Derived.OpenShut
import Derived.ShutString
import Derived.ChangeOld
import Derived.Below
import Derived.Lib.SmallJoins
namespace Go.Proofs.Ytnnjccfcalgokaa.heapPops
open Go.ChangeShapes Go.WideShapes Go.ChangeAt Go.RowKit Go.Joins
open Go.ChangeMaps (open_string shut_string)
set_option linter.unusedVariables false

theorem own : ownKnob Try.prog.godebug = none := by kernel_rfl
theorem laidOut : laidOutB Try.prog = true := by kernel_rfl

set_option maxRecDepth 100000 in
theorem lifted (os : Os) (started : os.Started) (H : Type) (enc : TypeId × Value → H) :
    ReturnsInHanded {} Try.checked os 4 .any (Rows.heapPopsSpec.pre6 enc Try.prog Try.f4 Rows.heapPopsRow.domain false) (Rows.heapPopsSpec.post enc Try.prog Try.f4 false true false false) := by
  refine returnsInHanded_of_change (C := Try.checked) own started (by kernel_rfl) Try.func4
    (ChangeSpec.witness6 (enc := enc) (C := Try.checked) false ⟨#[], #[.slice none 0 0, .agg #[.int .i64 0, .int .i64 0], .agg #[.int .i64 0, .int .i64 0], .agg #[.int .i64 0, .int .i64 0]], []⟩ 8 (by kernel_rfl) (by kernel_rfl) (by kernel_rfl) (by kernel_rfl)) ?_
  intro W base args ds gs before hval0 hW hcnd _
  have hval : ∀ (j : Nat) t v, Try.f4.params[j]? = some t → args[j]? = some v → Value.okWide Try.prog W .any base t v := hval0
  have hW' := hW
  obtain ⟨p, q, hA0, hV, rfl, hfz, hnd⟩ := hW
  have hA : DataW.TrodAll enc Try.prog W 0 (fun _ => true) true Try.f4.params.toList args.toList ds p := hA0
  rw [Try.params4] at hA hval
  obtain ⟨v0, vs0, d0, ds0, p0, q0, hargs, rfl, rfl, h0, r0⟩ := trodAll_cons hA
  obtain ⟨v1, vs1, d1, ds1, p1, q1, rfl, rfl, rfl, h1, r1⟩ := trodAll_cons r0
  obtain ⟨v2, vs2, d2, ds2, p2, q2, rfl, rfl, rfl, h2, r2⟩ := trodAll_cons r1
  obtain ⟨v3, vs3, d3, ds3, p3, q3, rfl, rfl, rfl, h3, r3⟩ := trodAll_cons r2
  obtain ⟨rfl, rfl, rfl⟩ := trodAll_nil r3
  obtain rfl : args = #[v0, v1, v2, v3] := by cases args; simp_all
  obtain ⟨rfl, rfl⟩ := trodVars_none hV
  have k0 := h0
  have lt0 : ∀ x ∈ p0, x.block < W.heap.size := by obtain ⟨m, hm⟩ := k0; exact DataW.trod_lt m _ _ _ hm
  obtain ⟨a0, len0, cap0, rfl⟩ := okWide_slice Try.underlying22 (hval 0 22 v0 rfl rfl)
  obtain ⟨x0, w0⟩ := open_cells (size := 4) (α := HAct) (HAct.cells) Try.underlying22 (by kernel_rfl) (by decide) (fun _ _ _ h => el_hact h) (fun _ => rfl) h0
  have k1 := h1
  have lt1 : ∀ x ∈ p1, x.block < W.heap.size := by obtain ⟨m, hm⟩ := k1; exact DataW.trod_lt m _ _ _ hm
  obtain ⟨c1_0, c1_1, y1_0, y1_1, m1, rfl, -, -, g1_0, g1_1⟩ := open_agg2 Try.underlying28 (by kernel_rfl) (by kernel_rfl) (hval 1 28 v1 rfl rfl) h1
  obtain ⟨b1_0, e1_0, -, w1_0⟩ := DataW.trod_int Try.underlying3 g1_0
  obtain rfl := List.cons.inj e1_0 |>.1
  obtain ⟨b1_1, e1_1, -, w1_1⟩ := DataW.trod_int Try.underlying3 g1_1
  obtain rfl := List.cons.inj e1_1 |>.1
  have k2 := h2
  have lt2 : ∀ x ∈ p2, x.block < W.heap.size := by obtain ⟨m, hm⟩ := k2; exact DataW.trod_lt m _ _ _ hm
  obtain ⟨c2_0, c2_1, y2_0, y2_1, m2, rfl, -, -, g2_0, g2_1⟩ := open_agg2 Try.underlying28 (by kernel_rfl) (by kernel_rfl) (hval 2 28 v2 rfl rfl) h2
  obtain ⟨b2_0, e2_0, -, w2_0⟩ := DataW.trod_int Try.underlying3 g2_0
  obtain rfl := List.cons.inj e2_0 |>.1
  obtain ⟨b2_1, e2_1, -, w2_1⟩ := DataW.trod_int Try.underlying3 g2_1
  obtain rfl := List.cons.inj e2_1 |>.1
  have k3 := h3
  have lt3 : ∀ x ∈ p3, x.block < W.heap.size := by obtain ⟨m, hm⟩ := k3; exact DataW.trod_lt m _ _ _ hm
  obtain ⟨c3_0, c3_1, y3_0, y3_1, m3, rfl, -, -, g3_0, g3_1⟩ := open_agg2 Try.underlying28 (by kernel_rfl) (by kernel_rfl) (hval 3 28 v3 rfl rfl) h3
  obtain ⟨b3_0, e3_0, -, w3_0⟩ := DataW.trod_int Try.underlying3 g3_0
  obtain rfl := List.cons.inj e3_0 |>.1
  obtain ⟨b3_1, e3_1, -, w3_1⟩ := DataW.trod_int Try.underlying3 g3_1
  obtain rfl := List.cons.inj e3_1 |>.1
  clear hA0 hval0
  refine (heapPops_walk _ x0 b1_0 b1_1 b2_0 b2_1 b3_0 b3_1 W w0 w1_0 w1_1 w2_0 w2_1 w3_0 w3_1).mono fun e W' ⟨he, bel⟩ => ?_
  subst he
  exact ⟨_, rfl, _, _, _, [], _, [], hW', trodAll_mk1 (shut_bool Try.underlying4 _), (trodAll_cons_mk (Below.trod laidOut (by kernel_rfl) (of_decide_eq_true (by kernel_rfl)) k0 bel lt0) (trodAll_cons_mk (Below.trod laidOut (by kernel_rfl) (of_decide_eq_true (by kernel_rfl)) k1 bel lt1) (trodAll_cons_mk (Below.trod laidOut (by kernel_rfl) (of_decide_eq_true (by kernel_rfl)) k2 bel lt2) (trodAll_cons_mk (Below.trod laidOut (by kernel_rfl) (of_decide_eq_true (by kernel_rfl)) k3 bel lt3) trodAll_mk0)))), rfl, bel.frame _, fun h => by cases h⟩

theorem over : Rows.heapPopsRow.holds Try.pinned (OpenSpec.ofChange Rows.heapPopsSpec) :=
  OpenClaim.holds_of_wide 4 Try.f4 rfl rfl rfl rfl rfl rfl rfl ⟨rfl, rfl, rfl, rfl, rfl⟩ rfl rfl rfl rfl rfl (by kernel_rfl) Try.func4 (by kernel_rfl)
    (of_decide_eq_true (by kernel_rfl)) (by unfold Func.isWrapper; rw [if_neg (of_decide_eq_false (by kernel_rfl))]; exact ⟨rfl, rfl⟩)
    (fun os started H enc _ => lifted os started H enc)

theorem proved : Rows.HeapPopsSaid := over
#print axioms proved
end Go.Proofs.Ytnnjccfcalgokaa.heapPops
