/- SrlruPlays: its walk. -/
import Derived.Test.YtjijjfdkghcjkaaSrlFew
import Derived.Test.YtjijjfdkghcjkaaSrlLaw
import Derived.Test.YtjijjfdkghcjkaaSrlPlaysB
import Derived.Test.YtjijjfdkghcjkaaStepEq
import Derived.Test.YtjijjfdkghcjkaaSepH
set_option linter.unusedVariables false
namespace Go.Proofs.Ytjijjfdkghcjkaa
open Go.RowKit Go.MapKept
theorem srlNew_m {m : Int} : srlNew m = ((if m < 0 then 0 else m), (if m < 0 then 0 else m) / 2, [], [], [], []) := by unfold srlNew; by_cases q : m < 0 <;> simp [q]

set_option maxHeartbeats 8000000 in
set_option maxRecDepth 100000 in
theorem srlruPlays_tri {w0 : World} {m : Int} {a : Option Addr} {cap : Nat} {xs : List Act3} (hm : -9223372036854775808 ≤ m ∧ m ≤ 9223372036854775807) (hl : xs.length ≤ 9223372036854775807) (hs : ScriptIn w0 (.slice a xs.length cap) xs) : Tri Try.prog 13 #[iV m, .slice a xs.length cap] [oldR w0] (LawP w0) := by
  refine Tri.enter (args := [iV m, .slice a xs.length cap]) Try.func13 rfl rfl rfl (fun B wz => ?_)
  refine Cd.seq ?_
  refine Cd.region rfl ?_
  refine Sq.vals [0] (rest := []) [bV false] (fun w => by kernel_rfl) ?_
  refine Sq.done ?_
  refine Ex'.next ?_
  refine Cd.seq ?_
  refine Cd.seq ?_
  refine Cd.region rfl ?_
  refine Sq.same [] (l := []) (o_call (by kernel_rfl) Try.call35 (srl_awake)) (by kernel_rfl) rfl (by kernel_rfl) rfl ?_
  refine Sq.vals [1] (rest := []) [bV false] (fun w => by kernel_rfl) ?_
  refine Sq.done ?_
  refine Ex'.next ?_
  refine Cd.condF (by kernel_rfl) ?_
  refine Cd.skip ?_
  refine Ex'.next ?_
  refine Cd.seq ?_
  refine Cd.seq ?_
  refine Cd.region rfl ?_
  refine Sq.vals [0] (rest := [1, 2]) [.slice a xs.length cap] (fun w => by kernel_rfl) ?_
  refine Sq.ex [0] (l := [oldR w0]) (o_call (by kernel_rfl) Try.call25 (t_few hl hs)) (by kernel_rfl) rfl (by kernel_rfl) (fun _ => Nat.le_of_ble_eq_true (by kernel_rfl)) ?_; rintro fb1 hfew
  refine Sq.vals [2] (rest := []) [bV (!fb1)] (fun w => by kernel_rfl) ?_
  refine Sq.done ?_
  refine Ex'.next ?_
  refine Cd.cond (t := (!fb1)) (by kernel_rfl) (fun h2 => ?_) (fun h2 => ?_)
  ·
    refine Cd.seq ?_
    refine Cd.region rfl ?_
    refine Sq.vals [0] (rest := []) [bV true] (fun w => by kernel_rfl) ?_
    refine Sq.done ?_
    refine Ex'.next ?_
    refine Cd.ret ?_
    refine Ex'.thenRet ?_
    refine Ex'.ret Try.results13 (RVs.tmp (v := bV true) (by kernel_rfl) (RVs.nil)) (fun w hw => ?_)
    exact ⟨_, ⟨rfl, by kernel_rfl⟩, hw⟩
  ·
    obtain ⟨hf1, hf2⟩ := hfew (by simpa using h2)
    refine Cd.skip ?_
    refine Ex'.next ?_
    refine Cd.seq ?_
    refine Cd.region rfl ?_
    refine Sq.vals [0] (rest := [1, 2]) [iV m] (fun w => by kernel_rfl) ?_
    refine Sq.ex [] (l := []) (o_call (by kernel_rfl) Try.call36 (Tri.ex (L' := fun x => srlL x.1 x.2.1 x.2.2.1 x.2.2.2.1 x.2.2.2.2 (if m < 0 then 0 else m) ((if m < 0 then 0 else m) / 2) [] [] [] [] 0) (srl_New m (by omega)) (fun x => by first | rfl | (rw [srlNew_m])))) (by kernel_rfl) rfl (by kernel_rfl) (fun _ => Nat.le_of_ble_eq_true (by kernel_rfl)) ?_; rintro ⟨b3, nb4, ab5, gb6, mb7⟩ _
    refine Sq.vals [2] (rest := []) [pV b3 0] (fun w => by kernel_rfl) ?_
    refine Sq.done ?_
    refine Ex'.next ?_
    refine Cd.seq ?_
    refine Cd.region rfl ?_
    refine Sq.vals [0] (rest := [1, 2, 3]) [iV m] (fun w => by kernel_rfl) ?_
    refine Sq.ex [] (l := []) (o_call (by kernel_rfl) Try.call47 (t_New07_e (most := m) (by omega))) (by kernel_rfl) rfl (by kernel_rfl) (fun _ => Nat.le_of_ble_eq_true (by kernel_rfl)) ?_; rintro ⟨v9, v10, v11⟩ _
    have q8 : 0 ≤ (if m < 0 then 0 else m) := by split <;> omega
    refine Sq.fact (i := 6) (R := vewR 3 v9 (([] : List K7).length) (([] : List K7).flatMap kq7)) (by kernel_rfl) vew_slice ?_; rintro ⟨a12, c13, rfl, hc13, hc13'⟩
    have hc13'' : c13 ≤ 9223372036854775807 := hc13'
    refine Sq.fact (i := 7) (R := vewR 3 v10 (([] : List K7).length) (([] : List K7).flatMap kq7)) (by kernel_rfl) vew_slice ?_; rintro ⟨a14, c15, rfl, hc15, hc15'⟩
    have hc15'' : c15 ≤ 9223372036854775807 := hc15'
    refine Sq.fact (i := 8) (R := vewR 3 v11 (([] : List K7).length) (([] : List K7).flatMap kq7)) (by kernel_rfl) vew_slice ?_; rintro ⟨a16, c17, rfl, hc17, hc17'⟩
    have hc17'' : c17 ≤ 9223372036854775807 := hc17'
    refine Sq.ex [] (l := []) (o_new [iV 0, iV 0, .slice none 0 0, .slice none 0 0, .slice none 0 0] (fun w => by kernel_rfl)) (by kernel_rfl) rfl (by kernel_rfl) (fun _ => Nat.zero_le _) ?_; intro b18 _
    refine Sq.same [9] (l := [blkR b18 [iV 0, iV 0, .slice none 0 0, .slice none 0 0, .slice none 0 0] 61]) (o_store (i := 0) (v := .agg #[iV (if m < 0 then 0 else m), iV ((if m < 0 then 0 else m) / 2), .slice a12 (([] : List K7).length) c13, .slice a14 (([] : List K7).length) c15, .slice a16 (([] : List K7).length) c17]) (by kernel_rfl) (by kernel_rfl) (by kernel_rfl) (by kernel_rfl) (by kernel_rfl)) (by kernel_rfl) rfl (by kernel_rfl) rfl ?_
    refine Sq.done ?_
    refine Ex'.next ?_
    refine Cd.seq ?_
    refine Cd.seq ?_
    refine Cd.region rfl ?_
    refine Sq.vals [0, 1] (rest := []) [pV b3 0, bV false] (fun w => by kernel_rfl) ?_
    refine Sq.done ?_
    refine Ex'.next ?_
    refine Cd.condF (by kernel_rfl) ?_
    refine Cd.skip ?_
    refine Ex'.next ?_
    refine Cd.seq ?_
    refine Cd.seq ?_
    refine Cd.region rfl ?_
    refine Sq.vals [0] (rest := []) [iV 0] (fun w => by kernel_rfl) ?_
    refine Sq.done ?_
    refine Ex'.next ?_
    refine Cd.block ?_
    refine Cd.loop (ι := Nat × Int × Int × (List ByteArray) × (List ByteArray) × (List ByteArray) × (List (ByteArray × (Bool × Bool))) × Nat × (List K7) × Value × (List K7) × Value × (List K7) × Value) (fun ⟨k, mz0, t0, ns0, cs0, gs0, ms0, n0, N0, vN0, A0, vA0, G0, vG0⟩ => k ≤ xs.length ∧ SP mz0 t0 ns0 cs0 gs0 ms0 N0 A0 G0 ∧ n0 ≤ k * 1000 ∧ N0.length + A0.length + G0.length ≤ k ∧ t0 ≤ 4611686018427387904 + ((k : Nat) : Int) ∧ mz0 ≤ 9223372036854775807) (fun ⟨k, mz0, t0, ns0, cs0, gs0, ms0, n0, N0, vN0, A0, vA0, G0, vG0⟩ => xs.length - k) (fun ⟨k, mz0, t0, ns0, cs0, gs0, ms0, n0, N0, vN0, A0, vA0, G0, vG0⟩ => [(1, .slice a xs.length cap), (5, pV b3 0), (6, pV b18 0), (7, iV (k : Int))]) (fun ⟨k, mz0, t0, ns0, cs0, gs0, ms0, n0, N0, vN0, A0, vA0, G0, vG0⟩ => [oldR w0, srlB b3 nb4 ab5 gb6 mb7 mz0 t0, llR nb4 ns0 n0, llR ab5 cs0 n0, llR gb6 gs0 n0, mapR Value.string markV mb7 ms0, blkR b18 [iV mz0, iV t0, vN0, vA0, vG0] 61, vewR 3 vN0 N0.length (N0.flatMap kq7), vewR 3 vA0 A0.length (A0.flatMap kq7), vewR 3 vG0 G0.length (G0.flatMap kq7)]) (0, (if m < 0 then 0 else m), (if m < 0 then 0 else m) / 2, [], [], [], [], 0, ([] : List K7), .slice a12 (([] : List K7).length) c13, ([] : List K7), .slice a14 (([] : List K7).length) c15, ([] : List K7), .slice a16 (([] : List K7).length) c17) (⟨Nat.zero_le _, SP.new (by split <;> omega), Nat.zero_le _, Nat.zero_le _, by split <;> omega, by split <;> omega⟩) (subB_eq (l := [1, 5, 6, 7]) (by kernel_rfl)) (fun w hw => hw.pickB [0, 1, 2, 3, 4, 5, 9, 6, 7, 8] (by kernel_rfl) (by kernel_rfl) (by kernel_rfl)) ?_
    rintro ⟨k, mz0, t0, ns0, cs0, gs0, ms0, n0, N0, vN0, A0, vA0, G0, vG0⟩ hL19
    try dsimp only at hL19 ⊢
    obtain ⟨hk, hI, hn, hs3, ht9, hm9⟩ := hL19
    have hm0 := hI.i.h0; have htz := hI.i.t0; have htm := hI.i.tm; obtain ⟨hl1, hl2, hl3⟩ := hI.r.len
    refine Cd.fact (i := 7) (R := vewR 3 vN0 N0.length (N0.flatMap kq7)) (by kernel_rfl) vew_slice ?_; rintro ⟨a20, c21, rfl, hc21, hc21'⟩
    have hc21'' : c21 ≤ 9223372036854775807 := hc21'
    refine Cd.fact (i := 8) (R := vewR 3 vA0 A0.length (A0.flatMap kq7)) (by kernel_rfl) vew_slice ?_; rintro ⟨a22, c23, rfl, hc23, hc23'⟩
    have hc23'' : c23 ≤ 9223372036854775807 := hc23'
    refine Cd.fact (i := 9) (R := vewR 3 vG0 G0.length (G0.flatMap kq7)) (by kernel_rfl) vew_slice ?_; rintro ⟨a24, c25, rfl, hc25, hc25'⟩
    have hc25'' : c25 ≤ 9223372036854775807 := hc25'
    refine Cd.seq ?_
    refine Cd.seq ?_
    refine Cd.region rfl ?_
    refine Sq.vals [0, 1, 2, 3] (rest := []) [iV (k : Int), .slice a xs.length cap, iV (xs.length : Int), bV (decide ((k : Int) < (xs.length : Int)))] (fun w => by kernel_rfl) ?_
    refine Sq.done ?_
    refine Ex'.next ?_
    refine Cd.case (p := (k : Int) < (xs.length : Int)) (by kernel_rfl) (fun h26 => ?_) (fun h26 => ?_)
    ·
      obtain ⟨g27, off28, rfl⟩ := hs.addr (by omega)
      obtain ⟨kdk, kyk, nnk, hgk, hwk, hrk⟩ := hs.at (k := k) (by omega)
      refine Cd.skip ?_
      refine Ex'.next ?_
      refine Cd.seq ?_
      refine Cd.block ?_
      refine Cd.seq ?_
      refine Cd.region rfl ?_
      refine Sq.vals [0, 1] (rest := [2, 3, 4, 5]) [.slice (some ⟨g27, off28, none⟩) xs.length cap, iV (k : Int)] (fun w => by kernel_rfl) ?_
      refine Sq.v (r := pV g27 (off28 + k * 3)) (o_idx (b := g27) (cap := cap) (e := 45) (off := off28) (n := xs.length) (kd := .i64) (q := (k : Int)) (i := k) (size := 3) (j := off28 + k * 3) (by kernel_rfl) (by kernel_rfl) (by rfl) (by omega) Try.underlying39 (by kernel_rfl) (by omega)) rfl (by kernel_rfl) ?_
      refine Sq.same [0] (l := [oldR w0]) (o_loadOldN (b := g27) (j := off28 + k * 3) [iV kdk, sV kyk, iV nnk] (by kernel_rfl) (by kernel_rfl) hrk) (by kernel_rfl) rfl (by kernel_rfl) rfl ?_
      refine Sq.ex [] (l := []) (o_new [iV 0, sV ⟨#[]⟩, iV 0] (fun w => by kernel_rfl)) (by kernel_rfl) rfl (by kernel_rfl) (fun _ => Nat.zero_le _) ?_; intro b29 _
      refine Sq.same [10] (l := [blkR b29 [iV 0, sV ⟨#[]⟩, iV 0] 45]) (o_store (i := 0) (v := .agg #[iV kdk, sV kyk, iV nnk]) (by kernel_rfl) (by kernel_rfl) (by kernel_rfl) (by kernel_rfl) (by kernel_rfl)) (by kernel_rfl) rfl (by kernel_rfl) rfl ?_
      refine Sq.done ?_
      refine Ex'.next ?_
      refine Cd.join (ι := Int × Int × (List ByteArray) × (List ByteArray) × (List ByteArray) × (List (ByteArray × (Bool × Bool))) × Nat × (List K7) × Value × (List K7) × Value × (List K7) × Value) (fun ⟨mz1, t1, ns1, cs1, gs1, ms1, n1, N1, vN1, A1, vA1, G1, vG1⟩ => SP mz1 t1 ns1 cs1 gs1 ms1 N1 A1 G1 ∧ n1 ≤ (k + 1) * 1000 ∧ N1.length + A1.length + G1.length ≤ (k + 1) ∧ t1 ≤ 4611686018427387904 + (((k + 1) : Nat) : Int) ∧ mz1 ≤ 9223372036854775807) (fun ⟨mz1, t1, ns1, cs1, gs1, ms1, n1, N1, vN1, A1, vA1, G1, vG1⟩ => [(1, .slice (some ⟨g27, off28, none⟩) xs.length cap), (5, pV b3 0), (6, pV b18 0), (7, iV (k : Int)), (8, pV b29 0)]) (fun ⟨mz1, t1, ns1, cs1, gs1, ms1, n1, N1, vN1, A1, vA1, G1, vG1⟩ => [oldR w0, srlB b3 nb4 ab5 gb6 mb7 mz1 t1, llR nb4 ns1 n1, llR ab5 cs1 n1, llR gb6 gs1 n1, mapR Value.string markV mb7 ms1, blkR b18 [iV mz1, iV t1, vN1, vA1, vG1] 61, vewR 3 vN1 N1.length (N1.flatMap kq7), vewR 3 vA1 A1.length (A1.flatMap kq7), vewR 3 vG1 G1.length (G1.flatMap kq7), blkR b29 [iV kdk, sV kyk, iV nnk] 45]) ?_ ?_
      ·
        refine Cd.seq ?_
        refine Cd.region rfl ?_
        refine Sq.vals [0] (rest := [1]) [pV b29 0] (fun w => by kernel_rfl) ?_
        refine Sq.same [10] (l := [blkR b29 [iV kdk, sV kyk, iV nnk] 45]) (o_load (i := 0) (v := iV kdk) (by kernel_rfl) (by kernel_rfl) (by kernel_rfl)) (by kernel_rfl) rfl (by kernel_rfl) rfl ?_
        refine Sq.done ?_
        refine Ex'.next ?_
        refine Cd.block ?_
        refine Cd.seq ?_
        refine Cd.region rfl ?_
        refine Sq.v (r := bV (decide (kdk = 0))) (o_eqI (k := .i64) (a := kdk) (b := 0) (by kernel_rfl) (by kernel_rfl)) rfl (by kernel_rfl) ?_
        refine Sq.vals [1] (rest := []) [bV (decide (kdk = 0))] (fun w => by kernel_rfl) ?_
        refine Sq.done ?_
        refine Ex'.next ?_
        refine Cd.case (p := kdk = 0) (by kernel_rfl) (fun h30 => ?_) (fun h30 => ?_)
        ·
          obtain ⟨hI2, hQ0, hQ1, hQ2, hQ3⟩ := hI.req kyk rfl rfl; obtain ⟨hQ4, hQ5⟩ := r7Request_tot (key := kyk) (t := t0) (N := N0) (A := A0) (G := G0) hm0 rfl
          refine Cd.seq ?_
          refine Cd.region rfl ?_
          refine Sq.same [6] (l := [blkR b18 [iV mz0, iV t0, .slice a20 N0.length c21, .slice a22 A0.length c23, .slice a24 G0.length c25] 61]) (o_loadN (i := 0) [iV mz0, iV t0, .slice a20 N0.length c21, .slice a22 A0.length c23, .slice a24 G0.length c25] (by kernel_rfl) (by kernel_rfl) (by kernel_rfl)) (by kernel_rfl) rfl (by kernel_rfl) rfl ?_
          refine Sq.vals [1] (rest := [2, 3, 4, 5, 6, 7, 8, 9, 10]) [pV b29 1] (fun w => by kernel_rfl) ?_
          refine Sq.same [10] (l := [blkR b29 [iV kdk, sV kyk, iV nnk] 45]) (o_load (i := 1) (v := sV kyk) (by kernel_rfl) (by kernel_rfl) (by kernel_rfl)) (by kernel_rfl) rfl (by kernel_rfl) rfl ?_
          refine Sq.ex [7, 8, 9] (l := [vewR 3 (.slice a20 N0.length c21) N0.length (N0.flatMap kq7), vewR 3 (.slice a22 A0.length c23) A0.length (A0.flatMap kq7), vewR 3 (.slice a24 G0.length c25) G0.length (G0.flatMap kq7)]) (o_call (by kernel_rfl) Try.call48 (t_Request07 (cMost := mz0) (cTarget := t0) (cN := N0) (cNa := a20) (cNc := c21) (cA := A0) (cAa := a22) (cAc := c23) (cG := G0) (cGa := a24) (cGc := c25) (s := kyk) (by omega) (by omega) (by omega) (by omega))) (by kernel_rfl) rfl (by kernel_rfl) (fun _ => Nat.le_of_ble_eq_true (by kernel_rfl)) ?_; rintro ⟨v31, v32, v33⟩ _
          refine Sq.fact (i := 7) (R := vewR 3 v31 (((r7Request mz0 t0 N0 A0 G0 kyk).2.1).length) (((r7Request mz0 t0 N0 A0 G0 kyk).2.1).flatMap kq7)) (by kernel_rfl) vew_slice ?_; rintro ⟨a34, c35, rfl, hc35, hc35'⟩
          have hc35'' : c35 ≤ 9223372036854775807 := hc35'
          refine Sq.fact (i := 8) (R := vewR 3 v32 (((r7Request mz0 t0 N0 A0 G0 kyk).2.2.1).length) (((r7Request mz0 t0 N0 A0 G0 kyk).2.2.1).flatMap kq7)) (by kernel_rfl) vew_slice ?_; rintro ⟨a36, c37, rfl, hc37, hc37'⟩
          have hc37'' : c37 ≤ 9223372036854775807 := hc37'
          refine Sq.fact (i := 9) (R := vewR 3 v33 (((r7Request mz0 t0 N0 A0 G0 kyk).2.2.2.1).length) (((r7Request mz0 t0 N0 A0 G0 kyk).2.2.2.1).flatMap kq7)) (by kernel_rfl) vew_slice ?_; rintro ⟨a38, c39, rfl, hc39, hc39'⟩
          have hc39'' : c39 ≤ 9223372036854775807 := hc39'
          refine Sq.vals [4, 5, 6] (rest := [7, 8, 9, 10]) [.tuple #[.agg #[iV mz0, iV ((r7Request mz0 t0 N0 A0 G0 kyk).1), .slice a34 (((r7Request mz0 t0 N0 A0 G0 kyk).2.1).length) c35, .slice a36 (((r7Request mz0 t0 N0 A0 G0 kyk).2.2.1).length) c37, .slice a38 (((r7Request mz0 t0 N0 A0 G0 kyk).2.2.2.1).length) c39], .agg #[bV ((r7Request mz0 t0 N0 A0 G0 kyk).2.2.2.2.1), sV ((r7Request mz0 t0 N0 A0 G0 kyk).2.2.2.2.2.1), bV ((r7Request mz0 t0 N0 A0 G0 kyk).2.2.2.2.2.2)]], .agg #[iV mz0, iV ((r7Request mz0 t0 N0 A0 G0 kyk).1), .slice a34 (((r7Request mz0 t0 N0 A0 G0 kyk).2.1).length) c35, .slice a36 (((r7Request mz0 t0 N0 A0 G0 kyk).2.2.1).length) c37, .slice a38 (((r7Request mz0 t0 N0 A0 G0 kyk).2.2.2.1).length) c39], .agg #[bV ((r7Request mz0 t0 N0 A0 G0 kyk).2.2.2.2.1), sV ((r7Request mz0 t0 N0 A0 G0 kyk).2.2.2.2.2.1), bV ((r7Request mz0 t0 N0 A0 G0 kyk).2.2.2.2.2.2)]] (fun w => by kernel_rfl) ?_
          refine Sq.ex [] (l := []) (o_new [iV 0, iV 0, .slice none 0 0, .slice none 0 0, .slice none 0 0] (fun w => by kernel_rfl)) (by kernel_rfl) rfl (by kernel_rfl) (fun _ => Nat.zero_le _) ?_; intro b40 _
          refine Sq.ex [] (l := []) (o_new [bV false, sV ⟨#[]⟩, bV false] (fun w => by kernel_rfl)) (by kernel_rfl) rfl (by kernel_rfl) (fun _ => Nat.zero_le _) ?_; intro b41 _
          refine Sq.same [11] (l := [blkR b40 [iV 0, iV 0, .slice none 0 0, .slice none 0 0, .slice none 0 0] 61]) (o_store (i := 0) (v := .agg #[iV mz0, iV ((r7Request mz0 t0 N0 A0 G0 kyk).1), .slice a34 (((r7Request mz0 t0 N0 A0 G0 kyk).2.1).length) c35, .slice a36 (((r7Request mz0 t0 N0 A0 G0 kyk).2.2.1).length) c37, .slice a38 (((r7Request mz0 t0 N0 A0 G0 kyk).2.2.2.1).length) c39]) (by kernel_rfl) (by kernel_rfl) (by kernel_rfl) (by kernel_rfl) (by kernel_rfl)) (by kernel_rfl) rfl (by kernel_rfl) rfl ?_
          refine Sq.same [12] (l := [blkR b41 [bV false, sV ⟨#[]⟩, bV false] 27]) (o_store (i := 0) (v := .agg #[bV ((r7Request mz0 t0 N0 A0 G0 kyk).2.2.2.2.1), sV ((r7Request mz0 t0 N0 A0 G0 kyk).2.2.2.2.2.1), bV ((r7Request mz0 t0 N0 A0 G0 kyk).2.2.2.2.2.2)]) (by kernel_rfl) (by kernel_rfl) (by kernel_rfl) (by kernel_rfl) (by kernel_rfl)) (by kernel_rfl) rfl (by kernel_rfl) rfl ?_
          refine Sq.done ?_
          refine Ex'.next ?_
          refine Cd.seq ?_
          refine Cd.region rfl ?_
          refine Sq.same [11] (l := [blkR b40 [iV mz0, iV ((r7Request mz0 t0 N0 A0 G0 kyk).1), .slice a34 (((r7Request mz0 t0 N0 A0 G0 kyk).2.1).length) c35, .slice a36 (((r7Request mz0 t0 N0 A0 G0 kyk).2.2.1).length) c37, .slice a38 (((r7Request mz0 t0 N0 A0 G0 kyk).2.2.2.1).length) c39] 61]) (o_loadN (i := 0) [iV mz0, iV ((r7Request mz0 t0 N0 A0 G0 kyk).1), .slice a34 (((r7Request mz0 t0 N0 A0 G0 kyk).2.1).length) c35, .slice a36 (((r7Request mz0 t0 N0 A0 G0 kyk).2.2.1).length) c37, .slice a38 (((r7Request mz0 t0 N0 A0 G0 kyk).2.2.2.1).length) c39] (by kernel_rfl) (by kernel_rfl) (by kernel_rfl)) (by kernel_rfl) rfl (by kernel_rfl) rfl ?_
          refine Sq.same [6] (l := [blkR b18 [iV mz0, iV t0, .slice a20 N0.length c21, .slice a22 A0.length c23, .slice a24 G0.length c25] 61]) (o_store (i := 0) (v := .agg #[iV mz0, iV ((r7Request mz0 t0 N0 A0 G0 kyk).1), .slice a34 (((r7Request mz0 t0 N0 A0 G0 kyk).2.1).length) c35, .slice a36 (((r7Request mz0 t0 N0 A0 G0 kyk).2.2.1).length) c37, .slice a38 (((r7Request mz0 t0 N0 A0 G0 kyk).2.2.2.1).length) c39]) (by kernel_rfl) (by kernel_rfl) (by kernel_rfl) (by kernel_rfl) (by kernel_rfl)) (by kernel_rfl) rfl (by kernel_rfl) rfl ?_
          refine Sq.done ?_
          refine Ex'.next ?_
          refine Cd.seq ?_
          refine Cd.plan [0, 0, 2, 7, 0, 31] [(2, [(10, false, 0)]), (3, [(1, true, 0), (2, true, 0), (3, true, 0), (4, true, 0), (5, true, 0)]), (4, [(12, false, 0)])] [] [] [(1, 3, fun g => srlB b3 nb4 ab5 gb6 mb7 mz0 ((srlReq mz0 t0 ns0 cs0 gs0 ms0 kyk).1)), (2, 3, fun g => llR nb4 ((srlReq mz0 t0 ns0 cs0 gs0 ms0 kyk).2.1) (n0 + cs0.length + 3)), (3, 3, fun g => llR ab5 ((srlReq mz0 t0 ns0 cs0 gs0 ms0 kyk).2.2.1) (n0 + cs0.length + 3)), (4, 3, fun g => llR gb6 ((srlReq mz0 t0 ns0 cs0 gs0 ms0 kyk).2.2.2.1) (n0 + cs0.length + 3)), (5, 3, fun g => mapR Value.string markV mb7 ((srlReq mz0 t0 ns0 cs0 gs0 ms0 kyk).2.2.2.2.1))] [fun g => pV b3 0, fun g => pV b29 1, fun g => sV kyk, fun g => .agg #[bV ((srlReq mz0 t0 ns0 cs0 gs0 ms0 kyk).2.2.2.2.2.1), sV ((srlReq mz0 t0 ns0 cs0 gs0 ms0 kyk).2.2.2.2.2.2.1), bV ((srlReq mz0 t0 ns0 cs0 gs0 ms0 kyk).2.2.2.2.2.2.2)], fun g => .agg #[bV ((r7Request mz0 t0 N0 A0 G0 kyk).2.2.2.2.1), sV ((r7Request mz0 t0 N0 A0 G0 kyk).2.2.2.2.2.1), bV ((r7Request mz0 t0 N0 A0 G0 kyk).2.2.2.2.2.2)], fun g => bV false] (by kernel_rfl) (by kernel_rfl) rfl (trivial) ?_ ?_
          · exact ⟨ob_val fun g w => by kernel_rfl, ob_val fun g w => by kernel_rfl, ob_s (l := fun g => [blkR b29 [iV kdk, sV kyk, iV nnk] 45]) (l' := fun g => [blkR b29 [iV kdk, sV kyk, iV nnk] 45]) (v := fun g => sV kyk) (fun g => o_load (i := 1) (v := sV kyk) (by kernel_rfl) (by kernel_rfl) (by kernel_rfl)) (fun g => by kernel_rfl), ob_s (l := fun g => [srlB b3 nb4 ab5 gb6 mb7 mz0 t0, llR nb4 ns0 n0, llR ab5 cs0 n0, llR gb6 gs0 n0, mapR Value.string markV mb7 ms0]) (l' := fun g => [srlB b3 nb4 ab5 gb6 mb7 mz0 ((srlReq mz0 t0 ns0 cs0 gs0 ms0 kyk).1), llR nb4 ((srlReq mz0 t0 ns0 cs0 gs0 ms0 kyk).2.1) (n0 + cs0.length + 3), llR ab5 ((srlReq mz0 t0 ns0 cs0 gs0 ms0 kyk).2.2.1) (n0 + cs0.length + 3), llR gb6 ((srlReq mz0 t0 ns0 cs0 gs0 ms0 kyk).2.2.2.1) (n0 + cs0.length + 3), mapR Value.string markV mb7 ((srlReq mz0 t0 ns0 cs0 gs0 ms0 kyk).2.2.2.2.1)]) (v := fun g => .agg #[bV ((srlReq mz0 t0 ns0 cs0 gs0 ms0 kyk).2.2.2.2.2.1), sV ((srlReq mz0 t0 ns0 cs0 gs0 ms0 kyk).2.2.2.2.2.2.1), bV ((srlReq mz0 t0 ns0 cs0 gs0 ms0 kyk).2.2.2.2.2.2.2)]) (fun g => o_call (by kernel_rfl) Try.call37 (srl_Request (n := n0) (n' := n0 + cs0.length + 3) (most := mz0) (target := t0) (ns := ns0) (cs := cs0) (gs := gs0) (ms := ms0) kyk (by omega) (by omega) (by omega) (by omega))) (fun g => by kernel_rfl), ob_s (l := fun g => [blkR b41 [bV ((r7Request mz0 t0 N0 A0 G0 kyk).2.2.2.2.1), sV ((r7Request mz0 t0 N0 A0 G0 kyk).2.2.2.2.2.1), bV ((r7Request mz0 t0 N0 A0 G0 kyk).2.2.2.2.2.2)] 27]) (l' := fun g => [blkR b41 [bV ((r7Request mz0 t0 N0 A0 G0 kyk).2.2.2.2.1), sV ((r7Request mz0 t0 N0 A0 G0 kyk).2.2.2.2.2.1), bV ((r7Request mz0 t0 N0 A0 G0 kyk).2.2.2.2.2.2)] 27]) (v := fun g => .agg #[bV ((r7Request mz0 t0 N0 A0 G0 kyk).2.2.2.2.1), sV ((r7Request mz0 t0 N0 A0 G0 kyk).2.2.2.2.2.1), bV ((r7Request mz0 t0 N0 A0 G0 kyk).2.2.2.2.2.2)]) (fun g => o_loadN (i := 0) [bV ((r7Request mz0 t0 N0 A0 G0 kyk).2.2.2.2.1), sV ((r7Request mz0 t0 N0 A0 G0 kyk).2.2.2.2.2.1), bV ((r7Request mz0 t0 N0 A0 G0 kyk).2.2.2.2.2.2)] (by kernel_rfl) (by kernel_rfl) (by kernel_rfl)) (fun g => by kernel_rfl), ob_v (v := fun g => bV false) (fun g => OprV.re (o_eqStep_ne ((srlReq mz0 t0 ns0 cs0 gs0 ms0 kyk).2.2.2.2.2.1) ((r7Request mz0 t0 N0 A0 G0 kyk).2.2.2.2.1) ((srlReq mz0 t0 ns0 cs0 gs0 ms0 kyk).2.2.2.2.2.2.1) ((r7Request mz0 t0 N0 A0 G0 kyk).2.2.2.2.2.1) ((srlReq mz0 t0 ns0 cs0 gs0 ms0 kyk).2.2.2.2.2.2.2) ((r7Request mz0 t0 N0 A0 G0 kyk).2.2.2.2.2.2) (by kernel_rfl) (by kernel_rfl)) (vF (show ¬ (¬ ((srlReq mz0 t0 ns0 cs0 gs0 ms0 kyk).2.2.2.2.2.1 = (r7Request mz0 t0 N0 A0 G0 kyk).2.2.2.2.1 ∧ (srlReq mz0 t0 ns0 cs0 gs0 ms0 kyk).2.2.2.2.2.2.1 = (r7Request mz0 t0 N0 A0 G0 kyk).2.2.2.2.2.1 ∧ (srlReq mz0 t0 ns0 cs0 gs0 ms0 kyk).2.2.2.2.2.2.2 = (r7Request mz0 t0 N0 A0 G0 kyk).2.2.2.2.2.2)) from fun z => z ⟨hQ1, hQ2, hQ3⟩))) (fun g => by kernel_rfl), trivial⟩
          intro g
          refine Ex'.sub (subB_spec [1, 5, 6, 7, 8, 63]) ?_
          refine Ex'.as [0, 1, 2, 3, 4, 5, 6, 7, 8, 9, 10, 11, 12] (σ' := [(1, .slice (some ⟨g27, off28, none⟩) xs.length cap), (5, pV b3 0), (6, pV b18 0), (7, iV (k : Int)), (8, pV b29 0), (63, bV false)]) (Γ' := [oldR w0, srlB b3 nb4 ab5 gb6 mb7 mz0 ((srlReq mz0 t0 ns0 cs0 gs0 ms0 kyk).1), llR nb4 ((srlReq mz0 t0 ns0 cs0 gs0 ms0 kyk).2.1) (n0 + cs0.length + 3), llR ab5 ((srlReq mz0 t0 ns0 cs0 gs0 ms0 kyk).2.2.1) (n0 + cs0.length + 3), llR gb6 ((srlReq mz0 t0 ns0 cs0 gs0 ms0 kyk).2.2.2.1) (n0 + cs0.length + 3), mapR Value.string markV mb7 ((srlReq mz0 t0 ns0 cs0 gs0 ms0 kyk).2.2.2.2.1), blkR b18 [iV mz0, iV ((r7Request mz0 t0 N0 A0 G0 kyk).1), .slice a34 (((r7Request mz0 t0 N0 A0 G0 kyk).2.1).length) c35, .slice a36 (((r7Request mz0 t0 N0 A0 G0 kyk).2.2.1).length) c37, .slice a38 (((r7Request mz0 t0 N0 A0 G0 kyk).2.2.2.1).length) c39] 61, vewR 3 (.slice a34 (((r7Request mz0 t0 N0 A0 G0 kyk).2.1).length) c35) (((r7Request mz0 t0 N0 A0 G0 kyk).2.1).length) (((r7Request mz0 t0 N0 A0 G0 kyk).2.1).flatMap kq7), vewR 3 (.slice a36 (((r7Request mz0 t0 N0 A0 G0 kyk).2.2.1).length) c37) (((r7Request mz0 t0 N0 A0 G0 kyk).2.2.1).length) (((r7Request mz0 t0 N0 A0 G0 kyk).2.2.1).flatMap kq7), vewR 3 (.slice a38 (((r7Request mz0 t0 N0 A0 G0 kyk).2.2.2.1).length) c39) (((r7Request mz0 t0 N0 A0 G0 kyk).2.2.2.1).length) (((r7Request mz0 t0 N0 A0 G0 kyk).2.2.2.1).flatMap kq7), blkR b29 [iV kdk, sV kyk, iV nnk] 45, blkR b40 [iV mz0, iV ((r7Request mz0 t0 N0 A0 G0 kyk).1), .slice a34 (((r7Request mz0 t0 N0 A0 G0 kyk).2.1).length) c35, .slice a36 (((r7Request mz0 t0 N0 A0 G0 kyk).2.2.1).length) c37, .slice a38 (((r7Request mz0 t0 N0 A0 G0 kyk).2.2.2.1).length) c39] 61, blkR b41 [bV ((r7Request mz0 t0 N0 A0 G0 kyk).2.2.2.2.1), sV ((r7Request mz0 t0 N0 A0 G0 kyk).2.2.2.2.2.1), bV ((r7Request mz0 t0 N0 A0 G0 kyk).2.2.2.2.2.2)] 27]) (by kernel_rfl) rfl (by kernel_rfl) (by kernel_rfl) ?_
          refine Ex'.next ?_
          refine Cd.condF (by kernel_rfl) ?_
          refine Cd.skip ?_
          refine Ex'.blockNormal ?_
          refine Ex'.meet (mz0, (srlReq mz0 t0 ns0 cs0 gs0 ms0 kyk).1, (srlReq mz0 t0 ns0 cs0 gs0 ms0 kyk).2.1, (srlReq mz0 t0 ns0 cs0 gs0 ms0 kyk).2.2.1, (srlReq mz0 t0 ns0 cs0 gs0 ms0 kyk).2.2.2.1, (srlReq mz0 t0 ns0 cs0 gs0 ms0 kyk).2.2.2.2.1, n0 + cs0.length + 3, (r7Request mz0 t0 N0 A0 G0 kyk).2.1, .slice a34 (((r7Request mz0 t0 N0 A0 G0 kyk).2.1).length) c35, (r7Request mz0 t0 N0 A0 G0 kyk).2.2.1, .slice a36 (((r7Request mz0 t0 N0 A0 G0 kyk).2.2.1).length) c37, (r7Request mz0 t0 N0 A0 G0 kyk).2.2.2.1, .slice a38 (((r7Request mz0 t0 N0 A0 G0 kyk).2.2.2.1).length) c39) ?_ (subB_eq (l := [1, 5, 6, 7, 8]) (by kernel_rfl)) (fun w hw => (hw.conv 6 (R := blkR b18 [iV mz0, iV ((r7Request mz0 t0 N0 A0 G0 kyk).1), .slice a34 (((r7Request mz0 t0 N0 A0 G0 kyk).2.1).length) c35, .slice a36 (((r7Request mz0 t0 N0 A0 G0 kyk).2.2.1).length) c37, .slice a38 (((r7Request mz0 t0 N0 A0 G0 kyk).2.2.2.1).length) c39] 61) (R' := blkR b18 [iV mz0, iV ((srlReq mz0 t0 ns0 cs0 gs0 ms0 kyk).1), (.slice a34 (((r7Request mz0 t0 N0 A0 G0 kyk).2.1).length) c35), (.slice a36 (((r7Request mz0 t0 N0 A0 G0 kyk).2.2.1).length) c37), (.slice a38 (((r7Request mz0 t0 N0 A0 G0 kyk).2.2.2.1).length) c39)] 61) (by kernel_rfl) (fun w T q => by first | exact q | (rw [← hQ0]; exact q) | (rw [← hZ0, ← hZ1]; exact q))).pickB [0, 1, 2, 3, 4, 5, 6, 7, 8, 9, 10] (by kernel_rfl) (by kernel_rfl) (by kernel_rfl))
          · exact ⟨hI2, by (try dsimp only); omega, by (try dsimp only); omega, by (try dsimp only); omega, by (try dsimp only); omega⟩
        ·
          refine Cd.seq ?_
          refine Cd.region rfl ?_
          refine Sq.v (r := bV (decide (kdk = 1))) (o_eqI (k := .i64) (a := kdk) (b := 1) (by kernel_rfl) (by kernel_rfl)) rfl (by kernel_rfl) ?_
          refine Sq.vals [1] (rest := []) [bV (decide (kdk = 1))] (fun w => by kernel_rfl) ?_
          refine Sq.done ?_
          refine Ex'.next ?_
          refine Cd.case (p := kdk = 1) (by kernel_rfl) (fun h42 => ?_) (fun h42 => ?_)
          ·
            obtain ⟨hI2, hM1⟩ := hI.remove kyk rfl; have hr1 := rem7_le N0 kyk; have hr2 := rem7_le A0 kyk; have hr3 := rem7_le G0 kyk
            have hr4 : (r7Remove mz0 t0 N0 A0 G0 kyk).1.length + (r7Remove mz0 t0 N0 A0 G0 kyk).2.1.length + (r7Remove mz0 t0 N0 A0 G0 kyk).2.2.length ≤ k + 1 := by unfold r7Remove; dsimp only; omega
            refine Cd.seq ?_
            refine Cd.seq ?_
            refine Cd.plan [0, 0, 2, 7, 0, 0, 32, 127, 255] [(2, [(10, false, 0)]), (3, [(1, false, 0), (2, true, 0), (3, true, 0), (4, true, 0), (5, true, 0)]), (4, [(6, false, 0)]), (6, [(10, false, 0)]), (7, [(7, false, 0), (8, false, 0), (9, false, 0)])] [] [] [(2, 3, fun g => llR nb4 ((srlRemove mz0 t0 ns0 cs0 gs0 ms0 kyk).1) n0), (3, 3, fun g => llR ab5 ((srlRemove mz0 t0 ns0 cs0 gs0 ms0 kyk).2.1) n0), (4, 3, fun g => llR gb6 ((srlRemove mz0 t0 ns0 cs0 gs0 ms0 kyk).2.2.1) n0), (5, 3, fun g => mapR Value.string markV mb7 ((srlRemove mz0 t0 ns0 cs0 gs0 ms0 kyk).2.2.2.1))] [fun g => pV b3 0, fun g => pV b29 1, fun g => sV kyk, fun g => bV ((srlRemove mz0 t0 ns0 cs0 gs0 ms0 kyk).2.2.2.2), fun g => .agg #[iV mz0, iV t0, .slice a20 N0.length c21, .slice a22 A0.length c23, .slice a24 G0.length c25], fun g => pV b29 1, fun g => sV kyk, fun g => bV (r7Has mz0 t0 N0 A0 G0 kyk), fun g => bV false] (by kernel_rfl) (by kernel_rfl) rfl (trivial) ?_ ?_
            · exact ⟨ob_val fun g w => by kernel_rfl, ob_val fun g w => by kernel_rfl, ob_s (l := fun g => [blkR b29 [iV kdk, sV kyk, iV nnk] 45]) (l' := fun g => [blkR b29 [iV kdk, sV kyk, iV nnk] 45]) (v := fun g => sV kyk) (fun g => o_load (i := 1) (v := sV kyk) (by kernel_rfl) (by kernel_rfl) (by kernel_rfl)) (fun g => by kernel_rfl), ob_s (l := fun g => [srlB b3 nb4 ab5 gb6 mb7 mz0 t0, llR nb4 ns0 n0, llR ab5 cs0 n0, llR gb6 gs0 n0, mapR Value.string markV mb7 ms0]) (l' := fun g => [srlB b3 nb4 ab5 gb6 mb7 mz0 t0, llR nb4 ((srlRemove mz0 t0 ns0 cs0 gs0 ms0 kyk).1) n0, llR ab5 ((srlRemove mz0 t0 ns0 cs0 gs0 ms0 kyk).2.1) n0, llR gb6 ((srlRemove mz0 t0 ns0 cs0 gs0 ms0 kyk).2.2.1) n0, mapR Value.string markV mb7 ((srlRemove mz0 t0 ns0 cs0 gs0 ms0 kyk).2.2.2.1)]) (v := fun g => bV ((srlRemove mz0 t0 ns0 cs0 gs0 ms0 kyk).2.2.2.2)) (fun g => o_call (by kernel_rfl) Try.call44 (srl_Remove (n := n0) (most := mz0) (target := t0) (ns := ns0) (cs := cs0) (gs := gs0) (ms := ms0) kyk (by omega))) (fun g => by kernel_rfl), ob_s (l := fun g => [blkR b18 [iV mz0, iV t0, .slice a20 N0.length c21, .slice a22 A0.length c23, .slice a24 G0.length c25] 61]) (l' := fun g => [blkR b18 [iV mz0, iV t0, .slice a20 N0.length c21, .slice a22 A0.length c23, .slice a24 G0.length c25] 61]) (v := fun g => .agg #[iV mz0, iV t0, .slice a20 N0.length c21, .slice a22 A0.length c23, .slice a24 G0.length c25]) (fun g => o_loadN (i := 0) [iV mz0, iV t0, .slice a20 N0.length c21, .slice a22 A0.length c23, .slice a24 G0.length c25] (by kernel_rfl) (by kernel_rfl) (by kernel_rfl)) (fun g => by kernel_rfl), ob_val fun g w => by kernel_rfl, ob_s (l := fun g => [blkR b29 [iV kdk, sV kyk, iV nnk] 45]) (l' := fun g => [blkR b29 [iV kdk, sV kyk, iV nnk] 45]) (v := fun g => sV kyk) (fun g => o_load (i := 1) (v := sV kyk) (by kernel_rfl) (by kernel_rfl) (by kernel_rfl)) (fun g => by kernel_rfl), ob_s (l := fun g => [vewR 3 (.slice a20 N0.length c21) N0.length (N0.flatMap kq7), vewR 3 (.slice a22 A0.length c23) A0.length (A0.flatMap kq7), vewR 3 (.slice a24 G0.length c25) G0.length (G0.flatMap kq7)]) (l' := fun g => [vewR 3 (.slice a20 N0.length c21) N0.length (N0.flatMap kq7), vewR 3 (.slice a22 A0.length c23) A0.length (A0.flatMap kq7), vewR 3 (.slice a24 G0.length c25) G0.length (G0.flatMap kq7)]) (v := fun g => bV (r7Has mz0 t0 N0 A0 G0 kyk)) (fun g => o_call (by kernel_rfl) Try.call49 (t_Has07 (cMost := mz0) (cTarget := t0) (cN := N0) (cNa := a20) (cNc := c21) (cA := A0) (cAa := a22) (cAc := c23) (cG := G0) (cGa := a24) (cGc := c25) (s := kyk) (by omega))) (fun g => by kernel_rfl), ob_v (v := fun g => bV false) (fun g => OprV.re (pureV (v := bV (!(((srlRemove mz0 t0 ns0 cs0 gs0 ms0 kyk).2.2.2.2) == (r7Has mz0 t0 N0 A0 G0 kyk)))) (by kernel_rfl) rfl fun w => by kernel_rfl) (congrArg Value.bool (show (!(((srlRemove mz0 t0 ns0 cs0 gs0 ms0 kyk).2.2.2.2) == (r7Has mz0 t0 N0 A0 G0 kyk))) = false from (by rw [hM1]; simp)))) (fun g => by kernel_rfl), trivial⟩
            intro g
            refine Ex'.sub (subB_spec [1, 5, 6, 7, 8, 74]) ?_
            refine Ex'.as [0, 1, 2, 3, 4, 5, 6, 7, 8, 9, 10] (σ' := [(1, .slice (some ⟨g27, off28, none⟩) xs.length cap), (5, pV b3 0), (6, pV b18 0), (7, iV (k : Int)), (8, pV b29 0), (74, bV false)]) (Γ' := [oldR w0, srlB b3 nb4 ab5 gb6 mb7 mz0 t0, llR nb4 ((srlRemove mz0 t0 ns0 cs0 gs0 ms0 kyk).1) n0, llR ab5 ((srlRemove mz0 t0 ns0 cs0 gs0 ms0 kyk).2.1) n0, llR gb6 ((srlRemove mz0 t0 ns0 cs0 gs0 ms0 kyk).2.2.1) n0, mapR Value.string markV mb7 ((srlRemove mz0 t0 ns0 cs0 gs0 ms0 kyk).2.2.2.1), blkR b18 [iV mz0, iV t0, .slice a20 N0.length c21, .slice a22 A0.length c23, .slice a24 G0.length c25] 61, vewR 3 (.slice a20 N0.length c21) N0.length (N0.flatMap kq7), vewR 3 (.slice a22 A0.length c23) A0.length (A0.flatMap kq7), vewR 3 (.slice a24 G0.length c25) G0.length (G0.flatMap kq7), blkR b29 [iV kdk, sV kyk, iV nnk] 45]) (by kernel_rfl) rfl (by kernel_rfl) (by kernel_rfl) ?_
            refine Ex'.next ?_
            refine Cd.condF (by kernel_rfl) ?_
            refine Cd.skip ?_
            refine Ex'.next ?_
            refine Cd.region rfl ?_
            refine Sq.same [6] (l := [blkR b18 [iV mz0, iV t0, .slice a20 N0.length c21, .slice a22 A0.length c23, .slice a24 G0.length c25] 61]) (o_loadN (i := 0) [iV mz0, iV t0, .slice a20 N0.length c21, .slice a22 A0.length c23, .slice a24 G0.length c25] (by kernel_rfl) (by kernel_rfl) (by kernel_rfl)) (by kernel_rfl) rfl (by kernel_rfl) rfl ?_
            refine Sq.vals [1] (rest := [2, 3, 4]) [pV b29 1] (fun w => by kernel_rfl) ?_
            refine Sq.same [10] (l := [blkR b29 [iV kdk, sV kyk, iV nnk] 45]) (o_load (i := 1) (v := sV kyk) (by kernel_rfl) (by kernel_rfl) (by kernel_rfl)) (by kernel_rfl) rfl (by kernel_rfl) rfl ?_
            refine Sq.ex [7, 8, 9] (l := [vewR 3 (.slice a20 N0.length c21) N0.length (N0.flatMap kq7), vewR 3 (.slice a22 A0.length c23) A0.length (A0.flatMap kq7), vewR 3 (.slice a24 G0.length c25) G0.length (G0.flatMap kq7)]) (o_call (by kernel_rfl) Try.call50 (t_Remove07 (cMost := mz0) (cTarget := t0) (cN := N0) (cNa := a20) (cNc := c21) (cA := A0) (cAa := a22) (cAc := c23) (cG := G0) (cGa := a24) (cGc := c25) (s := kyk) (by omega))) (by kernel_rfl) rfl (by kernel_rfl) (fun _ => Nat.le_of_ble_eq_true (by kernel_rfl)) ?_; rintro ⟨v43, v44, v45⟩ _
            refine Sq.fact (i := 7) (R := vewR 3 v43 (((r7Remove mz0 t0 N0 A0 G0 kyk).1).length) (((r7Remove mz0 t0 N0 A0 G0 kyk).1).flatMap kq7)) (by kernel_rfl) vew_slice ?_; rintro ⟨a46, c47, rfl, hc47, hc47'⟩
            have hc47'' : c47 ≤ 9223372036854775807 := hc47'
            refine Sq.fact (i := 8) (R := vewR 3 v44 (((r7Remove mz0 t0 N0 A0 G0 kyk).2.1).length) (((r7Remove mz0 t0 N0 A0 G0 kyk).2.1).flatMap kq7)) (by kernel_rfl) vew_slice ?_; rintro ⟨a48, c49, rfl, hc49, hc49'⟩
            have hc49'' : c49 ≤ 9223372036854775807 := hc49'
            refine Sq.fact (i := 9) (R := vewR 3 v45 (((r7Remove mz0 t0 N0 A0 G0 kyk).2.2).length) (((r7Remove mz0 t0 N0 A0 G0 kyk).2.2).flatMap kq7)) (by kernel_rfl) vew_slice ?_; rintro ⟨a50, c51, rfl, hc51, hc51'⟩
            have hc51'' : c51 ≤ 9223372036854775807 := hc51'
            refine Sq.same [6] (l := [blkR b18 [iV mz0, iV t0, .slice a20 N0.length c21, .slice a22 A0.length c23, .slice a24 G0.length c25] 61]) (o_store (i := 0) (v := .agg #[iV mz0, iV t0, .slice a46 (((r7Remove mz0 t0 N0 A0 G0 kyk).1).length) c47, .slice a48 (((r7Remove mz0 t0 N0 A0 G0 kyk).2.1).length) c49, .slice a50 (((r7Remove mz0 t0 N0 A0 G0 kyk).2.2).length) c51]) (by kernel_rfl) (by kernel_rfl) (by kernel_rfl) (by kernel_rfl) (by kernel_rfl)) (by kernel_rfl) rfl (by kernel_rfl) rfl ?_
            refine Sq.done ?_
            refine Ex'.blockNormal ?_
            refine Ex'.meet (mz0, t0, (srlRemove mz0 t0 ns0 cs0 gs0 ms0 kyk).1, (srlRemove mz0 t0 ns0 cs0 gs0 ms0 kyk).2.1, (srlRemove mz0 t0 ns0 cs0 gs0 ms0 kyk).2.2.1, (srlRemove mz0 t0 ns0 cs0 gs0 ms0 kyk).2.2.2.1, n0, (r7Remove mz0 t0 N0 A0 G0 kyk).1, .slice a46 (((r7Remove mz0 t0 N0 A0 G0 kyk).1).length) c47, (r7Remove mz0 t0 N0 A0 G0 kyk).2.1, .slice a48 (((r7Remove mz0 t0 N0 A0 G0 kyk).2.1).length) c49, (r7Remove mz0 t0 N0 A0 G0 kyk).2.2, .slice a50 (((r7Remove mz0 t0 N0 A0 G0 kyk).2.2).length) c51) ?_ (subB_eq (l := [1, 5, 6, 7, 8]) (by kernel_rfl)) (fun w hw => hw.pickB [0, 1, 2, 3, 4, 5, 6, 7, 8, 9, 10] (by kernel_rfl) (by kernel_rfl) (by kernel_rfl))
            · exact ⟨hI2, by (try dsimp only); omega, by (try dsimp only); omega, by (try dsimp only); omega, by (try dsimp only); omega⟩
          ·
            refine Cd.seq ?_
            refine Cd.region rfl ?_
            refine Sq.v (r := bV (decide (kdk = 2))) (o_eqI (k := .i64) (a := kdk) (b := 2) (by kernel_rfl) (by kernel_rfl)) rfl (by kernel_rfl) ?_
            refine Sq.vals [1] (rest := []) [bV (decide (kdk = 2))] (fun w => by kernel_rfl) ?_
            refine Sq.done ?_
            refine Ex'.next ?_
            refine Cd.case (p := kdk = 2) (by kernel_rfl) (fun h52 => ?_) (fun h52 => ?_)
            ·
              obtain ⟨hI2, hM1⟩ := hI.adopt kyk rfl; have hr4 := r7Adopt_tot (most := mz0) (t := t0) (N := N0) (A := A0) (G := G0) (key := kyk) rfl
              refine Cd.seq ?_
              refine Cd.region rfl ?_
              refine Sq.same [6] (l := [blkR b18 [iV mz0, iV t0, .slice a20 N0.length c21, .slice a22 A0.length c23, .slice a24 G0.length c25] 61]) (o_loadN (i := 0) [iV mz0, iV t0, .slice a20 N0.length c21, .slice a22 A0.length c23, .slice a24 G0.length c25] (by kernel_rfl) (by kernel_rfl) (by kernel_rfl)) (by kernel_rfl) rfl (by kernel_rfl) rfl ?_
              refine Sq.vals [1] (rest := [2, 3, 4, 5, 6, 7, 8, 9]) [pV b29 1] (fun w => by kernel_rfl) ?_
              refine Sq.same [10] (l := [blkR b29 [iV kdk, sV kyk, iV nnk] 45]) (o_load (i := 1) (v := sV kyk) (by kernel_rfl) (by kernel_rfl) (by kernel_rfl)) (by kernel_rfl) rfl (by kernel_rfl) rfl ?_
              refine Sq.ex [7, 8, 9] (l := [vewR 3 (.slice a20 N0.length c21) N0.length (N0.flatMap kq7), vewR 3 (.slice a22 A0.length c23) A0.length (A0.flatMap kq7), vewR 3 (.slice a24 G0.length c25) G0.length (G0.flatMap kq7)]) (o_call (by kernel_rfl) Try.call51 (t_Adopt07 (cMost := mz0) (cTarget := t0) (cN := N0) (cNa := a20) (cNc := c21) (cA := A0) (cAa := a22) (cAc := c23) (cG := G0) (cGa := a24) (cGc := c25) (s := kyk) (by omega))) (by kernel_rfl) rfl (by kernel_rfl) (fun _ => Nat.le_of_ble_eq_true (by kernel_rfl)) ?_; rintro ⟨v53, v54, v55⟩ _
              refine Sq.fact (i := 7) (R := vewR 3 v53 (((r7Adopt mz0 t0 N0 A0 G0 kyk).1).length) (((r7Adopt mz0 t0 N0 A0 G0 kyk).1).flatMap kq7)) (by kernel_rfl) vew_slice ?_; rintro ⟨a56, c57, rfl, hc57, hc57'⟩
              have hc57'' : c57 ≤ 9223372036854775807 := hc57'
              refine Sq.fact (i := 8) (R := vewR 3 v54 (((r7Adopt mz0 t0 N0 A0 G0 kyk).2.1).length) (((r7Adopt mz0 t0 N0 A0 G0 kyk).2.1).flatMap kq7)) (by kernel_rfl) vew_slice ?_; rintro ⟨a58, c59, rfl, hc59, hc59'⟩
              have hc59'' : c59 ≤ 9223372036854775807 := hc59'
              refine Sq.fact (i := 9) (R := vewR 3 v55 (((r7Adopt mz0 t0 N0 A0 G0 kyk).2.2.1).length) (((r7Adopt mz0 t0 N0 A0 G0 kyk).2.2.1).flatMap kq7)) (by kernel_rfl) vew_slice ?_; rintro ⟨a60, c61, rfl, hc61, hc61'⟩
              have hc61'' : c61 ≤ 9223372036854775807 := hc61'
              refine Sq.vals [4, 5, 6] (rest := [7, 8, 9]) [.tuple #[.agg #[iV mz0, iV t0, .slice a56 (((r7Adopt mz0 t0 N0 A0 G0 kyk).1).length) c57, .slice a58 (((r7Adopt mz0 t0 N0 A0 G0 kyk).2.1).length) c59, .slice a60 (((r7Adopt mz0 t0 N0 A0 G0 kyk).2.2.1).length) c61], bV ((r7Adopt mz0 t0 N0 A0 G0 kyk).2.2.2)], .agg #[iV mz0, iV t0, .slice a56 (((r7Adopt mz0 t0 N0 A0 G0 kyk).1).length) c57, .slice a58 (((r7Adopt mz0 t0 N0 A0 G0 kyk).2.1).length) c59, .slice a60 (((r7Adopt mz0 t0 N0 A0 G0 kyk).2.2.1).length) c61], bV ((r7Adopt mz0 t0 N0 A0 G0 kyk).2.2.2)] (fun w => by kernel_rfl) ?_
              refine Sq.ex [] (l := []) (o_new [iV 0, iV 0, .slice none 0 0, .slice none 0 0, .slice none 0 0] (fun w => by kernel_rfl)) (by kernel_rfl) rfl (by kernel_rfl) (fun _ => Nat.zero_le _) ?_; intro b62 _
              refine Sq.same [11] (l := [blkR b62 [iV 0, iV 0, .slice none 0 0, .slice none 0 0, .slice none 0 0] 61]) (o_store (i := 0) (v := .agg #[iV mz0, iV t0, .slice a56 (((r7Adopt mz0 t0 N0 A0 G0 kyk).1).length) c57, .slice a58 (((r7Adopt mz0 t0 N0 A0 G0 kyk).2.1).length) c59, .slice a60 (((r7Adopt mz0 t0 N0 A0 G0 kyk).2.2.1).length) c61]) (by kernel_rfl) (by kernel_rfl) (by kernel_rfl) (by kernel_rfl) (by kernel_rfl)) (by kernel_rfl) rfl (by kernel_rfl) rfl ?_
              refine Sq.vals [9] (rest := []) [bV ((r7Adopt mz0 t0 N0 A0 G0 kyk).2.2.2)] (fun w => by kernel_rfl) ?_
              refine Sq.done ?_
              refine Ex'.next ?_
              refine Cd.seq ?_
              refine Cd.region rfl ?_
              refine Sq.same [11] (l := [blkR b62 [iV mz0, iV t0, .slice a56 (((r7Adopt mz0 t0 N0 A0 G0 kyk).1).length) c57, .slice a58 (((r7Adopt mz0 t0 N0 A0 G0 kyk).2.1).length) c59, .slice a60 (((r7Adopt mz0 t0 N0 A0 G0 kyk).2.2.1).length) c61] 61]) (o_loadN (i := 0) [iV mz0, iV t0, .slice a56 (((r7Adopt mz0 t0 N0 A0 G0 kyk).1).length) c57, .slice a58 (((r7Adopt mz0 t0 N0 A0 G0 kyk).2.1).length) c59, .slice a60 (((r7Adopt mz0 t0 N0 A0 G0 kyk).2.2.1).length) c61] (by kernel_rfl) (by kernel_rfl) (by kernel_rfl)) (by kernel_rfl) rfl (by kernel_rfl) rfl ?_
              refine Sq.same [6] (l := [blkR b18 [iV mz0, iV t0, .slice a20 N0.length c21, .slice a22 A0.length c23, .slice a24 G0.length c25] 61]) (o_store (i := 0) (v := .agg #[iV mz0, iV t0, .slice a56 (((r7Adopt mz0 t0 N0 A0 G0 kyk).1).length) c57, .slice a58 (((r7Adopt mz0 t0 N0 A0 G0 kyk).2.1).length) c59, .slice a60 (((r7Adopt mz0 t0 N0 A0 G0 kyk).2.2.1).length) c61]) (by kernel_rfl) (by kernel_rfl) (by kernel_rfl) (by kernel_rfl) (by kernel_rfl)) (by kernel_rfl) rfl (by kernel_rfl) rfl ?_
              refine Sq.done ?_
              refine Ex'.next ?_
              refine Cd.seq ?_
              refine Cd.region rfl ?_
              refine Sq.vals [0, 1] (rest := [2, 3, 4, 5]) [pV b3 0, pV b29 1] (fun w => by kernel_rfl) ?_
              refine Sq.same [10] (l := [blkR b29 [iV kdk, sV kyk, iV nnk] 45]) (o_load (i := 1) (v := sV kyk) (by kernel_rfl) (by kernel_rfl) (by kernel_rfl)) (by kernel_rfl) rfl (by kernel_rfl) rfl ?_
              refine Sq.same [1, 2, 3, 4, 5] (l := srlL b3 nb4 ab5 gb6 mb7 mz0 t0 ns0 cs0 gs0 ms0 n0) (o_call (by kernel_rfl) Try.call45 (srl_Adopt (n := n0) (n' := n0 + 1) (most := mz0) (target := t0) (ns := ns0) (cs := cs0) (gs := gs0) (ms := ms0) kyk (by omega) (by omega))) (by kernel_rfl) rfl (by kernel_rfl) rfl ?_
              refine Sq.vals [4, 5] (rest := []) [bV ((r7Adopt mz0 t0 N0 A0 G0 kyk).2.2.2), bV (!(((srlAdopt mz0 t0 ns0 cs0 gs0 ms0 kyk).2.2.2) == ((r7Adopt mz0 t0 N0 A0 G0 kyk).2.2.2)))] (fun w => by kernel_rfl) ?_
              refine Sq.done ?_
              refine Ex'.next ?_
              refine Cd.condF (by rw [show ev _ _ = some (.bool ((!(((srlAdopt mz0 t0 ns0 cs0 gs0 ms0 kyk).2.2.2) == ((r7Adopt mz0 t0 N0 A0 G0 kyk).2.2.2))))) from by kernel_rfl, show (!(((srlAdopt mz0 t0 ns0 cs0 gs0 ms0 kyk).2.2.2) == ((r7Adopt mz0 t0 N0 A0 G0 kyk).2.2.2))) = false from (by rw [hM1]; simp)]) ?_
              refine Cd.skip ?_
              refine Ex'.blockNormal ?_
              refine Ex'.meet (mz0, t0, (srlAdopt mz0 t0 ns0 cs0 gs0 ms0 kyk).1, cs0, (srlAdopt mz0 t0 ns0 cs0 gs0 ms0 kyk).2.1, (srlAdopt mz0 t0 ns0 cs0 gs0 ms0 kyk).2.2.1, n0 + 1, (r7Adopt mz0 t0 N0 A0 G0 kyk).1, .slice a56 (((r7Adopt mz0 t0 N0 A0 G0 kyk).1).length) c57, (r7Adopt mz0 t0 N0 A0 G0 kyk).2.1, .slice a58 (((r7Adopt mz0 t0 N0 A0 G0 kyk).2.1).length) c59, (r7Adopt mz0 t0 N0 A0 G0 kyk).2.2.1, .slice a60 (((r7Adopt mz0 t0 N0 A0 G0 kyk).2.2.1).length) c61) ?_ (subB_eq (l := [1, 5, 6, 7, 8]) (by kernel_rfl)) (fun w hw => hw.pickB [0, 1, 2, 3, 4, 5, 6, 7, 8, 9, 10] (by kernel_rfl) (by kernel_rfl) (by kernel_rfl))
              · exact ⟨hI2, by (try dsimp only); omega, by (try dsimp only); omega, by (try dsimp only); omega, by (try dsimp only); omega⟩
            ·
              refine Cd.seq ?_
              refine Cd.region rfl ?_
              refine Sq.v (r := bV (decide (kdk = 3))) (o_eqI (k := .i64) (a := kdk) (b := 3) (by kernel_rfl) (by kernel_rfl)) rfl (by kernel_rfl) ?_
              refine Sq.vals [1] (rest := []) [bV (decide (kdk = 3))] (fun w => by kernel_rfl) ?_
              refine Sq.done ?_
              refine Ex'.next ?_
              refine Cd.case (p := kdk = 3) (by kernel_rfl) (fun h64 => ?_) (fun h64 => ?_)
              ·
                obtain ⟨hI2, hM1, hM2⟩ := hI.drop rfl; have hr4 := r7Drop_tot (most := mz0) (t := t0) (N := N0) (A := A0) (G := G0) rfl
                refine Cd.seq ?_
                refine Cd.region rfl ?_
                refine Sq.vals [0] (rest := [1, 2, 3, 4, 5, 6]) [pV b3 0] (fun w => by kernel_rfl) ?_
                refine Sq.same [1, 2, 3, 4, 5] (l := srlL b3 nb4 ab5 gb6 mb7 mz0 t0 ns0 cs0 gs0 ms0 n0) (o_call (by kernel_rfl) Try.call46 (srl_Drop (n := n0) (most := mz0) (target := t0) (ns := ns0) (cs := cs0) (gs := gs0) (ms := ms0) (by omega))) (by kernel_rfl) rfl (by kernel_rfl) rfl ?_
                refine Sq.vals [2, 3, 4, 5, 6] (rest := []) [.tuple #[sV ((srlDrop mz0 t0 ns0 cs0 gs0 ms0).2.2.2.1), bV ((srlDrop mz0 t0 ns0 cs0 gs0 ms0).2.2.2.2)], sV ((srlDrop mz0 t0 ns0 cs0 gs0 ms0).2.2.2.1), bV ((srlDrop mz0 t0 ns0 cs0 gs0 ms0).2.2.2.2), sV ((srlDrop mz0 t0 ns0 cs0 gs0 ms0).2.2.2.1), bV ((srlDrop mz0 t0 ns0 cs0 gs0 ms0).2.2.2.2)] (fun w => by kernel_rfl) ?_
                refine Sq.done ?_
                refine Ex'.next ?_
                refine Cd.seq ?_
                refine Cd.region rfl ?_
                refine Sq.same [6] (l := [blkR b18 [iV mz0, iV t0, .slice a20 N0.length c21, .slice a22 A0.length c23, .slice a24 G0.length c25] 61]) (o_loadN (i := 0) [iV mz0, iV t0, .slice a20 N0.length c21, .slice a22 A0.length c23, .slice a24 G0.length c25] (by kernel_rfl) (by kernel_rfl) (by kernel_rfl)) (by kernel_rfl) rfl (by kernel_rfl) rfl ?_
                refine Sq.ex [7, 8, 9] (l := [vewR 3 (.slice a20 N0.length c21) N0.length (N0.flatMap kq7), vewR 3 (.slice a22 A0.length c23) A0.length (A0.flatMap kq7), vewR 3 (.slice a24 G0.length c25) G0.length (G0.flatMap kq7)]) (o_call (by kernel_rfl) Try.call52 (t_Drop07 (cMost := mz0) (cTarget := t0) (cN := N0) (cNa := a20) (cNc := c21) (cA := A0) (cAa := a22) (cAc := c23) (cG := G0) (cGa := a24) (cGc := c25) (by omega))) (by kernel_rfl) rfl (by kernel_rfl) (fun _ => Nat.le_of_ble_eq_true (by kernel_rfl)) ?_; rintro ⟨v65, v66, v67⟩ _
                refine Sq.fact (i := 7) (R := vewR 3 v65 (((r7Drop mz0 t0 N0 A0 G0).1).length) (((r7Drop mz0 t0 N0 A0 G0).1).flatMap kq7)) (by kernel_rfl) vew_slice ?_; rintro ⟨a68, c69, rfl, hc69, hc69'⟩
                have hc69'' : c69 ≤ 9223372036854775807 := hc69'
                refine Sq.fact (i := 8) (R := vewR 3 v66 (((r7Drop mz0 t0 N0 A0 G0).2.1).length) (((r7Drop mz0 t0 N0 A0 G0).2.1).flatMap kq7)) (by kernel_rfl) vew_slice ?_; rintro ⟨a70, c71, rfl, hc71, hc71'⟩
                have hc71'' : c71 ≤ 9223372036854775807 := hc71'
                refine Sq.fact (i := 9) (R := vewR 3 v67 (((r7Drop mz0 t0 N0 A0 G0).2.2.1).length) (((r7Drop mz0 t0 N0 A0 G0).2.2.1).flatMap kq7)) (by kernel_rfl) vew_slice ?_; rintro ⟨a72, c73, rfl, hc73, hc73'⟩
                have hc73'' : c73 ≤ 9223372036854775807 := hc73'
                refine Sq.vals [2, 3, 4, 5] (rest := [6, 7, 8, 9]) [.tuple #[.agg #[iV mz0, iV t0, .slice a68 (((r7Drop mz0 t0 N0 A0 G0).1).length) c69, .slice a70 (((r7Drop mz0 t0 N0 A0 G0).2.1).length) c71, .slice a72 (((r7Drop mz0 t0 N0 A0 G0).2.2.1).length) c73], sV ((r7Drop mz0 t0 N0 A0 G0).2.2.2.1), bV ((r7Drop mz0 t0 N0 A0 G0).2.2.2.2)], .agg #[iV mz0, iV t0, .slice a68 (((r7Drop mz0 t0 N0 A0 G0).1).length) c69, .slice a70 (((r7Drop mz0 t0 N0 A0 G0).2.1).length) c71, .slice a72 (((r7Drop mz0 t0 N0 A0 G0).2.2.1).length) c73], sV ((r7Drop mz0 t0 N0 A0 G0).2.2.2.1), bV ((r7Drop mz0 t0 N0 A0 G0).2.2.2.2)] (fun w => by kernel_rfl) ?_
                refine Sq.ex [] (l := []) (o_new [iV 0, iV 0, .slice none 0 0, .slice none 0 0, .slice none 0 0] (fun w => by kernel_rfl)) (by kernel_rfl) rfl (by kernel_rfl) (fun _ => Nat.zero_le _) ?_; intro b74 _
                refine Sq.same [11] (l := [blkR b74 [iV 0, iV 0, .slice none 0 0, .slice none 0 0, .slice none 0 0] 61]) (o_store (i := 0) (v := .agg #[iV mz0, iV t0, .slice a68 (((r7Drop mz0 t0 N0 A0 G0).1).length) c69, .slice a70 (((r7Drop mz0 t0 N0 A0 G0).2.1).length) c71, .slice a72 (((r7Drop mz0 t0 N0 A0 G0).2.2.1).length) c73]) (by kernel_rfl) (by kernel_rfl) (by kernel_rfl) (by kernel_rfl) (by kernel_rfl)) (by kernel_rfl) rfl (by kernel_rfl) rfl ?_
                refine Sq.vals [8, 9] (rest := []) [sV ((r7Drop mz0 t0 N0 A0 G0).2.2.2.1), bV ((r7Drop mz0 t0 N0 A0 G0).2.2.2.2)] (fun w => by kernel_rfl) ?_
                refine Sq.done ?_
                refine Ex'.next ?_
                refine Cd.seq ?_
                refine Cd.region rfl ?_
                refine Sq.same [11] (l := [blkR b74 [iV mz0, iV t0, .slice a68 (((r7Drop mz0 t0 N0 A0 G0).1).length) c69, .slice a70 (((r7Drop mz0 t0 N0 A0 G0).2.1).length) c71, .slice a72 (((r7Drop mz0 t0 N0 A0 G0).2.2.1).length) c73] 61]) (o_loadN (i := 0) [iV mz0, iV t0, .slice a68 (((r7Drop mz0 t0 N0 A0 G0).1).length) c69, .slice a70 (((r7Drop mz0 t0 N0 A0 G0).2.1).length) c71, .slice a72 (((r7Drop mz0 t0 N0 A0 G0).2.2.1).length) c73] (by kernel_rfl) (by kernel_rfl) (by kernel_rfl)) (by kernel_rfl) rfl (by kernel_rfl) rfl ?_
                refine Sq.same [6] (l := [blkR b18 [iV mz0, iV t0, .slice a20 N0.length c21, .slice a22 A0.length c23, .slice a24 G0.length c25] 61]) (o_store (i := 0) (v := .agg #[iV mz0, iV t0, .slice a68 (((r7Drop mz0 t0 N0 A0 G0).1).length) c69, .slice a70 (((r7Drop mz0 t0 N0 A0 G0).2.1).length) c71, .slice a72 (((r7Drop mz0 t0 N0 A0 G0).2.2.1).length) c73]) (by kernel_rfl) (by kernel_rfl) (by kernel_rfl) (by kernel_rfl) (by kernel_rfl)) (by kernel_rfl) rfl (by kernel_rfl) rfl ?_
                refine Sq.done ?_
                refine Ex'.next ?_
                refine Cd.seq ?_
                refine Cd.region rfl ?_
                refine Sq.vals [0, 1] (rest := [2, 3, 4, 5, 6, 7]) [sV ((srlDrop mz0 t0 ns0 cs0 gs0 ms0).2.2.2.1), sV ((r7Drop mz0 t0 N0 A0 G0).2.2.2.1)] (fun w => by kernel_rfl) ?_
                refine Sq.v (r := bV (decide ((srlDrop mz0 t0 ns0 cs0 gs0 ms0).2.2.2.1 ≠ (r7Drop mz0 t0 N0 A0 G0).2.2.2.1))) (o_neS (a := (srlDrop mz0 t0 ns0 cs0 gs0 ms0).2.2.2.1) (b := (r7Drop mz0 t0 N0 A0 G0).2.2.2.1) (by kernel_rfl) (by kernel_rfl)) rfl (by kernel_rfl) ?_
                refine Sq.re 111 rfl (vF (fun z => z hM1)) ?_
                refine Sq.vals [3, 4, 5, 6, 7] (rest := []) [bV false, bV ((srlDrop mz0 t0 ns0 cs0 gs0 ms0).2.2.2.2), bV ((r7Drop mz0 t0 N0 A0 G0).2.2.2.2), bV (!(((srlDrop mz0 t0 ns0 cs0 gs0 ms0).2.2.2.2) == ((r7Drop mz0 t0 N0 A0 G0).2.2.2.2))), bV (!(((srlDrop mz0 t0 ns0 cs0 gs0 ms0).2.2.2.2) == ((r7Drop mz0 t0 N0 A0 G0).2.2.2.2)))] (fun w => by kernel_rfl) ?_
                refine Sq.done ?_
                refine Ex'.next ?_
                refine Cd.condF (by rw [show ev _ _ = some (.bool ((!(((srlDrop mz0 t0 ns0 cs0 gs0 ms0).2.2.2.2) == ((r7Drop mz0 t0 N0 A0 G0).2.2.2.2))))) from by kernel_rfl, show (!(((srlDrop mz0 t0 ns0 cs0 gs0 ms0).2.2.2.2) == ((r7Drop mz0 t0 N0 A0 G0).2.2.2.2))) = false from (by rw [hM2]; simp)]) ?_
                refine Cd.skip ?_
                refine Ex'.blockNormal ?_
                refine Ex'.meet (mz0, t0, (srlDrop mz0 t0 ns0 cs0 gs0 ms0).1, (srlDrop mz0 t0 ns0 cs0 gs0 ms0).2.1, gs0, (srlDrop mz0 t0 ns0 cs0 gs0 ms0).2.2.1, n0, (r7Drop mz0 t0 N0 A0 G0).1, .slice a68 (((r7Drop mz0 t0 N0 A0 G0).1).length) c69, (r7Drop mz0 t0 N0 A0 G0).2.1, .slice a70 (((r7Drop mz0 t0 N0 A0 G0).2.1).length) c71, (r7Drop mz0 t0 N0 A0 G0).2.2.1, .slice a72 (((r7Drop mz0 t0 N0 A0 G0).2.2.1).length) c73) ?_ (subB_eq (l := [1, 5, 6, 7, 8]) (by kernel_rfl)) (fun w hw => hw.pickB [0, 1, 2, 3, 4, 5, 6, 7, 8, 9, 10] (by kernel_rfl) (by kernel_rfl) (by kernel_rfl))
                · exact ⟨hI2, by (try dsimp only); omega, by (try dsimp only); omega, by (try dsimp only); omega, by (try dsimp only); omega⟩
              ·
                refine Cd.seq ?_
                refine Cd.region rfl ?_
                refine Sq.v (r := bV (decide (kdk = 4))) (o_eqI (k := .i64) (a := kdk) (b := 4) (by kernel_rfl) (by kernel_rfl)) rfl (by kernel_rfl) ?_
                refine Sq.vals [1] (rest := []) [bV (decide (kdk = 4))] (fun w => by kernel_rfl) ?_
                refine Sq.done ?_
                refine Ex'.next ?_
                refine Cd.case (p := kdk = 4) (by kernel_rfl) (fun h76 => ?_) (fun h76 => ?_)
                ·
                  obtain ⟨hI2, hZ0, hZ1, hM1, hZ2⟩ := hI.resize nnk rfl rfl; have hr4 := r7Resize_tot (most := mz0) (t := t0) (N := N0) (A := A0) (G := G0) (mo := nnk) rfl
                  have hZ3 : (srlResize mz0 t0 ns0 cs0 gs0 ms0 nnk).1 ≤ 9223372036854775807 := by rw [hZ2]; split <;> omega
                  have hZ4 : (srlResize mz0 t0 ns0 cs0 gs0 ms0 nnk).2.1 ≤ t0 := by unfold srlResize; dsimp only; split <;> split <;> omega
                  refine Cd.seq ?_
                  refine Cd.region rfl ?_
                  refine Sq.same [6] (l := [blkR b18 [iV mz0, iV t0, .slice a20 N0.length c21, .slice a22 A0.length c23, .slice a24 G0.length c25] 61]) (o_loadN (i := 0) [iV mz0, iV t0, .slice a20 N0.length c21, .slice a22 A0.length c23, .slice a24 G0.length c25] (by kernel_rfl) (by kernel_rfl) (by kernel_rfl)) (by kernel_rfl) rfl (by kernel_rfl) rfl ?_
                  refine Sq.vals [1] (rest := [2, 3, 4, 5, 6, 7, 8, 9]) [pV b29 2] (fun w => by kernel_rfl) ?_
                  refine Sq.same [10] (l := [blkR b29 [iV kdk, sV kyk, iV nnk] 45]) (o_load (i := 2) (v := iV nnk) (by kernel_rfl) (by kernel_rfl) (by kernel_rfl)) (by kernel_rfl) rfl (by kernel_rfl) rfl ?_
                  refine Sq.ex [7, 8, 9] (l := [vewR 3 (.slice a20 N0.length c21) N0.length (N0.flatMap kq7), vewR 3 (.slice a22 A0.length c23) A0.length (A0.flatMap kq7), vewR 3 (.slice a24 G0.length c25) G0.length (G0.flatMap kq7)]) (o_call (by kernel_rfl) Try.call53 (t_Resize07 (cMost := mz0) (cTarget := t0) (cN := N0) (cNa := a20) (cNc := c21) (cA := A0) (cAa := a22) (cAc := c23) (cG := G0) (cGa := a24) (cGc := c25) (most := nnk) (by omega) (by omega))) (by kernel_rfl) rfl (by kernel_rfl) (fun _ => Nat.le_of_ble_eq_true (by kernel_rfl)) ?_; rintro ⟨v77, v78, v79, v80⟩ _
                  refine Sq.fact (i := 7) (R := vewR 3 v77 (((r7Resize mz0 t0 N0 A0 G0 nnk).2.2.1).length) (((r7Resize mz0 t0 N0 A0 G0 nnk).2.2.1).flatMap kq7)) (by kernel_rfl) vew_slice ?_; rintro ⟨a81, c82, rfl, hc82, hc82'⟩
                  have hc82'' : c82 ≤ 9223372036854775807 := hc82'
                  refine Sq.fact (i := 8) (R := vewR 3 v78 (((r7Resize mz0 t0 N0 A0 G0 nnk).2.2.2.1).length) (((r7Resize mz0 t0 N0 A0 G0 nnk).2.2.2.1).flatMap kq7)) (by kernel_rfl) vew_slice ?_; rintro ⟨a83, c84, rfl, hc84, hc84'⟩
                  have hc84'' : c84 ≤ 9223372036854775807 := hc84'
                  refine Sq.fact (i := 9) (R := vewR 3 v79 (((r7Resize mz0 t0 N0 A0 G0 nnk).2.2.2.2.1).length) (((r7Resize mz0 t0 N0 A0 G0 nnk).2.2.2.2.1).flatMap kq7)) (by kernel_rfl) vew_slice ?_; rintro ⟨a85, c86, rfl, hc86, hc86'⟩
                  have hc86'' : c86 ≤ 9223372036854775807 := hc86'
                  refine Sq.fact (i := 11) (R := rowR 9 1 v80 (((r7Resize mz0 t0 N0 A0 G0 nnk).2.2.2.2.2).length) (((r7Resize mz0 t0 N0 A0 G0 nnk).2.2.2.2.2).map Value.string)) (by kernel_rfl) row_slice ?_; rintro ⟨a87, c88, rfl, hc88, hc88'⟩
                  have hc88'' : c88 ≤ 9223372036854775807 := hc88'
                  refine Sq.vals [4, 5, 6] (rest := [7, 8, 9]) [.tuple #[.agg #[iV ((r7Resize mz0 t0 N0 A0 G0 nnk).1), iV ((r7Resize mz0 t0 N0 A0 G0 nnk).2.1), .slice a81 (((r7Resize mz0 t0 N0 A0 G0 nnk).2.2.1).length) c82, .slice a83 (((r7Resize mz0 t0 N0 A0 G0 nnk).2.2.2.1).length) c84, .slice a85 (((r7Resize mz0 t0 N0 A0 G0 nnk).2.2.2.2.1).length) c86], .slice a87 (((r7Resize mz0 t0 N0 A0 G0 nnk).2.2.2.2.2).length) c88], .agg #[iV ((r7Resize mz0 t0 N0 A0 G0 nnk).1), iV ((r7Resize mz0 t0 N0 A0 G0 nnk).2.1), .slice a81 (((r7Resize mz0 t0 N0 A0 G0 nnk).2.2.1).length) c82, .slice a83 (((r7Resize mz0 t0 N0 A0 G0 nnk).2.2.2.1).length) c84, .slice a85 (((r7Resize mz0 t0 N0 A0 G0 nnk).2.2.2.2.1).length) c86], .slice a87 (((r7Resize mz0 t0 N0 A0 G0 nnk).2.2.2.2.2).length) c88] (fun w => by kernel_rfl) ?_
                  refine Sq.ex [] (l := []) (o_new [iV 0, iV 0, .slice none 0 0, .slice none 0 0, .slice none 0 0] (fun w => by kernel_rfl)) (by kernel_rfl) rfl (by kernel_rfl) (fun _ => Nat.zero_le _) ?_; intro b89 _
                  refine Sq.same [12] (l := [blkR b89 [iV 0, iV 0, .slice none 0 0, .slice none 0 0, .slice none 0 0] 61]) (o_store (i := 0) (v := .agg #[iV ((r7Resize mz0 t0 N0 A0 G0 nnk).1), iV ((r7Resize mz0 t0 N0 A0 G0 nnk).2.1), .slice a81 (((r7Resize mz0 t0 N0 A0 G0 nnk).2.2.1).length) c82, .slice a83 (((r7Resize mz0 t0 N0 A0 G0 nnk).2.2.2.1).length) c84, .slice a85 (((r7Resize mz0 t0 N0 A0 G0 nnk).2.2.2.2.1).length) c86]) (by kernel_rfl) (by kernel_rfl) (by kernel_rfl) (by kernel_rfl) (by kernel_rfl)) (by kernel_rfl) rfl (by kernel_rfl) rfl ?_
                  refine Sq.vals [9] (rest := []) [.slice a87 (((r7Resize mz0 t0 N0 A0 G0 nnk).2.2.2.2.2).length) c88] (fun w => by kernel_rfl) ?_
                  refine Sq.done ?_
                  refine Ex'.next ?_
                  refine Cd.seq ?_
                  refine Cd.region rfl ?_
                  refine Sq.same [12] (l := [blkR b89 [iV ((r7Resize mz0 t0 N0 A0 G0 nnk).1), iV ((r7Resize mz0 t0 N0 A0 G0 nnk).2.1), .slice a81 (((r7Resize mz0 t0 N0 A0 G0 nnk).2.2.1).length) c82, .slice a83 (((r7Resize mz0 t0 N0 A0 G0 nnk).2.2.2.1).length) c84, .slice a85 (((r7Resize mz0 t0 N0 A0 G0 nnk).2.2.2.2.1).length) c86] 61]) (o_loadN (i := 0) [iV ((r7Resize mz0 t0 N0 A0 G0 nnk).1), iV ((r7Resize mz0 t0 N0 A0 G0 nnk).2.1), .slice a81 (((r7Resize mz0 t0 N0 A0 G0 nnk).2.2.1).length) c82, .slice a83 (((r7Resize mz0 t0 N0 A0 G0 nnk).2.2.2.1).length) c84, .slice a85 (((r7Resize mz0 t0 N0 A0 G0 nnk).2.2.2.2.1).length) c86] (by kernel_rfl) (by kernel_rfl) (by kernel_rfl)) (by kernel_rfl) rfl (by kernel_rfl) rfl ?_
                  refine Sq.same [6] (l := [blkR b18 [iV mz0, iV t0, .slice a20 N0.length c21, .slice a22 A0.length c23, .slice a24 G0.length c25] 61]) (o_store (i := 0) (v := .agg #[iV ((r7Resize mz0 t0 N0 A0 G0 nnk).1), iV ((r7Resize mz0 t0 N0 A0 G0 nnk).2.1), .slice a81 (((r7Resize mz0 t0 N0 A0 G0 nnk).2.2.1).length) c82, .slice a83 (((r7Resize mz0 t0 N0 A0 G0 nnk).2.2.2.1).length) c84, .slice a85 (((r7Resize mz0 t0 N0 A0 G0 nnk).2.2.2.2.1).length) c86]) (by kernel_rfl) (by kernel_rfl) (by kernel_rfl) (by kernel_rfl) (by kernel_rfl)) (by kernel_rfl) rfl (by kernel_rfl) rfl ?_
                  refine Sq.done ?_
                  refine Ex'.next ?_
                  refine Cd.seq ?_
                  refine Cd.region rfl ?_
                  refine Sq.vals [0, 1] (rest := [2, 3, 4, 5, 6]) [pV b3 0, pV b29 2] (fun w => by kernel_rfl) ?_
                  refine Sq.same [10] (l := [blkR b29 [iV kdk, sV kyk, iV nnk] 45]) (o_load (i := 2) (v := iV nnk) (by kernel_rfl) (by kernel_rfl) (by kernel_rfl)) (by kernel_rfl) rfl (by kernel_rfl) rfl ?_
                  refine Sq.ex [1, 2, 3, 4, 5] (l := srlL b3 nb4 ab5 gb6 mb7 mz0 t0 ns0 cs0 gs0 ms0 n0) (o_call (by kernel_rfl) Try.call54 (srl_Resize (n := n0) (n' := n0 + ns0.length + cs0.length) (most := mz0) (target := t0) (ns := ns0) (cs := cs0) (gs := gs0) (ms := ms0) nnk (by omega) (by omega))) (by kernel_rfl) rfl (by kernel_rfl) (fun _ => Nat.le_of_ble_eq_true (by kernel_rfl)) ?_; rintro v90 _
                  refine Sq.fact (i := 13) (R := rowR 9 1 v90 (((srlResize mz0 t0 ns0 cs0 gs0 ms0 nnk).2.2.2.2.2.2).length) (((srlResize mz0 t0 ns0 cs0 gs0 ms0 nnk).2.2.2.2.2.2).map Value.string)) (by kernel_rfl) row_slice ?_; rintro ⟨a91, c92, rfl, hc92, hc92'⟩
                  have hc92'' : c92 ≤ 9223372036854775807 := hc92'
                  refine Sq.vals [4] (rest := [5, 6]) [.slice a87 (((r7Resize mz0 t0 N0 A0 G0 nnk).2.2.2.2.2).length) c88] (fun w => by kernel_rfl) ?_
                  refine Sq.same [13, 11] (l := [rowR 9 1 (.slice a91 (((srlResize mz0 t0 ns0 cs0 gs0 ms0 nnk).2.2.2.2.2.2).length) c92) (((srlResize mz0 t0 ns0 cs0 gs0 ms0 nnk).2.2.2.2.2.2).length) (((srlResize mz0 t0 ns0 cs0 gs0 ms0 nnk).2.2.2.2.2.2).map Value.string), rowR 9 1 (.slice a87 (((r7Resize mz0 t0 N0 A0 G0 nnk).2.2.2.2.2).length) c88) (((r7Resize mz0 t0 N0 A0 G0 nnk).2.2.2.2.2).length) (((r7Resize mz0 t0 N0 A0 G0 nnk).2.2.2.2.2).map Value.string)]) (o_call (by kernel_rfl) Try.call22 (t_same03 (l := [rowR 9 1 (.slice a91 (((srlResize mz0 t0 ns0 cs0 gs0 ms0 nnk).2.2.2.2.2.2).length) c92) (((srlResize mz0 t0 ns0 cs0 gs0 ms0 nnk).2.2.2.2.2.2).length) (((srlResize mz0 t0 ns0 cs0 gs0 ms0 nnk).2.2.2.2.2.2).map Value.string), rowR 9 1 (.slice a87 (((r7Resize mz0 t0 N0 A0 G0 nnk).2.2.2.2.2).length) c88) (((r7Resize mz0 t0 N0 A0 G0 nnk).2.2.2.2.2).length) (((r7Resize mz0 t0 N0 A0 G0 nnk).2.2.2.2.2).map Value.string)]) (xs := (srlResize mz0 t0 ns0 cs0 gs0 ms0 nnk).2.2.2.2.2.2) (ys := (r7Resize mz0 t0 N0 A0 G0 nnk).2.2.2.2.2) (fun w own hH => ⟨⟨_, Row.strs (hH 0 _ rfl)⟩, ⟨_, Row.strs (hH 1 _ rfl)⟩⟩))) (by kernel_rfl) rfl (by kernel_rfl) rfl ?_
                  refine Sq.v (r := bV (decide (¬ ((srlResize mz0 t0 ns0 cs0 gs0 ms0 nnk).2.2.2.2.2.2 = (r7Resize mz0 t0 N0 A0 G0 nnk).2.2.2.2.2)))) (o_not (by kernel_rfl)) rfl (by kernel_rfl) ?_
                  refine Sq.done ?_
                  refine Ex'.next ?_
                  refine Cd.condF (by rw [show ev _ _ = some (.bool (decide (¬ ((srlResize mz0 t0 ns0 cs0 gs0 ms0 nnk).2.2.2.2.2.2 = (r7Resize mz0 t0 N0 A0 G0 nnk).2.2.2.2.2)))) from by kernel_rfl, decide_eq_false (fun z => z hM1)]) ?_
                  refine Cd.skip ?_
                  refine Ex'.blockNormal ?_
                  refine Ex'.meet ((srlResize mz0 t0 ns0 cs0 gs0 ms0 nnk).1, (srlResize mz0 t0 ns0 cs0 gs0 ms0 nnk).2.1, (srlResize mz0 t0 ns0 cs0 gs0 ms0 nnk).2.2.1, (srlResize mz0 t0 ns0 cs0 gs0 ms0 nnk).2.2.2.1, (srlResize mz0 t0 ns0 cs0 gs0 ms0 nnk).2.2.2.2.1, (srlResize mz0 t0 ns0 cs0 gs0 ms0 nnk).2.2.2.2.2.1, n0 + ns0.length + cs0.length, (r7Resize mz0 t0 N0 A0 G0 nnk).2.2.1, .slice a81 (((r7Resize mz0 t0 N0 A0 G0 nnk).2.2.1).length) c82, (r7Resize mz0 t0 N0 A0 G0 nnk).2.2.2.1, .slice a83 (((r7Resize mz0 t0 N0 A0 G0 nnk).2.2.2.1).length) c84, (r7Resize mz0 t0 N0 A0 G0 nnk).2.2.2.2.1, .slice a85 (((r7Resize mz0 t0 N0 A0 G0 nnk).2.2.2.2.1).length) c86) ?_ (subB_eq (l := [1, 5, 6, 7, 8]) (by kernel_rfl)) (fun w hw => (hw.conv 6 (R := blkR b18 [iV ((r7Resize mz0 t0 N0 A0 G0 nnk).1), iV ((r7Resize mz0 t0 N0 A0 G0 nnk).2.1), .slice a81 (((r7Resize mz0 t0 N0 A0 G0 nnk).2.2.1).length) c82, .slice a83 (((r7Resize mz0 t0 N0 A0 G0 nnk).2.2.2.1).length) c84, .slice a85 (((r7Resize mz0 t0 N0 A0 G0 nnk).2.2.2.2.1).length) c86] 61) (R' := blkR b18 [iV ((srlResize mz0 t0 ns0 cs0 gs0 ms0 nnk).1), iV ((srlResize mz0 t0 ns0 cs0 gs0 ms0 nnk).2.1), (.slice a81 (((r7Resize mz0 t0 N0 A0 G0 nnk).2.2.1).length) c82), (.slice a83 (((r7Resize mz0 t0 N0 A0 G0 nnk).2.2.2.1).length) c84), (.slice a85 (((r7Resize mz0 t0 N0 A0 G0 nnk).2.2.2.2.1).length) c86)] 61) (by kernel_rfl) (fun w T q => by first | exact q | (rw [← hQ0]; exact q) | (rw [← hZ0, ← hZ1]; exact q))).pickB [0, 1, 2, 3, 4, 5, 6, 7, 8, 9, 10] (by kernel_rfl) (by kernel_rfl) (by kernel_rfl))
                  · exact ⟨hI2, by (try dsimp only); omega, by (try dsimp only); omega, by (try dsimp only); omega, by (try dsimp only); omega⟩
                ·
                  refine Cd.skip ?_
                  refine Ex'.blockNormal ?_
                  refine Ex'.meet (mz0, t0, ns0, cs0, gs0, ms0, n0, N0, .slice a20 N0.length c21, A0, .slice a22 A0.length c23, G0, .slice a24 G0.length c25) ?_ (subB_eq (l := [1, 5, 6, 7, 8]) (by kernel_rfl)) (fun w hw => hw.pickB [0, 1, 2, 3, 4, 5, 6, 7, 8, 9, 10] (by kernel_rfl) (by kernel_rfl) (by kernel_rfl))
                  · exact ⟨hI, by (try dsimp only); omega, by (try dsimp only); omega, by (try dsimp only); omega, by (try dsimp only); omega⟩
      rintro ⟨mz1, t1, ns1, cs1, gs1, ms1, n1, N1, vN1, A1, vA1, G1, vG1⟩ hL94
      try dsimp only at hL94 ⊢
      obtain ⟨hI, hn, hs3, ht9, hm9⟩ := hL94
      have hm0 := hI.i.h0; have htz := hI.i.t0; have htm := hI.i.tm; obtain ⟨hl1, hl2, hl3⟩ := hI.r.len
      have hvi := hI.victim; have hky := hI.keys; have hgo := hI.ghosts; have hln := hI.len; have hhs := hI.r.has (most := mz1) (t := t1) kyk
      refine Cd.fact (i := 7) (R := vewR 3 vN1 N1.length (N1.flatMap kq7)) (by kernel_rfl) vew_slice ?_; rintro ⟨a95, c96, rfl, hc96, hc96'⟩
      have hc96'' : c96 ≤ 9223372036854775807 := hc96'
      refine Cd.fact (i := 8) (R := vewR 3 vA1 A1.length (A1.flatMap kq7)) (by kernel_rfl) vew_slice ?_; rintro ⟨a97, c98, rfl, hc98, hc98'⟩
      have hc98'' : c98 ≤ 9223372036854775807 := hc98'
      refine Cd.fact (i := 9) (R := vewR 3 vG1 G1.length (G1.flatMap kq7)) (by kernel_rfl) vew_slice ?_; rintro ⟨a99, c100, rfl, hc100, hc100'⟩
      have hc100'' : c100 ≤ 9223372036854775807 := hc100'
      refine Cd.seq ?_
      refine Cd.region rfl ?_
      refine Sq.vals [0] (rest := [1, 2, 3, 4, 5, 6]) [pV b3 0] (fun w => by kernel_rfl) ?_
      refine Sq.same [1, 2, 3, 4, 5] (l := srlL b3 nb4 ab5 gb6 mb7 mz1 t1 ns1 cs1 gs1 ms1 n1) (o_call (by kernel_rfl) Try.call55 (srl_Victim (n := n1) (most := mz1) (target := t1) (ns := ns1) (cs := cs1) (gs := gs1) (ms := ms1) (by omega))) (by kernel_rfl) rfl (by kernel_rfl) rfl ?_
      refine Sq.vals [2, 3, 4, 5, 6] (rest := []) [.tuple #[sV ((srlVictim mz1 t1 ns1 cs1 gs1 ms1).1), bV ((srlVictim mz1 t1 ns1 cs1 gs1 ms1).2)], sV ((srlVictim mz1 t1 ns1 cs1 gs1 ms1).1), bV ((srlVictim mz1 t1 ns1 cs1 gs1 ms1).2), sV ((srlVictim mz1 t1 ns1 cs1 gs1 ms1).1), bV ((srlVictim mz1 t1 ns1 cs1 gs1 ms1).2)] (fun w => by kernel_rfl) ?_
      refine Sq.done ?_
      refine Ex'.next ?_
      refine Cd.seq ?_
      refine Cd.region rfl ?_
      refine Sq.same [6] (l := [blkR b18 [iV mz1, iV t1, .slice a95 N1.length c96, .slice a97 A1.length c98, .slice a99 G1.length c100] 61]) (o_loadN (i := 0) [iV mz1, iV t1, .slice a95 N1.length c96, .slice a97 A1.length c98, .slice a99 G1.length c100] (by kernel_rfl) (by kernel_rfl) (by kernel_rfl)) (by kernel_rfl) rfl (by kernel_rfl) rfl ?_
      refine Sq.same [7, 8, 9] (l := [vewR 3 (.slice a95 N1.length c96) N1.length (N1.flatMap kq7), vewR 3 (.slice a97 A1.length c98) A1.length (A1.flatMap kq7), vewR 3 (.slice a99 G1.length c100) G1.length (G1.flatMap kq7)]) (o_call (by kernel_rfl) Try.call56 (t_Victim07 (cMost := mz1) (cTarget := t1) (cN := N1) (cNa := a95) (cNc := c96) (cA := A1) (cAa := a97) (cAc := c98) (cG := G1) (cGa := a99) (cGc := c100) (by omega))) (by kernel_rfl) rfl (by kernel_rfl) rfl ?_
      refine Sq.vals [2, 3, 4, 5, 6] (rest := []) [.tuple #[sV ((r7Victim mz1 t1 N1 A1 G1).1), bV ((r7Victim mz1 t1 N1 A1 G1).2)], sV ((r7Victim mz1 t1 N1 A1 G1).1), bV ((r7Victim mz1 t1 N1 A1 G1).2), sV ((r7Victim mz1 t1 N1 A1 G1).1), bV ((r7Victim mz1 t1 N1 A1 G1).2)] (fun w => by kernel_rfl) ?_
      refine Sq.done ?_
      refine Ex'.next ?_
      refine Cd.seq ?_
      refine Cd.region rfl ?_
      refine Sq.same [6] (l := [blkR b18 [iV mz1, iV t1, .slice a95 N1.length c96, .slice a97 A1.length c98, .slice a99 G1.length c100] 61]) (o_loadN (i := 0) [iV mz1, iV t1, .slice a95 N1.length c96, .slice a97 A1.length c98, .slice a99 G1.length c100] (by kernel_rfl) (by kernel_rfl) (by kernel_rfl)) (by kernel_rfl) rfl (by kernel_rfl) rfl ?_
      refine Sq.ex [7, 8, 9] (l := [vewR 3 (.slice a95 N1.length c96) N1.length (N1.flatMap kq7), vewR 3 (.slice a97 A1.length c98) A1.length (A1.flatMap kq7), vewR 3 (.slice a99 G1.length c100) G1.length (G1.flatMap kq7)]) (o_call (by kernel_rfl) Try.call57 (t_Keys07 (cMost := mz1) (cTarget := t1) (cN := N1) (cNa := a95) (cNc := c96) (cA := A1) (cAa := a97) (cAc := c98) (cG := G1) (cGa := a99) (cGc := c100) (by omega))) (by kernel_rfl) rfl (by kernel_rfl) (fun _ => Nat.le_of_ble_eq_true (by kernel_rfl)) ?_; rintro v101 _
      refine Sq.fact (i := 11) (R := rowR 9 1 v101 ((r7Keys mz1 t1 N1 A1 G1).length) ((r7Keys mz1 t1 N1 A1 G1).map Value.string)) (by kernel_rfl) row_slice ?_; rintro ⟨a102, c103, rfl, hc103, hc103'⟩
      have hc103'' : c103 ≤ 9223372036854775807 := hc103'
      refine Sq.vals [2] (rest := []) [.slice a102 ((r7Keys mz1 t1 N1 A1 G1).length) c103] (fun w => by kernel_rfl) ?_
      refine Sq.done ?_
      refine Ex'.next ?_
      refine Cd.seq ?_
      refine Cd.plan (0 :: 0 :: 3 :: 7 :: 15 :: 15 :: 63 :: 127 :: 255 :: 511 :: 1023 :: 511 :: 4095 :: 8191 :: 16383 :: 32767 :: 65535 :: 131071 :: 65535 :: 327679 :: 1048575 :: 2097151 :: 4194303 :: 8388607 :: 8388607 :: 25165823 :: 67108863 :: 8388607 :: 8388607 :: 276824063 :: 1073741823 :: 2147483647 :: 4294967295 :: 8589934591 :: 17179869183 :: 34359738367 :: 17179869183 :: 137438953471 :: 274877906943 :: 549755813887 :: 1099511627775 :: 2199023255551 :: 4398046511103 :: 8796093022207 :: 4398046511103 :: 21990232555519 :: 70368744177663 :: 140737488355327 :: 281474976710655 :: 562949953421311 :: 1125899906842623 :: 562949953421311 :: 2814749767106559 :: 7318349394477055 :: 18014398509481983 :: 36028797018963967 :: []) [(10, [(1, false, 0), (2, false, 0), (3, false, 0), (4, false, 0), (5, false, 0)]), (12, [(22, false, 11), (11, false, 0)]), (17, [(1, false, 0), (2, false, 0), (3, false, 0), (4, false, 0), (5, false, 0)]), (25, [(10, false, 0)]), (26, [(1, false, 0), (2, false, 0), (3, false, 0), (4, false, 0), (5, false, 0)]), (27, [(6, false, 0)]), (29, [(10, false, 0)]), (30, [(7, false, 0), (8, false, 0), (9, false, 0)]), (35, [(1, false, 0), (2, false, 0), (3, false, 0), (4, false, 0), (5, false, 0)]), (36, [(6, false, 0)]), (37, [(7, false, 0), (8, false, 0), (9, false, 0)]), (38, [(47, false, 36), (49, false, 38)]), (43, [(1, false, 0), (2, false, 0), (3, false, 0), (4, false, 0), (5, false, 0)]), (45, [(6, false, 0)]), (50, [(1, false, 0), (2, false, 0), (3, false, 0), (4, false, 0), (5, false, 0)]), (52, [(6, false, 0)])] [10, 35, 37] [(10, fun _ => True), (35, fun _ => True), (37, fun _ => True)] [(22, 10, fun g => rowR 9 1 (.slice (addrOf (g 10)) (((cs1 ++ ns1).reverse).length) (capOf (g 10))) (((cs1 ++ ns1).reverse).length) (((cs1 ++ ns1).reverse).map Value.string)), (47, 35, fun g => rowR 9 1 (.slice (addrOf (g 35)) gs1.length (capOf (g 35))) gs1.length (gs1.map Value.string)), (49, 37, fun g => rowR 9 1 (.slice (addrOf (g 37)) ((r7Ghosts mz1 t1 N1 A1 G1).length) (capOf (g 37))) ((r7Ghosts mz1 t1 N1 A1 G1).length) ((r7Ghosts mz1 t1 N1 A1 G1).map Value.string))] ((fun g => sV ((srlVictim mz1 t1 ns1 cs1 gs1 ms1).1)) :: (fun g => sV ((r7Victim mz1 t1 N1 A1 G1).1)) :: (fun g => bV false) :: (fun g => bV false) :: (fun g => bV ((srlVictim mz1 t1 ns1 cs1 gs1 ms1).2)) :: (fun g => bV ((r7Victim mz1 t1 N1 A1 G1).2)) :: (fun g => bV false) :: (fun g => bV false) :: (fun g => bV false) :: (fun g => pV b3 0) :: (fun g => .slice (addrOf (g 10)) (((cs1 ++ ns1).reverse).length) (capOf (g 10))) :: (fun g => .slice a102 ((r7Keys mz1 t1 N1 A1 G1).length) c103) :: (fun g => bV (decide ((cs1 ++ ns1).reverse = r7Keys mz1 t1 N1 A1 G1))) :: (fun g => bV false) :: (fun g => bV false) :: (fun g => bV false) :: (fun g => pV b3 0) :: (fun g => iV ((cs1.length : Int) + ns1.length)) :: (fun g => .slice a102 ((r7Keys mz1 t1 N1 A1 G1).length) c103) :: (fun g => iV ((r7Keys mz1 t1 N1 A1 G1).length : Int)) :: (fun g => bV false) :: (fun g => bV false) :: (fun g => bV false) :: (fun g => pV b3 0) :: (fun g => pV b29 1) :: (fun g => sV kyk) :: (fun g => bV (decide (kyk ∈ cs1 ++ ns1))) :: (fun g => .agg #[iV mz1, iV t1, .slice a95 N1.length c96, .slice a97 A1.length c98, .slice a99 G1.length c100]) :: (fun g => pV b29 1) :: (fun g => sV kyk) :: (fun g => bV (r7Has mz1 t1 N1 A1 G1 kyk)) :: (fun g => bV false) :: (fun g => bV false) :: (fun g => bV false) :: (fun g => pV b3 0) :: (fun g => .slice (addrOf (g 35)) gs1.length (capOf (g 35))) :: (fun g => .agg #[iV mz1, iV t1, .slice a95 N1.length c96, .slice a97 A1.length c98, .slice a99 G1.length c100]) :: (fun g => .slice (addrOf (g 37)) ((r7Ghosts mz1 t1 N1 A1 G1).length) (capOf (g 37))) :: (fun g => bV (decide (gs1 = r7Ghosts mz1 t1 N1 A1 G1))) :: (fun g => bV false) :: (fun g => bV false) :: (fun g => bV false) :: (fun g => pV b3 0) :: (fun g => iV t1) :: (fun g => pV b18 1) :: (fun g => iV t1) :: (fun g => bV false) :: (fun g => bV false) :: (fun g => bV false) :: (fun g => pV b3 0) :: (fun g => iV (cs1.length : Int)) :: (fun g => pV b18 3) :: (fun g => .slice a97 A1.length c98) :: (fun g => iV (A1.length : Int)) :: (fun g => bV false) :: (fun g => bV false) :: []) (by kernel_rfl) (by kernel_rfl) rfl (⟨⟨⟨fun _ _ => rfl, ⟨fun _ _ => rfl, ⟨fun _ _ => rfl, ⟨fun _ _ => rfl, ⟨fun _ _ => rfl, ⟨fun _ _ => rfl, ⟨fun _ _ => rfl, ⟨fun _ _ => rfl, ⟨fun _ _ => rfl, ⟨fun _ _ => rfl, ⟨trivial, ⟨fun _ _ => rfl, ⟨trivial, ⟨trivial, ⟨trivial, ⟨trivial, ⟨trivial, ⟨trivial, ⟨trivial, ⟨trivial, ⟨trivial, ⟨trivial, ⟨trivial, ⟨trivial, ⟨trivial, ⟨trivial, ⟨trivial, ⟨trivial, ⟨trivial, ⟨trivial, ⟨trivial, ⟨trivial, ⟨trivial, ⟨trivial, ⟨trivial, ⟨trivial, ⟨trivial, ⟨trivial, ⟨trivial, ⟨trivial, ⟨trivial, ⟨trivial, ⟨trivial, ⟨trivial, ⟨trivial, ⟨trivial, ⟨trivial, ⟨trivial, ⟨trivial, ⟨trivial, ⟨trivial, ⟨trivial, ⟨trivial, ⟨trivial, ⟨trivial, ⟨trivial, trivial⟩⟩⟩⟩⟩⟩⟩⟩⟩⟩⟩⟩⟩⟩⟩⟩⟩⟩⟩⟩⟩⟩⟩⟩⟩⟩⟩⟩⟩⟩⟩⟩⟩⟩⟩⟩⟩⟩⟩⟩⟩⟩⟩⟩⟩⟩⟩⟩⟩⟩⟩⟩⟩⟩⟩⟩, ⟨trivial, ⟨trivial, ⟨trivial, trivial⟩⟩⟩⟩, ⟨⟨⟨fun _ _ => rfl, ⟨fun _ _ => rfl, ⟨fun _ _ => rfl, ⟨fun _ _ => rfl, ⟨fun _ _ => rfl, ⟨fun _ _ => rfl, ⟨fun _ _ => rfl, ⟨fun _ _ => rfl, ⟨fun _ _ => rfl, ⟨fun _ _ => rfl, ⟨fun _ _ => rfl, ⟨fun _ _ => rfl, ⟨fun _ _ => rfl, ⟨fun _ _ => rfl, ⟨fun _ _ => rfl, ⟨fun _ _ => rfl, ⟨fun _ _ => rfl, ⟨fun _ _ => rfl, ⟨fun _ _ => rfl, ⟨fun _ _ => rfl, ⟨fun _ _ => rfl, ⟨fun _ _ => rfl, ⟨fun _ _ => rfl, ⟨fun _ _ => rfl, ⟨fun _ _ => rfl, ⟨fun _ _ => rfl, ⟨fun _ _ => rfl, ⟨fun _ _ => rfl, ⟨fun _ _ => rfl, ⟨fun _ _ => rfl, ⟨fun _ _ => rfl, ⟨fun _ _ => rfl, ⟨fun _ _ => rfl, ⟨fun _ _ => rfl, ⟨fun _ _ => rfl, ⟨trivial, ⟨fun _ _ => rfl, ⟨trivial, ⟨trivial, ⟨trivial, ⟨trivial, ⟨trivial, ⟨trivial, ⟨trivial, ⟨trivial, ⟨trivial, ⟨trivial, ⟨trivial, ⟨trivial, ⟨trivial, ⟨trivial, ⟨trivial, ⟨trivial, ⟨trivial, ⟨trivial, ⟨trivial, trivial⟩⟩⟩⟩⟩⟩⟩⟩⟩⟩⟩⟩⟩⟩⟩⟩⟩⟩⟩⟩⟩⟩⟩⟩⟩⟩⟩⟩⟩⟩⟩⟩⟩⟩⟩⟩⟩⟩⟩⟩⟩⟩⟩⟩⟩⟩⟩⟩⟩⟩⟩⟩⟩⟩⟩⟩, ⟨fun _ _ => rfl, ⟨trivial, ⟨trivial, trivial⟩⟩⟩⟩, ⟨⟨⟨fun _ _ => rfl, ⟨fun _ _ => rfl, ⟨fun _ _ => rfl, ⟨fun _ _ => rfl, ⟨fun _ _ => rfl, ⟨fun _ _ => rfl, ⟨fun _ _ => rfl, ⟨fun _ _ => rfl, ⟨fun _ _ => rfl, ⟨fun _ _ => rfl, ⟨fun _ _ => rfl, ⟨fun _ _ => rfl, ⟨fun _ _ => rfl, ⟨fun _ _ => rfl, ⟨fun _ _ => rfl, ⟨fun _ _ => rfl, ⟨fun _ _ => rfl, ⟨fun _ _ => rfl, ⟨fun _ _ => rfl, ⟨fun _ _ => rfl, ⟨fun _ _ => rfl, ⟨fun _ _ => rfl, ⟨fun _ _ => rfl, ⟨fun _ _ => rfl, ⟨fun _ _ => rfl, ⟨fun _ _ => rfl, ⟨fun _ _ => rfl, ⟨fun _ _ => rfl, ⟨fun _ _ => rfl, ⟨fun _ _ => rfl, ⟨fun _ _ => rfl, ⟨fun _ _ => rfl, ⟨fun _ _ => rfl, ⟨fun _ _ => rfl, ⟨fun _ _ => rfl, ⟨fun _ _ => rfl, ⟨fun _ _ => rfl, ⟨trivial, ⟨trivial, ⟨trivial, ⟨trivial, ⟨trivial, ⟨trivial, ⟨trivial, ⟨trivial, ⟨trivial, ⟨trivial, ⟨trivial, ⟨trivial, ⟨trivial, ⟨trivial, ⟨trivial, ⟨trivial, ⟨trivial, ⟨trivial, ⟨trivial, trivial⟩⟩⟩⟩⟩⟩⟩⟩⟩⟩⟩⟩⟩⟩⟩⟩⟩⟩⟩⟩⟩⟩⟩⟩⟩⟩⟩⟩⟩⟩⟩⟩⟩⟩⟩⟩⟩⟩⟩⟩⟩⟩⟩⟩⟩⟩⟩⟩⟩⟩⟩⟩⟩⟩⟩⟩, ⟨fun _ _ => rfl, ⟨fun _ _ => rfl, ⟨trivial, trivial⟩⟩⟩⟩, trivial⟩⟩⟩) ?_ ?_
      · exact ⟨ob_val fun g w => by kernel_rfl, ob_val fun g w => by kernel_rfl, ob_v (v := fun g => bV false) (fun g => OprV.re (o_neS (a := (srlVictim mz1 t1 ns1 cs1 gs1 ms1).1) (b := (r7Victim mz1 t1 N1 A1 G1).1) (by kernel_rfl) (by kernel_rfl)) (vF (fun z => z (by rw [hvi])))) (fun g => by kernel_rfl), ob_val fun g w => by kernel_rfl, ob_val fun g w => by kernel_rfl, ob_val fun g w => by kernel_rfl, ob_v (v := fun g => bV false) (fun g => OprV.re (pureV (v := bV (!(((srlVictim mz1 t1 ns1 cs1 gs1 ms1).2) == ((r7Victim mz1 t1 N1 A1 G1).2)))) (by kernel_rfl) rfl fun w => by kernel_rfl) (congrArg Value.bool (show (!(((srlVictim mz1 t1 ns1 cs1 gs1 ms1).2) == ((r7Victim mz1 t1 N1 A1 G1).2))) = false from (by rw [hvi]; simp)))) (fun g => by kernel_rfl), ob_val fun g w => by kernel_rfl, ob_val fun g w => by kernel_rfl, ob_val fun g w => by kernel_rfl, ob_d (ι := Option Addr × Nat) (l := fun g => [srlB b3 nb4 ab5 gb6 mb7 mz1 t1, llR nb4 ns1 n1, llR ab5 cs1 n1, llR gb6 gs1 n1, mapR Value.string markV mb7 ms1]) (L := fun g y => [srlB b3 nb4 ab5 gb6 mb7 mz1 t1, llR nb4 ns1 n1, llR ab5 cs1 n1, llR gb6 gs1 n1, mapR Value.string markV mb7 ms1, rowR 9 1 (.slice y.1 (((cs1 ++ ns1).reverse).length) y.2) (((cs1 ++ ns1).reverse).length) (((cs1 ++ ns1).reverse).map Value.string)]) (fun y => .slice y.1 (((cs1 ++ ns1).reverse).length) y.2) (fun g => o_call (by kernel_rfl) Try.call38 (Tri.rowA (Tri.ex (L' := fun v => srlL b3 nb4 ab5 gb6 mb7 mz1 t1 ns1 cs1 gs1 ms1 n1 ++ [rowR 9 1 v ((cs1 ++ ns1).reverse).length (((cs1 ++ ns1).reverse).map Value.string)]) (srl_Keys (n := n1) (most := mz1) (target := t1) (ns := ns1) (cs := cs1) (gs := gs1) (ms := ms1) (by omega)) (fun v => by simp only [srlKeys_eq])))) (fun g => by kernel_rfl) (fun g y _ => ⟨trivial, by kernel_rfl, by kernel_rfl⟩), ob_val fun g w => by kernel_rfl, ob_s (l := fun g => [rowR 9 1 (.slice (addrOf (g 10)) (((cs1 ++ ns1).reverse).length) (capOf (g 10))) (((cs1 ++ ns1).reverse).length) (((cs1 ++ ns1).reverse).map Value.string), rowR 9 1 (.slice a102 ((r7Keys mz1 t1 N1 A1 G1).length) c103) ((r7Keys mz1 t1 N1 A1 G1).length) ((r7Keys mz1 t1 N1 A1 G1).map Value.string)]) (l' := fun g => [rowR 9 1 (.slice (addrOf (g 10)) (((cs1 ++ ns1).reverse).length) (capOf (g 10))) (((cs1 ++ ns1).reverse).length) (((cs1 ++ ns1).reverse).map Value.string), rowR 9 1 (.slice a102 ((r7Keys mz1 t1 N1 A1 G1).length) c103) ((r7Keys mz1 t1 N1 A1 G1).length) ((r7Keys mz1 t1 N1 A1 G1).map Value.string)]) (v := fun g => bV (decide ((cs1 ++ ns1).reverse = r7Keys mz1 t1 N1 A1 G1))) (fun g => o_call (by kernel_rfl) Try.call22 (t_same03 (l := [rowR 9 1 (.slice (addrOf (g 10)) (((cs1 ++ ns1).reverse).length) (capOf (g 10))) (((cs1 ++ ns1).reverse).length) (((cs1 ++ ns1).reverse).map Value.string), rowR 9 1 (.slice a102 ((r7Keys mz1 t1 N1 A1 G1).length) c103) ((r7Keys mz1 t1 N1 A1 G1).length) ((r7Keys mz1 t1 N1 A1 G1).map Value.string)]) (xs := (cs1 ++ ns1).reverse) (ys := r7Keys mz1 t1 N1 A1 G1) (fun w own hH => ⟨⟨_, Row.strs (hH 0 _ rfl)⟩, ⟨_, Row.strs (hH 1 _ rfl)⟩⟩))) (fun g => by kernel_rfl), ob_v (v := fun g => bV false) (fun g => OprV.re (o_not (by kernel_rfl)) (vF (fun z => z hky))) (fun g => by kernel_rfl), ob_val fun g w => by kernel_rfl, ob_val fun g w => by kernel_rfl, ob_val fun g w => by kernel_rfl, ob_s (l := fun g => [srlB b3 nb4 ab5 gb6 mb7 mz1 t1, llR nb4 ns1 n1, llR ab5 cs1 n1, llR gb6 gs1 n1, mapR Value.string markV mb7 ms1]) (l' := fun g => [srlB b3 nb4 ab5 gb6 mb7 mz1 t1, llR nb4 ns1 n1, llR ab5 cs1 n1, llR gb6 gs1 n1, mapR Value.string markV mb7 ms1]) (v := fun g => iV ((cs1.length : Int) + ns1.length)) (fun g => o_call (by kernel_rfl) Try.call40 (Tri.eq (l2 := srlL b3 nb4 ab5 gb6 mb7 mz1 t1 ns1 cs1 gs1 ms1 n1) (r' := iV ((cs1.length : Int) + ns1.length)) (srl_Len (n := n1) (most := mz1) (target := t1) (ns := ns1) (cs := cs1) (gs := gs1) (ms := ms1) (by omega)) (by first | simp only [srlLen_sum] | rfl) (by first | simp only [srlLen_sum] | rfl))) (fun g => by kernel_rfl), ob_val fun g w => by kernel_rfl, ob_val fun g w => by kernel_rfl, ob_v (v := fun g => bV false) (fun g => OprV.re (o_neI (k := .i64) (a := (cs1.length : Int) + ns1.length) (b := ((r7Keys mz1 t1 N1 A1 G1).length : Int)) (by kernel_rfl) (by kernel_rfl)) (vF (fun z => z (by rw [hln]; omega)))) (fun g => by kernel_rfl), ob_val fun g w => by kernel_rfl, ob_val fun g w => by kernel_rfl, ob_val fun g w => by kernel_rfl, ob_val fun g w => by kernel_rfl, ob_s (l := fun g => [blkR b29 [iV kdk, sV kyk, iV nnk] 45]) (l' := fun g => [blkR b29 [iV kdk, sV kyk, iV nnk] 45]) (v := fun g => sV kyk) (fun g => o_load (i := 1) (v := sV kyk) (by kernel_rfl) (by kernel_rfl) (by kernel_rfl)) (fun g => by kernel_rfl), ob_s (l := fun g => [srlB b3 nb4 ab5 gb6 mb7 mz1 t1, llR nb4 ns1 n1, llR ab5 cs1 n1, llR gb6 gs1 n1, mapR Value.string markV mb7 ms1]) (l' := fun g => [srlB b3 nb4 ab5 gb6 mb7 mz1 t1, llR nb4 ns1 n1, llR ab5 cs1 n1, llR gb6 gs1 n1, mapR Value.string markV mb7 ms1]) (v := fun g => bV (decide (kyk ∈ cs1 ++ ns1))) (fun g => o_call (by kernel_rfl) Try.call42 (Tri.eq (l2 := srlL b3 nb4 ab5 gb6 mb7 mz1 t1 ns1 cs1 gs1 ms1 n1) (r' := bV (decide (kyk ∈ cs1 ++ ns1))) (srl_Has (n := n1) (most := mz1) (target := t1) (ns := ns1) (cs := cs1) (gs := gs1) (ms := ms1) kyk (by omega)) (by first | simp only [srlHas_eq] | rfl) (by first | simp only [srlHas_eq] | rfl))) (fun g => by kernel_rfl), ob_s (l := fun g => [blkR b18 [iV mz1, iV t1, .slice a95 N1.length c96, .slice a97 A1.length c98, .slice a99 G1.length c100] 61]) (l' := fun g => [blkR b18 [iV mz1, iV t1, .slice a95 N1.length c96, .slice a97 A1.length c98, .slice a99 G1.length c100] 61]) (v := fun g => .agg #[iV mz1, iV t1, .slice a95 N1.length c96, .slice a97 A1.length c98, .slice a99 G1.length c100]) (fun g => o_loadN (i := 0) [iV mz1, iV t1, .slice a95 N1.length c96, .slice a97 A1.length c98, .slice a99 G1.length c100] (by kernel_rfl) (by kernel_rfl) (by kernel_rfl)) (fun g => by kernel_rfl), ob_val fun g w => by kernel_rfl, ob_s (l := fun g => [blkR b29 [iV kdk, sV kyk, iV nnk] 45]) (l' := fun g => [blkR b29 [iV kdk, sV kyk, iV nnk] 45]) (v := fun g => sV kyk) (fun g => o_load (i := 1) (v := sV kyk) (by kernel_rfl) (by kernel_rfl) (by kernel_rfl)) (fun g => by kernel_rfl), ob_s (l := fun g => [vewR 3 (.slice a95 N1.length c96) N1.length (N1.flatMap kq7), vewR 3 (.slice a97 A1.length c98) A1.length (A1.flatMap kq7), vewR 3 (.slice a99 G1.length c100) G1.length (G1.flatMap kq7)]) (l' := fun g => [vewR 3 (.slice a95 N1.length c96) N1.length (N1.flatMap kq7), vewR 3 (.slice a97 A1.length c98) A1.length (A1.flatMap kq7), vewR 3 (.slice a99 G1.length c100) G1.length (G1.flatMap kq7)]) (v := fun g => bV (r7Has mz1 t1 N1 A1 G1 kyk)) (fun g => o_call (by kernel_rfl) Try.call49 (t_Has07 (cMost := mz1) (cTarget := t1) (cN := N1) (cNa := a95) (cNc := c96) (cA := A1) (cAa := a97) (cAc := c98) (cG := G1) (cGa := a99) (cGc := c100) (s := kyk) (by omega))) (fun g => by kernel_rfl), ob_v (v := fun g => bV false) (fun g => OprV.re (pureV (v := bV (!((decide (kyk ∈ cs1 ++ ns1)) == (r7Has mz1 t1 N1 A1 G1 kyk)))) (by kernel_rfl) rfl fun w => by kernel_rfl) (congrArg Value.bool (show (!((decide (kyk ∈ cs1 ++ ns1)) == (r7Has mz1 t1 N1 A1 G1 kyk))) = false from (by rw [hhs]; simp)))) (fun g => by kernel_rfl), ob_val fun g w => by kernel_rfl, ob_val fun g w => by kernel_rfl, ob_val fun g w => by kernel_rfl, ob_d (ι := Option Addr × Nat) (l := fun g => [srlB b3 nb4 ab5 gb6 mb7 mz1 t1, llR nb4 ns1 n1, llR ab5 cs1 n1, llR gb6 gs1 n1, mapR Value.string markV mb7 ms1]) (L := fun g y => [srlB b3 nb4 ab5 gb6 mb7 mz1 t1, llR nb4 ns1 n1, llR ab5 cs1 n1, llR gb6 gs1 n1, mapR Value.string markV mb7 ms1, rowR 9 1 (.slice y.1 gs1.length y.2) gs1.length (gs1.map Value.string)]) (fun y => .slice y.1 gs1.length y.2) (fun g => o_call (by kernel_rfl) Try.call41 (Tri.rowA (Tri.ex (L' := fun v => srlL b3 nb4 ab5 gb6 mb7 mz1 t1 ns1 cs1 gs1 ms1 n1 ++ [rowR 9 1 v (gs1).length ((gs1).map Value.string)]) (srl_Ghosts (n := n1) (most := mz1) (target := t1) (ns := ns1) (cs := cs1) (gs := gs1) (ms := ms1) (by omega)) (fun v => rfl)))) (fun g => by kernel_rfl) (fun g y _ => ⟨trivial, by kernel_rfl, by kernel_rfl⟩), ob_s (l := fun g => [blkR b18 [iV mz1, iV t1, .slice a95 N1.length c96, .slice a97 A1.length c98, .slice a99 G1.length c100] 61]) (l' := fun g => [blkR b18 [iV mz1, iV t1, .slice a95 N1.length c96, .slice a97 A1.length c98, .slice a99 G1.length c100] 61]) (v := fun g => .agg #[iV mz1, iV t1, .slice a95 N1.length c96, .slice a97 A1.length c98, .slice a99 G1.length c100]) (fun g => o_loadN (i := 0) [iV mz1, iV t1, .slice a95 N1.length c96, .slice a97 A1.length c98, .slice a99 G1.length c100] (by kernel_rfl) (by kernel_rfl) (by kernel_rfl)) (fun g => by kernel_rfl), ob_d (ι := Option Addr × Nat) (l := fun g => [vewR 3 (.slice a95 N1.length c96) N1.length (N1.flatMap kq7), vewR 3 (.slice a97 A1.length c98) A1.length (A1.flatMap kq7), vewR 3 (.slice a99 G1.length c100) G1.length (G1.flatMap kq7)]) (L := fun g y => [vewR 3 (.slice a95 N1.length c96) N1.length (N1.flatMap kq7), vewR 3 (.slice a97 A1.length c98) A1.length (A1.flatMap kq7), vewR 3 (.slice a99 G1.length c100) G1.length (G1.flatMap kq7), rowR 9 1 (.slice y.1 ((r7Ghosts mz1 t1 N1 A1 G1).length) y.2) ((r7Ghosts mz1 t1 N1 A1 G1).length) ((r7Ghosts mz1 t1 N1 A1 G1).map Value.string)]) (fun y => .slice y.1 ((r7Ghosts mz1 t1 N1 A1 G1).length) y.2) (fun g => o_call (by kernel_rfl) Try.call58 (Tri.rowA (L := [vewR 3 (.slice a95 N1.length c96) N1.length (N1.flatMap kq7), vewR 3 (.slice a97 A1.length c98) A1.length (A1.flatMap kq7), vewR 3 (.slice a99 G1.length c100) G1.length (G1.flatMap kq7)]) (t_Ghosts07 (cMost := mz1) (cTarget := t1) (cN := N1) (cNa := a95) (cNc := c96) (cA := A1) (cAa := a97) (cAc := c98) (cG := G1) (cGa := a99) (cGc := c100) (by omega)))) (fun g => by kernel_rfl) (fun g y _ => ⟨trivial, by kernel_rfl, by kernel_rfl⟩), ob_s (l := fun g => [rowR 9 1 (.slice (addrOf (g 35)) gs1.length (capOf (g 35))) gs1.length (gs1.map Value.string), rowR 9 1 (.slice (addrOf (g 37)) ((r7Ghosts mz1 t1 N1 A1 G1).length) (capOf (g 37))) ((r7Ghosts mz1 t1 N1 A1 G1).length) ((r7Ghosts mz1 t1 N1 A1 G1).map Value.string)]) (l' := fun g => [rowR 9 1 (.slice (addrOf (g 35)) gs1.length (capOf (g 35))) gs1.length (gs1.map Value.string), rowR 9 1 (.slice (addrOf (g 37)) ((r7Ghosts mz1 t1 N1 A1 G1).length) (capOf (g 37))) ((r7Ghosts mz1 t1 N1 A1 G1).length) ((r7Ghosts mz1 t1 N1 A1 G1).map Value.string)]) (v := fun g => bV (decide (gs1 = r7Ghosts mz1 t1 N1 A1 G1))) (fun g => o_call (by kernel_rfl) Try.call22 (t_same03 (l := [rowR 9 1 (.slice (addrOf (g 35)) gs1.length (capOf (g 35))) gs1.length (gs1.map Value.string), rowR 9 1 (.slice (addrOf (g 37)) ((r7Ghosts mz1 t1 N1 A1 G1).length) (capOf (g 37))) ((r7Ghosts mz1 t1 N1 A1 G1).length) ((r7Ghosts mz1 t1 N1 A1 G1).map Value.string)]) (xs := gs1) (ys := r7Ghosts mz1 t1 N1 A1 G1) (fun w own hH => ⟨⟨_, Row.strs (hH 0 _ rfl)⟩, ⟨_, Row.strs (hH 1 _ rfl)⟩⟩))) (fun g => by kernel_rfl), ob_v (v := fun g => bV false) (fun g => OprV.re (o_not (by kernel_rfl)) (vF (fun z => z hgo))) (fun g => by kernel_rfl), ob_val fun g w => by kernel_rfl, ob_val fun g w => by kernel_rfl, ob_val fun g w => by kernel_rfl, ob_s (l := fun g => [srlB b3 nb4 ab5 gb6 mb7 mz1 t1, llR nb4 ns1 n1, llR ab5 cs1 n1, llR gb6 gs1 n1, mapR Value.string markV mb7 ms1]) (l' := fun g => [srlB b3 nb4 ab5 gb6 mb7 mz1 t1, llR nb4 ns1 n1, llR ab5 cs1 n1, llR gb6 gs1 n1, mapR Value.string markV mb7 ms1]) (v := fun g => iV t1) (fun g => o_call (by kernel_rfl) Try.call43 (Tri.eq (l2 := srlL b3 nb4 ab5 gb6 mb7 mz1 t1 ns1 cs1 gs1 ms1 n1) (r' := iV t1) (srl_Target (n := n1) (most := mz1) (target := t1) (ns := ns1) (cs := cs1) (gs := gs1) (ms := ms1) (by omega)) (rfl) (rfl))) (fun g => by kernel_rfl), ob_val fun g w => by kernel_rfl, ob_s (l := fun g => [blkR b18 [iV mz1, iV t1, .slice a95 N1.length c96, .slice a97 A1.length c98, .slice a99 G1.length c100] 61]) (l' := fun g => [blkR b18 [iV mz1, iV t1, .slice a95 N1.length c96, .slice a97 A1.length c98, .slice a99 G1.length c100] 61]) (v := fun g => iV t1) (fun g => o_load (i := 1) (v := iV t1) (by kernel_rfl) (by kernel_rfl) (by kernel_rfl)) (fun g => by kernel_rfl), ob_v (v := fun g => bV false) (fun g => OprV.re (o_neI (k := .i64) (a := t1) (b := t1) (by kernel_rfl) (by kernel_rfl)) (vF (fun z => z rfl))) (fun g => by kernel_rfl), ob_val fun g w => by kernel_rfl, ob_val fun g w => by kernel_rfl, ob_val fun g w => by kernel_rfl, ob_s (l := fun g => [srlB b3 nb4 ab5 gb6 mb7 mz1 t1, llR nb4 ns1 n1, llR ab5 cs1 n1, llR gb6 gs1 n1, mapR Value.string markV mb7 ms1]) (l' := fun g => [srlB b3 nb4 ab5 gb6 mb7 mz1 t1, llR nb4 ns1 n1, llR ab5 cs1 n1, llR gb6 gs1 n1, mapR Value.string markV mb7 ms1]) (v := fun g => iV (cs1.length : Int)) (fun g => o_call (by kernel_rfl) Try.call39 (Tri.eq (l2 := srlL b3 nb4 ab5 gb6 mb7 mz1 t1 ns1 cs1 gs1 ms1 n1) (r' := iV (cs1.length : Int)) (srl_Again (n := n1) (most := mz1) (target := t1) (ns := ns1) (cs := cs1) (gs := gs1) (ms := ms1) (by omega)) (rfl) (rfl))) (fun g => by kernel_rfl), ob_val fun g w => by kernel_rfl, ob_s (l := fun g => [blkR b18 [iV mz1, iV t1, .slice a95 N1.length c96, .slice a97 A1.length c98, .slice a99 G1.length c100] 61]) (l' := fun g => [blkR b18 [iV mz1, iV t1, .slice a95 N1.length c96, .slice a97 A1.length c98, .slice a99 G1.length c100] 61]) (v := fun g => .slice a97 A1.length c98) (fun g => o_load (i := 3) (v := .slice a97 A1.length c98) (by kernel_rfl) (by kernel_rfl) (by kernel_rfl)) (fun g => by kernel_rfl), ob_val fun g w => by kernel_rfl, ob_v (v := fun g => bV false) (fun g => OprV.re (o_neI (k := .i64) (a := (cs1.length : Int)) (b := (A1.length : Int)) (by kernel_rfl) (by kernel_rfl)) (vF (fun z => z (by omega)))) (fun g => by kernel_rfl), ob_val fun g w => by kernel_rfl, trivial⟩
      intro g
      refine Ex'.sub (subB_spec [1, 5, 6, 7, 201]) ?_
      refine Ex'.as [0, 1, 2, 3, 4, 5, 6, 7, 8, 9, 10, 11, 22, 47, 49] (σ' := [(1, .slice (some ⟨g27, off28, none⟩) xs.length cap), (5, pV b3 0), (6, pV b18 0), (7, iV (k : Int)), (201, bV false)]) (Γ' := [oldR w0, srlB b3 nb4 ab5 gb6 mb7 mz1 t1, llR nb4 ns1 n1, llR ab5 cs1 n1, llR gb6 gs1 n1, mapR Value.string markV mb7 ms1, blkR b18 [iV mz1, iV t1, .slice a95 N1.length c96, .slice a97 A1.length c98, .slice a99 G1.length c100] 61, vewR 3 (.slice a95 N1.length c96) N1.length (N1.flatMap kq7), vewR 3 (.slice a97 A1.length c98) A1.length (A1.flatMap kq7), vewR 3 (.slice a99 G1.length c100) G1.length (G1.flatMap kq7), blkR b29 [iV kdk, sV kyk, iV nnk] 45, rowR 9 1 (.slice a102 ((r7Keys mz1 t1 N1 A1 G1).length) c103) ((r7Keys mz1 t1 N1 A1 G1).length) ((r7Keys mz1 t1 N1 A1 G1).map Value.string), rowR 9 1 (.slice (addrOf (g 10)) (((cs1 ++ ns1).reverse).length) (capOf (g 10))) (((cs1 ++ ns1).reverse).length) (((cs1 ++ ns1).reverse).map Value.string), rowR 9 1 (.slice (addrOf (g 35)) gs1.length (capOf (g 35))) gs1.length (gs1.map Value.string), rowR 9 1 (.slice (addrOf (g 37)) ((r7Ghosts mz1 t1 N1 A1 G1).length) (capOf (g 37))) ((r7Ghosts mz1 t1 N1 A1 G1).length) ((r7Ghosts mz1 t1 N1 A1 G1).map Value.string)]) (by kernel_rfl) rfl (by kernel_rfl) (by kernel_rfl) ?_
      generalize addrOf (g 10) = a107
      generalize capOf (g 10) = c108
      generalize addrOf (g 35) = a109
      generalize capOf (g 35) = c110
      generalize addrOf (g 37) = a111
      generalize capOf (g 37) = c112
      refine Ex'.next ?_
      refine Cd.condF (by kernel_rfl) ?_
      refine Cd.skip ?_
      refine Ex'.blockNormal ?_
      refine Ex'.next ?_
      refine Cd.region rfl ?_
      refine Sq.vals [0] (rest := [1, 2]) [iV (k : Int)] (fun w => by kernel_rfl) ?_
      refine Sq.v (r := iV ((k : Int) + 1)) (o_add (k := .i64) (a := (k : Int)) (b := 1) (c := (k : Int) + 1) (by kernel_rfl) (by kernel_rfl) (w64 rfl (by omega))) rfl (by kernel_rfl) ?_
      refine Sq.vals [2] (rest := []) [iV ((k : Int) + 1)] (fun w => by kernel_rfl) ?_
      refine Sq.done ?_
      refine Ex'.round (g := (k, mz0, t0, ns0, cs0, gs0, ms0, n0, N0, .slice a20 N0.length c21, A0, .slice a22 A0.length c23, G0, .slice a24 G0.length c25)) (k + 1, mz1, t1, ns1, cs1, gs1, ms1, n1, N1, .slice a95 N1.length c96, A1, .slice a97 A1.length c98, G1, .slice a99 G1.length c100) ?_ ?_ (subB_eq (l := [1, 5, 6, 7]) (by kernel_rfl)) (fun w hw => hw.pickB [0, 1, 2, 3, 4, 5, 6, 7, 8, 9] (by kernel_rfl) (by kernel_rfl) (by kernel_rfl))
      · (try dsimp only); exact ⟨by omega, hI, by omega, by omega, by omega, by omega⟩
      · omega
    ·
      refine Cd.exit ?_
      refine Ex'.thenExit ?_
      refine Ex'.thenExit ?_
      refine Ex'.blockHit ?_
      refine Ex'.next ?_
      refine Cd.seq ?_
      refine Cd.region rfl ?_
      refine Sq.vals [0] (rest := []) [bV true] (fun w => by kernel_rfl) ?_
      refine Sq.done ?_
      refine Ex'.next ?_
      refine Cd.ret ?_
      refine Ex'.ret Try.results13 (RVs.tmp (v := bV true) (by kernel_rfl) (RVs.nil)) (fun w hw => ?_)
      exact ⟨_, ⟨rfl, by kernel_rfl⟩, hw⟩

theorem srlruPlays_walk (m : Int) (v : Value) (xs : List SAct) (w : World) (hm : (Lit.int .i64 m).wf = true) (h : Cells w (fun k => k < w.heap.size) v xs.length 3 (xs.flatMap SAct.cells)) :
    Calls Try.prog 13 #[.int .i64 m, v] w fun e w' => e = .returned (.bool true) ∧ Below w.heap.size w w' := by
  obtain ⟨a, cap, rfl, hl, hs⟩ := script_of h
  exact law_of (srlruPlays_tri (range64 hm) hl hs)

end Go.Proofs.Ytjijjfdkghcjkaa
