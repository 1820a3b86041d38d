/- The same, further. -/
import Derived.Test.YtjijjfdkghcjkaaRef07P1
set_option linter.unusedVariables false
namespace Go.Proofs.Ytjijjfdkghcjkaa
open Go.RowKit Go.MapKept

set_option maxHeartbeats 8000000 in
set_option maxRecDepth 100000 in
theorem t_Ghosts07 {cNa : Option Addr} {cNc : Nat} {cAa : Option Addr} {cAc : Nat} {cGa : Option Addr} {cGc : Nat} {cMost : Int} {cTarget : Int} {cN : List K7} {cA : List K7} {cG : List K7} (hbd : cN.length + cA.length + cG.length ≤ 1000000) : Tri Try.prog 58 #[.agg #[iV cMost, iV cTarget, .slice cNa cN.length cNc, .slice cAa cA.length cAc, .slice cGa cG.length cGc]] [vewR 3 (.slice cNa cN.length cNc) cN.length (cN.flatMap kq7), vewR 3 (.slice cAa cA.length cAc) cA.length (cA.flatMap kq7), vewR 3 (.slice cGa cG.length cGc) cG.length (cG.flatMap kq7)] (PostE (ι := Value) (fun _ => True) (fun v => v) fun v => [vewR 3 (.slice cNa cN.length cNc) cN.length (cN.flatMap kq7), vewR 3 (.slice cAa cA.length cAc) cA.length (cA.flatMap kq7), vewR 3 (.slice cGa cG.length cGc) cG.length (cG.flatMap kq7), rowR 9 1 v ((r7Ghosts cMost cTarget cN cA cG).length) ((r7Ghosts cMost cTarget cN cA cG).map Value.string)]) := by
  refine Tri.enter (args := [.agg #[iV cMost, iV cTarget, .slice cNa cN.length cNc, .slice cAa cA.length cAc, .slice cGa cG.length cGc]]) Try.func58 rfl rfl rfl (fun B wz => ?_)
  refine Cd.fact (i := 0) rfl vew_cap ?_; intro hcap0
  refine Cd.fact (i := 1) rfl vew_cap ?_; intro hcap1
  refine Cd.fact (i := 2) rfl vew_cap ?_; intro hcap2
  have hn1 := nm7_len cG
  refine Cd.seq ?_
  refine Cd.region rfl ?_
  refine Sq.ex [] (l := []) (o_newBox (v := .agg #[iV cMost, iV cTarget, .slice cNa cN.length cNc, .slice cAa cA.length cAc, .slice cGa cG.length cGc]) [iV cMost, iV cTarget, .slice cNa cN.length cNc, .slice cAa cA.length cAc, .slice cGa cG.length cGc] (by kernel_rfl) rfl) (by kernel_rfl) rfl (by kernel_rfl) (fun _ => Nat.zero_le _) ?_; intro b3 _
  refine Sq.vals [1] (rest := []) [.slice none 0 0] (fun w => by kernel_rfl) ?_
  refine Sq.done ?_
  refine Ex'.next ?_
  refine Cd.seq ?_
  refine Cd.region rfl ?_
  refine Sq.vals [0] (rest := []) [.slice none 0 0] (fun w => by kernel_rfl) ?_
  refine Sq.done ?_
  refine Ex'.next ?_
  refine Cd.seq ?_
  refine Cd.region rfl ?_
  refine Sq.vals [0] (rest := [1, 2, 3]) [pV b3 4] (fun w => by kernel_rfl) ?_
  refine Sq.same [3] (l := [blkR b3 [iV cMost, iV cTarget, .slice cNa cN.length cNc, .slice cAa cA.length cAc, .slice cGa cG.length cGc] 61]) (o_load (i := 4) (v := .slice cGa cG.length cGc) (by kernel_rfl) (by kernel_rfl) (by kernel_rfl)) (by kernel_rfl) rfl (by kernel_rfl) rfl ?_
  refine Sq.ex [2] (l := [vewR 3 (.slice cGa cG.length cGc) cG.length (cG.flatMap kq7)]) (o_call (by kernel_rfl) Try.call81 (t_names07 (l := cG) (la := cGa) (lc := cGc) (by omega))) (by kernel_rfl) rfl (by kernel_rfl) (fun _ => Nat.le_of_ble_eq_true (by kernel_rfl)) ?_; rintro v5 _
  have q4 := nm7_len cG
  refine Sq.fact (i := 4) (R := rowR 9 1 v5 ((nm7 cG).length) ((nm7 cG).map Value.string)) (by kernel_rfl) row_slice ?_; rintro ⟨a6, c7, rfl, hc7, hc7'⟩
  have hc7'' : c7 ≤ 9223372036854775807 := hc7'
  refine Sq.vals [3] (rest := []) [.slice a6 ((nm7 cG).length) c7] (fun w => by kernel_rfl) ?_
  refine Sq.done ?_
  refine Ex'.next ?_
  refine Cd.seq ?_
  refine Cd.seq ?_
  refine Cd.region rfl ?_
  refine Sq.vals [0] (rest := []) [iV 0] (fun w => by kernel_rfl) ?_
  refine Sq.done ?_
  refine Ex'.next ?_
  refine Cd.block ?_
  refine Cd.nilRow 9 1 ?_
  refine Cd.loop (ι := Nat × Value × (List ByteArray)) (fun ⟨k, rv, ow⟩ => k ≤ (nm7 cG).length ∧ ow = ((nm7 cG).take k).foldl fr []) (fun ⟨k, rv, ow⟩ => (nm7 cG).length - k) (fun ⟨k, rv, ow⟩ => [(2, .slice none 0 0), (4, .slice a6 ((nm7 cG).length) c7), (5, iV (k : Int)), (3, rv)]) (fun ⟨k, rv, ow⟩ => [vewR 3 (.slice cNa cN.length cNc) cN.length (cN.flatMap kq7), vewR 3 (.slice cAa cA.length cAc) cA.length (cA.flatMap kq7), vewR 3 (.slice cGa cG.length cGc) cG.length (cG.flatMap kq7), blkR b3 [iV cMost, iV cTarget, .slice cNa cN.length cNc, .slice cAa cA.length cAc, .slice cGa cG.length cGc] 61, rowR 9 1 (.slice a6 ((nm7 cG).length) c7) ((nm7 cG).length) ((nm7 cG).map Value.string), rowR 9 1 rv ow.length (ow.map Value.string)]) (0, .slice none 0 0, ([] : List ByteArray)) (⟨Nat.zero_le _, rfl⟩) (subB_eq (l := [2, 4, 5, 3]) (by kernel_rfl)) (fun w hw => hw.pickB [0, 1, 2, 3, 4, 5] (by kernel_rfl) (by kernel_rfl) (by kernel_rfl)) ?_
  rintro ⟨k, rv, ow⟩ hL8
  try dsimp only at hL8 ⊢
  obtain ⟨hk, how⟩ := hL8
  have hol : ow.length ≤ 0 + ((nm7 cG).take k).length := by rw [how]; exact fold_fr_le _ _
  rw [List.length_take] at hol
  refine Cd.fact (i := 5) (R := rowR 9 1 rv ow.length (ow.map Value.string)) (by kernel_rfl) row_slice ?_; rintro ⟨a9, c10, rfl, hc10, hc10'⟩
  have hc10'' : c10 ≤ 9223372036854775807 := hc10'
  refine Cd.seq ?_
  refine Cd.seq ?_
  refine Cd.region rfl ?_
  refine Sq.vals [0, 1, 2, 3] (rest := []) [iV (k : Int), .slice a6 ((nm7 cG).length) c7, iV ((nm7 cG).length : Int), bV (decide ((k : Int) < ((nm7 cG).length : Int)))] (fun w => by kernel_rfl) ?_
  refine Sq.done ?_
  refine Ex'.next ?_
  refine Cd.case (p := (k : Int) < ((nm7 cG).length : Int)) (by kernel_rfl) (fun h11 => ?_) (fun h11 => ?_)
  ·
    refine Cd.skip ?_
    refine Ex'.next ?_
    refine Cd.seq ?_
    refine Cd.block ?_
    refine Cd.region rfl ?_
    refine Sq.vals [0, 1, 2] (rest := [3, 4, 5, 6]) [.slice a9 ow.length c10, .slice a6 ((nm7 cG).length) c7, iV (k : Int)] (fun w => by kernel_rfl) ?_
    refine Sq.fact (i := 4) (R := rowR 9 1 (.slice a6 ((nm7 cG).length) c7) ((nm7 cG).length) ((nm7 cG).map Value.string)) (by kernel_rfl) (row_addr (by omega)) ?_; rintro ⟨b12, rfl⟩
    refine Sq.v (r := pV b12 k) (o_idx (b := b12) (cap := c7) (e := 9) (off := 0) (n := (nm7 cG).length) (kd := .i64) (q := (k : Int)) (i := k) (size := 1) (j := k) (by kernel_rfl) (by kernel_rfl) (by rfl) (by omega) Try.underlying22 (by kernel_rfl) (by omega)) rfl (by kernel_rfl) ?_
    refine Sq.same [4] (l := [rowR 9 1 (.slice (some ⟨b12, 0, none⟩) ((nm7 cG).length) c7) ((nm7 cG).length) ((nm7 cG).map Value.string)]) (o_loadRow (i := k) (u := sV ((nm7 cG).getD k ⟨#[]⟩)) (by kernel_rfl) (by omega) (by kernel_rfl) (get_map (by omega))) (by kernel_rfl) rfl (by kernel_rfl) rfl ?_
    refine Sq.ex [5] (l := [rowR 9 1 (.slice a9 ow.length c10) ow.length (ow.map Value.string)]) (o_call (by kernel_rfl) Try.call21 (t_front03 (l := [rowR 9 1 (.slice a9 ow.length c10) ow.length (ow.map Value.string)]) (xs := ow) ((nm7 cG).getD k ⟨#[]⟩) (fun w own hH => ⟨_, Row.strs (hH 0 _ rfl)⟩) (by omega))) (by kernel_rfl) rfl (by kernel_rfl) (fun _ => Nat.le_of_ble_eq_true (by kernel_rfl)) ?_; rintro v13 _
    refine Sq.fact (i := 6) (R := rowR 9 1 v13 ((fr ow ((nm7 cG).getD k ⟨#[]⟩)).length) ((fr ow ((nm7 cG).getD k ⟨#[]⟩)).map Value.string)) (by kernel_rfl) row_slice ?_; rintro ⟨a14, c15, rfl, hc15, hc15'⟩
    have hc15'' : c15 ≤ 9223372036854775807 := hc15'
    refine Sq.vals [6] (rest := []) [.slice a14 ((fr ow ((nm7 cG).getD k ⟨#[]⟩)).length) c15] (fun w => by kernel_rfl) ?_
    refine Sq.done ?_
    refine Ex'.blockNormal ?_
    refine Ex'.next ?_
    refine Cd.region rfl ?_
    refine Sq.vals [0] (rest := [1, 2]) [iV (k : Int)] (fun w => by kernel_rfl) ?_
    refine Sq.v (r := iV ((k + 1 : Nat) : Int)) (o_add (k := .i64) (a := (k : Int)) (b := 1) (c := ((k + 1 : Nat) : Int)) (by kernel_rfl) (by kernel_rfl) (w64 (by omega) (by omega))) rfl (by kernel_rfl) ?_
    refine Sq.vals [2] (rest := []) [iV ((k + 1 : Nat) : Int)] (fun w => by kernel_rfl) ?_
    refine Sq.done ?_
    refine Ex'.round (g := (k, .slice a9 ow.length c10, ow)) (k + 1, .slice a14 ((fr ow ((nm7 cG).getD k ⟨#[]⟩)).length) c15, fr ow ((nm7 cG).getD k ⟨#[]⟩)) ?_ ?_ (subB_eq (l := [2, 4, 5, 3]) (by kernel_rfl)) (fun w hw => hw.pickB [0, 1, 2, 3, 4, 6] (by kernel_rfl) (by kernel_rfl) (by kernel_rfl))
    · (try dsimp only); exact ⟨by omega, by rw [take_fold (by omega), how]⟩
    · omega
  ·
    refine Cd.exit ?_
    refine Ex'.thenExit ?_
    refine Ex'.thenExit ?_
    refine Ex'.blockHit ?_
    refine Ex'.next ?_
    refine Cd.seq ?_
    refine Cd.region rfl ?_
    refine Sq.vals [0, 1] (rest := []) [.slice a9 ow.length c10, .slice a9 ow.length c10] (fun w => by kernel_rfl) ?_
    refine Sq.done ?_
    refine Ex'.next ?_
    refine Cd.ret ?_
    refine Ex'.ret Try.results58 (RVs.tmp (v := .slice a9 ow.length c10) (by kernel_rfl) (RVs.nil)) (fun w hw => ?_)
    have e : r7Ghosts cMost cTarget cN cA cG = ow := by unfold r7Ghosts; rw [how, List.take_of_length_le (by omega)]
    rw [e]
    exact ⟨_, ⟨(.slice a9 ow.length c10), trivial, rfl, rfl⟩, hw.pickB [0, 1, 2, 5] (by kernel_rfl) (by kernel_rfl) (by kernel_rfl)⟩

/-- Evicted till there are no more than M. -/
def rsz7 (M t : Int) : Nat → List K7 → List K7 → List K7 → List K7 × List K7 × List K7 × List ByteArray
  | 0, N, A, G => (N, A, G, [])
  | k + 1, N, A, G => if ((N.length + A.length : Nat) : Int) > M then ((rsz7 M t k (r7Evict M t N A G).1 (r7Evict M t N A G).2.1 (r7Evict M t N A G).2.2.1).1, (rsz7 M t k (r7Evict M t N A G).1 (r7Evict M t N A G).2.1 (r7Evict M t N A G).2.2.1).2.1, (rsz7 M t k (r7Evict M t N A G).1 (r7Evict M t N A G).2.1 (r7Evict M t N A G).2.2.1).2.2.1, (r7Evict M t N A G).2.2.2 :: (rsz7 M t k (r7Evict M t N A G).1 (r7Evict M t N A G).2.1 (r7Evict M t N A G).2.2.1).2.2.2) else (N, A, G, [])
theorem rsz7_stop {M t : Int} {N A G : List K7} (h : ¬ ((N.length + A.length : Nat) : Int) > M) (k : Nat) : rsz7 M t k N A G = (N, A, G, []) := by
  cases k with
  | zero => rfl
  | succ k => rw [rsz7, if_neg h]
structure Rsz7I (M t : Int) (N A G N2 A2 G2 : List K7) (rw : List ByteArray) : Prop where
  e : rsz7 M t (N.length + A.length) N A G = ((rsz7 M t (N2.length + A2.length) N2 A2 G2).1, (rsz7 M t (N2.length + A2.length) N2 A2 G2).2.1, (rsz7 M t (N2.length + A2.length) N2 A2 G2).2.2.1, rw ++ (rsz7 M t (N2.length + A2.length) N2 A2 G2).2.2.2)
  tot : rw.length + N2.length + A2.length = N.length + A.length
  g : G2.length ≤ G.length + rw.length
theorem Rsz7I.new {M t : Int} {N A G : List K7} : Rsz7I M t N A G N A G [] := ⟨rfl, by simp, by simp⟩
theorem Rsz7I.step {M t : Int} {N A G N2 A2 G2 : List K7} {rw : List ByteArray} (h : Rsz7I M t N A G N2 A2 G2 rw) (hM : 0 ≤ M) (hc : ((N2.length + A2.length : Nat) : Int) > M) :
    Rsz7I M t N A G (r7Evict M t N2 A2 G2).1 (r7Evict M t N2 A2 G2).2.1 (r7Evict M t N2 A2 G2).2.2.1 (rw ++ [(r7Evict M t N2 A2 G2).2.2.2]) := by
  obtain ⟨h1, h2, h3⟩ := h
  obtain ⟨h4, h5⟩ := r7Evict_len M t N2 A2 G2 hM (by omega)
  refine ⟨?_, by simp only [List.length_append, List.length_singleton]; omega, by simp only [List.length_append, List.length_singleton]; omega⟩
  rw [h1, ← h4, rsz7, if_pos (by omega)]
  simp
def r7Resize (cMost cTarget : Int) (cN cA cG : List K7) (most : Int) : Int × Int × List K7 × List K7 × List K7 × List ByteArray :=
  let M := if most < 0 then 0 else most
  let t := if cTarget > M then M else cTarget
  let z := rsz7 M t (cN.length + cA.length) cN cA cG
  (M, t, (r7Trim M t z.1 z.2.1 z.2.2.1).1, (r7Trim M t z.1 z.2.1 z.2.2.1).2.1, (r7Trim M t z.1 z.2.1 z.2.2.1).2.2, z.2.2.2)

set_option maxHeartbeats 8000000 in
set_option maxRecDepth 100000 in
theorem t_Resize07 {cNa : Option Addr} {cNc : Nat} {cAa : Option Addr} {cAc : Nat} {cGa : Option Addr} {cGc : Nat} {cMost : Int} {cTarget : Int} {cN : List K7} {cA : List K7} {cG : List K7} {most : Int} (hbd : cN.length + cA.length + cG.length ≤ 500000) (hm : -9223372036854775808 ≤ most ∧ most ≤ 9223372036854775807) : Tri Try.prog 53 #[.agg #[iV cMost, iV cTarget, .slice cNa cN.length cNc, .slice cAa cA.length cAc, .slice cGa cG.length cGc], iV most] [vewR 3 (.slice cNa cN.length cNc) cN.length (cN.flatMap kq7), vewR 3 (.slice cAa cA.length cAc) cA.length (cA.flatMap kq7), vewR 3 (.slice cGa cG.length cGc) cG.length (cG.flatMap kq7)] (PostE (ι := Value × Value × Value × Value) (fun _ => True) (fun v => .tuple #[.agg #[iV ((r7Resize cMost cTarget cN cA cG most).1), iV ((r7Resize cMost cTarget cN cA cG most).2.1), v.1, v.2.1, v.2.2.1], v.2.2.2]) fun v => [vewR 3 v.1 (((r7Resize cMost cTarget cN cA cG most).2.2.1).length) (((r7Resize cMost cTarget cN cA cG most).2.2.1).flatMap kq7), vewR 3 v.2.1 (((r7Resize cMost cTarget cN cA cG most).2.2.2.1).length) (((r7Resize cMost cTarget cN cA cG most).2.2.2.1).flatMap kq7), vewR 3 v.2.2.1 (((r7Resize cMost cTarget cN cA cG most).2.2.2.2.1).length) (((r7Resize cMost cTarget cN cA cG most).2.2.2.2.1).flatMap kq7), rowR 9 1 v.2.2.2 (((r7Resize cMost cTarget cN cA cG most).2.2.2.2.2).length) (((r7Resize cMost cTarget cN cA cG most).2.2.2.2.2).map Value.string)]) := by
  refine Tri.enter (args := [.agg #[iV cMost, iV cTarget, .slice cNa cN.length cNc, .slice cAa cA.length cAc, .slice cGa cG.length cGc], iV most]) Try.func53 rfl rfl rfl (fun B wz => ?_)
  refine Cd.fact (i := 0) rfl vew_cap ?_; intro hcap0
  refine Cd.fact (i := 1) rfl vew_cap ?_; intro hcap1
  refine Cd.fact (i := 2) rfl vew_cap ?_; intro hcap2
  refine Cd.seq ?_
  refine Cd.region rfl ?_
  refine Sq.ex [] (l := []) (o_newBox (v := .agg #[iV cMost, iV cTarget, .slice cNa cN.length cNc, .slice cAa cA.length cAc, .slice cGa cG.length cGc]) [iV cMost, iV cTarget, .slice cNa cN.length cNc, .slice cAa cA.length cAc, .slice cGa cG.length cGc] (by kernel_rfl) rfl) (by kernel_rfl) rfl (by kernel_rfl) (fun _ => Nat.zero_le _) ?_; intro b3 _
  refine Sq.ex [] (l := []) (o_new [iV 0, iV 0, .slice none 0 0, .slice none 0 0, .slice none 0 0] (fun w => by kernel_rfl)) (by kernel_rfl) rfl (by kernel_rfl) (fun _ => Nat.zero_le _) ?_; intro b4 _
  refine Sq.vals [2] (rest := []) [.slice none 0 0] (fun w => by kernel_rfl) ?_
  refine Sq.done ?_
  refine Ex'.next ?_
  refine Cd.seq ?_
  refine Cd.region rfl ?_
  refine Sq.vals [0] (rest := [1, 2, 3, 4]) [iV most] (fun w => by kernel_rfl) ?_
  refine Sq.ex [] (l := []) (o_call (by kernel_rfl) Try.call47 (t_New07_e (most := most) (by omega))) (by kernel_rfl) rfl (by kernel_rfl) (fun _ => Nat.le_of_ble_eq_true (by kernel_rfl)) ?_; rintro ⟨v6, v7, v8⟩ _
  have q5 : 0 ≤ (if most < 0 then 0 else most) := by split <;> omega
  refine Sq.fact (i := 5) (R := vewR 3 v6 (([] : List K7).length) (([] : List K7).flatMap kq7)) (by kernel_rfl) vew_slice ?_; rintro ⟨a9, c10, rfl, hc10, hc10'⟩
  have hc10'' : c10 ≤ 9223372036854775807 := hc10'
  refine Sq.fact (i := 6) (R := vewR 3 v7 (([] : List K7).length) (([] : List K7).flatMap kq7)) (by kernel_rfl) vew_slice ?_; rintro ⟨a11, c12, rfl, hc12, hc12'⟩
  have hc12'' : c12 ≤ 9223372036854775807 := hc12'
  refine Sq.fact (i := 7) (R := vewR 3 v8 (([] : List K7).length) (([] : List K7).flatMap kq7)) (by kernel_rfl) vew_slice ?_; rintro ⟨a13, c14, rfl, hc14, hc14'⟩
  have hc14'' : c14 ≤ 9223372036854775807 := hc14'
  refine Sq.vals [2, 3] (rest := [4]) [iV (if most < 0 then 0 else most), pV b3 0] (fun w => by kernel_rfl) ?_
  refine Sq.same [3] (l := [blkR b3 [iV cMost, iV cTarget, .slice cNa cN.length cNc, .slice cAa cA.length cAc, .slice cGa cG.length cGc] 61]) (o_store (i := 0) (v := iV (if most < 0 then 0 else most)) (by kernel_rfl) (by kernel_rfl) (by kernel_rfl) (by kernel_rfl) (by kernel_rfl)) (by kernel_rfl) rfl (by kernel_rfl) rfl ?_
  refine Sq.done ?_
  refine Ex'.next ?_
  refine Cd.seq ?_
  refine Cd.seq ?_
  refine Cd.region rfl ?_
  refine Sq.vals [0] (rest := [1, 2, 3, 4]) [pV b3 1] (fun w => by kernel_rfl) ?_
  refine Sq.same [3] (l := [blkR b3 [iV (if most < 0 then 0 else most), iV cTarget, .slice cNa cN.length cNc, .slice cAa cA.length cAc, .slice cGa cG.length cGc] 61]) (o_load (i := 1) (v := iV cTarget) (by kernel_rfl) (by kernel_rfl) (by kernel_rfl)) (by kernel_rfl) rfl (by kernel_rfl) rfl ?_
  refine Sq.vals [2] (rest := [3, 4]) [pV b3 0] (fun w => by kernel_rfl) ?_
  refine Sq.same [3] (l := [blkR b3 [iV (if most < 0 then 0 else most), iV cTarget, .slice cNa cN.length cNc, .slice cAa cA.length cAc, .slice cGa cG.length cGc] 61]) (o_load (i := 0) (v := iV (if most < 0 then 0 else most)) (by kernel_rfl) (by kernel_rfl) (by kernel_rfl)) (by kernel_rfl) rfl (by kernel_rfl) rfl ?_
  refine Sq.vals [4] (rest := []) [bV (decide (cTarget > (if most < 0 then 0 else most)))] (fun w => by kernel_rfl) ?_
  refine Sq.done ?_
  refine Ex'.next ?_
  refine Cd.case (p := cTarget > (if most < 0 then 0 else most)) (by kernel_rfl) (fun h15 => ?_) (fun h15 => ?_)
  ·
    refine Cd.region rfl ?_
    refine Sq.vals [0] (rest := [1, 2, 3]) [pV b3 0] (fun w => by kernel_rfl) ?_
    refine Sq.same [3] (l := [blkR b3 [iV (if most < 0 then 0 else most), iV cTarget, .slice cNa cN.length cNc, .slice cAa cA.length cAc, .slice cGa cG.length cGc] 61]) (o_load (i := 0) (v := iV (if most < 0 then 0 else most)) (by kernel_rfl) (by kernel_rfl) (by kernel_rfl)) (by kernel_rfl) rfl (by kernel_rfl) rfl ?_
    refine Sq.vals [2] (rest := [3]) [pV b3 1] (fun w => by kernel_rfl) ?_
    refine Sq.same [3] (l := [blkR b3 [iV (if most < 0 then 0 else most), iV cTarget, .slice cNa cN.length cNc, .slice cAa cA.length cAc, .slice cGa cG.length cGc] 61]) (o_store (i := 1) (v := iV (if most < 0 then 0 else most)) (by kernel_rfl) (by kernel_rfl) (by kernel_rfl) (by kernel_rfl) (by kernel_rfl)) (by kernel_rfl) rfl (by kernel_rfl) rfl ?_
    refine Sq.done ?_
    refine Ex'.next ?_
    refine Cd.seq ?_
    refine Cd.region rfl ?_
    refine Sq.vals [0] (rest := []) [.slice none 0 0] (fun w => by kernel_rfl) ?_
    refine Sq.done ?_
    refine Ex'.next ?_
    refine Cd.seq ?_
    refine Cd.block ?_
    refine Cd.nilRow 9 1 ?_
    refine Cd.loop (ι := Value × (List K7) × Value × (List K7) × Value × (List K7) × Value × (List ByteArray)) (fun ⟨vN, N2, vA, A2, vG, G2, rv, rw⟩ => Rsz7I (if most < 0 then 0 else most) (if most < 0 then 0 else most) cN cA cG N2 A2 G2 rw) (fun ⟨vN, N2, vA, A2, vG, G2, rv, rw⟩ => N2.length + A2.length) (fun ⟨vN, N2, vA, A2, vG, G2, rv, rw⟩ => [(2, pV b3 0), (4, pV b4 0), (5, .slice none 0 0), (6, rv)]) (fun ⟨vN, N2, vA, A2, vG, G2, rv, rw⟩ => [vewR 3 vN N2.length (N2.flatMap kq7), vewR 3 vA A2.length (A2.flatMap kq7), vewR 3 vG G2.length (G2.flatMap kq7), rowR 9 1 rv rw.length (rw.map Value.string), blkR b3 [iV (if most < 0 then 0 else most), iV (if most < 0 then 0 else most), vN, vA, vG] 61, blkR b4 [iV 0, iV 0, .slice none 0 0, .slice none 0 0, .slice none 0 0] 61]) (.slice cNa cN.length cNc, cN, .slice cAa cA.length cAc, cA, .slice cGa cG.length cGc, cG, .slice none 0 0, ([] : List ByteArray)) (Rsz7I.new) (subB_eq (l := [2, 4, 5, 6]) (by kernel_rfl)) (fun w hw => hw.pickB [0, 1, 2, 8, 3, 4] (by kernel_rfl) (by kernel_rfl) (by kernel_rfl)) ?_
    rintro ⟨vN, N2, vA, A2, vG, G2, rv, rw⟩ hL16
    try dsimp only at hL16 ⊢
    have hz := hL16
    have hz1 := hz.tot; have hz2 := hz.g
    refine Cd.fact (i := 0) (R := vewR 3 vN N2.length (N2.flatMap kq7)) (by kernel_rfl) vew_slice ?_; rintro ⟨a17, c18, rfl, hc18, hc18'⟩
    have hc18'' : c18 ≤ 9223372036854775807 := hc18'
    refine Cd.fact (i := 1) (R := vewR 3 vA A2.length (A2.flatMap kq7)) (by kernel_rfl) vew_slice ?_; rintro ⟨a19, c20, rfl, hc20, hc20'⟩
    have hc20'' : c20 ≤ 9223372036854775807 := hc20'
    refine Cd.fact (i := 2) (R := vewR 3 vG G2.length (G2.flatMap kq7)) (by kernel_rfl) vew_slice ?_; rintro ⟨a21, c22, rfl, hc22, hc22'⟩
    have hc22'' : c22 ≤ 9223372036854775807 := hc22'
    refine Cd.fact (i := 3) (R := rowR 9 1 rv rw.length (rw.map Value.string)) (by kernel_rfl) row_slice ?_; rintro ⟨a23, c24, rfl, hc24, hc24'⟩
    have hc24'' : c24 ≤ 9223372036854775807 := hc24'
    refine Cd.seq ?_
    refine Cd.seq ?_
    refine Cd.region rfl ?_
    refine Sq.vals [0] (rest := [1, 2, 3, 4, 5, 6, 7, 8, 9]) [pV b3 2] (fun w => by kernel_rfl) ?_
    refine Sq.same [4] (l := [blkR b3 [iV (if most < 0 then 0 else most), iV (if most < 0 then 0 else most), .slice a17 N2.length c18, .slice a19 A2.length c20, .slice a21 G2.length c22] 61]) (o_load (i := 2) (v := .slice a17 N2.length c18) (by kernel_rfl) (by kernel_rfl) (by kernel_rfl)) (by kernel_rfl) rfl (by kernel_rfl) rfl ?_
    refine Sq.vals [2, 3] (rest := [4, 5, 6, 7, 8, 9]) [iV (N2.length : Int), pV b3 3] (fun w => by kernel_rfl) ?_
    refine Sq.same [4] (l := [blkR b3 [iV (if most < 0 then 0 else most), iV (if most < 0 then 0 else most), .slice a17 N2.length c18, .slice a19 A2.length c20, .slice a21 G2.length c22] 61]) (o_load (i := 3) (v := .slice a19 A2.length c20) (by kernel_rfl) (by kernel_rfl) (by kernel_rfl)) (by kernel_rfl) rfl (by kernel_rfl) rfl ?_
    refine Sq.vals [5] (rest := [6, 7, 8, 9]) [iV (A2.length : Int)] (fun w => by kernel_rfl) ?_
    refine Sq.v (r := iV ((N2.length + A2.length : Nat) : Int)) (o_add (k := .i64) (a := (N2.length : Int)) (b := (A2.length : Int)) (c := ((N2.length + A2.length : Nat) : Int)) (by kernel_rfl) (by kernel_rfl) (w64 (by omega) (by omega))) rfl (by kernel_rfl) ?_
    refine Sq.vals [7] (rest := [8, 9]) [pV b3 0] (fun w => by kernel_rfl) ?_
    refine Sq.same [4] (l := [blkR b3 [iV (if most < 0 then 0 else most), iV (if most < 0 then 0 else most), .slice a17 N2.length c18, .slice a19 A2.length c20, .slice a21 G2.length c22] 61]) (o_load (i := 0) (v := iV (if most < 0 then 0 else most)) (by kernel_rfl) (by kernel_rfl) (by kernel_rfl)) (by kernel_rfl) rfl (by kernel_rfl) rfl ?_
    refine Sq.vals [9] (rest := []) [bV (decide (((N2.length + A2.length : Nat) : Int) > (if most < 0 then 0 else most)))] (fun w => by kernel_rfl) ?_
    refine Sq.done ?_
    refine Ex'.next ?_
    refine Cd.case (p := ((N2.length + A2.length : Nat) : Int) > (if most < 0 then 0 else most)) (by kernel_rfl) (fun h25 => ?_) (fun h25 => ?_)
    ·
      refine Cd.skip ?_
      refine Ex'.next ?_
      refine Cd.block ?_
      refine Cd.seq ?_
      refine Cd.region rfl ?_
      refine Sq.same [4] (l := [blkR b3 [iV (if most < 0 then 0 else most), iV (if most < 0 then 0 else most), .slice a17 N2.length c18, .slice a19 A2.length c20, .slice a21 G2.length c22] 61]) (o_loadN (i := 0) [iV (if most < 0 then 0 else most), iV (if most < 0 then 0 else most), .slice a17 N2.length c18, .slice a19 A2.length c20, .slice a21 G2.length c22] (by kernel_rfl) (by kernel_rfl) (by kernel_rfl)) (by kernel_rfl) rfl (by kernel_rfl) rfl ?_
      refine Sq.ex [0, 1, 2] (l := [vewR 3 (.slice a17 N2.length c18) N2.length (N2.flatMap kq7), vewR 3 (.slice a19 A2.length c20) A2.length (A2.flatMap kq7), vewR 3 (.slice a21 G2.length c22) G2.length (G2.flatMap kq7)]) (o_call (by kernel_rfl) Try.call77 (t_evict07 (cMost := (if most < 0 then 0 else most)) (cTarget := (if most < 0 then 0 else most)) (cN := N2) (cNa := a17) (cNc := c18) (cA := A2) (cAa := a19) (cAc := c20) (cG := G2) (cGa := a21) (cGc := c22) (by omega) (by omega) (by omega))) (by kernel_rfl) rfl (by kernel_rfl) (fun _ => Nat.le_of_ble_eq_true (by kernel_rfl)) ?_; rintro ⟨v27, v28, v29⟩ _
      have q26 := r7Evict_len (if most < 0 then 0 else most) (if most < 0 then 0 else most) N2 A2 G2 (by omega) (by omega)
      refine Sq.fact (i := 0) (R := vewR 3 v27 (((r7Evict (if most < 0 then 0 else most) (if most < 0 then 0 else most) N2 A2 G2).1).length) (((r7Evict (if most < 0 then 0 else most) (if most < 0 then 0 else most) N2 A2 G2).1).flatMap kq7)) (by kernel_rfl) vew_slice ?_; rintro ⟨a30, c31, rfl, hc31, hc31'⟩
      have hc31'' : c31 ≤ 9223372036854775807 := hc31'
      refine Sq.fact (i := 1) (R := vewR 3 v28 (((r7Evict (if most < 0 then 0 else most) (if most < 0 then 0 else most) N2 A2 G2).2.1).length) (((r7Evict (if most < 0 then 0 else most) (if most < 0 then 0 else most) N2 A2 G2).2.1).flatMap kq7)) (by kernel_rfl) vew_slice ?_; rintro ⟨a32, c33, rfl, hc33, hc33'⟩
      have hc33'' : c33 ≤ 9223372036854775807 := hc33'
      refine Sq.fact (i := 2) (R := vewR 3 v29 (((r7Evict (if most < 0 then 0 else most) (if most < 0 then 0 else most) N2 A2 G2).2.2.1).length) (((r7Evict (if most < 0 then 0 else most) (if most < 0 then 0 else most) N2 A2 G2).2.2.1).flatMap kq7)) (by kernel_rfl) vew_slice ?_; rintro ⟨a34, c35, rfl, hc35, hc35'⟩
      have hc35'' : c35 ≤ 9223372036854775807 := hc35'
      refine Sq.vals [2, 3, 4] (rest := [5, 6, 7]) [.tuple #[.agg #[iV (if most < 0 then 0 else most), iV (if most < 0 then 0 else most), .slice a30 (((r7Evict (if most < 0 then 0 else most) (if most < 0 then 0 else most) N2 A2 G2).1).length) c31, .slice a32 (((r7Evict (if most < 0 then 0 else most) (if most < 0 then 0 else most) N2 A2 G2).2.1).length) c33, .slice a34 (((r7Evict (if most < 0 then 0 else most) (if most < 0 then 0 else most) N2 A2 G2).2.2.1).length) c35], sV ((r7Evict (if most < 0 then 0 else most) (if most < 0 then 0 else most) N2 A2 G2).2.2.2)], .agg #[iV (if most < 0 then 0 else most), iV (if most < 0 then 0 else most), .slice a30 (((r7Evict (if most < 0 then 0 else most) (if most < 0 then 0 else most) N2 A2 G2).1).length) c31, .slice a32 (((r7Evict (if most < 0 then 0 else most) (if most < 0 then 0 else most) N2 A2 G2).2.1).length) c33, .slice a34 (((r7Evict (if most < 0 then 0 else most) (if most < 0 then 0 else most) N2 A2 G2).2.2.1).length) c35], sV ((r7Evict (if most < 0 then 0 else most) (if most < 0 then 0 else most) N2 A2 G2).2.2.2)] (fun w => by kernel_rfl) ?_
      refine Sq.ex [] (l := []) (o_new [iV 0, iV 0, .slice none 0 0, .slice none 0 0, .slice none 0 0] (fun w => by kernel_rfl)) (by kernel_rfl) rfl (by kernel_rfl) (fun _ => Nat.zero_le _) ?_; intro b36 _
      refine Sq.same [6] (l := [blkR b36 [iV 0, iV 0, .slice none 0 0, .slice none 0 0, .slice none 0 0] 61]) (o_store (i := 0) (v := .agg #[iV (if most < 0 then 0 else most), iV (if most < 0 then 0 else most), .slice a30 (((r7Evict (if most < 0 then 0 else most) (if most < 0 then 0 else most) N2 A2 G2).1).length) c31, .slice a32 (((r7Evict (if most < 0 then 0 else most) (if most < 0 then 0 else most) N2 A2 G2).2.1).length) c33, .slice a34 (((r7Evict (if most < 0 then 0 else most) (if most < 0 then 0 else most) N2 A2 G2).2.2.1).length) c35]) (by kernel_rfl) (by kernel_rfl) (by kernel_rfl) (by kernel_rfl) (by kernel_rfl)) (by kernel_rfl) rfl (by kernel_rfl) rfl ?_
      refine Sq.vals [7] (rest := []) [sV ((r7Evict (if most < 0 then 0 else most) (if most < 0 then 0 else most) N2 A2 G2).2.2.2)] (fun w => by kernel_rfl) ?_
      refine Sq.done ?_
      refine Ex'.next ?_
      refine Cd.seq ?_
      refine Cd.region rfl ?_
      refine Sq.same [6] (l := [blkR b36 [iV (if most < 0 then 0 else most), iV (if most < 0 then 0 else most), .slice a30 (((r7Evict (if most < 0 then 0 else most) (if most < 0 then 0 else most) N2 A2 G2).1).length) c31, .slice a32 (((r7Evict (if most < 0 then 0 else most) (if most < 0 then 0 else most) N2 A2 G2).2.1).length) c33, .slice a34 (((r7Evict (if most < 0 then 0 else most) (if most < 0 then 0 else most) N2 A2 G2).2.2.1).length) c35] 61]) (o_loadN (i := 0) [iV (if most < 0 then 0 else most), iV (if most < 0 then 0 else most), .slice a30 (((r7Evict (if most < 0 then 0 else most) (if most < 0 then 0 else most) N2 A2 G2).1).length) c31, .slice a32 (((r7Evict (if most < 0 then 0 else most) (if most < 0 then 0 else most) N2 A2 G2).2.1).length) c33, .slice a34 (((r7Evict (if most < 0 then 0 else most) (if most < 0 then 0 else most) N2 A2 G2).2.2.1).length) c35] (by kernel_rfl) (by kernel_rfl) (by kernel_rfl)) (by kernel_rfl) rfl (by kernel_rfl) rfl ?_
      refine Sq.same [4] (l := [blkR b3 [iV (if most < 0 then 0 else most), iV (if most < 0 then 0 else most), .slice a17 N2.length c18, .slice a19 A2.length c20, .slice a21 G2.length c22] 61]) (o_store (i := 0) (v := .agg #[iV (if most < 0 then 0 else most), iV (if most < 0 then 0 else most), .slice a30 (((r7Evict (if most < 0 then 0 else most) (if most < 0 then 0 else most) N2 A2 G2).1).length) c31, .slice a32 (((r7Evict (if most < 0 then 0 else most) (if most < 0 then 0 else most) N2 A2 G2).2.1).length) c33, .slice a34 (((r7Evict (if most < 0 then 0 else most) (if most < 0 then 0 else most) N2 A2 G2).2.2.1).length) c35]) (by kernel_rfl) (by kernel_rfl) (by kernel_rfl) (by kernel_rfl) (by kernel_rfl)) (by kernel_rfl) rfl (by kernel_rfl) rfl ?_
      refine Sq.done ?_
      refine Ex'.next ?_
      refine Cd.region rfl ?_
      refine Sq.vals [0, 1] (rest := [2, 3, 4]) [.slice a23 rw.length c24, sV ((r7Evict (if most < 0 then 0 else most) (if most < 0 then 0 else most) N2 A2 G2).2.2.2)] (fun w => by kernel_rfl) ?_
      refine Sq.ex [] (l := []) (o_lit (sz := 1) (sV ⟨#[]⟩) [sV ((r7Evict (if most < 0 then 0 else most) (if most < 0 then 0 else most) N2 A2 G2).2.2.2)] Try.underlying22 (by kernel_rfl) (by kernel_rfl) (by kernel_rfl) (by kernel_rfl) (by kernel_rfl)) (by kernel_rfl) rfl (by kernel_rfl) (fun _ => Nat.zero_le _) ?_; intro b37 _
      refine Sq.ex [3, 7] (l := [rowR 9 1 (.slice a23 rw.length c24) rw.length (rw.map Value.string), blkR b37 [sV ((r7Evict (if most < 0 then 0 else most) (if most < 0 then 0 else most) N2 A2 G2).2.2.2)] 9]) (o_push (n' := (rw ++ [(r7Evict (if most < 0 then 0 else most) (if most < 0 then 0 else most) N2 A2 G2).2.2.2]).length) (xs' := (rw ++ [(r7Evict (if most < 0 then 0 else most) (if most < 0 then 0 else most) N2 A2 G2).2.2.2]).map Value.string) (by kernel_rfl) (by kernel_rfl) sl_str (by decide) rfl (by kernel_rfl) (by unfold maxLen; first | omega | (simp only [List.length_nil]; omega)) (by first | omega | (simp only [List.length_nil]; omega)) (by simp) (by simp)) (by kernel_rfl) rfl (by kernel_rfl) (fun _ => Nat.le_of_ble_eq_true (by kernel_rfl)) ?_; rintro v38 _
      refine Sq.fact (i := 3) (R := rowR 9 1 v38 ((rw ++ [(r7Evict (if most < 0 then 0 else most) (if most < 0 then 0 else most) N2 A2 G2).2.2.2]).length) ((rw ++ [(r7Evict (if most < 0 then 0 else most) (if most < 0 then 0 else most) N2 A2 G2).2.2.2]).map Value.string)) (by kernel_rfl) row_slice ?_; rintro ⟨a39, c40, rfl, hc40, hc40'⟩
      have hc40'' : c40 ≤ 9223372036854775807 := hc40'
      have hlen41 : (rw ++ [(r7Evict (if most < 0 then 0 else most) (if most < 0 then 0 else most) N2 A2 G2).2.2.2]).length = rw.length + 1 := by simp
      refine Sq.fact (i := 3) (R := rowR 9 1 (.slice a39 ((rw ++ [(r7Evict (if most < 0 then 0 else most) (if most < 0 then 0 else most) N2 A2 G2).2.2.2]).length) c40) ((rw ++ [(r7Evict (if most < 0 then 0 else most) (if most < 0 then 0 else most) N2 A2 G2).2.2.2]).length) ((rw ++ [(r7Evict (if most < 0 then 0 else most) (if most < 0 then 0 else most) N2 A2 G2).2.2.2]).map Value.string)) (by kernel_rfl) (row_addr (by simp)) ?_; rintro ⟨b42, rfl⟩
      refine Sq.vals [4] (rest := []) [.slice (some ⟨b42, 0, none⟩) ((rw ++ [(r7Evict (if most < 0 then 0 else most) (if most < 0 then 0 else most) N2 A2 G2).2.2.2]).length) c40] (fun w => by kernel_rfl) ?_
      refine Sq.done ?_
      refine Ex'.blockNormal ?_
      refine Ex'.round (g := (.slice a17 N2.length c18, N2, .slice a19 A2.length c20, A2, .slice a21 G2.length c22, G2, .slice a23 rw.length c24, rw)) (.slice a30 (((r7Evict (if most < 0 then 0 else most) (if most < 0 then 0 else most) N2 A2 G2).1).length) c31, (r7Evict (if most < 0 then 0 else most) (if most < 0 then 0 else most) N2 A2 G2).1, .slice a32 (((r7Evict (if most < 0 then 0 else most) (if most < 0 then 0 else most) N2 A2 G2).2.1).length) c33, (r7Evict (if most < 0 then 0 else most) (if most < 0 then 0 else most) N2 A2 G2).2.1, .slice a34 (((r7Evict (if most < 0 then 0 else most) (if most < 0 then 0 else most) N2 A2 G2).2.2.1).length) c35, (r7Evict (if most < 0 then 0 else most) (if most < 0 then 0 else most) N2 A2 G2).2.2.1, .slice (some ⟨b42, 0, none⟩) ((rw ++ [(r7Evict (if most < 0 then 0 else most) (if most < 0 then 0 else most) N2 A2 G2).2.2.2]).length) c40, rw ++ [(r7Evict (if most < 0 then 0 else most) (if most < 0 then 0 else most) N2 A2 G2).2.2.2]) ?_ ?_ (subB_eq (l := [2, 4, 5, 6]) (by kernel_rfl)) (fun w hw => hw.pickB [0, 1, 2, 3, 4, 5] (by kernel_rfl) (by kernel_rfl) (by kernel_rfl))
      · (try dsimp only); exact hz.step (by omega) h25
      · (try dsimp only); omega
    ·
      refine Cd.exit ?_
      refine Ex'.thenExit ?_
      refine Ex'.thenExit ?_
      refine Ex'.blockHit ?_
      refine Ex'.next ?_
      refine Cd.seq ?_
      refine Cd.region rfl ?_
      refine Sq.same [4] (l := [blkR b3 [iV (if most < 0 then 0 else most), iV (if most < 0 then 0 else most), .slice a17 N2.length c18, .slice a19 A2.length c20, .slice a21 G2.length c22] 61]) (o_loadN (i := 0) [iV (if most < 0 then 0 else most), iV (if most < 0 then 0 else most), .slice a17 N2.length c18, .slice a19 A2.length c20, .slice a21 G2.length c22] (by kernel_rfl) (by kernel_rfl) (by kernel_rfl)) (by kernel_rfl) rfl (by kernel_rfl) rfl ?_
      refine Sq.ex [0, 1, 2] (l := [vewR 3 (.slice a17 N2.length c18) N2.length (N2.flatMap kq7), vewR 3 (.slice a19 A2.length c20) A2.length (A2.flatMap kq7), vewR 3 (.slice a21 G2.length c22) G2.length (G2.flatMap kq7)]) (o_call (by kernel_rfl) Try.call79 (t_trim07 (cMost := (if most < 0 then 0 else most)) (cTarget := (if most < 0 then 0 else most)) (cN := N2) (cNa := a17) (cNc := c18) (cA := A2) (cAa := a19) (cAc := c20) (cG := G2) (cGa := a21) (cGc := c22) (by omega) (by omega))) (by kernel_rfl) rfl (by kernel_rfl) (fun _ => Nat.le_of_ble_eq_true (by kernel_rfl)) ?_; rintro ⟨v44, v45, v46⟩ _
      have q43 := r7Trim_len (if most < 0 then 0 else most) (if most < 0 then 0 else most) N2 A2 G2 (by omega)
      refine Sq.fact (i := 0) (R := vewR 3 v44 (((r7Trim (if most < 0 then 0 else most) (if most < 0 then 0 else most) N2 A2 G2).1).length) (((r7Trim (if most < 0 then 0 else most) (if most < 0 then 0 else most) N2 A2 G2).1).flatMap kq7)) (by kernel_rfl) vew_slice ?_; rintro ⟨a47, c48, rfl, hc48, hc48'⟩
      have hc48'' : c48 ≤ 9223372036854775807 := hc48'
      refine Sq.fact (i := 1) (R := vewR 3 v45 (((r7Trim (if most < 0 then 0 else most) (if most < 0 then 0 else most) N2 A2 G2).2.1).length) (((r7Trim (if most < 0 then 0 else most) (if most < 0 then 0 else most) N2 A2 G2).2.1).flatMap kq7)) (by kernel_rfl) vew_slice ?_; rintro ⟨a49, c50, rfl, hc50, hc50'⟩
      have hc50'' : c50 ≤ 9223372036854775807 := hc50'
      refine Sq.fact (i := 2) (R := vewR 3 v46 (((r7Trim (if most < 0 then 0 else most) (if most < 0 then 0 else most) N2 A2 G2).2.2).length) (((r7Trim (if most < 0 then 0 else most) (if most < 0 then 0 else most) N2 A2 G2).2.2).flatMap kq7)) (by kernel_rfl) vew_slice ?_; rintro ⟨a51, c52, rfl, hc52, hc52'⟩
      have hc52'' : c52 ≤ 9223372036854775807 := hc52'
      refine Sq.vals [2] (rest := [3, 4]) [.slice a23 rw.length c24] (fun w => by kernel_rfl) ?_
      refine Sq.same [5] (l := [blkR b4 [iV 0, iV 0, .slice none 0 0, .slice none 0 0, .slice none 0 0] 61]) (o_store (i := 0) (v := .agg #[iV (if most < 0 then 0 else most), iV (if most < 0 then 0 else most), .slice a47 (((r7Trim (if most < 0 then 0 else most) (if most < 0 then 0 else most) N2 A2 G2).1).length) c48, .slice a49 (((r7Trim (if most < 0 then 0 else most) (if most < 0 then 0 else most) N2 A2 G2).2.1).length) c50, .slice a51 (((r7Trim (if most < 0 then 0 else most) (if most < 0 then 0 else most) N2 A2 G2).2.2).length) c52]) (by kernel_rfl) (by kernel_rfl) (by kernel_rfl) (by kernel_rfl) (by kernel_rfl)) (by kernel_rfl) rfl (by kernel_rfl) rfl ?_
      refine Sq.vals [4] (rest := []) [.slice a23 rw.length c24] (fun w => by kernel_rfl) ?_
      refine Sq.done ?_
      refine Ex'.next ?_
      refine Cd.ret ?_
      refine Ex'.ret Try.results53 (RVs.cellN (i := 0) (b := b4) (l := [iV (if most < 0 then 0 else most), iV (if most < 0 then 0 else most), .slice a47 (((r7Trim (if most < 0 then 0 else most) (if most < 0 then 0 else most) N2 A2 G2).1).length) c48, .slice a49 (((r7Trim (if most < 0 then 0 else most) (if most < 0 then 0 else most) N2 A2 G2).2.1).length) c50, .slice a51 (((r7Trim (if most < 0 then 0 else most) (if most < 0 then 0 else most) N2 A2 G2).2.2).length) c52]) (E := 61) [iV (if most < 0 then 0 else most), iV (if most < 0 then 0 else most), .slice a47 (((r7Trim (if most < 0 then 0 else most) (if most < 0 then 0 else most) N2 A2 G2).1).length) c48, .slice a49 (((r7Trim (if most < 0 then 0 else most) (if most < 0 then 0 else most) N2 A2 G2).2.1).length) c50, .slice a51 (((r7Trim (if most < 0 then 0 else most) (if most < 0 then 0 else most) N2 A2 G2).2.2).length) c52] 5 (by kernel_rfl) (by kernel_rfl) (by kernel_rfl) (by kernel_rfl) (RVs.tmp (v := .slice a23 rw.length c24) (by kernel_rfl) (RVs.nil))) (fun w hw => ?_)
      have hze := hz.e; rw [rsz7_stop h25] at hze
      have e : r7Resize cMost cTarget cN cA cG most = ((if most < 0 then 0 else most), (if most < 0 then 0 else most), (r7Trim (if most < 0 then 0 else most) (if most < 0 then 0 else most) N2 A2 G2).1, (r7Trim (if most < 0 then 0 else most) (if most < 0 then 0 else most) N2 A2 G2).2.1, (r7Trim (if most < 0 then 0 else most) (if most < 0 then 0 else most) N2 A2 G2).2.2, rw) := by unfold r7Resize; simp only [if_pos h15, hze, List.append_nil]
      rw [e]
      exact ⟨_, ⟨(.slice a47 (((r7Trim (if most < 0 then 0 else most) (if most < 0 then 0 else most) N2 A2 G2).1).length) c48, .slice a49 (((r7Trim (if most < 0 then 0 else most) (if most < 0 then 0 else most) N2 A2 G2).2.1).length) c50, .slice a51 (((r7Trim (if most < 0 then 0 else most) (if most < 0 then 0 else most) N2 A2 G2).2.2).length) c52, .slice a23 rw.length c24), trivial, rfl, rfl⟩, hw.pickB [0, 1, 2, 3] (by kernel_rfl) (by kernel_rfl) (by kernel_rfl)⟩
  ·
    refine Cd.skip ?_
    refine Ex'.next ?_
    refine Cd.seq ?_
    refine Cd.region rfl ?_
    refine Sq.vals [0] (rest := []) [.slice none 0 0] (fun w => by kernel_rfl) ?_
    refine Sq.done ?_
    refine Ex'.next ?_
    refine Cd.seq ?_
    refine Cd.block ?_
    refine Cd.nilRow 9 1 ?_
    refine Cd.loop (ι := Value × (List K7) × Value × (List K7) × Value × (List K7) × Value × (List ByteArray)) (fun ⟨vN, N2, vA, A2, vG, G2, rv, rw⟩ => Rsz7I (if most < 0 then 0 else most) cTarget cN cA cG N2 A2 G2 rw) (fun ⟨vN, N2, vA, A2, vG, G2, rv, rw⟩ => N2.length + A2.length) (fun ⟨vN, N2, vA, A2, vG, G2, rv, rw⟩ => [(2, pV b3 0), (4, pV b4 0), (5, .slice none 0 0), (6, rv)]) (fun ⟨vN, N2, vA, A2, vG, G2, rv, rw⟩ => [vewR 3 vN N2.length (N2.flatMap kq7), vewR 3 vA A2.length (A2.flatMap kq7), vewR 3 vG G2.length (G2.flatMap kq7), rowR 9 1 rv rw.length (rw.map Value.string), blkR b3 [iV (if most < 0 then 0 else most), iV cTarget, vN, vA, vG] 61, blkR b4 [iV 0, iV 0, .slice none 0 0, .slice none 0 0, .slice none 0 0] 61]) (.slice cNa cN.length cNc, cN, .slice cAa cA.length cAc, cA, .slice cGa cG.length cGc, cG, .slice none 0 0, ([] : List ByteArray)) (Rsz7I.new) (subB_eq (l := [2, 4, 5, 6]) (by kernel_rfl)) (fun w hw => hw.pickB [0, 1, 2, 8, 3, 4] (by kernel_rfl) (by kernel_rfl) (by kernel_rfl)) ?_
    rintro ⟨vN, N2, vA, A2, vG, G2, rv, rw⟩ hL53
    try dsimp only at hL53 ⊢
    have hz := hL53
    have hz1 := hz.tot; have hz2 := hz.g
    refine Cd.fact (i := 0) (R := vewR 3 vN N2.length (N2.flatMap kq7)) (by kernel_rfl) vew_slice ?_; rintro ⟨a54, c55, rfl, hc55, hc55'⟩
    have hc55'' : c55 ≤ 9223372036854775807 := hc55'
    refine Cd.fact (i := 1) (R := vewR 3 vA A2.length (A2.flatMap kq7)) (by kernel_rfl) vew_slice ?_; rintro ⟨a56, c57, rfl, hc57, hc57'⟩
    have hc57'' : c57 ≤ 9223372036854775807 := hc57'
    refine Cd.fact (i := 2) (R := vewR 3 vG G2.length (G2.flatMap kq7)) (by kernel_rfl) vew_slice ?_; rintro ⟨a58, c59, rfl, hc59, hc59'⟩
    have hc59'' : c59 ≤ 9223372036854775807 := hc59'
    refine Cd.fact (i := 3) (R := rowR 9 1 rv rw.length (rw.map Value.string)) (by kernel_rfl) row_slice ?_; rintro ⟨a60, c61, rfl, hc61, hc61'⟩
    have hc61'' : c61 ≤ 9223372036854775807 := hc61'
    refine Cd.seq ?_
    refine Cd.seq ?_
    refine Cd.region rfl ?_
    refine Sq.vals [0] (rest := [1, 2, 3, 4, 5, 6, 7, 8, 9]) [pV b3 2] (fun w => by kernel_rfl) ?_
    refine Sq.same [4] (l := [blkR b3 [iV (if most < 0 then 0 else most), iV cTarget, .slice a54 N2.length c55, .slice a56 A2.length c57, .slice a58 G2.length c59] 61]) (o_load (i := 2) (v := .slice a54 N2.length c55) (by kernel_rfl) (by kernel_rfl) (by kernel_rfl)) (by kernel_rfl) rfl (by kernel_rfl) rfl ?_
    refine Sq.vals [2, 3] (rest := [4, 5, 6, 7, 8, 9]) [iV (N2.length : Int), pV b3 3] (fun w => by kernel_rfl) ?_
    refine Sq.same [4] (l := [blkR b3 [iV (if most < 0 then 0 else most), iV cTarget, .slice a54 N2.length c55, .slice a56 A2.length c57, .slice a58 G2.length c59] 61]) (o_load (i := 3) (v := .slice a56 A2.length c57) (by kernel_rfl) (by kernel_rfl) (by kernel_rfl)) (by kernel_rfl) rfl (by kernel_rfl) rfl ?_
    refine Sq.vals [5] (rest := [6, 7, 8, 9]) [iV (A2.length : Int)] (fun w => by kernel_rfl) ?_
    refine Sq.v (r := iV ((N2.length + A2.length : Nat) : Int)) (o_add (k := .i64) (a := (N2.length : Int)) (b := (A2.length : Int)) (c := ((N2.length + A2.length : Nat) : Int)) (by kernel_rfl) (by kernel_rfl) (w64 (by omega) (by omega))) rfl (by kernel_rfl) ?_
    refine Sq.vals [7] (rest := [8, 9]) [pV b3 0] (fun w => by kernel_rfl) ?_
    refine Sq.same [4] (l := [blkR b3 [iV (if most < 0 then 0 else most), iV cTarget, .slice a54 N2.length c55, .slice a56 A2.length c57, .slice a58 G2.length c59] 61]) (o_load (i := 0) (v := iV (if most < 0 then 0 else most)) (by kernel_rfl) (by kernel_rfl) (by kernel_rfl)) (by kernel_rfl) rfl (by kernel_rfl) rfl ?_
    refine Sq.vals [9] (rest := []) [bV (decide (((N2.length + A2.length : Nat) : Int) > (if most < 0 then 0 else most)))] (fun w => by kernel_rfl) ?_
    refine Sq.done ?_
    refine Ex'.next ?_
    refine Cd.case (p := ((N2.length + A2.length : Nat) : Int) > (if most < 0 then 0 else most)) (by kernel_rfl) (fun h62 => ?_) (fun h62 => ?_)
    ·
      refine Cd.skip ?_
      refine Ex'.next ?_
      refine Cd.block ?_
      refine Cd.seq ?_
      refine Cd.region rfl ?_
      refine Sq.same [4] (l := [blkR b3 [iV (if most < 0 then 0 else most), iV cTarget, .slice a54 N2.length c55, .slice a56 A2.length c57, .slice a58 G2.length c59] 61]) (o_loadN (i := 0) [iV (if most < 0 then 0 else most), iV cTarget, .slice a54 N2.length c55, .slice a56 A2.length c57, .slice a58 G2.length c59] (by kernel_rfl) (by kernel_rfl) (by kernel_rfl)) (by kernel_rfl) rfl (by kernel_rfl) rfl ?_
      refine Sq.ex [0, 1, 2] (l := [vewR 3 (.slice a54 N2.length c55) N2.length (N2.flatMap kq7), vewR 3 (.slice a56 A2.length c57) A2.length (A2.flatMap kq7), vewR 3 (.slice a58 G2.length c59) G2.length (G2.flatMap kq7)]) (o_call (by kernel_rfl) Try.call77 (t_evict07 (cMost := (if most < 0 then 0 else most)) (cTarget := cTarget) (cN := N2) (cNa := a54) (cNc := c55) (cA := A2) (cAa := a56) (cAc := c57) (cG := G2) (cGa := a58) (cGc := c59) (by omega) (by omega) (by omega))) (by kernel_rfl) rfl (by kernel_rfl) (fun _ => Nat.le_of_ble_eq_true (by kernel_rfl)) ?_; rintro ⟨v64, v65, v66⟩ _
      have q63 := r7Evict_len (if most < 0 then 0 else most) cTarget N2 A2 G2 (by omega) (by omega)
      refine Sq.fact (i := 0) (R := vewR 3 v64 (((r7Evict (if most < 0 then 0 else most) cTarget N2 A2 G2).1).length) (((r7Evict (if most < 0 then 0 else most) cTarget N2 A2 G2).1).flatMap kq7)) (by kernel_rfl) vew_slice ?_; rintro ⟨a67, c68, rfl, hc68, hc68'⟩
      have hc68'' : c68 ≤ 9223372036854775807 := hc68'
      refine Sq.fact (i := 1) (R := vewR 3 v65 (((r7Evict (if most < 0 then 0 else most) cTarget N2 A2 G2).2.1).length) (((r7Evict (if most < 0 then 0 else most) cTarget N2 A2 G2).2.1).flatMap kq7)) (by kernel_rfl) vew_slice ?_; rintro ⟨a69, c70, rfl, hc70, hc70'⟩
      have hc70'' : c70 ≤ 9223372036854775807 := hc70'
      refine Sq.fact (i := 2) (R := vewR 3 v66 (((r7Evict (if most < 0 then 0 else most) cTarget N2 A2 G2).2.2.1).length) (((r7Evict (if most < 0 then 0 else most) cTarget N2 A2 G2).2.2.1).flatMap kq7)) (by kernel_rfl) vew_slice ?_; rintro ⟨a71, c72, rfl, hc72, hc72'⟩
      have hc72'' : c72 ≤ 9223372036854775807 := hc72'
      refine Sq.vals [2, 3, 4] (rest := [5, 6, 7]) [.tuple #[.agg #[iV (if most < 0 then 0 else most), iV cTarget, .slice a67 (((r7Evict (if most < 0 then 0 else most) cTarget N2 A2 G2).1).length) c68, .slice a69 (((r7Evict (if most < 0 then 0 else most) cTarget N2 A2 G2).2.1).length) c70, .slice a71 (((r7Evict (if most < 0 then 0 else most) cTarget N2 A2 G2).2.2.1).length) c72], sV ((r7Evict (if most < 0 then 0 else most) cTarget N2 A2 G2).2.2.2)], .agg #[iV (if most < 0 then 0 else most), iV cTarget, .slice a67 (((r7Evict (if most < 0 then 0 else most) cTarget N2 A2 G2).1).length) c68, .slice a69 (((r7Evict (if most < 0 then 0 else most) cTarget N2 A2 G2).2.1).length) c70, .slice a71 (((r7Evict (if most < 0 then 0 else most) cTarget N2 A2 G2).2.2.1).length) c72], sV ((r7Evict (if most < 0 then 0 else most) cTarget N2 A2 G2).2.2.2)] (fun w => by kernel_rfl) ?_
      refine Sq.ex [] (l := []) (o_new [iV 0, iV 0, .slice none 0 0, .slice none 0 0, .slice none 0 0] (fun w => by kernel_rfl)) (by kernel_rfl) rfl (by kernel_rfl) (fun _ => Nat.zero_le _) ?_; intro b73 _
      refine Sq.same [6] (l := [blkR b73 [iV 0, iV 0, .slice none 0 0, .slice none 0 0, .slice none 0 0] 61]) (o_store (i := 0) (v := .agg #[iV (if most < 0 then 0 else most), iV cTarget, .slice a67 (((r7Evict (if most < 0 then 0 else most) cTarget N2 A2 G2).1).length) c68, .slice a69 (((r7Evict (if most < 0 then 0 else most) cTarget N2 A2 G2).2.1).length) c70, .slice a71 (((r7Evict (if most < 0 then 0 else most) cTarget N2 A2 G2).2.2.1).length) c72]) (by kernel_rfl) (by kernel_rfl) (by kernel_rfl) (by kernel_rfl) (by kernel_rfl)) (by kernel_rfl) rfl (by kernel_rfl) rfl ?_
      refine Sq.vals [7] (rest := []) [sV ((r7Evict (if most < 0 then 0 else most) cTarget N2 A2 G2).2.2.2)] (fun w => by kernel_rfl) ?_
      refine Sq.done ?_
      refine Ex'.next ?_
      refine Cd.seq ?_
      refine Cd.region rfl ?_
      refine Sq.same [6] (l := [blkR b73 [iV (if most < 0 then 0 else most), iV cTarget, .slice a67 (((r7Evict (if most < 0 then 0 else most) cTarget N2 A2 G2).1).length) c68, .slice a69 (((r7Evict (if most < 0 then 0 else most) cTarget N2 A2 G2).2.1).length) c70, .slice a71 (((r7Evict (if most < 0 then 0 else most) cTarget N2 A2 G2).2.2.1).length) c72] 61]) (o_loadN (i := 0) [iV (if most < 0 then 0 else most), iV cTarget, .slice a67 (((r7Evict (if most < 0 then 0 else most) cTarget N2 A2 G2).1).length) c68, .slice a69 (((r7Evict (if most < 0 then 0 else most) cTarget N2 A2 G2).2.1).length) c70, .slice a71 (((r7Evict (if most < 0 then 0 else most) cTarget N2 A2 G2).2.2.1).length) c72] (by kernel_rfl) (by kernel_rfl) (by kernel_rfl)) (by kernel_rfl) rfl (by kernel_rfl) rfl ?_
      refine Sq.same [4] (l := [blkR b3 [iV (if most < 0 then 0 else most), iV cTarget, .slice a54 N2.length c55, .slice a56 A2.length c57, .slice a58 G2.length c59] 61]) (o_store (i := 0) (v := .agg #[iV (if most < 0 then 0 else most), iV cTarget, .slice a67 (((r7Evict (if most < 0 then 0 else most) cTarget N2 A2 G2).1).length) c68, .slice a69 (((r7Evict (if most < 0 then 0 else most) cTarget N2 A2 G2).2.1).length) c70, .slice a71 (((r7Evict (if most < 0 then 0 else most) cTarget N2 A2 G2).2.2.1).length) c72]) (by kernel_rfl) (by kernel_rfl) (by kernel_rfl) (by kernel_rfl) (by kernel_rfl)) (by kernel_rfl) rfl (by kernel_rfl) rfl ?_
      refine Sq.done ?_
      refine Ex'.next ?_
      refine Cd.region rfl ?_
      refine Sq.vals [0, 1] (rest := [2, 3, 4]) [.slice a60 rw.length c61, sV ((r7Evict (if most < 0 then 0 else most) cTarget N2 A2 G2).2.2.2)] (fun w => by kernel_rfl) ?_
      refine Sq.ex [] (l := []) (o_lit (sz := 1) (sV ⟨#[]⟩) [sV ((r7Evict (if most < 0 then 0 else most) cTarget N2 A2 G2).2.2.2)] Try.underlying22 (by kernel_rfl) (by kernel_rfl) (by kernel_rfl) (by kernel_rfl) (by kernel_rfl)) (by kernel_rfl) rfl (by kernel_rfl) (fun _ => Nat.zero_le _) ?_; intro b74 _
      refine Sq.ex [3, 7] (l := [rowR 9 1 (.slice a60 rw.length c61) rw.length (rw.map Value.string), blkR b74 [sV ((r7Evict (if most < 0 then 0 else most) cTarget N2 A2 G2).2.2.2)] 9]) (o_push (n' := (rw ++ [(r7Evict (if most < 0 then 0 else most) cTarget N2 A2 G2).2.2.2]).length) (xs' := (rw ++ [(r7Evict (if most < 0 then 0 else most) cTarget N2 A2 G2).2.2.2]).map Value.string) (by kernel_rfl) (by kernel_rfl) sl_str (by decide) rfl (by kernel_rfl) (by unfold maxLen; first | omega | (simp only [List.length_nil]; omega)) (by first | omega | (simp only [List.length_nil]; omega)) (by simp) (by simp)) (by kernel_rfl) rfl (by kernel_rfl) (fun _ => Nat.le_of_ble_eq_true (by kernel_rfl)) ?_; rintro v75 _
      refine Sq.fact (i := 3) (R := rowR 9 1 v75 ((rw ++ [(r7Evict (if most < 0 then 0 else most) cTarget N2 A2 G2).2.2.2]).length) ((rw ++ [(r7Evict (if most < 0 then 0 else most) cTarget N2 A2 G2).2.2.2]).map Value.string)) (by kernel_rfl) row_slice ?_; rintro ⟨a76, c77, rfl, hc77, hc77'⟩
      have hc77'' : c77 ≤ 9223372036854775807 := hc77'
      have hlen78 : (rw ++ [(r7Evict (if most < 0 then 0 else most) cTarget N2 A2 G2).2.2.2]).length = rw.length + 1 := by simp
      refine Sq.fact (i := 3) (R := rowR 9 1 (.slice a76 ((rw ++ [(r7Evict (if most < 0 then 0 else most) cTarget N2 A2 G2).2.2.2]).length) c77) ((rw ++ [(r7Evict (if most < 0 then 0 else most) cTarget N2 A2 G2).2.2.2]).length) ((rw ++ [(r7Evict (if most < 0 then 0 else most) cTarget N2 A2 G2).2.2.2]).map Value.string)) (by kernel_rfl) (row_addr (by simp)) ?_; rintro ⟨b79, rfl⟩
      refine Sq.vals [4] (rest := []) [.slice (some ⟨b79, 0, none⟩) ((rw ++ [(r7Evict (if most < 0 then 0 else most) cTarget N2 A2 G2).2.2.2]).length) c77] (fun w => by kernel_rfl) ?_
      refine Sq.done ?_
      refine Ex'.blockNormal ?_
      refine Ex'.round (g := (.slice a54 N2.length c55, N2, .slice a56 A2.length c57, A2, .slice a58 G2.length c59, G2, .slice a60 rw.length c61, rw)) (.slice a67 (((r7Evict (if most < 0 then 0 else most) cTarget N2 A2 G2).1).length) c68, (r7Evict (if most < 0 then 0 else most) cTarget N2 A2 G2).1, .slice a69 (((r7Evict (if most < 0 then 0 else most) cTarget N2 A2 G2).2.1).length) c70, (r7Evict (if most < 0 then 0 else most) cTarget N2 A2 G2).2.1, .slice a71 (((r7Evict (if most < 0 then 0 else most) cTarget N2 A2 G2).2.2.1).length) c72, (r7Evict (if most < 0 then 0 else most) cTarget N2 A2 G2).2.2.1, .slice (some ⟨b79, 0, none⟩) ((rw ++ [(r7Evict (if most < 0 then 0 else most) cTarget N2 A2 G2).2.2.2]).length) c77, rw ++ [(r7Evict (if most < 0 then 0 else most) cTarget N2 A2 G2).2.2.2]) ?_ ?_ (subB_eq (l := [2, 4, 5, 6]) (by kernel_rfl)) (fun w hw => hw.pickB [0, 1, 2, 3, 4, 5] (by kernel_rfl) (by kernel_rfl) (by kernel_rfl))
      · (try dsimp only); exact hz.step (by omega) h62
      · (try dsimp only); omega
    ·
      refine Cd.exit ?_
      refine Ex'.thenExit ?_
      refine Ex'.thenExit ?_
      refine Ex'.blockHit ?_
      refine Ex'.next ?_
      refine Cd.seq ?_
      refine Cd.region rfl ?_
      refine Sq.same [4] (l := [blkR b3 [iV (if most < 0 then 0 else most), iV cTarget, .slice a54 N2.length c55, .slice a56 A2.length c57, .slice a58 G2.length c59] 61]) (o_loadN (i := 0) [iV (if most < 0 then 0 else most), iV cTarget, .slice a54 N2.length c55, .slice a56 A2.length c57, .slice a58 G2.length c59] (by kernel_rfl) (by kernel_rfl) (by kernel_rfl)) (by kernel_rfl) rfl (by kernel_rfl) rfl ?_
      refine Sq.ex [0, 1, 2] (l := [vewR 3 (.slice a54 N2.length c55) N2.length (N2.flatMap kq7), vewR 3 (.slice a56 A2.length c57) A2.length (A2.flatMap kq7), vewR 3 (.slice a58 G2.length c59) G2.length (G2.flatMap kq7)]) (o_call (by kernel_rfl) Try.call79 (t_trim07 (cMost := (if most < 0 then 0 else most)) (cTarget := cTarget) (cN := N2) (cNa := a54) (cNc := c55) (cA := A2) (cAa := a56) (cAc := c57) (cG := G2) (cGa := a58) (cGc := c59) (by omega) (by omega))) (by kernel_rfl) rfl (by kernel_rfl) (fun _ => Nat.le_of_ble_eq_true (by kernel_rfl)) ?_; rintro ⟨v81, v82, v83⟩ _
      have q80 := r7Trim_len (if most < 0 then 0 else most) cTarget N2 A2 G2 (by omega)
      refine Sq.fact (i := 0) (R := vewR 3 v81 (((r7Trim (if most < 0 then 0 else most) cTarget N2 A2 G2).1).length) (((r7Trim (if most < 0 then 0 else most) cTarget N2 A2 G2).1).flatMap kq7)) (by kernel_rfl) vew_slice ?_; rintro ⟨a84, c85, rfl, hc85, hc85'⟩
      have hc85'' : c85 ≤ 9223372036854775807 := hc85'
      refine Sq.fact (i := 1) (R := vewR 3 v82 (((r7Trim (if most < 0 then 0 else most) cTarget N2 A2 G2).2.1).length) (((r7Trim (if most < 0 then 0 else most) cTarget N2 A2 G2).2.1).flatMap kq7)) (by kernel_rfl) vew_slice ?_; rintro ⟨a86, c87, rfl, hc87, hc87'⟩
      have hc87'' : c87 ≤ 9223372036854775807 := hc87'
      refine Sq.fact (i := 2) (R := vewR 3 v83 (((r7Trim (if most < 0 then 0 else most) cTarget N2 A2 G2).2.2).length) (((r7Trim (if most < 0 then 0 else most) cTarget N2 A2 G2).2.2).flatMap kq7)) (by kernel_rfl) vew_slice ?_; rintro ⟨a88, c89, rfl, hc89, hc89'⟩
      have hc89'' : c89 ≤ 9223372036854775807 := hc89'
      refine Sq.vals [2] (rest := [3, 4]) [.slice a60 rw.length c61] (fun w => by kernel_rfl) ?_
      refine Sq.same [5] (l := [blkR b4 [iV 0, iV 0, .slice none 0 0, .slice none 0 0, .slice none 0 0] 61]) (o_store (i := 0) (v := .agg #[iV (if most < 0 then 0 else most), iV cTarget, .slice a84 (((r7Trim (if most < 0 then 0 else most) cTarget N2 A2 G2).1).length) c85, .slice a86 (((r7Trim (if most < 0 then 0 else most) cTarget N2 A2 G2).2.1).length) c87, .slice a88 (((r7Trim (if most < 0 then 0 else most) cTarget N2 A2 G2).2.2).length) c89]) (by kernel_rfl) (by kernel_rfl) (by kernel_rfl) (by kernel_rfl) (by kernel_rfl)) (by kernel_rfl) rfl (by kernel_rfl) rfl ?_
      refine Sq.vals [4] (rest := []) [.slice a60 rw.length c61] (fun w => by kernel_rfl) ?_
      refine Sq.done ?_
      refine Ex'.next ?_
      refine Cd.ret ?_
      refine Ex'.ret Try.results53 (RVs.cellN (i := 0) (b := b4) (l := [iV (if most < 0 then 0 else most), iV cTarget, .slice a84 (((r7Trim (if most < 0 then 0 else most) cTarget N2 A2 G2).1).length) c85, .slice a86 (((r7Trim (if most < 0 then 0 else most) cTarget N2 A2 G2).2.1).length) c87, .slice a88 (((r7Trim (if most < 0 then 0 else most) cTarget N2 A2 G2).2.2).length) c89]) (E := 61) [iV (if most < 0 then 0 else most), iV cTarget, .slice a84 (((r7Trim (if most < 0 then 0 else most) cTarget N2 A2 G2).1).length) c85, .slice a86 (((r7Trim (if most < 0 then 0 else most) cTarget N2 A2 G2).2.1).length) c87, .slice a88 (((r7Trim (if most < 0 then 0 else most) cTarget N2 A2 G2).2.2).length) c89] 5 (by kernel_rfl) (by kernel_rfl) (by kernel_rfl) (by kernel_rfl) (RVs.tmp (v := .slice a60 rw.length c61) (by kernel_rfl) (RVs.nil))) (fun w hw => ?_)
      have hze := hz.e; rw [rsz7_stop h62] at hze
      have e : r7Resize cMost cTarget cN cA cG most = ((if most < 0 then 0 else most), cTarget, (r7Trim (if most < 0 then 0 else most) cTarget N2 A2 G2).1, (r7Trim (if most < 0 then 0 else most) cTarget N2 A2 G2).2.1, (r7Trim (if most < 0 then 0 else most) cTarget N2 A2 G2).2.2, rw) := by unfold r7Resize; simp only [if_neg h15, hze, List.append_nil]
      rw [e]
      exact ⟨_, ⟨(.slice a84 (((r7Trim (if most < 0 then 0 else most) cTarget N2 A2 G2).1).length) c85, .slice a86 (((r7Trim (if most < 0 then 0 else most) cTarget N2 A2 G2).2.1).length) c87, .slice a88 (((r7Trim (if most < 0 then 0 else most) cTarget N2 A2 G2).2.2).length) c89, .slice a60 rw.length c61), trivial, rfl, rfl⟩, hw.pickB [0, 1, 2, 3] (by kernel_rfl) (by kernel_rfl) (by kernel_rfl)⟩

end Go.Proofs.Ytjijjfdkghcjkaa
