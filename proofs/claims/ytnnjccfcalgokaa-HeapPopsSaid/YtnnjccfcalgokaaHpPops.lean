/- HeapPops: its walk. -/
import Derived.Test.YtnnjccfcalgokaaHpX
import Derived.Test.YtnnjccfcalgokaaHpO
import Derived.Test.YtnnjccfcalgokaaActsH
import Derived.Test.YtnnjccfcalgokaaHpAwake
import Derived.Test.YtnnjccfcalgokaaHeapPureC
set_option linter.unusedVariables false
namespace Go.Proofs.Ytnnjccfcalgokaa
open Go.RowKit Go.MapKept

set_option maxHeartbeats 8000000 in
set_option maxRecDepth 100000 in
theorem heapPops_tri {w0 : World} {a : Option Addr} {cap : Nat} {xs : List Act4} {pa1 pa2 pb1 pb2 pc1 pc2 : Int} (hl : xs.length ≤ cap ∧ cap ≤ 9223372036854775807) (hs : HScr w0 (.slice a xs.length cap) xs) : Tri Try.prog 4 #[.slice a xs.length cap, .agg #[iV pa1, iV pa2], .agg #[iV pb1, iV pb2], .agg #[iV pc1, iV pc2]] [oldR w0] (LawP w0) := by
  refine Tri.enter (args := [.slice a xs.length cap, .agg #[iV pa1, iV pa2], .agg #[iV pb1, iV pb2], .agg #[iV pc1, iV pc2]]) Try.func4 rfl rfl rfl (fun B wz => ?_)
  refine Cd.seq ?_
  refine Cd.region rfl ?_
  refine Sq.ex [] (l := []) (o_newBox (v := .agg #[iV pa1, iV pa2]) [iV pa1, iV pa2] (by kernel_rfl) rfl) (by kernel_rfl) rfl (by kernel_rfl) (fun _ => Nat.zero_le _) ?_; intro b1 _
  refine Sq.ex [] (l := []) (o_newBox (v := .agg #[iV pb1, iV pb2]) [iV pb1, iV pb2] (by kernel_rfl) rfl) (by kernel_rfl) rfl (by kernel_rfl) (fun _ => Nat.zero_le _) ?_; intro b2 _
  refine Sq.ex [] (l := []) (o_newBox (v := .agg #[iV pc1, iV pc2]) [iV pc1, iV pc2] (by kernel_rfl) rfl) (by kernel_rfl) rfl (by kernel_rfl) (fun _ => Nat.zero_le _) ?_; intro b3 _
  refine Sq.vals [3] (rest := []) [bV false] (fun w => by kernel_rfl) ?_
  refine Sq.done ?_
  refine Ex'.next ?_
  refine Cd.seq ?_
  refine Cd.seq ?_
  refine Cd.region rfl ?_
  refine Sq.same [] (l := []) (o_call (by kernel_rfl) Try.call13 (heap_awake)) (by kernel_rfl) rfl (by kernel_rfl) rfl ?_
  refine Sq.vals [1] (rest := []) [bV false] (fun w => by kernel_rfl) ?_
  refine Sq.done ?_
  refine Ex'.next ?_
  refine Cd.condF (by kernel_rfl) ?_
  refine Cd.skip ?_
  refine Ex'.next ?_
  refine Cd.seq ?_
  refine Cd.seq ?_
  refine Cd.region rfl ?_
  refine Sq.vals [0, 1, 2] (rest := []) [.slice a xs.length cap, iV (xs.length : Int), bV (decide ((xs.length : Int) > 200))] (fun w => by kernel_rfl) ?_
  refine Sq.done ?_
  refine Ex'.next ?_
  refine Cd.case (p := (xs.length : Int) > 200) (by kernel_rfl) (fun h4 => ?_) (fun h4 => ?_)
  ·
    refine Cd.seq ?_
    refine Cd.region rfl ?_
    refine Sq.vals [0] (rest := []) [bV true] (fun w => by kernel_rfl) ?_
    refine Sq.done ?_
    refine Ex'.next ?_
    refine Cd.ret ?_
    refine Ex'.thenRet ?_
    refine Ex'.ret Try.results4 (RVs.tmp (v := bV true) (by kernel_rfl) (RVs.nil)) (fun w hw => ?_)
    exact ⟨_, ⟨rfl, by kernel_rfl⟩, hw⟩
  ·
    refine Cd.skip ?_
    refine Ex'.next ?_
    refine Cd.seq ?_
    refine Cd.seq ?_
    refine Cd.region rfl ?_
    refine Sq.same [1] (l := [blkR b1 [iV pa1, iV pa2] 28]) (o_loadN (i := 0) [iV pa1, iV pa2] (by kernel_rfl) (by kernel_rfl) (by kernel_rfl)) (by kernel_rfl) rfl (by kernel_rfl) rfl ?_
    refine Sq.same [1] (l := [blkR b1 [iV pa1, iV pa2] 28]) (o_loadN (i := 0) [iV pa1, iV pa2] (by kernel_rfl) (by kernel_rfl) (by kernel_rfl)) (by kernel_rfl) rfl (by kernel_rfl) rfl ?_
    refine Sq.same [] (l := []) (o_call (by kernel_rfl) Try.call25 (heap_Less (p0 := pa1) (p1 := pa2) (q0 := pa1) (q1 := pa2))) (by kernel_rfl) rfl (by kernel_rfl) rfl ?_
    refine Sq.vals [3] (rest := [4, 5, 6, 7, 8, 9, 10, 11, 12, 13, 14, 15, 16, 17, 18, 19, 20, 21, 22, 23, 24, 25, 26, 27, 28, 29, 30, 31, 32, 33, 34, 35, 36, 37, 38, 39, 40, 41, 42, 43, 44, 45]) [bV (decide (pa1 < pa1 ∨ pa1 = pa1 ∧ pa2 < pa2))] (fun w => by kernel_rfl) ?_
    refine Sq.case 29 (p := pa1 < pa1 ∨ pa1 = pa1 ∧ pa2 < pa2) rfl (fun h5 => ?_) (fun h5 => ?_)
    ·
      refine Sq.vals [4, 5, 6, 7, 8, 9, 10, 11, 12, 13, 14, 15, 16, 17, 18, 19, 20, 21, 22, 23, 24, 25, 26, 27, 28, 29, 30, 31, 32, 33, 34, 35, 36, 37, 38, 39, 40, 41, 42, 43, 44, 45] (rest := []) [undef, undef, undef, undef, undef, undef, undef, undef, bV true, bV true, undef, undef, undef, undef, undef, undef, undef, undef, undef, undef, undef, undef, undef, undef, bV true, bV true, undef, undef, undef, undef, undef, undef, undef, undef, undef, undef, undef, undef, undef, undef, undef, bV true] (fun w => by kernel_rfl) ?_
      refine Sq.done ?_
      refine Ex'.next ?_
      refine Cd.condT (by kernel_rfl) ?_
      refine Cd.seq ?_
      refine Cd.region rfl ?_
      refine Sq.vals [0] (rest := []) [bV false] (fun w => by kernel_rfl) ?_
      refine Sq.done ?_
      refine Ex'.next ?_
      refine Cd.ret ?_
      refine Ex'.thenRet ?_
      refine Ex'.ret Try.results4 (RVs.tmp (v := bV false) (by kernel_rfl) (RVs.nil)) (fun w hw => ?_)
      exfalso; omega
    ·
      refine Sq.same [1] (l := [blkR b1 [iV pa1, iV pa2] 28]) (o_loadN (i := 0) [iV pa1, iV pa2] (by kernel_rfl) (by kernel_rfl) (by kernel_rfl)) (by kernel_rfl) rfl (by kernel_rfl) rfl ?_
      refine Sq.same [2] (l := [blkR b2 [iV pb1, iV pb2] 28]) (o_loadN (i := 0) [iV pb1, iV pb2] (by kernel_rfl) (by kernel_rfl) (by kernel_rfl)) (by kernel_rfl) rfl (by kernel_rfl) rfl ?_
      refine Sq.same [] (l := []) (o_call (by kernel_rfl) Try.call25 (heap_Less (p0 := pa1) (p1 := pa2) (q0 := pb1) (q1 := pb2))) (by kernel_rfl) rfl (by kernel_rfl) rfl ?_
      refine Sq.vals [7] (rest := [8, 9, 10, 11, 12, 13, 14, 15, 16, 17, 18, 19, 20, 21, 22, 23, 24, 25, 26, 27, 28, 29, 30, 31, 32, 33, 34, 35, 36, 37, 38, 39, 40, 41, 42, 43, 44, 45]) [bV (decide (pa1 < pb1 ∨ pa1 = pb1 ∧ pa2 < pb2))] (fun w => by kernel_rfl) ?_
      refine Sq.case 33 (p := pa1 < pb1 ∨ pa1 = pb1 ∧ pa2 < pb2) rfl (fun h6 => ?_) (fun h6 => ?_)
      ·
        refine Sq.same [2] (l := [blkR b2 [iV pb1, iV pb2] 28]) (o_loadN (i := 0) [iV pb1, iV pb2] (by kernel_rfl) (by kernel_rfl) (by kernel_rfl)) (by kernel_rfl) rfl (by kernel_rfl) rfl ?_
        refine Sq.same [1] (l := [blkR b1 [iV pa1, iV pa2] 28]) (o_loadN (i := 0) [iV pa1, iV pa2] (by kernel_rfl) (by kernel_rfl) (by kernel_rfl)) (by kernel_rfl) rfl (by kernel_rfl) rfl ?_
        refine Sq.same [] (l := []) (o_call (by kernel_rfl) Try.call25 (heap_Less (p0 := pb1) (p1 := pb2) (q0 := pa1) (q1 := pa2))) (by kernel_rfl) rfl (by kernel_rfl) rfl ?_
        refine Sq.vals [11, 12, 13] (rest := [14, 15, 16, 17, 18, 19, 20, 21, 22, 23, 24, 25, 26, 27, 28, 29, 30, 31, 32, 33, 34, 35, 36, 37, 38, 39, 40, 41, 42, 43, 44, 45]) [bV (decide (pb1 < pa1 ∨ pb1 = pa1 ∧ pb2 < pa2)), bV (decide (pb1 < pa1 ∨ pb1 = pa1 ∧ pb2 < pa2)), bV (decide (pb1 < pa1 ∨ pb1 = pa1 ∧ pb2 < pa2))] (fun w => by kernel_rfl) ?_
        refine Sq.case 39 (p := pb1 < pa1 ∨ pb1 = pa1 ∧ pb2 < pa2) rfl (fun h7 => ?_) (fun h7 => ?_)
        ·
          refine Sq.vals [14, 15, 16, 17, 18, 19, 20, 21, 22, 23, 24, 25, 26, 27, 28, 29, 30, 31, 32, 33, 34, 35, 36, 37, 38, 39, 40, 41, 42, 43, 44, 45] (rest := []) [undef, undef, undef, undef, undef, undef, undef, undef, undef, undef, undef, undef, undef, undef, bV true, bV true, undef, undef, undef, undef, undef, undef, undef, undef, undef, undef, undef, undef, undef, undef, undef, bV true] (fun w => by kernel_rfl) ?_
          refine Sq.done ?_
          refine Ex'.next ?_
          refine Cd.condT (by kernel_rfl) ?_
          refine Cd.seq ?_
          refine Cd.region rfl ?_
          refine Sq.vals [0] (rest := []) [bV false] (fun w => by kernel_rfl) ?_
          refine Sq.done ?_
          refine Ex'.next ?_
          refine Cd.ret ?_
          refine Ex'.thenRet ?_
          refine Ex'.ret Try.results4 (RVs.tmp (v := bV false) (by kernel_rfl) (RVs.nil)) (fun w hw => ?_)
          exfalso; omega
        ·
          refine Sq.same [1] (l := [blkR b1 [iV pa1, iV pa2] 28]) (o_loadN (i := 0) [iV pa1, iV pa2] (by kernel_rfl) (by kernel_rfl) (by kernel_rfl)) (by kernel_rfl) rfl (by kernel_rfl) rfl ?_
          refine Sq.same [2] (l := [blkR b2 [iV pb1, iV pb2] 28]) (o_loadN (i := 0) [iV pb1, iV pb2] (by kernel_rfl) (by kernel_rfl) (by kernel_rfl)) (by kernel_rfl) rfl (by kernel_rfl) rfl ?_
          refine Sq.same [] (l := []) (o_call (by kernel_rfl) Try.call25 ((heap_Less (p0 := pa1) (p1 := pa2) (q0 := pb1) (q1 := pb2)).re (vT h6))) (by kernel_rfl) rfl (by kernel_rfl) rfl ?_
          refine Sq.vals [17] (rest := [18, 19, 20, 21, 22, 23, 24, 25, 26, 27, 28, 29, 30, 31, 32, 33, 34, 35, 36, 37, 38, 39, 40, 41, 42, 43, 44, 45]) [bV true] (fun w => by kernel_rfl) ?_
          refine Sq.same [2] (l := [blkR b2 [iV pb1, iV pb2] 28]) (o_loadN (i := 0) [iV pb1, iV pb2] (by kernel_rfl) (by kernel_rfl) (by kernel_rfl)) (by kernel_rfl) rfl (by kernel_rfl) rfl ?_
          refine Sq.same [3] (l := [blkR b3 [iV pc1, iV pc2] 28]) (o_loadN (i := 0) [iV pc1, iV pc2] (by kernel_rfl) (by kernel_rfl) (by kernel_rfl)) (by kernel_rfl) rfl (by kernel_rfl) rfl ?_
          refine Sq.same [] (l := []) (o_call (by kernel_rfl) Try.call25 (heap_Less (p0 := pb1) (p1 := pb2) (q0 := pc1) (q1 := pc2))) (by kernel_rfl) rfl (by kernel_rfl) rfl ?_
          refine Sq.vals [21, 22] (rest := [23, 24, 25, 26, 27, 28, 29, 30, 31, 32, 33, 34, 35, 36, 37, 38, 39, 40, 41, 42, 43, 44, 45]) [bV (decide (pb1 < pc1 ∨ pb1 = pc1 ∧ pb2 < pc2)), bV (decide (pb1 < pc1 ∨ pb1 = pc1 ∧ pb2 < pc2))] (fun w => by kernel_rfl) ?_
          refine Sq.case 48 (p := pb1 < pc1 ∨ pb1 = pc1 ∧ pb2 < pc2) rfl (fun h8 => ?_) (fun h8 => ?_)
          ·
            refine Sq.same [1] (l := [blkR b1 [iV pa1, iV pa2] 28]) (o_loadN (i := 0) [iV pa1, iV pa2] (by kernel_rfl) (by kernel_rfl) (by kernel_rfl)) (by kernel_rfl) rfl (by kernel_rfl) rfl ?_
            refine Sq.same [3] (l := [blkR b3 [iV pc1, iV pc2] 28]) (o_loadN (i := 0) [iV pc1, iV pc2] (by kernel_rfl) (by kernel_rfl) (by kernel_rfl)) (by kernel_rfl) rfl (by kernel_rfl) rfl ?_
            refine Sq.same [] (l := []) (o_call (by kernel_rfl) Try.call25 (heap_Less (p0 := pa1) (p1 := pa2) (q0 := pc1) (q1 := pc2))) (by kernel_rfl) rfl (by kernel_rfl) rfl ?_
            refine Sq.v (r := bV (decide (¬ (pa1 < pc1 ∨ pa1 = pc1 ∧ pa2 < pc2)))) (o_not (by kernel_rfl)) rfl (by kernel_rfl) ?_
            refine Sq.vals [27, 28, 29] (rest := [30, 31, 32, 33, 34, 35, 36, 37, 38, 39, 40, 41, 42, 43, 44, 45]) [bV (decide (¬ (pa1 < pc1 ∨ pa1 = pc1 ∧ pa2 < pc2))), bV (decide (¬ (pa1 < pc1 ∨ pa1 = pc1 ∧ pa2 < pc2))), bV (decide (¬ (pa1 < pc1 ∨ pa1 = pc1 ∧ pa2 < pc2)))] (fun w => by kernel_rfl) ?_
            refine Sq.case 55 (p := ¬ (pa1 < pc1 ∨ pa1 = pc1 ∧ pa2 < pc2)) rfl (fun h9 => ?_) (fun h9 => ?_)
            ·
              refine Sq.vals [30, 31, 32, 33, 34, 35, 36, 37, 38, 39, 40, 41, 42, 43, 44, 45] (rest := []) [undef, undef, undef, undef, undef, undef, undef, undef, undef, undef, undef, undef, undef, undef, undef, bV true] (fun w => by kernel_rfl) ?_
              refine Sq.done ?_
              refine Ex'.next ?_
              refine Cd.condT (by kernel_rfl) ?_
              refine Cd.seq ?_
              refine Cd.region rfl ?_
              refine Sq.vals [0] (rest := []) [bV false] (fun w => by kernel_rfl) ?_
              refine Sq.done ?_
              refine Ex'.next ?_
              refine Cd.ret ?_
              refine Ex'.thenRet ?_
              refine Ex'.ret Try.results4 (RVs.tmp (v := bV false) (by kernel_rfl) (RVs.nil)) (fun w hw => ?_)
              exfalso; omega
            ·
              refine Sq.same [1] (l := [blkR b1 [iV pa1, iV pa2] 28]) (o_loadN (i := 0) [iV pa1, iV pa2] (by kernel_rfl) (by kernel_rfl) (by kernel_rfl)) (by kernel_rfl) rfl (by kernel_rfl) rfl ?_
              refine Sq.same [2] (l := [blkR b2 [iV pb1, iV pb2] 28]) (o_loadN (i := 0) [iV pb1, iV pb2] (by kernel_rfl) (by kernel_rfl) (by kernel_rfl)) (by kernel_rfl) rfl (by kernel_rfl) rfl ?_
              refine Sq.same [] (l := []) (o_call (by kernel_rfl) Try.call25 ((heap_Less (p0 := pa1) (p1 := pa2) (q0 := pb1) (q1 := pb2)).re (vT h6))) (by kernel_rfl) rfl (by kernel_rfl) rfl ?_
              refine Sq.vals [33, 34, 35, 36, 37, 38, 39, 40, 41, 42, 43, 44, 45] (rest := []) [bV false, bV false, undef, undef, undef, undef, bV false, bV false, undef, undef, undef, bV false, bV false] (fun w => by kernel_rfl) ?_
              refine Sq.done ?_
              refine Ex'.next ?_
              refine Cd.condF (by kernel_rfl) ?_
              refine Cd.skip ?_
              refine Ex'.next ?_
              refine Cd.seq ?_
              refine Cd.region rfl ?_
              refine Sq.ex [] (l := []) (o_call (by kernel_rfl) Try.call14 (hp_NewS)) (by kernel_rfl) rfl (by kernel_rfl) (fun _ => Nat.le_of_ble_eq_true (by kernel_rfl)) ?_; rintro b10 _
              refine Sq.vals [1] (rest := []) [pV b10 0] (fun w => by kernel_rfl) ?_
              refine Sq.done ?_
              refine Ex'.next ?_
              refine Cd.seq ?_
              refine Cd.seq ?_
              refine Cd.region rfl ?_
              refine Sq.vals [0, 1] (rest := []) [pV b10 0, bV false] (fun w => by kernel_rfl) ?_
              refine Sq.done ?_
              refine Ex'.next ?_
              refine Cd.condF (by kernel_rfl) ?_
              refine Cd.skip ?_
              refine Ex'.next ?_
              refine Cd.seq ?_
              refine Cd.seq ?_
              refine Cd.region rfl ?_
              refine Sq.vals [0] (rest := []) [iV 0] (fun w => by kernel_rfl) ?_
              refine Sq.done ?_
              refine Ex'.next ?_
              refine Cd.block ?_
              refine Cd.loop (ι := Nat × (List (KR ByteArray)) × Nat) (fun ⟨k, T0, n0⟩ => k ≤ xs.length ∧ n0 ≤ k) (fun ⟨k, T0, n0⟩ => xs.length - k) (fun ⟨k, T0, n0⟩ => [(0, .slice a xs.length cap), (8, bV false), (9, pV b10 0), (10, iV (k : Int))]) (fun ⟨k, T0, n0⟩ => [oldR w0, blkR b1 [iV pa1, iV pa2] 28, blkR b2 [iV pb1, iV pb2] 28, blkR b3 [iV pc1, iV pc2] 28, hpS b10 T0 n0]) (0, [], 0) (⟨Nat.zero_le _, Nat.le_refl _⟩) (subB_eq (l := [0, 8, 9, 10]) (by kernel_rfl)) (fun w hw => hw.pickB [0, 1, 2, 3, 4] (by kernel_rfl) (by kernel_rfl) (by kernel_rfl)) ?_
              rintro ⟨k, T0, n0⟩ hL11
              try dsimp only at hL11 ⊢
              obtain ⟨hk, hn⟩ := hL11
              refine Cd.seq ?_
              refine Cd.seq ?_
              refine Cd.region rfl ?_
              refine Sq.vals [0, 1, 2, 3] (rest := []) [iV (k : Int), .slice a xs.length cap, iV (xs.length : Int), bV (decide ((k : Int) < (xs.length : Int)))] (fun w => by kernel_rfl) ?_
              refine Sq.done ?_
              refine Ex'.next ?_
              refine Cd.case (p := (k : Int) < (xs.length : Int)) (by kernel_rfl) (fun h12 => ?_) (fun h12 => ?_)
              ·
                obtain ⟨g13, off14, rfl⟩ := hs.addr (by omega)
                obtain ⟨kdk, kyk, rok, rtk, hgk, hwk, hrk⟩ := hs.at (k := k) (by omega)
                refine Cd.skip ?_
                refine Ex'.next ?_
                refine Cd.seq ?_
                refine Cd.block ?_
                refine Cd.seq ?_
                refine Cd.plan [0, 0, 0, 6, 14, 30, 0, 0, 192, 448, 960, 2047] [(5, [(0, false, 0)]), (10, [(0, false, 0)]), (11, [(4, true, 0)])] [] [] [(4, 11, fun g => hpS b10 (hset T0 (kyk, rok, rtk)) (n0 + 1))] [fun g => pV b10 0, fun g => .slice (some ⟨g13, off14, none⟩) xs.length cap, fun g => iV (k : Int), fun g => pV g13 (off14 + k * 4), fun g => pV g13 (off14 + k * 4 + 1), fun g => sV kyk, fun g => .slice (some ⟨g13, off14, none⟩) xs.length cap, fun g => iV (k : Int), fun g => pV g13 (off14 + k * 4), fun g => pV g13 (off14 + k * 4 + 2), fun g => .agg #[iV rok, iV rtk], fun g => .tuple #[]] (by kernel_rfl) (by kernel_rfl) rfl (trivial) ?_ ?_
                · exact ⟨ob_val fun g w => by kernel_rfl, ob_val fun g w => by kernel_rfl, ob_val fun g w => by kernel_rfl, ob_v (v := fun g => pV g13 (off14 + k * 4)) (fun g => o_idx (b := g13) (cap := cap) (e := 30) (off := off14) (n := xs.length) (kd := .i64) (q := (k : Int)) (i := k) (size := 4) (j := off14 + k * 4) (by kernel_rfl) (by kernel_rfl) (by rfl) (by omega) Try.underlying22 (by kernel_rfl) (by omega)) (fun g => by kernel_rfl), ob_val fun g w => by kernel_rfl, ob_s (l := fun g => [oldR w0]) (l' := fun g => [oldR w0]) (v := fun g => sV kyk) (fun g => o_loadOld (b := g13) (j := off14 + k * 4 + 1) (u := sV kyk) (by kernel_rfl) (by kernel_rfl) (hrk 1 _ rfl)) (fun g => by kernel_rfl), ob_val fun g w => by kernel_rfl, ob_val fun g w => by kernel_rfl, ob_v (v := fun g => pV g13 (off14 + k * 4)) (fun g => o_idx (b := g13) (cap := cap) (e := 30) (off := off14) (n := xs.length) (kd := .i64) (q := (k : Int)) (i := k) (size := 4) (j := off14 + k * 4) (by kernel_rfl) (by kernel_rfl) (by rfl) (by omega) Try.underlying22 (by kernel_rfl) (by omega)) (fun g => by kernel_rfl), ob_val fun g w => by kernel_rfl, ob_s (l := fun g => [oldR w0]) (l' := fun g => [oldR w0]) (v := fun g => .agg #[iV rok, iV rtk]) (fun g => o_loadOldN (b := g13) (j := off14 + k * 4 + 2) [iV rok, iV rtk] (by kernel_rfl) (by kernel_rfl) (range_sub hrk 2 2)) (fun g => by kernel_rfl), ob_s (l := fun g => [hpS b10 T0 n0]) (l' := fun g => [hpS b10 (hset T0 (kyk, rok, rtk)) (n0 + 1)]) (v := fun g => .tuple #[]) (fun g => o_call (by kernel_rfl) Try.call16 (hp_SetS (S := T0) (n := n0) kyk rok rtk (by omega))) (fun g => by kernel_rfl), trivial⟩
                intro g
                refine Ex'.sub (subB_spec [0, 8, 9, 10]) ?_
                refine Ex'.as [0, 1, 2, 3, 4] (σ' := [(0, .slice (some ⟨g13, off14, none⟩) xs.length cap), (8, bV false), (9, pV b10 0), (10, iV (k : Int))]) (Γ' := [oldR w0, blkR b1 [iV pa1, iV pa2] 28, blkR b2 [iV pb1, iV pb2] 28, blkR b3 [iV pc1, iV pc2] 28, hpS b10 (hset T0 (kyk, rok, rtk)) (n0 + 1)]) (by kernel_rfl) rfl (by kernel_rfl) (by kernel_rfl) ?_
                refine Ex'.next ?_
                refine Cd.seq ?_
                refine Cd.region rfl ?_
                refine Sq.vals [0, 1] (rest := [2, 3, 4, 5]) [.slice (some ⟨g13, off14, none⟩) xs.length cap, iV (k : Int)] (fun w => by kernel_rfl) ?_
                refine Sq.v (r := pV g13 (off14 + k * 4)) (o_idx (b := g13) (cap := cap) (e := 30) (off := off14) (n := xs.length) (kd := .i64) (q := (k : Int)) (i := k) (size := 4) (j := off14 + k * 4) (by kernel_rfl) (by kernel_rfl) (by rfl) (by omega) Try.underlying22 (by kernel_rfl) (by omega)) rfl (by kernel_rfl) ?_
                refine Sq.vals [3] (rest := [4, 5]) [pV g13 (off14 + k * 4)] (fun w => by kernel_rfl) ?_
                refine Sq.same [0] (l := [oldR w0]) (o_loadOld (b := g13) (j := off14 + k * 4) (u := iV kdk) (by kernel_rfl) (by kernel_rfl) (hrk 0 _ rfl)) (by kernel_rfl) rfl (by kernel_rfl) rfl ?_
                refine Sq.v (r := bV (decide (kdk = 1))) (o_eqI (k := .i64) (a := kdk) (b := 1) (by kernel_rfl) (by kernel_rfl)) rfl (by kernel_rfl) ?_
                refine Sq.done ?_
                refine Ex'.next ?_
                refine Cd.case (p := kdk = 1) (by kernel_rfl) (fun h15 => ?_) (fun h15 => ?_)
                ·
                  refine Cd.region rfl ?_
                  refine Sq.vals [0, 1, 2] (rest := [3, 4, 5, 6]) [pV b10 0, .slice (some ⟨g13, off14, none⟩) xs.length cap, iV (k : Int)] (fun w => by kernel_rfl) ?_
                  refine Sq.v (r := pV g13 (off14 + k * 4)) (o_idx (b := g13) (cap := cap) (e := 30) (off := off14) (n := xs.length) (kd := .i64) (q := (k : Int)) (i := k) (size := 4) (j := off14 + k * 4) (by kernel_rfl) (by kernel_rfl) (by rfl) (by omega) Try.underlying22 (by kernel_rfl) (by omega)) rfl (by kernel_rfl) ?_
                  refine Sq.vals [4] (rest := [5, 6]) [pV g13 (off14 + k * 4 + 1)] (fun w => by kernel_rfl) ?_
                  refine Sq.same [0] (l := [oldR w0]) (o_loadOld (b := g13) (j := off14 + k * 4 + 1) (u := sV kyk) (by kernel_rfl) (by kernel_rfl) (hrk 1 _ rfl)) (by kernel_rfl) rfl (by kernel_rfl) rfl ?_
                  refine Sq.same [4] (l := [hpS b10 (hset T0 (kyk, rok, rtk)) (n0 + 1)]) (o_call (by kernel_rfl) Try.call18 (hp_RemoveS (S := hset T0 (kyk, rok, rtk)) (n := n0 + 1) kyk (by omega))) (by kernel_rfl) rfl (by kernel_rfl) rfl ?_
                  refine Sq.done ?_
                  refine Ex'.blockNormal ?_
                  refine Ex'.next ?_
                  refine Cd.region rfl ?_
                  refine Sq.vals [0] (rest := [1, 2]) [iV (k : Int)] (fun w => by kernel_rfl) ?_
                  refine Sq.v (r := iV ((k : Int) + 1)) (o_add (k := .i64) (a := (k : Int)) (b := 1) (c := (k : Int) + 1) (by kernel_rfl) (by kernel_rfl) (w64 rfl (by omega))) rfl (by kernel_rfl) ?_
                  refine Sq.vals [2] (rest := []) [iV ((k : Int) + 1)] (fun w => by kernel_rfl) ?_
                  refine Sq.done ?_
                  refine Ex'.round (g := (k, T0, n0)) (k + 1, hrem (hset T0 (kyk, rok, rtk)) kyk, n0 + 1) ?_ ?_ (subB_eq (l := [0, 8, 9, 10]) (by kernel_rfl)) (fun w hw => hw.pickB [0, 1, 2, 3, 4] (by kernel_rfl) (by kernel_rfl) (by kernel_rfl))
                  · (try dsimp only); exact ⟨by omega, by omega⟩
                  · omega
                ·
                  refine Cd.skip ?_
                  refine Ex'.blockNormal ?_
                  refine Ex'.next ?_
                  refine Cd.region rfl ?_
                  refine Sq.vals [0] (rest := [1, 2]) [iV (k : Int)] (fun w => by kernel_rfl) ?_
                  refine Sq.v (r := iV ((k : Int) + 1)) (o_add (k := .i64) (a := (k : Int)) (b := 1) (c := (k : Int) + 1) (by kernel_rfl) (by kernel_rfl) (w64 rfl (by omega))) rfl (by kernel_rfl) ?_
                  refine Sq.vals [2] (rest := []) [iV ((k : Int) + 1)] (fun w => by kernel_rfl) ?_
                  refine Sq.done ?_
                  refine Ex'.round (g := (k, T0, n0)) (k + 1, hset T0 (kyk, rok, rtk), n0 + 1) ?_ ?_ (subB_eq (l := [0, 8, 9, 10]) (by kernel_rfl)) (fun w hw => hw.pickB [0, 1, 2, 3, 4] (by kernel_rfl) (by kernel_rfl) (by kernel_rfl))
                  · (try dsimp only); exact ⟨by omega, by omega⟩
                  · omega
              ·
                refine Cd.fact (i := 4) rfl hpS.srt ?_; rintro ⟨hnd, hle, hsd⟩
                refine Cd.exit ?_
                refine Ex'.thenExit ?_
                refine Ex'.thenExit ?_
                refine Ex'.blockHit ?_
                refine Ex'.next ?_
                refine Cd.seq ?_
                refine Cd.region rfl ?_
                refine Sq.vals [0] (rest := [1, 2]) [pV b10 0] (fun w => by kernel_rfl) ?_
                refine Sq.ex [4] (l := [hpS b10 T0 n0]) (o_call (by kernel_rfl) Try.call24 (hp_OrderS (S := T0) (n := n0) (by omega))) (by kernel_rfl) rfl (by kernel_rfl) (fun _ => Nat.le_of_ble_eq_true (by kernel_rfl)) ?_; rintro v16 _
                refine Sq.fact (i := 5) (R := rowR 9 1 v16 ((T0.map (·.1)).length) ((T0.map (·.1)).map Value.string)) (by kernel_rfl) row_slice ?_; rintro ⟨a17, c18, rfl, hc18, hc18'⟩
                have hc18'' : c18 ≤ 9223372036854775807 := hc18'
                refine Sq.vals [2] (rest := []) [.slice a17 ((T0.map (·.1)).length) c18] (fun w => by kernel_rfl) ?_
                refine Sq.done ?_
                refine Ex'.next ?_
                refine Cd.seq ?_
                refine Cd.region rfl ?_
                refine Sq.ex [] (l := []) (o_newMap Value.string Value.bool) (by kernel_rfl) rfl (by kernel_rfl) (fun _ => Nat.zero_le _) ?_; intro b19 _
                refine Sq.vals [1] (rest := []) [.map (some b19)] (fun w => by kernel_rfl) ?_
                refine Sq.done ?_
                refine Ex'.next ?_
                refine Cd.seq ?_
                refine Cd.region rfl ?_
                refine Sq.ex [] (l := []) (o_new [iV 0, iV 0] (fun w => by kernel_rfl)) (by kernel_rfl) rfl (by kernel_rfl) (fun _ => Nat.zero_le _) ?_; intro b20 _
                refine Sq.done ?_
                refine Ex'.next ?_
                refine Cd.seq ?_
                refine Cd.seq ?_
                refine Cd.region rfl ?_
                refine Sq.vals [0] (rest := []) [iV 0] (fun w => by kernel_rfl) ?_
                refine Sq.done ?_
                refine Ex'.next ?_
                refine Cd.block ?_
                refine Cd.loop (ι := Nat × (List (ByteArray × Bool)) × Int × Int) (fun ⟨j, sn, la, lb⟩ => PopI T0 sn la lb j) (fun ⟨j, sn, la, lb⟩ => (T0.map (·.1)).length - j) (fun ⟨j, sn, la, lb⟩ => [(9, pV b10 0), (11, .slice a17 ((T0.map (·.1)).length) c18), (12, .map (some b19)), (13, pV b20 0), (14, iV (j : Int))]) (fun ⟨j, sn, la, lb⟩ => [oldR w0, blkR b1 [iV pa1, iV pa2] 28, blkR b2 [iV pb1, iV pb2] 28, blkR b3 [iV pc1, iV pc2] 28, hpS b10 (T0.drop j) n0, rowR 9 1 (.slice a17 ((T0.map (·.1)).length) c18) ((T0.map (·.1)).length) ((T0.map (·.1)).map Value.string), mapR Value.string Value.bool b19 sn, blkR b20 [iV la, iV lb] 28]) (0, [], 0, 0) (PopI.new) (subB_eq (l := [9, 11, 12, 13, 14]) (by kernel_rfl)) (fun w hw => (hw.conv 4 (R := hpS b10 T0 n0) (R' := hpS b10 (T0.drop 0) n0) (by kernel_rfl) (fun w T q => q)).pickB [0, 1, 2, 3, 4, 5, 6, 7] (by kernel_rfl) (by kernel_rfl) (by kernel_rfl)) ?_
                rintro ⟨j, sn, la, lb⟩ hL21
                try dsimp only at hL21 ⊢
                have hP := hL21
                have hj := hP.le
                refine Cd.seq ?_
                refine Cd.seq ?_
                refine Cd.region rfl ?_
                refine Sq.vals [0, 1, 2, 3] (rest := []) [iV (j : Int), .slice a17 ((T0.map (·.1)).length) c18, iV ((T0.map (·.1)).length : Int), bV (decide ((j : Int) < ((T0.map (·.1)).length : Int)))] (fun w => by kernel_rfl) ?_
                refine Sq.done ?_
                refine Ex'.next ?_
                refine Cd.case (p := (j : Int) < ((T0.map (·.1)).length : Int)) (by kernel_rfl) (fun h22 => ?_) (fun h22 => ?_)
                ·
                  obtain ⟨kj, aj, bj, hS1, hS2, hS3⟩ := drop_kr (S := T0) (j := j) (by omega)
                  refine Cd.res 4 (R := hpS b10 (T0.drop j) n0) (R' := hpS b10 ((kj, aj, bj) :: T0.drop (j + 1)) n0) (by kernel_rfl) (fun w T q => by rw [← hS1]; exact q) ?_
                  have hlk : lk ((kj, aj, bj) :: T0.drop (j + 1)) ((T0.map (·.1)).getD j ⟨#[]⟩) = some (aj, bj) := by rw [hS2]; simp [lk]
                  have hlk2 : (lk ((kj, aj, bj) :: T0.drop (j + 1)) ((T0.map (·.1)).getD j ⟨#[]⟩)).getD (0, 0) = (aj, bj) := by rw [hlk]; rfl
                  have hfr := hP.fresh hnd hS3
                  refine Cd.fact (i := 5) (R := rowR 9 1 (.slice a17 ((T0.map (·.1)).length) c18) ((T0.map (·.1)).length) ((T0.map (·.1)).map Value.string)) (by kernel_rfl) (row_addr (by omega)) ?_; rintro ⟨b23, rfl⟩
                  refine Cd.skip ?_
                  refine Ex'.next ?_
                  refine Cd.seq ?_
                  refine Cd.block ?_
                  refine Cd.seq ?_
                  refine Cd.region rfl ?_
                  refine Sq.vals [0, 1, 2] (rest := [3, 4, 5, 6, 7, 8, 9, 10, 11]) [pV b10 0, .slice (some ⟨b23, 0, none⟩) ((T0.map (·.1)).length) c18, iV (j : Int)] (fun w => by kernel_rfl) ?_
                  refine Sq.v (r := pV b23 j) (o_idx (b := b23) (cap := c18) (e := 9) (off := 0) (n := (T0.map (·.1)).length) (kd := .i64) (q := (j : Int)) (i := j) (size := 1) (j := j) (by kernel_rfl) (by kernel_rfl) (by rfl) (by omega) Try.underlying47 (by kernel_rfl) (by omega)) rfl (by kernel_rfl) ?_
                  refine Sq.same [5] (l := [rowR 9 1 (.slice (some ⟨b23, 0, none⟩) ((T0.map (·.1)).length) c18) ((T0.map (·.1)).length) ((T0.map (·.1)).map Value.string)]) (o_loadRow (i := j) (u := sV ((T0.map (·.1)).getD j ⟨#[]⟩)) (by kernel_rfl) (by omega) (by kernel_rfl) (get_map (by omega))) (by kernel_rfl) rfl (by kernel_rfl) rfl ?_
                  refine Sq.same [4] (l := [hpS b10 ((kj, aj, bj) :: T0.drop (j + 1)) n0]) (o_call (by kernel_rfl) Try.call21 (hp_RankS (S := (kj, aj, bj) :: T0.drop (j + 1)) (n := n0) ((T0.map (·.1)).getD j ⟨#[]⟩) (by omega))) (by kernel_rfl) rfl (by kernel_rfl) rfl ?_
                  refine Sq.vals [6, 7, 8] (rest := [9, 10, 11]) [.tuple #[.agg #[iV (((lk ((kj, aj, bj) :: T0.drop (j + 1)) ((T0.map (·.1)).getD j ⟨#[]⟩)).getD (0, 0)).1), iV (((lk ((kj, aj, bj) :: T0.drop (j + 1)) ((T0.map (·.1)).getD j ⟨#[]⟩)).getD (0, 0)).2)], bV ((lk ((kj, aj, bj) :: T0.drop (j + 1)) ((T0.map (·.1)).getD j ⟨#[]⟩)).isSome)], .agg #[iV (((lk ((kj, aj, bj) :: T0.drop (j + 1)) ((T0.map (·.1)).getD j ⟨#[]⟩)).getD (0, 0)).1), iV (((lk ((kj, aj, bj) :: T0.drop (j + 1)) ((T0.map (·.1)).getD j ⟨#[]⟩)).getD (0, 0)).2)], bV ((lk ((kj, aj, bj) :: T0.drop (j + 1)) ((T0.map (·.1)).getD j ⟨#[]⟩)).isSome)] (fun w => by kernel_rfl) ?_
                  refine Sq.ex [] (l := []) (o_new [iV 0, iV 0] (fun w => by kernel_rfl)) (by kernel_rfl) rfl (by kernel_rfl) (fun _ => Nat.zero_le _) ?_; intro b24 _
                  refine Sq.same [8] (l := [blkR b24 [iV 0, iV 0] 28]) (o_store (i := 0) (v := .agg #[iV (((lk ((kj, aj, bj) :: T0.drop (j + 1)) ((T0.map (·.1)).getD j ⟨#[]⟩)).getD (0, 0)).1), iV (((lk ((kj, aj, bj) :: T0.drop (j + 1)) ((T0.map (·.1)).getD j ⟨#[]⟩)).getD (0, 0)).2)]) (by kernel_rfl) (by kernel_rfl) (by kernel_rfl) (by kernel_rfl) (by kernel_rfl)) (by kernel_rfl) rfl (by kernel_rfl) rfl ?_
                  refine Sq.vals [11] (rest := []) [bV ((lk ((kj, aj, bj) :: T0.drop (j + 1)) ((T0.map (·.1)).getD j ⟨#[]⟩)).isSome)] (fun w => by kernel_rfl) ?_
                  refine Sq.done ?_
                  refine Ex'.next ?_
                  refine Cd.seq ?_
                  refine Cd.region rfl ?_
                  refine Sq.vals [0] (rest := [1, 2, 3, 4, 5, 6]) [pV b10 0] (fun w => by kernel_rfl) ?_
                  refine Sq.same [4] (l := [hpS b10 ((kj, aj, bj) :: T0.drop (j + 1)) n0]) (o_call (by kernel_rfl) Try.call20 (hp_PopS (S := (kj, aj, bj) :: T0.drop (j + 1)) (n := n0) (by omega))) (by kernel_rfl) rfl (by kernel_rfl) rfl ?_
                  refine Sq.vals [2, 3, 4, 5, 6] (rest := []) [.tuple #[sV ((htop (⟨#[]⟩, 0, 0) ((kj, aj, bj) :: T0.drop (j + 1))).1), bV (decide (0 < ((kj, aj, bj) :: T0.drop (j + 1)).length))], sV ((htop (⟨#[]⟩, 0, 0) ((kj, aj, bj) :: T0.drop (j + 1))).1), bV (decide (0 < ((kj, aj, bj) :: T0.drop (j + 1)).length)), sV ((htop (⟨#[]⟩, 0, 0) ((kj, aj, bj) :: T0.drop (j + 1))).1), bV (decide (0 < ((kj, aj, bj) :: T0.drop (j + 1)).length))] (fun w => by kernel_rfl) ?_
                  refine Sq.done ?_
                  refine Ex'.next ?_
                  refine Cd.seq ?_
                  refine Cd.seq ?_
                  refine Cd.region rfl ?_
                  refine Sq.vals [0, 1, 2] (rest := [3, 4, 5, 6, 7, 8, 9, 10, 11, 12, 13, 14, 15, 16, 17, 18, 19, 20, 21, 22, 23, 24, 25, 26, 27]) [bV ((lk ((kj, aj, bj) :: T0.drop (j + 1)) ((T0.map (·.1)).getD j ⟨#[]⟩)).isSome), bV (!((lk ((kj, aj, bj) :: T0.drop (j + 1)) ((T0.map (·.1)).getD j ⟨#[]⟩)).isSome)), bV (!((lk ((kj, aj, bj) :: T0.drop (j + 1)) ((T0.map (·.1)).getD j ⟨#[]⟩)).isSome))] (fun w => by kernel_rfl) ?_
                  refine Sq.re 131 rfl (congrArg Value.bool (show (!((lk ((kj, aj, bj) :: T0.drop (j + 1)) ((T0.map (·.1)).getD j ⟨#[]⟩)).isSome)) = false from (by rw [hlk]; rfl))) ?_
                  refine Sq.vals [3] (rest := [4, 5, 6, 7, 8, 9, 10, 11, 12, 13, 14, 15, 16, 17, 18, 19, 20, 21, 22, 23, 24, 25, 26, 27]) [bV (decide (0 < ((kj, aj, bj) :: T0.drop (j + 1)).length))] (fun w => by kernel_rfl) ?_
                  refine Sq.v (r := bV (decide (¬ (0 < ((kj, aj, bj) :: T0.drop (j + 1)).length)))) (o_not (by kernel_rfl)) rfl (by kernel_rfl) ?_
                  refine Sq.vals [5, 6] (rest := [7, 8, 9, 10, 11, 12, 13, 14, 15, 16, 17, 18, 19, 20, 21, 22, 23, 24, 25, 26, 27]) [bV (decide (¬ (0 < ((kj, aj, bj) :: T0.drop (j + 1)).length))), bV (decide (¬ (0 < ((kj, aj, bj) :: T0.drop (j + 1)).length)))] (fun w => by kernel_rfl) ?_
                  refine Sq.re 135 rfl (vF (fun z => z (by simp))) ?_
                  refine Sq.vals [7, 8, 9] (rest := [10, 11, 12, 13, 14, 15, 16, 17, 18, 19, 20, 21, 22, 23, 24, 25, 26, 27]) [sV ((htop (⟨#[]⟩, 0, 0) ((kj, aj, bj) :: T0.drop (j + 1))).1), .slice (some ⟨b23, 0, none⟩) ((T0.map (·.1)).length) c18, iV (j : Int)] (fun w => by kernel_rfl) ?_
                  refine Sq.v (r := pV b23 j) (o_idx (b := b23) (cap := c18) (e := 9) (off := 0) (n := (T0.map (·.1)).length) (kd := .i64) (q := (j : Int)) (i := j) (size := 1) (j := j) (by kernel_rfl) (by kernel_rfl) (by rfl) (by omega) Try.underlying47 (by kernel_rfl) (by omega)) rfl (by kernel_rfl) ?_
                  refine Sq.same [5] (l := [rowR 9 1 (.slice (some ⟨b23, 0, none⟩) ((T0.map (·.1)).length) c18) ((T0.map (·.1)).length) ((T0.map (·.1)).map Value.string)]) (o_loadRow (i := j) (u := sV ((T0.map (·.1)).getD j ⟨#[]⟩)) (by kernel_rfl) (by omega) (by kernel_rfl) (get_map (by omega))) (by kernel_rfl) rfl (by kernel_rfl) rfl ?_
                  refine Sq.v (r := bV (decide ((htop (⟨#[]⟩, 0, 0) ((kj, aj, bj) :: T0.drop (j + 1))).1 ≠ (T0.map (·.1)).getD j ⟨#[]⟩))) (o_neS (a := (htop (⟨#[]⟩, 0, 0) ((kj, aj, bj) :: T0.drop (j + 1))).1) (b := (T0.map (·.1)).getD j ⟨#[]⟩) (by kernel_rfl) (by kernel_rfl)) rfl (by kernel_rfl) ?_
                  refine Sq.re 141 rfl (vF (fun z => z hS2.symm)) ?_
                  refine Sq.vals [13, 14, 15, 16] (rest := [17, 18, 19, 20, 21, 22, 23, 24, 25, 26, 27]) [bV false, bV false, .map (some b19), sV ((htop (⟨#[]⟩, 0, 0) ((kj, aj, bj) :: T0.drop (j + 1))).1)] (fun w => by kernel_rfl) ?_
                  refine Sq.same [6] (l := [mapR Value.string Value.bool b19 sn]) (o_look (fv := Value.bool) (l := sn) false ((htop (⟨#[]⟩, 0, 0) ((kj, aj, bj) :: T0.drop (j + 1))).1) (by kernel_rfl) (by kernel_rfl) (strKey Try.underlying9) Try.underlying51 (fun w => by kernel_rfl)) (by kernel_rfl) rfl (by kernel_rfl) rfl ?_
                  refine Sq.vals [18, 19] (rest := [20, 21, 22, 23, 24, 25, 26, 27]) [bV ((lk sn ((htop (⟨#[]⟩, 0, 0) ((kj, aj, bj) :: T0.drop (j + 1))).1)).getD false), bV ((lk sn ((htop (⟨#[]⟩, 0, 0) ((kj, aj, bj) :: T0.drop (j + 1))).1)).getD false)] (fun w => by kernel_rfl) ?_
                  refine Sq.re 148 rfl (congrArg Value.bool (show ((lk sn ((htop (⟨#[]⟩, 0, 0) ((kj, aj, bj) :: T0.drop (j + 1))).1)).getD false) = false from hfr)) ?_
                  refine Sq.vals [20, 21, 22] (rest := [23, 24, 25, 26, 27]) [iV (j : Int), bV (decide ((j : Int) > 0)), bV (decide ((j : Int) > 0))] (fun w => by kernel_rfl) ?_
                  refine Sq.case 151 (p := (j : Int) > 0) rfl (fun h28 => ?_) (fun h28 => ?_)
                  ·
                    have hns := hP.less hsd hS3 (by omega)
                    refine Sq.same [8] (l := [blkR b24 [iV (((lk ((kj, aj, bj) :: T0.drop (j + 1)) ((T0.map (·.1)).getD j ⟨#[]⟩)).getD (0, 0)).1), iV (((lk ((kj, aj, bj) :: T0.drop (j + 1)) ((T0.map (·.1)).getD j ⟨#[]⟩)).getD (0, 0)).2)] 28]) (o_loadN (i := 0) [iV (((lk ((kj, aj, bj) :: T0.drop (j + 1)) ((T0.map (·.1)).getD j ⟨#[]⟩)).getD (0, 0)).1), iV (((lk ((kj, aj, bj) :: T0.drop (j + 1)) ((T0.map (·.1)).getD j ⟨#[]⟩)).getD (0, 0)).2)] (by kernel_rfl) (by kernel_rfl) (by kernel_rfl)) (by kernel_rfl) rfl (by kernel_rfl) rfl ?_
                    refine Sq.same [7] (l := [blkR b20 [iV la, iV lb] 28]) (o_loadN (i := 0) [iV la, iV lb] (by kernel_rfl) (by kernel_rfl) (by kernel_rfl)) (by kernel_rfl) rfl (by kernel_rfl) rfl ?_
                    refine Sq.same [] (l := []) (o_call (by kernel_rfl) Try.call25 ((heap_Less (p0 := ((lk ((kj, aj, bj) :: T0.drop (j + 1)) ((T0.map (·.1)).getD j ⟨#[]⟩)).getD (0, 0)).1) (p1 := ((lk ((kj, aj, bj) :: T0.drop (j + 1)) ((T0.map (·.1)).getD j ⟨#[]⟩)).getD (0, 0)).2) (q0 := la) (q1 := lb)).re (vF (by rw [hlk2]; exact hns)))) (by kernel_rfl) rfl (by kernel_rfl) rfl ?_
                    refine Sq.vals [26, 27] (rest := []) [bV false, bV false] (fun w => by kernel_rfl) ?_
                    refine Sq.done ?_
                    refine Ex'.next ?_
                    refine Cd.condF (by kernel_rfl) ?_
                    refine Cd.skip ?_
                    refine Ex'.next ?_
                    refine Cd.seq ?_
                    refine Cd.region rfl ?_
                    refine Sq.vals [0, 1] (rest := [2]) [.map (some b19), sV ((htop (⟨#[]⟩, 0, 0) ((kj, aj, bj) :: T0.drop (j + 1))).1)] (fun w => by kernel_rfl) ?_
                    refine Sq.same [6] (l := [mapR Value.string Value.bool b19 sn]) (o_mapUpdate ((htop (⟨#[]⟩, 0, 0) ((kj, aj, bj) :: T0.drop (j + 1))).1) true (by kernel_rfl) (by kernel_rfl) (by kernel_rfl) (strKey Try.underlying9) Try.underlying51) (by kernel_rfl) rfl (by kernel_rfl) rfl ?_
                    refine Sq.done ?_
                    refine Ex'.next ?_
                    refine Cd.region rfl ?_
                    refine Sq.same [8] (l := [blkR b24 [iV (((lk ((kj, aj, bj) :: T0.drop (j + 1)) ((T0.map (·.1)).getD j ⟨#[]⟩)).getD (0, 0)).1), iV (((lk ((kj, aj, bj) :: T0.drop (j + 1)) ((T0.map (·.1)).getD j ⟨#[]⟩)).getD (0, 0)).2)] 28]) (o_loadN (i := 0) [iV (((lk ((kj, aj, bj) :: T0.drop (j + 1)) ((T0.map (·.1)).getD j ⟨#[]⟩)).getD (0, 0)).1), iV (((lk ((kj, aj, bj) :: T0.drop (j + 1)) ((T0.map (·.1)).getD j ⟨#[]⟩)).getD (0, 0)).2)] (by kernel_rfl) (by kernel_rfl) (by kernel_rfl)) (by kernel_rfl) rfl (by kernel_rfl) rfl ?_
                    refine Sq.same [7] (l := [blkR b20 [iV la, iV lb] 28]) (o_store (i := 0) (v := .agg #[iV (((lk ((kj, aj, bj) :: T0.drop (j + 1)) ((T0.map (·.1)).getD j ⟨#[]⟩)).getD (0, 0)).1), iV (((lk ((kj, aj, bj) :: T0.drop (j + 1)) ((T0.map (·.1)).getD j ⟨#[]⟩)).getD (0, 0)).2)]) (by kernel_rfl) (by kernel_rfl) (by kernel_rfl) (by kernel_rfl) (by kernel_rfl)) (by kernel_rfl) rfl (by kernel_rfl) rfl ?_
                    refine Sq.done ?_
                    refine Ex'.blockNormal ?_
                    refine Ex'.next ?_
                    refine Cd.region rfl ?_
                    refine Sq.vals [0] (rest := [1, 2]) [iV (j : Int)] (fun w => by kernel_rfl) ?_
                    refine Sq.v (r := iV ((j : Int) + 1)) (o_add (k := .i64) (a := (j : Int)) (b := 1) (c := (j : Int) + 1) (by kernel_rfl) (by kernel_rfl) (w64 rfl (by omega))) rfl (by kernel_rfl) ?_
                    refine Sq.vals [2] (rest := []) [iV ((j : Int) + 1)] (fun w => by kernel_rfl) ?_
                    refine Sq.done ?_
                    refine Ex'.round (g := (j, sn, la, lb)) (j + 1, put sn ((htop (⟨#[]⟩, 0, 0) ((kj, aj, bj) :: T0.drop (j + 1))).1) true, ((lk ((kj, aj, bj) :: T0.drop (j + 1)) ((T0.map (·.1)).getD j ⟨#[]⟩)).getD (0, 0)).1, ((lk ((kj, aj, bj) :: T0.drop (j + 1)) ((T0.map (·.1)).getD j ⟨#[]⟩)).getD (0, 0)).2) ?_ ?_ (subB_eq (l := [9, 11, 12, 13, 14]) (by kernel_rfl)) (fun w hw => (hw.conv 4 (R := hpS b10 (((kj, aj, bj) :: T0.drop (j + 1)).tail) n0) (R' := hpS b10 (T0.drop (j + 1)) n0) (by kernel_rfl) (fun w T q => q)).pickB [0, 1, 2, 3, 4, 5, 6, 7] (by kernel_rfl) (by kernel_rfl) (by kernel_rfl))
                    · (try dsimp only); exact (by rw [hlk2]; exact hP.step hS3)
                    · omega
                  ·
                    refine Sq.vals [23, 24, 25, 26, 27] (rest := []) [undef, undef, undef, bV false, bV false] (fun w => by kernel_rfl) ?_
                    refine Sq.done ?_
                    refine Ex'.next ?_
                    refine Cd.condF (by kernel_rfl) ?_
                    refine Cd.skip ?_
                    refine Ex'.next ?_
                    refine Cd.seq ?_
                    refine Cd.region rfl ?_
                    refine Sq.vals [0, 1] (rest := [2]) [.map (some b19), sV ((htop (⟨#[]⟩, 0, 0) ((kj, aj, bj) :: T0.drop (j + 1))).1)] (fun w => by kernel_rfl) ?_
                    refine Sq.same [6] (l := [mapR Value.string Value.bool b19 sn]) (o_mapUpdate ((htop (⟨#[]⟩, 0, 0) ((kj, aj, bj) :: T0.drop (j + 1))).1) true (by kernel_rfl) (by kernel_rfl) (by kernel_rfl) (strKey Try.underlying9) Try.underlying51) (by kernel_rfl) rfl (by kernel_rfl) rfl ?_
                    refine Sq.done ?_
                    refine Ex'.next ?_
                    refine Cd.region rfl ?_
                    refine Sq.same [8] (l := [blkR b24 [iV (((lk ((kj, aj, bj) :: T0.drop (j + 1)) ((T0.map (·.1)).getD j ⟨#[]⟩)).getD (0, 0)).1), iV (((lk ((kj, aj, bj) :: T0.drop (j + 1)) ((T0.map (·.1)).getD j ⟨#[]⟩)).getD (0, 0)).2)] 28]) (o_loadN (i := 0) [iV (((lk ((kj, aj, bj) :: T0.drop (j + 1)) ((T0.map (·.1)).getD j ⟨#[]⟩)).getD (0, 0)).1), iV (((lk ((kj, aj, bj) :: T0.drop (j + 1)) ((T0.map (·.1)).getD j ⟨#[]⟩)).getD (0, 0)).2)] (by kernel_rfl) (by kernel_rfl) (by kernel_rfl)) (by kernel_rfl) rfl (by kernel_rfl) rfl ?_
                    refine Sq.same [7] (l := [blkR b20 [iV la, iV lb] 28]) (o_store (i := 0) (v := .agg #[iV (((lk ((kj, aj, bj) :: T0.drop (j + 1)) ((T0.map (·.1)).getD j ⟨#[]⟩)).getD (0, 0)).1), iV (((lk ((kj, aj, bj) :: T0.drop (j + 1)) ((T0.map (·.1)).getD j ⟨#[]⟩)).getD (0, 0)).2)]) (by kernel_rfl) (by kernel_rfl) (by kernel_rfl) (by kernel_rfl) (by kernel_rfl)) (by kernel_rfl) rfl (by kernel_rfl) rfl ?_
                    refine Sq.done ?_
                    refine Ex'.blockNormal ?_
                    refine Ex'.next ?_
                    refine Cd.region rfl ?_
                    refine Sq.vals [0] (rest := [1, 2]) [iV (j : Int)] (fun w => by kernel_rfl) ?_
                    refine Sq.v (r := iV ((j : Int) + 1)) (o_add (k := .i64) (a := (j : Int)) (b := 1) (c := (j : Int) + 1) (by kernel_rfl) (by kernel_rfl) (w64 rfl (by omega))) rfl (by kernel_rfl) ?_
                    refine Sq.vals [2] (rest := []) [iV ((j : Int) + 1)] (fun w => by kernel_rfl) ?_
                    refine Sq.done ?_
                    refine Ex'.round (g := (j, sn, la, lb)) (j + 1, put sn ((htop (⟨#[]⟩, 0, 0) ((kj, aj, bj) :: T0.drop (j + 1))).1) true, ((lk ((kj, aj, bj) :: T0.drop (j + 1)) ((T0.map (·.1)).getD j ⟨#[]⟩)).getD (0, 0)).1, ((lk ((kj, aj, bj) :: T0.drop (j + 1)) ((T0.map (·.1)).getD j ⟨#[]⟩)).getD (0, 0)).2) ?_ ?_ (subB_eq (l := [9, 11, 12, 13, 14]) (by kernel_rfl)) (fun w hw => (hw.conv 4 (R := hpS b10 (((kj, aj, bj) :: T0.drop (j + 1)).tail) n0) (R' := hpS b10 (T0.drop (j + 1)) n0) (by kernel_rfl) (fun w T q => q)).pickB [0, 1, 2, 3, 4, 5, 6, 7] (by kernel_rfl) (by kernel_rfl) (by kernel_rfl))
                    · (try dsimp only); exact (by rw [hlk2]; exact hP.step hS3)
                    · omega
                ·
                  have hdr : T0.drop j = [] := List.drop_eq_nil_of_le (by have : (T0.map (·.1)).length = T0.length := List.length_map _; omega)
                  refine Cd.exit ?_
                  refine Ex'.thenExit ?_
                  refine Ex'.thenExit ?_
                  refine Ex'.blockHit ?_
                  refine Ex'.next ?_
                  refine Cd.seq ?_
                  refine Cd.region rfl ?_
                  refine Sq.vals [0] (rest := [1, 2, 3, 4, 5, 6]) [pV b10 0] (fun w => by kernel_rfl) ?_
                  refine Sq.same [4] (l := [hpS b10 (T0.drop j) n0]) (o_call (by kernel_rfl) Try.call20 (hp_PopS (S := T0.drop j) (n := n0) (by omega))) (by kernel_rfl) rfl (by kernel_rfl) rfl ?_
                  refine Sq.vals [2, 3, 4, 5, 6] (rest := []) [.tuple #[sV ((htop (⟨#[]⟩, 0, 0) (T0.drop j)).1), bV (decide (0 < (T0.drop j).length))], sV ((htop (⟨#[]⟩, 0, 0) (T0.drop j)).1), bV (decide (0 < (T0.drop j).length)), sV ((htop (⟨#[]⟩, 0, 0) (T0.drop j)).1), bV (decide (0 < (T0.drop j).length))] (fun w => by kernel_rfl) ?_
                  refine Sq.done ?_
                  refine Ex'.next ?_
                  refine Cd.seq ?_
                  refine Cd.region rfl ?_
                  refine Sq.vals [0] (rest := [1, 2, 3, 4, 5, 6, 7]) [bV (decide (0 < (T0.drop j).length))] (fun w => by kernel_rfl) ?_
                  refine Sq.v (r := bV (decide (¬ (0 < (T0.drop j).length)))) (o_not (by kernel_rfl)) rfl (by kernel_rfl) ?_
                  refine Sq.vals [2] (rest := [3, 4, 5, 6, 7]) [bV (decide (¬ (0 < (T0.drop j).length)))] (fun w => by kernel_rfl) ?_
                  refine Sq.re 167 rfl (vT (by rw [hdr]; simp)) ?_
                  refine Sq.vals [3] (rest := [4, 5, 6, 7]) [pV b10 0] (fun w => by kernel_rfl) ?_
                  refine Sq.same [4] (l := [hpS b10 ((T0.drop j).tail) n0]) (o_call (by kernel_rfl) Try.call23 (hp_LenS (S := (T0.drop j).tail) (n := n0) (by omega))) (by kernel_rfl) rfl (by kernel_rfl) rfl ?_
                  refine Sq.v (r := bV (decide ((((T0.drop j).tail).length : Int) = 0))) (o_eqI (k := .i64) (a := (((T0.drop j).tail).length : Int)) (b := 0) (by kernel_rfl) (by kernel_rfl)) rfl (by kernel_rfl) ?_
                  refine Sq.re 170 rfl (vT (by rw [hdr]; rfl)) ?_
                  refine Sq.vals [6, 7] (rest := []) [bV true, bV true] (fun w => by kernel_rfl) ?_
                  refine Sq.done ?_
                  refine Ex'.next ?_
                  refine Cd.ret ?_
                  refine Ex'.ret Try.results4 (RVs.tmp (v := bV true) (by kernel_rfl) (RVs.nil)) (fun w hw => ?_)
                  exact ⟨_, ⟨rfl, by kernel_rfl⟩, hw⟩
          ·
            refine Sq.vals [23, 24, 25, 26, 27, 28, 29] (rest := [30, 31, 32, 33, 34, 35, 36, 37, 38, 39, 40, 41, 42, 43, 44, 45]) [undef, undef, undef, undef, bV false, bV false, bV false] (fun w => by kernel_rfl) ?_
            refine Sq.same [1] (l := [blkR b1 [iV pa1, iV pa2] 28]) (o_loadN (i := 0) [iV pa1, iV pa2] (by kernel_rfl) (by kernel_rfl) (by kernel_rfl)) (by kernel_rfl) rfl (by kernel_rfl) rfl ?_
            refine Sq.same [2] (l := [blkR b2 [iV pb1, iV pb2] 28]) (o_loadN (i := 0) [iV pb1, iV pb2] (by kernel_rfl) (by kernel_rfl) (by kernel_rfl)) (by kernel_rfl) rfl (by kernel_rfl) rfl ?_
            refine Sq.same [] (l := []) (o_call (by kernel_rfl) Try.call25 ((heap_Less (p0 := pa1) (p1 := pa2) (q0 := pb1) (q1 := pb2)).re (vT h6))) (by kernel_rfl) rfl (by kernel_rfl) rfl ?_
            refine Sq.vals [33, 34, 35, 36, 37, 38, 39, 40, 41, 42, 43, 44, 45] (rest := []) [bV false, bV false, undef, undef, undef, undef, bV false, bV false, undef, undef, undef, bV false, bV false] (fun w => by kernel_rfl) ?_
            refine Sq.done ?_
            refine Ex'.next ?_
            refine Cd.condF (by kernel_rfl) ?_
            refine Cd.skip ?_
            refine Ex'.next ?_
            refine Cd.seq ?_
            refine Cd.region rfl ?_
            refine Sq.ex [] (l := []) (o_call (by kernel_rfl) Try.call14 (hp_NewS)) (by kernel_rfl) rfl (by kernel_rfl) (fun _ => Nat.le_of_ble_eq_true (by kernel_rfl)) ?_; rintro b30 _
            refine Sq.vals [1] (rest := []) [pV b30 0] (fun w => by kernel_rfl) ?_
            refine Sq.done ?_
            refine Ex'.next ?_
            refine Cd.seq ?_
            refine Cd.seq ?_
            refine Cd.region rfl ?_
            refine Sq.vals [0, 1] (rest := []) [pV b30 0, bV false] (fun w => by kernel_rfl) ?_
            refine Sq.done ?_
            refine Ex'.next ?_
            refine Cd.condF (by kernel_rfl) ?_
            refine Cd.skip ?_
            refine Ex'.next ?_
            refine Cd.seq ?_
            refine Cd.seq ?_
            refine Cd.region rfl ?_
            refine Sq.vals [0] (rest := []) [iV 0] (fun w => by kernel_rfl) ?_
            refine Sq.done ?_
            refine Ex'.next ?_
            refine Cd.block ?_
            refine Cd.loop (ι := Nat × (List (KR ByteArray)) × Nat) (fun ⟨k, T0, n0⟩ => k ≤ xs.length ∧ n0 ≤ k) (fun ⟨k, T0, n0⟩ => xs.length - k) (fun ⟨k, T0, n0⟩ => [(0, .slice a xs.length cap), (8, bV false), (9, pV b30 0), (10, iV (k : Int))]) (fun ⟨k, T0, n0⟩ => [oldR w0, blkR b1 [iV pa1, iV pa2] 28, blkR b2 [iV pb1, iV pb2] 28, blkR b3 [iV pc1, iV pc2] 28, hpS b30 T0 n0]) (0, [], 0) (⟨Nat.zero_le _, Nat.le_refl _⟩) (subB_eq (l := [0, 8, 9, 10]) (by kernel_rfl)) (fun w hw => hw.pickB [0, 1, 2, 3, 4] (by kernel_rfl) (by kernel_rfl) (by kernel_rfl)) ?_
            rintro ⟨k, T0, n0⟩ hL31
            try dsimp only at hL31 ⊢
            obtain ⟨hk, hn⟩ := hL31
            refine Cd.seq ?_
            refine Cd.seq ?_
            refine Cd.region rfl ?_
            refine Sq.vals [0, 1, 2, 3] (rest := []) [iV (k : Int), .slice a xs.length cap, iV (xs.length : Int), bV (decide ((k : Int) < (xs.length : Int)))] (fun w => by kernel_rfl) ?_
            refine Sq.done ?_
            refine Ex'.next ?_
            refine Cd.case (p := (k : Int) < (xs.length : Int)) (by kernel_rfl) (fun h32 => ?_) (fun h32 => ?_)
            ·
              obtain ⟨g33, off34, rfl⟩ := hs.addr (by omega)
              obtain ⟨kdk, kyk, rok, rtk, hgk, hwk, hrk⟩ := hs.at (k := k) (by omega)
              refine Cd.skip ?_
              refine Ex'.next ?_
              refine Cd.seq ?_
              refine Cd.block ?_
              refine Cd.seq ?_
              refine Cd.plan [0, 0, 0, 6, 14, 30, 0, 0, 192, 448, 960, 2047] [(5, [(0, false, 0)]), (10, [(0, false, 0)]), (11, [(4, true, 0)])] [] [] [(4, 11, fun g => hpS b30 (hset T0 (kyk, rok, rtk)) (n0 + 1))] [fun g => pV b30 0, fun g => .slice (some ⟨g33, off34, none⟩) xs.length cap, fun g => iV (k : Int), fun g => pV g33 (off34 + k * 4), fun g => pV g33 (off34 + k * 4 + 1), fun g => sV kyk, fun g => .slice (some ⟨g33, off34, none⟩) xs.length cap, fun g => iV (k : Int), fun g => pV g33 (off34 + k * 4), fun g => pV g33 (off34 + k * 4 + 2), fun g => .agg #[iV rok, iV rtk], fun g => .tuple #[]] (by kernel_rfl) (by kernel_rfl) rfl (trivial) ?_ ?_
              · exact ⟨ob_val fun g w => by kernel_rfl, ob_val fun g w => by kernel_rfl, ob_val fun g w => by kernel_rfl, ob_v (v := fun g => pV g33 (off34 + k * 4)) (fun g => o_idx (b := g33) (cap := cap) (e := 30) (off := off34) (n := xs.length) (kd := .i64) (q := (k : Int)) (i := k) (size := 4) (j := off34 + k * 4) (by kernel_rfl) (by kernel_rfl) (by rfl) (by omega) Try.underlying22 (by kernel_rfl) (by omega)) (fun g => by kernel_rfl), ob_val fun g w => by kernel_rfl, ob_s (l := fun g => [oldR w0]) (l' := fun g => [oldR w0]) (v := fun g => sV kyk) (fun g => o_loadOld (b := g33) (j := off34 + k * 4 + 1) (u := sV kyk) (by kernel_rfl) (by kernel_rfl) (hrk 1 _ rfl)) (fun g => by kernel_rfl), ob_val fun g w => by kernel_rfl, ob_val fun g w => by kernel_rfl, ob_v (v := fun g => pV g33 (off34 + k * 4)) (fun g => o_idx (b := g33) (cap := cap) (e := 30) (off := off34) (n := xs.length) (kd := .i64) (q := (k : Int)) (i := k) (size := 4) (j := off34 + k * 4) (by kernel_rfl) (by kernel_rfl) (by rfl) (by omega) Try.underlying22 (by kernel_rfl) (by omega)) (fun g => by kernel_rfl), ob_val fun g w => by kernel_rfl, ob_s (l := fun g => [oldR w0]) (l' := fun g => [oldR w0]) (v := fun g => .agg #[iV rok, iV rtk]) (fun g => o_loadOldN (b := g33) (j := off34 + k * 4 + 2) [iV rok, iV rtk] (by kernel_rfl) (by kernel_rfl) (range_sub hrk 2 2)) (fun g => by kernel_rfl), ob_s (l := fun g => [hpS b30 T0 n0]) (l' := fun g => [hpS b30 (hset T0 (kyk, rok, rtk)) (n0 + 1)]) (v := fun g => .tuple #[]) (fun g => o_call (by kernel_rfl) Try.call16 (hp_SetS (S := T0) (n := n0) kyk rok rtk (by omega))) (fun g => by kernel_rfl), trivial⟩
              intro g
              refine Ex'.sub (subB_spec [0, 8, 9, 10]) ?_
              refine Ex'.as [0, 1, 2, 3, 4] (σ' := [(0, .slice (some ⟨g33, off34, none⟩) xs.length cap), (8, bV false), (9, pV b30 0), (10, iV (k : Int))]) (Γ' := [oldR w0, blkR b1 [iV pa1, iV pa2] 28, blkR b2 [iV pb1, iV pb2] 28, blkR b3 [iV pc1, iV pc2] 28, hpS b30 (hset T0 (kyk, rok, rtk)) (n0 + 1)]) (by kernel_rfl) rfl (by kernel_rfl) (by kernel_rfl) ?_
              refine Ex'.next ?_
              refine Cd.seq ?_
              refine Cd.region rfl ?_
              refine Sq.vals [0, 1] (rest := [2, 3, 4, 5]) [.slice (some ⟨g33, off34, none⟩) xs.length cap, iV (k : Int)] (fun w => by kernel_rfl) ?_
              refine Sq.v (r := pV g33 (off34 + k * 4)) (o_idx (b := g33) (cap := cap) (e := 30) (off := off34) (n := xs.length) (kd := .i64) (q := (k : Int)) (i := k) (size := 4) (j := off34 + k * 4) (by kernel_rfl) (by kernel_rfl) (by rfl) (by omega) Try.underlying22 (by kernel_rfl) (by omega)) rfl (by kernel_rfl) ?_
              refine Sq.vals [3] (rest := [4, 5]) [pV g33 (off34 + k * 4)] (fun w => by kernel_rfl) ?_
              refine Sq.same [0] (l := [oldR w0]) (o_loadOld (b := g33) (j := off34 + k * 4) (u := iV kdk) (by kernel_rfl) (by kernel_rfl) (hrk 0 _ rfl)) (by kernel_rfl) rfl (by kernel_rfl) rfl ?_
              refine Sq.v (r := bV (decide (kdk = 1))) (o_eqI (k := .i64) (a := kdk) (b := 1) (by kernel_rfl) (by kernel_rfl)) rfl (by kernel_rfl) ?_
              refine Sq.done ?_
              refine Ex'.next ?_
              refine Cd.case (p := kdk = 1) (by kernel_rfl) (fun h35 => ?_) (fun h35 => ?_)
              ·
                refine Cd.region rfl ?_
                refine Sq.vals [0, 1, 2] (rest := [3, 4, 5, 6]) [pV b30 0, .slice (some ⟨g33, off34, none⟩) xs.length cap, iV (k : Int)] (fun w => by kernel_rfl) ?_
                refine Sq.v (r := pV g33 (off34 + k * 4)) (o_idx (b := g33) (cap := cap) (e := 30) (off := off34) (n := xs.length) (kd := .i64) (q := (k : Int)) (i := k) (size := 4) (j := off34 + k * 4) (by kernel_rfl) (by kernel_rfl) (by rfl) (by omega) Try.underlying22 (by kernel_rfl) (by omega)) rfl (by kernel_rfl) ?_
                refine Sq.vals [4] (rest := [5, 6]) [pV g33 (off34 + k * 4 + 1)] (fun w => by kernel_rfl) ?_
                refine Sq.same [0] (l := [oldR w0]) (o_loadOld (b := g33) (j := off34 + k * 4 + 1) (u := sV kyk) (by kernel_rfl) (by kernel_rfl) (hrk 1 _ rfl)) (by kernel_rfl) rfl (by kernel_rfl) rfl ?_
                refine Sq.same [4] (l := [hpS b30 (hset T0 (kyk, rok, rtk)) (n0 + 1)]) (o_call (by kernel_rfl) Try.call18 (hp_RemoveS (S := hset T0 (kyk, rok, rtk)) (n := n0 + 1) kyk (by omega))) (by kernel_rfl) rfl (by kernel_rfl) rfl ?_
                refine Sq.done ?_
                refine Ex'.blockNormal ?_
                refine Ex'.next ?_
                refine Cd.region rfl ?_
                refine Sq.vals [0] (rest := [1, 2]) [iV (k : Int)] (fun w => by kernel_rfl) ?_
                refine Sq.v (r := iV ((k : Int) + 1)) (o_add (k := .i64) (a := (k : Int)) (b := 1) (c := (k : Int) + 1) (by kernel_rfl) (by kernel_rfl) (w64 rfl (by omega))) rfl (by kernel_rfl) ?_
                refine Sq.vals [2] (rest := []) [iV ((k : Int) + 1)] (fun w => by kernel_rfl) ?_
                refine Sq.done ?_
                refine Ex'.round (g := (k, T0, n0)) (k + 1, hrem (hset T0 (kyk, rok, rtk)) kyk, n0 + 1) ?_ ?_ (subB_eq (l := [0, 8, 9, 10]) (by kernel_rfl)) (fun w hw => hw.pickB [0, 1, 2, 3, 4] (by kernel_rfl) (by kernel_rfl) (by kernel_rfl))
                · (try dsimp only); exact ⟨by omega, by omega⟩
                · omega
              ·
                refine Cd.skip ?_
                refine Ex'.blockNormal ?_
                refine Ex'.next ?_
                refine Cd.region rfl ?_
                refine Sq.vals [0] (rest := [1, 2]) [iV (k : Int)] (fun w => by kernel_rfl) ?_
                refine Sq.v (r := iV ((k : Int) + 1)) (o_add (k := .i64) (a := (k : Int)) (b := 1) (c := (k : Int) + 1) (by kernel_rfl) (by kernel_rfl) (w64 rfl (by omega))) rfl (by kernel_rfl) ?_
                refine Sq.vals [2] (rest := []) [iV ((k : Int) + 1)] (fun w => by kernel_rfl) ?_
                refine Sq.done ?_
                refine Ex'.round (g := (k, T0, n0)) (k + 1, hset T0 (kyk, rok, rtk), n0 + 1) ?_ ?_ (subB_eq (l := [0, 8, 9, 10]) (by kernel_rfl)) (fun w hw => hw.pickB [0, 1, 2, 3, 4] (by kernel_rfl) (by kernel_rfl) (by kernel_rfl))
                · (try dsimp only); exact ⟨by omega, by omega⟩
                · omega
            ·
              refine Cd.fact (i := 4) rfl hpS.srt ?_; rintro ⟨hnd, hle, hsd⟩
              refine Cd.exit ?_
              refine Ex'.thenExit ?_
              refine Ex'.thenExit ?_
              refine Ex'.blockHit ?_
              refine Ex'.next ?_
              refine Cd.seq ?_
              refine Cd.region rfl ?_
              refine Sq.vals [0] (rest := [1, 2]) [pV b30 0] (fun w => by kernel_rfl) ?_
              refine Sq.ex [4] (l := [hpS b30 T0 n0]) (o_call (by kernel_rfl) Try.call24 (hp_OrderS (S := T0) (n := n0) (by omega))) (by kernel_rfl) rfl (by kernel_rfl) (fun _ => Nat.le_of_ble_eq_true (by kernel_rfl)) ?_; rintro v36 _
              refine Sq.fact (i := 5) (R := rowR 9 1 v36 ((T0.map (·.1)).length) ((T0.map (·.1)).map Value.string)) (by kernel_rfl) row_slice ?_; rintro ⟨a37, c38, rfl, hc38, hc38'⟩
              have hc38'' : c38 ≤ 9223372036854775807 := hc38'
              refine Sq.vals [2] (rest := []) [.slice a37 ((T0.map (·.1)).length) c38] (fun w => by kernel_rfl) ?_
              refine Sq.done ?_
              refine Ex'.next ?_
              refine Cd.seq ?_
              refine Cd.region rfl ?_
              refine Sq.ex [] (l := []) (o_newMap Value.string Value.bool) (by kernel_rfl) rfl (by kernel_rfl) (fun _ => Nat.zero_le _) ?_; intro b39 _
              refine Sq.vals [1] (rest := []) [.map (some b39)] (fun w => by kernel_rfl) ?_
              refine Sq.done ?_
              refine Ex'.next ?_
              refine Cd.seq ?_
              refine Cd.region rfl ?_
              refine Sq.ex [] (l := []) (o_new [iV 0, iV 0] (fun w => by kernel_rfl)) (by kernel_rfl) rfl (by kernel_rfl) (fun _ => Nat.zero_le _) ?_; intro b40 _
              refine Sq.done ?_
              refine Ex'.next ?_
              refine Cd.seq ?_
              refine Cd.seq ?_
              refine Cd.region rfl ?_
              refine Sq.vals [0] (rest := []) [iV 0] (fun w => by kernel_rfl) ?_
              refine Sq.done ?_
              refine Ex'.next ?_
              refine Cd.block ?_
              refine Cd.loop (ι := Nat × (List (ByteArray × Bool)) × Int × Int) (fun ⟨j, sn, la, lb⟩ => PopI T0 sn la lb j) (fun ⟨j, sn, la, lb⟩ => (T0.map (·.1)).length - j) (fun ⟨j, sn, la, lb⟩ => [(9, pV b30 0), (11, .slice a37 ((T0.map (·.1)).length) c38), (12, .map (some b39)), (13, pV b40 0), (14, iV (j : Int))]) (fun ⟨j, sn, la, lb⟩ => [oldR w0, blkR b1 [iV pa1, iV pa2] 28, blkR b2 [iV pb1, iV pb2] 28, blkR b3 [iV pc1, iV pc2] 28, hpS b30 (T0.drop j) n0, rowR 9 1 (.slice a37 ((T0.map (·.1)).length) c38) ((T0.map (·.1)).length) ((T0.map (·.1)).map Value.string), mapR Value.string Value.bool b39 sn, blkR b40 [iV la, iV lb] 28]) (0, [], 0, 0) (PopI.new) (subB_eq (l := [9, 11, 12, 13, 14]) (by kernel_rfl)) (fun w hw => (hw.conv 4 (R := hpS b30 T0 n0) (R' := hpS b30 (T0.drop 0) n0) (by kernel_rfl) (fun w T q => q)).pickB [0, 1, 2, 3, 4, 5, 6, 7] (by kernel_rfl) (by kernel_rfl) (by kernel_rfl)) ?_
              rintro ⟨j, sn, la, lb⟩ hL41
              try dsimp only at hL41 ⊢
              have hP := hL41
              have hj := hP.le
              refine Cd.seq ?_
              refine Cd.seq ?_
              refine Cd.region rfl ?_
              refine Sq.vals [0, 1, 2, 3] (rest := []) [iV (j : Int), .slice a37 ((T0.map (·.1)).length) c38, iV ((T0.map (·.1)).length : Int), bV (decide ((j : Int) < ((T0.map (·.1)).length : Int)))] (fun w => by kernel_rfl) ?_
              refine Sq.done ?_
              refine Ex'.next ?_
              refine Cd.case (p := (j : Int) < ((T0.map (·.1)).length : Int)) (by kernel_rfl) (fun h42 => ?_) (fun h42 => ?_)
              ·
                obtain ⟨kj, aj, bj, hS1, hS2, hS3⟩ := drop_kr (S := T0) (j := j) (by omega)
                refine Cd.res 4 (R := hpS b30 (T0.drop j) n0) (R' := hpS b30 ((kj, aj, bj) :: T0.drop (j + 1)) n0) (by kernel_rfl) (fun w T q => by rw [← hS1]; exact q) ?_
                have hlk : lk ((kj, aj, bj) :: T0.drop (j + 1)) ((T0.map (·.1)).getD j ⟨#[]⟩) = some (aj, bj) := by rw [hS2]; simp [lk]
                have hlk2 : (lk ((kj, aj, bj) :: T0.drop (j + 1)) ((T0.map (·.1)).getD j ⟨#[]⟩)).getD (0, 0) = (aj, bj) := by rw [hlk]; rfl
                have hfr := hP.fresh hnd hS3
                refine Cd.fact (i := 5) (R := rowR 9 1 (.slice a37 ((T0.map (·.1)).length) c38) ((T0.map (·.1)).length) ((T0.map (·.1)).map Value.string)) (by kernel_rfl) (row_addr (by omega)) ?_; rintro ⟨b43, rfl⟩
                refine Cd.skip ?_
                refine Ex'.next ?_
                refine Cd.seq ?_
                refine Cd.block ?_
                refine Cd.seq ?_
                refine Cd.region rfl ?_
                refine Sq.vals [0, 1, 2] (rest := [3, 4, 5, 6, 7, 8, 9, 10, 11]) [pV b30 0, .slice (some ⟨b43, 0, none⟩) ((T0.map (·.1)).length) c38, iV (j : Int)] (fun w => by kernel_rfl) ?_
                refine Sq.v (r := pV b43 j) (o_idx (b := b43) (cap := c38) (e := 9) (off := 0) (n := (T0.map (·.1)).length) (kd := .i64) (q := (j : Int)) (i := j) (size := 1) (j := j) (by kernel_rfl) (by kernel_rfl) (by rfl) (by omega) Try.underlying47 (by kernel_rfl) (by omega)) rfl (by kernel_rfl) ?_
                refine Sq.same [5] (l := [rowR 9 1 (.slice (some ⟨b43, 0, none⟩) ((T0.map (·.1)).length) c38) ((T0.map (·.1)).length) ((T0.map (·.1)).map Value.string)]) (o_loadRow (i := j) (u := sV ((T0.map (·.1)).getD j ⟨#[]⟩)) (by kernel_rfl) (by omega) (by kernel_rfl) (get_map (by omega))) (by kernel_rfl) rfl (by kernel_rfl) rfl ?_
                refine Sq.same [4] (l := [hpS b30 ((kj, aj, bj) :: T0.drop (j + 1)) n0]) (o_call (by kernel_rfl) Try.call21 (hp_RankS (S := (kj, aj, bj) :: T0.drop (j + 1)) (n := n0) ((T0.map (·.1)).getD j ⟨#[]⟩) (by omega))) (by kernel_rfl) rfl (by kernel_rfl) rfl ?_
                refine Sq.vals [6, 7, 8] (rest := [9, 10, 11]) [.tuple #[.agg #[iV (((lk ((kj, aj, bj) :: T0.drop (j + 1)) ((T0.map (·.1)).getD j ⟨#[]⟩)).getD (0, 0)).1), iV (((lk ((kj, aj, bj) :: T0.drop (j + 1)) ((T0.map (·.1)).getD j ⟨#[]⟩)).getD (0, 0)).2)], bV ((lk ((kj, aj, bj) :: T0.drop (j + 1)) ((T0.map (·.1)).getD j ⟨#[]⟩)).isSome)], .agg #[iV (((lk ((kj, aj, bj) :: T0.drop (j + 1)) ((T0.map (·.1)).getD j ⟨#[]⟩)).getD (0, 0)).1), iV (((lk ((kj, aj, bj) :: T0.drop (j + 1)) ((T0.map (·.1)).getD j ⟨#[]⟩)).getD (0, 0)).2)], bV ((lk ((kj, aj, bj) :: T0.drop (j + 1)) ((T0.map (·.1)).getD j ⟨#[]⟩)).isSome)] (fun w => by kernel_rfl) ?_
                refine Sq.ex [] (l := []) (o_new [iV 0, iV 0] (fun w => by kernel_rfl)) (by kernel_rfl) rfl (by kernel_rfl) (fun _ => Nat.zero_le _) ?_; intro b44 _
                refine Sq.same [8] (l := [blkR b44 [iV 0, iV 0] 28]) (o_store (i := 0) (v := .agg #[iV (((lk ((kj, aj, bj) :: T0.drop (j + 1)) ((T0.map (·.1)).getD j ⟨#[]⟩)).getD (0, 0)).1), iV (((lk ((kj, aj, bj) :: T0.drop (j + 1)) ((T0.map (·.1)).getD j ⟨#[]⟩)).getD (0, 0)).2)]) (by kernel_rfl) (by kernel_rfl) (by kernel_rfl) (by kernel_rfl) (by kernel_rfl)) (by kernel_rfl) rfl (by kernel_rfl) rfl ?_
                refine Sq.vals [11] (rest := []) [bV ((lk ((kj, aj, bj) :: T0.drop (j + 1)) ((T0.map (·.1)).getD j ⟨#[]⟩)).isSome)] (fun w => by kernel_rfl) ?_
                refine Sq.done ?_
                refine Ex'.next ?_
                refine Cd.seq ?_
                refine Cd.region rfl ?_
                refine Sq.vals [0] (rest := [1, 2, 3, 4, 5, 6]) [pV b30 0] (fun w => by kernel_rfl) ?_
                refine Sq.same [4] (l := [hpS b30 ((kj, aj, bj) :: T0.drop (j + 1)) n0]) (o_call (by kernel_rfl) Try.call20 (hp_PopS (S := (kj, aj, bj) :: T0.drop (j + 1)) (n := n0) (by omega))) (by kernel_rfl) rfl (by kernel_rfl) rfl ?_
                refine Sq.vals [2, 3, 4, 5, 6] (rest := []) [.tuple #[sV ((htop (⟨#[]⟩, 0, 0) ((kj, aj, bj) :: T0.drop (j + 1))).1), bV (decide (0 < ((kj, aj, bj) :: T0.drop (j + 1)).length))], sV ((htop (⟨#[]⟩, 0, 0) ((kj, aj, bj) :: T0.drop (j + 1))).1), bV (decide (0 < ((kj, aj, bj) :: T0.drop (j + 1)).length)), sV ((htop (⟨#[]⟩, 0, 0) ((kj, aj, bj) :: T0.drop (j + 1))).1), bV (decide (0 < ((kj, aj, bj) :: T0.drop (j + 1)).length))] (fun w => by kernel_rfl) ?_
                refine Sq.done ?_
                refine Ex'.next ?_
                refine Cd.seq ?_
                refine Cd.seq ?_
                refine Cd.region rfl ?_
                refine Sq.vals [0, 1, 2] (rest := [3, 4, 5, 6, 7, 8, 9, 10, 11, 12, 13, 14, 15, 16, 17, 18, 19, 20, 21, 22, 23, 24, 25, 26, 27]) [bV ((lk ((kj, aj, bj) :: T0.drop (j + 1)) ((T0.map (·.1)).getD j ⟨#[]⟩)).isSome), bV (!((lk ((kj, aj, bj) :: T0.drop (j + 1)) ((T0.map (·.1)).getD j ⟨#[]⟩)).isSome)), bV (!((lk ((kj, aj, bj) :: T0.drop (j + 1)) ((T0.map (·.1)).getD j ⟨#[]⟩)).isSome))] (fun w => by kernel_rfl) ?_
                refine Sq.re 131 rfl (congrArg Value.bool (show (!((lk ((kj, aj, bj) :: T0.drop (j + 1)) ((T0.map (·.1)).getD j ⟨#[]⟩)).isSome)) = false from (by rw [hlk]; rfl))) ?_
                refine Sq.vals [3] (rest := [4, 5, 6, 7, 8, 9, 10, 11, 12, 13, 14, 15, 16, 17, 18, 19, 20, 21, 22, 23, 24, 25, 26, 27]) [bV (decide (0 < ((kj, aj, bj) :: T0.drop (j + 1)).length))] (fun w => by kernel_rfl) ?_
                refine Sq.v (r := bV (decide (¬ (0 < ((kj, aj, bj) :: T0.drop (j + 1)).length)))) (o_not (by kernel_rfl)) rfl (by kernel_rfl) ?_
                refine Sq.vals [5, 6] (rest := [7, 8, 9, 10, 11, 12, 13, 14, 15, 16, 17, 18, 19, 20, 21, 22, 23, 24, 25, 26, 27]) [bV (decide (¬ (0 < ((kj, aj, bj) :: T0.drop (j + 1)).length))), bV (decide (¬ (0 < ((kj, aj, bj) :: T0.drop (j + 1)).length)))] (fun w => by kernel_rfl) ?_
                refine Sq.re 135 rfl (vF (fun z => z (by simp))) ?_
                refine Sq.vals [7, 8, 9] (rest := [10, 11, 12, 13, 14, 15, 16, 17, 18, 19, 20, 21, 22, 23, 24, 25, 26, 27]) [sV ((htop (⟨#[]⟩, 0, 0) ((kj, aj, bj) :: T0.drop (j + 1))).1), .slice (some ⟨b43, 0, none⟩) ((T0.map (·.1)).length) c38, iV (j : Int)] (fun w => by kernel_rfl) ?_
                refine Sq.v (r := pV b43 j) (o_idx (b := b43) (cap := c38) (e := 9) (off := 0) (n := (T0.map (·.1)).length) (kd := .i64) (q := (j : Int)) (i := j) (size := 1) (j := j) (by kernel_rfl) (by kernel_rfl) (by rfl) (by omega) Try.underlying47 (by kernel_rfl) (by omega)) rfl (by kernel_rfl) ?_
                refine Sq.same [5] (l := [rowR 9 1 (.slice (some ⟨b43, 0, none⟩) ((T0.map (·.1)).length) c38) ((T0.map (·.1)).length) ((T0.map (·.1)).map Value.string)]) (o_loadRow (i := j) (u := sV ((T0.map (·.1)).getD j ⟨#[]⟩)) (by kernel_rfl) (by omega) (by kernel_rfl) (get_map (by omega))) (by kernel_rfl) rfl (by kernel_rfl) rfl ?_
                refine Sq.v (r := bV (decide ((htop (⟨#[]⟩, 0, 0) ((kj, aj, bj) :: T0.drop (j + 1))).1 ≠ (T0.map (·.1)).getD j ⟨#[]⟩))) (o_neS (a := (htop (⟨#[]⟩, 0, 0) ((kj, aj, bj) :: T0.drop (j + 1))).1) (b := (T0.map (·.1)).getD j ⟨#[]⟩) (by kernel_rfl) (by kernel_rfl)) rfl (by kernel_rfl) ?_
                refine Sq.re 141 rfl (vF (fun z => z hS2.symm)) ?_
                refine Sq.vals [13, 14, 15, 16] (rest := [17, 18, 19, 20, 21, 22, 23, 24, 25, 26, 27]) [bV false, bV false, .map (some b39), sV ((htop (⟨#[]⟩, 0, 0) ((kj, aj, bj) :: T0.drop (j + 1))).1)] (fun w => by kernel_rfl) ?_
                refine Sq.same [6] (l := [mapR Value.string Value.bool b39 sn]) (o_look (fv := Value.bool) (l := sn) false ((htop (⟨#[]⟩, 0, 0) ((kj, aj, bj) :: T0.drop (j + 1))).1) (by kernel_rfl) (by kernel_rfl) (strKey Try.underlying9) Try.underlying51 (fun w => by kernel_rfl)) (by kernel_rfl) rfl (by kernel_rfl) rfl ?_
                refine Sq.vals [18, 19] (rest := [20, 21, 22, 23, 24, 25, 26, 27]) [bV ((lk sn ((htop (⟨#[]⟩, 0, 0) ((kj, aj, bj) :: T0.drop (j + 1))).1)).getD false), bV ((lk sn ((htop (⟨#[]⟩, 0, 0) ((kj, aj, bj) :: T0.drop (j + 1))).1)).getD false)] (fun w => by kernel_rfl) ?_
                refine Sq.re 148 rfl (congrArg Value.bool (show ((lk sn ((htop (⟨#[]⟩, 0, 0) ((kj, aj, bj) :: T0.drop (j + 1))).1)).getD false) = false from hfr)) ?_
                refine Sq.vals [20, 21, 22] (rest := [23, 24, 25, 26, 27]) [iV (j : Int), bV (decide ((j : Int) > 0)), bV (decide ((j : Int) > 0))] (fun w => by kernel_rfl) ?_
                refine Sq.case 151 (p := (j : Int) > 0) rfl (fun h48 => ?_) (fun h48 => ?_)
                ·
                  have hns := hP.less hsd hS3 (by omega)
                  refine Sq.same [8] (l := [blkR b44 [iV (((lk ((kj, aj, bj) :: T0.drop (j + 1)) ((T0.map (·.1)).getD j ⟨#[]⟩)).getD (0, 0)).1), iV (((lk ((kj, aj, bj) :: T0.drop (j + 1)) ((T0.map (·.1)).getD j ⟨#[]⟩)).getD (0, 0)).2)] 28]) (o_loadN (i := 0) [iV (((lk ((kj, aj, bj) :: T0.drop (j + 1)) ((T0.map (·.1)).getD j ⟨#[]⟩)).getD (0, 0)).1), iV (((lk ((kj, aj, bj) :: T0.drop (j + 1)) ((T0.map (·.1)).getD j ⟨#[]⟩)).getD (0, 0)).2)] (by kernel_rfl) (by kernel_rfl) (by kernel_rfl)) (by kernel_rfl) rfl (by kernel_rfl) rfl ?_
                  refine Sq.same [7] (l := [blkR b40 [iV la, iV lb] 28]) (o_loadN (i := 0) [iV la, iV lb] (by kernel_rfl) (by kernel_rfl) (by kernel_rfl)) (by kernel_rfl) rfl (by kernel_rfl) rfl ?_
                  refine Sq.same [] (l := []) (o_call (by kernel_rfl) Try.call25 ((heap_Less (p0 := ((lk ((kj, aj, bj) :: T0.drop (j + 1)) ((T0.map (·.1)).getD j ⟨#[]⟩)).getD (0, 0)).1) (p1 := ((lk ((kj, aj, bj) :: T0.drop (j + 1)) ((T0.map (·.1)).getD j ⟨#[]⟩)).getD (0, 0)).2) (q0 := la) (q1 := lb)).re (vF (by rw [hlk2]; exact hns)))) (by kernel_rfl) rfl (by kernel_rfl) rfl ?_
                  refine Sq.vals [26, 27] (rest := []) [bV false, bV false] (fun w => by kernel_rfl) ?_
                  refine Sq.done ?_
                  refine Ex'.next ?_
                  refine Cd.condF (by kernel_rfl) ?_
                  refine Cd.skip ?_
                  refine Ex'.next ?_
                  refine Cd.seq ?_
                  refine Cd.region rfl ?_
                  refine Sq.vals [0, 1] (rest := [2]) [.map (some b39), sV ((htop (⟨#[]⟩, 0, 0) ((kj, aj, bj) :: T0.drop (j + 1))).1)] (fun w => by kernel_rfl) ?_
                  refine Sq.same [6] (l := [mapR Value.string Value.bool b39 sn]) (o_mapUpdate ((htop (⟨#[]⟩, 0, 0) ((kj, aj, bj) :: T0.drop (j + 1))).1) true (by kernel_rfl) (by kernel_rfl) (by kernel_rfl) (strKey Try.underlying9) Try.underlying51) (by kernel_rfl) rfl (by kernel_rfl) rfl ?_
                  refine Sq.done ?_
                  refine Ex'.next ?_
                  refine Cd.region rfl ?_
                  refine Sq.same [8] (l := [blkR b44 [iV (((lk ((kj, aj, bj) :: T0.drop (j + 1)) ((T0.map (·.1)).getD j ⟨#[]⟩)).getD (0, 0)).1), iV (((lk ((kj, aj, bj) :: T0.drop (j + 1)) ((T0.map (·.1)).getD j ⟨#[]⟩)).getD (0, 0)).2)] 28]) (o_loadN (i := 0) [iV (((lk ((kj, aj, bj) :: T0.drop (j + 1)) ((T0.map (·.1)).getD j ⟨#[]⟩)).getD (0, 0)).1), iV (((lk ((kj, aj, bj) :: T0.drop (j + 1)) ((T0.map (·.1)).getD j ⟨#[]⟩)).getD (0, 0)).2)] (by kernel_rfl) (by kernel_rfl) (by kernel_rfl)) (by kernel_rfl) rfl (by kernel_rfl) rfl ?_
                  refine Sq.same [7] (l := [blkR b40 [iV la, iV lb] 28]) (o_store (i := 0) (v := .agg #[iV (((lk ((kj, aj, bj) :: T0.drop (j + 1)) ((T0.map (·.1)).getD j ⟨#[]⟩)).getD (0, 0)).1), iV (((lk ((kj, aj, bj) :: T0.drop (j + 1)) ((T0.map (·.1)).getD j ⟨#[]⟩)).getD (0, 0)).2)]) (by kernel_rfl) (by kernel_rfl) (by kernel_rfl) (by kernel_rfl) (by kernel_rfl)) (by kernel_rfl) rfl (by kernel_rfl) rfl ?_
                  refine Sq.done ?_
                  refine Ex'.blockNormal ?_
                  refine Ex'.next ?_
                  refine Cd.region rfl ?_
                  refine Sq.vals [0] (rest := [1, 2]) [iV (j : Int)] (fun w => by kernel_rfl) ?_
                  refine Sq.v (r := iV ((j : Int) + 1)) (o_add (k := .i64) (a := (j : Int)) (b := 1) (c := (j : Int) + 1) (by kernel_rfl) (by kernel_rfl) (w64 rfl (by omega))) rfl (by kernel_rfl) ?_
                  refine Sq.vals [2] (rest := []) [iV ((j : Int) + 1)] (fun w => by kernel_rfl) ?_
                  refine Sq.done ?_
                  refine Ex'.round (g := (j, sn, la, lb)) (j + 1, put sn ((htop (⟨#[]⟩, 0, 0) ((kj, aj, bj) :: T0.drop (j + 1))).1) true, ((lk ((kj, aj, bj) :: T0.drop (j + 1)) ((T0.map (·.1)).getD j ⟨#[]⟩)).getD (0, 0)).1, ((lk ((kj, aj, bj) :: T0.drop (j + 1)) ((T0.map (·.1)).getD j ⟨#[]⟩)).getD (0, 0)).2) ?_ ?_ (subB_eq (l := [9, 11, 12, 13, 14]) (by kernel_rfl)) (fun w hw => (hw.conv 4 (R := hpS b30 (((kj, aj, bj) :: T0.drop (j + 1)).tail) n0) (R' := hpS b30 (T0.drop (j + 1)) n0) (by kernel_rfl) (fun w T q => q)).pickB [0, 1, 2, 3, 4, 5, 6, 7] (by kernel_rfl) (by kernel_rfl) (by kernel_rfl))
                  · (try dsimp only); exact (by rw [hlk2]; exact hP.step hS3)
                  · omega
                ·
                  refine Sq.vals [23, 24, 25, 26, 27] (rest := []) [undef, undef, undef, bV false, bV false] (fun w => by kernel_rfl) ?_
                  refine Sq.done ?_
                  refine Ex'.next ?_
                  refine Cd.condF (by kernel_rfl) ?_
                  refine Cd.skip ?_
                  refine Ex'.next ?_
                  refine Cd.seq ?_
                  refine Cd.region rfl ?_
                  refine Sq.vals [0, 1] (rest := [2]) [.map (some b39), sV ((htop (⟨#[]⟩, 0, 0) ((kj, aj, bj) :: T0.drop (j + 1))).1)] (fun w => by kernel_rfl) ?_
                  refine Sq.same [6] (l := [mapR Value.string Value.bool b39 sn]) (o_mapUpdate ((htop (⟨#[]⟩, 0, 0) ((kj, aj, bj) :: T0.drop (j + 1))).1) true (by kernel_rfl) (by kernel_rfl) (by kernel_rfl) (strKey Try.underlying9) Try.underlying51) (by kernel_rfl) rfl (by kernel_rfl) rfl ?_
                  refine Sq.done ?_
                  refine Ex'.next ?_
                  refine Cd.region rfl ?_
                  refine Sq.same [8] (l := [blkR b44 [iV (((lk ((kj, aj, bj) :: T0.drop (j + 1)) ((T0.map (·.1)).getD j ⟨#[]⟩)).getD (0, 0)).1), iV (((lk ((kj, aj, bj) :: T0.drop (j + 1)) ((T0.map (·.1)).getD j ⟨#[]⟩)).getD (0, 0)).2)] 28]) (o_loadN (i := 0) [iV (((lk ((kj, aj, bj) :: T0.drop (j + 1)) ((T0.map (·.1)).getD j ⟨#[]⟩)).getD (0, 0)).1), iV (((lk ((kj, aj, bj) :: T0.drop (j + 1)) ((T0.map (·.1)).getD j ⟨#[]⟩)).getD (0, 0)).2)] (by kernel_rfl) (by kernel_rfl) (by kernel_rfl)) (by kernel_rfl) rfl (by kernel_rfl) rfl ?_
                  refine Sq.same [7] (l := [blkR b40 [iV la, iV lb] 28]) (o_store (i := 0) (v := .agg #[iV (((lk ((kj, aj, bj) :: T0.drop (j + 1)) ((T0.map (·.1)).getD j ⟨#[]⟩)).getD (0, 0)).1), iV (((lk ((kj, aj, bj) :: T0.drop (j + 1)) ((T0.map (·.1)).getD j ⟨#[]⟩)).getD (0, 0)).2)]) (by kernel_rfl) (by kernel_rfl) (by kernel_rfl) (by kernel_rfl) (by kernel_rfl)) (by kernel_rfl) rfl (by kernel_rfl) rfl ?_
                  refine Sq.done ?_
                  refine Ex'.blockNormal ?_
                  refine Ex'.next ?_
                  refine Cd.region rfl ?_
                  refine Sq.vals [0] (rest := [1, 2]) [iV (j : Int)] (fun w => by kernel_rfl) ?_
                  refine Sq.v (r := iV ((j : Int) + 1)) (o_add (k := .i64) (a := (j : Int)) (b := 1) (c := (j : Int) + 1) (by kernel_rfl) (by kernel_rfl) (w64 rfl (by omega))) rfl (by kernel_rfl) ?_
                  refine Sq.vals [2] (rest := []) [iV ((j : Int) + 1)] (fun w => by kernel_rfl) ?_
                  refine Sq.done ?_
                  refine Ex'.round (g := (j, sn, la, lb)) (j + 1, put sn ((htop (⟨#[]⟩, 0, 0) ((kj, aj, bj) :: T0.drop (j + 1))).1) true, ((lk ((kj, aj, bj) :: T0.drop (j + 1)) ((T0.map (·.1)).getD j ⟨#[]⟩)).getD (0, 0)).1, ((lk ((kj, aj, bj) :: T0.drop (j + 1)) ((T0.map (·.1)).getD j ⟨#[]⟩)).getD (0, 0)).2) ?_ ?_ (subB_eq (l := [9, 11, 12, 13, 14]) (by kernel_rfl)) (fun w hw => (hw.conv 4 (R := hpS b30 (((kj, aj, bj) :: T0.drop (j + 1)).tail) n0) (R' := hpS b30 (T0.drop (j + 1)) n0) (by kernel_rfl) (fun w T q => q)).pickB [0, 1, 2, 3, 4, 5, 6, 7] (by kernel_rfl) (by kernel_rfl) (by kernel_rfl))
                  · (try dsimp only); exact (by rw [hlk2]; exact hP.step hS3)
                  · omega
              ·
                have hdr : T0.drop j = [] := List.drop_eq_nil_of_le (by have : (T0.map (·.1)).length = T0.length := List.length_map _; omega)
                refine Cd.exit ?_
                refine Ex'.thenExit ?_
                refine Ex'.thenExit ?_
                refine Ex'.blockHit ?_
                refine Ex'.next ?_
                refine Cd.seq ?_
                refine Cd.region rfl ?_
                refine Sq.vals [0] (rest := [1, 2, 3, 4, 5, 6]) [pV b30 0] (fun w => by kernel_rfl) ?_
                refine Sq.same [4] (l := [hpS b30 (T0.drop j) n0]) (o_call (by kernel_rfl) Try.call20 (hp_PopS (S := T0.drop j) (n := n0) (by omega))) (by kernel_rfl) rfl (by kernel_rfl) rfl ?_
                refine Sq.vals [2, 3, 4, 5, 6] (rest := []) [.tuple #[sV ((htop (⟨#[]⟩, 0, 0) (T0.drop j)).1), bV (decide (0 < (T0.drop j).length))], sV ((htop (⟨#[]⟩, 0, 0) (T0.drop j)).1), bV (decide (0 < (T0.drop j).length)), sV ((htop (⟨#[]⟩, 0, 0) (T0.drop j)).1), bV (decide (0 < (T0.drop j).length))] (fun w => by kernel_rfl) ?_
                refine Sq.done ?_
                refine Ex'.next ?_
                refine Cd.seq ?_
                refine Cd.region rfl ?_
                refine Sq.vals [0] (rest := [1, 2, 3, 4, 5, 6, 7]) [bV (decide (0 < (T0.drop j).length))] (fun w => by kernel_rfl) ?_
                refine Sq.v (r := bV (decide (¬ (0 < (T0.drop j).length)))) (o_not (by kernel_rfl)) rfl (by kernel_rfl) ?_
                refine Sq.vals [2] (rest := [3, 4, 5, 6, 7]) [bV (decide (¬ (0 < (T0.drop j).length)))] (fun w => by kernel_rfl) ?_
                refine Sq.re 167 rfl (vT (by rw [hdr]; simp)) ?_
                refine Sq.vals [3] (rest := [4, 5, 6, 7]) [pV b30 0] (fun w => by kernel_rfl) ?_
                refine Sq.same [4] (l := [hpS b30 ((T0.drop j).tail) n0]) (o_call (by kernel_rfl) Try.call23 (hp_LenS (S := (T0.drop j).tail) (n := n0) (by omega))) (by kernel_rfl) rfl (by kernel_rfl) rfl ?_
                refine Sq.v (r := bV (decide ((((T0.drop j).tail).length : Int) = 0))) (o_eqI (k := .i64) (a := (((T0.drop j).tail).length : Int)) (b := 0) (by kernel_rfl) (by kernel_rfl)) rfl (by kernel_rfl) ?_
                refine Sq.re 170 rfl (vT (by rw [hdr]; rfl)) ?_
                refine Sq.vals [6, 7] (rest := []) [bV true, bV true] (fun w => by kernel_rfl) ?_
                refine Sq.done ?_
                refine Ex'.next ?_
                refine Cd.ret ?_
                refine Ex'.ret Try.results4 (RVs.tmp (v := bV true) (by kernel_rfl) (RVs.nil)) (fun w hw => ?_)
                exact ⟨_, ⟨rfl, by kernel_rfl⟩, hw⟩
      ·
        refine Sq.vals [8, 9, 10, 11, 12, 13] (rest := [14, 15, 16, 17, 18, 19, 20, 21, 22, 23, 24, 25, 26, 27, 28, 29, 30, 31, 32, 33, 34, 35, 36, 37, 38, 39, 40, 41, 42, 43, 44, 45]) [undef, undef, undef, bV false, bV false, bV false] (fun w => by kernel_rfl) ?_
        refine Sq.same [1] (l := [blkR b1 [iV pa1, iV pa2] 28]) (o_loadN (i := 0) [iV pa1, iV pa2] (by kernel_rfl) (by kernel_rfl) (by kernel_rfl)) (by kernel_rfl) rfl (by kernel_rfl) rfl ?_
        refine Sq.same [2] (l := [blkR b2 [iV pb1, iV pb2] 28]) (o_loadN (i := 0) [iV pb1, iV pb2] (by kernel_rfl) (by kernel_rfl) (by kernel_rfl)) (by kernel_rfl) rfl (by kernel_rfl) rfl ?_
        refine Sq.same [] (l := []) (o_call (by kernel_rfl) Try.call25 ((heap_Less (p0 := pa1) (p1 := pa2) (q0 := pb1) (q1 := pb2)).re (vF h6))) (by kernel_rfl) rfl (by kernel_rfl) rfl ?_
        refine Sq.vals [17, 18, 19, 20, 21, 22, 23, 24, 25, 26, 27, 28, 29] (rest := [30, 31, 32, 33, 34, 35, 36, 37, 38, 39, 40, 41, 42, 43, 44, 45]) [bV false, undef, undef, undef, bV false, bV false, undef, undef, undef, undef, bV false, bV false, bV false] (fun w => by kernel_rfl) ?_
        refine Sq.same [1] (l := [blkR b1 [iV pa1, iV pa2] 28]) (o_loadN (i := 0) [iV pa1, iV pa2] (by kernel_rfl) (by kernel_rfl) (by kernel_rfl)) (by kernel_rfl) rfl (by kernel_rfl) rfl ?_
        refine Sq.same [2] (l := [blkR b2 [iV pb1, iV pb2] 28]) (o_loadN (i := 0) [iV pb1, iV pb2] (by kernel_rfl) (by kernel_rfl) (by kernel_rfl)) (by kernel_rfl) rfl (by kernel_rfl) rfl ?_
        refine Sq.same [] (l := []) (o_call (by kernel_rfl) Try.call25 ((heap_Less (p0 := pa1) (p1 := pa2) (q0 := pb1) (q1 := pb2)).re (vF h6))) (by kernel_rfl) rfl (by kernel_rfl) rfl ?_
        refine Sq.vals [33, 34] (rest := [35, 36, 37, 38, 39, 40, 41, 42, 43, 44, 45]) [bV true, bV true] (fun w => by kernel_rfl) ?_
        refine Sq.same [2] (l := [blkR b2 [iV pb1, iV pb2] 28]) (o_loadN (i := 0) [iV pb1, iV pb2] (by kernel_rfl) (by kernel_rfl) (by kernel_rfl)) (by kernel_rfl) rfl (by kernel_rfl) rfl ?_
        refine Sq.same [1] (l := [blkR b1 [iV pa1, iV pa2] 28]) (o_loadN (i := 0) [iV pa1, iV pa2] (by kernel_rfl) (by kernel_rfl) (by kernel_rfl)) (by kernel_rfl) rfl (by kernel_rfl) rfl ?_
        refine Sq.same [] (l := []) (o_call (by kernel_rfl) Try.call25 (heap_Less (p0 := pb1) (p1 := pb2) (q0 := pa1) (q1 := pa2))) (by kernel_rfl) rfl (by kernel_rfl) rfl ?_
        refine Sq.v (r := bV (decide (¬ (pb1 < pa1 ∨ pb1 = pa1 ∧ pb2 < pa2)))) (o_not (by kernel_rfl)) rfl (by kernel_rfl) ?_
        refine Sq.vals [39, 40] (rest := [41, 42, 43, 44, 45]) [bV (decide (¬ (pb1 < pa1 ∨ pb1 = pa1 ∧ pb2 < pa2))), bV (decide (¬ (pb1 < pa1 ∨ pb1 = pa1 ∧ pb2 < pa2)))] (fun w => by kernel_rfl) ?_
        refine Sq.case 66 (p := ¬ (pb1 < pa1 ∨ pb1 = pa1 ∧ pb2 < pa2)) rfl (fun h50 => ?_) (fun h50 => ?_)
        ·
          refine Sq.same [1] (l := [blkR b1 [iV pa1, iV pa2] 28]) (o_loadN (i := 0) [iV pa1, iV pa2] (by kernel_rfl) (by kernel_rfl) (by kernel_rfl)) (by kernel_rfl) rfl (by kernel_rfl) rfl ?_
          refine Sq.same [2] (l := [blkR b2 [iV pb1, iV pb2] 28]) (o_loadN (i := 0) [iV pb1, iV pb2] (by kernel_rfl) (by kernel_rfl) (by kernel_rfl)) (by kernel_rfl) rfl (by kernel_rfl) rfl ?_
          refine Sq.v (r := bV (decide (¬ (pa1 = pb1 ∧ pa2 = pb2)))) (o_eqRank_ne pa1 pb1 pa2 pb2 (by kernel_rfl) (by kernel_rfl)) rfl (by kernel_rfl) ?_
          refine Sq.vals [44, 45] (rest := []) [bV (decide (¬ (pa1 = pb1 ∧ pa2 = pb2))), bV (decide (¬ (pa1 = pb1 ∧ pa2 = pb2)))] (fun w => by kernel_rfl) ?_
          refine Sq.done ?_
          refine Ex'.next ?_
          refine Cd.case (p := ¬ (pa1 = pb1 ∧ pa2 = pb2)) (by kernel_rfl) (fun h51 => ?_) (fun h51 => ?_)
          ·
            refine Cd.seq ?_
            refine Cd.region rfl ?_
            refine Sq.vals [0] (rest := []) [bV false] (fun w => by kernel_rfl) ?_
            refine Sq.done ?_
            refine Ex'.next ?_
            refine Cd.ret ?_
            refine Ex'.thenRet ?_
            refine Ex'.ret Try.results4 (RVs.tmp (v := bV false) (by kernel_rfl) (RVs.nil)) (fun w hw => ?_)
            exfalso; omega
          ·
            refine Cd.skip ?_
            refine Ex'.next ?_
            refine Cd.seq ?_
            refine Cd.region rfl ?_
            refine Sq.ex [] (l := []) (o_call (by kernel_rfl) Try.call14 (hp_NewS)) (by kernel_rfl) rfl (by kernel_rfl) (fun _ => Nat.le_of_ble_eq_true (by kernel_rfl)) ?_; rintro b52 _
            refine Sq.vals [1] (rest := []) [pV b52 0] (fun w => by kernel_rfl) ?_
            refine Sq.done ?_
            refine Ex'.next ?_
            refine Cd.seq ?_
            refine Cd.seq ?_
            refine Cd.region rfl ?_
            refine Sq.vals [0, 1] (rest := []) [pV b52 0, bV false] (fun w => by kernel_rfl) ?_
            refine Sq.done ?_
            refine Ex'.next ?_
            refine Cd.condF (by kernel_rfl) ?_
            refine Cd.skip ?_
            refine Ex'.next ?_
            refine Cd.seq ?_
            refine Cd.seq ?_
            refine Cd.region rfl ?_
            refine Sq.vals [0] (rest := []) [iV 0] (fun w => by kernel_rfl) ?_
            refine Sq.done ?_
            refine Ex'.next ?_
            refine Cd.block ?_
            refine Cd.loop (ι := Nat × (List (KR ByteArray)) × Nat) (fun ⟨k, T0, n0⟩ => k ≤ xs.length ∧ n0 ≤ k) (fun ⟨k, T0, n0⟩ => xs.length - k) (fun ⟨k, T0, n0⟩ => [(0, .slice a xs.length cap), (8, bV false), (9, pV b52 0), (10, iV (k : Int))]) (fun ⟨k, T0, n0⟩ => [oldR w0, blkR b1 [iV pa1, iV pa2] 28, blkR b2 [iV pb1, iV pb2] 28, blkR b3 [iV pc1, iV pc2] 28, hpS b52 T0 n0]) (0, [], 0) (⟨Nat.zero_le _, Nat.le_refl _⟩) (subB_eq (l := [0, 8, 9, 10]) (by kernel_rfl)) (fun w hw => hw.pickB [0, 1, 2, 3, 4] (by kernel_rfl) (by kernel_rfl) (by kernel_rfl)) ?_
            rintro ⟨k, T0, n0⟩ hL53
            try dsimp only at hL53 ⊢
            obtain ⟨hk, hn⟩ := hL53
            refine Cd.seq ?_
            refine Cd.seq ?_
            refine Cd.region rfl ?_
            refine Sq.vals [0, 1, 2, 3] (rest := []) [iV (k : Int), .slice a xs.length cap, iV (xs.length : Int), bV (decide ((k : Int) < (xs.length : Int)))] (fun w => by kernel_rfl) ?_
            refine Sq.done ?_
            refine Ex'.next ?_
            refine Cd.case (p := (k : Int) < (xs.length : Int)) (by kernel_rfl) (fun h54 => ?_) (fun h54 => ?_)
            ·
              obtain ⟨g55, off56, rfl⟩ := hs.addr (by omega)
              obtain ⟨kdk, kyk, rok, rtk, hgk, hwk, hrk⟩ := hs.at (k := k) (by omega)
              refine Cd.skip ?_
              refine Ex'.next ?_
              refine Cd.seq ?_
              refine Cd.block ?_
              refine Cd.seq ?_
              refine Cd.plan [0, 0, 0, 6, 14, 30, 0, 0, 192, 448, 960, 2047] [(5, [(0, false, 0)]), (10, [(0, false, 0)]), (11, [(4, true, 0)])] [] [] [(4, 11, fun g => hpS b52 (hset T0 (kyk, rok, rtk)) (n0 + 1))] [fun g => pV b52 0, fun g => .slice (some ⟨g55, off56, none⟩) xs.length cap, fun g => iV (k : Int), fun g => pV g55 (off56 + k * 4), fun g => pV g55 (off56 + k * 4 + 1), fun g => sV kyk, fun g => .slice (some ⟨g55, off56, none⟩) xs.length cap, fun g => iV (k : Int), fun g => pV g55 (off56 + k * 4), fun g => pV g55 (off56 + k * 4 + 2), fun g => .agg #[iV rok, iV rtk], fun g => .tuple #[]] (by kernel_rfl) (by kernel_rfl) rfl (trivial) ?_ ?_
              · exact ⟨ob_val fun g w => by kernel_rfl, ob_val fun g w => by kernel_rfl, ob_val fun g w => by kernel_rfl, ob_v (v := fun g => pV g55 (off56 + k * 4)) (fun g => o_idx (b := g55) (cap := cap) (e := 30) (off := off56) (n := xs.length) (kd := .i64) (q := (k : Int)) (i := k) (size := 4) (j := off56 + k * 4) (by kernel_rfl) (by kernel_rfl) (by rfl) (by omega) Try.underlying22 (by kernel_rfl) (by omega)) (fun g => by kernel_rfl), ob_val fun g w => by kernel_rfl, ob_s (l := fun g => [oldR w0]) (l' := fun g => [oldR w0]) (v := fun g => sV kyk) (fun g => o_loadOld (b := g55) (j := off56 + k * 4 + 1) (u := sV kyk) (by kernel_rfl) (by kernel_rfl) (hrk 1 _ rfl)) (fun g => by kernel_rfl), ob_val fun g w => by kernel_rfl, ob_val fun g w => by kernel_rfl, ob_v (v := fun g => pV g55 (off56 + k * 4)) (fun g => o_idx (b := g55) (cap := cap) (e := 30) (off := off56) (n := xs.length) (kd := .i64) (q := (k : Int)) (i := k) (size := 4) (j := off56 + k * 4) (by kernel_rfl) (by kernel_rfl) (by rfl) (by omega) Try.underlying22 (by kernel_rfl) (by omega)) (fun g => by kernel_rfl), ob_val fun g w => by kernel_rfl, ob_s (l := fun g => [oldR w0]) (l' := fun g => [oldR w0]) (v := fun g => .agg #[iV rok, iV rtk]) (fun g => o_loadOldN (b := g55) (j := off56 + k * 4 + 2) [iV rok, iV rtk] (by kernel_rfl) (by kernel_rfl) (range_sub hrk 2 2)) (fun g => by kernel_rfl), ob_s (l := fun g => [hpS b52 T0 n0]) (l' := fun g => [hpS b52 (hset T0 (kyk, rok, rtk)) (n0 + 1)]) (v := fun g => .tuple #[]) (fun g => o_call (by kernel_rfl) Try.call16 (hp_SetS (S := T0) (n := n0) kyk rok rtk (by omega))) (fun g => by kernel_rfl), trivial⟩
              intro g
              refine Ex'.sub (subB_spec [0, 8, 9, 10]) ?_
              refine Ex'.as [0, 1, 2, 3, 4] (σ' := [(0, .slice (some ⟨g55, off56, none⟩) xs.length cap), (8, bV false), (9, pV b52 0), (10, iV (k : Int))]) (Γ' := [oldR w0, blkR b1 [iV pa1, iV pa2] 28, blkR b2 [iV pb1, iV pb2] 28, blkR b3 [iV pc1, iV pc2] 28, hpS b52 (hset T0 (kyk, rok, rtk)) (n0 + 1)]) (by kernel_rfl) rfl (by kernel_rfl) (by kernel_rfl) ?_
              refine Ex'.next ?_
              refine Cd.seq ?_
              refine Cd.region rfl ?_
              refine Sq.vals [0, 1] (rest := [2, 3, 4, 5]) [.slice (some ⟨g55, off56, none⟩) xs.length cap, iV (k : Int)] (fun w => by kernel_rfl) ?_
              refine Sq.v (r := pV g55 (off56 + k * 4)) (o_idx (b := g55) (cap := cap) (e := 30) (off := off56) (n := xs.length) (kd := .i64) (q := (k : Int)) (i := k) (size := 4) (j := off56 + k * 4) (by kernel_rfl) (by kernel_rfl) (by rfl) (by omega) Try.underlying22 (by kernel_rfl) (by omega)) rfl (by kernel_rfl) ?_
              refine Sq.vals [3] (rest := [4, 5]) [pV g55 (off56 + k * 4)] (fun w => by kernel_rfl) ?_
              refine Sq.same [0] (l := [oldR w0]) (o_loadOld (b := g55) (j := off56 + k * 4) (u := iV kdk) (by kernel_rfl) (by kernel_rfl) (hrk 0 _ rfl)) (by kernel_rfl) rfl (by kernel_rfl) rfl ?_
              refine Sq.v (r := bV (decide (kdk = 1))) (o_eqI (k := .i64) (a := kdk) (b := 1) (by kernel_rfl) (by kernel_rfl)) rfl (by kernel_rfl) ?_
              refine Sq.done ?_
              refine Ex'.next ?_
              refine Cd.case (p := kdk = 1) (by kernel_rfl) (fun h57 => ?_) (fun h57 => ?_)
              ·
                refine Cd.region rfl ?_
                refine Sq.vals [0, 1, 2] (rest := [3, 4, 5, 6]) [pV b52 0, .slice (some ⟨g55, off56, none⟩) xs.length cap, iV (k : Int)] (fun w => by kernel_rfl) ?_
                refine Sq.v (r := pV g55 (off56 + k * 4)) (o_idx (b := g55) (cap := cap) (e := 30) (off := off56) (n := xs.length) (kd := .i64) (q := (k : Int)) (i := k) (size := 4) (j := off56 + k * 4) (by kernel_rfl) (by kernel_rfl) (by rfl) (by omega) Try.underlying22 (by kernel_rfl) (by omega)) rfl (by kernel_rfl) ?_
                refine Sq.vals [4] (rest := [5, 6]) [pV g55 (off56 + k * 4 + 1)] (fun w => by kernel_rfl) ?_
                refine Sq.same [0] (l := [oldR w0]) (o_loadOld (b := g55) (j := off56 + k * 4 + 1) (u := sV kyk) (by kernel_rfl) (by kernel_rfl) (hrk 1 _ rfl)) (by kernel_rfl) rfl (by kernel_rfl) rfl ?_
                refine Sq.same [4] (l := [hpS b52 (hset T0 (kyk, rok, rtk)) (n0 + 1)]) (o_call (by kernel_rfl) Try.call18 (hp_RemoveS (S := hset T0 (kyk, rok, rtk)) (n := n0 + 1) kyk (by omega))) (by kernel_rfl) rfl (by kernel_rfl) rfl ?_
                refine Sq.done ?_
                refine Ex'.blockNormal ?_
                refine Ex'.next ?_
                refine Cd.region rfl ?_
                refine Sq.vals [0] (rest := [1, 2]) [iV (k : Int)] (fun w => by kernel_rfl) ?_
                refine Sq.v (r := iV ((k : Int) + 1)) (o_add (k := .i64) (a := (k : Int)) (b := 1) (c := (k : Int) + 1) (by kernel_rfl) (by kernel_rfl) (w64 rfl (by omega))) rfl (by kernel_rfl) ?_
                refine Sq.vals [2] (rest := []) [iV ((k : Int) + 1)] (fun w => by kernel_rfl) ?_
                refine Sq.done ?_
                refine Ex'.round (g := (k, T0, n0)) (k + 1, hrem (hset T0 (kyk, rok, rtk)) kyk, n0 + 1) ?_ ?_ (subB_eq (l := [0, 8, 9, 10]) (by kernel_rfl)) (fun w hw => hw.pickB [0, 1, 2, 3, 4] (by kernel_rfl) (by kernel_rfl) (by kernel_rfl))
                · (try dsimp only); exact ⟨by omega, by omega⟩
                · omega
              ·
                refine Cd.skip ?_
                refine Ex'.blockNormal ?_
                refine Ex'.next ?_
                refine Cd.region rfl ?_
                refine Sq.vals [0] (rest := [1, 2]) [iV (k : Int)] (fun w => by kernel_rfl) ?_
                refine Sq.v (r := iV ((k : Int) + 1)) (o_add (k := .i64) (a := (k : Int)) (b := 1) (c := (k : Int) + 1) (by kernel_rfl) (by kernel_rfl) (w64 rfl (by omega))) rfl (by kernel_rfl) ?_
                refine Sq.vals [2] (rest := []) [iV ((k : Int) + 1)] (fun w => by kernel_rfl) ?_
                refine Sq.done ?_
                refine Ex'.round (g := (k, T0, n0)) (k + 1, hset T0 (kyk, rok, rtk), n0 + 1) ?_ ?_ (subB_eq (l := [0, 8, 9, 10]) (by kernel_rfl)) (fun w hw => hw.pickB [0, 1, 2, 3, 4] (by kernel_rfl) (by kernel_rfl) (by kernel_rfl))
                · (try dsimp only); exact ⟨by omega, by omega⟩
                · omega
            ·
              refine Cd.fact (i := 4) rfl hpS.srt ?_; rintro ⟨hnd, hle, hsd⟩
              refine Cd.exit ?_
              refine Ex'.thenExit ?_
              refine Ex'.thenExit ?_
              refine Ex'.blockHit ?_
              refine Ex'.next ?_
              refine Cd.seq ?_
              refine Cd.region rfl ?_
              refine Sq.vals [0] (rest := [1, 2]) [pV b52 0] (fun w => by kernel_rfl) ?_
              refine Sq.ex [4] (l := [hpS b52 T0 n0]) (o_call (by kernel_rfl) Try.call24 (hp_OrderS (S := T0) (n := n0) (by omega))) (by kernel_rfl) rfl (by kernel_rfl) (fun _ => Nat.le_of_ble_eq_true (by kernel_rfl)) ?_; rintro v58 _
              refine Sq.fact (i := 5) (R := rowR 9 1 v58 ((T0.map (·.1)).length) ((T0.map (·.1)).map Value.string)) (by kernel_rfl) row_slice ?_; rintro ⟨a59, c60, rfl, hc60, hc60'⟩
              have hc60'' : c60 ≤ 9223372036854775807 := hc60'
              refine Sq.vals [2] (rest := []) [.slice a59 ((T0.map (·.1)).length) c60] (fun w => by kernel_rfl) ?_
              refine Sq.done ?_
              refine Ex'.next ?_
              refine Cd.seq ?_
              refine Cd.region rfl ?_
              refine Sq.ex [] (l := []) (o_newMap Value.string Value.bool) (by kernel_rfl) rfl (by kernel_rfl) (fun _ => Nat.zero_le _) ?_; intro b61 _
              refine Sq.vals [1] (rest := []) [.map (some b61)] (fun w => by kernel_rfl) ?_
              refine Sq.done ?_
              refine Ex'.next ?_
              refine Cd.seq ?_
              refine Cd.region rfl ?_
              refine Sq.ex [] (l := []) (o_new [iV 0, iV 0] (fun w => by kernel_rfl)) (by kernel_rfl) rfl (by kernel_rfl) (fun _ => Nat.zero_le _) ?_; intro b62 _
              refine Sq.done ?_
              refine Ex'.next ?_
              refine Cd.seq ?_
              refine Cd.seq ?_
              refine Cd.region rfl ?_
              refine Sq.vals [0] (rest := []) [iV 0] (fun w => by kernel_rfl) ?_
              refine Sq.done ?_
              refine Ex'.next ?_
              refine Cd.block ?_
              refine Cd.loop (ι := Nat × (List (ByteArray × Bool)) × Int × Int) (fun ⟨j, sn, la, lb⟩ => PopI T0 sn la lb j) (fun ⟨j, sn, la, lb⟩ => (T0.map (·.1)).length - j) (fun ⟨j, sn, la, lb⟩ => [(9, pV b52 0), (11, .slice a59 ((T0.map (·.1)).length) c60), (12, .map (some b61)), (13, pV b62 0), (14, iV (j : Int))]) (fun ⟨j, sn, la, lb⟩ => [oldR w0, blkR b1 [iV pa1, iV pa2] 28, blkR b2 [iV pb1, iV pb2] 28, blkR b3 [iV pc1, iV pc2] 28, hpS b52 (T0.drop j) n0, rowR 9 1 (.slice a59 ((T0.map (·.1)).length) c60) ((T0.map (·.1)).length) ((T0.map (·.1)).map Value.string), mapR Value.string Value.bool b61 sn, blkR b62 [iV la, iV lb] 28]) (0, [], 0, 0) (PopI.new) (subB_eq (l := [9, 11, 12, 13, 14]) (by kernel_rfl)) (fun w hw => (hw.conv 4 (R := hpS b52 T0 n0) (R' := hpS b52 (T0.drop 0) n0) (by kernel_rfl) (fun w T q => q)).pickB [0, 1, 2, 3, 4, 5, 6, 7] (by kernel_rfl) (by kernel_rfl) (by kernel_rfl)) ?_
              rintro ⟨j, sn, la, lb⟩ hL63
              try dsimp only at hL63 ⊢
              have hP := hL63
              have hj := hP.le
              refine Cd.seq ?_
              refine Cd.seq ?_
              refine Cd.region rfl ?_
              refine Sq.vals [0, 1, 2, 3] (rest := []) [iV (j : Int), .slice a59 ((T0.map (·.1)).length) c60, iV ((T0.map (·.1)).length : Int), bV (decide ((j : Int) < ((T0.map (·.1)).length : Int)))] (fun w => by kernel_rfl) ?_
              refine Sq.done ?_
              refine Ex'.next ?_
              refine Cd.case (p := (j : Int) < ((T0.map (·.1)).length : Int)) (by kernel_rfl) (fun h64 => ?_) (fun h64 => ?_)
              ·
                obtain ⟨kj, aj, bj, hS1, hS2, hS3⟩ := drop_kr (S := T0) (j := j) (by omega)
                refine Cd.res 4 (R := hpS b52 (T0.drop j) n0) (R' := hpS b52 ((kj, aj, bj) :: T0.drop (j + 1)) n0) (by kernel_rfl) (fun w T q => by rw [← hS1]; exact q) ?_
                have hlk : lk ((kj, aj, bj) :: T0.drop (j + 1)) ((T0.map (·.1)).getD j ⟨#[]⟩) = some (aj, bj) := by rw [hS2]; simp [lk]
                have hlk2 : (lk ((kj, aj, bj) :: T0.drop (j + 1)) ((T0.map (·.1)).getD j ⟨#[]⟩)).getD (0, 0) = (aj, bj) := by rw [hlk]; rfl
                have hfr := hP.fresh hnd hS3
                refine Cd.fact (i := 5) (R := rowR 9 1 (.slice a59 ((T0.map (·.1)).length) c60) ((T0.map (·.1)).length) ((T0.map (·.1)).map Value.string)) (by kernel_rfl) (row_addr (by omega)) ?_; rintro ⟨b65, rfl⟩
                refine Cd.skip ?_
                refine Ex'.next ?_
                refine Cd.seq ?_
                refine Cd.block ?_
                refine Cd.seq ?_
                refine Cd.region rfl ?_
                refine Sq.vals [0, 1, 2] (rest := [3, 4, 5, 6, 7, 8, 9, 10, 11]) [pV b52 0, .slice (some ⟨b65, 0, none⟩) ((T0.map (·.1)).length) c60, iV (j : Int)] (fun w => by kernel_rfl) ?_
                refine Sq.v (r := pV b65 j) (o_idx (b := b65) (cap := c60) (e := 9) (off := 0) (n := (T0.map (·.1)).length) (kd := .i64) (q := (j : Int)) (i := j) (size := 1) (j := j) (by kernel_rfl) (by kernel_rfl) (by rfl) (by omega) Try.underlying47 (by kernel_rfl) (by omega)) rfl (by kernel_rfl) ?_
                refine Sq.same [5] (l := [rowR 9 1 (.slice (some ⟨b65, 0, none⟩) ((T0.map (·.1)).length) c60) ((T0.map (·.1)).length) ((T0.map (·.1)).map Value.string)]) (o_loadRow (i := j) (u := sV ((T0.map (·.1)).getD j ⟨#[]⟩)) (by kernel_rfl) (by omega) (by kernel_rfl) (get_map (by omega))) (by kernel_rfl) rfl (by kernel_rfl) rfl ?_
                refine Sq.same [4] (l := [hpS b52 ((kj, aj, bj) :: T0.drop (j + 1)) n0]) (o_call (by kernel_rfl) Try.call21 (hp_RankS (S := (kj, aj, bj) :: T0.drop (j + 1)) (n := n0) ((T0.map (·.1)).getD j ⟨#[]⟩) (by omega))) (by kernel_rfl) rfl (by kernel_rfl) rfl ?_
                refine Sq.vals [6, 7, 8] (rest := [9, 10, 11]) [.tuple #[.agg #[iV (((lk ((kj, aj, bj) :: T0.drop (j + 1)) ((T0.map (·.1)).getD j ⟨#[]⟩)).getD (0, 0)).1), iV (((lk ((kj, aj, bj) :: T0.drop (j + 1)) ((T0.map (·.1)).getD j ⟨#[]⟩)).getD (0, 0)).2)], bV ((lk ((kj, aj, bj) :: T0.drop (j + 1)) ((T0.map (·.1)).getD j ⟨#[]⟩)).isSome)], .agg #[iV (((lk ((kj, aj, bj) :: T0.drop (j + 1)) ((T0.map (·.1)).getD j ⟨#[]⟩)).getD (0, 0)).1), iV (((lk ((kj, aj, bj) :: T0.drop (j + 1)) ((T0.map (·.1)).getD j ⟨#[]⟩)).getD (0, 0)).2)], bV ((lk ((kj, aj, bj) :: T0.drop (j + 1)) ((T0.map (·.1)).getD j ⟨#[]⟩)).isSome)] (fun w => by kernel_rfl) ?_
                refine Sq.ex [] (l := []) (o_new [iV 0, iV 0] (fun w => by kernel_rfl)) (by kernel_rfl) rfl (by kernel_rfl) (fun _ => Nat.zero_le _) ?_; intro b66 _
                refine Sq.same [8] (l := [blkR b66 [iV 0, iV 0] 28]) (o_store (i := 0) (v := .agg #[iV (((lk ((kj, aj, bj) :: T0.drop (j + 1)) ((T0.map (·.1)).getD j ⟨#[]⟩)).getD (0, 0)).1), iV (((lk ((kj, aj, bj) :: T0.drop (j + 1)) ((T0.map (·.1)).getD j ⟨#[]⟩)).getD (0, 0)).2)]) (by kernel_rfl) (by kernel_rfl) (by kernel_rfl) (by kernel_rfl) (by kernel_rfl)) (by kernel_rfl) rfl (by kernel_rfl) rfl ?_
                refine Sq.vals [11] (rest := []) [bV ((lk ((kj, aj, bj) :: T0.drop (j + 1)) ((T0.map (·.1)).getD j ⟨#[]⟩)).isSome)] (fun w => by kernel_rfl) ?_
                refine Sq.done ?_
                refine Ex'.next ?_
                refine Cd.seq ?_
                refine Cd.region rfl ?_
                refine Sq.vals [0] (rest := [1, 2, 3, 4, 5, 6]) [pV b52 0] (fun w => by kernel_rfl) ?_
                refine Sq.same [4] (l := [hpS b52 ((kj, aj, bj) :: T0.drop (j + 1)) n0]) (o_call (by kernel_rfl) Try.call20 (hp_PopS (S := (kj, aj, bj) :: T0.drop (j + 1)) (n := n0) (by omega))) (by kernel_rfl) rfl (by kernel_rfl) rfl ?_
                refine Sq.vals [2, 3, 4, 5, 6] (rest := []) [.tuple #[sV ((htop (⟨#[]⟩, 0, 0) ((kj, aj, bj) :: T0.drop (j + 1))).1), bV (decide (0 < ((kj, aj, bj) :: T0.drop (j + 1)).length))], sV ((htop (⟨#[]⟩, 0, 0) ((kj, aj, bj) :: T0.drop (j + 1))).1), bV (decide (0 < ((kj, aj, bj) :: T0.drop (j + 1)).length)), sV ((htop (⟨#[]⟩, 0, 0) ((kj, aj, bj) :: T0.drop (j + 1))).1), bV (decide (0 < ((kj, aj, bj) :: T0.drop (j + 1)).length))] (fun w => by kernel_rfl) ?_
                refine Sq.done ?_
                refine Ex'.next ?_
                refine Cd.seq ?_
                refine Cd.seq ?_
                refine Cd.region rfl ?_
                refine Sq.vals [0, 1, 2] (rest := [3, 4, 5, 6, 7, 8, 9, 10, 11, 12, 13, 14, 15, 16, 17, 18, 19, 20, 21, 22, 23, 24, 25, 26, 27]) [bV ((lk ((kj, aj, bj) :: T0.drop (j + 1)) ((T0.map (·.1)).getD j ⟨#[]⟩)).isSome), bV (!((lk ((kj, aj, bj) :: T0.drop (j + 1)) ((T0.map (·.1)).getD j ⟨#[]⟩)).isSome)), bV (!((lk ((kj, aj, bj) :: T0.drop (j + 1)) ((T0.map (·.1)).getD j ⟨#[]⟩)).isSome))] (fun w => by kernel_rfl) ?_
                refine Sq.re 131 rfl (congrArg Value.bool (show (!((lk ((kj, aj, bj) :: T0.drop (j + 1)) ((T0.map (·.1)).getD j ⟨#[]⟩)).isSome)) = false from (by rw [hlk]; rfl))) ?_
                refine Sq.vals [3] (rest := [4, 5, 6, 7, 8, 9, 10, 11, 12, 13, 14, 15, 16, 17, 18, 19, 20, 21, 22, 23, 24, 25, 26, 27]) [bV (decide (0 < ((kj, aj, bj) :: T0.drop (j + 1)).length))] (fun w => by kernel_rfl) ?_
                refine Sq.v (r := bV (decide (¬ (0 < ((kj, aj, bj) :: T0.drop (j + 1)).length)))) (o_not (by kernel_rfl)) rfl (by kernel_rfl) ?_
                refine Sq.vals [5, 6] (rest := [7, 8, 9, 10, 11, 12, 13, 14, 15, 16, 17, 18, 19, 20, 21, 22, 23, 24, 25, 26, 27]) [bV (decide (¬ (0 < ((kj, aj, bj) :: T0.drop (j + 1)).length))), bV (decide (¬ (0 < ((kj, aj, bj) :: T0.drop (j + 1)).length)))] (fun w => by kernel_rfl) ?_
                refine Sq.re 135 rfl (vF (fun z => z (by simp))) ?_
                refine Sq.vals [7, 8, 9] (rest := [10, 11, 12, 13, 14, 15, 16, 17, 18, 19, 20, 21, 22, 23, 24, 25, 26, 27]) [sV ((htop (⟨#[]⟩, 0, 0) ((kj, aj, bj) :: T0.drop (j + 1))).1), .slice (some ⟨b65, 0, none⟩) ((T0.map (·.1)).length) c60, iV (j : Int)] (fun w => by kernel_rfl) ?_
                refine Sq.v (r := pV b65 j) (o_idx (b := b65) (cap := c60) (e := 9) (off := 0) (n := (T0.map (·.1)).length) (kd := .i64) (q := (j : Int)) (i := j) (size := 1) (j := j) (by kernel_rfl) (by kernel_rfl) (by rfl) (by omega) Try.underlying47 (by kernel_rfl) (by omega)) rfl (by kernel_rfl) ?_
                refine Sq.same [5] (l := [rowR 9 1 (.slice (some ⟨b65, 0, none⟩) ((T0.map (·.1)).length) c60) ((T0.map (·.1)).length) ((T0.map (·.1)).map Value.string)]) (o_loadRow (i := j) (u := sV ((T0.map (·.1)).getD j ⟨#[]⟩)) (by kernel_rfl) (by omega) (by kernel_rfl) (get_map (by omega))) (by kernel_rfl) rfl (by kernel_rfl) rfl ?_
                refine Sq.v (r := bV (decide ((htop (⟨#[]⟩, 0, 0) ((kj, aj, bj) :: T0.drop (j + 1))).1 ≠ (T0.map (·.1)).getD j ⟨#[]⟩))) (o_neS (a := (htop (⟨#[]⟩, 0, 0) ((kj, aj, bj) :: T0.drop (j + 1))).1) (b := (T0.map (·.1)).getD j ⟨#[]⟩) (by kernel_rfl) (by kernel_rfl)) rfl (by kernel_rfl) ?_
                refine Sq.re 141 rfl (vF (fun z => z hS2.symm)) ?_
                refine Sq.vals [13, 14, 15, 16] (rest := [17, 18, 19, 20, 21, 22, 23, 24, 25, 26, 27]) [bV false, bV false, .map (some b61), sV ((htop (⟨#[]⟩, 0, 0) ((kj, aj, bj) :: T0.drop (j + 1))).1)] (fun w => by kernel_rfl) ?_
                refine Sq.same [6] (l := [mapR Value.string Value.bool b61 sn]) (o_look (fv := Value.bool) (l := sn) false ((htop (⟨#[]⟩, 0, 0) ((kj, aj, bj) :: T0.drop (j + 1))).1) (by kernel_rfl) (by kernel_rfl) (strKey Try.underlying9) Try.underlying51 (fun w => by kernel_rfl)) (by kernel_rfl) rfl (by kernel_rfl) rfl ?_
                refine Sq.vals [18, 19] (rest := [20, 21, 22, 23, 24, 25, 26, 27]) [bV ((lk sn ((htop (⟨#[]⟩, 0, 0) ((kj, aj, bj) :: T0.drop (j + 1))).1)).getD false), bV ((lk sn ((htop (⟨#[]⟩, 0, 0) ((kj, aj, bj) :: T0.drop (j + 1))).1)).getD false)] (fun w => by kernel_rfl) ?_
                refine Sq.re 148 rfl (congrArg Value.bool (show ((lk sn ((htop (⟨#[]⟩, 0, 0) ((kj, aj, bj) :: T0.drop (j + 1))).1)).getD false) = false from hfr)) ?_
                refine Sq.vals [20, 21, 22] (rest := [23, 24, 25, 26, 27]) [iV (j : Int), bV (decide ((j : Int) > 0)), bV (decide ((j : Int) > 0))] (fun w => by kernel_rfl) ?_
                refine Sq.case 151 (p := (j : Int) > 0) rfl (fun h70 => ?_) (fun h70 => ?_)
                ·
                  have hns := hP.less hsd hS3 (by omega)
                  refine Sq.same [8] (l := [blkR b66 [iV (((lk ((kj, aj, bj) :: T0.drop (j + 1)) ((T0.map (·.1)).getD j ⟨#[]⟩)).getD (0, 0)).1), iV (((lk ((kj, aj, bj) :: T0.drop (j + 1)) ((T0.map (·.1)).getD j ⟨#[]⟩)).getD (0, 0)).2)] 28]) (o_loadN (i := 0) [iV (((lk ((kj, aj, bj) :: T0.drop (j + 1)) ((T0.map (·.1)).getD j ⟨#[]⟩)).getD (0, 0)).1), iV (((lk ((kj, aj, bj) :: T0.drop (j + 1)) ((T0.map (·.1)).getD j ⟨#[]⟩)).getD (0, 0)).2)] (by kernel_rfl) (by kernel_rfl) (by kernel_rfl)) (by kernel_rfl) rfl (by kernel_rfl) rfl ?_
                  refine Sq.same [7] (l := [blkR b62 [iV la, iV lb] 28]) (o_loadN (i := 0) [iV la, iV lb] (by kernel_rfl) (by kernel_rfl) (by kernel_rfl)) (by kernel_rfl) rfl (by kernel_rfl) rfl ?_
                  refine Sq.same [] (l := []) (o_call (by kernel_rfl) Try.call25 ((heap_Less (p0 := ((lk ((kj, aj, bj) :: T0.drop (j + 1)) ((T0.map (·.1)).getD j ⟨#[]⟩)).getD (0, 0)).1) (p1 := ((lk ((kj, aj, bj) :: T0.drop (j + 1)) ((T0.map (·.1)).getD j ⟨#[]⟩)).getD (0, 0)).2) (q0 := la) (q1 := lb)).re (vF (by rw [hlk2]; exact hns)))) (by kernel_rfl) rfl (by kernel_rfl) rfl ?_
                  refine Sq.vals [26, 27] (rest := []) [bV false, bV false] (fun w => by kernel_rfl) ?_
                  refine Sq.done ?_
                  refine Ex'.next ?_
                  refine Cd.condF (by kernel_rfl) ?_
                  refine Cd.skip ?_
                  refine Ex'.next ?_
                  refine Cd.seq ?_
                  refine Cd.region rfl ?_
                  refine Sq.vals [0, 1] (rest := [2]) [.map (some b61), sV ((htop (⟨#[]⟩, 0, 0) ((kj, aj, bj) :: T0.drop (j + 1))).1)] (fun w => by kernel_rfl) ?_
                  refine Sq.same [6] (l := [mapR Value.string Value.bool b61 sn]) (o_mapUpdate ((htop (⟨#[]⟩, 0, 0) ((kj, aj, bj) :: T0.drop (j + 1))).1) true (by kernel_rfl) (by kernel_rfl) (by kernel_rfl) (strKey Try.underlying9) Try.underlying51) (by kernel_rfl) rfl (by kernel_rfl) rfl ?_
                  refine Sq.done ?_
                  refine Ex'.next ?_
                  refine Cd.region rfl ?_
                  refine Sq.same [8] (l := [blkR b66 [iV (((lk ((kj, aj, bj) :: T0.drop (j + 1)) ((T0.map (·.1)).getD j ⟨#[]⟩)).getD (0, 0)).1), iV (((lk ((kj, aj, bj) :: T0.drop (j + 1)) ((T0.map (·.1)).getD j ⟨#[]⟩)).getD (0, 0)).2)] 28]) (o_loadN (i := 0) [iV (((lk ((kj, aj, bj) :: T0.drop (j + 1)) ((T0.map (·.1)).getD j ⟨#[]⟩)).getD (0, 0)).1), iV (((lk ((kj, aj, bj) :: T0.drop (j + 1)) ((T0.map (·.1)).getD j ⟨#[]⟩)).getD (0, 0)).2)] (by kernel_rfl) (by kernel_rfl) (by kernel_rfl)) (by kernel_rfl) rfl (by kernel_rfl) rfl ?_
                  refine Sq.same [7] (l := [blkR b62 [iV la, iV lb] 28]) (o_store (i := 0) (v := .agg #[iV (((lk ((kj, aj, bj) :: T0.drop (j + 1)) ((T0.map (·.1)).getD j ⟨#[]⟩)).getD (0, 0)).1), iV (((lk ((kj, aj, bj) :: T0.drop (j + 1)) ((T0.map (·.1)).getD j ⟨#[]⟩)).getD (0, 0)).2)]) (by kernel_rfl) (by kernel_rfl) (by kernel_rfl) (by kernel_rfl) (by kernel_rfl)) (by kernel_rfl) rfl (by kernel_rfl) rfl ?_
                  refine Sq.done ?_
                  refine Ex'.blockNormal ?_
                  refine Ex'.next ?_
                  refine Cd.region rfl ?_
                  refine Sq.vals [0] (rest := [1, 2]) [iV (j : Int)] (fun w => by kernel_rfl) ?_
                  refine Sq.v (r := iV ((j : Int) + 1)) (o_add (k := .i64) (a := (j : Int)) (b := 1) (c := (j : Int) + 1) (by kernel_rfl) (by kernel_rfl) (w64 rfl (by omega))) rfl (by kernel_rfl) ?_
                  refine Sq.vals [2] (rest := []) [iV ((j : Int) + 1)] (fun w => by kernel_rfl) ?_
                  refine Sq.done ?_
                  refine Ex'.round (g := (j, sn, la, lb)) (j + 1, put sn ((htop (⟨#[]⟩, 0, 0) ((kj, aj, bj) :: T0.drop (j + 1))).1) true, ((lk ((kj, aj, bj) :: T0.drop (j + 1)) ((T0.map (·.1)).getD j ⟨#[]⟩)).getD (0, 0)).1, ((lk ((kj, aj, bj) :: T0.drop (j + 1)) ((T0.map (·.1)).getD j ⟨#[]⟩)).getD (0, 0)).2) ?_ ?_ (subB_eq (l := [9, 11, 12, 13, 14]) (by kernel_rfl)) (fun w hw => (hw.conv 4 (R := hpS b52 (((kj, aj, bj) :: T0.drop (j + 1)).tail) n0) (R' := hpS b52 (T0.drop (j + 1)) n0) (by kernel_rfl) (fun w T q => q)).pickB [0, 1, 2, 3, 4, 5, 6, 7] (by kernel_rfl) (by kernel_rfl) (by kernel_rfl))
                  · (try dsimp only); exact (by rw [hlk2]; exact hP.step hS3)
                  · omega
                ·
                  refine Sq.vals [23, 24, 25, 26, 27] (rest := []) [undef, undef, undef, bV false, bV false] (fun w => by kernel_rfl) ?_
                  refine Sq.done ?_
                  refine Ex'.next ?_
                  refine Cd.condF (by kernel_rfl) ?_
                  refine Cd.skip ?_
                  refine Ex'.next ?_
                  refine Cd.seq ?_
                  refine Cd.region rfl ?_
                  refine Sq.vals [0, 1] (rest := [2]) [.map (some b61), sV ((htop (⟨#[]⟩, 0, 0) ((kj, aj, bj) :: T0.drop (j + 1))).1)] (fun w => by kernel_rfl) ?_
                  refine Sq.same [6] (l := [mapR Value.string Value.bool b61 sn]) (o_mapUpdate ((htop (⟨#[]⟩, 0, 0) ((kj, aj, bj) :: T0.drop (j + 1))).1) true (by kernel_rfl) (by kernel_rfl) (by kernel_rfl) (strKey Try.underlying9) Try.underlying51) (by kernel_rfl) rfl (by kernel_rfl) rfl ?_
                  refine Sq.done ?_
                  refine Ex'.next ?_
                  refine Cd.region rfl ?_
                  refine Sq.same [8] (l := [blkR b66 [iV (((lk ((kj, aj, bj) :: T0.drop (j + 1)) ((T0.map (·.1)).getD j ⟨#[]⟩)).getD (0, 0)).1), iV (((lk ((kj, aj, bj) :: T0.drop (j + 1)) ((T0.map (·.1)).getD j ⟨#[]⟩)).getD (0, 0)).2)] 28]) (o_loadN (i := 0) [iV (((lk ((kj, aj, bj) :: T0.drop (j + 1)) ((T0.map (·.1)).getD j ⟨#[]⟩)).getD (0, 0)).1), iV (((lk ((kj, aj, bj) :: T0.drop (j + 1)) ((T0.map (·.1)).getD j ⟨#[]⟩)).getD (0, 0)).2)] (by kernel_rfl) (by kernel_rfl) (by kernel_rfl)) (by kernel_rfl) rfl (by kernel_rfl) rfl ?_
                  refine Sq.same [7] (l := [blkR b62 [iV la, iV lb] 28]) (o_store (i := 0) (v := .agg #[iV (((lk ((kj, aj, bj) :: T0.drop (j + 1)) ((T0.map (·.1)).getD j ⟨#[]⟩)).getD (0, 0)).1), iV (((lk ((kj, aj, bj) :: T0.drop (j + 1)) ((T0.map (·.1)).getD j ⟨#[]⟩)).getD (0, 0)).2)]) (by kernel_rfl) (by kernel_rfl) (by kernel_rfl) (by kernel_rfl) (by kernel_rfl)) (by kernel_rfl) rfl (by kernel_rfl) rfl ?_
                  refine Sq.done ?_
                  refine Ex'.blockNormal ?_
                  refine Ex'.next ?_
                  refine Cd.region rfl ?_
                  refine Sq.vals [0] (rest := [1, 2]) [iV (j : Int)] (fun w => by kernel_rfl) ?_
                  refine Sq.v (r := iV ((j : Int) + 1)) (o_add (k := .i64) (a := (j : Int)) (b := 1) (c := (j : Int) + 1) (by kernel_rfl) (by kernel_rfl) (w64 rfl (by omega))) rfl (by kernel_rfl) ?_
                  refine Sq.vals [2] (rest := []) [iV ((j : Int) + 1)] (fun w => by kernel_rfl) ?_
                  refine Sq.done ?_
                  refine Ex'.round (g := (j, sn, la, lb)) (j + 1, put sn ((htop (⟨#[]⟩, 0, 0) ((kj, aj, bj) :: T0.drop (j + 1))).1) true, ((lk ((kj, aj, bj) :: T0.drop (j + 1)) ((T0.map (·.1)).getD j ⟨#[]⟩)).getD (0, 0)).1, ((lk ((kj, aj, bj) :: T0.drop (j + 1)) ((T0.map (·.1)).getD j ⟨#[]⟩)).getD (0, 0)).2) ?_ ?_ (subB_eq (l := [9, 11, 12, 13, 14]) (by kernel_rfl)) (fun w hw => (hw.conv 4 (R := hpS b52 (((kj, aj, bj) :: T0.drop (j + 1)).tail) n0) (R' := hpS b52 (T0.drop (j + 1)) n0) (by kernel_rfl) (fun w T q => q)).pickB [0, 1, 2, 3, 4, 5, 6, 7] (by kernel_rfl) (by kernel_rfl) (by kernel_rfl))
                  · (try dsimp only); exact (by rw [hlk2]; exact hP.step hS3)
                  · omega
              ·
                have hdr : T0.drop j = [] := List.drop_eq_nil_of_le (by have : (T0.map (·.1)).length = T0.length := List.length_map _; omega)
                refine Cd.exit ?_
                refine Ex'.thenExit ?_
                refine Ex'.thenExit ?_
                refine Ex'.blockHit ?_
                refine Ex'.next ?_
                refine Cd.seq ?_
                refine Cd.region rfl ?_
                refine Sq.vals [0] (rest := [1, 2, 3, 4, 5, 6]) [pV b52 0] (fun w => by kernel_rfl) ?_
                refine Sq.same [4] (l := [hpS b52 (T0.drop j) n0]) (o_call (by kernel_rfl) Try.call20 (hp_PopS (S := T0.drop j) (n := n0) (by omega))) (by kernel_rfl) rfl (by kernel_rfl) rfl ?_
                refine Sq.vals [2, 3, 4, 5, 6] (rest := []) [.tuple #[sV ((htop (⟨#[]⟩, 0, 0) (T0.drop j)).1), bV (decide (0 < (T0.drop j).length))], sV ((htop (⟨#[]⟩, 0, 0) (T0.drop j)).1), bV (decide (0 < (T0.drop j).length)), sV ((htop (⟨#[]⟩, 0, 0) (T0.drop j)).1), bV (decide (0 < (T0.drop j).length))] (fun w => by kernel_rfl) ?_
                refine Sq.done ?_
                refine Ex'.next ?_
                refine Cd.seq ?_
                refine Cd.region rfl ?_
                refine Sq.vals [0] (rest := [1, 2, 3, 4, 5, 6, 7]) [bV (decide (0 < (T0.drop j).length))] (fun w => by kernel_rfl) ?_
                refine Sq.v (r := bV (decide (¬ (0 < (T0.drop j).length)))) (o_not (by kernel_rfl)) rfl (by kernel_rfl) ?_
                refine Sq.vals [2] (rest := [3, 4, 5, 6, 7]) [bV (decide (¬ (0 < (T0.drop j).length)))] (fun w => by kernel_rfl) ?_
                refine Sq.re 167 rfl (vT (by rw [hdr]; simp)) ?_
                refine Sq.vals [3] (rest := [4, 5, 6, 7]) [pV b52 0] (fun w => by kernel_rfl) ?_
                refine Sq.same [4] (l := [hpS b52 ((T0.drop j).tail) n0]) (o_call (by kernel_rfl) Try.call23 (hp_LenS (S := (T0.drop j).tail) (n := n0) (by omega))) (by kernel_rfl) rfl (by kernel_rfl) rfl ?_
                refine Sq.v (r := bV (decide ((((T0.drop j).tail).length : Int) = 0))) (o_eqI (k := .i64) (a := (((T0.drop j).tail).length : Int)) (b := 0) (by kernel_rfl) (by kernel_rfl)) rfl (by kernel_rfl) ?_
                refine Sq.re 170 rfl (vT (by rw [hdr]; rfl)) ?_
                refine Sq.vals [6, 7] (rest := []) [bV true, bV true] (fun w => by kernel_rfl) ?_
                refine Sq.done ?_
                refine Ex'.next ?_
                refine Cd.ret ?_
                refine Ex'.ret Try.results4 (RVs.tmp (v := bV true) (by kernel_rfl) (RVs.nil)) (fun w hw => ?_)
                exact ⟨_, ⟨rfl, by kernel_rfl⟩, hw⟩
        ·
          refine Sq.vals [41, 42, 43, 44, 45] (rest := []) [undef, undef, undef, bV false, bV false] (fun w => by kernel_rfl) ?_
          refine Sq.done ?_
          refine Ex'.next ?_
          refine Cd.condF (by kernel_rfl) ?_
          refine Cd.skip ?_
          refine Ex'.next ?_
          refine Cd.seq ?_
          refine Cd.region rfl ?_
          refine Sq.ex [] (l := []) (o_call (by kernel_rfl) Try.call14 (hp_NewS)) (by kernel_rfl) rfl (by kernel_rfl) (fun _ => Nat.le_of_ble_eq_true (by kernel_rfl)) ?_; rintro b72 _
          refine Sq.vals [1] (rest := []) [pV b72 0] (fun w => by kernel_rfl) ?_
          refine Sq.done ?_
          refine Ex'.next ?_
          refine Cd.seq ?_
          refine Cd.seq ?_
          refine Cd.region rfl ?_
          refine Sq.vals [0, 1] (rest := []) [pV b72 0, bV false] (fun w => by kernel_rfl) ?_
          refine Sq.done ?_
          refine Ex'.next ?_
          refine Cd.condF (by kernel_rfl) ?_
          refine Cd.skip ?_
          refine Ex'.next ?_
          refine Cd.seq ?_
          refine Cd.seq ?_
          refine Cd.region rfl ?_
          refine Sq.vals [0] (rest := []) [iV 0] (fun w => by kernel_rfl) ?_
          refine Sq.done ?_
          refine Ex'.next ?_
          refine Cd.block ?_
          refine Cd.loop (ι := Nat × (List (KR ByteArray)) × Nat) (fun ⟨k, T0, n0⟩ => k ≤ xs.length ∧ n0 ≤ k) (fun ⟨k, T0, n0⟩ => xs.length - k) (fun ⟨k, T0, n0⟩ => [(0, .slice a xs.length cap), (8, bV false), (9, pV b72 0), (10, iV (k : Int))]) (fun ⟨k, T0, n0⟩ => [oldR w0, blkR b1 [iV pa1, iV pa2] 28, blkR b2 [iV pb1, iV pb2] 28, blkR b3 [iV pc1, iV pc2] 28, hpS b72 T0 n0]) (0, [], 0) (⟨Nat.zero_le _, Nat.le_refl _⟩) (subB_eq (l := [0, 8, 9, 10]) (by kernel_rfl)) (fun w hw => hw.pickB [0, 1, 2, 3, 4] (by kernel_rfl) (by kernel_rfl) (by kernel_rfl)) ?_
          rintro ⟨k, T0, n0⟩ hL73
          try dsimp only at hL73 ⊢
          obtain ⟨hk, hn⟩ := hL73
          refine Cd.seq ?_
          refine Cd.seq ?_
          refine Cd.region rfl ?_
          refine Sq.vals [0, 1, 2, 3] (rest := []) [iV (k : Int), .slice a xs.length cap, iV (xs.length : Int), bV (decide ((k : Int) < (xs.length : Int)))] (fun w => by kernel_rfl) ?_
          refine Sq.done ?_
          refine Ex'.next ?_
          refine Cd.case (p := (k : Int) < (xs.length : Int)) (by kernel_rfl) (fun h74 => ?_) (fun h74 => ?_)
          ·
            obtain ⟨g75, off76, rfl⟩ := hs.addr (by omega)
            obtain ⟨kdk, kyk, rok, rtk, hgk, hwk, hrk⟩ := hs.at (k := k) (by omega)
            refine Cd.skip ?_
            refine Ex'.next ?_
            refine Cd.seq ?_
            refine Cd.block ?_
            refine Cd.seq ?_
            refine Cd.plan [0, 0, 0, 6, 14, 30, 0, 0, 192, 448, 960, 2047] [(5, [(0, false, 0)]), (10, [(0, false, 0)]), (11, [(4, true, 0)])] [] [] [(4, 11, fun g => hpS b72 (hset T0 (kyk, rok, rtk)) (n0 + 1))] [fun g => pV b72 0, fun g => .slice (some ⟨g75, off76, none⟩) xs.length cap, fun g => iV (k : Int), fun g => pV g75 (off76 + k * 4), fun g => pV g75 (off76 + k * 4 + 1), fun g => sV kyk, fun g => .slice (some ⟨g75, off76, none⟩) xs.length cap, fun g => iV (k : Int), fun g => pV g75 (off76 + k * 4), fun g => pV g75 (off76 + k * 4 + 2), fun g => .agg #[iV rok, iV rtk], fun g => .tuple #[]] (by kernel_rfl) (by kernel_rfl) rfl (trivial) ?_ ?_
            · exact ⟨ob_val fun g w => by kernel_rfl, ob_val fun g w => by kernel_rfl, ob_val fun g w => by kernel_rfl, ob_v (v := fun g => pV g75 (off76 + k * 4)) (fun g => o_idx (b := g75) (cap := cap) (e := 30) (off := off76) (n := xs.length) (kd := .i64) (q := (k : Int)) (i := k) (size := 4) (j := off76 + k * 4) (by kernel_rfl) (by kernel_rfl) (by rfl) (by omega) Try.underlying22 (by kernel_rfl) (by omega)) (fun g => by kernel_rfl), ob_val fun g w => by kernel_rfl, ob_s (l := fun g => [oldR w0]) (l' := fun g => [oldR w0]) (v := fun g => sV kyk) (fun g => o_loadOld (b := g75) (j := off76 + k * 4 + 1) (u := sV kyk) (by kernel_rfl) (by kernel_rfl) (hrk 1 _ rfl)) (fun g => by kernel_rfl), ob_val fun g w => by kernel_rfl, ob_val fun g w => by kernel_rfl, ob_v (v := fun g => pV g75 (off76 + k * 4)) (fun g => o_idx (b := g75) (cap := cap) (e := 30) (off := off76) (n := xs.length) (kd := .i64) (q := (k : Int)) (i := k) (size := 4) (j := off76 + k * 4) (by kernel_rfl) (by kernel_rfl) (by rfl) (by omega) Try.underlying22 (by kernel_rfl) (by omega)) (fun g => by kernel_rfl), ob_val fun g w => by kernel_rfl, ob_s (l := fun g => [oldR w0]) (l' := fun g => [oldR w0]) (v := fun g => .agg #[iV rok, iV rtk]) (fun g => o_loadOldN (b := g75) (j := off76 + k * 4 + 2) [iV rok, iV rtk] (by kernel_rfl) (by kernel_rfl) (range_sub hrk 2 2)) (fun g => by kernel_rfl), ob_s (l := fun g => [hpS b72 T0 n0]) (l' := fun g => [hpS b72 (hset T0 (kyk, rok, rtk)) (n0 + 1)]) (v := fun g => .tuple #[]) (fun g => o_call (by kernel_rfl) Try.call16 (hp_SetS (S := T0) (n := n0) kyk rok rtk (by omega))) (fun g => by kernel_rfl), trivial⟩
            intro g
            refine Ex'.sub (subB_spec [0, 8, 9, 10]) ?_
            refine Ex'.as [0, 1, 2, 3, 4] (σ' := [(0, .slice (some ⟨g75, off76, none⟩) xs.length cap), (8, bV false), (9, pV b72 0), (10, iV (k : Int))]) (Γ' := [oldR w0, blkR b1 [iV pa1, iV pa2] 28, blkR b2 [iV pb1, iV pb2] 28, blkR b3 [iV pc1, iV pc2] 28, hpS b72 (hset T0 (kyk, rok, rtk)) (n0 + 1)]) (by kernel_rfl) rfl (by kernel_rfl) (by kernel_rfl) ?_
            refine Ex'.next ?_
            refine Cd.seq ?_
            refine Cd.region rfl ?_
            refine Sq.vals [0, 1] (rest := [2, 3, 4, 5]) [.slice (some ⟨g75, off76, none⟩) xs.length cap, iV (k : Int)] (fun w => by kernel_rfl) ?_
            refine Sq.v (r := pV g75 (off76 + k * 4)) (o_idx (b := g75) (cap := cap) (e := 30) (off := off76) (n := xs.length) (kd := .i64) (q := (k : Int)) (i := k) (size := 4) (j := off76 + k * 4) (by kernel_rfl) (by kernel_rfl) (by rfl) (by omega) Try.underlying22 (by kernel_rfl) (by omega)) rfl (by kernel_rfl) ?_
            refine Sq.vals [3] (rest := [4, 5]) [pV g75 (off76 + k * 4)] (fun w => by kernel_rfl) ?_
            refine Sq.same [0] (l := [oldR w0]) (o_loadOld (b := g75) (j := off76 + k * 4) (u := iV kdk) (by kernel_rfl) (by kernel_rfl) (hrk 0 _ rfl)) (by kernel_rfl) rfl (by kernel_rfl) rfl ?_
            refine Sq.v (r := bV (decide (kdk = 1))) (o_eqI (k := .i64) (a := kdk) (b := 1) (by kernel_rfl) (by kernel_rfl)) rfl (by kernel_rfl) ?_
            refine Sq.done ?_
            refine Ex'.next ?_
            refine Cd.case (p := kdk = 1) (by kernel_rfl) (fun h77 => ?_) (fun h77 => ?_)
            ·
              refine Cd.region rfl ?_
              refine Sq.vals [0, 1, 2] (rest := [3, 4, 5, 6]) [pV b72 0, .slice (some ⟨g75, off76, none⟩) xs.length cap, iV (k : Int)] (fun w => by kernel_rfl) ?_
              refine Sq.v (r := pV g75 (off76 + k * 4)) (o_idx (b := g75) (cap := cap) (e := 30) (off := off76) (n := xs.length) (kd := .i64) (q := (k : Int)) (i := k) (size := 4) (j := off76 + k * 4) (by kernel_rfl) (by kernel_rfl) (by rfl) (by omega) Try.underlying22 (by kernel_rfl) (by omega)) rfl (by kernel_rfl) ?_
              refine Sq.vals [4] (rest := [5, 6]) [pV g75 (off76 + k * 4 + 1)] (fun w => by kernel_rfl) ?_
              refine Sq.same [0] (l := [oldR w0]) (o_loadOld (b := g75) (j := off76 + k * 4 + 1) (u := sV kyk) (by kernel_rfl) (by kernel_rfl) (hrk 1 _ rfl)) (by kernel_rfl) rfl (by kernel_rfl) rfl ?_
              refine Sq.same [4] (l := [hpS b72 (hset T0 (kyk, rok, rtk)) (n0 + 1)]) (o_call (by kernel_rfl) Try.call18 (hp_RemoveS (S := hset T0 (kyk, rok, rtk)) (n := n0 + 1) kyk (by omega))) (by kernel_rfl) rfl (by kernel_rfl) rfl ?_
              refine Sq.done ?_
              refine Ex'.blockNormal ?_
              refine Ex'.next ?_
              refine Cd.region rfl ?_
              refine Sq.vals [0] (rest := [1, 2]) [iV (k : Int)] (fun w => by kernel_rfl) ?_
              refine Sq.v (r := iV ((k : Int) + 1)) (o_add (k := .i64) (a := (k : Int)) (b := 1) (c := (k : Int) + 1) (by kernel_rfl) (by kernel_rfl) (w64 rfl (by omega))) rfl (by kernel_rfl) ?_
              refine Sq.vals [2] (rest := []) [iV ((k : Int) + 1)] (fun w => by kernel_rfl) ?_
              refine Sq.done ?_
              refine Ex'.round (g := (k, T0, n0)) (k + 1, hrem (hset T0 (kyk, rok, rtk)) kyk, n0 + 1) ?_ ?_ (subB_eq (l := [0, 8, 9, 10]) (by kernel_rfl)) (fun w hw => hw.pickB [0, 1, 2, 3, 4] (by kernel_rfl) (by kernel_rfl) (by kernel_rfl))
              · (try dsimp only); exact ⟨by omega, by omega⟩
              · omega
            ·
              refine Cd.skip ?_
              refine Ex'.blockNormal ?_
              refine Ex'.next ?_
              refine Cd.region rfl ?_
              refine Sq.vals [0] (rest := [1, 2]) [iV (k : Int)] (fun w => by kernel_rfl) ?_
              refine Sq.v (r := iV ((k : Int) + 1)) (o_add (k := .i64) (a := (k : Int)) (b := 1) (c := (k : Int) + 1) (by kernel_rfl) (by kernel_rfl) (w64 rfl (by omega))) rfl (by kernel_rfl) ?_
              refine Sq.vals [2] (rest := []) [iV ((k : Int) + 1)] (fun w => by kernel_rfl) ?_
              refine Sq.done ?_
              refine Ex'.round (g := (k, T0, n0)) (k + 1, hset T0 (kyk, rok, rtk), n0 + 1) ?_ ?_ (subB_eq (l := [0, 8, 9, 10]) (by kernel_rfl)) (fun w hw => hw.pickB [0, 1, 2, 3, 4] (by kernel_rfl) (by kernel_rfl) (by kernel_rfl))
              · (try dsimp only); exact ⟨by omega, by omega⟩
              · omega
          ·
            refine Cd.fact (i := 4) rfl hpS.srt ?_; rintro ⟨hnd, hle, hsd⟩
            refine Cd.exit ?_
            refine Ex'.thenExit ?_
            refine Ex'.thenExit ?_
            refine Ex'.blockHit ?_
            refine Ex'.next ?_
            refine Cd.seq ?_
            refine Cd.region rfl ?_
            refine Sq.vals [0] (rest := [1, 2]) [pV b72 0] (fun w => by kernel_rfl) ?_
            refine Sq.ex [4] (l := [hpS b72 T0 n0]) (o_call (by kernel_rfl) Try.call24 (hp_OrderS (S := T0) (n := n0) (by omega))) (by kernel_rfl) rfl (by kernel_rfl) (fun _ => Nat.le_of_ble_eq_true (by kernel_rfl)) ?_; rintro v78 _
            refine Sq.fact (i := 5) (R := rowR 9 1 v78 ((T0.map (·.1)).length) ((T0.map (·.1)).map Value.string)) (by kernel_rfl) row_slice ?_; rintro ⟨a79, c80, rfl, hc80, hc80'⟩
            have hc80'' : c80 ≤ 9223372036854775807 := hc80'
            refine Sq.vals [2] (rest := []) [.slice a79 ((T0.map (·.1)).length) c80] (fun w => by kernel_rfl) ?_
            refine Sq.done ?_
            refine Ex'.next ?_
            refine Cd.seq ?_
            refine Cd.region rfl ?_
            refine Sq.ex [] (l := []) (o_newMap Value.string Value.bool) (by kernel_rfl) rfl (by kernel_rfl) (fun _ => Nat.zero_le _) ?_; intro b81 _
            refine Sq.vals [1] (rest := []) [.map (some b81)] (fun w => by kernel_rfl) ?_
            refine Sq.done ?_
            refine Ex'.next ?_
            refine Cd.seq ?_
            refine Cd.region rfl ?_
            refine Sq.ex [] (l := []) (o_new [iV 0, iV 0] (fun w => by kernel_rfl)) (by kernel_rfl) rfl (by kernel_rfl) (fun _ => Nat.zero_le _) ?_; intro b82 _
            refine Sq.done ?_
            refine Ex'.next ?_
            refine Cd.seq ?_
            refine Cd.seq ?_
            refine Cd.region rfl ?_
            refine Sq.vals [0] (rest := []) [iV 0] (fun w => by kernel_rfl) ?_
            refine Sq.done ?_
            refine Ex'.next ?_
            refine Cd.block ?_
            refine Cd.loop (ι := Nat × (List (ByteArray × Bool)) × Int × Int) (fun ⟨j, sn, la, lb⟩ => PopI T0 sn la lb j) (fun ⟨j, sn, la, lb⟩ => (T0.map (·.1)).length - j) (fun ⟨j, sn, la, lb⟩ => [(9, pV b72 0), (11, .slice a79 ((T0.map (·.1)).length) c80), (12, .map (some b81)), (13, pV b82 0), (14, iV (j : Int))]) (fun ⟨j, sn, la, lb⟩ => [oldR w0, blkR b1 [iV pa1, iV pa2] 28, blkR b2 [iV pb1, iV pb2] 28, blkR b3 [iV pc1, iV pc2] 28, hpS b72 (T0.drop j) n0, rowR 9 1 (.slice a79 ((T0.map (·.1)).length) c80) ((T0.map (·.1)).length) ((T0.map (·.1)).map Value.string), mapR Value.string Value.bool b81 sn, blkR b82 [iV la, iV lb] 28]) (0, [], 0, 0) (PopI.new) (subB_eq (l := [9, 11, 12, 13, 14]) (by kernel_rfl)) (fun w hw => (hw.conv 4 (R := hpS b72 T0 n0) (R' := hpS b72 (T0.drop 0) n0) (by kernel_rfl) (fun w T q => q)).pickB [0, 1, 2, 3, 4, 5, 6, 7] (by kernel_rfl) (by kernel_rfl) (by kernel_rfl)) ?_
            rintro ⟨j, sn, la, lb⟩ hL83
            try dsimp only at hL83 ⊢
            have hP := hL83
            have hj := hP.le
            refine Cd.seq ?_
            refine Cd.seq ?_
            refine Cd.region rfl ?_
            refine Sq.vals [0, 1, 2, 3] (rest := []) [iV (j : Int), .slice a79 ((T0.map (·.1)).length) c80, iV ((T0.map (·.1)).length : Int), bV (decide ((j : Int) < ((T0.map (·.1)).length : Int)))] (fun w => by kernel_rfl) ?_
            refine Sq.done ?_
            refine Ex'.next ?_
            refine Cd.case (p := (j : Int) < ((T0.map (·.1)).length : Int)) (by kernel_rfl) (fun h84 => ?_) (fun h84 => ?_)
            ·
              obtain ⟨kj, aj, bj, hS1, hS2, hS3⟩ := drop_kr (S := T0) (j := j) (by omega)
              refine Cd.res 4 (R := hpS b72 (T0.drop j) n0) (R' := hpS b72 ((kj, aj, bj) :: T0.drop (j + 1)) n0) (by kernel_rfl) (fun w T q => by rw [← hS1]; exact q) ?_
              have hlk : lk ((kj, aj, bj) :: T0.drop (j + 1)) ((T0.map (·.1)).getD j ⟨#[]⟩) = some (aj, bj) := by rw [hS2]; simp [lk]
              have hlk2 : (lk ((kj, aj, bj) :: T0.drop (j + 1)) ((T0.map (·.1)).getD j ⟨#[]⟩)).getD (0, 0) = (aj, bj) := by rw [hlk]; rfl
              have hfr := hP.fresh hnd hS3
              refine Cd.fact (i := 5) (R := rowR 9 1 (.slice a79 ((T0.map (·.1)).length) c80) ((T0.map (·.1)).length) ((T0.map (·.1)).map Value.string)) (by kernel_rfl) (row_addr (by omega)) ?_; rintro ⟨b85, rfl⟩
              refine Cd.skip ?_
              refine Ex'.next ?_
              refine Cd.seq ?_
              refine Cd.block ?_
              refine Cd.seq ?_
              refine Cd.region rfl ?_
              refine Sq.vals [0, 1, 2] (rest := [3, 4, 5, 6, 7, 8, 9, 10, 11]) [pV b72 0, .slice (some ⟨b85, 0, none⟩) ((T0.map (·.1)).length) c80, iV (j : Int)] (fun w => by kernel_rfl) ?_
              refine Sq.v (r := pV b85 j) (o_idx (b := b85) (cap := c80) (e := 9) (off := 0) (n := (T0.map (·.1)).length) (kd := .i64) (q := (j : Int)) (i := j) (size := 1) (j := j) (by kernel_rfl) (by kernel_rfl) (by rfl) (by omega) Try.underlying47 (by kernel_rfl) (by omega)) rfl (by kernel_rfl) ?_
              refine Sq.same [5] (l := [rowR 9 1 (.slice (some ⟨b85, 0, none⟩) ((T0.map (·.1)).length) c80) ((T0.map (·.1)).length) ((T0.map (·.1)).map Value.string)]) (o_loadRow (i := j) (u := sV ((T0.map (·.1)).getD j ⟨#[]⟩)) (by kernel_rfl) (by omega) (by kernel_rfl) (get_map (by omega))) (by kernel_rfl) rfl (by kernel_rfl) rfl ?_
              refine Sq.same [4] (l := [hpS b72 ((kj, aj, bj) :: T0.drop (j + 1)) n0]) (o_call (by kernel_rfl) Try.call21 (hp_RankS (S := (kj, aj, bj) :: T0.drop (j + 1)) (n := n0) ((T0.map (·.1)).getD j ⟨#[]⟩) (by omega))) (by kernel_rfl) rfl (by kernel_rfl) rfl ?_
              refine Sq.vals [6, 7, 8] (rest := [9, 10, 11]) [.tuple #[.agg #[iV (((lk ((kj, aj, bj) :: T0.drop (j + 1)) ((T0.map (·.1)).getD j ⟨#[]⟩)).getD (0, 0)).1), iV (((lk ((kj, aj, bj) :: T0.drop (j + 1)) ((T0.map (·.1)).getD j ⟨#[]⟩)).getD (0, 0)).2)], bV ((lk ((kj, aj, bj) :: T0.drop (j + 1)) ((T0.map (·.1)).getD j ⟨#[]⟩)).isSome)], .agg #[iV (((lk ((kj, aj, bj) :: T0.drop (j + 1)) ((T0.map (·.1)).getD j ⟨#[]⟩)).getD (0, 0)).1), iV (((lk ((kj, aj, bj) :: T0.drop (j + 1)) ((T0.map (·.1)).getD j ⟨#[]⟩)).getD (0, 0)).2)], bV ((lk ((kj, aj, bj) :: T0.drop (j + 1)) ((T0.map (·.1)).getD j ⟨#[]⟩)).isSome)] (fun w => by kernel_rfl) ?_
              refine Sq.ex [] (l := []) (o_new [iV 0, iV 0] (fun w => by kernel_rfl)) (by kernel_rfl) rfl (by kernel_rfl) (fun _ => Nat.zero_le _) ?_; intro b86 _
              refine Sq.same [8] (l := [blkR b86 [iV 0, iV 0] 28]) (o_store (i := 0) (v := .agg #[iV (((lk ((kj, aj, bj) :: T0.drop (j + 1)) ((T0.map (·.1)).getD j ⟨#[]⟩)).getD (0, 0)).1), iV (((lk ((kj, aj, bj) :: T0.drop (j + 1)) ((T0.map (·.1)).getD j ⟨#[]⟩)).getD (0, 0)).2)]) (by kernel_rfl) (by kernel_rfl) (by kernel_rfl) (by kernel_rfl) (by kernel_rfl)) (by kernel_rfl) rfl (by kernel_rfl) rfl ?_
              refine Sq.vals [11] (rest := []) [bV ((lk ((kj, aj, bj) :: T0.drop (j + 1)) ((T0.map (·.1)).getD j ⟨#[]⟩)).isSome)] (fun w => by kernel_rfl) ?_
              refine Sq.done ?_
              refine Ex'.next ?_
              refine Cd.seq ?_
              refine Cd.region rfl ?_
              refine Sq.vals [0] (rest := [1, 2, 3, 4, 5, 6]) [pV b72 0] (fun w => by kernel_rfl) ?_
              refine Sq.same [4] (l := [hpS b72 ((kj, aj, bj) :: T0.drop (j + 1)) n0]) (o_call (by kernel_rfl) Try.call20 (hp_PopS (S := (kj, aj, bj) :: T0.drop (j + 1)) (n := n0) (by omega))) (by kernel_rfl) rfl (by kernel_rfl) rfl ?_
              refine Sq.vals [2, 3, 4, 5, 6] (rest := []) [.tuple #[sV ((htop (⟨#[]⟩, 0, 0) ((kj, aj, bj) :: T0.drop (j + 1))).1), bV (decide (0 < ((kj, aj, bj) :: T0.drop (j + 1)).length))], sV ((htop (⟨#[]⟩, 0, 0) ((kj, aj, bj) :: T0.drop (j + 1))).1), bV (decide (0 < ((kj, aj, bj) :: T0.drop (j + 1)).length)), sV ((htop (⟨#[]⟩, 0, 0) ((kj, aj, bj) :: T0.drop (j + 1))).1), bV (decide (0 < ((kj, aj, bj) :: T0.drop (j + 1)).length))] (fun w => by kernel_rfl) ?_
              refine Sq.done ?_
              refine Ex'.next ?_
              refine Cd.seq ?_
              refine Cd.seq ?_
              refine Cd.region rfl ?_
              refine Sq.vals [0, 1, 2] (rest := [3, 4, 5, 6, 7, 8, 9, 10, 11, 12, 13, 14, 15, 16, 17, 18, 19, 20, 21, 22, 23, 24, 25, 26, 27]) [bV ((lk ((kj, aj, bj) :: T0.drop (j + 1)) ((T0.map (·.1)).getD j ⟨#[]⟩)).isSome), bV (!((lk ((kj, aj, bj) :: T0.drop (j + 1)) ((T0.map (·.1)).getD j ⟨#[]⟩)).isSome)), bV (!((lk ((kj, aj, bj) :: T0.drop (j + 1)) ((T0.map (·.1)).getD j ⟨#[]⟩)).isSome))] (fun w => by kernel_rfl) ?_
              refine Sq.re 131 rfl (congrArg Value.bool (show (!((lk ((kj, aj, bj) :: T0.drop (j + 1)) ((T0.map (·.1)).getD j ⟨#[]⟩)).isSome)) = false from (by rw [hlk]; rfl))) ?_
              refine Sq.vals [3] (rest := [4, 5, 6, 7, 8, 9, 10, 11, 12, 13, 14, 15, 16, 17, 18, 19, 20, 21, 22, 23, 24, 25, 26, 27]) [bV (decide (0 < ((kj, aj, bj) :: T0.drop (j + 1)).length))] (fun w => by kernel_rfl) ?_
              refine Sq.v (r := bV (decide (¬ (0 < ((kj, aj, bj) :: T0.drop (j + 1)).length)))) (o_not (by kernel_rfl)) rfl (by kernel_rfl) ?_
              refine Sq.vals [5, 6] (rest := [7, 8, 9, 10, 11, 12, 13, 14, 15, 16, 17, 18, 19, 20, 21, 22, 23, 24, 25, 26, 27]) [bV (decide (¬ (0 < ((kj, aj, bj) :: T0.drop (j + 1)).length))), bV (decide (¬ (0 < ((kj, aj, bj) :: T0.drop (j + 1)).length)))] (fun w => by kernel_rfl) ?_
              refine Sq.re 135 rfl (vF (fun z => z (by simp))) ?_
              refine Sq.vals [7, 8, 9] (rest := [10, 11, 12, 13, 14, 15, 16, 17, 18, 19, 20, 21, 22, 23, 24, 25, 26, 27]) [sV ((htop (⟨#[]⟩, 0, 0) ((kj, aj, bj) :: T0.drop (j + 1))).1), .slice (some ⟨b85, 0, none⟩) ((T0.map (·.1)).length) c80, iV (j : Int)] (fun w => by kernel_rfl) ?_
              refine Sq.v (r := pV b85 j) (o_idx (b := b85) (cap := c80) (e := 9) (off := 0) (n := (T0.map (·.1)).length) (kd := .i64) (q := (j : Int)) (i := j) (size := 1) (j := j) (by kernel_rfl) (by kernel_rfl) (by rfl) (by omega) Try.underlying47 (by kernel_rfl) (by omega)) rfl (by kernel_rfl) ?_
              refine Sq.same [5] (l := [rowR 9 1 (.slice (some ⟨b85, 0, none⟩) ((T0.map (·.1)).length) c80) ((T0.map (·.1)).length) ((T0.map (·.1)).map Value.string)]) (o_loadRow (i := j) (u := sV ((T0.map (·.1)).getD j ⟨#[]⟩)) (by kernel_rfl) (by omega) (by kernel_rfl) (get_map (by omega))) (by kernel_rfl) rfl (by kernel_rfl) rfl ?_
              refine Sq.v (r := bV (decide ((htop (⟨#[]⟩, 0, 0) ((kj, aj, bj) :: T0.drop (j + 1))).1 ≠ (T0.map (·.1)).getD j ⟨#[]⟩))) (o_neS (a := (htop (⟨#[]⟩, 0, 0) ((kj, aj, bj) :: T0.drop (j + 1))).1) (b := (T0.map (·.1)).getD j ⟨#[]⟩) (by kernel_rfl) (by kernel_rfl)) rfl (by kernel_rfl) ?_
              refine Sq.re 141 rfl (vF (fun z => z hS2.symm)) ?_
              refine Sq.vals [13, 14, 15, 16] (rest := [17, 18, 19, 20, 21, 22, 23, 24, 25, 26, 27]) [bV false, bV false, .map (some b81), sV ((htop (⟨#[]⟩, 0, 0) ((kj, aj, bj) :: T0.drop (j + 1))).1)] (fun w => by kernel_rfl) ?_
              refine Sq.same [6] (l := [mapR Value.string Value.bool b81 sn]) (o_look (fv := Value.bool) (l := sn) false ((htop (⟨#[]⟩, 0, 0) ((kj, aj, bj) :: T0.drop (j + 1))).1) (by kernel_rfl) (by kernel_rfl) (strKey Try.underlying9) Try.underlying51 (fun w => by kernel_rfl)) (by kernel_rfl) rfl (by kernel_rfl) rfl ?_
              refine Sq.vals [18, 19] (rest := [20, 21, 22, 23, 24, 25, 26, 27]) [bV ((lk sn ((htop (⟨#[]⟩, 0, 0) ((kj, aj, bj) :: T0.drop (j + 1))).1)).getD false), bV ((lk sn ((htop (⟨#[]⟩, 0, 0) ((kj, aj, bj) :: T0.drop (j + 1))).1)).getD false)] (fun w => by kernel_rfl) ?_
              refine Sq.re 148 rfl (congrArg Value.bool (show ((lk sn ((htop (⟨#[]⟩, 0, 0) ((kj, aj, bj) :: T0.drop (j + 1))).1)).getD false) = false from hfr)) ?_
              refine Sq.vals [20, 21, 22] (rest := [23, 24, 25, 26, 27]) [iV (j : Int), bV (decide ((j : Int) > 0)), bV (decide ((j : Int) > 0))] (fun w => by kernel_rfl) ?_
              refine Sq.case 151 (p := (j : Int) > 0) rfl (fun h90 => ?_) (fun h90 => ?_)
              ·
                have hns := hP.less hsd hS3 (by omega)
                refine Sq.same [8] (l := [blkR b86 [iV (((lk ((kj, aj, bj) :: T0.drop (j + 1)) ((T0.map (·.1)).getD j ⟨#[]⟩)).getD (0, 0)).1), iV (((lk ((kj, aj, bj) :: T0.drop (j + 1)) ((T0.map (·.1)).getD j ⟨#[]⟩)).getD (0, 0)).2)] 28]) (o_loadN (i := 0) [iV (((lk ((kj, aj, bj) :: T0.drop (j + 1)) ((T0.map (·.1)).getD j ⟨#[]⟩)).getD (0, 0)).1), iV (((lk ((kj, aj, bj) :: T0.drop (j + 1)) ((T0.map (·.1)).getD j ⟨#[]⟩)).getD (0, 0)).2)] (by kernel_rfl) (by kernel_rfl) (by kernel_rfl)) (by kernel_rfl) rfl (by kernel_rfl) rfl ?_
                refine Sq.same [7] (l := [blkR b82 [iV la, iV lb] 28]) (o_loadN (i := 0) [iV la, iV lb] (by kernel_rfl) (by kernel_rfl) (by kernel_rfl)) (by kernel_rfl) rfl (by kernel_rfl) rfl ?_
                refine Sq.same [] (l := []) (o_call (by kernel_rfl) Try.call25 ((heap_Less (p0 := ((lk ((kj, aj, bj) :: T0.drop (j + 1)) ((T0.map (·.1)).getD j ⟨#[]⟩)).getD (0, 0)).1) (p1 := ((lk ((kj, aj, bj) :: T0.drop (j + 1)) ((T0.map (·.1)).getD j ⟨#[]⟩)).getD (0, 0)).2) (q0 := la) (q1 := lb)).re (vF (by rw [hlk2]; exact hns)))) (by kernel_rfl) rfl (by kernel_rfl) rfl ?_
                refine Sq.vals [26, 27] (rest := []) [bV false, bV false] (fun w => by kernel_rfl) ?_
                refine Sq.done ?_
                refine Ex'.next ?_
                refine Cd.condF (by kernel_rfl) ?_
                refine Cd.skip ?_
                refine Ex'.next ?_
                refine Cd.seq ?_
                refine Cd.region rfl ?_
                refine Sq.vals [0, 1] (rest := [2]) [.map (some b81), sV ((htop (⟨#[]⟩, 0, 0) ((kj, aj, bj) :: T0.drop (j + 1))).1)] (fun w => by kernel_rfl) ?_
                refine Sq.same [6] (l := [mapR Value.string Value.bool b81 sn]) (o_mapUpdate ((htop (⟨#[]⟩, 0, 0) ((kj, aj, bj) :: T0.drop (j + 1))).1) true (by kernel_rfl) (by kernel_rfl) (by kernel_rfl) (strKey Try.underlying9) Try.underlying51) (by kernel_rfl) rfl (by kernel_rfl) rfl ?_
                refine Sq.done ?_
                refine Ex'.next ?_
                refine Cd.region rfl ?_
                refine Sq.same [8] (l := [blkR b86 [iV (((lk ((kj, aj, bj) :: T0.drop (j + 1)) ((T0.map (·.1)).getD j ⟨#[]⟩)).getD (0, 0)).1), iV (((lk ((kj, aj, bj) :: T0.drop (j + 1)) ((T0.map (·.1)).getD j ⟨#[]⟩)).getD (0, 0)).2)] 28]) (o_loadN (i := 0) [iV (((lk ((kj, aj, bj) :: T0.drop (j + 1)) ((T0.map (·.1)).getD j ⟨#[]⟩)).getD (0, 0)).1), iV (((lk ((kj, aj, bj) :: T0.drop (j + 1)) ((T0.map (·.1)).getD j ⟨#[]⟩)).getD (0, 0)).2)] (by kernel_rfl) (by kernel_rfl) (by kernel_rfl)) (by kernel_rfl) rfl (by kernel_rfl) rfl ?_
                refine Sq.same [7] (l := [blkR b82 [iV la, iV lb] 28]) (o_store (i := 0) (v := .agg #[iV (((lk ((kj, aj, bj) :: T0.drop (j + 1)) ((T0.map (·.1)).getD j ⟨#[]⟩)).getD (0, 0)).1), iV (((lk ((kj, aj, bj) :: T0.drop (j + 1)) ((T0.map (·.1)).getD j ⟨#[]⟩)).getD (0, 0)).2)]) (by kernel_rfl) (by kernel_rfl) (by kernel_rfl) (by kernel_rfl) (by kernel_rfl)) (by kernel_rfl) rfl (by kernel_rfl) rfl ?_
                refine Sq.done ?_
                refine Ex'.blockNormal ?_
                refine Ex'.next ?_
                refine Cd.region rfl ?_
                refine Sq.vals [0] (rest := [1, 2]) [iV (j : Int)] (fun w => by kernel_rfl) ?_
                refine Sq.v (r := iV ((j : Int) + 1)) (o_add (k := .i64) (a := (j : Int)) (b := 1) (c := (j : Int) + 1) (by kernel_rfl) (by kernel_rfl) (w64 rfl (by omega))) rfl (by kernel_rfl) ?_
                refine Sq.vals [2] (rest := []) [iV ((j : Int) + 1)] (fun w => by kernel_rfl) ?_
                refine Sq.done ?_
                refine Ex'.round (g := (j, sn, la, lb)) (j + 1, put sn ((htop (⟨#[]⟩, 0, 0) ((kj, aj, bj) :: T0.drop (j + 1))).1) true, ((lk ((kj, aj, bj) :: T0.drop (j + 1)) ((T0.map (·.1)).getD j ⟨#[]⟩)).getD (0, 0)).1, ((lk ((kj, aj, bj) :: T0.drop (j + 1)) ((T0.map (·.1)).getD j ⟨#[]⟩)).getD (0, 0)).2) ?_ ?_ (subB_eq (l := [9, 11, 12, 13, 14]) (by kernel_rfl)) (fun w hw => (hw.conv 4 (R := hpS b72 (((kj, aj, bj) :: T0.drop (j + 1)).tail) n0) (R' := hpS b72 (T0.drop (j + 1)) n0) (by kernel_rfl) (fun w T q => q)).pickB [0, 1, 2, 3, 4, 5, 6, 7] (by kernel_rfl) (by kernel_rfl) (by kernel_rfl))
                · (try dsimp only); exact (by rw [hlk2]; exact hP.step hS3)
                · omega
              ·
                refine Sq.vals [23, 24, 25, 26, 27] (rest := []) [undef, undef, undef, bV false, bV false] (fun w => by kernel_rfl) ?_
                refine Sq.done ?_
                refine Ex'.next ?_
                refine Cd.condF (by kernel_rfl) ?_
                refine Cd.skip ?_
                refine Ex'.next ?_
                refine Cd.seq ?_
                refine Cd.region rfl ?_
                refine Sq.vals [0, 1] (rest := [2]) [.map (some b81), sV ((htop (⟨#[]⟩, 0, 0) ((kj, aj, bj) :: T0.drop (j + 1))).1)] (fun w => by kernel_rfl) ?_
                refine Sq.same [6] (l := [mapR Value.string Value.bool b81 sn]) (o_mapUpdate ((htop (⟨#[]⟩, 0, 0) ((kj, aj, bj) :: T0.drop (j + 1))).1) true (by kernel_rfl) (by kernel_rfl) (by kernel_rfl) (strKey Try.underlying9) Try.underlying51) (by kernel_rfl) rfl (by kernel_rfl) rfl ?_
                refine Sq.done ?_
                refine Ex'.next ?_
                refine Cd.region rfl ?_
                refine Sq.same [8] (l := [blkR b86 [iV (((lk ((kj, aj, bj) :: T0.drop (j + 1)) ((T0.map (·.1)).getD j ⟨#[]⟩)).getD (0, 0)).1), iV (((lk ((kj, aj, bj) :: T0.drop (j + 1)) ((T0.map (·.1)).getD j ⟨#[]⟩)).getD (0, 0)).2)] 28]) (o_loadN (i := 0) [iV (((lk ((kj, aj, bj) :: T0.drop (j + 1)) ((T0.map (·.1)).getD j ⟨#[]⟩)).getD (0, 0)).1), iV (((lk ((kj, aj, bj) :: T0.drop (j + 1)) ((T0.map (·.1)).getD j ⟨#[]⟩)).getD (0, 0)).2)] (by kernel_rfl) (by kernel_rfl) (by kernel_rfl)) (by kernel_rfl) rfl (by kernel_rfl) rfl ?_
                refine Sq.same [7] (l := [blkR b82 [iV la, iV lb] 28]) (o_store (i := 0) (v := .agg #[iV (((lk ((kj, aj, bj) :: T0.drop (j + 1)) ((T0.map (·.1)).getD j ⟨#[]⟩)).getD (0, 0)).1), iV (((lk ((kj, aj, bj) :: T0.drop (j + 1)) ((T0.map (·.1)).getD j ⟨#[]⟩)).getD (0, 0)).2)]) (by kernel_rfl) (by kernel_rfl) (by kernel_rfl) (by kernel_rfl) (by kernel_rfl)) (by kernel_rfl) rfl (by kernel_rfl) rfl ?_
                refine Sq.done ?_
                refine Ex'.blockNormal ?_
                refine Ex'.next ?_
                refine Cd.region rfl ?_
                refine Sq.vals [0] (rest := [1, 2]) [iV (j : Int)] (fun w => by kernel_rfl) ?_
                refine Sq.v (r := iV ((j : Int) + 1)) (o_add (k := .i64) (a := (j : Int)) (b := 1) (c := (j : Int) + 1) (by kernel_rfl) (by kernel_rfl) (w64 rfl (by omega))) rfl (by kernel_rfl) ?_
                refine Sq.vals [2] (rest := []) [iV ((j : Int) + 1)] (fun w => by kernel_rfl) ?_
                refine Sq.done ?_
                refine Ex'.round (g := (j, sn, la, lb)) (j + 1, put sn ((htop (⟨#[]⟩, 0, 0) ((kj, aj, bj) :: T0.drop (j + 1))).1) true, ((lk ((kj, aj, bj) :: T0.drop (j + 1)) ((T0.map (·.1)).getD j ⟨#[]⟩)).getD (0, 0)).1, ((lk ((kj, aj, bj) :: T0.drop (j + 1)) ((T0.map (·.1)).getD j ⟨#[]⟩)).getD (0, 0)).2) ?_ ?_ (subB_eq (l := [9, 11, 12, 13, 14]) (by kernel_rfl)) (fun w hw => (hw.conv 4 (R := hpS b72 (((kj, aj, bj) :: T0.drop (j + 1)).tail) n0) (R' := hpS b72 (T0.drop (j + 1)) n0) (by kernel_rfl) (fun w T q => q)).pickB [0, 1, 2, 3, 4, 5, 6, 7] (by kernel_rfl) (by kernel_rfl) (by kernel_rfl))
                · (try dsimp only); exact (by rw [hlk2]; exact hP.step hS3)
                · omega
            ·
              have hdr : T0.drop j = [] := List.drop_eq_nil_of_le (by have : (T0.map (·.1)).length = T0.length := List.length_map _; omega)
              refine Cd.exit ?_
              refine Ex'.thenExit ?_
              refine Ex'.thenExit ?_
              refine Ex'.blockHit ?_
              refine Ex'.next ?_
              refine Cd.seq ?_
              refine Cd.region rfl ?_
              refine Sq.vals [0] (rest := [1, 2, 3, 4, 5, 6]) [pV b72 0] (fun w => by kernel_rfl) ?_
              refine Sq.same [4] (l := [hpS b72 (T0.drop j) n0]) (o_call (by kernel_rfl) Try.call20 (hp_PopS (S := T0.drop j) (n := n0) (by omega))) (by kernel_rfl) rfl (by kernel_rfl) rfl ?_
              refine Sq.vals [2, 3, 4, 5, 6] (rest := []) [.tuple #[sV ((htop (⟨#[]⟩, 0, 0) (T0.drop j)).1), bV (decide (0 < (T0.drop j).length))], sV ((htop (⟨#[]⟩, 0, 0) (T0.drop j)).1), bV (decide (0 < (T0.drop j).length)), sV ((htop (⟨#[]⟩, 0, 0) (T0.drop j)).1), bV (decide (0 < (T0.drop j).length))] (fun w => by kernel_rfl) ?_
              refine Sq.done ?_
              refine Ex'.next ?_
              refine Cd.seq ?_
              refine Cd.region rfl ?_
              refine Sq.vals [0] (rest := [1, 2, 3, 4, 5, 6, 7]) [bV (decide (0 < (T0.drop j).length))] (fun w => by kernel_rfl) ?_
              refine Sq.v (r := bV (decide (¬ (0 < (T0.drop j).length)))) (o_not (by kernel_rfl)) rfl (by kernel_rfl) ?_
              refine Sq.vals [2] (rest := [3, 4, 5, 6, 7]) [bV (decide (¬ (0 < (T0.drop j).length)))] (fun w => by kernel_rfl) ?_
              refine Sq.re 167 rfl (vT (by rw [hdr]; simp)) ?_
              refine Sq.vals [3] (rest := [4, 5, 6, 7]) [pV b72 0] (fun w => by kernel_rfl) ?_
              refine Sq.same [4] (l := [hpS b72 ((T0.drop j).tail) n0]) (o_call (by kernel_rfl) Try.call23 (hp_LenS (S := (T0.drop j).tail) (n := n0) (by omega))) (by kernel_rfl) rfl (by kernel_rfl) rfl ?_
              refine Sq.v (r := bV (decide ((((T0.drop j).tail).length : Int) = 0))) (o_eqI (k := .i64) (a := (((T0.drop j).tail).length : Int)) (b := 0) (by kernel_rfl) (by kernel_rfl)) rfl (by kernel_rfl) ?_
              refine Sq.re 170 rfl (vT (by rw [hdr]; rfl)) ?_
              refine Sq.vals [6, 7] (rest := []) [bV true, bV true] (fun w => by kernel_rfl) ?_
              refine Sq.done ?_
              refine Ex'.next ?_
              refine Cd.ret ?_
              refine Ex'.ret Try.results4 (RVs.tmp (v := bV true) (by kernel_rfl) (RVs.nil)) (fun w hw => ?_)
              exact ⟨_, ⟨rfl, by kernel_rfl⟩, hw⟩

theorem heapPops_walk (v : Value) (ys : List HAct) (a1 a2 b1 b2 c1 c2 : Int) (w : World) (h : Cells w (fun k => k < w.heap.size) v ys.length 4 (ys.flatMap HAct.cells)) (h1 : (Lit.int .i64 a1).wf = true) (h2 : (Lit.int .i64 a2).wf = true) (h3 : (Lit.int .i64 b1).wf = true) (h4 : (Lit.int .i64 b2).wf = true) (h5 : (Lit.int .i64 c1).wf = true) (h6 : (Lit.int .i64 c2).wf = true) :
    Calls Try.prog 4 #[v, .agg #[.int .i64 a1, .int .i64 a2], .agg #[.int .i64 b1, .int .i64 b2], .agg #[.int .i64 c1, .int .i64 c2]] w fun e w' => e = .returned (.bool true) ∧ Below w.heap.size w w' := by
  obtain ⟨a, cap, rfl, hl⟩ := RecsIn.shape (hscr_of h)
  exact law_of (heapPops_tri hl (hscr_of h))

end Go.Proofs.Ytnnjccfcalgokaa
