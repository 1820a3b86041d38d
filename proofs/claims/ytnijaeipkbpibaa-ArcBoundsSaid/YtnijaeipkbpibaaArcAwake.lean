/- Package arc: awake. -/
import Derived.Test.YtnijaeipkbpibaaArcW
import Derived.Test.YtnijaeipkbpibaaRefS
set_option linter.unusedVariables false
namespace Go.Proofs.Ytnijaeipkbpibaa
open Go.RowKit Go.MapKept

set_option maxHeartbeats 8000000 in
set_option maxRecDepth 100000 in
theorem arc_awake   : Tri Try.prog 7 #[] [] (Same [] (bV true)) := by
  refine Tri.enter (args := []) Try.func7 rfl rfl rfl (fun B wz => ?_)
  refine Cd.seq ?_
  refine Cd.region rfl ?_
  refine Sq.vals [0] (rest := []) [bV false] (fun w => by kernel_rfl) ?_
  refine Sq.done ?_
  refine Ex'.next ?_
  refine Cd.seq ?_
  refine Cd.region rfl ?_
  refine Sq.ex [] (l := []) (o_call (by kernel_rfl) Try.call8 (Tri.ex (L' := fun x => arcL x.1 x.2.1 x.2.2.1 x.2.2.2.1 x.2.2.2.2 2 0 [] [] [] [] 0) (arc_New 2 (by first | omega | (simp only [List.length_cons, List.length_nil]; omega))) (fun x => by kernel_rfl))) (by kernel_rfl) rfl (by kernel_rfl) (fun _ => Nat.le_of_ble_eq_true (by kernel_rfl)) ?_; rintro ⟨b3, lt14, lt25, lb16, lb27⟩ _
  refine Sq.vals [1] (rest := []) [pV b3 0] (fun w => by kernel_rfl) ?_
  refine Sq.done ?_
  refine Ex'.next ?_
  refine Cd.seq ?_
  refine Cd.seq ?_
  refine Cd.region rfl ?_
  refine Sq.vals [0, 1] (rest := []) [pV b3 0, bV false] (fun w => by kernel_rfl) ?_
  refine Sq.done ?_
  refine Ex'.next ?_
  refine Cd.condF (by kernel_rfl) ?_
  refine Cd.skip ?_
  refine Ex'.next ?_
  refine Cd.seq ?_
  refine Cd.region rfl ?_
  refine Sq.vals [0] (rest := [1]) [pV b3 0] (fun w => by kernel_rfl) ?_
  refine Sq.same [0, 1, 2, 3, 4] (l := arcL b3 lt14 lt25 lb16 lb27 2 0 [] [] [] [] 0) (o_call (by kernel_rfl) Try.call10 (Tri.eq (l2 := arcL b3 lt14 lt25 lb16 lb27 2 0 [⟨#[97]⟩] [] [] [] 2) (r' := .agg #[bV false, sV ⟨#[]⟩, bV false]) (arc_Request (n := 0) (n' := 2) (most := 2) (p := 0) (t1 := []) (t2 := []) (b1 := []) (b2 := []) ⟨#[97]⟩ (by first | omega | (simp only [List.length_cons, List.length_nil]; omega)) (by first | omega | (simp only [List.length_cons, List.length_nil]; omega)) (by first | omega | (simp only [List.length_cons, List.length_nil]; omega)) (by first | omega | (simp only [List.length_cons, List.length_nil]; omega))) (by kernel_rfl) (by kernel_rfl))) (by kernel_rfl) rfl (by kernel_rfl) rfl ?_
  refine Sq.done ?_
  refine Ex'.next ?_
  refine Cd.seq ?_
  refine Cd.region rfl ?_
  refine Sq.vals [0] (rest := [1, 2, 3]) [pV b3 0] (fun w => by kernel_rfl) ?_
  refine Sq.same [0, 1, 2, 3, 4] (l := arcL b3 lt14 lt25 lb16 lb27 2 0 [⟨#[97]⟩] [] [] [] 2) (o_call (by kernel_rfl) Try.call10 (Tri.eq (l2 := arcL b3 lt14 lt25 lb16 lb27 2 0 [] [⟨#[97]⟩] [] [] 4) (r' := .agg #[bV true, sV ⟨#[]⟩, bV false]) (arc_Request (n := 2) (n' := 4) (most := 2) (p := 0) (t1 := [⟨#[97]⟩]) (t2 := []) (b1 := []) (b2 := []) ⟨#[97]⟩ (by first | omega | (simp only [List.length_cons, List.length_nil]; omega)) (by first | omega | (simp only [List.length_cons, List.length_nil]; omega)) (by first | omega | (simp only [List.length_cons, List.length_nil]; omega)) (by first | omega | (simp only [List.length_cons, List.length_nil]; omega))) (by kernel_rfl) (by kernel_rfl))) (by kernel_rfl) rfl (by kernel_rfl) rfl ?_
  refine Sq.ex [] (l := []) (o_new [bV false, sV ⟨#[]⟩, bV false] (fun w => by kernel_rfl)) (by kernel_rfl) rfl (by kernel_rfl) (fun _ => Nat.zero_le _) ?_; intro b8 _
  refine Sq.same [5] (l := [blkR b8 [bV false, sV ⟨#[]⟩, bV false] 28]) (o_store (i := 0) (v := .agg #[bV true, sV ⟨#[]⟩, bV false]) (by kernel_rfl) (by kernel_rfl) (by kernel_rfl) (by kernel_rfl) (by kernel_rfl)) (by kernel_rfl) rfl (by kernel_rfl) rfl ?_
  refine Sq.done ?_
  refine Ex'.next ?_
  refine Cd.seq ?_
  refine Cd.region rfl ?_
  refine Sq.vals [0] (rest := [1]) [pV b3 0] (fun w => by kernel_rfl) ?_
  refine Sq.same [0, 1, 2, 3, 4] (l := arcL b3 lt14 lt25 lb16 lb27 2 0 [] [⟨#[97]⟩] [] [] 4) (o_call (by kernel_rfl) Try.call10 (Tri.eq (l2 := arcL b3 lt14 lt25 lb16 lb27 2 0 [⟨#[98]⟩] [⟨#[97]⟩] [] [] 6) (r' := .agg #[bV false, sV ⟨#[]⟩, bV false]) (arc_Request (n := 4) (n' := 6) (most := 2) (p := 0) (t1 := []) (t2 := [⟨#[97]⟩]) (b1 := []) (b2 := []) ⟨#[98]⟩ (by first | omega | (simp only [List.length_cons, List.length_nil]; omega)) (by first | omega | (simp only [List.length_cons, List.length_nil]; omega)) (by first | omega | (simp only [List.length_cons, List.length_nil]; omega)) (by first | omega | (simp only [List.length_cons, List.length_nil]; omega))) (by kernel_rfl) (by kernel_rfl))) (by kernel_rfl) rfl (by kernel_rfl) rfl ?_
  refine Sq.done ?_
  refine Ex'.next ?_
  refine Cd.seq ?_
  refine Cd.region rfl ?_
  refine Sq.vals [0] (rest := [1, 2, 3]) [pV b3 0] (fun w => by kernel_rfl) ?_
  refine Sq.same [0, 1, 2, 3, 4] (l := arcL b3 lt14 lt25 lb16 lb27 2 0 [⟨#[98]⟩] [⟨#[97]⟩] [] [] 6) (o_call (by kernel_rfl) Try.call10 (Tri.eq (l2 := arcL b3 lt14 lt25 lb16 lb27 2 0 [⟨#[99]⟩] [⟨#[97]⟩] [⟨#[98]⟩] [] 8) (r' := .agg #[bV false, sV ⟨#[98]⟩, bV true]) (arc_Request (n := 6) (n' := 8) (most := 2) (p := 0) (t1 := [⟨#[98]⟩]) (t2 := [⟨#[97]⟩]) (b1 := []) (b2 := []) ⟨#[99]⟩ (by first | omega | (simp only [List.length_cons, List.length_nil]; omega)) (by first | omega | (simp only [List.length_cons, List.length_nil]; omega)) (by first | omega | (simp only [List.length_cons, List.length_nil]; omega)) (by first | omega | (simp only [List.length_cons, List.length_nil]; omega))) (by kernel_rfl) (by kernel_rfl))) (by kernel_rfl) rfl (by kernel_rfl) rfl ?_
  refine Sq.ex [] (l := []) (o_new [bV false, sV ⟨#[]⟩, bV false] (fun w => by kernel_rfl)) (by kernel_rfl) rfl (by kernel_rfl) (fun _ => Nat.zero_le _) ?_; intro b9 _
  refine Sq.same [6] (l := [blkR b9 [bV false, sV ⟨#[]⟩, bV false] 28]) (o_store (i := 0) (v := .agg #[bV false, sV ⟨#[98]⟩, bV true]) (by kernel_rfl) (by kernel_rfl) (by kernel_rfl) (by kernel_rfl) (by kernel_rfl)) (by kernel_rfl) rfl (by kernel_rfl) rfl ?_
  refine Sq.done ?_
  refine Ex'.next ?_
  refine Cd.seq ?_
  refine Cd.region rfl ?_
  refine Sq.vals [0] (rest := [1, 2]) [pV b3 0] (fun w => by kernel_rfl) ?_
  refine Sq.ex [0, 1, 2, 3, 4] (l := arcL b3 lt14 lt25 lb16 lb27 2 0 [⟨#[99]⟩] [⟨#[97]⟩] [⟨#[98]⟩] [] 8) (o_call (by kernel_rfl) Try.call13 (Tri.ex (L' := fun v => arcL b3 lt14 lt25 lb16 lb27 2 0 [⟨#[99]⟩] [⟨#[97]⟩] [⟨#[98]⟩] [] 8 ++ [rowR 9 1 v (([⟨#[98]⟩] : List ByteArray)).length ((([⟨#[98]⟩] : List ByteArray)).map Value.string)]) (arc_Ghosts (n := 8) (most := 2) (p := 0) (t1 := [⟨#[99]⟩]) (t2 := [⟨#[97]⟩]) (b1 := [⟨#[98]⟩]) (b2 := []) (by first | omega | (simp only [List.length_cons, List.length_nil]; omega))) (fun v => by kernel_rfl))) (by kernel_rfl) rfl (by kernel_rfl) (fun _ => Nat.le_of_ble_eq_true (by kernel_rfl)) ?_; rintro v10 _
  refine Sq.fact (i := 7) (R := rowR 9 1 v10 (([⟨#[98]⟩] : List ByteArray).length) (([⟨#[98]⟩] : List ByteArray).map Value.string)) (by kernel_rfl) row_slice ?_; rintro ⟨a11, c12, rfl, hc12, hc12'⟩
  have hc12'' : c12 ≤ 9223372036854775807 := hc12'
  refine Sq.vals [2] (rest := []) [.slice a11 (([⟨#[98]⟩] : List ByteArray).length) c12] (fun w => by kernel_rfl) ?_
  refine Sq.done ?_
  refine Ex'.next ?_
  refine Cd.seq ?_
  refine Cd.region rfl ?_
  refine Sq.vals [0] (rest := [1, 2, 3]) [pV b3 0] (fun w => by kernel_rfl) ?_
  refine Sq.same [0, 1, 2, 3, 4] (l := arcL b3 lt14 lt25 lb16 lb27 2 0 [⟨#[99]⟩] [⟨#[97]⟩] [⟨#[98]⟩] [] 8) (o_call (by kernel_rfl) Try.call10 (Tri.eq (l2 := arcL b3 lt14 lt25 lb16 lb27 2 1 [⟨#[99]⟩] [⟨#[98]⟩] [] [⟨#[97]⟩] 10) (r' := .agg #[bV false, sV ⟨#[97]⟩, bV true]) (arc_Request (n := 8) (n' := 10) (most := 2) (p := 0) (t1 := [⟨#[99]⟩]) (t2 := [⟨#[97]⟩]) (b1 := [⟨#[98]⟩]) (b2 := []) ⟨#[98]⟩ (by first | omega | (simp only [List.length_cons, List.length_nil]; omega)) (by first | omega | (simp only [List.length_cons, List.length_nil]; omega)) (by first | omega | (simp only [List.length_cons, List.length_nil]; omega)) (by first | omega | (simp only [List.length_cons, List.length_nil]; omega))) (by kernel_rfl) (by kernel_rfl))) (by kernel_rfl) rfl (by kernel_rfl) rfl ?_
  refine Sq.ex [] (l := []) (o_new [bV false, sV ⟨#[]⟩, bV false] (fun w => by kernel_rfl)) (by kernel_rfl) rfl (by kernel_rfl) (fun _ => Nat.zero_le _) ?_; intro b13 _
  refine Sq.same [8] (l := [blkR b13 [bV false, sV ⟨#[]⟩, bV false] 28]) (o_store (i := 0) (v := .agg #[bV false, sV ⟨#[97]⟩, bV true]) (by kernel_rfl) (by kernel_rfl) (by kernel_rfl) (by kernel_rfl) (by kernel_rfl)) (by kernel_rfl) rfl (by kernel_rfl) rfl ?_
  refine Sq.done ?_
  refine Ex'.next ?_
  refine Cd.seq ?_
  refine Cd.region rfl ?_
  refine Sq.same [5] (l := [blkR b8 [bV true, sV ⟨#[]⟩, bV false] 28]) (o_loadN (i := 0) [bV true, sV ⟨#[]⟩, bV false] (by kernel_rfl) (by kernel_rfl) (by kernel_rfl)) (by kernel_rfl) rfl (by kernel_rfl) rfl ?_
  refine Sq.vals [1, 2, 3] (rest := [4, 5, 6, 7, 8, 9, 10, 11, 12, 13, 14, 15, 16, 17, 18, 19, 20, 21, 22, 23, 24, 25, 26, 27, 28, 29, 30, 31, 32, 33, 34, 35, 36, 37, 38, 39, 40, 41, 42, 43, 44, 45, 46, 47, 48, 49, 50, 51, 52, 53, 54, 55, 56, 57, 58, 59, 60, 61]) [.agg #[bV true, sV ⟨#[]⟩, bV false], bV true, bV true] (fun w => by kernel_rfl) ?_
  refine Sq.same [6] (l := [blkR b9 [bV false, sV ⟨#[98]⟩, bV true] 28]) (o_loadN (i := 0) [bV false, sV ⟨#[98]⟩, bV true] (by kernel_rfl) (by kernel_rfl) (by kernel_rfl)) (by kernel_rfl) rfl (by kernel_rfl) rfl ?_
  refine Sq.vals [5, 6, 7, 8, 9] (rest := [10, 11, 12, 13, 14, 15, 16, 17, 18, 19, 20, 21, 22, 23, 24, 25, 26, 27, 28, 29, 30, 31, 32, 33, 34, 35, 36, 37, 38, 39, 40, 41, 42, 43, 44, 45, 46, 47, 48, 49, 50, 51, 52, 53, 54, 55, 56, 57, 58, 59, 60, 61]) [.agg #[bV false, sV ⟨#[98]⟩, bV true], bV true, bV true, bV true, .slice a11 (([⟨#[98]⟩] : List ByteArray).length) c12] (fun w => by kernel_rfl) ?_
  refine Sq.ex [] (l := []) (o_lit (sz := 1) (sV ⟨#[]⟩) [sV ⟨#[98]⟩] Try.underlying22 (by kernel_rfl) (by kernel_rfl) (by kernel_rfl) (by kernel_rfl) (by kernel_rfl)) (by kernel_rfl) rfl (by kernel_rfl) (fun _ => Nat.zero_le _) ?_; intro b14 _
  refine Sq.same [7, 9] (l := [rowR 9 1 (.slice a11 (([⟨#[98]⟩] : List ByteArray).length) c12) (([⟨#[98]⟩] : List ByteArray).length) (([⟨#[98]⟩] : List ByteArray).map Value.string), blkR b14 [sV ⟨#[98]⟩] 9]) (o_call (by kernel_rfl) Try.call14 ((t_same03 (l := [rowR 9 1 (.slice a11 (([⟨#[98]⟩] : List ByteArray).length) c12) (([⟨#[98]⟩] : List ByteArray).length) (([⟨#[98]⟩] : List ByteArray).map Value.string), blkR b14 [sV ⟨#[98]⟩] 9]) (xs := ([⟨#[98]⟩] : List ByteArray)) (ys := [⟨#[98]⟩]) (fun w own hH => ⟨⟨_, Row.strs (hH 0 _ rfl)⟩, ⟨_, blk_strs rfl rfl (by kernel_rfl) (hH 1 _ rfl)⟩⟩)).re (vT (by decide)))) (by kernel_rfl) rfl (by kernel_rfl) rfl ?_
  refine Sq.vals [12, 13, 14] (rest := [15, 16, 17, 18, 19, 20, 21, 22, 23, 24, 25, 26, 27, 28, 29, 30, 31, 32, 33, 34, 35, 36, 37, 38, 39, 40, 41, 42, 43, 44, 45, 46, 47, 48, 49, 50, 51, 52, 53, 54, 55, 56, 57, 58, 59, 60, 61]) [bV true, bV true, pV b13 2] (fun w => by kernel_rfl) ?_
  refine Sq.same [8] (l := [blkR b13 [bV false, sV ⟨#[97]⟩, bV true] 28]) (o_load (i := 2) (v := bV true) (by kernel_rfl) (by kernel_rfl) (by kernel_rfl)) (by kernel_rfl) rfl (by kernel_rfl) rfl ?_
  refine Sq.vals [16, 17, 18] (rest := [19, 20, 21, 22, 23, 24, 25, 26, 27, 28, 29, 30, 31, 32, 33, 34, 35, 36, 37, 38, 39, 40, 41, 42, 43, 44, 45, 46, 47, 48, 49, 50, 51, 52, 53, 54, 55, 56, 57, 58, 59, 60, 61]) [bV true, bV true, pV b13 1] (fun w => by kernel_rfl) ?_
  refine Sq.same [8] (l := [blkR b13 [bV false, sV ⟨#[97]⟩, bV true] 28]) (o_load (i := 1) (v := sV ⟨#[97]⟩) (by kernel_rfl) (by kernel_rfl) (by kernel_rfl)) (by kernel_rfl) rfl (by kernel_rfl) rfl ?_
  refine Sq.v (r := bV (decide ((⟨#[97]⟩ : ByteArray) = ⟨#[97]⟩))) (o_eqS (a := ⟨#[97]⟩) (b := ⟨#[97]⟩) (by kernel_rfl) (by kernel_rfl)) rfl (by kernel_rfl) ?_
  refine Sq.re 41 rfl (vT (by decide)) ?_
  refine Sq.vals [21, 22, 23] (rest := [24, 25, 26, 27, 28, 29, 30, 31, 32, 33, 34, 35, 36, 37, 38, 39, 40, 41, 42, 43, 44, 45, 46, 47, 48, 49, 50, 51, 52, 53, 54, 55, 56, 57, 58, 59, 60, 61]) [bV true, bV true, pV b3 0] (fun w => by kernel_rfl) ?_
  refine Sq.same [0, 1, 2, 3, 4] (l := arcL b3 lt14 lt25 lb16 lb27 2 1 [⟨#[99]⟩] [⟨#[98]⟩] [] [⟨#[97]⟩] 10) (o_call (by kernel_rfl) Try.call11 (Tri.eq (l2 := arcL b3 lt14 lt25 lb16 lb27 2 1 [⟨#[99]⟩] [⟨#[98]⟩] [] [⟨#[97]⟩] 10) (r' := iV 1) (arc_Share (n := 10) (most := 2) (p := 1) (t1 := [⟨#[99]⟩]) (t2 := [⟨#[98]⟩]) (b1 := []) (b2 := [⟨#[97]⟩]) (by first | omega | (simp only [List.length_cons, List.length_nil]; omega))) (by kernel_rfl) (by kernel_rfl))) (by kernel_rfl) rfl (by kernel_rfl) rfl ?_
  refine Sq.vals [25, 26, 27, 28] (rest := [29, 30, 31, 32, 33, 34, 35, 36, 37, 38, 39, 40, 41, 42, 43, 44, 45, 46, 47, 48, 49, 50, 51, 52, 53, 54, 55, 56, 57, 58, 59, 60, 61]) [bV true, bV true, bV true, pV b3 0] (fun w => by kernel_rfl) ?_
  refine Sq.same [0, 1, 2, 3, 4] (l := arcL b3 lt14 lt25 lb16 lb27 2 1 [⟨#[99]⟩] [⟨#[98]⟩] [] [⟨#[97]⟩] 10) (o_call (by kernel_rfl) Try.call12 (Tri.eq (l2 := arcL b3 lt14 lt25 lb16 lb27 2 1 [⟨#[99]⟩] [⟨#[98]⟩] [] [⟨#[97]⟩] 10) (r' := .agg #[iV 1, iV 1, iV 0, iV 1]) (arc_Sizes (n := 10) (most := 2) (p := 1) (t1 := [⟨#[99]⟩]) (t2 := [⟨#[98]⟩]) (b1 := []) (b2 := [⟨#[97]⟩]) (by first | omega | (simp only [List.length_cons, List.length_nil]; omega))) (by kernel_rfl) (by kernel_rfl))) (by kernel_rfl) rfl (by kernel_rfl) rfl ?_
  refine Sq.vals [30, 31, 32, 33, 34] (rest := [35, 36, 37, 38, 39, 40, 41, 42, 43, 44, 45, 46, 47, 48, 49, 50, 51, 52, 53, 54, 55, 56, 57, 58, 59, 60, 61]) [.agg #[iV 1, iV 1, iV 0, iV 1], bV true, bV true, bV true, pV b3 0] (fun w => by kernel_rfl) ?_
  refine Sq.ex [0, 1, 2, 3, 4] (l := arcL b3 lt14 lt25 lb16 lb27 2 1 [⟨#[99]⟩] [⟨#[98]⟩] [] [⟨#[97]⟩] 10) (o_call (by kernel_rfl) Try.call15 (Tri.ex (L' := fun v => arcL b3 lt14 lt25 lb16 lb27 2 1 [⟨#[99]⟩] [⟨#[98]⟩] [] [⟨#[97]⟩] 10 ++ [rowR 9 1 v (([⟨#[99]⟩, ⟨#[98]⟩] : List ByteArray)).length ((([⟨#[99]⟩, ⟨#[98]⟩] : List ByteArray)).map Value.string)]) (arc_Keys (n := 10) (most := 2) (p := 1) (t1 := [⟨#[99]⟩]) (t2 := [⟨#[98]⟩]) (b1 := []) (b2 := [⟨#[97]⟩]) (by first | omega | (simp only [List.length_cons, List.length_nil]; omega))) (fun v => by kernel_rfl))) (by kernel_rfl) rfl (by kernel_rfl) (fun _ => Nat.le_of_ble_eq_true (by kernel_rfl)) ?_; rintro v15 _
  refine Sq.fact (i := 10) (R := rowR 9 1 v15 (([⟨#[99]⟩, ⟨#[98]⟩] : List ByteArray).length) (([⟨#[99]⟩, ⟨#[98]⟩] : List ByteArray).map Value.string)) (by kernel_rfl) row_slice ?_; rintro ⟨a16, c17, rfl, hc17, hc17'⟩
  have hc17'' : c17 ≤ 9223372036854775807 := hc17'
  refine Sq.ex [] (l := []) (o_lit (sz := 1) (sV ⟨#[]⟩) [sV ⟨#[99]⟩, sV ⟨#[98]⟩] Try.underlying22 (by kernel_rfl) (by kernel_rfl) (by kernel_rfl) (by kernel_rfl) (by kernel_rfl)) (by kernel_rfl) rfl (by kernel_rfl) (fun _ => Nat.zero_le _) ?_; intro b18 _
  refine Sq.same [10, 11] (l := [rowR 9 1 (.slice a16 (([⟨#[99]⟩, ⟨#[98]⟩] : List ByteArray).length) c17) (([⟨#[99]⟩, ⟨#[98]⟩] : List ByteArray).length) (([⟨#[99]⟩, ⟨#[98]⟩] : List ByteArray).map Value.string), blkR b18 [sV ⟨#[99]⟩, sV ⟨#[98]⟩] 9]) (o_call (by kernel_rfl) Try.call14 ((t_same03 (l := [rowR 9 1 (.slice a16 (([⟨#[99]⟩, ⟨#[98]⟩] : List ByteArray).length) c17) (([⟨#[99]⟩, ⟨#[98]⟩] : List ByteArray).length) (([⟨#[99]⟩, ⟨#[98]⟩] : List ByteArray).map Value.string), blkR b18 [sV ⟨#[99]⟩, sV ⟨#[98]⟩] 9]) (xs := ([⟨#[99]⟩, ⟨#[98]⟩] : List ByteArray)) (ys := [⟨#[99]⟩, ⟨#[98]⟩]) (fun w own hH => ⟨⟨_, Row.strs (hH 0 _ rfl)⟩, ⟨_, blk_strs rfl rfl (by kernel_rfl) (hH 1 _ rfl)⟩⟩)).re (vT (by decide)))) (by kernel_rfl) rfl (by kernel_rfl) rfl ?_
  refine Sq.vals [38, 39, 40] (rest := [41, 42, 43, 44, 45, 46, 47, 48, 49, 50, 51, 52, 53, 54, 55, 56, 57, 58, 59, 60, 61]) [bV true, bV true, pV b3 0] (fun w => by kernel_rfl) ?_
  refine Sq.same [0, 1, 2, 3, 4] (l := arcL b3 lt14 lt25 lb16 lb27 2 1 [⟨#[99]⟩] [⟨#[98]⟩] [] [⟨#[97]⟩] 10) (o_call (by kernel_rfl) Try.call23 (Tri.eq (l2 := arcL b3 lt14 lt25 lb16 lb27 2 1 [⟨#[99]⟩] [⟨#[98]⟩] [] [⟨#[97]⟩] 10) (r' := iV 2) (arc_Len (n := 10) (most := 2) (p := 1) (t1 := [⟨#[99]⟩]) (t2 := [⟨#[98]⟩]) (b1 := []) (b2 := [⟨#[97]⟩]) (by first | omega | (simp only [List.length_cons, List.length_nil]; omega))) (by kernel_rfl) (by kernel_rfl))) (by kernel_rfl) rfl (by kernel_rfl) rfl ?_
  refine Sq.vals [42, 43, 44, 45] (rest := [46, 47, 48, 49, 50, 51, 52, 53, 54, 55, 56, 57, 58, 59, 60, 61]) [bV true, bV true, bV true, pV b3 0] (fun w => by kernel_rfl) ?_
  refine Sq.same [0, 1, 2, 3, 4] (l := arcL b3 lt14 lt25 lb16 lb27 2 1 [⟨#[99]⟩] [⟨#[98]⟩] [] [⟨#[97]⟩] 10) (o_call (by kernel_rfl) Try.call16 (Tri.eq (l2 := arcL b3 lt14 lt25 lb16 lb27 2 1 [⟨#[99]⟩] [⟨#[98]⟩] [] [⟨#[97]⟩] 10) (r' := bV true) (arc_Has (n := 10) (most := 2) (p := 1) (t1 := [⟨#[99]⟩]) (t2 := [⟨#[98]⟩]) (b1 := []) (b2 := [⟨#[97]⟩]) ⟨#[98]⟩ (by first | omega | (simp only [List.length_cons, List.length_nil]; omega))) (by kernel_rfl) (by kernel_rfl))) (by kernel_rfl) rfl (by kernel_rfl) rfl ?_
  refine Sq.vals [47, 48, 49] (rest := [50, 51, 52, 53, 54, 55, 56, 57, 58, 59, 60, 61]) [bV true, bV true, pV b3 0] (fun w => by kernel_rfl) ?_
  refine Sq.same [0, 1, 2, 3, 4] (l := arcL b3 lt14 lt25 lb16 lb27 2 1 [⟨#[99]⟩] [⟨#[98]⟩] [] [⟨#[97]⟩] 10) (o_call (by kernel_rfl) Try.call20 (Tri.eq (l2 := arcL b3 lt14 lt25 lb16 lb27 2 1 [⟨#[99]⟩] [⟨#[98]⟩] [] [⟨#[97]⟩] 11) (r' := bV false) (arc_Adopt (n := 10) (n' := 11) (most := 2) (p := 1) (t1 := [⟨#[99]⟩]) (t2 := [⟨#[98]⟩]) (b1 := []) (b2 := [⟨#[97]⟩]) ⟨#[113]⟩ (by first | omega | (simp only [List.length_cons, List.length_nil]; omega)) (by first | omega | (simp only [List.length_cons, List.length_nil]; omega)) (by first | omega | (simp only [List.length_cons, List.length_nil]; omega))) (by kernel_rfl) (by kernel_rfl))) (by kernel_rfl) rfl (by kernel_rfl) rfl ?_
  refine Sq.vals [51, 52, 53, 54] (rest := [55, 56, 57, 58, 59, 60, 61]) [bV true, bV true, bV true, pV b3 0] (fun w => by kernel_rfl) ?_
  refine Sq.same [0, 1, 2, 3, 4] (l := arcL b3 lt14 lt25 lb16 lb27 2 1 [⟨#[99]⟩] [⟨#[98]⟩] [] [⟨#[97]⟩] 11) (o_call (by kernel_rfl) Try.call19 (Tri.eq (l2 := arcL b3 lt14 lt25 lb16 lb27 2 1 [⟨#[99]⟩] [] [] [⟨#[97]⟩] 11) (r' := bV true) (arc_Remove (n := 11) (most := 2) (p := 1) (t1 := [⟨#[99]⟩]) (t2 := [⟨#[98]⟩]) (b1 := []) (b2 := [⟨#[97]⟩]) ⟨#[98]⟩ (by first | omega | (simp only [List.length_cons, List.length_nil]; omega))) (by kernel_rfl) (by kernel_rfl))) (by kernel_rfl) rfl (by kernel_rfl) rfl ?_
  refine Sq.vals [56, 57, 58] (rest := [59, 60, 61]) [bV true, bV true, pV b3 0] (fun w => by kernel_rfl) ?_
  refine Sq.same [0, 1, 2, 3, 4] (l := arcL b3 lt14 lt25 lb16 lb27 2 1 [⟨#[99]⟩] [] [] [⟨#[97]⟩] 11) (o_call (by kernel_rfl) Try.call20 (Tri.eq (l2 := arcL b3 lt14 lt25 lb16 lb27 2 1 [⟨#[113]⟩, ⟨#[99]⟩] [] [] [⟨#[97]⟩] 12) (r' := bV true) (arc_Adopt (n := 11) (n' := 12) (most := 2) (p := 1) (t1 := [⟨#[99]⟩]) (t2 := []) (b1 := []) (b2 := [⟨#[97]⟩]) ⟨#[113]⟩ (by first | omega | (simp only [List.length_cons, List.length_nil]; omega)) (by first | omega | (simp only [List.length_cons, List.length_nil]; omega)) (by first | omega | (simp only [List.length_cons, List.length_nil]; omega))) (by kernel_rfl) (by kernel_rfl))) (by kernel_rfl) rfl (by kernel_rfl) rfl ?_
  refine Sq.vals [60, 61] (rest := []) [bV true, bV true] (fun w => by kernel_rfl) ?_
  refine Sq.done ?_
  refine Ex'.next ?_
  refine Cd.ret ?_
  refine Ex'.ret Try.results7 (RVs.tmp (v := bV true) (by kernel_rfl) (RVs.nil)) (fun w hw => ?_)
  exact ⟨[], ⟨rfl, rfl⟩, hw.pickB [] (by kernel_rfl) (by kernel_rfl) (by kernel_rfl)⟩

end Go.Proofs.Ytnijaeipkbpibaa
