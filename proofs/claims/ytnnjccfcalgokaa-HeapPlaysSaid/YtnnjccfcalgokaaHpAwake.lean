/- Package heap: awake. -/
import Derived.Test.YtnnjccfcalgokaaHpX
import Derived.Test.YtnnjccfcalgokaaHpO
import Derived.Test.YtnnjccfcalgokaaActsH
set_option linter.unusedVariables false
namespace Go.Proofs.Ytnnjccfcalgokaa
open Go.RowKit Go.MapKept

set_option maxHeartbeats 8000000 in
set_option maxRecDepth 100000 in
theorem heap_awake   : Tri Try.prog 13 #[] [] (Same [] (bV true)) := by
  refine Tri.enter (args := []) Try.func13 rfl rfl rfl (fun B wz => ?_)
  refine Cd.seq ?_
  refine Cd.region rfl ?_
  refine Sq.vals [0] (rest := []) [bV false] (fun w => by kernel_rfl) ?_
  refine Sq.done ?_
  refine Ex'.next ?_
  refine Cd.seq ?_
  refine Cd.region rfl ?_
  refine Sq.ex [] (l := []) (o_call (by kernel_rfl) Try.call14 (hp_NewS)) (by kernel_rfl) rfl (by kernel_rfl) (fun _ => Nat.le_of_ble_eq_true (by kernel_rfl)) ?_; rintro b1 _
  refine Sq.vals [1] (rest := []) [pV b1 0] (fun w => by kernel_rfl) ?_
  refine Sq.done ?_
  refine Ex'.next ?_
  refine Cd.seq ?_
  refine Cd.seq ?_
  refine Cd.region rfl ?_
  refine Sq.vals [0, 1] (rest := []) [pV b1 0, bV false] (fun w => by kernel_rfl) ?_
  refine Sq.done ?_
  refine Ex'.next ?_
  refine Cd.condF (by kernel_rfl) ?_
  refine Cd.skip ?_
  refine Ex'.next ?_
  refine Cd.seq ?_
  refine Cd.region rfl ?_
  refine Sq.vals [0, 1] (rest := [2]) [pV b1 0, .agg #[iV 2, iV 0]] (fun w => by kernel_rfl) ?_
  refine Sq.same [0] (l := [hpS b1 [] 0]) (o_call (by kernel_rfl) Try.call16 (Tri.eq (l2 := [hpS b1 ([(⟨#[97]⟩, (2, 0))] : List (KR ByteArray)) (0 + 1)]) (r' := .tuple #[]) (hp_SetS (S := []) (n := 0) ⟨#[97]⟩ 2 0 (by first | omega | (simp only [List.length_cons, List.length_nil]; omega))) (by kernel_rfl) (by kernel_rfl))) (by kernel_rfl) rfl (by kernel_rfl) rfl ?_
  refine Sq.done ?_
  refine Ex'.next ?_
  refine Cd.seq ?_
  refine Cd.region rfl ?_
  refine Sq.vals [0, 1] (rest := [2]) [pV b1 0, .agg #[iV 1, iV 9]] (fun w => by kernel_rfl) ?_
  refine Sq.same [0] (l := [hpS b1 ([(⟨#[97]⟩, (2, 0))] : List (KR ByteArray)) (0 + 1)]) (o_call (by kernel_rfl) Try.call16 (Tri.eq (l2 := [hpS b1 ([(⟨#[98]⟩, (1, 9)), (⟨#[97]⟩, (2, 0))] : List (KR ByteArray)) (0 + 2)]) (r' := .tuple #[]) (hp_SetS (S := ([(⟨#[97]⟩, (2, 0))] : List (KR ByteArray))) (n := 0 + 1) ⟨#[98]⟩ 1 9 (by first | omega | (simp only [List.length_cons, List.length_nil]; omega))) (by kernel_rfl) (by kernel_rfl))) (by kernel_rfl) rfl (by kernel_rfl) rfl ?_
  refine Sq.done ?_
  refine Ex'.next ?_
  refine Cd.seq ?_
  refine Cd.region rfl ?_
  refine Sq.vals [0, 1] (rest := [2]) [pV b1 0, .agg #[iV 2, iV 0]] (fun w => by kernel_rfl) ?_
  refine Sq.same [0] (l := [hpS b1 ([(⟨#[98]⟩, (1, 9)), (⟨#[97]⟩, (2, 0))] : List (KR ByteArray)) (0 + 2)]) (o_call (by kernel_rfl) Try.call16 (Tri.eq (l2 := [hpS b1 ([(⟨#[98]⟩, (1, 9)), (⟨#[97]⟩, (2, 0)), (⟨#[99]⟩, (2, 0))] : List (KR ByteArray)) (0 + 3)]) (r' := .tuple #[]) (hp_SetS (S := ([(⟨#[98]⟩, (1, 9)), (⟨#[97]⟩, (2, 0))] : List (KR ByteArray))) (n := 0 + 2) ⟨#[99]⟩ 2 0 (by first | omega | (simp only [List.length_cons, List.length_nil]; omega))) (by kernel_rfl) (by kernel_rfl))) (by kernel_rfl) rfl (by kernel_rfl) rfl ?_
  refine Sq.done ?_
  refine Ex'.next ?_
  refine Cd.seq ?_
  refine Cd.region rfl ?_
  refine Sq.vals [0] (rest := [1, 2, 3, 4, 5, 6, 7, 8, 9]) [pV b1 0] (fun w => by kernel_rfl) ?_
  refine Sq.same [0] (l := [hpS b1 ([(⟨#[98]⟩, (1, 9)), (⟨#[97]⟩, (2, 0)), (⟨#[99]⟩, (2, 0))] : List (KR ByteArray)) (0 + 3)]) (o_call (by kernel_rfl) Try.call22 (Tri.eq (l2 := [hpS b1 ([(⟨#[98]⟩, (1, 9)), (⟨#[97]⟩, (2, 0)), (⟨#[99]⟩, (2, 0))] : List (KR ByteArray)) (0 + 3)]) (r' := .tuple #[sV ⟨#[98]⟩, .agg #[iV 1, iV 9], bV true]) (hp_LeastS (S := ([(⟨#[98]⟩, (1, 9)), (⟨#[97]⟩, (2, 0)), (⟨#[99]⟩, (2, 0))] : List (KR ByteArray))) (n := 0 + 3) (by first | omega | (simp only [List.length_cons, List.length_nil]; omega))) (by kernel_rfl) (by kernel_rfl))) (by kernel_rfl) rfl (by kernel_rfl) rfl ?_
  refine Sq.vals [2, 3, 4, 5] (rest := [6, 7, 8, 9]) [.tuple #[sV ⟨#[98]⟩, .agg #[iV 1, iV 9], bV true], sV ⟨#[98]⟩, .agg #[iV 1, iV 9], bV true] (fun w => by kernel_rfl) ?_
  refine Sq.ex [] (l := []) (o_new [iV 0, iV 0] (fun w => by kernel_rfl)) (by kernel_rfl) rfl (by kernel_rfl) (fun _ => Nat.zero_le _) ?_; intro b2 _
  refine Sq.vals [7] (rest := [8, 9]) [sV ⟨#[98]⟩] (fun w => by kernel_rfl) ?_
  refine Sq.same [1] (l := [blkR b2 [iV 0, iV 0] 28]) (o_store (i := 0) (v := .agg #[iV 1, iV 9]) (by kernel_rfl) (by kernel_rfl) (by kernel_rfl) (by kernel_rfl) (by kernel_rfl)) (by kernel_rfl) rfl (by kernel_rfl) rfl ?_
  refine Sq.vals [9] (rest := []) [bV true] (fun w => by kernel_rfl) ?_
  refine Sq.done ?_
  refine Ex'.next ?_
  refine Cd.seq ?_
  refine Cd.region rfl ?_
  refine Sq.vals [0] (rest := [1, 2, 3, 4, 5, 6, 7]) [pV b1 0] (fun w => by kernel_rfl) ?_
  refine Sq.same [0] (l := [hpS b1 ([(⟨#[98]⟩, (1, 9)), (⟨#[97]⟩, (2, 0)), (⟨#[99]⟩, (2, 0))] : List (KR ByteArray)) (0 + 3)]) (o_call (by kernel_rfl) Try.call21 (Tri.eq (l2 := [hpS b1 ([(⟨#[98]⟩, (1, 9)), (⟨#[97]⟩, (2, 0)), (⟨#[99]⟩, (2, 0))] : List (KR ByteArray)) (0 + 3)]) (r' := .tuple #[.agg #[iV 2, iV 0], bV true]) (hp_RankS (S := ([(⟨#[98]⟩, (1, 9)), (⟨#[97]⟩, (2, 0)), (⟨#[99]⟩, (2, 0))] : List (KR ByteArray))) (n := 0 + 3) ⟨#[97]⟩ (by first | omega | (simp only [List.length_cons, List.length_nil]; omega))) (by kernel_rfl) (by kernel_rfl))) (by kernel_rfl) rfl (by kernel_rfl) rfl ?_
  refine Sq.vals [2, 3, 4] (rest := [5, 6, 7]) [.tuple #[.agg #[iV 2, iV 0], bV true], .agg #[iV 2, iV 0], bV true] (fun w => by kernel_rfl) ?_
  refine Sq.ex [] (l := []) (o_new [iV 0, iV 0] (fun w => by kernel_rfl)) (by kernel_rfl) rfl (by kernel_rfl) (fun _ => Nat.zero_le _) ?_; intro b3 _
  refine Sq.same [2] (l := [blkR b3 [iV 0, iV 0] 28]) (o_store (i := 0) (v := .agg #[iV 2, iV 0]) (by kernel_rfl) (by kernel_rfl) (by kernel_rfl) (by kernel_rfl) (by kernel_rfl)) (by kernel_rfl) rfl (by kernel_rfl) rfl ?_
  refine Sq.vals [7] (rest := []) [bV true] (fun w => by kernel_rfl) ?_
  refine Sq.done ?_
  refine Ex'.next ?_
  refine Cd.seq ?_
  refine Cd.region rfl ?_
  refine Sq.vals [0] (rest := [1, 2]) [pV b1 0] (fun w => by kernel_rfl) ?_
  refine Sq.ex [0] (l := [hpS b1 ([(⟨#[98]⟩, (1, 9)), (⟨#[97]⟩, (2, 0)), (⟨#[99]⟩, (2, 0))] : List (KR ByteArray)) (0 + 3)]) (o_call (by kernel_rfl) Try.call24 (Tri.ex (L' := fun v => [hpS b1 ([(⟨#[98]⟩, (1, 9)), (⟨#[97]⟩, (2, 0)), (⟨#[99]⟩, (2, 0))] : List (KR ByteArray)) (0 + 3), rowR 9 1 v (([⟨#[98]⟩, ⟨#[97]⟩, ⟨#[99]⟩] : List ByteArray).length) (([⟨#[98]⟩, ⟨#[97]⟩, ⟨#[99]⟩] : List ByteArray).map Value.string)]) (hp_OrderS (S := ([(⟨#[98]⟩, (1, 9)), (⟨#[97]⟩, (2, 0)), (⟨#[99]⟩, (2, 0))] : List (KR ByteArray))) (n := 0 + 3) (by first | omega | (simp only [List.length_cons, List.length_nil]; omega))) (fun v => by kernel_rfl))) (by kernel_rfl) rfl (by kernel_rfl) (fun _ => Nat.le_of_ble_eq_true (by kernel_rfl)) ?_; rintro v4 _
  refine Sq.fact (i := 3) (R := rowR 9 1 v4 (([⟨#[98]⟩, ⟨#[97]⟩, ⟨#[99]⟩] : List ByteArray).length) (([⟨#[98]⟩, ⟨#[97]⟩, ⟨#[99]⟩] : List ByteArray).map Value.string)) (by kernel_rfl) row_slice ?_; rintro ⟨a5, c6, rfl, hc6, hc6'⟩
  have hc6'' : c6 ≤ 9223372036854775807 := hc6'
  refine Sq.fact (i := 3) (R := rowR 9 1 (.slice a5 (([⟨#[98]⟩, ⟨#[97]⟩, ⟨#[99]⟩] : List ByteArray).length) c6) (([⟨#[98]⟩, ⟨#[97]⟩, ⟨#[99]⟩] : List ByteArray).length) (([⟨#[98]⟩, ⟨#[97]⟩, ⟨#[99]⟩] : List ByteArray).map Value.string)) (by kernel_rfl) (row_addr (by decide)) ?_; rintro ⟨b7, rfl⟩
  refine Sq.vals [2] (rest := []) [.slice (some ⟨b7, 0, none⟩) (([⟨#[98]⟩, ⟨#[97]⟩, ⟨#[99]⟩] : List ByteArray).length) c6] (fun w => by kernel_rfl) ?_
  refine Sq.done ?_
  refine Ex'.next ?_
  refine Cd.seq ?_
  refine Cd.region rfl ?_
  refine Sq.vals [0] (rest := [1, 2, 3, 4, 5, 6]) [pV b1 0] (fun w => by kernel_rfl) ?_
  refine Sq.same [0] (l := [hpS b1 ([(⟨#[98]⟩, (1, 9)), (⟨#[97]⟩, (2, 0)), (⟨#[99]⟩, (2, 0))] : List (KR ByteArray)) (0 + 3)]) (o_call (by kernel_rfl) Try.call20 (Tri.eq (l2 := [hpS b1 (([(⟨#[98]⟩, (1, 9)), (⟨#[97]⟩, (2, 0)), (⟨#[99]⟩, (2, 0))] : List (KR ByteArray)).tail) (0 + 3)]) (r' := .tuple #[sV ⟨#[98]⟩, bV true]) (hp_PopS (S := ([(⟨#[98]⟩, (1, 9)), (⟨#[97]⟩, (2, 0)), (⟨#[99]⟩, (2, 0))] : List (KR ByteArray))) (n := 0 + 3) (by first | omega | (simp only [List.length_cons, List.length_nil]; omega))) (by kernel_rfl) (by kernel_rfl))) (by kernel_rfl) rfl (by kernel_rfl) rfl ?_
  refine Sq.vals [2, 3, 4, 5, 6] (rest := []) [.tuple #[sV ⟨#[98]⟩, bV true], sV ⟨#[98]⟩, bV true, sV ⟨#[98]⟩, bV true] (fun w => by kernel_rfl) ?_
  refine Sq.done ?_
  refine Ex'.next ?_
  refine Cd.seq ?_
  refine Cd.region rfl ?_
  refine Sq.vals [0] (rest := [1, 2, 3, 4, 5, 6, 7, 8, 9, 10, 11, 12, 13, 14, 15, 16, 17, 18, 19, 20, 21, 22, 23, 24, 25, 26, 27, 28, 29, 30, 31, 32, 33, 34, 35, 36, 37, 38, 39, 40, 41, 42, 43, 44, 45, 46, 47, 48, 49, 50, 51, 52, 53, 54, 55, 56, 57, 58, 59, 60, 61]) [sV ⟨#[98]⟩] (fun w => by kernel_rfl) ?_
  refine Sq.v (r := bV (decide ((⟨#[98]⟩ : ByteArray) = ⟨#[98]⟩))) (o_eqS (a := ⟨#[98]⟩) (b := ⟨#[98]⟩) (by kernel_rfl) (by kernel_rfl)) rfl (by kernel_rfl) ?_
  refine Sq.re 41 rfl (vT (by decide)) ?_
  refine Sq.vals [2] (rest := [3, 4, 5, 6, 7, 8, 9, 10, 11, 12, 13, 14, 15, 16, 17, 18, 19, 20, 21, 22, 23, 24, 25, 26, 27, 28, 29, 30, 31, 32, 33, 34, 35, 36, 37, 38, 39, 40, 41, 42, 43, 44, 45, 46, 47, 48, 49, 50, 51, 52, 53, 54, 55, 56, 57, 58, 59, 60, 61]) [bV true] (fun w => by kernel_rfl) ?_
  refine Sq.same [1] (l := [blkR b2 [iV 1, iV 9] 28]) (o_loadN (i := 0) [iV 1, iV 9] (by kernel_rfl) (by kernel_rfl) (by kernel_rfl)) (by kernel_rfl) rfl (by kernel_rfl) rfl ?_
  refine Sq.vals [4, 5, 6, 7, 8, 9, 10, 11] (rest := [12, 13, 14, 15, 16, 17, 18, 19, 20, 21, 22, 23, 24, 25, 26, 27, 28, 29, 30, 31, 32, 33, 34, 35, 36, 37, 38, 39, 40, 41, 42, 43, 44, 45, 46, 47, 48, 49, 50, 51, 52, 53, 54, 55, 56, 57, 58, 59, 60, 61]) [.agg #[iV 1, iV 9], bV true, bV true, bV true, bV true, bV true, bV true, pV b3 0] (fun w => by kernel_rfl) ?_
  refine Sq.same [2] (l := [blkR b3 [iV 2, iV 0] 28]) (o_load (i := 0) (v := iV 2) (by kernel_rfl) (by kernel_rfl) (by kernel_rfl)) (by kernel_rfl) rfl (by kernel_rfl) rfl ?_
  refine Sq.vals [13, 14, 15, 16, 17, 18, 19, 20] (rest := [21, 22, 23, 24, 25, 26, 27, 28, 29, 30, 31, 32, 33, 34, 35, 36, 37, 38, 39, 40, 41, 42, 43, 44, 45, 46, 47, 48, 49, 50, 51, 52, 53, 54, 55, 56, 57, 58, 59, 60, 61]) [bV true, bV true, bV true, bV true, bV true, bV true, .slice (some ⟨b7, 0, none⟩) (([⟨#[98]⟩, ⟨#[97]⟩, ⟨#[99]⟩] : List ByteArray).length) c6, iV (([⟨#[98]⟩, ⟨#[97]⟩, ⟨#[99]⟩] : List ByteArray).length : Int)] (fun w => by kernel_rfl) ?_
  refine Sq.v (r := bV (decide ((([⟨#[98]⟩, ⟨#[97]⟩, ⟨#[99]⟩] : List ByteArray).length : Int) = 3))) (o_eqI (k := .i64) (a := (([⟨#[98]⟩, ⟨#[97]⟩, ⟨#[99]⟩] : List ByteArray).length : Int)) (b := 3) (by kernel_rfl) (by kernel_rfl)) rfl (by kernel_rfl) ?_
  refine Sq.re 61 rfl (vT (by decide)) ?_
  refine Sq.vals [22, 23, 24] (rest := [25, 26, 27, 28, 29, 30, 31, 32, 33, 34, 35, 36, 37, 38, 39, 40, 41, 42, 43, 44, 45, 46, 47, 48, 49, 50, 51, 52, 53, 54, 55, 56, 57, 58, 59, 60, 61]) [bV true, bV true, .slice (some ⟨b7, 0, none⟩) (([⟨#[98]⟩, ⟨#[97]⟩, ⟨#[99]⟩] : List ByteArray).length) c6] (fun w => by kernel_rfl) ?_
  refine Sq.v (r := pV b7 1) (o_idx (b := b7) (cap := c6) (e := 9) (off := 0) (n := ([⟨#[98]⟩, ⟨#[97]⟩, ⟨#[99]⟩] : List ByteArray).length) (kd := .i64) (q := 1) (i := 1) (size := 1) (j := 1) (by kernel_rfl) (by kernel_rfl) (by rfl) (by first | omega | (simp only [List.length_cons, List.length_nil]; omega)) Try.underlying47 (by kernel_rfl) (by first | omega | (simp only [List.length_cons, List.length_nil]; omega))) rfl (by kernel_rfl) ?_
  refine Sq.same [3] (l := [rowR 9 1 (.slice (some ⟨b7, 0, none⟩) (([⟨#[98]⟩, ⟨#[97]⟩, ⟨#[99]⟩] : List ByteArray).length) c6) (([⟨#[98]⟩, ⟨#[97]⟩, ⟨#[99]⟩] : List ByteArray).length) (([⟨#[98]⟩, ⟨#[97]⟩, ⟨#[99]⟩] : List ByteArray).map Value.string)]) (o_loadRow (i := 1) (u := sV (([⟨#[98]⟩, ⟨#[97]⟩, ⟨#[99]⟩] : List ByteArray).getD 1 ⟨#[]⟩)) (by kernel_rfl) (by first | omega | (simp only [List.length_cons, List.length_nil]; omega)) (by kernel_rfl) (get_map (by first | omega | (simp only [List.length_cons, List.length_nil]; omega)))) (by kernel_rfl) rfl (by kernel_rfl) rfl ?_
  refine Sq.v (r := bV (decide (([⟨#[98]⟩, ⟨#[97]⟩, ⟨#[99]⟩] : List ByteArray).getD 1 ⟨#[]⟩ = ⟨#[97]⟩))) (o_eqS (a := ([⟨#[98]⟩, ⟨#[97]⟩, ⟨#[99]⟩] : List ByteArray).getD 1 ⟨#[]⟩) (b := ⟨#[97]⟩) (by kernel_rfl) (by kernel_rfl)) rfl (by kernel_rfl) ?_
  refine Sq.re 67 rfl (vT (by decide)) ?_
  refine Sq.vals [28, 29, 30] (rest := [31, 32, 33, 34, 35, 36, 37, 38, 39, 40, 41, 42, 43, 44, 45, 46, 47, 48, 49, 50, 51, 52, 53, 54, 55, 56, 57, 58, 59, 60, 61]) [bV true, bV true, .slice (some ⟨b7, 0, none⟩) (([⟨#[98]⟩, ⟨#[97]⟩, ⟨#[99]⟩] : List ByteArray).length) c6] (fun w => by kernel_rfl) ?_
  refine Sq.v (r := pV b7 2) (o_idx (b := b7) (cap := c6) (e := 9) (off := 0) (n := ([⟨#[98]⟩, ⟨#[97]⟩, ⟨#[99]⟩] : List ByteArray).length) (kd := .i64) (q := 2) (i := 2) (size := 1) (j := 2) (by kernel_rfl) (by kernel_rfl) (by rfl) (by first | omega | (simp only [List.length_cons, List.length_nil]; omega)) Try.underlying47 (by kernel_rfl) (by first | omega | (simp only [List.length_cons, List.length_nil]; omega))) rfl (by kernel_rfl) ?_
  refine Sq.same [3] (l := [rowR 9 1 (.slice (some ⟨b7, 0, none⟩) (([⟨#[98]⟩, ⟨#[97]⟩, ⟨#[99]⟩] : List ByteArray).length) c6) (([⟨#[98]⟩, ⟨#[97]⟩, ⟨#[99]⟩] : List ByteArray).length) (([⟨#[98]⟩, ⟨#[97]⟩, ⟨#[99]⟩] : List ByteArray).map Value.string)]) (o_loadRow (i := 2) (u := sV (([⟨#[98]⟩, ⟨#[97]⟩, ⟨#[99]⟩] : List ByteArray).getD 2 ⟨#[]⟩)) (by kernel_rfl) (by first | omega | (simp only [List.length_cons, List.length_nil]; omega)) (by kernel_rfl) (get_map (by first | omega | (simp only [List.length_cons, List.length_nil]; omega)))) (by kernel_rfl) rfl (by kernel_rfl) rfl ?_
  refine Sq.v (r := bV (decide (([⟨#[98]⟩, ⟨#[97]⟩, ⟨#[99]⟩] : List ByteArray).getD 2 ⟨#[]⟩ = ⟨#[99]⟩))) (o_eqS (a := ([⟨#[98]⟩, ⟨#[97]⟩, ⟨#[99]⟩] : List ByteArray).getD 2 ⟨#[]⟩) (b := ⟨#[99]⟩) (by kernel_rfl) (by kernel_rfl)) rfl (by kernel_rfl) ?_
  refine Sq.re 73 rfl (vT (by decide)) ?_
  refine Sq.vals [34, 35, 36] (rest := [37, 38, 39, 40, 41, 42, 43, 44, 45, 46, 47, 48, 49, 50, 51, 52, 53, 54, 55, 56, 57, 58, 59, 60, 61]) [bV true, bV true, sV ⟨#[98]⟩] (fun w => by kernel_rfl) ?_
  refine Sq.v (r := bV (decide ((⟨#[98]⟩ : ByteArray) = ⟨#[98]⟩))) (o_eqS (a := ⟨#[98]⟩) (b := ⟨#[98]⟩) (by kernel_rfl) (by kernel_rfl)) rfl (by kernel_rfl) ?_
  refine Sq.re 77 rfl (vT (by decide)) ?_
  refine Sq.vals [38, 39, 40, 41, 42, 43] (rest := [44, 45, 46, 47, 48, 49, 50, 51, 52, 53, 54, 55, 56, 57, 58, 59, 60, 61]) [bV true, bV true, bV true, bV true, bV true, pV b1 0] (fun w => by kernel_rfl) ?_
  refine Sq.same [0] (l := [hpS b1 (([(⟨#[98]⟩, (1, 9)), (⟨#[97]⟩, (2, 0)), (⟨#[99]⟩, (2, 0))] : List (KR ByteArray)).tail) (0 + 3)]) (o_call (by kernel_rfl) Try.call23 (Tri.eq (l2 := [hpS b1 (([(⟨#[98]⟩, (1, 9)), (⟨#[97]⟩, (2, 0)), (⟨#[99]⟩, (2, 0))] : List (KR ByteArray)).tail) (0 + 3)]) (r' := iV 2) (hp_LenS (S := ([(⟨#[98]⟩, (1, 9)), (⟨#[97]⟩, (2, 0)), (⟨#[99]⟩, (2, 0))] : List (KR ByteArray)).tail) (n := 0 + 3) (by first | omega | (simp only [List.length_cons, List.length_nil]; omega))) (by kernel_rfl) (by kernel_rfl))) (by kernel_rfl) rfl (by kernel_rfl) rfl ?_
  refine Sq.vals [45, 46, 47, 48] (rest := [49, 50, 51, 52, 53, 54, 55, 56, 57, 58, 59, 60, 61]) [bV true, bV true, bV true, pV b1 0] (fun w => by kernel_rfl) ?_
  refine Sq.same [0] (l := [hpS b1 (([(⟨#[98]⟩, (1, 9)), (⟨#[97]⟩, (2, 0)), (⟨#[99]⟩, (2, 0))] : List (KR ByteArray)).tail) (0 + 3)]) (o_call (by kernel_rfl) Try.call18 (Tri.eq (l2 := [hpS b1 ([(⟨#[97]⟩, (2, 0))] : List (KR ByteArray)) (0 + 3)]) (r' := bV true) (hp_RemoveS (S := ([(⟨#[98]⟩, (1, 9)), (⟨#[97]⟩, (2, 0)), (⟨#[99]⟩, (2, 0))] : List (KR ByteArray)).tail) (n := 0 + 3) ⟨#[99]⟩ (by first | omega | (simp only [List.length_cons, List.length_nil]; omega))) (by kernel_rfl) (by kernel_rfl))) (by kernel_rfl) rfl (by kernel_rfl) rfl ?_
  refine Sq.vals [50, 51, 52] (rest := [53, 54, 55, 56, 57, 58, 59, 60, 61]) [bV true, bV true, pV b1 0] (fun w => by kernel_rfl) ?_
  refine Sq.same [0] (l := [hpS b1 ([(⟨#[97]⟩, (2, 0))] : List (KR ByteArray)) (0 + 3)]) (o_call (by kernel_rfl) Try.call18 (Tri.eq (l2 := [hpS b1 ([(⟨#[97]⟩, (2, 0))] : List (KR ByteArray)) (0 + 3)]) (r' := bV false) (hp_RemoveS (S := ([(⟨#[97]⟩, (2, 0))] : List (KR ByteArray))) (n := 0 + 3) ⟨#[99]⟩ (by first | omega | (simp only [List.length_cons, List.length_nil]; omega))) (by kernel_rfl) (by kernel_rfl))) (by kernel_rfl) rfl (by kernel_rfl) rfl ?_
  refine Sq.vals [54, 55, 56] (rest := [57, 58, 59, 60, 61]) [bV true, bV true, bV true] (fun w => by kernel_rfl) ?_
  refine Sq.same [2] (l := [blkR b3 [iV 2, iV 0] 28]) (o_loadN (i := 0) [iV 2, iV 0] (by kernel_rfl) (by kernel_rfl) (by kernel_rfl)) (by kernel_rfl) rfl (by kernel_rfl) rfl ?_
  refine Sq.vals [58] (rest := [59, 60, 61]) [.agg #[iV 2, iV 1]] (fun w => by kernel_rfl) ?_
  refine Sq.same [] (l := []) (o_call (by kernel_rfl) Try.call25 ((heap_Less (p0 := 2) (p1 := 0) (q0 := 2) (q1 := 1)).re (vT (by decide)))) (by kernel_rfl) rfl (by kernel_rfl) rfl ?_
  refine Sq.vals [60, 61] (rest := []) [bV true, bV true] (fun w => by kernel_rfl) ?_
  refine Sq.done ?_
  refine Ex'.next ?_
  refine Cd.ret ?_
  refine Ex'.ret Try.results13 (RVs.tmp (v := bV true) (by kernel_rfl) (RVs.nil)) (fun w hw => ?_)
  exact ⟨[], ⟨rfl, rfl⟩, hw.pickB [] (by kernel_rfl) (by kernel_rfl) (by kernel_rfl)⟩

end Go.Proofs.Ytnnjccfcalgokaa
