/- Package value: awake. -/
import Derived.Test.YtnijaeipkbpibaaDoorValW
import Derived.Test.YtnijaeipkbpibaaDoorErrsW
import Derived.Test.YtnijaeipkbpibaaDoorRefS
import Derived.Test.YtnijaeipkbpibaaDoorSepH
set_option linter.unusedVariables false
namespace Go.Proofs.YtnijaeipkbpibaaDoor
open Go.RowKit Go.MapKept

set_option maxHeartbeats 8000000 in
set_option maxRecDepth 100000 in
theorem val_awake {w0 : World} (hg : errT w0) : Tri Tryd.prog 8 #[] [oldR w0] (Same [oldR w0] (bV true)) := by
  refine Tri.enter (args := []) Tryd.func8 rfl rfl rfl (fun B wz => ?_)
  refine Cd.seq ?_
  refine Cd.region rfl ?_
  refine Sq.vals [0] (rest := []) [bV false] (fun w => by kernel_rfl) ?_
  refine Sq.done ?_
  refine Ex'.next ?_
  refine Cd.seq ?_
  refine Cd.region rfl ?_
  refine Sq.ex [] (l := []) (o_call (by kernel_rfl) Tryd.call10 (Tri.ex (L' := fun x => valL x.1 x.2.1 x.2.2 [] [] 0 0) (val_New) (fun x => by kernel_rfl))) (by kernel_rfl) rfl (by kernel_rfl) (fun _ => Nat.le_of_ble_eq_true (by kernel_rfl)) ?_; rintro ⟨b3, mb4, qb5⟩ _
  refine Sq.vals [1] (rest := []) [pV b3 0] (fun w => by kernel_rfl) ?_
  refine Sq.done ?_
  refine Ex'.next ?_
  refine Cd.seq ?_
  refine Cd.seq ?_
  refine Cd.region rfl ?_
  refine Sq.vals [0, 1] (rest := []) [pV b3 0, bV false] (fun w => by kernel_rfl) ?_
  refine Sq.done ?_
  refine Ex'.next ?_
  refine Cd.condF (by kernel_rfl) ?_
  refine Cd.skip ?_
  refine Ex'.next ?_
  refine Cd.seq ?_
  refine Cd.region rfl ?_
  refine Sq.vals [0, 1] (rest := [2, 3]) [pV b3 0, .agg #[sV ⟨#[97]⟩, sV ⟨#[120]⟩, iV 5]] (fun w => by kernel_rfl) ?_
  refine Sq.same [1, 2, 3] (l := valL b3 mb4 qb5 ([] : List (ByteArray × ByteArray × ByteArray × Int)) ([] : List (KR ByteArray)) 0 0) (o_call (by kernel_rfl) Tryd.call11 (Tri.eq (l2 := valL b3 mb4 qb5 [(⟨#[97]⟩, (⟨#[97]⟩, (⟨#[120]⟩, 5)))] [(⟨#[97]⟩, (5, 0))] 2 1) (r' := .nilIface) (val_PutOk (n := 0) (n' := 1) (M := ([] : List (ByteArray × ByteArray × ByteArray × Int))) (S := ([] : List (KR ByteArray))) (bys := 0) ⟨#[97]⟩ ⟨#[120]⟩ 5 (by first | omega | (simp only [List.length_cons, List.length_nil]; omega)) (by first | omega | (simp only [List.length_cons, List.length_nil]; omega)) (by first | omega | (simp only [List.length_cons, List.length_nil]; omega)) (by first | assumption | exact hi.del _ | (unfold ItB; decide)) (by exact (by decide))) (by kernel_rfl) (by kernel_rfl))) (by kernel_rfl) rfl (by kernel_rfl) rfl ?_
  refine Sq.vals [3] (rest := []) [.nilIface] (fun w => by kernel_rfl) ?_
  refine Sq.done ?_
  refine Ex'.next ?_
  refine Cd.seq ?_
  refine Cd.region rfl ?_
  refine Sq.vals [0, 1] (rest := [2, 3]) [pV b3 0, .agg #[sV ⟨#[]⟩, sV ⟨#[]⟩, iV 0]] (fun w => by kernel_rfl) ?_
  refine Sq.ex [1, 2, 3] (l := [valB b3 mb4 qb5 2, mapR Value.string itV mb4 ([(⟨#[97]⟩, (⟨#[97]⟩, (⟨#[120]⟩, 5)))] : List (ByteArray × ByteArray × ByteArray × Int)), hpS qb5 ([(⟨#[97]⟩, (5, 0))] : List (KR ByteArray)) 1]) (o_call (by kernel_rfl) Tryd.call11 (val_PutBad (n := 1) (M := ([(⟨#[97]⟩, (⟨#[97]⟩, (⟨#[120]⟩, 5)))] : List (ByteArray × ByteArray × ByteArray × Int))) (S := ([(⟨#[97]⟩, (5, 0))] : List (KR ByteArray))) (bys := 2) ⟨#[]⟩ ⟨#[]⟩ 0 (by decide))) (by kernel_rfl) rfl (by kernel_rfl) (fun _ => Nat.le_of_ble_eq_true (by kernel_rfl)) ?_; rintro b6 _
  refine Sq.vals [3] (rest := []) [.iface 83 (pV b6 0)] (fun w => by kernel_rfl) ?_
  refine Sq.done ?_
  refine Ex'.next ?_
  refine Cd.seq ?_
  refine Cd.region rfl ?_
  refine Sq.vals [0] (rest := [1, 2, 3, 4, 5, 6, 7]) [pV b3 0] (fun w => by kernel_rfl) ?_
  refine Sq.same [1, 2, 3] (l := [valB b3 mb4 qb5 2, mapR Value.string itV mb4 ([(⟨#[97]⟩, (⟨#[97]⟩, (⟨#[120]⟩, 5)))] : List (ByteArray × ByteArray × ByteArray × Int)), hpS qb5 ([(⟨#[97]⟩, (5, 0))] : List (KR ByteArray)) 1]) (o_call (by kernel_rfl) Tryd.call12 (val_GetOk (n := 1) (M := ([(⟨#[97]⟩, (⟨#[97]⟩, (⟨#[120]⟩, 5)))] : List (ByteArray × ByteArray × ByteArray × Int))) (S := ([(⟨#[97]⟩, (5, 0))] : List (KR ByteArray))) (bys := 2) ⟨#[97]⟩ 4 (by decide))) (by kernel_rfl) rfl (by kernel_rfl) rfl ?_
  refine Sq.vals [2, 3, 4] (rest := [5, 6, 7]) [.tuple #[.agg #[sV (((lk ([(⟨#[97]⟩, (⟨#[97]⟩, (⟨#[120]⟩, 5)))] : List (ByteArray × ByteArray × ByteArray × Int)) ⟨#[97]⟩).getD ((⟨#[]⟩, ⟨#[]⟩, 0) : ByteArray × ByteArray × Int)).1), sV (((lk ([(⟨#[97]⟩, (⟨#[97]⟩, (⟨#[120]⟩, 5)))] : List (ByteArray × ByteArray × ByteArray × Int)) ⟨#[97]⟩).getD ((⟨#[]⟩, ⟨#[]⟩, 0) : ByteArray × ByteArray × Int)).2.1), iV (((lk ([(⟨#[97]⟩, (⟨#[97]⟩, (⟨#[120]⟩, 5)))] : List (ByteArray × ByteArray × ByteArray × Int)) ⟨#[97]⟩).getD ((⟨#[]⟩, ⟨#[]⟩, 0) : ByteArray × ByteArray × Int)).2.2)], .nilIface], .agg #[sV (((lk ([(⟨#[97]⟩, (⟨#[97]⟩, (⟨#[120]⟩, 5)))] : List (ByteArray × ByteArray × ByteArray × Int)) ⟨#[97]⟩).getD ((⟨#[]⟩, ⟨#[]⟩, 0) : ByteArray × ByteArray × Int)).1), sV (((lk ([(⟨#[97]⟩, (⟨#[97]⟩, (⟨#[120]⟩, 5)))] : List (ByteArray × ByteArray × ByteArray × Int)) ⟨#[97]⟩).getD ((⟨#[]⟩, ⟨#[]⟩, 0) : ByteArray × ByteArray × Int)).2.1), iV (((lk ([(⟨#[97]⟩, (⟨#[97]⟩, (⟨#[120]⟩, 5)))] : List (ByteArray × ByteArray × ByteArray × Int)) ⟨#[97]⟩).getD ((⟨#[]⟩, ⟨#[]⟩, 0) : ByteArray × ByteArray × Int)).2.2)], .nilIface] (fun w => by kernel_rfl) ?_
  refine Sq.ex [] (l := []) (o_new [sV ⟨#[]⟩, sV ⟨#[]⟩, iV 0] (fun w => by kernel_rfl)) (by kernel_rfl) rfl (by kernel_rfl) (fun _ => Nat.zero_le _) ?_; intro b7 _
  refine Sq.same [5] (l := [blkR b7 [sV ⟨#[]⟩, sV ⟨#[]⟩, iV 0] 24]) (o_store (i := 0) (v := .agg #[sV (((lk ([(⟨#[97]⟩, (⟨#[97]⟩, (⟨#[120]⟩, 5)))] : List (ByteArray × ByteArray × ByteArray × Int)) ⟨#[97]⟩).getD ((⟨#[]⟩, ⟨#[]⟩, 0) : ByteArray × ByteArray × Int)).1), sV (((lk ([(⟨#[97]⟩, (⟨#[97]⟩, (⟨#[120]⟩, 5)))] : List (ByteArray × ByteArray × ByteArray × Int)) ⟨#[97]⟩).getD ((⟨#[]⟩, ⟨#[]⟩, 0) : ByteArray × ByteArray × Int)).2.1), iV (((lk ([(⟨#[97]⟩, (⟨#[97]⟩, (⟨#[120]⟩, 5)))] : List (ByteArray × ByteArray × ByteArray × Int)) ⟨#[97]⟩).getD ((⟨#[]⟩, ⟨#[]⟩, 0) : ByteArray × ByteArray × Int)).2.2)]) (by kernel_rfl) (by kernel_rfl) (by kernel_rfl) (by kernel_rfl) (by kernel_rfl)) (by kernel_rfl) rfl (by kernel_rfl) rfl ?_
  refine Sq.vals [7] (rest := []) [.nilIface] (fun w => by kernel_rfl) ?_
  refine Sq.done ?_
  refine Ex'.next ?_
  refine Cd.seq ?_
  refine Cd.region rfl ?_
  refine Sq.vals [0] (rest := [1, 2, 3, 4, 5, 6, 7]) [pV b3 0] (fun w => by kernel_rfl) ?_
  refine Sq.ex [1, 2, 3] (l := [valB b3 mb4 qb5 2, mapR Value.string itV mb4 ([(⟨#[97]⟩, (⟨#[97]⟩, (⟨#[120]⟩, 5)))] : List (ByteArray × ByteArray × ByteArray × Int)), hpS qb5 ([(⟨#[97]⟩, (5, 0))] : List (KR ByteArray)) 1]) (o_call (by kernel_rfl) Tryd.call12 (val_GetBad (n := 1) (M := ([(⟨#[97]⟩, (⟨#[97]⟩, (⟨#[120]⟩, 5)))] : List (ByteArray × ByteArray × ByteArray × Int))) (S := ([(⟨#[97]⟩, (5, 0))] : List (KR ByteArray))) (bys := 2) ⟨#[97]⟩ 5 (by decide))) (by kernel_rfl) rfl (by kernel_rfl) (fun _ => Nat.le_of_ble_eq_true (by kernel_rfl)) ?_; rintro b8 _
  refine Sq.vals [2, 3, 4] (rest := [5, 6, 7]) [.tuple #[.agg #[sV ⟨#[]⟩, sV ⟨#[]⟩, iV 0], .iface 83 (pV b8 0)], .agg #[sV ⟨#[]⟩, sV ⟨#[]⟩, iV 0], .iface 83 (pV b8 0)] (fun w => by kernel_rfl) ?_
  refine Sq.ex [] (l := []) (o_new [sV ⟨#[]⟩, sV ⟨#[]⟩, iV 0] (fun w => by kernel_rfl)) (by kernel_rfl) rfl (by kernel_rfl) (fun _ => Nat.zero_le _) ?_; intro b9 _
  refine Sq.same [7] (l := [blkR b9 [sV ⟨#[]⟩, sV ⟨#[]⟩, iV 0] 24]) (o_store (i := 0) (v := .agg #[sV ⟨#[]⟩, sV ⟨#[]⟩, iV 0]) (by kernel_rfl) (by kernel_rfl) (by kernel_rfl) (by kernel_rfl) (by kernel_rfl)) (by kernel_rfl) rfl (by kernel_rfl) rfl ?_
  refine Sq.vals [7] (rest := []) [.iface 83 (pV b8 0)] (fun w => by kernel_rfl) ?_
  refine Sq.done ?_
  refine Ex'.next ?_
  refine Cd.seq ?_
  refine Cd.region rfl ?_
  refine Sq.vals [0] (rest := [1, 2]) [pV b3 0] (fun w => by kernel_rfl) ?_
  refine Sq.same [1, 2, 3] (l := valL b3 mb4 qb5 ([(⟨#[97]⟩, (⟨#[97]⟩, (⟨#[120]⟩, 5)))] : List (ByteArray × ByteArray × ByteArray × Int)) ([(⟨#[97]⟩, (5, 0))] : List (KR ByteArray)) 2 1) (o_call (by kernel_rfl) Tryd.call25 (Tri.eq (l2 := valL b3 mb4 qb5 ([(⟨#[97]⟩, (⟨#[97]⟩, (⟨#[120]⟩, 5)))] : List (ByteArray × ByteArray × ByteArray × Int)) ([(⟨#[97]⟩, (5, 0))] : List (KR ByteArray)) 2 1) (r' := iV 2) (val_Bytes (n := 1) (M := ([(⟨#[97]⟩, (⟨#[97]⟩, (⟨#[120]⟩, 5)))] : List (ByteArray × ByteArray × ByteArray × Int))) (S := ([(⟨#[97]⟩, (5, 0))] : List (KR ByteArray))) (bys := 2) (by first | omega | (simp only [List.length_cons, List.length_nil]; omega))) (by kernel_rfl) (by kernel_rfl))) (by kernel_rfl) rfl (by kernel_rfl) rfl ?_
  refine Sq.vals [2] (rest := []) [iV 2] (fun w => by kernel_rfl) ?_
  refine Sq.done ?_
  refine Ex'.next ?_
  refine Cd.seq ?_
  refine Cd.region rfl ?_
  refine Sq.vals [0] (rest := [1, 2]) [pV b3 0] (fun w => by kernel_rfl) ?_
  refine Sq.ex [1, 2, 3] (l := [valB b3 mb4 qb5 2, mapR Value.string itV mb4 ([(⟨#[97]⟩, (⟨#[97]⟩, (⟨#[120]⟩, 5)))] : List (ByteArray × ByteArray × ByteArray × Int)), hpS qb5 ([(⟨#[97]⟩, (5, 0))] : List (KR ByteArray)) 1]) (o_call (by kernel_rfl) Tryd.call15 (Tri.ex (L' := fun v => valL b3 mb4 qb5 [] [] 0 1 ++ [rowR 9 1 v (([⟨#[97]⟩] : List ByteArray)).length ((([⟨#[97]⟩] : List ByteArray)).map Value.string)]) (val_Expire (n := 1) (M := ([(⟨#[97]⟩, (⟨#[97]⟩, (⟨#[120]⟩, 5)))] : List (ByteArray × ByteArray × ByteArray × Int))) (S := ([(⟨#[97]⟩, (5, 0))] : List (KR ByteArray))) (bys := 2) 5 (by first | omega | (simp only [List.length_cons, List.length_nil]; omega)) (by first | omega | (constructor <;> decide)) (by first | assumption | (unfold ItB; decide)) (by first | assumption | (unfold EndsIn; decide))) (fun v => by kernel_rfl))) (by kernel_rfl) rfl (by kernel_rfl) (fun _ => Nat.le_of_ble_eq_true (by kernel_rfl)) ?_; rintro v10 _
  refine Sq.fact (i := 8) (R := rowR 9 1 v10 (([⟨#[97]⟩] : List ByteArray).length) (([⟨#[97]⟩] : List ByteArray).map Value.string)) (by kernel_rfl) row_slice ?_; rintro ⟨a11, c12, rfl, hc12, hc12'⟩
  have hc12'' : c12 ≤ 9223372036854775807 := hc12'
  refine Sq.fact (i := 8) (R := rowR 9 1 (.slice a11 (([⟨#[97]⟩] : List ByteArray).length) c12) (([⟨#[97]⟩] : List ByteArray).length) (([⟨#[97]⟩] : List ByteArray).map Value.string)) (by kernel_rfl) (row_addr (by decide)) ?_; rintro ⟨b13, rfl⟩
  refine Sq.vals [2] (rest := []) [.slice (some ⟨b13, 0, none⟩) (([⟨#[97]⟩] : List ByteArray).length) c12] (fun w => by kernel_rfl) ?_
  refine Sq.done ?_
  refine Ex'.next ?_
  refine Cd.seq ?_
  refine Cd.region rfl ?_
  refine Sq.vals [0, 1, 2, 3] (rest := [4, 5, 6, 7, 8, 9, 10, 11, 12, 13, 14, 15, 16, 17, 18, 19, 20, 21, 22, 23, 24, 25, 26, 27, 28, 29, 30, 31, 32, 33, 34, 35, 36, 37, 38, 39, 40, 41, 42, 43, 44, 45, 46, 47, 48]) [.nilIface, bV true, bV true, .iface 83 (pV b6 0)] (fun w => by kernel_rfl) ?_
  refine Sq.same [0, 4] (l := [oldR w0, blkR b6 [sV ⟨#[105, 116, 101, 109]⟩, sV ⟨#[]⟩, .iface 71 (iV (rightC ⟨#[]⟩ ⟨#[]⟩ 0))] 87]) (o_call (by kernel_rfl) Tryd.call18 ((wraps_fault hg (op := ⟨#[105, 116, 101, 109]⟩) (key := ⟨#[]⟩) (d := 3) (x := ⟨#[105, 116, 101, 109]⟩) (y := ⟨#[]⟩) (c := rightC ⟨#[]⟩ ⟨#[]⟩ 0)).re (vT (by decide)))) (by kernel_rfl) rfl (by kernel_rfl) rfl ?_
  refine Sq.vals [5, 6, 7] (rest := [8, 9, 10, 11, 12, 13, 14, 15, 16, 17, 18, 19, 20, 21, 22, 23, 24, 25, 26, 27, 28, 29, 30, 31, 32, 33, 34, 35, 36, 37, 38, 39, 40, 41, 42, 43, 44, 45, 46, 47, 48]) [bV true, bV true, pV b7 1] (fun w => by kernel_rfl) ?_
  refine Sq.same [5] (l := [blkR b7 [sV (((lk ([(⟨#[97]⟩, (⟨#[97]⟩, (⟨#[120]⟩, 5)))] : List (ByteArray × ByteArray × ByteArray × Int)) ⟨#[97]⟩).getD ((⟨#[]⟩, ⟨#[]⟩, 0) : ByteArray × ByteArray × Int)).1), sV (((lk ([(⟨#[97]⟩, (⟨#[97]⟩, (⟨#[120]⟩, 5)))] : List (ByteArray × ByteArray × ByteArray × Int)) ⟨#[97]⟩).getD ((⟨#[]⟩, ⟨#[]⟩, 0) : ByteArray × ByteArray × Int)).2.1), iV (((lk ([(⟨#[97]⟩, (⟨#[97]⟩, (⟨#[120]⟩, 5)))] : List (ByteArray × ByteArray × ByteArray × Int)) ⟨#[97]⟩).getD ((⟨#[]⟩, ⟨#[]⟩, 0) : ByteArray × ByteArray × Int)).2.2)] 24]) (o_load (i := 1) (v := sV (((lk ([(⟨#[97]⟩, (⟨#[97]⟩, (⟨#[120]⟩, 5)))] : List (ByteArray × ByteArray × ByteArray × Int)) ⟨#[97]⟩).getD ((⟨#[]⟩, ⟨#[]⟩, 0) : ByteArray × ByteArray × Int)).2.1)) (by kernel_rfl) (by kernel_rfl) (by kernel_rfl)) (by kernel_rfl) rfl (by kernel_rfl) rfl ?_
  refine Sq.v (r := bV (decide (((lk ([(⟨#[97]⟩, (⟨#[97]⟩, (⟨#[120]⟩, 5)))] : List (ByteArray × ByteArray × ByteArray × Int)) ⟨#[97]⟩).getD ((⟨#[]⟩, ⟨#[]⟩, 0) : ByteArray × ByteArray × Int)).2.1 = ⟨#[120]⟩))) (o_eqS (a := ((lk ([(⟨#[97]⟩, (⟨#[97]⟩, (⟨#[120]⟩, 5)))] : List (ByteArray × ByteArray × ByteArray × Int)) ⟨#[97]⟩).getD ((⟨#[]⟩, ⟨#[]⟩, 0) : ByteArray × ByteArray × Int)).2.1) (b := ⟨#[120]⟩) (by kernel_rfl) (by kernel_rfl)) rfl (by kernel_rfl) ?_
  refine Sq.re 42 rfl (vT (by decide)) ?_
  refine Sq.vals [10, 11, 12, 13, 14, 15, 16] (rest := [17, 18, 19, 20, 21, 22, 23, 24, 25, 26, 27, 28, 29, 30, 31, 32, 33, 34, 35, 36, 37, 38, 39, 40, 41, 42, 43, 44, 45, 46, 47, 48]) [bV true, bV true, .nilIface, bV true, bV true, bV true, .iface 83 (pV b8 0)] (fun w => by kernel_rfl) ?_
  refine Sq.same [0, 6] (l := [oldR w0, blkR b8 [sV ⟨#[103, 101, 116]⟩, sV ⟨#[97]⟩, .iface 71 (iV 5)] 87]) (o_call (by kernel_rfl) Tryd.call18 ((wraps_fault hg (op := ⟨#[103, 101, 116]⟩) (key := ⟨#[97]⟩) (d := 5) (x := ⟨#[103, 101, 116]⟩) (y := ⟨#[97]⟩) (c := 5)).re (vT ⟨by decide, rfl, rfl, rfl⟩))) (by kernel_rfl) rfl (by kernel_rfl) rfl ?_
  refine Sq.vals [18, 19, 20, 21, 22, 23, 24] (rest := [25, 26, 27, 28, 29, 30, 31, 32, 33, 34, 35, 36, 37, 38, 39, 40, 41, 42, 43, 44, 45, 46, 47, 48]) [bV true, bV true, iV 2, bV true, bV true, bV true, .slice (some ⟨b13, 0, none⟩) (([⟨#[97]⟩] : List ByteArray).length) c12] (fun w => by kernel_rfl) ?_
  refine Sq.ex [] (l := []) (o_lit (sz := 1) (sV ⟨#[]⟩) [sV ⟨#[97]⟩] Tryd.underlying39 (by kernel_rfl) (by kernel_rfl) (by kernel_rfl) (by kernel_rfl) (by kernel_rfl)) (by kernel_rfl) rfl (by kernel_rfl) (fun _ => Nat.zero_le _) ?_; intro b14 _
  refine Sq.same [8, 9] (l := [rowR 9 1 (.slice (some ⟨b13, 0, none⟩) (([⟨#[97]⟩] : List ByteArray).length) c12) (([⟨#[97]⟩] : List ByteArray).length) (([⟨#[97]⟩] : List ByteArray).map Value.string), blkR b14 [sV ⟨#[97]⟩] 9]) (o_call (by kernel_rfl) Tryd.call22 ((t_same03 (l := [rowR 9 1 (.slice (some ⟨b13, 0, none⟩) (([⟨#[97]⟩] : List ByteArray).length) c12) (([⟨#[97]⟩] : List ByteArray).length) (([⟨#[97]⟩] : List ByteArray).map Value.string), blkR b14 [sV ⟨#[97]⟩] 9]) (xs := ([⟨#[97]⟩] : List ByteArray)) (ys := [⟨#[97]⟩]) (fun w own hH => ⟨⟨_, Row.strs (hH 0 _ rfl)⟩, ⟨_, blk_strs rfl rfl (by kernel_rfl) (hH 1 _ rfl)⟩⟩)).re (vT (by decide)))) (by kernel_rfl) rfl (by kernel_rfl) rfl ?_
  refine Sq.vals [27, 28, 29] (rest := [30, 31, 32, 33, 34, 35, 36, 37, 38, 39, 40, 41, 42, 43, 44, 45, 46, 47, 48]) [bV true, bV true, pV b3 0] (fun w => by kernel_rfl) ?_
  refine Sq.same [1, 2, 3] (l := valL b3 mb4 qb5 ([] : List (ByteArray × ByteArray × ByteArray × Int)) ([] : List (KR ByteArray)) 0 1) (o_call (by kernel_rfl) Tryd.call13 (Tri.eq (l2 := valL b3 mb4 qb5 ([] : List (ByteArray × ByteArray × ByteArray × Int)) ([] : List (KR ByteArray)) 0 1) (r' := iV 0) (val_Len (n := 1) (M := ([] : List (ByteArray × ByteArray × ByteArray × Int))) (S := ([] : List (KR ByteArray))) (bys := 0) (by first | omega | (simp only [List.length_cons, List.length_nil]; omega))) (by kernel_rfl) (by kernel_rfl))) (by kernel_rfl) rfl (by kernel_rfl) rfl ?_
  refine Sq.vals [31, 32, 33, 34] (rest := [35, 36, 37, 38, 39, 40, 41, 42, 43, 44, 45, 46, 47, 48]) [bV true, bV true, bV true, pV b3 0] (fun w => by kernel_rfl) ?_
  refine Sq.same [1, 2, 3] (l := valL b3 mb4 qb5 ([] : List (ByteArray × ByteArray × ByteArray × Int)) ([] : List (KR ByteArray)) 0 1) (o_call (by kernel_rfl) Tryd.call25 (Tri.eq (l2 := valL b3 mb4 qb5 ([] : List (ByteArray × ByteArray × ByteArray × Int)) ([] : List (KR ByteArray)) 0 1) (r' := iV 0) (val_Bytes (n := 1) (M := ([] : List (ByteArray × ByteArray × ByteArray × Int))) (S := ([] : List (KR ByteArray))) (bys := 0) (by first | omega | (simp only [List.length_cons, List.length_nil]; omega))) (by kernel_rfl) (by kernel_rfl))) (by kernel_rfl) rfl (by kernel_rfl) rfl ?_
  refine Sq.vals [36, 37, 38, 39] (rest := [40, 41, 42, 43, 44, 45, 46, 47, 48]) [bV true, bV true, bV true, pV b3 0] (fun w => by kernel_rfl) ?_
  refine Sq.same [1, 2, 3] (l := valL b3 mb4 qb5 ([] : List (ByteArray × ByteArray × ByteArray × Int)) ([] : List (KR ByteArray)) 0 1) (o_call (by kernel_rfl) Tryd.call14 (Tri.eq (l2 := valL b3 mb4 qb5 [] [] 0 1) (r' := bV false) (val_Delete (n := 1) (M := ([] : List (ByteArray × ByteArray × ByteArray × Int))) (S := ([] : List (KR ByteArray))) (bys := 0) ⟨#[97]⟩ (by first | omega | (simp only [List.length_cons, List.length_nil]; omega)) (by first | omega | (simp only [List.length_cons, List.length_nil]; omega)) (by first | assumption | exact hi.del _ | (unfold ItB; decide))) (by kernel_rfl) (by kernel_rfl))) (by kernel_rfl) rfl (by kernel_rfl) rfl ?_
  refine Sq.vals [41, 42, 43, 44] (rest := [45, 46, 47, 48]) [bV true, bV true, bV true, .agg #[sV ⟨#[107]⟩, sV ⟨#[]⟩, iV 0]] (fun w => by kernel_rfl) ?_
  refine Sq.same [] (l := []) (o_call (by kernel_rfl) Tryd.call19 (val_RightOk (k := ⟨#[107]⟩) (v := ⟨#[]⟩) (d := 0) (by decide))) (by kernel_rfl) rfl (by kernel_rfl) rfl ?_
  refine Sq.vals [46, 47, 48] (rest := []) [bV true, bV true, bV true] (fun w => by kernel_rfl) ?_
  refine Sq.done ?_
  refine Ex'.next ?_
  refine Cd.ret ?_
  refine Ex'.ret Tryd.results8 (RVs.tmp (v := bV true) (by kernel_rfl) (RVs.nil)) (fun w hw => ?_)
  exact ⟨_, ⟨rfl, rfl⟩, hw.pickB [0] (by kernel_rfl) (by kernel_rfl) (by kernel_rfl)⟩

end Go.Proofs.YtnijaeipkbpibaaDoor
