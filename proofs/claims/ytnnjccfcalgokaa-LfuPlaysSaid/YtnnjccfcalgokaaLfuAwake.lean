/- Package lfu: awake. -/
import Derived.Test.YtnnjccfcalgokaaLfuPure
import Derived.Test.YtnnjccfcalgokaaActs
import Derived.Test.YtnnjccfcalgokaaSepH
import Derived.Test.YtnnjccfcalgokaaRefS
import Derived.Test.YtnnjccfcalgokaaStepEq
set_option linter.unusedVariables false
namespace Go.Proofs.Ytnnjccfcalgokaa
open Go.RowKit Go.MapKept

set_option maxHeartbeats 8000000 in
set_option maxRecDepth 100000 in
theorem lfu_awake   : Tri Try.prog 29 #[] [] (Same [] (bV true)) := by
  refine Tri.enter (args := []) Try.func29 rfl rfl rfl (fun B wz => ?_)
  refine Cd.seq ?_
  refine Cd.region rfl ?_
  refine Sq.vals [0] (rest := []) [bV false] (fun w => by kernel_rfl) ?_
  refine Sq.done ?_
  refine Ex'.next ?_
  refine Cd.seq ?_
  refine Cd.region rfl ?_
  refine Sq.ex [] (l := []) (o_call (by kernel_rfl) Try.call30 (Tri.ex (L' := fun x => lfuL x.1 x.2 2 0 false [] 0) (lfu_New 2 false (by first | omega | (simp only [List.length_cons, List.length_nil]; omega))) (fun x => by kernel_rfl))) (by kernel_rfl) rfl (by kernel_rfl) (fun _ => Nat.le_of_ble_eq_true (by kernel_rfl)) ?_; rintro ⟨b3, qb4⟩ _
  refine Sq.ex [] (l := []) (o_call (by kernel_rfl) Try.call30 (Tri.ex (L' := fun x => lfuL x.1 x.2 3 0 true [] 0) (lfu_New 3 true (by first | omega | (simp only [List.length_cons, List.length_nil]; omega))) (fun x => by kernel_rfl))) (by kernel_rfl) rfl (by kernel_rfl) (fun _ => Nat.le_of_ble_eq_true (by kernel_rfl)) ?_; rintro ⟨b5, qb6⟩ _
  refine Sq.vals [2, 3] (rest := []) [pV b3 0, pV b5 0] (fun w => by kernel_rfl) ?_
  refine Sq.done ?_
  refine Ex'.next ?_
  refine Cd.seq ?_
  refine Cd.seq ?_
  refine Cd.region rfl ?_
  refine Sq.vals [0, 1, 2, 3, 4, 5] (rest := []) [pV b3 0, bV false, bV false, pV b5 0, bV false, bV false] (fun w => by kernel_rfl) ?_
  refine Sq.done ?_
  refine Ex'.next ?_
  refine Cd.condF (by kernel_rfl) ?_
  refine Cd.skip ?_
  refine Ex'.next ?_
  refine Cd.seq ?_
  refine Cd.region rfl ?_
  refine Sq.vals [0] (rest := [1]) [pV b3 0] (fun w => by kernel_rfl) ?_
  refine Sq.same [0, 1] (l := lfuL b3 qb4 2 0 false [] 0) (o_call (by kernel_rfl) Try.call33 (Tri.eq (l2 := lfuL b3 qb4 2 1 false [(⟨#[97]⟩, (1, 1))] 1) (r' := .agg #[bV false, sV ⟨#[]⟩, bV false]) (lfu_Request (n := 0) (n' := 1) (most := 2) (now := 0) (churn := false) (S := []) ⟨#[97]⟩ (by first | omega | (simp only [List.length_cons, List.length_nil]; omega)) (by first | omega | (simp only [List.length_cons, List.length_nil]; omega)) (by first | omega | (simp only [List.length_cons, List.length_nil]; omega)) (by first | assumption | (unfold TmB; decide))) (by kernel_rfl) (by kernel_rfl))) (by kernel_rfl) rfl (by kernel_rfl) rfl ?_
  refine Sq.done ?_
  refine Ex'.next ?_
  refine Cd.seq ?_
  refine Cd.region rfl ?_
  refine Sq.vals [0] (rest := [1, 2, 3]) [pV b3 0] (fun w => by kernel_rfl) ?_
  refine Sq.same [0, 1] (l := lfuL b3 qb4 2 1 false [(⟨#[97]⟩, (1, 1))] 1) (o_call (by kernel_rfl) Try.call33 (Tri.eq (l2 := lfuL b3 qb4 2 2 false [(⟨#[97]⟩, (2, 2))] 2) (r' := .agg #[bV true, sV ⟨#[]⟩, bV false]) (lfu_Request (n := 1) (n' := 2) (most := 2) (now := 1) (churn := false) (S := [(⟨#[97]⟩, (1, 1))]) ⟨#[97]⟩ (by first | omega | (simp only [List.length_cons, List.length_nil]; omega)) (by first | omega | (simp only [List.length_cons, List.length_nil]; omega)) (by first | omega | (simp only [List.length_cons, List.length_nil]; omega)) (by first | assumption | (unfold TmB; decide))) (by kernel_rfl) (by kernel_rfl))) (by kernel_rfl) rfl (by kernel_rfl) rfl ?_
  refine Sq.ex [] (l := []) (o_new [bV false, sV ⟨#[]⟩, bV false] (fun w => by kernel_rfl)) (by kernel_rfl) rfl (by kernel_rfl) (fun _ => Nat.zero_le _) ?_; intro b7 _
  refine Sq.same [4] (l := [blkR b7 [bV false, sV ⟨#[]⟩, bV false] 68]) (o_store (i := 0) (v := .agg #[bV true, sV ⟨#[]⟩, bV false]) (by kernel_rfl) (by kernel_rfl) (by kernel_rfl) (by kernel_rfl) (by kernel_rfl)) (by kernel_rfl) rfl (by kernel_rfl) rfl ?_
  refine Sq.done ?_
  refine Ex'.next ?_
  refine Cd.seq ?_
  refine Cd.region rfl ?_
  refine Sq.vals [0] (rest := [1]) [pV b3 0] (fun w => by kernel_rfl) ?_
  refine Sq.same [0, 1] (l := lfuL b3 qb4 2 2 false [(⟨#[97]⟩, (2, 2))] 2) (o_call (by kernel_rfl) Try.call33 (Tri.eq (l2 := lfuL b3 qb4 2 3 false [(⟨#[98]⟩, (1, 3)), (⟨#[97]⟩, (2, 2))] 3) (r' := .agg #[bV false, sV ⟨#[]⟩, bV false]) (lfu_Request (n := 2) (n' := 3) (most := 2) (now := 2) (churn := false) (S := [(⟨#[97]⟩, (2, 2))]) ⟨#[98]⟩ (by first | omega | (simp only [List.length_cons, List.length_nil]; omega)) (by first | omega | (simp only [List.length_cons, List.length_nil]; omega)) (by first | omega | (simp only [List.length_cons, List.length_nil]; omega)) (by first | assumption | (unfold TmB; decide))) (by kernel_rfl) (by kernel_rfl))) (by kernel_rfl) rfl (by kernel_rfl) rfl ?_
  refine Sq.done ?_
  refine Ex'.next ?_
  refine Cd.seq ?_
  refine Cd.region rfl ?_
  refine Sq.vals [0] (rest := [1, 2, 3]) [pV b3 0] (fun w => by kernel_rfl) ?_
  refine Sq.same [0, 1] (l := lfuL b3 qb4 2 3 false [(⟨#[98]⟩, (1, 3)), (⟨#[97]⟩, (2, 2))] 3) (o_call (by kernel_rfl) Try.call33 (Tri.eq (l2 := lfuL b3 qb4 2 4 false [(⟨#[99]⟩, (1, 4)), (⟨#[97]⟩, (2, 2))] 4) (r' := .agg #[bV false, sV ⟨#[98]⟩, bV true]) (lfu_Request (n := 3) (n' := 4) (most := 2) (now := 3) (churn := false) (S := [(⟨#[98]⟩, (1, 3)), (⟨#[97]⟩, (2, 2))]) ⟨#[99]⟩ (by first | omega | (simp only [List.length_cons, List.length_nil]; omega)) (by first | omega | (simp only [List.length_cons, List.length_nil]; omega)) (by first | omega | (simp only [List.length_cons, List.length_nil]; omega)) (by first | assumption | (unfold TmB; decide))) (by kernel_rfl) (by kernel_rfl))) (by kernel_rfl) rfl (by kernel_rfl) rfl ?_
  refine Sq.ex [] (l := []) (o_new [bV false, sV ⟨#[]⟩, bV false] (fun w => by kernel_rfl)) (by kernel_rfl) rfl (by kernel_rfl) (fun _ => Nat.zero_le _) ?_; intro b8 _
  refine Sq.same [5] (l := [blkR b8 [bV false, sV ⟨#[]⟩, bV false] 68]) (o_store (i := 0) (v := .agg #[bV false, sV ⟨#[98]⟩, bV true]) (by kernel_rfl) (by kernel_rfl) (by kernel_rfl) (by kernel_rfl) (by kernel_rfl)) (by kernel_rfl) rfl (by kernel_rfl) rfl ?_
  refine Sq.done ?_
  refine Ex'.next ?_
  refine Cd.seq ?_
  refine Cd.region rfl ?_
  refine Sq.vals [0] (rest := [1]) [pV b5 0] (fun w => by kernel_rfl) ?_
  refine Sq.same [2, 3] (l := lfuL b5 qb6 3 0 true [] 0) (o_call (by kernel_rfl) Try.call33 (Tri.eq (l2 := lfuL b5 qb6 3 1 true [(⟨#[97]⟩, (1, (-1)))] 1) (r' := .agg #[bV false, sV ⟨#[]⟩, bV false]) (lfu_Request (n := 0) (n' := 1) (most := 3) (now := 0) (churn := true) (S := []) ⟨#[97]⟩ (by first | omega | (simp only [List.length_cons, List.length_nil]; omega)) (by first | omega | (simp only [List.length_cons, List.length_nil]; omega)) (by first | omega | (simp only [List.length_cons, List.length_nil]; omega)) (by first | assumption | (unfold TmB; decide))) (by kernel_rfl) (by kernel_rfl))) (by kernel_rfl) rfl (by kernel_rfl) rfl ?_
  refine Sq.done ?_
  refine Ex'.next ?_
  refine Cd.seq ?_
  refine Cd.region rfl ?_
  refine Sq.vals [0] (rest := [1]) [pV b5 0] (fun w => by kernel_rfl) ?_
  refine Sq.same [2, 3] (l := lfuL b5 qb6 3 1 true [(⟨#[97]⟩, (1, (-1)))] 1) (o_call (by kernel_rfl) Try.call33 (Tri.eq (l2 := lfuL b5 qb6 3 2 true [(⟨#[98]⟩, (1, (-2))), (⟨#[97]⟩, (1, (-1)))] 2) (r' := .agg #[bV false, sV ⟨#[]⟩, bV false]) (lfu_Request (n := 1) (n' := 2) (most := 3) (now := 1) (churn := true) (S := [(⟨#[97]⟩, (1, (-1)))]) ⟨#[98]⟩ (by first | omega | (simp only [List.length_cons, List.length_nil]; omega)) (by first | omega | (simp only [List.length_cons, List.length_nil]; omega)) (by first | omega | (simp only [List.length_cons, List.length_nil]; omega)) (by first | assumption | (unfold TmB; decide))) (by kernel_rfl) (by kernel_rfl))) (by kernel_rfl) rfl (by kernel_rfl) rfl ?_
  refine Sq.done ?_
  refine Ex'.next ?_
  refine Cd.seq ?_
  refine Cd.region rfl ?_
  refine Sq.vals [0] (rest := [1, 2, 3, 4, 5, 6]) [pV b5 0] (fun w => by kernel_rfl) ?_
  refine Sq.same [2, 3] (l := lfuL b5 qb6 3 2 true [(⟨#[98]⟩, (1, (-2))), (⟨#[97]⟩, (1, (-1)))] 2) (o_call (by kernel_rfl) Try.call50 (Tri.eq (l2 := lfuL b5 qb6 3 2 true [(⟨#[98]⟩, (1, (-2))), (⟨#[97]⟩, (1, (-1)))] 2) (r' := .tuple #[sV ⟨#[98]⟩, bV true]) (lfu_Victim (n := 2) (most := 3) (now := 2) (churn := true) (S := [(⟨#[98]⟩, (1, (-2))), (⟨#[97]⟩, (1, (-1)))]) (by first | omega | (simp only [List.length_cons, List.length_nil]; omega))) (by kernel_rfl) (by kernel_rfl))) (by kernel_rfl) rfl (by kernel_rfl) rfl ?_
  refine Sq.vals [2, 3, 4, 5, 6] (rest := []) [.tuple #[sV ⟨#[98]⟩, bV true], sV ⟨#[98]⟩, bV true, sV ⟨#[98]⟩, bV true] (fun w => by kernel_rfl) ?_
  refine Sq.done ?_
  refine Ex'.next ?_
  refine Cd.seq ?_
  refine Cd.region rfl ?_
  refine Sq.vals [0] (rest := [1, 2, 3, 4, 5, 6]) [pV b3 0] (fun w => by kernel_rfl) ?_
  refine Sq.same [0, 1] (l := lfuL b3 qb4 2 4 false [(⟨#[99]⟩, (1, 4)), (⟨#[97]⟩, (2, 2))] 4) (o_call (by kernel_rfl) Try.call50 (Tri.eq (l2 := lfuL b3 qb4 2 4 false [(⟨#[99]⟩, (1, 4)), (⟨#[97]⟩, (2, 2))] 4) (r' := .tuple #[sV ⟨#[99]⟩, bV true]) (lfu_Victim (n := 4) (most := 2) (now := 4) (churn := false) (S := [(⟨#[99]⟩, (1, 4)), (⟨#[97]⟩, (2, 2))]) (by first | omega | (simp only [List.length_cons, List.length_nil]; omega))) (by kernel_rfl) (by kernel_rfl))) (by kernel_rfl) rfl (by kernel_rfl) rfl ?_
  refine Sq.vals [2, 3, 4, 5, 6] (rest := []) [.tuple #[sV ⟨#[99]⟩, bV true], sV ⟨#[99]⟩, bV true, sV ⟨#[99]⟩, bV true] (fun w => by kernel_rfl) ?_
  refine Sq.done ?_
  refine Ex'.next ?_
  refine Cd.seq ?_
  refine Cd.region rfl ?_
  refine Sq.same [4] (l := [blkR b7 [bV true, sV ⟨#[]⟩, bV false] 68]) (o_loadN (i := 0) [bV true, sV ⟨#[]⟩, bV false] (by kernel_rfl) (by kernel_rfl) (by kernel_rfl)) (by kernel_rfl) rfl (by kernel_rfl) rfl ?_
  refine Sq.vals [1, 2, 3] (rest := [4, 5, 6, 7, 8, 9, 10, 11, 12, 13, 14, 15, 16, 17, 18, 19, 20, 21, 22, 23, 24, 25, 26, 27, 28, 29, 30, 31, 32, 33, 34, 35, 36, 37, 38, 39, 40, 41, 42, 43, 44, 45, 46, 47, 48, 49, 50, 51, 52, 53, 54, 55, 56, 57, 58, 59, 60, 61, 62, 63, 64, 65, 66]) [.agg #[bV true, sV ⟨#[]⟩, bV false], bV true, bV true] (fun w => by kernel_rfl) ?_
  refine Sq.same [5] (l := [blkR b8 [bV false, sV ⟨#[98]⟩, bV true] 68]) (o_loadN (i := 0) [bV false, sV ⟨#[98]⟩, bV true] (by kernel_rfl) (by kernel_rfl) (by kernel_rfl)) (by kernel_rfl) rfl (by kernel_rfl) rfl ?_
  refine Sq.vals [5, 6, 7, 8, 9] (rest := [10, 11, 12, 13, 14, 15, 16, 17, 18, 19, 20, 21, 22, 23, 24, 25, 26, 27, 28, 29, 30, 31, 32, 33, 34, 35, 36, 37, 38, 39, 40, 41, 42, 43, 44, 45, 46, 47, 48, 49, 50, 51, 52, 53, 54, 55, 56, 57, 58, 59, 60, 61, 62, 63, 64, 65, 66]) [.agg #[bV false, sV ⟨#[98]⟩, bV true], bV true, bV true, bV true, sV ⟨#[98]⟩] (fun w => by kernel_rfl) ?_
  refine Sq.v (r := bV (decide ((⟨#[98]⟩ : ByteArray) = ⟨#[98]⟩))) (o_eqS (a := ⟨#[98]⟩) (b := ⟨#[98]⟩) (by kernel_rfl) (by kernel_rfl)) rfl (by kernel_rfl) ?_
  refine Sq.re 49 rfl (vT (by decide)) ?_
  refine Sq.vals [11, 12, 13, 14, 15, 16] (rest := [17, 18, 19, 20, 21, 22, 23, 24, 25, 26, 27, 28, 29, 30, 31, 32, 33, 34, 35, 36, 37, 38, 39, 40, 41, 42, 43, 44, 45, 46, 47, 48, 49, 50, 51, 52, 53, 54, 55, 56, 57, 58, 59, 60, 61, 62, 63, 64, 65, 66]) [bV true, bV true, bV true, bV true, bV true, sV ⟨#[99]⟩] (fun w => by kernel_rfl) ?_
  refine Sq.v (r := bV (decide ((⟨#[99]⟩ : ByteArray) = ⟨#[99]⟩))) (o_eqS (a := ⟨#[99]⟩) (b := ⟨#[99]⟩) (by kernel_rfl) (by kernel_rfl)) rfl (by kernel_rfl) ?_
  refine Sq.re 56 rfl (vT (by decide)) ?_
  refine Sq.vals [18, 19, 20, 21, 22, 23] (rest := [24, 25, 26, 27, 28, 29, 30, 31, 32, 33, 34, 35, 36, 37, 38, 39, 40, 41, 42, 43, 44, 45, 46, 47, 48, 49, 50, 51, 52, 53, 54, 55, 56, 57, 58, 59, 60, 61, 62, 63, 64, 65, 66]) [bV true, bV true, bV true, bV true, bV true, pV b3 0] (fun w => by kernel_rfl) ?_
  refine Sq.same [0, 1] (l := lfuL b3 qb4 2 4 false [(⟨#[99]⟩, (1, 4)), (⟨#[97]⟩, (2, 2))] 4) (o_call (by kernel_rfl) Try.call32 (Tri.eq (l2 := lfuL b3 qb4 2 4 false [(⟨#[99]⟩, (1, 4)), (⟨#[97]⟩, (2, 2))] 4) (r' := iV 2) (lfu_Times (n := 4) (most := 2) (now := 4) (churn := false) (S := [(⟨#[99]⟩, (1, 4)), (⟨#[97]⟩, (2, 2))]) ⟨#[97]⟩ (by first | omega | (simp only [List.length_cons, List.length_nil]; omega))) (by kernel_rfl) (by kernel_rfl))) (by kernel_rfl) rfl (by kernel_rfl) rfl ?_
  refine Sq.vals [25, 26, 27, 28] (rest := [29, 30, 31, 32, 33, 34, 35, 36, 37, 38, 39, 40, 41, 42, 43, 44, 45, 46, 47, 48, 49, 50, 51, 52, 53, 54, 55, 56, 57, 58, 59, 60, 61, 62, 63, 64, 65, 66]) [bV true, bV true, bV true, pV b3 0] (fun w => by kernel_rfl) ?_
  refine Sq.same [0, 1] (l := lfuL b3 qb4 2 4 false [(⟨#[99]⟩, (1, 4)), (⟨#[97]⟩, (2, 2))] 4) (o_call (by kernel_rfl) Try.call32 (Tri.eq (l2 := lfuL b3 qb4 2 4 false [(⟨#[99]⟩, (1, 4)), (⟨#[97]⟩, (2, 2))] 4) (r' := iV 0) (lfu_Times (n := 4) (most := 2) (now := 4) (churn := false) (S := [(⟨#[99]⟩, (1, 4)), (⟨#[97]⟩, (2, 2))]) ⟨#[98]⟩ (by first | omega | (simp only [List.length_cons, List.length_nil]; omega))) (by kernel_rfl) (by kernel_rfl))) (by kernel_rfl) rfl (by kernel_rfl) rfl ?_
  refine Sq.vals [30, 31, 32, 33] (rest := [34, 35, 36, 37, 38, 39, 40, 41, 42, 43, 44, 45, 46, 47, 48, 49, 50, 51, 52, 53, 54, 55, 56, 57, 58, 59, 60, 61, 62, 63, 64, 65, 66]) [bV true, bV true, bV true, pV b5 0] (fun w => by kernel_rfl) ?_
  refine Sq.same [2, 3] (l := lfuL b5 qb6 3 2 true [(⟨#[98]⟩, (1, (-2))), (⟨#[97]⟩, (1, (-1)))] 2) (o_call (by kernel_rfl) Try.call38 (Tri.eq (l2 := lfuL b5 qb6 3 3 true [(⟨#[113]⟩, (1, (-3))), (⟨#[98]⟩, (1, (-2))), (⟨#[97]⟩, (1, (-1)))] 3) (r' := bV true) (lfu_Adopt (n := 2) (n' := 3) (most := 3) (now := 2) (churn := true) (S := [(⟨#[98]⟩, (1, (-2))), (⟨#[97]⟩, (1, (-1)))]) ⟨#[113]⟩ (by first | omega | (simp only [List.length_cons, List.length_nil]; omega)) (by first | omega | (simp only [List.length_cons, List.length_nil]; omega)) (by first | omega | (simp only [List.length_cons, List.length_nil]; omega)) (by first | assumption | (unfold TmB; decide))) (by kernel_rfl) (by kernel_rfl))) (by kernel_rfl) rfl (by kernel_rfl) rfl ?_
  refine Sq.vals [35, 36, 37] (rest := [38, 39, 40, 41, 42, 43, 44, 45, 46, 47, 48, 49, 50, 51, 52, 53, 54, 55, 56, 57, 58, 59, 60, 61, 62, 63, 64, 65, 66]) [bV true, bV true, pV b5 0] (fun w => by kernel_rfl) ?_
  refine Sq.same [2, 3] (l := lfuL b5 qb6 3 3 true [(⟨#[113]⟩, (1, (-3))), (⟨#[98]⟩, (1, (-2))), (⟨#[97]⟩, (1, (-1)))] 3) (o_call (by kernel_rfl) Try.call38 (Tri.eq (l2 := lfuL b5 qb6 3 3 true [(⟨#[113]⟩, (1, (-3))), (⟨#[98]⟩, (1, (-2))), (⟨#[97]⟩, (1, (-1)))] 4) (r' := bV false) (lfu_Adopt (n := 3) (n' := 4) (most := 3) (now := 3) (churn := true) (S := [(⟨#[113]⟩, (1, (-3))), (⟨#[98]⟩, (1, (-2))), (⟨#[97]⟩, (1, (-1)))]) ⟨#[113]⟩ (by first | omega | (simp only [List.length_cons, List.length_nil]; omega)) (by first | omega | (simp only [List.length_cons, List.length_nil]; omega)) (by first | omega | (simp only [List.length_cons, List.length_nil]; omega)) (by first | assumption | (unfold TmB; decide))) (by kernel_rfl) (by kernel_rfl))) (by kernel_rfl) rfl (by kernel_rfl) rfl ?_
  refine Sq.vals [39, 40, 41, 42] (rest := [43, 44, 45, 46, 47, 48, 49, 50, 51, 52, 53, 54, 55, 56, 57, 58, 59, 60, 61, 62, 63, 64, 65, 66]) [bV true, bV true, bV true, pV b5 0] (fun w => by kernel_rfl) ?_
  refine Sq.same [2, 3] (l := lfuL b5 qb6 3 3 true [(⟨#[113]⟩, (1, (-3))), (⟨#[98]⟩, (1, (-2))), (⟨#[97]⟩, (1, (-1)))] 4) (o_call (by kernel_rfl) Try.call37 (Tri.eq (l2 := lfuL b5 qb6 3 3 true [(⟨#[98]⟩, (1, (-2))), (⟨#[97]⟩, (1, (-1)))] 4) (r' := bV true) (lfu_Remove (n := 4) (most := 3) (now := 3) (churn := true) (S := [(⟨#[113]⟩, (1, (-3))), (⟨#[98]⟩, (1, (-2))), (⟨#[97]⟩, (1, (-1)))]) ⟨#[113]⟩ (by first | omega | (simp only [List.length_cons, List.length_nil]; omega))) (by kernel_rfl) (by kernel_rfl))) (by kernel_rfl) rfl (by kernel_rfl) rfl ?_
  refine Sq.vals [44, 45, 46] (rest := [47, 48, 49, 50, 51, 52, 53, 54, 55, 56, 57, 58, 59, 60, 61, 62, 63, 64, 65, 66]) [bV true, bV true, pV b3 0] (fun w => by kernel_rfl) ?_
  refine Sq.ex [0, 1] (l := lfuL b3 qb4 2 4 false [(⟨#[99]⟩, (1, 4)), (⟨#[97]⟩, (2, 2))] 4) (o_call (by kernel_rfl) Try.call31 (Tri.ex (L' := fun v => lfuL b3 qb4 2 4 false [(⟨#[99]⟩, (1, 4)), (⟨#[97]⟩, (2, 2))] 4 ++ [rowR 9 1 v (([⟨#[99]⟩, ⟨#[97]⟩] : List ByteArray)).length ((([⟨#[99]⟩, ⟨#[97]⟩] : List ByteArray)).map Value.string)]) (lfu_Keys (n := 4) (most := 2) (now := 4) (churn := false) (S := [(⟨#[99]⟩, (1, 4)), (⟨#[97]⟩, (2, 2))]) (by first | omega | (simp only [List.length_cons, List.length_nil]; omega))) (fun v => by kernel_rfl))) (by kernel_rfl) rfl (by kernel_rfl) (fun _ => Nat.le_of_ble_eq_true (by kernel_rfl)) ?_; rintro v9 _
  refine Sq.fact (i := 6) (R := rowR 9 1 v9 (([⟨#[99]⟩, ⟨#[97]⟩] : List ByteArray).length) (([⟨#[99]⟩, ⟨#[97]⟩] : List ByteArray).map Value.string)) (by kernel_rfl) row_slice ?_; rintro ⟨a10, c11, rfl, hc11, hc11'⟩
  have hc11'' : c11 ≤ 9223372036854775807 := hc11'
  refine Sq.fact (i := 6) (R := rowR 9 1 (.slice a10 (([⟨#[99]⟩, ⟨#[97]⟩] : List ByteArray).length) c11) (([⟨#[99]⟩, ⟨#[97]⟩] : List ByteArray).length) (([⟨#[99]⟩, ⟨#[97]⟩] : List ByteArray).map Value.string)) (by kernel_rfl) (row_addr (by decide)) ?_; rintro ⟨b12, rfl⟩
  refine Sq.ex [] (l := []) (o_lit (sz := 1) (sV ⟨#[]⟩) [sV ⟨#[99]⟩, sV ⟨#[97]⟩] Try.underlying47 (by kernel_rfl) (by kernel_rfl) (by kernel_rfl) (by kernel_rfl) (by kernel_rfl)) (by kernel_rfl) rfl (by kernel_rfl) (fun _ => Nat.zero_le _) ?_; intro b13 _
  refine Sq.same [6, 7] (l := [rowR 9 1 (.slice (some ⟨b12, 0, none⟩) (([⟨#[99]⟩, ⟨#[97]⟩] : List ByteArray).length) c11) (([⟨#[99]⟩, ⟨#[97]⟩] : List ByteArray).length) (([⟨#[99]⟩, ⟨#[97]⟩] : List ByteArray).map Value.string), blkR b13 [sV ⟨#[99]⟩, sV ⟨#[97]⟩] 9]) (o_call (by kernel_rfl) Try.call39 ((t_same03 (l := [rowR 9 1 (.slice (some ⟨b12, 0, none⟩) (([⟨#[99]⟩, ⟨#[97]⟩] : List ByteArray).length) c11) (([⟨#[99]⟩, ⟨#[97]⟩] : List ByteArray).length) (([⟨#[99]⟩, ⟨#[97]⟩] : List ByteArray).map Value.string), blkR b13 [sV ⟨#[99]⟩, sV ⟨#[97]⟩] 9]) (xs := ([⟨#[99]⟩, ⟨#[97]⟩] : List ByteArray)) (ys := [⟨#[99]⟩, ⟨#[97]⟩]) (fun w own hH => ⟨⟨_, Row.strs (hH 0 _ rfl)⟩, ⟨_, blk_strs rfl rfl (by kernel_rfl) (hH 1 _ rfl)⟩⟩)).re (vT (by decide)))) (by kernel_rfl) rfl (by kernel_rfl) rfl ?_
  refine Sq.vals [50, 51, 52] (rest := [53, 54, 55, 56, 57, 58, 59, 60, 61, 62, 63, 64, 65, 66]) [bV true, bV true, pV b3 0] (fun w => by kernel_rfl) ?_
  refine Sq.same [0, 1] (l := lfuL b3 qb4 2 4 false [(⟨#[99]⟩, (1, 4)), (⟨#[97]⟩, (2, 2))] 4) (o_call (by kernel_rfl) Try.call34 (Tri.eq (l2 := lfuL b3 qb4 2 4 false [(⟨#[99]⟩, (1, 4)), (⟨#[97]⟩, (2, 2))] 4) (r' := iV 2) (lfu_Len (n := 4) (most := 2) (now := 4) (churn := false) (S := [(⟨#[99]⟩, (1, 4)), (⟨#[97]⟩, (2, 2))]) (by first | omega | (simp only [List.length_cons, List.length_nil]; omega))) (by kernel_rfl) (by kernel_rfl))) (by kernel_rfl) rfl (by kernel_rfl) rfl ?_
  refine Sq.vals [54, 55, 56, 57] (rest := [58, 59, 60, 61, 62, 63, 64, 65, 66]) [bV true, bV true, bV true, pV b3 0] (fun w => by kernel_rfl) ?_
  refine Sq.same [0, 1] (l := lfuL b3 qb4 2 4 false [(⟨#[99]⟩, (1, 4)), (⟨#[97]⟩, (2, 2))] 4) (o_call (by kernel_rfl) Try.call36 (Tri.eq (l2 := lfuL b3 qb4 2 4 false [(⟨#[99]⟩, (1, 4)), (⟨#[97]⟩, (2, 2))] 4) (r' := bV true) (lfu_Has (n := 4) (most := 2) (now := 4) (churn := false) (S := [(⟨#[99]⟩, (1, 4)), (⟨#[97]⟩, (2, 2))]) ⟨#[97]⟩ (by first | omega | (simp only [List.length_cons, List.length_nil]; omega))) (by kernel_rfl) (by kernel_rfl))) (by kernel_rfl) rfl (by kernel_rfl) rfl ?_
  refine Sq.vals [59, 60, 61] (rest := [62, 63, 64, 65, 66]) [bV true, bV true, pV b3 0] (fun w => by kernel_rfl) ?_
  refine Sq.same [] (l := []) (o_call (by kernel_rfl) Try.call53 (lfu_Ghosts (b := b3))) (by kernel_rfl) rfl (by kernel_rfl) rfl ?_
  refine Sq.vals [63, 64, 65, 66] (rest := []) [iV 0, bV true, bV true, bV true] (fun w => by kernel_rfl) ?_
  refine Sq.done ?_
  refine Ex'.next ?_
  refine Cd.ret ?_
  refine Ex'.ret Try.results29 (RVs.tmp (v := bV true) (by kernel_rfl) (RVs.nil)) (fun w hw => ?_)
  exact ⟨[], ⟨rfl, rfl⟩, hw.pickB [] (by kernel_rfl) (by kernel_rfl) (by kernel_rfl)⟩

end Go.Proofs.Ytnnjccfcalgokaa
