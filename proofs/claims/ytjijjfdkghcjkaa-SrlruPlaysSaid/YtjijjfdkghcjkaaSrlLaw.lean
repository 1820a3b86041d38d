/- Package srlru: awake. -/
import Derived.Test.YtjijjfdkghcjkaaSrlPureC
import Derived.Test.YtjijjfdkghcjkaaRefS
import Derived.Test.YtjijjfdkghcjkaaStepEq
set_option linter.unusedVariables false
namespace Go.Proofs.Ytjijjfdkghcjkaa
open Go.RowKit Go.MapKept

set_option maxHeartbeats 8000000 in
set_option maxRecDepth 100000 in
theorem srl_awake   : Tri Try.prog 35 #[] [] (Same [] (bV true)) := by
  refine Tri.enter (args := []) Try.func35 rfl rfl rfl (fun B wz => ?_)
  refine Cd.seq ?_
  refine Cd.region rfl ?_
  refine Sq.vals [0] (rest := []) [bV false] (fun w => by kernel_rfl) ?_
  refine Sq.done ?_
  refine Ex'.next ?_
  refine Cd.seq ?_
  refine Cd.region rfl ?_
  refine Sq.ex [] (l := []) (o_call (by kernel_rfl) Try.call36 (Tri.ex (L' := fun x => srlL x.1 x.2.1 x.2.2.1 x.2.2.2.1 x.2.2.2.2 2 1 [] [] [] [] 0) (srl_New 2 (by first | omega | (simp only [List.length_cons, List.length_nil]; omega))) (fun x => by kernel_rfl))) (by kernel_rfl) rfl (by kernel_rfl) (fun _ => Nat.le_of_ble_eq_true (by kernel_rfl)) ?_; rintro ⟨b1, nb2, ab3, gb4, mb5⟩ _
  refine Sq.vals [1] (rest := []) [pV b1 0] (fun w => by kernel_rfl) ?_
  refine Sq.done ?_
  refine Ex'.next ?_
  refine Cd.seq ?_
  refine Cd.seq ?_
  refine Cd.region rfl ?_
  refine Sq.vals [0, 1] (rest := []) [pV b1 0, bV false] (fun w => by kernel_rfl) ?_
  refine Sq.done ?_
  refine Ex'.next ?_
  refine Cd.condF (by kernel_rfl) ?_
  refine Cd.skip ?_
  refine Ex'.next ?_
  refine Cd.seq ?_
  refine Cd.region rfl ?_
  refine Sq.vals [0] (rest := [1]) [pV b1 0] (fun w => by kernel_rfl) ?_
  refine Sq.same [0, 1, 2, 3, 4] (l := srlL b1 nb2 ab3 gb4 mb5 2 1 [] [] [] [] 0) (o_call (by kernel_rfl) Try.call37 (Tri.eq (l2 := srlL b1 nb2 ab3 gb4 mb5 2 1 [⟨#[97]⟩] [] [] [(⟨#[97]⟩, (false, false))] 3) (r' := .agg #[bV false, sV ⟨#[]⟩, bV false]) (srl_Request (n := 0) (n' := 3) (most := 2) (target := 1) (ns := []) (cs := []) (gs := []) (ms := []) ⟨#[97]⟩ (by first | omega | (simp only [List.length_cons, List.length_nil]; omega)) (by first | omega | (simp only [List.length_cons, List.length_nil]; omega)) (by first | omega | (simp only [List.length_cons, List.length_nil]; omega)) (by first | omega | (simp only [List.length_cons, List.length_nil]; omega))) (by kernel_rfl) (by kernel_rfl))) (by kernel_rfl) rfl (by kernel_rfl) rfl ?_
  refine Sq.done ?_
  refine Ex'.next ?_
  refine Cd.seq ?_
  refine Cd.region rfl ?_
  refine Sq.vals [0] (rest := [1, 2, 3]) [pV b1 0] (fun w => by kernel_rfl) ?_
  refine Sq.same [0, 1, 2, 3, 4] (l := srlL b1 nb2 ab3 gb4 mb5 2 1 [⟨#[97]⟩] [] [] [(⟨#[97]⟩, (false, false))] 3) (o_call (by kernel_rfl) Try.call37 (Tri.eq (l2 := srlL b1 nb2 ab3 gb4 mb5 2 1 [] [⟨#[97]⟩] [] [(⟨#[97]⟩, (true, false))] 6) (r' := .agg #[bV true, sV ⟨#[]⟩, bV false]) (srl_Request (n := 3) (n' := 6) (most := 2) (target := 1) (ns := [⟨#[97]⟩]) (cs := []) (gs := []) (ms := [(⟨#[97]⟩, (false, false))]) ⟨#[97]⟩ (by first | omega | (simp only [List.length_cons, List.length_nil]; omega)) (by first | omega | (simp only [List.length_cons, List.length_nil]; omega)) (by first | omega | (simp only [List.length_cons, List.length_nil]; omega)) (by first | omega | (simp only [List.length_cons, List.length_nil]; omega))) (by kernel_rfl) (by kernel_rfl))) (by kernel_rfl) rfl (by kernel_rfl) rfl ?_
  refine Sq.ex [] (l := []) (o_new [bV false, sV ⟨#[]⟩, bV false] (fun w => by kernel_rfl)) (by kernel_rfl) rfl (by kernel_rfl) (fun _ => Nat.zero_le _) ?_; intro b6 _
  refine Sq.same [5] (l := [blkR b6 [bV false, sV ⟨#[]⟩, bV false] 27]) (o_store (i := 0) (v := .agg #[bV true, sV ⟨#[]⟩, bV false]) (by kernel_rfl) (by kernel_rfl) (by kernel_rfl) (by kernel_rfl) (by kernel_rfl)) (by kernel_rfl) rfl (by kernel_rfl) rfl ?_
  refine Sq.done ?_
  refine Ex'.next ?_
  refine Cd.seq ?_
  refine Cd.region rfl ?_
  refine Sq.vals [0] (rest := [1]) [pV b1 0] (fun w => by kernel_rfl) ?_
  refine Sq.same [0, 1, 2, 3, 4] (l := srlL b1 nb2 ab3 gb4 mb5 2 1 [] [⟨#[97]⟩] [] [(⟨#[97]⟩, (true, false))] 6) (o_call (by kernel_rfl) Try.call37 (Tri.eq (l2 := srlL b1 nb2 ab3 gb4 mb5 2 1 [⟨#[98]⟩] [⟨#[97]⟩] [] [(⟨#[97]⟩, (true, false)), (⟨#[98]⟩, (false, false))] 10) (r' := .agg #[bV false, sV ⟨#[]⟩, bV false]) (srl_Request (n := 6) (n' := 10) (most := 2) (target := 1) (ns := []) (cs := [⟨#[97]⟩]) (gs := []) (ms := [(⟨#[97]⟩, (true, false))]) ⟨#[98]⟩ (by first | omega | (simp only [List.length_cons, List.length_nil]; omega)) (by first | omega | (simp only [List.length_cons, List.length_nil]; omega)) (by first | omega | (simp only [List.length_cons, List.length_nil]; omega)) (by first | omega | (simp only [List.length_cons, List.length_nil]; omega))) (by kernel_rfl) (by kernel_rfl))) (by kernel_rfl) rfl (by kernel_rfl) rfl ?_
  refine Sq.done ?_
  refine Ex'.next ?_
  refine Cd.seq ?_
  refine Cd.region rfl ?_
  refine Sq.vals [0] (rest := [1, 2, 3]) [pV b1 0] (fun w => by kernel_rfl) ?_
  refine Sq.same [0, 1, 2, 3, 4] (l := srlL b1 nb2 ab3 gb4 mb5 2 1 [⟨#[98]⟩] [⟨#[97]⟩] [] [(⟨#[97]⟩, (true, false)), (⟨#[98]⟩, (false, false))] 10) (o_call (by kernel_rfl) Try.call37 (Tri.eq (l2 := srlL b1 nb2 ab3 gb4 mb5 2 1 [⟨#[99]⟩] [⟨#[97]⟩] [⟨#[98]⟩] [(⟨#[97]⟩, (true, false)), (⟨#[98]⟩, (false, false)), (⟨#[99]⟩, (false, false))] 14) (r' := .agg #[bV false, sV ⟨#[98]⟩, bV true]) (srl_Request (n := 10) (n' := 14) (most := 2) (target := 1) (ns := [⟨#[98]⟩]) (cs := [⟨#[97]⟩]) (gs := []) (ms := [(⟨#[97]⟩, (true, false)), (⟨#[98]⟩, (false, false))]) ⟨#[99]⟩ (by first | omega | (simp only [List.length_cons, List.length_nil]; omega)) (by first | omega | (simp only [List.length_cons, List.length_nil]; omega)) (by first | omega | (simp only [List.length_cons, List.length_nil]; omega)) (by first | omega | (simp only [List.length_cons, List.length_nil]; omega))) (by kernel_rfl) (by kernel_rfl))) (by kernel_rfl) rfl (by kernel_rfl) rfl ?_
  refine Sq.ex [] (l := []) (o_new [bV false, sV ⟨#[]⟩, bV false] (fun w => by kernel_rfl)) (by kernel_rfl) rfl (by kernel_rfl) (fun _ => Nat.zero_le _) ?_; intro b7 _
  refine Sq.same [6] (l := [blkR b7 [bV false, sV ⟨#[]⟩, bV false] 27]) (o_store (i := 0) (v := .agg #[bV false, sV ⟨#[98]⟩, bV true]) (by kernel_rfl) (by kernel_rfl) (by kernel_rfl) (by kernel_rfl) (by kernel_rfl)) (by kernel_rfl) rfl (by kernel_rfl) rfl ?_
  refine Sq.done ?_
  refine Ex'.next ?_
  refine Cd.seq ?_
  refine Cd.region rfl ?_
  refine Sq.vals [0] (rest := [1, 2, 3, 4, 5, 6]) [pV b1 0] (fun w => by kernel_rfl) ?_
  refine Sq.same [0, 1, 2, 3, 4] (l := srlL b1 nb2 ab3 gb4 mb5 2 1 [⟨#[99]⟩] [⟨#[97]⟩] [⟨#[98]⟩] [(⟨#[97]⟩, (true, false)), (⟨#[98]⟩, (false, false)), (⟨#[99]⟩, (false, false))] 14) (o_call (by kernel_rfl) Try.call55 (Tri.eq (l2 := srlL b1 nb2 ab3 gb4 mb5 2 1 [⟨#[99]⟩] [⟨#[97]⟩] [⟨#[98]⟩] [(⟨#[97]⟩, (true, false)), (⟨#[98]⟩, (false, false)), (⟨#[99]⟩, (false, false))] 14) (r' := .tuple #[sV ⟨#[99]⟩, bV true]) (srl_Victim (n := 14) (most := 2) (target := 1) (ns := [⟨#[99]⟩]) (cs := [⟨#[97]⟩]) (gs := [⟨#[98]⟩]) (ms := [(⟨#[97]⟩, (true, false)), (⟨#[98]⟩, (false, false)), (⟨#[99]⟩, (false, false))]) (by first | omega | (simp only [List.length_cons, List.length_nil]; omega))) (by kernel_rfl) (by kernel_rfl))) (by kernel_rfl) rfl (by kernel_rfl) rfl ?_
  refine Sq.vals [2, 3, 4, 5, 6] (rest := []) [.tuple #[sV ⟨#[99]⟩, bV true], sV ⟨#[99]⟩, bV true, sV ⟨#[99]⟩, bV true] (fun w => by kernel_rfl) ?_
  refine Sq.done ?_
  refine Ex'.next ?_
  refine Cd.seq ?_
  refine Cd.region rfl ?_
  refine Sq.same [5] (l := [blkR b6 [bV true, sV ⟨#[]⟩, bV false] 27]) (o_loadN (i := 0) [bV true, sV ⟨#[]⟩, bV false] (by kernel_rfl) (by kernel_rfl) (by kernel_rfl)) (by kernel_rfl) rfl (by kernel_rfl) rfl ?_
  refine Sq.vals [1, 2, 3] (rest := [4, 5, 6, 7, 8, 9, 10, 11, 12, 13, 14, 15, 16, 17, 18, 19, 20, 21, 22, 23, 24, 25, 26, 27, 28, 29, 30, 31, 32, 33, 34, 35, 36, 37, 38, 39, 40, 41, 42, 43, 44, 45, 46, 47, 48, 49, 50, 51, 52, 53, 54, 55, 56, 57, 58, 59]) [.agg #[bV true, sV ⟨#[]⟩, bV false], bV true, bV true] (fun w => by kernel_rfl) ?_
  refine Sq.same [6] (l := [blkR b7 [bV false, sV ⟨#[98]⟩, bV true] 27]) (o_loadN (i := 0) [bV false, sV ⟨#[98]⟩, bV true] (by kernel_rfl) (by kernel_rfl) (by kernel_rfl)) (by kernel_rfl) rfl (by kernel_rfl) rfl ?_
  refine Sq.vals [5, 6, 7, 8, 9] (rest := [10, 11, 12, 13, 14, 15, 16, 17, 18, 19, 20, 21, 22, 23, 24, 25, 26, 27, 28, 29, 30, 31, 32, 33, 34, 35, 36, 37, 38, 39, 40, 41, 42, 43, 44, 45, 46, 47, 48, 49, 50, 51, 52, 53, 54, 55, 56, 57, 58, 59]) [.agg #[bV false, sV ⟨#[98]⟩, bV true], bV true, bV true, bV true, sV ⟨#[99]⟩] (fun w => by kernel_rfl) ?_
  refine Sq.v (r := bV (decide ((⟨#[99]⟩ : ByteArray) = ⟨#[99]⟩))) (o_eqS (a := ⟨#[99]⟩) (b := ⟨#[99]⟩) (by kernel_rfl) (by kernel_rfl)) rfl (by kernel_rfl) ?_
  refine Sq.re 32 rfl (vT (by decide)) ?_
  refine Sq.vals [11, 12, 13, 14, 15, 16] (rest := [17, 18, 19, 20, 21, 22, 23, 24, 25, 26, 27, 28, 29, 30, 31, 32, 33, 34, 35, 36, 37, 38, 39, 40, 41, 42, 43, 44, 45, 46, 47, 48, 49, 50, 51, 52, 53, 54, 55, 56, 57, 58, 59]) [bV true, bV true, bV true, bV true, bV true, pV b1 0] (fun w => by kernel_rfl) ?_
  refine Sq.same [0, 1, 2, 3, 4] (l := srlL b1 nb2 ab3 gb4 mb5 2 1 [⟨#[99]⟩] [⟨#[97]⟩] [⟨#[98]⟩] [(⟨#[97]⟩, (true, false)), (⟨#[98]⟩, (false, false)), (⟨#[99]⟩, (false, false))] 14) (o_call (by kernel_rfl) Try.call43 (Tri.eq (l2 := srlL b1 nb2 ab3 gb4 mb5 2 1 [⟨#[99]⟩] [⟨#[97]⟩] [⟨#[98]⟩] [(⟨#[97]⟩, (true, false)), (⟨#[98]⟩, (false, false)), (⟨#[99]⟩, (false, false))] 14) (r' := iV 1) (srl_Target (n := 14) (most := 2) (target := 1) (ns := [⟨#[99]⟩]) (cs := [⟨#[97]⟩]) (gs := [⟨#[98]⟩]) (ms := [(⟨#[97]⟩, (true, false)), (⟨#[98]⟩, (false, false)), (⟨#[99]⟩, (false, false))]) (by first | omega | (simp only [List.length_cons, List.length_nil]; omega))) (by kernel_rfl) (by kernel_rfl))) (by kernel_rfl) rfl (by kernel_rfl) rfl ?_
  refine Sq.vals [18, 19, 20, 21] (rest := [22, 23, 24, 25, 26, 27, 28, 29, 30, 31, 32, 33, 34, 35, 36, 37, 38, 39, 40, 41, 42, 43, 44, 45, 46, 47, 48, 49, 50, 51, 52, 53, 54, 55, 56, 57, 58, 59]) [bV true, bV true, bV true, pV b1 0] (fun w => by kernel_rfl) ?_
  refine Sq.same [0, 1, 2, 3, 4] (l := srlL b1 nb2 ab3 gb4 mb5 2 1 [⟨#[99]⟩] [⟨#[97]⟩] [⟨#[98]⟩] [(⟨#[97]⟩, (true, false)), (⟨#[98]⟩, (false, false)), (⟨#[99]⟩, (false, false))] 14) (o_call (by kernel_rfl) Try.call39 (Tri.eq (l2 := srlL b1 nb2 ab3 gb4 mb5 2 1 [⟨#[99]⟩] [⟨#[97]⟩] [⟨#[98]⟩] [(⟨#[97]⟩, (true, false)), (⟨#[98]⟩, (false, false)), (⟨#[99]⟩, (false, false))] 14) (r' := iV 1) (srl_Again (n := 14) (most := 2) (target := 1) (ns := [⟨#[99]⟩]) (cs := [⟨#[97]⟩]) (gs := [⟨#[98]⟩]) (ms := [(⟨#[97]⟩, (true, false)), (⟨#[98]⟩, (false, false)), (⟨#[99]⟩, (false, false))]) (by first | omega | (simp only [List.length_cons, List.length_nil]; omega))) (by kernel_rfl) (by kernel_rfl))) (by kernel_rfl) rfl (by kernel_rfl) rfl ?_
  refine Sq.vals [23, 24, 25, 26] (rest := [27, 28, 29, 30, 31, 32, 33, 34, 35, 36, 37, 38, 39, 40, 41, 42, 43, 44, 45, 46, 47, 48, 49, 50, 51, 52, 53, 54, 55, 56, 57, 58, 59]) [bV true, bV true, bV true, pV b1 0] (fun w => by kernel_rfl) ?_
  refine Sq.ex [0, 1, 2, 3, 4] (l := srlL b1 nb2 ab3 gb4 mb5 2 1 [⟨#[99]⟩] [⟨#[97]⟩] [⟨#[98]⟩] [(⟨#[97]⟩, (true, false)), (⟨#[98]⟩, (false, false)), (⟨#[99]⟩, (false, false))] 14) (o_call (by kernel_rfl) Try.call38 (Tri.ex (L' := fun v => srlL b1 nb2 ab3 gb4 mb5 2 1 [⟨#[99]⟩] [⟨#[97]⟩] [⟨#[98]⟩] [(⟨#[97]⟩, (true, false)), (⟨#[98]⟩, (false, false)), (⟨#[99]⟩, (false, false))] 14 ++ [rowR 9 1 v (([⟨#[99]⟩, ⟨#[97]⟩] : List ByteArray)).length ((([⟨#[99]⟩, ⟨#[97]⟩] : List ByteArray)).map Value.string)]) (srl_Keys (n := 14) (most := 2) (target := 1) (ns := [⟨#[99]⟩]) (cs := [⟨#[97]⟩]) (gs := [⟨#[98]⟩]) (ms := [(⟨#[97]⟩, (true, false)), (⟨#[98]⟩, (false, false)), (⟨#[99]⟩, (false, false))]) (by first | omega | (simp only [List.length_cons, List.length_nil]; omega))) (fun v => by kernel_rfl))) (by kernel_rfl) rfl (by kernel_rfl) (fun _ => Nat.le_of_ble_eq_true (by kernel_rfl)) ?_; rintro v8 _
  refine Sq.fact (i := 7) (R := rowR 9 1 v8 (([⟨#[99]⟩, ⟨#[97]⟩] : List ByteArray).length) (([⟨#[99]⟩, ⟨#[97]⟩] : List ByteArray).map Value.string)) (by kernel_rfl) row_slice ?_; rintro ⟨a9, c10, rfl, hc10, hc10'⟩
  have hc10'' : c10 ≤ 9223372036854775807 := hc10'
  refine Sq.fact (i := 7) (R := rowR 9 1 (.slice a9 (([⟨#[99]⟩, ⟨#[97]⟩] : List ByteArray).length) c10) (([⟨#[99]⟩, ⟨#[97]⟩] : List ByteArray).length) (([⟨#[99]⟩, ⟨#[97]⟩] : List ByteArray).map Value.string)) (by kernel_rfl) (row_addr (by decide)) ?_; rintro ⟨b11, rfl⟩
  refine Sq.ex [] (l := []) (o_lit (sz := 1) (sV ⟨#[]⟩) [sV ⟨#[99]⟩, sV ⟨#[97]⟩] Try.underlying22 (by kernel_rfl) (by kernel_rfl) (by kernel_rfl) (by kernel_rfl) (by kernel_rfl)) (by kernel_rfl) rfl (by kernel_rfl) (fun _ => Nat.zero_le _) ?_; intro b12 _
  refine Sq.same [7, 8] (l := [rowR 9 1 (.slice (some ⟨b11, 0, none⟩) (([⟨#[99]⟩, ⟨#[97]⟩] : List ByteArray).length) c10) (([⟨#[99]⟩, ⟨#[97]⟩] : List ByteArray).length) (([⟨#[99]⟩, ⟨#[97]⟩] : List ByteArray).map Value.string), blkR b12 [sV ⟨#[99]⟩, sV ⟨#[97]⟩] 9]) (o_call (by kernel_rfl) Try.call22 ((t_same03 (l := [rowR 9 1 (.slice (some ⟨b11, 0, none⟩) (([⟨#[99]⟩, ⟨#[97]⟩] : List ByteArray).length) c10) (([⟨#[99]⟩, ⟨#[97]⟩] : List ByteArray).length) (([⟨#[99]⟩, ⟨#[97]⟩] : List ByteArray).map Value.string), blkR b12 [sV ⟨#[99]⟩, sV ⟨#[97]⟩] 9]) (xs := ([⟨#[99]⟩, ⟨#[97]⟩] : List ByteArray)) (ys := [⟨#[99]⟩, ⟨#[97]⟩]) (fun w own hH => ⟨⟨_, Row.strs (hH 0 _ rfl)⟩, ⟨_, blk_strs rfl rfl (by kernel_rfl) (hH 1 _ rfl)⟩⟩)).re (vT (by decide)))) (by kernel_rfl) rfl (by kernel_rfl) rfl ?_
  refine Sq.vals [30, 31, 32] (rest := [33, 34, 35, 36, 37, 38, 39, 40, 41, 42, 43, 44, 45, 46, 47, 48, 49, 50, 51, 52, 53, 54, 55, 56, 57, 58, 59]) [bV true, bV true, pV b1 0] (fun w => by kernel_rfl) ?_
  refine Sq.ex [0, 1, 2, 3, 4] (l := srlL b1 nb2 ab3 gb4 mb5 2 1 [⟨#[99]⟩] [⟨#[97]⟩] [⟨#[98]⟩] [(⟨#[97]⟩, (true, false)), (⟨#[98]⟩, (false, false)), (⟨#[99]⟩, (false, false))] 14) (o_call (by kernel_rfl) Try.call41 (Tri.ex (L' := fun v => srlL b1 nb2 ab3 gb4 mb5 2 1 [⟨#[99]⟩] [⟨#[97]⟩] [⟨#[98]⟩] [(⟨#[97]⟩, (true, false)), (⟨#[98]⟩, (false, false)), (⟨#[99]⟩, (false, false))] 14 ++ [rowR 9 1 v (([⟨#[98]⟩] : List ByteArray)).length ((([⟨#[98]⟩] : List ByteArray)).map Value.string)]) (srl_Ghosts (n := 14) (most := 2) (target := 1) (ns := [⟨#[99]⟩]) (cs := [⟨#[97]⟩]) (gs := [⟨#[98]⟩]) (ms := [(⟨#[97]⟩, (true, false)), (⟨#[98]⟩, (false, false)), (⟨#[99]⟩, (false, false))]) (by first | omega | (simp only [List.length_cons, List.length_nil]; omega))) (fun v => by kernel_rfl))) (by kernel_rfl) rfl (by kernel_rfl) (fun _ => Nat.le_of_ble_eq_true (by kernel_rfl)) ?_; rintro v13 _
  refine Sq.fact (i := 9) (R := rowR 9 1 v13 (([⟨#[98]⟩] : List ByteArray).length) (([⟨#[98]⟩] : List ByteArray).map Value.string)) (by kernel_rfl) row_slice ?_; rintro ⟨a14, c15, rfl, hc15, hc15'⟩
  have hc15'' : c15 ≤ 9223372036854775807 := hc15'
  refine Sq.fact (i := 9) (R := rowR 9 1 (.slice a14 (([⟨#[98]⟩] : List ByteArray).length) c15) (([⟨#[98]⟩] : List ByteArray).length) (([⟨#[98]⟩] : List ByteArray).map Value.string)) (by kernel_rfl) (row_addr (by decide)) ?_; rintro ⟨b16, rfl⟩
  refine Sq.ex [] (l := []) (o_lit (sz := 1) (sV ⟨#[]⟩) [sV ⟨#[98]⟩] Try.underlying22 (by kernel_rfl) (by kernel_rfl) (by kernel_rfl) (by kernel_rfl) (by kernel_rfl)) (by kernel_rfl) rfl (by kernel_rfl) (fun _ => Nat.zero_le _) ?_; intro b17 _
  refine Sq.same [9, 10] (l := [rowR 9 1 (.slice (some ⟨b16, 0, none⟩) (([⟨#[98]⟩] : List ByteArray).length) c15) (([⟨#[98]⟩] : List ByteArray).length) (([⟨#[98]⟩] : List ByteArray).map Value.string), blkR b17 [sV ⟨#[98]⟩] 9]) (o_call (by kernel_rfl) Try.call22 ((t_same03 (l := [rowR 9 1 (.slice (some ⟨b16, 0, none⟩) (([⟨#[98]⟩] : List ByteArray).length) c15) (([⟨#[98]⟩] : List ByteArray).length) (([⟨#[98]⟩] : List ByteArray).map Value.string), blkR b17 [sV ⟨#[98]⟩] 9]) (xs := ([⟨#[98]⟩] : List ByteArray)) (ys := [⟨#[98]⟩]) (fun w own hH => ⟨⟨_, Row.strs (hH 0 _ rfl)⟩, ⟨_, blk_strs rfl rfl (by kernel_rfl) (hH 1 _ rfl)⟩⟩)).re (vT (by decide)))) (by kernel_rfl) rfl (by kernel_rfl) rfl ?_
  refine Sq.vals [36, 37, 38] (rest := [39, 40, 41, 42, 43, 44, 45, 46, 47, 48, 49, 50, 51, 52, 53, 54, 55, 56, 57, 58, 59]) [bV true, bV true, pV b1 0] (fun w => by kernel_rfl) ?_
  refine Sq.same [0, 1, 2, 3, 4] (l := srlL b1 nb2 ab3 gb4 mb5 2 1 [⟨#[99]⟩] [⟨#[97]⟩] [⟨#[98]⟩] [(⟨#[97]⟩, (true, false)), (⟨#[98]⟩, (false, false)), (⟨#[99]⟩, (false, false))] 14) (o_call (by kernel_rfl) Try.call40 (Tri.eq (l2 := srlL b1 nb2 ab3 gb4 mb5 2 1 [⟨#[99]⟩] [⟨#[97]⟩] [⟨#[98]⟩] [(⟨#[97]⟩, (true, false)), (⟨#[98]⟩, (false, false)), (⟨#[99]⟩, (false, false))] 14) (r' := iV 2) (srl_Len (n := 14) (most := 2) (target := 1) (ns := [⟨#[99]⟩]) (cs := [⟨#[97]⟩]) (gs := [⟨#[98]⟩]) (ms := [(⟨#[97]⟩, (true, false)), (⟨#[98]⟩, (false, false)), (⟨#[99]⟩, (false, false))]) (by first | omega | (simp only [List.length_cons, List.length_nil]; omega))) (by kernel_rfl) (by kernel_rfl))) (by kernel_rfl) rfl (by kernel_rfl) rfl ?_
  refine Sq.vals [40, 41, 42, 43] (rest := [44, 45, 46, 47, 48, 49, 50, 51, 52, 53, 54, 55, 56, 57, 58, 59]) [bV true, bV true, bV true, pV b1 0] (fun w => by kernel_rfl) ?_
  refine Sq.same [0, 1, 2, 3, 4] (l := srlL b1 nb2 ab3 gb4 mb5 2 1 [⟨#[99]⟩] [⟨#[97]⟩] [⟨#[98]⟩] [(⟨#[97]⟩, (true, false)), (⟨#[98]⟩, (false, false)), (⟨#[99]⟩, (false, false))] 14) (o_call (by kernel_rfl) Try.call42 (Tri.eq (l2 := srlL b1 nb2 ab3 gb4 mb5 2 1 [⟨#[99]⟩] [⟨#[97]⟩] [⟨#[98]⟩] [(⟨#[97]⟩, (true, false)), (⟨#[98]⟩, (false, false)), (⟨#[99]⟩, (false, false))] 14) (r' := bV true) (srl_Has (n := 14) (most := 2) (target := 1) (ns := [⟨#[99]⟩]) (cs := [⟨#[97]⟩]) (gs := [⟨#[98]⟩]) (ms := [(⟨#[97]⟩, (true, false)), (⟨#[98]⟩, (false, false)), (⟨#[99]⟩, (false, false))]) ⟨#[97]⟩ (by first | omega | (simp only [List.length_cons, List.length_nil]; omega))) (by kernel_rfl) (by kernel_rfl))) (by kernel_rfl) rfl (by kernel_rfl) rfl ?_
  refine Sq.vals [45, 46, 47] (rest := [48, 49, 50, 51, 52, 53, 54, 55, 56, 57, 58, 59]) [bV true, bV true, pV b1 0] (fun w => by kernel_rfl) ?_
  refine Sq.same [0, 1, 2, 3, 4] (l := srlL b1 nb2 ab3 gb4 mb5 2 1 [⟨#[99]⟩] [⟨#[97]⟩] [⟨#[98]⟩] [(⟨#[97]⟩, (true, false)), (⟨#[98]⟩, (false, false)), (⟨#[99]⟩, (false, false))] 14) (o_call (by kernel_rfl) Try.call45 (Tri.eq (l2 := srlL b1 nb2 ab3 gb4 mb5 2 1 [⟨#[99]⟩] [⟨#[97]⟩] [⟨#[98]⟩] [(⟨#[97]⟩, (true, false)), (⟨#[98]⟩, (false, false)), (⟨#[99]⟩, (false, false))] 15) (r' := bV false) (srl_Adopt (n := 14) (n' := 15) (most := 2) (target := 1) (ns := [⟨#[99]⟩]) (cs := [⟨#[97]⟩]) (gs := [⟨#[98]⟩]) (ms := [(⟨#[97]⟩, (true, false)), (⟨#[98]⟩, (false, false)), (⟨#[99]⟩, (false, false))]) ⟨#[113]⟩ (by first | omega | (simp only [List.length_cons, List.length_nil]; omega)) (by first | omega | (simp only [List.length_cons, List.length_nil]; omega))) (by kernel_rfl) (by kernel_rfl))) (by kernel_rfl) rfl (by kernel_rfl) rfl ?_
  refine Sq.vals [49, 50, 51, 52] (rest := [53, 54, 55, 56, 57, 58, 59]) [bV true, bV true, bV true, pV b1 0] (fun w => by kernel_rfl) ?_
  refine Sq.same [0, 1, 2, 3, 4] (l := srlL b1 nb2 ab3 gb4 mb5 2 1 [⟨#[99]⟩] [⟨#[97]⟩] [⟨#[98]⟩] [(⟨#[97]⟩, (true, false)), (⟨#[98]⟩, (false, false)), (⟨#[99]⟩, (false, false))] 15) (o_call (by kernel_rfl) Try.call44 (Tri.eq (l2 := srlL b1 nb2 ab3 gb4 mb5 2 1 [⟨#[99]⟩] [] [⟨#[98]⟩] [(⟨#[98]⟩, (false, false)), (⟨#[99]⟩, (false, false))] 15) (r' := bV true) (srl_Remove (n := 15) (most := 2) (target := 1) (ns := [⟨#[99]⟩]) (cs := [⟨#[97]⟩]) (gs := [⟨#[98]⟩]) (ms := [(⟨#[97]⟩, (true, false)), (⟨#[98]⟩, (false, false)), (⟨#[99]⟩, (false, false))]) ⟨#[97]⟩ (by first | omega | (simp only [List.length_cons, List.length_nil]; omega))) (by kernel_rfl) (by kernel_rfl))) (by kernel_rfl) rfl (by kernel_rfl) rfl ?_
  refine Sq.vals [54, 55, 56] (rest := [57, 58, 59]) [bV true, bV true, pV b1 0] (fun w => by kernel_rfl) ?_
  refine Sq.same [0, 1, 2, 3, 4] (l := srlL b1 nb2 ab3 gb4 mb5 2 1 [⟨#[99]⟩] [] [⟨#[98]⟩] [(⟨#[98]⟩, (false, false)), (⟨#[99]⟩, (false, false))] 15) (o_call (by kernel_rfl) Try.call45 (Tri.eq (l2 := srlL b1 nb2 ab3 gb4 mb5 2 1 [⟨#[113]⟩, ⟨#[99]⟩] [] [⟨#[98]⟩] [(⟨#[98]⟩, (false, false)), (⟨#[99]⟩, (false, false)), (⟨#[113]⟩, (false, false))] 16) (r' := bV true) (srl_Adopt (n := 15) (n' := 16) (most := 2) (target := 1) (ns := [⟨#[99]⟩]) (cs := []) (gs := [⟨#[98]⟩]) (ms := [(⟨#[98]⟩, (false, false)), (⟨#[99]⟩, (false, false))]) ⟨#[113]⟩ (by first | omega | (simp only [List.length_cons, List.length_nil]; omega)) (by first | omega | (simp only [List.length_cons, List.length_nil]; omega))) (by kernel_rfl) (by kernel_rfl))) (by kernel_rfl) rfl (by kernel_rfl) rfl ?_
  refine Sq.vals [58, 59] (rest := []) [bV true, bV true] (fun w => by kernel_rfl) ?_
  refine Sq.done ?_
  refine Ex'.next ?_
  refine Cd.ret ?_
  refine Ex'.ret Try.results35 (RVs.tmp (v := bV true) (by kernel_rfl) (RVs.nil)) (fun w hw => ?_)
  exact ⟨[], ⟨rfl, rfl⟩, hw.pickB [] (by kernel_rfl) (by kernel_rfl) (by kernel_rfl)⟩

end Go.Proofs.Ytjijjfdkghcjkaa
