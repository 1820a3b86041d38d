/- slices.SortedFunc over maps.Values; Items. -/
import Derived.Test.YtnijaeipkbpibaaDoorItemsS
set_option linter.unusedVariables false
namespace Go.Proofs.YtnijaeipkbpibaaDoor
open Go.RowKit Go.MapKept Go.Sort

set_option maxHeartbeats 8000000 in
set_option maxRecDepth 100000 in
theorem t_values {mb : Nat}  : Tri Tryd.prog 36 #[.map (some mb)] [] (PostE (fun _ => True) (fun b => .func (.func 47) #[] #[pV b 0]) fun b => [blkR b [.map (some mb)] 61]) := by
  refine Tri.enter (args := [.map (some mb)]) Tryd.func36 rfl rfl rfl (fun B wz => ?_)
  refine Cd.seq ?_
  refine Cd.region rfl ?_
  refine Sq.ex [] (l := []) (o_newBox (v := .map (some mb)) [.map (some mb)] (by kernel_rfl) rfl) (by kernel_rfl) rfl (by kernel_rfl) (fun _ => Nat.zero_le _) ?_; intro b3 _
  refine Sq.vals [1] (rest := []) [.nilFunc] (fun w => by kernel_rfl) ?_
  refine Sq.done ?_
  refine Ex'.next ?_
  refine Cd.seq ?_
  refine Cd.region rfl ?_
  refine Sq.vals [0, 1] (rest := []) [.func (.func 47) #[] #[pV b3 0], .func (.func 47) #[] #[pV b3 0]] (fun w => by kernel_rfl) ?_
  refine Sq.done ?_
  refine Ex'.next ?_
  refine Cd.ret ?_
  refine Ex'.ret Tryd.results36 (RVs.tmp (v := .func (.func 47) #[] #[pV b3 0]) (by kernel_rfl) (RVs.nil)) (fun w hw => ?_)
  exact ⟨_, ⟨b3, trivial, rfl, rfl⟩, hw.pickB [0] (by kernel_rfl) (by kernel_rfl) (by kernel_rfl)⟩

set_option maxHeartbeats 8000000 in
set_option maxRecDepth 100000 in
theorem t_sorted {mb bx : Nat} {M : List (ByteArray × ByteArray × ByteArray × Int)} (hM : M.length ≤ 1000000000) : Tri Tryd.prog 35 #[.func (.func 47) #[] #[pV bx 0], .func (.func 37) #[] #[]] [mapR Value.string itV mb M, blkR bx [.map (some mb)] 61] (PostE (ι := Value × List It) (fun x => x.2.Perm (M.map (·.2)) ∧ x.2.Pairwise fun x y => ltOf icmp y x = false) (fun x => x.1) fun x => [mapR Value.string itV mb M, blkR bx [.map (some mb)] 61, rowR 24 3 x.1 x.2.length (x.2.flatMap it3)]) := by
  refine Tri.enter (args := [.func (.func 47) #[] #[pV bx 0], .func (.func 37) #[] #[]]) Tryd.func35 rfl rfl rfl (fun B wz => ?_)
  refine Cd.seq ?_
  refine Cd.region rfl ?_
  refine Sq.vals [0] (rest := []) [.slice none 0 0] (fun w => by kernel_rfl) ?_
  refine Sq.done ?_
  refine Ex'.next ?_
  refine Cd.seq ?_
  refine Cd.region rfl ?_
  refine Sq.vals [0] (rest := [1, 2]) [.func (.func 47) #[] #[pV bx 0]] (fun w => by kernel_rfl) ?_
  refine Sq.ex [0, 1] (l := [mapR Value.string itV mb M, blkR bx [.map (some mb)] 61]) (o_call (by kernel_rfl) Tryd.call45 (t_collect (bx := bx) (mb := mb) (M := M) (by omega))) (by kernel_rfl) rfl (by kernel_rfl) (fun _ => Nat.le_of_ble_eq_true (by kernel_rfl)) ?_; rintro x1 hcl
  have hcll := hcl.length_eq; rw [List.length_map] at hcll
  refine Sq.vals [2] (rest := []) [x1.1] (fun w => by kernel_rfl) ?_
  refine Sq.done ?_
  refine Ex'.next ?_
  refine Cd.seq ?_
  refine Cd.region rfl ?_
  refine Sq.vals [0, 1] (rest := [2]) [x1.1, .func (.func 37) #[] #[]] (fun w => by kernel_rfl) ?_
  refine Sq.ex [2] (l := [rowR 24 3 x1.1 x1.2.length (x1.2.flatMap it3)]) (o_call (by kernel_rfl) Tryd.call46 (it_sort (v := x1.1) (n := x1.2.length) (l := x1.2) (by omega) rfl)) (by kernel_rfl) rfl (by kernel_rfl) (fun _ => Nat.le_of_ble_eq_true (by kernel_rfl)) ?_; rintro d2 ⟨hd1, hd2⟩
  refine Sq.done ?_
  refine Ex'.next ?_
  refine Cd.seq ?_
  refine Cd.region rfl ?_
  refine Sq.vals [0, 1] (rest := []) [x1.1, x1.1] (fun w => by kernel_rfl) ?_
  refine Sq.done ?_
  refine Ex'.next ?_
  refine Cd.ret ?_
  refine Ex'.ret Tryd.results35 (RVs.tmp (v := x1.1) (by kernel_rfl) (RVs.nil)) (fun w hw => ?_)
  have hdl := hd1.length_eq
  exact ⟨_, ⟨(x1.1, d2), ⟨hd1.trans hcl, hd2⟩, rfl, rfl⟩, (hw.conv 2 (R := rowR 24 3 x1.1 x1.2.length (d2.flatMap it3)) (R' := rowR 24 3 x1.1 d2.length (d2.flatMap it3)) (by kernel_rfl) (fun w T q => by rw [hdl]; exact q)).pickB [0, 1, 2] (by kernel_rfl) (by kernel_rfl) (by kernel_rfl)⟩

set_option maxHeartbeats 8000000 in
set_option maxRecDepth 100000 in
theorem val_Items {b mb qb n : Nat} {M : List (ByteArray × ByteArray × ByteArray × Int)} {S : List (KR ByteArray)} {bys : Int} (hM : M.length ≤ 1000000000) : Tri Tryd.prog 16 #[pV b 0] [valB b mb qb bys, mapR Value.string itV mb M, hpS qb S n] (PostE (ι := Value × List It) (fun x => x.2.Perm (M.map (·.2)) ∧ x.2.Pairwise fun x y => ltOf icmp y x = false) (fun x => x.1) fun x => valL b mb qb M S bys n ++ [rowR 24 3 x.1 x.2.length (x.2.flatMap it3)]) := by
  refine Tri.enter (args := [pV b 0]) Tryd.func16 rfl rfl rfl (fun B wz => ?_)
  refine Cd.seq ?_
  refine Cd.region rfl ?_
  refine Sq.vals [0] (rest := []) [.slice none 0 0] (fun w => by kernel_rfl) ?_
  refine Sq.done ?_
  refine Ex'.next ?_
  refine Cd.seq ?_
  refine Cd.region rfl ?_
  refine Sq.vals [0, 1, 2] (rest := [3, 4, 5, 6]) [pV b 0, pV b 0, pV b 0] (fun w => by kernel_rfl) ?_
  refine Sq.same [0] (l := [valB b mb qb bys]) (o_load (i := 0) (v := .map (some mb)) (by kernel_rfl) (by kernel_rfl) (by kernel_rfl)) (by kernel_rfl) rfl (by kernel_rfl) rfl ?_
  refine Sq.ex [] (l := []) (o_call (by kernel_rfl) Tryd.call36 (t_values (mb := mb))) (by kernel_rfl) rfl (by kernel_rfl) (fun _ => Nat.le_of_ble_eq_true (by kernel_rfl)) ?_; rintro b3 _
  refine Sq.ex [1, 3] (l := [mapR Value.string itV mb M, blkR b3 [.map (some mb)] 61]) (o_call (by kernel_rfl) Tryd.call35 (t_sorted (bx := b3) (mb := mb) (M := M) (by omega))) (by kernel_rfl) rfl (by kernel_rfl) (fun _ => Nat.le_of_ble_eq_true (by kernel_rfl)) ?_; rintro x4 hsx
  refine Sq.vals [6] (rest := []) [x4.1] (fun w => by kernel_rfl) ?_
  refine Sq.done ?_
  refine Ex'.next ?_
  refine Cd.ret ?_
  refine Ex'.ret Tryd.results16 (RVs.tmp (v := x4.1) (by kernel_rfl) (RVs.nil)) (fun w hw => ?_)
  exact ⟨_, ⟨x4, hsx, rfl, rfl⟩, hw.pickB [0, 1, 2, 4] (by kernel_rfl) (by kernel_rfl) (by kernel_rfl)⟩

end Go.Proofs.YtnijaeipkbpibaaDoor
