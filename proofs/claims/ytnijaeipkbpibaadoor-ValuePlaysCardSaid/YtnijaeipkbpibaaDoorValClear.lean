/- Clear. -/
import Derived.Test.YtnijaeipkbpibaaDoorValW
import Derived.Test.YtnijaeipkbpibaaDoorErrsW
import Derived.Test.YtnijaeipkbpibaaDoorRefS
import Derived.Test.YtnijaeipkbpibaaDoorSepH
set_option linter.unusedVariables false
namespace Go.Proofs.YtnijaeipkbpibaaDoor
open Go.RowKit Go.MapKept

set_option maxHeartbeats 8000000 in
set_option maxRecDepth 100000 in
theorem val_Clear {b mb qb n : Nat} {M : List (ByteArray × ByteArray × ByteArray × Int)} {S : List (KR ByteArray)} {bys : Int}  : Tri Tryd.prog 23 #[pV b 0] [valB b mb qb bys, mapR Value.string itV mb M, hpS qb S n] (PostE (fun _ : Nat => True) (fun _ => .tuple #[]) fun q => valL b mb q [] [] 0 0) := by
  refine Tri.enter (args := [pV b 0]) Tryd.func23 rfl rfl rfl (fun B wz => ?_)
  refine Cd.seq ?_
  refine Cd.region rfl ?_
  refine Sq.vals [0, 1, 2] (rest := [3, 4]) [pV b 0, pV b 0, pV b 0] (fun w => by kernel_rfl) ?_
  refine Sq.same [0] (l := [valB b mb qb bys]) (o_load (i := 0) (v := .map (some mb)) (by kernel_rfl) (by kernel_rfl) (by kernel_rfl)) (by kernel_rfl) rfl (by kernel_rfl) rfl ?_
  refine Sq.same [1] (l := [mapR Value.string itV mb M]) (o_clearMap (by kernel_rfl) Tryd.underlying61) (by kernel_rfl) rfl (by kernel_rfl) rfl ?_
  refine Sq.done ?_
  refine Ex'.next ?_
  refine Cd.seq ?_
  refine Cd.region rfl ?_
  refine Sq.vals [0] (rest := [1, 2, 3, 4]) [pV b 0] (fun w => by kernel_rfl) ?_
  refine Sq.ex [] (l := []) (o_call (by kernel_rfl) Tryd.call29 (hp_NewS)) (by kernel_rfl) rfl (by kernel_rfl) (fun _ => Nat.le_of_ble_eq_true (by kernel_rfl)) ?_; rintro b3 _
  refine Sq.vals [2, 3] (rest := [4]) [pV b 0, pV b 1] (fun w => by kernel_rfl) ?_
  refine Sq.same [0] (l := [valB b mb qb bys]) (o_store (i := 1) (v := pV b3 0) (by kernel_rfl) (by kernel_rfl) (by kernel_rfl) (by kernel_rfl) (by kernel_rfl)) (by kernel_rfl) rfl (by kernel_rfl) rfl ?_
  refine Sq.done ?_
  refine Ex'.next ?_
  refine Cd.region rfl ?_
  refine Sq.vals [0, 1, 2] (rest := [3]) [pV b 0, pV b 0, pV b 2] (fun w => by kernel_rfl) ?_
  refine Sq.same [0] (l := [valB b mb b3 bys]) (o_store (i := 2) (v := iV 0) (by kernel_rfl) (by kernel_rfl) (by kernel_rfl) (by kernel_rfl) (by kernel_rfl)) (by kernel_rfl) rfl (by kernel_rfl) rfl ?_
  refine Sq.done ?_
  refine Ex'.fin Tryd.results23 (RVs.nil) (fun w hw => ?_)
  exact ⟨_, ⟨b3, trivial, rfl, rfl⟩, hw.pickB [0, 1, 3] (by kernel_rfl) (by kernel_rfl) (by kernel_rfl)⟩

end Go.Proofs.YtnijaeipkbpibaaDoor
