/- cachewiselaw01.Wraps. -/
import Derived.Test.YtnijaeipkbpibaaDoorErrsT
import Derived.Test.YtnijaeipkbpibaaDoorSepK
set_option linter.unusedVariables false
namespace Go.Proofs.YtnijaeipkbpibaaDoor
open Go.RowKit Go.MapKept

set_option maxHeartbeats 8000000 in
set_option maxRecDepth 100000 in
theorem wraps_nil {op key : ByteArray} {d : Int}  : Tri Tryd.prog 18 #[.nilIface, sV op, sV key, iV d] [] (Same [] (bV (decide (d = 0)))) := by
  refine Tri.enter (args := [.nilIface, sV op, sV key, iV d]) Tryd.func18 rfl rfl rfl (fun B wz => ?_)
  refine Cd.seq ?_
  refine Cd.region rfl ?_
  refine Sq.vals [0] (rest := []) [bV false] (fun w => by kernel_rfl) ?_
  refine Sq.done ?_
  refine Ex'.next ?_
  refine Cd.seq ?_
  refine Cd.seq ?_
  refine Cd.region rfl ?_
  refine Sq.vals [0] (rest := [1]) [iV d] (fun w => by kernel_rfl) ?_
  refine Sq.v (r := bV (decide (d = 0))) (o_eqI (k := .i64) (a := d) (b := 0) (by kernel_rfl) (by kernel_rfl)) rfl (by kernel_rfl) ?_
  refine Sq.done ?_
  refine Ex'.next ?_
  refine Cd.case (p := d = 0) (by kernel_rfl) (fun h1 => ?_) (fun h1 => ?_)
  ·
    refine Cd.seq ?_
    refine Cd.region rfl ?_
    refine Sq.vals [0, 1, 2] (rest := []) [.nilIface, bV true, bV true] (fun w => by kernel_rfl) ?_
    refine Sq.done ?_
    refine Ex'.next ?_
    refine Cd.ret ?_
    refine Ex'.thenRet ?_
    refine Ex'.ret Tryd.results18 (RVs.tmp (v := bV true) (by kernel_rfl) (RVs.nil)) (fun w hw => ?_)
    exact ⟨_, ⟨congrArg Value.bool (by simp [h1]), rfl⟩, hw.pickB [] (by kernel_rfl) (by kernel_rfl) (by kernel_rfl)⟩
  ·
    refine Cd.skip ?_
    refine Ex'.next ?_
    refine Cd.seq ?_
    refine Cd.region rfl ?_
    refine Sq.ex [] (l := []) (o_new [.pointer none] (fun w => by kernel_rfl)) (by kernel_rfl) rfl (by kernel_rfl) (fun _ => Nat.zero_le _) ?_; intro b2 _
    refine Sq.done ?_
    refine Ex'.next ?_
    refine Cd.seq ?_
    refine Cd.region rfl ?_
    refine Sq.vals [0, 1, 2, 3, 4, 5, 6, 7, 8, 9, 10, 11, 12, 13, 14, 15, 16, 17, 18, 19, 20, 21, 22, 23, 24, 25, 26, 27, 28, 29, 30, 31, 32, 33] (rest := []) [.nilIface, bV false, bV false, undef, undef, undef, bV false, bV false, undef, undef, bV false, bV false, undef, undef, undef, undef, undef, undef, bV false, bV false, undef, undef, undef, undef, undef, undef, bV false, bV false, undef, undef, undef, undef, bV false, bV false] (fun w => by kernel_rfl) ?_
    refine Sq.done ?_
    refine Ex'.next ?_
    refine Cd.ret ?_
    refine Ex'.ret Tryd.results18 (RVs.tmp (v := bV false) (by kernel_rfl) (RVs.nil)) (fun w hw => ?_)
    exact ⟨_, ⟨congrArg Value.bool (by simp [h1]), rfl⟩, hw.pickB [] (by kernel_rfl) (by kernel_rfl) (by kernel_rfl)⟩

set_option maxHeartbeats 8000000 in
set_option maxRecDepth 100000 in
theorem wraps_fault {w0 : World} {e : Nat} {op key x y : ByteArray} {c d : Int} (hg : errT w0) : Tri Tryd.prog 18 #[.iface 83 (pV e 0), sV op, sV key, iV d] [oldR w0, blkR e [sV x, sV y, .iface 71 (iV c)] 87] (Same [oldR w0, blkR e [sV x, sV y, .iface 71 (iV c)] 87] (bV (decide (¬ d = 0 ∧ x = op ∧ y = key ∧ c = d)))) := by
  refine Tri.enter (args := [.iface 83 (pV e 0), sV op, sV key, iV d]) Tryd.func18 rfl rfl rfl (fun B wz => ?_)
  refine Cd.seq ?_
  refine Cd.region rfl ?_
  refine Sq.vals [0] (rest := []) [bV false] (fun w => by kernel_rfl) ?_
  refine Sq.done ?_
  refine Ex'.next ?_
  refine Cd.seq ?_
  refine Cd.seq ?_
  refine Cd.region rfl ?_
  refine Sq.vals [0] (rest := [1]) [iV d] (fun w => by kernel_rfl) ?_
  refine Sq.v (r := bV (decide (d = 0))) (o_eqI (k := .i64) (a := d) (b := 0) (by kernel_rfl) (by kernel_rfl)) rfl (by kernel_rfl) ?_
  refine Sq.done ?_
  refine Ex'.next ?_
  refine Cd.case (p := d = 0) (by kernel_rfl) (fun h1 => ?_) (fun h1 => ?_)
  ·
    refine Cd.seq ?_
    refine Cd.region rfl ?_
    refine Sq.vals [0, 1, 2] (rest := []) [.iface 83 (pV e 0), bV false, bV false] (fun w => by kernel_rfl) ?_
    refine Sq.done ?_
    refine Ex'.next ?_
    refine Cd.ret ?_
    refine Ex'.thenRet ?_
    refine Ex'.ret Tryd.results18 (RVs.tmp (v := bV false) (by kernel_rfl) (RVs.nil)) (fun w hw => ?_)
    exact ⟨_, ⟨congrArg Value.bool (by simp [h1]), rfl⟩, hw.pickB [0, 1] (by kernel_rfl) (by kernel_rfl) (by kernel_rfl)⟩
  ·
    refine Cd.skip ?_
    refine Ex'.next ?_
    refine Cd.seq ?_
    refine Cd.region rfl ?_
    refine Sq.ex [] (l := []) (o_new [.pointer none] (fun w => by kernel_rfl)) (by kernel_rfl) rfl (by kernel_rfl) (fun _ => Nat.zero_le _) ?_; intro b2 _
    refine Sq.done ?_
    refine Ex'.next ?_
    refine Cd.seq ?_
    refine Cd.region rfl ?_
    refine Sq.vals [0, 1, 2, 3, 4] (rest := [5, 6, 7, 8, 9, 10, 11, 12, 13, 14, 15, 16, 17, 18, 19, 20, 21, 22, 23, 24, 25, 26, 27, 28, 29, 30, 31, 32, 33]) [.iface 83 (pV e 0), bV true, bV true, .iface 83 (pV e 0), .iface 85 (pV b2 0)] (fun w => by kernel_rfl) ?_
    refine Sq.same [0, 2] (l := [oldR w0, blkR b2 [.pointer none] 83]) (o_call (by kernel_rfl) Tryd.call40 (tri_as hg (e := e))) (by kernel_rfl) rfl (by kernel_rfl) rfl ?_
    refine Sq.vals [6, 7] (rest := [8, 9, 10, 11, 12, 13, 14, 15, 16, 17, 18, 19, 20, 21, 22, 23, 24, 25, 26, 27, 28, 29, 30, 31, 32, 33]) [bV true, bV true] (fun w => by kernel_rfl) ?_
    refine Sq.same [2] (l := [blkR b2 [pV e 0] 83]) (o_load (i := 0) (v := pV e 0) (by kernel_rfl) (by kernel_rfl) (by kernel_rfl)) (by kernel_rfl) rfl (by kernel_rfl) rfl ?_
    refine Sq.vals [9, 10, 11] (rest := [12, 13, 14, 15, 16, 17, 18, 19, 20, 21, 22, 23, 24, 25, 26, 27, 28, 29, 30, 31, 32, 33]) [bV true, bV true, bV true] (fun w => by kernel_rfl) ?_
    refine Sq.same [2] (l := [blkR b2 [pV e 0] 83]) (o_load (i := 0) (v := pV e 0) (by kernel_rfl) (by kernel_rfl) (by kernel_rfl)) (by kernel_rfl) rfl (by kernel_rfl) rfl ?_
    refine Sq.vals [13, 14] (rest := [15, 16, 17, 18, 19, 20, 21, 22, 23, 24, 25, 26, 27, 28, 29, 30, 31, 32, 33]) [pV e 0, pV e 0] (fun w => by kernel_rfl) ?_
    refine Sq.same [1] (l := [blkR e [sV x, sV y, .iface 71 (iV c)] 87]) (o_load (i := 0) (v := sV x) (by kernel_rfl) (by kernel_rfl) (by kernel_rfl)) (by kernel_rfl) rfl (by kernel_rfl) rfl ?_
    refine Sq.vals [16] (rest := [17, 18, 19, 20, 21, 22, 23, 24, 25, 26, 27, 28, 29, 30, 31, 32, 33]) [sV op] (fun w => by kernel_rfl) ?_
    refine Sq.v (r := bV (decide (x = op))) (o_eqS (a := x) (b := op) (by kernel_rfl) (by kernel_rfl)) rfl (by kernel_rfl) ?_
    refine Sq.vals [18, 19] (rest := [20, 21, 22, 23, 24, 25, 26, 27, 28, 29, 30, 31, 32, 33]) [bV (decide (x = op)), bV (decide (x = op))] (fun w => by kernel_rfl) ?_
    refine Sq.case 33 (p := x = op) rfl (fun h3 => ?_) (fun h3 => ?_)
    ·
      refine Sq.same [2] (l := [blkR b2 [pV e 0] 83]) (o_load (i := 0) (v := pV e 0) (by kernel_rfl) (by kernel_rfl) (by kernel_rfl)) (by kernel_rfl) rfl (by kernel_rfl) rfl ?_
      refine Sq.vals [21, 22] (rest := [23, 24, 25, 26, 27, 28, 29, 30, 31, 32, 33]) [pV e 0, pV e 1] (fun w => by kernel_rfl) ?_
      refine Sq.same [1] (l := [blkR e [sV x, sV y, .iface 71 (iV c)] 87]) (o_load (i := 1) (v := sV y) (by kernel_rfl) (by kernel_rfl) (by kernel_rfl)) (by kernel_rfl) rfl (by kernel_rfl) rfl ?_
      refine Sq.vals [24] (rest := [25, 26, 27, 28, 29, 30, 31, 32, 33]) [sV key] (fun w => by kernel_rfl) ?_
      refine Sq.v (r := bV (decide (y = key))) (o_eqS (a := y) (b := key) (by kernel_rfl) (by kernel_rfl)) rfl (by kernel_rfl) ?_
      refine Sq.vals [26, 27] (rest := [28, 29, 30, 31, 32, 33]) [bV (decide (y = key)), bV (decide (y = key))] (fun w => by kernel_rfl) ?_
      refine Sq.case 41 (p := y = key) rfl (fun h4 => ?_) (fun h4 => ?_)
      ·
        refine Sq.vals [28, 29, 30] (rest := [31, 32, 33]) [.iface 83 (pV e 0), iV d, .iface 71 (iV d)] (fun w => by kernel_rfl) ?_
        refine Sq.same [1] (l := [blkR e [sV x, sV y, .iface 71 (iV c)] 87]) (o_call (by kernel_rfl) Tryd.call41 (tri_is (c := c) (d := d))) (by kernel_rfl) rfl (by kernel_rfl) rfl ?_
        refine Sq.vals [32, 33] (rest := []) [bV (decide (c = d)), bV (decide (c = d))] (fun w => by kernel_rfl) ?_
        refine Sq.done ?_
        refine Ex'.next ?_
        refine Cd.ret ?_
        refine Ex'.ret Tryd.results18 (RVs.tmp (v := bV (decide (c = d))) (by kernel_rfl) (RVs.nil)) (fun w hw => ?_)
        exact ⟨_, ⟨congrArg Value.bool (by simp [h1, h3, h4]), rfl⟩, hw.pickB [0, 1] (by kernel_rfl) (by kernel_rfl) (by kernel_rfl)⟩
      ·
        refine Sq.vals [28, 29, 30, 31, 32, 33] (rest := []) [undef, undef, undef, undef, bV false, bV false] (fun w => by kernel_rfl) ?_
        refine Sq.done ?_
        refine Ex'.next ?_
        refine Cd.ret ?_
        refine Ex'.ret Tryd.results18 (RVs.tmp (v := bV false) (by kernel_rfl) (RVs.nil)) (fun w hw => ?_)
        exact ⟨_, ⟨congrArg Value.bool (by simp [h1, h3, h4]), rfl⟩, hw.pickB [0, 1] (by kernel_rfl) (by kernel_rfl) (by kernel_rfl)⟩
    ·
      refine Sq.vals [20, 21, 22, 23, 24, 25, 26, 27, 28, 29, 30, 31, 32, 33] (rest := []) [undef, undef, undef, undef, undef, undef, bV false, bV false, undef, undef, undef, undef, bV false, bV false] (fun w => by kernel_rfl) ?_
      refine Sq.done ?_
      refine Ex'.next ?_
      refine Cd.ret ?_
      refine Ex'.ret Tryd.results18 (RVs.tmp (v := bV false) (by kernel_rfl) (RVs.nil)) (fun w hw => ?_)
      exact ⟨_, ⟨congrArg Value.bool (by simp [h1, h3]), rfl⟩, hw.pickB [0, 1] (by kernel_rfl) (by kernel_rfl) (by kernel_rfl)⟩

end Go.Proofs.YtnijaeipkbpibaaDoor
