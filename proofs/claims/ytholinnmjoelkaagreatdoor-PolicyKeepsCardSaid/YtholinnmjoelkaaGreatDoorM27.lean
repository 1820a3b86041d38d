/- PolN, SepX, PolR, Errs -/
import Derived.Test.YtholinnmjoelkaaGreatDoorM26
import Derived.LaidEql
import Derived.Stop.Asserts
import Derived.RowKitTokens
set_option linter.unusedVariables false
set_option linter.unusedSimpArgs false
namespace Go.Proofs.YtholinnmjoelkaaGreatDoor
set_option maxHeartbeats 8000000
set_option maxRecDepth 100000
open Go.RowKit Go.MapKept
theorem pol_New_0 {most : Int} (hm : 0 ≤ most ∧ most ≤ 16777216) : Tri Tryz.prog 15 #[iV 0, iV most] [] (PostE (ι := Nat × Nat × Nat) (fun _ => True) (fun x => .tuple #[pV x.1 0, .nilIface]) fun x => [polBLru x.1 (x.2.1) most] ++ lruL x.2.1 x.2.2 most [] 0) := by
 refine Tri.en (args := [iV 0, iV most]) Tryz.func15 (fun B wz => ?_)
 refine Cd.s1 (Sq.vl [0, 1] [.pointer none, .nilIface] (Sq.d4 (Cd.seq (Cd.s1 (Sq.vl [0, 1, 2, 3, 4, 5] [iV 0, bV false, bV false, iV 0, bV false, bV false] (Sq.d4 (Cd.cF (Cd.skip (Ex'.next (Cd.seq (Cd.s1 (Sq.vl [0] [iV most] ?_))))))))))))
 refine Sq.sm [] (l := []) (o_cl Tryz.call44 ((t_right (m := most)).re (vT hm))) rfl (Sq.vl [2] [bV false] (Sq.d4 (Cd.cF (Cd.skip (Ex'.next (Cd.s1 (Sq.vl [0, 1, 2] [iV 0, iV most, .agg #[iV 0, iV most, .nilFunc, .nilFunc, .nilFunc, .nilFunc, .nilFunc, .nilFunc, .nilFunc, .nilFunc, .nilFunc, .nilFunc]] ?_)))))))
 refine Sq.e0 [] (l := []) (o_newBox (v := .agg #[iV 0, iV most, .nilFunc, .nilFunc, .nilFunc, .nilFunc, .nilFunc, .nilFunc, .nilFunc, .nilFunc, .nilFunc, .nilFunc]) [iV 0, iV most, .nilFunc, .nilFunc, .nilFunc, .nilFunc, .nilFunc, .nilFunc, .nilFunc, .nilFunc, .nilFunc, .nilFunc] (by kernel_rfl) rfl) rfl ?_; intro b3 _
 refine Sq.vl [4] [pV b3 0] (Sq.d1 (Sq.vl [0] [bV false] (Sq.d4 (Cd.seq (Cd.s1 (Sq.vl [0] [iV 0] (Sq.done (Ex'.next (Cd.block (Cd.seq (Cd.block (Cd.seq (Cd.block (Cd.seq (Cd.block (Cd.seq (Cd.block (Cd.seq (Cd.block (Cd.seq (Cd.seq (Cd.s1 (Sq.vl [0, 1] [bV true, bV true] ?_)))))))))))))))))))))))
 refine Sq.d4 (Cd.cT (Cd.exit (Ex'.thenExit (Ex'.thenExit (Ex'.blockHit (Ex'.next (Cd.seq (Cd.s1 (Sq.vl [0] [iV most] ?_)))))))))
 refine Sq.e1 [] (l := []) (o_cl Tryz.call45 (Tri.ex (L' := fun x => lruL x.1 x.2 most [] 0) (lru_New most (by omega)) (fun x => by rw [lqNew_nn (show 0 ≤ most by omega)]))) rfl ?_; rintro ⟨b4, lb5⟩ _
 refine Sq.vl [2] [pV b4 0] (Sq.d4 (Cd.s0 (Sq.vl [0, 1, 2, 3, 4, 5, 6, 7, 8, 9, 10, 11, 12, 13, 14, 15, 16, 17, 18, 19, 20, 21, 22, 23, 24, 25, 26, 27, 28, 29, 30, 31] [pV b3 0, pV b3 0, pV b3 0, pV b3 0, pV b3 0, pV b3 0, pV b3 0, pV b3 0, pV b3 0, pV b3 0, pV b4 0, .func (.func 46) #[pV b4 0] #[], pV b4 0, .func (.func 47) #[pV b4 0] #[], pV b4 0, .func (.func 48) #[pV b4 0] #[], pV b4 0, .func (.func 49) #[pV b4 0] #[], pV b4 0, .func (.func 50) #[pV b4 0] #[], pV b4 0, .func (.func 51) #[pV b4 0] #[], pV b4 0, .func (.func 52) #[pV b4 0] #[], pV b4 0, .func (.func 53) #[pV b4 0] #[], pV b4 0, .func (.func 54) #[pV b4 0] #[], pV b4 0, .func (.func 55) #[pV b4 0] #[], pV b3 0, pV b3 2] (Sq.sm [0] (l := [blkR b3 [iV 0, iV most, .nilFunc, .nilFunc, .nilFunc, .nilFunc, .nilFunc, .nilFunc, .nilFunc, .nilFunc, .nilFunc, .nilFunc] 93]) (o_st (i := 2) (v := .func (.func 46) #[pV b4 0] #[])) rfl (Sq.vl [33, 34] [pV b3 0, pV b3 3] (Sq.sm [0] (l := [blkR b3 [iV 0, iV most, .func (.func 46) #[pV b4 0] #[], .nilFunc, .nilFunc, .nilFunc, .nilFunc, .nilFunc, .nilFunc, .nilFunc, .nilFunc, .nilFunc] 93]) (o_st (i := 3) (v := .func (.func 47) #[pV b4 0] #[])) rfl (Sq.vl [36, 37] [pV b3 0, pV b3 4] (Sq.sm [0] (l := [blkR b3 [iV 0, iV most, .func (.func 46) #[pV b4 0] #[], .func (.func 47) #[pV b4 0] #[], .nilFunc, .nilFunc, .nilFunc, .nilFunc, .nilFunc, .nilFunc, .nilFunc, .nilFunc] 93]) (o_st (i := 4) (v := .func (.func 48) #[pV b4 0] #[])) rfl ?_))))))))
 refine Sq.vl [39, 40] [pV b3 0, pV b3 5] (Sq.sm [0] (l := [blkR b3 [iV 0, iV most, .func (.func 46) #[pV b4 0] #[], .func (.func 47) #[pV b4 0] #[], .func (.func 48) #[pV b4 0] #[], .nilFunc, .nilFunc, .nilFunc, .nilFunc, .nilFunc, .nilFunc, .nilFunc] 93]) (o_st (i := 5) (v := .func (.func 49) #[pV b4 0] #[])) rfl (Sq.vl [42, 43] [pV b3 0, pV b3 6] (Sq.sm [0] (l := [blkR b3 [iV 0, iV most, .func (.func 46) #[pV b4 0] #[], .func (.func 47) #[pV b4 0] #[], .func (.func 48) #[pV b4 0] #[], .func (.func 49) #[pV b4 0] #[], .nilFunc, .nilFunc, .nilFunc, .nilFunc, .nilFunc, .nilFunc] 93]) (o_st (i := 6) (v := .func (.func 50) #[pV b4 0] #[])) rfl (Sq.vl [45, 46] [pV b3 0, pV b3 7] (Sq.sm [0] (l := [blkR b3 [iV 0, iV most, .func (.func 46) #[pV b4 0] #[], .func (.func 47) #[pV b4 0] #[], .func (.func 48) #[pV b4 0] #[], .func (.func 49) #[pV b4 0] #[], .func (.func 50) #[pV b4 0] #[], .nilFunc, .nilFunc, .nilFunc, .nilFunc, .nilFunc] 93]) (o_st (i := 7) (v := .func (.func 51) #[pV b4 0] #[])) rfl (Sq.vl [48, 49] [pV b3 0, pV b3 8] (Sq.sm [0] (l := [blkR b3 [iV 0, iV most, .func (.func 46) #[pV b4 0] #[], .func (.func 47) #[pV b4 0] #[], .func (.func 48) #[pV b4 0] #[], .func (.func 49) #[pV b4 0] #[], .func (.func 50) #[pV b4 0] #[], .func (.func 51) #[pV b4 0] #[], .nilFunc, .nilFunc, .nilFunc, .nilFunc] 93]) (o_st (i := 8) (v := .func (.func 52) #[pV b4 0] #[])) rfl ?_)))))))
 refine Sq.vl [51, 52] [pV b3 0, pV b3 9] (Sq.sm [0] (l := [blkR b3 [iV 0, iV most, .func (.func 46) #[pV b4 0] #[], .func (.func 47) #[pV b4 0] #[], .func (.func 48) #[pV b4 0] #[], .func (.func 49) #[pV b4 0] #[], .func (.func 50) #[pV b4 0] #[], .func (.func 51) #[pV b4 0] #[], .func (.func 52) #[pV b4 0] #[], .nilFunc, .nilFunc, .nilFunc] 93]) (o_st (i := 9) (v := .func (.func 53) #[pV b4 0] #[])) rfl (Sq.vl [54, 55] [pV b3 0, pV b3 10] (Sq.sm [0] (l := [blkR b3 [iV 0, iV most, .func (.func 46) #[pV b4 0] #[], .func (.func 47) #[pV b4 0] #[], .func (.func 48) #[pV b4 0] #[], .func (.func 49) #[pV b4 0] #[], .func (.func 50) #[pV b4 0] #[], .func (.func 51) #[pV b4 0] #[], .func (.func 52) #[pV b4 0] #[], .func (.func 53) #[pV b4 0] #[], .nilFunc, .nilFunc] 93]) (o_st (i := 10) (v := .func (.func 54) #[pV b4 0] #[])) rfl (Sq.vl [57, 58] [pV b3 0, pV b3 11] (Sq.sm [0] (l := [blkR b3 [iV 0, iV most, .func (.func 46) #[pV b4 0] #[], .func (.func 47) #[pV b4 0] #[], .func (.func 48) #[pV b4 0] #[], .func (.func 49) #[pV b4 0] #[], .func (.func 50) #[pV b4 0] #[], .func (.func 51) #[pV b4 0] #[], .func (.func 52) #[pV b4 0] #[], .func (.func 53) #[pV b4 0] #[], .func (.func 54) #[pV b4 0] #[], .nilFunc] 93]) (o_st (i := 11) (v := .func (.func 55) #[pV b4 0] #[])) rfl (Sq.done (Ex'.next (Cd.exit (Ex'.blockMiss rfl (Ex'.thenExit (Ex'.blockMiss rfl (Ex'.thenExit (Ex'.blockMiss rfl (Ex'.thenExit (Ex'.blockMiss rfl (Ex'.thenExit (Ex'.blockHit (Ex'.next (Cd.s1 ?_)))))))))))))))))))
 refine Sq.vl [0, 1, 2] [pV b3 0, pV b3 0, .nilIface] (Sq.d4 (Cd.ret (Ex'.ret Tryz.results15 (RVs.tm (v := pV b3 0) (RVs.tmp (v := .nilIface) (by kernel_rfl) RVs.nil)) (fun w hw => ?_))))
 exact ⟨_, ⟨(b3, b4, lb5), trivial, rfl, rfl⟩, hw.pk [0, 1, 2]⟩
 
theorem pol_New_1 {most : Int} (hm : 0 ≤ most ∧ most ≤ 16777216) : Tri Tryz.prog 15 #[iV 1, iV most] [] (PostE (ι := Nat × Nat × Nat) (fun _ => True) (fun x => .tuple #[pV x.1 0, .nilIface]) fun x => [polBLfu x.1 (x.2.1) 1 most] ++ lfuL x.2.1 x.2.2 most 0 false [] 0) := by
 refine Tri.en (args := [iV 1, iV most]) Tryz.func15 (fun B wz => ?_)
 refine Cd.s1 (Sq.vl [0, 1] [.pointer none, .nilIface] (Sq.d4 (Cd.seq (Cd.s1 (Sq.vl [0, 1, 2, 3, 4, 5] [iV 1, bV false, bV false, iV 1, bV false, bV false] (Sq.d4 (Cd.cF (Cd.skip (Ex'.next (Cd.seq (Cd.s1 (Sq.vl [0] [iV most] ?_))))))))))))
 refine Sq.sm [] (l := []) (o_cl Tryz.call44 ((t_right (m := most)).re (vT hm))) rfl (Sq.vl [2] [bV false] (Sq.d4 (Cd.cF (Cd.skip (Ex'.next (Cd.s1 (Sq.vl [0, 1, 2] [iV 1, iV most, .agg #[iV 1, iV most, .nilFunc, .nilFunc, .nilFunc, .nilFunc, .nilFunc, .nilFunc, .nilFunc, .nilFunc, .nilFunc, .nilFunc]] ?_)))))))
 refine Sq.e0 [] (l := []) (o_newBox (v := .agg #[iV 1, iV most, .nilFunc, .nilFunc, .nilFunc, .nilFunc, .nilFunc, .nilFunc, .nilFunc, .nilFunc, .nilFunc, .nilFunc]) [iV 1, iV most, .nilFunc, .nilFunc, .nilFunc, .nilFunc, .nilFunc, .nilFunc, .nilFunc, .nilFunc, .nilFunc, .nilFunc] (by kernel_rfl) rfl) rfl ?_; intro b3 _
 refine Sq.vl [4] [pV b3 0] (Sq.d1 (Sq.vl [0] [bV false] (Sq.d4 (Cd.seq (Cd.s1 (Sq.vl [0] [iV 1] (Sq.done (Ex'.next (Cd.block (Cd.seq (Cd.block (Cd.seq (Cd.block (Cd.seq (Cd.block (Cd.seq (Cd.block (Cd.seq (Cd.block (Cd.seq (Cd.seq (Cd.s1 (Sq.vl [0, 1] [bV false, bV false] ?_)))))))))))))))))))))))
 refine Sq.d4 (Cd.cF (Cd.skip (Ex'.next (Cd.seq (Cd.s1 (Sq.vl [0, 1] [bV false, bV false] (Sq.d4 (Cd.cF (Cd.skip (Ex'.next (Cd.seq (Cd.s1 (Sq.vl [0, 1] [bV true, bV true] ?_)))))))))))))
 refine Sq.d4 (Cd.cT (Cd.exit (Ex'.thenExit (Ex'.thenExit (Ex'.blockMiss rfl (Ex'.thenExit (Ex'.blockMiss rfl (Ex'.thenExit (Ex'.blockHit (Ex'.next (Cd.seq (Cd.s1 (Sq.vl [0, 1] [iV most, bV false] ?_)))))))))))))
 refine Sq.e1 [] (l := []) (o_cl Tryz.call56 (Tri.ex (L' := fun x => lfuL x.1 x.2 most 0 false [] 0) (lfu_New most false (by omega)) (fun x => by rw [lfuNew_nn (show 0 ≤ most by omega)]))) rfl ?_; rintro ⟨b4, qb5⟩ _
 refine Sq.vl [3] [pV b4 0] (Sq.d4 (Cd.s0 (Sq.vl [0, 1, 2, 3, 4, 5, 6, 7, 8, 9, 10, 11, 12, 13, 14, 15, 16, 17, 18, 19, 20, 21, 22, 23, 24, 25, 26, 27, 28, 29, 30, 31] [pV b3 0, pV b3 0, pV b3 0, pV b3 0, pV b3 0, pV b3 0, pV b3 0, pV b3 0, pV b3 0, pV b3 0, pV b4 0, .func (.func 57) #[pV b4 0] #[], pV b4 0, .func (.func 58) #[pV b4 0] #[], pV b4 0, .func (.func 59) #[pV b4 0] #[], pV b4 0, .func (.func 60) #[pV b4 0] #[], pV b4 0, .func (.func 61) #[pV b4 0] #[], pV b4 0, .func (.func 62) #[pV b4 0] #[], pV b4 0, .func (.func 63) #[pV b4 0] #[], pV b4 0, .func (.func 64) #[pV b4 0] #[], pV b4 0, .func (.func 65) #[pV b4 0] #[], pV b4 0, .func (.func 66) #[pV b4 0] #[], pV b3 0, pV b3 2] (Sq.sm [0] (l := [blkR b3 [iV 1, iV most, .nilFunc, .nilFunc, .nilFunc, .nilFunc, .nilFunc, .nilFunc, .nilFunc, .nilFunc, .nilFunc, .nilFunc] 93]) (o_st (i := 2) (v := .func (.func 57) #[pV b4 0] #[])) rfl (Sq.vl [33, 34] [pV b3 0, pV b3 3] (Sq.sm [0] (l := [blkR b3 [iV 1, iV most, .func (.func 57) #[pV b4 0] #[], .nilFunc, .nilFunc, .nilFunc, .nilFunc, .nilFunc, .nilFunc, .nilFunc, .nilFunc, .nilFunc] 93]) (o_st (i := 3) (v := .func (.func 58) #[pV b4 0] #[])) rfl (Sq.vl [36, 37] [pV b3 0, pV b3 4] (Sq.sm [0] (l := [blkR b3 [iV 1, iV most, .func (.func 57) #[pV b4 0] #[], .func (.func 58) #[pV b4 0] #[], .nilFunc, .nilFunc, .nilFunc, .nilFunc, .nilFunc, .nilFunc, .nilFunc, .nilFunc] 93]) (o_st (i := 4) (v := .func (.func 59) #[pV b4 0] #[])) rfl ?_))))))))
 refine Sq.vl [39, 40] [pV b3 0, pV b3 5] (Sq.sm [0] (l := [blkR b3 [iV 1, iV most, .func (.func 57) #[pV b4 0] #[], .func (.func 58) #[pV b4 0] #[], .func (.func 59) #[pV b4 0] #[], .nilFunc, .nilFunc, .nilFunc, .nilFunc, .nilFunc, .nilFunc, .nilFunc] 93]) (o_st (i := 5) (v := .func (.func 60) #[pV b4 0] #[])) rfl (Sq.vl [42, 43] [pV b3 0, pV b3 6] (Sq.sm [0] (l := [blkR b3 [iV 1, iV most, .func (.func 57) #[pV b4 0] #[], .func (.func 58) #[pV b4 0] #[], .func (.func 59) #[pV b4 0] #[], .func (.func 60) #[pV b4 0] #[], .nilFunc, .nilFunc, .nilFunc, .nilFunc, .nilFunc, .nilFunc] 93]) (o_st (i := 6) (v := .func (.func 61) #[pV b4 0] #[])) rfl (Sq.vl [45, 46] [pV b3 0, pV b3 7] (Sq.sm [0] (l := [blkR b3 [iV 1, iV most, .func (.func 57) #[pV b4 0] #[], .func (.func 58) #[pV b4 0] #[], .func (.func 59) #[pV b4 0] #[], .func (.func 60) #[pV b4 0] #[], .func (.func 61) #[pV b4 0] #[], .nilFunc, .nilFunc, .nilFunc, .nilFunc, .nilFunc] 93]) (o_st (i := 7) (v := .func (.func 62) #[pV b4 0] #[])) rfl (Sq.vl [48, 49] [pV b3 0, pV b3 8] (Sq.sm [0] (l := [blkR b3 [iV 1, iV most, .func (.func 57) #[pV b4 0] #[], .func (.func 58) #[pV b4 0] #[], .func (.func 59) #[pV b4 0] #[], .func (.func 60) #[pV b4 0] #[], .func (.func 61) #[pV b4 0] #[], .func (.func 62) #[pV b4 0] #[], .nilFunc, .nilFunc, .nilFunc, .nilFunc] 93]) (o_st (i := 8) (v := .func (.func 63) #[pV b4 0] #[])) rfl ?_)))))))
 refine Sq.vl [51, 52] [pV b3 0, pV b3 9] (Sq.sm [0] (l := [blkR b3 [iV 1, iV most, .func (.func 57) #[pV b4 0] #[], .func (.func 58) #[pV b4 0] #[], .func (.func 59) #[pV b4 0] #[], .func (.func 60) #[pV b4 0] #[], .func (.func 61) #[pV b4 0] #[], .func (.func 62) #[pV b4 0] #[], .func (.func 63) #[pV b4 0] #[], .nilFunc, .nilFunc, .nilFunc] 93]) (o_st (i := 9) (v := .func (.func 64) #[pV b4 0] #[])) rfl (Sq.vl [54, 55] [pV b3 0, pV b3 10] (Sq.sm [0] (l := [blkR b3 [iV 1, iV most, .func (.func 57) #[pV b4 0] #[], .func (.func 58) #[pV b4 0] #[], .func (.func 59) #[pV b4 0] #[], .func (.func 60) #[pV b4 0] #[], .func (.func 61) #[pV b4 0] #[], .func (.func 62) #[pV b4 0] #[], .func (.func 63) #[pV b4 0] #[], .func (.func 64) #[pV b4 0] #[], .nilFunc, .nilFunc] 93]) (o_st (i := 10) (v := .func (.func 65) #[pV b4 0] #[])) rfl (Sq.vl [57, 58] [pV b3 0, pV b3 11] (Sq.sm [0] (l := [blkR b3 [iV 1, iV most, .func (.func 57) #[pV b4 0] #[], .func (.func 58) #[pV b4 0] #[], .func (.func 59) #[pV b4 0] #[], .func (.func 60) #[pV b4 0] #[], .func (.func 61) #[pV b4 0] #[], .func (.func 62) #[pV b4 0] #[], .func (.func 63) #[pV b4 0] #[], .func (.func 64) #[pV b4 0] #[], .func (.func 65) #[pV b4 0] #[], .nilFunc] 93]) (o_st (i := 11) (v := .func (.func 66) #[pV b4 0] #[])) rfl (Sq.done (Ex'.next (Cd.exit (Ex'.blockMiss rfl (Ex'.thenExit (Ex'.blockMiss rfl (Ex'.thenExit (Ex'.blockHit (Ex'.next (Cd.s1 (Sq.vl [0, 1, 2] [pV b3 0, pV b3 0, .nilIface] ?_))))))))))))))))
 refine Sq.d4 (Cd.ret (Ex'.ret Tryz.results15 (RVs.tm (v := pV b3 0) (RVs.tmp (v := .nilIface) (by kernel_rfl) RVs.nil)) (fun w hw => ?_)))
 exact ⟨_, ⟨(b3, b4, qb5), trivial, rfl, rfl⟩, hw.pk [0, 1, 2]⟩
 
theorem pol_New_2 {most : Int} (hm : 0 ≤ most ∧ most ≤ 16777216) : Tri Tryz.prog 15 #[iV 2, iV most] [] (PostE (ι := Nat × Nat × Nat) (fun _ => True) (fun x => .tuple #[pV x.1 0, .nilIface]) fun x => [polBLfu x.1 (x.2.1) 2 most] ++ lfuL x.2.1 x.2.2 most 0 true [] 0) := by
 refine Tri.en (args := [iV 2, iV most]) Tryz.func15 (fun B wz => ?_)
 refine Cd.s1 (Sq.vl [0, 1] [.pointer none, .nilIface] (Sq.d4 (Cd.seq (Cd.s1 (Sq.vl [0, 1, 2, 3, 4, 5] [iV 2, bV false, bV false, iV 2, bV false, bV false] (Sq.d4 (Cd.cF (Cd.skip (Ex'.next (Cd.seq (Cd.s1 (Sq.vl [0] [iV most] ?_))))))))))))
 refine Sq.sm [] (l := []) (o_cl Tryz.call44 ((t_right (m := most)).re (vT hm))) rfl (Sq.vl [2] [bV false] (Sq.d4 (Cd.cF (Cd.skip (Ex'.next (Cd.s1 (Sq.vl [0, 1, 2] [iV 2, iV most, .agg #[iV 2, iV most, .nilFunc, .nilFunc, .nilFunc, .nilFunc, .nilFunc, .nilFunc, .nilFunc, .nilFunc, .nilFunc, .nilFunc]] ?_)))))))
 refine Sq.e0 [] (l := []) (o_newBox (v := .agg #[iV 2, iV most, .nilFunc, .nilFunc, .nilFunc, .nilFunc, .nilFunc, .nilFunc, .nilFunc, .nilFunc, .nilFunc, .nilFunc]) [iV 2, iV most, .nilFunc, .nilFunc, .nilFunc, .nilFunc, .nilFunc, .nilFunc, .nilFunc, .nilFunc, .nilFunc, .nilFunc] (by kernel_rfl) rfl) rfl ?_; intro b3 _
 refine Sq.vl [4] [pV b3 0] (Sq.d1 (Sq.vl [0] [bV false] (Sq.d4 (Cd.seq (Cd.s1 (Sq.vl [0] [iV 2] (Sq.done (Ex'.next (Cd.block (Cd.seq (Cd.block (Cd.seq (Cd.block (Cd.seq (Cd.block (Cd.seq (Cd.block (Cd.seq (Cd.block (Cd.seq (Cd.seq (Cd.s1 (Sq.vl [0, 1] [bV false, bV false] ?_)))))))))))))))))))))))
 refine Sq.d4 (Cd.cF (Cd.skip (Ex'.next (Cd.seq (Cd.s1 (Sq.vl [0, 1] [bV true, bV true] (Sq.d4 (Cd.cT (Cd.exit (Ex'.thenExit (Ex'.thenExit (Ex'.blockMiss rfl (Ex'.thenExit (Ex'.blockHit (Ex'.next (Cd.s0 (Sq.vl [0] [bV true] ?_)))))))))))))))))
 refine Sq.done (Ex'.blockNormal (Ex'.next (Cd.seq (Cd.s1 (Sq.vl [0, 1] [iV most, bV true] ?_)))))
 refine Sq.e1 [] (l := []) (o_cl Tryz.call56 (Tri.ex (L' := fun x => lfuL x.1 x.2 most 0 true [] 0) (lfu_New most true (by omega)) (fun x => by rw [lfuNew_nn (show 0 ≤ most by omega)]))) rfl ?_; rintro ⟨b4, qb5⟩ _
 refine Sq.vl [3] [pV b4 0] (Sq.d4 (Cd.s0 (Sq.vl [0, 1, 2, 3, 4, 5, 6, 7, 8, 9, 10, 11, 12, 13, 14, 15, 16, 17, 18, 19, 20, 21, 22, 23, 24, 25, 26, 27, 28, 29, 30, 31] [pV b3 0, pV b3 0, pV b3 0, pV b3 0, pV b3 0, pV b3 0, pV b3 0, pV b3 0, pV b3 0, pV b3 0, pV b4 0, .func (.func 57) #[pV b4 0] #[], pV b4 0, .func (.func 58) #[pV b4 0] #[], pV b4 0, .func (.func 59) #[pV b4 0] #[], pV b4 0, .func (.func 60) #[pV b4 0] #[], pV b4 0, .func (.func 61) #[pV b4 0] #[], pV b4 0, .func (.func 62) #[pV b4 0] #[], pV b4 0, .func (.func 63) #[pV b4 0] #[], pV b4 0, .func (.func 64) #[pV b4 0] #[], pV b4 0, .func (.func 65) #[pV b4 0] #[], pV b4 0, .func (.func 66) #[pV b4 0] #[], pV b3 0, pV b3 2] (Sq.sm [0] (l := [blkR b3 [iV 2, iV most, .nilFunc, .nilFunc, .nilFunc, .nilFunc, .nilFunc, .nilFunc, .nilFunc, .nilFunc, .nilFunc, .nilFunc] 93]) (o_st (i := 2) (v := .func (.func 57) #[pV b4 0] #[])) rfl (Sq.vl [33, 34] [pV b3 0, pV b3 3] (Sq.sm [0] (l := [blkR b3 [iV 2, iV most, .func (.func 57) #[pV b4 0] #[], .nilFunc, .nilFunc, .nilFunc, .nilFunc, .nilFunc, .nilFunc, .nilFunc, .nilFunc, .nilFunc] 93]) (o_st (i := 3) (v := .func (.func 58) #[pV b4 0] #[])) rfl (Sq.vl [36, 37] [pV b3 0, pV b3 4] (Sq.sm [0] (l := [blkR b3 [iV 2, iV most, .func (.func 57) #[pV b4 0] #[], .func (.func 58) #[pV b4 0] #[], .nilFunc, .nilFunc, .nilFunc, .nilFunc, .nilFunc, .nilFunc, .nilFunc, .nilFunc] 93]) (o_st (i := 4) (v := .func (.func 59) #[pV b4 0] #[])) rfl ?_))))))))
 refine Sq.vl [39, 40] [pV b3 0, pV b3 5] (Sq.sm [0] (l := [blkR b3 [iV 2, iV most, .func (.func 57) #[pV b4 0] #[], .func (.func 58) #[pV b4 0] #[], .func (.func 59) #[pV b4 0] #[], .nilFunc, .nilFunc, .nilFunc, .nilFunc, .nilFunc, .nilFunc, .nilFunc] 93]) (o_st (i := 5) (v := .func (.func 60) #[pV b4 0] #[])) rfl (Sq.vl [42, 43] [pV b3 0, pV b3 6] (Sq.sm [0] (l := [blkR b3 [iV 2, iV most, .func (.func 57) #[pV b4 0] #[], .func (.func 58) #[pV b4 0] #[], .func (.func 59) #[pV b4 0] #[], .func (.func 60) #[pV b4 0] #[], .nilFunc, .nilFunc, .nilFunc, .nilFunc, .nilFunc, .nilFunc] 93]) (o_st (i := 6) (v := .func (.func 61) #[pV b4 0] #[])) rfl (Sq.vl [45, 46] [pV b3 0, pV b3 7] (Sq.sm [0] (l := [blkR b3 [iV 2, iV most, .func (.func 57) #[pV b4 0] #[], .func (.func 58) #[pV b4 0] #[], .func (.func 59) #[pV b4 0] #[], .func (.func 60) #[pV b4 0] #[], .func (.func 61) #[pV b4 0] #[], .nilFunc, .nilFunc, .nilFunc, .nilFunc, .nilFunc] 93]) (o_st (i := 7) (v := .func (.func 62) #[pV b4 0] #[])) rfl (Sq.vl [48, 49] [pV b3 0, pV b3 8] (Sq.sm [0] (l := [blkR b3 [iV 2, iV most, .func (.func 57) #[pV b4 0] #[], .func (.func 58) #[pV b4 0] #[], .func (.func 59) #[pV b4 0] #[], .func (.func 60) #[pV b4 0] #[], .func (.func 61) #[pV b4 0] #[], .func (.func 62) #[pV b4 0] #[], .nilFunc, .nilFunc, .nilFunc, .nilFunc] 93]) (o_st (i := 8) (v := .func (.func 63) #[pV b4 0] #[])) rfl ?_)))))))
 refine Sq.vl [51, 52] [pV b3 0, pV b3 9] (Sq.sm [0] (l := [blkR b3 [iV 2, iV most, .func (.func 57) #[pV b4 0] #[], .func (.func 58) #[pV b4 0] #[], .func (.func 59) #[pV b4 0] #[], .func (.func 60) #[pV b4 0] #[], .func (.func 61) #[pV b4 0] #[], .func (.func 62) #[pV b4 0] #[], .func (.func 63) #[pV b4 0] #[], .nilFunc, .nilFunc, .nilFunc] 93]) (o_st (i := 9) (v := .func (.func 64) #[pV b4 0] #[])) rfl (Sq.vl [54, 55] [pV b3 0, pV b3 10] (Sq.sm [0] (l := [blkR b3 [iV 2, iV most, .func (.func 57) #[pV b4 0] #[], .func (.func 58) #[pV b4 0] #[], .func (.func 59) #[pV b4 0] #[], .func (.func 60) #[pV b4 0] #[], .func (.func 61) #[pV b4 0] #[], .func (.func 62) #[pV b4 0] #[], .func (.func 63) #[pV b4 0] #[], .func (.func 64) #[pV b4 0] #[], .nilFunc, .nilFunc] 93]) (o_st (i := 10) (v := .func (.func 65) #[pV b4 0] #[])) rfl (Sq.vl [57, 58] [pV b3 0, pV b3 11] (Sq.sm [0] (l := [blkR b3 [iV 2, iV most, .func (.func 57) #[pV b4 0] #[], .func (.func 58) #[pV b4 0] #[], .func (.func 59) #[pV b4 0] #[], .func (.func 60) #[pV b4 0] #[], .func (.func 61) #[pV b4 0] #[], .func (.func 62) #[pV b4 0] #[], .func (.func 63) #[pV b4 0] #[], .func (.func 64) #[pV b4 0] #[], .func (.func 65) #[pV b4 0] #[], .nilFunc] 93]) (o_st (i := 11) (v := .func (.func 66) #[pV b4 0] #[])) rfl (Sq.done (Ex'.next (Cd.exit (Ex'.blockMiss rfl (Ex'.thenExit (Ex'.blockMiss rfl (Ex'.thenExit (Ex'.blockHit (Ex'.next (Cd.s1 (Sq.vl [0, 1, 2] [pV b3 0, pV b3 0, .nilIface] ?_))))))))))))))))
 refine Sq.d4 (Cd.ret (Ex'.ret Tryz.results15 (RVs.tm (v := pV b3 0) (RVs.tmp (v := .nilIface) (by kernel_rfl) RVs.nil)) (fun w hw => ?_)))
 exact ⟨_, ⟨(b3, b4, qb5), trivial, rfl, rfl⟩, hw.pk [0, 1, 2]⟩
 
theorem pol_New_3 {most : Int} (hm : 0 ≤ most ∧ most ≤ 16777216) : Tri Tryz.prog 15 #[iV 3, iV most] [] (PostE (ι := Nat × Nat × Nat × Nat × Nat × Nat) (fun _ => True) (fun x => .tuple #[pV x.1 0, .nilIface]) fun x => [polBSrl x.1 (x.2.1) most] ++ srlL x.2.1 x.2.2.1 x.2.2.2.1 x.2.2.2.2.1 x.2.2.2.2.2 most (most / 2) [] [] [] [] 0) := by
 refine Tri.en (args := [iV 3, iV most]) Tryz.func15 (fun B wz => ?_)
 refine Cd.s1 (Sq.vl [0, 1] [.pointer none, .nilIface] (Sq.d4 (Cd.seq (Cd.s1 (Sq.vl [0, 1, 2, 3, 4, 5] [iV 3, bV false, bV false, iV 3, bV false, bV false] (Sq.d4 (Cd.cF (Cd.skip (Ex'.next (Cd.seq (Cd.s1 (Sq.vl [0] [iV most] ?_))))))))))))
 refine Sq.sm [] (l := []) (o_cl Tryz.call44 ((t_right (m := most)).re (vT hm))) rfl (Sq.vl [2] [bV false] (Sq.d4 (Cd.cF (Cd.skip (Ex'.next (Cd.s1 (Sq.vl [0, 1, 2] [iV 3, iV most, .agg #[iV 3, iV most, .nilFunc, .nilFunc, .nilFunc, .nilFunc, .nilFunc, .nilFunc, .nilFunc, .nilFunc, .nilFunc, .nilFunc]] ?_)))))))
 refine Sq.e0 [] (l := []) (o_newBox (v := .agg #[iV 3, iV most, .nilFunc, .nilFunc, .nilFunc, .nilFunc, .nilFunc, .nilFunc, .nilFunc, .nilFunc, .nilFunc, .nilFunc]) [iV 3, iV most, .nilFunc, .nilFunc, .nilFunc, .nilFunc, .nilFunc, .nilFunc, .nilFunc, .nilFunc, .nilFunc, .nilFunc] (by kernel_rfl) rfl) rfl ?_; intro b3 _
 refine Sq.vl [4] [pV b3 0] (Sq.d1 (Sq.vl [0] [bV false] (Sq.d4 (Cd.seq (Cd.s1 (Sq.vl [0] [iV 3] (Sq.done (Ex'.next (Cd.block (Cd.seq (Cd.block (Cd.seq (Cd.block (Cd.seq (Cd.block (Cd.seq (Cd.block (Cd.seq (Cd.block (Cd.seq (Cd.seq (Cd.s1 (Sq.vl [0, 1] [bV false, bV false] ?_)))))))))))))))))))))))
 refine Sq.d4 (Cd.cF (Cd.skip (Ex'.next (Cd.seq (Cd.s1 (Sq.vl [0, 1] [bV false, bV false] (Sq.d4 (Cd.cF (Cd.skip (Ex'.next (Cd.seq (Cd.s1 (Sq.vl [0, 1] [bV false, bV false] ?_)))))))))))))
 refine Sq.d4 (Cd.cF (Cd.skip (Ex'.next (Cd.s1 (Sq.vl [0, 1] [bV true, bV true] (Sq.d4 (Cd.cT (Cd.exit (Ex'.thenExit (Ex'.blockMiss rfl (Ex'.thenExit (Ex'.blockMiss rfl (Ex'.thenExit (Ex'.blockMiss rfl (Ex'.thenExit (Ex'.blockHit (Ex'.next (Cd.seq (Cd.seq (Cd.s0 ?_))))))))))))))))))))
 refine Sq.vl [0] [iV most] ?_
 refine Sq.e1 [] (l := []) (o_cl Tryz.call67 (Tri.ex (L' := fun x => srlL x.1 x.2.1 x.2.2.1 x.2.2.2.1 x.2.2.2.2 most (most / 2) [] [] [] [] 0) (srl_New most (by omega)) (fun x => by rw [srlNew_nn (show 0 ≤ most by omega)]))) rfl ?_; rintro ⟨b4, nb5, ab6, gb7, mb8⟩ _
 refine Sq.vl [2] [pV b4 0] (Sq.d4 (Cd.s0 (Sq.vl [0, 1, 2, 3, 4, 5, 6, 7, 8, 9, 10, 11, 12, 13, 14, 15, 16, 17, 18, 19, 20, 21, 22, 23, 24, 25, 26, 27, 28, 29, 30, 31] [pV b3 0, pV b3 0, pV b3 0, pV b3 0, pV b3 0, pV b3 0, pV b3 0, pV b3 0, pV b3 0, pV b3 0, pV b4 0, .func (.func 68) #[pV b4 0] #[], pV b4 0, .func (.func 69) #[pV b4 0] #[], pV b4 0, .func (.func 70) #[pV b4 0] #[], pV b4 0, .func (.func 71) #[pV b4 0] #[], pV b4 0, .func (.func 72) #[pV b4 0] #[], pV b4 0, .func (.func 73) #[pV b4 0] #[], pV b4 0, .func (.func 74) #[pV b4 0] #[], pV b4 0, .func (.func 75) #[pV b4 0] #[], pV b4 0, .func (.func 76) #[pV b4 0] #[], pV b4 0, .func (.func 77) #[pV b4 0] #[], pV b3 0, pV b3 2] (Sq.sm [0] (l := [blkR b3 [iV 3, iV most, .nilFunc, .nilFunc, .nilFunc, .nilFunc, .nilFunc, .nilFunc, .nilFunc, .nilFunc, .nilFunc, .nilFunc] 93]) (o_st (i := 2) (v := .func (.func 68) #[pV b4 0] #[])) rfl (Sq.vl [33, 34] [pV b3 0, pV b3 3] (Sq.sm [0] (l := [blkR b3 [iV 3, iV most, .func (.func 68) #[pV b4 0] #[], .nilFunc, .nilFunc, .nilFunc, .nilFunc, .nilFunc, .nilFunc, .nilFunc, .nilFunc, .nilFunc] 93]) (o_st (i := 3) (v := .func (.func 69) #[pV b4 0] #[])) rfl (Sq.vl [36, 37] [pV b3 0, pV b3 4] (Sq.sm [0] (l := [blkR b3 [iV 3, iV most, .func (.func 68) #[pV b4 0] #[], .func (.func 69) #[pV b4 0] #[], .nilFunc, .nilFunc, .nilFunc, .nilFunc, .nilFunc, .nilFunc, .nilFunc, .nilFunc] 93]) (o_st (i := 4) (v := .func (.func 70) #[pV b4 0] #[])) rfl ?_))))))))
 refine Sq.vl [39, 40] [pV b3 0, pV b3 5] (Sq.sm [0] (l := [blkR b3 [iV 3, iV most, .func (.func 68) #[pV b4 0] #[], .func (.func 69) #[pV b4 0] #[], .func (.func 70) #[pV b4 0] #[], .nilFunc, .nilFunc, .nilFunc, .nilFunc, .nilFunc, .nilFunc, .nilFunc] 93]) (o_st (i := 5) (v := .func (.func 71) #[pV b4 0] #[])) rfl (Sq.vl [42, 43] [pV b3 0, pV b3 6] (Sq.sm [0] (l := [blkR b3 [iV 3, iV most, .func (.func 68) #[pV b4 0] #[], .func (.func 69) #[pV b4 0] #[], .func (.func 70) #[pV b4 0] #[], .func (.func 71) #[pV b4 0] #[], .nilFunc, .nilFunc, .nilFunc, .nilFunc, .nilFunc, .nilFunc] 93]) (o_st (i := 6) (v := .func (.func 72) #[pV b4 0] #[])) rfl (Sq.vl [45, 46] [pV b3 0, pV b3 7] (Sq.sm [0] (l := [blkR b3 [iV 3, iV most, .func (.func 68) #[pV b4 0] #[], .func (.func 69) #[pV b4 0] #[], .func (.func 70) #[pV b4 0] #[], .func (.func 71) #[pV b4 0] #[], .func (.func 72) #[pV b4 0] #[], .nilFunc, .nilFunc, .nilFunc, .nilFunc, .nilFunc] 93]) (o_st (i := 7) (v := .func (.func 73) #[pV b4 0] #[])) rfl (Sq.vl [48, 49] [pV b3 0, pV b3 8] (Sq.sm [0] (l := [blkR b3 [iV 3, iV most, .func (.func 68) #[pV b4 0] #[], .func (.func 69) #[pV b4 0] #[], .func (.func 70) #[pV b4 0] #[], .func (.func 71) #[pV b4 0] #[], .func (.func 72) #[pV b4 0] #[], .func (.func 73) #[pV b4 0] #[], .nilFunc, .nilFunc, .nilFunc, .nilFunc] 93]) (o_st (i := 8) (v := .func (.func 74) #[pV b4 0] #[])) rfl ?_)))))))
 refine Sq.vl [51, 52] [pV b3 0, pV b3 9] (Sq.sm [0] (l := [blkR b3 [iV 3, iV most, .func (.func 68) #[pV b4 0] #[], .func (.func 69) #[pV b4 0] #[], .func (.func 70) #[pV b4 0] #[], .func (.func 71) #[pV b4 0] #[], .func (.func 72) #[pV b4 0] #[], .func (.func 73) #[pV b4 0] #[], .func (.func 74) #[pV b4 0] #[], .nilFunc, .nilFunc, .nilFunc] 93]) (o_st (i := 9) (v := .func (.func 75) #[pV b4 0] #[])) rfl (Sq.vl [54, 55] [pV b3 0, pV b3 10] (Sq.sm [0] (l := [blkR b3 [iV 3, iV most, .func (.func 68) #[pV b4 0] #[], .func (.func 69) #[pV b4 0] #[], .func (.func 70) #[pV b4 0] #[], .func (.func 71) #[pV b4 0] #[], .func (.func 72) #[pV b4 0] #[], .func (.func 73) #[pV b4 0] #[], .func (.func 74) #[pV b4 0] #[], .func (.func 75) #[pV b4 0] #[], .nilFunc, .nilFunc] 93]) (o_st (i := 10) (v := .func (.func 76) #[pV b4 0] #[])) rfl (Sq.vl [57, 58] [pV b3 0, pV b3 11] (Sq.sm [0] (l := [blkR b3 [iV 3, iV most, .func (.func 68) #[pV b4 0] #[], .func (.func 69) #[pV b4 0] #[], .func (.func 70) #[pV b4 0] #[], .func (.func 71) #[pV b4 0] #[], .func (.func 72) #[pV b4 0] #[], .func (.func 73) #[pV b4 0] #[], .func (.func 74) #[pV b4 0] #[], .func (.func 75) #[pV b4 0] #[], .func (.func 76) #[pV b4 0] #[], .nilFunc] 93]) (o_st (i := 11) (v := .func (.func 77) #[pV b4 0] #[])) rfl (Sq.done (Ex'.next (Cd.exit (Ex'.blockMiss rfl (Ex'.thenExit (Ex'.blockHit (Ex'.next (Cd.s1 (Sq.vl [0, 1, 2] [pV b3 0, pV b3 0, .nilIface] ?_))))))))))))))
 refine Sq.d4 (Cd.ret (Ex'.ret Tryz.results15 (RVs.tm (v := pV b3 0) (RVs.tmp (v := .nilIface) (by kernel_rfl) RVs.nil)) (fun w hw => ?_)))
 exact ⟨_, ⟨(b3, b4, nb5, ab6, gb7, mb8), trivial, rfl, rfl⟩, hw.pk [0, 1, 2, 3, 4, 5]⟩
 
theorem pol_New_4 {most : Int} (hm : 0 ≤ most ∧ most ≤ 16777216) : Tri Tryz.prog 15 #[iV 4, iV most] [] (PostE (ι := Nat × Nat × Nat × Nat × Nat × Nat) (fun _ => True) (fun x => .tuple #[pV x.1 0, .nilIface]) fun x => [polBArc x.1 (x.2.1) most] ++ arcL x.2.1 x.2.2.1 x.2.2.2.1 x.2.2.2.2.1 x.2.2.2.2.2 most 0 [] [] [] [] 0) := by
 refine Tri.en (args := [iV 4, iV most]) Tryz.func15 (fun B wz => ?_)
 refine Cd.s1 (Sq.vl [0, 1] [.pointer none, .nilIface] (Sq.d4 (Cd.seq (Cd.s1 (Sq.vl [0, 1, 2, 3, 4, 5] [iV 4, bV false, bV false, iV 4, bV false, bV false] (Sq.d4 (Cd.cF (Cd.skip (Ex'.next (Cd.seq (Cd.s1 (Sq.vl [0] [iV most] ?_))))))))))))
 refine Sq.sm [] (l := []) (o_cl Tryz.call44 ((t_right (m := most)).re (vT hm))) rfl (Sq.vl [2] [bV false] (Sq.d4 (Cd.cF (Cd.skip (Ex'.next (Cd.s1 (Sq.vl [0, 1, 2] [iV 4, iV most, .agg #[iV 4, iV most, .nilFunc, .nilFunc, .nilFunc, .nilFunc, .nilFunc, .nilFunc, .nilFunc, .nilFunc, .nilFunc, .nilFunc]] ?_)))))))
 refine Sq.e0 [] (l := []) (o_newBox (v := .agg #[iV 4, iV most, .nilFunc, .nilFunc, .nilFunc, .nilFunc, .nilFunc, .nilFunc, .nilFunc, .nilFunc, .nilFunc, .nilFunc]) [iV 4, iV most, .nilFunc, .nilFunc, .nilFunc, .nilFunc, .nilFunc, .nilFunc, .nilFunc, .nilFunc, .nilFunc, .nilFunc] (by kernel_rfl) rfl) rfl ?_; intro b3 _
 refine Sq.vl [4] [pV b3 0] (Sq.d1 (Sq.vl [0] [bV false] (Sq.d4 (Cd.seq (Cd.s1 (Sq.vl [0] [iV 4] (Sq.done (Ex'.next (Cd.block (Cd.seq (Cd.block (Cd.seq (Cd.block (Cd.seq (Cd.block (Cd.seq (Cd.block (Cd.seq (Cd.block (Cd.seq (Cd.seq (Cd.s1 (Sq.vl [0, 1] [bV false, bV false] ?_)))))))))))))))))))))))
 refine Sq.d4 (Cd.cF (Cd.skip (Ex'.next (Cd.seq (Cd.s1 (Sq.vl [0, 1] [bV false, bV false] (Sq.d4 (Cd.cF (Cd.skip (Ex'.next (Cd.seq (Cd.s1 (Sq.vl [0, 1] [bV false, bV false] ?_)))))))))))))
 refine Sq.d4 (Cd.cF (Cd.skip (Ex'.next (Cd.s1 (Sq.vl [0, 1] [bV false, bV false] (Sq.d4 (Cd.cF (Cd.skip (Ex'.next (Cd.exit (Ex'.blockMiss rfl (Ex'.thenExit (Ex'.blockMiss rfl (Ex'.thenExit (Ex'.blockMiss rfl (Ex'.thenExit (Ex'.blockMiss rfl (Ex'.thenExit (Ex'.blockHit (Ex'.next (Cd.seq (Cd.s1 ?_))))))))))))))))))))))
 refine Sq.vl [0] [iV most] ?_
 refine Sq.e1 [] (l := []) (o_cl Tryz.call78 (Tri.ex (L' := fun x => arcL x.1 x.2.1 x.2.2.1 x.2.2.2.1 x.2.2.2.2 most 0 [] [] [] [] 0) (arc_New most (by omega)) (fun x => by rw [arcNew_nn (show 0 ≤ most by omega)]))) rfl ?_; rintro ⟨b4, lt15, lt26, lb17, lb28⟩ _
 refine Sq.vl [2] [pV b4 0] (Sq.d4 (Cd.s0 (Sq.vl [0, 1, 2, 3, 4, 5, 6, 7, 8, 9, 10, 11, 12, 13, 14, 15, 16, 17, 18, 19, 20, 21, 22, 23, 24, 25, 26, 27, 28, 29, 30, 31] [pV b3 0, pV b3 0, pV b3 0, pV b3 0, pV b3 0, pV b3 0, pV b3 0, pV b3 0, pV b3 0, pV b3 0, pV b4 0, .func (.func 79) #[pV b4 0] #[], pV b4 0, .func (.func 80) #[pV b4 0] #[], pV b4 0, .func (.func 81) #[pV b4 0] #[], pV b4 0, .func (.func 82) #[pV b4 0] #[], pV b4 0, .func (.func 83) #[pV b4 0] #[], pV b4 0, .func (.func 84) #[pV b4 0] #[], pV b4 0, .func (.func 85) #[pV b4 0] #[], pV b4 0, .func (.func 86) #[pV b4 0] #[], pV b4 0, .func (.func 87) #[pV b4 0] #[], pV b4 0, .func (.func 88) #[pV b4 0] #[], pV b3 0, pV b3 2] (Sq.sm [0] (l := [blkR b3 [iV 4, iV most, .nilFunc, .nilFunc, .nilFunc, .nilFunc, .nilFunc, .nilFunc, .nilFunc, .nilFunc, .nilFunc, .nilFunc] 93]) (o_st (i := 2) (v := .func (.func 79) #[pV b4 0] #[])) rfl (Sq.vl [33, 34] [pV b3 0, pV b3 3] (Sq.sm [0] (l := [blkR b3 [iV 4, iV most, .func (.func 79) #[pV b4 0] #[], .nilFunc, .nilFunc, .nilFunc, .nilFunc, .nilFunc, .nilFunc, .nilFunc, .nilFunc, .nilFunc] 93]) (o_st (i := 3) (v := .func (.func 80) #[pV b4 0] #[])) rfl (Sq.vl [36, 37] [pV b3 0, pV b3 4] (Sq.sm [0] (l := [blkR b3 [iV 4, iV most, .func (.func 79) #[pV b4 0] #[], .func (.func 80) #[pV b4 0] #[], .nilFunc, .nilFunc, .nilFunc, .nilFunc, .nilFunc, .nilFunc, .nilFunc, .nilFunc] 93]) (o_st (i := 4) (v := .func (.func 81) #[pV b4 0] #[])) rfl ?_))))))))
 refine Sq.vl [39, 40] [pV b3 0, pV b3 5] (Sq.sm [0] (l := [blkR b3 [iV 4, iV most, .func (.func 79) #[pV b4 0] #[], .func (.func 80) #[pV b4 0] #[], .func (.func 81) #[pV b4 0] #[], .nilFunc, .nilFunc, .nilFunc, .nilFunc, .nilFunc, .nilFunc, .nilFunc] 93]) (o_st (i := 5) (v := .func (.func 82) #[pV b4 0] #[])) rfl (Sq.vl [42, 43] [pV b3 0, pV b3 6] (Sq.sm [0] (l := [blkR b3 [iV 4, iV most, .func (.func 79) #[pV b4 0] #[], .func (.func 80) #[pV b4 0] #[], .func (.func 81) #[pV b4 0] #[], .func (.func 82) #[pV b4 0] #[], .nilFunc, .nilFunc, .nilFunc, .nilFunc, .nilFunc, .nilFunc] 93]) (o_st (i := 6) (v := .func (.func 83) #[pV b4 0] #[])) rfl (Sq.vl [45, 46] [pV b3 0, pV b3 7] (Sq.sm [0] (l := [blkR b3 [iV 4, iV most, .func (.func 79) #[pV b4 0] #[], .func (.func 80) #[pV b4 0] #[], .func (.func 81) #[pV b4 0] #[], .func (.func 82) #[pV b4 0] #[], .func (.func 83) #[pV b4 0] #[], .nilFunc, .nilFunc, .nilFunc, .nilFunc, .nilFunc] 93]) (o_st (i := 7) (v := .func (.func 84) #[pV b4 0] #[])) rfl (Sq.vl [48, 49] [pV b3 0, pV b3 8] (Sq.sm [0] (l := [blkR b3 [iV 4, iV most, .func (.func 79) #[pV b4 0] #[], .func (.func 80) #[pV b4 0] #[], .func (.func 81) #[pV b4 0] #[], .func (.func 82) #[pV b4 0] #[], .func (.func 83) #[pV b4 0] #[], .func (.func 84) #[pV b4 0] #[], .nilFunc, .nilFunc, .nilFunc, .nilFunc] 93]) (o_st (i := 8) (v := .func (.func 85) #[pV b4 0] #[])) rfl ?_)))))))
 refine Sq.vl [51, 52] [pV b3 0, pV b3 9] (Sq.sm [0] (l := [blkR b3 [iV 4, iV most, .func (.func 79) #[pV b4 0] #[], .func (.func 80) #[pV b4 0] #[], .func (.func 81) #[pV b4 0] #[], .func (.func 82) #[pV b4 0] #[], .func (.func 83) #[pV b4 0] #[], .func (.func 84) #[pV b4 0] #[], .func (.func 85) #[pV b4 0] #[], .nilFunc, .nilFunc, .nilFunc] 93]) (o_st (i := 9) (v := .func (.func 86) #[pV b4 0] #[])) rfl (Sq.vl [54, 55] [pV b3 0, pV b3 10] (Sq.sm [0] (l := [blkR b3 [iV 4, iV most, .func (.func 79) #[pV b4 0] #[], .func (.func 80) #[pV b4 0] #[], .func (.func 81) #[pV b4 0] #[], .func (.func 82) #[pV b4 0] #[], .func (.func 83) #[pV b4 0] #[], .func (.func 84) #[pV b4 0] #[], .func (.func 85) #[pV b4 0] #[], .func (.func 86) #[pV b4 0] #[], .nilFunc, .nilFunc] 93]) (o_st (i := 10) (v := .func (.func 87) #[pV b4 0] #[])) rfl (Sq.vl [57, 58] [pV b3 0, pV b3 11] (Sq.sm [0] (l := [blkR b3 [iV 4, iV most, .func (.func 79) #[pV b4 0] #[], .func (.func 80) #[pV b4 0] #[], .func (.func 81) #[pV b4 0] #[], .func (.func 82) #[pV b4 0] #[], .func (.func 83) #[pV b4 0] #[], .func (.func 84) #[pV b4 0] #[], .func (.func 85) #[pV b4 0] #[], .func (.func 86) #[pV b4 0] #[], .func (.func 87) #[pV b4 0] #[], .nilFunc] 93]) (o_st (i := 11) (v := .func (.func 88) #[pV b4 0] #[])) rfl (Sq.done (Ex'.next (Cd.exit (Ex'.blockHit (Ex'.next (Cd.s1 (Sq.vl [0, 1, 2] [pV b3 0, pV b3 0, .nilIface] ?_))))))))))))
 refine Sq.d4 (Cd.ret (Ex'.ret Tryz.results15 (RVs.tm (v := pV b3 0) (RVs.tmp (v := .nilIface) (by kernel_rfl) RVs.nil)) (fun w hw => ?_)))
 exact ⟨_, ⟨(b3, b4, lt15, lt26, lb17, lb28), trivial, rfl, rfl⟩, hw.pk [0, 1, 2, 3, 4, 5]⟩
 
end Go.Proofs.YtholinnmjoelkaaGreatDoor
namespace Go.Proofs.YtholinnmjoelkaaGreatDoor
open Go.RowKit Go.MapKept
theorem tri_compE {P : Program} {fn : Nat} {args : Array Value} {ι κ : Type} {φ : κ → Prop} {F : κ → Value} {f f' : ι → List Res} {N : κ → Res} (h : ∀ x, Tri P fn args (f x) (PostE φ F fun v => f' x ++ [N v])) :
    Tri P fn args [compR f] (PostE φ F fun v => [compR f', N v]) := by
  intro w own hH hO
  obtain ⟨x, own1, h1, h2⟩ := hH 0 (compR f) rfl
  refine (h x w (fun k => if k < w.heap.size ∧ own1 k ≤ (f x).length then own1 k else 0) (fun i R hi => Res.mov _ (h2 i R hi) (Nat.le_refl _) fun k hk q => ⟨?_, rfl⟩) (fun k _ => ?_)).mono ?_
  · have := (List.getElem?_eq_some_iff.1 hi).1
    show (if k < w.heap.size ∧ own1 k ≤ (f x).length then own1 k else 0) = i + 1
    rw [if_pos ⟨hk, by omega⟩]; exact q
  · split <;> omega
  · rintro e w' ⟨v, rfl, l', own', ⟨y, hφ, rfl, rfl⟩, h3, h4, h5⟩
    have hsel : ∀ k, k < w.heap.size → (if k < w.heap.size ∧ own1 k ≤ (f x).length then own1 k else 0) ≠ 0 → own k = 1 := fun k hk q => by
      split at q
      · exact h1 k hk q
      · exact absurd rfl q
    refine ⟨_, rfl, [compR f', N y], fun k => if own' k = (f' x).length + 1 then 2 else if own' k ≠ 0 ∧ own' k ≤ (f' x).length then 1 else if k < w.heap.size ∧ own k ≠ 1 then own k else 0, ⟨y, hφ, rfl, rfl⟩, fun i R hi => ?_, h4.mono fun k hk q => (by rw [hsel k hk q]; simp), fun k hk q => ?_⟩
    · match i, hi with
      | 0, hi =>
        cases hi
        refine ⟨x, fun k => if own' k ≤ (f' x).length then own' k else 0, fun k _ q => ?_, fun i R hi => ?_⟩
        · replace q : (if own' k ≤ (f' x).length then own' k else 0) ≠ 0 := q
          by_cases e : own' k ≤ (f' x).length
          · rw [if_pos e] at q
            show (if own' k = (f' x).length + 1 then 2 else if own' k ≠ 0 ∧ own' k ≤ (f' x).length then 1 else if k < w.heap.size ∧ own k ≠ 1 then own k else 0) = 0 + 1
            rw [if_neg (by omega), if_pos ⟨q, e⟩]
          · rw [if_neg e] at q; exact absurd rfl q
        · have hl := (List.getElem?_eq_some_iff.1 hi).1
          refine Res.mov _ (h3 i R (by rw [List.getElem?_append_left hl]; exact hi)) (Nat.le_refl _) fun k _ q => ⟨?_, rfl⟩
          show (if own' k ≤ (f' x).length then own' k else 0) = i + 1
          rw [if_pos (by omega)]; exact q
      | 1, hi =>
        cases hi
        refine Res.mov _ (h3 (f' x).length (N y) (by simp)) (Nat.le_refl _) fun k _ q => ⟨?_, rfl⟩
        show (if own' k = (f' x).length + 1 then 2 else if own' k ≠ 0 ∧ own' k ≤ (f' x).length then 1 else if k < w.heap.size ∧ own k ≠ 1 then own k else 0) = 1 + 1
        rw [if_pos q]
    · by_cases e : own' k ≠ 0
      · rw [hsel k hk (h5 k hk e)]; simp
      · have e0 : own' k = 0 := Classical.not_not.1 e
        replace q : (if own' k = (f' x).length + 1 then 2 else if own' k ≠ 0 ∧ own' k ≤ (f' x).length then 1 else if k < w.heap.size ∧ own k ≠ 1 then own k else 0) ≠ 0 := q
        rw [if_neg (by omega), if_neg (fun w => e w.1)] at q
        split at q
        · exact q
        · exact absurd rfl q
theorem tri_compN {P : Program} {fn : Nat} {args : Array Value} {ι : Type} {F : Nat → Value} {g : Nat → ι → List Res} (h : Tri P fn args [] (PostE (ι := Nat × ι) (fun _ => True) (fun x => F x.1) fun x => g x.1 x.2)) :
    Tri P fn args [] (PostE (fun _ => True) F fun b => [compR (g b)]) := by
  intro w own hH hO
  refine (h w own hH hO).mono ?_
  rintro e w' ⟨v, rfl, l', own', ⟨x, _, rfl, rfl⟩, h3, h4, h5⟩
  refine ⟨_, rfl, [compR (g x.1)], fun k => if own' k ≠ 0 then 1 else 0, ⟨x.1, trivial, rfl, rfl⟩, fun i R hi => ?_, h4, fun k hk q => ?_⟩
  · match i, hi with
    | 0, hi =>
      cases hi
      refine ⟨x.2, own', fun k _ q => ?_, h3⟩
      show (if own' k ≠ 0 then 1 else 0) = 0 + 1
      rw [if_pos q]
  · by_cases e : own' k ≠ 0
    · exact h5 k hk e
    · replace q : (if own' k ≠ 0 then 1 else 0) ≠ 0 := q
      rw [if_neg e] at q; exact absurd rfl q
end Go.Proofs.YtholinnmjoelkaaGreatDoor
namespace Go.Proofs.YtholinnmjoelkaaGreatDoor
open Go.RowKit Go.MapKept
def polR (p : Nat) (st : PSt) (n : Nat) : Res := match st with
  | .lru m ks => compR fun x : Nat × Nat => [polBLru p x.1 m] ++ lruL x.1 x.2 m ks n
  | .lfu m now ch S => compR fun x : Nat × Nat => [polBLfu p x.1 (if ch = true then 2 else 1) m] ++ lfuL x.1 x.2 m now ch S n
  | .srl m t ns cs gs ms => compR fun x : Nat × Nat × Nat × Nat × Nat => [polBSrl p x.1 m] ++ srlL x.1 x.2.1 x.2.2.1 x.2.2.2.1 x.2.2.2.2 m t ns cs gs ms n
  | .arc m q t1 t2 b1 b2 => compR fun x : Nat × Nat × Nat × Nat × Nat => [polBArc p x.1 m] ++ arcL x.1 x.2.1 x.2.2.1 x.2.2.2.1 x.2.2.2.2 m q t1 t2 b1 b2 n
def PSt.Bd : PSt → Nat → Prop
  | .lru _ ks, j => ks.length ≤ j
  | .lfu _ now _ S, j => (0 ≤ now ∧ now ≤ 1000000000) ∧ TmB 1000000000 S ∧ S.length ≤ j
  | .srl m t ns cs _ _, j => 0 ≤ m ∧ (0 ≤ t ∧ t ≤ 4611686018427387904) ∧ cs.length + ns.length ≤ j
  | .arc m q t1 t2 _ _, j => (0 ≤ m ∧ m ≤ 4611686018427387904) ∧ (0 ≤ q ∧ q ≤ m) ∧ t1.length + t2.length ≤ j
theorem PSt.Inv.bd {st : PSt} {i : Int} {j : Nat} (h : st.Inv i) (hi : i ≤ 1000000000) (hm : st.most ≤ 4611686018427387904) (hj : st.keys.length ≤ j) : st.Bd j := by
  cases st with
  | lru m ks => show ks.length ≤ j; rw [show PSt.keys (.lru m ks) = ks.reverse from rfl, List.length_reverse] at hj; exact hj
  | lfu m now ch S =>
    obtain ⟨h1, h2⟩ := h
    rw [show PSt.keys (.lfu m now ch S) = ksf S from rfl, show (ksf S).length = S.length from List.length_map _] at hj
    exact ⟨⟨h1.n0, by omega⟩, h1.tmb (by omega), hj⟩
  | srl m t ns cs gs ms =>
    have h1 := SrlJ.h0 h; have h2 := SrlJ.t0 h; have h3 := SrlJ.tm h
    have hm : m ≤ 4611686018427387904 := hm
    rw [show PSt.keys (.srl m t ns cs gs ms) = (cs ++ ns).reverse from rfl, List.length_reverse, List.length_append] at hj
    exact ⟨h1, ⟨h2, by omega⟩, hj⟩
  | arc m q t1 t2 b1 b2 =>
    have h1 := ArcI.h0 h; have h2 := ArcI.p0 h; have h3 := ArcI.pm h
    rw [show PSt.keys (.arc m q t1 t2 b1 b2) = t1.reverse ++ t2.reverse from rfl, List.length_append, List.length_reverse, List.length_reverse] at hj
    exact ⟨⟨h1, hm⟩, ⟨h2, h3⟩, hj⟩
section
variable {p n n' j : Nat} {st : PSt} {i : Int}
theorem pol_Kind (hb : n + j + 10 ≤ 1000000000) (hB : st.Bd j) : Tri Tryz.prog 40 #[pV p 0] [polR p st n] (Same [polR p st n] (iV st.kind)) := by
  cases st with
  | lru => exact tri_comp (fun x => pol_Kind_lru hb hB) (fun x => rfl)
  | lfu => exact tri_comp (fun x => pol_Kind_lfu hb hB.1 hB.2.1 hB.2.2) (fun x => rfl)
  | srl => exact tri_comp (fun x => pol_Kind_srl hb hB.1 hB.2.1 hB.2.2) (fun x => rfl)
  | arc => exact tri_comp (fun x => pol_Kind_arc hb hB.1 hB.2.1 hB.2.2) (fun x => rfl)
theorem pol_Most (hb : n + j + 10 ≤ 1000000000) (hB : st.Bd j) : Tri Tryz.prog 29 #[pV p 0] [polR p st n] (Same [polR p st n] (iV st.most)) := by
  cases st with
  | lru => exact tri_comp (fun x => pol_Most_lru hb hB) (fun x => rfl)
  | lfu => exact tri_comp (fun x => pol_Most_lfu hb hB.1 hB.2.1 hB.2.2) (fun x => rfl)
  | srl => exact tri_comp (fun x => pol_Most_srl hb hB.1 hB.2.1 hB.2.2) (fun x => rfl)
  | arc => exact tri_comp (fun x => pol_Most_arc hb hB.1 hB.2.1 hB.2.2) (fun x => rfl)
theorem pol_Has (key : ByteArray) (hI : st.Inv i) (hb : n + j + 10 ≤ 1000000000) (hB : st.Bd j) : Tri Tryz.prog 19 #[pV p 0, sV key] [polR p st n] (Same [polR p st n] (bV (decide (key ∈ st.keys)))) := by
  cases st with
  | lru m ks => exact tri_comp (fun x => (pol_Has_lru key hb hB).re (congrArg Value.bool (show decide (key ∈ ks) = decide (key ∈ ks.reverse) by rw [decide_eq_decide]; exact List.mem_reverse.symm))) (fun x => rfl)
  | lfu m now ch S => exact tri_comp (fun x => (pol_Has_lfu key hb hB.1 hB.2.1 hB.2.2).re (congrArg Value.bool (LfuI.hasD (And.left hI) key))) (fun x => rfl)
  | srl m t ns cs gs ms => exact tri_comp (fun x => (pol_Has_srl key hb hB.1 hB.2.1 hB.2.2).re (congrArg Value.bool (srlHas_eq.trans (show decide (key ∈ cs ++ ns) = decide (key ∈ (cs ++ ns).reverse) by rw [decide_eq_decide]; exact List.mem_reverse.symm)))) (fun x => rfl)
  | arc m q t1 t2 b1 b2 => exact tri_comp (fun x => (pol_Has_arc key hb hB.1 hB.2.1 hB.2.2).re (congrArg Value.bool (arcHas_eq.trans (show decide (key ∈ t1 ∨ key ∈ t2) = decide (key ∈ t1.reverse ++ t2.reverse) by rw [decide_eq_decide]; simp)))) (fun x => rfl)
theorem pol_Len (hb : n + j + 10 ≤ 1000000000) (hB : st.Bd j) : Tri Tryz.prog 20 #[pV p 0] [polR p st n] (Same [polR p st n] (iV st.keys.length)) := by
  cases st with
  | lru m ks => exact tri_comp (fun x => (pol_Len_lru hb hB).re (congrArg iV (show (ks.length : Int) = (ks.reverse.length : Int) by rw [List.length_reverse]))) (fun x => rfl)
  | lfu m now ch S => exact tri_comp (fun x => (pol_Len_lfu hb hB.1 hB.2.1 hB.2.2).re (congrArg iV (show (S.length : Int) = ((ksf S).length : Int) by rw [show (ksf S).length = S.length from List.length_map _]))) (fun x => rfl)
  | srl m t ns cs gs ms => exact tri_comp (fun x => (pol_Len_srl hb hB.1 hB.2.1 hB.2.2).re (congrArg iV (srlLen_sum.trans (show (cs.length : Int) + ns.length = ((cs ++ ns).reverse.length : Int) by simp; omega)))) (fun x => rfl)
  | arc m q t1 t2 b1 b2 => exact tri_comp (fun x => (pol_Len_arc hb hB.1 hB.2.1 hB.2.2).re (congrArg iV (show (t1.length : Int) + t2.length = ((t1.reverse ++ t2.reverse).length : Int) by simp))) (fun x => rfl)
theorem pol_Victim (hb : n + j + 10 ≤ 1000000000) (hB : st.Bd j) : Tri Tryz.prog 23 #[pV p 0] [polR p st n] (Same [polR p st n] (.tuple #[sV st.victim.1, bV st.victim.2])) := by
  cases st with
  | lru => exact tri_comp (fun x => pol_Victim_lru hb hB) (fun x => rfl)
  | lfu => exact tri_comp (fun x => pol_Victim_lfu hb hB.1 hB.2.1 hB.2.2) (fun x => rfl)
  | srl => exact tri_comp (fun x => pol_Victim_srl hb hB.1 hB.2.1 hB.2.2) (fun x => rfl)
  | arc => exact tri_comp (fun x => pol_Victim_arc hb hB.1 hB.2.1 hB.2.2) (fun x => rfl)
theorem pol_Request (key : ByteArray) (hb : n + j + 10 ≤ 1000000000) (hn : n + j + 5 ≤ n') (hB : st.Bd j) : Tri Tryz.prog 17 #[pV p 0, sV key] [polR p st n]
    (Same [polR p (st.req key).1 n'] (.agg #[bV (st.req key).2.1, sV (st.req key).2.2.1, bV (st.req key).2.2.2])) := by
  cases st with
  | lru => exact tri_comp (fun x => pol_Request_lru key hb hn hB) (fun x => rfl)
  | lfu => exact tri_comp (fun x => pol_Request_lfu key hb hn hB.1 hB.2.1 hB.2.2) (fun x => rfl)
  | srl => exact tri_comp (fun x => pol_Request_srl key hb hn hB.1 hB.2.1 hB.2.2) (fun x => rfl)
  | arc => exact tri_comp (fun x => pol_Request_arc key hb hn hB.1 hB.2.1 hB.2.2) (fun x => rfl)
theorem pol_Keys (hb : n + j + 10 ≤ 1000000000) (hB : st.Bd j) : Tri Tryz.prog 16 #[pV p 0] [polR p st n] (PostE (fun _ => True) id fun v => [polR p st n] ++ [rowR 9 1 v st.keys.length (st.keys.map Value.string)]) := by
  cases st with
  | lru m ks => exact tri_compE (fun x => pol_Keys_lru hb hB)
  | lfu m now ch S => exact tri_compE (fun x => pol_Keys_lfu hb hB.1 hB.2.1 hB.2.2)
  | srl m t ns cs gs ms => exact tri_compE (fun x => by have h := pol_Keys_srl (q := p) (b := x.1) (nb := x.2.1) (ab := x.2.2.1) (gb := x.2.2.2.1) (mb := x.2.2.2.2) (gs := gs) (ms := ms) hb hB.1 hB.2.1 hB.2.2; rw [srlKeys_eq] at h; exact h)
  | arc m q t1 t2 b1 b2 => exact tri_compE (fun x => pol_Keys_arc hb hB.1 hB.2.1 hB.2.2)
theorem pol_New {kind most : Int} (hk : 0 ≤ kind ∧ kind ≤ 4) (hm : 0 ≤ most ∧ most ≤ 16777216) : Tri Tryz.prog 15 #[iV kind, iV most] [] (PostE (fun _ => True) (fun b => .tuple #[pV b 0, .nilIface]) fun b => [polR b (PSt.new kind most) 0]) := by
  rcases (by omega : kind = 0 ∨ kind = 1 ∨ kind = 2 ∨ kind = 3 ∨ kind = 4) with rfl | rfl | rfl | rfl | rfl
  · rw [show PSt.new 0 most = .lru most [] by unfold PSt.new; rw [if_pos rfl, lqNew_nn hm.1]]
    exact tri_compN (F := fun b => .tuple #[pV b 0, .nilIface]) (g := fun b (x : Nat × Nat) => [polBLru b x.1 most] ++ lruL x.1 x.2 most [] 0) (pol_New_0 hm)
  · rw [show PSt.new 1 most = .lfu most 0 false [] by unfold PSt.new; rw [if_neg (by decide), if_pos (by decide), lfuNew_nn hm.1]; rfl]
    exact tri_compN (F := fun b => .tuple #[pV b 0, .nilIface]) (g := fun b (x : Nat × Nat) => [polBLfu b x.1 1 most] ++ lfuL x.1 x.2 most 0 false [] 0) (pol_New_1 hm)
  · rw [show PSt.new 2 most = .lfu most 0 true [] by unfold PSt.new; rw [if_neg (by decide), if_pos (by decide), lfuNew_nn hm.1]; rfl]
    exact tri_compN (F := fun b => .tuple #[pV b 0, .nilIface]) (g := fun b (x : Nat × Nat) => [polBLfu b x.1 2 most] ++ lfuL x.1 x.2 most 0 true [] 0) (pol_New_2 hm)
  · rw [show PSt.new 3 most = .srl most (most / 2) [] [] [] [] by unfold PSt.new; rw [if_neg (by decide), if_neg (by decide), if_pos rfl, srlNew_nn hm.1]]
    exact tri_compN (F := fun b => .tuple #[pV b 0, .nilIface]) (g := fun b (x : Nat × Nat × Nat × Nat × Nat) => [polBSrl b x.1 most] ++ srlL x.1 x.2.1 x.2.2.1 x.2.2.2.1 x.2.2.2.2 most (most / 2) [] [] [] [] 0) (pol_New_3 hm)
  · rw [show PSt.new 4 most = .arc most 0 [] [] [] [] by unfold PSt.new; rw [if_neg (by decide), if_neg (by decide), if_neg (by decide), arcNew_nn hm.1]]
    exact tri_compN (F := fun b => .tuple #[pV b 0, .nilIface]) (g := fun b (x : Nat × Nat × Nat × Nat × Nat) => [polBArc b x.1 most] ++ arcL x.1 x.2.1 x.2.2.1 x.2.2.2.1 x.2.2.2.2 most 0 [] [] [] [] 0) (pol_New_4 hm)
end
end Go.Proofs.YtholinnmjoelkaaGreatDoor
namespace Go.Proofs.YtholinnmjoelkaaGreatDoor
open Go.RowKit Go.Extern.Stop Go.Stop Go.Extern
theorem Tryz.valueOf27 (t : Addr) (w : World) : (ReflectliteValue.unpack (.iface 86 (.pointer (some t)))).run Tryz.prog w
    = .ok (.agg #[.pointer (some ⟨1, 86, none⟩), .pointer (some ⟨w.heap.size, 0, none⟩), .int .u64 150]) (w.alloc (.cells #[.pointer (some t)] 86)) := by kernel_rfl
theorem Tryz.type27 (a : Addr) (w : World) : (ReflectliteValue.methodAny (ReflectliteValue.valueError "reflectlite.Value.Type" 0) (fun t _ _ _ => ReflectliteType.toType t) #[.agg #[.pointer (some ⟨1, 86, none⟩), .pointer (some a), .int .u64 150]]).run Tryz.prog w
    = .ok (.iface 209 (.agg #[.pointer (some ⟨1, 86, none⟩)])) w := by kernel_rfl
theorem Tryz.methodKind (h : Value) (w : World) : (Go.method 401 209 (.agg #[h]) "Kind").run Tryz.prog w = .ok (226, h) w := by kernel_rfl
theorem Tryz.kind27 (w : World) : ((ReflectliteType.abiMethod fun t => (fun a : Nat => Value.int IntKind.u8 (a : Int)) <$> Rtype.kind t) #[.pointer (some ⟨1, 86, none⟩)]).run Tryz.prog w = .ok (.int .u8 22) w := by kernel_rfl
theorem Tryz.kind25 (w : World) : ((ReflectliteType.abiMethod fun t => (fun a : Nat => Value.int IntKind.u8 (a : Int)) <$> Rtype.kind t) #[.pointer (some ⟨1, 84, none⟩)]).run Tryz.prog w = .ok (.int .u8 22) w := by kernel_rfl
theorem rlm (z : Sem Value) (f : TypeId → Addr → Nat → Nat → Sem Value) (v : Value) :
    ReflectliteValue.method z f #[v] = (do match ← ReflectliteValue.parts v with | none => z | some (t, a, fl) => f t a fl (fl % 32)) := rfl
theorem Tryz.parts27 (a : Addr) (w : World) : (ReflectliteValue.parts (.agg #[.pointer (some ⟨1, 86, none⟩), .pointer (some a), .int .u64 150])).run Tryz.prog w = .ok (some (86, a, 150)) w := by kernel_rfl
theorem Tryz.isNil27 (a p : Addr) (W : World) (ha : W.cell? a = some (.pointer (some p))) :
    (ReflectliteValue.method (ReflectliteValue.valueError "reflectlite.Value.IsNil" 0) ReflectliteValue.isNil #[.agg #[.pointer (some ⟨1, 86, none⟩), .pointer (some a), .int .u64 150]]).run Tryz.prog W = .ok (.bool false) W := by
  rw [rlm]
  simp only [Sem.run_bind, Tryz.parts27, Result.andThen]
  simp [ReflectliteValue.isNil, loadVar, isAgg, underlying, Tryz.underlying86, ha, Result.andThen]
theorem Tryz.methodElem (h : Value) (w : World) : (Go.method 401 209 (.agg #[h]) "Elem").run Tryz.prog w = .ok (239, .agg #[h]) w := by kernel_rfl
theorem Tryz.methodImplements (h : Value) (w : World) : (Go.method 401 209 (.agg #[h]) "Implements").run Tryz.prog w = .ok (240, .agg #[h]) w := by kernel_rfl
theorem Tryz.methodAssignableTo (h : Value) (w : World) : (Go.method 401 209 (.agg #[h]) "AssignableTo").run Tryz.prog w = .ok (237, .agg #[h]) w := by kernel_rfl
theorem Tryz.elem27 (w : World) : (ReflectliteType.method ReflectliteType.elem #[.agg #[.pointer (some ⟨1, 86, none⟩)]]).run Tryz.prog w = .ok (.iface 209 (.agg #[.pointer (some ⟨1, 84, none⟩)])) w := by kernel_rfl
theorem Tryz.implements25 (w : World) : (ReflectliteType.relation "Implements" ReflectliteType.implements_ #[.agg #[.pointer (some ⟨1, 84, none⟩)], .iface 209 (.agg #[.pointer (some ⟨1, 24, none⟩)])]).run Tryz.prog w = .ok (.bool true) w := by kernel_rfl
theorem Tryz.typeOf25 (v : Value) (w : World) : (ReflectliteType.typeOf #[.iface 84 v]).run Tryz.prog w = .ok (.iface 209 (.agg #[.pointer (some ⟨1, 84, none⟩)])) w := by kernel_rfl
theorem Tryz.assignable25 (w : World) : (ReflectliteType.relation "AssignableTo" ReflectliteType.assignableTo #[.agg #[.pointer (some ⟨1, 84, none⟩)], .iface 209 (.agg #[.pointer (some ⟨1, 84, none⟩)])]).run Tryz.prog w = .ok (.bool true) w := by kernel_rfl
theorem Tryz.valueOf25 (e : Addr) (w : World) : (ReflectliteValue.unpack (.iface 84 (.pointer (some e)))).run Tryz.prog w
    = .ok (.agg #[.pointer (some ⟨1, 84, none⟩), .pointer (some ⟨w.heap.size, 0, none⟩), .int .u64 150]) (w.alloc (.cells #[.pointer (some e)] 84)) := by kernel_rfl
theorem Tryz.elemOf27 (w : World) : (Rtype.elem? 86).run Tryz.prog w = .ok (some 84) w := by kernel_rfl
theorem Tryz.mk25 (p : Addr) (w : World) : (ReflectliteValue.mk 84 p ReflectliteValue.flagAddr).run Tryz.prog w = .ok (.agg #[.pointer (some ⟨1, 84, none⟩), .pointer (some p), .int .u64 406]) w := by kernel_rfl
theorem Tryz.elemV27 (a p : Addr) (W : World) (ha : W.cell? a = some (.pointer (some p))) :
    (ReflectliteValue.method (ReflectliteValue.valueError "reflectlite.Value.Elem" 0) ReflectliteValue.elem #[.agg #[.pointer (some ⟨1, 86, none⟩), .pointer (some a), .int .u64 150]]).run Tryz.prog W
      = .ok (.agg #[.pointer (some ⟨1, 84, none⟩), .pointer (some p), .int .u64 406]) W := by
  rw [rlm]
  simp only [Sem.run_bind, Tryz.parts27, Result.andThen]
  simp [ReflectliteValue.elem, loadVar, isAgg, underlying, Tryz.underlying86, ha, Result.andThen, Tryz.elemOf27, Tryz.mk25]
theorem rls (v x : Value) : ReflectliteValue.set #[v, x] = (do
    let (some (dst, a, fl), some (src, b, _)) := (← ReflectliteValue.parts v, ← ReflectliteValue.parts x)
      | unsupported (.noEntry "extern/(internal/reflectlite.Value).Set.zeroValue")
    if fl / ReflectliteValue.flagAddr % 2 == 0 then unsupported (.noEntry "extern/(internal/reflectlite.Value).Set.unaddressable")
    let val ← loadVar src b
    if ← Rtype.directlyAssignable dst src then storeVar dst a val
    else if ← Rtype.implements dst src then
      if (← Rtype.kind src) == 20 then
        match val with
        | .nilIface => unsupported (.noEntry "extern/reflectlite: a nil value of one interface type handed on as a value of another")
        | _ => storeVar dst a val
      else storeVar dst a (.iface src val)
    else panicString ("reflectlite.Set: value of type " ++ (← Rtype.spelt src) ++ " is not assignable to type " ++ (← Rtype.spelt dst))
    pure (.tuple #[])) := rfl
theorem Tryz.parts25a (a : Addr) (w : World) : (ReflectliteValue.parts (.agg #[.pointer (some ⟨1, 84, none⟩), .pointer (some a), .int .u64 406])).run Tryz.prog w = .ok (some (84, a, 406)) w := by kernel_rfl
theorem Tryz.parts25 (a : Addr) (w : World) : (ReflectliteValue.parts (.agg #[.pointer (some ⟨1, 84, none⟩), .pointer (some a), .int .u64 150])).run Tryz.prog w = .ok (some (84, a, 150)) w := by kernel_rfl
theorem Tryz.direct25 (w : World) : (Rtype.directlyAssignable 84 84).run Tryz.prog w = .ok true w := by kernel_rfl
theorem Tryz.set25 (ta b e : Addr) (old : Value) (W : World) (hb : W.cell? b = some (.pointer (some e))) (ht : W.cell? ta = some old) (hf : W.frozen? ta = false) :
    (ReflectliteValue.set #[.agg #[.pointer (some ⟨1, 84, none⟩), .pointer (some ta), .int .u64 406], .agg #[.pointer (some ⟨1, 84, none⟩), .pointer (some b), .int .u64 150]]).run Tryz.prog W
      = .ok (.tuple #[]) (W.setCell ta (.pointer (some e))) := by
  rw [rls]
  simp only [Sem.run_bind, Tryz.parts25a, Tryz.parts25, Result.andThen]
  simp [ReflectliteValue.flagAddr, loadVar, isAgg, underlying, Tryz.underlying84, hb, Result.andThen, Tryz.direct25, storeVar, Value.cells, storeCells, Addr.add]
  rw [run_store Tryz.prog W ta _ _ (by rfl)]
  simp [ht, hf]
set_option maxHeartbeats 4000000 in
theorem as_hit (e t : Addr) (old : Value) (w : World) (hg : w.cell? ⟨0, 0, none⟩ = some (.iface 209 (.agg #[.pointer (some ⟨1, 24, none⟩)]))) (ht0 : w.cell? t = some old) (hf0 : w.frozen? t = false) :
    Calls Tryz.prog 42 #[.iface 84 (.pointer (some e)), .iface 86 (.pointer (some t))] w fun ev w' => ev = .returned (.bool true) ∧ w' = ((((w.alloc (.cells #[.pointer (some t)] 86)).alloc (.cells #[.pointer (some ⟨1, 86, none⟩), .pointer (some ⟨w.heap.size, 0, none⟩), .int .u64 150] 148)).alloc (.cells #[.pointer (some ⟨1, 86, none⟩), .pointer (some ⟨w.heap.size, 0, none⟩), .int .u64 150] 148)).alloc (.cells #[.pointer (some e)] 84)).setCell t (.pointer (some e)) := by
  have h6 := @run_callFunc_extern Tryz.prog 120 _ (fun args => ReflectliteValue.unpack (args.getD 0 (.tuple #[]))) Tryz.func120 (by kernel_rfl) (by kernel_rfl) (by kernel_rfl) (by kernel_rfl)
  have h7 := @run_callFunc_extern Tryz.prog 121 _ (ReflectliteValue.methodAny (ReflectliteValue.valueError "reflectlite.Value.Type" 0) (fun t _ _ _ => ReflectliteType.toType t)) Tryz.func121 (by kernel_rfl) (by kernel_rfl) (by kernel_rfl) (by kernel_rfl)
  have h8 := @run_callFunc_extern Tryz.prog 122 _ (ReflectliteValue.method (ReflectliteValue.valueError "reflectlite.Value.IsNil" 0) ReflectliteValue.isNil) Tryz.func122 (by kernel_rfl) (by kernel_rfl) (by kernel_rfl) (by kernel_rfl)
  have h27 := @run_callFunc_extern Tryz.prog 226 _ (ReflectliteType.abiMethod fun t => do pure (.int .u8 (← Rtype.kind t))) Tryz.func226 (by kernel_rfl) (by kernel_rfl) (by kernel_rfl) (by kernel_rfl)
  have h37 := @run_callFunc_extern Tryz.prog 239 _ (ReflectliteType.method ReflectliteType.elem) Tryz.func239 (by kernel_rfl) (by kernel_rfl) (by kernel_rfl) (by kernel_rfl)
  have h38 := @run_callFunc_extern Tryz.prog 240 _ (ReflectliteType.relation "Implements" ReflectliteType.implements_) Tryz.func240 (by kernel_rfl) (by kernel_rfl) (by kernel_rfl) (by kernel_rfl)
  have h10 := @run_callFunc_extern Tryz.prog 124 _ ReflectliteType.typeOf Tryz.func124 (by kernel_rfl) (by kernel_rfl) (by kernel_rfl) (by kernel_rfl)
  have h35 := @run_callFunc_extern Tryz.prog 237 _ (ReflectliteType.relation "AssignableTo" ReflectliteType.assignableTo) Tryz.func237 (by kernel_rfl) (by kernel_rfl) (by kernel_rfl) (by kernel_rfl)
  have h11 := @run_callFunc_extern Tryz.prog 176 _ (ReflectliteValue.method (ReflectliteValue.valueError "reflectlite.Value.Elem" 0) ReflectliteValue.elem) Tryz.func176 (by kernel_rfl) (by kernel_rfl) (by kernel_rfl) (by kernel_rfl)
  have h12 := @run_callFunc_extern Tryz.prog 177 _ ReflectliteValue.set Tryz.func177 (by kernel_rfl) (by kernel_rfl) (by kernel_rfl) (by kernel_rfl)
  have tO := Tryz.typeOf25
  have mA := Tryz.methodAssignableTo
  have a25 := Tryz.assignable25
  have v25 := Tryz.valueOf25
  have f6 := Tryz.valueOf27
  have f7 := Tryz.type27
  have mK := Tryz.methodKind
  have mE := Tryz.methodElem
  have mI := Tryz.methodImplements
  have k27 := Tryz.kind27
  have k25 := Tryz.kind25
  have e27 := Tryz.elem27
  have i25 := Tryz.implements25
  have n8 := Tryz.isNil27 ⟨w.heap.size, 0, none⟩ t ((w.alloc (.cells #[.pointer (some t)] 86)).alloc (.cells #[.pointer (some ⟨1, 86, none⟩), .pointer (some ⟨w.heap.size, 0, none⟩), .int .u64 150] 148)) (by simp)
  have hlt : 0 < w.heap.size := by
    rcases Nat.eq_zero_or_pos w.heap.size with h0 | h
    · simp [World.cell?, h0] at hg
    · exact h
  have hg2 : ((w.alloc (.cells #[.pointer (some t)] 86)).alloc (.cells #[.pointer (some ⟨1, 86, none⟩), .pointer (some ⟨w.heap.size, 0, none⟩), .int .u64 150] 148)).cell? ⟨0, 0, none⟩ = some (.iface 209 (.agg #[.pointer (some ⟨1, 24, none⟩)])) := by
    rw [World.cell?_alloc_lt _ _ ⟨0, 0, none⟩ (by simp), World.cell?_alloc_lt _ _ ⟨0, 0, none⟩ hlt]; exact hg
  have htl : t.block < w.heap.size := by
    rcases Nat.lt_or_ge t.block w.heap.size with h | h
    · exact h
    · simp [World.cell?, Array.getElem?_eq_none h] at ht0
  have el := Tryz.elemV27 ⟨w.heap.size, 0, none⟩ t (((w.alloc (.cells #[.pointer (some t)] 86)).alloc (.cells #[.pointer (some ⟨1, 86, none⟩), .pointer (some ⟨w.heap.size, 0, none⟩), .int .u64 150] 148)).alloc (.cells #[.pointer (some ⟨1, 86, none⟩), .pointer (some ⟨w.heap.size, 0, none⟩), .int .u64 150] 148)) (by rw [World.cell?_alloc_lt _ _ ⟨w.heap.size, 0, none⟩ (by simp; omega)]; simp)
  have st := Tryz.set25 t ⟨w.heap.size + 1 + 1 + 1, 0, none⟩ e old ((((w.alloc (.cells #[.pointer (some t)] 86)).alloc (.cells #[.pointer (some ⟨1, 86, none⟩), .pointer (some ⟨w.heap.size, 0, none⟩), .int .u64 150] 148)).alloc (.cells #[.pointer (some ⟨1, 86, none⟩), .pointer (some ⟨w.heap.size, 0, none⟩), .int .u64 150] 148)).alloc (.cells #[.pointer (some e)] 84))
    (by rw [World.cell?_alloc_at _ _ _ _ (by simp)]; rfl)
    (by rw [World.cell?_alloc_lt _ _ t (by simp; omega), World.cell?_alloc_lt _ _ t (by simp; omega), World.cell?_alloc_lt _ _ t (by simp; omega), World.cell?_alloc_lt _ _ t htl]; exact ht0)
    (by rw [World.frozen?_alloc_old _ _ t (by simp; omega), World.frozen?_alloc_old _ _ t (by simp; omega), World.frozen?_alloc_old _ _ t (by simp; omega), World.frozen?_alloc_old _ _ t (Nat.ne_of_lt htl)]; exact hf0)
  go_enter Tryz.func42, Tryz.ntmps42
  go_wp2
  refine wp_loop_rounds 1 ?_
  rw [rounds_succ]
  go_wp2
  go_ret
  exact ⟨rfl, rfl⟩
end Go.Proofs.YtholinnmjoelkaaGreatDoor
