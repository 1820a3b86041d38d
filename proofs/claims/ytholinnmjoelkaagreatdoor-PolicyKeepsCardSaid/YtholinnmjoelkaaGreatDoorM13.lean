/- SepK, LruW -/
import Derived.Test.YtholinnmjoelkaaGreatDoorM12
set_option linter.unusedVariables false
set_option linter.unusedSimpArgs false
namespace Go.Proofs.YtholinnmjoelkaaGreatDoor
open Go.RowKit Go.MapKept
end Go.Proofs.YtholinnmjoelkaaGreatDoor
namespace Go.Proofs.YtholinnmjoelkaaGreatDoor
set_option maxHeartbeats 8000000
set_option maxRecDepth 100000
open Go.RowKit Go.MapKept
abbrev lruB (b lb : Nat) (most : Int) : Res := blkR b [iV most, pV lb 0] 162
abbrev lruL (b lb : Nat) (most : Int) (ks : List ByteArray) (n : Nat) : List Res := [lruB b lb most, llR lb ks n]
def lqLen (most : Int) (ks : List ByteArray)  : Int :=
 (ks.length : Int)
theorem lru_Len {b lb n : Nat} {most : Int} {ks : List ByteArray}  (hb : n ≤ 1000000000) : Tri Tryz.prog 47 #[pV b 0] (lruL b lb most ks n) (Same (lruL b lb most ks n) (iV (lqLen most ks))) := by
 refine Tri.en (args := [pV b 0]) Tryz.func47 (fun B wz => ?_)
 refine Cd.s1 (Sq.vl [0] [iV 0] (Sq.d1 (Sq.vl [0, 1, 2] [pV b 0, pV b 0, pV b 1] (Sq.sm [0] (l := [lruB b lb most]) (o_ld (i := 1) (v := pV lb 0)) rfl (Sq.sm [1] (l := [llR lb ks n]) (o_cl Tryz.call128 (t_Len (ks := ks) (n := n))) rfl (Sq.vl [5] [iV (ks.length : Int)] (Sq.d4 (Cd.ret ?_))))))))
 refine Ex'.ret Tryz.results47 (RVs.tm (v := iV (ks.length : Int)) RVs.nil) (fun w hw => ?_)
 have e : lqLen most ks = (ks.length : Int) := by unfold lqLen; rfl
 rw [e]
 exact ⟨_, ⟨rfl, rfl⟩, hw.pk [0, 1]⟩
def lqHas (most : Int) (ks : List ByteArray) (key : ByteArray) : Bool :=
 decide (key ∈ ks)
theorem lru_Has {b lb n : Nat} {most : Int} {ks : List ByteArray} (key : ByteArray) (hb : n ≤ 1000000000) : Tri Tryz.prog 46 #[pV b 0, sV key] (lruL b lb most ks n) (Same (lruL b lb most ks n) (bV (lqHas most ks key))) := by
 refine Tri.en (args := [pV b 0, sV key]) Tryz.func46 (fun B wz => ?_)
 refine Cd.s1 (Sq.vl [0] [bV false] (Sq.d1 (Sq.vl [0, 1, 2] [pV b 0, pV b 0, pV b 1] (Sq.sm [0] (l := [lruB b lb most]) (o_ld (i := 1) (v := pV lb 0)) rfl (Sq.vl [4] [sV key] (Sq.sm [1] (l := [llR lb ks n]) (o_cl Tryz.call127 (t_Has (ks := ks) (n := n) key)) rfl (Sq.vl [6] [bV (decide (key ∈ ks))] ?_)))))))
 refine Sq.d4 (Cd.ret (Ex'.ret Tryz.results46 (RVs.tm (v := bV (decide (key ∈ ks))) RVs.nil) (fun w hw => ?_)))
 have e : lqHas most ks key = decide (key ∈ ks) := by unfold lqHas; rfl
 rw [e]
 exact ⟨_, ⟨rfl, rfl⟩, hw.pk [0, 1]⟩
def lqVictim (most : Int) (ks : List ByteArray)  : ByteArray × Bool :=
 (ks.getLast?.getD ⟨#[]⟩, decide (0 < ks.length))
theorem lru_Victim {b lb n : Nat} {most : Int} {ks : List ByteArray}  (hb : n ≤ 1000000000) : Tri Tryz.prog 51 #[pV b 0] (lruL b lb most ks n) (Same (lruL b lb most ks n) (.tuple #[sV ((lqVictim most ks).1), bV ((lqVictim most ks).2)])) := by
 refine Tri.en (args := [pV b 0]) Tryz.func51 (fun B wz => ?_)
 refine Cd.s1 (Sq.vl [0, 1] [sV ⟨#[]⟩, bV false] (Sq.d1 (Sq.vl [0, 1, 2] [pV b 0, pV b 0, pV b 1] (Sq.sm [0] (l := [lruB b lb most]) (o_ld (i := 1) (v := pV lb 0)) rfl (Sq.sm [1] (l := [llR lb ks n]) (o_cl Tryz.call132 (t_Last (ks := ks) (n := n))) rfl ?_)))))
 refine Sq.vl [5, 6, 7, 8] [sV (ks.getLast?.getD ⟨#[]⟩), bV (decide (0 < ks.length)), sV (ks.getLast?.getD ⟨#[]⟩), bV (decide (0 < ks.length))] ?_
 refine Sq.d4 (Cd.ret ?_)
 refine Ex'.ret Tryz.results51 (RVs.tm (v := sV (ks.getLast?.getD ⟨#[]⟩)) (RVs.tmp (v := bV (decide (0 < ks.length))) (by kernel_rfl) RVs.nil)) (fun w hw => ?_)
 have e : lqVictim most ks = (ks.getLast?.getD ⟨#[]⟩, decide (0 < ks.length)) := by unfold lqVictim; rfl
 rw [e]
 exact ⟨_, ⟨rfl, rfl⟩, hw.pk [0, 1]⟩
def lqDrop (most : Int) (ks : List ByteArray)  : List ByteArray × ByteArray × Bool :=
 (ks.dropLast, ks.getLast?.getD ⟨#[]⟩, decide (0 < ks.length))
def lqRemove (most : Int) (ks : List ByteArray) (key : ByteArray) : List ByteArray × Bool :=
 (rm ks key, decide (key ∈ ks))
def lqKeys (most : Int) (ks : List ByteArray)  : List ByteArray :=
 ks.reverse
theorem lru_Keys {b lb n : Nat} {most : Int} {ks : List ByteArray}  (hb : n ≤ 1000000000) : Tri Tryz.prog 54 #[pV b 0] (lruL b lb most ks n) (PostE (fun _ => True) id fun v => lruL b lb most ks n ++ [rowR 9 1 v (lqKeys most ks).length ((lqKeys most ks).map Value.string)]) := by
 refine Tri.en (args := [pV b 0]) Tryz.func54 (fun B wz => ?_)
 refine Cd.fact (i := 1) rfl llR.le ?_; rintro ⟨hnd, hlen⟩
 refine Cd.s1 (Sq.vl [0] [.slice none 0 0] (Sq.d1 (Sq.vl [0, 1, 2] [pV b 0, pV b 0, pV b 1] (Sq.sm [0] (l := [lruB b lb most]) (o_ld (i := 1) (v := pV lb 0)) rfl ?_))))
 refine Sq.e1 [1] (l := [llR lb ks n]) (o_cl Tryz.call134 (t_Keys (ks := ks) (n := n) (by omega))) rfl ?_; rintro v1 _
 refine Sq.fact (i := 2) (R := rowR 9 1 v1 ks.length (ks.map Value.string)) (by kernel_rfl) row_slice ?_; rintro ⟨a2, c3, rfl, hc3, hc3'⟩
 have hc3'' : c3 ≤ 9223372036854775807 := hc3'
 refine Sq.vl [5] [.slice a2 ks.length c3] (Sq.d1 (Sq.vl [0] [.slice a2 ks.length c3] (Sq.sm [2] (l := [rowR 9 1 (.slice a2 ks.length c3) ks.length (ks.map Value.string)]) (o_cl Tryz.call135 (t_Reverse (ks := ks) (by omega))) rfl (Sq.d1 (Sq.vl [0, 1] [.slice a2 ks.length c3, .slice a2 ks.length c3] (Sq.d4 (Cd.ret (Ex'.ret Tryz.results54 (RVs.tm (v := .slice a2 ks.length c3) RVs.nil) (fun w hw => ?_)))))))))
 have e : lqKeys most ks = ks.reverse := by unfold lqKeys; rfl
 rw [e]
 exact ⟨_, ⟨_, trivial, rfl, rfl⟩, (hw.cv 2 (R := rowR 9 1 (.slice a2 ks.length c3) ks.length (ks.reverse.map Value.string)) (R' := rowR 9 1 (.slice a2 ks.length c3) ks.reverse.length (ks.reverse.map Value.string)) (fun w S h => by rw [List.length_reverse]; exact h)).pk [0, 1, 2]⟩
def lqReq (most : Int) (ks : List ByteArray) (key : ByteArray) : List ByteArray × Bool × ByteArray × Bool :=
 if most = 0 then (ks, decide (key ∈ ks), ⟨#[]⟩, false) else if ¬ (key ∈ ks) then if (ks.length : Int) ≥ most then (fr ks.dropLast key, decide (key ∈ ks), ks.getLast?.getD ⟨#[]⟩, decide (0 < ks.length)) else (fr ks key, decide (key ∈ ks), ⟨#[]⟩, false) else (fr ks key, decide (key ∈ ks), ⟨#[]⟩, false)
theorem lru_Request {b lb n : Nat} {most : Int} {ks : List ByteArray} (key : ByteArray) {n' : Nat} (hb : n ≤ 1000000000) (hn : n + 1 ≤ n') : Tri Tryz.prog 48 #[pV b 0, sV key] (lruL b lb most ks n) (Same (lruL b lb most ((lqReq most ks key).1) n') (.agg #[bV ((lqReq most ks key).2.1), sV ((lqReq most ks key).2.2.1), bV ((lqReq most ks key).2.2.2)])) := by
 refine Tri.en (args := [pV b 0, sV key]) Tryz.func48 (fun B wz => ?_)
 refine Cd.fact (i := 1) rfl llR.le ?_; rintro ⟨hnd, hlen⟩
 refine Cd.s1 ?_
 refine Sq.e0 [] (l := []) (o_new [bV false, sV ⟨#[]⟩, bV false] (fun w => by kernel_rfl)) rfl ?_; intro b3 _
 refine Sq.d1 (Sq.vl [0, 1, 2] [pV b 0, pV b 0, pV b 1] (Sq.sm [0] (l := [lruB b lb most]) (o_ld (i := 1) (v := pV lb 0)) rfl (Sq.vl [4] [sV key] (Sq.sm [1] (l := [llR lb ks n]) (o_cl Tryz.call127 (t_Has (ks := ks) (n := n) key)) rfl (Sq.vl [6] [.agg #[bV (decide (key ∈ ks)), sV ⟨#[]⟩, bV false]] ?_)))))
 refine Sq.e0 [] (l := []) (o_new [bV false, sV ⟨#[]⟩, bV false] (fun w => by kernel_rfl)) rfl ?_; intro b4 _
 refine Sq.sm [3] (l := [blkR b4 [bV false, sV ⟨#[]⟩, bV false] 37]) (o_st (i := 0) (v := .agg #[bV (decide (key ∈ ks)), sV ⟨#[]⟩, bV false])) rfl (Sq.d4 (Cd.seq (Cd.s1 (Sq.vl [0, 1, 2] [pV b 0, pV b 0, pV b 0] (Sq.sm [0] (l := [lruB b lb most]) (o_ld (i := 0) (v := iV most)) rfl (Sq.v (r := bV (decide (most = 0))) (o_eqI (k := .i64) (a := most) (b := 0) (by kernel_rfl) (by kernel_rfl)) rfl (by kernel_rfl) (Sq.d4 ?_)))))))
 refine Cd.case (p := most = 0) (by kernel_rfl) (fun h5 => ?_) (fun h5 => ?_)
 ·
  refine Cd.s1 (Sq.sm [3] (l := [blkR b4 [bV (decide (key ∈ ks)), sV ⟨#[]⟩, bV false] 37]) (o_lN (i := 0) [bV (decide (key ∈ ks)), sV ⟨#[]⟩, bV false]) rfl (Sq.sm [2] (l := [blkR b3 [bV false, sV ⟨#[]⟩, bV false] 37]) (o_st (i := 0) (v := .agg #[bV (decide (key ∈ ks)), sV ⟨#[]⟩, bV false])) rfl (Sq.d4 (Cd.ret (Ex'.thenRet (Ex'.ret Tryz.results48 (RVs.cN (i := 0) (b := b3) (l := [bV (decide (key ∈ ks)), sV ⟨#[]⟩, bV false]) (E := 37) [bV (decide (key ∈ ks)), sV ⟨#[]⟩, bV false] 2 RVs.nil) (fun w hw => ?_)))))))
  have e : lqReq most ks key = (ks, decide (key ∈ ks), ⟨#[]⟩, false) := by unfold lqReq; rw [if_pos h5]
  rw [e]
  exact ⟨_, ⟨rfl, rfl⟩, (hw.cv 1 (R := llR lb ks n) (R' := llR lb ks n') (llR.up (by omega))).pk [0, 1]⟩
 ·
  refine Cd.skip (Ex'.next (Cd.seq (Cd.seq ?_)))
  by_cases h6 : ¬ (key ∈ ks)
  ·
   refine Cd.plan [0, 1, 3, 7, 15, 31, 63, 127, 255, 15, 527, 1551, 3599, 8191, 16383] [(1, [(3, false, 0)]), (7, [(0, false, 0)]), (8, [(1, false, 0)]), (12, [(0, false, 0)])] [] [] [] [fun g => pV b4 0, fun g => bV (decide (key ∈ ks)), fun g => bV true, fun g => bV true, fun g => pV b 0, fun g => pV b 0, fun g => pV b 1, fun g => pV lb 0, fun g => iV (ks.length : Int), fun g => pV b 0, fun g => pV b 0, fun g => pV b 0, fun g => iV most, fun g => bV (decide ((ks.length : Int) ≥ most)), fun g => bV (decide ((ks.length : Int) ≥ most))] (by kernel_rfl) (by kernel_rfl) rfl (trivial) ?_ ?_
   · exact ⟨ob_k, ob_r (l := fun g => [blkR b4 [bV (decide (key ∈ ks)), sV ⟨#[]⟩, bV false] 37]) (l' := fun g => [blkR b4 [bV (decide (key ∈ ks)), sV ⟨#[]⟩, bV false] 37]) (v := fun g => bV (decide (key ∈ ks))) (fun g => o_ld (i := 0) (v := bV (decide (key ∈ ks)))), ob_w (v := fun g => bV true) (fun g => OprV.re (o_not (by kernel_rfl)) (vT h6)), ob_k, ob_k, ob_k, ob_k, ob_r (l := fun g => [lruB b lb most]) (l' := fun g => [lruB b lb most]) (v := fun g => pV lb 0) (fun g => o_ld (i := 1) (v := pV lb 0)), ob_r (l := fun g => [llR lb ks n]) (l' := fun g => [llR lb ks n]) (v := fun g => iV (ks.length : Int)) (fun g => o_cl Tryz.call128 (t_Len (ks := ks) (n := n))), ob_k, ob_k, ob_k, ob_r (l := fun g => [lruB b lb most]) (l' := fun g => [lruB b lb most]) (v := fun g => iV most) (fun g => o_ld (i := 0) (v := iV most)), ob_k, ob_k, trivial⟩
   intro g
   refine Ex'.sub (subB_spec [0, 1, 4, 5, 33]) (Ex'.a1 [0, 1, 2, 3] (σ' := [(0, pV b 0), (1, sV key), (4, pV b3 0), (5, pV b4 0), (33, bV (decide ((ks.length : Int) ≥ most)))]) (Γ' := [lruB b lb most, llR lb ks n, blkR b3 [bV false, sV ⟨#[]⟩, bV false] 37, blkR b4 [bV (decide (key ∈ ks)), sV ⟨#[]⟩, bV false] 37]) (Ex'.next ?_))
   refine Cd.case (p := (ks.length : Int) ≥ most) (by kernel_rfl) (fun h7 => ?_) (fun h7 => ?_)
   ·
    refine Cd.s0 (Sq.vl [0, 1, 2] [pV b 0, pV b 0, pV b 1] (Sq.sm [0] (l := [lruB b lb most]) (o_ld (i := 1) (v := pV lb 0)) rfl (Sq.sm [1] (l := [llR lb ks n]) (o_cl Tryz.call129 (t_Pop (ks := ks) (n := n) (by omega))) rfl ?_)))
    refine Sq.vl [5, 6, 7, 8] [.tuple #[sV (ks.getLast?.getD ⟨#[]⟩), bV (decide (0 < ks.length))], sV (ks.getLast?.getD ⟨#[]⟩), bV (decide (0 < ks.length)), pV b4 1] ?_
    refine Sq.sm [3] (l := [blkR b4 [bV (decide (key ∈ ks)), sV ⟨#[]⟩, bV false] 37]) (o_st (i := 1) (v := sV (ks.getLast?.getD ⟨#[]⟩))) rfl ?_
    refine Sq.vl [10] [pV b4 2] ?_
    refine Sq.sm [3] (l := [blkR b4 [bV (decide (key ∈ ks)), sV (ks.getLast?.getD ⟨#[]⟩), bV false] 37]) (o_st (i := 2) (v := bV (decide (0 < ks.length)))) rfl ?_
    refine Sq.d1 (Sq.vl [0, 1, 2] [pV b 0, pV b 0, pV b 1] (Sq.sm [0] (l := [lruB b lb most]) (o_ld (i := 1) (v := pV lb 0)) rfl (Sq.vl [4] [sV key] (Sq.sm [1] (l := [llR lb ks.dropLast n]) (o_cl Tryz.call130 (t_Front (ks := ks.dropLast) (n := n) key (by omega))) rfl (Sq.d1 ?_)))))
    refine Sq.sm [3] (l := [blkR b4 [bV (decide (key ∈ ks)), sV (ks.getLast?.getD ⟨#[]⟩), bV (decide (0 < ks.length))] 37]) (o_lN (i := 0) [bV (decide (key ∈ ks)), sV (ks.getLast?.getD ⟨#[]⟩), bV (decide (0 < ks.length))]) rfl ?_
    refine Sq.sm [2] (l := [blkR b3 [bV false, sV ⟨#[]⟩, bV false] 37]) (o_st (i := 0) (v := .agg #[bV (decide (key ∈ ks)), sV (ks.getLast?.getD ⟨#[]⟩), bV (decide (0 < ks.length))])) rfl ?_
    refine Sq.d4 (Cd.ret ?_)
    refine Ex'.ret Tryz.results48 (RVs.cN (i := 0) (b := b3) (l := [bV (decide (key ∈ ks)), sV (ks.getLast?.getD ⟨#[]⟩), bV (decide (0 < ks.length))]) (E := 37) [bV (decide (key ∈ ks)), sV (ks.getLast?.getD ⟨#[]⟩), bV (decide (0 < ks.length))] 2 RVs.nil) (fun w hw => ?_)
    have e : lqReq most ks key = (fr ks.dropLast key, decide (key ∈ ks), ks.getLast?.getD ⟨#[]⟩, decide (0 < ks.length)) := by unfold lqReq; rw [if_neg h5, if_pos h6, if_pos h7]
    rw [e]
    exact ⟨_, ⟨rfl, rfl⟩, (hw.cv 1 (R := llR lb (fr ks.dropLast key) (n + 1)) (R' := llR lb (fr ks.dropLast key) n') (llR.up (by omega))).pk [0, 1]⟩
   ·
    refine Cd.skip (Ex'.next (Cd.s1 (Sq.vl [0, 1, 2] [pV b 0, pV b 0, pV b 1] (Sq.sm [0] (l := [lruB b lb most]) (o_ld (i := 1) (v := pV lb 0)) rfl (Sq.vl [4] [sV key] (Sq.sm [1] (l := [llR lb ks n]) (o_cl Tryz.call130 (t_Front (ks := ks) (n := n) key (by omega))) rfl (Sq.d1 (Sq.sm [3] (l := [blkR b4 [bV (decide (key ∈ ks)), sV ⟨#[]⟩, bV false] 37]) (o_lN (i := 0) [bV (decide (key ∈ ks)), sV ⟨#[]⟩, bV false]) rfl (Sq.sm [2] (l := [blkR b3 [bV false, sV ⟨#[]⟩, bV false] 37]) (o_st (i := 0) (v := .agg #[bV (decide (key ∈ ks)), sV ⟨#[]⟩, bV false])) rfl ?_)))))))))
    refine Sq.d4 (Cd.ret (Ex'.ret Tryz.results48 (RVs.cN (i := 0) (b := b3) (l := [bV (decide (key ∈ ks)), sV ⟨#[]⟩, bV false]) (E := 37) [bV (decide (key ∈ ks)), sV ⟨#[]⟩, bV false] 2 RVs.nil) (fun w hw => ?_)))
    have e : lqReq most ks key = (fr ks key, decide (key ∈ ks), ⟨#[]⟩, false) := by unfold lqReq; rw [if_neg h5, if_pos h6, if_neg h7]
    rw [e]
    exact ⟨_, ⟨rfl, rfl⟩, (hw.cv 1 (R := llR lb (fr ks key) (n + 1)) (R' := llR lb (fr ks key) n') (llR.up (by omega))).pk [0, 1]⟩
  ·
   refine Cd.plan [0, 1, 3, 7, 15, 31, 63, 127, 255, 15, 527, 1551, 3599, 8191, 16383] [(1, [(3, false, 0)])] [] [] [] [fun g => pV b4 0, fun g => bV (decide (key ∈ ks)), fun g => bV false, fun g => bV false, fun g => undef, fun g => undef, fun g => undef, fun g => undef, fun g => undef, fun g => undef, fun g => undef, fun g => undef, fun g => undef, fun g => undef, fun g => bV false] (by kernel_rfl) (by kernel_rfl) rfl (trivial) ?_ ?_
   · exact ⟨ob_k, ob_r (l := fun g => [blkR b4 [bV (decide (key ∈ ks)), sV ⟨#[]⟩, bV false] 37]) (l' := fun g => [blkR b4 [bV (decide (key ∈ ks)), sV ⟨#[]⟩, bV false] 37]) (v := fun g => bV (decide (key ∈ ks))) (fun g => o_ld (i := 0) (v := bV (decide (key ∈ ks)))), ob_w (v := fun g => bV false) (fun g => OprV.re (o_not (by kernel_rfl)) (vF h6)), ob_k, ob_k, ob_k, ob_k, ob_k, ob_k, ob_k, ob_k, ob_k, ob_k, ob_k, ob_k, trivial⟩
   intro g
   refine Ex'.sub (subB_spec [0, 1, 4, 5, 33]) (Ex'.a1 [0, 1, 2, 3] (σ' := [(0, pV b 0), (1, sV key), (4, pV b3 0), (5, pV b4 0), (33, bV false)]) (Γ' := [lruB b lb most, llR lb ks n, blkR b3 [bV false, sV ⟨#[]⟩, bV false] 37, blkR b4 [bV (decide (key ∈ ks)), sV ⟨#[]⟩, bV false] 37]) (Ex'.next (Cd.cF (Cd.skip (Ex'.next (Cd.s1 (Sq.vl [0, 1, 2] [pV b 0, pV b 0, pV b 1] (Sq.sm [0] (l := [lruB b lb most]) (o_ld (i := 1) (v := pV lb 0)) rfl (Sq.vl [4] [sV key] ?_)))))))))
   refine Sq.sm [1] (l := [llR lb ks n]) (o_cl Tryz.call130 (t_Front (ks := ks) (n := n) key (by omega))) rfl (Sq.d1 (Sq.sm [3] (l := [blkR b4 [bV (decide (key ∈ ks)), sV ⟨#[]⟩, bV false] 37]) (o_lN (i := 0) [bV (decide (key ∈ ks)), sV ⟨#[]⟩, bV false]) rfl (Sq.sm [2] (l := [blkR b3 [bV false, sV ⟨#[]⟩, bV false] 37]) (o_st (i := 0) (v := .agg #[bV (decide (key ∈ ks)), sV ⟨#[]⟩, bV false])) rfl (Sq.d4 (Cd.ret (Ex'.ret Tryz.results48 (RVs.cN (i := 0) (b := b3) (l := [bV (decide (key ∈ ks)), sV ⟨#[]⟩, bV false]) (E := 37) [bV (decide (key ∈ ks)), sV ⟨#[]⟩, bV false] 2 RVs.nil) (fun w hw => ?_)))))))
   have e : lqReq most ks key = (fr ks key, decide (key ∈ ks), ⟨#[]⟩, false) := by unfold lqReq; rw [if_neg h5, if_neg h6]
   rw [e]
   exact ⟨_, ⟨rfl, rfl⟩, (hw.cv 1 (R := llR lb (fr ks key) (n + 1)) (R' := llR lb (fr ks key) n') (llR.up (by omega))).pk [0, 1]⟩
def lqRszL (M : Int) : Nat → List ByteArray → List ByteArray × List ByteArray
 | 0, ks => (ks, [])
 | k + 1, ks => if (ks.length : Int) > M then ((lqRszL M k ks.dropLast).1, ks.getLast?.getD ⟨#[]⟩ :: (lqRszL M k ks.dropLast).2) else (ks, [])
structure LqZ (M : Int) (ks ks2 rw : List ByteArray) : Prop where
 e : lqRszL M ks.length ks = ((lqRszL M ks2.length ks2).1, rw ++ (lqRszL M ks2.length ks2).2)
 tot : rw.length + ks2.length = ks.length
theorem LqZ.new {M : Int} {ks : List ByteArray} : LqZ M ks ks [] := ⟨rfl, by simp⟩
theorem LqZ.step {M : Int} {ks ks2 rw : List ByteArray} (h : LqZ M ks ks2 rw) (hM : 0 ≤ M) (hc : (ks2.length : Int) > M) : LqZ M ks ks2.dropLast (rw ++ [ks2.getLast?.getD ⟨#[]⟩]) := by
 obtain ⟨h1, h2⟩ := h
 obtain ⟨k, e⟩ : ∃ k, ks2.length = k + 1 := ⟨ks2.length - 1, by omega⟩
 refine ⟨?_, by simp only [List.length_append, List.length_singleton, List.length_dropLast]; omega⟩
 rw [h1, e, lqRszL, if_pos hc, show ks2.dropLast.length = k by rw [List.length_dropLast]; omega]
 simp
def lqNew (most0 : Int) : Int × List ByteArray :=
 if (0 : Int) > most0 then (0, []) else (most0, [])
theorem lru_New (most0 : Int) (hmost0 : -9223372036854775808 ≤ most0 ∧ most0 ≤ 9223372036854775807) : Tri Tryz.prog 45 #[iV most0] [] (PostE (ι := Nat × Nat) (fun _ => True) (fun x => pV x.1 0) fun x => lruL x.1 x.2 ((lqNew most0).1) ((lqNew most0).2) 0) := by
 refine Tri.en (args := [iV most0]) Tryz.func45 (fun B wz => ?_)
 refine Cd.s1 (Sq.vl [0] [.pointer none] (Sq.d1 (Sq.vl [0] [iV most0] ?_)))
 by_cases h1 : (0 : Int) > most0
 ·
  refine Sq.v (r := iV (if (0 : Int) > most0 then 0 else most0)) (pureV (by kernel_rfl) rfl fun w => by kernel_rfl) rfl (by kernel_rfl) (Sq.re 4 rfl (by rw [if_pos h1]) ?_)
  refine Sq.e1 [] (l := []) (o_cl Tryz.call126 (t_New)) rfl ?_; rintro b3 _
  refine Sq.vl [3] [.agg #[iV 0, pV b3 0]] ?_
  refine Sq.e0 [] (l := []) (o_newBox (v := .agg #[iV 0, pV b3 0]) [iV 0, pV b3 0] (by kernel_rfl) rfl) rfl ?_; intro b4 _
  refine Sq.vl [5] [pV b4 0] (Sq.d4 (Cd.ret (Ex'.ret Tryz.results45 (RVs.tm (v := pV b4 0) RVs.nil) (fun w hw => ?_))))
  have e : lqNew most0 = (0, []) := by unfold lqNew; rw [if_pos h1]
  rw [e]
  exact ⟨_, ⟨(b4, b3), trivial, rfl, rfl⟩, hw.pk [1, 0]⟩
 ·
  refine Sq.v (r := iV (if (0 : Int) > most0 then 0 else most0)) (pureV (by kernel_rfl) rfl fun w => by kernel_rfl) rfl (by kernel_rfl) (Sq.re 4 rfl (by rw [if_neg h1]) ?_)
  refine Sq.e1 [] (l := []) (o_cl Tryz.call126 (t_New)) rfl ?_; rintro b5 _
  refine Sq.vl [3] [.agg #[iV most0, pV b5 0]] ?_
  refine Sq.e0 [] (l := []) (o_newBox (v := .agg #[iV most0, pV b5 0]) [iV most0, pV b5 0] (by kernel_rfl) rfl) rfl ?_; intro b6 _
  refine Sq.vl [5] [pV b6 0] (Sq.d4 (Cd.ret (Ex'.ret Tryz.results45 (RVs.tm (v := pV b6 0) RVs.nil) (fun w hw => ?_))))
  have e : lqNew most0 = (most0, []) := by unfold lqNew; rw [if_neg h1]
  rw [e]
  exact ⟨_, ⟨(b6, b5), trivial, rfl, rfl⟩, hw.pk [1, 0]⟩
end Go.Proofs.YtholinnmjoelkaaGreatDoor
