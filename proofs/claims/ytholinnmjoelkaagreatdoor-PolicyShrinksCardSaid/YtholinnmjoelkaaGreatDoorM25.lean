/- PolW, LruQ -/
import Derived.Test.YtholinnmjoelkaaGreatDoorM12
import Derived.Test.YtholinnmjoelkaaGreatDoorM17
import Derived.Test.YtholinnmjoelkaaGreatDoorM24
set_option linter.unusedVariables false
set_option linter.unusedSimpArgs false
namespace Go.Proofs.YtholinnmjoelkaaGreatDoor
set_option maxHeartbeats 8000000
set_option maxRecDepth 100000
open Go.RowKit Go.MapKept
abbrev polBLru (p b : Nat) (most : Int) : Res := blkR p [iV 0, iV most, .func (.func 46) #[pV b 0] #[], .func (.func 47) #[pV b 0] #[], .func (.func 48) #[pV b 0] #[], .func (.func 49) #[pV b 0] #[], .func (.func 50) #[pV b 0] #[], .func (.func 51) #[pV b 0] #[], .func (.func 52) #[pV b 0] #[], .func (.func 53) #[pV b 0] #[], .func (.func 54) #[pV b 0] #[], .func (.func 55) #[pV b 0] #[]] 93
abbrev polBLfu (p b : Nat) (kind : Int) (most : Int) : Res := blkR p [iV kind, iV most, .func (.func 57) #[pV b 0] #[], .func (.func 58) #[pV b 0] #[], .func (.func 59) #[pV b 0] #[], .func (.func 60) #[pV b 0] #[], .func (.func 61) #[pV b 0] #[], .func (.func 62) #[pV b 0] #[], .func (.func 63) #[pV b 0] #[], .func (.func 64) #[pV b 0] #[], .func (.func 65) #[pV b 0] #[], .func (.func 66) #[pV b 0] #[]] 93
abbrev polBSrl (p b : Nat) (most : Int) : Res := blkR p [iV 3, iV most, .func (.func 68) #[pV b 0] #[], .func (.func 69) #[pV b 0] #[], .func (.func 70) #[pV b 0] #[], .func (.func 71) #[pV b 0] #[], .func (.func 72) #[pV b 0] #[], .func (.func 73) #[pV b 0] #[], .func (.func 74) #[pV b 0] #[], .func (.func 75) #[pV b 0] #[], .func (.func 76) #[pV b 0] #[], .func (.func 77) #[pV b 0] #[]] 93
abbrev polBArc (p b : Nat) (most : Int) : Res := blkR p [iV 4, iV most, .func (.func 79) #[pV b 0] #[], .func (.func 80) #[pV b 0] #[], .func (.func 81) #[pV b 0] #[], .func (.func 82) #[pV b 0] #[], .func (.func 83) #[pV b 0] #[], .func (.func 84) #[pV b 0] #[], .func (.func 85) #[pV b 0] #[], .func (.func 86) #[pV b 0] #[], .func (.func 87) #[pV b 0] #[], .func (.func 88) #[pV b 0] #[]] 93
theorem t_right {m : Int}  : Tri Tryz.prog 44 #[iV m] [] (Same [] (bV (decide (0 ≤ m ∧ m ≤ 16777216)))) := by
 refine Tri.en (args := [iV m]) Tryz.func44 (fun B wz => ?_)
 refine Cd.s1 (Sq.vl [0] [bV false] (Sq.d1 (Sq.vl [0, 1, 2] [iV m, bV (decide (m ≥ 0)), bV (decide (m ≥ 0))] ?_)))
 refine Sq.case 5 (p := m ≥ 0) rfl (fun h1 => ?_) (fun h1 => ?_)
 ·
  refine Sq.vl [3, 4, 5, 6] [iV m, bV (decide (m ≤ 16777216)), bV (decide (m ≤ 16777216)), bV (decide (m ≤ 16777216))] (Sq.d4 (Cd.ret (Ex'.ret Tryz.results44 (RVs.tm (v := bV (decide (m ≤ 16777216))) RVs.nil) (fun w hw => ?_))))
  exact ⟨_, ⟨congrArg Value.bool (by rw [decide_eq_decide]; omega), rfl⟩, hw.pk []⟩
 ·
  refine Sq.vl [3, 4, 5, 6] [undef, undef, bV false, bV false] (Sq.d4 (Cd.ret (Ex'.ret Tryz.results44 (RVs.tm (v := bV false) RVs.nil) (fun w hw => ?_))))
  exact ⟨_, ⟨(vF (p := 0 ≤ m ∧ m ≤ 16777216) (by omega)).symm, rfl⟩, hw.pk []⟩
theorem pol_Has_lru {q b lb j n : Nat} {most : Int} {ks : List ByteArray} (key : ByteArray) (hb : n + j + 10 ≤ 1000000000) (hj : ks.length ≤ j) : Tri Tryz.prog 19 #[pV q 0, sV key] [polBLru q b most, lruB b lb most, llR lb ks n] (Same ([polBLru q b most] ++ lruL b lb most ks n) (bV (lqHas most ks key))) := by
 refine Tri.en (args := [pV q 0, sV key]) Tryz.func19 (fun B wz => ?_)
 refine Cd.s1 (Sq.vl [0] [bV false] (Sq.d1 (Sq.vl [0, 1, 2] [pV q 0, pV q 0, pV q 2] (Sq.sm [0] (l := [polBLru q b most]) (o_ld (i := 2) (v := .func (.func 46) #[pV b 0] #[])) rfl (Sq.vl [4] [sV key] (Sq.sm [1, 2] (l := lruL b lb most ks n) (o_calld (first := [pV b 0]) (captured := []) (args := [sV key]) (by kernel_rfl) (by kernel_rfl) rfl Tryz.call46 (lru_Has (n := n) (most := most) (ks := ks) key (by omega))) rfl (Sq.vl [6] [bV (lqHas most ks key)] ?_)))))))
 refine Sq.d4 (Cd.ret (Ex'.ret Tryz.results19 (RVs.tm (v := bV (lqHas most ks key)) RVs.nil) (fun w hw => ?_)))
 exact ⟨_, ⟨rfl, rfl⟩, hw.pk [0, 1, 2]⟩
theorem pol_Has_lfu {q b qb j n : Nat} {most now : Int} {churn : Bool} {S : List (KR ByteArray)} (key : ByteArray) (hb : n + j + 10 ≤ 1000000000) (hw0 : 0 ≤ now ∧ now ≤ 1000000000) (ht : TmB 1000000000 S) (hj : S.length ≤ j) : Tri Tryz.prog 19 #[pV q 0, sV key] [polBLfu q b (if churn = true then 2 else 1) most, lfuB b qb most now churn, hpS qb S n] (Same ([polBLfu q b (if churn = true then 2 else 1) most] ++ lfuL b qb most now churn S n) (bV (lfuHas most now churn S key))) := by
 refine Tri.en (args := [pV q 0, sV key]) Tryz.func19 (fun B wz => ?_)
 refine Cd.s1 (Sq.vl [0] [bV false] (Sq.d1 (Sq.vl [0, 1, 2] [pV q 0, pV q 0, pV q 2] (Sq.sm [0] (l := [polBLfu q b (if churn = true then 2 else 1) most]) (o_ld (i := 2) (v := .func (.func 57) #[pV b 0] #[])) rfl (Sq.vl [4] [sV key] (Sq.sm [1, 2] (l := lfuL b qb most now churn S n) (o_calld (first := [pV b 0]) (captured := []) (args := [sV key]) (by kernel_rfl) (by kernel_rfl) rfl Tryz.call57 (lfu_Has (n := n) (most := most) (now := now) (churn := churn) (S := S) key (by omega))) rfl (Sq.vl [6] [bV (lfuHas most now churn S key)] ?_)))))))
 refine Sq.d4 (Cd.ret (Ex'.ret Tryz.results19 (RVs.tm (v := bV (lfuHas most now churn S key)) RVs.nil) (fun w hw => ?_)))
 exact ⟨_, ⟨rfl, rfl⟩, hw.pk [0, 1, 2]⟩
theorem pol_Has_srl {q b nb ab gb mb j n : Nat} {most target : Int} {ns cs gs : List ByteArray} {ms : List (ByteArray × (Bool × Bool))} (key : ByteArray) (hb : n + j + 10 ≤ 1000000000) (h0 : 0 ≤ most) (ht : 0 ≤ target ∧ target ≤ 4611686018427387904) (hj : cs.length + ns.length ≤ j) : Tri Tryz.prog 19 #[pV q 0, sV key] [polBSrl q b most, srlB b nb ab gb mb most target, llR nb ns n, llR ab cs n, llR gb gs n, mapR Value.string markV mb ms] (Same ([polBSrl q b most] ++ srlL b nb ab gb mb most target ns cs gs ms n) (bV (srlHas most target ns cs gs ms key))) := by
 refine Tri.en (args := [pV q 0, sV key]) Tryz.func19 (fun B wz => ?_)
 refine Cd.s1 (Sq.vl [0] [bV false] (Sq.d1 (Sq.vl [0, 1, 2] [pV q 0, pV q 0, pV q 2] (Sq.sm [0] (l := [polBSrl q b most]) (o_ld (i := 2) (v := .func (.func 68) #[pV b 0] #[])) rfl (Sq.vl [4] [sV key] (Sq.sm [1, 2, 3, 4, 5] (l := srlL b nb ab gb mb most target ns cs gs ms n) (o_calld (first := [pV b 0]) (captured := []) (args := [sV key]) (by kernel_rfl) (by kernel_rfl) rfl Tryz.call68 (srl_Has (n := n) (most := most) (target := target) (ns := ns) (cs := cs) (gs := gs) (ms := ms) key (by omega))) rfl (Sq.vl [6] [bV (srlHas most target ns cs gs ms key)] ?_)))))))
 refine Sq.d4 (Cd.ret (Ex'.ret Tryz.results19 (RVs.tm (v := bV (srlHas most target ns cs gs ms key)) RVs.nil) (fun w hw => ?_)))
 exact ⟨_, ⟨rfl, rfl⟩, hw.pk [0, 1, 2, 3, 4, 5]⟩
theorem pol_Has_arc {q b lt1 lt2 lb1 lb2 j n : Nat} {most p : Int} {t1 t2 b1 b2 : List ByteArray} (key : ByteArray) (hb : n + j + 10 ≤ 1000000000) (h0 : 0 ≤ most ∧ most ≤ 4611686018427387904) (hp : 0 ≤ p ∧ p ≤ most) (hj : t1.length + t2.length ≤ j) : Tri Tryz.prog 19 #[pV q 0, sV key] [polBArc q b most, arcB b lt1 lt2 lb1 lb2 most p, llR lt1 t1 n, llR lt2 t2 n, llR lb1 b1 n, llR lb2 b2 n] (Same ([polBArc q b most] ++ arcL b lt1 lt2 lb1 lb2 most p t1 t2 b1 b2 n) (bV (arcHas most p t1 t2 b1 b2 key))) := by
 refine Tri.en (args := [pV q 0, sV key]) Tryz.func19 (fun B wz => ?_)
 refine Cd.s1 (Sq.vl [0] [bV false] (Sq.d1 (Sq.vl [0, 1, 2] [pV q 0, pV q 0, pV q 2] (Sq.sm [0] (l := [polBArc q b most]) (o_ld (i := 2) (v := .func (.func 79) #[pV b 0] #[])) rfl (Sq.vl [4] [sV key] (Sq.sm [1, 2, 3, 4, 5] (l := arcL b lt1 lt2 lb1 lb2 most p t1 t2 b1 b2 n) (o_calld (first := [pV b 0]) (captured := []) (args := [sV key]) (by kernel_rfl) (by kernel_rfl) rfl Tryz.call79 (arc_Has (n := n) (most := most) (p := p) (t1 := t1) (t2 := t2) (b1 := b1) (b2 := b2) key (by omega))) rfl (Sq.vl [6] [bV (arcHas most p t1 t2 b1 b2 key)] ?_)))))))
 refine Sq.d4 (Cd.ret (Ex'.ret Tryz.results19 (RVs.tm (v := bV (arcHas most p t1 t2 b1 b2 key)) RVs.nil) (fun w hw => ?_)))
 exact ⟨_, ⟨rfl, rfl⟩, hw.pk [0, 1, 2, 3, 4, 5]⟩
theorem pol_Len_lru {q b lb j n : Nat} {most : Int} {ks : List ByteArray}  (hb : n + j + 10 ≤ 1000000000) (hj : ks.length ≤ j) : Tri Tryz.prog 20 #[pV q 0] [polBLru q b most, lruB b lb most, llR lb ks n] (Same ([polBLru q b most] ++ lruL b lb most ks n) (iV (lqLen most ks))) := by
 refine Tri.en (args := [pV q 0]) Tryz.func20 (fun B wz => ?_)
 refine Cd.s1 (Sq.vl [0] [iV 0] (Sq.d1 (Sq.vl [0, 1, 2] [pV q 0, pV q 0, pV q 3] (Sq.sm [0] (l := [polBLru q b most]) (o_ld (i := 3) (v := .func (.func 47) #[pV b 0] #[])) rfl (Sq.sm [1, 2] (l := lruL b lb most ks n) (o_calld (first := [pV b 0]) (captured := []) (args := []) (by kernel_rfl) (by kernel_rfl) rfl Tryz.call47 (lru_Len (n := n) (most := most) (ks := ks) (by omega))) rfl (Sq.vl [5] [iV (lqLen most ks)] (Sq.d4 (Cd.ret ?_))))))))
 refine Ex'.ret Tryz.results20 (RVs.tm (v := iV (lqLen most ks)) RVs.nil) (fun w hw => ?_)
 exact ⟨_, ⟨rfl, rfl⟩, hw.pk [0, 1, 2]⟩
theorem pol_Len_lfu {q b qb j n : Nat} {most now : Int} {churn : Bool} {S : List (KR ByteArray)}  (hb : n + j + 10 ≤ 1000000000) (hw0 : 0 ≤ now ∧ now ≤ 1000000000) (ht : TmB 1000000000 S) (hj : S.length ≤ j) : Tri Tryz.prog 20 #[pV q 0] [polBLfu q b (if churn = true then 2 else 1) most, lfuB b qb most now churn, hpS qb S n] (Same ([polBLfu q b (if churn = true then 2 else 1) most] ++ lfuL b qb most now churn S n) (iV (S.length : Int))) := by
 refine Tri.en (args := [pV q 0]) Tryz.func20 (fun B wz => ?_)
 refine Cd.s1 (Sq.vl [0] [iV 0] (Sq.d1 (Sq.vl [0, 1, 2] [pV q 0, pV q 0, pV q 3] (Sq.sm [0] (l := [polBLfu q b (if churn = true then 2 else 1) most]) (o_ld (i := 3) (v := .func (.func 58) #[pV b 0] #[])) rfl (Sq.sm [1, 2] (l := lfuL b qb most now churn S n) (o_calld (first := [pV b 0]) (captured := []) (args := []) (by kernel_rfl) (by kernel_rfl) rfl Tryz.call58 (Tri.eq (l2 := lfuL b qb most now churn S n) (r' := iV (S.length : Int)) (lfu_Len (n := n) (most := most) (now := now) (churn := churn) (S := S) (by omega)) (rfl) (rfl))) rfl (Sq.vl [5] [iV (S.length : Int)] (Sq.d4 (Cd.ret ?_))))))))
 refine Ex'.ret Tryz.results20 (RVs.tm (v := iV (S.length : Int)) RVs.nil) (fun w hw => ?_)
 exact ⟨_, ⟨rfl, rfl⟩, hw.pk [0, 1, 2]⟩
theorem pol_Len_srl {q b nb ab gb mb j n : Nat} {most target : Int} {ns cs gs : List ByteArray} {ms : List (ByteArray × (Bool × Bool))}  (hb : n + j + 10 ≤ 1000000000) (h0 : 0 ≤ most) (ht : 0 ≤ target ∧ target ≤ 4611686018427387904) (hj : cs.length + ns.length ≤ j) : Tri Tryz.prog 20 #[pV q 0] [polBSrl q b most, srlB b nb ab gb mb most target, llR nb ns n, llR ab cs n, llR gb gs n, mapR Value.string markV mb ms] (Same ([polBSrl q b most] ++ srlL b nb ab gb mb most target ns cs gs ms n) (iV (srlLen most target ns cs gs ms))) := by
 refine Tri.en (args := [pV q 0]) Tryz.func20 (fun B wz => ?_)
 refine Cd.s1 (Sq.vl [0] [iV 0] (Sq.d1 (Sq.vl [0, 1, 2] [pV q 0, pV q 0, pV q 3] (Sq.sm [0] (l := [polBSrl q b most]) (o_ld (i := 3) (v := .func (.func 69) #[pV b 0] #[])) rfl (Sq.sm [1, 2, 3, 4, 5] (l := srlL b nb ab gb mb most target ns cs gs ms n) (o_calld (first := [pV b 0]) (captured := []) (args := []) (by kernel_rfl) (by kernel_rfl) rfl Tryz.call69 (srl_Len (n := n) (most := most) (target := target) (ns := ns) (cs := cs) (gs := gs) (ms := ms) (by omega))) rfl (Sq.vl [5] [iV (srlLen most target ns cs gs ms)] (Sq.d4 (Cd.ret ?_))))))))
 refine Ex'.ret Tryz.results20 (RVs.tm (v := iV (srlLen most target ns cs gs ms)) RVs.nil) (fun w hw => ?_)
 exact ⟨_, ⟨rfl, rfl⟩, hw.pk [0, 1, 2, 3, 4, 5]⟩
theorem pol_Len_arc {q b lt1 lt2 lb1 lb2 j n : Nat} {most p : Int} {t1 t2 b1 b2 : List ByteArray}  (hb : n + j + 10 ≤ 1000000000) (h0 : 0 ≤ most ∧ most ≤ 4611686018427387904) (hp : 0 ≤ p ∧ p ≤ most) (hj : t1.length + t2.length ≤ j) : Tri Tryz.prog 20 #[pV q 0] [polBArc q b most, arcB b lt1 lt2 lb1 lb2 most p, llR lt1 t1 n, llR lt2 t2 n, llR lb1 b1 n, llR lb2 b2 n] (Same ([polBArc q b most] ++ arcL b lt1 lt2 lb1 lb2 most p t1 t2 b1 b2 n) (iV (arcLen most p t1 t2 b1 b2))) := by
 refine Tri.en (args := [pV q 0]) Tryz.func20 (fun B wz => ?_)
 refine Cd.s1 (Sq.vl [0] [iV 0] (Sq.d1 (Sq.vl [0, 1, 2] [pV q 0, pV q 0, pV q 3] (Sq.sm [0] (l := [polBArc q b most]) (o_ld (i := 3) (v := .func (.func 80) #[pV b 0] #[])) rfl (Sq.sm [1, 2, 3, 4, 5] (l := arcL b lt1 lt2 lb1 lb2 most p t1 t2 b1 b2 n) (o_calld (first := [pV b 0]) (captured := []) (args := []) (by kernel_rfl) (by kernel_rfl) rfl Tryz.call80 (arc_Len (n := n) (most := most) (p := p) (t1 := t1) (t2 := t2) (b1 := b1) (b2 := b2) (by omega))) rfl (Sq.vl [5] [iV (arcLen most p t1 t2 b1 b2)] (Sq.d4 (Cd.ret ?_))))))))
 refine Ex'.ret Tryz.results20 (RVs.tm (v := iV (arcLen most p t1 t2 b1 b2)) RVs.nil) (fun w hw => ?_)
 exact ⟨_, ⟨rfl, rfl⟩, hw.pk [0, 1, 2, 3, 4, 5]⟩
theorem pol_Request_lru {q b lb j n' n : Nat} {most : Int} {ks : List ByteArray} (key : ByteArray) (hb : n + j + 10 ≤ 1000000000) (hn : n + j + 5 ≤ n') (hj : ks.length ≤ j) : Tri Tryz.prog 17 #[pV q 0, sV key] [polBLru q b most, lruB b lb most, llR lb ks n] (Same ([polBLru q b most] ++ lruL b lb most ((lqReq most ks key).1) n') (.agg #[bV ((lqReq most ks key).2.1), sV ((lqReq most ks key).2.2.1), bV ((lqReq most ks key).2.2.2)])) := by
 refine Tri.en (args := [pV q 0, sV key]) Tryz.func17 (fun B wz => ?_)
 refine Cd.s1 ?_
 refine Sq.e0 [] (l := []) (o_new [bV false, sV ⟨#[]⟩, bV false] (fun w => by kernel_rfl)) rfl ?_; intro b3 _
 refine Sq.d1 (Sq.vl [0, 1, 2] [pV q 0, pV q 0, pV q 4] (Sq.sm [0] (l := [polBLru q b most]) (o_ld (i := 4) (v := .func (.func 48) #[pV b 0] #[])) rfl (Sq.vl [4] [sV key] (Sq.sm [1, 2] (l := lruL b lb most ks n) (o_calld (first := [pV b 0]) (captured := []) (args := [sV key]) (by kernel_rfl) (by kernel_rfl) rfl Tryz.call48 (lru_Request (n := n) (n' := n + 1) (most := most) (ks := ks) key (by omega) (by omega))) rfl (Sq.sm [3] (l := [blkR b3 [bV false, sV ⟨#[]⟩, bV false] 37]) (o_st (i := 0) (v := .agg #[bV ((lqReq most ks key).2.1), sV ((lqReq most ks key).2.2.1), bV ((lqReq most ks key).2.2.2)])) rfl (Sq.d4 (Cd.ret (Ex'.ret Tryz.results17 (RVs.cN (i := 0) (b := b3) (l := [bV ((lqReq most ks key).2.1), sV ((lqReq most ks key).2.2.1), bV ((lqReq most ks key).2.2.2)]) (E := 37) [bV ((lqReq most ks key).2.1), sV ((lqReq most ks key).2.2.1), bV ((lqReq most ks key).2.2.2)] 3 RVs.nil) (fun w hw => ?_)))))))))
 exact ⟨_, ⟨rfl, rfl⟩, (hw.cv 2 (R := llR lb ((lqReq most ks key).1) (n + 1)) (R' := llR lb ((lqReq most ks key).1) n') (llR.up (by omega))).pk [0, 1, 2]⟩
theorem pol_Request_lfu {q b qb j n' n : Nat} {most now : Int} {churn : Bool} {S : List (KR ByteArray)} (key : ByteArray) (hb : n + j + 10 ≤ 1000000000) (hn : n + j + 5 ≤ n') (hw0 : 0 ≤ now ∧ now ≤ 1000000000) (ht : TmB 1000000000 S) (hj : S.length ≤ j) : Tri Tryz.prog 17 #[pV q 0, sV key] [polBLfu q b (if churn = true then 2 else 1) most, lfuB b qb most now churn, hpS qb S n] (Same ([polBLfu q b (if churn = true then 2 else 1) most] ++ lfuL b qb most ((lfuReq most now churn S key).1) churn ((lfuReq most now churn S key).2.1) n') (.agg #[bV ((lfuReq most now churn S key).2.2.1), sV ((lfuReq most now churn S key).2.2.2.1), bV ((lfuReq most now churn S key).2.2.2.2)])) := by
 refine Tri.en (args := [pV q 0, sV key]) Tryz.func17 (fun B wz => ?_)
 refine Cd.s1 ?_
 refine Sq.e0 [] (l := []) (o_new [bV false, sV ⟨#[]⟩, bV false] (fun w => by kernel_rfl)) rfl ?_; intro b3 _
 refine Sq.d1 (Sq.vl [0, 1, 2] [pV q 0, pV q 0, pV q 4] (Sq.sm [0] (l := [polBLfu q b (if churn = true then 2 else 1) most]) (o_ld (i := 4) (v := .func (.func 59) #[pV b 0] #[])) rfl (Sq.vl [4] [sV key] ?_)))
 refine Sq.sm [1, 2] (l := lfuL b qb most now churn S n) (o_calld (first := [pV b 0]) (captured := []) (args := [sV key]) (by kernel_rfl) (by kernel_rfl) rfl Tryz.call59 (lfu_Request (n := n) (n' := n + 1) (most := most) (now := now) (churn := churn) (S := S) key (by omega) (by omega) (by omega) (by first | assumption | (unfold TmB; decide)))) rfl ?_
 refine Sq.sm [3] (l := [blkR b3 [bV false, sV ⟨#[]⟩, bV false] 37]) (o_st (i := 0) (v := .agg #[bV ((lfuReq most now churn S key).2.2.1), sV ((lfuReq most now churn S key).2.2.2.1), bV ((lfuReq most now churn S key).2.2.2.2)])) rfl (Sq.d4 (Cd.ret (Ex'.ret Tryz.results17 (RVs.cN (i := 0) (b := b3) (l := [bV ((lfuReq most now churn S key).2.2.1), sV ((lfuReq most now churn S key).2.2.2.1), bV ((lfuReq most now churn S key).2.2.2.2)]) (E := 37) [bV ((lfuReq most now churn S key).2.2.1), sV ((lfuReq most now churn S key).2.2.2.1), bV ((lfuReq most now churn S key).2.2.2.2)] 3 RVs.nil) (fun w hw => ?_))))
 exact ⟨_, ⟨rfl, rfl⟩, (hw.cv 2 (R := hpS qb ((lfuReq most now churn S key).2.1) (n + 1)) (R' := hpS qb ((lfuReq most now churn S key).2.1) n') (hpS.up (by omega))).pk [0, 1, 2]⟩
theorem pol_Request_srl {q b nb ab gb mb j n' n : Nat} {most target : Int} {ns cs gs : List ByteArray} {ms : List (ByteArray × (Bool × Bool))} (key : ByteArray) (hb : n + j + 10 ≤ 1000000000) (hn : n + j + 5 ≤ n') (h0 : 0 ≤ most) (ht : 0 ≤ target ∧ target ≤ 4611686018427387904) (hj : cs.length + ns.length ≤ j) : Tri Tryz.prog 17 #[pV q 0, sV key] [polBSrl q b most, srlB b nb ab gb mb most target, llR nb ns n, llR ab cs n, llR gb gs n, mapR Value.string markV mb ms] (Same ([polBSrl q b most] ++ srlL b nb ab gb mb most ((srlReq most target ns cs gs ms key).1) ((srlReq most target ns cs gs ms key).2.1) ((srlReq most target ns cs gs ms key).2.2.1) ((srlReq most target ns cs gs ms key).2.2.2.1) ((srlReq most target ns cs gs ms key).2.2.2.2.1) n') (.agg #[bV ((srlReq most target ns cs gs ms key).2.2.2.2.2.1), sV ((srlReq most target ns cs gs ms key).2.2.2.2.2.2.1), bV ((srlReq most target ns cs gs ms key).2.2.2.2.2.2.2)])) := by
 refine Tri.en (args := [pV q 0, sV key]) Tryz.func17 (fun B wz => ?_)
 refine Cd.s1 ?_
 refine Sq.e0 [] (l := []) (o_new [bV false, sV ⟨#[]⟩, bV false] (fun w => by kernel_rfl)) rfl ?_; intro b3 _
 refine Sq.d1 (Sq.vl [0, 1, 2] [pV q 0, pV q 0, pV q 4] (Sq.sm [0] (l := [polBSrl q b most]) (o_ld (i := 4) (v := .func (.func 70) #[pV b 0] #[])) rfl (Sq.vl [4] [sV key] (Sq.sm [1, 2, 3, 4, 5] (l := srlL b nb ab gb mb most target ns cs gs ms n) (o_calld (first := [pV b 0]) (captured := []) (args := [sV key]) (by kernel_rfl) (by kernel_rfl) rfl Tryz.call70 (srl_Request (n := n) (n' := n + cs.length + 3) (most := most) (target := target) (ns := ns) (cs := cs) (gs := gs) (ms := ms) key (by omega) (by omega) (by omega) (by omega))) rfl (Sq.sm [6] (l := [blkR b3 [bV false, sV ⟨#[]⟩, bV false] 37]) (o_st (i := 0) (v := .agg #[bV ((srlReq most target ns cs gs ms key).2.2.2.2.2.1), sV ((srlReq most target ns cs gs ms key).2.2.2.2.2.2.1), bV ((srlReq most target ns cs gs ms key).2.2.2.2.2.2.2)])) rfl (Sq.d4 (Cd.ret (Ex'.ret Tryz.results17 (RVs.cN (i := 0) (b := b3) (l := [bV ((srlReq most target ns cs gs ms key).2.2.2.2.2.1), sV ((srlReq most target ns cs gs ms key).2.2.2.2.2.2.1), bV ((srlReq most target ns cs gs ms key).2.2.2.2.2.2.2)]) (E := 37) [bV ((srlReq most target ns cs gs ms key).2.2.2.2.2.1), sV ((srlReq most target ns cs gs ms key).2.2.2.2.2.2.1), bV ((srlReq most target ns cs gs ms key).2.2.2.2.2.2.2)] 6 RVs.nil) (fun w hw => ?_)))))))))
 exact ⟨_, ⟨rfl, rfl⟩, (((hw.cv 2 (R := llR nb ((srlReq most target ns cs gs ms key).2.1) (n + cs.length + 3)) (R' := llR nb ((srlReq most target ns cs gs ms key).2.1) n') (llR.up (by omega))).cv 3 (R := llR ab ((srlReq most target ns cs gs ms key).2.2.1) (n + cs.length + 3)) (R' := llR ab ((srlReq most target ns cs gs ms key).2.2.1) n') (llR.up (by omega))).cv 4 (R := llR gb ((srlReq most target ns cs gs ms key).2.2.2.1) (n + cs.length + 3)) (R' := llR gb ((srlReq most target ns cs gs ms key).2.2.2.1) n') (llR.up (by omega))).pk [0, 1, 2, 3, 4, 5]⟩
theorem pol_Request_arc {q b lt1 lt2 lb1 lb2 j n' n : Nat} {most p : Int} {t1 t2 b1 b2 : List ByteArray} (key : ByteArray) (hb : n + j + 10 ≤ 1000000000) (hn : n + j + 5 ≤ n') (h0 : 0 ≤ most ∧ most ≤ 4611686018427387904) (hp : 0 ≤ p ∧ p ≤ most) (hj : t1.length + t2.length ≤ j) : Tri Tryz.prog 17 #[pV q 0, sV key] [polBArc q b most, arcB b lt1 lt2 lb1 lb2 most p, llR lt1 t1 n, llR lt2 t2 n, llR lb1 b1 n, llR lb2 b2 n] (Same ([polBArc q b most] ++ arcL b lt1 lt2 lb1 lb2 most ((arcReq most p t1 t2 b1 b2 key).1) ((arcReq most p t1 t2 b1 b2 key).2.1) ((arcReq most p t1 t2 b1 b2 key).2.2.1) ((arcReq most p t1 t2 b1 b2 key).2.2.2.1) ((arcReq most p t1 t2 b1 b2 key).2.2.2.2.1) n') (.agg #[bV ((arcReq most p t1 t2 b1 b2 key).2.2.2.2.2.1), sV ((arcReq most p t1 t2 b1 b2 key).2.2.2.2.2.2.1), bV ((arcReq most p t1 t2 b1 b2 key).2.2.2.2.2.2.2)])) := by
 refine Tri.en (args := [pV q 0, sV key]) Tryz.func17 (fun B wz => ?_)
 refine Cd.s1 ?_
 refine Sq.e0 [] (l := []) (o_new [bV false, sV ⟨#[]⟩, bV false] (fun w => by kernel_rfl)) rfl ?_; intro b3 _
 refine Sq.d1 (Sq.vl [0, 1, 2] [pV q 0, pV q 0, pV q 4] (Sq.sm [0] (l := [polBArc q b most]) (o_ld (i := 4) (v := .func (.func 81) #[pV b 0] #[])) rfl (Sq.vl [4] [sV key] (Sq.sm [1, 2, 3, 4, 5] (l := arcL b lt1 lt2 lb1 lb2 most p t1 t2 b1 b2 n) (o_calld (first := [pV b 0]) (captured := []) (args := [sV key]) (by kernel_rfl) (by kernel_rfl) rfl Tryz.call81 (arc_Request (n := n) (n' := n + 2) (most := most) (p := p) (t1 := t1) (t2 := t2) (b1 := b1) (b2 := b2) key (by omega) (by omega) (by omega) (by omega))) rfl (Sq.sm [6] (l := [blkR b3 [bV false, sV ⟨#[]⟩, bV false] 37]) (o_st (i := 0) (v := .agg #[bV ((arcReq most p t1 t2 b1 b2 key).2.2.2.2.2.1), sV ((arcReq most p t1 t2 b1 b2 key).2.2.2.2.2.2.1), bV ((arcReq most p t1 t2 b1 b2 key).2.2.2.2.2.2.2)])) rfl (Sq.d4 (Cd.ret (Ex'.ret Tryz.results17 (RVs.cN (i := 0) (b := b3) (l := [bV ((arcReq most p t1 t2 b1 b2 key).2.2.2.2.2.1), sV ((arcReq most p t1 t2 b1 b2 key).2.2.2.2.2.2.1), bV ((arcReq most p t1 t2 b1 b2 key).2.2.2.2.2.2.2)]) (E := 37) [bV ((arcReq most p t1 t2 b1 b2 key).2.2.2.2.2.1), sV ((arcReq most p t1 t2 b1 b2 key).2.2.2.2.2.2.1), bV ((arcReq most p t1 t2 b1 b2 key).2.2.2.2.2.2.2)] 6 RVs.nil) (fun w hw => ?_)))))))))
 exact ⟨_, ⟨rfl, rfl⟩, ((((hw.cv 2 (R := llR lt1 ((arcReq most p t1 t2 b1 b2 key).2.1) (n + 2)) (R' := llR lt1 ((arcReq most p t1 t2 b1 b2 key).2.1) n') (llR.up (by omega))).cv 3 (R := llR lt2 ((arcReq most p t1 t2 b1 b2 key).2.2.1) (n + 2)) (R' := llR lt2 ((arcReq most p t1 t2 b1 b2 key).2.2.1) n') (llR.up (by omega))).cv 4 (R := llR lb1 ((arcReq most p t1 t2 b1 b2 key).2.2.2.1) (n + 2)) (R' := llR lb1 ((arcReq most p t1 t2 b1 b2 key).2.2.2.1) n') (llR.up (by omega))).cv 5 (R := llR lb2 ((arcReq most p t1 t2 b1 b2 key).2.2.2.2.1) (n + 2)) (R' := llR lb2 ((arcReq most p t1 t2 b1 b2 key).2.2.2.2.1) n') (llR.up (by omega))).pk [0, 1, 2, 3, 4, 5]⟩
theorem pol_Remove_lru {q b lb j n : Nat} {most : Int} {ks : List ByteArray} (key : ByteArray) (hb : n + j + 10 ≤ 1000000000) (hj : ks.length ≤ j) : Tri Tryz.prog 21 #[pV q 0, sV key] [polBLru q b most, lruB b lb most, llR lb ks n] (Same ([polBLru q b most] ++ lruL b lb most ((lqRemove most ks key).1) n) (bV ((lqRemove most ks key).2))) := by
 refine Tri.en (args := [pV q 0, sV key]) Tryz.func21 (fun B wz => ?_)
 refine Cd.s1 (Sq.vl [0] [bV false] (Sq.d1 (Sq.vl [0, 1, 2] [pV q 0, pV q 0, pV q 5] (Sq.sm [0] (l := [polBLru q b most]) (o_ld (i := 5) (v := .func (.func 49) #[pV b 0] #[])) rfl (Sq.vl [4] [sV key] (Sq.sm [1, 2] (l := lruL b lb most ks n) (o_calld (first := [pV b 0]) (captured := []) (args := [sV key]) (by kernel_rfl) (by kernel_rfl) rfl Tryz.call49 (lru_Remove (n := n) (most := most) (ks := ks) key (by omega))) rfl (Sq.vl [6] [bV ((lqRemove most ks key).2)] ?_)))))))
 refine Sq.d4 (Cd.ret (Ex'.ret Tryz.results21 (RVs.tm (v := bV ((lqRemove most ks key).2)) RVs.nil) (fun w hw => ?_)))
 exact ⟨_, ⟨rfl, rfl⟩, hw.pk [0, 1, 2]⟩
theorem pol_Remove_lfu {q b qb j n : Nat} {most now : Int} {churn : Bool} {S : List (KR ByteArray)} (key : ByteArray) (hb : n + j + 10 ≤ 1000000000) (hw0 : 0 ≤ now ∧ now ≤ 1000000000) (ht : TmB 1000000000 S) (hj : S.length ≤ j) : Tri Tryz.prog 21 #[pV q 0, sV key] [polBLfu q b (if churn = true then 2 else 1) most, lfuB b qb most now churn, hpS qb S n] (Same ([polBLfu q b (if churn = true then 2 else 1) most] ++ lfuL b qb most now churn ((lfuRemove most now churn S key).1) n) (bV ((lfuRemove most now churn S key).2))) := by
 refine Tri.en (args := [pV q 0, sV key]) Tryz.func21 (fun B wz => ?_)
 refine Cd.s1 (Sq.vl [0] [bV false] (Sq.d1 (Sq.vl [0, 1, 2] [pV q 0, pV q 0, pV q 5] (Sq.sm [0] (l := [polBLfu q b (if churn = true then 2 else 1) most]) (o_ld (i := 5) (v := .func (.func 60) #[pV b 0] #[])) rfl (Sq.vl [4] [sV key] (Sq.sm [1, 2] (l := lfuL b qb most now churn S n) (o_calld (first := [pV b 0]) (captured := []) (args := [sV key]) (by kernel_rfl) (by kernel_rfl) rfl Tryz.call60 (lfu_Remove (n := n) (most := most) (now := now) (churn := churn) (S := S) key (by omega))) rfl (Sq.vl [6] [bV ((lfuRemove most now churn S key).2)] ?_)))))))
 refine Sq.d4 (Cd.ret (Ex'.ret Tryz.results21 (RVs.tm (v := bV ((lfuRemove most now churn S key).2)) RVs.nil) (fun w hw => ?_)))
 exact ⟨_, ⟨rfl, rfl⟩, hw.pk [0, 1, 2]⟩
theorem pol_Remove_srl {q b nb ab gb mb j n : Nat} {most target : Int} {ns cs gs : List ByteArray} {ms : List (ByteArray × (Bool × Bool))} (key : ByteArray) (hb : n + j + 10 ≤ 1000000000) (h0 : 0 ≤ most) (ht : 0 ≤ target ∧ target ≤ 4611686018427387904) (hj : cs.length + ns.length ≤ j) : Tri Tryz.prog 21 #[pV q 0, sV key] [polBSrl q b most, srlB b nb ab gb mb most target, llR nb ns n, llR ab cs n, llR gb gs n, mapR Value.string markV mb ms] (Same ([polBSrl q b most] ++ srlL b nb ab gb mb most target ((srlRemove most target ns cs gs ms key).1) ((srlRemove most target ns cs gs ms key).2.1) ((srlRemove most target ns cs gs ms key).2.2.1) ((srlRemove most target ns cs gs ms key).2.2.2.1) n) (bV ((srlRemove most target ns cs gs ms key).2.2.2.2))) := by
 refine Tri.en (args := [pV q 0, sV key]) Tryz.func21 (fun B wz => ?_)
 refine Cd.s1 (Sq.vl [0] [bV false] (Sq.d1 (Sq.vl [0, 1, 2] [pV q 0, pV q 0, pV q 5] (Sq.sm [0] (l := [polBSrl q b most]) (o_ld (i := 5) (v := .func (.func 71) #[pV b 0] #[])) rfl (Sq.vl [4] [sV key] (Sq.sm [1, 2, 3, 4, 5] (l := srlL b nb ab gb mb most target ns cs gs ms n) (o_calld (first := [pV b 0]) (captured := []) (args := [sV key]) (by kernel_rfl) (by kernel_rfl) rfl Tryz.call71 (srl_Remove (n := n) (most := most) (target := target) (ns := ns) (cs := cs) (gs := gs) (ms := ms) key (by omega))) rfl (Sq.vl [6] [bV ((srlRemove most target ns cs gs ms key).2.2.2.2)] ?_)))))))
 refine Sq.d4 (Cd.ret (Ex'.ret Tryz.results21 (RVs.tm (v := bV ((srlRemove most target ns cs gs ms key).2.2.2.2)) RVs.nil) (fun w hw => ?_)))
 exact ⟨_, ⟨rfl, rfl⟩, hw.pk [0, 1, 2, 3, 4, 5]⟩
theorem pol_Remove_arc {q b lt1 lt2 lb1 lb2 j n : Nat} {most p : Int} {t1 t2 b1 b2 : List ByteArray} (key : ByteArray) (hb : n + j + 10 ≤ 1000000000) (h0 : 0 ≤ most ∧ most ≤ 4611686018427387904) (hp : 0 ≤ p ∧ p ≤ most) (hj : t1.length + t2.length ≤ j) : Tri Tryz.prog 21 #[pV q 0, sV key] [polBArc q b most, arcB b lt1 lt2 lb1 lb2 most p, llR lt1 t1 n, llR lt2 t2 n, llR lb1 b1 n, llR lb2 b2 n] (Same ([polBArc q b most] ++ arcL b lt1 lt2 lb1 lb2 most p ((arcRemove most p t1 t2 b1 b2 key).1) ((arcRemove most p t1 t2 b1 b2 key).2.1) ((arcRemove most p t1 t2 b1 b2 key).2.2.1) ((arcRemove most p t1 t2 b1 b2 key).2.2.2.1) n) (bV ((arcRemove most p t1 t2 b1 b2 key).2.2.2.2))) := by
 refine Tri.en (args := [pV q 0, sV key]) Tryz.func21 (fun B wz => ?_)
 refine Cd.s1 (Sq.vl [0] [bV false] (Sq.d1 (Sq.vl [0, 1, 2] [pV q 0, pV q 0, pV q 5] (Sq.sm [0] (l := [polBArc q b most]) (o_ld (i := 5) (v := .func (.func 82) #[pV b 0] #[])) rfl (Sq.vl [4] [sV key] (Sq.sm [1, 2, 3, 4, 5] (l := arcL b lt1 lt2 lb1 lb2 most p t1 t2 b1 b2 n) (o_calld (first := [pV b 0]) (captured := []) (args := [sV key]) (by kernel_rfl) (by kernel_rfl) rfl Tryz.call82 (arc_Remove (n := n) (most := most) (p := p) (t1 := t1) (t2 := t2) (b1 := b1) (b2 := b2) key (by omega))) rfl (Sq.vl [6] [bV ((arcRemove most p t1 t2 b1 b2 key).2.2.2.2)] ?_)))))))
 refine Sq.d4 (Cd.ret (Ex'.ret Tryz.results21 (RVs.tm (v := bV ((arcRemove most p t1 t2 b1 b2 key).2.2.2.2)) RVs.nil) (fun w hw => ?_)))
 exact ⟨_, ⟨rfl, rfl⟩, hw.pk [0, 1, 2, 3, 4, 5]⟩
theorem pol_Adopt_lru {q b lb j n' n : Nat} {most : Int} {ks : List ByteArray} (key : ByteArray) (hb : n + j + 10 ≤ 1000000000) (hn : n + j + 5 ≤ n') (hj : ks.length ≤ j) : Tri Tryz.prog 26 #[pV q 0, sV key] [polBLru q b most, lruB b lb most, llR lb ks n] (Same ([polBLru q b most] ++ lruL b lb most ((lqAdopt most ks key).1) n') (bV ((lqAdopt most ks key).2))) := by
 refine Tri.en (args := [pV q 0, sV key]) Tryz.func26 (fun B wz => ?_)
 refine Cd.s1 (Sq.vl [0] [bV false] (Sq.d1 (Sq.vl [0, 1, 2] [pV q 0, pV q 0, pV q 6] (Sq.sm [0] (l := [polBLru q b most]) (o_ld (i := 6) (v := .func (.func 50) #[pV b 0] #[])) rfl (Sq.vl [4] [sV key] (Sq.sm [1, 2] (l := lruL b lb most ks n) (o_calld (first := [pV b 0]) (captured := []) (args := [sV key]) (by kernel_rfl) (by kernel_rfl) rfl Tryz.call50 (lru_Adopt (n := n) (n' := n + 1) (most := most) (ks := ks) key (by omega) (by omega))) rfl (Sq.vl [6] [bV ((lqAdopt most ks key).2)] ?_)))))))
 refine Sq.d4 (Cd.ret (Ex'.ret Tryz.results26 (RVs.tm (v := bV ((lqAdopt most ks key).2)) RVs.nil) (fun w hw => ?_)))
 exact ⟨_, ⟨rfl, rfl⟩, (hw.cv 2 (R := llR lb ((lqAdopt most ks key).1) (n + 1)) (R' := llR lb ((lqAdopt most ks key).1) n') (llR.up (by omega))).pk [0, 1, 2]⟩
theorem pol_Adopt_lfu {q b qb j n' n : Nat} {most now : Int} {churn : Bool} {S : List (KR ByteArray)} (key : ByteArray) (hb : n + j + 10 ≤ 1000000000) (hn : n + j + 5 ≤ n') (hw0 : 0 ≤ now ∧ now ≤ 1000000000) (ht : TmB 1000000000 S) (hj : S.length ≤ j) : Tri Tryz.prog 26 #[pV q 0, sV key] [polBLfu q b (if churn = true then 2 else 1) most, lfuB b qb most now churn, hpS qb S n] (Same ([polBLfu q b (if churn = true then 2 else 1) most] ++ lfuL b qb most ((lfuAdopt most now churn S key).1) churn ((lfuAdopt most now churn S key).2.1) n') (bV ((lfuAdopt most now churn S key).2.2))) := by
 refine Tri.en (args := [pV q 0, sV key]) Tryz.func26 (fun B wz => ?_)
 refine Cd.s1 (Sq.vl [0] [bV false] (Sq.d1 (Sq.vl [0, 1, 2] [pV q 0, pV q 0, pV q 6] (Sq.sm [0] (l := [polBLfu q b (if churn = true then 2 else 1) most]) (o_ld (i := 6) (v := .func (.func 61) #[pV b 0] #[])) rfl (Sq.vl [4] [sV key] ?_)))))
 refine Sq.sm [1, 2] (l := lfuL b qb most now churn S n) (o_calld (first := [pV b 0]) (captured := []) (args := [sV key]) (by kernel_rfl) (by kernel_rfl) rfl Tryz.call61 (lfu_Adopt (n := n) (n' := n + 1) (most := most) (now := now) (churn := churn) (S := S) key (by omega) (by omega) (by omega) (by first | assumption | (unfold TmB; decide)))) rfl ?_
 refine Sq.vl [6] [bV ((lfuAdopt most now churn S key).2.2)] (Sq.d4 (Cd.ret (Ex'.ret Tryz.results26 (RVs.tm (v := bV ((lfuAdopt most now churn S key).2.2)) RVs.nil) (fun w hw => ?_))))
 exact ⟨_, ⟨rfl, rfl⟩, (hw.cv 2 (R := hpS qb ((lfuAdopt most now churn S key).2.1) (n + 1)) (R' := hpS qb ((lfuAdopt most now churn S key).2.1) n') (hpS.up (by omega))).pk [0, 1, 2]⟩
theorem pol_Adopt_srl {q b nb ab gb mb j n' n : Nat} {most target : Int} {ns cs gs : List ByteArray} {ms : List (ByteArray × (Bool × Bool))} (key : ByteArray) (hb : n + j + 10 ≤ 1000000000) (hn : n + j + 5 ≤ n') (h0 : 0 ≤ most) (ht : 0 ≤ target ∧ target ≤ 4611686018427387904) (hj : cs.length + ns.length ≤ j) : Tri Tryz.prog 26 #[pV q 0, sV key] [polBSrl q b most, srlB b nb ab gb mb most target, llR nb ns n, llR ab cs n, llR gb gs n, mapR Value.string markV mb ms] (Same ([polBSrl q b most] ++ srlL b nb ab gb mb most target ((srlAdopt most target ns cs gs ms key).1) cs ((srlAdopt most target ns cs gs ms key).2.1) ((srlAdopt most target ns cs gs ms key).2.2.1) n') (bV ((srlAdopt most target ns cs gs ms key).2.2.2))) := by
 refine Tri.en (args := [pV q 0, sV key]) Tryz.func26 (fun B wz => ?_)
 refine Cd.s1 (Sq.vl [0] [bV false] (Sq.d1 (Sq.vl [0, 1, 2] [pV q 0, pV q 0, pV q 6] (Sq.sm [0] (l := [polBSrl q b most]) (o_ld (i := 6) (v := .func (.func 72) #[pV b 0] #[])) rfl (Sq.vl [4] [sV key] (Sq.sm [1, 2, 3, 4, 5] (l := srlL b nb ab gb mb most target ns cs gs ms n) (o_calld (first := [pV b 0]) (captured := []) (args := [sV key]) (by kernel_rfl) (by kernel_rfl) rfl Tryz.call72 (srl_Adopt (n := n) (n' := n + 1) (most := most) (target := target) (ns := ns) (cs := cs) (gs := gs) (ms := ms) key (by omega) (by omega))) rfl (Sq.vl [6] [bV ((srlAdopt most target ns cs gs ms key).2.2.2)] ?_)))))))
 refine Sq.d4 (Cd.ret (Ex'.ret Tryz.results26 (RVs.tm (v := bV ((srlAdopt most target ns cs gs ms key).2.2.2)) RVs.nil) (fun w hw => ?_)))
 exact ⟨_, ⟨rfl, rfl⟩, (((hw.cv 2 (R := llR nb ((srlAdopt most target ns cs gs ms key).1) (n + 1)) (R' := llR nb ((srlAdopt most target ns cs gs ms key).1) n') (llR.up (by omega))).cv 3 (R := llR ab cs (n + 1)) (R' := llR ab cs n') (llR.up (by omega))).cv 4 (R := llR gb ((srlAdopt most target ns cs gs ms key).2.1) (n + 1)) (R' := llR gb ((srlAdopt most target ns cs gs ms key).2.1) n') (llR.up (by omega))).pk [0, 1, 2, 3, 4, 5]⟩
theorem pol_Adopt_arc {q b lt1 lt2 lb1 lb2 j n' n : Nat} {most p : Int} {t1 t2 b1 b2 : List ByteArray} (key : ByteArray) (hb : n + j + 10 ≤ 1000000000) (hn : n + j + 5 ≤ n') (h0 : 0 ≤ most ∧ most ≤ 4611686018427387904) (hp : 0 ≤ p ∧ p ≤ most) (hj : t1.length + t2.length ≤ j) : Tri Tryz.prog 26 #[pV q 0, sV key] [polBArc q b most, arcB b lt1 lt2 lb1 lb2 most p, llR lt1 t1 n, llR lt2 t2 n, llR lb1 b1 n, llR lb2 b2 n] (Same ([polBArc q b most] ++ arcL b lt1 lt2 lb1 lb2 most p ((arcAdopt most p t1 t2 b1 b2 key).1) ((arcAdopt most p t1 t2 b1 b2 key).2.1) ((arcAdopt most p t1 t2 b1 b2 key).2.2.1) ((arcAdopt most p t1 t2 b1 b2 key).2.2.2.1) n') (bV ((arcAdopt most p t1 t2 b1 b2 key).2.2.2.2))) := by
 refine Tri.en (args := [pV q 0, sV key]) Tryz.func26 (fun B wz => ?_)
 refine Cd.s1 (Sq.vl [0] [bV false] (Sq.d1 (Sq.vl [0, 1, 2] [pV q 0, pV q 0, pV q 6] (Sq.sm [0] (l := [polBArc q b most]) (o_ld (i := 6) (v := .func (.func 83) #[pV b 0] #[])) rfl (Sq.vl [4] [sV key] (Sq.sm [1, 2, 3, 4, 5] (l := arcL b lt1 lt2 lb1 lb2 most p t1 t2 b1 b2 n) (o_calld (first := [pV b 0]) (captured := []) (args := [sV key]) (by kernel_rfl) (by kernel_rfl) rfl Tryz.call83 (arc_Adopt (n := n) (n' := n + 1) (most := most) (p := p) (t1 := t1) (t2 := t2) (b1 := b1) (b2 := b2) key (by omega) (by omega) (by omega))) rfl (Sq.vl [6] [bV ((arcAdopt most p t1 t2 b1 b2 key).2.2.2.2)] ?_)))))))
 refine Sq.d4 (Cd.ret (Ex'.ret Tryz.results26 (RVs.tm (v := bV ((arcAdopt most p t1 t2 b1 b2 key).2.2.2.2)) RVs.nil) (fun w hw => ?_)))
 exact ⟨_, ⟨rfl, rfl⟩, ((((hw.cv 2 (R := llR lt1 ((arcAdopt most p t1 t2 b1 b2 key).1) (n + 1)) (R' := llR lt1 ((arcAdopt most p t1 t2 b1 b2 key).1) n') (llR.up (by omega))).cv 3 (R := llR lt2 ((arcAdopt most p t1 t2 b1 b2 key).2.1) (n + 1)) (R' := llR lt2 ((arcAdopt most p t1 t2 b1 b2 key).2.1) n') (llR.up (by omega))).cv 4 (R := llR lb1 ((arcAdopt most p t1 t2 b1 b2 key).2.2.1) (n + 1)) (R' := llR lb1 ((arcAdopt most p t1 t2 b1 b2 key).2.2.1) n') (llR.up (by omega))).cv 5 (R := llR lb2 ((arcAdopt most p t1 t2 b1 b2 key).2.2.2.1) (n + 1)) (R' := llR lb2 ((arcAdopt most p t1 t2 b1 b2 key).2.2.2.1) n') (llR.up (by omega))).pk [0, 1, 2, 3, 4, 5]⟩
theorem pol_Victim_lru {q b lb j n : Nat} {most : Int} {ks : List ByteArray}  (hb : n + j + 10 ≤ 1000000000) (hj : ks.length ≤ j) : Tri Tryz.prog 23 #[pV q 0] [polBLru q b most, lruB b lb most, llR lb ks n] (Same ([polBLru q b most] ++ lruL b lb most ks n) (.tuple #[sV ((lqVictim most ks).1), bV ((lqVictim most ks).2)])) := by
 refine Tri.en (args := [pV q 0]) Tryz.func23 (fun B wz => ?_)
 refine Cd.s1 (Sq.vl [0, 1] [sV ⟨#[]⟩, bV false] (Sq.d1 (Sq.vl [0, 1, 2] [pV q 0, pV q 0, pV q 7] (Sq.sm [0] (l := [polBLru q b most]) (o_ld (i := 7) (v := .func (.func 51) #[pV b 0] #[])) rfl (Sq.sm [1, 2] (l := lruL b lb most ks n) (o_calld (first := [pV b 0]) (captured := []) (args := []) (by kernel_rfl) (by kernel_rfl) rfl Tryz.call51 (lru_Victim (n := n) (most := most) (ks := ks) (by omega))) rfl (Sq.vl [5, 6, 7, 8] [sV ((lqVictim most ks).1), bV ((lqVictim most ks).2), sV ((lqVictim most ks).1), bV ((lqVictim most ks).2)] (Sq.d4 (Cd.ret ?_))))))))
 refine Ex'.ret Tryz.results23 (RVs.tm (v := sV ((lqVictim most ks).1)) (RVs.tmp (v := bV ((lqVictim most ks).2)) (by kernel_rfl) RVs.nil)) (fun w hw => ?_)
 exact ⟨_, ⟨rfl, rfl⟩, hw.pk [0, 1, 2]⟩
theorem pol_Victim_lfu {q b qb j n : Nat} {most now : Int} {churn : Bool} {S : List (KR ByteArray)}  (hb : n + j + 10 ≤ 1000000000) (hw0 : 0 ≤ now ∧ now ≤ 1000000000) (ht : TmB 1000000000 S) (hj : S.length ≤ j) : Tri Tryz.prog 23 #[pV q 0] [polBLfu q b (if churn = true then 2 else 1) most, lfuB b qb most now churn, hpS qb S n] (Same ([polBLfu q b (if churn = true then 2 else 1) most] ++ lfuL b qb most now churn S n) (.tuple #[sV ((lfuVictim most now churn S).1), bV ((lfuVictim most now churn S).2)])) := by
 refine Tri.en (args := [pV q 0]) Tryz.func23 (fun B wz => ?_)
 refine Cd.s1 (Sq.vl [0, 1] [sV ⟨#[]⟩, bV false] (Sq.d1 (Sq.vl [0, 1, 2] [pV q 0, pV q 0, pV q 7] (Sq.sm [0] (l := [polBLfu q b (if churn = true then 2 else 1) most]) (o_ld (i := 7) (v := .func (.func 62) #[pV b 0] #[])) rfl (Sq.sm [1, 2] (l := lfuL b qb most now churn S n) (o_calld (first := [pV b 0]) (captured := []) (args := []) (by kernel_rfl) (by kernel_rfl) rfl Tryz.call62 (lfu_Victim (n := n) (most := most) (now := now) (churn := churn) (S := S) (by omega))) rfl (Sq.vl [5, 6, 7, 8] [sV ((lfuVictim most now churn S).1), bV ((lfuVictim most now churn S).2), sV ((lfuVictim most now churn S).1), bV ((lfuVictim most now churn S).2)] (Sq.d4 (Cd.ret ?_))))))))
 refine Ex'.ret Tryz.results23 (RVs.tm (v := sV ((lfuVictim most now churn S).1)) (RVs.tmp (v := bV ((lfuVictim most now churn S).2)) (by kernel_rfl) RVs.nil)) (fun w hw => ?_)
 exact ⟨_, ⟨rfl, rfl⟩, hw.pk [0, 1, 2]⟩
theorem pol_Victim_srl {q b nb ab gb mb j n : Nat} {most target : Int} {ns cs gs : List ByteArray} {ms : List (ByteArray × (Bool × Bool))}  (hb : n + j + 10 ≤ 1000000000) (h0 : 0 ≤ most) (ht : 0 ≤ target ∧ target ≤ 4611686018427387904) (hj : cs.length + ns.length ≤ j) : Tri Tryz.prog 23 #[pV q 0] [polBSrl q b most, srlB b nb ab gb mb most target, llR nb ns n, llR ab cs n, llR gb gs n, mapR Value.string markV mb ms] (Same ([polBSrl q b most] ++ srlL b nb ab gb mb most target ns cs gs ms n) (.tuple #[sV ((srlVictim most target ns cs gs ms).1), bV ((srlVictim most target ns cs gs ms).2)])) := by
 refine Tri.en (args := [pV q 0]) Tryz.func23 (fun B wz => ?_)
 refine Cd.s1 (Sq.vl [0, 1] [sV ⟨#[]⟩, bV false] (Sq.d1 (Sq.vl [0, 1, 2] [pV q 0, pV q 0, pV q 7] (Sq.sm [0] (l := [polBSrl q b most]) (o_ld (i := 7) (v := .func (.func 73) #[pV b 0] #[])) rfl (Sq.sm [1, 2, 3, 4, 5] (l := srlL b nb ab gb mb most target ns cs gs ms n) (o_calld (first := [pV b 0]) (captured := []) (args := []) (by kernel_rfl) (by kernel_rfl) rfl Tryz.call73 (srl_Victim (n := n) (most := most) (target := target) (ns := ns) (cs := cs) (gs := gs) (ms := ms) (by omega))) rfl (Sq.vl [5, 6, 7, 8] [sV ((srlVictim most target ns cs gs ms).1), bV ((srlVictim most target ns cs gs ms).2), sV ((srlVictim most target ns cs gs ms).1), bV ((srlVictim most target ns cs gs ms).2)] (Sq.d4 (Cd.ret ?_))))))))
 refine Ex'.ret Tryz.results23 (RVs.tm (v := sV ((srlVictim most target ns cs gs ms).1)) (RVs.tmp (v := bV ((srlVictim most target ns cs gs ms).2)) (by kernel_rfl) RVs.nil)) (fun w hw => ?_)
 exact ⟨_, ⟨rfl, rfl⟩, hw.pk [0, 1, 2, 3, 4, 5]⟩
theorem pol_Victim_arc {q b lt1 lt2 lb1 lb2 j n : Nat} {most p : Int} {t1 t2 b1 b2 : List ByteArray}  (hb : n + j + 10 ≤ 1000000000) (h0 : 0 ≤ most ∧ most ≤ 4611686018427387904) (hp : 0 ≤ p ∧ p ≤ most) (hj : t1.length + t2.length ≤ j) : Tri Tryz.prog 23 #[pV q 0] [polBArc q b most, arcB b lt1 lt2 lb1 lb2 most p, llR lt1 t1 n, llR lt2 t2 n, llR lb1 b1 n, llR lb2 b2 n] (Same ([polBArc q b most] ++ arcL b lt1 lt2 lb1 lb2 most p t1 t2 b1 b2 n) (.tuple #[sV (arcVictim most p t1 t2 b1 b2).1, bV (arcVictim most p t1 t2 b1 b2).2])) := by
 refine Tri.en (args := [pV q 0]) Tryz.func23 (fun B wz => ?_)
 refine Cd.s1 (Sq.vl [0, 1] [sV ⟨#[]⟩, bV false] (Sq.d1 (Sq.vl [0, 1, 2] [pV q 0, pV q 0, pV q 7] (Sq.sm [0] (l := [polBArc q b most]) (o_ld (i := 7) (v := .func (.func 84) #[pV b 0] #[])) rfl ?_))))
 by_cases h1 : (t1.length : Int) ≥ most
 ·
  refine Sq.sm [1, 2, 3, 4, 5] (l := arcL b lt1 lt2 lb1 lb2 most p t1 t2 b1 b2 n) (o_calld (first := [pV b 0]) (captured := []) (args := []) (by kernel_rfl) (by kernel_rfl) rfl Tryz.call84 (arc_VictimA (n := n) (most := most) (p := p) (t1 := t1) (t2 := t2) (b1 := b1) (b2 := b2) (by omega) h1)) rfl ?_
  refine Sq.vl [5, 6, 7, 8] [sV (t1.getLast?.getD ⟨#[]⟩), bV (decide (0 < t1.length)), sV (t1.getLast?.getD ⟨#[]⟩), bV (decide (0 < t1.length))] ?_
  refine Sq.d4 (Cd.ret ?_)
  refine Ex'.ret Tryz.results23 (RVs.tm (v := sV (t1.getLast?.getD ⟨#[]⟩)) (RVs.tmp (v := bV (decide (0 < t1.length))) (by kernel_rfl) RVs.nil)) (fun w hw => ?_)
  exact ⟨_, ⟨by unfold arcVictim; repeat' (first | rfl | contradiction | split), rfl⟩, hw.pk [0, 1, 2, 3, 4, 5]⟩
  
 ·
  by_cases h2 : (t1.length : Int) > 0 ∧ ((t1.length : Int) > p ∨ (t2.length : Int) = 0)
  ·
   refine Sq.sm [1, 2, 3, 4, 5] (l := arcL b lt1 lt2 lb1 lb2 most p t1 t2 b1 b2 n) (o_calld (first := [pV b 0]) (captured := []) (args := []) (by kernel_rfl) (by kernel_rfl) rfl Tryz.call84 (arc_VictimB (n := n) (most := most) (p := p) (t1 := t1) (t2 := t2) (b1 := b1) (b2 := b2) (by omega) h1 h2)) rfl ?_
   refine Sq.vl [5, 6, 7, 8] [sV (t1.getLast?.getD ⟨#[]⟩), bV (decide (0 < t1.length)), sV (t1.getLast?.getD ⟨#[]⟩), bV (decide (0 < t1.length))] ?_
   refine Sq.d4 (Cd.ret ?_)
   refine Ex'.ret Tryz.results23 (RVs.tm (v := sV (t1.getLast?.getD ⟨#[]⟩)) (RVs.tmp (v := bV (decide (0 < t1.length))) (by kernel_rfl) RVs.nil)) (fun w hw => ?_)
   exact ⟨_, ⟨by unfold arcVictim; repeat' (first | rfl | contradiction | split), rfl⟩, hw.pk [0, 1, 2, 3, 4, 5]⟩
   
  ·
   refine Sq.sm [1, 2, 3, 4, 5] (l := arcL b lt1 lt2 lb1 lb2 most p t1 t2 b1 b2 n) (o_calld (first := [pV b 0]) (captured := []) (args := []) (by kernel_rfl) (by kernel_rfl) rfl Tryz.call84 (arc_VictimC (n := n) (most := most) (p := p) (t1 := t1) (t2 := t2) (b1 := b1) (b2 := b2) (by omega) h1 h2)) rfl ?_
   refine Sq.vl [5, 6, 7, 8] [sV (t2.getLast?.getD ⟨#[]⟩), bV (decide (0 < t2.length)), sV (t2.getLast?.getD ⟨#[]⟩), bV (decide (0 < t2.length))] ?_
   refine Sq.d4 (Cd.ret ?_)
   refine Ex'.ret Tryz.results23 (RVs.tm (v := sV (t2.getLast?.getD ⟨#[]⟩)) (RVs.tmp (v := bV (decide (0 < t2.length))) (by kernel_rfl) RVs.nil)) (fun w hw => ?_)
   exact ⟨_, ⟨by unfold arcVictim; repeat' (first | rfl | contradiction | split), rfl⟩, hw.pk [0, 1, 2, 3, 4, 5]⟩
   
theorem pol_Drop_lru {q b lb j n : Nat} {most : Int} {ks : List ByteArray}  (hb : n + j + 10 ≤ 1000000000) (hj : ks.length ≤ j) : Tri Tryz.prog 24 #[pV q 0] [polBLru q b most, lruB b lb most, llR lb ks n] (Same ([polBLru q b most] ++ lruL b lb most ((lqDrop most ks).1) n) (.tuple #[sV ((lqDrop most ks).2.1), bV ((lqDrop most ks).2.2)])) := by
 refine Tri.en (args := [pV q 0]) Tryz.func24 (fun B wz => ?_)
 refine Cd.s1 (Sq.vl [0, 1] [sV ⟨#[]⟩, bV false] (Sq.d1 (Sq.vl [0, 1, 2] [pV q 0, pV q 0, pV q 8] (Sq.sm [0] (l := [polBLru q b most]) (o_ld (i := 8) (v := .func (.func 52) #[pV b 0] #[])) rfl (Sq.sm [1, 2] (l := lruL b lb most ks n) (o_calld (first := [pV b 0]) (captured := []) (args := []) (by kernel_rfl) (by kernel_rfl) rfl Tryz.call52 (lru_Drop (n := n) (most := most) (ks := ks) (by omega))) rfl (Sq.vl [5, 6, 7, 8] [sV ((lqDrop most ks).2.1), bV ((lqDrop most ks).2.2), sV ((lqDrop most ks).2.1), bV ((lqDrop most ks).2.2)] (Sq.d4 (Cd.ret ?_))))))))
 refine Ex'.ret Tryz.results24 (RVs.tm (v := sV ((lqDrop most ks).2.1)) (RVs.tmp (v := bV ((lqDrop most ks).2.2)) (by kernel_rfl) RVs.nil)) (fun w hw => ?_)
 exact ⟨_, ⟨rfl, rfl⟩, hw.pk [0, 1, 2]⟩
theorem pol_Drop_lfu {q b qb j n : Nat} {most now : Int} {churn : Bool} {S : List (KR ByteArray)}  (hb : n + j + 10 ≤ 1000000000) (hw0 : 0 ≤ now ∧ now ≤ 1000000000) (ht : TmB 1000000000 S) (hj : S.length ≤ j) : Tri Tryz.prog 24 #[pV q 0] [polBLfu q b (if churn = true then 2 else 1) most, lfuB b qb most now churn, hpS qb S n] (Same ([polBLfu q b (if churn = true then 2 else 1) most] ++ lfuL b qb most now churn ((lfuDrop most now churn S).1) n) (.tuple #[sV ((lfuDrop most now churn S).2.1), bV ((lfuDrop most now churn S).2.2)])) := by
 refine Tri.en (args := [pV q 0]) Tryz.func24 (fun B wz => ?_)
 refine Cd.s1 (Sq.vl [0, 1] [sV ⟨#[]⟩, bV false] (Sq.d1 (Sq.vl [0, 1, 2] [pV q 0, pV q 0, pV q 8] (Sq.sm [0] (l := [polBLfu q b (if churn = true then 2 else 1) most]) (o_ld (i := 8) (v := .func (.func 63) #[pV b 0] #[])) rfl (Sq.sm [1, 2] (l := lfuL b qb most now churn S n) (o_calld (first := [pV b 0]) (captured := []) (args := []) (by kernel_rfl) (by kernel_rfl) rfl Tryz.call63 (lfu_Drop (n := n) (most := most) (now := now) (churn := churn) (S := S) (by omega))) rfl (Sq.vl [5, 6, 7, 8] [sV ((lfuDrop most now churn S).2.1), bV ((lfuDrop most now churn S).2.2), sV ((lfuDrop most now churn S).2.1), bV ((lfuDrop most now churn S).2.2)] (Sq.d4 (Cd.ret ?_))))))))
 refine Ex'.ret Tryz.results24 (RVs.tm (v := sV ((lfuDrop most now churn S).2.1)) (RVs.tmp (v := bV ((lfuDrop most now churn S).2.2)) (by kernel_rfl) RVs.nil)) (fun w hw => ?_)
 exact ⟨_, ⟨rfl, rfl⟩, hw.pk [0, 1, 2]⟩
theorem pol_Drop_srl {q b nb ab gb mb j n : Nat} {most target : Int} {ns cs gs : List ByteArray} {ms : List (ByteArray × (Bool × Bool))}  (hb : n + j + 10 ≤ 1000000000) (h0 : 0 ≤ most) (ht : 0 ≤ target ∧ target ≤ 4611686018427387904) (hj : cs.length + ns.length ≤ j) : Tri Tryz.prog 24 #[pV q 0] [polBSrl q b most, srlB b nb ab gb mb most target, llR nb ns n, llR ab cs n, llR gb gs n, mapR Value.string markV mb ms] (Same ([polBSrl q b most] ++ srlL b nb ab gb mb most target ((srlDrop most target ns cs gs ms).1) ((srlDrop most target ns cs gs ms).2.1) gs ((srlDrop most target ns cs gs ms).2.2.1) n) (.tuple #[sV ((srlDrop most target ns cs gs ms).2.2.2.1), bV ((srlDrop most target ns cs gs ms).2.2.2.2)])) := by
 refine Tri.en (args := [pV q 0]) Tryz.func24 (fun B wz => ?_)
 refine Cd.s1 (Sq.vl [0, 1] [sV ⟨#[]⟩, bV false] (Sq.d1 (Sq.vl [0, 1, 2] [pV q 0, pV q 0, pV q 8] (Sq.sm [0] (l := [polBSrl q b most]) (o_ld (i := 8) (v := .func (.func 74) #[pV b 0] #[])) rfl (Sq.sm [1, 2, 3, 4, 5] (l := srlL b nb ab gb mb most target ns cs gs ms n) (o_calld (first := [pV b 0]) (captured := []) (args := []) (by kernel_rfl) (by kernel_rfl) rfl Tryz.call74 (srl_Drop (n := n) (most := most) (target := target) (ns := ns) (cs := cs) (gs := gs) (ms := ms) (by omega))) rfl (Sq.vl [5, 6, 7, 8] [sV ((srlDrop most target ns cs gs ms).2.2.2.1), bV ((srlDrop most target ns cs gs ms).2.2.2.2), sV ((srlDrop most target ns cs gs ms).2.2.2.1), bV ((srlDrop most target ns cs gs ms).2.2.2.2)] (Sq.d4 (Cd.ret ?_))))))))
 refine Ex'.ret Tryz.results24 (RVs.tm (v := sV ((srlDrop most target ns cs gs ms).2.2.2.1)) (RVs.tmp (v := bV ((srlDrop most target ns cs gs ms).2.2.2.2)) (by kernel_rfl) RVs.nil)) (fun w hw => ?_)
 exact ⟨_, ⟨rfl, rfl⟩, hw.pk [0, 1, 2, 3, 4, 5]⟩
theorem pol_Drop_arc {q b lt1 lt2 lb1 lb2 j n : Nat} {most p : Int} {t1 t2 b1 b2 : List ByteArray}  (hb : n + j + 10 ≤ 1000000000) (h0 : 0 ≤ most ∧ most ≤ 4611686018427387904) (hp : 0 ≤ p ∧ p ≤ most) (hj : t1.length + t2.length ≤ j) : Tri Tryz.prog 24 #[pV q 0] [polBArc q b most, arcB b lt1 lt2 lb1 lb2 most p, llR lt1 t1 n, llR lt2 t2 n, llR lb1 b1 n, llR lb2 b2 n] (Same ([polBArc q b most] ++ arcL b lt1 lt2 lb1 lb2 most p ((arcDrop most p t1 t2 b1 b2).1) ((arcDrop most p t1 t2 b1 b2).2.1) b1 b2 n) (.tuple #[sV ((arcDrop most p t1 t2 b1 b2).2.2.1), bV ((arcDrop most p t1 t2 b1 b2).2.2.2)])) := by
 refine Tri.en (args := [pV q 0]) Tryz.func24 (fun B wz => ?_)
 refine Cd.s1 (Sq.vl [0, 1] [sV ⟨#[]⟩, bV false] (Sq.d1 (Sq.vl [0, 1, 2] [pV q 0, pV q 0, pV q 8] (Sq.sm [0] (l := [polBArc q b most]) (o_ld (i := 8) (v := .func (.func 85) #[pV b 0] #[])) rfl (Sq.sm [1, 2, 3, 4, 5] (l := arcL b lt1 lt2 lb1 lb2 most p t1 t2 b1 b2 n) (o_calld (first := [pV b 0]) (captured := []) (args := []) (by kernel_rfl) (by kernel_rfl) rfl Tryz.call85 (arc_Drop (n := n) (most := most) (p := p) (t1 := t1) (t2 := t2) (b1 := b1) (b2 := b2) (by omega))) rfl (Sq.vl [5, 6, 7, 8] [sV ((arcDrop most p t1 t2 b1 b2).2.2.1), bV ((arcDrop most p t1 t2 b1 b2).2.2.2), sV ((arcDrop most p t1 t2 b1 b2).2.2.1), bV ((arcDrop most p t1 t2 b1 b2).2.2.2)] (Sq.d4 (Cd.ret ?_))))))))
 refine Ex'.ret Tryz.results24 (RVs.tm (v := sV ((arcDrop most p t1 t2 b1 b2).2.2.1)) (RVs.tmp (v := bV ((arcDrop most p t1 t2 b1 b2).2.2.2)) (by kernel_rfl) RVs.nil)) (fun w hw => ?_)
 exact ⟨_, ⟨rfl, rfl⟩, hw.pk [0, 1, 2, 3, 4, 5]⟩
theorem pol_Keys_lru {q b lb j n : Nat} {most : Int} {ks : List ByteArray}  (hb : n + j + 10 ≤ 1000000000) (hj : ks.length ≤ j) : Tri Tryz.prog 16 #[pV q 0] [polBLru q b most, lruB b lb most, llR lb ks n] (PostE (fun _ => True) (fun v => v) fun v => [polBLru q b most] ++ lruL b lb most ks n ++ [rowR 9 1 v (lqKeys most ks).length ((lqKeys most ks).map Value.string)]) := by
 refine Tri.en (args := [pV q 0]) Tryz.func16 (fun B wz => ?_)
 refine Cd.s1 (Sq.vl [0] [.slice none 0 0] (Sq.d1 (Sq.vl [0, 1, 2] [pV q 0, pV q 0, pV q 10] (Sq.sm [0] (l := [polBLru q b most]) (o_ld (i := 10) (v := .func (.func 54) #[pV b 0] #[])) rfl ?_))))
 refine Sq.e1 [1, 2] (l := lruL b lb most ks n) (o_calld (first := [pV b 0]) (captured := []) (args := []) (by kernel_rfl) (by kernel_rfl) rfl Tryz.call54 (lru_Keys (n := n) (most := most) (ks := ks) (by omega))) rfl ?_; rintro v1 _
 refine Sq.fact (i := 3) (R := rowR 9 1 v1 ((lqKeys most ks).length) ((lqKeys most ks).map Value.string)) (by kernel_rfl) row_slice ?_; rintro ⟨a2, c3, rfl, hc3, hc3'⟩
 have hc3'' : c3 ≤ 9223372036854775807 := hc3'
 refine Sq.vl [5] [.slice a2 ((lqKeys most ks).length) c3] (Sq.d4 (Cd.ret (Ex'.ret Tryz.results16 (RVs.tm (v := .slice a2 ((lqKeys most ks).length) c3) RVs.nil) (fun w hw => ?_))))
 exact ⟨_, ⟨.slice a2 ((lqKeys most ks).length) c3, trivial, rfl, rfl⟩, hw.pk [0, 1, 2, 3]⟩
theorem pol_Keys_lfu {q b qb j n : Nat} {most now : Int} {churn : Bool} {S : List (KR ByteArray)}  (hb : n + j + 10 ≤ 1000000000) (hw0 : 0 ≤ now ∧ now ≤ 1000000000) (ht : TmB 1000000000 S) (hj : S.length ≤ j) : Tri Tryz.prog 16 #[pV q 0] [polBLfu q b (if churn = true then 2 else 1) most, lfuB b qb most now churn, hpS qb S n] (PostE (fun _ => True) (fun v => v) fun v => [polBLfu q b (if churn = true then 2 else 1) most] ++ lfuL b qb most now churn S n ++ [rowR 9 1 v (lfuKeys most now churn S).length ((lfuKeys most now churn S).map Value.string)]) := by
 refine Tri.en (args := [pV q 0]) Tryz.func16 (fun B wz => ?_)
 refine Cd.s1 (Sq.vl [0] [.slice none 0 0] (Sq.d1 (Sq.vl [0, 1, 2] [pV q 0, pV q 0, pV q 10] (Sq.sm [0] (l := [polBLfu q b (if churn = true then 2 else 1) most]) (o_ld (i := 10) (v := .func (.func 65) #[pV b 0] #[])) rfl ?_))))
 refine Sq.e1 [1, 2] (l := lfuL b qb most now churn S n) (o_calld (first := [pV b 0]) (captured := []) (args := []) (by kernel_rfl) (by kernel_rfl) rfl Tryz.call65 (lfu_Keys (n := n) (most := most) (now := now) (churn := churn) (S := S) (by omega))) rfl ?_; rintro v1 _
 refine Sq.fact (i := 3) (R := rowR 9 1 v1 ((lfuKeys most now churn S).length) ((lfuKeys most now churn S).map Value.string)) (by kernel_rfl) row_slice ?_; rintro ⟨a2, c3, rfl, hc3, hc3'⟩
 have hc3'' : c3 ≤ 9223372036854775807 := hc3'
 refine Sq.vl [5] [.slice a2 ((lfuKeys most now churn S).length) c3] (Sq.d4 (Cd.ret (Ex'.ret Tryz.results16 (RVs.tm (v := .slice a2 ((lfuKeys most now churn S).length) c3) RVs.nil) (fun w hw => ?_))))
 exact ⟨_, ⟨.slice a2 ((lfuKeys most now churn S).length) c3, trivial, rfl, rfl⟩, hw.pk [0, 1, 2, 3]⟩
theorem pol_Keys_srl {q b nb ab gb mb j n : Nat} {most target : Int} {ns cs gs : List ByteArray} {ms : List (ByteArray × (Bool × Bool))}  (hb : n + j + 10 ≤ 1000000000) (h0 : 0 ≤ most) (ht : 0 ≤ target ∧ target ≤ 4611686018427387904) (hj : cs.length + ns.length ≤ j) : Tri Tryz.prog 16 #[pV q 0] [polBSrl q b most, srlB b nb ab gb mb most target, llR nb ns n, llR ab cs n, llR gb gs n, mapR Value.string markV mb ms] (PostE (fun _ => True) (fun v => v) fun v => [polBSrl q b most] ++ srlL b nb ab gb mb most target ns cs gs ms n ++ [rowR 9 1 v (srlKeys most target ns cs gs ms).length ((srlKeys most target ns cs gs ms).map Value.string)]) := by
 refine Tri.en (args := [pV q 0]) Tryz.func16 (fun B wz => ?_)
 refine Cd.s1 (Sq.vl [0] [.slice none 0 0] (Sq.d1 (Sq.vl [0, 1, 2] [pV q 0, pV q 0, pV q 10] (Sq.sm [0] (l := [polBSrl q b most]) (o_ld (i := 10) (v := .func (.func 76) #[pV b 0] #[])) rfl ?_))))
 refine Sq.e1 [1, 2, 3, 4, 5] (l := srlL b nb ab gb mb most target ns cs gs ms n) (o_calld (first := [pV b 0]) (captured := []) (args := []) (by kernel_rfl) (by kernel_rfl) rfl Tryz.call76 (srl_Keys (n := n) (most := most) (target := target) (ns := ns) (cs := cs) (gs := gs) (ms := ms) (by omega))) rfl ?_; rintro v1 _
 refine Sq.fact (i := 6) (R := rowR 9 1 v1 ((srlKeys most target ns cs gs ms).length) ((srlKeys most target ns cs gs ms).map Value.string)) (by kernel_rfl) row_slice ?_; rintro ⟨a2, c3, rfl, hc3, hc3'⟩
 have hc3'' : c3 ≤ 9223372036854775807 := hc3'
 refine Sq.vl [5] [.slice a2 ((srlKeys most target ns cs gs ms).length) c3] (Sq.d4 (Cd.ret (Ex'.ret Tryz.results16 (RVs.tm (v := .slice a2 ((srlKeys most target ns cs gs ms).length) c3) RVs.nil) (fun w hw => ?_))))
 exact ⟨_, ⟨.slice a2 ((srlKeys most target ns cs gs ms).length) c3, trivial, rfl, rfl⟩, hw.pk [0, 1, 2, 3, 4, 5, 6]⟩
theorem pol_Keys_arc {q b lt1 lt2 lb1 lb2 j n : Nat} {most p : Int} {t1 t2 b1 b2 : List ByteArray}  (hb : n + j + 10 ≤ 1000000000) (h0 : 0 ≤ most ∧ most ≤ 4611686018427387904) (hp : 0 ≤ p ∧ p ≤ most) (hj : t1.length + t2.length ≤ j) : Tri Tryz.prog 16 #[pV q 0] [polBArc q b most, arcB b lt1 lt2 lb1 lb2 most p, llR lt1 t1 n, llR lt2 t2 n, llR lb1 b1 n, llR lb2 b2 n] (PostE (fun _ => True) (fun v => v) fun v => [polBArc q b most] ++ arcL b lt1 lt2 lb1 lb2 most p t1 t2 b1 b2 n ++ [rowR 9 1 v (arcKeys most p t1 t2 b1 b2).length ((arcKeys most p t1 t2 b1 b2).map Value.string)]) := by
 refine Tri.en (args := [pV q 0]) Tryz.func16 (fun B wz => ?_)
 refine Cd.s1 (Sq.vl [0] [.slice none 0 0] (Sq.d1 (Sq.vl [0, 1, 2] [pV q 0, pV q 0, pV q 10] (Sq.sm [0] (l := [polBArc q b most]) (o_ld (i := 10) (v := .func (.func 87) #[pV b 0] #[])) rfl ?_))))
 refine Sq.e1 [1, 2, 3, 4, 5] (l := arcL b lt1 lt2 lb1 lb2 most p t1 t2 b1 b2 n) (o_calld (first := [pV b 0]) (captured := []) (args := []) (by kernel_rfl) (by kernel_rfl) rfl Tryz.call87 (arc_Keys (n := n) (most := most) (p := p) (t1 := t1) (t2 := t2) (b1 := b1) (b2 := b2) (by omega))) rfl ?_; rintro v1 _
 refine Sq.fact (i := 6) (R := rowR 9 1 v1 ((arcKeys most p t1 t2 b1 b2).length) ((arcKeys most p t1 t2 b1 b2).map Value.string)) (by kernel_rfl) row_slice ?_; rintro ⟨a2, c3, rfl, hc3, hc3'⟩
 have hc3'' : c3 ≤ 9223372036854775807 := hc3'
 refine Sq.vl [5] [.slice a2 ((arcKeys most p t1 t2 b1 b2).length) c3] (Sq.d4 (Cd.ret (Ex'.ret Tryz.results16 (RVs.tm (v := .slice a2 ((arcKeys most p t1 t2 b1 b2).length) c3) RVs.nil) (fun w hw => ?_))))
 exact ⟨_, ⟨.slice a2 ((arcKeys most p t1 t2 b1 b2).length) c3, trivial, rfl, rfl⟩, hw.pk [0, 1, 2, 3, 4, 5, 6]⟩
theorem pol_Ghosts_lru {q b lb j n : Nat} {most : Int} {ks : List ByteArray}  (hb : n + j + 10 ≤ 1000000000) (hj : ks.length ≤ j) : Tri Tryz.prog 22 #[pV q 0] [polBLru q b most, lruB b lb most, llR lb ks n] (Same ([polBLru q b most] ++ lruL b lb most ks n) (.slice none 0 0)) := by
 refine Tri.en (args := [pV q 0]) Tryz.func22 (fun B wz => ?_)
 refine Cd.s1 (Sq.vl [0] [.slice none 0 0] (Sq.d1 (Sq.vl [0, 1, 2] [pV q 0, pV q 0, pV q 11] (Sq.sm [0] (l := [polBLru q b most]) (o_ld (i := 11) (v := .func (.func 55) #[pV b 0] #[])) rfl (Sq.sm [] (l := []) (o_calld (first := [pV b 0]) (captured := []) (args := []) (by kernel_rfl) (by kernel_rfl) rfl Tryz.call55 (lru_Ghosts (b := b))) rfl (Sq.vl [5] [.slice none 0 0] (Sq.d4 (Cd.ret ?_))))))))
 refine Ex'.ret Tryz.results22 (RVs.tm (v := .slice none 0 0) RVs.nil) (fun w hw => ?_)
 exact ⟨_, ⟨rfl, rfl⟩, hw.pk [0, 1, 2]⟩
theorem pol_Ghosts_lfu {q b qb j n : Nat} {most now : Int} {churn : Bool} {S : List (KR ByteArray)}  (hb : n + j + 10 ≤ 1000000000) (hw0 : 0 ≤ now ∧ now ≤ 1000000000) (ht : TmB 1000000000 S) (hj : S.length ≤ j) : Tri Tryz.prog 22 #[pV q 0] [polBLfu q b (if churn = true then 2 else 1) most, lfuB b qb most now churn, hpS qb S n] (Same ([polBLfu q b (if churn = true then 2 else 1) most] ++ lfuL b qb most now churn S n) (.slice none 0 0)) := by
 refine Tri.en (args := [pV q 0]) Tryz.func22 (fun B wz => ?_)
 refine Cd.s1 (Sq.vl [0] [.slice none 0 0] (Sq.d1 (Sq.vl [0, 1, 2] [pV q 0, pV q 0, pV q 11] (Sq.sm [0] (l := [polBLfu q b (if churn = true then 2 else 1) most]) (o_ld (i := 11) (v := .func (.func 66) #[pV b 0] #[])) rfl (Sq.sm [] (l := []) (o_calld (first := [pV b 0]) (captured := []) (args := []) (by kernel_rfl) (by kernel_rfl) rfl Tryz.call66 (lfu_Ghosts (b := b))) rfl (Sq.vl [5] [.slice none 0 0] (Sq.d4 (Cd.ret ?_))))))))
 refine Ex'.ret Tryz.results22 (RVs.tm (v := .slice none 0 0) RVs.nil) (fun w hw => ?_)
 exact ⟨_, ⟨rfl, rfl⟩, hw.pk [0, 1, 2]⟩
theorem pol_Ghosts_srl {q b nb ab gb mb j n : Nat} {most target : Int} {ns cs gs : List ByteArray} {ms : List (ByteArray × (Bool × Bool))}  (hb : n + j + 10 ≤ 1000000000) (h0 : 0 ≤ most) (ht : 0 ≤ target ∧ target ≤ 4611686018427387904) (hj : cs.length + ns.length ≤ j) : Tri Tryz.prog 22 #[pV q 0] [polBSrl q b most, srlB b nb ab gb mb most target, llR nb ns n, llR ab cs n, llR gb gs n, mapR Value.string markV mb ms] (PostE (fun _ => True) (fun v => v) fun v => [polBSrl q b most] ++ srlL b nb ab gb mb most target ns cs gs ms n ++ [rowR 9 1 v (srlGhosts most target ns cs gs ms).length ((srlGhosts most target ns cs gs ms).map Value.string)]) := by
 refine Tri.en (args := [pV q 0]) Tryz.func22 (fun B wz => ?_)
 refine Cd.s1 (Sq.vl [0] [.slice none 0 0] (Sq.d1 (Sq.vl [0, 1, 2] [pV q 0, pV q 0, pV q 11] (Sq.sm [0] (l := [polBSrl q b most]) (o_ld (i := 11) (v := .func (.func 77) #[pV b 0] #[])) rfl ?_))))
 refine Sq.e1 [1, 2, 3, 4, 5] (l := srlL b nb ab gb mb most target ns cs gs ms n) (o_calld (first := [pV b 0]) (captured := []) (args := []) (by kernel_rfl) (by kernel_rfl) rfl Tryz.call77 (srl_Ghosts (n := n) (most := most) (target := target) (ns := ns) (cs := cs) (gs := gs) (ms := ms) (by omega))) rfl ?_; rintro v1 _
 refine Sq.fact (i := 6) (R := rowR 9 1 v1 ((srlGhosts most target ns cs gs ms).length) ((srlGhosts most target ns cs gs ms).map Value.string)) (by kernel_rfl) row_slice ?_; rintro ⟨a2, c3, rfl, hc3, hc3'⟩
 have hc3'' : c3 ≤ 9223372036854775807 := hc3'
 refine Sq.vl [5] [.slice a2 ((srlGhosts most target ns cs gs ms).length) c3] (Sq.d4 (Cd.ret (Ex'.ret Tryz.results22 (RVs.tm (v := .slice a2 ((srlGhosts most target ns cs gs ms).length) c3) RVs.nil) (fun w hw => ?_))))
 exact ⟨_, ⟨.slice a2 ((srlGhosts most target ns cs gs ms).length) c3, trivial, rfl, rfl⟩, hw.pk [0, 1, 2, 3, 4, 5, 6]⟩
theorem pol_Ghosts_arc {q b lt1 lt2 lb1 lb2 j n : Nat} {most p : Int} {t1 t2 b1 b2 : List ByteArray}  (hb : n + j + 10 ≤ 1000000000) (h0 : 0 ≤ most ∧ most ≤ 4611686018427387904) (hp : 0 ≤ p ∧ p ≤ most) (hj : t1.length + t2.length ≤ j) : Tri Tryz.prog 22 #[pV q 0] [polBArc q b most, arcB b lt1 lt2 lb1 lb2 most p, llR lt1 t1 n, llR lt2 t2 n, llR lb1 b1 n, llR lb2 b2 n] (PostE (fun _ => True) (fun v => v) fun v => [polBArc q b most] ++ arcL b lt1 lt2 lb1 lb2 most p t1 t2 b1 b2 n ++ [rowR 9 1 v (arcGhosts most p t1 t2 b1 b2).length ((arcGhosts most p t1 t2 b1 b2).map Value.string)]) := by
 refine Tri.en (args := [pV q 0]) Tryz.func22 (fun B wz => ?_)
 refine Cd.s1 (Sq.vl [0] [.slice none 0 0] (Sq.d1 (Sq.vl [0, 1, 2] [pV q 0, pV q 0, pV q 11] (Sq.sm [0] (l := [polBArc q b most]) (o_ld (i := 11) (v := .func (.func 88) #[pV b 0] #[])) rfl ?_))))
 refine Sq.e1 [1, 2, 3, 4, 5] (l := arcL b lt1 lt2 lb1 lb2 most p t1 t2 b1 b2 n) (o_calld (first := [pV b 0]) (captured := []) (args := []) (by kernel_rfl) (by kernel_rfl) rfl Tryz.call88 (arc_Ghosts (n := n) (most := most) (p := p) (t1 := t1) (t2 := t2) (b1 := b1) (b2 := b2) (by omega))) rfl ?_; rintro v1 _
 refine Sq.fact (i := 6) (R := rowR 9 1 v1 ((arcGhosts most p t1 t2 b1 b2).length) ((arcGhosts most p t1 t2 b1 b2).map Value.string)) (by kernel_rfl) row_slice ?_; rintro ⟨a2, c3, rfl, hc3, hc3'⟩
 have hc3'' : c3 ≤ 9223372036854775807 := hc3'
 refine Sq.vl [5] [.slice a2 ((arcGhosts most p t1 t2 b1 b2).length) c3] (Sq.d4 (Cd.ret (Ex'.ret Tryz.results22 (RVs.tm (v := .slice a2 ((arcGhosts most p t1 t2 b1 b2).length) c3) RVs.nil) (fun w hw => ?_))))
 exact ⟨_, ⟨.slice a2 ((arcGhosts most p t1 t2 b1 b2).length) c3, trivial, rfl, rfl⟩, hw.pk [0, 1, 2, 3, 4, 5, 6]⟩
theorem pol_Kind_lru {q b lb j n : Nat} {most : Int} {ks : List ByteArray}  (hb : n + j + 10 ≤ 1000000000) (hj : ks.length ≤ j) : Tri Tryz.prog 40 #[pV q 0] [polBLru q b most, lruB b lb most, llR lb ks n] (Same ([polBLru q b most] ++ lruL b lb most ks n) (iV 0)) := by
 refine Tri.en (args := [pV q 0]) Tryz.func40 (fun B wz => ?_)
 refine Cd.s1 (Sq.vl [0] [iV 0] (Sq.d1 (Sq.vl [0, 1, 2] [pV q 0, pV q 0, pV q 0] (Sq.sm [0] (l := [polBLru q b most]) (o_ld (i := 0) (v := iV 0)) rfl (Sq.vl [4] [iV 0] (Sq.d4 (Cd.ret (Ex'.ret Tryz.results40 (RVs.tm (v := iV 0) RVs.nil) (fun w hw => ?_)))))))))
 exact ⟨_, ⟨rfl, rfl⟩, hw.pk [0, 1, 2]⟩
theorem pol_Kind_lfu {q b qb j n : Nat} {most now : Int} {churn : Bool} {S : List (KR ByteArray)}  (hb : n + j + 10 ≤ 1000000000) (hw0 : 0 ≤ now ∧ now ≤ 1000000000) (ht : TmB 1000000000 S) (hj : S.length ≤ j) : Tri Tryz.prog 40 #[pV q 0] [polBLfu q b (if churn = true then 2 else 1) most, lfuB b qb most now churn, hpS qb S n] (Same ([polBLfu q b (if churn = true then 2 else 1) most] ++ lfuL b qb most now churn S n) (iV (if churn = true then 2 else 1))) := by
 refine Tri.en (args := [pV q 0]) Tryz.func40 (fun B wz => ?_)
 refine Cd.s1 (Sq.vl [0] [iV 0] (Sq.d1 (Sq.vl [0, 1, 2] [pV q 0, pV q 0, pV q 0] (Sq.sm [0] (l := [polBLfu q b (if churn = true then 2 else 1) most]) (o_ld (i := 0) (v := iV (if churn = true then 2 else 1))) rfl (Sq.vl [4] [iV (if churn = true then 2 else 1)] (Sq.d4 (Cd.ret (Ex'.ret Tryz.results40 (RVs.tm (v := iV (if churn = true then 2 else 1)) RVs.nil) (fun w hw => ?_)))))))))
 exact ⟨_, ⟨rfl, rfl⟩, hw.pk [0, 1, 2]⟩
theorem pol_Kind_srl {q b nb ab gb mb j n : Nat} {most target : Int} {ns cs gs : List ByteArray} {ms : List (ByteArray × (Bool × Bool))}  (hb : n + j + 10 ≤ 1000000000) (h0 : 0 ≤ most) (ht : 0 ≤ target ∧ target ≤ 4611686018427387904) (hj : cs.length + ns.length ≤ j) : Tri Tryz.prog 40 #[pV q 0] [polBSrl q b most, srlB b nb ab gb mb most target, llR nb ns n, llR ab cs n, llR gb gs n, mapR Value.string markV mb ms] (Same ([polBSrl q b most] ++ srlL b nb ab gb mb most target ns cs gs ms n) (iV 3)) := by
 refine Tri.en (args := [pV q 0]) Tryz.func40 (fun B wz => ?_)
 refine Cd.s1 (Sq.vl [0] [iV 0] (Sq.d1 (Sq.vl [0, 1, 2] [pV q 0, pV q 0, pV q 0] (Sq.sm [0] (l := [polBSrl q b most]) (o_ld (i := 0) (v := iV 3)) rfl (Sq.vl [4] [iV 3] (Sq.d4 (Cd.ret (Ex'.ret Tryz.results40 (RVs.tm (v := iV 3) RVs.nil) (fun w hw => ?_)))))))))
 exact ⟨_, ⟨rfl, rfl⟩, hw.pk [0, 1, 2, 3, 4, 5]⟩
theorem pol_Kind_arc {q b lt1 lt2 lb1 lb2 j n : Nat} {most p : Int} {t1 t2 b1 b2 : List ByteArray}  (hb : n + j + 10 ≤ 1000000000) (h0 : 0 ≤ most ∧ most ≤ 4611686018427387904) (hp : 0 ≤ p ∧ p ≤ most) (hj : t1.length + t2.length ≤ j) : Tri Tryz.prog 40 #[pV q 0] [polBArc q b most, arcB b lt1 lt2 lb1 lb2 most p, llR lt1 t1 n, llR lt2 t2 n, llR lb1 b1 n, llR lb2 b2 n] (Same ([polBArc q b most] ++ arcL b lt1 lt2 lb1 lb2 most p t1 t2 b1 b2 n) (iV 4)) := by
 refine Tri.en (args := [pV q 0]) Tryz.func40 (fun B wz => ?_)
 refine Cd.s1 (Sq.vl [0] [iV 0] (Sq.d1 (Sq.vl [0, 1, 2] [pV q 0, pV q 0, pV q 0] (Sq.sm [0] (l := [polBArc q b most]) (o_ld (i := 0) (v := iV 4)) rfl (Sq.vl [4] [iV 4] (Sq.d4 (Cd.ret (Ex'.ret Tryz.results40 (RVs.tm (v := iV 4) RVs.nil) (fun w hw => ?_)))))))))
 exact ⟨_, ⟨rfl, rfl⟩, hw.pk [0, 1, 2, 3, 4, 5]⟩
theorem pol_Most_lru {q b lb j n : Nat} {most : Int} {ks : List ByteArray}  (hb : n + j + 10 ≤ 1000000000) (hj : ks.length ≤ j) : Tri Tryz.prog 29 #[pV q 0] [polBLru q b most, lruB b lb most, llR lb ks n] (Same ([polBLru q b most] ++ lruL b lb most ks n) (iV most)) := by
 refine Tri.en (args := [pV q 0]) Tryz.func29 (fun B wz => ?_)
 refine Cd.s1 (Sq.vl [0] [iV 0] (Sq.d1 (Sq.vl [0, 1, 2] [pV q 0, pV q 0, pV q 1] (Sq.sm [0] (l := [polBLru q b most]) (o_ld (i := 1) (v := iV most)) rfl (Sq.vl [4] [iV most] (Sq.d4 (Cd.ret (Ex'.ret Tryz.results29 (RVs.tm (v := iV most) RVs.nil) (fun w hw => ?_)))))))))
 exact ⟨_, ⟨rfl, rfl⟩, hw.pk [0, 1, 2]⟩
theorem pol_Most_lfu {q b qb j n : Nat} {most now : Int} {churn : Bool} {S : List (KR ByteArray)}  (hb : n + j + 10 ≤ 1000000000) (hw0 : 0 ≤ now ∧ now ≤ 1000000000) (ht : TmB 1000000000 S) (hj : S.length ≤ j) : Tri Tryz.prog 29 #[pV q 0] [polBLfu q b (if churn = true then 2 else 1) most, lfuB b qb most now churn, hpS qb S n] (Same ([polBLfu q b (if churn = true then 2 else 1) most] ++ lfuL b qb most now churn S n) (iV most)) := by
 refine Tri.en (args := [pV q 0]) Tryz.func29 (fun B wz => ?_)
 refine Cd.s1 (Sq.vl [0] [iV 0] (Sq.d1 (Sq.vl [0, 1, 2] [pV q 0, pV q 0, pV q 1] (Sq.sm [0] (l := [polBLfu q b (if churn = true then 2 else 1) most]) (o_ld (i := 1) (v := iV most)) rfl (Sq.vl [4] [iV most] (Sq.d4 (Cd.ret (Ex'.ret Tryz.results29 (RVs.tm (v := iV most) RVs.nil) (fun w hw => ?_)))))))))
 exact ⟨_, ⟨rfl, rfl⟩, hw.pk [0, 1, 2]⟩
theorem pol_Most_srl {q b nb ab gb mb j n : Nat} {most target : Int} {ns cs gs : List ByteArray} {ms : List (ByteArray × (Bool × Bool))}  (hb : n + j + 10 ≤ 1000000000) (h0 : 0 ≤ most) (ht : 0 ≤ target ∧ target ≤ 4611686018427387904) (hj : cs.length + ns.length ≤ j) : Tri Tryz.prog 29 #[pV q 0] [polBSrl q b most, srlB b nb ab gb mb most target, llR nb ns n, llR ab cs n, llR gb gs n, mapR Value.string markV mb ms] (Same ([polBSrl q b most] ++ srlL b nb ab gb mb most target ns cs gs ms n) (iV most)) := by
 refine Tri.en (args := [pV q 0]) Tryz.func29 (fun B wz => ?_)
 refine Cd.s1 (Sq.vl [0] [iV 0] (Sq.d1 (Sq.vl [0, 1, 2] [pV q 0, pV q 0, pV q 1] (Sq.sm [0] (l := [polBSrl q b most]) (o_ld (i := 1) (v := iV most)) rfl (Sq.vl [4] [iV most] (Sq.d4 (Cd.ret (Ex'.ret Tryz.results29 (RVs.tm (v := iV most) RVs.nil) (fun w hw => ?_)))))))))
 exact ⟨_, ⟨rfl, rfl⟩, hw.pk [0, 1, 2, 3, 4, 5]⟩
theorem pol_Most_arc {q b lt1 lt2 lb1 lb2 j n : Nat} {most p : Int} {t1 t2 b1 b2 : List ByteArray}  (hb : n + j + 10 ≤ 1000000000) (h0 : 0 ≤ most ∧ most ≤ 4611686018427387904) (hp : 0 ≤ p ∧ p ≤ most) (hj : t1.length + t2.length ≤ j) : Tri Tryz.prog 29 #[pV q 0] [polBArc q b most, arcB b lt1 lt2 lb1 lb2 most p, llR lt1 t1 n, llR lt2 t2 n, llR lb1 b1 n, llR lb2 b2 n] (Same ([polBArc q b most] ++ arcL b lt1 lt2 lb1 lb2 most p t1 t2 b1 b2 n) (iV most)) := by
 refine Tri.en (args := [pV q 0]) Tryz.func29 (fun B wz => ?_)
 refine Cd.s1 (Sq.vl [0] [iV 0] (Sq.d1 (Sq.vl [0, 1, 2] [pV q 0, pV q 0, pV q 1] (Sq.sm [0] (l := [polBArc q b most]) (o_ld (i := 1) (v := iV most)) rfl (Sq.vl [4] [iV most] (Sq.d4 (Cd.ret (Ex'.ret Tryz.results29 (RVs.tm (v := iV most) RVs.nil) (fun w hw => ?_)))))))))
 exact ⟨_, ⟨rfl, rfl⟩, hw.pk [0, 1, 2, 3, 4, 5]⟩
theorem pol_Resize_lru {q b lb j n' n : Nat} {most : Int} {ks : List ByteArray} (mo : Int) (hb : n + j + 10 ≤ 1000000000) (hn : n + j + 5 ≤ n') (hj : ks.length ≤ j) (hmo : 0 ≤ mo ∧ mo ≤ 16777216) : Tri Tryz.prog 28 #[pV q 0, iV mo] [polBLru q b most, lruB b lb most, llR lb ks n] (PostE (fun _ => True) (fun v => .tuple #[v, .nilIface]) fun v => [polBLru q b ((lqResize most ks mo).1)] ++ lruL b lb ((lqResize most ks mo).1) ((lqResize most ks mo).2.1) n' ++ [rowR 9 1 v ((lqResize most ks mo).2.2).length (((lqResize most ks mo).2.2).map Value.string)]) := by
 refine Tri.en (args := [pV q 0, iV mo]) Tryz.func28 (fun B wz => ?_)
 have hcap : (lqResize most ks mo).1 = mo := by unfold lqResize; dsimp only; rw [if_neg (show ¬ (0 : Int) > mo by omega)]
 refine Cd.s1 (Sq.vl [0, 1] [.slice none 0 0, .nilIface] (Sq.d4 (Cd.seq (Cd.s1 (Sq.vl [0] [iV mo] (Sq.sm [] (l := []) (o_cl Tryz.call44 ((t_right (m := mo)).re (vT hmo))) rfl (Sq.vl [2] [bV false] (Sq.d4 (Cd.cF ?_)))))))))
 refine Cd.skip (Ex'.next (Cd.s1 (Sq.vl [0, 1, 2, 3] [pV q 0, iV mo, pV q 0, pV q 1] (Sq.sm [0] (l := [polBLru q b most]) (o_st (i := 1) (v := iV mo)) rfl (Sq.d1 (Sq.vl [0, 1, 2] [pV q 0, pV q 0, pV q 9] (Sq.sm [0] (l := [polBLru q b mo]) (o_ld (i := 9) (v := .func (.func 53) #[pV b 0] #[])) rfl (Sq.vl [4] [iV mo] ?_))))))))
 refine Sq.e1 [1, 2] (l := [lruB b lb most, llR lb ks n]) (o_calld (first := [pV b 0]) (captured := []) (args := [iV mo]) (by kernel_rfl) (by kernel_rfl) rfl Tryz.call53 (lru_Resize (most := most) (ks := ks) (n := n) mo (by omega) (by omega))) rfl ?_; rintro v1 _
 refine Sq.fact (i := 3) (R := rowR 9 1 v1 (((lqResize most ks mo).2.2).length) (((lqResize most ks mo).2.2).map Value.string)) (by kernel_rfl) row_slice ?_; rintro ⟨a2, c3, rfl, hc3, hc3'⟩
 have hc3'' : c3 ≤ 9223372036854775807 := hc3'
 refine Sq.vl [6, 7] [.slice a2 (((lqResize most ks mo).2.2).length) c3, .nilIface] (Sq.d4 (Cd.ret (Ex'.ret Tryz.results28 (RVs.tm (v := .slice a2 (((lqResize most ks mo).2.2).length) c3) (RVs.tmp (v := .nilIface) (by kernel_rfl) RVs.nil)) (fun w hw => ?_))))
 exact ⟨_, ⟨.slice a2 (((lqResize most ks mo).2.2).length) c3, trivial, rfl, rfl⟩, ((hw.cv 0 (R := polBLru q b mo) (R' := polBLru q b ((lqResize most ks mo).1)) (fun w T z => by first | exact z | (rw [hcap] at z; exact z) | (rw [hcap]; exact z))).cv 2 (R := llR lb ((lqResize most ks mo).2.1) n) (R' := llR lb ((lqResize most ks mo).2.1) n') (llR.up (by omega))).pk [0, 1, 2, 3]⟩
theorem pol_Resize_lfu {q b qb j n' n : Nat} {most now : Int} {churn : Bool} {S : List (KR ByteArray)} (mo : Int) (hb : n + j + 10 ≤ 1000000000) (hn : n + j + 5 ≤ n') (hw0 : 0 ≤ now ∧ now ≤ 1000000000) (ht : TmB 1000000000 S) (hj : S.length ≤ j) (hmo : 0 ≤ mo ∧ mo ≤ 16777216) : Tri Tryz.prog 28 #[pV q 0, iV mo] [polBLfu q b (if churn = true then 2 else 1) most, lfuB b qb most now churn, hpS qb S n] (PostE (fun _ => True) (fun v => .tuple #[v, .nilIface]) fun v => [polBLfu q b (if churn = true then 2 else 1) ((lfuResize most now churn S mo).1)] ++ lfuL b qb ((lfuResize most now churn S mo).1) now churn ((lfuResize most now churn S mo).2.1) n' ++ [rowR 9 1 v ((lfuResize most now churn S mo).2.2).length (((lfuResize most now churn S mo).2.2).map Value.string)]) := by
 refine Tri.en (args := [pV q 0, iV mo]) Tryz.func28 (fun B wz => ?_)
 have hcap : (lfuResize most now churn S mo).1 = mo := by unfold lfuResize lfuM; dsimp only; rw [if_neg (show ¬ (0 : Int) > mo by omega)]
 refine Cd.s1 (Sq.vl [0, 1] [.slice none 0 0, .nilIface] (Sq.d4 (Cd.seq (Cd.s1 (Sq.vl [0] [iV mo] (Sq.sm [] (l := []) (o_cl Tryz.call44 ((t_right (m := mo)).re (vT hmo))) rfl (Sq.vl [2] [bV false] (Sq.d4 (Cd.cF ?_)))))))))
 refine Cd.skip (Ex'.next (Cd.s1 (Sq.vl [0, 1, 2, 3] [pV q 0, iV mo, pV q 0, pV q 1] (Sq.sm [0] (l := [polBLfu q b (if churn = true then 2 else 1) most]) (o_st (i := 1) (v := iV mo)) rfl (Sq.d1 (Sq.vl [0, 1, 2] [pV q 0, pV q 0, pV q 9] (Sq.sm [0] (l := [polBLfu q b (if churn = true then 2 else 1) mo]) (o_ld (i := 9) (v := .func (.func 64) #[pV b 0] #[])) rfl (Sq.vl [4] [iV mo] ?_))))))))
 refine Sq.e1 [1, 2] (l := [lfuB b qb most now churn, hpS qb S n]) (o_calld (first := [pV b 0]) (captured := []) (args := [iV mo]) (by kernel_rfl) (by kernel_rfl) rfl Tryz.call64 (lfu_Resize (most := most) (now := now) (churn := churn) (S := S) (n := n) mo (by omega) (by omega))) rfl ?_; rintro v1 _
 refine Sq.fact (i := 3) (R := rowR 9 1 v1 (((lfuResize most now churn S mo).2.2).length) (((lfuResize most now churn S mo).2.2).map Value.string)) (by kernel_rfl) row_slice ?_; rintro ⟨a2, c3, rfl, hc3, hc3'⟩
 have hc3'' : c3 ≤ 9223372036854775807 := hc3'
 refine Sq.vl [6, 7] [.slice a2 (((lfuResize most now churn S mo).2.2).length) c3, .nilIface] (Sq.d4 (Cd.ret (Ex'.ret Tryz.results28 (RVs.tm (v := .slice a2 (((lfuResize most now churn S mo).2.2).length) c3) (RVs.tmp (v := .nilIface) (by kernel_rfl) RVs.nil)) (fun w hw => ?_))))
 exact ⟨_, ⟨.slice a2 (((lfuResize most now churn S mo).2.2).length) c3, trivial, rfl, rfl⟩, ((hw.cv 0 (R := polBLfu q b (if churn = true then 2 else 1) mo) (R' := polBLfu q b (if churn = true then 2 else 1) ((lfuResize most now churn S mo).1)) (fun w T z => by first | exact z | (rw [hcap] at z; exact z) | (rw [hcap]; exact z))).cv 2 (R := hpS qb ((lfuResize most now churn S mo).2.1) n) (R' := hpS qb ((lfuResize most now churn S mo).2.1) n') (hpS.up (by omega))).pk [0, 1, 2, 3]⟩
theorem pol_Resize_srl {q b nb ab gb mb j n' n : Nat} {most target : Int} {ns cs gs : List ByteArray} {ms : List (ByteArray × (Bool × Bool))} (mo : Int) (hb : n + j + 10 ≤ 1000000000) (hn : n + j + 5 ≤ n') (h0 : 0 ≤ most) (ht : 0 ≤ target ∧ target ≤ 4611686018427387904) (hj : cs.length + ns.length ≤ j) (hmo : 0 ≤ mo ∧ mo ≤ 16777216) : Tri Tryz.prog 28 #[pV q 0, iV mo] [polBSrl q b most, srlB b nb ab gb mb most target, llR nb ns n, llR ab cs n, llR gb gs n, mapR Value.string markV mb ms] (PostE (fun _ => True) (fun v => .tuple #[v, .nilIface]) fun v => [polBSrl q b ((srlResize most target ns cs gs ms mo).1)] ++ srlL b nb ab gb mb ((srlResize most target ns cs gs ms mo).1) ((srlResize most target ns cs gs ms mo).2.1) ((srlResize most target ns cs gs ms mo).2.2.1) ((srlResize most target ns cs gs ms mo).2.2.2.1) ((srlResize most target ns cs gs ms mo).2.2.2.2.1) ((srlResize most target ns cs gs ms mo).2.2.2.2.2.1) n' ++ [rowR 9 1 v ((srlResize most target ns cs gs ms mo).2.2.2.2.2.2).length (((srlResize most target ns cs gs ms mo).2.2.2.2.2.2).map Value.string)]) := by
 refine Tri.en (args := [pV q 0, iV mo]) Tryz.func28 (fun B wz => ?_)
 have hcap : (srlResize most target ns cs gs ms mo).1 = mo := by unfold srlResize; dsimp only; rw [if_neg (show ¬ (0 : Int) > mo by omega)]
 refine Cd.s1 (Sq.vl [0, 1] [.slice none 0 0, .nilIface] (Sq.d4 (Cd.seq (Cd.s1 (Sq.vl [0] [iV mo] (Sq.sm [] (l := []) (o_cl Tryz.call44 ((t_right (m := mo)).re (vT hmo))) rfl (Sq.vl [2] [bV false] (Sq.d4 (Cd.cF ?_)))))))))
 refine Cd.skip (Ex'.next (Cd.s1 (Sq.vl [0, 1, 2, 3] [pV q 0, iV mo, pV q 0, pV q 1] (Sq.sm [0] (l := [polBSrl q b most]) (o_st (i := 1) (v := iV mo)) rfl (Sq.d1 (Sq.vl [0, 1, 2] [pV q 0, pV q 0, pV q 9] (Sq.sm [0] (l := [polBSrl q b mo]) (o_ld (i := 9) (v := .func (.func 75) #[pV b 0] #[])) rfl (Sq.vl [4] [iV mo] ?_))))))))
 refine Sq.e1 [1, 2, 3, 4, 5] (l := srlL b nb ab gb mb most target ns cs gs ms n) (o_calld (first := [pV b 0]) (captured := []) (args := [iV mo]) (by kernel_rfl) (by kernel_rfl) rfl Tryz.call75 (srl_Resize (n := n) (n' := n + ns.length + cs.length) (most := most) (target := target) (ns := ns) (cs := cs) (gs := gs) (ms := ms) mo (by omega) (by omega))) rfl ?_; rintro v1 _
 refine Sq.fact (i := 6) (R := rowR 9 1 v1 (((srlResize most target ns cs gs ms mo).2.2.2.2.2.2).length) (((srlResize most target ns cs gs ms mo).2.2.2.2.2.2).map Value.string)) (by kernel_rfl) row_slice ?_; rintro ⟨a2, c3, rfl, hc3, hc3'⟩
 have hc3'' : c3 ≤ 9223372036854775807 := hc3'
 refine Sq.vl [6, 7] [.slice a2 (((srlResize most target ns cs gs ms mo).2.2.2.2.2.2).length) c3, .nilIface] (Sq.d4 (Cd.ret (Ex'.ret Tryz.results28 (RVs.tm (v := .slice a2 (((srlResize most target ns cs gs ms mo).2.2.2.2.2.2).length) c3) (RVs.tmp (v := .nilIface) (by kernel_rfl) RVs.nil)) (fun w hw => ?_))))
 exact ⟨_, ⟨.slice a2 (((srlResize most target ns cs gs ms mo).2.2.2.2.2.2).length) c3, trivial, rfl, rfl⟩, ((((hw.cv 0 (R := polBSrl q b mo) (R' := polBSrl q b ((srlResize most target ns cs gs ms mo).1)) (fun w T z => by first | exact z | (rw [hcap] at z; exact z) | (rw [hcap]; exact z))).cv 2 (R := llR nb ((srlResize most target ns cs gs ms mo).2.2.1) (n + ns.length + cs.length)) (R' := llR nb ((srlResize most target ns cs gs ms mo).2.2.1) n') (llR.up (by omega))).cv 3 (R := llR ab ((srlResize most target ns cs gs ms mo).2.2.2.1) (n + ns.length + cs.length)) (R' := llR ab ((srlResize most target ns cs gs ms mo).2.2.2.1) n') (llR.up (by omega))).cv 4 (R := llR gb ((srlResize most target ns cs gs ms mo).2.2.2.2.1) (n + ns.length + cs.length)) (R' := llR gb ((srlResize most target ns cs gs ms mo).2.2.2.2.1) n') (llR.up (by omega))).pk [0, 1, 2, 3, 4, 5, 6]⟩
theorem pol_Resize_arc {q b lt1 lt2 lb1 lb2 j n' n : Nat} {most p : Int} {t1 t2 b1 b2 : List ByteArray} (mo : Int) (hb : n + j + 10 ≤ 1000000000) (hn : n + j + 5 ≤ n') (h0 : 0 ≤ most ∧ most ≤ 4611686018427387904) (hp : 0 ≤ p ∧ p ≤ most) (hj : t1.length + t2.length ≤ j) (hmo : 0 ≤ mo ∧ mo ≤ 16777216) : Tri Tryz.prog 28 #[pV q 0, iV mo] [polBArc q b most, arcB b lt1 lt2 lb1 lb2 most p, llR lt1 t1 n, llR lt2 t2 n, llR lb1 b1 n, llR lb2 b2 n] (PostE (fun _ => True) (fun v => .tuple #[v, .nilIface]) fun v => [polBArc q b ((arcResize most p t1 t2 b1 b2 mo).1)] ++ arcL b lt1 lt2 lb1 lb2 ((arcResize most p t1 t2 b1 b2 mo).1) ((arcResize most p t1 t2 b1 b2 mo).2.1) ((arcResize most p t1 t2 b1 b2 mo).2.2.1) ((arcResize most p t1 t2 b1 b2 mo).2.2.2.1) ((arcResize most p t1 t2 b1 b2 mo).2.2.2.2.1) ((arcResize most p t1 t2 b1 b2 mo).2.2.2.2.2.1) n' ++ [rowR 9 1 v ((arcResize most p t1 t2 b1 b2 mo).2.2.2.2.2.2).length (((arcResize most p t1 t2 b1 b2 mo).2.2.2.2.2.2).map Value.string)]) := by
 refine Tri.en (args := [pV q 0, iV mo]) Tryz.func28 (fun B wz => ?_)
 have hcap : (arcResize most p t1 t2 b1 b2 mo).1 = mo := by unfold arcResize arcResM; dsimp only; rw [if_neg (show ¬ (0 : Int) > mo by omega)]
 refine Cd.s1 (Sq.vl [0, 1] [.slice none 0 0, .nilIface] (Sq.d4 (Cd.seq (Cd.s1 (Sq.vl [0] [iV mo] (Sq.sm [] (l := []) (o_cl Tryz.call44 ((t_right (m := mo)).re (vT hmo))) rfl (Sq.vl [2] [bV false] (Sq.d4 (Cd.cF ?_)))))))))
 refine Cd.skip (Ex'.next (Cd.s1 (Sq.vl [0, 1, 2, 3] [pV q 0, iV mo, pV q 0, pV q 1] (Sq.sm [0] (l := [polBArc q b most]) (o_st (i := 1) (v := iV mo)) rfl (Sq.d1 (Sq.vl [0, 1, 2] [pV q 0, pV q 0, pV q 9] (Sq.sm [0] (l := [polBArc q b mo]) (o_ld (i := 9) (v := .func (.func 86) #[pV b 0] #[])) rfl (Sq.vl [4] [iV mo] ?_))))))))
 refine Sq.e1 [1, 2, 3, 4, 5] (l := arcL b lt1 lt2 lb1 lb2 most p t1 t2 b1 b2 n) (o_calld (first := [pV b 0]) (captured := []) (args := [iV mo]) (by kernel_rfl) (by kernel_rfl) rfl Tryz.call86 (arc_Resize (n := n) (n' := n + t1.length + t2.length) (most := most) (p := p) (t1 := t1) (t2 := t2) (b1 := b1) (b2 := b2) mo (by omega) (by omega) (by omega) (by omega))) rfl ?_; rintro v1 _
 refine Sq.fact (i := 6) (R := rowR 9 1 v1 (((arcResize most p t1 t2 b1 b2 mo).2.2.2.2.2.2).length) (((arcResize most p t1 t2 b1 b2 mo).2.2.2.2.2.2).map Value.string)) (by kernel_rfl) row_slice ?_; rintro ⟨a2, c3, rfl, hc3, hc3'⟩
 have hc3'' : c3 ≤ 9223372036854775807 := hc3'
 refine Sq.vl [6, 7] [.slice a2 (((arcResize most p t1 t2 b1 b2 mo).2.2.2.2.2.2).length) c3, .nilIface] (Sq.d4 (Cd.ret (Ex'.ret Tryz.results28 (RVs.tm (v := .slice a2 (((arcResize most p t1 t2 b1 b2 mo).2.2.2.2.2.2).length) c3) (RVs.tmp (v := .nilIface) (by kernel_rfl) RVs.nil)) (fun w hw => ?_))))
 exact ⟨_, ⟨.slice a2 (((arcResize most p t1 t2 b1 b2 mo).2.2.2.2.2.2).length) c3, trivial, rfl, rfl⟩, (((((hw.cv 0 (R := polBArc q b mo) (R' := polBArc q b ((arcResize most p t1 t2 b1 b2 mo).1)) (fun w T z => by first | exact z | (rw [hcap] at z; exact z) | (rw [hcap]; exact z))).cv 2 (R := llR lt1 ((arcResize most p t1 t2 b1 b2 mo).2.2.1) (n + t1.length + t2.length)) (R' := llR lt1 ((arcResize most p t1 t2 b1 b2 mo).2.2.1) n') (llR.up (by omega))).cv 3 (R := llR lt2 ((arcResize most p t1 t2 b1 b2 mo).2.2.2.1) (n + t1.length + t2.length)) (R' := llR lt2 ((arcResize most p t1 t2 b1 b2 mo).2.2.2.1) n') (llR.up (by omega))).cv 4 (R := llR lb1 ((arcResize most p t1 t2 b1 b2 mo).2.2.2.2.1) (n + t1.length + t2.length)) (R' := llR lb1 ((arcResize most p t1 t2 b1 b2 mo).2.2.2.2.1) n') (llR.up (by omega))).cv 5 (R := llR lb2 ((arcResize most p t1 t2 b1 b2 mo).2.2.2.2.2.1) (n + t1.length + t2.length)) (R' := llR lb2 ((arcResize most p t1 t2 b1 b2 mo).2.2.2.2.2.1) n') (llR.up (by omega))).pk [0, 1, 2, 3, 4, 5, 6]⟩
end Go.Proofs.YtholinnmjoelkaaGreatDoor
namespace Go.Proofs.YtholinnmjoelkaaGreatDoor
structure LqI (most : Int) (ks : LB) : Prop where
  nd : ks.Nodup
  h0 : 0 ≤ most
  len : (ks.length : Int) ≤ most
section
variable {most : Int} {ks : LB} {key : ByteArray}
theorem LqI.new (h : 0 ≤ most) : LqI most [] := ⟨by simp, h, by simpa using h⟩
theorem lqNew_nn (h : 0 ≤ most) : lqNew most = (most, []) := by unfold lqNew; rw [if_neg (by omega)]
theorem LqI.req (h : LqI most ks) (key : ByteArray) {x} (hx : lqReq most ks key = x) : LqI most x.1 ∧ (0 < most → ReqP most ks.reverse key x.1.reverse x.2.1 x.2.2.1 x.2.2.2) ∧ (most = 0 → x = (ks, decide (key ∈ ks), ⟨#[]⟩, false)) := by
  have h0 := h.h0; have hl := h.len; have hn := nodup_cn.1 h.nd
  unfold lqReq at hx
  by_cases hm : most = 0
  · rw [if_pos hm] at hx; subst hx; exact ⟨h, fun q => by omega, fun _ => rfl⟩
  rw [if_neg hm] at hx
  by_cases hk : key ∈ ks
  · rw [if_neg (fun q => q hk), decide_eq_true hk] at hx
    subst hx
    have c1 := cn_mem.1 hk
    have f1 := len_fr ks key
    have nk := hn key
    refine ⟨⟨nodup_cn.2 fun k => by rw [cn_fr]; have := hn k; split <;> omega, h0, by dsimp only; omega⟩, fun _ => ⟨fun k => ?_, ?_, ?_, ?_, fun q => (by cases q), fun _ => rfl⟩, fun q => absurd q hm⟩
    · rw [cn_rev, cn_rev, cn_fr]; simp only [Bool.false_eq_true, false_and, if_false, Nat.sub_zero]
    · simp only [List.length_reverse, if_true, Bool.false_eq_true, if_false]; omega
    · simp [hk]
    · simp [hk]
  · rw [if_pos hk, decide_eq_false hk] at hx
    have c1 := cn_zero hk
    by_cases hf : (ks.length : Int) ≥ most
    · rw [if_pos hf] at hx
      have hpos : 0 < ks.length := by omega
      rw [decide_eq_true hpos, show ks.getLast?.getD ⟨#[]⟩ = lastOf ks from rfl] at hx
      subst hx
      have hd := fun k => cn_dl hpos k
      have cl := cn_last hpos
      have hkl : key ≠ lastOf ks := fun e => by rw [e] at c1; omega
      have f1 := len_fr ks.dropLast key
      have d1 := len_dl ks
      have dk := hd key
      rw [if_neg hkl] at dk
      refine ⟨⟨nodup_cn.2 fun k => by rw [cn_fr]; have := hn k; have := hd k; split <;> omega, h0, by dsimp only; omega⟩, fun _ => ⟨fun k => ?_, ?_, ?_, ?_, fun _ => ?_, fun q => by cases q⟩, fun q => absurd q hm⟩
      · rw [cn_rev, cn_rev, cn_fr]
        have := hd k
        by_cases q : k = key
        · rw [if_pos q, if_pos q]
        · rw [if_neg q, if_neg q]
          by_cases q2 : k = lastOf ks
          · rw [if_pos ⟨rfl, q2⟩]; rw [if_pos q2] at this; omega
          · rw [if_neg (fun w => q2 w.2)]; rw [if_neg q2] at this; omega
      · simp only [List.length_reverse, if_true, Bool.false_eq_true, if_false]; omega
      · simp [hk]
      · have : (ks.length : Int) = most := by omega
        simp [hk, this]
      · exact List.mem_reverse.2 (cn_mem.2 cl)
    · rw [if_neg hf] at hx
      subst hx
      have f1 := len_fr ks key
      refine ⟨⟨nodup_cn.2 fun k => by rw [cn_fr]; have := hn k; split <;> omega, h0, by dsimp only; omega⟩, fun _ => ⟨fun k => ?_, ?_, ?_, ?_, fun q => (by cases q), fun _ => rfl⟩, fun q => absurd q hm⟩
      · rw [cn_rev, cn_rev, cn_fr]; simp only [Bool.false_eq_true, false_and, if_false, Nat.sub_zero]
      · simp only [List.length_reverse, Bool.false_eq_true, if_false]; omega
      · simp [hk]
      · have : ¬ (ks.length : Int) = most := by omega
        simp [hk, this]
theorem LqI.remove (h : LqI most ks) (key : ByteArray) {x} (hx : lqRemove most ks key = x) : LqI most x.1 ∧ RemP ks.reverse key x.1.reverse [] x.2 := by
  have hn := nodup_cn.1 h.nd; have hl := h.len; have r1 := len_rm ks key
  unfold lqRemove at hx
  subst hx
  refine ⟨⟨nodup_cn.2 fun k => by rw [cn_rm]; have := hn k; split <;> omega, h.h0, by dsimp only; omega⟩, by simp, fun k => by rw [cn_rev, cn_rev, cn_rm], by rw [cn_rev, List.length_reverse, List.length_reverse]; exact r1, by simp⟩
theorem LqI.adopt (h : LqI most ks) (key : ByteArray) {x} (hx : lqAdopt most ks key = x) : LqI most x.1 ∧ AdoP most ks.reverse key x.1.reverse [] x.2 := by
  have hn := nodup_cn.1 h.nd; have hl := h.len
  unfold lqAdopt at hx
  by_cases hk : key ∈ ks
  · rw [if_pos hk] at hx; subst hx
    exact ⟨h, by simp [hk], fun q => (by cases q), fun q => (by cases q), fun q => (by cases q), fun _ => rfl⟩
  · rw [if_neg hk] at hx
    by_cases hf : (ks.length : Int) ≥ most
    · rw [if_pos hf] at hx; subst hx
      exact ⟨h, by simp [hk]; omega, fun q => (by cases q), fun q => (by cases q), fun q => (by cases q), fun _ => rfl⟩
    · rw [if_neg hf] at hx; subst hx
      have f1 := len_fr ks key
      have c1 := cn_zero hk
      exact ⟨⟨nodup_cn.2 fun k => by rw [cn_fr]; have := hn k; split <;> omega, h.h0, by dsimp only; omega⟩, by simp [hk]; omega, fun _ k => by rw [cn_rev, cn_rev, cn_fr], fun _ => by rw [List.length_reverse, List.length_reverse]; dsimp only; omega, fun _ => by simp, fun q => by cases q⟩
theorem LqI.drop (h : LqI most ks) {x} (hx : lqDrop most ks = x) : LqI most x.1 ∧ DroP ks.reverse [] x.1.reverse [] x.2.1 x.2.2 ∧ lqVictim most ks = x.2 := by
  have hn := nodup_cn.1 h.nd; have hl := h.len; have d1 := len_dl ks
  unfold lqDrop at hx
  subst hx
  refine ⟨⟨h.nd.sublist (List.dropLast_sublist _), h.h0, by dsimp only; omega⟩, ⟨by simp, fun q => ?_, fun q k => ?_, fun q => ?_, fun q => ?_, rfl⟩, rfl⟩
  · have hpos := of_decide_eq_true q
    exact List.mem_reverse.2 (cn_mem.2 (cn_last hpos))
  · have hpos := of_decide_eq_true q
    have := cn_dl hpos k
    rw [cn_rev, cn_rev, show ks.getLast?.getD ⟨#[]⟩ = lastOf ks from rfl]
    split at this <;> rename_i e
    · rw [if_pos e]; dsimp only; omega
    · rw [if_neg e]; dsimp only; omega
  · have hpos := of_decide_eq_true q
    rw [List.length_reverse, List.length_reverse]; dsimp only; omega
  · have := of_decide_eq_false q
    have e : ks = [] := List.eq_nil_of_length_eq_zero (by omega)
    subst e; rfl
theorem lqRszL_spec {M : Int} (hM : 0 ≤ M) : ∀ (n : Nat) (ks : LB), ks.length ≤ n → ks.Nodup → (lqRszL M n ks).1.Nodup ∧ ((lqRszL M n ks).1.length : Int) ≤ M ∧ (∀ k, cn (lqRszL M n ks).1 k + cn (lqRszL M n ks).2 k = cn ks k) ∧
    (lqRszL M n ks).1.length + (lqRszL M n ks).2.length = ks.length ∧ ((lqRszL M n ks).2.length : Int) = if (ks.length : Int) - M > 0 then (ks.length : Int) - M else 0
  | 0, ks, h, hn => by
    have e : ks = [] := List.eq_nil_of_length_eq_zero (by omega)
    subst e
    exact ⟨by simp [lqRszL], by simpa [lqRszL] using hM, fun k => rfl, rfl, by simp only [lqRszL, List.length_nil]; split <;> omega⟩
  | n + 1, ks, h, hn => by
    by_cases hc : (ks.length : Int) > M
    · rw [lqRszL, if_pos hc]
      have hpos : 0 < ks.length := by omega
      have d1 := len_dl ks
      obtain ⟨h1, h2, h3, h4, h5⟩ := lqRszL_spec hM n ks.dropLast (by omega) (hn.sublist (List.dropLast_sublist _))
      refine ⟨h1, h2, fun k => ?_, ?_, ?_⟩
      · have := h3 k; have e := cn_dl hpos k
        have g : cn (ks.getLast?.getD ⟨#[]⟩ :: (lqRszL M n ks.dropLast).2) k = cn (lqRszL M n ks.dropLast).2 k + (if k = lastOf ks then 1 else 0) := cn_cons _ _ _
        dsimp only
        rw [g]; omega
      · simp only [List.length_cons]; omega
      · simp only [List.length_cons]
        rw [if_pos (by omega)]
        split at h5 <;> omega
    · rw [lqRszL_stop hc]
      exact ⟨hn, by show (ks.length : Int) ≤ M; omega, fun k => rfl, rfl, by show ((0 : Nat) : Int) = _; rw [if_neg (by omega)]; rfl⟩
theorem LqI.resize (h : LqI most ks) {mo : Int} (hm : 0 ≤ mo) {x} (hx : lqResize most ks mo = x) : x.1 = mo ∧ LqI mo x.2.1 ∧ RszP mo ks.reverse x.2.1.reverse x.2.2 := by
  unfold lqResize at hx
  dsimp only at hx
  rw [if_neg (by omega)] at hx
  obtain ⟨h1, h2, h3, h4, h5⟩ := lqRszL_spec hm ks.length ks (Nat.le_refl _) h.nd
  subst hx
  exact ⟨rfl, ⟨h1, hm, h2⟩, fun k => by rw [cn_rev, cn_rev]; exact h3 k, by rw [List.length_reverse, List.length_reverse]; exact h4, by rw [List.length_reverse]; exact h5⟩
end
end Go.Proofs.YtholinnmjoelkaaGreatDoor
