/- LfuW -/
import Derived.Test.YtholinnmjoelkaaGreatDoorM16
set_option linter.unusedVariables false
set_option linter.unusedSimpArgs false
namespace Go.Proofs.YtholinnmjoelkaaGreatDoor
set_option maxHeartbeats 8000000
set_option maxRecDepth 100000
open Go.RowKit Go.MapKept
abbrev lfuB (b qb : Nat) (most now : Int) (churn : Bool) : Res := blkR b [iV most, iV now, bV churn, pV qb 0] 168
abbrev lfuL (b qb : Nat) (most now : Int) (churn : Bool) (S : List (KR ByteArray)) (n : Nat) : List Res := [lfuB b qb most now churn, hpS qb S n]
def tms (S : List (KR ByteArray)) (k : ByteArray) : Int := ((lk S k).getD (0, 0)).1
def TmB (N : Int) (S : List (KR ByteArray)) : Prop := ∀ y ∈ S, 0 ≤ y.2.1 ∧ y.2.1 ≤ N
theorem TmB.at {N : Int} {S : List (KR ByteArray)} (h : TmB N S) (h0 : 0 ≤ N) (k : ByteArray) : 0 ≤ tms S k ∧ tms S k ≤ N := by
 unfold tms
 cases e : lk S k with
 | none => exact ⟨Int.le_refl _, h0⟩
 | some v => exact h (k, v) (lk_mem e)
theorem TmB.tail {N : Int} {S : List (KR ByteArray)} (h : TmB N S) : TmB N S.tail := fun y hy => h y (List.mem_of_mem_tail hy)
theorem o_neg {P : Program} {σ : List (Nat × Value)} {ty xt : TypeId} {dst : Option Tmp} {pos : String} {after : Array Edge} {g : Option (Nat × Bool)} {k : IntKind} {x : Operand} {a c : Int} (hx : ev σ x = some (.int k a)) (hc : k.wrap (-a) = c) : OprV P σ ⟨dst, .unOp .neg xt x, ty, pos, after, g⟩ (.int k c) := oprV_of fun ρ hρ w => by
 subst hc; simp [execOp, hρ x _ hx, Op.unary, Op.intArith, Result.andThen]
def lfuLen (most now : Int) (churn : Bool) (S : List (KR ByteArray))  : Int :=
 (S.length : Int)
theorem lfu_Len {b qb n : Nat} {most now : Int} {churn : Bool} {S : List (KR ByteArray)}  (hb : n ≤ 1000000000) : Tri Tryz.prog 58 #[pV b 0] (lfuL b qb most now churn S n) (Same (lfuL b qb most now churn S n) (iV (lfuLen most now churn S))) := by
 refine Tri.en (args := [pV b 0]) Tryz.func58 (fun B wz => ?_)
 refine Cd.s1 (Sq.vl [0] [iV 0] (Sq.d1 (Sq.vl [0, 1, 2] [pV b 0, pV b 0, pV b 3] (Sq.sm [0] (l := [lfuB b qb most now churn]) (o_ld (i := 3) (v := pV qb 0)) rfl (Sq.sm [1] (l := [hpS qb S n]) (o_cl Tryz.call138 (hp_LenS (S := S) (n := n) (by omega))) rfl (Sq.vl [5] [iV (S.length : Int)] (Sq.d4 (Cd.ret ?_))))))))
 refine Ex'.ret Tryz.results58 (RVs.tm (v := iV (S.length : Int)) RVs.nil) (fun w hw => ?_)
 have e : lfuLen most now churn S = (S.length : Int) := by unfold lfuLen; rfl
 rw [e]
 exact ⟨_, ⟨rfl, rfl⟩, hw.pk [0, 1]⟩
def lfuTimes (most now : Int) (churn : Bool) (S : List (KR ByteArray)) (key : ByteArray) : Int :=
 ((lk S key).getD (0, 0)).1
theorem lfu_Times {b qb n : Nat} {most now : Int} {churn : Bool} {S : List (KR ByteArray)} (key : ByteArray) (hb : n ≤ 1000000000) : Tri Tryz.prog 137 #[pV b 0, sV key] (lfuL b qb most now churn S n) (Same (lfuL b qb most now churn S n) (iV (lfuTimes most now churn S key))) := by
 refine Tri.en (args := [pV b 0, sV key]) Tryz.func137 (fun B wz => ?_)
 refine Cd.s1 (Sq.vl [0] [iV 0] (Sq.d1 (Sq.vl [0, 1, 2] [pV b 0, pV b 0, pV b 3] (Sq.sm [0] (l := [lfuB b qb most now churn]) (o_ld (i := 3) (v := pV qb 0)) rfl (Sq.vl [4] [sV key] (Sq.sm [1] (l := [hpS qb S n]) (o_cl Tryz.call179 (hp_RankS (S := S) (n := n) key (by omega))) rfl (Sq.vl [6, 7, 8] [.tuple #[.agg #[iV (((lk S key).getD (0, 0)).1), iV (((lk S key).getD (0, 0)).2)], bV ((lk S key).isSome)], .agg #[iV (((lk S key).getD (0, 0)).1), iV (((lk S key).getD (0, 0)).2)], bV ((lk S key).isSome)] ?_)))))))
 refine Sq.e0 [] (l := []) (o_new [iV 0, iV 0] (fun w => by kernel_rfl)) rfl ?_; intro b3 _
 refine Sq.sm [2] (l := [blkR b3 [iV 0, iV 0] 171]) (o_st (i := 0) (v := .agg #[iV (((lk S key).getD (0, 0)).1), iV (((lk S key).getD (0, 0)).2)])) rfl (Sq.vl [11] [bV ((lk S key).isSome)] (Sq.d1 (Sq.vl [0] [pV b3 0] (Sq.sm [2] (l := [blkR b3 [iV (((lk S key).getD (0, 0)).1), iV (((lk S key).getD (0, 0)).2)] 171]) (o_ld (i := 0) (v := iV (((lk S key).getD (0, 0)).1))) rfl (Sq.vl [2] [iV (((lk S key).getD (0, 0)).1)] (Sq.d4 (Cd.ret (Ex'.ret Tryz.results137 (RVs.tm (v := iV (((lk S key).getD (0, 0)).1)) RVs.nil) (fun w hw => ?_)))))))))
 have e : lfuTimes most now churn S key = ((lk S key).getD (0, 0)).1 := by unfold lfuTimes; rfl
 rw [e]
 exact ⟨_, ⟨rfl, rfl⟩, hw.pk [0, 1]⟩
def lfuHas (most now : Int) (churn : Bool) (S : List (KR ByteArray)) (key : ByteArray) : Bool :=
 decide (tms S key > 0)
theorem lfu_Has {b qb n : Nat} {most now : Int} {churn : Bool} {S : List (KR ByteArray)} (key : ByteArray) (hb : n ≤ 1000000000) : Tri Tryz.prog 57 #[pV b 0, sV key] (lfuL b qb most now churn S n) (Same (lfuL b qb most now churn S n) (bV (lfuHas most now churn S key))) := by
 refine Tri.en (args := [pV b 0, sV key]) Tryz.func57 (fun B wz => ?_)
 refine Cd.s1 (Sq.vl [0] [bV false] (Sq.d1 (Sq.vl [0, 1] [pV b 0, sV key] (Sq.sm [0, 1] (l := lfuL b qb most now churn S n) (o_cl Tryz.call137 (Tri.eq (l2 := lfuL b qb most now churn S n) (r' := iV (tms S key)) (lfu_Times (n := n) (most := most) (now := now) (churn := churn) (S := S) key (by omega)) (rfl) (rfl))) rfl (Sq.vl [3, 4] [bV (decide (tms S key > 0)), bV (decide (tms S key > 0))] (Sq.d4 (Cd.ret (Ex'.ret Tryz.results57 (RVs.tm (v := bV (decide (tms S key > 0))) RVs.nil) (fun w hw => ?_)))))))))
 have e : lfuHas most now churn S key = decide (tms S key > 0) := by unfold lfuHas; rfl
 rw [e]
 exact ⟨_, ⟨rfl, rfl⟩, hw.pk [0, 1]⟩
def lfuVictim (most now : Int) (churn : Bool) (S : List (KR ByteArray))  : ByteArray × Bool :=
 ((htop (⟨#[]⟩, 0, 0) S).1, decide (0 < S.length))
theorem lfu_Victim {b qb n : Nat} {most now : Int} {churn : Bool} {S : List (KR ByteArray)}  (hb : n ≤ 1000000000) : Tri Tryz.prog 62 #[pV b 0] (lfuL b qb most now churn S n) (Same (lfuL b qb most now churn S n) (.tuple #[sV ((lfuVictim most now churn S).1), bV ((lfuVictim most now churn S).2)])) := by
 refine Tri.en (args := [pV b 0]) Tryz.func62 (fun B wz => ?_)
 refine Cd.s1 (Sq.vl [0, 1] [sV ⟨#[]⟩, bV false] (Sq.d1 (Sq.vl [0, 1, 2] [pV b 0, pV b 0, pV b 3] (Sq.sm [0] (l := [lfuB b qb most now churn]) (o_ld (i := 3) (v := pV qb 0)) rfl (Sq.sm [1] (l := [hpS qb S n]) (o_cl Tryz.call142 (hp_LeastS (S := S) (n := n) (by omega))) rfl (Sq.vl [5, 6, 7, 8] [.tuple #[sV ((htop (⟨#[]⟩, 0, 0) S).1), .agg #[iV ((htop (⟨#[]⟩, 0, 0) S).2.1), iV ((htop (⟨#[]⟩, 0, 0) S).2.2)], bV (decide (0 < S.length))], sV ((htop (⟨#[]⟩, 0, 0) S).1), .agg #[iV ((htop (⟨#[]⟩, 0, 0) S).2.1), iV ((htop (⟨#[]⟩, 0, 0) S).2.2)], bV (decide (0 < S.length))] ?_))))))
 refine Sq.e0 [] (l := []) (o_new [iV 0, iV 0] (fun w => by kernel_rfl)) rfl ?_; intro b3 _
 refine Sq.vl [10] [sV ((htop (⟨#[]⟩, 0, 0) S).1)] (Sq.sm [2] (l := [blkR b3 [iV 0, iV 0] 171]) (o_st (i := 0) (v := .agg #[iV ((htop (⟨#[]⟩, 0, 0) S).2.1), iV ((htop (⟨#[]⟩, 0, 0) S).2.2)])) rfl (Sq.vl [12] [bV (decide (0 < S.length))] (Sq.d1 (Sq.vl [0, 1, 2, 3] [sV ((htop (⟨#[]⟩, 0, 0) S).1), bV (decide (0 < S.length)), sV ((htop (⟨#[]⟩, 0, 0) S).1), bV (decide (0 < S.length))] (Sq.d4 (Cd.ret (Ex'.ret Tryz.results62 (RVs.tm (v := sV ((htop (⟨#[]⟩, 0, 0) S).1)) (RVs.tmp (v := bV (decide (0 < S.length))) (by kernel_rfl) RVs.nil)) (fun w hw => ?_))))))))
 have e : lfuVictim most now churn S = ((htop (⟨#[]⟩, 0, 0) S).1, decide (0 < S.length)) := by unfold lfuVictim; rfl
 rw [e]
 exact ⟨_, ⟨rfl, rfl⟩, hw.pk [0, 1]⟩
def lfuDrop (most now : Int) (churn : Bool) (S : List (KR ByteArray))  : List (KR ByteArray) × ByteArray × Bool :=
 (S.tail, (htop (⟨#[]⟩, 0, 0) S).1, decide (0 < S.length))
theorem lfu_Drop {b qb n : Nat} {most now : Int} {churn : Bool} {S : List (KR ByteArray)}  (hb : n ≤ 1000000000) : Tri Tryz.prog 63 #[pV b 0] (lfuL b qb most now churn S n) (Same (lfuL b qb most now churn ((lfuDrop most now churn S).1) n) (.tuple #[sV ((lfuDrop most now churn S).2.1), bV ((lfuDrop most now churn S).2.2)])) := by
 refine Tri.en (args := [pV b 0]) Tryz.func63 (fun B wz => ?_)
 refine Cd.s1 (Sq.vl [0, 1] [sV ⟨#[]⟩, bV false] (Sq.d1 (Sq.vl [0, 1, 2] [pV b 0, pV b 0, pV b 3] (Sq.sm [0] (l := [lfuB b qb most now churn]) (o_ld (i := 3) (v := pV qb 0)) rfl (Sq.sm [1] (l := [hpS qb S n]) (o_cl Tryz.call139 (hp_PopS (S := S) (n := n) (by omega))) rfl (Sq.vl [5, 6, 7, 8] [sV ((htop (⟨#[]⟩, 0, 0) S).1), bV (decide (0 < S.length)), sV ((htop (⟨#[]⟩, 0, 0) S).1), bV (decide (0 < S.length))] (Sq.d4 (Cd.ret ?_))))))))
 refine Ex'.ret Tryz.results63 (RVs.tm (v := sV ((htop (⟨#[]⟩, 0, 0) S).1)) (RVs.tmp (v := bV (decide (0 < S.length))) (by kernel_rfl) RVs.nil)) (fun w hw => ?_)
 have e : lfuDrop most now churn S = (S.tail, (htop (⟨#[]⟩, 0, 0) S).1, decide (0 < S.length)) := by unfold lfuDrop; rfl
 rw [e]
 exact ⟨_, ⟨rfl, rfl⟩, hw.pk [0, 1]⟩
def lfuRemove (most now : Int) (churn : Bool) (S : List (KR ByteArray)) (key : ByteArray) : List (KR ByteArray) × Bool :=
 (hrem S key, (lk S key).isSome)
theorem lfu_Remove {b qb n : Nat} {most now : Int} {churn : Bool} {S : List (KR ByteArray)} (key : ByteArray) (hb : n ≤ 1000000000) : Tri Tryz.prog 60 #[pV b 0, sV key] (lfuL b qb most now churn S n) (Same (lfuL b qb most now churn ((lfuRemove most now churn S key).1) n) (bV ((lfuRemove most now churn S key).2))) := by
 refine Tri.en (args := [pV b 0, sV key]) Tryz.func60 (fun B wz => ?_)
 refine Cd.s1 (Sq.vl [0] [bV false] (Sq.d1 (Sq.vl [0, 1, 2] [pV b 0, pV b 0, pV b 3] (Sq.sm [0] (l := [lfuB b qb most now churn]) (o_ld (i := 3) (v := pV qb 0)) rfl (Sq.vl [4] [sV key] (Sq.sm [1] (l := [hpS qb S n]) (o_cl Tryz.call141 (hp_RemoveS (S := S) (n := n) key (by omega))) rfl (Sq.vl [6] [bV ((lk S key).isSome)] ?_)))))))
 refine Sq.d4 (Cd.ret (Ex'.ret Tryz.results60 (RVs.tm (v := bV ((lk S key).isSome)) RVs.nil) (fun w hw => ?_)))
 have e : lfuRemove most now churn S key = (hrem S key, (lk S key).isSome) := by unfold lfuRemove; rfl
 rw [e]
 exact ⟨_, ⟨rfl, rfl⟩, hw.pk [0, 1]⟩
def lfuKeys (most now : Int) (churn : Bool) (S : List (KR ByteArray))  : List ByteArray :=
 S.map (·.1)
theorem lfu_Keys {b qb n : Nat} {most now : Int} {churn : Bool} {S : List (KR ByteArray)}  (hb : n ≤ 1000000000) : Tri Tryz.prog 65 #[pV b 0] (lfuL b qb most now churn S n) (PostE (fun _ => True) id fun v => lfuL b qb most now churn S n ++ [rowR 9 1 v (lfuKeys most now churn S).length ((lfuKeys most now churn S).map Value.string)]) := by
 refine Tri.en (args := [pV b 0]) Tryz.func65 (fun B wz => ?_)
 refine Cd.s1 (Sq.vl [0] [.slice none 0 0] (Sq.d1 (Sq.vl [0, 1, 2] [pV b 0, pV b 0, pV b 3] (Sq.sm [0] (l := [lfuB b qb most now churn]) (o_ld (i := 3) (v := pV qb 0)) rfl ?_))))
 refine Sq.e1 [1] (l := [hpS qb S n]) (o_cl Tryz.call144 (hp_OrderS (S := S) (n := n) (by omega))) rfl ?_; rintro v1 _
 refine Sq.fact (i := 2) (R := rowR 9 1 v1 ((S.map (·.1)).length) ((S.map (·.1)).map Value.string)) (by kernel_rfl) row_slice ?_; rintro ⟨a2, c3, rfl, hc3, hc3'⟩
 have hc3'' : c3 ≤ 9223372036854775807 := hc3'
 refine Sq.vl [5] [.slice a2 ((S.map (·.1)).length) c3] (Sq.d4 (Cd.ret (Ex'.ret Tryz.results65 (RVs.tm (v := .slice a2 ((S.map (·.1)).length) c3) RVs.nil) (fun w hw => ?_))))
 have e : lfuKeys most now churn S = S.map (·.1) := by unfold lfuKeys; rfl
 rw [e]
 exact ⟨_, ⟨_, trivial, rfl, rfl⟩, hw.pk [0, 1, 2]⟩
def lfuAsk (most now : Int) (churn : Bool) (S : List (KR ByteArray)) (key : ByteArray) : Int × List (KR ByteArray) :=
 if churn = true then (now + 1, hset S (key, tms S key + 1, (-(now + 1)))) else (now + 1, hset S (key, tms S key + 1, now + 1))
theorem lfu_ask {b qb n : Nat} {most now : Int} {churn : Bool} {S : List (KR ByteArray)} (key : ByteArray) {n' : Nat} (hb : n + 1 ≤ 1000000000) (hn : n + 1 ≤ n') (hw0 : 0 ≤ now ∧ now ≤ 1000000000) (ht : TmB 1000000000 S) : Tri Tryz.prog 140 #[pV b 0, sV key] (lfuL b qb most now churn S n) (Same (lfuL b qb most ((lfuAsk most now churn S key).1) churn ((lfuAsk most now churn S key).2) n') (.tuple #[])) := by
 refine Tri.en (args := [pV b 0, sV key]) Tryz.func140 (fun B wz => ?_)
 refine Cd.fact (i := 1) rfl hpS.le ?_; rintro ⟨hnd, hlen⟩
 have htk := TmB.at ht (by omega) key
 refine Cd.s1 (Sq.vl [0, 1, 2] [pV b 0, pV b 0, pV b 1] (Sq.sm [0] (l := [lfuB b qb most now churn]) (o_ld (i := 1) (v := iV now)) rfl (Sq.v (r := iV (now + 1)) (o_add (k := .i64) (a := now) (b := 1) (c := now + 1) (by kernel_rfl) (by kernel_rfl) (w64 rfl (by omega))) rfl (by kernel_rfl) (Sq.vl [5, 6] [pV b 0, pV b 1] (Sq.sm [0] (l := [lfuB b qb most now churn]) (o_st (i := 1) (v := iV (now + 1))) rfl (Sq.d1 (Sq.vl [0, 1, 2] [pV b 0, pV b 0, pV b 1] ?_)))))))
 refine Sq.sm [0] (l := [lfuB b qb most (now + 1) churn]) (o_ld (i := 1) (v := iV (now + 1))) rfl (Sq.vl [4] [iV (now + 1)] (Sq.d4 (Cd.seq (Cd.s1 (Sq.vl [0, 1, 2] [pV b 0, pV b 0, pV b 2] (Sq.sm [0] (l := [lfuB b qb most (now + 1) churn]) (o_ld (i := 2) (v := bV churn)) rfl (Sq.d4 ?_)))))))
 refine Cd.cond (t := churn) (by kernel_rfl) (fun h1 => ?_) (fun h1 => ?_)
 ·
  refine Cd.s0 (Sq.vl [0] [iV (now + 1)] (Sq.v (r := iV (-(now + 1))) (o_neg (k := .i64) (a := now + 1) (c := -(now + 1)) (by kernel_rfl) (w64 rfl (by omega))) rfl (by kernel_rfl) (Sq.vl [2] [iV (-(now + 1))] (Sq.d4 ?_))))
  refine Cd.plan [0, 1, 3, 7, 0, 0, 0, 96, 224, 0, 992, 2047] [(3, [(0, false, 0)]), (7, [(0, false, 0), (1, false, 0)]), (11, [(1, true, 0)])] [] [] [(1, 11, fun g => hpS qb (hset S (key, tms S key + 1, (-(now + 1)))) (n + 1))] [fun g => pV b 0, fun g => pV b 0, fun g => pV b 3, fun g => pV qb 0, fun g => sV key, fun g => pV b 0, fun g => sV key, fun g => iV (tms S key), fun g => iV (tms S key + 1), fun g => iV (-(now + 1)), fun g => .agg #[iV (tms S key + 1), iV (-(now + 1))], fun g => .tuple #[]] (by kernel_rfl) (by kernel_rfl) rfl (trivial) ?_ ?_
  · exact ⟨ob_k, ob_k, ob_k, ob_r (l := fun g => [lfuB b qb most (now + 1) churn]) (l' := fun g => [lfuB b qb most (now + 1) churn]) (v := fun g => pV qb 0) (fun g => o_ld (i := 3) (v := pV qb 0)), ob_k, ob_k, ob_k, ob_r (l := fun g => [lfuB b qb most (now + 1) churn, hpS qb S n]) (l' := fun g => [lfuB b qb most (now + 1) churn, hpS qb S n]) (v := fun g => iV (tms S key)) (fun g => o_cl Tryz.call137 (Tri.eq (l2 := lfuL b qb most (now + 1) churn S n) (r' := iV (tms S key)) (lfu_Times (n := n) (most := most) (now := now + 1) (churn := churn) (S := S) key (by omega)) (rfl) (rfl))), ob_w (v := fun g => iV (tms S key + 1)) (fun g => o_add (k := .i64) (a := tms S key) (b := 1) (c := tms S key + 1) (by kernel_rfl) (by kernel_rfl) (w64 rfl (by omega))), ob_k, ob_k, ob_r (l := fun g => [hpS qb S n]) (l' := fun g => [hpS qb (hset S (key, tms S key + 1, (-(now + 1)))) (n + 1)]) (v := fun g => .tuple #[]) (fun g => o_cl Tryz.call180 (hp_SetS (S := S) (n := n) key (tms S key + 1) (-(now + 1)) (by omega))), trivial⟩
  intro g
  refine Ex'.sub (subB_spec []) (Ex'.a1 [0, 1] (σ' := []) (Γ' := [lfuB b qb most (now + 1) churn, hpS qb (hset S (key, tms S key + 1, (-(now + 1)))) (n + 1)]) (Ex'.fin Tryz.results140 (RVs.nil) (fun w hw => ?_)))
  have e : lfuAsk most now churn S key = (now + 1, hset S (key, tms S key + 1, (-(now + 1)))) := by unfold lfuAsk; rw [if_pos h1]
  rw [e]
  exact ⟨_, ⟨rfl, rfl⟩, (hw.cv 1 (R := hpS qb (hset S (key, tms S key + 1, (-(now + 1)))) (n + 1)) (R' := hpS qb (hset S (key, tms S key + 1, (-(now + 1)))) n') (hpS.up (by omega))).pk [0, 1]⟩
 ·
  refine Cd.skip (Ex'.next ?_)
  refine Cd.plan [0, 1, 3, 7, 0, 0, 0, 96, 224, 0, 992, 2047] [(3, [(0, false, 0)]), (7, [(0, false, 0), (1, false, 0)]), (11, [(1, true, 0)])] [] [] [(1, 11, fun g => hpS qb (hset S (key, tms S key + 1, now + 1)) (n + 1))] [fun g => pV b 0, fun g => pV b 0, fun g => pV b 3, fun g => pV qb 0, fun g => sV key, fun g => pV b 0, fun g => sV key, fun g => iV (tms S key), fun g => iV (tms S key + 1), fun g => iV (now + 1), fun g => .agg #[iV (tms S key + 1), iV (now + 1)], fun g => .tuple #[]] (by kernel_rfl) (by kernel_rfl) rfl (trivial) ?_ ?_
  · exact ⟨ob_k, ob_k, ob_k, ob_r (l := fun g => [lfuB b qb most (now + 1) churn]) (l' := fun g => [lfuB b qb most (now + 1) churn]) (v := fun g => pV qb 0) (fun g => o_ld (i := 3) (v := pV qb 0)), ob_k, ob_k, ob_k, ob_r (l := fun g => [lfuB b qb most (now + 1) churn, hpS qb S n]) (l' := fun g => [lfuB b qb most (now + 1) churn, hpS qb S n]) (v := fun g => iV (tms S key)) (fun g => o_cl Tryz.call137 (Tri.eq (l2 := lfuL b qb most (now + 1) churn S n) (r' := iV (tms S key)) (lfu_Times (n := n) (most := most) (now := now + 1) (churn := churn) (S := S) key (by omega)) (rfl) (rfl))), ob_w (v := fun g => iV (tms S key + 1)) (fun g => o_add (k := .i64) (a := tms S key) (b := 1) (c := tms S key + 1) (by kernel_rfl) (by kernel_rfl) (w64 rfl (by omega))), ob_k, ob_k, ob_r (l := fun g => [hpS qb S n]) (l' := fun g => [hpS qb (hset S (key, tms S key + 1, now + 1)) (n + 1)]) (v := fun g => .tuple #[]) (fun g => o_cl Tryz.call180 (hp_SetS (S := S) (n := n) key (tms S key + 1) (now + 1) (by omega))), trivial⟩
  intro g
  refine Ex'.sub (subB_spec []) (Ex'.a1 [0, 1] (σ' := []) (Γ' := [lfuB b qb most (now + 1) churn, hpS qb (hset S (key, tms S key + 1, now + 1)) (n + 1)]) (Ex'.fin Tryz.results140 (RVs.nil) (fun w hw => ?_)))
  have e : lfuAsk most now churn S key = (now + 1, hset S (key, tms S key + 1, now + 1)) := by unfold lfuAsk; rw [if_neg (Bool.eq_false_iff.1 h1)]
  rw [e]
  exact ⟨_, ⟨rfl, rfl⟩, (hw.cv 1 (R := hpS qb (hset S (key, tms S key + 1, now + 1)) (n + 1)) (R' := hpS qb (hset S (key, tms S key + 1, now + 1)) n') (hpS.up (by omega))).pk [0, 1]⟩
def lfuReq (most now : Int) (churn : Bool) (S : List (KR ByteArray)) (key : ByteArray) : Int × List (KR ByteArray) × Bool × ByteArray × Bool :=
 if most = 0 then (now, S, lfuHas most now churn S key, ⟨#[]⟩, false) else if (!(lfuHas most now churn S key)) = true then if (S.length : Int) ≥ most then ((lfuAsk most now churn S.tail key).1, (lfuAsk most now churn S.tail key).2, lfuHas most now churn S key, (htop (⟨#[]⟩, 0, 0) S).1, decide (0 < S.length)) else ((lfuAsk most now churn S key).1, (lfuAsk most now churn S key).2, lfuHas most now churn S key, ⟨#[]⟩, false) else ((lfuAsk most now churn S key).1, (lfuAsk most now churn S key).2, lfuHas most now churn S key, ⟨#[]⟩, false)
theorem lfu_Request {b qb n : Nat} {most now : Int} {churn : Bool} {S : List (KR ByteArray)} (key : ByteArray) {n' : Nat} (hb : n + 1 ≤ 1000000000) (hn : n + 1 ≤ n') (hw0 : 0 ≤ now ∧ now ≤ 1000000000) (ht : TmB 1000000000 S) : Tri Tryz.prog 59 #[pV b 0, sV key] (lfuL b qb most now churn S n) (Same (lfuL b qb most ((lfuReq most now churn S key).1) churn ((lfuReq most now churn S key).2.1) n') (.agg #[bV ((lfuReq most now churn S key).2.2.1), sV ((lfuReq most now churn S key).2.2.2.1), bV ((lfuReq most now churn S key).2.2.2.2)])) := by
 refine Tri.en (args := [pV b 0, sV key]) Tryz.func59 (fun B wz => ?_)
 refine Cd.fact (i := 1) rfl hpS.le ?_; rintro ⟨hnd, hlen⟩
 refine Cd.s1 ?_
 refine Sq.e0 [] (l := []) (o_new [bV false, sV ⟨#[]⟩, bV false] (fun w => by kernel_rfl)) rfl ?_; intro b3 _
 refine Sq.d1 (Sq.vl [0, 1] [pV b 0, sV key] (Sq.sm [0, 1] (l := lfuL b qb most now churn S n) (o_cl Tryz.call57 (lfu_Has (n := n) (most := most) (now := now) (churn := churn) (S := S) key (by omega))) rfl (Sq.vl [3] [.agg #[bV (lfuHas most now churn S key), sV ⟨#[]⟩, bV false]] ?_)))
 refine Sq.e0 [] (l := []) (o_new [bV false, sV ⟨#[]⟩, bV false] (fun w => by kernel_rfl)) rfl ?_; intro b4 _
 refine Sq.sm [3] (l := [blkR b4 [bV false, sV ⟨#[]⟩, bV false] 37]) (o_st (i := 0) (v := .agg #[bV (lfuHas most now churn S key), sV ⟨#[]⟩, bV false])) rfl (Sq.d4 (Cd.seq (Cd.s1 (Sq.vl [0, 1, 2] [pV b 0, pV b 0, pV b 0] (Sq.sm [0] (l := [lfuB b qb most now churn]) (o_ld (i := 0) (v := iV most)) rfl (Sq.v (r := bV (decide (most = 0))) (o_eqI (k := .i64) (a := most) (b := 0) (by kernel_rfl) (by kernel_rfl)) rfl (by kernel_rfl) (Sq.d4 ?_)))))))
 refine Cd.case (p := most = 0) (by kernel_rfl) (fun h5 => ?_) (fun h5 => ?_)
 ·
  refine Cd.s1 (Sq.sm [3] (l := [blkR b4 [bV (lfuHas most now churn S key), sV ⟨#[]⟩, bV false] 37]) (o_lN (i := 0) [bV (lfuHas most now churn S key), sV ⟨#[]⟩, bV false]) rfl (Sq.sm [2] (l := [blkR b3 [bV false, sV ⟨#[]⟩, bV false] 37]) (o_st (i := 0) (v := .agg #[bV (lfuHas most now churn S key), sV ⟨#[]⟩, bV false])) rfl (Sq.d4 (Cd.ret (Ex'.thenRet (Ex'.ret Tryz.results59 (RVs.cN (i := 0) (b := b3) (l := [bV (lfuHas most now churn S key), sV ⟨#[]⟩, bV false]) (E := 37) [bV (lfuHas most now churn S key), sV ⟨#[]⟩, bV false] 2 RVs.nil) (fun w hw => ?_)))))))
  have e : lfuReq most now churn S key = (now, S, lfuHas most now churn S key, ⟨#[]⟩, false) := by unfold lfuReq; rw [if_pos h5]
  rw [e]
  exact ⟨_, ⟨rfl, rfl⟩, (hw.cv 1 (R := hpS qb S n) (R' := hpS qb S n') (hpS.up (by omega))).pk [0, 1]⟩
 ·
  refine Cd.skip (Ex'.next (Cd.seq (Cd.seq ?_)))
  rcases Bool.eq_false_or_eq_true ((!(lfuHas most now churn S key))) with h6 | h6
  ·
   refine Cd.plan [0, 1, 3, 7, 15, 31, 15, 79, 207, 463, 1023, 2047] [(1, [(3, false, 0)]), (5, [(0, false, 0), (1, false, 0)]), (9, [(0, false, 0)])] [] [] [] [fun g => pV b4 0, fun g => bV (lfuHas most now churn S key), fun g => bV true, fun g => bV true, fun g => pV b 0, fun g => iV (S.length : Int), fun g => pV b 0, fun g => pV b 0, fun g => pV b 0, fun g => iV most, fun g => bV (decide ((S.length : Int) ≥ most)), fun g => bV (decide ((S.length : Int) ≥ most))] (by kernel_rfl) (by kernel_rfl) rfl (trivial) ?_ ?_
   · exact ⟨ob_k, ob_r (l := fun g => [blkR b4 [bV (lfuHas most now churn S key), sV ⟨#[]⟩, bV false] 37]) (l' := fun g => [blkR b4 [bV (lfuHas most now churn S key), sV ⟨#[]⟩, bV false] 37]) (v := fun g => bV (lfuHas most now churn S key)) (fun g => o_ld (i := 0) (v := bV (lfuHas most now churn S key))), ob_w (v := fun g => bV true) (fun g => OprV.re (pureV (v := bV (!(lfuHas most now churn S key))) (by kernel_rfl) rfl fun w => by kernel_rfl) (congrArg Value.bool (show (!(lfuHas most now churn S key)) = true from h6))), ob_k, ob_k, ob_r (l := fun g => [lfuB b qb most now churn, hpS qb S n]) (l' := fun g => [lfuB b qb most now churn, hpS qb S n]) (v := fun g => iV (S.length : Int)) (fun g => o_cl Tryz.call58 (Tri.eq (l2 := lfuL b qb most now churn S n) (r' := iV (S.length : Int)) (lfu_Len (n := n) (most := most) (now := now) (churn := churn) (S := S) (by omega)) (rfl) (rfl))), ob_k, ob_k, ob_k, ob_r (l := fun g => [lfuB b qb most now churn]) (l' := fun g => [lfuB b qb most now churn]) (v := fun g => iV most) (fun g => o_ld (i := 0) (v := iV most)), ob_k, ob_k, trivial⟩
   intro g
   refine Ex'.sub (subB_spec [0, 1, 4, 5, 27]) (Ex'.a1 [0, 1, 2, 3] (σ' := [(0, pV b 0), (1, sV key), (4, pV b3 0), (5, pV b4 0), (27, bV (decide ((S.length : Int) ≥ most)))]) (Γ' := [lfuB b qb most now churn, hpS qb S n, blkR b3 [bV false, sV ⟨#[]⟩, bV false] 37, blkR b4 [bV (lfuHas most now churn S key), sV ⟨#[]⟩, bV false] 37]) (Ex'.next ?_))
   refine Cd.case (p := (S.length : Int) ≥ most) (by kernel_rfl) (fun h7 => ?_) (fun h7 => ?_)
   ·
    refine Cd.s0 (Sq.vl [0, 1, 2] [pV b 0, pV b 0, pV b 3] (Sq.sm [0] (l := [lfuB b qb most now churn]) (o_ld (i := 3) (v := pV qb 0)) rfl (Sq.sm [1] (l := [hpS qb S n]) (o_cl Tryz.call139 (hp_PopS (S := S) (n := n) (by omega))) rfl (Sq.vl [5, 6, 7, 8] [.tuple #[sV ((htop (⟨#[]⟩, 0, 0) S).1), bV (decide (0 < S.length))], sV ((htop (⟨#[]⟩, 0, 0) S).1), bV (decide (0 < S.length)), pV b4 1] (Sq.sm [3] (l := [blkR b4 [bV (lfuHas most now churn S key), sV ⟨#[]⟩, bV false] 37]) (o_st (i := 1) (v := sV ((htop (⟨#[]⟩, 0, 0) S).1))) rfl (Sq.vl [10] [pV b4 2] (Sq.sm [3] (l := [blkR b4 [bV (lfuHas most now churn S key), sV ((htop (⟨#[]⟩, 0, 0) S).1), bV false] 37]) (o_st (i := 2) (v := bV (decide (0 < S.length)))) rfl ?_)))))))
    refine Sq.d1 (Sq.vl [0, 1] [pV b 0, sV key] (Sq.sm [0, 1] (l := lfuL b qb most now churn S.tail n) (o_cl Tryz.call140 (lfu_ask (n := n) (n' := n + 1) (most := most) (now := now) (churn := churn) (S := S.tail) key (by omega) (by omega) (by omega) (by exact TmB.tail ht))) rfl (Sq.d1 (Sq.sm [3] (l := [blkR b4 [bV (lfuHas most now churn S key), sV ((htop (⟨#[]⟩, 0, 0) S).1), bV (decide (0 < S.length))] 37]) (o_lN (i := 0) [bV (lfuHas most now churn S key), sV ((htop (⟨#[]⟩, 0, 0) S).1), bV (decide (0 < S.length))]) rfl (Sq.sm [2] (l := [blkR b3 [bV false, sV ⟨#[]⟩, bV false] 37]) (o_st (i := 0) (v := .agg #[bV (lfuHas most now churn S key), sV ((htop (⟨#[]⟩, 0, 0) S).1), bV (decide (0 < S.length))])) rfl (Sq.d4 (Cd.ret (Ex'.ret Tryz.results59 (RVs.cN (i := 0) (b := b3) (l := [bV (lfuHas most now churn S key), sV ((htop (⟨#[]⟩, 0, 0) S).1), bV (decide (0 < S.length))]) (E := 37) [bV (lfuHas most now churn S key), sV ((htop (⟨#[]⟩, 0, 0) S).1), bV (decide (0 < S.length))] 2 RVs.nil) (fun w hw => ?_)))))))))
    have e : lfuReq most now churn S key = ((lfuAsk most now churn S.tail key).1, (lfuAsk most now churn S.tail key).2, lfuHas most now churn S key, (htop (⟨#[]⟩, 0, 0) S).1, decide (0 < S.length)) := by unfold lfuReq; rw [if_neg h5, if_pos h6, if_pos h7]
    rw [e]
    exact ⟨_, ⟨rfl, rfl⟩, (hw.cv 1 (R := hpS qb ((lfuAsk most now churn S.tail key).2) (n + 1)) (R' := hpS qb ((lfuAsk most now churn S.tail key).2) n') (hpS.up (by omega))).pk [0, 1]⟩
   ·
    refine Cd.skip (Ex'.next (Cd.s1 (Sq.vl [0, 1] [pV b 0, sV key] (Sq.sm [0, 1] (l := lfuL b qb most now churn S n) (o_cl Tryz.call140 (lfu_ask (n := n) (n' := n + 1) (most := most) (now := now) (churn := churn) (S := S) key (by omega) (by omega) (by omega) (by exact ht))) rfl (Sq.d1 (Sq.sm [3] (l := [blkR b4 [bV (lfuHas most now churn S key), sV ⟨#[]⟩, bV false] 37]) (o_lN (i := 0) [bV (lfuHas most now churn S key), sV ⟨#[]⟩, bV false]) rfl (Sq.sm [2] (l := [blkR b3 [bV false, sV ⟨#[]⟩, bV false] 37]) (o_st (i := 0) (v := .agg #[bV (lfuHas most now churn S key), sV ⟨#[]⟩, bV false])) rfl (Sq.d4 (Cd.ret (Ex'.ret Tryz.results59 (RVs.cN (i := 0) (b := b3) (l := [bV (lfuHas most now churn S key), sV ⟨#[]⟩, bV false]) (E := 37) [bV (lfuHas most now churn S key), sV ⟨#[]⟩, bV false] 2 RVs.nil) (fun w hw => ?_)))))))))))
    have e : lfuReq most now churn S key = ((lfuAsk most now churn S key).1, (lfuAsk most now churn S key).2, lfuHas most now churn S key, ⟨#[]⟩, false) := by unfold lfuReq; rw [if_neg h5, if_pos h6, if_neg h7]
    rw [e]
    exact ⟨_, ⟨rfl, rfl⟩, (hw.cv 1 (R := hpS qb ((lfuAsk most now churn S key).2) (n + 1)) (R' := hpS qb ((lfuAsk most now churn S key).2) n') (hpS.up (by omega))).pk [0, 1]⟩
  ·
   refine Cd.plan [0, 1, 3, 7, 15, 31, 15, 79, 207, 463, 1023, 2047] [(1, [(3, false, 0)])] [] [] [] [fun g => pV b4 0, fun g => bV (lfuHas most now churn S key), fun g => bV false, fun g => bV false, fun g => undef, fun g => undef, fun g => undef, fun g => undef, fun g => undef, fun g => undef, fun g => undef, fun g => bV false] (by kernel_rfl) (by kernel_rfl) rfl (trivial) ?_ ?_
   · exact ⟨ob_k, ob_r (l := fun g => [blkR b4 [bV (lfuHas most now churn S key), sV ⟨#[]⟩, bV false] 37]) (l' := fun g => [blkR b4 [bV (lfuHas most now churn S key), sV ⟨#[]⟩, bV false] 37]) (v := fun g => bV (lfuHas most now churn S key)) (fun g => o_ld (i := 0) (v := bV (lfuHas most now churn S key))), ob_w (v := fun g => bV false) (fun g => OprV.re (pureV (v := bV (!(lfuHas most now churn S key))) (by kernel_rfl) rfl fun w => by kernel_rfl) (congrArg Value.bool (show (!(lfuHas most now churn S key)) = false from h6))), ob_k, ob_k, ob_k, ob_k, ob_k, ob_k, ob_k, ob_k, ob_k, trivial⟩
   intro g
   refine Ex'.sub (subB_spec [0, 1, 4, 5, 27]) (Ex'.a1 [0, 1, 2, 3] (σ' := [(0, pV b 0), (1, sV key), (4, pV b3 0), (5, pV b4 0), (27, bV false)]) (Γ' := [lfuB b qb most now churn, hpS qb S n, blkR b3 [bV false, sV ⟨#[]⟩, bV false] 37, blkR b4 [bV (lfuHas most now churn S key), sV ⟨#[]⟩, bV false] 37]) (Ex'.next (Cd.cF (Cd.skip (Ex'.next (Cd.s1 (Sq.vl [0, 1] [pV b 0, sV key] (Sq.sm [0, 1] (l := lfuL b qb most now churn S n) (o_cl Tryz.call140 (lfu_ask (n := n) (n' := n + 1) (most := most) (now := now) (churn := churn) (S := S) key (by omega) (by omega) (by omega) (by exact ht))) rfl (Sq.d1 ?_)))))))))
   refine Sq.sm [3] (l := [blkR b4 [bV (lfuHas most now churn S key), sV ⟨#[]⟩, bV false] 37]) (o_lN (i := 0) [bV (lfuHas most now churn S key), sV ⟨#[]⟩, bV false]) rfl (Sq.sm [2] (l := [blkR b3 [bV false, sV ⟨#[]⟩, bV false] 37]) (o_st (i := 0) (v := .agg #[bV (lfuHas most now churn S key), sV ⟨#[]⟩, bV false])) rfl (Sq.d4 (Cd.ret (Ex'.ret Tryz.results59 (RVs.cN (i := 0) (b := b3) (l := [bV (lfuHas most now churn S key), sV ⟨#[]⟩, bV false]) (E := 37) [bV (lfuHas most now churn S key), sV ⟨#[]⟩, bV false] 2 RVs.nil) (fun w hw => ?_)))))
   have e : lfuReq most now churn S key = ((lfuAsk most now churn S key).1, (lfuAsk most now churn S key).2, lfuHas most now churn S key, ⟨#[]⟩, false) := by unfold lfuReq; rw [if_neg h5, if_neg (Bool.eq_false_iff.1 h6)]
   rw [e]
   exact ⟨_, ⟨rfl, rfl⟩, (hw.cv 1 (R := hpS qb ((lfuAsk most now churn S key).2) (n + 1)) (R' := hpS qb ((lfuAsk most now churn S key).2) n') (hpS.up (by omega))).pk [0, 1]⟩
def lfuAdopt (most now : Int) (churn : Bool) (S : List (KR ByteArray)) (key : ByteArray) : Int × List (KR ByteArray) × Bool :=
 if lfuHas most now churn S key = true then (now, S, false) else if (S.length : Int) ≥ most then (now, S, false) else ((lfuAsk most now churn S key).1, (lfuAsk most now churn S key).2, true)
theorem lfu_Adopt {b qb n : Nat} {most now : Int} {churn : Bool} {S : List (KR ByteArray)} (key : ByteArray) {n' : Nat} (hb : n + 1 ≤ 1000000000) (hn : n + 1 ≤ n') (hw0 : 0 ≤ now ∧ now ≤ 1000000000) (ht : TmB 1000000000 S) : Tri Tryz.prog 61 #[pV b 0, sV key] (lfuL b qb most now churn S n) (Same (lfuL b qb most ((lfuAdopt most now churn S key).1) churn ((lfuAdopt most now churn S key).2.1) n') (bV ((lfuAdopt most now churn S key).2.2))) := by
 refine Tri.en (args := [pV b 0, sV key]) Tryz.func61 (fun B wz => ?_)
 refine Cd.fact (i := 1) rfl hpS.le ?_; rintro ⟨hnd, hlen⟩
 refine Cd.s1 (Sq.vl [0] [bV false] (Sq.d4 (Cd.seq (Cd.seq ?_))))
 rcases Bool.eq_false_or_eq_true (lfuHas most now churn S key) with h1 | h1
 ·
  refine Cd.plan [0, 0, 3, 7, 15, 31, 15, 79, 207, 463, 1023, 2047] [(2, [(0, false, 0), (1, false, 0)])] [] [] [] [fun g => pV b 0, fun g => sV key, fun g => bV true, fun g => bV true, fun g => undef, fun g => undef, fun g => undef, fun g => undef, fun g => undef, fun g => undef, fun g => undef, fun g => bV true] (by kernel_rfl) (by kernel_rfl) rfl (trivial) ?_ ?_
  · exact ⟨ob_k, ob_k, ob_r (l := fun g => [lfuB b qb most now churn, hpS qb S n]) (l' := fun g => [lfuB b qb most now churn, hpS qb S n]) (v := fun g => bV true) (fun g => o_cl Tryz.call57 ((lfu_Has (n := n) (most := most) (now := now) (churn := churn) (S := S) key (by omega)).re (congrArg Value.bool (show lfuHas most now churn S key = true from h1)))), ob_k, ob_k, ob_k, ob_k, ob_k, ob_k, ob_k, ob_k, ob_k, trivial⟩
  intro g
  refine Ex'.sub (subB_spec [0, 1, 4, 16]) (Ex'.a1 [0, 1] (σ' := [(0, pV b 0), (1, sV key), (4, bV false), (16, bV true)]) (Γ' := [lfuB b qb most now churn, hpS qb S n]) (Ex'.next (Cd.cT (Cd.s1 (Sq.vl [0] [bV false] (Sq.d4 (Cd.ret (Ex'.thenRet (Ex'.ret Tryz.results61 (RVs.tm (v := bV false) RVs.nil) (fun w hw => ?_))))))))))
  have e : lfuAdopt most now churn S key = (now, S, false) := by unfold lfuAdopt; rw [if_pos h1]
  rw [e]
  exact ⟨_, ⟨rfl, rfl⟩, (hw.cv 1 (R := hpS qb S n) (R' := hpS qb S n') (hpS.up (by omega))).pk [0, 1]⟩
 ·
  refine Cd.plan [0, 0, 3, 7, 15, 31, 15, 79, 207, 463, 1023, 2047] [(2, [(0, false, 0), (1, false, 0)]), (5, [(0, false, 0), (1, false, 0)]), (9, [(0, false, 0)])] [] [] [] [fun g => pV b 0, fun g => sV key, fun g => bV false, fun g => bV false, fun g => pV b 0, fun g => iV (S.length : Int), fun g => pV b 0, fun g => pV b 0, fun g => pV b 0, fun g => iV most, fun g => bV (decide ((S.length : Int) ≥ most)), fun g => bV (decide ((S.length : Int) ≥ most))] (by kernel_rfl) (by kernel_rfl) rfl (trivial) ?_ ?_
  · exact ⟨ob_k, ob_k, ob_r (l := fun g => [lfuB b qb most now churn, hpS qb S n]) (l' := fun g => [lfuB b qb most now churn, hpS qb S n]) (v := fun g => bV false) (fun g => o_cl Tryz.call57 ((lfu_Has (n := n) (most := most) (now := now) (churn := churn) (S := S) key (by omega)).re (congrArg Value.bool (show lfuHas most now churn S key = false from h1)))), ob_k, ob_k, ob_r (l := fun g => [lfuB b qb most now churn, hpS qb S n]) (l' := fun g => [lfuB b qb most now churn, hpS qb S n]) (v := fun g => iV (S.length : Int)) (fun g => o_cl Tryz.call58 (Tri.eq (l2 := lfuL b qb most now churn S n) (r' := iV (S.length : Int)) (lfu_Len (n := n) (most := most) (now := now) (churn := churn) (S := S) (by omega)) (rfl) (rfl))), ob_k, ob_k, ob_k, ob_r (l := fun g => [lfuB b qb most now churn]) (l' := fun g => [lfuB b qb most now churn]) (v := fun g => iV most) (fun g => o_ld (i := 0) (v := iV most)), ob_k, ob_k, trivial⟩
  intro g
  refine Ex'.sub (subB_spec [0, 1, 4, 16]) (Ex'.a1 [0, 1] (σ' := [(0, pV b 0), (1, sV key), (4, bV false), (16, bV (decide ((S.length : Int) ≥ most)))]) (Γ' := [lfuB b qb most now churn, hpS qb S n]) (Ex'.next ?_))
  refine Cd.case (p := (S.length : Int) ≥ most) (by kernel_rfl) (fun h2 => ?_) (fun h2 => ?_)
  ·
   refine Cd.s1 (Sq.vl [0] [bV false] (Sq.d4 (Cd.ret (Ex'.thenRet (Ex'.ret Tryz.results61 (RVs.tm (v := bV false) RVs.nil) (fun w hw => ?_))))))
   have e : lfuAdopt most now churn S key = (now, S, false) := by unfold lfuAdopt; rw [if_neg (Bool.eq_false_iff.1 h1), if_pos h2]
   rw [e]
   exact ⟨_, ⟨rfl, rfl⟩, (hw.cv 1 (R := hpS qb S n) (R' := hpS qb S n') (hpS.up (by omega))).pk [0, 1]⟩
  ·
   refine Cd.skip (Ex'.next (Cd.s1 (Sq.vl [0, 1] [pV b 0, sV key] (Sq.sm [0, 1] (l := lfuL b qb most now churn S n) (o_cl Tryz.call140 (lfu_ask (n := n) (n' := n + 1) (most := most) (now := now) (churn := churn) (S := S) key (by omega) (by omega) (by omega) (by exact ht))) rfl (Sq.d1 (Sq.vl [0] [bV true] (Sq.d4 (Cd.ret (Ex'.ret Tryz.results61 (RVs.tm (v := bV true) RVs.nil) (fun w hw => ?_))))))))))
   have e : lfuAdopt most now churn S key = ((lfuAsk most now churn S key).1, (lfuAsk most now churn S key).2, true) := by unfold lfuAdopt; rw [if_neg (Bool.eq_false_iff.1 h1), if_neg h2]
   rw [e]
   exact ⟨_, ⟨rfl, rfl⟩, (hw.cv 1 (R := hpS qb ((lfuAsk most now churn S key).2) (n + 1)) (R' := hpS qb ((lfuAsk most now churn S key).2) n') (hpS.up (by omega))).pk [0, 1]⟩
theorem lfu_goes {b qb bc bo n cap : Nat} {most now : Int} {churn : Bool} {S : List (KR ByteArray)} {a0 : Option Addr} {rw : List ByteArray} (hb1 : n ≤ 1000000000) (hrw : rw.length ≤ 1000000000) : Tri Tryz.prog 143 #[pV bc 0, pV bo 0] [blkR bc [pV b 0] 96, blkR bo [.slice a0 rw.length cap] 31, rowR 9 1 (.slice a0 rw.length cap) rw.length (rw.map Value.string), lfuB b qb most now churn, hpS qb S n] (PostE (fun _ => True) (fun _ => .tuple #[]) fun v => [blkR bc [pV b 0] 96, blkR bo [v] 31, rowR 9 1 v ((rw ++ [(htop (⟨#[]⟩, 0, 0) S).1]).length) ((rw ++ [(htop (⟨#[]⟩, 0, 0) S).1]).map Value.string), lfuB b qb most now churn, hpS qb S.tail n]) := by
 refine Tri.en (args := [pV bc 0, pV bo 0]) Tryz.func143 (fun B wz => ?_)
 refine Cd.s1 (Sq.sm [0] (l := [blkR bc [pV b 0] 96]) (o_ld (i := 0) (v := pV b 0)) rfl (Sq.vl [1, 2] [pV b 0, pV b 3] (Sq.sm [3] (l := [lfuB b qb most now churn]) (o_ld (i := 3) (v := pV qb 0)) rfl (Sq.sm [4] (l := [hpS qb S n]) (o_cl Tryz.call139 (hp_PopS (S := S) (n := n) (by omega))) rfl (Sq.vl [5, 6, 7, 8, 9] [.tuple #[sV ((htop (⟨#[]⟩, 0, 0) S).1), bV (decide (0 < S.length))], sV ((htop (⟨#[]⟩, 0, 0) S).1), bV (decide (0 < S.length)), sV ((htop (⟨#[]⟩, 0, 0) S).1), bV (decide (0 < S.length))] (Sq.d4 (Cd.s0 (Sq.sm [1] (l := [blkR bo [.slice a0 rw.length cap] 31]) (o_ld (i := 0) (v := .slice a0 rw.length cap)) rfl ?_))))))))
 refine Sq.vl [1] [sV ((htop (⟨#[]⟩, 0, 0) S).1)] ?_
 refine Sq.e0 [] (l := []) (o_lit (sz := 1) (sV ⟨#[]⟩) [sV ((htop (⟨#[]⟩, 0, 0) S).1)] Tryz.underlying31 (by kernel_rfl) (by kernel_rfl) (by kernel_rfl) (by kernel_rfl) (by kernel_rfl)) rfl ?_; intro b3 _
 refine Sq.e1 [2, 5] (l := [rowR 9 1 (.slice a0 rw.length cap) rw.length (rw.map Value.string), blkR b3 [sV ((htop (⟨#[]⟩, 0, 0) S).1)] 9]) (o_push (n' := (rw ++ [(htop (⟨#[]⟩, 0, 0) S).1]).length) (xs' := (rw ++ [(htop (⟨#[]⟩, 0, 0) S).1]).map Value.string) (by kernel_rfl) (by kernel_rfl) sl_str (by decide) rfl (by kernel_rfl) (by unfold maxLen; first | omega | (simp only [List.length_nil]; omega)) (by first | omega | (simp only [List.length_nil]; omega)) (by simp) (by simp)) rfl ?_; rintro v4 _
 refine Sq.fact (i := 2) (R := rowR 9 1 v4 ((rw ++ [(htop (⟨#[]⟩, 0, 0) S).1]).length) ((rw ++ [(htop (⟨#[]⟩, 0, 0) S).1]).map Value.string)) (by kernel_rfl) row_slice ?_; rintro ⟨a5, c6, rfl, hc6, hc6'⟩
 have hc6'' : c6 ≤ 9223372036854775807 := hc6'
 have hlen7 : (rw ++ [(htop (⟨#[]⟩, 0, 0) S).1]).length = rw.length + 1 := by simp
 refine Sq.fact (i := 2) (R := rowR 9 1 (.slice a5 ((rw ++ [(htop (⟨#[]⟩, 0, 0) S).1]).length) c6) ((rw ++ [(htop (⟨#[]⟩, 0, 0) S).1]).length) ((rw ++ [(htop (⟨#[]⟩, 0, 0) S).1]).map Value.string)) (by kernel_rfl) (row_addr (by simp)) ?_; rintro ⟨b8, rfl⟩
 refine Sq.sm [1] (l := [blkR bo [.slice a0 rw.length cap] 31]) (o_st (i := 0) (v := .slice (some ⟨b8, 0, none⟩) ((rw ++ [(htop (⟨#[]⟩, 0, 0) S).1]).length) c6)) rfl (Sq.done (Ex'.fin Tryz.results143 (RVs.nil) (fun w hw => ?_)))
 exact ⟨_, ⟨.slice (some ⟨b8, 0, none⟩) ((rw ++ [(htop (⟨#[]⟩, 0, 0) S).1]).length) c6, trivial, rfl, rfl⟩, hw.pk [0, 1, 2, 3, 4]⟩
def lfuM (mo : Int) : Int := if (0 : Int) > mo then 0 else mo
def lfuResize (most now : Int) (churn : Bool) (S : List (KR ByteArray)) (mo : Int) : Int × List (KR ByteArray) × List ByteArray :=
 (lfuM mo, S.drop (S.length - (lfuM mo).toNat), (S.take (S.length - (lfuM mo).toNat)).map (·.1))
structure ResI (S : List (KR ByteArray)) (T : List (KR ByteArray)) (rw : List ByteArray) (k : Nat) : Prop where
 le : k ≤ S.length
 t : T = S.drop k
 r : rw = (S.take k).map (·.1)
theorem ResI.new {S : List (KR ByteArray)} : ResI S S [] 0 := ⟨Nat.zero_le _, rfl, rfl⟩
theorem ResI.step {S T : List (KR ByteArray)} {rw : List ByteArray} {k : Nat} (h : ResI S T rw k) (h0 : 0 < T.length) : ResI S T.tail (rw ++ [(htop (⟨#[]⟩, 0, 0) T).1]) (k + 1) := by
 obtain ⟨h1, rfl, rfl⟩ := h
 have hk : k < S.length := by rw [List.length_drop] at h0; omega
 refine ⟨hk, by simp, ?_⟩
 rw [List.take_add_one, List.getElem?_eq_getElem hk, List.map_append, List.drop_eq_getElem_cons hk]; rfl
theorem ResI.len {S T : List (KR ByteArray)} {rw : List ByteArray} {k : Nat} (h : ResI S T rw k) : T.length + k = S.length ∧ rw.length = k := by
 obtain ⟨h1, rfl, rfl⟩ := h
 simp; omega
theorem ResI.fin {S T : List (KR ByteArray)} {rw : List ByteArray} {k : Nat} {m : Int} (h : ResI S T rw k) (hm : 0 ≤ m) (h1 : ¬ (T.length : Int) > m) (h2 : 0 < k → ((T.length : Int) + 1 > m)) : T = S.drop (S.length - m.toNat) ∧ rw = (S.take (S.length - m.toNat)).map (·.1) := by
 have hl := h.len.1
 have hk : S.length - m.toNat = k := by
  rcases Nat.eq_zero_or_pos k with e | e
  · omega
  · have := h2 e; omega
 rw [hk]; exact ⟨h.t, h.r⟩
theorem lfu_Resize {b qb n : Nat} {most now : Int} {churn : Bool} {S : List (KR ByteArray)} (mo : Int) (hb1 : n ≤ 1000000000) (hmo : -9223372036854775808 ≤ mo ∧ mo ≤ 9223372036854775807) : Tri Tryz.prog 64 #[pV b 0, iV mo] [lfuB b qb most now churn, hpS qb S n] (PostE (fun _ => True) id fun v => lfuL b qb (lfuResize most now churn S mo).1 now churn (lfuResize most now churn S mo).2.1 n ++ [rowR 9 1 v (lfuResize most now churn S mo).2.2.length ((lfuResize most now churn S mo).2.2.map Value.string)]) := by
 refine Tri.en (args := [pV b 0, iV mo]) Tryz.func64 (fun B wz => ?_)
 refine Cd.fact (i := 1) rfl hpS.le ?_; rintro ⟨hnd, hlen⟩
 refine Cd.s1 ?_
 refine Sq.e0 [] (l := []) (o_newBox (v := pV b 0) [pV b 0] (by kernel_rfl) rfl) rfl ?_; intro b3 _
 refine Sq.vl [1] [.slice none 0 0] (Sq.d1 (Sq.sm [2] (l := [blkR b3 [pV b 0] 96]) (o_ld (i := 0) (v := pV b 0)) rfl (Sq.vl [1] [iV mo] ?_)))
 by_cases h4 : (0 : Int) > mo
 ·
  refine Sq.v (r := iV (if (0 : Int) > mo then 0 else mo)) (pureV (by kernel_rfl) rfl fun w => by kernel_rfl) rfl (by kernel_rfl) (Sq.re 9 rfl (by rw [if_pos h4]) (Sq.vl [3, 4] [pV b 0, pV b 0] (Sq.sm [0] (l := [lfuB b qb most now churn]) (o_st (i := 0) (v := iV 0)) rfl (Sq.d1 ?_))))
  refine Sq.e0 [] (l := []) (o_new [.slice none 0 0] (fun w => by kernel_rfl)) rfl ?_; intro b5 _
  refine Sq.d1 (Sq.vl [0, 1] [.func (.func 143) #[] #[pV b3 0, pV b5 0], .func (.func 143) #[] #[pV b3 0, pV b5 0]] (Sq.d4 (Cd.seq (Cd.block (Cd.nilRow 9 1 (Cd.loop (ι := Nat × (List (KR ByteArray)) × Value × (List ByteArray)) (fun ⟨k, T0, rv, rw⟩ => ResI S T0 rw k ∧ (0 < k → (T0.length : Int) + 1 > 0)) (fun ⟨k, T0, rv, rw⟩ => S.length - k) (fun ⟨k, T0, rv, rw⟩ => [(2, pV b3 0), (4, .slice none 0 0), (5, pV b5 0), (6, .func (.func 143) #[] #[pV b3 0, pV b5 0])]) (fun ⟨k, T0, rv, rw⟩ => [lfuB b qb 0 now churn, hpS qb T0 n, blkR b3 [pV b 0] 96, blkR b5 [rv] 31, rowR 9 1 rv rw.length (rw.map Value.string)]) (0, S, .slice none 0 0, ([] : List ByteArray)) (⟨ResI.new, fun q => absurd q (Nat.lt_irrefl 0)⟩) (subB_eq (l := [2, 4, 5, 6]) (by kernel_rfl)) (fun w hw => hw.pk [0, 1, 2, 3, 4]) ?_))))))
  rintro ⟨k, T0, rv, rw⟩ hL6
  try dsimp only at hL6 ⊢
  obtain ⟨hi, hk0⟩ := hL6
  obtain ⟨hl1, hl2⟩ := hi.len
  refine Cd.fact (i := 4) (R := rowR 9 1 rv rw.length (rw.map Value.string)) (by kernel_rfl) row_slice ?_; rintro ⟨a7, c8, rfl, hc8, hc8'⟩
  have hc8'' : c8 ≤ 9223372036854775807 := hc8'
  refine Cd.seq (Cd.seq ?_)
  refine Cd.plan [0, 1, 0, 4, 12, 28, 63] [(0, [(2, false, 0)]), (1, [(0, false, 0), (1, false, 0)]), (2, [(2, false, 0)]), (5, [(0, false, 0)])] [] [] [] [fun g => pV b 0, fun g => iV (T0.length : Int), fun g => pV b 0, fun g => pV b 0, fun g => pV b 0, fun g => iV 0, fun g => bV (decide ((T0.length : Int) > 0))] (by kernel_rfl) (by kernel_rfl) rfl (trivial) ?_ ?_
  · exact ⟨ob_r (l := fun g => [blkR b3 [pV b 0] 96]) (l' := fun g => [blkR b3 [pV b 0] 96]) (v := fun g => pV b 0) (fun g => o_ld (i := 0) (v := pV b 0)), ob_r (l := fun g => [lfuB b qb 0 now churn, hpS qb T0 n]) (l' := fun g => [lfuB b qb 0 now churn, hpS qb T0 n]) (v := fun g => iV (T0.length : Int)) (fun g => o_cl Tryz.call58 (Tri.eq (l2 := lfuL b qb 0 now churn T0 n) (r' := iV (T0.length : Int)) (lfu_Len (n := n) (most := 0) (now := now) (churn := churn) (S := T0) (by omega)) (rfl) (rfl))), ob_r (l := fun g => [blkR b3 [pV b 0] 96]) (l' := fun g => [blkR b3 [pV b 0] 96]) (v := fun g => pV b 0) (fun g => o_ld (i := 0) (v := pV b 0)), ob_k, ob_k, ob_r (l := fun g => [lfuB b qb 0 now churn]) (l' := fun g => [lfuB b qb 0 now churn]) (v := fun g => iV 0) (fun g => o_ld (i := 0) (v := iV 0)), ob_k, trivial⟩
  intro g
  refine Ex'.sub (subB_spec [2, 4, 5, 6, 19]) (Ex'.a1 [0, 1, 2, 3, 4] (σ' := [(2, pV b3 0), (4, .slice none 0 0), (5, pV b5 0), (6, .func (.func 143) #[] #[pV b3 0, pV b5 0]), (19, bV (decide ((T0.length : Int) > 0)))]) (Γ' := [lfuB b qb 0 now churn, hpS qb T0 n, blkR b3 [pV b 0] 96, blkR b5 [.slice a7 rw.length c8] 31, rowR 9 1 (.slice a7 rw.length c8) rw.length (rw.map Value.string)]) (Ex'.next ?_))
  refine Cd.case (p := (T0.length : Int) > 0) (by kernel_rfl) (fun h9 => ?_) (fun h9 => ?_)
  ·
   refine Cd.skip (Ex'.next (Cd.block (Cd.s0 (Sq.vl [0] [.func (.func 143) #[] #[pV b3 0, pV b5 0]] ?_))))
   refine Sq.e1 [2, 3, 4, 0, 1] (l := [blkR b3 [pV b 0] 96, blkR b5 [.slice a7 rw.length c8] 31, rowR 9 1 (.slice a7 rw.length c8) rw.length (rw.map Value.string), lfuB b qb 0 now churn, hpS qb T0 n]) (o_calld (first := []) (captured := [pV b3 0, pV b5 0]) (args := []) (by kernel_rfl) (by kernel_rfl) rfl Tryz.call143 (lfu_goes (n := n) (S := T0) (rw := rw) (by omega) (by omega))) rfl ?_; rintro v10 _
   refine Sq.fact (i := 4) (R := rowR 9 1 v10 ((rw ++ [(htop (⟨#[]⟩, 0, 0) T0).1]).length) ((rw ++ [(htop (⟨#[]⟩, 0, 0) T0).1]).map Value.string)) (by kernel_rfl) row_slice ?_; rintro ⟨a11, c12, rfl, hc12, hc12'⟩
   have hc12'' : c12 ≤ 9223372036854775807 := hc12'
   refine Sq.done (Ex'.blockNormal ?_)
   refine Ex'.round (g := (k, T0, .slice a7 rw.length c8, rw)) (k + 1, T0.tail, .slice a11 ((rw ++ [(htop (⟨#[]⟩, 0, 0) T0).1]).length) c12, rw ++ [(htop (⟨#[]⟩, 0, 0) T0).1]) ?_ ?_ (subB_eq (l := [2, 4, 5, 6]) (by kernel_rfl)) (fun w hw => hw.pk [0, 1, 2, 3, 4])
   · (try dsimp only); exact ⟨hi.step (by omega), fun _ => by rw [List.length_tail]; omega⟩
   · omega
  ·
   refine Cd.exit (Ex'.thenExit (Ex'.thenExit (Ex'.blockHit (Ex'.next (Cd.s1 (Sq.sm [3] (l := [blkR b5 [.slice a7 rw.length c8] 31]) (o_ld (i := 0) (v := .slice a7 rw.length c8)) rfl (Sq.vl [1] [.slice a7 rw.length c8] (Sq.d4 (Cd.ret (Ex'.ret Tryz.results64 (RVs.tm (v := .slice a7 rw.length c8) RVs.nil) (fun w hw => ?_)))))))))))
   have eM : lfuM mo = 0 := by unfold lfuM; rw [if_pos h4]
   obtain ⟨hf1, hf2⟩ := hi.fin (m := 0) (by omega) h9 hk0
   have e : lfuResize most now churn S mo = (0, T0, rw) := by unfold lfuResize; rw [eM, ← hf1, ← hf2]
   rw [e]; exact ⟨_, ⟨_, trivial, rfl, rfl⟩, hw.pk [0, 1, 4]⟩
 ·
  refine Sq.v (r := iV (if (0 : Int) > mo then 0 else mo)) (pureV (by kernel_rfl) rfl fun w => by kernel_rfl) rfl (by kernel_rfl) (Sq.re 9 rfl (by rw [if_neg h4]) (Sq.vl [3, 4] [pV b 0, pV b 0] (Sq.sm [0] (l := [lfuB b qb most now churn]) (o_st (i := 0) (v := iV mo)) rfl (Sq.d1 ?_))))
  refine Sq.e0 [] (l := []) (o_new [.slice none 0 0] (fun w => by kernel_rfl)) rfl ?_; intro b13 _
  refine Sq.d1 (Sq.vl [0, 1] [.func (.func 143) #[] #[pV b3 0, pV b13 0], .func (.func 143) #[] #[pV b3 0, pV b13 0]] (Sq.d4 (Cd.seq (Cd.block (Cd.nilRow 9 1 (Cd.loop (ι := Nat × (List (KR ByteArray)) × Value × (List ByteArray)) (fun ⟨k, T0, rv, rw⟩ => ResI S T0 rw k ∧ (0 < k → (T0.length : Int) + 1 > mo)) (fun ⟨k, T0, rv, rw⟩ => S.length - k) (fun ⟨k, T0, rv, rw⟩ => [(2, pV b3 0), (4, .slice none 0 0), (5, pV b13 0), (6, .func (.func 143) #[] #[pV b3 0, pV b13 0])]) (fun ⟨k, T0, rv, rw⟩ => [lfuB b qb mo now churn, hpS qb T0 n, blkR b3 [pV b 0] 96, blkR b13 [rv] 31, rowR 9 1 rv rw.length (rw.map Value.string)]) (0, S, .slice none 0 0, ([] : List ByteArray)) (⟨ResI.new, fun q => absurd q (Nat.lt_irrefl 0)⟩) (subB_eq (l := [2, 4, 5, 6]) (by kernel_rfl)) (fun w hw => hw.pk [0, 1, 2, 3, 4]) ?_))))))
  rintro ⟨k, T0, rv, rw⟩ hL14
  try dsimp only at hL14 ⊢
  obtain ⟨hi, hk0⟩ := hL14
  obtain ⟨hl1, hl2⟩ := hi.len
  refine Cd.fact (i := 4) (R := rowR 9 1 rv rw.length (rw.map Value.string)) (by kernel_rfl) row_slice ?_; rintro ⟨a15, c16, rfl, hc16, hc16'⟩
  have hc16'' : c16 ≤ 9223372036854775807 := hc16'
  refine Cd.seq (Cd.seq ?_)
  refine Cd.plan [0, 1, 0, 4, 12, 28, 63] [(0, [(2, false, 0)]), (1, [(0, false, 0), (1, false, 0)]), (2, [(2, false, 0)]), (5, [(0, false, 0)])] [] [] [] [fun g => pV b 0, fun g => iV (T0.length : Int), fun g => pV b 0, fun g => pV b 0, fun g => pV b 0, fun g => iV mo, fun g => bV (decide ((T0.length : Int) > mo))] (by kernel_rfl) (by kernel_rfl) rfl (trivial) ?_ ?_
  · exact ⟨ob_r (l := fun g => [blkR b3 [pV b 0] 96]) (l' := fun g => [blkR b3 [pV b 0] 96]) (v := fun g => pV b 0) (fun g => o_ld (i := 0) (v := pV b 0)), ob_r (l := fun g => [lfuB b qb mo now churn, hpS qb T0 n]) (l' := fun g => [lfuB b qb mo now churn, hpS qb T0 n]) (v := fun g => iV (T0.length : Int)) (fun g => o_cl Tryz.call58 (Tri.eq (l2 := lfuL b qb mo now churn T0 n) (r' := iV (T0.length : Int)) (lfu_Len (n := n) (most := mo) (now := now) (churn := churn) (S := T0) (by omega)) (rfl) (rfl))), ob_r (l := fun g => [blkR b3 [pV b 0] 96]) (l' := fun g => [blkR b3 [pV b 0] 96]) (v := fun g => pV b 0) (fun g => o_ld (i := 0) (v := pV b 0)), ob_k, ob_k, ob_r (l := fun g => [lfuB b qb mo now churn]) (l' := fun g => [lfuB b qb mo now churn]) (v := fun g => iV mo) (fun g => o_ld (i := 0) (v := iV mo)), ob_k, trivial⟩
  intro g
  refine Ex'.sub (subB_spec [2, 4, 5, 6, 19]) (Ex'.a1 [0, 1, 2, 3, 4] (σ' := [(2, pV b3 0), (4, .slice none 0 0), (5, pV b13 0), (6, .func (.func 143) #[] #[pV b3 0, pV b13 0]), (19, bV (decide ((T0.length : Int) > mo)))]) (Γ' := [lfuB b qb mo now churn, hpS qb T0 n, blkR b3 [pV b 0] 96, blkR b13 [.slice a15 rw.length c16] 31, rowR 9 1 (.slice a15 rw.length c16) rw.length (rw.map Value.string)]) (Ex'.next ?_))
  refine Cd.case (p := (T0.length : Int) > mo) (by kernel_rfl) (fun h17 => ?_) (fun h17 => ?_)
  ·
   refine Cd.skip (Ex'.next (Cd.block (Cd.s0 (Sq.vl [0] [.func (.func 143) #[] #[pV b3 0, pV b13 0]] ?_))))
   refine Sq.e1 [2, 3, 4, 0, 1] (l := [blkR b3 [pV b 0] 96, blkR b13 [.slice a15 rw.length c16] 31, rowR 9 1 (.slice a15 rw.length c16) rw.length (rw.map Value.string), lfuB b qb mo now churn, hpS qb T0 n]) (o_calld (first := []) (captured := [pV b3 0, pV b13 0]) (args := []) (by kernel_rfl) (by kernel_rfl) rfl Tryz.call143 (lfu_goes (n := n) (S := T0) (rw := rw) (by omega) (by omega))) rfl ?_; rintro v18 _
   refine Sq.fact (i := 4) (R := rowR 9 1 v18 ((rw ++ [(htop (⟨#[]⟩, 0, 0) T0).1]).length) ((rw ++ [(htop (⟨#[]⟩, 0, 0) T0).1]).map Value.string)) (by kernel_rfl) row_slice ?_; rintro ⟨a19, c20, rfl, hc20, hc20'⟩
   have hc20'' : c20 ≤ 9223372036854775807 := hc20'
   refine Sq.done (Ex'.blockNormal ?_)
   refine Ex'.round (g := (k, T0, .slice a15 rw.length c16, rw)) (k + 1, T0.tail, .slice a19 ((rw ++ [(htop (⟨#[]⟩, 0, 0) T0).1]).length) c20, rw ++ [(htop (⟨#[]⟩, 0, 0) T0).1]) ?_ ?_ (subB_eq (l := [2, 4, 5, 6]) (by kernel_rfl)) (fun w hw => hw.pk [0, 1, 2, 3, 4])
   · (try dsimp only); exact ⟨hi.step (by omega), fun _ => by rw [List.length_tail]; omega⟩
   · omega
  ·
   refine Cd.exit (Ex'.thenExit (Ex'.thenExit (Ex'.blockHit (Ex'.next (Cd.s1 (Sq.sm [3] (l := [blkR b13 [.slice a15 rw.length c16] 31]) (o_ld (i := 0) (v := .slice a15 rw.length c16)) rfl (Sq.vl [1] [.slice a15 rw.length c16] (Sq.d4 (Cd.ret (Ex'.ret Tryz.results64 (RVs.tm (v := .slice a15 rw.length c16) RVs.nil) (fun w hw => ?_)))))))))))
   have eM : lfuM mo = mo := by unfold lfuM; rw [if_neg h4]
   obtain ⟨hf1, hf2⟩ := hi.fin (m := mo) (by omega) h17 hk0
   have e : lfuResize most now churn S mo = (mo, T0, rw) := by unfold lfuResize; rw [eM, ← hf1, ← hf2]
   rw [e]; exact ⟨_, ⟨_, trivial, rfl, rfl⟩, hw.pk [0, 1, 4]⟩
def lfuNew (most0 : Int) (churn0 : Bool) : Int × Int × Bool × List (KR ByteArray) :=
 if (0 : Int) > most0 then (0, 0, churn0, []) else (most0, 0, churn0, [])
theorem lfu_New (most0 : Int) (churn0 : Bool) (hmost0 : -9223372036854775808 ≤ most0 ∧ most0 ≤ 9223372036854775807) : Tri Tryz.prog 56 #[iV most0, bV churn0] [] (PostE (ι := Nat × Nat) (fun _ => True) (fun x => pV x.1 0) fun x => lfuL x.1 x.2 ((lfuNew most0 churn0).1) ((lfuNew most0 churn0).2.1) ((lfuNew most0 churn0).2.2.1) ((lfuNew most0 churn0).2.2.2) 0) := by
 refine Tri.en (args := [iV most0, bV churn0]) Tryz.func56 (fun B wz => ?_)
 refine Cd.s1 (Sq.vl [0] [.pointer none] (Sq.d1 (Sq.vl [0] [iV most0] ?_)))
 by_cases h1 : (0 : Int) > most0
 ·
  refine Sq.v (r := iV (if (0 : Int) > most0 then 0 else most0)) (pureV (by kernel_rfl) rfl fun w => by kernel_rfl) rfl (by kernel_rfl) (Sq.re 6 rfl (by rw [if_pos h1]) (Sq.vl [2] [bV churn0] ?_))
  refine Sq.e1 [] (l := []) (o_cl Tryz.call136 (hp_NewS)) rfl ?_; rintro b3 _
  refine Sq.vl [4] [.agg #[iV 0, iV 0, bV churn0, pV b3 0]] ?_
  refine Sq.e0 [] (l := []) (o_newBox (v := .agg #[iV 0, iV 0, bV churn0, pV b3 0]) [iV 0, iV 0, bV churn0, pV b3 0] (by kernel_rfl) rfl) rfl ?_; intro b4 _
  refine Sq.vl [6] [pV b4 0] (Sq.d4 (Cd.ret (Ex'.ret Tryz.results56 (RVs.tm (v := pV b4 0) RVs.nil) (fun w hw => ?_))))
  have e : lfuNew most0 churn0 = (0, 0, churn0, []) := by unfold lfuNew; rw [if_pos h1]
  rw [e]
  exact ⟨_, ⟨(b4, b3), trivial, rfl, rfl⟩, hw.pk [1, 0]⟩
 ·
  refine Sq.v (r := iV (if (0 : Int) > most0 then 0 else most0)) (pureV (by kernel_rfl) rfl fun w => by kernel_rfl) rfl (by kernel_rfl) (Sq.re 6 rfl (by rw [if_neg h1]) (Sq.vl [2] [bV churn0] ?_))
  refine Sq.e1 [] (l := []) (o_cl Tryz.call136 (hp_NewS)) rfl ?_; rintro b5 _
  refine Sq.vl [4] [.agg #[iV most0, iV 0, bV churn0, pV b5 0]] ?_
  refine Sq.e0 [] (l := []) (o_newBox (v := .agg #[iV most0, iV 0, bV churn0, pV b5 0]) [iV most0, iV 0, bV churn0, pV b5 0] (by kernel_rfl) rfl) rfl ?_; intro b6 _
  refine Sq.vl [6] [pV b6 0] (Sq.d4 (Cd.ret (Ex'.ret Tryz.results56 (RVs.tm (v := pV b6 0) RVs.nil) (fun w hw => ?_))))
  have e : lfuNew most0 churn0 = (most0, 0, churn0, []) := by unfold lfuNew; rw [if_neg h1]
  rw [e]
  exact ⟨_, ⟨(b6, b5), trivial, rfl, rfl⟩, hw.pk [1, 0]⟩
theorem lfu_Ghosts {b : Nat}  : Tri Tryz.prog 66 #[pV b 0] [] (Same [] (.slice none 0 0)) := by
 refine Tri.en (args := [pV b 0]) Tryz.func66 (fun B wz => ?_)
 refine Cd.s1 (Sq.vl [0] [.slice none 0 0] (Sq.d1 (Sq.vl [0] [.slice none 0 0] (Sq.d4 (Cd.ret (Ex'.ret Tryz.results66 (RVs.tm (v := .slice none 0 0) RVs.nil) (fun w hw => ?_)))))))
 exact ⟨_, ⟨rfl, rfl⟩, hw.pk []⟩
end Go.Proofs.YtholinnmjoelkaaGreatDoor
