/- ArcQ, SepV, SepW, PolW -/
import Derived.Test.YtholinnmjoelkaaGreatDoorM22
import Derived.Test.YtholinnmjoelkaaGreatDoorM17
set_option linter.unusedVariables false
set_option linter.unusedSimpArgs false
namespace Go.Proofs.YtholinnmjoelkaaGreatDoor
variable {most p : Int} {t1 t2 b1 b2 : LB} {key : ByteArray}
structure GoneR (most : Int) (t1 t2 u1 u2 : LB) (v : ByteArray) (out : Bool) : Prop where
  cn : ∀ k, cn u1 k + Proofs.YtholinnmjoelkaaGreatDoor.cn u2 k = Proofs.YtholinnmjoelkaaGreatDoor.cn t1 k + Proofs.YtholinnmjoelkaaGreatDoor.cn t2 k - if out = true ∧ k = v then 1 else 0
  len : (u1.length : Int) + u2.length = t1.length + t2.length - if out = true then 1 else 0
  outE : out = decide ((t1.length : Int) + t2.length = most)
  vin : out = true → 0 < Proofs.YtholinnmjoelkaaGreatDoor.cn t1 v + Proofs.YtholinnmjoelkaaGreatDoor.cn t2 v
  vno : out = false → v = ⟨#[]⟩
theorem goneR_t1 (h0 : 0 < t1.length) (hm : (t1.length : Int) + t2.length = most) : GoneR most t1 t2 t1.dropLast t2 (lastOf t1) true := by
  have d := len_dl t1
  refine ⟨fun k => ?_, by simp only [if_true]; omega, (decide_eq_true hm).symm, fun _ => by have := cn_last h0; omega, fun q => by cases q⟩
  have := cn_dl h0 k
  by_cases q : k = lastOf t1
  · rw [if_pos q] at this; rw [if_pos ⟨rfl, q⟩]; omega
  · rw [if_neg q] at this; rw [if_neg (fun w => q w.2)]; omega
theorem goneR_t2 (h0 : 0 < t2.length) (hm : (t1.length : Int) + t2.length = most) : GoneR most t1 t2 t1 t2.dropLast (lastOf t2) true := by
  have d := len_dl t2
  refine ⟨fun k => ?_, by simp only [if_true]; omega, (decide_eq_true hm).symm, fun _ => by have := cn_last h0; omega, fun q => by cases q⟩
  have := cn_dl h0 k
  by_cases q : k = lastOf t2
  · rw [if_pos q] at this; rw [if_pos ⟨rfl, q⟩]; omega
  · rw [if_neg q] at this; rw [if_neg (fun w => q w.2)]; omega
theorem Room.gone {c1 c2 : LB} {x : Four} (h : Room most t1 t2 c1 c2 x) (hl : (t1.length : Int) + t2.length ≤ most) : GoneR most t1 t2 x.1 x.2.1 x.2.2.2.2.1 x.2.2.2.2.2 := by
  rcases h with ⟨rfl, h1⟩ | ⟨rfl, h0, h1⟩ | ⟨rfl, h0, h1⟩
  · exact ⟨fun k => by simp, by simp, (decide_eq_false (by omega)).symm, fun q => (by cases q), fun _ => rfl⟩
  · exact goneR_t1 h0 (by omega)
  · exact goneR_t2 h0 (by omega)
theorem goneR_fin {u1 u2 A B : LB} {v : ByteArray} {out : Bool} (h : GoneR most t1 t2 u1 u2 v out) (h1 : key ∉ t1) (h2 : key ∉ t2) (hc : ∀ k, cn A k + cn B k = if k = key then 1 else cn u1 k + cn u2 k) (hl : A.length + B.length = u1.length + u2.length + 1) :
    ReqP most (t1.reverse ++ t2.reverse) key (A.reverse ++ B.reverse) false v out := by
  have hno : key ∉ t1.reverse ++ t2.reverse := fun q => by
    rcases List.mem_append.1 q with q | q
    · exact h1 (List.mem_reverse.1 q)
    · exact h2 (List.mem_reverse.1 q)
  refine ⟨fun k => ?_, ?_, (decide_eq_false hno).symm, ?_, fun q => ?_, h.vno⟩
  · rw [cn_app, cn_app, cn_rev, cn_rev, cn_rev, cn_rev, hc, h.cn]
  · have := h.len
    simp only [List.length_append, List.length_reverse, Bool.false_eq_true, if_false]; omega
  · rw [h.outE, decide_eq_decide]
    simp only [List.length_append, List.length_reverse]
    exact ⟨fun q => ⟨hno, by omega⟩, fun q => by omega⟩
  · have := h.vin q
    exact cn_mem.2 (by rw [cn_app, cn_rev, cn_rev]; exact this)
theorem ArcI.reqP (h : ArcI most p t1 t2 b1 b2) (key : ByteArray) {x} (hx : arcReq most p t1 t2 b1 b2 key = x) : ArcI most x.1 x.2.1 x.2.2.1 x.2.2.2.1 x.2.2.2.2.1 ∧
    (0 < most → ReqP most (t1.reverse ++ t2.reverse) key (x.2.1.reverse ++ x.2.2.1.reverse) x.2.2.2.2.2.1 x.2.2.2.2.2.2.1 x.2.2.2.2.2.2.2) ∧ (most = 0 → x = (p, t1, t2, b1, b2, decide (key ∈ t1.reverse ++ t2.reverse), ⟨#[]⟩, false)) := by
  have g0 := h.h0; have g1 := h.len; have g2 := h.l1; have g3 := h.all; have gp := h.p0; have gm := h.pm
  have hI := (ArcI.req h key hx).i
  refine ⟨hI, fun hpos => ?_, fun hm => ?_⟩
  · have hm : most ≠ 0 := by omega
    have nk := h.n key
    by_cases h1 : key ∈ t1
    · rw [arcReq_t1 hm h1] at hx; subst hx
      have c1 := cn_mem.1 h1
      have l1 := len_rm t1 key
      have l2 := len_fr t2 key
      have hk : key ∈ t1.reverse ++ t2.reverse := List.mem_append_left _ (List.mem_reverse.2 h1)
      refine ⟨fun k => ?_, ?_, (decide_eq_true hk).symm, (decide_eq_false (fun q => q.1 hk)).symm, fun q => (by cases q), fun _ => rfl⟩
      · dsimp only
        rw [cn_app, cn_app, cn_rev, cn_rev, cn_rev, cn_rev, cn_rm, cn_fr]; simp only [Bool.false_eq_true, false_and, if_false, Nat.sub_zero]
        split <;> omega
      · simp only [List.length_append, List.length_reverse, if_true, Bool.false_eq_true, if_false]; omega
    by_cases h2 : key ∈ t2
    · rw [arcReq_t2 hm h1 h2] at hx; subst hx
      have c1 := cn_mem.1 h2
      have z1 := cn_zero h1
      have l1 := len_rm t2 key
      have l2 := len_fr (rm t2 key) key
      have l3 : cn (rm t2 key) key = 0 := by rw [cn_rm, if_pos rfl]
      have hk : key ∈ t1.reverse ++ t2.reverse := List.mem_append_right _ (List.mem_reverse.2 h2)
      refine ⟨fun k => ?_, ?_, (decide_eq_true hk).symm, (decide_eq_false (fun q => q.1 hk)).symm, fun q => (by cases q), fun _ => rfl⟩
      · dsimp only
        rw [cn_app, cn_app]; simp only [cn_rev, cn_fr, cn_rm, Bool.false_eq_true, false_and, if_false, Nat.sub_zero]
        by_cases q : k = key
        · subst q; rw [if_pos rfl, if_pos rfl]; omega
        · rw [if_neg q, if_neg q, if_neg q]
      · simp only [List.length_append, List.length_reverse, if_true, Bool.false_eq_true, if_false]; omega
    have z1 := cn_zero h1
    have z2 := cn_zero h2
    -- the key comes to a row of who is left
    have comeR : ∀ {u1 u2 : LB} {v : ByteArray} {out : Bool}, GoneR most t1 t2 u1 u2 v out → ReqP most (t1.reverse ++ t2.reverse) key (u1.reverse ++ (fr u2 key).reverse) false v out := fun {u1 u2 v out} hG => by
      have e := hG.cn key
      have f1 := len_fr u2 key
      refine goneR_fin hG h1 h2 (fun k => ?_) (by omega)
      rw [cn_fr]
      by_cases q : k = key
      · subst q; rw [if_pos rfl, if_pos rfl]; omega
      · rw [if_neg q, if_neg q]
    have comeL : ∀ {u1 u2 : LB} {v : ByteArray} {out : Bool}, GoneR most t1 t2 u1 u2 v out → ReqP most (t1.reverse ++ t2.reverse) key ((fr u1 key).reverse ++ u2.reverse) false v out := fun {u1 u2 v out} hG => by
      have e := hG.cn key
      have f1 := len_fr u1 key
      refine goneR_fin hG h1 h2 (fun k => ?_) (by omega)
      rw [cn_fr]
      by_cases q : k = key
      · subst q; rw [if_pos rfl, if_pos rfl]; omega
      · rw [if_neg q, if_neg q]
    by_cases h3 : key ∈ b1
    · have hR := room_F (p := arcUp most p b1 b2) (t1 := t1) (t2 := t2) (b1 := b1) (b2 := b2) hpos
      rw [arcReq_b1 hm h1 h2 h3 rfl] at hx
      subst hx
      exact comeR (hR.gone g1)
    by_cases h4 : key ∈ b2
    · have hR := room_T (p := arcDn p b1 b2) (t1 := t1) (t2 := t2) (b1 := b1) (b2 := b2) hpos
      rw [arcReq_b2 hm h1 h2 h3 h4 rfl] at hx
      subst hx
      exact comeR (hR.gone g1)
    rw [arcReq_new hm h1 h2 h3 h4 rfl] at hx
    have hF := fresh_cases h hpos rfl
    generalize arcFresh most p t1 t2 b1 b2 = y at hx hF
    subst hx
    rcases hF with ⟨c, rfl⟩ | ⟨c1, c2, hc, hR⟩
    · exact comeL (goneR_t1 (by omega) (by omega))
    · exact comeL (hR.gone g1)
  · rw [arcReq_zero hm] at hx
    rw [← hx]
    have : decide (key ∈ t1 ∨ key ∈ t2) = decide (key ∈ t1.reverse ++ t2.reverse) := by rw [decide_eq_decide]; simp
    rw [this]
theorem ArcI.remP (h : ArcI most p t1 t2 b1 b2) (key : ByteArray) {x} (hx : arcRemove most p t1 t2 b1 b2 key = x) : ArcI most p x.1 x.2.1 x.2.2.1 x.2.2.2.1 ∧ RemP (t1.reverse ++ t2.reverse) key (x.1.reverse ++ x.2.1.reverse) (x.2.2.1 ++ x.2.2.2.1) x.2.2.2.2 := by
  obtain ⟨hI, e⟩ := ArcI.remove h key hx
  have l1 := len_rm t1 key; have l2 := len_rm t2 key
  rw [e] at hI ⊢
  refine ⟨hI, by dsimp only; rw [decide_eq_decide]; simp, fun k => ?_, ?_, ?_⟩
  · dsimp only; rw [cn_app, cn_app, cn_rev, cn_rev, cn_rev, cn_rev, cn_rm, cn_rm]; split <;> simp
  · dsimp only; rw [cn_app, cn_rev, cn_rev]; simp only [List.length_append, List.length_reverse]; omega
  · intro q
    rcases List.mem_append.1 q with q | q
    · exact (mem_rm.1 q).2 rfl
    · exact (mem_rm.1 q).2 rfl
def arcVictim (most p : Int) (t1 t2 b1 b2 : LB) : ByteArray × Bool :=
  if (t1.length : Int) ≥ most then (t1.getLast?.getD ⟨#[]⟩, decide (0 < t1.length))
  else if (t1.length : Int) > 0 ∧ ((t1.length : Int) > p ∨ (t2.length : Int) = 0) then (t1.getLast?.getD ⟨#[]⟩, decide (0 < t1.length))
  else (t2.getLast?.getD ⟨#[]⟩, decide (0 < t2.length))
theorem ArcI.droP (h : ArcI most p t1 t2 b1 b2) {x} (hx : arcDrop most p t1 t2 b1 b2 = x) : ArcI most p x.1 x.2.1 b1 b2 ∧ DroP (t1.reverse ++ t2.reverse) (b1 ++ b2) (x.1.reverse ++ x.2.1.reverse) (b1 ++ b2) x.2.2.1 x.2.2.2 ∧ arcVictim most p t1 t2 b1 b2 = x.2.2 := by
  have hI := ArcI.drop h hx
  have key : (0 < t1.length ∧ x = (rm t1 (lastOf t1), t2, lastOf t1, true) ∧ arcVictim most p t1 t2 b1 b2 = (lastOf t1, true)) ∨ (0 < t2.length ∧ x = (t1, rm t2 (lastOf t2), lastOf t2, true) ∧ arcVictim most p t1 t2 b1 b2 = (lastOf t2, true)) ∨ (t1 = [] ∧ t2 = [] ∧ x = ([], [], ⟨#[]⟩, false) ∧ arcVictim most p t1 t2 b1 b2 = (⟨#[]⟩, false)) := by
    have g1 := h.len
    unfold arcDrop at hx
    unfold arcVictim
    by_cases c1 : (t1.length : Int) ≥ most
    · by_cases h0 : 0 < t1.length
      · rw [if_pos c1, if_pos h0, decide_eq_true h0] at hx
        rw [if_pos c1, decide_eq_true h0]
        exact .inl ⟨h0, hx.symm, rfl⟩
      · have e1 : t1 = [] := List.eq_nil_of_length_eq_zero (by omega)
        have e2 : t2 = [] := List.eq_nil_of_length_eq_zero (by omega)
        subst e1 e2
        rw [if_pos c1, if_neg h0] at hx
        rw [if_pos c1]
        exact .inr (.inr ⟨rfl, rfl, hx.symm, rfl⟩)
    · rw [if_neg c1] at hx ⊢
      by_cases c2 : (t1.length : Int) > 0 ∧ ((t1.length : Int) > p ∨ (t2.length : Int) = 0)
      · have h0 : 0 < t1.length := by omega
        rw [if_pos c2, if_pos h0, decide_eq_true h0] at hx
        rw [if_pos c2, decide_eq_true h0]
        exact .inl ⟨h0, hx.symm, rfl⟩
      · rw [if_neg c2] at hx ⊢
        by_cases h0 : 0 < t2.length
        · rw [if_pos h0, decide_eq_true h0] at hx
          rw [decide_eq_true h0]
          have hl := cn_last h0
          have hn := h.n (lastOf t2)
          have n1 : lastOf t2 ∉ t1 := fun q => by have := cn_mem.1 q; omega
          rw [show t2.getLast?.getD ⟨#[]⟩ = lastOf t2 from rfl, if_neg n1] at hx
          exact .inr (.inl ⟨h0, hx.symm, rfl⟩)
        · have e2 : t2 = [] := List.eq_nil_of_length_eq_zero (by omega)
          have e1 : t1 = [] := List.eq_nil_of_length_eq_zero (by omega)
          subst e1 e2
          rw [if_neg h0] at hx
          exact .inr (.inr ⟨rfl, rfl, hx.symm, rfl⟩)
  rcases key with ⟨h0, e, hv⟩ | ⟨h0, e, hv⟩ | ⟨e1, e2, e, hv⟩
  · rw [e] at hI ⊢
    have hl := cn_last h0
    have hn := fun k => h.n k
    have r1 := len_rm t1 (lastOf t1)
    have h9 := hn (lastOf t1)
    refine ⟨hI, ⟨(decide_eq_true (by simp only [List.length_append, List.length_reverse]; omega)).symm, fun _ => cn_mem.2 (by rw [cn_app, cn_rev, cn_rev]; dsimp only; omega), fun _ k => ?_, fun _ => ?_, fun q => (by cases q), rfl⟩, hv⟩
    · dsimp only
      rw [cn_app, cn_app]; simp only [cn_rev, cn_rm, true_and]
      by_cases q : k = lastOf t1
      · subst q; rw [if_pos rfl, if_pos rfl]; omega
      · rw [if_neg q, if_neg q]; omega
    · dsimp only; simp only [List.length_append, List.length_reverse]; omega
  · rw [e] at hI ⊢
    have hl := cn_last h0
    have hn := fun k => h.n k
    have r1 := len_rm t2 (lastOf t2)
    have h9 := hn (lastOf t2)
    refine ⟨hI, ⟨(decide_eq_true (by simp only [List.length_append, List.length_reverse]; omega)).symm, fun _ => cn_mem.2 (by rw [cn_app, cn_rev, cn_rev]; dsimp only; omega), fun _ k => ?_, fun _ => ?_, fun q => (by cases q), rfl⟩, hv⟩
    · dsimp only
      rw [cn_app, cn_app]; simp only [cn_rev, cn_rm, true_and]
      by_cases q : k = lastOf t2
      · subst q; rw [if_pos rfl, if_pos rfl]; omega
      · rw [if_neg q, if_neg q]; omega
    · dsimp only; simp only [List.length_append, List.length_reverse]; omega
  · rw [e] at hI ⊢
    subst e1 e2
    exact ⟨hI, ⟨rfl, fun q => (by cases q), fun q => (by cases q), fun q => (by cases q), fun _ => rfl, rfl⟩, hv⟩
end Go.Proofs.YtholinnmjoelkaaGreatDoor
namespace Go.Proofs.YtholinnmjoelkaaGreatDoor
open Go.RowKit Go.MapKept
section
variable {w : World} {S : Nat → Prop} {n cap size k : Nat} {a : Option Addr} {xs : List Value}
end
section
variable {P : Program} {σ : List (Nat × Value)} {t ty : TypeId} {dst : Option Tmp} {pos : String} {after : Array Edge} {g : Option (Nat × Bool)} {x : Operand} {b off n cap size j : Nat} {xs : List Value}
end
end Go.Proofs.YtholinnmjoelkaaGreatDoor
namespace Go.Proofs.YtholinnmjoelkaaGreatDoor
open Go.RowKit Go.MapKept
end Go.Proofs.YtholinnmjoelkaaGreatDoor
namespace Go.Proofs.YtholinnmjoelkaaGreatDoor
set_option maxHeartbeats 8000000
set_option maxRecDepth 100000
open Go.RowKit Go.MapKept
abbrev polBLru (p b : Nat) (most : Int) : Res := blkR p [iV 0, iV most, .func (.func 46) #[pV b 0] #[], .func (.func 47) #[pV b 0] #[], .func (.func 48) #[pV b 0] #[], .func (.func 49) #[pV b 0] #[], .func (.func 50) #[pV b 0] #[], .func (.func 51) #[pV b 0] #[], .func (.func 52) #[pV b 0] #[], .func (.func 53) #[pV b 0] #[], .func (.func 54) #[pV b 0] #[], .func (.func 55) #[pV b 0] #[]] 93
abbrev polBLfu (p b : Nat) (kind : Int) (most : Int) : Res := blkR p [iV kind, iV most, .func (.func 57) #[pV b 0] #[], .func (.func 58) #[pV b 0] #[], .func (.func 59) #[pV b 0] #[], .func (.func 60) #[pV b 0] #[], .func (.func 61) #[pV b 0] #[], .func (.func 62) #[pV b 0] #[], .func (.func 63) #[pV b 0] #[], .func (.func 64) #[pV b 0] #[], .func (.func 65) #[pV b 0] #[], .func (.func 66) #[pV b 0] #[]] 93
abbrev polBSrl (p b : Nat) (most : Int) : Res := blkR p [iV 3, iV most, .func (.func 68) #[pV b 0] #[], .func (.func 69) #[pV b 0] #[], .func (.func 70) #[pV b 0] #[], .func (.func 71) #[pV b 0] #[], .func (.func 72) #[pV b 0] #[], .func (.func 73) #[pV b 0] #[], .func (.func 74) #[pV b 0] #[], .func (.func 75) #[pV b 0] #[], .func (.func 76) #[pV b 0] #[], .func (.func 77) #[pV b 0] #[]] 93
abbrev polBArc (p b : Nat) (most : Int) : Res := blkR p [iV 4, iV most, .func (.func 79) #[pV b 0] #[], .func (.func 80) #[pV b 0] #[], .func (.func 81) #[pV b 0] #[], .func (.func 82) #[pV b 0] #[], .func (.func 83) #[pV b 0] #[], .func (.func 84) #[pV b 0] #[], .func (.func 85) #[pV b 0] #[], .func (.func 86) #[pV b 0] #[], .func (.func 87) #[pV b 0] #[], .func (.func 88) #[pV b 0] #[]] 93
theorem t_right {m : Int}  : Tri Tryz.prog 44 #[iV m] [] (Same [] (bV (decide (0 ≤ m ∧ m ≤ 16777216)))) := by
 refine Tri.en (args := [iV m]) Tryz.func44 (fun B wz => ?_)
 refine Cd.s1 (Sq.vl [0] [bV false] (Sq.d1 (Sq.vl [0, 1, 2] [iV m, bV (decide (m ≥ 0)), bV (decide (m ≥ 0))] ?_)))
 refine Sq.case 5 (p := m ≥ 0) rfl (fun h1 => ?_) (fun h1 => ?_)
 ·
  refine Sq.vl [3, 4, 5, 6] [iV m, bV (decide (m ≤ 16777216)), bV (decide (m ≤ 16777216)), bV (decide (m ≤ 16777216))] (Sq.d4 (Cd.ret (Ex'.ret Tryz.results44 (RVs.tm (v := bV (decide (m ≤ 16777216))) RVs.nil) (fun w hw => ?_))))
  exact ⟨_, ⟨congrArg Value.bool (by rw [decide_eq_decide]; omega), rfl⟩, hw.pk []⟩
 ·
  refine Sq.vl [3, 4, 5, 6] [undef, undef, bV false, bV false] (Sq.d4 (Cd.ret (Ex'.ret Tryz.results44 (RVs.tm (v := bV false) RVs.nil) (fun w hw => ?_))))
  exact ⟨_, ⟨(vF (p := 0 ≤ m ∧ m ≤ 16777216) (by omega)).symm, rfl⟩, hw.pk []⟩
theorem pol_Has_lru {q b lb j n : Nat} {most : Int} {ks : List ByteArray} (key : ByteArray) (hb : n + j + 10 ≤ 1000000000) (hj : ks.length ≤ j) : Tri Tryz.prog 19 #[pV q 0, sV key] [polBLru q b most, lruB b lb most, llR lb ks n] (Same ([polBLru q b most] ++ lruL b lb most ks n) (bV (lqHas most ks key))) := by
 refine Tri.en (args := [pV q 0, sV key]) Tryz.func19 (fun B wz => ?_)
 refine Cd.s1 (Sq.vl [0] [bV false] (Sq.d1 (Sq.vl [0, 1, 2] [pV q 0, pV q 0, pV q 2] (Sq.sm [0] (l := [polBLru q b most]) (o_ld (i := 2) (v := .func (.func 46) #[pV b 0] #[])) rfl (Sq.vl [4] [sV key] (Sq.sm [1, 2] (l := lruL b lb most ks n) (o_calld (first := [pV b 0]) (captured := []) (args := [sV key]) (by kernel_rfl) (by kernel_rfl) rfl Tryz.call46 (lru_Has (n := n) (most := most) (ks := ks) key (by omega))) rfl (Sq.vl [6] [bV (lqHas most ks key)] ?_)))))))
 refine Sq.d4 (Cd.ret (Ex'.ret Tryz.results19 (RVs.tm (v := bV (lqHas most ks key)) RVs.nil) (fun w hw => ?_)))
 exact ⟨_, ⟨rfl, rfl⟩, hw.pk [0, 1, 2]⟩
theorem pol_Has_lfu {q b qb j n : Nat} {most now : Int} {churn : Bool} {S : List (KR ByteArray)} (key : ByteArray) (hb : n + j + 10 ≤ 1000000000) (hw0 : 0 ≤ now ∧ now ≤ 1000000000) (ht : TmB 1000000000 S) (hj : S.length ≤ j) : Tri Tryz.prog 19 #[pV q 0, sV key] [polBLfu q b (if churn = true then 2 else 1) most, lfuB b qb most now churn, hpS qb S n] (Same ([polBLfu q b (if churn = true then 2 else 1) most] ++ lfuL b qb most now churn S n) (bV (lfuHas most now churn S key))) := by
 refine Tri.en (args := [pV q 0, sV key]) Tryz.func19 (fun B wz => ?_)
 refine Cd.s1 (Sq.vl [0] [bV false] (Sq.d1 (Sq.vl [0, 1, 2] [pV q 0, pV q 0, pV q 2] (Sq.sm [0] (l := [polBLfu q b (if churn = true then 2 else 1) most]) (o_ld (i := 2) (v := .func (.func 57) #[pV b 0] #[])) rfl (Sq.vl [4] [sV key] (Sq.sm [1, 2] (l := lfuL b qb most now churn S n) (o_calld (first := [pV b 0]) (captured := []) (args := [sV key]) (by kernel_rfl) (by kernel_rfl) rfl Tryz.call57 (lfu_Has (n := n) (most := most) (now := now) (churn := churn) (S := S) key (by omega))) rfl (Sq.vl [6] [bV (lfuHas most now churn S key)] ?_)))))))
 refine Sq.d4 (Cd.ret (Ex'.ret Tryz.results19 (RVs.tm (v := bV (lfuHas most now churn S key)) RVs.nil) (fun w hw => ?_)))
 exact ⟨_, ⟨rfl, rfl⟩, hw.pk [0, 1, 2]⟩
theorem pol_Has_srl {q b nb ab gb mb j n : Nat} {most target : Int} {ns cs gs : List ByteArray} {ms : List (ByteArray × (Bool × Bool))} (key : ByteArray) (hb : n + j + 10 ≤ 1000000000) (h0 : 0 ≤ most) (ht : 0 ≤ target ∧ target ≤ 4611686018427387904) (hj : cs.length + ns.length ≤ j) : Tri Tryz.prog 19 #[pV q 0, sV key] [polBSrl q b most, srlB b nb ab gb mb most target, llR nb ns n, llR ab cs n, llR gb gs n, mapR Value.string markV mb ms] (Same ([polBSrl q b most] ++ srlL b nb ab gb mb most target ns cs gs ms n) (bV (srlHas most target ns cs gs ms key))) := by
 refine Tri.en (args := [pV q 0, sV key]) Tryz.func19 (fun B wz => ?_)
 refine Cd.s1 (Sq.vl [0] [bV false] (Sq.d1 (Sq.vl [0, 1, 2] [pV q 0, pV q 0, pV q 2] (Sq.sm [0] (l := [polBSrl q b most]) (o_ld (i := 2) (v := .func (.func 68) #[pV b 0] #[])) rfl (Sq.vl [4] [sV key] (Sq.sm [1, 2, 3, 4, 5] (l := srlL b nb ab gb mb most target ns cs gs ms n) (o_calld (first := [pV b 0]) (captured := []) (args := [sV key]) (by kernel_rfl) (by kernel_rfl) rfl Tryz.call68 (srl_Has (n := n) (most := most) (target := target) (ns := ns) (cs := cs) (gs := gs) (ms := ms) key (by omega))) rfl (Sq.vl [6] [bV (srlHas most target ns cs gs ms key)] ?_)))))))
 refine Sq.d4 (Cd.ret (Ex'.ret Tryz.results19 (RVs.tm (v := bV (srlHas most target ns cs gs ms key)) RVs.nil) (fun w hw => ?_)))
 exact ⟨_, ⟨rfl, rfl⟩, hw.pk [0, 1, 2, 3, 4, 5]⟩
theorem pol_Has_arc {q b lt1 lt2 lb1 lb2 j n : Nat} {most p : Int} {t1 t2 b1 b2 : List ByteArray} (key : ByteArray) (hb : n + j + 10 ≤ 1000000000) (h0 : 0 ≤ most ∧ most ≤ 4611686018427387904) (hp : 0 ≤ p ∧ p ≤ most) (hj : t1.length + t2.length ≤ j) : Tri Tryz.prog 19 #[pV q 0, sV key] [polBArc q b most, arcB b lt1 lt2 lb1 lb2 most p, llR lt1 t1 n, llR lt2 t2 n, llR lb1 b1 n, llR lb2 b2 n] (Same ([polBArc q b most] ++ arcL b lt1 lt2 lb1 lb2 most p t1 t2 b1 b2 n) (bV (arcHas most p t1 t2 b1 b2 key))) := by
 refine Tri.en (args := [pV q 0, sV key]) Tryz.func19 (fun B wz => ?_)
 refine Cd.s1 (Sq.vl [0] [bV false] (Sq.d1 (Sq.vl [0, 1, 2] [pV q 0, pV q 0, pV q 2] (Sq.sm [0] (l := [polBArc q b most]) (o_ld (i := 2) (v := .func (.func 79) #[pV b 0] #[])) rfl (Sq.vl [4] [sV key] (Sq.sm [1, 2, 3, 4, 5] (l := arcL b lt1 lt2 lb1 lb2 most p t1 t2 b1 b2 n) (o_calld (first := [pV b 0]) (captured := []) (args := [sV key]) (by kernel_rfl) (by kernel_rfl) rfl Tryz.call79 (arc_Has (n := n) (most := most) (p := p) (t1 := t1) (t2 := t2) (b1 := b1) (b2 := b2) key (by omega))) rfl (Sq.vl [6] [bV (arcHas most p t1 t2 b1 b2 key)] ?_)))))))
 refine Sq.d4 (Cd.ret (Ex'.ret Tryz.results19 (RVs.tm (v := bV (arcHas most p t1 t2 b1 b2 key)) RVs.nil) (fun w hw => ?_)))
 exact ⟨_, ⟨rfl, rfl⟩, hw.pk [0, 1, 2, 3, 4, 5]⟩
theorem pol_Len_lru {q b lb j n : Nat} {most : Int} {ks : List ByteArray}  (hb : n + j + 10 ≤ 1000000000) (hj : ks.length ≤ j) : Tri Tryz.prog 20 #[pV q 0] [polBLru q b most, lruB b lb most, llR lb ks n] (Same ([polBLru q b most] ++ lruL b lb most ks n) (iV (lqLen most ks))) := by
 refine Tri.en (args := [pV q 0]) Tryz.func20 (fun B wz => ?_)
 refine Cd.s1 (Sq.vl [0] [iV 0] (Sq.d1 (Sq.vl [0, 1, 2] [pV q 0, pV q 0, pV q 3] (Sq.sm [0] (l := [polBLru q b most]) (o_ld (i := 3) (v := .func (.func 47) #[pV b 0] #[])) rfl (Sq.sm [1, 2] (l := lruL b lb most ks n) (o_calld (first := [pV b 0]) (captured := []) (args := []) (by kernel_rfl) (by kernel_rfl) rfl Tryz.call47 (lru_Len (n := n) (most := most) (ks := ks) (by omega))) rfl (Sq.vl [5] [iV (lqLen most ks)] (Sq.d4 (Cd.ret ?_))))))))
 refine Ex'.ret Tryz.results20 (RVs.tm (v := iV (lqLen most ks)) RVs.nil) (fun w hw => ?_)
 exact ⟨_, ⟨rfl, rfl⟩, hw.pk [0, 1, 2]⟩
theorem pol_Len_lfu {q b qb j n : Nat} {most now : Int} {churn : Bool} {S : List (KR ByteArray)}  (hb : n + j + 10 ≤ 1000000000) (hw0 : 0 ≤ now ∧ now ≤ 1000000000) (ht : TmB 1000000000 S) (hj : S.length ≤ j) : Tri Tryz.prog 20 #[pV q 0] [polBLfu q b (if churn = true then 2 else 1) most, lfuB b qb most now churn, hpS qb S n] (Same ([polBLfu q b (if churn = true then 2 else 1) most] ++ lfuL b qb most now churn S n) (iV (S.length : Int))) := by
 refine Tri.en (args := [pV q 0]) Tryz.func20 (fun B wz => ?_)
 refine Cd.s1 (Sq.vl [0] [iV 0] (Sq.d1 (Sq.vl [0, 1, 2] [pV q 0, pV q 0, pV q 3] (Sq.sm [0] (l := [polBLfu q b (if churn = true then 2 else 1) most]) (o_ld (i := 3) (v := .func (.func 58) #[pV b 0] #[])) rfl (Sq.sm [1, 2] (l := lfuL b qb most now churn S n) (o_calld (first := [pV b 0]) (captured := []) (args := []) (by kernel_rfl) (by kernel_rfl) rfl Tryz.call58 (Tri.eq (l2 := lfuL b qb most now churn S n) (r' := iV (S.length : Int)) (lfu_Len (n := n) (most := most) (now := now) (churn := churn) (S := S) (by omega)) (rfl) (rfl))) rfl (Sq.vl [5] [iV (S.length : Int)] (Sq.d4 (Cd.ret ?_))))))))
 refine Ex'.ret Tryz.results20 (RVs.tm (v := iV (S.length : Int)) RVs.nil) (fun w hw => ?_)
 exact ⟨_, ⟨rfl, rfl⟩, hw.pk [0, 1, 2]⟩
theorem pol_Len_srl {q b nb ab gb mb j n : Nat} {most target : Int} {ns cs gs : List ByteArray} {ms : List (ByteArray × (Bool × Bool))}  (hb : n + j + 10 ≤ 1000000000) (h0 : 0 ≤ most) (ht : 0 ≤ target ∧ target ≤ 4611686018427387904) (hj : cs.length + ns.length ≤ j) : Tri Tryz.prog 20 #[pV q 0] [polBSrl q b most, srlB b nb ab gb mb most target, llR nb ns n, llR ab cs n, llR gb gs n, mapR Value.string markV mb ms] (Same ([polBSrl q b most] ++ srlL b nb ab gb mb most target ns cs gs ms n) (iV (srlLen most target ns cs gs ms))) := by
 refine Tri.en (args := [pV q 0]) Tryz.func20 (fun B wz => ?_)
 refine Cd.s1 (Sq.vl [0] [iV 0] (Sq.d1 (Sq.vl [0, 1, 2] [pV q 0, pV q 0, pV q 3] (Sq.sm [0] (l := [polBSrl q b most]) (o_ld (i := 3) (v := .func (.func 69) #[pV b 0] #[])) rfl (Sq.sm [1, 2, 3, 4, 5] (l := srlL b nb ab gb mb most target ns cs gs ms n) (o_calld (first := [pV b 0]) (captured := []) (args := []) (by kernel_rfl) (by kernel_rfl) rfl Tryz.call69 (srl_Len (n := n) (most := most) (target := target) (ns := ns) (cs := cs) (gs := gs) (ms := ms) (by omega))) rfl (Sq.vl [5] [iV (srlLen most target ns cs gs ms)] (Sq.d4 (Cd.ret ?_))))))))
 refine Ex'.ret Tryz.results20 (RVs.tm (v := iV (srlLen most target ns cs gs ms)) RVs.nil) (fun w hw => ?_)
 exact ⟨_, ⟨rfl, rfl⟩, hw.pk [0, 1, 2, 3, 4, 5]⟩
theorem pol_Len_arc {q b lt1 lt2 lb1 lb2 j n : Nat} {most p : Int} {t1 t2 b1 b2 : List ByteArray}  (hb : n + j + 10 ≤ 1000000000) (h0 : 0 ≤ most ∧ most ≤ 4611686018427387904) (hp : 0 ≤ p ∧ p ≤ most) (hj : t1.length + t2.length ≤ j) : Tri Tryz.prog 20 #[pV q 0] [polBArc q b most, arcB b lt1 lt2 lb1 lb2 most p, llR lt1 t1 n, llR lt2 t2 n, llR lb1 b1 n, llR lb2 b2 n] (Same ([polBArc q b most] ++ arcL b lt1 lt2 lb1 lb2 most p t1 t2 b1 b2 n) (iV (arcLen most p t1 t2 b1 b2))) := by
 refine Tri.en (args := [pV q 0]) Tryz.func20 (fun B wz => ?_)
 refine Cd.s1 (Sq.vl [0] [iV 0] (Sq.d1 (Sq.vl [0, 1, 2] [pV q 0, pV q 0, pV q 3] (Sq.sm [0] (l := [polBArc q b most]) (o_ld (i := 3) (v := .func (.func 80) #[pV b 0] #[])) rfl (Sq.sm [1, 2, 3, 4, 5] (l := arcL b lt1 lt2 lb1 lb2 most p t1 t2 b1 b2 n) (o_calld (first := [pV b 0]) (captured := []) (args := []) (by kernel_rfl) (by kernel_rfl) rfl Tryz.call80 (arc_Len (n := n) (most := most) (p := p) (t1 := t1) (t2 := t2) (b1 := b1) (b2 := b2) (by omega))) rfl (Sq.vl [5] [iV (arcLen most p t1 t2 b1 b2)] (Sq.d4 (Cd.ret ?_))))))))
 refine Ex'.ret Tryz.results20 (RVs.tm (v := iV (arcLen most p t1 t2 b1 b2)) RVs.nil) (fun w hw => ?_)
 exact ⟨_, ⟨rfl, rfl⟩, hw.pk [0, 1, 2, 3, 4, 5]⟩
theorem pol_Request_lru {q b lb j n' n : Nat} {most : Int} {ks : List ByteArray} (key : ByteArray) (hb : n + j + 10 ≤ 1000000000) (hn : n + j + 5 ≤ n') (hj : ks.length ≤ j) : Tri Tryz.prog 17 #[pV q 0, sV key] [polBLru q b most, lruB b lb most, llR lb ks n] (Same ([polBLru q b most] ++ lruL b lb most ((lqReq most ks key).1) n') (.agg #[bV ((lqReq most ks key).2.1), sV ((lqReq most ks key).2.2.1), bV ((lqReq most ks key).2.2.2)])) := by
 refine Tri.en (args := [pV q 0, sV key]) Tryz.func17 (fun B wz => ?_)
 refine Cd.s1 ?_
 refine Sq.e0 [] (l := []) (o_new [bV false, sV ⟨#[]⟩, bV false] (fun w => by kernel_rfl)) rfl ?_; intro b3 _
 refine Sq.d1 (Sq.vl [0, 1, 2] [pV q 0, pV q 0, pV q 4] (Sq.sm [0] (l := [polBLru q b most]) (o_ld (i := 4) (v := .func (.func 48) #[pV b 0] #[])) rfl (Sq.vl [4] [sV key] (Sq.sm [1, 2] (l := lruL b lb most ks n) (o_calld (first := [pV b 0]) (captured := []) (args := [sV key]) (by kernel_rfl) (by kernel_rfl) rfl Tryz.call48 (lru_Request (n := n) (n' := n + 1) (most := most) (ks := ks) key (by omega) (by omega))) rfl (Sq.sm [3] (l := [blkR b3 [bV false, sV ⟨#[]⟩, bV false] 37]) (o_st (i := 0) (v := .agg #[bV ((lqReq most ks key).2.1), sV ((lqReq most ks key).2.2.1), bV ((lqReq most ks key).2.2.2)])) rfl (Sq.d4 (Cd.ret (Ex'.ret Tryz.results17 (RVs.cN (i := 0) (b := b3) (l := [bV ((lqReq most ks key).2.1), sV ((lqReq most ks key).2.2.1), bV ((lqReq most ks key).2.2.2)]) (E := 37) [bV ((lqReq most ks key).2.1), sV ((lqReq most ks key).2.2.1), bV ((lqReq most ks key).2.2.2)] 3 RVs.nil) (fun w hw => ?_)))))))))
 exact ⟨_, ⟨rfl, rfl⟩, (hw.cv 2 (R := llR lb ((lqReq most ks key).1) (n + 1)) (R' := llR lb ((lqReq most ks key).1) n') (llR.up (by omega))).pk [0, 1, 2]⟩
theorem pol_Request_lfu {q b qb j n' n : Nat} {most now : Int} {churn : Bool} {S : List (KR ByteArray)} (key : ByteArray) (hb : n + j + 10 ≤ 1000000000) (hn : n + j + 5 ≤ n') (hw0 : 0 ≤ now ∧ now ≤ 1000000000) (ht : TmB 1000000000 S) (hj : S.length ≤ j) : Tri Tryz.prog 17 #[pV q 0, sV key] [polBLfu q b (if churn = true then 2 else 1) most, lfuB b qb most now churn, hpS qb S n] (Same ([polBLfu q b (if churn = true then 2 else 1) most] ++ lfuL b qb most ((lfuReq most now churn S key).1) churn ((lfuReq most now churn S key).2.1) n') (.agg #[bV ((lfuReq most now churn S key).2.2.1), sV ((lfuReq most now churn S key).2.2.2.1), bV ((lfuReq most now churn S key).2.2.2.2)])) := by
 refine Tri.en (args := [pV q 0, sV key]) Tryz.func17 (fun B wz => ?_)
 refine Cd.s1 ?_
 refine Sq.e0 [] (l := []) (o_new [bV false, sV ⟨#[]⟩, bV false] (fun w => by kernel_rfl)) rfl ?_; intro b3 _
 refine Sq.d1 (Sq.vl [0, 1, 2] [pV q 0, pV q 0, pV q 4] (Sq.sm [0] (l := [polBLfu q b (if churn = true then 2 else 1) most]) (o_ld (i := 4) (v := .func (.func 59) #[pV b 0] #[])) rfl (Sq.vl [4] [sV key] ?_)))
 refine Sq.sm [1, 2] (l := lfuL b qb most now churn S n) (o_calld (first := [pV b 0]) (captured := []) (args := [sV key]) (by kernel_rfl) (by kernel_rfl) rfl Tryz.call59 (lfu_Request (n := n) (n' := n + 1) (most := most) (now := now) (churn := churn) (S := S) key (by omega) (by omega) (by omega) (by first | assumption | (unfold TmB; decide)))) rfl ?_
 refine Sq.sm [3] (l := [blkR b3 [bV false, sV ⟨#[]⟩, bV false] 37]) (o_st (i := 0) (v := .agg #[bV ((lfuReq most now churn S key).2.2.1), sV ((lfuReq most now churn S key).2.2.2.1), bV ((lfuReq most now churn S key).2.2.2.2)])) rfl (Sq.d4 (Cd.ret (Ex'.ret Tryz.results17 (RVs.cN (i := 0) (b := b3) (l := [bV ((lfuReq most now churn S key).2.2.1), sV ((lfuReq most now churn S key).2.2.2.1), bV ((lfuReq most now churn S key).2.2.2.2)]) (E := 37) [bV ((lfuReq most now churn S key).2.2.1), sV ((lfuReq most now churn S key).2.2.2.1), bV ((lfuReq most now churn S key).2.2.2.2)] 3 RVs.nil) (fun w hw => ?_))))
 exact ⟨_, ⟨rfl, rfl⟩, (hw.cv 2 (R := hpS qb ((lfuReq most now churn S key).2.1) (n + 1)) (R' := hpS qb ((lfuReq most now churn S key).2.1) n') (hpS.up (by omega))).pk [0, 1, 2]⟩
theorem pol_Request_srl {q b nb ab gb mb j n' n : Nat} {most target : Int} {ns cs gs : List ByteArray} {ms : List (ByteArray × (Bool × Bool))} (key : ByteArray) (hb : n + j + 10 ≤ 1000000000) (hn : n + j + 5 ≤ n') (h0 : 0 ≤ most) (ht : 0 ≤ target ∧ target ≤ 4611686018427387904) (hj : cs.length + ns.length ≤ j) : Tri Tryz.prog 17 #[pV q 0, sV key] [polBSrl q b most, srlB b nb ab gb mb most target, llR nb ns n, llR ab cs n, llR gb gs n, mapR Value.string markV mb ms] (Same ([polBSrl q b most] ++ srlL b nb ab gb mb most ((srlReq most target ns cs gs ms key).1) ((srlReq most target ns cs gs ms key).2.1) ((srlReq most target ns cs gs ms key).2.2.1) ((srlReq most target ns cs gs ms key).2.2.2.1) ((srlReq most target ns cs gs ms key).2.2.2.2.1) n') (.agg #[bV ((srlReq most target ns cs gs ms key).2.2.2.2.2.1), sV ((srlReq most target ns cs gs ms key).2.2.2.2.2.2.1), bV ((srlReq most target ns cs gs ms key).2.2.2.2.2.2.2)])) := by
 refine Tri.en (args := [pV q 0, sV key]) Tryz.func17 (fun B wz => ?_)
 refine Cd.s1 ?_
 refine Sq.e0 [] (l := []) (o_new [bV false, sV ⟨#[]⟩, bV false] (fun w => by kernel_rfl)) rfl ?_; intro b3 _
 refine Sq.d1 (Sq.vl [0, 1, 2] [pV q 0, pV q 0, pV q 4] (Sq.sm [0] (l := [polBSrl q b most]) (o_ld (i := 4) (v := .func (.func 70) #[pV b 0] #[])) rfl (Sq.vl [4] [sV key] (Sq.sm [1, 2, 3, 4, 5] (l := srlL b nb ab gb mb most target ns cs gs ms n) (o_calld (first := [pV b 0]) (captured := []) (args := [sV key]) (by kernel_rfl) (by kernel_rfl) rfl Tryz.call70 (srl_Request (n := n) (n' := n + cs.length + 3) (most := most) (target := target) (ns := ns) (cs := cs) (gs := gs) (ms := ms) key (by omega) (by omega) (by omega) (by omega))) rfl (Sq.sm [6] (l := [blkR b3 [bV false, sV ⟨#[]⟩, bV false] 37]) (o_st (i := 0) (v := .agg #[bV ((srlReq most target ns cs gs ms key).2.2.2.2.2.1), sV ((srlReq most target ns cs gs ms key).2.2.2.2.2.2.1), bV ((srlReq most target ns cs gs ms key).2.2.2.2.2.2.2)])) rfl (Sq.d4 (Cd.ret (Ex'.ret Tryz.results17 (RVs.cN (i := 0) (b := b3) (l := [bV ((srlReq most target ns cs gs ms key).2.2.2.2.2.1), sV ((srlReq most target ns cs gs ms key).2.2.2.2.2.2.1), bV ((srlReq most target ns cs gs ms key).2.2.2.2.2.2.2)]) (E := 37) [bV ((srlReq most target ns cs gs ms key).2.2.2.2.2.1), sV ((srlReq most target ns cs gs ms key).2.2.2.2.2.2.1), bV ((srlReq most target ns cs gs ms key).2.2.2.2.2.2.2)] 6 RVs.nil) (fun w hw => ?_)))))))))
 exact ⟨_, ⟨rfl, rfl⟩, (((hw.cv 2 (R := llR nb ((srlReq most target ns cs gs ms key).2.1) (n + cs.length + 3)) (R' := llR nb ((srlReq most target ns cs gs ms key).2.1) n') (llR.up (by omega))).cv 3 (R := llR ab ((srlReq most target ns cs gs ms key).2.2.1) (n + cs.length + 3)) (R' := llR ab ((srlReq most target ns cs gs ms key).2.2.1) n') (llR.up (by omega))).cv 4 (R := llR gb ((srlReq most target ns cs gs ms key).2.2.2.1) (n + cs.length + 3)) (R' := llR gb ((srlReq most target ns cs gs ms key).2.2.2.1) n') (llR.up (by omega))).pk [0, 1, 2, 3, 4, 5]⟩
theorem pol_Request_arc {q b lt1 lt2 lb1 lb2 j n' n : Nat} {most p : Int} {t1 t2 b1 b2 : List ByteArray} (key : ByteArray) (hb : n + j + 10 ≤ 1000000000) (hn : n + j + 5 ≤ n') (h0 : 0 ≤ most ∧ most ≤ 4611686018427387904) (hp : 0 ≤ p ∧ p ≤ most) (hj : t1.length + t2.length ≤ j) : Tri Tryz.prog 17 #[pV q 0, sV key] [polBArc q b most, arcB b lt1 lt2 lb1 lb2 most p, llR lt1 t1 n, llR lt2 t2 n, llR lb1 b1 n, llR lb2 b2 n] (Same ([polBArc q b most] ++ arcL b lt1 lt2 lb1 lb2 most ((arcReq most p t1 t2 b1 b2 key).1) ((arcReq most p t1 t2 b1 b2 key).2.1) ((arcReq most p t1 t2 b1 b2 key).2.2.1) ((arcReq most p t1 t2 b1 b2 key).2.2.2.1) ((arcReq most p t1 t2 b1 b2 key).2.2.2.2.1) n') (.agg #[bV ((arcReq most p t1 t2 b1 b2 key).2.2.2.2.2.1), sV ((arcReq most p t1 t2 b1 b2 key).2.2.2.2.2.2.1), bV ((arcReq most p t1 t2 b1 b2 key).2.2.2.2.2.2.2)])) := by
 refine Tri.en (args := [pV q 0, sV key]) Tryz.func17 (fun B wz => ?_)
 refine Cd.s1 ?_
 refine Sq.e0 [] (l := []) (o_new [bV false, sV ⟨#[]⟩, bV false] (fun w => by kernel_rfl)) rfl ?_; intro b3 _
 refine Sq.d1 (Sq.vl [0, 1, 2] [pV q 0, pV q 0, pV q 4] (Sq.sm [0] (l := [polBArc q b most]) (o_ld (i := 4) (v := .func (.func 81) #[pV b 0] #[])) rfl (Sq.vl [4] [sV key] (Sq.sm [1, 2, 3, 4, 5] (l := arcL b lt1 lt2 lb1 lb2 most p t1 t2 b1 b2 n) (o_calld (first := [pV b 0]) (captured := []) (args := [sV key]) (by kernel_rfl) (by kernel_rfl) rfl Tryz.call81 (arc_Request (n := n) (n' := n + 2) (most := most) (p := p) (t1 := t1) (t2 := t2) (b1 := b1) (b2 := b2) key (by omega) (by omega) (by omega) (by omega))) rfl (Sq.sm [6] (l := [blkR b3 [bV false, sV ⟨#[]⟩, bV false] 37]) (o_st (i := 0) (v := .agg #[bV ((arcReq most p t1 t2 b1 b2 key).2.2.2.2.2.1), sV ((arcReq most p t1 t2 b1 b2 key).2.2.2.2.2.2.1), bV ((arcReq most p t1 t2 b1 b2 key).2.2.2.2.2.2.2)])) rfl (Sq.d4 (Cd.ret (Ex'.ret Tryz.results17 (RVs.cN (i := 0) (b := b3) (l := [bV ((arcReq most p t1 t2 b1 b2 key).2.2.2.2.2.1), sV ((arcReq most p t1 t2 b1 b2 key).2.2.2.2.2.2.1), bV ((arcReq most p t1 t2 b1 b2 key).2.2.2.2.2.2.2)]) (E := 37) [bV ((arcReq most p t1 t2 b1 b2 key).2.2.2.2.2.1), sV ((arcReq most p t1 t2 b1 b2 key).2.2.2.2.2.2.1), bV ((arcReq most p t1 t2 b1 b2 key).2.2.2.2.2.2.2)] 6 RVs.nil) (fun w hw => ?_)))))))))
 exact ⟨_, ⟨rfl, rfl⟩, ((((hw.cv 2 (R := llR lt1 ((arcReq most p t1 t2 b1 b2 key).2.1) (n + 2)) (R' := llR lt1 ((arcReq most p t1 t2 b1 b2 key).2.1) n') (llR.up (by omega))).cv 3 (R := llR lt2 ((arcReq most p t1 t2 b1 b2 key).2.2.1) (n + 2)) (R' := llR lt2 ((arcReq most p t1 t2 b1 b2 key).2.2.1) n') (llR.up (by omega))).cv 4 (R := llR lb1 ((arcReq most p t1 t2 b1 b2 key).2.2.2.1) (n + 2)) (R' := llR lb1 ((arcReq most p t1 t2 b1 b2 key).2.2.2.1) n') (llR.up (by omega))).cv 5 (R := llR lb2 ((arcReq most p t1 t2 b1 b2 key).2.2.2.2.1) (n + 2)) (R' := llR lb2 ((arcReq most p t1 t2 b1 b2 key).2.2.2.2.1) n') (llR.up (by omega))).pk [0, 1, 2, 3, 4, 5]⟩
theorem pol_Victim_lru {q b lb j n : Nat} {most : Int} {ks : List ByteArray}  (hb : n + j + 10 ≤ 1000000000) (hj : ks.length ≤ j) : Tri Tryz.prog 23 #[pV q 0] [polBLru q b most, lruB b lb most, llR lb ks n] (Same ([polBLru q b most] ++ lruL b lb most ks n) (.tuple #[sV ((lqVictim most ks).1), bV ((lqVictim most ks).2)])) := by
 refine Tri.en (args := [pV q 0]) Tryz.func23 (fun B wz => ?_)
 refine Cd.s1 (Sq.vl [0, 1] [sV ⟨#[]⟩, bV false] (Sq.d1 (Sq.vl [0, 1, 2] [pV q 0, pV q 0, pV q 7] (Sq.sm [0] (l := [polBLru q b most]) (o_ld (i := 7) (v := .func (.func 51) #[pV b 0] #[])) rfl (Sq.sm [1, 2] (l := lruL b lb most ks n) (o_calld (first := [pV b 0]) (captured := []) (args := []) (by kernel_rfl) (by kernel_rfl) rfl Tryz.call51 (lru_Victim (n := n) (most := most) (ks := ks) (by omega))) rfl (Sq.vl [5, 6, 7, 8] [sV ((lqVictim most ks).1), bV ((lqVictim most ks).2), sV ((lqVictim most ks).1), bV ((lqVictim most ks).2)] (Sq.d4 (Cd.ret ?_))))))))
 refine Ex'.ret Tryz.results23 (RVs.tm (v := sV ((lqVictim most ks).1)) (RVs.tmp (v := bV ((lqVictim most ks).2)) (by kernel_rfl) RVs.nil)) (fun w hw => ?_)
 exact ⟨_, ⟨rfl, rfl⟩, hw.pk [0, 1, 2]⟩
theorem pol_Victim_lfu {q b qb j n : Nat} {most now : Int} {churn : Bool} {S : List (KR ByteArray)}  (hb : n + j + 10 ≤ 1000000000) (hw0 : 0 ≤ now ∧ now ≤ 1000000000) (ht : TmB 1000000000 S) (hj : S.length ≤ j) : Tri Tryz.prog 23 #[pV q 0] [polBLfu q b (if churn = true then 2 else 1) most, lfuB b qb most now churn, hpS qb S n] (Same ([polBLfu q b (if churn = true then 2 else 1) most] ++ lfuL b qb most now churn S n) (.tuple #[sV ((lfuVictim most now churn S).1), bV ((lfuVictim most now churn S).2)])) := by
 refine Tri.en (args := [pV q 0]) Tryz.func23 (fun B wz => ?_)
 refine Cd.s1 (Sq.vl [0, 1] [sV ⟨#[]⟩, bV false] (Sq.d1 (Sq.vl [0, 1, 2] [pV q 0, pV q 0, pV q 7] (Sq.sm [0] (l := [polBLfu q b (if churn = true then 2 else 1) most]) (o_ld (i := 7) (v := .func (.func 62) #[pV b 0] #[])) rfl (Sq.sm [1, 2] (l := lfuL b qb most now churn S n) (o_calld (first := [pV b 0]) (captured := []) (args := []) (by kernel_rfl) (by kernel_rfl) rfl Tryz.call62 (lfu_Victim (n := n) (most := most) (now := now) (churn := churn) (S := S) (by omega))) rfl (Sq.vl [5, 6, 7, 8] [sV ((lfuVictim most now churn S).1), bV ((lfuVictim most now churn S).2), sV ((lfuVictim most now churn S).1), bV ((lfuVictim most now churn S).2)] (Sq.d4 (Cd.ret ?_))))))))
 refine Ex'.ret Tryz.results23 (RVs.tm (v := sV ((lfuVictim most now churn S).1)) (RVs.tmp (v := bV ((lfuVictim most now churn S).2)) (by kernel_rfl) RVs.nil)) (fun w hw => ?_)
 exact ⟨_, ⟨rfl, rfl⟩, hw.pk [0, 1, 2]⟩
theorem pol_Victim_srl {q b nb ab gb mb j n : Nat} {most target : Int} {ns cs gs : List ByteArray} {ms : List (ByteArray × (Bool × Bool))}  (hb : n + j + 10 ≤ 1000000000) (h0 : 0 ≤ most) (ht : 0 ≤ target ∧ target ≤ 4611686018427387904) (hj : cs.length + ns.length ≤ j) : Tri Tryz.prog 23 #[pV q 0] [polBSrl q b most, srlB b nb ab gb mb most target, llR nb ns n, llR ab cs n, llR gb gs n, mapR Value.string markV mb ms] (Same ([polBSrl q b most] ++ srlL b nb ab gb mb most target ns cs gs ms n) (.tuple #[sV ((srlVictim most target ns cs gs ms).1), bV ((srlVictim most target ns cs gs ms).2)])) := by
 refine Tri.en (args := [pV q 0]) Tryz.func23 (fun B wz => ?_)
 refine Cd.s1 (Sq.vl [0, 1] [sV ⟨#[]⟩, bV false] (Sq.d1 (Sq.vl [0, 1, 2] [pV q 0, pV q 0, pV q 7] (Sq.sm [0] (l := [polBSrl q b most]) (o_ld (i := 7) (v := .func (.func 73) #[pV b 0] #[])) rfl (Sq.sm [1, 2, 3, 4, 5] (l := srlL b nb ab gb mb most target ns cs gs ms n) (o_calld (first := [pV b 0]) (captured := []) (args := []) (by kernel_rfl) (by kernel_rfl) rfl Tryz.call73 (srl_Victim (n := n) (most := most) (target := target) (ns := ns) (cs := cs) (gs := gs) (ms := ms) (by omega))) rfl (Sq.vl [5, 6, 7, 8] [sV ((srlVictim most target ns cs gs ms).1), bV ((srlVictim most target ns cs gs ms).2), sV ((srlVictim most target ns cs gs ms).1), bV ((srlVictim most target ns cs gs ms).2)] (Sq.d4 (Cd.ret ?_))))))))
 refine Ex'.ret Tryz.results23 (RVs.tm (v := sV ((srlVictim most target ns cs gs ms).1)) (RVs.tmp (v := bV ((srlVictim most target ns cs gs ms).2)) (by kernel_rfl) RVs.nil)) (fun w hw => ?_)
 exact ⟨_, ⟨rfl, rfl⟩, hw.pk [0, 1, 2, 3, 4, 5]⟩
theorem pol_Victim_arc {q b lt1 lt2 lb1 lb2 j n : Nat} {most p : Int} {t1 t2 b1 b2 : List ByteArray}  (hb : n + j + 10 ≤ 1000000000) (h0 : 0 ≤ most ∧ most ≤ 4611686018427387904) (hp : 0 ≤ p ∧ p ≤ most) (hj : t1.length + t2.length ≤ j) : Tri Tryz.prog 23 #[pV q 0] [polBArc q b most, arcB b lt1 lt2 lb1 lb2 most p, llR lt1 t1 n, llR lt2 t2 n, llR lb1 b1 n, llR lb2 b2 n] (Same ([polBArc q b most] ++ arcL b lt1 lt2 lb1 lb2 most p t1 t2 b1 b2 n) (.tuple #[sV (arcVictim most p t1 t2 b1 b2).1, bV (arcVictim most p t1 t2 b1 b2).2])) := by
 refine Tri.en (args := [pV q 0]) Tryz.func23 (fun B wz => ?_)
 refine Cd.s1 (Sq.vl [0, 1] [sV ⟨#[]⟩, bV false] (Sq.d1 (Sq.vl [0, 1, 2] [pV q 0, pV q 0, pV q 7] (Sq.sm [0] (l := [polBArc q b most]) (o_ld (i := 7) (v := .func (.func 84) #[pV b 0] #[])) rfl ?_))))
 by_cases h1 : (t1.length : Int) ≥ most
 ·
  refine Sq.sm [1, 2, 3, 4, 5] (l := arcL b lt1 lt2 lb1 lb2 most p t1 t2 b1 b2 n) (o_calld (first := [pV b 0]) (captured := []) (args := []) (by kernel_rfl) (by kernel_rfl) rfl Tryz.call84 (arc_VictimA (n := n) (most := most) (p := p) (t1 := t1) (t2 := t2) (b1 := b1) (b2 := b2) (by omega) h1)) rfl ?_
  refine Sq.vl [5, 6, 7, 8] [sV (t1.getLast?.getD ⟨#[]⟩), bV (decide (0 < t1.length)), sV (t1.getLast?.getD ⟨#[]⟩), bV (decide (0 < t1.length))] ?_
  refine Sq.d4 (Cd.ret ?_)
  refine Ex'.ret Tryz.results23 (RVs.tm (v := sV (t1.getLast?.getD ⟨#[]⟩)) (RVs.tmp (v := bV (decide (0 < t1.length))) (by kernel_rfl) RVs.nil)) (fun w hw => ?_)
  exact ⟨_, ⟨by unfold arcVictim; repeat' (first | rfl | contradiction | split), rfl⟩, hw.pk [0, 1, 2, 3, 4, 5]⟩
  
 ·
  by_cases h2 : (t1.length : Int) > 0 ∧ ((t1.length : Int) > p ∨ (t2.length : Int) = 0)
  ·
   refine Sq.sm [1, 2, 3, 4, 5] (l := arcL b lt1 lt2 lb1 lb2 most p t1 t2 b1 b2 n) (o_calld (first := [pV b 0]) (captured := []) (args := []) (by kernel_rfl) (by kernel_rfl) rfl Tryz.call84 (arc_VictimB (n := n) (most := most) (p := p) (t1 := t1) (t2 := t2) (b1 := b1) (b2 := b2) (by omega) h1 h2)) rfl ?_
   refine Sq.vl [5, 6, 7, 8] [sV (t1.getLast?.getD ⟨#[]⟩), bV (decide (0 < t1.length)), sV (t1.getLast?.getD ⟨#[]⟩), bV (decide (0 < t1.length))] ?_
   refine Sq.d4 (Cd.ret ?_)
   refine Ex'.ret Tryz.results23 (RVs.tm (v := sV (t1.getLast?.getD ⟨#[]⟩)) (RVs.tmp (v := bV (decide (0 < t1.length))) (by kernel_rfl) RVs.nil)) (fun w hw => ?_)
   exact ⟨_, ⟨by unfold arcVictim; repeat' (first | rfl | contradiction | split), rfl⟩, hw.pk [0, 1, 2, 3, 4, 5]⟩
   
  ·
   refine Sq.sm [1, 2, 3, 4, 5] (l := arcL b lt1 lt2 lb1 lb2 most p t1 t2 b1 b2 n) (o_calld (first := [pV b 0]) (captured := []) (args := []) (by kernel_rfl) (by kernel_rfl) rfl Tryz.call84 (arc_VictimC (n := n) (most := most) (p := p) (t1 := t1) (t2 := t2) (b1 := b1) (b2 := b2) (by omega) h1 h2)) rfl ?_
   refine Sq.vl [5, 6, 7, 8] [sV (t2.getLast?.getD ⟨#[]⟩), bV (decide (0 < t2.length)), sV (t2.getLast?.getD ⟨#[]⟩), bV (decide (0 < t2.length))] ?_
   refine Sq.d4 (Cd.ret ?_)
   refine Ex'.ret Tryz.results23 (RVs.tm (v := sV (t2.getLast?.getD ⟨#[]⟩)) (RVs.tmp (v := bV (decide (0 < t2.length))) (by kernel_rfl) RVs.nil)) (fun w hw => ?_)
   exact ⟨_, ⟨by unfold arcVictim; repeat' (first | rfl | contradiction | split), rfl⟩, hw.pk [0, 1, 2, 3, 4, 5]⟩
   
theorem pol_Keys_lru {q b lb j n : Nat} {most : Int} {ks : List ByteArray}  (hb : n + j + 10 ≤ 1000000000) (hj : ks.length ≤ j) : Tri Tryz.prog 16 #[pV q 0] [polBLru q b most, lruB b lb most, llR lb ks n] (PostE (fun _ => True) (fun v => v) fun v => [polBLru q b most] ++ lruL b lb most ks n ++ [rowR 9 1 v (lqKeys most ks).length ((lqKeys most ks).map Value.string)]) := by
 refine Tri.en (args := [pV q 0]) Tryz.func16 (fun B wz => ?_)
 refine Cd.s1 (Sq.vl [0] [.slice none 0 0] (Sq.d1 (Sq.vl [0, 1, 2] [pV q 0, pV q 0, pV q 10] (Sq.sm [0] (l := [polBLru q b most]) (o_ld (i := 10) (v := .func (.func 54) #[pV b 0] #[])) rfl ?_))))
 refine Sq.e1 [1, 2] (l := lruL b lb most ks n) (o_calld (first := [pV b 0]) (captured := []) (args := []) (by kernel_rfl) (by kernel_rfl) rfl Tryz.call54 (lru_Keys (n := n) (most := most) (ks := ks) (by omega))) rfl ?_; rintro v1 _
 refine Sq.fact (i := 3) (R := rowR 9 1 v1 ((lqKeys most ks).length) ((lqKeys most ks).map Value.string)) (by kernel_rfl) row_slice ?_; rintro ⟨a2, c3, rfl, hc3, hc3'⟩
 have hc3'' : c3 ≤ 9223372036854775807 := hc3'
 refine Sq.vl [5] [.slice a2 ((lqKeys most ks).length) c3] (Sq.d4 (Cd.ret (Ex'.ret Tryz.results16 (RVs.tm (v := .slice a2 ((lqKeys most ks).length) c3) RVs.nil) (fun w hw => ?_))))
 exact ⟨_, ⟨.slice a2 ((lqKeys most ks).length) c3, trivial, rfl, rfl⟩, hw.pk [0, 1, 2, 3]⟩
theorem pol_Keys_lfu {q b qb j n : Nat} {most now : Int} {churn : Bool} {S : List (KR ByteArray)}  (hb : n + j + 10 ≤ 1000000000) (hw0 : 0 ≤ now ∧ now ≤ 1000000000) (ht : TmB 1000000000 S) (hj : S.length ≤ j) : Tri Tryz.prog 16 #[pV q 0] [polBLfu q b (if churn = true then 2 else 1) most, lfuB b qb most now churn, hpS qb S n] (PostE (fun _ => True) (fun v => v) fun v => [polBLfu q b (if churn = true then 2 else 1) most] ++ lfuL b qb most now churn S n ++ [rowR 9 1 v (lfuKeys most now churn S).length ((lfuKeys most now churn S).map Value.string)]) := by
 refine Tri.en (args := [pV q 0]) Tryz.func16 (fun B wz => ?_)
 refine Cd.s1 (Sq.vl [0] [.slice none 0 0] (Sq.d1 (Sq.vl [0, 1, 2] [pV q 0, pV q 0, pV q 10] (Sq.sm [0] (l := [polBLfu q b (if churn = true then 2 else 1) most]) (o_ld (i := 10) (v := .func (.func 65) #[pV b 0] #[])) rfl ?_))))
 refine Sq.e1 [1, 2] (l := lfuL b qb most now churn S n) (o_calld (first := [pV b 0]) (captured := []) (args := []) (by kernel_rfl) (by kernel_rfl) rfl Tryz.call65 (lfu_Keys (n := n) (most := most) (now := now) (churn := churn) (S := S) (by omega))) rfl ?_; rintro v1 _
 refine Sq.fact (i := 3) (R := rowR 9 1 v1 ((lfuKeys most now churn S).length) ((lfuKeys most now churn S).map Value.string)) (by kernel_rfl) row_slice ?_; rintro ⟨a2, c3, rfl, hc3, hc3'⟩
 have hc3'' : c3 ≤ 9223372036854775807 := hc3'
 refine Sq.vl [5] [.slice a2 ((lfuKeys most now churn S).length) c3] (Sq.d4 (Cd.ret (Ex'.ret Tryz.results16 (RVs.tm (v := .slice a2 ((lfuKeys most now churn S).length) c3) RVs.nil) (fun w hw => ?_))))
 exact ⟨_, ⟨.slice a2 ((lfuKeys most now churn S).length) c3, trivial, rfl, rfl⟩, hw.pk [0, 1, 2, 3]⟩
theorem pol_Keys_srl {q b nb ab gb mb j n : Nat} {most target : Int} {ns cs gs : List ByteArray} {ms : List (ByteArray × (Bool × Bool))}  (hb : n + j + 10 ≤ 1000000000) (h0 : 0 ≤ most) (ht : 0 ≤ target ∧ target ≤ 4611686018427387904) (hj : cs.length + ns.length ≤ j) : Tri Tryz.prog 16 #[pV q 0] [polBSrl q b most, srlB b nb ab gb mb most target, llR nb ns n, llR ab cs n, llR gb gs n, mapR Value.string markV mb ms] (PostE (fun _ => True) (fun v => v) fun v => [polBSrl q b most] ++ srlL b nb ab gb mb most target ns cs gs ms n ++ [rowR 9 1 v (srlKeys most target ns cs gs ms).length ((srlKeys most target ns cs gs ms).map Value.string)]) := by
 refine Tri.en (args := [pV q 0]) Tryz.func16 (fun B wz => ?_)
 refine Cd.s1 (Sq.vl [0] [.slice none 0 0] (Sq.d1 (Sq.vl [0, 1, 2] [pV q 0, pV q 0, pV q 10] (Sq.sm [0] (l := [polBSrl q b most]) (o_ld (i := 10) (v := .func (.func 76) #[pV b 0] #[])) rfl ?_))))
 refine Sq.e1 [1, 2, 3, 4, 5] (l := srlL b nb ab gb mb most target ns cs gs ms n) (o_calld (first := [pV b 0]) (captured := []) (args := []) (by kernel_rfl) (by kernel_rfl) rfl Tryz.call76 (srl_Keys (n := n) (most := most) (target := target) (ns := ns) (cs := cs) (gs := gs) (ms := ms) (by omega))) rfl ?_; rintro v1 _
 refine Sq.fact (i := 6) (R := rowR 9 1 v1 ((srlKeys most target ns cs gs ms).length) ((srlKeys most target ns cs gs ms).map Value.string)) (by kernel_rfl) row_slice ?_; rintro ⟨a2, c3, rfl, hc3, hc3'⟩
 have hc3'' : c3 ≤ 9223372036854775807 := hc3'
 refine Sq.vl [5] [.slice a2 ((srlKeys most target ns cs gs ms).length) c3] (Sq.d4 (Cd.ret (Ex'.ret Tryz.results16 (RVs.tm (v := .slice a2 ((srlKeys most target ns cs gs ms).length) c3) RVs.nil) (fun w hw => ?_))))
 exact ⟨_, ⟨.slice a2 ((srlKeys most target ns cs gs ms).length) c3, trivial, rfl, rfl⟩, hw.pk [0, 1, 2, 3, 4, 5, 6]⟩
theorem pol_Keys_arc {q b lt1 lt2 lb1 lb2 j n : Nat} {most p : Int} {t1 t2 b1 b2 : List ByteArray}  (hb : n + j + 10 ≤ 1000000000) (h0 : 0 ≤ most ∧ most ≤ 4611686018427387904) (hp : 0 ≤ p ∧ p ≤ most) (hj : t1.length + t2.length ≤ j) : Tri Tryz.prog 16 #[pV q 0] [polBArc q b most, arcB b lt1 lt2 lb1 lb2 most p, llR lt1 t1 n, llR lt2 t2 n, llR lb1 b1 n, llR lb2 b2 n] (PostE (fun _ => True) (fun v => v) fun v => [polBArc q b most] ++ arcL b lt1 lt2 lb1 lb2 most p t1 t2 b1 b2 n ++ [rowR 9 1 v (arcKeys most p t1 t2 b1 b2).length ((arcKeys most p t1 t2 b1 b2).map Value.string)]) := by
 refine Tri.en (args := [pV q 0]) Tryz.func16 (fun B wz => ?_)
 refine Cd.s1 (Sq.vl [0] [.slice none 0 0] (Sq.d1 (Sq.vl [0, 1, 2] [pV q 0, pV q 0, pV q 10] (Sq.sm [0] (l := [polBArc q b most]) (o_ld (i := 10) (v := .func (.func 87) #[pV b 0] #[])) rfl ?_))))
 refine Sq.e1 [1, 2, 3, 4, 5] (l := arcL b lt1 lt2 lb1 lb2 most p t1 t2 b1 b2 n) (o_calld (first := [pV b 0]) (captured := []) (args := []) (by kernel_rfl) (by kernel_rfl) rfl Tryz.call87 (arc_Keys (n := n) (most := most) (p := p) (t1 := t1) (t2 := t2) (b1 := b1) (b2 := b2) (by omega))) rfl ?_; rintro v1 _
 refine Sq.fact (i := 6) (R := rowR 9 1 v1 ((arcKeys most p t1 t2 b1 b2).length) ((arcKeys most p t1 t2 b1 b2).map Value.string)) (by kernel_rfl) row_slice ?_; rintro ⟨a2, c3, rfl, hc3, hc3'⟩
 have hc3'' : c3 ≤ 9223372036854775807 := hc3'
 refine Sq.vl [5] [.slice a2 ((arcKeys most p t1 t2 b1 b2).length) c3] (Sq.d4 (Cd.ret (Ex'.ret Tryz.results16 (RVs.tm (v := .slice a2 ((arcKeys most p t1 t2 b1 b2).length) c3) RVs.nil) (fun w hw => ?_))))
 exact ⟨_, ⟨.slice a2 ((arcKeys most p t1 t2 b1 b2).length) c3, trivial, rfl, rfl⟩, hw.pk [0, 1, 2, 3, 4, 5, 6]⟩
theorem pol_Kind_lru {q b lb j n : Nat} {most : Int} {ks : List ByteArray}  (hb : n + j + 10 ≤ 1000000000) (hj : ks.length ≤ j) : Tri Tryz.prog 40 #[pV q 0] [polBLru q b most, lruB b lb most, llR lb ks n] (Same ([polBLru q b most] ++ lruL b lb most ks n) (iV 0)) := by
 refine Tri.en (args := [pV q 0]) Tryz.func40 (fun B wz => ?_)
 refine Cd.s1 (Sq.vl [0] [iV 0] (Sq.d1 (Sq.vl [0, 1, 2] [pV q 0, pV q 0, pV q 0] (Sq.sm [0] (l := [polBLru q b most]) (o_ld (i := 0) (v := iV 0)) rfl (Sq.vl [4] [iV 0] (Sq.d4 (Cd.ret (Ex'.ret Tryz.results40 (RVs.tm (v := iV 0) RVs.nil) (fun w hw => ?_)))))))))
 exact ⟨_, ⟨rfl, rfl⟩, hw.pk [0, 1, 2]⟩
theorem pol_Kind_lfu {q b qb j n : Nat} {most now : Int} {churn : Bool} {S : List (KR ByteArray)}  (hb : n + j + 10 ≤ 1000000000) (hw0 : 0 ≤ now ∧ now ≤ 1000000000) (ht : TmB 1000000000 S) (hj : S.length ≤ j) : Tri Tryz.prog 40 #[pV q 0] [polBLfu q b (if churn = true then 2 else 1) most, lfuB b qb most now churn, hpS qb S n] (Same ([polBLfu q b (if churn = true then 2 else 1) most] ++ lfuL b qb most now churn S n) (iV (if churn = true then 2 else 1))) := by
 refine Tri.en (args := [pV q 0]) Tryz.func40 (fun B wz => ?_)
 refine Cd.s1 (Sq.vl [0] [iV 0] (Sq.d1 (Sq.vl [0, 1, 2] [pV q 0, pV q 0, pV q 0] (Sq.sm [0] (l := [polBLfu q b (if churn = true then 2 else 1) most]) (o_ld (i := 0) (v := iV (if churn = true then 2 else 1))) rfl (Sq.vl [4] [iV (if churn = true then 2 else 1)] (Sq.d4 (Cd.ret (Ex'.ret Tryz.results40 (RVs.tm (v := iV (if churn = true then 2 else 1)) RVs.nil) (fun w hw => ?_)))))))))
 exact ⟨_, ⟨rfl, rfl⟩, hw.pk [0, 1, 2]⟩
theorem pol_Kind_srl {q b nb ab gb mb j n : Nat} {most target : Int} {ns cs gs : List ByteArray} {ms : List (ByteArray × (Bool × Bool))}  (hb : n + j + 10 ≤ 1000000000) (h0 : 0 ≤ most) (ht : 0 ≤ target ∧ target ≤ 4611686018427387904) (hj : cs.length + ns.length ≤ j) : Tri Tryz.prog 40 #[pV q 0] [polBSrl q b most, srlB b nb ab gb mb most target, llR nb ns n, llR ab cs n, llR gb gs n, mapR Value.string markV mb ms] (Same ([polBSrl q b most] ++ srlL b nb ab gb mb most target ns cs gs ms n) (iV 3)) := by
 refine Tri.en (args := [pV q 0]) Tryz.func40 (fun B wz => ?_)
 refine Cd.s1 (Sq.vl [0] [iV 0] (Sq.d1 (Sq.vl [0, 1, 2] [pV q 0, pV q 0, pV q 0] (Sq.sm [0] (l := [polBSrl q b most]) (o_ld (i := 0) (v := iV 3)) rfl (Sq.vl [4] [iV 3] (Sq.d4 (Cd.ret (Ex'.ret Tryz.results40 (RVs.tm (v := iV 3) RVs.nil) (fun w hw => ?_)))))))))
 exact ⟨_, ⟨rfl, rfl⟩, hw.pk [0, 1, 2, 3, 4, 5]⟩
theorem pol_Kind_arc {q b lt1 lt2 lb1 lb2 j n : Nat} {most p : Int} {t1 t2 b1 b2 : List ByteArray}  (hb : n + j + 10 ≤ 1000000000) (h0 : 0 ≤ most ∧ most ≤ 4611686018427387904) (hp : 0 ≤ p ∧ p ≤ most) (hj : t1.length + t2.length ≤ j) : Tri Tryz.prog 40 #[pV q 0] [polBArc q b most, arcB b lt1 lt2 lb1 lb2 most p, llR lt1 t1 n, llR lt2 t2 n, llR lb1 b1 n, llR lb2 b2 n] (Same ([polBArc q b most] ++ arcL b lt1 lt2 lb1 lb2 most p t1 t2 b1 b2 n) (iV 4)) := by
 refine Tri.en (args := [pV q 0]) Tryz.func40 (fun B wz => ?_)
 refine Cd.s1 (Sq.vl [0] [iV 0] (Sq.d1 (Sq.vl [0, 1, 2] [pV q 0, pV q 0, pV q 0] (Sq.sm [0] (l := [polBArc q b most]) (o_ld (i := 0) (v := iV 4)) rfl (Sq.vl [4] [iV 4] (Sq.d4 (Cd.ret (Ex'.ret Tryz.results40 (RVs.tm (v := iV 4) RVs.nil) (fun w hw => ?_)))))))))
 exact ⟨_, ⟨rfl, rfl⟩, hw.pk [0, 1, 2, 3, 4, 5]⟩
theorem pol_Most_lru {q b lb j n : Nat} {most : Int} {ks : List ByteArray}  (hb : n + j + 10 ≤ 1000000000) (hj : ks.length ≤ j) : Tri Tryz.prog 29 #[pV q 0] [polBLru q b most, lruB b lb most, llR lb ks n] (Same ([polBLru q b most] ++ lruL b lb most ks n) (iV most)) := by
 refine Tri.en (args := [pV q 0]) Tryz.func29 (fun B wz => ?_)
 refine Cd.s1 (Sq.vl [0] [iV 0] (Sq.d1 (Sq.vl [0, 1, 2] [pV q 0, pV q 0, pV q 1] (Sq.sm [0] (l := [polBLru q b most]) (o_ld (i := 1) (v := iV most)) rfl (Sq.vl [4] [iV most] (Sq.d4 (Cd.ret (Ex'.ret Tryz.results29 (RVs.tm (v := iV most) RVs.nil) (fun w hw => ?_)))))))))
 exact ⟨_, ⟨rfl, rfl⟩, hw.pk [0, 1, 2]⟩
theorem pol_Most_lfu {q b qb j n : Nat} {most now : Int} {churn : Bool} {S : List (KR ByteArray)}  (hb : n + j + 10 ≤ 1000000000) (hw0 : 0 ≤ now ∧ now ≤ 1000000000) (ht : TmB 1000000000 S) (hj : S.length ≤ j) : Tri Tryz.prog 29 #[pV q 0] [polBLfu q b (if churn = true then 2 else 1) most, lfuB b qb most now churn, hpS qb S n] (Same ([polBLfu q b (if churn = true then 2 else 1) most] ++ lfuL b qb most now churn S n) (iV most)) := by
 refine Tri.en (args := [pV q 0]) Tryz.func29 (fun B wz => ?_)
 refine Cd.s1 (Sq.vl [0] [iV 0] (Sq.d1 (Sq.vl [0, 1, 2] [pV q 0, pV q 0, pV q 1] (Sq.sm [0] (l := [polBLfu q b (if churn = true then 2 else 1) most]) (o_ld (i := 1) (v := iV most)) rfl (Sq.vl [4] [iV most] (Sq.d4 (Cd.ret (Ex'.ret Tryz.results29 (RVs.tm (v := iV most) RVs.nil) (fun w hw => ?_)))))))))
 exact ⟨_, ⟨rfl, rfl⟩, hw.pk [0, 1, 2]⟩
theorem pol_Most_srl {q b nb ab gb mb j n : Nat} {most target : Int} {ns cs gs : List ByteArray} {ms : List (ByteArray × (Bool × Bool))}  (hb : n + j + 10 ≤ 1000000000) (h0 : 0 ≤ most) (ht : 0 ≤ target ∧ target ≤ 4611686018427387904) (hj : cs.length + ns.length ≤ j) : Tri Tryz.prog 29 #[pV q 0] [polBSrl q b most, srlB b nb ab gb mb most target, llR nb ns n, llR ab cs n, llR gb gs n, mapR Value.string markV mb ms] (Same ([polBSrl q b most] ++ srlL b nb ab gb mb most target ns cs gs ms n) (iV most)) := by
 refine Tri.en (args := [pV q 0]) Tryz.func29 (fun B wz => ?_)
 refine Cd.s1 (Sq.vl [0] [iV 0] (Sq.d1 (Sq.vl [0, 1, 2] [pV q 0, pV q 0, pV q 1] (Sq.sm [0] (l := [polBSrl q b most]) (o_ld (i := 1) (v := iV most)) rfl (Sq.vl [4] [iV most] (Sq.d4 (Cd.ret (Ex'.ret Tryz.results29 (RVs.tm (v := iV most) RVs.nil) (fun w hw => ?_)))))))))
 exact ⟨_, ⟨rfl, rfl⟩, hw.pk [0, 1, 2, 3, 4, 5]⟩
theorem pol_Most_arc {q b lt1 lt2 lb1 lb2 j n : Nat} {most p : Int} {t1 t2 b1 b2 : List ByteArray}  (hb : n + j + 10 ≤ 1000000000) (h0 : 0 ≤ most ∧ most ≤ 4611686018427387904) (hp : 0 ≤ p ∧ p ≤ most) (hj : t1.length + t2.length ≤ j) : Tri Tryz.prog 29 #[pV q 0] [polBArc q b most, arcB b lt1 lt2 lb1 lb2 most p, llR lt1 t1 n, llR lt2 t2 n, llR lb1 b1 n, llR lb2 b2 n] (Same ([polBArc q b most] ++ arcL b lt1 lt2 lb1 lb2 most p t1 t2 b1 b2 n) (iV most)) := by
 refine Tri.en (args := [pV q 0]) Tryz.func29 (fun B wz => ?_)
 refine Cd.s1 (Sq.vl [0] [iV 0] (Sq.d1 (Sq.vl [0, 1, 2] [pV q 0, pV q 0, pV q 1] (Sq.sm [0] (l := [polBArc q b most]) (o_ld (i := 1) (v := iV most)) rfl (Sq.vl [4] [iV most] (Sq.d4 (Cd.ret (Ex'.ret Tryz.results29 (RVs.tm (v := iV most) RVs.nil) (fun w hw => ?_)))))))))
 exact ⟨_, ⟨rfl, rfl⟩, hw.pk [0, 1, 2, 3, 4, 5]⟩
end Go.Proofs.YtholinnmjoelkaaGreatDoor
