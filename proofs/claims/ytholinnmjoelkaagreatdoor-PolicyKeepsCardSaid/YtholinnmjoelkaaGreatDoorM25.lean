/- LfuQ, SrlPureB, SrlPureC -/
import Derived.Test.YtholinnmjoelkaaGreatDoorM24
set_option linter.unusedVariables false
set_option linter.unusedSimpArgs false
namespace Go.Proofs.YtholinnmjoelkaaGreatDoor
abbrev ksf (S : KS) : LB := S.map fun y => y.1
theorem cn_perm {a b : LB} (h : a.Perm b) (k : ByteArray) : cn a k = cn b k := (h.filter _).length_eq
theorem ksf_hrem (S : KS) (k : ByteArray) : ksf (hrem S k) = rm (ksf S) k := hrem_keys S k
theorem cn_hset (S : KS) (y : KR ByteArray) (k : ByteArray) : cn (ksf (hset S y)) k = if k = y.1 then 1 else cn (ksf S) k := by
  have h1 : (ksf (hset S y)).Perm (y.1 :: ksf (hrem S y.1)) := (hins_perm (hrem S y.1) y).map _
  rw [cn_perm h1, cn_cons, ksf_hrem, cn_rm]
  split <;> simp
theorem len_hset (S : KS) (y : KR ByteArray) : (ksf (hset S y)).length + cn (ksf S) y.1 = S.length + 1 := by
  have h1 : (ksf (hset S y)).Perm (y.1 :: ksf (hrem S y.1)) := (hins_perm (hrem S y.1) y).map _
  have h2 := len_rm (ksf S) y.1
  have h3 : (ksf S).length = S.length := List.length_map _
  rw [h1.length_eq, List.length_cons, ksf_hrem]; omega
section
variable {m now : Int} {ch : Bool} {S : KS} {key : ByteArray}
theorem lfuNew_nn (h : 0 ≤ m) : lfuNew m ch = (m, 0, ch, []) := by unfold lfuNew; rw [if_neg (by omega)]
theorem LfuI.hasD (h : LfuI m now S) (key : ByteArray) : lfuHas m now ch S key = decide (key ∈ ksf S) := by
  show decide (0 < tms S key) = _
  rw [decide_eq_decide]; exact h.has key
theorem LfuI.reqP (h : LfuI m now S) (h0 : 0 ≤ m) (key : ByteArray) {x} (hx : lfuReq m now ch S key = x) : LfuI m x.1 x.2.1 ∧ x.1 ≤ now + 1 ∧ (0 < m → ReqP m (ksf S) key (ksf x.2.1) x.2.2.1 x.2.2.2.1 x.2.2.2.2) ∧ (m = 0 → x = (now, S, decide (key ∈ ksf S), ⟨#[]⟩, false)) := by
  have hl := h.len; have hn := nodup_cn.1 h.nd
  have hL : (ksf S).length = S.length := List.length_map _
  by_cases hm : m = 0
  · unfold lfuReq at hx
    rw [if_pos hm, h.hasD key] at hx; subst hx; exact ⟨h, by dsimp only; omega, fun q => by omega, fun _ => rfl⟩
  have hI := (LfuI.req h (by omega) key hx).i
  unfold lfuReq at hx
  rw [if_neg hm, h.hasD key] at hx
  by_cases hk : key ∈ ksf S
  · rw [decide_eq_true hk, if_neg (by simp), lfuAsk_eq] at hx
    subst hx
    have c1 := cn_mem.1 hk
    have f1 := len_hset S (key, tms S key + 1, if ch then -(now + 1) else now + 1)
    have nk : cn (ksf S) key ≤ 1 := hn key
    refine ⟨hI, Int.le_refl _, fun _ => ⟨fun k => ?_, ?_, ?_, ?_, fun q => (by cases q), fun _ => rfl⟩, fun q => absurd q hm⟩
    · show cn (ksf (hset S _)) k = _
      rw [cn_hset]; simp only [Bool.false_eq_true, false_and, if_false, Nat.sub_zero]
    · show ((ksf (hset S (key, tms S key + 1, if ch then -(now + 1) else now + 1))).length : Int) = _
      simp only [if_true, Bool.false_eq_true, if_false]; dsimp only at f1; omega
    · exact (decide_eq_true hk).symm
    · exact (decide_eq_false (fun q => q.1 hk)).symm
  · rw [decide_eq_false hk, if_pos (by simp)] at hx
    have c1 := cn_zero hk
    by_cases hf : (S.length : Int) ≥ m
    · rw [if_pos hf, lfuAsk_eq] at hx
      obtain ⟨v, T, hv⟩ : ∃ v T, S = v :: T := by cases S with | nil => simp at hf; omega | cons v T => exact ⟨v, T, rfl⟩
      subst hv
      rw [decide_eq_true (show 0 < (v :: T).length by simp)] at hx
      subst hx
      have e1 : ∀ k, cn (ksf (v :: T)) k = cn (ksf T) k + if k = v.1 then 1 else 0 := fun k => cn_cons _ _ _
      have ek := e1 key
      have hkv : key ≠ v.1 := fun e => hk (by rw [e]; exact List.mem_cons_self ..)
      rw [if_neg hkv] at ek
      have f1 := len_hset T (key, tms T key + 1, if ch then -(now + 1) else now + 1)
      have hL2 : (v :: T).length = T.length + 1 := rfl
      refine ⟨hI, Int.le_refl _, fun _ => ⟨fun k => ?_, ?_, ?_, ?_, fun _ => ?_, fun q => by cases q⟩, fun q => absurd q hm⟩
      · show cn (ksf (hset T _)) k = _
        rw [cn_hset, e1]
        by_cases q : k = key
        · rw [if_pos q, if_pos q]
        · rw [if_neg q, if_neg q]
          by_cases q2 : k = v.1
          · rw [if_pos q2, if_pos ⟨rfl, q2⟩]; omega
          · rw [if_neg q2, if_neg (fun w => q2 w.2)]; omega
      · show ((ksf (hset T (key, tms T key + 1, if ch then -(now + 1) else now + 1))).length : Int) = _
        simp only [if_true, Bool.false_eq_true, if_false]; dsimp only at f1; omega
      · exact (decide_eq_false hk).symm
      · exact (decide_eq_true ⟨hk, by omega⟩).symm
      · exact List.mem_cons_self ..
    · rw [if_neg hf, lfuAsk_eq] at hx
      subst hx
      have f1 := len_hset S (key, tms S key + 1, if ch then -(now + 1) else now + 1)
      refine ⟨hI, Int.le_refl _, fun _ => ⟨fun k => ?_, ?_, ?_, ?_, fun q => (by cases q), fun _ => rfl⟩, fun q => absurd q hm⟩
      · show cn (ksf (hset S _)) k = _
        rw [cn_hset]; simp only [Bool.false_eq_true, false_and, if_false, Nat.sub_zero]
      · show ((ksf (hset S (key, tms S key + 1, if ch then -(now + 1) else now + 1))).length : Int) = _
        simp only [if_true, Bool.false_eq_true, if_false]; dsimp only at f1; omega
      · exact (decide_eq_false hk).symm
      · exact (decide_eq_false (fun q => by have := q.2; omega)).symm
theorem LfuI.remP (h : LfuI m now S) (key : ByteArray) {x} (hx : lfuRemove m now ch S key = x) : LfuI m now x.1 ∧ RemP (ksf S) key (ksf x.1) [] x.2 := by
  unfold lfuRemove at hx
  have e : (lk S key).isSome = decide (key ∈ ksf S) := by rw [(h.gone key).2, decide_eq_decide]; exact h.has key
  rw [e] at hx
  subst hx
  exact ⟨h.rem key, rfl, fun k => by show cn (ksf (hrem S key)) k = _; rw [ksf_hrem, cn_rm], by show (ksf (hrem S key)).length + _ = _; rw [ksf_hrem]; exact len_rm _ _, by simp⟩
theorem LfuI.droP (h : LfuI m now S) {x} (hx : lfuDrop m now ch S = x) : LfuI m now x.1 ∧ DroP (ksf S) [] (ksf x.1) [] x.2.1 x.2.2 ∧ lfuVictim m now ch S = x.2 := by
  unfold lfuDrop at hx
  subst hx
  refine ⟨h.tail, ⟨by simp, fun q => ?_, fun q k => ?_, fun q => ?_, fun q => ?_, rfl⟩, rfl⟩
  · cases S with | nil => simp at q | cons v T => exact List.mem_cons_self ..
  · cases S with
    | nil => simp at q
    | cons v T =>
      show cn (ksf T) k = cn (v.1 :: ksf T) k - if k = v.1 then 1 else 0
      rw [cn_cons]; omega
  · cases S with | nil => simp at q | cons v T => simp
  · cases S with | nil => rfl | cons v T => simp at q
end
end Go.Proofs.YtholinnmjoelkaaGreatDoor
namespace Go.Proofs.YtholinnmjoelkaaGreatDoor
variable {most target : Int} {ns cs gs L : LB} {ms : Mks} {key : ByteArray} {z : ByteArray → Prop}
def srlMiss (most t : Int) (ns cs gs : LB) (ms : Mks) : LB × LB × LB × Mks × ByteArray × Bool :=
  if ((cs ++ ns).length : Int) ≥ most then srlEvict most t ns cs gs ms else (ns, cs, gs, ms, ⟨#[]⟩, false)
def srlUp (most target : Int) (ms : Mks) (key : ByteArray) : Int := if ((lk ms key).getD (false, false)).2 = true then (if most < target + 1 then most else target + 1) else target
def srlDown (target : Int) (ms : Mks) (key : ByteArray) : Int := if ((lk ms key).isSome = true ∧ ((lk ms key).getD (false, false)).1 = false) ∧ target > 1 then target - 1 else target
theorem srlHas_eq : srlHas most target ns cs gs ms key = decide (key ∈ cs ++ ns) := by
  unfold srlHas
  by_cases h1 : key ∈ ns <;> by_cases h2 : key ∈ cs <;> simp [h1, h2]
theorem srlLen_eq : srlLen most target ns cs gs ms = ((cs ++ ns).length : Int) := by
  unfold srlLen; simp; omega
theorem srlReq_zero (h : most = 0) : srlReq most target ns cs gs ms key = (target, ns, cs, gs, ms, decide (key ∈ cs ++ ns), ⟨#[]⟩, false) := by
  unfold srlReq; rw [if_pos h, srlHas_eq]
theorem srlReq_a (h : most ≠ 0) (hc : key ∈ cs) : srlReq most target ns cs gs ms key = (target, ns, fr cs key, gs, ms, true, ⟨#[]⟩, false) := by
  unfold srlReq; rw [if_neg h, if_pos hc, srlHas_eq, decide_eq_true (List.mem_append_left _ hc)]
theorem srlReq_n (h : most ≠ 0) (hc : key ∉ cs) (hn : key ∈ ns) : srlReq most target ns cs gs ms key =
    (srlUp most target ms key, (srlAgain most (srlUp most target ms key) (rm ns key) cs gs ms key).1, (srlAgain most (srlUp most target ms key) (rm ns key) cs gs ms key).2.1, gs, (srlAgain most (srlUp most target ms key) (rm ns key) cs gs ms key).2.2, true, ⟨#[]⟩, false) := by
  unfold srlReq
  rw [if_neg h, if_neg hc, srlHas_eq, decide_eq_true (List.mem_append_right _ hn), if_pos rfl]
  unfold srlUp
  split <;> rfl
theorem srlReq_miss (h : most ≠ 0) (hc : key ∉ cs ++ ns) {x} (hx : srlMiss most (srlDown target ms key) ns cs (rm gs key) ms = x) : srlReq most target ns cs gs ms key =
    if (lk ms key).isSome = true then (srlDown target ms key, (srlAgain most (srlDown target ms key) x.1 x.2.1 x.2.2.1 x.2.2.2.1 key).1, (srlAgain most (srlDown target ms key) x.1 x.2.1 x.2.2.1 x.2.2.2.1 key).2.1, x.2.2.1, (srlAgain most (srlDown target ms key) x.1 x.2.1 x.2.2.1 x.2.2.2.1 key).2.2, false, x.2.2.2.2.1, x.2.2.2.2.2)
    else (srlDown target ms key, fr x.1 key, x.2.1, x.2.2.1, put x.2.2.2.1 key (false, false), false, x.2.2.2.2.1, x.2.2.2.2.2) := by
  have hc1 : key ∉ cs := fun q => hc (List.mem_append_left _ q)
  subst hx
  unfold srlReq srlMiss srlDown
  rw [if_neg h, if_neg hc1, srlHas_eq, decide_eq_false hc, if_neg (by simp)]
  simp only [srlLen_eq]
  by_cases k1 : (lk ms key).isSome = true
  · by_cases k2 : ((lk ms key).getD (false, false)).1 = true
    · by_cases k3 : ((cs ++ ns).length : Int) ≥ most
      · simp only [k1, k2, k3, if_true, if_false, Bool.not_true, Bool.not_false, true_and, and_true, false_and, and_false, reduceCtorEq, if_true]
      · simp only [k1, k2, k3, if_true, if_false, Bool.not_true, Bool.not_false, true_and, and_true, false_and, and_false, reduceCtorEq, if_true]
    · have k2' : ((lk ms key).getD (false, false)).1 = false := by simpa using k2
      by_cases k4 : target > 1 <;> by_cases k3 : ((cs ++ ns).length : Int) ≥ most
      all_goals simp only [k1, k2', k3, k4, if_true, if_false, Bool.not_true, Bool.not_false, true_and, and_true, false_and, and_false, reduceCtorEq, if_true]
  · have k1' : (lk ms key).isSome = false := by simpa using k1
    by_cases k3 : ((cs ++ ns).length : Int) ≥ most
    · simp only [k1', k3, if_true, if_false, Bool.false_eq_true, false_and]
    · simp only [k1', k3, if_true, if_false, Bool.false_eq_true, false_and]
structure SrlI (most target : Int) (ns cs gs : LB) (ms : Mks) : Prop where
  b : SrlB (fun _ => False) (cs ++ ns) gs ms
  h0 : 0 ≤ most
  t0 : 0 ≤ target
  tm : target ≤ most
  t1 : 2 ≤ most → 1 ≤ target
  len : ((cs ++ ns).length : Int) ≤ most
  glen : (gs.length : Int) ≤ most
  clen : cs.length ≤ max 1 target.toNat
theorem SrlI.up (h : SrlI most target ns cs gs ms) (hm : most ≠ 0) : 0 ≤ srlUp most target ms key ∧ srlUp most target ms key ≤ most ∧ target ≤ srlUp most target ms key := by
  have := h.tm; have := h.t0; have := h.h0
  unfold srlUp; split
  · split <;> omega
  · omega
theorem SrlI.down (h : SrlI most target ns cs gs ms) : 0 ≤ srlDown target ms key ∧ srlDown target ms key ≤ target ∧ (1 ≤ target → 1 ≤ srlDown target ms key) := by
  have := h.tm; have := h.t0; have := h.h0
  unfold srlDown; split <;> omega
theorem SrlI.miss (h : SrlI most target ns cs gs ms) (hm : most ≠ 0) (hc : key ∉ cs ++ ns) (t : Int) {x} (hx : srlMiss most t ns cs (rm gs key) ms = x) :
    SrlB (fun k => k = key ∧ key ∈ gs) (x.2.1 ++ x.1) x.2.2.1 x.2.2.2.1 ∧ ((x.2.1 ++ x.1).length : Int) + 1 ≤ most ∧ (x.2.2.1.length : Int) ≤ most ∧ x.2.1.length ≤ cs.length ∧ key ∉ x.2.1 ++ x.1 ∧ key ∉ x.2.2.1 ∧
    (if ((cs ++ ns).length : Int) < most then x = (ns, cs, rm gs key, ms, ⟨#[]⟩, false) else x.2.1 ++ x.1 = (cs ++ ns).dropLast ∧ x.2.1 = srlC ns cs ∧ x.2.2.1 = (lastOf (cs ++ ns) :: rm gs key).take most.toNat ∧ x.2.2.2.2.1 = lastOf (cs ++ ns) ∧ x.2.2.2.2.2 = true) := by
  have h1 := h.b.unghost hc
  have h2 := h.h0; have h3 := h.len; have h4 := h.glen; have h5 := rm_le gs key
  unfold srlMiss at hx
  by_cases hf : ((cs ++ ns).length : Int) < most
  · rw [if_neg (by omega)] at hx
    subst hx
    exact ⟨h1, by show ((cs ++ ns).length : Int) + 1 ≤ _; omega, by show ((rm gs key).length : Int) ≤ _; omega, Nat.le_refl _, hc, fun q => (mem_rm.1 q).2 rfl, by rw [if_pos hf]⟩
  · rw [if_pos (by omega)] at hx
    have hpos : 0 < (cs ++ ns).length := by omega
    obtain ⟨e1, e2, e3, e4, e5, e6⟩ := h1.evict hpos h2 (by omega) hx
    refine ⟨e1, ?_, ?_, ?_, ?_, ?_, ?_⟩
    · rw [e2, List.length_dropLast]; omega
    · rw [e4, List.length_take]; omega
    · rw [e3, len_srlC]; omega
    · rw [e2]; exact fun q => hc (mem_dl q)
    · rw [e4]; intro q
      rcases List.mem_cons.1 (List.mem_of_mem_take q) with e | e
      · exact hc (e ▸ lastMem hpos)
      · exact (mem_rm.1 e).2 rfl
    · rw [if_neg hf]; exact ⟨e2, e3, e4, e5, e6⟩
theorem SrlI.req (h : SrlI most target ns cs gs ms) (key : ByteArray) {x} (hx : srlReq most target ns cs gs ms key = x) :
    SrlI most x.1 x.2.1 x.2.2.1 x.2.2.2.1 x.2.2.2.2.1 ∧ x.2.2.2.2.2.1 = decide (key ∈ cs ++ ns) ∧
    (key ∈ cs ++ ns → x.2.2.2.2.2.2.2 = false) ∧ (0 < most → key ∈ x.2.2.1 ++ x.2.1) ∧
    (x.2.2.2.2.2.2.2 = true → x.2.2.2.2.2.2.1 ∉ x.2.2.1 ++ x.2.1 ∧ 0 < x.2.2.2.1.length ∧ x.2.2.2.1.getD 0 ⟨#[]⟩ = x.2.2.2.2.2.2.1) := by
  have g0 := h.h0; have g1 := h.t0; have g2 := h.tm; have g3 := h.t1; have g4 := h.len; have g5 := h.glen; have g6 := h.clen
  by_cases hm : most = 0
  · rw [srlReq_zero hm] at hx
    subst hx
    exact ⟨h, rfl, fun _ => rfl, fun q => by omega, fun q => by simp at q⟩
  by_cases hc : key ∈ cs
  · rw [srlReq_a hm hc] at hx
    subst hx
    have hkn : key ∉ ns := fun q => (List.nodup_append.1 h.b.nl).2.2 _ hc _ q rfl
    have e0 : fr cs key ++ ns = fr (cs ++ ns) key := by rw [fr_app, rm_not hkn]
    have hmem : ∀ k, k ∈ fr cs key ++ ns ↔ k ∈ cs ++ ns := fun k => by
      rw [e0, mem_fr]; exact ⟨fun q => q.elim (fun e => e ▸ List.mem_append_left _ hc) id, .inr⟩
    have e1 : (fr cs key).length = cs.length := by rw [length_fr (List.nodup_append.1 h.b.nl).1, if_pos hc]
    refine ⟨⟨⟨by rw [e0]; exact nodup_fr h.b.nl _, h.b.ng, fun k a => h.b.apart k ((hmem k).1 a), fun k => by rw [hmem]; exact h.b.mks k, fun k q => q.elim, h.b.mn⟩, g0, g1, g2, g3, by rw [List.length_append, e1, ← List.length_append]; exact g4, g5, by rw [e1]; exact g6⟩, (decide_eq_true (List.mem_append_left _ hc)).symm, fun _ => rfl, fun _ => (hmem _).2 (List.mem_append_left _ hc), fun q => by simp at q⟩
  by_cases hn : key ∈ ns
  · rw [srlReq_n hm hc hn] at hx
    obtain ⟨u1, u2, u3⟩ := h.up (key := key) hm
    have hnd := List.nodup_append.1 h.b.nl
    have e0 : cs ++ rm ns key = rm (cs ++ ns) key := by rw [rm_append, rm_not hc]
    have hB : SrlB (fun k => k = key ∧ True) (cs ++ rm ns key) gs ms := by
      refine ⟨by rw [e0]; exact nodup_rm h.b.nl _, h.b.ng, fun k a => h.b.apart k (by rw [e0] at a; exact (mem_rm.1 a).1), fun k => ?_, fun k q => ?_, h.b.mn⟩
      · rw [h.b.mks, e0, mem_rm]
        by_cases e : k = key
        · subst e; simp [hn]
        · simp [e]
      · rw [e0, q.1]; exact ⟨fun a => (mem_rm.1 a).2 rfl, h.b.apart _ (List.mem_append_right _ hn)⟩
    obtain ⟨a1, a2, a3⟩ := hB.again (most := most) (target := srlUp most target ms key) (hB.out key ⟨rfl, trivial⟩).1 (hB.out key ⟨rfl, trivial⟩).2 rfl
    have hlen := len_rm_lt h.b.nl (List.mem_append_right cs hn)
    subst hx
    refine ⟨⟨a1, g0, u1, u2, fun q => by have := g3 q; omega, ?_, g5, ?_⟩, (decide_eq_true (List.mem_append_right _ hn)).symm, fun _ => rfl, fun _ => ?_, fun q => by simp at q⟩
    · dsimp only; rw [a2, e0]; simp only [List.length_cons]; omega
    · dsimp only; rw [a3]; omega
    · dsimp only; rw [a2]; exact List.mem_cons_self ..
  · have hcn : key ∉ cs ++ ns := fun q => (List.mem_append.1 q).elim hc hn
    obtain ⟨d1, d2, d3⟩ := h.down (key := key)
    rw [srlReq_miss hm hcn rfl] at hx
    obtain ⟨m1, m2, m3, m4, m5, m6, m7⟩ := h.miss hm hcn (srlDown target ms key) rfl
    generalize srlMiss most (srlDown target ms key) ns cs (rm gs key) ms = y at hx m1 m2 m3 m4 m5 m6 m7
    have hout : ∀ R : LB, (∀ k, k ∈ R → k = key ∨ k ∈ y.2.1 ++ y.1) → y.2.2.2.2.2 = true → y.2.2.2.2.1 ∉ R ∧ 0 < y.2.2.1.length ∧ y.2.2.1.getD 0 ⟨#[]⟩ = y.2.2.2.2.1 := by
      intro R hR ho
      by_cases hf : ((cs ++ ns).length : Int) < most
      · rw [if_pos hf] at m7; subst m7; simp at ho
      · rw [if_neg hf] at m7
        obtain ⟨e2, e3, e4, e5, e6⟩ := m7
        have hpos : 0 < (cs ++ ns).length := by omega
        obtain ⟨p, hp⟩ : ∃ p, most.toNat = p + 1 := ⟨most.toNat - 1, by omega⟩
        refine ⟨fun q => ?_, by rw [e4, hp]; simp, by rw [e4, hp, e5]; simp⟩
        rw [e5] at q
        rcases hR _ q with e | e
        · exact hcn (e ▸ lastMem hpos)
        · rw [e2] at e; exact last_not_dl hpos h.b.nl e
    by_cases hk : (lk ms key).isSome = true
    · rw [if_pos hk] at hx
      obtain ⟨a1, a2, a3⟩ := m1.again (most := most) (target := srlDown target ms key) m5 m6 rfl
      subst hx
      refine ⟨⟨a1, g0, d1, by dsimp only; omega, fun q => d3 (g3 q), ?_, m3, ?_⟩, (decide_eq_false hcn).symm, fun q => absurd q hcn, fun _ => ?_, fun q => hout _ (fun k hk => by dsimp only at hk; rw [a2] at hk; exact List.mem_cons.1 hk) q⟩
      · dsimp only; rw [a2]; simp only [List.length_cons]; omega
      · dsimp only; rw [a3]; omega
      · dsimp only; rw [a2]; exact List.mem_cons_self ..
    · rw [if_neg hk] at hx
      have hd : srlDown target ms key = target := by unfold srlDown; rw [if_neg]; exact fun q => hk q.1.1
      have hkn : key ∉ y.1 := fun q => m5 (List.mem_append_right _ q)
      have hmem : ∀ k, k ∈ y.2.1 ++ fr y.1 key ↔ k = key ∨ k ∈ y.2.1 ++ y.1 := fun k => by
        rw [List.mem_append, mem_fr, List.mem_append]
        constructor
        · rintro (a | a | a)
          · exact .inr (.inl a)
          · exact .inl a
          · exact .inr (.inr a)
        · rintro (a | a | a)
          · exact .inr (.inl a)
          · exact .inl a
          · exact .inr (.inr a)
      have hnd := List.nodup_append.1 m1.nl
      have hnd' : (y.2.1 ++ fr y.1 key).Nodup := List.nodup_append.2 ⟨hnd.1, nodup_fr hnd.2.1 _, fun a ha b hb e => by
        rcases mem_fr.1 hb with q | q
        · exact m5 (List.mem_append_left _ (q ▸ e ▸ ha))
        · exact hnd.2.2 a ha b q e⟩
      subst hx
      refine ⟨⟨m1.enter _ hmem hnd' m6, g0, d1, by dsimp only; omega, fun q => d3 (g3 q), ?_, m3, ?_⟩, (decide_eq_false hcn).symm, fun q => absurd q hcn, fun _ => (hmem _).2 (.inl rfl), fun q => hout _ (fun k hk => (hmem k).1 hk) q⟩
      · dsimp only; rw [fr_not hkn]; rw [List.length_append] at m2 ⊢; simp only [List.length_cons]; omega
      · dsimp only; rw [hd]; omega
end Go.Proofs.YtholinnmjoelkaaGreatDoor
namespace Go.Proofs.YtholinnmjoelkaaGreatDoor
variable {most target : Int} {ns cs gs L : LB} {ms : Mks} {key : ByteArray} {z : ByteArray → Prop}
theorem srlKeys_eq : srlKeys most target ns cs gs ms = (cs ++ ns).reverse := by unfold srlKeys; rw [List.reverse_append]
theorem SrlI.new {most : Int} (h : 0 ≤ most) : SrlI most (most / 2) [] [] [] [] :=
  ⟨⟨List.nodup_nil, List.nodup_nil, fun k a => by simp at a, fun k => by simp [lk], fun k q => q.elim, List.nodup_nil⟩, h, by omega, by omega, fun q => by omega, by simpa using h, by simpa using h, by simp⟩
theorem SrlI.remove (h : SrlI most target ns cs gs ms) (key : ByteArray) {x} (hx : srlRemove most target ns cs gs ms key = x) :
    SrlI most target x.1 x.2.1 x.2.2.1 x.2.2.2.1 ∧ x.2.1 ++ x.1 = rm (cs ++ ns) key ∧ x.2.2.1 = rm gs key ∧ x.2.2.2.2 = decide (key ∈ cs ++ ns) := by
  have hnd := List.nodup_append.1 h.b.nl
  have e : srlRemove most target ns cs gs ms key = (rm ns key, rm cs key, rm gs key, del ms key, decide (key ∈ cs ++ ns)) := by
    unfold srlRemove
    by_cases hn : key ∈ ns
    · have hc : key ∉ cs := fun q => hnd.2.2 _ q _ hn rfl
      rw [if_pos hn, rm_not hc, decide_eq_true (List.mem_append_right _ hn)]
    · rw [if_neg hn]
      simp [hn]
  rw [e] at hx
  subst hx
  have e0 : rm cs key ++ rm ns key = rm (cs ++ ns) key := (rm_append _ _ _).symm
  have hB : SrlB (fun _ => False) (rm cs key ++ rm ns key) (rm gs key) (del ms key) := by
    rw [e0]
    refine ⟨nodup_rm h.b.nl _, nodup_rm h.b.ng _, fun k a b => h.b.apart k (mem_rm.1 a).1 (mem_rm.1 b).1, fun k => ?_, fun k q => q.elim, nodup_del h.b.mn _⟩
    rw [isSome_del h.b.mn, h.b.mks, mem_rm, mem_rm]
    by_cases e : k = key <;> simp [e]
  have l1 := rm_le cs key
  have l2 := rm_le ns key
  have l3 := rm_le gs key
  have g4 := h.len; have g5 := h.glen; have g6 := h.clen
  refine ⟨⟨hB, h.h0, h.t0, h.tm, h.t1, ?_, ?_, ?_⟩, e0, rfl, rfl⟩
  · rw [List.length_append] at g4 ⊢; dsimp only; omega
  · dsimp only; omega
  · dsimp only; omega
theorem SrlI.drop (h : SrlI most target ns cs gs ms) {x} (hx : srlDrop most target ns cs gs ms = x) :
    SrlI most target x.1 x.2.1 gs x.2.2.1 ∧ x.2.1 ++ x.1 = (cs ++ ns).dropLast ∧ x.2.2.2 = (lastOf (cs ++ ns), decide (0 < (cs ++ ns).length)) := by
  have g4 := h.len; have g6 := h.clen
  by_cases hp : 0 < (cs ++ ns).length
  · rw [srlDrop_eq hp] at hx; subst hx
    have hB : SrlB (fun _ => False) (srlC ns cs ++ srlN ns) gs (del ms (lastOf (cs ++ ns))) := by
      rw [srlCN]
      refine ⟨nodup_dl h.b.nl, h.b.ng, fun k a => h.b.apart k (mem_dl a), fun k => ?_, fun k q => q.elim, nodup_del h.b.mn _⟩
      rw [isSome_del h.b.mn, h.b.mks, mem_dl_iff hp h.b.nl]
      have := lastMem hp
      constructor
      · rintro ⟨a, b | b | b⟩
        · exact .inl ⟨b, a⟩
        · exact .inr (.inl b)
        · exact b.elim
      · rintro (b | b | b)
        · exact ⟨b.2, .inl b.1⟩
        · exact ⟨fun e => h.b.apart _ this (e ▸ b), .inr (.inl b)⟩
        · exact b.elim
    refine ⟨⟨hB, h.h0, h.t0, h.tm, h.t1, ?_, h.glen, ?_⟩, srlCN _ _, by rw [decide_eq_true hp]⟩
    · dsimp only; rw [srlCN, List.length_dropLast]; omega
    · dsimp only; rw [len_srlC]; omega
  · have e : cs ++ ns = [] := List.eq_nil_of_length_eq_zero (by omega)
    obtain ⟨rfl, rfl⟩ := List.append_eq_nil_iff.1 e
    rw [srlDrop_nil] at hx; subst hx
    exact ⟨h, rfl, rfl⟩
theorem srlLen_sum : srlLen most target ns cs gs ms = (cs.length : Int) + ns.length := by unfold srlLen; omega
theorem srlNew_nn {m : Int} (h : 0 ≤ m) : srlNew m = (m, m / 2, [], [], [], []) := by unfold srlNew; rw [if_neg (by omega)]
end Go.Proofs.YtholinnmjoelkaaGreatDoor
