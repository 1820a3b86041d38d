/- SrlJ, PolSt -/
import Derived.Test.YtholinnmjoelkaaGreatDoorM25
import Derived.Test.YtholinnmjoelkaaGreatDoorM23
set_option linter.unusedVariables false
set_option linter.unusedSimpArgs false
namespace Go.Proofs.YtholinnmjoelkaaGreatDoor
variable {most t : Int} {ns cs gs : LB} {ms : Mks} {key : ByteArray}
structure SrlJ (most target : Int) (ns cs gs : LB) (ms : Mks) : Prop where
  b : SrlB (fun _ => False) (cs ++ ns) gs ms
  h0 : 0 ≤ most
  t0 : 0 ≤ target
  tm : target ≤ most
  len : ((cs ++ ns).length : Int) ≤ most
  glen : (gs.length : Int) ≤ most
theorem SrlJ.i (h : SrlJ most t ns cs gs ms) : SrlI most most ns cs gs ms := by
  have h1 := h.h0; have h2 := h.len
  rw [List.length_append] at h2
  exact ⟨h.b, h1, h1, Int.le_refl _, fun q => by omega, h.len, h.glen, by omega⟩
theorem SrlI.j {t' : Int} (h : SrlI most t' ns cs gs ms) (h1 : 0 ≤ t) (h2 : t ≤ most) : SrlJ most t ns cs gs ms := ⟨h.b, h.h0, h1, h2, h.len, h.glen⟩
theorem SrlJ.reqP (h : SrlJ most t ns cs gs ms) (key : ByteArray) {x} (hx : srlReq most t ns cs gs ms key = x) :
    SrlJ most x.1 x.2.1 x.2.2.1 x.2.2.2.1 x.2.2.2.2.1 ∧ (0 < most → ReqP most (cs ++ ns).reverse key (x.2.2.1 ++ x.2.1).reverse x.2.2.2.2.2.1 x.2.2.2.2.2.2.1 x.2.2.2.2.2.2.2) ∧ (most = 0 → x = (t, ns, cs, gs, ms, decide (key ∈ cs ++ ns), ⟨#[]⟩, false)) := by
  have g0 := h.h0; have g1 := h.t0; have g2 := h.tm; have g4 := h.len; have g5 := h.glen
  have hnd := h.b.nl
  have hcn := nodup_cn.1 hnd
  by_cases hm : most = 0
  · rw [srlReq_zero hm] at hx
    subst hx
    exact ⟨h, fun q => by omega, fun _ => rfl⟩
  by_cases hc : key ∈ cs
  · rw [srlReq_a hm hc] at hx
    subst hx
    have hkn : key ∉ ns := fun q => (List.nodup_append.1 hnd).2.2 _ hc _ q rfl
    have e0 : fr cs key ++ ns = fr (cs ++ ns) key := by rw [fr_app, rm_not hkn]
    have hmem : ∀ k, k ∈ fr cs key ++ ns ↔ k ∈ cs ++ ns := fun k => by
      rw [e0, mem_fr]; exact ⟨fun q => q.elim (fun e => e ▸ List.mem_append_left _ hc) id, .inr⟩
    have e1 : (fr cs key).length = cs.length := by rw [length_fr (List.nodup_append.1 hnd).1, if_pos hc]
    have hk : key ∈ cs ++ ns := List.mem_append_left _ hc
    refine ⟨⟨⟨by rw [e0]; exact nodup_fr hnd _, h.b.ng, fun k a => h.b.apart k ((hmem k).1 a), fun k => by rw [hmem]; exact h.b.mks k, fun k q => q.elim, h.b.mn⟩, g0, g1, g2, by rw [List.length_append, e1, ← List.length_append]; exact g4, g5⟩, fun _ => ⟨fun k => ?_, ?_, ?_, ?_, fun q => (by cases q), fun _ => rfl⟩, fun q => absurd q hm⟩
    · dsimp only
      rw [cn_rev, cn_rev, e0, cn_fr]; simp only [Bool.false_eq_true, false_and, if_false, Nat.sub_zero]
    · simp only [List.length_reverse, List.length_append, e1, if_true, Bool.false_eq_true, if_false]; omega
    · simp [hc]
    · simp [hc]
  by_cases hn : key ∈ ns
  · rw [srlReq_n hm hc hn] at hx
    have e0 : cs ++ rm ns key = rm (cs ++ ns) key := by rw [rm_append, rm_not hc]
    have hkg := h.b.apart _ (List.mem_append_right _ hn)
    have hB : SrlB (fun k => k = key ∧ True) (cs ++ rm ns key) gs ms := by
      refine ⟨by rw [e0]; exact nodup_rm hnd _, h.b.ng, fun k a => h.b.apart k (by rw [e0] at a; exact (mem_rm.1 a).1), fun k => ?_, fun k q => ⟨by rw [e0, q.1]; exact fun w => (mem_rm.1 w).2 rfl, q.1 ▸ hkg⟩, h.b.mn⟩
      rw [h.b.mks, e0, mem_rm]
      by_cases e : k = key
      · subst e; simp [hn]
      · simp [e]
    obtain ⟨a1, a2, a3⟩ := hB.again (most := most) (target := srlUp most t ms key) (by rw [e0]; exact fun w => (mem_rm.1 w).2 rfl) hkg rfl
    have eu1 : 0 ≤ srlUp most t ms key ∧ srlUp most t ms key ≤ most := by unfold srlUp; split <;> (try split) <;> omega
    have hk : key ∈ cs ++ ns := List.mem_append_right _ hn
    have hlen := len_rm_lt hnd hk
    subst hx
    refine ⟨⟨a1, g0, eu1.1, eu1.2, ?_, g5⟩, fun _ => ⟨fun k => ?_, ?_, ?_, ?_, fun q => (by cases q), fun _ => rfl⟩, fun q => absurd q hm⟩
    · rw [a2, List.length_cons, e0]; omega
    · dsimp only
      rw [cn_rev, cn_rev, a2, cn_cons, e0, cn_rm]; simp only [Bool.false_eq_true, false_and, if_false, Nat.sub_zero]
      split <;> simp
    · dsimp only
      rw [List.length_reverse, a2, List.length_cons, e0]
      simp only [List.length_reverse, if_true, Bool.false_eq_true, if_false]; omega
    · simp [hn]
    · simp [hn]
  · have hcn2 : key ∉ cs ++ ns := fun q => (List.mem_append.1 q).elim hc hn
    generalize hxm : srlMiss most (srlDown t ms key) ns cs (rm gs key) ms = xm at *
    rw [srlReq_miss hm hcn2 hxm] at hx
    obtain ⟨m1, m2, m3, m4, m5, m6, m7⟩ := h.i.miss hm hcn2 (srlDown t ms key) hxm
    have ed1 : 0 ≤ srlDown t ms key ∧ srlDown t ms key ≤ most := by unfold srlDown; split <;> omega
    have k1 : key ∉ xm.2.1 := fun q => m5 (List.mem_append_left _ q)
    have k2 : key ∉ xm.1 := fun q => m5 (List.mem_append_right _ q)
    have hz := cn_zero hcn2
    -- what the residents are, but for the key
    have hR : (∀ k, cn (xm.2.1 ++ xm.1) k = cn (cs ++ ns) k - if xm.2.2.2.2.2 = true ∧ k = xm.2.2.2.2.1 then 1 else 0) ∧ ((xm.2.1 ++ xm.1).length : Int) = (cs ++ ns).length - (if xm.2.2.2.2.2 = true then 1 else 0) ∧
        xm.2.2.2.2.2 = decide (((cs ++ ns).length : Int) = most) ∧ (xm.2.2.2.2.2 = true → xm.2.2.2.2.1 ∈ cs ++ ns) ∧ (xm.2.2.2.2.2 = false → xm.2.2.2.2.1 = ⟨#[]⟩) := by
      by_cases hf : ((cs ++ ns).length : Int) < most
      · rw [if_pos hf] at m7
        subst m7
        refine ⟨fun k => by simp, by simp, (decide_eq_false (by omega)).symm, fun q => (by cases q), fun _ => rfl⟩
      · rw [if_neg hf] at m7
        obtain ⟨n1, n2, n3, n4, n5⟩ := m7
        have hpos : 0 < (cs ++ ns).length := by omega
        rw [n1, n4, n5]
        refine ⟨fun k => ?_, by rw [List.length_dropLast]; simp only [if_true]; omega, (decide_eq_true (by omega)).symm, fun _ => lastMem hpos, fun q => by cases q⟩
        have := cn_dl hpos k
        by_cases q : k = lastOf (cs ++ ns)
        · rw [if_pos q] at this; rw [if_pos ⟨rfl, q⟩]; omega
        · rw [if_neg q] at this; rw [if_neg (fun w => q w.2)]; omega
    obtain ⟨r1, r2, r3, r4, r5⟩ := hR
    have fin : ∀ {A : LB}, (∀ k, cn A k = cn (key :: (xm.2.1 ++ xm.1)) k) → A.length = (xm.2.1 ++ xm.1).length + 1 → ReqP most (cs ++ ns).reverse key A.reverse false xm.2.2.2.2.1 xm.2.2.2.2.2 := fun {A} hA hl => by
      refine ⟨fun k => ?_, ?_, ?_, ?_, fun q => List.mem_reverse.2 (r4 q), r5⟩
      · rw [cn_rev, cn_rev, hA, cn_cons, r1]
        by_cases q : k = key
        · subst q; rw [if_pos rfl, if_pos rfl, hz]; simp
        · rw [if_neg q, if_neg q]; simp
      · rw [List.length_reverse, List.length_reverse, hl]; simp only [Bool.false_eq_true, if_false]; omega
      · exact (decide_eq_false (fun q => hcn2 (List.mem_reverse.1 q))).symm
      · rw [r3, List.length_reverse, decide_eq_decide]
        exact ⟨fun q => ⟨fun w => hcn2 (List.mem_reverse.1 w), q⟩, fun q => q.2⟩
    by_cases q : (lk ms key).isSome = true
    · rw [if_pos q] at hx
      subst hx
      obtain ⟨a1, a2, a3⟩ := m1.again (most := most) (target := srlDown t ms key) m5 m6 rfl
      refine ⟨⟨a1, g0, ed1.1, ed1.2, by rw [a2, List.length_cons]; omega, m3⟩, fun _ => ?_, fun q => absurd q hm⟩
      exact fin (fun k => by dsimp only; rw [a2]) (by dsimp only; rw [a2, List.length_cons])
    · rw [if_neg q] at hx
      subst hx
      have ef : fr xm.1 key = key :: xm.1 := fr_not k2
      have hB2 : SrlB (fun _ => False) (xm.2.1 ++ fr xm.1 key) xm.2.2.1 (put xm.2.2.2.1 key (false, false)) := by
        refine m1.enter _ (fun k => ?_) ?_ m6
        · rw [ef]; simp only [List.mem_append, List.mem_cons]; constructor
          · rintro (w | w | w)
            · exact .inr (.inl w)
            · exact .inl w
            · exact .inr (.inr w)
          · rintro (w | w | w)
            · exact .inr (.inl w)
            · exact .inl w
            · exact .inr (.inr w)
        · rw [ef]
          exact (List.perm_middle.nodup_iff).2 (nodup_cons' m1.nl m5)
      refine ⟨⟨hB2, g0, ed1.1, ed1.2, ?_, m3⟩, fun _ => ?_, fun q => absurd q hm⟩
      · show ((xm.2.1 ++ fr xm.1 key).length : Int) ≤ most
        rw [ef, List.length_append, List.length_cons]; rw [List.length_append] at m2; omega
      · exact fin (fun k => by dsimp only; rw [ef, cn_app, cn_cons, cn_cons, cn_app]; omega) (by dsimp only; rw [ef, List.length_append, List.length_append, List.length_cons]; omega)
theorem SrlJ.remP (h : SrlJ most t ns cs gs ms) (key : ByteArray) {x} (hx : srlRemove most t ns cs gs ms key = x) :
    SrlJ most t x.1 x.2.1 x.2.2.1 x.2.2.2.1 ∧ RemP (cs ++ ns).reverse key (x.2.1 ++ x.1).reverse x.2.2.1 x.2.2.2.2 := by
  have hI := (h.i.remove key (show srlRemove most most ns cs gs ms key = x from hx)).1.j h.t0 h.tm
  have hnd := List.nodup_append.1 h.b.nl
  have e : x = (rm ns key, rm cs key, rm gs key, del ms key, decide (key ∈ cs ++ ns)) := by
    rw [← hx]
    unfold srlRemove
    by_cases q : key ∈ ns
    · have q2 : key ∉ cs := fun w => hnd.2.2 _ w _ q rfl
      rw [if_pos q, rm_not q2, decide_eq_true (List.mem_append_right _ q)]
    · rw [if_neg q]
      have : decide (key ∈ cs) = decide (key ∈ cs ++ ns) := by rw [decide_eq_decide]; simp [q]
      rw [this]
  rw [e] at hI ⊢
  have e2 : rm cs key ++ rm ns key = rm (cs ++ ns) key := (rm_append ..).symm
  refine ⟨hI, ?_, fun k => ?_, ?_, fun q => (mem_rm.1 q).2 rfl⟩
  · dsimp only; rw [decide_eq_decide, List.mem_reverse]
  · dsimp only; rw [cn_rev, cn_rev, e2, cn_rm]
  · dsimp only; rw [cn_rev, List.length_reverse, List.length_reverse, e2]; exact len_rm _ _
theorem SrlJ.droP (h : SrlJ most t ns cs gs ms) {x} (hx : srlDrop most t ns cs gs ms = x) :
    SrlJ most t x.1 x.2.1 gs x.2.2.1 ∧ DroP (cs ++ ns).reverse gs (x.2.1 ++ x.1).reverse gs x.2.2.2.1 x.2.2.2.2 ∧ srlVictim most t ns cs gs ms = x.2.2.2 := by
  have hI := (h.i.drop (show srlDrop most most ns cs gs ms = x from hx)).1.j h.t0 h.tm
  by_cases q : 0 < (cs ++ ns).length
  · have hv : srlVictim most t ns cs gs ms = (lastOf (cs ++ ns), true) := by
      rw [← srlWho q]
      unfold srlVictim
      rw [List.length_append] at q
      by_cases h1 : 0 < ns.length
      · rw [if_pos (by omega), if_pos h1, decide_eq_true h1]
      · rw [if_neg (by omega), if_neg h1, decide_eq_true (by omega)]
    rw [srlDrop_eq q] at hx
    subst hx
    refine ⟨hI, ⟨?_, fun _ => List.mem_reverse.2 (lastMem q), fun _ k => ?_, fun _ => ?_, fun q => (by cases q), rfl⟩, hv⟩
    · rw [List.length_reverse]; exact (decide_eq_true q).symm
    · dsimp only; rw [cn_rev, cn_rev, srlCN]
      have := cn_dl q k
      split at this <;> rename_i e
      · rw [if_pos e]; omega
      · rw [if_neg e]; omega
    · dsimp only; rw [List.length_reverse, List.length_reverse, srlCN, List.length_dropLast]; omega
  · have q2 := q
    rw [List.length_append] at q2
    have e1 : ns = [] := List.eq_nil_of_length_eq_zero (by omega)
    have e2 : cs = [] := List.eq_nil_of_length_eq_zero (by omega)
    subst e1 e2
    rw [srlDrop_nil] at hx
    subst hx
    exact ⟨hI, ⟨rfl, fun q => (by cases q), fun q => (by cases q), fun q => (by cases q), fun _ => rfl, rfl⟩, rfl⟩
end Go.Proofs.YtholinnmjoelkaaGreatDoor
namespace Go.Proofs.YtholinnmjoelkaaGreatDoor
inductive PSt where
  | lru (most : Int) (ks : LB)
  | lfu (most now : Int) (ch : Bool) (S : KS)
  | srl (most t : Int) (ns cs gs : LB) (ms : Mks)
  | arc (most p : Int) (t1 t2 b1 b2 : LB)
namespace PSt
def kind : PSt → Int
  | lru .. => 0
  | lfu _ _ ch _ => if ch = true then 2 else 1
  | srl .. => 3
  | arc .. => 4
def most : PSt → Int
  | lru m _ => m
  | lfu m _ _ _ => m
  | srl m _ _ _ _ _ => m
  | arc m _ _ _ _ _ => m
def keys : PSt → LB
  | lru _ ks => ks.reverse
  | lfu _ _ _ S => ksf S
  | srl _ _ ns cs _ _ => (cs ++ ns).reverse
  | arc _ _ t1 t2 _ _ => t1.reverse ++ t2.reverse
def ghosts : PSt → LB
  | lru .. => []
  | lfu .. => []
  | srl _ _ _ _ gs _ => gs
  | arc _ _ _ _ b1 b2 => b1 ++ b2
def victim : PSt → ByteArray × Bool
  | lru m ks => lqVictim m ks
  | lfu m now ch S => lfuVictim m now ch S
  | srl m t ns cs gs ms => srlVictim m t ns cs gs ms
  | arc m p t1 t2 b1 b2 => arcVictim m p t1 t2 b1 b2
def req : PSt → ByteArray → PSt × Bool × ByteArray × Bool
  | lru m ks, key => (lru m (lqReq m ks key).1, (lqReq m ks key).2)
  | lfu m now ch S, key => (lfu m (lfuReq m now ch S key).1 ch (lfuReq m now ch S key).2.1, (lfuReq m now ch S key).2.2)
  | srl m t ns cs gs ms, key => (srl m (srlReq m t ns cs gs ms key).1 (srlReq m t ns cs gs ms key).2.1 (srlReq m t ns cs gs ms key).2.2.1 (srlReq m t ns cs gs ms key).2.2.2.1 (srlReq m t ns cs gs ms key).2.2.2.2.1, (srlReq m t ns cs gs ms key).2.2.2.2.2)
  | arc m p t1 t2 b1 b2, key => (arc m (arcReq m p t1 t2 b1 b2 key).1 (arcReq m p t1 t2 b1 b2 key).2.1 (arcReq m p t1 t2 b1 b2 key).2.2.1 (arcReq m p t1 t2 b1 b2 key).2.2.2.1 (arcReq m p t1 t2 b1 b2 key).2.2.2.2.1, (arcReq m p t1 t2 b1 b2 key).2.2.2.2.2)
def remove : PSt → ByteArray → PSt × Bool
  | lru m ks, key => (lru m (lqRemove m ks key).1, (lqRemove m ks key).2)
  | lfu m now ch S, key => (lfu m now ch (lfuRemove m now ch S key).1, (lfuRemove m now ch S key).2)
  | srl m t ns cs gs ms, key => (srl m t (srlRemove m t ns cs gs ms key).1 (srlRemove m t ns cs gs ms key).2.1 (srlRemove m t ns cs gs ms key).2.2.1 (srlRemove m t ns cs gs ms key).2.2.2.1, (srlRemove m t ns cs gs ms key).2.2.2.2)
  | arc m p t1 t2 b1 b2, key => (arc m p (arcRemove m p t1 t2 b1 b2 key).1 (arcRemove m p t1 t2 b1 b2 key).2.1 (arcRemove m p t1 t2 b1 b2 key).2.2.1 (arcRemove m p t1 t2 b1 b2 key).2.2.2.1, (arcRemove m p t1 t2 b1 b2 key).2.2.2.2)
def drop : PSt → PSt × ByteArray × Bool
  | lru m ks => (lru m (lqDrop m ks).1, (lqDrop m ks).2)
  | lfu m now ch S => (lfu m now ch (lfuDrop m now ch S).1, (lfuDrop m now ch S).2)
  | srl m t ns cs gs ms => (srl m t (srlDrop m t ns cs gs ms).1 (srlDrop m t ns cs gs ms).2.1 gs (srlDrop m t ns cs gs ms).2.2.1, (srlDrop m t ns cs gs ms).2.2.2)
  | arc m p t1 t2 b1 b2 => (arc m p (arcDrop m p t1 t2 b1 b2).1 (arcDrop m p t1 t2 b1 b2).2.1 b1 b2, (arcDrop m p t1 t2 b1 b2).2.2)
def new (kind most : Int) : PSt :=
  if kind = 0 then lru (lqNew most).1 (lqNew most).2
  else if kind = 1 ∨ kind = 2 then lfu (lfuNew most (decide (kind = 2))).1 (lfuNew most (decide (kind = 2))).2.1 (lfuNew most (decide (kind = 2))).2.2.1 (lfuNew most (decide (kind = 2))).2.2.2
  else if kind = 3 then srl (srlNew most).1 (srlNew most).2.1 (srlNew most).2.2.1 (srlNew most).2.2.2.1 (srlNew most).2.2.2.2.1 (srlNew most).2.2.2.2.2
  else arc (arcNew most).1 (arcNew most).2.1 (arcNew most).2.2.1 (arcNew most).2.2.2.1 (arcNew most).2.2.2.2.1 (arcNew most).2.2.2.2.2
def Inv : PSt → Int → Prop
  | lru m ks, _ => LqI m ks
  | lfu m now _ S, j => LfuI m now S ∧ now ≤ j
  | srl m t ns cs gs ms, _ => SrlJ m t ns cs gs ms
  | arc m p t1 t2 b1 b2, _ => ArcI m p t1 t2 b1 b2
end PSt
theorem PSt.Inv.up {st : PSt} {j j' : Int} (h : st.Inv j) (hj : j ≤ j') : st.Inv j' := by
  cases st with
  | lfu m now ch S => exact ⟨h.1, Int.le_trans h.2 hj⟩
  | lru => exact h
  | srl => exact h
  | arc => exact h
variable {st : PSt} {j : Int} {key : ByteArray}
theorem PSt.Inv.nodup (h : st.Inv j) : st.keys.Nodup := by
  cases st with
  | lru m ks => exact (List.reverse_perm ks).nodup_iff.2 (LqI.nd h)
  | lfu m now ch S => exact (And.left h).nd
  | srl m t ns cs gs ms => exact (List.reverse_perm _).nodup_iff.2 (SrlJ.b h).nl
  | arc m p t1 t2 b1 b2 =>
    refine nodup_cn.2 fun k => ?_
    have := ArcI.n h k
    show cn (t1.reverse ++ t2.reverse) k ≤ 1
    rw [cn_app, cn_rev, cn_rev]; omega
theorem PSt.Inv.m0 (h : st.Inv j) : 0 ≤ st.most := by
  cases st with
  | lru m ks => exact LqI.h0 h
  | lfu m now ch S => have h1 := (And.left h).len; show 0 ≤ m; omega
  | srl m t ns cs gs ms => exact SrlJ.h0 h
  | arc m p t1 t2 b1 b2 => exact ArcI.h0 h
theorem PSt.Inv.len (h : st.Inv j) : (st.keys.length : Int) ≤ st.most := by
  cases st with
  | lru m ks => show (ks.reverse.length : Int) ≤ m; rw [List.length_reverse]; exact LqI.len h
  | lfu m now ch S => show ((ksf S).length : Int) ≤ m; rw [show (ksf S).length = S.length from List.length_map _]; exact (And.left h).len
  | srl m t ns cs gs ms => show ((cs ++ ns).reverse.length : Int) ≤ m; rw [List.length_reverse]; exact SrlJ.len h
  | arc m p t1 t2 b1 b2 => have := ArcI.len h; show ((t1.reverse ++ t2.reverse).length : Int) ≤ m; simp only [List.length_append, List.length_reverse]; omega
theorem PSt.Inv.req (h : st.Inv j) (key : ByteArray) {x} (hx : st.req key = x) : x.1.Inv (j + 1) ∧ x.1.most = st.most ∧ x.1.kind = st.kind ∧ (0 < st.most → ReqP st.most st.keys key x.1.keys x.2.1 x.2.2.1 x.2.2.2) ∧
    (st.most = 0 → x.1.keys = st.keys ∧ x.1.ghosts = st.ghosts ∧ x.2 = (decide (key ∈ st.keys), ⟨#[]⟩, false)) := by
  cases st with
  | lru m ks =>
    obtain ⟨h1, h2, h3⟩ := LqI.req h key rfl
    subst hx
    refine ⟨h1, rfl, rfl, h2, fun q => ?_⟩
    have h4 := h3 q
    refine ⟨by show (lqReq m ks key).1.reverse = _; rw [h4]; rfl, rfl, ?_⟩
    show (lqReq m ks key).2 = _
    rw [h4, show decide (key ∈ PSt.keys (.lru m ks)) = decide (key ∈ ks) by rw [decide_eq_decide]; exact List.mem_reverse]
  | lfu m now ch S =>
    have h0 := PSt.Inv.m0 h
    obtain ⟨h1, h2, h3, h4⟩ := LfuI.reqP (ch := ch) (And.left h) h0 key rfl
    have hj := And.right h
    subst hx
    refine ⟨⟨h1, by show (lfuReq m now ch S key).1 ≤ j + 1; omega⟩, rfl, rfl, h3, fun q => ?_⟩
    have h5 := h4 q
    exact ⟨by show ksf (lfuReq m now ch S key).2.1 = _; rw [h5]; rfl, rfl, by show (lfuReq m now ch S key).2.2 = _; rw [h5]; rfl⟩
  | srl m t ns cs gs ms =>
    obtain ⟨h1, h2, h3⟩ := SrlJ.reqP h key rfl
    subst hx
    refine ⟨h1, rfl, rfl, h2, fun q => ?_⟩
    have h4 := h3 q
    refine ⟨by show ((srlReq m t ns cs gs ms key).2.2.1 ++ (srlReq m t ns cs gs ms key).2.1).reverse = _; rw [h4]; rfl, by show (srlReq m t ns cs gs ms key).2.2.2.1 = _; rw [h4]; rfl, ?_⟩
    show (srlReq m t ns cs gs ms key).2.2.2.2.2 = _
    rw [h4, show decide (key ∈ PSt.keys (.srl m t ns cs gs ms)) = decide (key ∈ cs ++ ns) by rw [decide_eq_decide]; exact List.mem_reverse]
  | arc m p t1 t2 b1 b2 =>
    obtain ⟨h1, h2, h3⟩ := ArcI.reqP h key rfl
    subst hx
    refine ⟨h1, rfl, rfl, h2, fun q => ?_⟩
    have h4 := h3 q
    exact ⟨by show (arcReq m p t1 t2 b1 b2 key).2.1.reverse ++ (arcReq m p t1 t2 b1 b2 key).2.2.1.reverse = _; rw [h4]; rfl, by show (arcReq m p t1 t2 b1 b2 key).2.2.2.1 ++ (arcReq m p t1 t2 b1 b2 key).2.2.2.2.1 = _; rw [h4]; rfl, by show (arcReq m p t1 t2 b1 b2 key).2.2.2.2.2 = _; rw [h4]; rfl⟩
theorem PSt.Inv.remove (h : st.Inv j) (key : ByteArray) {x} (hx : st.remove key = x) : x.1.Inv j ∧ x.1.most = st.most ∧ x.1.kind = st.kind ∧ RemP st.keys key x.1.keys x.1.ghosts x.2 := by
  cases st with
  | lru m ks => obtain ⟨h1, h2⟩ := LqI.remove h key rfl; subst hx; exact ⟨h1, rfl, rfl, h2⟩
  | lfu m now ch S => obtain ⟨h1, h2⟩ := LfuI.remP (ch := ch) (And.left h) key rfl; subst hx; exact ⟨⟨h1, And.right h⟩, rfl, rfl, h2⟩
  | srl m t ns cs gs ms => obtain ⟨h1, h2⟩ := SrlJ.remP h key rfl; subst hx; exact ⟨h1, rfl, rfl, h2⟩
  | arc m p t1 t2 b1 b2 => obtain ⟨h1, h2⟩ := ArcI.remP h key rfl; subst hx; exact ⟨h1, rfl, rfl, h2⟩
theorem PSt.Inv.drop (h : st.Inv j) {x} (hx : st.drop = x) : x.1.Inv j ∧ x.1.most = st.most ∧ x.1.kind = st.kind ∧ DroP st.keys st.ghosts x.1.keys x.1.ghosts x.2.1 x.2.2 ∧ st.victim = x.2 := by
  cases st with
  | lru m ks => obtain ⟨h1, h2, h3⟩ := LqI.drop h rfl; subst hx; exact ⟨h1, rfl, rfl, h2, h3⟩
  | lfu m now ch S => obtain ⟨h1, h2, h3⟩ := LfuI.droP (ch := ch) (And.left h) rfl; subst hx; exact ⟨⟨h1, And.right h⟩, rfl, rfl, h2, h3⟩
  | srl m t ns cs gs ms => obtain ⟨h1, h2, h3⟩ := SrlJ.droP h rfl; subst hx; exact ⟨h1, rfl, rfl, h2, h3⟩
  | arc m p t1 t2 b1 b2 => obtain ⟨h1, h2, h3⟩ := ArcI.droP h rfl; subst hx; exact ⟨h1, rfl, rfl, h2, h3⟩
theorem PSt.Inv.new {kind most : Int} (hk : 0 ≤ kind ∧ kind ≤ 4) (hm : 0 ≤ most) : (PSt.new kind most).Inv 0 ∧ (PSt.new kind most).most = most ∧ (PSt.new kind most).kind = kind ∧ (PSt.new kind most).keys = [] ∧ (PSt.new kind most).ghosts = [] := by
  unfold PSt.new
  by_cases h0 : kind = 0
  · rw [if_pos h0, lqNew_nn hm]; exact ⟨LqI.new hm, rfl, h0.symm, rfl, rfl⟩
  rw [if_neg h0]
  by_cases h1 : kind = 1 ∨ kind = 2
  · rw [if_pos h1, lfuNew_nn hm]
    refine ⟨⟨LfuI.new hm, Int.le_refl _⟩, rfl, ?_, rfl, rfl⟩
    show (if decide (kind = 2) = true then (2 : Int) else 1) = kind
    rcases h1 with q | q <;> simp [q]
  rw [if_neg h1]
  by_cases h3 : kind = 3
  · rw [if_pos h3, srlNew_nn hm]; exact ⟨(SrlI.new hm).j (by dsimp only; omega) (by dsimp only; omega), rfl, h3.symm, rfl, rfl⟩
  · rw [if_neg h3, arcNew_nn hm]; exact ⟨ArcI.new hm, rfl, by show (4 : Int) = kind; omega, rfl, rfl⟩
end Go.Proofs.YtholinnmjoelkaaGreatDoor
