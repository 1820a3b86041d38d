/- Package srlru: what a request does. -/
import Derived.Test.YtjijjfdkghcjkaaSrlPure
set_option linter.unusedVariables false
namespace Go.Proofs.Ytjijjfdkghcjkaa
variable {most target : Int} {ns cs gs L : LB} {ms : Mks} {key : ByteArray} {z : ByteArray → Prop}

def srlMiss (most t : Int) (ns cs gs : LB) (ms : Mks) : LB × LB × LB × Mks × ByteArray × Bool :=
  if ((cs ++ ns).length : Int) ≥ most then srlEvict most t ns cs gs ms else (ns, cs, gs, ms, ⟨#[]⟩, false)
def srlUp (most target : Int) (ms : Mks) (key : ByteArray) : Int := if ((lk ms key).getD (false, false)).2 = true then (if most < target + 1 then most else target + 1) else target
def srlDown (target : Int) (ms : Mks) (key : ByteArray) : Int := if ((lk ms key).isSome = true ∧ ((lk ms key).getD (false, false)).1 = false) ∧ target > 1 then target - 1 else target
theorem srlHas_eq : srlHas most target ns cs gs ms key = decide (key ∈ cs ++ ns) := by
  unfold srlHas
  by_cases h1 : key ∈ ns <;> by_cases h2 : key ∈ cs <;> simp [h1, h2]
theorem srlLen_eq : srlLen most target ns cs gs ms = ((cs ++ ns).length : Int) := by
  unfold srlLen; simp; omega
theorem srlReq_zero (h : most = 0) : srlReq most target ns cs gs ms key = (target, ns, cs, gs, ms, decide (key ∈ cs ++ ns), ⟨#[]⟩, false) := by
  unfold srlReq; rw [if_pos h, srlHas_eq]
theorem srlReq_a (h : most ≠ 0) (hc : key ∈ cs) : srlReq most target ns cs gs ms key = (target, ns, fr cs key, gs, ms, true, ⟨#[]⟩, false) := by
  unfold srlReq; rw [if_neg h, if_pos hc, srlHas_eq, decide_eq_true (List.mem_append_left _ hc)]
theorem srlReq_n (h : most ≠ 0) (hc : key ∉ cs) (hn : key ∈ ns) : srlReq most target ns cs gs ms key =
    (srlUp most target ms key, (srlAgain most (srlUp most target ms key) (rm ns key) cs gs ms key).1, (srlAgain most (srlUp most target ms key) (rm ns key) cs gs ms key).2.1, gs, (srlAgain most (srlUp most target ms key) (rm ns key) cs gs ms key).2.2, true, ⟨#[]⟩, false) := by
  unfold srlReq
  rw [if_neg h, if_neg hc, srlHas_eq, decide_eq_true (List.mem_append_right _ hn), if_pos rfl]
  unfold srlUp
  split <;> rfl
theorem srlReq_miss (h : most ≠ 0) (hc : key ∉ cs ++ ns) {x} (hx : srlMiss most (srlDown target ms key) ns cs (rm gs key) ms = x) : srlReq most target ns cs gs ms key =
    if (lk ms key).isSome = true then (srlDown target ms key, (srlAgain most (srlDown target ms key) x.1 x.2.1 x.2.2.1 x.2.2.2.1 key).1, (srlAgain most (srlDown target ms key) x.1 x.2.1 x.2.2.1 x.2.2.2.1 key).2.1, x.2.2.1, (srlAgain most (srlDown target ms key) x.1 x.2.1 x.2.2.1 x.2.2.2.1 key).2.2, false, x.2.2.2.2.1, x.2.2.2.2.2)
    else (srlDown target ms key, fr x.1 key, x.2.1, x.2.2.1, put x.2.2.2.1 key (false, false), false, x.2.2.2.2.1, x.2.2.2.2.2) := by
  have hc1 : key ∉ cs := fun q => hc (List.mem_append_left _ q)
  subst hx
  unfold srlReq srlMiss srlDown
  rw [if_neg h, if_neg hc1, srlHas_eq, decide_eq_false hc, if_neg (by simp)]
  simp only [srlLen_eq]
  by_cases k1 : (lk ms key).isSome = true
  · by_cases k2 : ((lk ms key).getD (false, false)).1 = true
    · by_cases k3 : ((cs ++ ns).length : Int) ≥ most
      · simp only [k1, k2, k3, if_true, if_false, Bool.not_true, Bool.not_false, true_and, and_true, false_and, and_false, reduceCtorEq, if_true]
      · simp only [k1, k2, k3, if_true, if_false, Bool.not_true, Bool.not_false, true_and, and_true, false_and, and_false, reduceCtorEq, if_true]
    · have k2' : ((lk ms key).getD (false, false)).1 = false := by simpa using k2
      by_cases k4 : target > 1 <;> by_cases k3 : ((cs ++ ns).length : Int) ≥ most
      all_goals simp only [k1, k2', k3, k4, if_true, if_false, Bool.not_true, Bool.not_false, true_and, and_true, false_and, and_false, reduceCtorEq, if_true]
  · have k1' : (lk ms key).isSome = false := by simpa using k1
    by_cases k3 : ((cs ++ ns).length : Int) ≥ most
    · simp only [k1', k3, if_true, if_false, Bool.false_eq_true, false_and]
    · simp only [k1', k3, if_true, if_false, Bool.false_eq_true, false_and]

structure SrlI (most target : Int) (ns cs gs : LB) (ms : Mks) : Prop where
  b : SrlB (fun _ => False) (cs ++ ns) gs ms
  h0 : 0 ≤ most
  t0 : 0 ≤ target
  tm : target ≤ most
  t1 : 2 ≤ most → 1 ≤ target
  len : ((cs ++ ns).length : Int) ≤ most
  glen : (gs.length : Int) ≤ most
  clen : cs.length ≤ max 1 target.toNat

theorem SrlI.up (h : SrlI most target ns cs gs ms) (hm : most ≠ 0) : 0 ≤ srlUp most target ms key ∧ srlUp most target ms key ≤ most ∧ target ≤ srlUp most target ms key := by
  have := h.tm; have := h.t0; have := h.h0
  unfold srlUp; split
  · split <;> omega
  · omega
theorem SrlI.down (h : SrlI most target ns cs gs ms) : 0 ≤ srlDown target ms key ∧ srlDown target ms key ≤ target ∧ (1 ≤ target → 1 ≤ srlDown target ms key) := by
  have := h.tm; have := h.t0; have := h.h0
  unfold srlDown; split <;> omega
/-- What a miss leaves ahead of the key's coming. -/
theorem SrlI.miss (h : SrlI most target ns cs gs ms) (hm : most ≠ 0) (hc : key ∉ cs ++ ns) (t : Int) {x} (hx : srlMiss most t ns cs (rm gs key) ms = x) :
    SrlB (fun k => k = key ∧ key ∈ gs) (x.2.1 ++ x.1) x.2.2.1 x.2.2.2.1 ∧ ((x.2.1 ++ x.1).length : Int) + 1 ≤ most ∧ (x.2.2.1.length : Int) ≤ most ∧ x.2.1.length ≤ cs.length ∧ key ∉ x.2.1 ++ x.1 ∧ key ∉ x.2.2.1 ∧
    (if ((cs ++ ns).length : Int) < most then x = (ns, cs, rm gs key, ms, ⟨#[]⟩, false) else x.2.1 ++ x.1 = (cs ++ ns).dropLast ∧ x.2.1 = srlC ns cs ∧ x.2.2.1 = (lastOf (cs ++ ns) :: rm gs key).take most.toNat ∧ x.2.2.2.2.1 = lastOf (cs ++ ns) ∧ x.2.2.2.2.2 = true) := by
  have h1 := h.b.unghost hc
  have h2 := h.h0; have h3 := h.len; have h4 := h.glen; have h5 := rm_le gs key
  unfold srlMiss at hx
  by_cases hf : ((cs ++ ns).length : Int) < most
  · rw [if_neg (by omega)] at hx
    subst hx
    exact ⟨h1, by show ((cs ++ ns).length : Int) + 1 ≤ _; omega, by show ((rm gs key).length : Int) ≤ _; omega, Nat.le_refl _, hc, fun q => (mem_rm.1 q).2 rfl, by rw [if_pos hf]⟩
  · rw [if_pos (by omega)] at hx
    have hpos : 0 < (cs ++ ns).length := by omega
    obtain ⟨e1, e2, e3, e4, e5, e6⟩ := h1.evict hpos h2 (by omega) hx
    refine ⟨e1, ?_, ?_, ?_, ?_, ?_, ?_⟩
    · rw [e2, List.length_dropLast]; omega
    · rw [e4, List.length_take]; omega
    · rw [e3, len_srlC]; omega
    · rw [e2]; exact fun q => hc (mem_dl q)
    · rw [e4]; intro q
      rcases List.mem_cons.1 (List.mem_of_mem_take q) with e | e
      · exact hc (e ▸ lastMem hpos)
      · exact (mem_rm.1 e).2 rfl
    · rw [if_neg hf]; exact ⟨e2, e3, e4, e5, e6⟩
/-- A request, at large. -/
theorem SrlI.req (h : SrlI most target ns cs gs ms) (key : ByteArray) {x} (hx : srlReq most target ns cs gs ms key = x) :
    SrlI most x.1 x.2.1 x.2.2.1 x.2.2.2.1 x.2.2.2.2.1 ∧ x.2.2.2.2.2.1 = decide (key ∈ cs ++ ns) ∧
    (key ∈ cs ++ ns → x.2.2.2.2.2.2.2 = false) ∧ (0 < most → key ∈ x.2.2.1 ++ x.2.1) ∧
    (x.2.2.2.2.2.2.2 = true → x.2.2.2.2.2.2.1 ∉ x.2.2.1 ++ x.2.1 ∧ 0 < x.2.2.2.1.length ∧ x.2.2.2.1.getD 0 ⟨#[]⟩ = x.2.2.2.2.2.2.1) := by
  have g0 := h.h0; have g1 := h.t0; have g2 := h.tm; have g3 := h.t1; have g4 := h.len; have g5 := h.glen; have g6 := h.clen
  by_cases hm : most = 0
  · rw [srlReq_zero hm] at hx
    subst hx
    exact ⟨h, rfl, fun _ => rfl, fun q => by omega, fun q => by simp at q⟩
  by_cases hc : key ∈ cs
  · rw [srlReq_a hm hc] at hx
    subst hx
    have hkn : key ∉ ns := fun q => (List.nodup_append.1 h.b.nl).2.2 _ hc _ q rfl
    have e0 : fr cs key ++ ns = fr (cs ++ ns) key := by rw [fr_app, rm_not hkn]
    have hmem : ∀ k, k ∈ fr cs key ++ ns ↔ k ∈ cs ++ ns := fun k => by
      rw [e0, mem_fr]; exact ⟨fun q => q.elim (fun e => e ▸ List.mem_append_left _ hc) id, .inr⟩
    have e1 : (fr cs key).length = cs.length := by rw [length_fr (List.nodup_append.1 h.b.nl).1, if_pos hc]
    refine ⟨⟨⟨by rw [e0]; exact nodup_fr h.b.nl _, h.b.ng, fun k a => h.b.apart k ((hmem k).1 a), fun k => by rw [hmem]; exact h.b.mks k, fun k q => q.elim, h.b.mn⟩, g0, g1, g2, g3, by rw [List.length_append, e1, ← List.length_append]; exact g4, g5, by rw [e1]; exact g6⟩, (decide_eq_true (List.mem_append_left _ hc)).symm, fun _ => rfl, fun _ => (hmem _).2 (List.mem_append_left _ hc), fun q => by simp at q⟩
  by_cases hn : key ∈ ns
  · rw [srlReq_n hm hc hn] at hx
    obtain ⟨u1, u2, u3⟩ := h.up (key := key) hm
    have hnd := List.nodup_append.1 h.b.nl
    have e0 : cs ++ rm ns key = rm (cs ++ ns) key := by rw [rm_append, rm_not hc]
    have hB : SrlB (fun k => k = key ∧ True) (cs ++ rm ns key) gs ms := by
      refine ⟨by rw [e0]; exact nodup_rm h.b.nl _, h.b.ng, fun k a => h.b.apart k (by rw [e0] at a; exact (mem_rm.1 a).1), fun k => ?_, fun k q => ?_, h.b.mn⟩
      · rw [h.b.mks, e0, mem_rm]
        by_cases e : k = key
        · subst e; simp [hn]
        · simp [e]
      · rw [e0, q.1]; exact ⟨fun a => (mem_rm.1 a).2 rfl, h.b.apart _ (List.mem_append_right _ hn)⟩
    obtain ⟨a1, a2, a3⟩ := hB.again (most := most) (target := srlUp most target ms key) (hB.out key ⟨rfl, trivial⟩).1 (hB.out key ⟨rfl, trivial⟩).2 rfl
    have hlen := len_rm_lt h.b.nl (List.mem_append_right cs hn)
    subst hx
    refine ⟨⟨a1, g0, u1, u2, fun q => by have := g3 q; omega, ?_, g5, ?_⟩, (decide_eq_true (List.mem_append_right _ hn)).symm, fun _ => rfl, fun _ => ?_, fun q => by simp at q⟩
    · dsimp only; rw [a2, e0]; simp only [List.length_cons]; omega
    · dsimp only; rw [a3]; omega
    · dsimp only; rw [a2]; exact List.mem_cons_self ..
  · have hcn : key ∉ cs ++ ns := fun q => (List.mem_append.1 q).elim hc hn
    obtain ⟨d1, d2, d3⟩ := h.down (key := key)
    rw [srlReq_miss hm hcn rfl] at hx
    obtain ⟨m1, m2, m3, m4, m5, m6, m7⟩ := h.miss hm hcn (srlDown target ms key) rfl
    generalize srlMiss most (srlDown target ms key) ns cs (rm gs key) ms = y at hx m1 m2 m3 m4 m5 m6 m7
    have hout : ∀ R : LB, (∀ k, k ∈ R → k = key ∨ k ∈ y.2.1 ++ y.1) → y.2.2.2.2.2 = true → y.2.2.2.2.1 ∉ R ∧ 0 < y.2.2.1.length ∧ y.2.2.1.getD 0 ⟨#[]⟩ = y.2.2.2.2.1 := by
      intro R hR ho
      by_cases hf : ((cs ++ ns).length : Int) < most
      · rw [if_pos hf] at m7; subst m7; simp at ho
      · rw [if_neg hf] at m7
        obtain ⟨e2, e3, e4, e5, e6⟩ := m7
        have hpos : 0 < (cs ++ ns).length := by omega
        obtain ⟨p, hp⟩ : ∃ p, most.toNat = p + 1 := ⟨most.toNat - 1, by omega⟩
        refine ⟨fun q => ?_, by rw [e4, hp]; simp, by rw [e4, hp, e5]; simp⟩
        rw [e5] at q
        rcases hR _ q with e | e
        · exact hcn (e ▸ lastMem hpos)
        · rw [e2] at e; exact last_not_dl hpos h.b.nl e
    by_cases hk : (lk ms key).isSome = true
    · rw [if_pos hk] at hx
      obtain ⟨a1, a2, a3⟩ := m1.again (most := most) (target := srlDown target ms key) m5 m6 rfl
      subst hx
      refine ⟨⟨a1, g0, d1, by dsimp only; omega, fun q => d3 (g3 q), ?_, m3, ?_⟩, (decide_eq_false hcn).symm, fun q => absurd q hcn, fun _ => ?_, fun q => hout _ (fun k hk => by dsimp only at hk; rw [a2] at hk; exact List.mem_cons.1 hk) q⟩
      · dsimp only; rw [a2]; simp only [List.length_cons]; omega
      · dsimp only; rw [a3]; omega
      · dsimp only; rw [a2]; exact List.mem_cons_self ..
    · rw [if_neg hk] at hx
      have hd : srlDown target ms key = target := by unfold srlDown; rw [if_neg]; exact fun q => hk q.1.1
      have hkn : key ∉ y.1 := fun q => m5 (List.mem_append_right _ q)
      have hmem : ∀ k, k ∈ y.2.1 ++ fr y.1 key ↔ k = key ∨ k ∈ y.2.1 ++ y.1 := fun k => by
        rw [List.mem_append, mem_fr, List.mem_append]
        constructor
        · rintro (a | a | a)
          · exact .inr (.inl a)
          · exact .inl a
          · exact .inr (.inr a)
        · rintro (a | a | a)
          · exact .inr (.inl a)
          · exact .inl a
          · exact .inr (.inr a)
      have hnd := List.nodup_append.1 m1.nl
      have hnd' : (y.2.1 ++ fr y.1 key).Nodup := List.nodup_append.2 ⟨hnd.1, nodup_fr hnd.2.1 _, fun a ha b hb e => by
        rcases mem_fr.1 hb with q | q
        · exact m5 (List.mem_append_left _ (q ▸ e ▸ ha))
        · exact hnd.2.2 a ha b q e⟩
      subst hx
      refine ⟨⟨m1.enter _ hmem hnd' m6, g0, d1, by dsimp only; omega, fun q => d3 (g3 q), ?_, m3, ?_⟩, (decide_eq_false hcn).symm, fun q => absurd q hcn, fun _ => (hmem _).2 (.inl rfl), fun q => hout _ (fun k hk => (hmem k).1 hk) q⟩
      · dsimp only; rw [fr_not hkn]; rw [List.length_append] at m2 ⊢; simp only [List.length_cons]; omega
      · dsimp only; rw [hd]; omega
/-- A key of which nothing is told. -/
theorem SrlI.fresh (h : SrlI most target ns cs gs ms) (hm : most ≠ 0) (hk : lk ms key = none) {x} (hx : srlReq most target ns cs gs ms key = x) :
    x.1 = target ∧ x.2.2.2.2.2.1 = false ∧ (∀ k, (lk x.2.2.2.2.1 k).isSome = true → k = key ∨ (lk ms k).isSome = true) ∧
    (if ((cs ++ ns).length : Int) < most then x.2.1 = key :: ns ∧ x.2.2.1 = cs ∧ x.2.2.2.2.2.2.2 = false
     else x.2.1 = key :: srlN ns ∧ x.2.2.1 = srlC ns cs ∧ x.2.2.2.2.2.2 = (lastOf (cs ++ ns), true)) := by
  have hcn : key ∉ cs ++ ns := fun q => by have := (h.b.mks key).2 (.inl q); rw [hk] at this; simp at this
  have hkg : key ∉ gs := fun q => by have := (h.b.mks key).2 (.inr (.inl q)); rw [hk] at this; simp at this
  have hd : srlDown target ms key = target := by unfold srlDown; rw [if_neg]; rw [hk]; simp
  have hR := h.req key hx
  rw [srlReq_miss hm hcn rfl, hk, if_neg (by simp), hd] at hx
  have hM := h.miss hm hcn target rfl
  have hg4 := h.len
  unfold srlMiss at hx hM
  by_cases hf : ((cs ++ ns).length : Int) < most
  · rw [if_neg (by omega)] at hx
    subst hx
    refine ⟨rfl, rfl, fun k q => (isSome_put _ _ _ _).1 q, ?_⟩
    rw [if_pos hf]
    exact ⟨fr_not fun q => hcn (List.mem_append_right _ q), rfl, rfl⟩
  · rw [if_pos (by omega)] at hx hM
    obtain ⟨m1, m2, m3, m4, m5, m6, m7⟩ := hM
    rw [if_neg hf] at m7
    have hpos : 0 < (cs ++ ns).length := by have := h.h0; omega
    have e := srlEvict_eq (most := most) (target := target) (ns := ns) (cs := cs) (gs := rm gs key) (ms := ms) hpos
    subst hx
    refine ⟨rfl, rfl, fun k q => ?_, ?_⟩
    · rcases (isSome_put _ _ _ _).1 q with e | e
      · exact .inl e
      · refine .inr ((h.b.mks k).2 ?_)
        rcases (m1.mks k).1 e with a | a | a
        · rw [m7.1] at a; exact .inl (mem_dl a)
        · rw [m7.2.2.1] at a
          rcases List.mem_cons.1 (List.mem_of_mem_take a) with e | e
          · exact .inl (e ▸ lastMem hpos)
          · exact .inr (.inl (mem_rm.1 e).1)
        · exact absurd a.2 hkg
    · rw [if_neg hf]
      refine ⟨?_, m7.2.1, ?_⟩
      · have e1 : (srlEvict most target ns cs (rm gs key) ms).1 = srlN ns := by rw [e]
        dsimp only; rw [e1]
        exact fr_not fun q => m5 (by rw [e1]; exact List.mem_append_right _ q)
      · exact Prod.ext m7.2.2.2.1 m7.2.2.2.2
end Go.Proofs.Ytjijjfdkghcjkaa
