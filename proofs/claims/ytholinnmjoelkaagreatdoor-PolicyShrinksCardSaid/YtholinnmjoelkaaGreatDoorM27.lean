/- SrlPureB, SrlPureC, SrlJ -/
import Derived.Test.YtholinnmjoelkaaGreatDoorM23
set_option linter.unusedVariables false
set_option linter.unusedSimpArgs false
namespace Go.Proofs.YtholinnmjoelkaaGreatDoor
variable {most target : Int} {ns cs gs L : LB} {ms : Mks} {key : ByteArray} {z : ByteArray → Prop}
def srlMiss (most t : Int) (ns cs gs : LB) (ms : Mks) : LB × LB × LB × Mks × ByteArray × Bool :=
  if ((cs ++ ns).length : Int) ≥ most then srlEvict most t ns cs gs ms else (ns, cs, gs, ms, ⟨#[]⟩, false)
def srlUp (most target : Int) (ms : Mks) (key : ByteArray) : Int := if ((lk ms key).getD (false, false)).2 = true then (if most < target + 1 then most else target + 1) else target
def srlDown (target : Int) (ms : Mks) (key : ByteArray) : Int := if ((lk ms key).isSome = true ∧ ((lk ms key).getD (false, false)).1 = false) ∧ target > 1 then target - 1 else target
theorem srlHas_eq : srlHas most target ns cs gs ms key = decide (key ∈ cs ++ ns) := by
  unfold srlHas
  by_cases h1 : key ∈ ns <;> by_cases h2 : key ∈ cs <;> simp [h1, h2]
theorem srlLen_eq : srlLen most target ns cs gs ms = ((cs ++ ns).length : Int) := by
  unfold srlLen; simp; omega
theorem srlReq_zero (h : most = 0) : srlReq most target ns cs gs ms key = (target, ns, cs, gs, ms, decide (key ∈ cs ++ ns), ⟨#[]⟩, false) := by
  unfold srlReq; rw [if_pos h, srlHas_eq]
theorem srlReq_a (h : most ≠ 0) (hc : key ∈ cs) : srlReq most target ns cs gs ms key = (target, ns, fr cs key, gs, ms, true, ⟨#[]⟩, false) := by
  unfold srlReq; rw [if_neg h, if_pos hc, srlHas_eq, decide_eq_true (List.mem_append_left _ hc)]
theorem srlReq_n (h : most ≠ 0) (hc : key ∉ cs) (hn : key ∈ ns) : srlReq most target ns cs gs ms key =
    (srlUp most target ms key, (srlAgain most (srlUp most target ms key) (rm ns key) cs gs ms key).1, (srlAgain most (srlUp most target ms key) (rm ns key) cs gs ms key).2.1, gs, (srlAgain most (srlUp most target ms key) (rm ns key) cs gs ms key).2.2, true, ⟨#[]⟩, false) := by
  unfold srlReq
  rw [if_neg h, if_neg hc, srlHas_eq, decide_eq_true (List.mem_append_right _ hn), if_pos rfl]
  unfold srlUp
  split <;> rfl
theorem srlReq_miss (h : most ≠ 0) (hc : key ∉ cs ++ ns) {x} (hx : srlMiss most (srlDown target ms key) ns cs (rm gs key) ms = x) : srlReq most target ns cs gs ms key =
    if (lk ms key).isSome = true then (srlDown target ms key, (srlAgain most (srlDown target ms key) x.1 x.2.1 x.2.2.1 x.2.2.2.1 key).1, (srlAgain most (srlDown target ms key) x.1 x.2.1 x.2.2.1 x.2.2.2.1 key).2.1, x.2.2.1, (srlAgain most (srlDown target ms key) x.1 x.2.1 x.2.2.1 x.2.2.2.1 key).2.2, false, x.2.2.2.2.1, x.2.2.2.2.2)
    else (srlDown target ms key, fr x.1 key, x.2.1, x.2.2.1, put x.2.2.2.1 key (false, false), false, x.2.2.2.2.1, x.2.2.2.2.2) := by
  have hc1 : key ∉ cs := fun q => hc (List.mem_append_left _ q)
  subst hx
  unfold srlReq srlMiss srlDown
  rw [if_neg h, if_neg hc1, srlHas_eq, decide_eq_false hc, if_neg (by simp)]
  simp only [srlLen_eq]
  by_cases k1 : (lk ms key).isSome = true
  · by_cases k2 : ((lk ms key).getD (false, false)).1 = true
    · by_cases k3 : ((cs ++ ns).length : Int) ≥ most
      · simp only [k1, k2, k3, if_true, if_false, Bool.not_true, Bool.not_false, true_and, and_true, false_and, and_false, reduceCtorEq, if_true]
      · simp only [k1, k2, k3, if_true, if_false, Bool.not_true, Bool.not_false, true_and, and_true, false_and, and_false, reduceCtorEq, if_true]
    · have k2' : ((lk ms key).getD (false, false)).1 = false := by simpa using k2
      by_cases k4 : target > 1 <;> by_cases k3 : ((cs ++ ns).length : Int) ≥ most
      all_goals simp only [k1, k2', k3, k4, if_true, if_false, Bool.not_true, Bool.not_false, true_and, and_true, false_and, and_false, reduceCtorEq, if_true]
  · have k1' : (lk ms key).isSome = false := by simpa using k1
    by_cases k3 : ((cs ++ ns).length : Int) ≥ most
    · simp only [k1', k3, if_true, if_false, Bool.false_eq_true, false_and]
    · simp only [k1', k3, if_true, if_false, Bool.false_eq_true, false_and]
structure SrlI (most target : Int) (ns cs gs : LB) (ms : Mks) : Prop where
  b : SrlB (fun _ => False) (cs ++ ns) gs ms
  h0 : 0 ≤ most
  t0 : 0 ≤ target
  tm : target ≤ most
  t1 : 2 ≤ most → 1 ≤ target
  len : ((cs ++ ns).length : Int) ≤ most
  glen : (gs.length : Int) ≤ most
  clen : cs.length ≤ max 1 target.toNat
theorem SrlI.up (h : SrlI most target ns cs gs ms) (hm : most ≠ 0) : 0 ≤ srlUp most target ms key ∧ srlUp most target ms key ≤ most ∧ target ≤ srlUp most target ms key := by
  have := h.tm; have := h.t0; have := h.h0
  unfold srlUp; split
  · split <;> omega
  · omega
theorem SrlI.down (h : SrlI most target ns cs gs ms) : 0 ≤ srlDown target ms key ∧ srlDown target ms key ≤ target ∧ (1 ≤ target → 1 ≤ srlDown target ms key) := by
  have := h.tm; have := h.t0; have := h.h0
  unfold srlDown; split <;> omega
theorem SrlI.miss (h : SrlI most target ns cs gs ms) (hm : most ≠ 0) (hc : key ∉ cs ++ ns) (t : Int) {x} (hx : srlMiss most t ns cs (rm gs key) ms = x) :
    SrlB (fun k => k = key ∧ key ∈ gs) (x.2.1 ++ x.1) x.2.2.1 x.2.2.2.1 ∧ ((x.2.1 ++ x.1).length : Int) + 1 ≤ most ∧ (x.2.2.1.length : Int) ≤ most ∧ x.2.1.length ≤ cs.length ∧ key ∉ x.2.1 ++ x.1 ∧ key ∉ x.2.2.1 ∧
    (if ((cs ++ ns).length : Int) < most then x = (ns, cs, rm gs key, ms, ⟨#[]⟩, false) else x.2.1 ++ x.1 = (cs ++ ns).dropLast ∧ x.2.1 = srlC ns cs ∧ x.2.2.1 = (lastOf (cs ++ ns) :: rm gs key).take most.toNat ∧ x.2.2.2.2.1 = lastOf (cs ++ ns) ∧ x.2.2.2.2.2 = true) := by
  have h1 := h.b.unghost hc
  have h2 := h.h0; have h3 := h.len; have h4 := h.glen; have h5 := rm_le gs key
  unfold srlMiss at hx
  by_cases hf : ((cs ++ ns).length : Int) < most
  · rw [if_neg (by omega)] at hx
    subst hx
    exact ⟨h1, by show ((cs ++ ns).length : Int) + 1 ≤ _; omega, by show ((rm gs key).length : Int) ≤ _; omega, Nat.le_refl _, hc, fun q => (mem_rm.1 q).2 rfl, by rw [if_pos hf]⟩
  · rw [if_pos (by omega)] at hx
    have hpos : 0 < (cs ++ ns).length := by omega
    obtain ⟨e1, e2, e3, e4, e5, e6⟩ := h1.evict hpos h2 (by omega) hx
    refine ⟨e1, ?_, ?_, ?_, ?_, ?_, ?_⟩
    · rw [e2, List.length_dropLast]; omega
    · rw [e4, List.length_take]; omega
    · rw [e3, len_srlC]; omega
    · rw [e2]; exact fun q => hc (mem_dl q)
    · rw [e4]; intro q
      rcases List.mem_cons.1 (List.mem_of_mem_take q) with e | e
      · exact hc (e ▸ lastMem hpos)
      · exact (mem_rm.1 e).2 rfl
    · rw [if_neg hf]; exact ⟨e2, e3, e4, e5, e6⟩
theorem SrlI.req (h : SrlI most target ns cs gs ms) (key : ByteArray) {x} (hx : srlReq most target ns cs gs ms key = x) :
    SrlI most x.1 x.2.1 x.2.2.1 x.2.2.2.1 x.2.2.2.2.1 ∧ x.2.2.2.2.2.1 = decide (key ∈ cs ++ ns) ∧
    (key ∈ cs ++ ns → x.2.2.2.2.2.2.2 = false) ∧ (0 < most → key ∈ x.2.2.1 ++ x.2.1) ∧
    (x.2.2.2.2.2.2.2 = true → x.2.2.2.2.2.2.1 ∉ x.2.2.1 ++ x.2.1 ∧ 0 < x.2.2.2.1.length ∧ x.2.2.2.1.getD 0 ⟨#[]⟩ = x.2.2.2.2.2.2.1) := by
  have g0 := h.h0; have g1 := h.t0; have g2 := h.tm; have g3 := h.t1; have g4 := h.len; have g5 := h.glen; have g6 := h.clen
  by_cases hm : most = 0
  · rw [srlReq_zero hm] at hx
    subst hx
    exact ⟨h, rfl, fun _ => rfl, fun q => by omega, fun q => by simp at q⟩
  by_cases hc : key ∈ cs
  · rw [srlReq_a hm hc] at hx
    subst hx
    have hkn : key ∉ ns := fun q => (List.nodup_append.1 h.b.nl).2.2 _ hc _ q rfl
    have e0 : fr cs key ++ ns = fr (cs ++ ns) key := by rw [fr_app, rm_not hkn]
    have hmem : ∀ k, k ∈ fr cs key ++ ns ↔ k ∈ cs ++ ns := fun k => by
      rw [e0, mem_fr]; exact ⟨fun q => q.elim (fun e => e ▸ List.mem_append_left _ hc) id, .inr⟩
    have e1 : (fr cs key).length = cs.length := by rw [length_fr (List.nodup_append.1 h.b.nl).1, if_pos hc]
    refine ⟨⟨⟨by rw [e0]; exact nodup_fr h.b.nl _, h.b.ng, fun k a => h.b.apart k ((hmem k).1 a), fun k => by rw [hmem]; exact h.b.mks k, fun k q => q.elim, h.b.mn⟩, g0, g1, g2, g3, by rw [List.length_append, e1, ← List.length_append]; exact g4, g5, by rw [e1]; exact g6⟩, (decide_eq_true (List.mem_append_left _ hc)).symm, fun _ => rfl, fun _ => (hmem _).2 (List.mem_append_left _ hc), fun q => by simp at q⟩
  by_cases hn : key ∈ ns
  · rw [srlReq_n hm hc hn] at hx
    obtain ⟨u1, u2, u3⟩ := h.up (key := key) hm
    have hnd := List.nodup_append.1 h.b.nl
    have e0 : cs ++ rm ns key = rm (cs ++ ns) key := by rw [rm_append, rm_not hc]
    have hB : SrlB (fun k => k = key ∧ True) (cs ++ rm ns key) gs ms := by
      refine ⟨by rw [e0]; exact nodup_rm h.b.nl _, h.b.ng, fun k a => h.b.apart k (by rw [e0] at a; exact (mem_rm.1 a).1), fun k => ?_, fun k q => ?_, h.b.mn⟩
      · rw [h.b.mks, e0, mem_rm]
        by_cases e : k = key
        · subst e; simp [hn]
        · simp [e]
      · rw [e0, q.1]; exact ⟨fun a => (mem_rm.1 a).2 rfl, h.b.apart _ (List.mem_append_right _ hn)⟩
    obtain ⟨a1, a2, a3⟩ := hB.again (most := most) (target := srlUp most target ms key) (hB.out key ⟨rfl, trivial⟩).1 (hB.out key ⟨rfl, trivial⟩).2 rfl
    have hlen := len_rm_lt h.b.nl (List.mem_append_right cs hn)
    subst hx
    refine ⟨⟨a1, g0, u1, u2, fun q => by have := g3 q; omega, ?_, g5, ?_⟩, (decide_eq_true (List.mem_append_right _ hn)).symm, fun _ => rfl, fun _ => ?_, fun q => by simp at q⟩
    · dsimp only; rw [a2, e0]; simp only [List.length_cons]; omega
    · dsimp only; rw [a3]; omega
    · dsimp only; rw [a2]; exact List.mem_cons_self ..
  · have hcn : key ∉ cs ++ ns := fun q => (List.mem_append.1 q).elim hc hn
    obtain ⟨d1, d2, d3⟩ := h.down (key := key)
    rw [srlReq_miss hm hcn rfl] at hx
    obtain ⟨m1, m2, m3, m4, m5, m6, m7⟩ := h.miss hm hcn (srlDown target ms key) rfl
    generalize srlMiss most (srlDown target ms key) ns cs (rm gs key) ms = y at hx m1 m2 m3 m4 m5 m6 m7
    have hout : ∀ R : LB, (∀ k, k ∈ R → k = key ∨ k ∈ y.2.1 ++ y.1) → y.2.2.2.2.2 = true → y.2.2.2.2.1 ∉ R ∧ 0 < y.2.2.1.length ∧ y.2.2.1.getD 0 ⟨#[]⟩ = y.2.2.2.2.1 := by
      intro R hR ho
      by_cases hf : ((cs ++ ns).length : Int) < most
      · rw [if_pos hf] at m7; subst m7; simp at ho
      · rw [if_neg hf] at m7
        obtain ⟨e2, e3, e4, e5, e6⟩ := m7
        have hpos : 0 < (cs ++ ns).length := by omega
        obtain ⟨p, hp⟩ : ∃ p, most.toNat = p + 1 := ⟨most.toNat - 1, by omega⟩
        refine ⟨fun q => ?_, by rw [e4, hp]; simp, by rw [e4, hp, e5]; simp⟩
        rw [e5] at q
        rcases hR _ q with e | e
        · exact hcn (e ▸ lastMem hpos)
        · rw [e2] at e; exact last_not_dl hpos h.b.nl e
    by_cases hk : (lk ms key).isSome = true
    · rw [if_pos hk] at hx
      obtain ⟨a1, a2, a3⟩ := m1.again (most := most) (target := srlDown target ms key) m5 m6 rfl
      subst hx
      refine ⟨⟨a1, g0, d1, by dsimp only; omega, fun q => d3 (g3 q), ?_, m3, ?_⟩, (decide_eq_false hcn).symm, fun q => absurd q hcn, fun _ => ?_, fun q => hout _ (fun k hk => by dsimp only at hk; rw [a2] at hk; exact List.mem_cons.1 hk) q⟩
      · dsimp only; rw [a2]; simp only [List.length_cons]; omega
      · dsimp only; rw [a3]; omega
      · dsimp only; rw [a2]; exact List.mem_cons_self ..
    · rw [if_neg hk] at hx
      have hd : srlDown target ms key = target := by unfold srlDown; rw [if_neg]; exact fun q => hk q.1.1
      have hkn : key ∉ y.1 := fun q => m5 (List.mem_append_right _ q)
      have hmem : ∀ k, k ∈ y.2.1 ++ fr y.1 key ↔ k = key ∨ k ∈ y.2.1 ++ y.1 := fun k => by
        rw [List.mem_append, mem_fr, List.mem_append]
        constructor
        · rintro (a | a | a)
          · exact .inr (.inl a)
          · exact .inl a
          · exact .inr (.inr a)
        · rintro (a | a | a)
          · exact .inr (.inl a)
          · exact .inl a
          · exact .inr (.inr a)
      have hnd := List.nodup_append.1 m1.nl
      have hnd' : (y.2.1 ++ fr y.1 key).Nodup := List.nodup_append.2 ⟨hnd.1, nodup_fr hnd.2.1 _, fun a ha b hb e => by
        rcases mem_fr.1 hb with q | q
        · exact m5 (List.mem_append_left _ (q ▸ e ▸ ha))
        · exact hnd.2.2 a ha b q e⟩
      subst hx
      refine ⟨⟨m1.enter _ hmem hnd' m6, g0, d1, by dsimp only; omega, fun q => d3 (g3 q), ?_, m3, ?_⟩, (decide_eq_false hcn).symm, fun q => absurd q hcn, fun _ => (hmem _).2 (.inl rfl), fun q => hout _ (fun k hk => (hmem k).1 hk) q⟩
      · dsimp only; rw [fr_not hkn]; rw [List.length_append] at m2 ⊢; simp only [List.length_cons]; omega
      · dsimp only; rw [hd]; omega
end Go.Proofs.YtholinnmjoelkaaGreatDoor
namespace Go.Proofs.YtholinnmjoelkaaGreatDoor
variable {most target : Int} {ns cs gs L : LB} {ms : Mks} {key : ByteArray} {z : ByteArray → Prop}
theorem srlKeys_eq : srlKeys most target ns cs gs ms = (cs ++ ns).reverse := by unfold srlKeys; rw [List.reverse_append]
theorem SrlI.new {most : Int} (h : 0 ≤ most) : SrlI most (most / 2) [] [] [] [] :=
  ⟨⟨List.nodup_nil, List.nodup_nil, fun k a => by simp at a, fun k => by simp [lk], fun k q => q.elim, List.nodup_nil⟩, h, by omega, by omega, fun q => by omega, by simpa using h, by simpa using h, by simp⟩
theorem SrlI.remove (h : SrlI most target ns cs gs ms) (key : ByteArray) {x} (hx : srlRemove most target ns cs gs ms key = x) :
    SrlI most target x.1 x.2.1 x.2.2.1 x.2.2.2.1 ∧ x.2.1 ++ x.1 = rm (cs ++ ns) key ∧ x.2.2.1 = rm gs key ∧ x.2.2.2.2 = decide (key ∈ cs ++ ns) := by
  have hnd := List.nodup_append.1 h.b.nl
  have e : srlRemove most target ns cs gs ms key = (rm ns key, rm cs key, rm gs key, del ms key, decide (key ∈ cs ++ ns)) := by
    unfold srlRemove
    by_cases hn : key ∈ ns
    · have hc : key ∉ cs := fun q => hnd.2.2 _ q _ hn rfl
      rw [if_pos hn, rm_not hc, decide_eq_true (List.mem_append_right _ hn)]
    · rw [if_neg hn]
      simp [hn]
  rw [e] at hx
  subst hx
  have e0 : rm cs key ++ rm ns key = rm (cs ++ ns) key := (rm_append _ _ _).symm
  have hB : SrlB (fun _ => False) (rm cs key ++ rm ns key) (rm gs key) (del ms key) := by
    rw [e0]
    refine ⟨nodup_rm h.b.nl _, nodup_rm h.b.ng _, fun k a b => h.b.apart k (mem_rm.1 a).1 (mem_rm.1 b).1, fun k => ?_, fun k q => q.elim, nodup_del h.b.mn _⟩
    rw [isSome_del h.b.mn, h.b.mks, mem_rm, mem_rm]
    by_cases e : k = key <;> simp [e]
  have l1 := rm_le cs key
  have l2 := rm_le ns key
  have l3 := rm_le gs key
  have g4 := h.len; have g5 := h.glen; have g6 := h.clen
  refine ⟨⟨hB, h.h0, h.t0, h.tm, h.t1, ?_, ?_, ?_⟩, e0, rfl, rfl⟩
  · rw [List.length_append] at g4 ⊢; dsimp only; omega
  · dsimp only; omega
  · dsimp only; omega
theorem SrlI.adopt (h : SrlI most target ns cs gs ms) (key : ByteArray) {x} (hx : srlAdopt most target ns cs gs ms key = x) :
    SrlI most target x.1 cs x.2.1 x.2.2.1 ∧ (if key ∉ cs ++ ns ∧ ((cs ++ ns).length : Int) < most then x.1 = key :: ns ∧ x.2.1 = rm gs key ∧ x.2.2.2 = true else x = (ns, gs, ms, false)) := by
  have g4 := h.len; have g5 := h.glen
  by_cases hk : key ∈ cs ++ ns
  · have e : srlAdopt most target ns cs gs ms key = (ns, gs, ms, false) := by unfold srlAdopt; rw [srlHas_eq, if_pos (decide_eq_true hk)]
    rw [e] at hx; subst hx
    exact ⟨h, by rw [if_neg (fun q => q.1 hk)]⟩
  by_cases hl : ((cs ++ ns).length : Int) < most
  · have e : srlAdopt most target ns cs gs ms key = (fr ns key, rm gs key, put ms key (false, false), true) := by
      unfold srlAdopt; rw [srlHas_eq, srlLen_eq, decide_eq_false hk, if_neg (by simp), if_neg (by omega)]
    have hkn : key ∉ ns := fun q => hk (List.mem_append_right _ q)
    rw [e, fr_not hkn] at hx; subst hx
    have hB := h.b.unghost hk
    have hnd := List.nodup_append.1 h.b.nl
    have l3 := rm_le gs key
    refine ⟨⟨hB.enter _ (fun k => by simp only [List.mem_append, List.mem_cons]; constructor <;> rintro (a | a | a) <;> simp [a]) (List.nodup_append.2 ⟨hnd.1, nodup_cons' hnd.2.1 hkn, fun a ha b hb e => by
      rcases List.mem_cons.1 hb with q | q
      · exact hk (List.mem_append_left _ (q ▸ e ▸ ha))
      · exact hnd.2.2 a ha b q e⟩) (fun q => (mem_rm.1 q).2 rfl), h.h0, h.t0, h.tm, h.t1, ?_, ?_, h.clen⟩, by rw [if_pos ⟨hk, hl⟩]; exact ⟨rfl, rfl, rfl⟩⟩
    · rw [List.length_append] at hl ⊢; simp only [List.length_cons]; omega
    · dsimp only; omega
  · have e : srlAdopt most target ns cs gs ms key = (ns, gs, ms, false) := by
      unfold srlAdopt; rw [srlHas_eq, srlLen_eq, decide_eq_false hk, if_neg (by simp), if_pos (by omega)]
    rw [e] at hx; subst hx
    exact ⟨h, by rw [if_neg (fun q => hl q.2)]⟩
theorem SrlI.drop (h : SrlI most target ns cs gs ms) {x} (hx : srlDrop most target ns cs gs ms = x) :
    SrlI most target x.1 x.2.1 gs x.2.2.1 ∧ x.2.1 ++ x.1 = (cs ++ ns).dropLast ∧ x.2.2.2 = (lastOf (cs ++ ns), decide (0 < (cs ++ ns).length)) := by
  have g4 := h.len; have g6 := h.clen
  by_cases hp : 0 < (cs ++ ns).length
  · rw [srlDrop_eq hp] at hx; subst hx
    have hB : SrlB (fun _ => False) (srlC ns cs ++ srlN ns) gs (del ms (lastOf (cs ++ ns))) := by
      rw [srlCN]
      refine ⟨nodup_dl h.b.nl, h.b.ng, fun k a => h.b.apart k (mem_dl a), fun k => ?_, fun k q => q.elim, nodup_del h.b.mn _⟩
      rw [isSome_del h.b.mn, h.b.mks, mem_dl_iff hp h.b.nl]
      have := lastMem hp
      constructor
      · rintro ⟨a, b | b | b⟩
        · exact .inl ⟨b, a⟩
        · exact .inr (.inl b)
        · exact b.elim
      · rintro (b | b | b)
        · exact ⟨b.2, .inl b.1⟩
        · exact ⟨fun e => h.b.apart _ this (e ▸ b), .inr (.inl b)⟩
        · exact b.elim
    refine ⟨⟨hB, h.h0, h.t0, h.tm, h.t1, ?_, h.glen, ?_⟩, srlCN _ _, by rw [decide_eq_true hp]⟩
    · dsimp only; rw [srlCN, List.length_dropLast]; omega
    · dsimp only; rw [len_srlC]; omega
  · have e : cs ++ ns = [] := List.eq_nil_of_length_eq_zero (by omega)
    obtain ⟨rfl, rfl⟩ := List.append_eq_nil_iff.1 e
    rw [srlDrop_nil] at hx; subst hx
    exact ⟨h, rfl, rfl⟩
theorem srlLen_sum : srlLen most target ns cs gs ms = (cs.length : Int) + ns.length := by unfold srlLen; omega
theorem srlNew_nn {m : Int} (h : 0 ≤ m) : srlNew m = (m, m / 2, [], [], [], []) := by unfold srlNew; rw [if_neg (by omega)]
end Go.Proofs.YtholinnmjoelkaaGreatDoor
namespace Go.Proofs.YtholinnmjoelkaaGreatDoor
variable {most t : Int} {ns cs gs : LB} {ms : Mks} {key : ByteArray}
structure SrlJ (most target : Int) (ns cs gs : LB) (ms : Mks) : Prop where
  b : SrlB (fun _ => False) (cs ++ ns) gs ms
  h0 : 0 ≤ most
  t0 : 0 ≤ target
  tm : target ≤ most
  len : ((cs ++ ns).length : Int) ≤ most
  glen : (gs.length : Int) ≤ most
theorem SrlJ.i (h : SrlJ most t ns cs gs ms) : SrlI most most ns cs gs ms := by
  have h1 := h.h0; have h2 := h.len
  rw [List.length_append] at h2
  exact ⟨h.b, h1, h1, Int.le_refl _, fun q => by omega, h.len, h.glen, by omega⟩
theorem SrlI.j {t' : Int} (h : SrlI most t' ns cs gs ms) (h1 : 0 ≤ t) (h2 : t ≤ most) : SrlJ most t ns cs gs ms := ⟨h.b, h.h0, h1, h2, h.len, h.glen⟩
theorem SrlJ.reqP (h : SrlJ most t ns cs gs ms) (key : ByteArray) {x} (hx : srlReq most t ns cs gs ms key = x) :
    SrlJ most x.1 x.2.1 x.2.2.1 x.2.2.2.1 x.2.2.2.2.1 ∧ (0 < most → ReqP most (cs ++ ns).reverse key (x.2.2.1 ++ x.2.1).reverse x.2.2.2.2.2.1 x.2.2.2.2.2.2.1 x.2.2.2.2.2.2.2) ∧ (most = 0 → x = (t, ns, cs, gs, ms, decide (key ∈ cs ++ ns), ⟨#[]⟩, false)) := by
  have g0 := h.h0; have g1 := h.t0; have g2 := h.tm; have g4 := h.len; have g5 := h.glen
  have hnd := h.b.nl
  have hcn := nodup_cn.1 hnd
  by_cases hm : most = 0
  · rw [srlReq_zero hm] at hx
    subst hx
    exact ⟨h, fun q => by omega, fun _ => rfl⟩
  by_cases hc : key ∈ cs
  · rw [srlReq_a hm hc] at hx
    subst hx
    have hkn : key ∉ ns := fun q => (List.nodup_append.1 hnd).2.2 _ hc _ q rfl
    have e0 : fr cs key ++ ns = fr (cs ++ ns) key := by rw [fr_app, rm_not hkn]
    have hmem : ∀ k, k ∈ fr cs key ++ ns ↔ k ∈ cs ++ ns := fun k => by
      rw [e0, mem_fr]; exact ⟨fun q => q.elim (fun e => e ▸ List.mem_append_left _ hc) id, .inr⟩
    have e1 : (fr cs key).length = cs.length := by rw [length_fr (List.nodup_append.1 hnd).1, if_pos hc]
    have hk : key ∈ cs ++ ns := List.mem_append_left _ hc
    refine ⟨⟨⟨by rw [e0]; exact nodup_fr hnd _, h.b.ng, fun k a => h.b.apart k ((hmem k).1 a), fun k => by rw [hmem]; exact h.b.mks k, fun k q => q.elim, h.b.mn⟩, g0, g1, g2, by rw [List.length_append, e1, ← List.length_append]; exact g4, g5⟩, fun _ => ⟨fun k => ?_, ?_, ?_, ?_, fun q => (by cases q), fun _ => rfl⟩, fun q => absurd q hm⟩
    · dsimp only
      rw [cn_rev, cn_rev, e0, cn_fr]; simp only [Bool.false_eq_true, false_and, if_false, Nat.sub_zero]
    · simp only [List.length_reverse, List.length_append, e1, if_true, Bool.false_eq_true, if_false]; omega
    · simp [hc]
    · simp [hc]
  by_cases hn : key ∈ ns
  · rw [srlReq_n hm hc hn] at hx
    have e0 : cs ++ rm ns key = rm (cs ++ ns) key := by rw [rm_append, rm_not hc]
    have hkg := h.b.apart _ (List.mem_append_right _ hn)
    have hB : SrlB (fun k => k = key ∧ True) (cs ++ rm ns key) gs ms := by
      refine ⟨by rw [e0]; exact nodup_rm hnd _, h.b.ng, fun k a => h.b.apart k (by rw [e0] at a; exact (mem_rm.1 a).1), fun k => ?_, fun k q => ⟨by rw [e0, q.1]; exact fun w => (mem_rm.1 w).2 rfl, q.1 ▸ hkg⟩, h.b.mn⟩
      rw [h.b.mks, e0, mem_rm]
      by_cases e : k = key
      · subst e; simp [hn]
      · simp [e]
    obtain ⟨a1, a2, a3⟩ := hB.again (most := most) (target := srlUp most t ms key) (by rw [e0]; exact fun w => (mem_rm.1 w).2 rfl) hkg rfl
    have eu1 : 0 ≤ srlUp most t ms key ∧ srlUp most t ms key ≤ most := by unfold srlUp; split <;> (try split) <;> omega
    have hk : key ∈ cs ++ ns := List.mem_append_right _ hn
    have hlen := len_rm_lt hnd hk
    subst hx
    refine ⟨⟨a1, g0, eu1.1, eu1.2, ?_, g5⟩, fun _ => ⟨fun k => ?_, ?_, ?_, ?_, fun q => (by cases q), fun _ => rfl⟩, fun q => absurd q hm⟩
    · rw [a2, List.length_cons, e0]; omega
    · dsimp only
      rw [cn_rev, cn_rev, a2, cn_cons, e0, cn_rm]; simp only [Bool.false_eq_true, false_and, if_false, Nat.sub_zero]
      split <;> simp
    · dsimp only
      rw [List.length_reverse, a2, List.length_cons, e0]
      simp only [List.length_reverse, if_true, Bool.false_eq_true, if_false]; omega
    · simp [hn]
    · simp [hn]
  · have hcn2 : key ∉ cs ++ ns := fun q => (List.mem_append.1 q).elim hc hn
    generalize hxm : srlMiss most (srlDown t ms key) ns cs (rm gs key) ms = xm at *
    rw [srlReq_miss hm hcn2 hxm] at hx
    obtain ⟨m1, m2, m3, m4, m5, m6, m7⟩ := h.i.miss hm hcn2 (srlDown t ms key) hxm
    have ed1 : 0 ≤ srlDown t ms key ∧ srlDown t ms key ≤ most := by unfold srlDown; split <;> omega
    have k1 : key ∉ xm.2.1 := fun q => m5 (List.mem_append_left _ q)
    have k2 : key ∉ xm.1 := fun q => m5 (List.mem_append_right _ q)
    have hz := cn_zero hcn2
    -- what the residents are, but for the key
    have hR : (∀ k, cn (xm.2.1 ++ xm.1) k = cn (cs ++ ns) k - if xm.2.2.2.2.2 = true ∧ k = xm.2.2.2.2.1 then 1 else 0) ∧ ((xm.2.1 ++ xm.1).length : Int) = (cs ++ ns).length - (if xm.2.2.2.2.2 = true then 1 else 0) ∧
        xm.2.2.2.2.2 = decide (((cs ++ ns).length : Int) = most) ∧ (xm.2.2.2.2.2 = true → xm.2.2.2.2.1 ∈ cs ++ ns) ∧ (xm.2.2.2.2.2 = false → xm.2.2.2.2.1 = ⟨#[]⟩) := by
      by_cases hf : ((cs ++ ns).length : Int) < most
      · rw [if_pos hf] at m7
        subst m7
        refine ⟨fun k => by simp, by simp, (decide_eq_false (by omega)).symm, fun q => (by cases q), fun _ => rfl⟩
      · rw [if_neg hf] at m7
        obtain ⟨n1, n2, n3, n4, n5⟩ := m7
        have hpos : 0 < (cs ++ ns).length := by omega
        rw [n1, n4, n5]
        refine ⟨fun k => ?_, by rw [List.length_dropLast]; simp only [if_true]; omega, (decide_eq_true (by omega)).symm, fun _ => lastMem hpos, fun q => by cases q⟩
        have := cn_dl hpos k
        by_cases q : k = lastOf (cs ++ ns)
        · rw [if_pos q] at this; rw [if_pos ⟨rfl, q⟩]; omega
        · rw [if_neg q] at this; rw [if_neg (fun w => q w.2)]; omega
    obtain ⟨r1, r2, r3, r4, r5⟩ := hR
    have fin : ∀ {A : LB}, (∀ k, cn A k = cn (key :: (xm.2.1 ++ xm.1)) k) → A.length = (xm.2.1 ++ xm.1).length + 1 → ReqP most (cs ++ ns).reverse key A.reverse false xm.2.2.2.2.1 xm.2.2.2.2.2 := fun {A} hA hl => by
      refine ⟨fun k => ?_, ?_, ?_, ?_, fun q => List.mem_reverse.2 (r4 q), r5⟩
      · rw [cn_rev, cn_rev, hA, cn_cons, r1]
        by_cases q : k = key
        · subst q; rw [if_pos rfl, if_pos rfl, hz]; simp
        · rw [if_neg q, if_neg q]; simp
      · rw [List.length_reverse, List.length_reverse, hl]; simp only [Bool.false_eq_true, if_false]; omega
      · exact (decide_eq_false (fun q => hcn2 (List.mem_reverse.1 q))).symm
      · rw [r3, List.length_reverse, decide_eq_decide]
        exact ⟨fun q => ⟨fun w => hcn2 (List.mem_reverse.1 w), q⟩, fun q => q.2⟩
    by_cases q : (lk ms key).isSome = true
    · rw [if_pos q] at hx
      subst hx
      obtain ⟨a1, a2, a3⟩ := m1.again (most := most) (target := srlDown t ms key) m5 m6 rfl
      refine ⟨⟨a1, g0, ed1.1, ed1.2, by rw [a2, List.length_cons]; omega, m3⟩, fun _ => ?_, fun q => absurd q hm⟩
      exact fin (fun k => by dsimp only; rw [a2]) (by dsimp only; rw [a2, List.length_cons])
    · rw [if_neg q] at hx
      subst hx
      have ef : fr xm.1 key = key :: xm.1 := fr_not k2
      have hB2 : SrlB (fun _ => False) (xm.2.1 ++ fr xm.1 key) xm.2.2.1 (put xm.2.2.2.1 key (false, false)) := by
        refine m1.enter _ (fun k => ?_) ?_ m6
        · rw [ef]; simp only [List.mem_append, List.mem_cons]; constructor
          · rintro (w | w | w)
            · exact .inr (.inl w)
            · exact .inl w
            · exact .inr (.inr w)
          · rintro (w | w | w)
            · exact .inr (.inl w)
            · exact .inl w
            · exact .inr (.inr w)
        · rw [ef]
          exact (List.perm_middle.nodup_iff).2 (nodup_cons' m1.nl m5)
      refine ⟨⟨hB2, g0, ed1.1, ed1.2, ?_, m3⟩, fun _ => ?_, fun q => absurd q hm⟩
      · show ((xm.2.1 ++ fr xm.1 key).length : Int) ≤ most
        rw [ef, List.length_append, List.length_cons]; rw [List.length_append] at m2; omega
      · exact fin (fun k => by dsimp only; rw [ef, cn_app, cn_cons, cn_cons, cn_app]; omega) (by dsimp only; rw [ef, List.length_append, List.length_append, List.length_cons]; omega)
theorem SrlJ.remP (h : SrlJ most t ns cs gs ms) (key : ByteArray) {x} (hx : srlRemove most t ns cs gs ms key = x) :
    SrlJ most t x.1 x.2.1 x.2.2.1 x.2.2.2.1 ∧ RemP (cs ++ ns).reverse key (x.2.1 ++ x.1).reverse x.2.2.1 x.2.2.2.2 := by
  have hI := (h.i.remove key (show srlRemove most most ns cs gs ms key = x from hx)).1.j h.t0 h.tm
  have hnd := List.nodup_append.1 h.b.nl
  have e : x = (rm ns key, rm cs key, rm gs key, del ms key, decide (key ∈ cs ++ ns)) := by
    rw [← hx]
    unfold srlRemove
    by_cases q : key ∈ ns
    · have q2 : key ∉ cs := fun w => hnd.2.2 _ w _ q rfl
      rw [if_pos q, rm_not q2, decide_eq_true (List.mem_append_right _ q)]
    · rw [if_neg q]
      have : decide (key ∈ cs) = decide (key ∈ cs ++ ns) := by rw [decide_eq_decide]; simp [q]
      rw [this]
  rw [e] at hI ⊢
  have e2 : rm cs key ++ rm ns key = rm (cs ++ ns) key := (rm_append ..).symm
  refine ⟨hI, ?_, fun k => ?_, ?_, fun q => (mem_rm.1 q).2 rfl⟩
  · dsimp only; rw [decide_eq_decide, List.mem_reverse]
  · dsimp only; rw [cn_rev, cn_rev, e2, cn_rm]
  · dsimp only; rw [cn_rev, List.length_reverse, List.length_reverse, e2]; exact len_rm _ _
theorem SrlJ.adoP (h : SrlJ most t ns cs gs ms) (key : ByteArray) {x} (hx : srlAdopt most t ns cs gs ms key = x) :
    SrlJ most t x.1 cs x.2.1 x.2.2.1 ∧ AdoP most (cs ++ ns).reverse key (cs ++ x.1).reverse x.2.1 x.2.2.2 := by
  have hI := (h.i.adopt key (show srlAdopt most most ns cs gs ms key = x from hx)).1.j h.t0 h.tm
  unfold srlAdopt at hx
  rw [srlHas_eq, srlLen_sum] at hx
  by_cases q : key ∈ cs ++ ns
  · rw [if_pos (decide_eq_true q)] at hx
    subst hx
    exact ⟨hI, (decide_eq_false (fun w => w.1 (List.mem_reverse.2 q))).symm, fun q => (by cases q), fun q => (by cases q), fun q => (by cases q), fun _ => rfl⟩
  · rw [if_neg (by rw [decide_eq_true_iff]; exact q)] at hx
    by_cases q2 : (cs.length : Int) + ns.length ≥ most
    · rw [if_pos q2] at hx
      subst hx
      exact ⟨hI, (decide_eq_false (fun w => by have := w.2; simp only [List.length_reverse, List.length_append] at this; omega)).symm, fun q => (by cases q), fun q => (by cases q), fun q => (by cases q), fun _ => rfl⟩
    · rw [if_neg q2] at hx
      subst hx
      have kn : key ∉ ns := fun w => q (List.mem_append_right _ w)
      have ef : fr ns key = key :: ns := fr_not kn
      have hz := cn_zero q
      refine ⟨hI, (decide_eq_true ⟨fun w => q (List.mem_reverse.1 w), by simp only [List.length_reverse, List.length_append]; omega⟩).symm, fun _ k => ?_, fun _ => ?_, fun _ w => (mem_rm.1 w).2 rfl, fun q => by cases q⟩
      · dsimp only
        rw [cn_rev, cn_rev, ef, cn_app, cn_cons]
        rw [cn_app] at hz ⊢
        by_cases e : k = key
        · subst e; rw [if_pos rfl, if_pos rfl]; omega
        · rw [if_neg e, if_neg e]; omega
      · dsimp only; rw [ef]; simp only [List.length_reverse, List.length_append, List.length_cons]; omega
theorem SrlJ.droP (h : SrlJ most t ns cs gs ms) {x} (hx : srlDrop most t ns cs gs ms = x) :
    SrlJ most t x.1 x.2.1 gs x.2.2.1 ∧ DroP (cs ++ ns).reverse gs (x.2.1 ++ x.1).reverse gs x.2.2.2.1 x.2.2.2.2 ∧ srlVictim most t ns cs gs ms = x.2.2.2 := by
  have hI := (h.i.drop (show srlDrop most most ns cs gs ms = x from hx)).1.j h.t0 h.tm
  by_cases q : 0 < (cs ++ ns).length
  · have hv : srlVictim most t ns cs gs ms = (lastOf (cs ++ ns), true) := by
      rw [← srlWho q]
      unfold srlVictim
      rw [List.length_append] at q
      by_cases h1 : 0 < ns.length
      · rw [if_pos (by omega), if_pos h1, decide_eq_true h1]
      · rw [if_neg (by omega), if_neg h1, decide_eq_true (by omega)]
    rw [srlDrop_eq q] at hx
    subst hx
    refine ⟨hI, ⟨?_, fun _ => List.mem_reverse.2 (lastMem q), fun _ k => ?_, fun _ => ?_, fun q => (by cases q), rfl⟩, hv⟩
    · rw [List.length_reverse]; exact (decide_eq_true q).symm
    · dsimp only; rw [cn_rev, cn_rev, srlCN]
      have := cn_dl q k
      split at this <;> rename_i e
      · rw [if_pos e]; omega
      · rw [if_neg e]; omega
    · dsimp only; rw [List.length_reverse, List.length_reverse, srlCN, List.length_dropLast]; omega
  · have q2 := q
    rw [List.length_append] at q2
    have e1 : ns = [] := List.eq_nil_of_length_eq_zero (by omega)
    have e2 : cs = [] := List.eq_nil_of_length_eq_zero (by omega)
    subst e1 e2
    rw [srlDrop_nil] at hx
    subst hx
    exact ⟨hI, ⟨rfl, fun q => (by cases q), fun q => (by cases q), fun q => (by cases q), fun _ => rfl, rfl⟩, rfl⟩
theorem SrlB.popJ {z : ByteArray → Prop} {L : LB} (hB : SrlB z L gs ms) (hpos : 0 < gs.length) : SrlB z L gs.dropLast (del ms (lastOf gs)) := by
  refine ⟨hB.nl, nodup_dl hB.ng, fun k a b => hB.apart k a (mem_dl b), fun k => ?_, fun k q => ⟨(hB.out k q).1, fun b => (hB.out k q).2 (mem_dl b)⟩, nodup_del hB.mn _⟩
  rw [isSome_del hB.mn, hB.mks, mem_dl_iff hpos hB.ng]
  have hl := lastMem hpos
  constructor
  · rintro ⟨a, b | b | b⟩
    · exact .inl b
    · exact .inr (.inl ⟨b, a⟩)
    · exact .inr (.inr b)
  · rintro (b | b | b)
    · exact ⟨fun e => hB.apart k b (e ▸ hl), .inl b⟩
    · exact ⟨b.2, .inr (.inl b.1)⟩
    · exact ⟨fun e => (hB.out k b).2 (e ▸ hl), .inr (.inr b)⟩
theorem SrlB.trimL {z : ByteArray → Prop} {L : LB} {M : Int} (hM : 0 ≤ M) : ∀ (k : Nat) {gs : LB} {ms : Mks}, gs.length ≤ k → SrlB z L gs ms → ∀ {x}, srlTrimL M k gs ms = x → SrlB z L x.1 x.2 ∧ (x.1.length : Int) ≤ M
  | 0, gs, ms, hk, hB, x, hx => by
    have e : gs = [] := List.eq_nil_of_length_eq_zero (by omega)
    subst hx e
    exact ⟨hB, by simpa [srlTrimL] using hM⟩
  | k + 1, gs, ms, hk, hB, x, hx => by
    by_cases hc : (gs.length : Int) > M
    · rw [srlTrimL, if_pos hc] at hx
      exact SrlB.trimL hM k (by rw [List.length_dropLast]; omega) (hB.popJ (by omega)) hx
    · rw [srlTrimL_stop hc] at hx
      subst hx
      exact ⟨hB, by show (gs.length : Int) ≤ M; omega⟩
theorem SrlB.rszL {M T : Int} (hM : 0 ≤ M) : ∀ (k : Nat) {ns cs gs : LB} {ms : Mks}, SrlB (fun _ => False) (cs ++ ns) gs ms → ns.length + cs.length ≤ k →
    ∀ {x}, srlRszL M T k ns cs gs ms = x → SrlB (fun _ => False) (x.2.1 ++ x.1) x.2.2.1 x.2.2.2.1 ∧ ((x.2.1 ++ x.1).length : Int) ≤ M ∧ (∀ q, cn (x.2.1 ++ x.1) q + cn x.2.2.2.2 q = cn (cs ++ ns) q) ∧ (x.2.1 ++ x.1).length + x.2.2.2.2.length = (cs ++ ns).length ∧
      (x.2.2.2.2.length : Int) = if ((cs ++ ns).length : Int) - M > 0 then ((cs ++ ns).length : Int) - M else 0
  | 0, ns, cs, gs, ms, hB, hk, x, hx => by
    subst hx
    have e1 : ns = [] := List.eq_nil_of_length_eq_zero (by omega)
    have e2 : cs = [] := List.eq_nil_of_length_eq_zero (by omega)
    subst e1 e2
    exact ⟨hB, by simpa [srlRszL] using hM, fun q => rfl, rfl, by simp only [srlRszL, List.length_nil, List.append_nil]; split <;> omega⟩
  | k + 1, ns, cs, gs, ms, hB, hk, x, hx => by
    have hl := srlLen_i M T ns cs gs ms
    by_cases hc : srlLen M T ns cs gs ms > M
    · rw [srlRszL, if_pos hc] at hx
      have hp : 0 < (cs ++ ns).length := by rw [List.length_append]; omega
      have hp2 := hp
      rw [List.length_append] at hp2
      obtain ⟨b1, b2⟩ := hB.gone hp
      have he := srlEvict_eq (most := M) (target := T) (gs := gs) (ms := ms) hp
      have b3 : SrlB (fun _ => False) (srlC ns cs ++ srlN ns) (fr gs (lastOf (cs ++ ns))) ms := by rw [srlCN]; exact b1
      obtain ⟨t1, t2⟩ := SrlB.trimL hM _ (Nat.le_refl _) b3 (x := srlTrim M T (srlN ns) (srlC ns cs) (fr gs (lastOf (cs ++ ns))) ms) rfl
      have hlen := srlEvict_len M T gs ms (show 0 < ns.length + cs.length by omega)
      rw [he] at hx hlen
      dsimp only at hx hlen
      obtain ⟨r1, r2, r3, r4, r5⟩ := SrlB.rszL (T := T) hM k t1 (by omega) rfl
      subst hx
      have hd := fun q => cn_dl hp q
      have dl : (srlC ns cs ++ srlN ns).length + 1 = (cs ++ ns).length := by rw [srlCN, List.length_dropLast]; omega
      refine ⟨r1, r2, fun q => ?_, ?_, ?_⟩
      · have := r3 q; have := hd q
        rw [srlCN] at *
        show _ + cn (lastOf (cs ++ ns) :: _) q = _
        rw [cn_cons]; dsimp only; omega
      · show _ + (_ + 1) = _; dsimp only; omega
      · show ((_ + 1 : Nat) : Int) = _
        have hL2 : (cs ++ ns).length = cs.length + ns.length := List.length_append
        rw [if_pos (by omega)]
        split at r5 <;> omega
    · rw [srlRszL_stop hc] at hx
      subst hx
      have hL2 : (cs ++ ns).length = cs.length + ns.length := List.length_append
      exact ⟨hB, by dsimp only; omega, fun q => rfl, rfl, by dsimp only; rw [if_neg (by omega)]; rfl⟩
theorem SrlJ.rszP (h : SrlJ most t ns cs gs ms) {mo : Int} (h0 : 0 ≤ mo) {x} (hx : srlResize most t ns cs gs ms mo = x) :
    x.1 = mo ∧ SrlJ mo x.2.1 x.2.2.1 x.2.2.2.1 x.2.2.2.2.1 x.2.2.2.2.2.1 ∧ RszP mo (cs ++ ns).reverse (x.2.2.2.1 ++ x.2.2.1).reverse x.2.2.2.2.2.2 := by
  unfold srlResize at hx
  dsimp only at hx
  rw [if_neg (show ¬ (0 : Int) > mo by omega)] at hx
  have hT : 0 ≤ (if mo < t then mo else t) ∧ (if mo < t then mo else t) ≤ mo := by have := h.t0; split <;> omega
  generalize (if mo < t then mo else t) = T at *
  obtain ⟨r1, r2, r3, r4, r5⟩ := SrlB.rszL (T := T) h0 _ h.b (Nat.le_refl _) rfl
  obtain ⟨q1, q2⟩ := SrlB.trimL h0 _ (Nat.le_refl _) r1 (x := srlTrim mo T (srlRszL mo T (ns.length + cs.length) ns cs gs ms).1 (srlRszL mo T (ns.length + cs.length) ns cs gs ms).2.1 (srlRszL mo T (ns.length + cs.length) ns cs gs ms).2.2.1 (srlRszL mo T (ns.length + cs.length) ns cs gs ms).2.2.2.1) rfl
  subst hx
  exact ⟨rfl, ⟨q1, h0, hT.1, hT.2, r2, q2⟩, fun k => by dsimp only; rw [cn_rev, cn_rev]; exact r3 k, by dsimp only; rw [List.length_reverse, List.length_reverse]; exact r4, by dsimp only; rw [List.length_reverse]; exact r5⟩
end Go.Proofs.YtholinnmjoelkaaGreatDoor
