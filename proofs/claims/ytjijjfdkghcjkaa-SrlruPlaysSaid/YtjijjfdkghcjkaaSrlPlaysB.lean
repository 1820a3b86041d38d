/- Package srlru beside the document's: each call. -/
import Derived.Test.YtjijjfdkghcjkaaSrlPlays
import Derived.Test.YtjijjfdkghcjkaaSrlRsz
set_option linter.unusedVariables false
namespace Go.Proofs.Ytjijjfdkghcjkaa
variable {most t : Int} {ns cs gs : LB} {ms : Mks} {N A G : List K7} {key : ByteArray} {z : ByteArray → Prop}
/-- What holds whatever is asked, and whatever the size becomes. -/
structure SrlJ (most target : Int) (ns cs gs : LB) (ms : Mks) : Prop where
  b : SrlB (fun _ => False) (cs ++ ns) gs ms
  h0 : 0 ≤ most
  t0 : 0 ≤ target
  tm : target ≤ most
  len : ((cs ++ ns).length : Int) ≤ most
  glen : (gs.length : Int) ≤ most
theorem SrlJ.i (h : SrlJ most t ns cs gs ms) : SrlI most most ns cs gs ms := by
  have h1 := h.h0; have h2 := h.len
  rw [List.length_append] at h2
  exact ⟨h.b, h1, h1, Int.le_refl _, fun q => by omega, h.len, h.glen, by omega⟩
theorem SrlI.j {t' : Int} (h : SrlI most t' ns cs gs ms) (h1 : 0 ≤ t) (h2 : t ≤ most) : SrlJ most t ns cs gs ms := ⟨h.b, h.h0, h1, h2, h.len, h.glen⟩
structure SP (most t : Int) (ns cs gs : LB) (ms : Mks) (N A G : List K7) : Prop where
  i : SrlJ most t ns cs gs ms
  r : SR ns cs gs ms N A G
theorem SP.new (h : 0 ≤ most) : SP most (most / 2) [] [] [] [] [] [] [] := ⟨(SrlI.new h).j (by omega) (by omega), SR.new⟩
theorem r7Request_zero (h : most = 0) : r7Request most t N A G key = (t, N, A, G, r7Has most t N A G key, ⟨#[]⟩, false) := by
  unfold r7Request; rw [if_pos h]
theorem r7Request_a (h : ¬ most = 0) (ha : (lk A key).isSome = true) : r7Request most t N A G key = (t, N, front7 (rem7 A key) key ((lk A key).getD (false, false)).1 ((lk A key).getD (false, false)).2, G, r7Has most t N A G key, ⟨#[]⟩, false) := by
  unfold r7Request; rw [if_neg h, if_pos ha]
def r7Up (most t : Int) (N : List K7) (key : ByteArray) : Int := if ((lk N key).getD (false, false)).2 = true ∧ t < most then t + 1 else t
theorem r7Request_n (h : ¬ most = 0) (ha : ¬ (lk A key).isSome = true) (hn : (lk N key).isSome = true) : r7Request most t N A G key =
    (r7Up most t N key, (r7Again most (r7Up most t N key) (rem7 N key) A G key).1, (r7Again most (r7Up most t N key) (rem7 N key) A G key).2.1, (r7Again most (r7Up most t N key) (rem7 N key) A G key).2.2, r7Has most t N A G key, ⟨#[]⟩, false) := by
  unfold r7Request r7Up
  rw [if_neg h, if_neg ha, if_pos hn]
  by_cases h1 : ((lk N key).getD (false, false)).2 = true
  · by_cases h2 : t < most
    · rw [if_pos h1, if_pos h2, if_pos ⟨h1, h2⟩]
    · rw [if_pos h1, if_neg h2, if_neg fun q => h2 q.2]
  · rw [if_neg h1, if_neg fun q => h1 q.1]
def r7Miss (most t : Int) (N A G : List K7) : List K7 × List K7 × List K7 × ByteArray × Bool :=
  if ((N.length + A.length : Nat) : Int) ≥ most then ((r7Evict most t N A G).1, (r7Evict most t N A G).2.1, (r7Evict most t N A G).2.2.1, (r7Evict most t N A G).2.2.2, true) else (N, A, G, ⟨#[]⟩, false)
def r7Down (t : Int) (G : List K7) (key : ByteArray) : Int := if ((lk G key).isSome = true ∧ ((lk G key).getD (false, false)).1 = false) ∧ t > 1 then t - 1 else t
theorem r7Request_m (h : ¬ most = 0) (ha : ¬ (lk A key).isSome = true) (hn : ¬ (lk N key).isSome = true) {y} (hy : r7Miss most (r7Down t G key) N A (rem7 G key) = y) : r7Request most t N A G key =
    if (lk G key).isSome = true then (r7Down t G key, (r7Again most (r7Down t G key) y.1 y.2.1 y.2.2.1 key).1, (r7Again most (r7Down t G key) y.1 y.2.1 y.2.2.1 key).2.1, (r7Again most (r7Down t G key) y.1 y.2.1 y.2.2.1 key).2.2, r7Has most t N A G key, y.2.2.2.1, y.2.2.2.2)
    else (r7Down t G key, front7 y.1 key false false, y.2.1, y.2.2.1, r7Has most t N A G key, y.2.2.2.1, y.2.2.2.2) := by
  subst hy
  unfold r7Request r7Down r7Miss
  rw [if_neg h, if_neg ha, if_neg hn]
  by_cases h1 : (lk G key).isSome = true
  · by_cases h2 : ((lk G key).getD (false, false)).1 = true
    · by_cases h4 : ((N.length + A.length : Nat) : Int) ≥ most
      · simp only [h1, h2, h4, if_true, if_false, Bool.not_true, Bool.false_eq_true, reduceCtorEq, and_false, false_and]
      · simp only [h1, h2, h4, if_true, if_false, Bool.not_true, Bool.false_eq_true, reduceCtorEq, and_false, false_and]
    · have h2' : ((lk G key).getD (false, false)).1 = false := by simpa using h2
      by_cases h3 : t > 1 <;> by_cases h4 : ((N.length + A.length : Nat) : Int) ≥ most
      all_goals simp only [h1, h2', h3, h4, if_true, if_false, Bool.not_false, true_and, and_true, and_false]
  · by_cases h4 : ((N.length + A.length : Nat) : Int) ≥ most
    · simp only [h1, h4, if_true, if_false, Bool.false_eq_true, false_and]
    · simp only [h1, h4, if_true, if_false, Bool.false_eq_true, false_and]
theorem lk_some_of {l : List K7} (h : (lk l key).isSome = true) : ∃ v, lk l key = some v ∧ (key, v) ∈ l := by
  cases e : lk l key with
  | none => rw [e] at h; cases h
  | some v => exact ⟨v, rfl, lk_mem e⟩
theorem SP.req (h : SP most t ns cs gs ms N A G) (key : ByteArray) {x y} (hx : srlReq most t ns cs gs ms key = x) (hy : r7Request most t N A G key = y) :
    SP most x.1 x.2.1 x.2.2.1 x.2.2.2.1 x.2.2.2.2.1 y.2.1 y.2.2.1 y.2.2.2.1 ∧ y.1 = x.1 ∧ x.2.2.2.2.2.1 = y.2.2.2.2.1 ∧ x.2.2.2.2.2.2.1 = y.2.2.2.2.2.1 ∧ x.2.2.2.2.2.2.2 = y.2.2.2.2.2.2 := by
  obtain ⟨hi, hr⟩ := h
  have hh : r7Has most t N A G key = decide (key ∈ cs ++ ns) := hr.has key
  obtain ⟨l1, l2, l3⟩ := hr.len
  have iA : (lk A key).isSome = true ↔ key ∈ cs := by rw [lk_nms, hr.a]
  have iN : (lk N key).isSome = true ↔ key ∈ ns := by rw [lk_nms, hr.n]
  have iG : (lk G key).isSome = true ↔ key ∈ gs := by rw [lk_nms, hr.g]
  have hnd := hi.b.nl
  suffices hs : SrlJ most x.1 x.2.1 x.2.2.1 x.2.2.2.1 x.2.2.2.2.1 ∧ SR x.2.1 x.2.2.1 x.2.2.2.1 x.2.2.2.2.1 y.2.1 y.2.2.1 y.2.2.2.1 ∧ y.1 = x.1 ∧ x.2.2.2.2.2.1 = y.2.2.2.2.1 ∧ x.2.2.2.2.2.2.1 = y.2.2.2.2.2.1 ∧ x.2.2.2.2.2.2.2 = y.2.2.2.2.2.2 from ⟨⟨hs.1, hs.2.1⟩, hs.2.2⟩
  have g0 := hi.h0; have g1 := hi.t0; have g2 := hi.tm; have g4 := hi.len; have g5 := hi.glen
  by_cases hm : most = 0
  · rw [srlReq_zero hm] at hx
    rw [r7Request_zero hm, hh] at hy
    subst hx hy
    exact ⟨hi, hr, rfl, rfl, rfl, rfl⟩
  by_cases hc : key ∈ cs
  · rw [srlReq_a hm hc] at hx
    obtain ⟨v, ev, hv⟩ := lk_some_of (iA.2 hc)
    rw [r7Request_a hm (iA.2 hc), hh, decide_eq_true (List.mem_append_left _ hc), ev] at hy
    subst hx hy
    have hkn : key ∉ ns := fun q => (List.nodup_append.1 hnd).2.2 _ hc _ q rfl
    have e0 : fr cs key ++ ns = fr (cs ++ ns) key := by rw [fr_app, rm_not hkn]
    have hmem : ∀ k, k ∈ fr cs key ++ ns ↔ k ∈ cs ++ ns := fun k => by
      rw [e0, mem_fr]; exact ⟨fun q => q.elim (fun e => e ▸ List.mem_append_left _ hc) id, .inr⟩
    have e1 : (fr cs key).length = cs.length := by rw [length_fr (List.nodup_append.1 hnd).1, if_pos hc]
    refine ⟨⟨⟨by rw [e0]; exact nodup_fr hnd _, hi.b.ng, fun k a => hi.b.apart k ((hmem k).1 a), fun k => by rw [hmem]; exact hi.b.mks k, fun k q => q.elim, hi.b.mn⟩, g0, g1, g2, by rw [List.length_append, e1, ← List.length_append]; exact g4, g5⟩, ⟨hr.n, ?_, hr.g, hr.mn, fun x hx => ?_, hr.mg⟩, rfl, rfl, rfl, rfl⟩
    · show key :: nms (rem7 A key) = _; rw [nms_rem, hr.a]; rfl
    · rcases List.mem_cons.1 hx with q | q
      · subst q; exact hr.ma _ hv
      · exact hr.ma x (List.mem_filter.1 q).1
  by_cases hn : key ∈ ns
  · rw [srlReq_n hm hc hn] at hx
    obtain ⟨v, ev, hv⟩ := lk_some_of (iN.2 hn)
    rw [r7Request_n hm (fun q => hc (iA.1 q)) (iN.2 hn), hh, decide_eq_true (List.mem_append_right _ hn)] at hy
    have eu : r7Up most t N key = srlUp most t ms key := by
      have := hi.tm
      unfold r7Up srlUp
      rw [ev, hr.mn _ hv]
      by_cases q : v.2 = true
      · simp only [Option.getD_some, q, true_and, if_true]
        by_cases q2 : t < most
        · rw [if_pos q2, if_neg (by omega)]
        · rw [if_neg q2, if_pos (by omega)]; omega
      · simp only [Option.getD_some, q, false_and, if_false, Bool.false_eq_true]
    rw [eu] at hy
    subst hx hy
    have hr2 : SR (rm ns key) cs gs ms (rem7 N key) A G := ⟨by rw [nms_rem, hr.n], hr.a, hr.g, fun x hx => hr.mn x (List.mem_filter.1 hx).1, hr.ma, hr.mg⟩
    have e0 : cs ++ rm ns key = rm (cs ++ ns) key := by rw [rm_append, rm_not hc]
    have ha := hr2.again (most := most) (t := srlUp most t ms key) (key := key) (by rw [e0]; exact nodup_rm hnd _) (fun q hq => hi.b.apart q (by rw [e0] at hq; exact (mem_rm.1 hq).1)) (by rw [e0]; exact fun q => (mem_rm.1 q).2 rfl) (hi.b.apart _ (List.mem_append_right _ hn)) rfl
    have hkg := hi.b.apart _ (List.mem_append_right _ hn)
    have hB : SrlB (fun k => k = key ∧ True) (cs ++ rm ns key) gs ms := by
      refine ⟨by rw [e0]; exact nodup_rm hnd _, hi.b.ng, fun k a => hi.b.apart k (by rw [e0] at a; exact (mem_rm.1 a).1), fun k => ?_, fun k q => ⟨by rw [e0, q.1]; exact fun w => (mem_rm.1 w).2 rfl, q.1 ▸ hkg⟩, hi.b.mn⟩
      rw [hi.b.mks, e0, mem_rm]
      by_cases e : k = key
      · subst e; simp [hn]
      · simp [e]
    obtain ⟨a1, a2, a3⟩ := hB.again (most := most) (target := srlUp most t ms key) (by rw [e0]; exact fun w => (mem_rm.1 w).2 rfl) hkg rfl
    have eu1 : 0 ≤ srlUp most t ms key ∧ srlUp most t ms key ≤ most := by unfold srlUp; split <;> (try split) <;> omega
    refine ⟨⟨a1, g0, eu1.1, eu1.2, ?_, g5⟩, ha, rfl, rfl, rfl, rfl⟩
    have := len_rm_lt hnd (List.mem_append_right _ hn : key ∈ cs ++ ns)
    rw [a2, List.length_cons, e0]; omega
  · have hcn : key ∉ cs ++ ns := fun q => (List.mem_append.1 q).elim hc hn
    generalize hxm : srlMiss most (srlDown t ms key) ns cs (rm gs key) ms = xm at *
    generalize hym : r7Miss most (r7Down t G key) N A (rem7 G key) = ym at *
    rw [srlReq_miss hm hcn hxm] at hx
    rw [r7Request_m hm (fun q => hc (iA.1 q)) (fun q => hn (iN.1 q)) hym, hh, decide_eq_false hcn] at hy
    have kg : (lk ms key).isSome = true ↔ key ∈ gs := by
      rw [hi.b.mks]; exact ⟨fun q => q.elim (fun q => absurd q hcn) (fun q => q.elim id False.elim), fun q => .inr (.inl q)⟩
    have ed : r7Down t G key = srlDown t ms key := by
      unfold r7Down srlDown
      by_cases q : key ∈ gs
      · obtain ⟨v, ev, hv⟩ := lk_some_of (iG.2 q)
        have h3 := hr.mg _ hv
        cases em : lk ms key with
        | none => have := kg.2 q; rw [em] at this; cases this
        | some u =>
          rw [show lk ms (key, v).1 = some u from em] at h3
          have h4 : u.1 = v.1 := by simpa using h3
          rw [ev]; simp only [Option.isSome_some, Option.getD_some, h4]
      · have n1 : ¬ (lk G key).isSome = true := fun w => q (iG.1 w)
        have n2 : ¬ (lk ms key).isSome = true := fun w => q (kg.1 w)
        rw [if_neg (fun w => n1 w.1.1), if_neg (fun w => n2 w.1.1)]
    rw [ed] at hym hy
    obtain ⟨m1, m2, m3, m4, m5, m6, m7⟩ := hi.i.miss hm hcn (srlDown t ms key) hxm
    have hu := hr.unghost key
    have hB := hi.b.unghost hcn
    have hS : SR xm.1 xm.2.1 xm.2.2.1 xm.2.2.2.1 ym.1 ym.2.1 ym.2.2.1 ∧ xm.2.2.2.2.1 = ym.2.2.2.1 ∧ xm.2.2.2.2.2 = ym.2.2.2.2 := by
      unfold srlMiss at hxm
      unfold r7Miss at hym
      by_cases hf : ((cs ++ ns).length : Int) ≥ most
      · rw [if_pos hf] at hxm
        rw [if_pos (by rw [List.length_append] at hf; omega)] at hym
        have h0 := hi.h0
        have hg := hi.glen
        have h5 := rm_le gs key
        obtain ⟨e1, e2, e3⟩ := hu.evict (t' := srlDown t ms key) hB (by omega) h0 (by omega) hxm
        subst hym
        exact ⟨e1, e2.symm, e3⟩
      · rw [if_neg hf] at hxm
        rw [if_neg (by rw [List.length_append] at hf; omega)] at hym
        subst hxm hym
        exact ⟨hu, rfl, rfl⟩
    obtain ⟨hS, hv, ho⟩ := hS
    have ed1 : 0 ≤ srlDown t ms key ∧ srlDown t ms key ≤ most := by unfold srlDown; split <;> omega
    have k1 : key ∉ xm.2.1 := fun q => m5 (List.mem_append_left _ q)
    have k2 : key ∉ xm.1 := fun q => m5 (List.mem_append_right _ q)
    by_cases q : key ∈ gs
    · rw [if_pos (kg.2 q)] at hx
      rw [if_pos (iG.2 q)] at hy
      subst hx hy
      have ha := hS.again (most := most) (t := srlDown t ms key) (key := key) m1.nl m1.apart m5 m6 rfl
      obtain ⟨a1, a2, a3⟩ := m1.again (most := most) (target := srlDown t ms key) m5 m6 rfl
      exact ⟨⟨a1, g0, ed1.1, ed1.2, by rw [a2, List.length_cons]; omega, m3⟩, ha, rfl, rfl, hv, ho⟩
    · rw [if_neg (fun w => q (kg.1 w))] at hx
      rw [if_neg (fun w => q (iG.1 w))] at hy
      subst hx hy
      have hp := hS.put_ (k := key) (v := (false, false)) ⟨k2, k1, m6⟩
      have ef : fr xm.1 key = key :: xm.1 := fr_not k2
      have hB2 : SrlB (fun _ => False) (xm.2.1 ++ fr xm.1 key) xm.2.2.1 (put xm.2.2.2.1 key (false, false)) := by
        refine m1.enter _ (fun k => ?_) ?_ m6
        · rw [ef]; simp only [List.mem_append, List.mem_cons]; constructor
          · rintro (w | w | w)
            · exact .inr (.inl w)
            · exact .inl w
            · exact .inr (.inr w)
          · rintro (w | w | w)
            · exact .inr (.inl w)
            · exact .inl w
            · exact .inr (.inr w)
        · rw [ef]
          exact (List.perm_middle.nodup_iff).2 (nodup_cons' m1.nl m5)
      refine ⟨⟨hB2, g0, ed1.1, ed1.2, ?_, m3⟩, ⟨?_, hp.a, hp.g, fun x hx => ?_, hp.ma, hp.mg⟩, rfl, rfl, hv, ho⟩
      · show ((xm.2.1 ++ fr xm.1 key).length : Int) ≤ most
        rw [ef, List.length_append, List.length_cons]; rw [List.length_append] at m2; omega
      · show key :: nms ym.1 = _; rw [hS.n]; exact (fr_not k2).symm
      · rcases List.mem_cons.1 hx with w | w
        · subst w; exact lk_put_same _ _ _
        · exact hp.mn x w
theorem rem7_not {l : List K7} {k : ByteArray} (h : k ∉ nms l) : rem7 l k = l := List.filter_eq_self.2 fun x hx => by
  simp only [decide_eq_true_eq]; exact fun q => h (q ▸ List.mem_map_of_mem hx)
theorem SP.remove (h : SP most t ns cs gs ms N A G) (key : ByteArray) {x} (hx : srlRemove most t ns cs gs ms key = x) :
    SP most t x.1 x.2.1 x.2.2.1 x.2.2.2.1 (r7Remove most t N A G key).1 (r7Remove most t N A G key).2.1 (r7Remove most t N A G key).2.2 ∧ x.2.2.2.2 = r7Has most t N A G key := by
  obtain ⟨hi, hr⟩ := h
  have hI := (hi.i.remove key (show srlRemove most most ns cs gs ms key = x from hx)).1.j hi.t0 hi.tm
  rw [hr.has key]
  have hnd := List.nodup_append.1 hi.b.nl
  have hm := hi.b.mn
  have e : x = (rm ns key, rm cs key, rm gs key, del ms key, decide (key ∈ cs ++ ns)) := by
    rw [← hx]
    unfold srlRemove
    by_cases q : key ∈ ns
    · have q2 : key ∉ cs := fun w => hnd.2.2 _ w _ q rfl
      rw [if_pos q, rm_not q2, decide_eq_true (List.mem_append_right _ q)]
    · rw [if_neg q]
      have : decide (key ∈ cs) = decide (key ∈ cs ++ ns) := by rw [decide_eq_decide]; simp [q]
      rw [this]
  rw [e] at hI ⊢
  refine ⟨⟨hI, ?_⟩, rfl⟩
  have hb : SR (rm ns key) (rm cs key) (rm gs key) ms (rem7 N key) (rem7 A key) (rem7 G key) :=
    ⟨by rw [nms_rem, hr.n], by rw [nms_rem, hr.a], by rw [nms_rem, hr.g], fun x hx => hr.mn x (List.mem_filter.1 hx).1, fun x hx => hr.ma x (List.mem_filter.1 hx).1, fun x hx => hr.mg x (List.mem_filter.1 hx).1⟩
  exact hb.del_ hm ⟨fun q => (mem_rm.1 q).2 rfl, fun q => (mem_rm.1 q).2 rfl, fun q => (mem_rm.1 q).2 rfl⟩
theorem SP.adopt (h : SP most t ns cs gs ms N A G) (key : ByteArray) {x} (hx : srlAdopt most t ns cs gs ms key = x) :
    SP most t x.1 cs x.2.1 x.2.2.1 (r7Adopt most t N A G key).1 (r7Adopt most t N A G key).2.1 (r7Adopt most t N A G key).2.2.1 ∧ x.2.2.2 = (r7Adopt most t N A G key).2.2.2 := by
  obtain ⟨hi, hr⟩ := h
  have hI := (hi.i.adopt key (show srlAdopt most most ns cs gs ms key = x from hx)).1.j hi.t0 hi.tm
  obtain ⟨l1, l2, l3⟩ := hr.len
  unfold srlAdopt at hx
  unfold r7Adopt
  rw [srlHas_eq, srlLen_sum] at hx
  rw [hr.has key]
  by_cases q : key ∈ cs ++ ns
  · rw [if_pos (decide_eq_true q)] at hx ⊢
    subst hx; exact ⟨⟨hI, hr⟩, rfl⟩
  · rw [if_neg (by rw [decide_eq_true_iff]; exact q)] at hx ⊢
    by_cases q2 : (cs.length : Int) + ns.length ≥ most
    · rw [if_pos q2] at hx
      rw [if_pos (by omega)]
      subst hx; exact ⟨⟨hI, hr⟩, rfl⟩
    · rw [if_neg q2] at hx
      rw [if_neg (by omega)]
      subst hx
      have kn : key ∉ ns := fun w => q (List.mem_append_right _ w)
      have kc : key ∉ cs := fun w => q (List.mem_append_left _ w)
      have hp := (hr.unghost key).put_ (k := key) (v := (false, false)) ⟨kn, kc, fun w => (mem_rm.1 w).2 rfl⟩
      refine ⟨⟨hI, ⟨?_, hp.a, hp.g, fun x hx => ?_, hp.ma, hp.mg⟩⟩, rfl⟩
      · show key :: nms N = _; rw [hr.n]; exact (fr_not kn).symm
      · rcases List.mem_cons.1 hx with w | w
        · subst w; exact lk_put_same _ _ _
        · exact hp.mn x w
theorem SP.drop (h : SP most t ns cs gs ms N A G) {x} (hx : srlDrop most t ns cs gs ms = x) :
    SP most t x.1 x.2.1 gs x.2.2.1 (r7Drop most t N A G).1 (r7Drop most t N A G).2.1 (r7Drop most t N A G).2.2.1 ∧ x.2.2.2.1 = (r7Drop most t N A G).2.2.2.1 ∧ x.2.2.2.2 = (r7Drop most t N A G).2.2.2.2 := by
  obtain ⟨hi, hr⟩ := h
  have hI := (hi.i.drop (show srlDrop most most ns cs gs ms = x from hx)).1.j hi.t0 hi.tm
  obtain ⟨l1, l2, l3⟩ := hr.len
  unfold r7Drop
  by_cases q : 0 < (cs ++ ns).length
  · have q2 := q
    rw [List.length_append] at q2
    rw [srlDrop_eq q] at hx
    rw [if_neg (by omega)]
    obtain ⟨g1, g2, g3⟩ := hr.go (most := most) (t := t) q
    have e1 := (r7Go_len most t N A G (by omega)).2
    rw [e1] at g1 ⊢
    subst hx
    have hl := lastMem q
    have hnd : lastOf (cs ++ ns) ∉ srlC ns cs ++ srlN ns := by rw [srlCN]; exact last_not_dl q hi.b.nl
    exact ⟨⟨hI, g1.del_ hi.b.mn ⟨fun w => hnd (List.mem_append_right _ w), fun w => hnd (List.mem_append_left _ w), fun w => hi.b.apart _ hl w⟩⟩, g2.symm, rfl⟩
  · have q2 := q
    rw [List.length_append] at q2
    have e1 : ns = [] := List.eq_nil_of_length_eq_zero (by omega)
    have e2 : cs = [] := List.eq_nil_of_length_eq_zero (by omega)
    subst e1 e2
    rw [srlDrop_nil] at hx
    rw [if_pos (by simp at l1 l2; simp [l1, l2])]
    subst hx
    exact ⟨⟨hI, hr⟩, rfl, rfl⟩
theorem SP.victim (h : SP most t ns cs gs ms N A G) : srlVictim most t ns cs gs ms = r7Victim most t N A G := by
  obtain ⟨hi, hr⟩ := h
  obtain ⟨l1, l2, l3⟩ := hr.len
  unfold srlVictim r7Victim
  by_cases q : 0 < ns.length
  · rw [if_pos (by omega), if_pos (by omega), nms_last (by omega), hr.n, decide_eq_true q]; rfl
  · rw [if_neg (by omega), if_neg (by omega)]
    by_cases q2 : 0 < cs.length
    · rw [if_pos (by omega), nms_last (by omega), hr.a, decide_eq_true q2]; rfl
    · have e : cs = [] := List.eq_nil_of_length_eq_zero (by omega)
      rw [if_neg (by omega)]; subst e; rfl
theorem SP.keys (h : SP most t ns cs gs ms N A G) : (cs ++ ns).reverse = r7Keys most t N A G := by
  unfold r7Keys nm7
  rw [List.reverse_append, ← h.r.n, ← h.r.a]
theorem fold_fr : ∀ (l acc : LB), (l ++ acc).Nodup → l.foldl fr acc = l.reverse ++ acc
  | [], acc, _ => rfl
  | x :: l, acc, h => by
    rw [List.cons_append, List.nodup_cons] at h
    have hx : x ∉ acc := fun q => h.1 (List.mem_append_right _ q)
    rw [List.foldl_cons, fr_not hx, fold_fr l (x :: acc) ?_]
    · simp
    · rw [List.nodup_append] at *
      refine ⟨h.2.1, List.nodup_cons.2 ⟨hx, h.2.2.1⟩, fun a ha b hb => ?_⟩
      rcases List.mem_cons.1 hb with q | q
      · exact fun w => h.1 (List.mem_append_left _ ((w.trans q) ▸ ha))
      · exact h.2.2.2 a ha b q
theorem SP.ghosts (h : SP most t ns cs gs ms N A G) : gs = r7Ghosts most t N A G := by
  have hn := h.i.b.ng
  unfold r7Ghosts
  have e : nm7 G = gs.reverse := by unfold nm7; rw [← h.r.g]
  rw [e, fold_fr _ _ (by rw [List.append_nil]; exact (List.reverse_perm gs).nodup_iff.2 hn)]
  simp
theorem SP.len (h : SP most t ns cs gs ms N A G) : (r7Keys most t N A G).length = cs.length + ns.length := by rw [← h.keys, List.length_reverse, List.length_append]
theorem SrlB.pop {L : LB} (hB : SrlB z L gs ms) (hpos : 0 < gs.length) : SrlB z L gs.dropLast (del ms (lastOf gs)) := by
  refine ⟨hB.nl, nodup_dl hB.ng, fun k a b => hB.apart k a (mem_dl b), fun k => ?_, fun k q => ⟨(hB.out k q).1, fun b => (hB.out k q).2 (mem_dl b)⟩, nodup_del hB.mn _⟩
  rw [isSome_del hB.mn, hB.mks, mem_dl_iff hpos hB.ng]
  have hl := lastMem hpos
  constructor
  · rintro ⟨a, b | b | b⟩
    · exact .inl b
    · exact .inr (.inl ⟨b, a⟩)
    · exact .inr (.inr b)
  · rintro (b | b | b)
    · exact ⟨fun e => hB.apart k b (e ▸ hl), .inl b⟩
    · exact ⟨b.2, .inr (.inl b.1)⟩
    · exact ⟨fun e => (hB.out k b).2 (e ▸ hl), .inr (.inr b)⟩
theorem SR.trimL {M : Int} (hM : 0 ≤ M) : ∀ (k : Nat) {gs : LB} {ms : Mks} {G : List K7}, gs.length ≤ k → SrlB z (cs ++ ns) gs ms → SR ns cs gs ms N A G → ∀ {x}, srlTrimL M k gs ms = x →
    SrlB z (cs ++ ns) x.1 x.2 ∧ SR ns cs x.1 x.2 N A (G.take M.toNat) ∧ x.1 = gs.take M.toNat
  | 0, gs, ms, G, hk, hB, hr, x, hx => by
    obtain ⟨l1, l2, l3⟩ := hr.len
    have e : gs = [] := List.eq_nil_of_length_eq_zero (by omega)
    subst hx e
    rw [List.take_of_length_le (by simp at l3; simp [l3])]
    exact ⟨hB, hr, by simp [srlTrimL]⟩
  | k + 1, gs, ms, G, hk, hB, hr, x, hx => by
    obtain ⟨l1, l2, l3⟩ := hr.len
    by_cases hc : (gs.length : Int) > M
    · rw [srlTrimL, if_pos hc] at hx
      have hpos : 0 < gs.length := by omega
      have hl := lastMem hpos
      have e : gs.dropLast = gs.take (gs.length - 1) := List.dropLast_eq_take
      have h1 : SR ns cs gs.dropLast (del ms (lastOf gs)) N A (G.take (gs.length - 1)) := by
        have h2 := hr.takeG (gs.length - 1)
        rw [← e] at h2
        exact h2.del_ hB.mn ⟨fun q => hB.apart _ (List.mem_append_right _ q) hl, fun q => hB.apart _ (List.mem_append_left _ q) hl, last_not_dl hpos hB.ng⟩
      obtain ⟨r1, r2, r3⟩ := SR.trimL hM k (by rw [List.length_dropLast]; omega) (hB.pop hpos) h1 hx
      rw [List.take_take, Nat.min_eq_left (by omega)] at r2
      refine ⟨r1, r2, ?_⟩
      rw [r3, e, List.take_take, Nat.min_eq_left (by omega)]
    · rw [srlTrimL_stop hc] at hx
      subst hx
      rw [List.take_of_length_le (by omega)]
      exact ⟨hB, hr, (List.take_of_length_le (by show gs.length ≤ _; omega)).symm⟩
theorem SR.evictG (h : SR ns cs gs ms N A G) (hB : SrlB z (cs ++ ns) gs ms) (hp : 0 < (cs ++ ns).length) (h0 : 0 ≤ most) {t' : Int} {x} (hx : srlEvict most t ns cs gs ms = x) :
    SrlB z (x.2.1 ++ x.1) x.2.2.1 x.2.2.2.1 ∧ SR x.1 x.2.1 x.2.2.1 x.2.2.2.1 (r7Evict most t' N A G).1 (r7Evict most t' N A G).2.1 (r7Evict most t' N A G).2.2.1 ∧ (r7Evict most t' N A G).2.2.2 = x.2.2.2.2.1 := by
  rw [srlEvict_eq hp] at hx
  subst hx
  obtain ⟨g1, g2, g3⟩ := h.go (most := most) (t := t') hp
  obtain ⟨b1, b2⟩ := hB.gone hp
  unfold r7Evict
  dsimp only
  have e1 := (r7Go_len most t' N A G (by obtain ⟨l1, l2, l3⟩ := h.len; rw [List.length_append] at hp; omega)).2
  rw [b2]
  have hs : SR (srlN ns) (srlC ns cs) (lastOf (cs ++ ns) :: gs) ms (r7Go most t' N A G).1 (r7Go most t' N A G).2.1 (front7 (r7Go most t' N A G).2.2.1 (r7Go most t' N A G).2.2.2.1 (r7Go most t' N A G).2.2.2.2.1 false) := by
    refine ⟨g1.n, g1.a, ?_, g1.mn, g1.ma, fun x hx => ?_⟩
    · rw [front_eq]; show (r7Go most t' N A G).2.2.2.1 :: nms (r7Go most t' N A G).2.2.1 = _; rw [g2, g1.g]
    · rw [front_eq] at hx
      rcases List.mem_cons.1 hx with q | q
      · subst q; dsimp only; rw [g2, g3]; rfl
      · exact g1.mg x q
  have b3 : SrlB z (srlC ns cs ++ srlN ns) (lastOf (cs ++ ns) :: gs) ms := by rw [srlCN, ← b2]; exact b1
  rw [r7Trim_eq _ _ _ _ _ h0]
  have r := SR.trimL (z := z) h0 _ (Nat.le_refl _) b3 hs (x := srlTrim most t (srlN ns) (srlC ns cs) (lastOf (cs ++ ns) :: gs) ms) rfl
  exact ⟨r.1, r.2.1, g2⟩
theorem SP.rszL {M : Int} (hM : 0 ≤ M) : ∀ (k : Nat) {ns cs gs : LB} {ms : Mks} {N A G : List K7}, SrlB (fun _ => False) (cs ++ ns) gs ms → SR ns cs gs ms N A G → ns.length + cs.length ≤ k →
    ∀ {x y}, srlRszL M t k ns cs gs ms = x → rsz7 M t k N A G = y → SrlB (fun _ => False) (x.2.1 ++ x.1) x.2.2.1 x.2.2.2.1 ∧ SR x.1 x.2.1 x.2.2.1 x.2.2.2.1 y.1 y.2.1 y.2.2.1 ∧ x.2.2.2.2 = y.2.2.2 ∧ ((x.2.1 ++ x.1).length : Int) ≤ M
  | 0, ns, cs, gs, ms, N, A, G, hB, hr, hk, x, y, hx, hy => by
    subst hx hy
    refine ⟨hB, hr, rfl, ?_⟩
    show ((cs ++ ns).length : Int) ≤ M
    rw [List.length_append]; omega
  | k + 1, ns, cs, gs, ms, N, A, G, hB, hr, hk, x, y, hx, hy => by
    obtain ⟨l1, l2, l3⟩ := hr.len
    have hl := srlLen_i M t ns cs gs ms
    by_cases hc : srlLen M t ns cs gs ms > M
    · rw [srlRszL, if_pos hc] at hx
      rw [rsz7, if_pos (by omega)] at hy
      have hp : 0 < (cs ++ ns).length := by rw [List.length_append]; omega
      obtain ⟨e0, e1, e2⟩ := hr.evictG (t := t) (t' := t) hB hp hM rfl
      have hlen := srlEvict_len M t gs ms (show 0 < ns.length + cs.length by omega)
      obtain ⟨r1, r2, r3, r4⟩ := SP.rszL hM k e0 e1 (by omega) rfl rfl
      subst hx hy
      refine ⟨r1, r2, ?_, r4⟩
      show _ :: _ = _ :: _; rw [e2, r3]
    · rw [srlRszL_stop hc] at hx
      rw [rsz7_stop (by omega)] at hy
      subst hx hy
      refine ⟨hB, hr, rfl, ?_⟩
      show ((cs ++ ns).length : Int) ≤ M
      rw [List.length_append]; omega
theorem SP.resize (h : SP most t ns cs gs ms N A G) (mo : Int) {x y} (hx : srlResize most t ns cs gs ms mo = x) (hy : r7Resize most t N A G mo = y) :
    SP x.1 x.2.1 x.2.2.1 x.2.2.2.1 x.2.2.2.2.1 x.2.2.2.2.2.1 y.2.2.1 y.2.2.2.1 y.2.2.2.2.1 ∧ y.1 = x.1 ∧ y.2.1 = x.2.1 ∧ x.2.2.2.2.2.2 = y.2.2.2.2.2 ∧ x.1 = if (0 : Int) > mo then 0 else mo := by
  unfold srlResize at hx
  unfold r7Resize at hy
  dsimp only at hx hy
  rw [show (if mo < 0 then 0 else mo) = (if (0 : Int) > mo then 0 else mo) from rfl] at hy
  have hM : 0 ≤ (if (0 : Int) > mo then 0 else mo) := by split <;> omega
  generalize eM : (if (0 : Int) > mo then 0 else mo) = M at *
  have e2 : (if t > M then M else t) = if M < t then M else t := rfl
  rw [e2] at hy
  have hT : 0 ≤ (if M < t then M else t) ∧ (if M < t then M else t) ≤ M := by have := h.i.t0; split <;> omega
  generalize (if M < t then M else t) = T at *
  obtain ⟨l1, l2, l3⟩ := h.r.len
  rw [l1, l2] at hy
  obtain ⟨r1, r2, r3, r4⟩ := SP.rszL (t := T) hM _ h.i.b h.r (Nat.le_refl _) rfl rfl
  rw [r7Trim_eq _ _ _ _ _ hM] at hy
  obtain ⟨q1, q2, q3⟩ := SR.trimL hM _ (Nat.le_refl _) r1 r2 (x := srlTrim M T (srlRszL M T (ns.length + cs.length) ns cs gs ms).1 (srlRszL M T (ns.length + cs.length) ns cs gs ms).2.1 (srlRszL M T (ns.length + cs.length) ns cs gs ms).2.2.1 (srlRszL M T (ns.length + cs.length) ns cs gs ms).2.2.2.1) rfl
  subst hx hy
  refine ⟨⟨⟨q1, hM, hT.1, hT.2, r4, ?_⟩, q2⟩, rfl, rfl, r3, rfl⟩
  rw [q3, List.length_take]; omega
/-! ### how many there are -/
theorem dem7_len (t : Int) : ∀ (k : Nat) (N A : List K7), (dem7 t k N A).1.length + (dem7 t k N A).2.length = N.length + A.length
  | 0, N, A => rfl
  | k + 1, N, A => by
    unfold dem7
    split
    · rename_i h
      rw [dem7_len t k]; simp only [List.length_append, List.length_singleton, List.length_take]; omega
    · rfl
theorem r7Again_len (most t : Int) (N A G : List K7) (s : ByteArray) : (r7Again most t N A G s).1.length + (r7Again most t N A G s).2.1.length = N.length + A.length + 1 ∧ (r7Again most t N A G s).2.2 = G := by
  unfold r7Again
  refine ⟨?_, rfl⟩
  dsimp only
  rw [dem7_len]; simp only [List.length_append, List.length_singleton]; omega
theorem r7Request_tot (h0 : 0 ≤ most) {y} (hy : r7Request most t N A G key = y) : y.2.1.length + y.2.2.1.length + y.2.2.2.1.length ≤ N.length + A.length + G.length + 1 ∧ y.1 ≤ t + 1 := by
  by_cases hm : most = 0
  · rw [r7Request_zero hm] at hy; subst hy; dsimp only; omega
  by_cases ha : (lk A key).isSome = true
  · rw [r7Request_a hm ha] at hy
    subst hy
    have := rem7_le A key
    rw [front_eq]; simp only [List.length_cons]; omega
  by_cases hn : (lk N key).isSome = true
  · rw [r7Request_n hm ha hn] at hy
    subst hy
    obtain ⟨h1, h2⟩ := r7Again_len most (r7Up most t N key) (rem7 N key) A G key
    have := rem7_le N key
    have h3 : r7Up most t N key ≤ t + 1 := by unfold r7Up; split <;> omega
    dsimp only
    rw [h2]; omega
  · generalize hym : r7Miss most (r7Down t G key) N A (rem7 G key) = ym at *
    rw [r7Request_m hm ha hn hym] at hy
    have h3 : r7Down t G key ≤ t + 1 := by unfold r7Down; split <;> omega
    have h4 : ym.1.length + ym.2.1.length + ym.2.2.1.length ≤ N.length + A.length + G.length := by
      have h5 := rem7_le G key
      unfold r7Miss at hym
      split at hym
      · rename_i q
        have := r7Evict_len most (r7Down t G key) N A (rem7 G key) h0 (by omega)
        subst hym; dsimp only; omega
      · subst hym; dsimp only; omega
    split at hy
    · obtain ⟨h1, h2⟩ := r7Again_len most (r7Down t G key) ym.1 ym.2.1 ym.2.2.1 key
      subst hy; dsimp only; rw [h2]; omega
    · subst hy; rw [front_eq]; simp only [List.length_cons]; omega
theorem r7Adopt_tot {y} (hy : r7Adopt most t N A G key = y) : y.1.length + y.2.1.length + y.2.2.1.length ≤ N.length + A.length + G.length + 1 := by
  have := rem7_le G key
  unfold r7Adopt at hy
  split at hy
  · subst hy; dsimp only; omega
  · split at hy
    · subst hy; dsimp only; omega
    · subst hy; rw [front_eq]; simp only [List.length_cons]; omega
theorem r7Drop_tot {y} (hy : r7Drop most t N A G = y) : y.1.length + y.2.1.length + y.2.2.1.length ≤ N.length + A.length + G.length := by
  unfold r7Drop at hy
  split at hy
  · subst hy; dsimp only; omega
  · rename_i q
    have := r7Go_len most t N A G (by omega)
    have h2 := congrArg List.length this.2
    subst hy; dsimp only; omega
theorem rsz7_tot {M : Int} (hM : 0 ≤ M) : ∀ (k : Nat) (N A G : List K7), (rsz7 M t k N A G).1.length + (rsz7 M t k N A G).2.1.length + (rsz7 M t k N A G).2.2.1.length ≤ N.length + A.length + G.length
  | 0, N, A, G => by simp only [rsz7]; omega
  | k + 1, N, A, G => by
    unfold rsz7
    split
    · rename_i q
      have := rsz7_tot hM k (r7Evict M t N A G).1 (r7Evict M t N A G).2.1 (r7Evict M t N A G).2.2.1
      have h2 := r7Evict_len M t N A G hM (by omega)
      dsimp only; omega
    · dsimp only; omega
theorem r7Resize_tot {mo : Int} {y} (hy : r7Resize most t N A G mo = y) : y.2.2.1.length + y.2.2.2.1.length + y.2.2.2.2.1.length ≤ N.length + A.length + G.length := by
  have hM : 0 ≤ (if mo < 0 then 0 else mo) := by split <;> omega
  unfold r7Resize at hy
  dsimp only at hy
  have h1 := rsz7_tot (t := if t > (if mo < 0 then 0 else mo) then (if mo < 0 then 0 else mo) else t) hM (N.length + A.length) N A G
  rw [r7Trim_eq _ _ _ _ _ hM] at hy
  subst hy
  simp only [List.length_take]
  omega
end Go.Proofs.Ytjijjfdkghcjkaa
