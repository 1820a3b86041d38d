/- Walks over what is owned apart: a region that draws its order. Each operation says which things it touches; every order is served. Over any program; no condition. -/
import Derived.Test.YthbffkdfahlpdaaSepC
set_option linter.unusedVariables false
namespace Go.Proofs.Ythbffkdfahlpdaa
open Go.RowKit Go.MapKept

/-- What was drawn: by operations. -/
abbrev Gh := Nat → Value
def updG (g : Gh) (k : Nat) (x : Value) : Gh := fun j => bif Nat.beq j k then x else g j
theorem updG_same (g : Gh) (k : Nat) : updG g k (g k) = g := by
  funext j
  unfold updG
  cases h : Nat.beq j k with
  | true => have := Nat.eq_of_beq_eq_true h; subst this; rfl
  | false => rfl

/-- A region's plan. pr: who precedes whom. tc: what an operation touches: the thing, whether it turns it, and behind which operation it sees it (0: none, k + 1: k). mkn: does it make a thing (that has number m + i)? fr: is its value drawn? at_: what a thing is behind an operation. -/
structure Plan where
  n : Nat
  m : Nat
  pr : Nat → Nat → Bool
  ds : Nat → Option Nat
  tc : Nat → List (Nat × Bool × Nat)
  mkn : Nat → Bool
  fr : Nat → Bool
  A : Nat → Nat → Gh → Res
  V : Nat → Gh → Value
  sp : Nat → Value → Prop
namespace Plan
variable (p : Plan)
def writes (k r : Nat) : Bool := (p.tc k).any (fun x => Nat.beq x.1 r && x.2.1) || (p.mkn k && Nat.beq r (p.m + k))
/-- The last one of the first n that q holds of, and one. -/
def last (q : Nat → Bool) : Nat → Nat
  | 0 => 0
  | n + 1 => bif q n then n + 1 else last q n
theorem last_congr {q q' : Nat → Bool} : ∀ n, (∀ k, k < n → q k = q' k) → last q n = last q' n
  | 0, _ => rfl
  | n + 1, h => by
    unfold last
    rw [h n (Nat.lt_succ_self n), last_congr n fun k hk => h k (by omega)]
theorem last_at {q : Nat → Bool} {i : Nat} (hi : q i = true) : ∀ n, i < n → (∀ k, k < n → q k = true → k ≤ i) → last q n = i + 1
  | 0, h, _ => by omega
  | n + 1, h, hk => by
    unfold last
    by_cases e : i = n
    · subst e; rw [hi]; rfl
    · cases hq : q n with
      | true => have := hk n (Nat.lt_succ_self n) hq; omega
      | false => exact last_at hi n (by omega) fun k h1 h2 => hk k (by omega) h2
theorem last_some {q : Nat → Bool} : ∀ n v, last q n = v → v = 0 ∨ ∃ j, v = j + 1 ∧ j < n ∧ q j = true
  | 0, v, h => .inl h.symm
  | n + 1, v, h => by
    unfold last at h
    cases hq : q n with
    | true => rw [hq] at h; exact .inr ⟨n, h.symm, Nat.lt_succ_self n, hq⟩
    | false =>
      rw [hq] at h
      rcases last_some n v h with e | ⟨j, e, h1, h2⟩
      · exact .inl e
      · exact .inr ⟨j, e, by omega, h2⟩
def cur (L : Nat → Bool) (r : Nat) : Nat := last (fun k => L k && p.writes k r) p.n
/-- What slots hold where operation i comes up. -/
def slots (σ : List (Nat × Value)) (g : Gh) (i : Nat) : List (Nat × Value) :=
  ((List.range p.n).filterMap fun j => bif p.pr j i then (p.ds j).map fun d => (d, p.V j g) else none) ++ σ
def out (σ : List (Nat × Value)) (g : Gh) : List (Nat × Value) := ((List.range p.n).filterMap fun j => (p.ds j).map fun d => (d, p.V j g)) ++ σ
def pre (g : Gh) (i : Nat) : List Res := (p.tc i).map fun x => p.A x.1 x.2.2 g
def post (g : Gh) (i : Nat) : List Res := ((p.tc i).map fun x => p.A x.1 (bif x.2.1 then i + 1 else x.2.2) g) ++ bif p.mkn i then [p.A (p.m + i) (i + 1) g] else []
/-- What an operation must do. -/
def ob (P : Program) (ops : Array Oper) (σ : List (Nat × Value)) (i : Nat) (o : Oper) : Prop := ∀ g, (∀ j, p.pr j i = true → p.fr j = true → p.sp j (g j)) →
  (wants ops (p.slots σ g i) o = some true ∧ Opr P (p.slots σ g i) o (p.pre g i) fun v l' => ∃ g', (g' = g ∨ (p.fr i = true ∧ ∃ x, p.sp i x ∧ g' = updG g i x)) ∧ (p.fr i = true → p.sp i (g' i)) ∧ v = p.V i g' ∧ l' = p.post g' i) ∨
  (wants ops (p.slots σ g i) o = some false ∧ p.V i g = undef ∧ p.tc i = [] ∧ p.mkn i = false ∧ p.fr i = false)
/-- What is drawn later is not looked at. -/
def dep : Prop := ∀ k, k < p.n → p.fr k = true → ∀ g x, (∀ i, i < p.n → i ≠ k → p.pr k i = false → p.V i (updG g k x) = p.V i g) ∧
  (∀ r v, (v = 0 ∨ ∃ j, v = j + 1 ∧ j ≠ k ∧ p.pr k j = false ∧ p.writes j r = true) → p.A r v (updG g k x) = p.A r v g)
/-- The plan's numbers fit. -/
structure Fit (ops : Array Oper) (N : Nat) : Prop where
  size : ops.size = p.n
  dst : ∀ (i : Nat) (o : Oper), ops[i]? = some o → o.dst = p.ds i
  fits : ∀ i, i < p.n → Proofs.Ythbffkdfahlpdaa.fits N (p.ds i) = true
  dstU : ∀ i j d, i < p.n → j < p.n → p.ds i = some d → p.ds j = some d → i = j
  lt : ∀ j i, i < p.n → p.pr j i = true → j < i
  pr : ∀ (i : Nat) (o : Oper), ops[i]? = some o → ∀ j, p.pr j i = true → ∃ e ∈ o.after, Region.binds .any e = true ∧ (e.on = j ∨ p.pr j e.on = true)
  back : ∀ (i : Nat) (o : Oper), ops[i]? = some o → ∀ e ∈ o.after, Region.binds .any e = true → e.on < i
  tcU : ∀ i, i < p.n → ((p.tc i).map (·.1)).Nodup
  tcL : ∀ i, i < p.n → ∀ x ∈ p.tc i, x.1 < p.m + p.n
  tcN : ∀ i, i < p.n → ∀ x ∈ p.tc i, x.1 ≠ p.m + i
  ord : ∀ i, i < p.n → ∀ x ∈ p.tc i, ∀ k, k < p.n → k ≠ i → p.writes k x.1 = true → p.pr k i = true ∨ p.pr i k = true
  new : ∀ i, i < p.n → p.mkn i = true → ∀ k, k < p.n → k ≠ i → p.writes k (p.m + i) = true → p.pr i k = true
  ver : ∀ i, i < p.n → ∀ x ∈ p.tc i, x.2.2 = last (fun k => p.pr k i && p.writes k x.1) p.n
end Plan

section
variable {P : Program} {ops : Array Oper} {Q : Exit → Act → World → Prop} {p : Plan} {N : Nat} {B : Nat → Prop} {w0 : World} {σ : List (Nat × Value)} {Γ : List Res}

/-- All things of a plan, at these operations. -/
def Plan.row (p : Plan) (L : Nat → Bool) (g : Gh) : List Res := (List.range (p.m + p.n)).map fun r => p.A r (p.cur L r) g
theorem Plan.row_length {L : Nat → Bool} {g : Gh} : (p.row L g).length = p.m + p.n := by simp [Plan.row]
theorem Plan.row_get {L : Nat → Bool} {g : Gh} {r : Nat} (h : r < p.m + p.n) : (p.row L g)[r]? = some (p.A r (p.cur L r) g) := by simp [Plan.row, h]
def isL (listed : Array Bool) : Nat → Bool := fun i => listed.getD i false
structure PInv (p : Plan) (N : Nat) (B : Nat → Prop) (w0 : World) (σ : List (Nat × Value)) (listed : Array Bool) (a : Act) (w : World) : Prop where
  lsz : listed.size = p.n
  down : ∀ i j, isL listed i = true → p.pr j i = true → isL listed j = true
  size : a.tmps.size = N
  defers : a.defers = []
  old : ∀ k v, lkS σ k = some v → (∀ i, i < p.n → p.ds i = some k → isL listed i = false) → a.tmps[k]? = some v
  st : ∃ g : Gh, (∀ i, isL listed i = true → p.fr i = true → p.sp i (g i)) ∧ (∀ i d, isL listed i = true → p.ds i = some d → a.tmps[d]? = some (p.V i g)) ∧ St B w0 (p.row (isL listed) g) w

theorem isL_lt {listed : Array Bool} {i : Nat} (h : isL listed i = true) : i < listed.size := by
  unfold isL at h
  rcases Nat.lt_or_ge i listed.size with h' | h'
  · exact h'
  · simp [Array.getElem?_eq_none h'] at h
theorem isL_set {listed : Array Bool} {i : Nat} (hi : i < listed.size) (j : Nat) : isL (listed.setIfInBounds i true) j = (Nat.beq j i || isL listed j) := by
  unfold isL
  cases hb : Nat.beq j i with
  | true => have := Nat.eq_of_beq_eq_true hb; subst this; simp [hi]
  | false =>
    have hne : i ≠ j := fun q => by subst q; simp at hb
    rw [getD_set_ne false hne]; simp

theorem lkS_append {σ' : List (Nat × Value)} {k : Nat} {v : Value} : ∀ {σ : List (Nat × Value)}, lkS (σ ++ σ') k = some v → lkS σ k = some v ∨ lkS σ' k = some v
  | [], h => .inr h
  | (s, u) :: σ, h => by
    have e : lkS ((s, u) :: σ) k = bif Nat.beq s k then some u else lkS σ k := rfl
    rw [e]
    have h : (bif Nat.beq s k then some u else lkS (σ ++ σ') k) = some v := h
    cases hb : Nat.beq s k with
    | true => rw [hb] at h; exact .inl h
    | false => rw [hb] at h; exact lkS_append (σ := σ) h
theorem lkS_mem {k : Nat} {v : Value} : ∀ {σ : List (Nat × Value)}, lkS σ k = some v → (k, v) ∈ σ
  | [], h => by cases h
  | (s, u) :: σ, h => by
    unfold lkS at h
    cases hb : Nat.beq s k with
    | true =>
      rw [hb] at h
      simp at h
      have := Nat.eq_of_beq_eq_true hb
      subst this h
      exact List.mem_cons_self ..
    | false => rw [hb] at h; exact List.mem_cons_of_mem _ (lkS_mem h)
theorem lkS_app2 {σ' : List (Nat × Value)} {k : Nat} {v : Value} : ∀ {σ : List (Nat × Value)}, lkS (σ ++ σ') k = some v → lkS σ k = some v ∨ lkS σ k = none
  | [], h => .inr rfl
  | (s, u) :: σ, h => by
    have e : lkS ((s, u) :: σ) k = bif Nat.beq s k then some u else lkS σ k := rfl
    rw [e]
    have h : (bif Nat.beq s k then some u else lkS (σ ++ σ') k) = some v := h
    cases hb : Nat.beq s k with
    | true => rw [hb] at h; exact .inl h
    | false => rw [hb] at h; exact lkS_app2 (σ := σ) h
theorem lkS_none {k : Nat} {v : Value} : ∀ {σ : List (Nat × Value)}, lkS σ k = none → (k, v) ∉ σ
  | [], _ => by simp
  | (s, u) :: σ, h => by
    have h : (bif Nat.beq s k then some u else lkS σ k) = none := h
    cases hb : Nat.beq s k with
    | true => rw [hb] at h; cases h
    | false =>
      rw [hb] at h
      intro q
      rcases List.mem_cons.1 q with q | q
      · cases q; simp at hb
      · exact lkS_none h q
theorem PInv.slots {listed : Array Bool} {a : Act} {w : World} (h : PInv p N B w0 σ listed a w) (hσ : ∀ i d, i < p.n → p.ds i = some d → lkS σ d = none ∨ ∀ j, j < p.n → j ≠ i → p.pr j i = true) {g : Gh}
    (hg : ∀ i d, isL listed i = true → p.ds i = some d → a.tmps[d]? = some (p.V i g)) {i : Nat} (hin : i < p.n) (hni : isL listed i = false) (hi : ∀ j, p.pr j i = true → isL listed j = true) : Sl N (p.slots σ g i) a := by
  refine ⟨h.size, h.defers, fun k v e => ?_⟩
  rcases lkS_append (σ' := σ) e with e | e
  · obtain ⟨j, hj, e2⟩ := List.mem_filterMap.1 (lkS_mem e)
    cases hp : p.pr j i with
    | false => rw [hp] at e2; cases e2
    | true =>
      rw [hp] at e2
      cases hd : p.ds j with
      | none => simp [hd] at e2
      | some d =>
        simp [hd] at e2
        obtain ⟨rfl, rfl⟩ := e2
        exact hg j d (hi j hp) hd
  · refine h.old k v e fun j hj hd => ?_
    rcases hσ j k hj hd with q | q
    · rw [q] at e; cases e
    · cases hl : isL listed j with
      | false => rfl
      | true =>
        by_cases hij : i = j
        · subst hij; rw [hni] at hl; cases hl
        · have := h.down j i hl (q i hin hij); rw [hni] at this; cases this
theorem PInv.out {listed : Array Bool} {a : Act} {w : World} (h : PInv p N B w0 σ listed a w) (hσ : ∀ i d, i < p.n → p.ds i = some d → lkS σ d = none ∨ ∀ j, j < p.n → j ≠ i → p.pr j i = true) {g : Gh}
    (hg : ∀ i d, isL listed i = true → p.ds i = some d → a.tmps[d]? = some (p.V i g)) (hall : ∀ i, i < p.n → isL listed i = true) : Sl N (p.out σ g) a := by
  refine ⟨h.size, h.defers, fun k v e => ?_⟩
  have hin : lkS ((List.range p.n).filterMap fun j => (p.ds j).map fun d => (d, p.V j g)) k = some v → a.tmps[k]? = some v := fun e => by
    obtain ⟨j, hj, e2⟩ := List.mem_filterMap.1 (lkS_mem e)
    cases hd : p.ds j with
    | none => simp [hd] at e2
    | some d =>
      simp [hd] at e2
      obtain ⟨rfl, rfl⟩ := e2
      exact hg j d (hall j (by simpa using hj)) hd
  by_cases hx : ∃ j, j < p.n ∧ p.ds j = some k
  · obtain ⟨j, hj, hd⟩ := hx
    rcases lkS_app2 (σ' := σ) e with e | e
    · exact hin e
    · exact absurd (List.mem_filterMap.2 ⟨j, by simpa using hj, by simp [hd]⟩) (lkS_none (v := p.V j g) e)
  · rcases lkS_append (σ' := σ) e with e | e
    · exact hin e
    · exact h.old k v e fun j hj hd => absurd ⟨j, hj, hd⟩ hx

/-- One operation. -/
theorem PInv.step (F : p.Fit ops N) (hdep : p.dep) (hσ : ∀ i d, i < p.n → p.ds i = some d → lkS σ d = none ∨ ∀ j, j < p.n → j ≠ i → p.pr j i = true) {listed : Array Bool} {a : Act} {w : World} (h : PInv p N B w0 σ listed a w)
    {i : Nat} {o : Oper} (ho : ops[i]? = some o) (hni : isL listed i = false) (hrd : ∀ j, p.pr j i = true → isL listed j = true) (hob : p.ob P ops σ i o) {K : Act → World → Prop}
    (hK : ∀ a' w', PInv p N B w0 σ (listed.setIfInBounds i true) a' w' → K a' w') : (Region.wanted o (yielded ops a.tmps) = true ∧ o.wp P a w K Q) ∨ (Region.wanted o (yielded ops a.tmps) = false ∧ K (a.put o.dst undef) w) := by
  have hin : i < p.n := by rw [← F.size]; exact (Array.getElem?_eq_some_iff.1 ho).1
  have hil : i < listed.size := by rw [h.lsz]; exact hin
  have hset := isL_set (listed := listed) hil
  have hdst := F.dst i o ho
  have hfits := F.fits i hin
  obtain ⟨g, hsp, hg, hSt⟩ := h.st
  have hSl := h.slots hσ hg hin hni hrd
  have hdown : ∀ i' j, isL (listed.setIfInBounds i true) i' = true → p.pr j i' = true → isL (listed.setIfInBounds i true) j = true := fun i' j q1 q2 => by
    rw [hset] at q1 ⊢
    rcases Bool.or_eq_true_iff.1 q1 with q1 | q1
    · have := Nat.eq_of_beq_eq_true q1; subst this; rw [hrd j q2]; simp
    · rw [h.down i' j q1 q2]; simp
  have hold : ∀ v k u, lkS σ k = some u → (∀ j, j < p.n → p.ds j = some k → isL (listed.setIfInBounds i true) j = false) → (a.put o.dst v).tmps[k]? = some u := fun v k u q1 q2 => by
    have q3 : ∀ j, j < p.n → p.ds j = some k → isL listed j = false := fun j hj e => by
      have := q2 j hj e
      rw [hset, Bool.or_eq_false_iff] at this
      exact this.2
    rw [hdst]
    cases hd : p.ds i with
    | none => exact h.old k u q1 q3
    | some d =>
      have hne : d ≠ k := fun e => by
        have := q2 i hin (by rw [hd, e])
        rw [hset, Bool.or_eq_false_iff] at this
        simp at this
      simpa [Act.put, Array.getElem?_setIfInBounds_ne hne] using h.old k u q1 q3
  have hsz : ∀ v, (a.put o.dst v).tmps.size = N := fun v => by
    cases o.dst <;> simp [Act.put, h.size]
  have hdf : ∀ v, (a.put o.dst v).defers = [] := fun v => by
    cases o.dst <;> simp [Act.put, h.defers]
  -- slots behind
  have hslot : ∀ (g' : Gh), (∀ j, isL listed j = true → p.V j g' = p.V j g) → ∀ j d, isL (listed.setIfInBounds i true) j = true → p.ds j = some d → (a.put o.dst (p.V i g')).tmps[d]? = some (p.V j g') := fun g' hV j d q1 q2 => by
    rw [hset] at q1
    cases hb : Nat.beq j i with
    | true =>
      have := Nat.eq_of_beq_eq_true hb
      subst this
      rw [hdst, q2]
      have : d < N := by rw [q2] at hfits; simpa [Proofs.Ythbffkdfahlpdaa.fits] using hfits
      simp [Act.put, h.size, this]
    | false =>
      rw [hb] at q1
      simp at q1
      have hj : j < p.n := by rw [← h.lsz]; exact isL_lt q1
      rw [hdst, hV j q1]
      cases hd : p.ds i with
      | none => exact hg j d q1 q2
      | some d' =>
        have hne : d' ≠ d := fun e => by
          subst e
          have := F.dstU i j d' hin hj hd q2
          subst this; simp at hb
        simpa [Act.put, Array.getElem?_setIfInBounds_ne hne] using hg j d q1 q2
  have hsp' : ∀ (g' : Gh), (∀ j, isL listed j = true → g' j = g j) → (p.fr i = true → p.sp i (g' i)) → ∀ j, isL (listed.setIfInBounds i true) j = true → p.fr j = true → p.sp j (g' j) := fun g' hgg hi' j q1 q2 => by
    rw [hset] at q1
    cases hb : Nat.beq j i with
    | true => have := Nat.eq_of_beq_eq_true hb; subst this; exact hi' q2
    | false => rw [hb] at q1; simp at q1; rw [hgg j q1]; exact hsp j q1 q2
  -- versions
  have hlt : ∀ k, isL listed k = true → k < p.n := fun k q => by rw [← h.lsz]; exact isL_lt q
  have hseen : ∀ x ∈ p.tc i, p.cur (isL listed) x.1 = x.2.2 := fun x hx => by
    rw [F.ver i hin x hx]
    refine Plan.last_congr _ fun k hk => ?_
    cases hw : p.writes k x.1 with
    | false => simp
    | true =>
      simp only [Bool.and_true]
      cases hL : isL listed k with
      | true =>
        have hne : k ≠ i := fun e => by subst e; rw [hL] at hni; cases hni
        rcases F.ord i hin x hx k hk hne hw with q | q
        · rw [q]
        · have := h.down k i hL q; rw [hni] at this; cases this
      | false =>
        cases hp : p.pr k i with
        | false => rfl
        | true => have := hrd k hp; rw [hL] at this; cases this
  have hcurNo : ∀ r, p.writes i r = false → p.cur (isL (listed.setIfInBounds i true)) r = p.cur (isL listed) r := fun r hw =>
    Plan.last_congr _ fun k hk => by
      rw [hset]
      cases hb : Nat.beq k i with
      | true => have := Nat.eq_of_beq_eq_true hb; subst this; simp [hw]
      | false => simp
  have hcurYes : ∀ r, p.writes i r = true → (∀ k, k < p.n → k ≠ i → p.writes k r = true → p.pr k i = true ∨ p.pr i k = true) → p.cur (isL (listed.setIfInBounds i true)) r = i + 1 := fun r hw ho => by
    refine Plan.last_at (by rw [hset]; simp [hw]) _ hin fun k hk q => ?_
    rw [hset] at q
    by_cases e : k = i
    · omega
    · have hb : Nat.beq k i = false := by
        cases hb : Nat.beq k i with
        | false => rfl
        | true => exact absurd (Nat.eq_of_beq_eq_true hb) e
      rw [hb] at q
      simp at q
      rcases ho k hk e q.2 with q2 | q2
      · exact Nat.le_of_lt (F.lt k i hin q2)
      · have := h.down k i q.1 q2; rw [hni] at this; cases this
  have hgen : ∀ g', (g' = g ∨ (p.fr i = true ∧ ∃ x, p.sp i x ∧ g' = updG g i x)) → (∀ j, isL listed j = true → p.V j g' = p.V j g) ∧ (∀ j, isL listed j = true → g' j = g j) ∧ (∀ r, p.A r (p.cur (isL listed) r) g' = p.A r (p.cur (isL listed) r) g) := fun g' hg' => by
    rcases hg' with rfl | ⟨hf, x, hx, rfl⟩
    · exact ⟨fun _ _ => rfl, fun _ _ => rfl, fun _ => rfl⟩
    · obtain ⟨d1, d2⟩ := hdep i hin hf g x
      have hno : ∀ j, isL listed j = true → j ≠ i ∧ p.pr i j = false := fun j q => by
        refine ⟨fun e => (by subst e; rw [q] at hni; cases hni), ?_⟩
        cases hp : p.pr i j with
        | false => rfl
        | true => have := h.down j i q hp; rw [hni] at this; cases this
      refine ⟨fun j q => d1 j (hlt j q) (hno j q).1 (hno j q).2, fun j q => ?_, fun r => d2 r _ ?_⟩
      · unfold updG
        have hb : Nat.beq j i = false := by
          cases hb : Nat.beq j i with
          | false => rfl
          | true => exact absurd (Nat.eq_of_beq_eq_true hb) (hno j q).1
        rw [hb]; rfl
      · rcases Plan.last_some (q := fun k => isL listed k && p.writes k r) p.n _ rfl with e | ⟨j, e, h1, h2⟩
        · exact .inl e
        · simp at h2
          exact .inr ⟨j, e, (hno j h2.1).1, (hno j h2.1).2, h2.2⟩
  rcases hob g (fun j q1 q2 => hsp j (hrd j q1) q2) with ⟨hw, hop⟩ | ⟨hw, hV, htc, hmk, hfr⟩
  · refine .inl ⟨wants_of hSl hw, ?_⟩
    have hpick : pickR (p.row (isL listed) g) ((p.tc i).map (·.1)) = p.pre g i := by
      unfold pickR Plan.pre
      rw [List.map_map]
      refine List.map_congr_left fun x hx => ?_
      have h1 := F.tcL i hin x hx
      have := Plan.row_get (p := p) (L := isL listed) (g := g) h1
      simp only [Function.comp]
      rw [List.getD_eq_getElem?_getD, this, Option.getD_some, hseen x hx]
    have hlen : ((p.tc i).map (·.1)).length = (p.tc i).length := by simp
    refine Opr.wp (K := ⟨P, N, B, w0⟩) (Γ := p.row (isL listed) g) (is := (p.tc i).map (·.1)) (hpick ▸ hop) (F.tcU i hin) (fun r hr => ?_) (fun v l' q => ?_) hSl hSt fun v l' w' q hS' => ?_
    · obtain ⟨x, hx, rfl⟩ := List.mem_map.1 hr
      rw [Plan.row_length]; exact F.tcL i hin x hx
    · obtain ⟨g', _, _, _, rfl⟩ := q
      rw [hlen]; unfold Plan.post; simp
    · obtain ⟨g', hg', hspi, rfl, rfl⟩ := q
      obtain ⟨hV', hgg, hA'⟩ := hgen g' hg'
      refine hK _ _ ⟨by simp [h.lsz], hdown, hsz _, hdf _, hold _, g', hsp' g' hgg hspi, hslot g' hV', ?_⟩
      -- the things, in their places
      obtain ⟨own, hM, hO, hH⟩ := hS'
      have htot : p.m + p.n = (p.row (isL listed) g).length := Plan.row_length.symm
      refine ⟨fun k => bif Nat.beq (own k) (p.m + p.n + 1) then p.m + i + 1 else (bif Nat.beq (own k) (p.m + i + 1) && p.mkn i then 0 else own k), hM, fun k hk q => hO k hk fun e => ?_, fun r R hr => ?_⟩
      · have e1 : Nat.beq 0 (p.m + p.n + 1) = false := by cases hb : Nat.beq 0 (p.m + p.n + 1) with | false => rfl | true => exact absurd (Nat.eq_of_beq_eq_true hb) (by omega)
        have e2 : Nat.beq 0 (p.m + i + 1) = false := by cases hb : Nat.beq 0 (p.m + i + 1) with | false => rfl | true => exact absurd (Nat.eq_of_beq_eq_true hb) (by omega)
        simp [e, e1, e2] at q
      · have hr' : r < p.m + p.n := by
          have := (List.getElem?_eq_some_iff.1 hr).1
          rwa [Plan.row_length] at this
        rw [Plan.row_get hr'] at hr
        cases hr
        by_cases hnew : p.mkn i = true ∧ r = p.m + i
        · obtain ⟨hmk, rfl⟩ := hnew
          have hw1 : p.writes i (p.m + i) = true := by unfold Plan.writes; simp [hmk]
          rw [hcurYes _ hw1 fun k hk hne q => .inr (F.new i hin hmk k hk hne q)]
          have := hH (p.m + p.n) (p.A (p.m + i) (i + 1) g') (by
            unfold updR
            rw [List.getElem?_append_right (by rw [setAll_length, ← htot]; omega), setAll_length, ← htot, Nat.sub_self, List.getElem?_drop, hlen]
            unfold Plan.post
            rw [List.getElem?_append_right (by simp)]
            simp [hmk])
          refine Res.mov _ this (Nat.le_refl _) fun k _ q => ⟨?_, rfl⟩
          have : Nat.beq (own k) (p.m + p.n + 1) = true := by rw [q]; simp
          simp [this]
        · have hk1 : ∀ k, own k = r + 1 → (bif Nat.beq (own k) (p.m + p.n + 1) then p.m + i + 1 else (bif Nat.beq (own k) (p.m + i + 1) && p.mkn i then 0 else own k)) = r + 1 := fun k q => by
            have e1 : Nat.beq (own k) (p.m + p.n + 1) = false := by cases hb : Nat.beq (own k) (p.m + p.n + 1) with | false => rfl | true => exact absurd (Nat.eq_of_beq_eq_true hb) (by omega)
            rw [e1]
            cases hmk : p.mkn i with
            | false => simp [q]
            | true =>
              have e2 : Nat.beq (own k) (p.m + i + 1) = false := by
                cases hb : Nat.beq (own k) (p.m + i + 1) with
                | false => rfl
                | true => exact absurd ⟨hmk, by have := Nat.eq_of_beq_eq_true hb; omega⟩ hnew
              rw [e2]; simp [q]
          refine Res.mov _ (S := fun k => own k = r + 1) ?_ (Nat.le_refl _) fun k _ q => ⟨hk1 k q, rfl⟩
          by_cases hmem : r ∈ (p.tc i).map (·.1)
          · obtain ⟨j, hj⟩ := List.mem_iff_getElem?.1 hmem
            rw [List.getElem?_map] at hj
            cases hx : (p.tc i)[j]? with
            | none => rw [hx] at hj; cases hj
            | some x =>
              rw [hx] at hj
              simp at hj
              subst hj
              have hxm := List.mem_of_getElem? hx
              have hjl := (List.getElem?_eq_some_iff.1 hx).1
              have hget : (updR (p.row (isL listed) g) ((p.tc i).map (·.1)) (p.post g' i))[x.1]? = some (p.A x.1 (bif x.2.1 then i + 1 else x.2.2) g') := by
                unfold updR
                rw [List.getElem?_append_left (by rw [setAll_length, ← htot]; exact hr'), setAll_at _ _ _ j _ (F.tcU i hin) (by rw [List.getElem?_map, hx]; rfl) (by rw [← htot]; exact hr')]
                unfold Plan.post
                rw [List.getElem?_append_left (by simpa using hjl), List.getElem?_map, hx]
                rfl
              have := hH _ _ hget
              cases hxw : x.2.1 with
              | true =>
                have hw1 : p.writes i x.1 = true := by
                  unfold Plan.writes
                  rw [Bool.or_eq_true_iff]
                  exact .inl (List.any_eq_true.2 ⟨x, hxm, by simp [hxw]⟩)
                rw [hcurYes _ hw1 fun k hk hne q => F.ord i hin x hxm k hk hne q]
                rw [hxw] at this
                exact this
              | false =>
                have hw1 : p.writes i x.1 = false := by
                  unfold Plan.writes
                  rw [Bool.or_eq_false_iff]
                  refine ⟨?_, ?_⟩
                  · rw [← Bool.not_eq_true]
                    intro q
                    obtain ⟨y, hy, hy2⟩ := List.any_eq_true.1 q
                    simp at hy2
                    obtain ⟨jy, hjy⟩ := List.mem_iff_getElem?.1 hy
                    have : jy = j := by
                      have u1 : ((p.tc i).map (·.1))[jy]? = some x.1 := by rw [List.getElem?_map, hjy]; simp [hy2.1]
                      have u2 : ((p.tc i).map (·.1))[j]? = some x.1 := by rw [List.getElem?_map, hx]; rfl
                      obtain ⟨l1, e1⟩ := List.getElem?_eq_some_iff.1 u1
                      obtain ⟨l2, e2⟩ := List.getElem?_eq_some_iff.1 u2
                      exact (List.getElem_inj (F.tcU i hin)).1 (e1.trans e2.symm)
                    subst this
                    rw [hjy] at hx
                    cases hx
                    rw [hxw] at hy2
                    exact absurd hy2.2 (by simp)
                  · cases hb : Nat.beq x.1 (p.m + i) with
                    | false => simp
                    | true => exact absurd (Nat.eq_of_beq_eq_true hb) (F.tcN i hin x hxm)
                rw [hcurNo _ hw1, hseen x hxm]
                rw [hxw] at this
                exact this
          · have hw1 : p.writes i r = false := by
              unfold Plan.writes
              rw [Bool.or_eq_false_iff]
              refine ⟨?_, ?_⟩
              · rw [← Bool.not_eq_true]
                intro q
                obtain ⟨y, hy, hy2⟩ := List.any_eq_true.1 q
                simp at hy2
                exact hmem (List.mem_map.2 ⟨y, hy, hy2.1⟩)
              · cases hmk : p.mkn i with
                | false => rfl
                | true =>
                  cases hb : Nat.beq r (p.m + i) with
                  | false => simp
                  | true => exact absurd ⟨hmk, Nat.eq_of_beq_eq_true hb⟩ hnew
            have hget : (updR (p.row (isL listed) g) ((p.tc i).map (·.1)) (p.post g' i))[r]? = some (p.A r (p.cur (isL listed) r) g) := by
              unfold updR
              rw [List.getElem?_append_left (by rw [setAll_length, ← htot]; exact hr'), setAll_other _ _ _ _ hmem, Plan.row_get hr']
            have := hH _ _ hget
            rw [hcurNo _ hw1, hA' r]
            exact this
  · refine .inr ⟨wants_of hSl hw, hK _ _ ⟨by simp [h.lsz], hdown, hsz _, hdf _, hold _, g, hsp' g (fun _ _ => rfl) (fun q => by rw [hfr] at q; cases q), ?_, ?_⟩⟩
    · have := hslot g (fun _ _ => rfl)
      rw [hV] at this
      exact this
    · have hrow : p.row (isL (listed.setIfInBounds i true)) g = p.row (isL listed) g := by
        unfold Plan.row
        refine List.map_congr_left fun r _ => ?_
        rw [hcurNo r (by unfold Plan.writes; simp [htc, hmk])]
      rw [hrow]; exact hSt

/-- Every order of such a region. -/
theorem Cd.draw {K : Cx} {id : Nat} (p : Plan) (hmix : K.P.follows .mixedOrders = true) (F : p.Fit ops K.N) (hdep : p.dep) (hσ : ∀ i d, i < p.n → p.ds i = some d → lkS σ d = none ∨ ∀ j, j < p.n → j ≠ i → p.pr j i = true) (hm : p.m = Γ.length)
    (h0 : ∀ r g, r < p.m + p.n → p.A r 0 g = Γ.getD r emp) (hob : ∀ (i : Nat) (o : Oper), ops[i]? = some o → p.ob K.P ops σ i o)
    (hfin : ∀ g, (∀ i, i < p.n → p.fr i = true → p.sp i (g i)) → Ex' K .normal Q (p.out σ g) (p.row (fun _ => true) g)) : Cd K (.region id ops true) Q σ Γ := by
  intro a w hS hΓ
  have hend : ∀ (listed : Array Bool) (A : Act) (y : World), PInv p K.N K.B K.w0 σ listed A y → Region.ready .any ops listed = [] → Q .normal A y := fun listed A y h hr => by
    have hall : ∀ j, j < p.n → isL listed j = true := by
      intro j
      induction j using Nat.strongRecOn with
      | ind j ih =>
        intro hj
        cases hb : isL listed j with
        | true => rfl
        | false =>
          exfalso
          have hjl : j < listed.size := by rw [h.lsz]; exact hj
          have hjo : j < ops.size := by rw [F.size]; exact hj
          have hb' : listed.getD j true = false := by simpa [isL, hjl] using hb
          have : j ∈ Region.ready .any ops listed := mem_ready.2 ⟨hb', ops[j], by simp [hjo], fun e he heb => by
            have hlt := F.back j ops[j] (by simp [hjo]) e he heb
            exact ih e.on hlt (by omega)⟩
          rw [hr] at this
          cases this
    obtain ⟨g, h1, h2, h3⟩ := h.st
    have hrow : p.row (isL listed) g = p.row (fun _ => true) g := by
      unfold Plan.row
      refine List.map_congr_left fun r _ => ?_
      congr 1
      exact Plan.last_congr _ fun k hk => by rw [hall k hk]
    exact hfin g (fun i hi hf => h1 i (hall i hi) hf) A y (h.out hσ h2 hall) (hrow ▸ h3)
  have key : ∀ (fuel : Nat) (listed : Array Bool) (A : Act) (y : World), listed.toList.count false ≤ fuel → PInv p K.N K.B K.w0 σ listed A y → wpAny K.P .any ops Q fuel listed A y := by
    intro fuel
    induction fuel with
    | zero =>
      intro listed A y hc h
      have hr : Region.ready .any ops listed = [] := by
        cases hr : Region.ready .any ops listed with
        | nil => rfl
        | cons j js =>
          exfalso
          obtain ⟨hh, o, ho, _⟩ := mem_ready.1 (show j ∈ Region.ready .any ops listed by rw [hr]; exact List.mem_cons_self ..)
          have hj : j < listed.size := by rw [h.lsz, ← F.size]; exact (Array.getElem?_eq_some_iff.1 ho).1
          have : false ∈ listed.toList := by
            have e : listed[j] = false := by simpa [hj] using hh
            rw [← e]
            exact Array.mem_toList_iff.2 (Array.getElem_mem hj)
          have := List.count_pos_iff.2 this
          omega
      exact ⟨hr, hend listed A y h hr⟩
    | succ fuel ih =>
      intro listed A y hc h
      refine ⟨hend listed A y h, fun i hi => ?_⟩
      obtain ⟨hh, o, ho, hall⟩ := mem_ready.1 hi
      have hil : i < listed.size := by rw [h.lsz, ← F.size]; exact (Array.getElem?_eq_some_iff.1 ho).1
      have hni : isL listed i = false := by simpa [isL, hil] using hh
      have hrd : ∀ j, p.pr j i = true → isL listed j = true := fun j hj => by
        obtain ⟨e, he, hb, hor⟩ := F.pr i o ho j hj
        have hL := hall e he hb
        rcases hor with rfl | q
        · exact hL
        · exact h.down e.on j hL q
      have hcnt : (listed.setIfInBounds i true).toList.count false ≤ fuel := by
        have e : listed[i] = false := by simpa [hil] using hh
        have hmem : false ∈ listed.toList := by
          rw [← e]; exact Array.mem_toList_iff.2 (Array.getElem_mem hil)
        have hp := List.count_pos_iff.2 hmem
        have hp' := hp
        rw [Array.toList_setIfInBounds, List.count_set (by simpa using hil)]
        simp [e]
        simp at hc hp'
        omega
      have := PInv.step (P := K.P) (Q := Q) F hdep hσ h ho hni hrd (hob i o ho) (K := wpAny K.P .any ops Q fuel (listed.setIfInBounds i true)) fun a' w' h' => ih _ _ _ hcnt h'
      unfold wpOp
      rw [ho]
      simp only
      rcases this with ⟨hw, h2⟩ | ⟨hw, h2⟩
      · simp only [hw, if_true]; exact .inl h2
      · simp only [hw, Bool.false_eq_true, if_false]; exact h2
  refine wp_region_any hmix (key ops.size _ a _ ?_ ?_)
  · simp [List.count_replicate]
  · have hLf : ∀ j, isL (Array.replicate ops.size false) j = false := fun j => by
      unfold isL
      by_cases q : j < ops.size <;> simp [q]
    refine ⟨by simp [F.size], fun i j q => (by rw [hLf] at q; cases q), hS.size, hS.defers, fun k v e _ => hS.slot k v e, fun _ => undef, fun i q => (by rw [hLf] at q; cases q), fun i d q => (by rw [hLf] at q; cases q), ?_⟩
    have h1 : St K.B K.w0 Γ w.drew := hΓ.still ((Mod.refl Nil w).drew)
    obtain ⟨own, hM, hO, hH⟩ := h1
    refine ⟨fun k => if own k ≤ Γ.length then own k else 0, hM, fun k hk q => hO k hk fun e => (by simp [e] at q), fun r R hr => ?_⟩
    have hr' : r < p.m + p.n := by
      have := (List.getElem?_eq_some_iff.1 hr).1
      rwa [Plan.row_length] at this
    rw [Plan.row_get hr'] at hr
    cases hr
    have hc0 : p.cur (isL (Array.replicate ops.size false)) r = 0 := by
      rcases Plan.last_some (q := fun k => isL (Array.replicate ops.size false) k && p.writes k r) p.n _ rfl with e | ⟨j, e, h1, h2⟩
      · exact e
      · rw [hLf] at h2; simp at h2
    rw [hc0, h0 r _ hr']
    by_cases hrl : r < Γ.length
    · refine Res.mov _ (hH r (Γ.getD r emp) (by simp [hrl])) (Nat.le_refl _) fun k _ q => ⟨?_, rfl⟩
      show (if own k ≤ Γ.length then own k else 0) = r + 1
      rw [if_pos (by omega)]; exact q
    · have : Γ.getD r emp = emp := by simp [Nat.not_lt.1 hrl]
      rw [this]; exact trivial
end
end Go.Proofs.Ythbffkdfahlpdaa
