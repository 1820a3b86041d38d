/- Walks over what is owned apart: a plan that is laid out, and held to its region by reckoning. Over any program; no condition. -/
import Derived.Test.YthbffkdfahlpdaaSepD
import Derived.KernelRfl
set_option linter.unusedVariables false
namespace Go.Proofs.Ythbffkdfahlpdaa
open Go.RowKit Go.MapKept

def lkN {α : Type} : List (Nat × α) → Nat → Option α
  | [], _ => none
  | (i, x) :: l, k => bif Nat.beq i k then some x else lkN l k
def lkNN {α : Type} : List (Nat × Nat × α) → Nat → Nat → Option α
  | [], _, _ => none
  | (i, j, x) :: l, k, m => bif Nat.beq i k && Nat.beq j m then some x else lkNN l k m
def nthD {α : Type} (d : α) : List α → Nat → α
  | [], _ => d
  | x :: _, 0 => x
  | _ :: l, n + 1 => nthD d l n
def blkOf : Value → Nat
  | .pointer (some a) => a.block
  | .map (some b) => b
  | _ => 0
/-- A plan out of lists: ms: who precedes (a mask each); tcs: what is touched; mks: who makes; sps: whose value is drawn, and what is said of it; tb: what a thing is behind an operation (thing, operation); vs: the values. -/
def mkPlan (ops : Array Oper) (Γ : List Res) (m : Nat) (ms : List Nat) (tcs : List (Nat × List (Nat × Bool × Nat))) (mks : List Nat) (sps : List (Nat × (Value → Prop))) (tb : List (Nat × Nat × (Gh → Res))) (vs : List (Gh → Value)) : Plan where
  n := ops.size
  m := m
  pr := fun j i => (nthD 0 ms i).testBit j
  ds := fun i => (ops[i]?).bind Oper.dst
  tc := fun i => (lkN tcs i).getD []
  mkn := fun i => mks.any fun k => Nat.beq k i
  fr := fun i => (lkN sps i).isSome
  A := fun r v g => match v with
    | 0 => Γ.getD r emp
    | v + 1 => match lkNN tb r v with
      | some f => f g
      | none => emp
  V := fun i g => nthD (fun _ => undef) vs i g
  sp := fun i v => match lkN sps i with
    | some f => f v
    | none => True

def nodupB : List Nat → Bool
  | [] => true
  | x :: l => !(l.any fun y => Nat.beq y x) && nodupB l
theorem nodupB_spec : ∀ {l : List Nat}, nodupB l = true → l.Nodup
  | [], _ => List.nodup_nil
  | x :: l, h => by
    unfold nodupB at h
    obtain ⟨h1, h2⟩ := Bool.and_eq_true_iff.1 h
    refine List.nodup_cons.2 ⟨fun q => ?_, nodupB_spec h2⟩
    have : (l.any fun y => Nat.beq y x) = true := List.any_eq_true.2 ⟨x, q, by simp⟩
    simp [this] at h1
def upTo (q : Nat → Bool) : Nat → Bool
  | 0 => true
  | n + 1 => upTo q n && q n
theorem upTo_spec {q : Nat → Bool} : ∀ {n : Nat}, upTo q n = true → ∀ i, i < n → q i = true
  | 0, _, i, h => by omega
  | n + 1, h, i, hi => by
    unfold upTo at h
    obtain ⟨h1, h2⟩ := Bool.and_eq_true_iff.1 h
    by_cases e : i = n
    · subst e; exact h2
    · exact upTo_spec h1 i (by omega)
def maskOf (ms : List Nat) : List Edge → Nat
  | [] => 0
  | e :: es => (bif Region.binds .any e then 2 ^ e.on ||| nthD 0 ms e.on else 0) ||| maskOf ms es
theorem maskOf_spec {ms : List Nat} {j : Nat} : ∀ {es : List Edge}, (maskOf ms es).testBit j = true → ∃ e ∈ es, Region.binds .any e = true ∧ (e.on = j ∨ (nthD 0 ms e.on).testBit j = true)
  | [], h => by simp [maskOf] at h
  | e :: es, h => by
    unfold maskOf at h
    rw [Nat.testBit_or, Bool.or_eq_true] at h
    rcases h with h | h
    · cases hb : Region.binds .any e with
      | false => rw [hb] at h; simp at h
      | true =>
        rw [hb] at h
        simp only [cond_true, Nat.testBit_or, Bool.or_eq_true] at h
        refine ⟨e, List.mem_cons_self .., hb, h.imp (fun q => ?_) id⟩
        rw [Nat.testBit_two_pow] at q
        simpa using q
    · obtain ⟨e', h1, h2⟩ := maskOf_spec h
      exact ⟨e', List.mem_cons_of_mem _ h1, h2⟩
def Plan.opB (p : Plan) (ms : List Nat) (N : Nat) (i : Nat) (o : Oper) : Bool :=
  Nat.beq (nthD 0 ms i) (maskOf ms o.after.toList) && Nat.blt (nthD 0 ms i) (2 ^ i) && (o.after.toList.all fun e => !Region.binds .any e || Nat.blt e.on i) && fits N o.dst &&
  nodupB ((p.tc i).map (·.1)) &&
  ((p.tc i).all fun x => Nat.blt x.1 (p.m + p.n) && !Nat.beq x.1 (p.m + i) && Nat.beq x.2.2 (Plan.last (fun k => p.pr k i && p.writes k x.1) p.n) && upTo (fun k => Nat.beq k i || !p.writes k x.1 || p.pr k i || p.pr i k) p.n) &&
  (!p.mkn i || upTo (fun k => Nat.beq k i || !p.writes k (p.m + i) || p.pr i k) p.n)
def Plan.opsB (p : Plan) (ms : List Nat) (N : Nat) : Nat → List Oper → Bool
  | _, [] => true
  | i, o :: os => p.opB ms N i o && p.opsB ms N (i + 1) os
theorem Plan.opsB_spec {p : Plan} {ms : List Nat} {N : Nat} : ∀ {os : List Oper} {i : Nat}, p.opsB ms N i os = true → ∀ (j : Nat) (o : Oper), os[j]? = some o → p.opB ms N (i + j) o = true
  | [], _, _, j, o, h => by simp at h
  | o' :: os, i, h, j, o, ho => by
    unfold Plan.opsB at h
    obtain ⟨h1, h2⟩ := Bool.and_eq_true_iff.1 h
    cases j with
    | zero => simp at ho; subst ho; exact h1
    | succ j =>
      have := Plan.opsB_spec h2 j o (by simpa using ho)
      rwa [show i + 1 + j = i + (j + 1) by omega] at this
def dstsB (ops : Array Oper) : List Nat := ops.toList.filterMap Oper.dst

theorem filterMap_uniq {α : Type} {f : α → Option Nat} : ∀ {l : List α}, (l.filterMap f).Nodup → ∀ (i j : Nat) (a b : α) (d : Nat), l[i]? = some a → l[j]? = some b → f a = some d → f b = some d → i = j
  | [], _, i, j, a, b, d, h, _, _, _ => by simp at h
  | x :: l, hn, i, j, a, b, d, h1, h2, h3, h4 => by
    cases hx : f x with
    | none =>
      rw [List.filterMap_cons_none hx] at hn
      cases i with
      | zero => simp at h1; subst h1; rw [hx] at h3; cases h3
      | succ i =>
        cases j with
        | zero => simp at h2; subst h2; rw [hx] at h4; cases h4
        | succ j => rw [filterMap_uniq hn i j a b d (by simpa using h1) (by simpa using h2) h3 h4]
    | some y =>
      rw [List.filterMap_cons_some hx] at hn
      obtain ⟨hn1, hn2⟩ := List.nodup_cons.1 hn
      cases i with
      | zero =>
        simp at h1
        subst h1
        cases j with
        | zero => rfl
        | succ j =>
          rw [hx] at h3
          cases h3
          exact absurd (List.mem_filterMap.2 ⟨b, List.mem_of_getElem? (by simpa using h2), h4⟩) hn1
      | succ i =>
        cases j with
        | zero =>
          simp at h2
          subst h2
          rw [hx] at h4
          cases h4
          exact absurd (List.mem_filterMap.2 ⟨a, List.mem_of_getElem? (by simpa using h1), h3⟩) hn1
        | succ j => rw [filterMap_uniq hn2 i j a b d (by simpa using h1) (by simpa using h2) h3 h4]

section
variable {P : Program} {ops : Array Oper} {Q : Exit → Act → World → Prop} {N : Nat} {B : Nat → Prop} {w0 : World} {σ : List (Nat × Value)} {Γ : List Res}
  {m : Nat} {ms : List Nat} {tcs : List (Nat × List (Nat × Bool × Nat))} {mks : List Nat} {sps : List (Nat × (Value → Prop))} {tb : List (Nat × Nat × (Gh → Res))} {vs : List (Gh → Value)}

theorem mkPlan_fit (h1 : nodupB (dstsB ops) = true) (h2 : (mkPlan ops Γ m ms tcs mks sps tb vs).opsB ms N 0 ops.toList = true) : (mkPlan ops Γ m ms tcs mks sps tb vs).Fit ops N := by
  have hop : ∀ (i : Nat) (o : Oper), ops[i]? = some o → (mkPlan ops Γ m ms tcs mks sps tb vs).opB ms N i o = true := fun i o ho => by
    have := Plan.opsB_spec h2 i o (by simpa using ho)
    rwa [Nat.zero_add] at this
  have hget : ∀ i, i < ops.size → ∃ o, ops[i]? = some o := fun i hi => ⟨ops[i], by simp [hi]⟩
  generalize hp : mkPlan ops Γ m ms tcs mks sps tb vs = p at *
  have hn : p.n = ops.size := by rw [← hp]; rfl
  have hds : ∀ i, p.ds i = (ops[i]?).bind Oper.dst := fun i => by rw [← hp]; rfl
  have hpr : ∀ j i, p.pr j i = (nthD 0 ms i).testBit j := fun j i => by rw [← hp]; rfl
  have all : ∀ i, i < p.n → ∃ o, ops[i]? = some o ∧ _ := fun i hi => by
    obtain ⟨o, ho⟩ := hget i (hn ▸ hi)
    have h := hop i o ho
    unfold Plan.opB at h
    simp only [Bool.and_eq_true] at h
    exact ⟨o, ho, h⟩
  refine ⟨hn.symm, fun i o ho => by rw [hds, ho]; rfl, fun i hi => ?_, fun i j d hi hj e1 e2 => ?_, fun j i hi q => ?_, fun i o ho j q => ?_, fun i o ho e he hb => ?_, fun i hi => ?_, fun i hi x hx => ?_, fun i hi x hx => ?_, fun i hi x hx k hk hne hw => ?_, fun i hi hm k hk hne hw => ?_, fun i hi x hx => ?_⟩
  · obtain ⟨o, ho, h⟩ := all i hi
    rw [hds, ho]; exact h.1.1.1.2
  · obtain ⟨o, ho⟩ := hget i (hn ▸ hi)
    obtain ⟨o', ho'⟩ := hget j (hn ▸ hj)
    rw [hds, ho] at e1
    rw [hds, ho'] at e2
    exact filterMap_uniq (l := ops.toList) (f := Oper.dst) (nodupB_spec h1) i j o o' d (by simpa using ho) (by simpa using ho') e1 e2
  · obtain ⟨o, ho, h⟩ := all i hi
    have hlt : nthD 0 ms i < 2 ^ i := by simpa using h.1.1.1.1.1.2
    rw [hpr] at q
    rcases Nat.lt_or_ge j i with h' | h'
    · exact h'
    · rw [Nat.testBit_lt_two_pow (Nat.lt_of_lt_of_le hlt (Nat.pow_le_pow_right (by decide) h'))] at q
      cases q
  · have h := hop i o ho
    unfold Plan.opB at h
    simp only [Bool.and_eq_true] at h
    have e := Nat.eq_of_beq_eq_true h.1.1.1.1.1.1
    rw [hpr, e] at q
    obtain ⟨e', h1, h2, h3⟩ := maskOf_spec q
    exact ⟨e', by simpa using h1, h2, h3.imp id fun q => by rw [hpr]; exact q⟩
  · have h := hop i o ho
    unfold Plan.opB at h
    simp only [Bool.and_eq_true] at h
    have := List.all_eq_true.1 h.1.1.1.1.2 e (by simpa using he)
    simpa [hb] using this
  · obtain ⟨o, ho, h⟩ := all i hi
    exact nodupB_spec h.1.1.2
  · obtain ⟨o, ho, h⟩ := all i hi
    have := List.all_eq_true.1 h.1.2 x hx
    simp only [Bool.and_eq_true] at this
    simpa using this.1.1.1
  · obtain ⟨o, ho, h⟩ := all i hi
    have := List.all_eq_true.1 h.1.2 x hx
    simp only [Bool.and_eq_true] at this
    have h3 := this.1.1.2
    intro e
    rw [e] at h3
    simp at h3
  · obtain ⟨o, ho, h⟩ := all i hi
    have := List.all_eq_true.1 h.1.2 x hx
    simp only [Bool.and_eq_true] at this
    have h3 := upTo_spec this.2 k hk
    have hb : Nat.beq k i = false := by
      cases hb : Nat.beq k i with
      | false => rfl
      | true => exact absurd (Nat.eq_of_beq_eq_true hb) hne
    rw [hb, hw] at h3
    simpa using h3
  · obtain ⟨o, ho, h⟩ := all i hi
    have h2 := h.2
    rw [hm] at h2
    have h3 := upTo_spec (by simpa using h2) k hk
    have hb : Nat.beq k i = false := by
      cases hb : Nat.beq k i with
      | false => rfl
      | true => exact absurd (Nat.eq_of_beq_eq_true hb) hne
    rw [hb, hw] at h3
    simpa using h3
  · obtain ⟨o, ho, h⟩ := all i hi
    have := List.all_eq_true.1 h.1.2 x hx
    simp only [Bool.and_eq_true] at this
    exact Nat.eq_of_beq_eq_true this.1.2

/-- What is drawn later is not looked at, by lists. -/
def DepV (ms : List Nat) (k : Nat) : Nat → List (Gh → Value) → Prop
  | _, [] => True
  | i, f :: fs => (bif Nat.beq i k || (nthD 0 ms i).testBit k then True else ∀ g x, f (updG g k x) = f g) ∧ DepV ms k (i + 1) fs
def DepT (ms : List Nat) (k : Nat) : List (Nat × Nat × (Gh → Res)) → Prop
  | [] => True
  | (r, v, f) :: ts => (bif Nat.beq v k || (nthD 0 ms v).testBit k then True else ∀ g x, f (updG g k x) = f g) ∧ DepT ms k ts
def DepL (ms : List Nat) (tb : List (Nat × Nat × (Gh → Res))) (vs : List (Gh → Value)) : List (Nat × (Value → Prop)) → Prop
  | [] => True
  | s :: ss => (DepV ms s.1 0 vs ∧ DepT ms s.1 tb) ∧ DepL ms tb vs ss
theorem DepV_spec {k : Nat} : ∀ {fs : List (Gh → Value)} {i : Nat}, DepV ms k i fs → ∀ j, i + j ≠ k → (nthD 0 ms (i + j)).testBit k = false → ∀ g x, nthD (fun _ => undef) fs j (updG g k x) = nthD (fun _ => undef) fs j g
  | [], i, _, j, _, _, g, x => rfl
  | f :: fs, i, h, 0, hk, hp, g, x => by
    have h1 := h.1
    have hb : Nat.beq i k = false := by
      cases hb : Nat.beq i k with
      | false => rfl
      | true => exact absurd (Nat.eq_of_beq_eq_true hb) (by simpa using hk)
    rw [Nat.add_zero] at hp
    rw [hb, hp] at h1
    exact h1 g x
  | f :: fs, i, h, j + 1, hk, hp, g, x => DepV_spec h.2 j (by omega) (by rw [show i + 1 + j = i + (j + 1) by omega]; exact hp) g x
theorem DepT_spec {k : Nat} : ∀ {ts : List (Nat × Nat × (Gh → Res))}, DepT ms k ts → ∀ (r v : Nat) (f : Gh → Res), lkNN ts r v = some f → v ≠ k → (nthD 0 ms v).testBit k = false → ∀ g x, f (updG g k x) = f g
  | [], _, r, v, f, e, _, _, g, x => by cases e
  | (r', v', f') :: ts, h, r, v, f, e, hk, hp, g, x => by
    unfold lkNN at e
    cases hb : (Nat.beq r' r && Nat.beq v' v) with
    | true =>
      rw [hb] at e
      simp only [cond_true, Option.some.injEq] at e
      subst e
      rw [Bool.and_eq_true] at hb
      have hv := Nat.eq_of_beq_eq_true hb.2
      subst hv
      have h1 := h.1
      have hb2 : Nat.beq v' k = false := by
        cases hb2 : Nat.beq v' k with
        | false => rfl
        | true => exact absurd (Nat.eq_of_beq_eq_true hb2) hk
      rw [hb2, hp] at h1
      exact h1 g x
    | false => rw [hb] at e; exact DepT_spec h.2 r v f e hk hp g x
theorem DepL_spec : ∀ {ss : List (Nat × (Value → Prop))}, DepL ms tb vs ss → ∀ k, (lkN ss k).isSome = true → DepV ms k 0 vs ∧ DepT ms k tb
  | [], _, k, h => by simp [lkN] at h
  | s :: ss, h, k, hk => by
    unfold lkN at hk
    cases hb : Nat.beq s.1 k with
    | true => have := Nat.eq_of_beq_eq_true hb; subst this; exact h.1
    | false => rw [hb] at hk; exact DepL_spec h.2 k hk
theorem mkPlan_dep (h : DepL ms tb vs sps) : (mkPlan ops Γ m ms tcs mks sps tb vs).dep := by
  intro k hk hf g x
  obtain ⟨h1, h2⟩ := DepL_spec h k hf
  refine ⟨fun i hi hne hp => ?_, fun r v hv => ?_⟩
  · have := DepV_spec h1 i (by rw [Nat.zero_add]; exact hne) (by rw [Nat.zero_add]; exact hp) g x
    exact this
  · rcases hv with rfl | ⟨j, rfl, hne, hp, hw⟩
    · rfl
    · have hA : ∀ g, (mkPlan ops Γ m ms tcs mks sps tb vs).A r (j + 1) g = match lkNN tb r j with
          | some f => f g
          | none => emp := fun g => rfl
      rw [hA, hA]
      cases e : lkNN tb r j with
      | none => rfl
      | some f => exact DepT_spec h2 r j f e hne hp g x
/-- The operations' duties, one behind another. -/
def ObL (p : Plan) (P : Program) (ops : Array Oper) (σ : List (Nat × Value)) : Nat → List Oper → Prop
  | _, [] => True
  | i, o :: os => p.ob P ops σ i o ∧ ObL p P ops σ (i + 1) os
theorem ObL_spec {p : Plan} : ∀ {os : List Oper} {i : Nat}, ObL p P ops σ i os → ∀ (j : Nat) (o : Oper), os[j]? = some o → p.ob P ops σ (i + j) o
  | [], _, _, j, o, h => by simp at h
  | o' :: os, i, h, 0, o, ho => by simp at ho; subst ho; exact h.1
  | o' :: os, i, h, j + 1, o, ho => by
    have := ObL_spec h.2 j o (by simpa using ho)
    rwa [show i + 1 + j = i + (j + 1) by omega] at this
/-- This slot is the last operation's, behind all others. -/
def lateB (ops : Array Oper) (ms : List Nat) (d : Nat) : Bool := match (ops[ops.size - 1]?).bind Oper.dst with
  | some d' => Nat.beq d' d && (List.range (ops.size - 1)).all fun j => (nthD 0 ms (ops.size - 1)).testBit j
  | none => false
def planB (ops : Array Oper) (N m : Nat) (σ : List (Nat × Value)) (ms : List Nat) (p : Plan) : Bool :=
  nodupB (dstsB ops) && p.opsB ms N 0 ops.toList && σ.all fun x => !((dstsB ops).any fun d => Nat.beq d x.1) || lateB ops ms x.1
theorem Cd.plan {K : Cx} {id : Nat} (ms : List Nat) (tcs : List (Nat × List (Nat × Bool × Nat))) (mks : List Nat) (sps : List (Nat × (Value → Prop))) (tb : List (Nat × Nat × (Gh → Res))) (vs : List (Gh → Value)) (hmix : K.P.follows .mixedOrders = true)
    (hB : planB ops K.N m σ ms (mkPlan ops Γ m ms tcs mks sps tb vs) = true) (hm : m = Γ.length) (hdep : DepL ms tb vs sps) (hob : ObL (mkPlan ops Γ m ms tcs mks sps tb vs) K.P ops σ 0 ops.toList)
    (hfin : ∀ g, Ex' K .normal Q ((mkPlan ops Γ m ms tcs mks sps tb vs).out σ g) ((mkPlan ops Γ m ms tcs mks sps tb vs).row (fun _ => true) g)) : Cd K (.region id ops true) Q σ Γ := by
  unfold planB at hB
  simp only [Bool.and_eq_true] at hB
  obtain ⟨⟨h1, h2⟩, h3⟩ := hB
  refine Cd.draw (mkPlan ops Γ m ms tcs mks sps tb vs) hmix (mkPlan_fit h1 h2) (mkPlan_dep hdep) (fun i d hi hd => ?_) hm (fun r g hr => rfl) (fun i o ho => ?_) fun g _ => hfin g
  · cases e : lkS σ d with
    | none => exact .inl rfl
    | some v =>
      have hx := List.all_eq_true.1 h3 _ (lkS_mem e)
      have hd' : (ops[i]?).bind Oper.dst = some d := hd
      have hi' : i < ops.size := hi
      obtain ⟨o, ho⟩ : ∃ o, ops[i]? = some o := ⟨ops[i], by simp [hi']⟩
      rw [ho] at hd'
      have hmem : d ∈ dstsB ops := List.mem_filterMap.2 ⟨o, List.mem_of_getElem? (i := i) (by simpa using ho), hd'⟩
      have hany : ((dstsB ops).any fun d' => Nat.beq d' d) = true := List.any_eq_true.2 ⟨d, hmem, by simp⟩
      simp only [hany, Bool.not_true, Bool.false_or] at hx
      refine .inr fun j hj hne => ?_
      unfold lateB at hx
      cases hl : (ops[ops.size - 1]?).bind Oper.dst with
      | none => rw [hl] at hx; cases hx
      | some d' =>
        rw [hl] at hx
        simp only [Bool.and_eq_true] at hx
        obtain ⟨hx1, hx2⟩ := hx
        have : d' = d := Nat.eq_of_beq_eq_true hx1
        subst this
        have hil : i = ops.size - 1 := (mkPlan_fit (Γ := Γ) (m := m) (tcs := tcs) (mks := mks) (sps := sps) (tb := tb) (vs := vs) h1 h2).dstU i (ops.size - 1) d' hi (by show ops.size - 1 < ops.size; omega) hd hl
        subst hil
        have hj' : j < ops.size := hj
        exact List.all_eq_true.1 hx2 j (List.mem_range.2 (by omega))
  · have := ObL_spec hob i o (by simpa using ho)
    rwa [Nat.zero_add] at this

/-! ### duties -/
variable {p : Plan} {i : Nat} {o : Oper}
def obRun (p : Plan) (P : Program) (ops : Array Oper) (σ : List (Nat × Value)) (g : Gh) (i : Nat) (o : Oper) (w : World) : Option (Result Next) :=
  match wants ops (p.slots σ g i) o, p.fr i || p.mkn i || !(p.tc i).isEmpty with
  | some true, false => bif known (p.slots σ g i) o && plainOp o then some ((execOp (evD (p.slots σ g i)) o).run P w) else none
  | some false, false => some (.ok (.value undef) w)
  | _, _ => none
/-- An operation that looks at slots alone, or doesn't run. -/
theorem ob_val (h : ∀ g w, obRun p P ops σ g i o w = some (.ok (.value (p.V i g)) w)) : p.ob P ops σ i o := by
  intro g _
  have h1 := h g
  unfold obRun at h1
  cases hf : (p.fr i || p.mkn i || !(p.tc i).isEmpty) with
  | true => exact absurd (h1 default) (by rw [hf]; cases wants ops (p.slots σ g i) o with | none => simp | some t => cases t <;> simp)
  | false =>
    rw [hf] at h1
    simp only [Bool.or_eq_false_iff, Bool.not_eq_false', List.isEmpty_iff] at hf
    obtain ⟨⟨hf1, hf2⟩, hf3⟩ := hf
    cases hw : wants ops (p.slots σ g i) o with
    | none => rw [hw] at h1; exact absurd (h1 default) (by simp)
    | some t =>
      rw [hw] at h1
      cases t with
      | false =>
        have := h1 default
        simp at this
        exact .inr ⟨rfl, this.symm, hf3, hf2, hf1⟩
      | true =>
        cases hk : (known (p.slots σ g i) o && plainOp o) with
        | false => rw [hk] at h1; exact absurd (h1 default) (by simp)
        | true =>
          rw [hk] at h1
          simp only [Bool.and_eq_true] at hk
          refine .inl ⟨rfl, ?_⟩
          have h3 : OprV P (p.slots σ g i) o (p.V i g) := pureV hk.1 hk.2 fun w => by have := h1 w; simpa using this
          have hpre : p.pre g i = [] := by unfold Plan.pre; rw [hf3]; rfl
          rw [hpre]
          refine h3.mono fun v l' ⟨e1, e2⟩ => ⟨g, .inl rfl, fun q => (by rw [hf1] at q; cases q), e1, ?_⟩
          unfold Plan.post; rw [hf3, hf2, e2]; rfl
/-- One that says what it does to what it touches. -/
theorem ob_same (hf : p.fr i = false) (hw : ∀ g, wants ops (p.slots σ g i) o = some true) (h : ∀ g, Opr P (p.slots σ g i) o (p.pre g i) (Same (p.post g i) (p.V i g))) : p.ob P ops σ i o := fun g _ =>
  .inl ⟨hw g, (h g).mono fun v l' ⟨e1, e2⟩ => ⟨g, .inl rfl, fun q => (by rw [hf] at q; cases q), e1, e2⟩⟩
/-- One whose value is drawn. -/
theorem ob_drawn (hf : p.fr i = true) (hw : ∀ g, wants ops (p.slots σ g i) o = some true) {Post : Gh → Value → List Res → Prop} (h : ∀ g, Opr P (p.slots σ g i) o (p.pre g i) (Post g))
    (hp : ∀ g v l', Post g v l' → ∃ x, p.sp i x ∧ v = p.V i (updG g i x) ∧ l' = p.post (updG g i x) i) : p.ob P ops σ i o := fun g _ =>
  .inl ⟨hw g, (h g).mono fun v l' q => by
    obtain ⟨x, h1, h2, h3⟩ := hp g v l' q
    refine ⟨updG g i x, .inr ⟨hf, x, h1, rfl⟩, fun _ => ?_, h2, h3⟩
    have : updG g i x i = x := by unfold updG; simp
    rw [this]; exact h1⟩
theorem Ex'.as {K : Cx} {e : Exit} {σ' : List (Nat × Value)} {Γ' : List Res} (is : List Nat) (h1 : σ = σ') (h2 : nodupB is = true) (h3 : (is.all fun i => Nat.blt i Γ.length) = true) (h4 : pickR Γ is = Γ') (h : Ex' K e Q σ' Γ') : Ex' K e Q σ Γ := fun a w hS hΓ => by
  subst h1 h4
  exact h a w hS (hΓ.keep is (nodupB_spec h2) fun i hi => by simpa using List.all_eq_true.1 h3 i hi)
end
end Go.Proofs.Ythbffkdfahlpdaa
