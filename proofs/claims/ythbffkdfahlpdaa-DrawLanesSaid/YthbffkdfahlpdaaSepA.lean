/- Walks over what is owned apart: code, regions in the text's order. Over any program; no condition. -/
import Derived.Test.YthbffkdfahlpdaaSep
import Derived.Scope
import Derived.Deep.LoopGhost
set_option linter.unusedVariables false
namespace Go.Proofs.Ythbffkdfahlpdaa
open Go.RowKit Go.MapKept

/-- What slots hold: the last word counts. -/
def lkS : List (Nat × Value) → Nat → Option Value
  | [], _ => none
  | (s, v) :: σ, k => bif Nat.beq s k then some v else lkS σ k
def ev (σ : List (Nat × Value)) : Operand → Option Value
  | .tmp t => lkS σ t
  | .const v => some v
  | .global g => some (.pointer (some ⟨g, 0, none⟩))
  | .func f => some (.func (.func f) #[] #[])
def evs (σ : List (Nat × Value)) : List Operand → Option (List Value)
  | [] => some []
  | x :: xs => match ev σ x, evs σ xs with
    | some v, some vs => some (v :: vs)
    | _, _ => none
/-- These are the slots' values. -/
def Knows (σ : List (Nat × Value)) (ρ : Operand → Value) : Prop := ∀ x v, ev σ x = some v → ρ x = v
structure Sl (N : Nat) (σ : List (Nat × Value)) (a : Act) : Prop where
  size : a.tmps.size = N
  defers : a.defers = []
  slot : ∀ k v, lkS σ k = some v → a.tmps[k]? = some v
def putS (d : Option Nat) (v : Value) (σ : List (Nat × Value)) : List (Nat × Value) := match d with
  | some d => (d, v) :: σ
  | none => σ
def fits (N : Nat) : Option Nat → Bool
  | some d => Nat.blt d N
  | none => true
theorem Sl.knows {N : Nat} {σ : List (Nat × Value)} {a : Act} (h : Sl N σ a) : Knows σ a.eval := by
  intro x v e
  cases x with
  | tmp t => have := h.slot t v e; simp [Act.eval, this]
  | const u => cases e; rfl
  | global g => cases e; rfl
  | func f => cases e; rfl
theorem Sl.put {N : Nat} {σ : List (Nat × Value)} {a : Act} (h : Sl N σ a) (d : Option Nat) (hd : fits N d = true) (v : Value) : Sl N (putS d v σ) (a.put d v) := by
  cases d with
  | none => exact h
  | some d =>
    have hlt : d < N := by simpa [fits] using hd
    refine ⟨by simp [Act.put, h.size], h.defers, fun k u e => ?_⟩
    unfold putS lkS at e
    cases hb : Nat.beq d k with
    | true =>
      have := Nat.eq_of_beq_eq_true hb
      subst this
      rw [hb] at e
      simp at e
      subst e
      simp [Act.put, h.size, hlt]
    | false =>
      rw [hb] at e
      have hne : d ≠ k := fun q => by subst q; simp at hb
      have := h.slot k u e
      simpa [Act.put, Array.getElem?_setIfInBounds_ne hne] using this
/-- Forgetting slots. -/
def subS (σ σ' : List (Nat × Value)) : Prop := ∀ k v, lkS σ' k = some v → lkS σ k = some v
theorem Sl.sub {N : Nat} {σ σ' : List (Nat × Value)} {a : Act} (h : Sl N σ a) (hs : subS σ σ') : Sl N σ' a := ⟨h.size, h.defers, fun k v e => h.slot k v (hs k v e)⟩
theorem subS.nil {σ : List (Nat × Value)} : subS σ [] := fun _ _ e => by cases e
theorem subS.cons {σ σ' : List (Nat × Value)} {d : Nat} {v : Value} (h : lkS σ d = some v) (t : subS σ σ') : subS σ ((d, v) :: σ') := fun k u e => by
  unfold lkS at e
  cases hb : Nat.beq d k with
  | true =>
    have := Nat.eq_of_beq_eq_true hb
    subst this
    rw [hb] at e
    simp at e
    subst e
    exact h
  | false => rw [hb] at e; exact t k u e

/-- Where a walk is: the program, the frame's size, what may turn, since when. -/
structure Cx where
  P : Program
  N : Nat
  B : Nat → Prop
  w0 : World
/-- Behind a piece: it ends so. -/
def Ex' (K : Cx) (e : Exit) (Q : Exit → Act → World → Prop) (σ : List (Nat × Value)) (Γ : List Res) : Prop := ∀ a w, Sl K.N σ a → St K.B K.w0 Γ w → Q e a w
/-- Ahead of a piece. -/
def Cd (K : Cx) (c : Code) (Q : Exit → Act → World → Prop) (σ : List (Nat × Value)) (Γ : List Res) : Prop := ∀ a w, Sl K.N σ a → St K.B K.w0 Γ w → c.wp K.P Q a w
/-- In a region. -/
def Sq (K : Cx) (ops : Array Oper) (l : List Nat) (Q : Exit → Act → World → Prop) (σ : List (Nat × Value)) (Γ : List Res) : Prop := ∀ a w, Sl K.N σ a → St K.B K.w0 Γ w → wpOps K.P ops Q l a w
/-- An operation, where slots hold these values. -/
def Opr (P : Program) (σ : List (Nat × Value)) (o : Oper) (l : List Res) (Post : Value → List Res → Prop) : Prop := ∀ ρ, Knows σ ρ → OpR P ρ o l Post
theorem Opr.mono {P : Program} {σ : List (Nat × Value)} {o : Oper} {l : List Res} {Post Post' : Value → List Res → Prop} (h : Opr P σ o l Post) (hp : ∀ v l', Post v l' → Post' v l') : Opr P σ o l Post' := by
  intro ρ hρ w own hH hO
  have hb : ∀ {v w'}, Became Post own w v w' → Became Post' own w v w' := fun ⟨l', own', q, r⟩ => ⟨l', own', hp _ _ q, r⟩
  rcases h ρ hρ w own hH hO with ⟨v, w', h1, h2⟩ | ⟨f, args, h1, h2⟩
  · exact .inl ⟨v, w', h1, hb h2⟩
  · exact .inr ⟨f, args, h1, h2.mono fun _ _ ⟨v, e, q⟩ => ⟨v, e, hb q⟩⟩
/-- Does the operation run? -/
def wants (ops : Array Oper) (σ : List (Nat × Value)) (o : Oper) : Option Bool := match o.guard with
  | none => some true
  | some (g, b) => match (ops[g]?).bind Oper.dst with
    | some d => match lkS σ d with
      | some (.bool b') => some (b' == b)
      | some _ => some false
      | none => none
    | none => some false
theorem wants_of {N : Nat} {ops : Array Oper} {σ : List (Nat × Value)} {o : Oper} {a : Act} (h : Sl N σ a) {t : Bool} (hw : wants ops σ o = some t) : Region.wanted o (yielded ops a.tmps) = t := by
  unfold wants at hw
  unfold Region.wanted
  cases hg : o.guard with
  | none => rw [hg] at hw; simp at hw; simp [hw]
  | some gb =>
    obtain ⟨g, b⟩ := gb
    rw [hg] at hw
    simp only at hw ⊢
    unfold yielded
    cases hd : (ops[g]?).bind Oper.dst with
    | none => simp [hd] at hw ⊢; exact hw
    | some d =>
      rw [hd] at hw
      simp only at hw
      cases hl : lkS σ d with
      | none => simp [hl] at hw
      | some v =>
        have := h.slot d v hl
        rw [hl] at hw
        simp only [Option.bind_some, this]
        cases v <;> simp at hw ⊢ <;> try exact hw
        done

section
variable {K : Cx} {Q : Exit → Act → World → Prop} {σ : List (Nat × Value)} {Γ : List Res} {ops : Array Oper}

theorem Sq.done (h : Ex' K .normal Q σ Γ) : Sq K ops [] Q σ Γ := h
theorem Sq.skip {i : Nat} {rest : List Nat} {o : Oper} (ho : ops[i]? = some o) (hw : wants ops σ o = some false) (hd : fits K.N o.dst = true) (h : Sq K ops rest Q (putS o.dst undef σ) Γ) : Sq K ops (i :: rest) Q σ Γ := by
  intro a w hS hΓ
  simp only [wpOps, ho, wants_of hS hw, Bool.false_eq_true, if_false]
  exact h _ _ (hS.put _ hd _) hΓ
theorem Opr.wp {is : List Nat} {Post : Value → List Res → Prop} {o : Oper} (h : Opr K.P σ o (pickR Γ is) Post) (hn : is.Nodup) (hl : ∀ i ∈ is, i < Γ.length) (hp : ∀ v l', Post v l' → is.length ≤ l'.length)
    {a : Act} {w : World} (hS : Sl K.N σ a) (hΓ : St K.B K.w0 Γ w) {next : Act → World → Prop} (hK : ∀ v l' w', Post v l' → St K.B K.w0 (updR Γ is l') w' → next (a.put o.dst v) w') : o.wp K.P a w next Q := by
  obtain ⟨own, hM, hO, hH⟩ := hΓ
  have hgo : ∀ v w', Became Post (selR is own) w v w' → next (a.put o.dst v) w' := fun v w' hb => by
    obtain ⟨l', h1, h2⟩ := St.became hM hO hH hn hl hp hb
    exact hK v l' w' h1 h2
  unfold Oper.wp
  rcases h a.eval hS.knows w (selR is own) (hH.pick hn hl) (fun k _ => by unfold pickR; rw [List.length_map]; exact sel_le is own k) with ⟨v, w', h1, h2⟩ | ⟨f, args, h1, h2⟩
  · rcases h1 with h1 | ⟨h1, rfl⟩
    · rw [h1]; exact hgo v w' h2
    · rw [h1]; exact hgo _ w' h2
  · rw [h1]
    refine Calls.mono h2 ?_
    rintro e w' ⟨v, rfl, h3⟩
    exact hgo v w' h3
theorem Sq.op {i : Nat} {rest : List Nat} {o : Oper} (ho : ops[i]? = some o) (hw : wants ops σ o = some true) (hd : fits K.N o.dst = true) (is : List Nat) {Post : Value → List Res → Prop} (h : Opr K.P σ o (pickR Γ is) Post)
    (hn : is.Nodup) (hl : ∀ i ∈ is, i < Γ.length) (hp : ∀ v l', Post v l' → is.length ≤ l'.length)
    (hK : ∀ v l', Post v l' → Sq K ops rest Q (putS o.dst v σ) (updR Γ is l')) : Sq K ops (i :: rest) Q σ Γ := by
  intro a w hS hΓ
  simp only [wpOps, ho, wants_of hS hw, if_true]
  exact .inl (h.wp hn hl hp hS hΓ fun v l' w' h1 h2 => hK v l' h1 _ _ (hS.put _ hd _) h2)
/-- An operation that makes and turns nothing. -/
def OprV (P : Program) (σ : List (Nat × Value)) (o : Oper) (v : Value) : Prop := Opr P σ o [] fun v' l' => v' = v ∧ l' = []
theorem Sq.val {i : Nat} {rest : List Nat} {o : Oper} (ho : ops[i]? = some o) (hw : wants ops σ o = some true) (hd : fits K.N o.dst = true) {v : Value} (h : OprV K.P σ o v)
    (hK : Sq K ops rest Q (putS o.dst v σ) Γ) : Sq K ops (i :: rest) Q σ Γ :=
  Sq.op ho hw hd [] h List.nodup_nil (by simp) (fun _ _ _ => Nat.zero_le _) fun v' l' ⟨e, e'⟩ => by subst e e'; simpa [updR, setAll] using hK

/-! ### code -/
theorem Cd.region {id : Nat} {l : List Nat} (hl : List.range ops.size = l) (h : Sq K ops l Q σ Γ) : Cd K (.region id ops false) Q σ Γ := fun a w hS hΓ => wp_region (hl ▸ h a w hS hΓ)
theorem Cd.seq {x y : Code} (h : Cd K x (Exit.then (y.wp K.P Q) Q) σ Γ) : Cd K (.seq x y) Q σ Γ := fun a w hS hΓ => wp_seq (h a w hS hΓ)
theorem Ex'.next {y : Code} (h : Cd K y Q σ Γ) : Ex' K .normal (Exit.then (y.wp K.P Q) Q) σ Γ := h
theorem Ex'.thenRet {y : Act → World → Prop} (h : Ex' K .ret Q σ Γ) : Ex' K .ret (Exit.then y Q) σ Γ := h
theorem Ex'.thenExit {id : Nat} {y : Act → World → Prop} (h : Ex' K (.exit id) Q σ Γ) : Ex' K (.exit id) (Exit.then y Q) σ Γ := h
theorem Ex'.blockNormal {id : Nat} (h : Ex' K .normal Q σ Γ) : Ex' K .normal (Exit.inBlock id Q) σ Γ := h
theorem Ex'.blockRet {id : Nat} (h : Ex' K .ret Q σ Γ) : Ex' K .ret (Exit.inBlock id Q) σ Γ := h
theorem Ex'.blockHit {id : Nat} (h : Ex' K .normal Q σ Γ) : Ex' K (.exit id) (Exit.inBlock id Q) σ Γ := fun a w hS hΓ => by simp only [Exit.inBlock, if_true]; exact h a w hS hΓ
theorem Ex'.blockMiss {id id' : Nat} (hb : Nat.beq id' id = false) (h : Ex' K (.exit id') Q σ Γ) : Ex' K (.exit id') (Exit.inBlock id Q) σ Γ := fun a w hS hΓ => by
  have : id' ≠ id := fun e => by subst e; simp at hb
  simp only [Exit.inBlock, if_neg this]; exact h a w hS hΓ
theorem Cd.skip (h : Ex' K .normal Q σ Γ) : Cd K .skip Q σ Γ := fun a w hS hΓ => wp_skip (h a w hS hΓ)
theorem Cd.ret (h : Ex' K .ret Q σ Γ) : Cd K .ret Q σ Γ := fun a w hS hΓ => wp_ret (h a w hS hΓ)
theorem Cd.exit {id : Nat} (h : Ex' K (.exit id) Q σ Γ) : Cd K (.exit id) Q σ Γ := fun a w hS hΓ => wp_exit (h a w hS hΓ)
theorem Cd.block {id : Nat} {c : Code} (h : Cd K c (Exit.inBlock id Q) σ Γ) : Cd K (.block id c) Q σ Γ := fun a w hS hΓ => wp_block (h a w hS hΓ)
theorem Cd.condT {c : Operand} {x y : Code} (hc : ev σ c = some (.bool true)) (h : Cd K x Q σ Γ) : Cd K (.cond c x y) Q σ Γ := fun a w hS hΓ => wp_cond_true (hS.knows c _ hc) (h a w hS hΓ)
theorem Cd.condF {c : Operand} {x y : Code} (hc : ev σ c = some (.bool false)) (h : Cd K y Q σ Γ) : Cd K (.cond c x y) Q σ Γ := fun a w hS hΓ => wp_cond_false (hS.knows c _ hc) (h a w hS hΓ)
theorem Cd.cond {c : Operand} {x y : Code} {t : Bool} (hc : ev σ c = some (.bool t)) (h1 : t = true → Cd K x Q σ Γ) (h2 : t = false → Cd K y Q σ Γ) : Cd K (.cond c x y) Q σ Γ := fun a w hS hΓ => by
  cases t
  · exact wp_cond_false (hS.knows c _ hc) (h2 rfl a w hS hΓ)
  · exact wp_cond_true (hS.knows c _ hc) (h1 rfl a w hS hΓ)
theorem Cd.sub {c : Code} {σ' : List (Nat × Value)} (hs : subS σ σ') (h : Cd K c Q σ' Γ) : Cd K c Q σ Γ := fun a w hS hΓ => h a w (hS.sub hs) hΓ
theorem Ex'.sub {e : Exit} {σ' : List (Nat × Value)} (hs : subS σ σ') (h : Ex' K e Q σ' Γ) : Ex' K e Q σ Γ := fun a w hS hΓ => h a w (hS.sub hs) hΓ
/-- The things, seen otherwise. -/
theorem Cd.st {c : Code} (h : ∀ w, St K.B K.w0 Γ w → ∃ Γ', St K.B K.w0 Γ' w ∧ Cd K c Q σ Γ') : Cd K c Q σ Γ := fun a w hS hΓ => by
  obtain ⟨Γ', h1, h2⟩ := h w hΓ
  exact h2 a w hS h1
theorem Ex'.st {e : Exit} (h : ∀ w, St K.B K.w0 Γ w → ∃ Γ', St K.B K.w0 Γ' w ∧ Ex' K e Q σ Γ') : Ex' K e Q σ Γ := fun a w hS hΓ => by
  obtain ⟨Γ', h1, h2⟩ := h w hΓ
  exact h2 a w hS h1
theorem Sq.st {l : List Nat} (h : ∀ w, St K.B K.w0 Γ w → ∃ Γ', St K.B K.w0 Γ' w ∧ Sq K ops l Q σ Γ') : Sq K ops l Q σ Γ := fun a w hS hΓ => by
  obtain ⟨Γ', h1, h2⟩ := h w hΓ
  exact h2 a w hS h1
/-- What is said of a thing, laid open. -/
theorem Cd.fact {c : Code} {i : Nat} {R : Res} {φ : Prop} (hi : Γ[i]? = some R) (hφ : ∀ w S, R.p w S → φ) (h : φ → Cd K c Q σ Γ) : Cd K c Q σ Γ := fun a w hS hΓ => by
  obtain ⟨S, hR⟩ := hΓ.fact hi
  exact h (hφ w S hR) a w hS hΓ
theorem Cd.keep {c : Code} (is : List Nat) (hn : is.Nodup) (hl : ∀ i ∈ is, i < Γ.length) (h : Cd K c Q σ (pickR Γ is)) : Cd K c Q σ Γ := fun a w hS hΓ => h a w hS (hΓ.keep is hn hl)
/-- A round's end. -/
def Rnd (K : Cx) {ι : Type} (I : ι → Prop) (μ : ι → Nat) (σ' : ι → List (Nat × Value)) (Γ' : ι → List Res) (g : ι) : Act → World → Prop := fun a w => ∃ g', I g' ∧ μ g' < μ g ∧ Sl K.N (σ' g') a ∧ St K.B K.w0 (Γ' g') w
/-- A loop: where it stands is told by g; what it says of g goes down. -/
theorem Cd.loop {ι : Type} {c : Code} (I : ι → Prop) (μ : ι → Nat) (σ' : ι → List (Nat × Value)) (Γ' : ι → List Res) (g0 : ι) (h0 : I g0) (hs : subS σ (σ' g0)) (hΓ0 : ∀ w, St K.B K.w0 Γ w → St K.B K.w0 (Γ' g0) w)
    (round : ∀ g, I g → Cd K c (Exit.then (Rnd K I μ σ' Γ' g) Q) (σ' g) (Γ' g)) : Cd K (.loop c) Q σ Γ := fun a w hS hΓ => by
  refine wp_loop_ghost (fun n a w => ∃ g, μ g = n ∧ I g ∧ Sl K.N (σ' g) a ∧ St K.B K.w0 (Γ' g) w) (μ g0) ⟨g0, rfl, h0, hS.sub hs, hΓ0 w hΓ⟩ ?_
  rintro n a w ⟨g, rfl, h1, h2, h3⟩
  refine wp_mono (round g h1 a w h2 h3) ?_
  intro e a' w' hq
  cases e <;> try exact hq
  obtain ⟨g', q1, q2, q3, q4⟩ := hq
  exact ⟨μ g', q2, g', rfl, q1, q3, q4⟩
theorem Ex'.round {ι : Type} {I : ι → Prop} {μ : ι → Nat} {σ' : ι → List (Nat × Value)} {Γ' : ι → List Res} {g : ι} (g' : ι) (h1 : I g') (h2 : μ g' < μ g) (hs : subS σ (σ' g')) (hΓ : ∀ w, St K.B K.w0 Γ w → St K.B K.w0 (Γ' g') w) :
    Ex' K .normal (Exit.then (Rnd K I μ σ' Γ' g) Q) σ Γ := fun a w hS hG => ⟨g', h1, h2, hS.sub hs, hΓ w hG⟩
end
end Go.Proofs.Ythbffkdfahlpdaa
