/- A region that draws its order, whose operations make things and turn none: each operation is told where it stands, and every order is served. -/
import Derived.Test.YtjijjfdkghcjkaaWork
import Derived.Deep.RegionHeld3
import Derived.BigCall
set_option linter.unusedVariables false
namespace Go.Proofs.Ytjijjfdkghcjkaa
open Go.RowKit Go.MapKept

section
variable {P : Program} {ops : Array Oper} {Q : Exit → Act → World → Prop} {ds : List Nat} {Rs : List (Value → World → Prop)} {a : Act} {w : World}

/-- This very value. -/
def Ex (c : Value) : Value → World → Prop := fun v _ => v = c

/-- What stands where an operation comes up. -/
structure LCtx (ops : Array Oper) (ds : List Nat) (Rs : List (Value → World → Prop)) (a : Act) (w : World) (o : Oper) (A : Act) (y : World) : Prop where
  mod : Mod Nil w y
  dst : ∀ (i d : Nat), ds[i]? = some d → (ops[i]?).bind Oper.dst = some d
  old : ∀ k, ds.contains k = false → A.tmps[k]? = a.tmps[k]?
  dep : ∀ e ∈ o.after, Region.binds .any e = true → ∀ (d : Nat) (R : Value → World → Prop), ds[e.on]? = some d → Rs[e.on]? = some R → ∃ v, A.tmps[d]? = some v ∧ R v y

/-- What an operation must do. -/
def Loc (P : Program) (ops : Array Oper) (R : Value → World → Prop) (o : Oper) (A : Act) (y : World) : Prop :=
  (Region.wanted o (yielded ops A.tmps) = false ∧ R undef y) ∨
  (Region.wanted o (yielded ops A.tmps) = true ∧
    ((∃ v y', (execOp A.eval o).run P y = .ok (.value v) y' ∧ Mod Nil y y' ∧ R v y') ∨
     ∃ f args, (execOp A.eval o).run P y = .ok (.enter f args) y ∧ Calls P f args y fun e y' => ∃ v, e = .returned v ∧ Mod Nil y y' ∧ R v y'))

def Obl (P : Program) (ops : Array Oper) (ds : List Nat) (Rs : List (Value → World → Prop)) (a : Act) (w : World) : List Oper → List (Value → World → Prop) → Prop
  | o :: os, R :: R' => (∀ A y, LCtx ops ds Rs a w o A y → Loc P ops R o A y) ∧ Obl P ops ds Rs a w os R'
  | _, _ => True
theorem Obl.cons {o : Oper} {os : List Oper} {R : Value → World → Prop} {R' : List (Value → World → Prop)} (h : ∀ A y, LCtx ops ds Rs a w o A y → Loc P ops R o A y) (h' : Obl P ops ds Rs a w os R') : Obl P ops ds Rs a w (o :: os) (R :: R') := ⟨h, h'⟩
theorem Obl.nil {R' : List (Value → World → Prop)} : Obl P ops ds Rs a w [] R' := trivial
theorem Obl.get : ∀ {os : List Oper} {R' : List (Value → World → Prop)}, Obl P ops ds Rs a w os R' → ∀ (i : Nat) (o : Oper) (R : Value → World → Prop), os[i]? = some o → R'[i]? = some R → ∀ A y, LCtx ops ds Rs a w o A y → Loc P ops R o A y
  | [], _, _, _, _, _, e, _ => by simp at e
  | _ :: _, [], _, _, _, _, _, e => by simp at e
  | _ :: _, _ :: _, h, 0, o, R, e, e' => by simp at e e'; subst e e'; exact h.1
  | _ :: _, _ :: _, h, i + 1, o, R, e, e' => by simp at e e'; exact Obl.get h.2 i o R e e'

/-- What is left behind the region. -/
def RFin (Q : Exit → Act → World → Prop) : List Nat → List (Value → World → Prop) → Act → World → Prop
  | d :: ds, R :: Rs, A, y => ∀ v, R v y → RFin Q ds Rs (A.put (some d) v) y
  | _, _, A, y => Q .normal A y
theorem RFin.go {A : Act} {y : World} : ∀ {ds : List Nat} {Rs : List (Value → World → Prop)} {B : Act}, RFin Q ds Rs B y → ds.length = Rs.length →
    (∀ (i d : Nat) (R : Value → World → Prop), ds[i]? = some d → Rs[i]? = some R → ∃ v, A.tmps[d]? = some v ∧ R v y) → B.defers = A.defers → A.tmps.size = B.tmps.size → (∀ k, ds.contains k = false → A.tmps[k]? = B.tmps[k]?) → Q .normal A y
  | [], Rs, B, h, _, _, hd, hs, ho => by
    have : A = B := by
      obtain ⟨t, dd⟩ := A; obtain ⟨t', dd'⟩ := B
      simp only at hd ho hs
      rw [hd, show t = t' from Array.ext_getElem? fun k => ho k rfl]
    subst this
    cases Rs <;> exact h
  | d :: ds, [], B, h, hl, _, _, _, _ => by simp at hl
  | d :: ds, R :: Rs, B, h, hl, hv, hd, hs, ho => by
    obtain ⟨v, e, hR⟩ := hv 0 d R rfl rfl
    have hlt : d < A.tmps.size := (Array.getElem?_eq_some_iff.1 e).1
    refine RFin.go (B := B.put (some d) v) (h v hR) (by simpa using hl) (fun i d' R' h1 h2 => hv (i + 1) d' R' (by simpa using h1) (by simpa using h2)) hd (by simp [Act.put, hs]) fun k hk => ?_
    by_cases hkd : k = d
    · subst hkd
      rw [e]
      simp [Act.put, ← hs, hlt]
    · rw [ho k (by simp at hk; simp [hk, hkd])]
      simp [Act.put, Array.getElem?_setIfInBounds_ne (Ne.symm hkd)]

structure LInv (ops : Array Oper) (ds : List Nat) (Rs : List (Value → World → Prop)) (a : Act) (w : World) (listed : Array Bool) (A : Act) (y : World) : Prop where
  size : listed.size = ops.size
  tsz : A.tmps.size = a.tmps.size
  defers : a.defers = A.defers
  mod : Mod Nil w y
  old : ∀ k, ds.contains k = false → A.tmps[k]? = a.tmps[k]?
  dep : ∀ (i d : Nat) (R : Value → World → Prop), listed.getD i false = true → ds[i]? = some d → Rs[i]? = some R → ∃ v, A.tmps[d]? = some v ∧ R v y

theorem LInv.put {listed : Array Bool} {A : Act} {y y' : World} (h : LInv ops ds Rs a w listed A y) (hnd : ds.Nodup) (hlen : ds.length = ops.size) (hsz : ∀ d ∈ ds, d < a.tmps.size)
    (hst : ∀ R ∈ Rs, ∀ v y y', R v y → Mod Nil y y' → R v y') {i d : Nat} {R : Value → World → Prop} (hd : ds[i]? = some d) (hR : Rs[i]? = some R) {v : Value} (hm : Mod Nil y y') (hv : R v y') :
    LInv ops ds Rs a w (listed.setIfInBounds i true) (A.put (some d) v) y' := by
  have hds := hsz d (List.mem_of_getElem? hd)
  refine ⟨by simp [h.size], by simp [Act.put, h.tsz], h.defers, h.mod.trans hm, fun k hk => ?_, fun j d' R' hj hd' hR' => ?_⟩
  · have hkd : d ≠ k := fun e => by
      subst e
      have := List.mem_of_getElem? hd
      rw [← List.contains_iff_mem, hk] at this
      cases this
    rw [← h.old k hk]
    simp [Act.put, Array.getElem?_setIfInBounds_ne hkd]
  · by_cases hji : j = i
    · subst hji
      rw [hd] at hd'; rw [hR] at hR'
      cases hd'; cases hR'
      exact ⟨v, by simp [Act.put, h.tsz, hds], hv⟩
    · have hdd : d ≠ d' := fun e => by
        subst e
        obtain ⟨h1, e1⟩ := List.getElem?_eq_some_iff.1 hd
        obtain ⟨h2, e2⟩ := List.getElem?_eq_some_iff.1 hd'
        exact hji ((List.getElem_inj hnd).1 (e2.trans e1.symm))
      rw [getD_set_ne false (Ne.symm hji)] at hj
      obtain ⟨u, hu, hRu⟩ := h.dep j d' R' hj hd' hR'
      exact ⟨u, by simp [Act.put, Array.getElem?_setIfInBounds_ne hdd, hu], hst R' (List.mem_of_getElem? hR') u y y' hRu hm⟩

theorem wpAny_local (hdst : ∀ (i : Nat) (o : Oper), ops[i]? = some o → ∃ d, o.dst = some d ∧ ds[i]? = some d) (hnd : ds.Nodup) (hlen : ds.length = ops.size) (hRl : ds.length = Rs.length) (hsz : ∀ d ∈ ds, d < a.tmps.size)
    (hst : ∀ R ∈ Rs, ∀ v y y', R v y → Mod Nil y y' → R v y') (hbk : ∀ (i : Nat) (o : Oper), ops[i]? = some o → ∀ e ∈ o.after, e.on < i) (hob : Obl P ops ds Rs a w ops.toList Rs)
    (hfin : ∀ y, Mod Nil w y → RFin Q ds Rs a y) :
    ∀ (fuel : Nat) (listed : Array Bool) (A : Act) (y : World), listed.toList.count false ≤ fuel → LInv ops ds Rs a w listed A y → wpAny P .any ops Q fuel listed A y := by
  have hdx : ∀ (i d : Nat), ds[i]? = some d → (ops[i]?).bind Oper.dst = some d := fun i d hd => by
    have hi : i < ops.size := by rw [← hlen]; exact (List.getElem?_eq_some_iff.1 hd).1
    obtain ⟨d', h1, h2⟩ := hdst i ops[i] (by simp [hi])
    rw [hd] at h2; cases h2
    simp [hi, h1]
  have hend : ∀ (listed : Array Bool) (A : Act) (y : World), LInv ops ds Rs a w listed A y → Region.ready .any ops listed = [] → Q .normal A y := fun listed A y h hr => by
    have hall : ∀ j, j < ops.size → listed.getD j false = true := by
      intro j
      induction j using Nat.strongRecOn with
      | ind j ih =>
        intro hj
        cases hb : listed.getD j false with
        | true => rfl
        | false =>
          exfalso
          have hjl : j < listed.size := by rw [h.size]; exact hj
          have : j ∈ Region.ready .any ops listed := mem_ready.2 ⟨by simpa [hjl] using hb, ops[j], by simp [hj], fun e he _ => ih e.on (hbk j ops[j] (by simp [hj]) e he) (by have := hbk j ops[j] (by simp [hj]) e he; omega)⟩
          rw [hr] at this
          cases this
    refine RFin.go (hfin y h.mod) hRl (fun i d R hd hR => h.dep i d R (hall i ?_) hd hR) h.defers h.tsz h.old
    rw [← hlen]; exact (List.getElem?_eq_some_iff.1 hd).1
  intro fuel
  induction fuel with
  | zero =>
    intro listed A y hc h
    have hr : Region.ready .any ops listed = [] := by
      cases hr : Region.ready .any ops listed with
      | nil => rfl
      | cons j js =>
        exfalso
        obtain ⟨h0, o, ho, _⟩ := mem_ready.1 (show j ∈ Region.ready .any ops listed by rw [hr]; exact List.mem_cons_self ..)
        have hj : j < listed.size := by rw [h.size]; exact (Array.getElem?_eq_some_iff.1 ho).1
        have : false ∈ listed.toList := by
          have e : listed[j] = false := by simpa [hj] using h0
          rw [← e]
          exact Array.mem_toList_iff.2 (Array.getElem_mem hj)
        have := List.count_pos_iff.2 this
        omega
    exact ⟨hr, hend listed A y h hr⟩
  | succ fuel ih =>
    intro listed A y hc h
    refine ⟨hend listed A y h, fun i hi => ?_⟩
    obtain ⟨h0, o, ho, hall⟩ := mem_ready.1 hi
    have hil : i < ops.size := (Array.getElem?_eq_some_iff.1 ho).1
    obtain ⟨d, hod, hd⟩ := hdst i o ho
    obtain ⟨R, hR⟩ : ∃ R, Rs[i]? = some R := ⟨Rs[i]'(by rw [← hRl, hlen]; exact hil), by simp [← hRl, hlen, hil]⟩
    have hcnt : (listed.setIfInBounds i true).toList.count false ≤ fuel := by
      have hj : i < listed.size := by rw [h.size]; exact hil
      have e : listed[i] = false := by simpa [hj] using h0
      have hmem : false ∈ listed.toList := by
        rw [← e]; exact Array.mem_toList_iff.2 (Array.getElem_mem hj)
      have hp := List.count_pos_iff.2 hmem
      have hp' := hp
      rw [Array.toList_setIfInBounds, List.count_set (by simpa using hj)]
      simp [e]
      simp at hc hp'
      omega
    have hloc := hob.get i o R (by simpa using ho) hR A y ⟨h.mod, hdx, h.old, fun e he hb d' R' => h.dep e.on d' R' (hall e he hb)⟩
    have hgo : ∀ v y', Mod Nil y y' → R v y' → wpAny P .any ops Q fuel (listed.setIfInBounds i true) (A.put o.dst v) y' := fun v y' hm hv => by
      rw [hod]
      exact ih _ _ _ hcnt (h.put hnd hlen hsz hst hd hR hm hv)
    unfold wpOp
    rw [ho]
    simp only
    rcases hloc with ⟨hw, hu⟩ | ⟨hw, ⟨v, y', hr, hm, hv⟩ | ⟨f, args, hr, hc'⟩⟩
    · simp only [hw, Bool.false_eq_true, if_false]
      exact hgo _ _ (Mod.refl Nil y) hu
    · simp only [hw, if_true]
      refine .inl ?_
      unfold Oper.wp
      rw [hr]
      exact hgo v y' hm hv
    · simp only [hw, if_true]
      refine .inl ?_
      unfold Oper.wp
      rw [hr]
      refine Calls.mono hc' ?_
      rintro e y' ⟨v, rfl, hm, hv⟩
      exact hgo v y' hm hv

/-- Every order of such a region. -/
theorem wp_region_local {id : Nat} (ds : List Nat) (Rs : List (Value → World → Prop)) (hmix : P.follows .mixedOrders = true) (hdst : (ops.toList.map Oper.dst == ds.map some) = true) (hnd : ds.Nodup) (hRl : ds.length = Rs.length)
    (hsz : (ds.all fun d => d < a.tmps.size) = true) (hbk : ((List.range ops.size).all fun i => ((ops[i]?).map fun o => o.after.all fun e => e.on < i).getD true) = true)
    (hst : ∀ R ∈ Rs, ∀ v y y', R v y → Mod Nil y y' → R v y') (hob : Obl P ops ds Rs a w ops.toList Rs) (hfin : ∀ y, Mod Nil w y → RFin Q ds Rs a y) : (Code.region id ops true).wp P Q a w := by
  have hdst' : ops.toList.map Oper.dst = ds.map some := by simpa using hdst
  have hlen : ds.length = ops.size := by
    have := congrArg List.length hdst'
    simpa using this.symm
  refine wp_region_any hmix (wpAny_local (ds := ds) (Rs := Rs) (a := a) (w := w) (fun i o ho => ?_) hnd hlen hRl (fun d hd => ?_) hst (fun i o ho e he => ?_) hob hfin ops.size _ a _ ?_ ?_)
  · have h1 : (ops.toList.map Oper.dst)[i]? = some o.dst := by simp [ho]
    rw [hdst', List.getElem?_map] at h1
    cases h2 : ds[i]? with
    | none => rw [h2] at h1; simp at h1
    | some d => rw [h2] at h1; simp at h1; exact ⟨d, h1.symm, rfl⟩
  · have := List.all_eq_true.1 hsz d hd
    simpa using this
  · have hi : i < ops.size := (Array.getElem?_eq_some_iff.1 ho).1
    have := List.all_eq_true.1 hbk i (List.mem_range.2 hi)
    rw [ho] at this
    simp only [Option.map_some, Option.getD_some, Array.all_eq_true_iff_forall_mem] at this
    simpa using this e he
  · simp [List.count_replicate]
  · exact ⟨by simp, rfl, rfl, (Mod.refl Nil w).drew, fun _ _ => rfl, fun i d R hi => by
      exfalso
      by_cases q : i < ops.size <;> simp [q] at hi⟩

/-! ### What an operation finds where it comes up -/
variable {o : Oper} {A : Act} {y : World} {R : Value → World → Prop}
theorem LCtx.oldT (h : LCtx ops ds Rs a w o A y) {k : Nat} {v : Value} (hk : ds.contains k = false) (e : a.tmps[k]? = some v) : A.tmps[k]? = some v := (h.old k hk).trans e
theorem LCtx.onT (h : LCtx ops ds Rs a w o A y) (i : Nat) {d : Nat} {R : Value → World → Prop} (hd : ds[i]? = some d) (hR : Rs[i]? = some R) (he : (o.after.toList.any fun e => Region.binds .any e && e.on == i) = true) : ∃ v, A.tmps[d]? = some v ∧ R v y := by
  obtain ⟨e, hj, he2⟩ := List.any_eq_true.1 he
  simp at he2
  obtain ⟨hb, rfl⟩ := he2
  exact h.dep e (Array.mem_toList_iff.1 hj) hb d R hd hR
theorem LCtx.exT (h : LCtx ops ds Rs a w o A y) (i : Nat) {d : Nat} {c : Value} (hd : ds[i]? = some d) (hR : Rs[i]? = some (Ex c)) (he : (o.after.toList.any fun e => Region.binds .any e && e.on == i) = true) : A.tmps[d]? = some c := by
  obtain ⟨v, e, rfl⟩ := h.onT i hd hR he
  exact e
theorem eval_of {k : Nat} {v : Value} (e : A.tmps[k]? = some v) : A.eval (.tmp k) = v := by
  simp [Act.eval, e]
theorem LCtx.oldE (h : LCtx ops ds Rs a w o A y) {k : Nat} {v : Value} (hk : ds.contains k = false) (e : a.tmps[k]? = some v) : A.eval (.tmp k) = v := eval_of (h.oldT hk e)
theorem LCtx.exE (h : LCtx ops ds Rs a w o A y) (i : Nat) {d : Nat} {c : Value} (hd : ds[i]? = some d) (hR : Rs[i]? = some (Ex c)) (he : (o.after.toList.any fun e => Region.binds .any e && e.on == i) = true) : A.eval (.tmp d) = c := eval_of (h.exT i hd hR he)
theorem LCtx.onE (h : LCtx ops ds Rs a w o A y) (i : Nat) {d : Nat} {R : Value → World → Prop} (hd : ds[i]? = some d) (hR : Rs[i]? = some R) (he : (o.after.toList.any fun e => Region.binds .any e && e.on == i) = true) : ∃ v, A.eval (.tmp d) = v ∧ R v y := (h.onT i hd hR he).imp fun _ q => ⟨eval_of q.1, q.2⟩
theorem want0 (hg : o.guard = none) : Region.wanted o (yielded ops A.tmps) = true := by unfold Region.wanted; rw [hg]
theorem LCtx.want (h : LCtx ops ds Rs a w o A y) {g d : Nat} {b b' : Bool} (hg : o.guard = some (g, b)) (hd : ds[g]? = some d) (hR : Rs[g]? = some (Ex (.bool b'))) (he : (o.after.toList.any fun e => Region.binds .any e && e.on == g) = true) : Region.wanted o (yielded ops A.tmps) = (b' == b) := by
  unfold Region.wanted
  rw [hg]
  have e := h.exT g hd hR he
  simp only [yielded, h.dst g d hd, Option.bind_some, e]
  cases b' <;> cases b <;> rfl

/-! ### The operations -/
theorem loc_skip (hw : Region.wanted o (yielded ops A.tmps) = false) : Loc P ops (Ex undef) o A y := .inl ⟨hw, rfl⟩
theorem loc_val {v : Value} (hw : Region.wanted o (yielded ops A.tmps) = true) (hr : (execOp A.eval o).run P y = .ok (.value v) y) : Loc P ops (Ex v) o A y := .inr ⟨hw, .inl ⟨v, y, hr, Mod.refl Nil y, rfl⟩⟩
theorem loc_call {f : Nat} {args : Array Value} (hw : Region.wanted o (yielded ops A.tmps) = true) (hr : (execOp A.eval o).run P y = .ok (.enter f args) y)
    (hc : Calls P f args y fun e y' => ∃ v, e = .returned v ∧ Mod Nil y y' ∧ R v y') : Loc P ops R o A y := .inr ⟨hw, .inr ⟨f, args, hr, hc⟩⟩
theorem run_call {f : Nat} {args : Array Value} {dst : Option Tmp} {xs : Array Operand} {tys : Array TypeId} {ty : TypeId} {pos : String} {after : Array Edge} {g : Option (Nat × Bool)} (hx : xs.map A.eval = args) (hf : (callFunc f args).run P y = .ok (.enter f args) y) :
    (execOp A.eval { dst, op := .call { callee := .value (.func f), args := xs, argTypes := tys }, type := ty, pos, after, guard := g }).run P y = .ok (.enter f args) y := by
  subst hx
  rw [Go.execOp_call_go]
  simpa using hf
theorem loc_move {v : Value} {dst : Option Tmp} {x : Operand} {ty : TypeId} {pos : String} {after : Array Edge} {g : Option (Nat × Bool)} (hw : Region.wanted { dst, op := .move x, type := ty, pos, after, guard := g } (yielded ops A.tmps) = true) (hx : A.eval x = v) :
    Loc P ops (Ex v) { dst, op := .move x, type := ty, pos, after, guard := g } A y := loc_val hw (by subst hx; rfl)
theorem loc_assign {v : Value} {dst : Option Tmp} {x : Operand} {ty : TypeId} {pos : String} {after : Array Edge} {g : Option (Nat × Bool)} (hw : Region.wanted { dst, op := .assign x, type := ty, pos, after, guard := g } (yielded ops A.tmps) = true) (hx : A.eval x = v) :
    Loc P ops (Ex v) { dst, op := .assign x, type := ty, pos, after, guard := g } A y := loc_val hw (by subst hx; rfl)
theorem RFin.cons {d : Nat} {ds : List Nat} {R : Value → World → Prop} {Rs : List (Value → World → Prop)} {A : Act} (h : ∀ v, R v y → RFin Q ds Rs (A.put (some d) v) y) : RFin Q (d :: ds) (R :: Rs) A y := h
theorem RFin.ex {d : Nat} {ds : List Nat} {c : Value} {Rs : List (Value → World → Prop)} {A : Act} (h : RFin Q ds Rs (A.put (some d) c) y) : RFin Q (d :: ds) (Ex c :: Rs) A y := fun v hv => by cases hv; exact h
theorem RFin.nil {A : Act} (h : Q .normal A y) : RFin Q [] [] A y := h
end

section
variable {P : Program} {f : Nat} {args : Array Value} {y : World} {res : Value} {A : Act}
theorem Loc.s (h : Calls P f args y fun e y' => e = .returned res ∧ y = y') : Calls P f args y fun e y' => ∃ v, e = .returned v ∧ Mod Nil y y' ∧ Ex res v y' :=
  h.mono fun _ _ q => ⟨res, q.1, q.2 ▸ Mod.refl Nil y, rfl⟩
theorem Loc.r (h : Calls P f args y (Reads y res)) : Calls P f args y fun e y' => ∃ v, e = .returned v ∧ Mod Nil y y' ∧ Ex res v y' :=
  h.mono fun _ _ ⟨q, n, e⟩ => ⟨res, q, e ▸ (Mod.refl Nil y).drewN n, rfl⟩
theorem Loc.q {R : World → (Nat → Prop) → Prop} (h : Calls P f args y (After Nil y res R)) : Calls P f args y fun e y' => ∃ v, e = .returned v ∧ Mod Nil y y' ∧ Ex res v y' :=
  h.mono fun _ _ q => ⟨res, q.1, q.2.1, rfl⟩
theorem Loc.m {N : Value → World → (Nat → Prop) → Prop} [∀ v, Mov (N v)] (h : Calls P f args y (Makes y N)) : Calls P f args y fun e y' => ∃ v, e = .returned v ∧ Mod Nil y y' ∧ N v y' (fun _ => True) :=
  h.mono fun _ _ ⟨v, q, m, n⟩ => ⟨v, q, m, Mov.mono (R := N v) n fun _ _ => trivial⟩
theorem args0 : (#[] : Array Operand).map A.eval = #[] := by simp
theorem args1 {x : Operand} {v : Value} (h : A.eval x = v) : #[x].map A.eval = #[v] := by subst h; simp
theorem args2 {x x' : Operand} {v v' : Value} (h : A.eval x = v) (h' : A.eval x' = v') : #[x, x'].map A.eval = #[v, v'] := by subst h h'; simp
theorem args3 {x x' x2 : Operand} {v v' v2 : Value} (h : A.eval x = v) (h' : A.eval x' = v') (h2 : A.eval x2 = v2) : #[x, x', x2].map A.eval = #[v, v', v2] := by subst h h' h2; simp
end

/-! ### What stays -/
class Stay (R : Value → World → Prop) : Prop where
  go : ∀ v y y', R v y → Mod Nil y y' → R v y'
instance {c : Value} : Stay (Ex c) := ⟨fun _ _ _ h _ => h⟩
instance {S : Nat → Prop} {e size n : Nat} {xs : List Value} : Stay (fun v y => Row y S e size v n xs) := ⟨fun _ _ _ h m => h.modNil m⟩
instance {S : Nat → Prop} {size n : Nat} {xs : List Value} : Stay (fun v y => Cells y S v n size xs) := ⟨fun _ _ _ h m => h.modNil m⟩
instance {S : Nat → Prop} {xs : List ByteArray} : Stay (fun v y => Strs y S v xs) := ⟨fun _ _ _ h m => Cells.modNil h m⟩
theorem Stay.nil : ∀ R ∈ ([] : List (Value → World → Prop)), ∀ v y y', R v y → Mod Nil y y' → R v y' := by simp
theorem Stay.cons {R : Value → World → Prop} {Rs : List (Value → World → Prop)} [h : Stay R] (t : ∀ R ∈ Rs, ∀ v y y', R v y → Mod Nil y y' → R v y') : ∀ R' ∈ R :: Rs, ∀ v y y', R' v y → Mod Nil y y' → R' v y' := fun R' hR => by
  rcases List.mem_cons.1 hR with rfl | hR
  · exact h.go
  · exact t R' hR
end Go.Proofs.Ytjijjfdkghcjkaa
