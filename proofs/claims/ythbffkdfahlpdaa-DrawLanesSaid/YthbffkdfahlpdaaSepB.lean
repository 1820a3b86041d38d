/- Walks over what is owned apart: the operations. Over any program; no condition. -/
import Derived.Test.YthbffkdfahlpdaaSepA
import Derived.Deep.MidRow
set_option linter.unusedVariables false
namespace Go.Proofs.Ythbffkdfahlpdaa
open Go.RowKit Go.MapKept

section
variable {P : Program} {σ : List (Nat × Value)} {o : Oper}

/-! ### operations that look at nothing but slots -/
def evD (σ : List (Nat × Value)) (x : Operand) : Value := match ev σ x with
  | some v => v
  | none => undef
def known (σ : List (Nat × Value)) (o : Oper) : Bool := o.op.operands.toList.all fun x => (ev σ x).isSome
def plainOp (o : Oper) : Bool := match o.op with
  | .select .. => false
  | _ => true
theorem known_run {ρ : Operand → Value} (h : Knows σ ρ) (hk : known σ o = true) (hp : plainOp o = true) : execOp ρ o = execOp (evD σ) o := by
  refine execOp_congr o (fun cs b e => by simp [plainOp, e] at hp) fun x hx => ?_
  have := List.all_eq_true.1 hk x (by simpa using hx)
  cases e : ev σ x with
  | none => simp [e] at this
  | some v => rw [h x v e]; simp [evD, e]
theorem oprV_of {v : Value} (h : ∀ ρ, Knows σ ρ → ∀ w, (execOp ρ o).run P w = .ok (.value v) w) : OprV P σ o v := by
  intro ρ hρ w own hH hO
  exact .inl ⟨v, w, .inl (h ρ hρ w), [], own, ⟨rfl, rfl⟩, fun i R hi => by simp at hi, Mod.refl _ _, fun _ _ q => q⟩
theorem pureV {v : Value} (hk : known σ o = true) (hp : plainOp o = true) (h : ∀ w, (execOp (evD σ) o).run P w = .ok (.value v) w) : OprV P σ o v :=
  oprV_of fun ρ hρ w => by rw [known_run hρ hk hp]; exact h w

/-- What some operations come to, one behind another. -/
def runs (P : Program) (ops : Array Oper) (N : Nat) : List (Nat × Value) → List Nat → List Value → World → Option (List (Result Next))
  | σ, i :: is, v :: vs, w => match ops[i]? with
    | some o => match wants ops σ o, fits N o.dst, known σ o && plainOp o, runs P ops N (putS o.dst v σ) is vs w with
      | some true, true, true, some l => some ((execOp (evD σ) o).run P w :: l)
      | some false, true, _, some l => some (.ok (.value undef) w :: l)
      | _, _, _, _ => none
    | none => none
  | _, [], [], _ => some []
  | _, _, _, _ => none
def putsS (ops : Array Oper) : List (Nat × Value) → List Nat → List Value → List (Nat × Value)
  | σ, i :: is, v :: vs => putsS ops (putS ((ops[i]?).bind Oper.dst) v σ) is vs
  | σ, _, _ => σ
theorem Sq.vals {K : Cx} {Q : Exit → Act → World → Prop} {Γ : List Res} {ops : Array Oper} {rest : List Nat} (is : List Nat) : ∀ {σ : List (Nat × Value)} (vs : List Value),
    (∀ w, runs K.P ops K.N σ is vs w = some (vs.map fun v => .ok (.value v) w)) → Sq K ops rest Q (putsS ops σ is vs) Γ → Sq K ops (is ++ rest) Q σ Γ := by
  induction is with
  | nil =>
    intro σ vs h hK
    cases vs <;> exact hK
  | cons i is ih =>
    intro σ vs h hK
    cases vs with
    | nil => exact absurd (h default) (by simp [runs])
    | cons v vs =>
      unfold runs at h
      cases ho : ops[i]? with
      | none => simp [ho] at h
      | some o =>
        simp only [ho] at h
        simp only [putsS, ho, Option.bind_some] at hK
        have hd : fits K.N o.dst = true := by
          cases e : fits K.N o.dst with
          | true => rfl
          | false => exact absurd (h default) (by cases wants ops σ o <;> simp [e])
        cases hw : wants ops σ o with
        | none => simp [hw] at h
        | some t =>
          have hr : ∀ w, ∃ l, runs K.P ops K.N (putS o.dst v σ) is vs w = some l := fun w => by
            cases e : runs K.P ops K.N (putS o.dst v σ) is vs w with
            | some l => exact ⟨l, rfl⟩
            | none => exact absurd (h w) (by cases t <;> simp [hw, hd, e])
          cases t with
          | false =>
            have h2 := fun w => h w
            simp only [hw, hd] at h2
            have hv : v = undef := by
              obtain ⟨l, e⟩ := hr default
              have := h2 default
              rw [e] at this
              simp at this
              exact this.1.symm
            subst hv
            refine Sq.skip ho hw hd (ih vs (fun w => ?_) hK)
            obtain ⟨l, e⟩ := hr w
            have := h2 w
            rw [e] at this
            simp at this
            rw [e, ← this]
          | true =>
            have hk : (known σ o && plainOp o) = true := by
              cases e : (known σ o && plainOp o) with
              | true => rfl
              | false => exact absurd (h default) (by simp [hw, hd, e])
            have h2 := fun w => h w
            simp only [hw, hd, hk] at h2
            simp at hk
            have h3 : ∀ w, (execOp (evD σ) o).run K.P w = .ok (.value v) w ∧ runs K.P ops K.N (putS o.dst v σ) is vs w = some (vs.map fun v => .ok (.value v) w) := fun w => by
              obtain ⟨l, e⟩ := hr w
              have := h2 w
              rw [e] at this
              simp at this
              exact ⟨this.1, by rw [e, ← this.2]⟩
            exact Sq.val ho hw hd (pureV hk.1 hk.2 fun w => (h3 w).1) (ih vs (fun w => (h3 w).2) hK)
/-- A slot's value, spelt otherwise. -/
theorem Sq.re {K : Cx} {Q : Exit → Act → World → Prop} {Γ : List Res} {ops : Array Oper} {l : List Nat} {σ : List (Nat × Value)} (d : Nat) {v v' : Value} (hv : lkS σ d = some v) (e : v = v') (h : Sq K ops l Q ((d, v') :: σ) Γ) : Sq K ops l Q σ Γ := by
  subst e
  intro a w hS hΓ
  refine h a w ⟨hS.size, hS.defers, fun k u q => hS.slot k u ?_⟩ hΓ
  unfold lkS at q
  cases hb : Nat.beq d k with
  | true => have := Nat.eq_of_beq_eq_true hb; subst this; rw [hb] at q; simp at q; subst q; exact hv
  | false => rw [hb] at q; exact q

/-! ### loads and stores -/
def scal (P : Program) (t : TypeId) : Bool := match P.underlying t with
  | some d => !d.isRow
  | none => false
theorem run_load1 {w : World} {a : Addr} {t : TypeId} {v : Value} (ht : scal P t = true) (h : w.cell? a = some v) : (Instr.loadAt t (.pointer (some a))).run P w = .ok v w := by
  unfold scal at ht
  cases hu : P.underlying t with
  | none => simp [hu] at ht
  | some d =>
    have hagg : (isAgg t).run P w = .ok false w := by
      unfold isAgg
      rw [Sem.run_bind, run_underlying hu w]
      cases d <;> simp_all
    simp [Instr.loadAt, Instr.sureAddr, loadVar, Sem.run_bind, hagg, h]
theorem blk_range {w : World} {S : Nat → Prop} {b : Nat} {l : List Value} {T : TypeId} (h : BlkAt w S b l T) (i n : Nat) : w.rangeAt b i ((l.drop i).take n) := fun j v hj => by
  refine h.1.at _ _ ?_
  rw [List.getElem?_take] at hj
  split at hj
  · rwa [List.getElem?_drop] at hj
  · cases hj
def rowT (P : Program) (t : TypeId) (n : Nat) : Bool := match P.underlying t, P.info? t with
  | some d, some i => d.isRow && Nat.beq i.size n
  | _, _ => false
theorem run_loadN {w : World} {b i n : Nat} {t : TypeId} {cs : List Value} (ht : rowT P t cs.length = true) (h : w.rangeAt b i cs) : (Instr.loadAt t (.pointer (some ⟨b, i, none⟩))).run P w = .ok (.agg cs.toArray) w := by
  unfold rowT at ht
  cases hu : P.underlying t with
  | none => simp [hu] at ht
  | some d =>
    cases hi : P.info? t with
    | none => simp [hu, hi] at ht
    | some q =>
      simp [hu, hi] at ht
      exact run_loadAt_mid w b i t cs d h hu ht.1 (by simp [hi, ht.2])

theorem became_same {Γ : List Res} {own : Nat → Nat} {w : World} {v : Value} {Post : Value → List Res → Prop} (h : Holds Γ own w) (hp : Post v Γ) : Became Post own w v w := ⟨Γ, own, hp, h, Mod.refl _ _, fun _ _ q => q⟩
theorem became_drewN {Γ : List Res} {own : Nat → Nat} {w : World} {v : Value} {Post : Value → List Res → Prop} (n : Nat) (h : Holds Γ own w) (hp : Post v Γ) : Became Post own w v (w.drewN n) :=
  ⟨Γ, own, hp, fun i R hi => Res.mov _ (h i R hi) (Nat.le_refl _) fun k _ q => ⟨q, rfl⟩, (Mod.refl _ _).drewN n, fun _ _ q => q⟩
/-- Alike: what was, and this value. -/
def Same (l : List Res) (v : Value) : Value → List Res → Prop := fun v' l' => v' = v ∧ l' = l
theorem o_load {t : TypeId} {x : Operand} {dst : Option Tmp} {ty : TypeId} {pos : String} {after : Array Edge} {g : Option (Nat × Bool)} {b i : Nat} {l : List Value} {T : TypeId} {v : Value}
    (hx : ev σ x = some (.pointer (some ⟨b, i, none⟩))) (ht : scal P t = true) (hv : l[i]? = some v) : Opr P σ ⟨dst, .load t x, ty, pos, after, g⟩ [blkR b l T] (Same [blkR b l T] v) := by
  intro ρ hρ w own hH hO
  have hb : BlkAt w (fun k => own k = 0 + 1) b l T := hH 0 _ rfl
  exact .inl ⟨v, w, .inl (by simp [execOp, hρ x _ hx, run_load1 ht (hb.1.at i v hv), Result.andThen]), became_same hH ⟨rfl, rfl⟩⟩
theorem o_loadN {t : TypeId} {x : Operand} {dst : Option Tmp} {ty : TypeId} {pos : String} {after : Array Edge} {g : Option (Nat × Bool)} {b i : Nat} {l : List Value} {T : TypeId} (cs : List Value)
    (hx : ev σ x = some (.pointer (some ⟨b, i, none⟩))) (ht : rowT P t cs.length = true) (hv : (l.drop i).take cs.length = cs) : Opr P σ ⟨dst, .load t x, ty, pos, after, g⟩ [blkR b l T] (Same [blkR b l T] (.agg cs.toArray)) := by
  intro ρ hρ w own hH hO
  have hb : BlkAt w (fun k => own k = 0 + 1) b l T := hH 0 _ rfl
  have := blk_range hb i cs.length
  rw [hv] at this
  exact .inl ⟨_, w, .inl (by simp [execOp, hρ x _ hx, run_loadN (n := 0) ht this, Result.andThen]), became_same hH ⟨rfl, rfl⟩⟩
def setL : List Value → Nat → List Value → List Value
  | l, i, v :: vs => setL (l.set i v) (i + 1) vs
  | l, _, [] => l
theorem blk_sets {S : Nat → Prop} {b : Nat} {T : TypeId} : ∀ (vs : List Value) (i : Nat) (l : List Value) (w : World), BlkAt w S b l T → BlkAt (w.setCells b i vs) S b (setL l i vs) T ∧ Mod S w (w.setCells b i vs)
  | [], _, _, w, h => ⟨h, Mod.refl _ _⟩
  | v :: vs, i, l, w, h => by
    have h1 : BlkAt (w.setCell ⟨b, i, none⟩ v) S b (l.set i v) T := ⟨h.1.set i v, h.2⟩
    obtain ⟨h2, h3⟩ := blk_sets vs (i + 1) _ _ h1
    exact ⟨h2, ((Mod.refl S w).setCell (fun _ => h.2) v).trans h3⟩
def sizeT (P : Program) (t : TypeId) (n : Nat) : Bool := match P.info? t with
  | some i => Nat.beq i.size n
  | _ => false
theorem run_storeN {w : World} {S : Nat → Prop} {b i : Nat} {l : List Value} {T t : TypeId} {v : Value} (h : BlkAt w S b l T) (hs : sizeT P t v.cells.size = true) (hi : i + v.cells.size ≤ l.length) (h1 : v.cells.toList.all Value.oneCell' = true) :
    (Instr.storeAt t (.pointer (some ⟨b, i, none⟩)) v).run P w = .ok () (w.setCells b i v.cells.toList) := by
  unfold sizeT at hs
  cases hq : P.info? t with
  | none => simp [hq] at hs
  | some q =>
    simp [hq] at hs
    have := run_storeCells_cells (P := P) b i v.cells.toList 0 w (fun j hj => ?_) (fun j hj => by rw [Nat.add_zero]; exact h.1.free _) (fun u hu => List.all_eq_true.1 h1 u hu)
    · rw [Nat.add_zero] at this
      simp [Instr.storeAt, Instr.sureAddr, storeVar, sizeOf, typeInfo, hq, hs, this]
    · simp at hj
      rw [Nat.add_zero, h.1.cell]
      simp; omega
theorem o_store {t : TypeId} {x y : Operand} {dst : Option Tmp} {ty : TypeId} {pos : String} {after : Array Edge} {g : Option (Nat × Bool)} {b i : Nat} {l : List Value} {T : TypeId} {v : Value}
    (hx : ev σ x = some (.pointer (some ⟨b, i, none⟩))) (hy : ev σ y = some v) (hs : sizeT P t v.cells.size = true) (hi : Nat.ble (i + v.cells.size) l.length = true) (h1 : v.cells.toList.all Value.oneCell' = true) :
    Opr P σ ⟨dst, .store t x y, ty, pos, after, g⟩ [blkR b l T] (Same [blkR b (setL l i v.cells.toList) T] undef) := by
  intro ρ hρ w own hH hO
  have hb : BlkAt w (fun k => own k = 0 + 1) b l T := hH 0 _ rfl
  obtain ⟨h2, h3⟩ := blk_sets v.cells.toList i l w hb
  refine .inl ⟨undef, _, .inr ⟨by simp [execOp, hρ x _ hx, hρ y _ hy, run_storeN hb hs (Nat.le_of_ble_eq_true hi) h1, Result.andThen], rfl⟩, [blkR b (setL l i v.cells.toList) T], own, ⟨rfl, rfl⟩, fun j R hj => ?_, h3.mono fun k _ q => by simp at q; omega, fun _ _ q => q⟩
  match j, hj with
  | 0, hj => cases hj; exact h2
/-! ### what is made -/
/-- One thing more, in blocks that are new. -/
theorem became_new {Γ : List Res} {own : Nat → Nat} {w w' : World} {v : Value} {Post : Value → List Res → Prop} {R : Res} (h : Holds Γ own w) (hO : ∀ k, k < w.heap.size → own k ≤ Γ.length) (hm : Mod Nil w w') (hR : R.p w' fun k => w.heap.size ≤ k) (hp : Post v (Γ ++ [R])) : Became Post own w v w' := by
  refine ⟨_, paint own w (Γ.length + 1), hp, fun i Q hi => ?_, hm.mono fun _ _ q => q.elim, fun k hk q => by rwa [paint_old own w _ hk] at q⟩
  by_cases hc : i < Γ.length
  · rw [List.getElem?_append_left hc] at hi
    exact Res.mov _ (h i Q hi) hm.size fun k hk q => ⟨(paint_old own w _ hk).trans q, hm.block k hk fun q => q⟩
  · rw [List.getElem?_append_right (by omega)] at hi
    have hj : i - Γ.length = 0 := by have := (List.getElem?_eq_some_iff.1 hi).1; simp at this; omega
    rw [hj] at hi
    cases hi
    refine Res.mov _ hR (Nat.le_refl _) fun k _ q => ⟨?_, rfl⟩
    rw [paint_new own w _ q]; omega
/-- A block is made. -/
def NewBlk (l : List Value) (T : TypeId) : Value → List Res → Prop := fun v l' => ∃ b, v = .pointer (some ⟨b, 0, none⟩) ∧ l' = [blkR b l T]
theorem o_alloc {T : TypeId} {dst : Option Tmp} {ty : TypeId} {pos : String} {after : Array Edge} {g : Option (Nat × Bool)} (l : List Value) (h : ∀ w, (Instr.alloc T true (.tuple #[])).run P w = .ok (.pointer (some ⟨w.heap.size, 0, none⟩)) (w.alloc (.cells l.toArray T))) :
    Opr P σ ⟨dst, .alloc T, ty, pos, after, g⟩ [] (NewBlk l T) := by
  intro ρ hρ w own hH hO
  exact .inl ⟨_, _, .inl (by simp [execOp, h w, Result.andThen]), became_new hH hO ((Mod.refl _ _).alloc _) (R := blkR w.heap.size l T) ⟨Blk.new w l T, Nat.le_refl _⟩ ⟨_, rfl, rfl⟩⟩
theorem o_box {T : TypeId} {x : Operand} {dst : Option Tmp} {ty : TypeId} {pos : String} {after : Array Edge} {g : Option (Nat × Bool)} {v : Value} (hx : ev σ x = some v) :
    Opr P σ ⟨dst, .box T x, ty, pos, after, g⟩ [] (NewBlk v.cells.toList T) := by
  intro ρ hρ w own hH hO
  exact .inl ⟨_, _, .inl (by simp [execOp, hρ x _ hx, Instr.box, newVar, newRow, Result.andThen]), became_new hH hO ((Mod.refl _ _).alloc _) (R := blkR w.heap.size v.cells.toList T) ⟨Blk.new w v.cells.toList T, Nat.le_refl _⟩ ⟨_, rfl, rfl⟩⟩
theorem o_makeMap {κ α : Type} (gk : κ → Value) (fv : α → Value) {T : TypeId} {dst : Option Tmp} {ty : TypeId} {pos : String} {after : Array Edge} {g : Option (Nat × Bool)} :
    Opr P σ ⟨dst, .makeMap T none, ty, pos, after, g⟩ [] (fun v l' => ∃ b, v = .map (some b) ∧ l' = [mapR gk fv b []]) := by
  intro ρ hρ w own hH hO
  exact .inl ⟨_, _, .inl (by simp [execOp, Instr.makeMap, Result.andThen]), became_new hH hO ((Mod.refl _ _).alloc _) (R := mapR gk fv w.heap.size []) ⟨MapAt.new gk fv w, Nat.le_refl _⟩ ⟨_, rfl, rfl⟩⟩
/-! ### calls -/
theorem o_call {f : Nat} {xs : Array Operand} {tys : Array TypeId} {dst : Option Tmp} {ty : TypeId} {pos : String} {after : Array Edge} {g : Option (Nat × Bool)} {args : List Value} {l : List Res} {Post : Value → List Res → Prop}
    (hx : evs σ xs.toList = some args) (hf : ∀ args w, (callFunc f args).run P w = .ok (.enter f args) w) (h : Tri P f args.toArray l Post) :
    Opr P σ ⟨dst, .call { callee := .value (.func f), args := xs, argTypes := tys }, ty, pos, after, g⟩ l Post := by
  intro ρ hρ w own hH hO
  have hxs : ∀ (xs : List Operand) (args : List Value), evs σ xs = some args → xs.map ρ = args := by
    intro xs
    induction xs with
    | nil => intro args h; simp [evs] at h; simp [h]
    | cons x xs ih =>
      intro args h
      unfold evs at h
      cases e1 : ev σ x with
      | none => simp [e1] at h
      | some v =>
        cases e2 : evs σ xs with
        | none => simp [e1, e2] at h
        | some vs => simp [e1, e2] at h; subst h; simp [hρ x v e1, ih vs e2]
  have hargs : xs.map ρ = args.toArray := by
    have := hxs xs.toList args hx
    apply Array.ext'
    simpa using this
  refine .inr ⟨f, args.toArray, ?_, h w own hH hO⟩
  have hv : ρ (.func f) = .func (.func f) #[] #[] := hρ _ _ rfl
  simp [execOp, resolve, Deferred.ofValue, hv, invoke, hargs, hf, Result.andThen]
/-- A contract of a call that reads alone. -/
theorem tri_reads {f : Nat} {args : Array Value} {l : List Res} {r : Value} (h : ∀ w own, Holds l own w → Calls P f args w (Reads w r)) : Tri P f args l (Same l r) := by
  intro w own hH hO
  refine (h w own hH).mono ?_
  rintro e w' ⟨he, n, rfl⟩
  exact ⟨r, he, became_drewN n hH ⟨rfl, rfl⟩⟩
theorem tri_same {f : Nat} {args : Array Value} {l : List Res} {r : Value} (h : ∀ w own, Holds l own w → Calls P f args w fun e w' => e = .returned r ∧ w = w') : Tri P f args l (Same l r) :=
  tri_reads fun w own hH => reads_of (h w own hH)
/-- One that turns its one thing. -/
theorem tri_after {f : Nat} {args : Array Value} {R R' : Res} {r : Value} (h : ∀ w S, R.p w S → Calls P f args w (After S w r R'.p)) : Tri P f args [R] (Same [R'] r) := by
  intro w own hH hO
  refine (h w _ (hH 0 R rfl)).mono ?_
  rintro e w' ⟨he, hm, S', hs, hR⟩
  refine ⟨r, he, [R'], paint own w 1, ⟨rfl, rfl⟩, fun i Q hi => ?_, hm.mono fun k hk q => by simp at q; omega, fun k hk q => by rwa [paint_old own w _ hk] at q⟩
  match i, hi with
  | 0, hi =>
    cases hi
    exact Res.mov _ hR (Nat.le_refl _) fun k _ q => ⟨took hs k q, rfl⟩
/-- One that makes a thing, and reads others alone. -/
theorem tri_makes {f : Nat} {args : Array Value} {l : List Res} {N : Value → Res} (h : ∀ w own, Holds l own w → Calls P f args w (Makes w fun v => (N v).p)) : Tri P f args l (fun v l' => l' = l ++ [N v]) := by
  intro w own hH hO
  refine (h w own hH).mono ?_
  rintro e w' ⟨v, he, hm, hN⟩
  exact ⟨v, he, became_new hH hO hm hN rfl⟩
theorem tri_makesP {f : Nat} {args : Array Value} {l : List Res} {N : Nat → Res} (h : ∀ w own, Holds l own w → Calls P f args w (MakesP w fun b => (N b).p)) : Tri P f args l (fun v l' => ∃ b, v = .pointer (some ⟨b, 0, none⟩) ∧ l' = l ++ [N b]) := by
  intro w own hH hO
  refine (h w own hH).mono ?_
  rintro e w' ⟨b, he, hm, hN⟩
  exact ⟨_, he, became_new hH hO hm hN ⟨b, rfl, rfl⟩⟩
theorem Tri.mono {f : Nat} {args : Array Value} {l : List Res} {Post Post' : Value → List Res → Prop} (h : Tri P f args l Post) (hp : ∀ v l', Post v l' → Post' v l') : Tri P f args l Post' := fun w own hH hO =>
  (h w own hH hO).mono fun _ _ ⟨v, e, l', own', q, r⟩ => ⟨v, e, l', own', hp _ _ q, r⟩
end
end Go.Proofs.Ythbffkdfahlpdaa
