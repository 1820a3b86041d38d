/- SepB, SepC -/
import Derived.Test.YtholinnmjoelkaaGreatDoorM03
import Derived.Deep.MidRow
set_option linter.unusedVariables false
set_option linter.unusedSimpArgs false
namespace Go.Proofs.YtholinnmjoelkaaGreatDoor
open Go.RowKit Go.MapKept
section
variable {P : Program} {σ : List (Nat × Value)} {o : Oper}
def evD (σ : List (Nat × Value)) (x : Operand) : Value := match ev σ x with
  | some v => v
  | none => undef
def known (σ : List (Nat × Value)) (o : Oper) : Bool := o.op.operands.toList.all fun x => (ev σ x).isSome
def plainOp (o : Oper) : Bool := match o.op with
  | .select .. => false
  | _ => true
theorem known_run {ρ : Operand → Value} (h : Knows σ ρ) (hk : known σ o = true) (hp : plainOp o = true) : execOp ρ o = execOp (evD σ) o := by
  refine execOp_congr o (fun cs b e => by simp [plainOp, e] at hp) fun x hx => ?_
  have := List.all_eq_true.1 hk x (by simpa using hx)
  cases e : ev σ x with
  | none => simp [e] at this
  | some v => rw [h x v e]; simp [evD, e]
theorem oprV_of {v : Value} (h : ∀ ρ, Knows σ ρ → ∀ w, (execOp ρ o).run P w = .ok (.value v) w) : OprV P σ o v := by
  intro ρ hρ w own hH hO
  exact .inl ⟨v, w, .inl (h ρ hρ w), [], own, ⟨rfl, rfl⟩, fun i R hi => by simp at hi, Mod.refl _ _, fun _ _ q => q⟩
theorem pureV {v : Value} (hk : known σ o = true) (hp : plainOp o = true) (h : ∀ w, (execOp (evD σ) o).run P w = .ok (.value v) w) : OprV P σ o v :=
  oprV_of fun ρ hρ w => by rw [known_run hρ hk hp]; exact h w
def runs (P : Program) (ops : Array Oper) (N : Nat) : List (Nat × Value) → List Nat → List Value → World → Option (List (Result Next))
  | σ, i :: is, v :: vs, w => match ops[i]? with
    | some o => match wants ops σ o, fits N o.dst, known σ o && plainOp o, runs P ops N (putS o.dst v σ) is vs w with
      | some true, true, true, some l => some ((execOp (evD σ) o).run P w :: l)
      | some false, true, _, some l => some (.ok (.value undef) w :: l)
      | _, _, _, _ => none
    | none => none
  | _, [], [], _ => some []
  | _, _, _, _ => none
def putsS (ops : Array Oper) : List (Nat × Value) → List Nat → List Value → List (Nat × Value)
  | σ, i :: is, v :: vs => putsS ops (putS ((ops[i]?).bind Oper.dst) v σ) is vs
  | σ, _, _ => σ
theorem Sq.vals {K : Cx} {Q : Exit → Act → World → Prop} {Γ : List Res} {ops : Array Oper} {rest : List Nat} (is : List Nat) : ∀ {σ : List (Nat × Value)} (vs : List Value),
    (∀ w, runs K.P ops K.N σ is vs w = some (vs.map fun v => .ok (.value v) w)) → Sq K ops rest Q (putsS ops σ is vs) Γ → Sq K ops (is ++ rest) Q σ Γ := by
  induction is with
  | nil =>
    intro σ vs h hK
    cases vs <;> exact hK
  | cons i is ih =>
    intro σ vs h hK
    cases vs with
    | nil => exact absurd (h default) (by simp [runs])
    | cons v vs =>
      unfold runs at h
      cases ho : ops[i]? with
      | none => simp [ho] at h
      | some o =>
        simp only [ho] at h
        simp only [putsS, ho, Option.bind_some] at hK
        have hd : fits K.N o.dst = true := by
          cases e : fits K.N o.dst with
          | true => rfl
          | false => exact absurd (h default) (by cases wants ops σ o <;> simp [e])
        cases hw : wants ops σ o with
        | none => simp [hw] at h
        | some t =>
          have hr : ∀ w, ∃ l, runs K.P ops K.N (putS o.dst v σ) is vs w = some l := fun w => by
            cases e : runs K.P ops K.N (putS o.dst v σ) is vs w with
            | some l => exact ⟨l, rfl⟩
            | none => exact absurd (h w) (by cases t <;> simp [hw, hd, e])
          cases t with
          | false =>
            have h2 := fun w => h w
            simp only [hw, hd] at h2
            have hv : v = undef := by
              obtain ⟨l, e⟩ := hr default
              have := h2 default
              rw [e] at this
              simp at this
              exact this.1.symm
            subst hv
            refine Sq.skip ho hw hd (ih vs (fun w => ?_) hK)
            obtain ⟨l, e⟩ := hr w
            have := h2 w
            rw [e] at this
            simp at this
            rw [e, ← this]
          | true =>
            have hk : (known σ o && plainOp o) = true := by
              cases e : (known σ o && plainOp o) with
              | true => rfl
              | false => exact absurd (h default) (by simp [hw, hd, e])
            have h2 := fun w => h w
            simp only [hw, hd, hk] at h2
            simp at hk
            have h3 : ∀ w, (execOp (evD σ) o).run K.P w = .ok (.value v) w ∧ runs K.P ops K.N (putS o.dst v σ) is vs w = some (vs.map fun v => .ok (.value v) w) := fun w => by
              obtain ⟨l, e⟩ := hr w
              have := h2 w
              rw [e] at this
              simp at this
              exact ⟨this.1, by rw [e, ← this.2]⟩
            exact Sq.val ho hw hd (pureV hk.1 hk.2 fun w => (h3 w).1) (ih vs (fun w => (h3 w).2) hK)
theorem Sq.re {K : Cx} {Q : Exit → Act → World → Prop} {Γ : List Res} {ops : Array Oper} {l : List Nat} {σ : List (Nat × Value)} (d : Nat) {v v' : Value} (hv : lkS σ d = some v) (e : v = v') (h : Sq K ops l Q ((d, v') :: σ) Γ) : Sq K ops l Q σ Γ := by
  subst e
  intro a w hS hΓ
  refine h a w ⟨hS.size, hS.defers, fun k u q => hS.slot k u ?_⟩ hΓ
  unfold lkS at q
  cases hb : Nat.beq d k with
  | true => have := Nat.eq_of_beq_eq_true hb; subst this; rw [hb] at q; simp at q; subst q; exact hv
  | false => rw [hb] at q; exact q
def scal (P : Program) (t : TypeId) : Bool := match P.underlying t with
  | some d => !d.isRow
  | none => false
theorem run_load1 {w : World} {a : Addr} {t : TypeId} {v : Value} (ht : scal P t = true) (h : w.cell? a = some v) : (Instr.loadAt t (.pointer (some a))).run P w = .ok v w := by
  unfold scal at ht
  cases hu : P.underlying t with
  | none => simp [hu] at ht
  | some d =>
    have hagg : (isAgg t).run P w = .ok false w := by
      unfold isAgg
      rw [Sem.run_bind, run_underlying hu w]
      cases d <;> simp_all
    simp [Instr.loadAt, Instr.sureAddr, loadVar, Sem.run_bind, hagg, h]
theorem blk_range {w : World} {S : Nat → Prop} {b : Nat} {l : List Value} {T : TypeId} (h : BlkAt w S b l T) (i n : Nat) : w.rangeAt b i ((l.drop i).take n) := fun j v hj => by
  refine h.1.at _ _ ?_
  rw [List.getElem?_take] at hj
  split at hj
  · rwa [List.getElem?_drop] at hj
  · cases hj
def rowT (P : Program) (t : TypeId) (n : Nat) : Bool := match P.underlying t, P.info? t with
  | some d, some i => d.isRow && Nat.beq i.size n
  | _, _ => false
theorem run_loadN {w : World} {b i n : Nat} {t : TypeId} {cs : List Value} (ht : rowT P t cs.length = true) (h : w.rangeAt b i cs) : (Instr.loadAt t (.pointer (some ⟨b, i, none⟩))).run P w = .ok (.agg cs.toArray) w := by
  unfold rowT at ht
  cases hu : P.underlying t with
  | none => simp [hu] at ht
  | some d =>
    cases hi : P.info? t with
    | none => simp [hu, hi] at ht
    | some q =>
      simp [hu, hi] at ht
      exact run_loadAt_mid w b i t cs d h hu ht.1 (by simp [hi, ht.2])
theorem became_same {Γ : List Res} {own : Nat → Nat} {w : World} {v : Value} {Post : Value → List Res → Prop} (h : Holds Γ own w) (hp : Post v Γ) : Became Post own w v w := ⟨Γ, own, hp, h, Mod.refl _ _, fun _ _ q => q⟩
theorem became_drewN {Γ : List Res} {own : Nat → Nat} {w : World} {v : Value} {Post : Value → List Res → Prop} (n : Nat) (h : Holds Γ own w) (hp : Post v Γ) : Became Post own w v (w.drewN n) :=
  ⟨Γ, own, hp, fun i R hi => Res.mov _ (h i R hi) (Nat.le_refl _) fun k _ q => ⟨q, rfl⟩, (Mod.refl _ _).drewN n, fun _ _ q => q⟩
def Same (l : List Res) (v : Value) : Value → List Res → Prop := fun v' l' => v' = v ∧ l' = l
theorem o_load {t : TypeId} {x : Operand} {dst : Option Tmp} {ty : TypeId} {pos : String} {after : Array Edge} {g : Option (Nat × Bool)} {b i : Nat} {l : List Value} {T : TypeId} {v : Value}
    (hx : ev σ x = some (.pointer (some ⟨b, i, none⟩))) (ht : scal P t = true) (hv : l[i]? = some v) : Opr P σ ⟨dst, .load t x, ty, pos, after, g⟩ [blkR b l T] (Same [blkR b l T] v) := by
  intro ρ hρ w own hH hO
  have hb : BlkAt w (fun k => own k = 0 + 1) b l T := hH 0 _ rfl
  exact .inl ⟨v, w, .inl (by simp [execOp, hρ x _ hx, run_load1 ht (hb.1.at i v hv), Result.andThen]), became_same hH ⟨rfl, rfl⟩⟩
theorem o_loadN {t : TypeId} {x : Operand} {dst : Option Tmp} {ty : TypeId} {pos : String} {after : Array Edge} {g : Option (Nat × Bool)} {b i : Nat} {l : List Value} {T : TypeId} (cs : List Value)
    (hx : ev σ x = some (.pointer (some ⟨b, i, none⟩))) (ht : rowT P t cs.length = true) (hv : (l.drop i).take cs.length = cs) : Opr P σ ⟨dst, .load t x, ty, pos, after, g⟩ [blkR b l T] (Same [blkR b l T] (.agg cs.toArray)) := by
  intro ρ hρ w own hH hO
  have hb : BlkAt w (fun k => own k = 0 + 1) b l T := hH 0 _ rfl
  have := blk_range hb i cs.length
  rw [hv] at this
  exact .inl ⟨_, w, .inl (by simp [execOp, hρ x _ hx, run_loadN (n := 0) ht this, Result.andThen]), became_same hH ⟨rfl, rfl⟩⟩
def setL : List Value → Nat → List Value → List Value
  | l, i, v :: vs => setL (l.set i v) (i + 1) vs
  | l, _, [] => l
theorem blk_sets {S : Nat → Prop} {b : Nat} {T : TypeId} : ∀ (vs : List Value) (i : Nat) (l : List Value) (w : World), BlkAt w S b l T → BlkAt (w.setCells b i vs) S b (setL l i vs) T ∧ Mod S w (w.setCells b i vs)
  | [], _, _, w, h => ⟨h, Mod.refl _ _⟩
  | v :: vs, i, l, w, h => by
    have h1 : BlkAt (w.setCell ⟨b, i, none⟩ v) S b (l.set i v) T := ⟨h.1.set i v, h.2⟩
    obtain ⟨h2, h3⟩ := blk_sets vs (i + 1) _ _ h1
    exact ⟨h2, ((Mod.refl S w).setCell (fun _ => h.2) v).trans h3⟩
def sizeT (P : Program) (t : TypeId) (n : Nat) : Bool := match P.info? t with
  | some i => Nat.beq i.size n
  | _ => false
theorem run_storeN {w : World} {S : Nat → Prop} {b i : Nat} {l : List Value} {T t : TypeId} {v : Value} (h : BlkAt w S b l T) (hs : sizeT P t v.cells.size = true) (hi : i + v.cells.size ≤ l.length) (h1 : v.cells.toList.all Value.oneCell' = true) :
    (Instr.storeAt t (.pointer (some ⟨b, i, none⟩)) v).run P w = .ok () (w.setCells b i v.cells.toList) := by
  unfold sizeT at hs
  cases hq : P.info? t with
  | none => simp [hq] at hs
  | some q =>
    simp [hq] at hs
    have := run_storeCells_cells (P := P) b i v.cells.toList 0 w (fun j hj => ?_) (fun j hj => by rw [Nat.add_zero]; exact h.1.free _) (fun u hu => List.all_eq_true.1 h1 u hu)
    · rw [Nat.add_zero] at this
      simp [Instr.storeAt, Instr.sureAddr, storeVar, sizeOf, typeInfo, hq, hs, this]
    · simp at hj
      rw [Nat.add_zero, h.1.cell]
      simp; omega
theorem o_store {t : TypeId} {x y : Operand} {dst : Option Tmp} {ty : TypeId} {pos : String} {after : Array Edge} {g : Option (Nat × Bool)} {b i : Nat} {l : List Value} {T : TypeId} {v : Value}
    (hx : ev σ x = some (.pointer (some ⟨b, i, none⟩))) (hy : ev σ y = some v) (hs : sizeT P t v.cells.size = true) (hi : Nat.ble (i + v.cells.size) l.length = true) (h1 : v.cells.toList.all Value.oneCell' = true) :
    Opr P σ ⟨dst, .store t x y, ty, pos, after, g⟩ [blkR b l T] (Same [blkR b (setL l i v.cells.toList) T] undef) := by
  intro ρ hρ w own hH hO
  have hb : BlkAt w (fun k => own k = 0 + 1) b l T := hH 0 _ rfl
  obtain ⟨h2, h3⟩ := blk_sets v.cells.toList i l w hb
  refine .inl ⟨undef, _, .inr ⟨by simp [execOp, hρ x _ hx, hρ y _ hy, run_storeN hb hs (Nat.le_of_ble_eq_true hi) h1, Result.andThen], rfl⟩, [blkR b (setL l i v.cells.toList) T], own, ⟨rfl, rfl⟩, fun j R hj => ?_, h3.mono fun k _ q => by simp at q; omega, fun _ _ q => q⟩
  match j, hj with
  | 0, hj => cases hj; exact h2
theorem became_new {Γ : List Res} {own : Nat → Nat} {w w' : World} {v : Value} {Post : Value → List Res → Prop} {R : Res} (h : Holds Γ own w) (hO : ∀ k, k < w.heap.size → own k ≤ Γ.length) (hm : Mod Nil w w') (hR : R.p w' fun k => w.heap.size ≤ k) (hp : Post v (Γ ++ [R])) : Became Post own w v w' := by
  refine ⟨_, paint own w (Γ.length + 1), hp, fun i Q hi => ?_, hm.mono fun _ _ q => q.elim, fun k hk q => by rwa [paint_old own w _ hk] at q⟩
  by_cases hc : i < Γ.length
  · rw [List.getElem?_append_left hc] at hi
    exact Res.mov _ (h i Q hi) hm.size fun k hk q => ⟨(paint_old own w _ hk).trans q, hm.block k hk fun q => q⟩
  · rw [List.getElem?_append_right (by omega)] at hi
    have hj : i - Γ.length = 0 := by have := (List.getElem?_eq_some_iff.1 hi).1; simp at this; omega
    rw [hj] at hi
    cases hi
    refine Res.mov _ hR (Nat.le_refl _) fun k _ q => ⟨?_, rfl⟩
    rw [paint_new own w _ q]; omega
def NewBlk (l : List Value) (T : TypeId) : Value → List Res → Prop := fun v l' => ∃ b, v = .pointer (some ⟨b, 0, none⟩) ∧ l' = [blkR b l T]
theorem o_alloc {T : TypeId} {dst : Option Tmp} {ty : TypeId} {pos : String} {after : Array Edge} {g : Option (Nat × Bool)} (l : List Value) (h : ∀ w, (Instr.alloc T true (.tuple #[])).run P w = .ok (.pointer (some ⟨w.heap.size, 0, none⟩)) (w.alloc (.cells l.toArray T))) :
    Opr P σ ⟨dst, .alloc T, ty, pos, after, g⟩ [] (NewBlk l T) := by
  intro ρ hρ w own hH hO
  exact .inl ⟨_, _, .inl (by simp [execOp, h w, Result.andThen]), became_new hH hO ((Mod.refl _ _).alloc _) (R := blkR w.heap.size l T) ⟨Blk.new w l T, Nat.le_refl _⟩ ⟨_, rfl, rfl⟩⟩
theorem o_box {T : TypeId} {x : Operand} {dst : Option Tmp} {ty : TypeId} {pos : String} {after : Array Edge} {g : Option (Nat × Bool)} {v : Value} (hx : ev σ x = some v) :
    Opr P σ ⟨dst, .box T x, ty, pos, after, g⟩ [] (NewBlk v.cells.toList T) := by
  intro ρ hρ w own hH hO
  exact .inl ⟨_, _, .inl (by simp [execOp, hρ x _ hx, Instr.box, newVar, newRow, Result.andThen]), became_new hH hO ((Mod.refl _ _).alloc _) (R := blkR w.heap.size v.cells.toList T) ⟨Blk.new w v.cells.toList T, Nat.le_refl _⟩ ⟨_, rfl, rfl⟩⟩
theorem o_makeMap {κ α : Type} (gk : κ → Value) (fv : α → Value) {T : TypeId} {dst : Option Tmp} {ty : TypeId} {pos : String} {after : Array Edge} {g : Option (Nat × Bool)} :
    Opr P σ ⟨dst, .makeMap T none, ty, pos, after, g⟩ [] (fun v l' => ∃ b, v = .map (some b) ∧ l' = [mapR gk fv b []]) := by
  intro ρ hρ w own hH hO
  exact .inl ⟨_, _, .inl (by simp [execOp, Instr.makeMap, Result.andThen]), became_new hH hO ((Mod.refl _ _).alloc _) (R := mapR gk fv w.heap.size []) ⟨MapAt.new gk fv w, Nat.le_refl _⟩ ⟨_, rfl, rfl⟩⟩
theorem o_call {f : Nat} {xs : Array Operand} {tys : Array TypeId} {dst : Option Tmp} {ty : TypeId} {pos : String} {after : Array Edge} {g : Option (Nat × Bool)} {args : List Value} {l : List Res} {Post : Value → List Res → Prop}
    (hx : evs σ xs.toList = some args) (hf : ∀ args w, (callFunc f args).run P w = .ok (.enter f args) w) (h : Tri P f args.toArray l Post) :
    Opr P σ ⟨dst, .call { callee := .value (.func f), args := xs, argTypes := tys }, ty, pos, after, g⟩ l Post := by
  intro ρ hρ w own hH hO
  have hxs : ∀ (xs : List Operand) (args : List Value), evs σ xs = some args → xs.map ρ = args := by
    intro xs
    induction xs with
    | nil => intro args h; simp [evs] at h; simp [h]
    | cons x xs ih =>
      intro args h
      unfold evs at h
      cases e1 : ev σ x with
      | none => simp [e1] at h
      | some v =>
        cases e2 : evs σ xs with
        | none => simp [e1, e2] at h
        | some vs => simp [e1, e2] at h; subst h; simp [hρ x v e1, ih vs e2]
  have hargs : xs.map ρ = args.toArray := by
    have := hxs xs.toList args hx
    apply Array.ext'
    simpa using this
  refine .inr ⟨f, args.toArray, ?_, h w own hH hO⟩
  have hv : ρ (.func f) = .func (.func f) #[] #[] := hρ _ _ rfl
  simp [execOp, resolve, Deferred.ofValue, hv, invoke, hargs, hf, Result.andThen]
theorem tri_reads {f : Nat} {args : Array Value} {l : List Res} {r : Value} (h : ∀ w own, Holds l own w → Calls P f args w (Reads w r)) : Tri P f args l (Same l r) := by
  intro w own hH hO
  refine (h w own hH).mono ?_
  rintro e w' ⟨he, n, rfl⟩
  exact ⟨r, he, became_drewN n hH ⟨rfl, rfl⟩⟩
theorem tri_same {f : Nat} {args : Array Value} {l : List Res} {r : Value} (h : ∀ w own, Holds l own w → Calls P f args w fun e w' => e = .returned r ∧ w = w') : Tri P f args l (Same l r) :=
  tri_reads fun w own hH => reads_of (h w own hH)
theorem tri_after {f : Nat} {args : Array Value} {R R' : Res} {r : Value} (h : ∀ w S, R.p w S → Calls P f args w (After S w r R'.p)) : Tri P f args [R] (Same [R'] r) := by
  intro w own hH hO
  refine (h w _ (hH 0 R rfl)).mono ?_
  rintro e w' ⟨he, hm, S', hs, hR⟩
  refine ⟨r, he, [R'], paint own w 1, ⟨rfl, rfl⟩, fun i Q hi => ?_, hm.mono fun k hk q => by simp at q; omega, fun k hk q => by rwa [paint_old own w _ hk] at q⟩
  match i, hi with
  | 0, hi =>
    cases hi
    exact Res.mov _ hR (Nat.le_refl _) fun k _ q => ⟨took hs k q, rfl⟩
theorem tri_makes {f : Nat} {args : Array Value} {l : List Res} {N : Value → Res} (h : ∀ w own, Holds l own w → Calls P f args w (Makes w fun v => (N v).p)) : Tri P f args l (fun v l' => l' = l ++ [N v]) := by
  intro w own hH hO
  refine (h w own hH).mono ?_
  rintro e w' ⟨v, he, hm, hN⟩
  exact ⟨v, he, became_new hH hO hm hN rfl⟩
theorem tri_makesP {f : Nat} {args : Array Value} {l : List Res} {N : Nat → Res} (h : ∀ w own, Holds l own w → Calls P f args w (MakesP w fun b => (N b).p)) : Tri P f args l (fun v l' => ∃ b, v = .pointer (some ⟨b, 0, none⟩) ∧ l' = l ++ [N b]) := by
  intro w own hH hO
  refine (h w own hH).mono ?_
  rintro e w' ⟨b, he, hm, hN⟩
  exact ⟨_, he, became_new hH hO hm hN ⟨b, rfl, rfl⟩⟩
theorem Tri.mono {f : Nat} {args : Array Value} {l : List Res} {Post Post' : Value → List Res → Prop} (h : Tri P f args l Post) (hp : ∀ v l', Post v l' → Post' v l') : Tri P f args l Post' := fun w own hH hO =>
  (h w own hH hO).mono fun _ _ ⟨v, e, l', own', q, r⟩ => ⟨v, e, l', own', hp _ _ q, r⟩
end
end Go.Proofs.YtholinnmjoelkaaGreatDoor
namespace Go.Proofs.YtholinnmjoelkaaGreatDoor
open Go.RowKit Go.MapKept
section
variable {P : Program}
def argS : Nat → List Value → List (Nat × Value)
  | _, [] => []
  | i, v :: vs => (i, v) :: argS (i + 1) vs
theorem argS_get : ∀ (args : List Value) (i k : Nat) (v : Value), lkS (argS i args) k = some v → i ≤ k ∧ args[k - i]? = some v
  | [], _, _, _, h => by cases h
  | u :: us, i, k, v, h => by
    unfold argS lkS at h
    cases hb : Nat.beq i k with
    | true =>
      have := Nat.eq_of_beq_eq_true hb
      subst this
      rw [hb] at h
      simp at h
      simp [h]
    | false =>
      rw [hb] at h
      have hne : i ≠ k := fun q => by subst q; simp at hb
      obtain ⟨h1, h2⟩ := argS_get us (i + 1) k v h
      refine ⟨by omega, ?_⟩
      rw [show k - i = (k - (i + 1)) + 1 by omega]
      simpa using h2
def Post' (B : Nat → Prop) (w0 : World) (Post : Value → List Res → Prop) : Ending → World → Prop := fun e w' => ∃ v, e = .returned v ∧ ∃ l', Post v l' ∧ St B w0 l' w'
theorem Tri.enter {f N : Nat} {fn : Func} {c : Code} {args : List Value} {l : List Res} {Post : Value → List Res → Prop} (hf : P.funcs[f]? = some fn) (hb : fn.body = some c) (hN : fn.ntmps = N) (ha : Nat.ble args.length N = true)
    (h : ∀ B w0, Cd ⟨P, N, B, w0⟩ c (bodyPost P fn (Post' B w0 Post)) (argS 0 args) l) : Tri P f args.toArray l Post := by
  intro w own hH hO
  refine (calls_of_wp hf hb (h (fun k => own k ≠ 0) w _ _ ⟨?_, rfl, fun k v e => ?_⟩ (St.start hH))).mono ?_
  · have := Nat.le_of_ble_eq_true ha
    simp [hN]; omega
  · obtain ⟨_, h2⟩ := argS_get args 0 k v e
    rw [Nat.sub_zero] at h2
    have hk := (List.getElem?_eq_some_iff.1 h2).1
    show (args.toArray ++ Array.replicate (fn.ntmps - args.toArray.size) undef)[k]? = some v
    rw [Array.getElem?_append_left (by simpa using hk)]
    simpa using h2
  · rintro e w' ⟨v, rfl, l', h1, own', hM, hO', hH'⟩
    exact ⟨v, rfl, l', own', h1, hH', hM, hO'⟩
def runRV (tmps : Array Value) : ResultVar → Sem Value
  | .tmp t => pure (tmps.getD t undef)
  | .cell a t => do loadVar t (← asAddr (tmps.getD a undef))
theorem results_eq (fn : Func) (tmps : Array Value) : results fn tmps = (fn.results.mapM (runRV tmps) >>= fun vs => pure (if h : vs.size = 1 then vs[0] else .tuple vs)) := by
  unfold results
  congr 1
def RVs (P : Program) (σ : List (Nat × Value)) (Γ : List Res) (rs : List ResultVar) (vs : List Value) : Prop := ∀ (N : Nat) (B : Nat → Prop) (w0 : World) (a : Act) (w : World), Sl N σ a → St B w0 Γ w → (rs.mapM (runRV a.tmps)).run P w = .ok vs w
variable {σ : List (Nat × Value)} {Γ : List Res}
theorem RVs.nil : RVs P σ Γ [] [] := fun N B w0 a w hS hΓ => by simp
theorem RVs.tmp {t : Nat} {v : Value} {rs : List ResultVar} {vs : List Value} (h : lkS σ t = some v) (k : RVs P σ Γ rs vs) : RVs P σ Γ (.tmp t :: rs) (v :: vs) := fun N B w0 a w hS hΓ => by
  have h1 := hS.slot t v h
  have h2 := k N B w0 a w hS hΓ
  simp [List.mapM_cons, runRV, h1, h2, Result.andThen]
theorem RVs.cell {t T b i : Nat} {l : List Value} {E : TypeId} {v : Value} {rs : List ResultVar} {vs : List Value} (r : Nat) (h : lkS σ t = some (.pointer (some ⟨b, i, none⟩))) (hr : Γ[r]? = some (blkR b l E)) (ht : scal P T = true) (hv : l[i]? = some v)
    (k : RVs P σ Γ rs vs) : RVs P σ Γ (.cell t T :: rs) (v :: vs) := fun N B w0 a w hS hΓ => by
  have h1 := hS.slot t _ h
  have h2 := k N B w0 a w hS hΓ
  obtain ⟨S, hb⟩ := hΓ.fact hr
  have hb : BlkAt w S b l E := hb
  have h3 := run_load1 (P := P) ht (hb.1.at i v hv)
  simp only [Instr.loadAt, Instr.sureAddr, Sem.run_bind, Sem.run_pure, Result.andThen_ok] at h3
  simp [List.mapM_cons, runRV, h1, h2, asAddr, h3, Result.andThen]
theorem RVs.cellN {t T b i : Nat} {l : List Value} {E : TypeId} (cs : List Value) {rs : List ResultVar} {vs : List Value} (r : Nat) (h : lkS σ t = some (.pointer (some ⟨b, i, none⟩))) (hr : Γ[r]? = some (blkR b l E)) (ht : rowT P T cs.length = true) (hv : (l.drop i).take cs.length = cs)
    (k : RVs P σ Γ rs vs) : RVs P σ Γ (.cell t T :: rs) (.agg cs.toArray :: vs) := fun N B w0 a w hS hΓ => by
  have h1 := hS.slot t _ h
  have h2 := k N B w0 a w hS hΓ
  obtain ⟨S, hb⟩ := hΓ.fact hr
  have hb : BlkAt w S b l E := hb
  have h4 := blk_range hb i cs.length
  rw [hv] at h4
  have h3 := run_loadN (P := P) (n := 0) ht h4
  simp only [Instr.loadAt, Instr.sureAddr, Sem.run_bind, Sem.run_pure, Result.andThen_ok] at h3
  simp [List.mapM_cons, runRV, h1, h2, asAddr, h3, Result.andThen]
def oneOr : List Value → Value
  | [v] => v
  | vs => .tuple vs.toArray
theorem run_results {fn : Func} {rs : List ResultVar} {vs : List Value} (hf : fn.results = rs.toArray) (h : RVs P σ Γ rs vs) {N : Nat} {B : Nat → Prop} {w0 : World} {a : Act} {w : World} (hS : Sl N σ a) (hΓ : St B w0 Γ w) : (results fn a.tmps).run P w = .ok (oneOr vs) w := by
  rw [results_eq, hf]
  have h1 := h N B w0 a w hS hΓ
  have h2 : (rs.toArray.mapM (runRV a.tmps)) = (rs.mapM (runRV a.tmps) >>= fun l => pure l.toArray) := by
    simp
  rw [h2]
  simp only [Sem.run_bind, h1, Result.andThen_ok, Sem.run_pure]
  match vs with
  | [] => rfl
  | [v] => rfl
  | v :: u :: vs => simp [oneOr]
theorem Ex'.ret {N : Nat} {B : Nat → Prop} {w0 : World} {fn : Func} {Post : Value → List Res → Prop} {rs : List ResultVar} {vs : List Value} (hf : fn.results = rs.toArray) (h : RVs P σ Γ rs vs) (hp : ∀ w, St B w0 Γ w → ∃ l', Post (oneOr vs) l' ∧ St B w0 l' w) :
    Ex' ⟨P, N, B, w0⟩ .ret (bodyPost P fn (Post' B w0 Post)) σ Γ := fun a w hS hΓ => ⟨hS.defers, oneOr vs, run_results hf h hS hΓ, oneOr vs, rfl, hp w hΓ⟩
theorem Ex'.fin {N : Nat} {B : Nat → Prop} {w0 : World} {fn : Func} {Post : Value → List Res → Prop} {rs : List ResultVar} {vs : List Value} (hf : fn.results = rs.toArray) (h : RVs P σ Γ rs vs) (hp : ∀ w, St B w0 Γ w → ∃ l', Post (oneOr vs) l' ∧ St B w0 l' w) :
    Ex' ⟨P, N, B, w0⟩ .normal (bodyPost P fn (Post' B w0 Post)) σ Γ := fun a w hS hΓ => ⟨hS.defers, oneOr vs, run_results hf h hS hΓ, oneOr vs, rfl, hp w hΓ⟩
end
end Go.Proofs.YtholinnmjoelkaaGreatDoor
