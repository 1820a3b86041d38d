/- Walks over what is owned apart: the steps as a program prints them. Over any program; no condition. -/
import Derived.Test.YthbffkdfahlpdaaSepF
import Derived.IntWalk
import Derived.Great.BuildSlice
set_option linter.unusedVariables false
namespace Go.Proofs.Ythbffkdfahlpdaa
open Go.RowKit Go.MapKept

/-- For some x of which φ holds: this value, these things. -/
def PostE {ι : Type} (φ : ι → Prop) (f : ι → Value) (L : ι → List Res) : Value → List Res → Prop := fun v l' => ∃ x, φ x ∧ v = f x ∧ l' = L x
def opOk (ops : Array Oper) (σ : List (Nat × Value)) (N : Nat) (i : Nat) (is : List Nat) (m : Nat) : Bool := match ops[i]? with
  | some o => (match wants ops σ o with
    | some true => true
    | _ => false) && fits N o.dst && nodupB is && is.all fun i => Nat.blt i m
  | none => false
section
variable {P : Program} {K : Cx} {Q : Exit → Act → World → Prop} {σ : List (Nat × Value)} {Γ : List Res} {ops : Array Oper} {i : Nat} {rest : List Nat} {o : Oper}
theorem opOk_spec (ho : ops[i]? = some o) {is : List Nat} {m : Nat} (h : opOk ops σ K.N i is m = true) : wants ops σ o = some true ∧ fits K.N o.dst = true ∧ is.Nodup ∧ ∀ i ∈ is, i < m := by
  unfold opOk at h
  rw [ho] at h
  simp only [Bool.and_eq_true] at h
  obtain ⟨⟨⟨h1, h2⟩, h3⟩, h4⟩ := h
  refine ⟨?_, h2, nodupB_spec h3, fun i hi => by simpa using List.all_eq_true.1 h4 i hi⟩
  cases e : wants ops σ o with
  | none => rw [e] at h1; cases h1
  | some t => cases t with
    | true => rfl
    | false => rw [e] at h1; cases h1
theorem Sq.same (is : List Nat) {r : Value} {l l' : List Res} (h : Opr K.P σ o l (Same l' r)) (hp : pickR Γ is = l) (ho : ops[i]? = some o) (hB : opOk ops σ K.N i is Γ.length = true) (hl : is.length = l'.length)
    (hK : Sq K ops rest Q (putS o.dst r σ) (updR Γ is l')) : Sq K ops (i :: rest) Q σ Γ := by
  obtain ⟨h1, h2, h3, h4⟩ := opOk_spec ho hB
  exact Sq.op ho h1 h2 is (hp ▸ h) h3 h4 (fun v l ⟨_, e⟩ => by subst e; omega) fun v l ⟨e1, e2⟩ => by subst e1 e2; exact hK
theorem Sq.ex (is : List Nat) {ι : Type} {φ : ι → Prop} {f : ι → Value} {L : ι → List Res} {l : List Res} (h : Opr K.P σ o l (PostE φ f L)) (hp : pickR Γ is = l) (ho : ops[i]? = some o) (hB : opOk ops σ K.N i is Γ.length = true) (hl : ∀ x, is.length ≤ (L x).length)
    (hK : ∀ x, φ x → Sq K ops rest Q (putS o.dst (f x) σ) (updR Γ is (L x))) : Sq K ops (i :: rest) Q σ Γ := by
  obtain ⟨h1, h2, h3, h4⟩ := opOk_spec ho hB
  exact Sq.op ho h1 h2 is (hp ▸ h) h3 h4 (fun v l ⟨x, _, _, e⟩ => by subst e; exact hl x) fun v l ⟨x, hx, e1, e2⟩ => by subst e1 e2; exact hK x hx
theorem Sq.v {r : Value} (h : OprV K.P σ o r) (ho : ops[i]? = some o) (hB : opOk ops σ K.N i [] 0 = true) (hK : Sq K ops rest Q (putS o.dst r σ) Γ) : Sq K ops (i :: rest) Q σ Γ := by
  obtain ⟨h1, h2, _⟩ := opOk_spec ho hB
  exact Sq.val ho h1 h2 h hK
theorem Sq.case {l : List Nat} (d : Nat) {p : Prop} [Decidable p] (hv : lkS σ d = some (.bool (decide p))) (h1 : p → Sq K ops l Q ((d, .bool true) :: σ) Γ) (h2 : ¬p → Sq K ops l Q ((d, .bool false) :: σ) Γ) : Sq K ops l Q σ Γ := by
  by_cases h : p
  · exact Sq.re d hv (by rw [decide_eq_true h]) (h1 h)
  · exact Sq.re d hv (by rw [decide_eq_false h]) (h2 h)
theorem Sq.caseB {l : List Nat} (d : Nat) {t : Bool} (hv : lkS σ d = some (.bool t)) (h1 : t = true → Sq K ops l Q ((d, .bool true) :: σ) Γ) (h2 : t = false → Sq K ops l Q ((d, .bool false) :: σ) Γ) : Sq K ops l Q σ Γ := by
  cases h : t
  · exact Sq.re d hv (by rw [h]) (h2 h)
  · exact Sq.re d hv (by rw [h]) (h1 h)
theorem Cd.case {c : Operand} {x y : Code} {p : Prop} [Decidable p] (hc : ev σ c = some (.bool (decide p))) (h1 : p → Cd K x Q σ Γ) (h2 : ¬p → Cd K y Q σ Γ) : Cd K (.cond c x y) Q σ Γ := by
  by_cases h : p
  · exact Cd.condT (by rw [hc, decide_eq_true h]) (h1 h)
  · exact Cd.condF (by rw [hc, decide_eq_false h]) (h2 h)
theorem vT {p : Prop} [Decidable p] (h : p) : Value.bool (decide p) = .bool true := by rw [decide_eq_true h]
theorem vF {p : Prop} [Decidable p] (h : ¬p) : Value.bool (decide p) = .bool false := by rw [decide_eq_false h]
theorem bT {p : Prop} [Decidable p] (h : p) : decide p = true := decide_eq_true h
theorem OprV.re {v v' : Value} (h : OprV P σ o v) (e : v = v') : OprV P σ o v' := e ▸ h
theorem o_new {T : TypeId} {dst : Option Tmp} {ty : TypeId} {pos : String} {after : Array Edge} {g : Option (Nat × Bool)} (l : List Value) (h : ∀ w, (Instr.alloc T true (.tuple #[])).run P w = .ok (.pointer (some ⟨w.heap.size, 0, none⟩)) (w.alloc (.cells l.toArray T))) :
    Opr P σ ⟨dst, .alloc T, ty, pos, after, g⟩ [] (PostE (fun _ => True) (fun b => .pointer (some ⟨b, 0, none⟩)) fun b => [blkR b l T]) := (o_alloc l h).mono fun v l' ⟨b, e1, e2⟩ => ⟨b, trivial, e1, e2⟩
theorem o_newBox {T : TypeId} {x : Operand} {dst : Option Tmp} {ty : TypeId} {pos : String} {after : Array Edge} {g : Option (Nat × Bool)} {v : Value} (l : List Value) (hx : ev σ x = some v) (hl : v.cells.toList = l) :
    Opr P σ ⟨dst, .box T x, ty, pos, after, g⟩ [] (PostE (fun _ => True) (fun b => .pointer (some ⟨b, 0, none⟩)) fun b => [blkR b l T]) := by
  subst hl; exact (o_box hx).mono fun v l' ⟨b, e1, e2⟩ => ⟨b, trivial, e1, e2⟩
theorem o_newMap {κ α : Type} (gk : κ → Value) (fv : α → Value) {T : TypeId} {dst : Option Tmp} {ty : TypeId} {pos : String} {after : Array Edge} {g : Option (Nat × Bool)} :
    Opr P σ ⟨dst, .makeMap T none, ty, pos, after, g⟩ [] (PostE (fun _ => True) (fun b => .map (some b)) fun b => [mapR gk fv b []]) := (o_makeMap gk fv).mono fun v l' ⟨b, e1, e2⟩ => ⟨b, trivial, e1, e2⟩
theorem o_lit {t e : TypeId} {parts : Array (Nat × Operand)} {len sz : Nat} {dst : Option Tmp} {ty : TypeId} {pos : String} {after : Array Edge} {g : Option (Nat × Bool)} (z : Value) (cells : List Value) (hu : P.underlying t = some (.slice e)) (hi : (P.info? e).map (fun i => (i.zero, i.size)) = some (some z, sz)) (hs : Nat.ble (len * sz) 1000 = true) (hp : Nat.blt 0 (len * sz) = true)
    (h : Instr.fill (fun i => some (i * sz, sz)) ((Array.range (len * sz)).map (z.cells[· % z.cells.size]!)) (parts.toList.map fun p => (p.1, evD σ p.2)) = some cells.toArray)
    (hk : known σ ⟨dst, .buildSlice t len parts, ty, pos, after, g⟩ = true) :
    Opr P σ ⟨dst, .buildSlice t len parts, ty, pos, after, g⟩ [] (PostE (fun _ => True) (fun b => .slice (some ⟨b, 0, none⟩) len len) fun b => [blkR b cells e]) := by
  cases hq : P.info? e with
  | none => rw [hq] at hi; cases hi
  | some ie =>
    rw [hq] at hi
    simp only [Option.map_some, Option.some.injEq, Prod.mk.injEq] at hi
    obtain ⟨h1, rfl⟩ := hi
    have := Nat.le_of_ble_eq_true hs
    have hp' : 0 < len * ie.size := by simpa using hp
    refine (o_buildSlice (E := e) cells (fun w => run_buildSlice w t e len _ cells.toArray ie z hu hq h1 (by omega) (by omega) ?_) hk).mono fun v l' ⟨b, e1, e2⟩ => ⟨b, trivial, e1, e2⟩
    rw [← h]
    congr 1
    simp
theorem PostE.of {ι : Type} {f : ι → Value} {L : ι → List Res} {v : Value} {l' : List Res} (x : ι) (h : v = f x) (hl : l' = L x) : PostE (fun _ => True) f L v l' := ⟨x, trivial, h, hl⟩
theorem o_push {t e size bytes n B m : Nat} {v : Value} {xs news : List Value} {T : TypeId} {dst : Option Tmp} {ty : TypeId} {pos : String} {after : Array Edge} {g : Option (Nat × Bool)} {s x : Operand} (hs : ev σ s = some v) (hx : ev σ x = some (.slice (some ⟨B, 0, none⟩) m m)) (E : ElemT P t e size bytes) (hsz : 0 < size) (hl : news.length = m * size) (h1 : news.all Value.oneCell' = true) (h63 : n + m ≤ maxLen) (hby : (n + m) * bytes ≤ 140737488355328) {n' : Nat} {xs' : List Value} (hn : n + m = n') (hxs : xs ++ news = xs') :
    Opr P σ ⟨dst, .call { callee := .builtin .append, args := #[s, x], argTypes := #[t, t] }, ty, pos, after, g⟩ [rowR e size v n xs, blkR B news T] (PostE (fun _ => True) id fun v' => [rowR e size v' n' xs', blkR B news T]) := by
  subst hn hxs; exact (o_append hs hx E hsz hl h1 h63 hby).mono fun v l' h => ⟨v, trivial, rfl, h⟩
theorem o_pushAll {t e size bytes n m : Nat} {R : Res} {v u : Value} {xs news : List Value} {dst : Option Tmp} {ty : TypeId} {pos : String} {after : Array Edge} {g : Option (Nat × Bool)} {s x : Operand} (hs : ev σ s = some v) (hx : ev σ x = some u) (hR : ∀ w S, R.p w S → ∃ S', Cells w S' u m size news) (E : ElemT P t e size bytes) (hsz : 0 < size) (h1 : ∀ c ∈ news, c.oneCell' = true) (h63 : n + m ≤ maxLen) (hby : (n + m) * bytes ≤ 140737488355328) {n' : Nat} {xs' : List Value} (hn : n + m = n') (hxs : xs ++ news = xs') :
    Opr P σ ⟨dst, .call { callee := .builtin .append, args := #[s, x], argTypes := #[t, t] }, ty, pos, after, g⟩ [rowR e size v n xs, R] (PostE (fun _ => True) id fun v' => [rowR e size v' n' xs', R]) := by
  subst hn hxs; exact (o_appendAll hs hx hR E hsz h1 h63 hby).mono fun v l' h => ⟨v, trivial, rfl, h⟩
theorem tri_make {f : Nat} {args : Array Value} {l : List Res} {N : Value → Res} (h : ∀ w own, Holds l own w → Calls P f args w (Makes w fun v => (N v).p)) : Tri P f args l (PostE (fun _ => True) id fun v => l ++ [N v]) := (tri_makes h).mono fun v l' e => ⟨v, trivial, rfl, e⟩
theorem tri_makeP {f : Nat} {args : Array Value} {l : List Res} {N : Nat → Res} (h : ∀ w own, Holds l own w → Calls P f args w (MakesP w fun b => (N b).p)) : Tri P f args l (PostE (fun _ => True) (fun b => .pointer (some ⟨b, 0, none⟩)) fun b => l ++ [N b]) := (tri_makesP h).mono fun v l' ⟨b, e1, e2⟩ => ⟨b, trivial, e1, e2⟩
/-- Another number of the like kind: a plain operation on ints. -/
theorem o_add {ty xt yt : TypeId} {dst : Option Tmp} {pos : String} {after : Array Edge} {g : Option (Nat × Bool)} {k : IntKind} {x y : Operand} {a b c : Int} (hx : ev σ x = some (.int k a)) (hy : ev σ y = some (.int k b)) (hc : k.wrap (a + b) = c) : OprV P σ ⟨dst, .binOp .add xt x y yt, ty, pos, after, g⟩ (.int k c) := oprV_of fun ρ hρ w => by
  subst hc; simp [execOp, hρ x _ hx, hρ y _ hy, binOp, Op.intArith, eqGuard, Result.andThen]
theorem o_sub {ty xt yt : TypeId} {dst : Option Tmp} {pos : String} {after : Array Edge} {g : Option (Nat × Bool)} {k : IntKind} {x y : Operand} {a b c : Int} (hx : ev σ x = some (.int k a)) (hy : ev σ y = some (.int k b)) (hc : k.wrap (a - b) = c) : OprV P σ ⟨dst, .binOp .sub xt x y yt, ty, pos, after, g⟩ (.int k c) := oprV_of fun ρ hρ w => by
  subst hc; simp [execOp, hρ x _ hx, hρ y _ hy, binOp, Op.intArith, eqGuard, Result.andThen]
theorem o_mul {ty xt yt : TypeId} {dst : Option Tmp} {pos : String} {after : Array Edge} {g : Option (Nat × Bool)} {k : IntKind} {x y : Operand} {a b c : Int} (hx : ev σ x = some (.int k a)) (hy : ev σ y = some (.int k b)) (hc : k.wrap (a * b) = c) : OprV P σ ⟨dst, .binOp .mul xt x y yt, ty, pos, after, g⟩ (.int k c) := oprV_of fun ρ hρ w => by
  subst hc; simp [execOp, hρ x _ hx, hρ y _ hy, binOp, Op.intArith, eqGuard, Result.andThen]
theorem w64 {x c : Int} (e : x = c) (h : -9223372036854775808 ≤ c ∧ c ≤ 9223372036854775807) : IntKind.i64.wrap x = c := by
  subst e; exact IntWalk.i64_in _ h
theorem o_eqS {ty xt yt : TypeId} {dst : Option Tmp} {pos : String} {after : Array Edge} {g : Option (Nat × Bool)} {x y : Operand} {a b : ByteArray} (hx : ev σ x = some (.string a)) (hy : ev σ y = some (.string b)) : OprV P σ ⟨dst, .binOp .eql xt x y yt, ty, pos, after, g⟩ (.bool (decide (a = b))) := oprV_of fun ρ hρ w => by
  have := str_iff a b
  simp only [execOp, hρ x _ hx, hρ y _ hy, binOp, Op.stringOp, eqGuard, Sem.run_bind, Sem.run_pure, Result.andThen_ok, this]
  rfl
theorem o_neS {ty xt yt : TypeId} {dst : Option Tmp} {pos : String} {after : Array Edge} {g : Option (Nat × Bool)} {x y : Operand} {a b : ByteArray} (hx : ev σ x = some (.string a)) (hy : ev σ y = some (.string b)) : OprV P σ ⟨dst, .binOp .neq xt x y yt, ty, pos, after, g⟩ (.bool (decide (a ≠ b))) := oprV_of fun ρ hρ w => by
  have := str_iff a b
  simp only [execOp, hρ x _ hx, hρ y _ hy, binOp, Op.stringOp, eqGuard, Sem.run_bind, Sem.run_pure, Result.andThen_ok, this]
  simp [Result.andThen]
/-- Things spelt otherwise. -/
theorem Ex'.res {e : Exit} (j : Nat) {R R' : Res} (hj : Γ[j]? = some R) (hR : ∀ w S, R.p w S → R'.p w S) (h : Ex' K e Q σ (Γ.set j R')) : Ex' K e Q σ Γ := fun a w hS hΓ => h a w hS (hΓ.conv j hj hR)
theorem Sq.res {l : List Nat} (j : Nat) {R R' : Res} (hj : Γ[j]? = some R) (hR : ∀ w S, R.p w S → R'.p w S) (h : Sq K ops l Q σ (Γ.set j R')) : Sq K ops l Q σ Γ := fun a w hS hΓ => h a w hS (hΓ.conv j hj hR)
theorem Cd.res {c : Code} (j : Nat) {R R' : Res} (hj : Γ[j]? = some R) (hR : ∀ w S, R.p w S → R'.p w S) (h : Cd K c Q σ (Γ.set j R')) : Cd K c Q σ Γ := fun a w hS hΓ => h a w hS (hΓ.conv j hj hR)
theorem St.pickB {B : Nat → Prop} {w0 w : World} {Γ' : List Res} (h : St B w0 Γ w) (is : List Nat) (h2 : nodupB is = true) (h3 : (is.all fun i => Nat.blt i Γ.length) = true) (h4 : pickR Γ is = Γ') : St B w0 Γ' w := by
  subst h4; exact h.keep is (nodupB_spec h2) fun i hi => by simpa using List.all_eq_true.1 h3 i hi
theorem Cd.as {c : Code} {σ' : List (Nat × Value)} {Γ' : List Res} (is : List Nat) (h1 : σ = σ') (h2 : nodupB is = true) (h3 : (is.all fun i => Nat.blt i Γ.length) = true) (h4 : pickR Γ is = Γ') (h : Cd K c Q σ' Γ') : Cd K c Q σ Γ := fun a w hS hΓ => by
  subst h1; exact h a w hS (hΓ.pickB is h2 h3 h4)
/-- Slots that are kept. -/
def subB (σ : List (Nat × Value)) (l : List Nat) : List (Nat × Value) := l.filterMap fun d => (lkS σ d).map fun v => (d, v)
theorem subB_spec : ∀ (l : List Nat), subS σ (subB σ l)
  | [] => subS.nil
  | d :: l => by
    unfold subB
    rw [List.filterMap_cons]
    cases e : lkS σ d with
    | none => exact subB_spec l
    | some v => exact subS.cons e (subB_spec l)
theorem subB_eq {l : List Nat} {σ' : List (Nat × Value)} (h : subB σ l = σ') : subS σ σ' := h ▸ subB_spec l
end
abbrev pV (b i : Nat) : Value := .pointer (some ⟨b, i, none⟩)
abbrev iV (n : Int) : Value := .int .i64 n
abbrev sV (s : ByteArray) : Value := .string s
abbrev bV (t : Bool) : Value := .bool t
abbrev slV (b n cap : Nat) : Value := .slice (some ⟨b, 0, none⟩) n cap
section
variable {P : Program} {ops : Array Oper} {σ : List (Nat × Value)} {p : Plan} {i : Nat} {o : Oper}
theorem ob_s {l l' : Gh → List Res} {v : Gh → Value} (h : ∀ g, Opr P (p.slots σ g i) o (l g) (Same (l' g) (v g))) (hB : ∀ g, (p.fr i, wants ops (p.slots σ g i) o, p.pre g i, p.post g i, p.V i g) = (false, some true, l g, l' g, v g)) : p.ob P ops σ i o := by
  have hf : p.fr i = false := by have := hB default; simp only [Prod.mk.injEq] at this; exact this.1
  refine ob_same hf (fun g => ?_) fun g => ?_
  · have := hB g; simp only [Prod.mk.injEq] at this; exact this.2.1
  · have := hB g; simp only [Prod.mk.injEq] at this
    obtain ⟨_, _, e1, e2, e3⟩ := this
    rw [e1, e2, e3]; exact h g
theorem ob_v {v : Gh → Value} (h : ∀ g, OprV P (p.slots σ g i) o (v g)) (hB : ∀ g, (p.fr i, wants ops (p.slots σ g i) o, p.pre g i, p.post g i, p.V i g) = (false, some true, [], [], v g)) : p.ob P ops σ i o :=
  ob_s (l := fun _ => []) (l' := fun _ => []) (v := v) h hB
theorem ob_d {ι : Type} {φ : ι → Prop} {f : ι → Value} {L : Gh → ι → List Res} {l : Gh → List Res} (x : ι → Value) (h : ∀ g, Opr P (p.slots σ g i) o (l g) (PostE φ f (L g))) (hB : ∀ g, (p.fr i, wants ops (p.slots σ g i) o, p.pre g i) = (true, some true, l g))
    (hp : ∀ g y, φ y → p.sp i (x y) ∧ f y = p.V i (updG g i (x y)) ∧ L g y = p.post (updG g i (x y)) i) : p.ob P ops σ i o := by
  have hf : p.fr i = true := by have := hB default; simp only [Prod.mk.injEq] at this; exact this.1
  refine ob_drawn hf (fun g => ?_) (Post := fun g => PostE φ f (L g)) (fun g => ?_) fun g v l' ⟨y, h1, h2, h3⟩ => ?_
  · have := hB g; simp only [Prod.mk.injEq] at this; exact this.2.1
  · have := hB g; simp only [Prod.mk.injEq] at this
    rw [this.2.2]; exact h g
  · obtain ⟨q1, q2, q3⟩ := hp g y h1
    exact ⟨x y, q1, h2.trans q2, h3.trans q3⟩
theorem o_eqI {ty xt yt : TypeId} {dst : Option Tmp} {pos : String} {after : Array Edge} {g : Option (Nat × Bool)} {k : IntKind} {x y : Operand} {a b : Int} (hx : ev σ x = some (.int k a)) (hy : ev σ y = some (.int k b)) : OprV P σ ⟨dst, .binOp .eql xt x y yt, ty, pos, after, g⟩ (.bool (decide (a = b))) := oprV_of fun ρ hρ w => by
  by_cases q : a = b <;> simp [execOp, hρ x _ hx, hρ y _ hy, binOp, Op.intCmp, eqGuard, Result.andThen, q]
theorem o_neI {ty xt yt : TypeId} {dst : Option Tmp} {pos : String} {after : Array Edge} {g : Option (Nat × Bool)} {k : IntKind} {x y : Operand} {a b : Int} (hx : ev σ x = some (.int k a)) (hy : ev σ y = some (.int k b)) : OprV P σ ⟨dst, .binOp .neq xt x y yt, ty, pos, after, g⟩ (.bool (decide (a ≠ b))) := oprV_of fun ρ hρ w => by
  by_cases q : a = b <;> simp [execOp, hρ x _ hx, hρ y _ hy, binOp, Op.intCmp, eqGuard, Result.andThen, bne, q]
theorem o_not {ty xt : TypeId} {dst : Option Tmp} {pos : String} {after : Array Edge} {g : Option (Nat × Bool)} {x : Operand} {q : Prop} [Decidable q] (hx : ev σ x = some (.bool (decide q))) : OprV P σ ⟨dst, .unOp .not xt x, ty, pos, after, g⟩ (.bool (decide (¬ q))) := oprV_of fun ρ hρ w => by
  simp [execOp, hρ x _ hx, Op.unary, Result.andThen]
end
def slOf : Value → Nat
  | .slice (some a) _ _ => a.block
  | _ => 0
section
variable {P : Program} {σ : List (Nat × Value)}
theorem Tri.re {f : Nat} {args : Array Value} {l l' : List Res} {r r' : Value} (h : Tri P f args l (Same l' r)) (e : r = r') : Tri P f args l (Same l' r') := e ▸ h
/-- A call of a function value. -/
theorem o_calld {f : Nat} {t : Nat} {first captured : List Value} {xs : Array Operand} {tys : Array TypeId} {dst : Option Tmp} {ty : TypeId} {pos : String} {after : Array Edge} {g : Option (Nat × Bool)} {args : List Value} {full : List Value} {l : List Res} {Post : Value → List Res → Prop}
    (hv : lkS σ t = some (.func (.func f) first.toArray captured.toArray)) (hx : evs σ xs.toList = some args) (hfull : first ++ args ++ captured = full) (hf : ∀ args w, (callFunc f args).run P w = .ok (.enter f args) w) (h : Tri P f full.toArray l Post) :
    Opr P σ ⟨dst, .call { callee := .value (.tmp t), args := xs, argTypes := tys }, ty, pos, after, g⟩ l Post := by
  subst hfull
  intro ρ hρ w own hH hO
  have hxs : ∀ (xs : List Operand) (args : List Value), evs σ xs = some args → xs.map ρ = args := by
    intro xs
    induction xs with
    | nil => intro args h; simp [evs] at h; simp [h]
    | cons x xs ih =>
      intro args h
      unfold evs at h
      cases e1 : ev σ x with
      | none => simp [e1] at h
      | some v =>
        cases e2 : evs σ xs with
        | none => simp [e1, e2] at h
        | some vs => simp [e1, e2] at h; subst h; simp [hρ x v e1, ih vs e2]
  have hargs : xs.map ρ = args.toArray := by
    have := hxs xs.toList args hx
    apply Array.ext'
    simpa using this
  refine .inr ⟨f, (first ++ args ++ captured).toArray, ?_, h w own hH hO⟩
  have hv' : ρ (.tmp t) = .func (.func f) first.toArray captured.toArray := hρ (.tmp t) _ hv
  simp [execOp, resolve, Deferred.ofValue, hv', invoke, hargs, hf, Result.andThen]
section
variable {κ α : Type} [DecidableEq κ] {gk : κ → Value} {fv : α → Value} {b : Nat} {l : List (κ × α)} {t k e : TypeId} {dst : Option Tmp} {ty : TypeId} {pos : String} {after : Array Edge} {g : Option (Nat × Bool)} {m x : Operand}
theorem map_getD' {β γ : Type} (f : β → γ) (o : Option β) (d : β) : (o.map f).getD (f d) = f (o.getD d) := by cases o <;> rfl
theorem o_lookOk (d : α) (key : κ) (hm : ev σ m = some (.map (some b))) (hx : ev σ x = some (gk key)) (K : KeyT P k gk) (ht : P.underlying t = some (.map k e)) (hz : ∀ w, (zeroValue e).run P w = .ok (fv d) w) :
    Opr P σ ⟨dst, .lookup t m x true, ty, pos, after, g⟩ [mapR gk fv b l] (Same [mapR gk fv b l] (.tuple #[fv ((lk l key).getD d), .bool (lk l key).isSome])) :=
  (o_lookup (c := true) key hm hx K ht hz).mono fun v l' h => by rw [if_pos rfl, map_getD'] at h; exact h
theorem o_look (d : α) (key : κ) (hm : ev σ m = some (.map (some b))) (hx : ev σ x = some (gk key)) (K : KeyT P k gk) (ht : P.underlying t = some (.map k e)) (hz : ∀ w, (zeroValue e).run P w = .ok (fv d) w) :
    Opr P σ ⟨dst, .lookup t m x false, ty, pos, after, g⟩ [mapR gk fv b l] (Same [mapR gk fv b l] (fv ((lk l key).getD d))) :=
  (o_lookup (c := false) key hm hx K ht hz).mono fun v l' h => by rw [if_neg (by simp), map_getD'] at h; exact h
end
end
section
variable {K : Cx} {Q : Exit → Act → World → Prop} {σ : List (Nat × Value)} {Γ : List Res} {P : Program}
/-- No slice at all is a row. -/
theorem St.nilRow {B : Nat → Prop} {w0 w : World} (h : St B w0 Γ w) (e size : Nat) : St B w0 (Γ ++ [rowR e size (.slice none 0 0) 0 []]) w := by
  obtain ⟨own, hM, hO, hH⟩ := h
  refine ⟨own, hM, hO, fun i R hi => ?_⟩
  by_cases hc : i < Γ.length
  · rw [List.getElem?_append_left hc] at hi; exact hH i R hi
  · rw [List.getElem?_append_right (by omega)] at hi
    have hj : i - Γ.length = 0 := by have := (List.getElem?_eq_some_iff.1 hi).1; simp at this; omega
    rw [hj] at hi
    cases hi
    exact Row.nil w _ e size
theorem Cd.nilRow {c : Code} (e size : Nat) (h : Cd K c Q σ (Γ ++ [rowR e size (.slice none 0 0) 0 []])) : Cd K c Q σ Γ := fun a w hS hΓ => h a w hS (hΓ.nilRow e size)
theorem Sq.nilRow {ops : Array Oper} {l : List Nat} (e size : Nat) (h : Sq K ops l Q σ (Γ ++ [rowR e size (.slice none 0 0) 0 []])) : Sq K ops l Q σ Γ := fun a w hS hΓ => h a w hS (hΓ.nilRow e size)
theorem Ex'.nilRow {x : Exit} (e size : Nat) (h : Ex' K x Q σ (Γ ++ [rowR e size (.slice none 0 0) 0 []])) : Ex' K x Q σ Γ := fun a w hS hΓ => h a w hS (hΓ.nilRow e size)
theorem o_quo {ty xt yt : TypeId} {dst : Option Tmp} {pos : String} {after : Array Edge} {g : Option (Nat × Bool)} {k : IntKind} {x y : Operand} {a b c : Int} (hx : ev σ x = some (.int k a)) (hy : ev σ y = some (.int k b)) (h0 : b ≠ 0) (hc : k.wrap (a.tdiv b) = c) : OprV P σ ⟨dst, .binOp .quo xt x y yt, ty, pos, after, g⟩ (.int k c) := oprV_of fun ρ hρ w => by
  subst hc; simp [execOp, hρ x _ hx, hρ y _ hy, binOp, Op.intDiv, eqGuard, Result.andThen, h0]
end
section
variable {P : Program} {σ : List (Nat × Value)} {t e size bytes n : Nat} {v : Value} {xs : List Value} {dst : Option Tmp} {ty : TypeId} {pos : String} {after : Array Edge} {g : Option (Nat × Bool)} {s x ix : Operand}
theorem Tri.eq {f : Nat} {args : Array Value} {l l1 l2 : List Res} {r r' : Value} (h : Tri P f args l (Same l1 r)) (e1 : l1 = l2) (e2 : r = r') : Tri P f args l (Same l2 r') := by subst e1 e2; exact h
theorem Tri.ex {f : Nat} {args : Array Value} {l : List Res} {ι : Type} {φ : ι → Prop} {q : ι → Value} {L L' : ι → List Res} (h : Tri P f args l (PostE φ q L)) (e : ∀ x, L x = L' x) : Tri P f args l (PostE φ q L') := h.mono fun v l' ⟨x, h1, h2, h3⟩ => ⟨x, h1, h2, h3.trans (e x)⟩
theorem run_index {ρ : Operand → Value} {b off cap i : Nat} {kd : IntKind} {q : Int} {w : World} (hs : ρ s = .slice (some ⟨b, off, none⟩) n cap) (hi : ρ ix = .int kd q) (hq : q = (i : Int)) (hin : i < n) (ht : P.underlying t = some (.slice e)) (hz : sizeT P e size = true) :
    (execOp ρ ⟨dst, .indexAddr t s ix, ty, pos, after, g⟩).run P w = .ok (.value (.pointer (some ⟨b, off + i * size, none⟩))) w := by
  subst hq
  unfold sizeT at hz
  cases hq : P.info? e with
  | none => simp [hq] at hz
  | some q =>
    simp [hq] at hz
    simp [execOp, hs, hi, Instr.indexAt, asIntOf, run_underlying ht, sizeOf, typeInfo, hq, hz, addr_add', hin, Result.andThen]
theorem o_idx {b off cap i : Nat} {kd : IntKind} {q : Int} (hs : ev σ s = some (.slice (some ⟨b, off, none⟩) n cap)) (hi : ev σ ix = some (.int kd q)) (hq : q = (i : Int)) (hin : i < n) (ht : P.underlying t = some (.slice e)) (hz : sizeT P e size = true) {j : Nat} (hj : off + i * size = j) :
    OprV P σ ⟨dst, .indexAddr t s ix, ty, pos, after, g⟩ (.pointer (some ⟨b, j, none⟩)) := oprV_of fun ρ hρ w => by subst hj; exact run_index (hρ s _ hs) (hρ ix _ hi) hq hin ht hz
theorem o_cutFrom {a : Option Addr} {cap l : Nat} {kd : IntKind} {q : Int} {lo : Operand} (hx : ev σ x = some (.slice a n cap)) (hlo : ev σ lo = some (.int kd q)) (hq : q = (l : Int)) (hl : l ≤ n) (hn : n ≤ cap) (ht : P.underlying t = some (.slice e)) (hz : sizeT P e 1 = true) :
    OprV P σ ⟨dst, .slice t x (some lo) none none, ty, pos, after, g⟩ (.slice (if cap = l then a else a.map fun y => y.add l) (n - l) (cap - l)) := oprV_of fun ρ hρ w => by
  subst hq
  unfold sizeT at hz
  cases hq : P.info? e with
  | none => simp [hq] at hz
  | some q =>
    simp [hq] at hz
    simp [execOp, hρ x _ hx, hρ lo _ hlo, Instr.sliceAt, Instr.slice, Instr.sliceBounds, Instr.sliceBound, asIntOf, run_underlying ht, sizeOf, typeInfo, hq, hz, hl, Result.andThen]
theorem o_cutTo {b off cap h : Nat} {kd : IntKind} {q : Int} {hi : Operand} (hx : ev σ x = some (.slice (some ⟨b, off, none⟩) n cap)) (hhi : ev σ hi = some (.int kd q)) (hq : q = (h : Int)) (hn : h ≤ cap) (ht : P.underlying t = some (.slice e)) (hz : sizeT P e size = true) :
    OprV P σ ⟨dst, .slice t x none (some hi) none, ty, pos, after, g⟩ (.slice (some ⟨b, off, none⟩) h cap) := oprV_of fun ρ hρ w => by
  subst hq
  unfold sizeT at hz
  cases hq : P.info? e with
  | none => simp [hq] at hz
  | some q =>
    simp [hq] at hz
    by_cases h0 : cap = 0
    · subst h0
      simp [execOp, hρ x _ hx, hρ hi _ hhi, Instr.sliceAt, Instr.slice, Instr.sliceBounds, Instr.sliceBound, asIntOf, run_underlying ht, sizeOf, typeInfo, hq, hz, hn, Result.andThen]
    · simp [execOp, hρ x _ hx, hρ hi _ hhi, Instr.sliceAt, Instr.slice, Instr.sliceBounds, Instr.sliceBound, asIntOf, run_underlying ht, sizeOf, typeInfo, hq, hz, hn, Result.andThen, h0, addr_add']
end
/-- Where ways meet. -/
def Jn (K : Cx) {ι : Type} (I : ι → Prop) (σ' : ι → List (Nat × Value)) (Γ' : ι → List Res) : Act → World → Prop := fun a w => ∃ g, I g ∧ Sl K.N (σ' g) a ∧ St K.B K.w0 (Γ' g) w
section
variable {K : Cx} {Q : Exit → Act → World → Prop} {σ : List (Nat × Value)} {Γ : List Res}
theorem Cd.join {ι : Type} {x y : Code} (I : ι → Prop) (σ' : ι → List (Nat × Value)) (Γ' : ι → List Res) (h : Cd K x (Exit.then (Jn K I σ' Γ') Q) σ Γ) (k : ∀ g, I g → Cd K y Q (σ' g) (Γ' g)) : Cd K (.seq x y) Q σ Γ := fun a w hS hΓ => by
  refine wp_seq (wp_mono (h a w hS hΓ) fun e a w q => ?_)
  cases e <;> try exact q
  obtain ⟨g, h1, h2, h3⟩ := q
  exact k g h1 a w h2 h3
theorem Ex'.meet {ι : Type} {I : ι → Prop} {σ' : ι → List (Nat × Value)} {Γ' : ι → List Res} (g : ι) (h : I g) (hs : subS σ (σ' g)) (hΓ : ∀ w, St K.B K.w0 Γ w → St K.B K.w0 (Γ' g) w) : Ex' K .normal (Exit.then (Jn K I σ' Γ') Q) σ Γ := fun a w hS hG => ⟨g, h, hS.sub hs, hΓ w hG⟩
end
/-- A method's contract over parts, as one over the whole. -/
theorem tri_comp {P : Program} {fn : Nat} {args : Array Value} {ι : Type} {f f' : ι → List Res} {r : Value} (h : ∀ x, Tri P fn args (f x) (Same (f' x) r)) (hlen : ∀ x, (f' x).length = (f x).length) : Tri P fn args [compR f] (Same [compR f'] r) := by
  intro w own hH hO
  obtain ⟨x, own1, h1, h2⟩ := hH 0 (compR f) rfl
  refine (h x w (fun k => if k < w.heap.size ∧ own1 k ≤ (f x).length then own1 k else 0) (fun i R hi => Res.mov _ (h2 i R hi) (Nat.le_refl _) fun k hk q => ⟨?_, rfl⟩) (fun k _ => ?_)).mono ?_
  · have := (List.getElem?_eq_some_iff.1 hi).1
    show (if k < w.heap.size ∧ own1 k ≤ (f x).length then own1 k else 0) = i + 1
    rw [if_pos ⟨hk, by omega⟩]; exact q
  · split <;> omega
  · rintro e w' ⟨v, rfl, l', own', ⟨rfl, rfl⟩, h3, h4, h5⟩
    have hsel : ∀ k, k < w.heap.size → (if k < w.heap.size ∧ own1 k ≤ (f x).length then own1 k else 0) ≠ 0 → own k = 1 := fun k hk q => by
      split at q
      · exact h1 k hk q
      · exact absurd rfl q
    refine ⟨_, rfl, [compR f'], fun k => if k < w.heap.size then (if own' k ≠ 0 then 1 else (if own k = 1 then 0 else own k)) else (if own' k ≠ 0 then 1 else 0), ⟨rfl, rfl⟩, fun i R hi => ?_, h4.mono fun k hk q => (by rw [hsel k hk q]; simp), fun k hk q => ?_⟩
    · match i, hi with
      | 0, hi =>
        cases hi
        refine ⟨x, own', fun k _ q => ?_, h3⟩
        show (if k < w.heap.size then (if own' k ≠ 0 then 1 else (if own k = 1 then 0 else own k)) else (if own' k ≠ 0 then 1 else 0)) = 0 + 1
        simp [q]
    · simp only [if_pos hk] at q
      by_cases e : own' k ≠ 0
      · rw [hsel k hk (h5 k hk e)]; simp
      · rw [if_neg e] at q
        split at q
        · exact absurd rfl q
        · exact q
end Go.Proofs.Ythbffkdfahlpdaa
