/- Walks over what is owned apart: a function's beginning and end. Over any program; no condition. -/
import Derived.Test.YthbffkdfahlpdaaSepB
set_option linter.unusedVariables false
namespace Go.Proofs.Ythbffkdfahlpdaa
open Go.RowKit Go.MapKept

section
variable {P : Program}
def argS : Nat → List Value → List (Nat × Value)
  | _, [] => []
  | i, v :: vs => (i, v) :: argS (i + 1) vs
theorem argS_get : ∀ (args : List Value) (i k : Nat) (v : Value), lkS (argS i args) k = some v → i ≤ k ∧ args[k - i]? = some v
  | [], _, _, _, h => by cases h
  | u :: us, i, k, v, h => by
    unfold argS lkS at h
    cases hb : Nat.beq i k with
    | true =>
      have := Nat.eq_of_beq_eq_true hb
      subst this
      rw [hb] at h
      simp at h
      simp [h]
    | false =>
      rw [hb] at h
      have hne : i ≠ k := fun q => by subst q; simp at hb
      obtain ⟨h1, h2⟩ := argS_get us (i + 1) k v h
      refine ⟨by omega, ?_⟩
      rw [show k - i = (k - (i + 1)) + 1 by omega]
      simpa using h2
/-- What a body must come to. -/
def Post' (B : Nat → Prop) (w0 : World) (Post : Value → List Res → Prop) : Ending → World → Prop := fun e w' => ∃ v, e = .returned v ∧ ∃ l', Post v l' ∧ St B w0 l' w'
theorem Tri.enter {f N : Nat} {fn : Func} {c : Code} {args : List Value} {l : List Res} {Post : Value → List Res → Prop} (hf : P.funcs[f]? = some fn) (hb : fn.body = some c) (hN : fn.ntmps = N) (ha : Nat.ble args.length N = true)
    (h : ∀ B w0, Cd ⟨P, N, B, w0⟩ c (bodyPost P fn (Post' B w0 Post)) (argS 0 args) l) : Tri P f args.toArray l Post := by
  intro w own hH hO
  refine (calls_of_wp hf hb (h (fun k => own k ≠ 0) w _ _ ⟨?_, rfl, fun k v e => ?_⟩ (St.start hH))).mono ?_
  · have := Nat.le_of_ble_eq_true ha
    simp [hN]; omega
  · obtain ⟨_, h2⟩ := argS_get args 0 k v e
    rw [Nat.sub_zero] at h2
    have hk := (List.getElem?_eq_some_iff.1 h2).1
    show (args.toArray ++ Array.replicate (fn.ntmps - args.toArray.size) undef)[k]? = some v
    rw [Array.getElem?_append_left (by simpa using hk)]
    simpa using h2
  · rintro e w' ⟨v, rfl, l', h1, own', hM, hO', hH'⟩
    exact ⟨v, rfl, l', own', h1, hH', hM, hO'⟩

/-- Results. -/
def runRV (tmps : Array Value) : ResultVar → Sem Value
  | .tmp t => pure (tmps.getD t undef)
  | .cell a t => do loadVar t (← asAddr (tmps.getD a undef))
theorem results_eq (fn : Func) (tmps : Array Value) : results fn tmps = (fn.results.mapM (runRV tmps) >>= fun vs => pure (if h : vs.size = 1 then vs[0] else .tuple vs)) := by
  unfold results
  congr 1
def RVs (P : Program) (σ : List (Nat × Value)) (Γ : List Res) (rs : List ResultVar) (vs : List Value) : Prop := ∀ (N : Nat) (B : Nat → Prop) (w0 : World) (a : Act) (w : World), Sl N σ a → St B w0 Γ w → (rs.mapM (runRV a.tmps)).run P w = .ok vs w
variable {σ : List (Nat × Value)} {Γ : List Res}
theorem RVs.nil : RVs P σ Γ [] [] := fun N B w0 a w hS hΓ => by simp
theorem RVs.tmp {t : Nat} {v : Value} {rs : List ResultVar} {vs : List Value} (h : lkS σ t = some v) (k : RVs P σ Γ rs vs) : RVs P σ Γ (.tmp t :: rs) (v :: vs) := fun N B w0 a w hS hΓ => by
  have h1 := hS.slot t v h
  have h2 := k N B w0 a w hS hΓ
  simp [List.mapM_cons, runRV, h1, h2, Result.andThen]
theorem RVs.cell {t T b i : Nat} {l : List Value} {E : TypeId} {v : Value} {rs : List ResultVar} {vs : List Value} (r : Nat) (h : lkS σ t = some (.pointer (some ⟨b, i, none⟩))) (hr : Γ[r]? = some (blkR b l E)) (ht : scal P T = true) (hv : l[i]? = some v)
    (k : RVs P σ Γ rs vs) : RVs P σ Γ (.cell t T :: rs) (v :: vs) := fun N B w0 a w hS hΓ => by
  have h1 := hS.slot t _ h
  have h2 := k N B w0 a w hS hΓ
  obtain ⟨S, hb⟩ := hΓ.fact hr
  have hb : BlkAt w S b l E := hb
  have h3 := run_load1 (P := P) ht (hb.1.at i v hv)
  simp only [Instr.loadAt, Instr.sureAddr, Sem.run_bind, Sem.run_pure, Result.andThen_ok] at h3
  simp [List.mapM_cons, runRV, h1, h2, asAddr, h3, Result.andThen]
theorem RVs.cellN {t T b i : Nat} {l : List Value} {E : TypeId} (cs : List Value) {rs : List ResultVar} {vs : List Value} (r : Nat) (h : lkS σ t = some (.pointer (some ⟨b, i, none⟩))) (hr : Γ[r]? = some (blkR b l E)) (ht : rowT P T cs.length = true) (hv : (l.drop i).take cs.length = cs)
    (k : RVs P σ Γ rs vs) : RVs P σ Γ (.cell t T :: rs) (.agg cs.toArray :: vs) := fun N B w0 a w hS hΓ => by
  have h1 := hS.slot t _ h
  have h2 := k N B w0 a w hS hΓ
  obtain ⟨S, hb⟩ := hΓ.fact hr
  have hb : BlkAt w S b l E := hb
  have h4 := blk_range hb i cs.length
  rw [hv] at h4
  have h3 := run_loadN (P := P) (n := 0) ht h4
  simp only [Instr.loadAt, Instr.sureAddr, Sem.run_bind, Sem.run_pure, Result.andThen_ok] at h3
  simp [List.mapM_cons, runRV, h1, h2, asAddr, h3, Result.andThen]
def oneOr : List Value → Value
  | [v] => v
  | vs => .tuple vs.toArray
theorem run_results {fn : Func} {rs : List ResultVar} {vs : List Value} (hf : fn.results = rs.toArray) (h : RVs P σ Γ rs vs) {N : Nat} {B : Nat → Prop} {w0 : World} {a : Act} {w : World} (hS : Sl N σ a) (hΓ : St B w0 Γ w) : (results fn a.tmps).run P w = .ok (oneOr vs) w := by
  rw [results_eq, hf]
  have h1 := h N B w0 a w hS hΓ
  have h2 : (rs.toArray.mapM (runRV a.tmps)) = (rs.mapM (runRV a.tmps) >>= fun l => pure l.toArray) := by
    simp
  rw [h2]
  simp only [Sem.run_bind, h1, Result.andThen_ok, Sem.run_pure]
  match vs with
  | [] => rfl
  | [v] => rfl
  | v :: u :: vs => simp [oneOr]
/-- The end of a function: what it returns, and the things behind. -/
theorem Ex'.ret {N : Nat} {B : Nat → Prop} {w0 : World} {fn : Func} {Post : Value → List Res → Prop} {rs : List ResultVar} {vs : List Value} (hf : fn.results = rs.toArray) (h : RVs P σ Γ rs vs) (hp : ∀ w, St B w0 Γ w → ∃ l', Post (oneOr vs) l' ∧ St B w0 l' w) :
    Ex' ⟨P, N, B, w0⟩ .ret (bodyPost P fn (Post' B w0 Post)) σ Γ := fun a w hS hΓ => ⟨hS.defers, oneOr vs, run_results hf h hS hΓ, oneOr vs, rfl, hp w hΓ⟩
theorem Ex'.fin {N : Nat} {B : Nat → Prop} {w0 : World} {fn : Func} {Post : Value → List Res → Prop} {rs : List ResultVar} {vs : List Value} (hf : fn.results = rs.toArray) (h : RVs P σ Γ rs vs) (hp : ∀ w, St B w0 Γ w → ∃ l', Post (oneOr vs) l' ∧ St B w0 l' w) :
    Ex' ⟨P, N, B, w0⟩ .normal (bodyPost P fn (Post' B w0 Post)) σ Γ := fun a w hS hΓ => ⟨hS.defers, oneOr vs, run_results hf h hS hΓ, oneOr vs, rfl, hp w hΓ⟩
end

/-! ### a call's things, as one of a row's -/
theorem St.pickTo {B : Nat → Prop} {w0 w : World} {Γ Γ' : List Res} (h : St B w0 Γ w) (is : List Nat) (hn : is.Nodup) (hl : ∀ i ∈ is, i < Γ.length) (e : pickR Γ is = Γ') : St B w0 Γ' w := e ▸ h.keep is hn hl
end Go.Proofs.Ythbffkdfahlpdaa
