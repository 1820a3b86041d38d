/- Slices that are only read, wherever they begin. Over any program; no condition. -/
import Derived.Test.YthbffkdfahlpdaaSepJ
import Derived.Test.YthbffkdfahlpdaaSepK
set_option linter.unusedVariables false
namespace Go.Proofs.Ythbffkdfahlpdaa
open Go.RowKit Go.MapKept
/-- A part of a record. -/
def aggAt : Value → Nat → Value
  | .agg a, k => a.getD k .nilIface
  | _, _ => .nilIface
/-- A slice that is read: its cells lie in the thing's blocks. -/
def vewR (size : Nat) (v : Value) (n : Nat) (xs : List Value) : Res := ⟨fun w S => Cells w S v n size xs, fun h hz hs => Cells.move h hz hs⟩
theorem vew_of_row {e size n : Nat} {v : Value} {xs : List Value} (w : World) (S : Nat → Prop) (h : (rowR e size v n xs).p w S) : (vewR size v n xs).p w S := Row.cells h
theorem vew_nil {size : Nat} : ∀ (w : World) (S : Nat → Prop), (vewR size (.slice none 0 0) 0 []).p w S := fun w S => Cells.cutNone none (Nat.zero_le _) size
theorem vew_slice {size n : Nat} {v : Value} {xs : List Value} (w : World) (S : Nat → Prop) (h : (vewR size v n xs).p w S) : ∃ a cap, v = .slice a n cap ∧ n ≤ cap ∧ cap ≤ maxLen := by
  obtain ⟨a, cap, e, h1, h2, _⟩ := Cells.shape h
  exact ⟨a, cap, e, h1, h2⟩
theorem vew_addr {size n cap : Nat} {a : Option Addr} {xs : List Value} (hn : 0 < n) (w : World) (S : Nat → Prop) (h : (vewR size (.slice a n cap) n xs).p w S) : ∃ b off, a = some ⟨b, off, none⟩ := by
  obtain ⟨g, off, e, _⟩ := Cells.addr (show Cells w S (.slice a n cap) n size xs from h) hn
  exact ⟨g, off, e⟩
/-- The rest of it. -/
theorem vew_from {size n cap b off : Nat} {xs : List Value} {k : Nat} (hk : k ≤ n) (w : World) (S : Nat → Prop) (h : (vewR size (.slice (some ⟨b, off, none⟩) n cap) n xs).p w S) : (vewR size (.slice (some ⟨b, off + k * size, none⟩) (n - k) (cap - k)) (n - k) (xs.drop (k * size))).p w S :=
  Cells.cutFrom (show Cells w S (.slice (some ⟨b, off, none⟩) n cap) n size xs from h) hk
theorem drop_flat {α : Type} {f : α → List Value} {k : Nat} (hf : ∀ x, (f x).length = k) (l : List α) (m : Nat) : (l.flatMap f).drop (m * k) = (l.drop m).flatMap f := by
  rcases Nat.lt_or_ge m l.length with h | h
  · have e : l = l.take m ++ l.drop m := (List.take_append_drop m l).symm
    conv => lhs; rw [e]
    rw [List.flatMap_append, List.drop_append_of_le_length (by rw [flat_len hf, List.length_take, Nat.min_eq_left (by omega)]; exact Nat.le_refl _), List.drop_of_length_le (by rw [flat_len hf, List.length_take, Nat.min_eq_left (by omega)]; exact Nat.le_refl _), List.nil_append]
  · rw [List.drop_of_length_le (by rw [flat_len hf]; exact Nat.mul_le_mul_right _ h), List.drop_of_length_le h]; rfl
section
variable {w : World} {S : Nat → Prop} {n cap size k : Nat} {a : Option Addr} {xs : List Value}
theorem Cells.cutFromA (h : Cells w S (.slice a n cap) n size xs) (hk : k ≤ n) : Cells w S (.slice (if cap = k then a else a.map fun x => x.add (k * size)) (n - k) (cap - k)) (n - k) size (xs.drop (k * size)) := by
  obtain ⟨a', cap', e, h2, h3, h4, h5⟩ := h
  injection e with e1 _ e3
  subst e1 e3
  refine ⟨_, _, rfl, by omega, by omega, by rw [List.length_drop, h4, Nat.sub_mul], ?_⟩
  rcases h5 with h5 | ⟨g, off, h5, h6, h7, h8⟩
  · exact .inl (by omega)
  · by_cases e0 : cap = k
    · exact .inl (by omega)
    · rw [if_neg e0, h5]
      refine .inr ⟨g, off + k * size, by simp [Addr.add], h6, h7, fun j u hj => ?_⟩
      rw [List.getElem?_drop] at hj
      have := h8 _ u hj
      rwa [← Nat.add_assoc] at this
theorem vw_take {α : Type} {f : α → List Value} {E : Nat} {l : List α} (h : Row w S E size (.slice a n cap) n (l.flatMap f)) (hf : ∀ x, (f x).length = size) (hk : k ≤ n) : Cells w S (.slice a k cap) k size ((l.take k).flatMap f) := by
  rw [← take_flat hf]; exact Cells.cutTo h.cells hk
theorem vw_drop {α : Type} {f : α → List Value} {E : Nat} {l : List α} (h : Row w S E size (.slice a n cap) n (l.flatMap f)) (hf : ∀ x, (f x).length = size) (hk : k ≤ n) : Cells w S (.slice (if cap = k then a else a.map fun x => x.add (k * size)) (n - k) (cap - k)) (n - k) size ((l.drop k).flatMap f) := by
  rw [← drop_flat hf]; exact Cells.cutFromA h.cells hk
theorem o_cutFromK {P : Program} {σ : List (Nat × Value)} {x : Operand} {n size : Nat} {t ty e : TypeId} {dst : Option Tmp} {pos : String} {after : Array Edge} {g : Option (Nat × Bool)} {a : Option Addr} {cap l : Nat} {kd : IntKind} {q : Int} {lo : Operand} (hx : ev σ x = some (.slice a n cap)) (hlo : ev σ lo = some (.int kd q)) (hq : q = (l : Int)) (hl : l ≤ n) (hn : n ≤ cap) (ht : P.underlying t = some (.slice e)) (hz : sizeT P e size = true) :
    OprV P σ ⟨dst, .slice t x (some lo) none none, ty, pos, after, g⟩ (.slice (if cap = l then a else a.map fun y => y.add (l * size)) (n - l) (cap - l)) := oprV_of fun ρ hρ w => by
  subst hq
  unfold sizeT at hz
  cases hq : P.info? e with
  | none => simp [hq] at hz
  | some q =>
    simp [hq] at hz
    simp [execOp, hρ x _ hx, hρ lo _ hlo, Instr.sliceAt, Instr.slice, Instr.sliceBounds, Instr.sliceBound, asIntOf, run_underlying ht, sizeOf, typeInfo, hq, hz, hl, Result.andThen]
end
section
variable {P : Program} {σ : List (Nat × Value)} {t ty : TypeId} {dst : Option Tmp} {pos : String} {after : Array Edge} {g : Option (Nat × Bool)} {x : Operand} {b off n cap size j : Nat} {xs : List Value}
theorem o_loadViewN (cs : List Value) (hx : ev σ x = some (.pointer (some ⟨b, off + j, none⟩))) (hn : 0 < n) (ht : rowT P t cs.length = true) (hu : ∀ i v, cs[i]? = some v → xs[j + i]? = some v) :
    Opr P σ ⟨dst, .load t x, ty, pos, after, g⟩ [vewR size (.slice (some ⟨b, off, none⟩) n cap) n xs] (Same [vewR size (.slice (some ⟨b, off, none⟩) n cap) n xs] (.agg cs.toArray)) := by
  intro ρ hρ w own hH hO
  have hb : Cells w (fun k => own k = 0 + 1) (.slice (some ⟨b, off, none⟩) n cap) n size xs := hH 0 (vewR size (.slice (some ⟨b, off, none⟩) n cap) n xs) rfl
  obtain ⟨g', off', e1, _, _, hc⟩ := hb.addr hn
  injection e1 with e1
  injection e1 with e1 e2
  subst e1 e2
  exact .inl ⟨_, w, .inl (by simp [execOp, hρ x _ hx, run_loadN (n := 0) ht (fun i v hi => by have := hc (j + i) v (hu i v hi); rwa [← Nat.add_assoc] at this), Result.andThen]), became_same hH ⟨rfl, rfl⟩⟩
theorem o_loadView {u : Value} (hx : ev σ x = some (.pointer (some ⟨b, off + j, none⟩))) (hn : 0 < n) (ht : scal P t = true) (hu : xs[j]? = some u) :
    Opr P σ ⟨dst, .load t x, ty, pos, after, g⟩ [vewR size (.slice (some ⟨b, off, none⟩) n cap) n xs] (Same [vewR size (.slice (some ⟨b, off, none⟩) n cap) n xs] u) := by
  intro ρ hρ w own hH hO
  have hb : Cells w (fun k => own k = 0 + 1) (.slice (some ⟨b, off, none⟩) n cap) n size xs := hH 0 (vewR size (.slice (some ⟨b, off, none⟩) n cap) n xs) rfl
  obtain ⟨g', off', e1, _, _, hc⟩ := hb.addr hn
  injection e1 with e1
  injection e1 with e1 e2
  subst e1 e2
  exact .inl ⟨u, w, .inl (by simp [execOp, hρ x _ hx, run_load1 ht (hc j u hu), Result.andThen]), became_same hH ⟨rfl, rfl⟩⟩
end
theorem vew_fromA {α : Type} {f : α → List Value} {l : List α} {n cap size k : Nat} {a : Option Addr} (hf : ∀ x, (f x).length = size) (hk : k ≤ n) (w : World) (S : Nat → Prop) (h : (vewR size (.slice a n cap) n (l.flatMap f)).p w S) :
    (vewR size (.slice (if cap = k then a else Option.map (fun y : Addr => y.add (k * size)) a) (n - k) (cap - k)) (n - k) ((l.drop k).flatMap f)).p w S := by
  show Cells w S _ _ _ _
  rw [← drop_flat hf]; exact Cells.cutFromA (show Cells w S (.slice a n cap) n size (l.flatMap f) from h) hk
theorem Tri.vewA {P : Program} {f : Nat} {args : Array Value} {l L : List Res} {n : Nat} {xs : List Value} {size : Nat} {F : Value → Value} (h : Tri P f args l (PostE (fun _ => True) F fun v => L ++ [vewR size v n xs])) :
    Tri P f args l (PostE (ι := Option Addr × Nat) (fun _ => True) (fun y => F (.slice y.1 n y.2)) fun y => L ++ [vewR size (.slice y.1 n y.2) n xs]) := by
  intro w own hH hO
  refine (h w own hH hO).mono ?_
  rintro e w' ⟨v, rfl, l', own', ⟨x, _, rfl, rfl⟩, h2, h3, h4⟩
  have hR := h2 L.length (vewR size x n xs) (by simp)
  obtain ⟨a, c, rfl, _, _⟩ := vew_slice _ _ hR
  exact ⟨_, rfl, _, own', ⟨(a, c), trivial, rfl, rfl⟩, h2, h3, h4⟩
/-- A loop whose first round comes to the relation; it stands at no relation ahead of that. -/
theorem Cd.loopP {K : Cx} {Q : Exit → Act → World → Prop} {σ : List (Nat × Value)} {Γ : List Res} {ι : Type} {c : Code} (I : ι → Prop) (μ : ι → Nat) (σ' : ι → List (Nat × Value)) (Γ' : ι → List Res) (B : Nat)
    (first : Cd K c (Exit.then (fun a w => ∃ g, I g ∧ μ g ≤ B ∧ Sl K.N (σ' g) a ∧ St K.B K.w0 (Γ' g) w) Q) σ Γ)
    (round : ∀ g, I g → Cd K c (Exit.then (Rnd K I μ σ' Γ' g) Q) (σ' g) (Γ' g)) : Cd K (.loop c) Q σ Γ := fun a w hS hΓ => by
  refine wp_loop_ghost (fun n a' w' => (n = B + 1 ∧ a' = a ∧ w' = w) ∨ ∃ g, μ g = n ∧ n ≤ B ∧ I g ∧ Sl K.N (σ' g) a' ∧ St K.B K.w0 (Γ' g) w') (B + 1) (.inl ⟨rfl, rfl, rfl⟩) ?_
  rintro n a' w' (⟨rfl, rfl, rfl⟩ | ⟨g, rfl, hB, h1, h2, h3⟩)
  · refine wp_mono (first a' w' hS hΓ) ?_
    intro e a'' w'' hq
    cases e <;> try exact hq
    obtain ⟨g, q1, q2, q3, q4⟩ := hq
    exact ⟨μ g, by omega, .inr ⟨g, rfl, q2, q1, q3, q4⟩⟩
  · refine wp_mono (round g h1 a' w' h2 h3) ?_
    intro e a'' w'' hq
    cases e <;> try exact hq
    obtain ⟨g', q1, q2, q3, q4⟩ := hq
    exact ⟨μ g', q2, .inr ⟨g', rfl, by omega, q1, q3, q4⟩⟩
theorem Ex'.meetP {K : Cx} {Q : Exit → Act → World → Prop} {σ : List (Nat × Value)} {Γ : List Res} {ι : Type} {I : ι → Prop} {μ : ι → Nat} {σ' : ι → List (Nat × Value)} {Γ' : ι → List Res} {B : Nat} (g : ι) (h1 : I g) (h2 : μ g ≤ B) (hs : subS σ (σ' g)) (hΓ : ∀ w, St K.B K.w0 Γ w → St K.B K.w0 (Γ' g) w) :
    Ex' K .normal (Exit.then (fun a w => ∃ g, I g ∧ μ g ≤ B ∧ Sl K.N (σ' g) a ∧ St K.B K.w0 (Γ' g) w) Q) σ Γ := fun a w hS hG => ⟨g, h1, h2, hS.sub hs, hΓ w hG⟩
end Go.Proofs.Ythbffkdfahlpdaa
