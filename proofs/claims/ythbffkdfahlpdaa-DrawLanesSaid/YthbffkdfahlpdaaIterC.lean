/- A walk over a map, as operations over what is owned apart. Over any program; no condition. -/
import Derived.Test.YthbffkdfahlpdaaIter
import Derived.Test.YthbffkdfahlpdaaSepG
set_option linter.unusedVariables false
namespace Go.Proofs.Ythbffkdfahlpdaa
open Go.RowKit Go.MapKept
def iterR {κ α : Type} (g : κ → Value) (f : α → Value) (b r : Nat) (l rest : List (κ × α)) : Res :=
  ⟨fun w S => IterAt g f w b r l rest ∧ S b ∧ S r, fun {w w' S S'} h hz hs => by
    obtain ⟨h1, h2, h3⟩ := h
    obtain ⟨a1, a2⟩ := hs b h1.1.lt h2
    obtain ⟨b1, b2⟩ := hs r h1.lt h3
    exact ⟨h1.same a2 b2, a1, b1⟩⟩
section
variable {κ α : Type} {gk : κ → Value} {fv : α → Value} {b r : Nat} {l rest : List (κ × α)} {P : Program} {k e t : TypeId} {σ : List (Nat × Value)} {x : Operand} {dst : Option Tmp} {ty : TypeId} {pos : String} {after : Array Edge} {g : Option (Nat × Bool)}
theorem o_range (hx : ev σ x = some (.map (some b))) (ht : P.underlying t = some (.map k e)) :
    Opr P σ ⟨dst, .range t x, ty, pos, after, g⟩ [mapR gk fv b l] (PostE (fun _ => True) (fun r => .pointer (some ⟨r, 0, none⟩)) fun r => [iterR gk fv b r l l]) := by
  intro ρ hρ w own hH hO
  have hb : MapOf gk fv w (fun k => own k = 0 + 1) b l := hH 0 _ rfl
  obtain ⟨c, hrun, hi⟩ := hb.1.range (P := P) ht
  refine .inl ⟨_, _, .inl (by simp [execOp, hρ x _ hx, hrun, Result.andThen]; rfl), [iterR gk fv b w.heap.size l l], paint own w 1, ⟨w.heap.size, trivial, rfl, rfl⟩, fun i R hR => ?_, (Mod.refl _ _).alloc _, fun k hk q => by rwa [paint_old own w _ hk] at q⟩
  match i, hR with
  | 0, hR =>
    cases hR
    exact ⟨hi, (paint_old own w _ hb.1.lt).trans hb.2, paint_new own w _ (Nat.le_refl _)⟩
theorem o_next0 (hx : ev σ x = some (.pointer (some ⟨r, 0, none⟩))) :
    Opr P σ ⟨dst, .next x false, ty, pos, after, g⟩ [iterR gk fv b r l []] (Same [iterR gk fv b r l []] (.tuple #[.bool false])) := by
  intro ρ hρ w own hH hO
  have hb : IterAt gk fv w b r l [] ∧ own b = 0 + 1 ∧ own r = 0 + 1 := hH 0 _ rfl
  rcases hb.1.next (P := P) ty with ⟨_, hrun⟩ | ⟨i, p, w', hp, _⟩
  · exact .inl ⟨_, w, .inl (by simp [execOp, hρ x _ hx, hrun, Result.andThen]), became_same hH ⟨rfl, rfl⟩⟩
  · simp at hp
theorem o_nextS (hx : ev σ x = some (.pointer (some ⟨r, 0, none⟩))) (h0 : rest ≠ []) :
    Opr P σ ⟨dst, .next x false, ty, pos, after, g⟩ [iterR gk fv b r l rest] (PostE (ι := Nat × κ × α) (fun y => rest[y.1]? = some y.2) (fun y => .tuple #[.bool true, gk y.2.1, fv y.2.2]) fun y => [iterR gk fv b r l (rest.eraseIdx y.1)]) := by
  intro ρ hρ w own hH hO
  have hb : IterAt gk fv w b r l rest ∧ own b = 0 + 1 ∧ own r = 0 + 1 := hH 0 _ rfl
  rcases hb.1.next (P := P) ty with ⟨q, hrun⟩ | ⟨i, p, w', hp, hrun, hi, hg, hs, _⟩
  · exact absurd q h0
  · refine .inl ⟨_, w', .inl (by simp [execOp, hρ x _ hx, hrun, Result.andThen]; rfl), ?_⟩
    exact became_grown (R := iterR gk fv b r l rest) (by simpa using hb.2.2) hg (R' := iterR gk fv b r l (rest.eraseIdx i)) ⟨hi, by simpa using hb.2.1, by simpa using hb.2.2⟩ _ ⟨(i, p), hp, rfl, rfl⟩
/-- The walk is over: the map alone. -/
theorem iterR.map {w : World} {S : Nat → Prop} (h : (iterR gk fv b r l rest).p w S) : (mapR gk fv b l).p w S := ⟨h.1.1, h.2.1⟩
end
end Go.Proofs.Ythbffkdfahlpdaa
