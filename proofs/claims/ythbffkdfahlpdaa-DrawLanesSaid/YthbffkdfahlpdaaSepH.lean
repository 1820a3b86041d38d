/- Rows that are not empty, as what a call answers: their blocks have names. -/
import Derived.Test.YthbffkdfahlpdaaSepG
set_option linter.unusedVariables false
namespace Go.Proofs.Ythbffkdfahlpdaa
open Go.RowKit Go.MapKept
/-- A slice's capacity. -/
def capOf : Value → Nat
  | .slice _ _ c => c
  | _ => 0
section
variable {P : Program} {f : Nat} {args : Array Value} {l L : List Res} {E n : Nat} {xs : List Value} {size : Nat}
theorem Tri.row (hn : 0 < n) (h : Tri P f args l (PostE (fun _ => True) id fun v => L ++ [rowR E size v n xs])) :
    Tri P f args l (PostE (ι := Nat × Nat) (fun _ => True) (fun y => .slice (some ⟨y.1, 0, none⟩) n y.2) fun y => L ++ [rowR E size (.slice (some ⟨y.1, 0, none⟩) n y.2) n xs]) := by
  intro w own hH hO
  refine (h w own hH hO).mono ?_
  rintro e w' ⟨v, rfl, l', own', ⟨x, _, rfl, rfl⟩, h2, h3, h4⟩
  have hR := h2 L.length (rowR E size v n xs) (by simp)
  obtain ⟨a, c, rfl, _, _⟩ := row_slice _ _ hR
  obtain ⟨b, rfl⟩ := row_addr hn _ _ hR
  exact ⟨_, rfl, _, own', ⟨(b, c), trivial, rfl, rfl⟩, h2, h3, h4⟩
end
end Go.Proofs.Ythbffkdfahlpdaa
