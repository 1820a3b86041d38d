/- Words for a seat's proofs: an argument that is a slice, opened to its cells. Over any program; no condition. -/
import Derived.Test.YthbffkdfahlpdaaLibB
import Derived.Deep.Slices
import Derived.ProofKit
set_option linter.unusedVariables false
namespace Go.Proofs.Ythbffkdfahlpdaa
open Go.RowKit Go.MapKept Go.ChangeShapes Go.WideShapes Go.Deep

theorem list_of {α : Type} {Q : Nat → α → Prop} : ∀ (n : Nat), (∀ i, i < n → ∃ x, Q i x) → ∃ xs : List α, xs.length = n ∧ ∀ i (h : i < xs.length), Q i xs[i]
  | 0, _ => ⟨[], rfl, fun i h => absurd h (Nat.not_lt_zero i)⟩
  | n + 1, h => by
    obtain ⟨xs, hl, hx⟩ := list_of n fun i hi => h i (by omega)
    obtain ⟨x, hq⟩ := h n (by omega)
    refine ⟨xs ++ [x], by simp [hl], fun i hi => ?_⟩
    by_cases e : i < xs.length
    · rw [List.getElem_append_left e]; exact hx i e
    · have : i = n := by simp at hi; omega
      subst this
      rw [List.getElem_append_right (by omega)]
      simpa [hl] using hq

theorem length_flat {α : Type} {f : α → List Value} {size : Nat} (hf : ∀ x, (f x).length = size) : ∀ xs : List α, (xs.flatMap f).length = xs.length * size
  | [] => by simp
  | x :: xs => by rw [List.flatMap_cons, List.length_append, hf, length_flat hf xs, List.length_cons, Nat.add_mul, Nat.one_mul, Nat.add_comm]
theorem get_flat {α : Type} {f : α → List Value} {size : Nat} (hf : ∀ x, (f x).length = size) : ∀ (xs : List α) (i j : Nat) (h : i < xs.length), j < size → (xs.flatMap f)[i * size + j]? = (f xs[i])[j]?
  | x :: xs, 0, j, _, hj => by
    rw [List.flatMap_cons, Nat.zero_mul, Nat.zero_add, List.getElem?_append_left (by rw [hf]; exact hj)]
    rfl
  | x :: xs, i + 1, j, h, hj => by
    rw [List.flatMap_cons, List.getElem?_append_right (by rw [hf, Nat.add_mul]; omega), hf]
    rw [show (i + 1) * size + j - size = i * size + j from by rw [Nat.add_mul]; omega]
    exact get_flat hf xs i j (by simpa using h) hj

section
variable {H : Type} {enc : TypeId × Value → H} {P : Program} {w : World} {sp : Nat → Bool} {held : Bool}

/-- An argument that is a slice: its elements, one by one. -/
theorem open_cells {t e size : Nat} {a : Option Addr} {len cap : Nat} {d : DataW H} {p : List MemPlace} {α : Type} (f : α → List Value) (ht : P.underlying t = some (.slice e)) (hC : P.cellsOf e = size) (hsz : 0 < size)
    (hf : ∀ n cs y, DataW.trod enc P w 0 sp held n e cs = some y → ∃ x, cs = f x) (hl : ∀ x, (f x).length = size) (h : DataW.Trod enc P w 0 sp held t (.slice a len cap) d p) :
    ∃ xs : List α, Cells w (fun k => k < w.heap.size) (.slice a len cap) xs.length size (xs.flatMap f) := by
  obtain ⟨fuel, hx⟩ := h
  rcases open_slice ht hx with ⟨hcs, _⟩ | ⟨a', len', cap', m, n, D, Pl, hcs, _, hlc, hm, hmm, _, hi⟩
  · simp [Value.cells] at hcs
    obtain ⟨rfl, rfl, rfl⟩ := hcs
    exact ⟨[], none, 0, rfl, Nat.le_refl _, Nat.zero_le _, by simp, .inl rfl⟩
  · simp [Value.cells] at hcs
    obtain ⟨rfl, rfl, rfl⟩ := hcs
    have hlm : len ≤ m := by rw [hmm]; split <;> omega
    rw [hC] at hi
    obtain ⟨xs, hxl, hxs⟩ := list_of (Q := fun i x => w.cells? 0 (a'.add (i * size)) size = some (f x)) len fun i hlt => by
      obtain ⟨cs', h1, h2⟩ := hi i (by omega)
      obtain ⟨x, rfl⟩ := hf _ _ _ h2
      exact ⟨x, h1⟩
    subst hxl
    refine ⟨xs, some a', cap, rfl, hlc, hm, length_flat hl xs, ?_⟩
    by_cases h0 : xs.length = 0
    · exact .inl h0
    · right
      obtain ⟨g, off, spot⟩ := a'
      have hat : ∀ i (hlt : i < xs.length) j, j < size → w.cell? ((⟨g, off, spot⟩ : Addr).add (i * size + j)) = (f xs[i])[j]? := fun i hlt j hj => by
        obtain ⟨_, _, h3⟩ := World.cells?_some (hxs i hlt)
        rw [← h3 j hj, Deep.add_add]
      have h1 := hat 0 (by omega) 0 hsz
      have hv : (f xs[0])[0]? = some ((f xs[0])[0]'(by rw [hl]; exact hsz)) := List.getElem?_eq_getElem _
      rw [hv] at h1
      have hlt0 := World.block_lt_of_cell? w _ h1
      have hs : spot = none := by
        cases spot with
        | none => rfl
        | some s => simp [Addr.add, World.cell?] at h1; split at h1 <;> simp at h1
      subst hs
      refine ⟨g, off, rfl, by simpa [Addr.add] using hlt0, by simpa [Addr.add] using hlt0, fun j u hj => ?_⟩
      have hjl : j < xs.length * size := by have := (List.getElem?_eq_some_iff.1 hj).1; rwa [length_flat hl] at this
      have hq : j / size < xs.length := Nat.div_lt_of_lt_mul (by rw [Nat.mul_comm]; exact hjl)
      have hr : j % size < size := Nat.mod_lt _ hsz
      have hjj : j / size * size + j % size = j := by rw [Nat.mul_comm]; exact Nat.div_add_mod j size
      have h2 := hat (j / size) hq (j % size) hr
      have h3 := get_flat hl xs (j / size) (j % size) hq hr
      rw [hjj] at h2 h3
      rw [← addr_add', h2, ← h3, hj]
end

/-! ### how elements read -/
section
variable {H : Type} {enc : TypeId × Value → H} {P : Program} {w : World} {base : Nat} {sp : Nat → Bool} {held : Bool} {n : Nat} {cs : List Value} {y : DataW H × List MemPlace}
theorem el_int {e : Nat} {k : IntKind} (he : P.underlying e = some (.int k)) (h : DataW.trod enc P w base sp held n e cs = some y) : ∃ x : {a : Int // (Lit.int k a).wf = true}, cs = [.int k x.1] := by
  obtain ⟨a, rfl, _, hw⟩ := DataW.trod_int he h
  exact ⟨⟨a, hw⟩, rfl⟩
theorem el_str {e : Nat} (he : P.underlying e = some .string) (h : DataW.trod enc P w base sp held n e cs = some y) : ∃ x : {s : ByteArray // s.size ≤ maxLen}, cs = [.string x.1] := by
  obtain ⟨s, rfl, _, hs⟩ := DataW.trod_string he h
  exact ⟨⟨s, hs⟩, rfl⟩
end
end Go.Proofs.Ythbffkdfahlpdaa
