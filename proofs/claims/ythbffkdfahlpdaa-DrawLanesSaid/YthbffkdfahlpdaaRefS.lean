/- Package cachewiseref03: its calls, over what is owned apart (for a seat without package list). -/
import Derived.Test.YthbffkdfahlpdaaSepI
import Derived.Test.YthbffkdfahlpdaaRowLaws
set_option linter.unusedVariables false
namespace Go.Proofs.Ythbffkdfahlpdaa
open Go.RowKit Go.MapKept

section
variable {w : World} {S : Nat → Prop} {v : Value} {xs : List ByteArray}

theorem r_Remove (h : Strs w S v xs) (hb : xs.length ≤ 1000000000) (key : ByteArray) : Calls Try.prog 31 #[v, .string key] w (Makes w fun v w S => Row w S 9 1 v (rm xs key).length ((rm xs key).map Value.string)) := ref03_Remove v xs key w S h hb

theorem r_Front (h : Strs w S v xs) (hb : xs.length ≤ 1000000000) (key : ByteArray) : Calls Try.prog 41 #[v, .string key] w (Makes w fun v w S => Row w S 9 1 v (fr xs key).length ((fr xs key).map Value.string)) := ref03_Front v xs key w S h hb

theorem r_Back (h : Strs w S v xs) (hb : xs.length ≤ 1000000000) (key : ByteArray) : Calls Try.prog 42 #[v, .string key] w (Makes w fun v w S => Row w S 9 1 v (bk xs key).length ((bk xs key).map Value.string)) := ref03_Back v xs key w S h hb

theorem r_Has (h : Strs w S v xs) (key : ByteArray) : Calls Try.prog 43 #[v, .string key] w fun e w' => e = .returned (.bool (decide (key ∈ xs))) ∧ w = w' := ref03_Has v xs key w S h

end
section
variable {l : List Res} {v u : Value} {xs ys : List ByteArray}

theorem t_same03 (h : ∀ w own, Holds l own w → (∃ S, Strs w S v xs) ∧ ∃ S, Strs w S u ys) : Tri Try.prog 34 #[v, u] l (Same l (bV (decide (xs = ys)))) := tri_reads fun w own hH => by
  obtain ⟨⟨S, h1⟩, S', h2⟩ := h w own hH
  exact ref03_Same v u xs ys w S S' h1 h2

theorem t_has03 (key : ByteArray) (h : ∀ w own, Holds l own w → ∃ S, Strs w S v xs) : Tri Try.prog 43 #[v, sV key] l (Same l (bV (decide (key ∈ xs)))) := tri_same fun w own hH => by
  obtain ⟨S, h1⟩ := h w own hH
  exact r_Has h1 key

theorem t_remove03 (key : ByteArray) (h : ∀ w own, Holds l own w → ∃ S, Strs w S v xs) (hb : xs.length ≤ 1000000000) : Tri Try.prog 31 #[v, sV key] l (PostE (fun _ => True) id fun v => l ++ [rowR 9 1 v (rm xs key).length ((rm xs key).map Value.string)]) := tri_make fun w own hH => by
  obtain ⟨S, h1⟩ := h w own hH
  exact r_Remove h1 hb key

theorem t_front03 (key : ByteArray) (h : ∀ w own, Holds l own w → ∃ S, Strs w S v xs) (hb : xs.length ≤ 1000000000) : Tri Try.prog 41 #[v, sV key] l (PostE (fun _ => True) id fun v => l ++ [rowR 9 1 v (fr xs key).length ((fr xs key).map Value.string)]) := tri_make fun w own hH => by
  obtain ⟨S, h1⟩ := h w own hH
  exact r_Front h1 hb key

theorem t_back03 (key : ByteArray) (h : ∀ w own, Holds l own w → ∃ S, Strs w S v xs) (hb : xs.length ≤ 1000000000) : Tri Try.prog 42 #[v, sV key] l (PostE (fun _ => True) id fun v => l ++ [rowR 9 1 v (bk xs key).length ((bk xs key).map Value.string)]) := tri_make fun w own hH => by
  obtain ⟨S, h1⟩ := h w own hH
  exact r_Back h1 hb key

end

theorem strs_addr {w : World} {S : Nat → Prop} {a : Option Addr} {n cap : Nat} {ks : List ByteArray} (h : Strs w S (.slice a n cap) ks) (hn : 0 < ks.length) : ∃ g off, a = some ⟨g, off, none⟩ := by
  have hl : n = ks.length := by obtain ⟨a', cap', e, _⟩ := h; injection e
  subst hl
  obtain ⟨g, off, e, _⟩ := Cells.addr h hn; exact ⟨g, off, e⟩
theorem strs_cell {w : World} {S : Nat → Prop} {g off n cap : Nat} {ks : List ByteArray} (h : Strs w S (.slice (some ⟨g, off, none⟩) n cap) ks) {k : Nat} (hk : k < ks.length) : w.cell? ⟨g, off + k, none⟩ = some (.string (ks.getD k ⟨#[]⟩)) := by
  have := h.getAt (k := k) (x := ks.getD k ⟨#[]⟩) (by rw [List.getElem?_eq_getElem hk, List.getD_eq_getElem?_getD, List.getElem?_eq_getElem hk]; rfl)
  exact this
theorem strs_nil (w : World) (S : Nat → Prop) : Strs w S (.slice none 0 0) [] := Cells.cutNone none (Nat.zero_le _) 1
theorem blk_strs {b n : Nat} {l : List Value} {T : TypeId} {ks : List ByteArray} (hl : l = ks.map Value.string) (hn : n = ks.length) (hm : Nat.ble n 1000 = true) {w : World} {S : Nat → Prop} (h : (blkR b l T).p w S) : Strs w S (.slice (some ⟨b, 0, none⟩) n n) ks := by
  subst hl hn
  have h : BlkAt w S b (ks.map Value.string) T := h
  have := Nat.le_of_ble_eq_true hm
  refine ⟨_, _, rfl, Nat.le_refl _, by unfold maxLen; omega, by simp, .inr ⟨b, 0, rfl, h.2, h.1.lt, fun j u hj => ?_⟩⟩
  rw [Nat.zero_add]; exact h.1.at j u hj
theorem get_map {ks : List ByteArray} {k : Nat} (h : k < ks.length) : (ks.map Value.string)[k]? = some (.string (ks.getD k ⟨#[]⟩)) := by
  rw [List.getElem?_map, List.getElem?_eq_getElem h, List.getD_eq_getElem?_getD, List.getElem?_eq_getElem h]; rfl

/-- What a law must come to. -/
def LawP (w0 : World) : Value → List Res → Prop := fun v l' => v = bV true ∧ l'[0]? = some (oldR w0)
theorem law_of {P : Program} {f : Nat} {args : Array Value} {w : World} (h : Tri P f args [oldR w] (LawP w)) : Calls P f args w fun e w' => e = .returned (.bool true) ∧ Below w.heap.size w w' := by
  refine (h w (fun k => if k < w.heap.size then 1 else 0) (fun i R hi => ?_) fun k _ => ?_).mono ?_
  · match i, hi with
    | 0, hi => cases hi; exact ⟨Nat.le_refl _, fun k hk => ⟨by simp [hk], rfl⟩⟩
  · simp; split <;> omega
  · rintro e w' ⟨v, rfl, l', own', ⟨rfl, h1⟩, h2, h3, h4⟩
    refine ⟨rfl, h3.os, h3.tape, h3.output, h3.size, fun k hk => ?_⟩
    exact oldR.mod (h2 0 _ h1) hk
end Go.Proofs.Ythbffkdfahlpdaa
