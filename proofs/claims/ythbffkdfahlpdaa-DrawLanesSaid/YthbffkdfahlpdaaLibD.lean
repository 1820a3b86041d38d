/- Words for a law's walk: whose each block is, from the call's begin on; slices cut. Over any program; no condition. -/
import Derived.Test.YthbffkdfahlpdaaLibC
set_option linter.unusedVariables false
namespace Go.Proofs.Ythbffkdfahlpdaa
open Go.RowKit Go.MapKept

/-- Nothing of w0 has turned; the blocks that were there are nobody's (0). -/
structure Base (w0 w : World) (own : Nat → Nat) : Prop where
  bel : Mod Nil w0 w
  old : ∀ k, k < w0.heap.size → own k = 0

/-- What is c's for own is so for own', and as it was. -/
structure Keeps (w w' : World) (own own' : Nat → Nat) (c : Nat) : Prop where
  size : w.heap.size ≤ w'.heap.size
  block : ∀ k, k < w.heap.size → own k = c → own' k = c ∧ w'.heap[k]? = w.heap[k]?

section
variable {w0 w w' : World} {own : Nat → Nat} {c : Nat}

theorem Base.start (w : World) : Base w w (fun _ => 0) := ⟨Mod.refl _ _, fun _ _ => rfl⟩
theorem Base.size (h : Base w0 w own) : w0.heap.size ≤ w.heap.size := h.bel.size
theorem Base.below (h : Base w0 w own) : Below w0.heap.size w0 w := h.bel.below (Nat.le_refl _) fun _ _ q => q
theorem Base.drew (h : Base w0 w own) : Base w0 w.drew own := ⟨h.bel.drew, h.old⟩
theorem Base.drewN (h : Base w0 w own) (n : Nat) : Base w0 (w.drewN n) own := ⟨h.bel.drewN n, h.old⟩
theorem Base.alloc (h : Base w0 w own) (o : Obj) : Base w0 (w.alloc o) own := ⟨h.bel.alloc o, h.old⟩
/-- What is c's has turned; new blocks are c's. -/
theorem Base.turn (h : Base w0 w own) (hc : c ≠ 0) (hm : Mod (fun k => own k = c) w w') : Base w0 w' (paint own w c) :=
  ⟨h.bel.trans' hm fun k hk q => hc (by rw [← q, h.old k hk]), fun k hk => by rw [paint_old own w c (Nat.lt_of_lt_of_le hk h.size)]; exact h.old k hk⟩
theorem Base.made (h : Base w0 w own) (c : Nat) (hm : Mod Nil w w') : Base w0 w' (paint own w c) :=
  ⟨h.bel.trans hm, fun k hk => by rw [paint_old own w c (Nat.lt_of_lt_of_le hk h.size)]; exact h.old k hk⟩
theorem Base.cell (h : Base w0 w own) {p : Addr} {v : Value} (hv : w0.cell? p = some v) : w.cell? p = some v := h.bel.cell hv fun q => q
theorem keeps_turn (hm : Mod (fun k => own k = c) w w') {c' : Nat} (hne : c' ≠ c) : Keeps w w' own (paint own w c) c' := ⟨hm.size, kept hm (fun _ _ q => q) hne⟩
theorem keeps_made (hm : Mod Nil w w') (c c' : Nat) : Keeps w w' own (paint own w c) c' := ⟨hm.size, fun k hk e => ⟨(paint_old own w c hk).trans e, hm.block k hk fun q => q⟩⟩
theorem keeps_still (hm : Mod Nil w w') (c' : Nat) : Keeps w w' own own c' := ⟨hm.size, fun k hk e => ⟨e, hm.block k hk fun q => q⟩⟩
theorem Keeps.trans {w2 : World} {own' own2 : Nat → Nat} (h : Keeps w w' own own' c) (k : Keeps w' w2 own' own2 c) : Keeps w w2 own own2 c :=
  ⟨Nat.le_trans h.size k.size, fun j hj e => ⟨(k.block j (Nat.lt_of_lt_of_le hj h.size) (h.block j hj e).1).1, (k.block j (Nat.lt_of_lt_of_le hj h.size) (h.block j hj e).1).2.trans (h.block j hj e).2⟩⟩
theorem Keeps.refl (w : World) (own : Nat → Nat) (c : Nat) : Keeps w w own own c := ⟨Nat.le_refl _, fun _ _ e => ⟨e, rfl⟩⟩
theorem Cells.keep {own' : Nat → Nat} {v : Value} {n size : Nat} {xs : List Value} (h : Cells w (fun k => own k = c) v n size xs) (K : Keeps w w' own own' c) : Cells w' (fun k => own' k = c) v n size xs := h.move K.size K.block
theorem Row.keep {own' : Nat → Nat} {v : Value} {e n size : Nat} {xs : List Value} (h : Row w (fun k => own k = c) e size v n xs) (K : Keeps w w' own own' c) : Row w' (fun k => own' k = c) e size v n xs := h.move K.size K.block

/-- A call that makes a row: whose it is. -/
theorem law_row {P : Program} {f : Nat} {args : Array Value} {e size n : Nat} {xs : List Value} (h : Calls P f args w fun en w' => ∃ v', en = .returned v' ∧ Mod Nil w w' ∧ Row w' (fun k => w.heap.size ≤ k) e size v' n xs) (hB : Base w0 w own) (c : Nat) :
    Calls P f args w fun en w' => ∃ v' own', en = .returned v' ∧ Base w0 w' own' ∧ Row w' (fun k => own' k = c) e size v' n xs ∧ ∀ c', Keeps w w' own own' c' :=
  h.mono fun _ _ ⟨v', h1, h2, h3⟩ => ⟨v', paint own w c, h1, hB.made c h2, h3.mono fun k _ q => paint_new own w c q, fun c' => keeps_made h2 c c'⟩
end

section
variable {w : World} {S : Nat → Prop} {g off n cap size : Nat} {a : Option Addr} {xs : List Value}
theorem Cells.addr (h : Cells w S (.slice a n cap) n size xs) (hn : 0 < n) : ∃ g off, a = some ⟨g, off, none⟩ ∧ S g ∧ g < w.heap.size ∧ ∀ j u, xs[j]? = some u → w.cell? ⟨g, off + j, none⟩ = some u := by
  obtain ⟨a', cap', e, h2, h3, h4, h5⟩ := h
  injection e with e1 _ e3
  subst e1 e3
  exact h5.resolve_left (by omega)
theorem Cells.cutTo (h : Cells w S (.slice a n cap) n size xs) {k : Nat} (hk : k ≤ n) : Cells w S (.slice a k cap) k size (xs.take (k * size)) := by
  obtain ⟨a', cap', e, h2, h3, h4, h5⟩ := h
  injection e with e1 _ e3
  subst e1 e3
  refine ⟨a, cap, rfl, by omega, h3, by rw [List.length_take, h4, Nat.min_eq_left (Nat.mul_le_mul_right _ hk)], ?_⟩
  rcases h5 with h5 | ⟨g, off, h5, h6, h7, h8⟩
  · exact .inl (by omega)
  · refine .inr ⟨g, off, h5, h6, h7, fun j u hj => h8 j u ?_⟩
    rw [List.getElem?_take] at hj
    split at hj
    · exact hj
    · simp at hj
theorem Cells.cutFrom (h : Cells w S (.slice (some ⟨g, off, none⟩) n cap) n size xs) {k : Nat} (hk : k ≤ n) : Cells w S (.slice (some ⟨g, off + k * size, none⟩) (n - k) (cap - k)) (n - k) size (xs.drop (k * size)) := by
  obtain ⟨a', cap', e, h2, h3, h4, h5⟩ := h
  injection e with e1 _ e3
  subst e1 e3
  refine ⟨_, _, rfl, by omega, by omega, by rw [List.length_drop, h4, Nat.sub_mul], ?_⟩
  rcases h5 with h5 | ⟨g', off', h5, h6, h7, h8⟩
  · exact .inl (by omega)
  · injection h5 with h5; injection h5 with e1 e2; subst e1 e2
    refine .inr ⟨g, off + k * size, rfl, h6, h7, fun j u hj => ?_⟩
    rw [List.getElem?_drop] at hj
    have := h8 (k * size + j) u hj
    rwa [← Nat.add_assoc] at this
theorem Cells.cutNone (a : Option Addr) {cap : Nat} (hc : cap ≤ maxLen) (size : Nat) : Cells w S (.slice a 0 cap) 0 size [] := ⟨a, cap, rfl, Nat.zero_le _, hc, by simp, .inl rfl⟩
end

/-- A map of c's. -/
def OwnMap {κ α : Type} (g : κ → Value) (f : α → Value) (w : World) (own : Nat → Nat) (c b : Nat) (l : List (κ × α)) : Prop := MapAt g f w b l ∧ own b = c
section
variable {κ α : Type} {g : κ → Value} {f : α → Value} {w0 w w' : World} {own own' : Nat → Nat} {c b : Nat} {l l' : List (κ × α)}
theorem OwnMap.keep (h : OwnMap g f w own c b l) (K : Keeps w w' own own' c) : OwnMap g f w' own' c b l :=
  ⟨h.1.same (K.block b h.1.lt h.2).2, (K.block b h.1.lt h.2).1⟩
theorem OwnMap.made (g : κ → Value) (f : α → Value) (w : World) (own : Nat → Nat) (c : Nat) : OwnMap g f (w.alloc (.map #[] 0)) (paint own w c) c w.heap.size [] :=
  ⟨MapAt.new g f w, paint_new own w c (Nat.le_refl _)⟩
theorem law_map (g : κ → Value) (f : α → Value) (hB : Base w0 w own) (c : Nat) : ∃ own', Base w0 (w.alloc (.map #[] 0)) own' ∧ OwnMap g f (w.alloc (.map #[] 0)) own' c w.heap.size [] ∧ ∀ c', Keeps w (w.alloc (.map #[] 0)) own own' c' :=
  ⟨paint own w c, hB.made c ((Mod.refl _ _).alloc _), OwnMap.made _ _ _ _ _, fun c' => keeps_made ((Mod.refl _ _).alloc _) c c'⟩
/-- The map has turned. -/
theorem OwnMap.turn (hB : Base w0 w own) (hc : c ≠ 0) (h : OwnMap g f w own c b l) (hm : MapAt g f w' b l') (hg : w.grownBy w' (some b)) :
    ∃ own', Base w0 w' own' ∧ OwnMap g f w' own' c b l' ∧ ∀ c', c' ≠ c → Keeps w w' own own' c' := by
  have hmod : Mod (fun k => own k = c) w w' := (Mod.refl _ _).grown hg fun k hk _ => by injection hk with hk; subst hk; exact h.2
  exact ⟨paint own w c, hB.turn hc hmod, ⟨hm, (paint_old own w c h.1.lt).trans h.2⟩, fun c' hne => keeps_turn hmod hne⟩
end

theorem Strs.drewN {w : World} {S : Nat → Prop} {v : Value} {ks : List ByteArray} (h : Strs w S v ks) (m : Nat) : Strs (w.drewN m) S v ks := Cells.modNil h ((Mod.refl _ _).drewN m)
theorem Strs.keep {w w' : World} {own own' : Nat → Nat} {c : Nat} {v : Value} {ks : List ByteArray} (h : Strs w (fun k => own k = c) v ks) (K : Keeps w w' own own' c) : Strs w' (fun k => own' k = c) v ks := Cells.keep h K
theorem Keeps.drewN (w : World) (own : Nat → Nat) (n c : Nat) : Keeps w (w.drewN n) own own c := ⟨Nat.le_refl _, fun _ _ e => ⟨e, rfl⟩⟩
theorem Row.strs {w : World} {S : Nat → Prop} {e : Nat} {v : Value} {n : Nat} {ks : List ByteArray} (h : Row w S e 1 v n (ks.map Value.string)) : Strs w S v ks := by
  have := h.length
  have hn : n = ks.length := by simpa using this.symm
  subst hn
  exact h.cells
end Go.Proofs.Ythbffkdfahlpdaa
