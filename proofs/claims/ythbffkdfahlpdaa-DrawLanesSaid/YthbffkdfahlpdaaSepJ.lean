/- Rows of records: loads, stores, cuts. Over any program; no condition. -/
import Derived.Test.YthbffkdfahlpdaaSepI
import Derived.Laws.StructEq
set_option linter.unusedVariables false
namespace Go.Proofs.Ythbffkdfahlpdaa
open Go.RowKit Go.MapKept

theorem tl_iff (a b : ByteArray) : a.toList = b.toList ↔ a = b := by
  have h := beq_toListBytes a b
  constructor
  · intro e; rw [e] at h; simpa using h
  · intro e; rw [e]
theorem setL_take : ∀ (vs l : List Value) (i m : Nat), (setL l i vs).take m = setL (l.take m) i vs
  | [], l, i, m => rfl
  | v :: vs, l, i, m => by rw [setL, setL, setL_take vs, List.take_set]
theorem setL_len : ∀ (vs l : List Value) (i : Nat), (setL l i vs).length = l.length
  | [], l, i => rfl
  | v :: vs, l, i => by rw [setL, setL_len vs, List.length_set]
theorem setL_mid : ∀ (b p a r : List Value), a.length = b.length → setL (p ++ a ++ r) p.length b = p ++ b ++ r
  | [], p, a, r, h => by
    have : a = [] := List.eq_nil_of_length_eq_zero h
    subst this; rfl
  | v :: b, p, a, r, h => by
    match a, h with
    | c :: a, h =>
      have h' : a.length = b.length := by simpa using h
      have := setL_mid b (p ++ [v]) a r h'
      rw [setL]
      simp only [List.length_append, List.length_singleton, List.append_assoc, List.singleton_append] at this
      rw [show (p ++ (c :: a) ++ r).set p.length v = p ++ (v :: (a ++ r)) from by simp [List.set_append_right]]
      simpa using this
theorem flat_len {α : Type} {f : α → List Value} {k : Nat} (hf : ∀ x, (f x).length = k) : ∀ l : List α, (l.flatMap f).length = l.length * k
  | [] => by simp
  | x :: l => by rw [List.flatMap_cons, List.length_append, hf, flat_len hf l, List.length_cons, Nat.add_mul, Nat.one_mul, Nat.add_comm]
/-- A record, set in its row of cells. -/
theorem set_flat {α : Type} {f : α → List Value} {k : Nat} (hf : ∀ x, (f x).length = k) {l : List α} {i : Nat} (hi : i < l.length) (x : α) : setL (l.flatMap f) (i * k) (f x) = (l.set i x).flatMap f := by
  have e : l = l.take i ++ l[i] :: l.drop (i + 1) := by rw [List.getElem_cons_drop, List.take_append_drop]
  rw [List.set_eq_take_append_cons_drop, if_pos hi]
  conv => lhs; rw [e]
  rw [List.flatMap_append, List.flatMap_cons, List.flatMap_append, List.flatMap_cons]
  have hl : ((l.take i).flatMap f).length = i * k := by rw [flat_len hf, List.length_take, Nat.min_eq_left (by omega)]
  have := setL_mid (f x) ((l.take i).flatMap f) (f l[i]) ((l.drop (i + 1)).flatMap f) (by rw [hf, hf])
  rw [hl] at this
  simpa using this
theorem rec_get {α : Type} {f : α → List Value} {k : Nat} (hf : ∀ x, (f x).length = k) {z : α} {l : List α} {i j : Nat} (hi : i < l.length) (hj : j < k) : (l.flatMap f)[i * k + j]? = (f (l.getD i z))[j]? := by
  rw [get_flat hf l i j hi hj, List.getD_eq_getElem?_getD, List.getElem?_eq_getElem hi]; rfl
theorem rec_get1 {α : Type} {f : α → List Value} {k : Nat} (hf : ∀ x, (f x).length = k) {z : α} {l : List α} {i j : Nat} (hi : i < l.length) (hj : j < k) (h1 : k = 1 := by rfl) : (l.flatMap f)[i]? = (f (l.getD i z))[j]? := by
  subst h1
  have h0 : j = 0 := by omega
  subst h0
  have := rec_get hf (z := z) hi (show 0 < 1 by omega)
  simpa using this
theorem rec_gets {α : Type} {f : α → List Value} {k : Nat} (hf : ∀ x, (f x).length = k) {z : α} {l : List α} {i o : Nat} {cs : List Value} (hi : i < l.length) (ho : o + cs.length ≤ k) (hc : ((f (l.getD i z)).drop o).take cs.length = cs) :
    ∀ j v, cs[j]? = some v → (l.flatMap f)[i * k + o + j]? = some v := fun j v hj => by
  have hjl := (List.getElem?_eq_some_iff.1 hj).1
  rw [Nat.add_assoc, rec_get hf (z := z) hi (show o + j < k by omega)]
  have := congrArg (fun l : List Value => l[j]?) hc
  rw [List.getElem?_take, if_pos hjl, List.getElem?_drop] at this
  rw [this]; exact hj
section
variable {P : Program} {σ : List (Nat × Value)} {t E size n b cap j : Nat} {xs xs' : List Value} {dst : Option Tmp} {ty : TypeId} {pos : String} {after : Array Edge} {g : Option (Nat × Bool)} {x y : Operand}
theorem o_loadRowN (cs : List Value) (hx : ev σ x = some (.pointer (some ⟨b, j, none⟩))) (hn : 0 < n) (ht : rowT P t cs.length = true) (hu : ∀ i v, cs[i]? = some v → xs[j + i]? = some v) :
    Opr P σ ⟨dst, .load t x, ty, pos, after, g⟩ [rowR E size (.slice (some ⟨b, 0, none⟩) n cap) n xs] (Same [rowR E size (.slice (some ⟨b, 0, none⟩) n cap) n xs] (.agg cs.toArray)) := by
  intro ρ hρ w own hH hO
  have hb : Row w (fun k => own k = 0 + 1) E size (.slice (some ⟨b, 0, none⟩) n cap) n xs := hH 0 _ rfl
  obtain ⟨g', off', e1, _, _, hc⟩ := hb.cells.addr hn
  injection e1 with e1
  injection e1 with e1 e2
  subst e1 e2
  exact .inl ⟨_, w, .inl (by simp [execOp, hρ x _ hx, run_loadN (n := 0) ht (fun i v hi => by have := hc (j + i) v (hu i v hi); rwa [Nat.zero_add] at this), Result.andThen]), became_same hH ⟨rfl, rfl⟩⟩
theorem o_storeRowN {v : Value} (hx : ev σ x = some (.pointer (some ⟨b, j, none⟩))) (hy : ev σ y = some v) (hn : 0 < n) (hs : sizeT P t v.cells.size = true) (hi : j + v.cells.size ≤ n * size) (h1 : v.cells.toList.all Value.oneCell' = true) (he : setL xs j v.cells.toList = xs') :
    Opr P σ ⟨dst, .store t x y, ty, pos, after, g⟩ [rowR E size (.slice (some ⟨b, 0, none⟩) n cap) n xs] (Same [rowR E size (.slice (some ⟨b, 0, none⟩) n cap) n xs'] undef) := by
  intro ρ hρ w own hH hO
  have hr : Row w (fun k => own k = 0 + 1) E size (.slice (some ⟨b, 0, none⟩) n cap) n xs := hH 0 _ rfl
  rcases hr.shape with ⟨e1, e2, _⟩ | ⟨g', cap', cur, e1, hS, hb, hnc, hc, hl, hx2⟩
  · omega
  · cases e1
    have hB : BlkAt w (fun k => own k = 0 + 1) b cur E := ⟨hb, hS⟩
    obtain ⟨h2, h3⟩ := blk_sets v.cells.toList j cur w hB
    have hle : n * size ≤ cap * size := Nat.mul_le_mul_right _ hnc
    refine .inl ⟨undef, _, .inr ⟨by simp [execOp, hρ x _ hx, hρ y _ hy, run_storeN hB hs (show j + v.cells.size ≤ cur.length by rw [hl]; omega) h1, Result.andThen], rfl⟩, [rowR E size (.slice (some ⟨b, 0, none⟩) n cap) n xs'], own, ⟨rfl, rfl⟩, fun i R hj => ?_, h3.mono fun k _ q => by simp at q; omega, fun _ _ q => q⟩
    match i, hj with
    | 0, hj =>
      cases hj
      refine Row.mk h2.2 h2.1 hnc hc (by rw [setL_len]; exact hl) ?_
      rw [setL_take, hx2, he]
theorem rowR.cut {a : Option Addr} {m : Nat} (h : m ≤ n) (hx : xs.take (m * size) = xs') (w : World) (S : Nat → Prop) (q : (rowR E size (.slice a n cap) n xs).p w S) : (rowR E size (.slice a m cap) m xs').p w S := by
  have hr : Row w S E size (.slice a n cap) n xs := q
  rcases hr.shape with ⟨e1, e2, e3⟩ | ⟨g', cap', cur, e1, hS, hb, hnc, hc, hl, hx2⟩
  · subst e2 e3
    have : m = 0 := by omega
    subst this
    cases e1
    have : xs' = [] := by rw [← hx]; simp
    subst this
    exact Row.nil w S E size
  · cases e1
    exact Row.mk hS hb (by omega) hc hl (by rw [← hx, ← hx2, List.take_take, Nat.min_eq_left (Nat.mul_le_mul_right _ h)])
end
theorem take_flat {α : Type} {f : α → List Value} {k : Nat} (hf : ∀ x, (f x).length = k) (l : List α) (m : Nat) : (l.flatMap f).take (m * k) = (l.take m).flatMap f := by
  rcases Nat.lt_or_ge m l.length with h | h
  · have e : l = l.take m ++ l.drop m := (List.take_append_drop m l).symm
    conv => lhs; rw [e]
    rw [List.flatMap_append, List.take_append_of_le_length (by rw [flat_len hf, List.length_take, Nat.min_eq_left (by omega)]; exact Nat.le_refl _), List.take_of_length_le]
    rw [flat_len hf, List.length_take, Nat.min_eq_left (by omega)]; exact Nat.le_refl _
  · rw [List.take_of_length_le h, List.take_of_length_le]
    rw [flat_len hf]; exact Nat.mul_le_mul_right _ h
end Go.Proofs.Ythbffkdfahlpdaa
