/- LibB, LibC, LibD, Work -/
import Derived.Test.YtholinnmjoelkaaGreatDoorM01
import Derived.Deep.Slices
import Derived.ProofKit
set_option linter.unusedVariables false
set_option linter.unusedSimpArgs false
namespace Go.Proofs.YtholinnmjoelkaaGreatDoor
open Go.RowKit Go.MapKept
structure ElemT (P : Program) (t e size bytes : Nat) : Prop where
  under : P.underlying t = some (.slice e)
  info : ∃ i z, P.info? e = some i ∧ i.zero = some z ∧ i.size = size ∧ i.bytes = bytes ∧ z.cells.size = size
theorem elemT {P : Program} {t e size bytes : Nat} {z : Value} (ht : P.underlying t = some (.slice e)) (h : (P.info? e).map (fun i => (i.zero, i.size, i.bytes)) = some (some z, size, bytes)) (hz : z.cells.size = size) : ElemT P t e size bytes := by
  obtain ⟨i0, hi, hz0, hz1, hz2⟩ := info_parts h
  exact ⟨ht, i0, z, hi, hz0, hz1, hz2, hz⟩
def Cells (w : World) (S : Nat → Prop) (v : Value) (n size : Nat) (xs : List Value) : Prop :=
  ∃ a cap, v = .slice a n cap ∧ n ≤ cap ∧ cap ≤ maxLen ∧ xs.length = n * size ∧
    (n = 0 ∨ ∃ g off, a = some ⟨g, off, none⟩ ∧ S g ∧ g < w.heap.size ∧ ∀ j u, xs[j]? = some u → w.cell? ⟨g, off + j, none⟩ = some u)
def Strs (w : World) (S : Nat → Prop) (v : Value) (xs : List ByteArray) : Prop := Cells w S v xs.length 1 (xs.map Value.string)
def Row (w : World) (S : Nat → Prop) (e size : Nat) (v : Value) (n : Nat) (xs : List Value) : Prop := w.ownsRow 0 e size v n xs ∧ ∀ g, v.ownBlock = some g → S g
section
variable {w w' : World} {S S' : Nat → Prop} {v : Value} {n size e : Nat} {xs : List Value}
theorem Cells.move (h : Cells w S v n size xs) (hz : w.heap.size ≤ w'.heap.size) (hs : ∀ k, k < w.heap.size → S k → S' k ∧ w'.heap[k]? = w.heap[k]?) : Cells w' S' v n size xs := by
  obtain ⟨a, cap, h1, h2, h3, h4, h5⟩ := h
  refine ⟨a, cap, h1, h2, h3, h4, ?_⟩
  rcases h5 with h5 | ⟨g, off, h5, h6, h7, h8⟩
  · exact .inl h5
  · exact .inr ⟨g, off, h5, (hs g h7 h6).1, by omega, fun j u hj => (World.cell?_of_block (hs g h7 h6).2).trans (h8 j u hj)⟩
theorem Cells.mono (h : Cells w S v n size xs) (hs : ∀ k, k < w.heap.size → S k → S' k) : Cells w S' v n size xs := h.move (Nat.le_refl _) fun k hk q => ⟨hs k hk q, rfl⟩
theorem Cells.mod {T : Nat → Prop} (h : Cells w S v n size xs) (hm : Mod T w w') (hd : ∀ k, k < w.heap.size → S k → ¬ T k) : Cells w' S v n size xs :=
  h.move hm.size fun k hk q => ⟨q, hm.block k hk (hd k hk q)⟩
theorem Cells.modNil (h : Cells w S v n size xs) (hm : Mod Nil w w') : Cells w' S v n size xs := h.mod hm fun _ _ _ q => q
theorem Cells.drew (h : Cells w S v n size xs) : Cells w.drew S v n size xs := h
theorem Cells.alloc (h : Cells w S v n size xs) (o : Obj) : Cells (w.alloc o) S v n size xs := h.modNil ((Mod.refl _ _).alloc o)
theorem Cells.shape (h : Cells w S v n size xs) : ∃ a cap, v = .slice a n cap ∧ n ≤ cap ∧ cap ≤ maxLen ∧ xs.length = n * size ∧ (0 < n → ∃ g off, a = some ⟨g, off, none⟩ ∧ S g ∧ g < w.heap.size ∧ ∀ j u, xs[j]? = some u → w.cell? ⟨g, off + j, none⟩ = some u) := by
  obtain ⟨a, cap, h1, h2, h3, h4, h5⟩ := h
  refine ⟨a, cap, h1, h2, h3, h4, fun hn => ?_⟩
  rcases h5 with h5 | h5
  · omega
  · exact h5
theorem Row.nil (w : World) (S : Nat → Prop) (e size : Nat) : Row w S e size (.slice none 0 0) 0 [] := ⟨World.ownsRow_nil w 0 e size, fun g h => by simp [Value.ownBlock] at h⟩
theorem Row.move (h : Row w S e size v n xs) (hz : w.heap.size ≤ w'.heap.size) (hs : ∀ k, k < w.heap.size → S k → S' k ∧ w'.heap[k]? = w.heap[k]?) : Row w' S' e size v n xs := by
  obtain ⟨⟨h1, h2⟩, h3⟩ := h
  rcases h2 with h2 | ⟨g, cap, cur, rfl, h4, h5, h6⟩
  · exact ⟨⟨h1, .inl h2⟩, fun g hg => by rw [h2.1] at hg; simp [Value.ownBlock] at hg⟩
  · have hlt : g < w.heap.size := (Array.getElem?_eq_some_iff.1 h5).1
    have := hs g hlt (h3 g rfl)
    exact ⟨⟨h1, .inr ⟨g, cap, cur, rfl, h4, this.2.trans h5, h6⟩⟩, fun k hk => by simp [Value.ownBlock] at hk; subst hk; exact this.1⟩
theorem Row.mono (h : Row w S e size v n xs) (hs : ∀ k, k < w.heap.size → S k → S' k) : Row w S' e size v n xs := h.move (Nat.le_refl _) fun k hk q => ⟨hs k hk q, rfl⟩
theorem Row.mod {T : Nat → Prop} (h : Row w S e size v n xs) (hm : Mod T w w') (hd : ∀ k, k < w.heap.size → S k → ¬ T k) : Row w' S e size v n xs :=
  h.move hm.size fun k hk q => ⟨q, hm.block k hk (hd k hk q)⟩
theorem Row.modNil (h : Row w S e size v n xs) (hm : Mod Nil w w') : Row w' S e size v n xs := h.mod hm fun _ _ _ q => q
theorem Row.drew (h : Row w S e size v n xs) : Row w.drew S e size v n xs := h
theorem Row.alloc (h : Row w S e size v n xs) (o : Obj) : Row (w.alloc o) S e size v n xs := h.modNil ((Mod.refl _ _).alloc o)
theorem Row.ne (h : Row w S e size v n xs) {b : Nat} {l : List Value} {T : Nat} (hb : Blk w b l T) (hT : e ≠ T) : ∀ g, v.ownBlock = some g → b ≠ g := by
  obtain ⟨⟨h1, h2⟩, h3⟩ := h
  rcases h2 with h2 | ⟨g, cap, cur, rfl, h4, h5, h6⟩
  · intro g hg; rw [h2.1] at hg; simp [Value.ownBlock] at hg
  · intro k hk
    simp [Value.ownBlock] at hk; subst hk
    exact hb.ne (show Blk w g cur.toList e from by unfold Blk; simpa using h5) (Ne.symm hT)
theorem Row.neMap (h : Row w S e size v n xs) {κ α : Type} {g : κ → Value} {f : α → Value} {b : Nat} {l : List (κ × α)} (hb : MapAt g f w b l) : ∀ g, v.ownBlock = some g → b ≠ g := by
  obtain ⟨⟨h1, h2⟩, h3⟩ := h
  rcases h2 with h2 | ⟨g, cap, cur, rfl, h4, h5, h6⟩
  · intro g hg; rw [h2.1] at hg; simp [Value.ownBlock] at hg
  · intro k hk
    simp [Value.ownBlock] at hk; subst hk
    exact hb.ne (show Blk w g cur.toList e from by unfold Blk; simpa using h5)
theorem Row.setne (h : Row w S e size v n xs) {p : Addr} (hne : ∀ g, v.ownBlock = some g → p.block ≠ g) (u : Value) : Row (w.setCell p u) S e size v n xs := by
  obtain ⟨⟨h1, h2⟩, h3⟩ := h
  refine ⟨⟨h1, ?_⟩, h3⟩
  rcases h2 with h2 | ⟨g, cap, cur, rfl, h4, h5, h6⟩
  · exact .inl h2
  · exact .inr ⟨g, cap, cur, rfl, h4, by rw [Below.heap_setCell _ _ _ _ (Ne.symm (hne g rfl))]; exact h5, h6⟩
theorem Row.self (h : Row w S e size v n xs) : Row w (fun k => v.ownBlock = some k) e size v n xs := ⟨h.1, fun _ hg => hg⟩
theorem Row.len (h : Row w S e size v n xs) : ∃ a cap, v = .slice a n cap ∧ n ≤ cap ∧ cap ≤ maxLen := by
  obtain ⟨⟨_, h2⟩, _⟩ := h
  rcases h2 with ⟨rfl, rfl⟩ | ⟨g, cap, cur, rfl, _, _, h5, h6, _⟩
  · exact ⟨none, 0, rfl, Nat.le_refl _, Nat.zero_le _⟩
  · exact ⟨_, cap, rfl, h5, h6⟩
theorem Row.length (h : Row w S e size v n xs) : xs.length = n * size := h.1.1
theorem Row.lt (h : Row w S e size v n xs) : ∀ g, v.ownBlock = some g → g < w.heap.size := fun g hg => (h.1.lt g hg).2
theorem Row.shape (h : Row w S e size v n xs) : (v = .slice none 0 0 ∧ n = 0 ∧ xs = []) ∨
    ∃ g cap cur, v = .slice (some ⟨g, 0, none⟩) n cap ∧ S g ∧ Blk w g cur e ∧ n ≤ cap ∧ cap ≤ maxLen ∧ cur.length = cap * size ∧ cur.take (n * size) = xs := by
  obtain ⟨⟨h1, h2⟩, h3⟩ := h
  rcases h2 with h2 | ⟨g, cap, cur, rfl, _, h5, h6, h7, h8, h9⟩
  · refine .inl ⟨h2.1, h2.2, List.eq_nil_of_length_eq_zero ?_⟩
    rw [h1, h2.2, Nat.zero_mul]
  · exact .inr ⟨g, cap, cur.toList, rfl, h3 g rfl, by unfold Blk; simpa using h5, h6, h7, by simpa using h8, h9⟩
theorem Row.mk {g cap : Nat} {cur : List Value} (hS : S g) (hb : Blk w g cur e) (hn : n ≤ cap) (hc : cap ≤ maxLen) (hl : cur.length = cap * size) (hx : cur.take (n * size) = xs) : Row w S e size (.slice (some ⟨g, 0, none⟩) n cap) n xs := by
  refine ⟨⟨?_, .inr ⟨g, cap, cur.toArray, rfl, Nat.zero_le _, hb, hn, hc, by simpa using hl, by simpa using hx⟩⟩, fun k hk => by simp [Value.ownBlock] at hk; subst hk; exact hS⟩
  rw [← hx, List.length_take, hl, Nat.min_eq_left (Nat.mul_le_mul_right _ hn)]
theorem Row.cells (h : Row w S e size v n xs) : Cells w S v n size xs := by
  rcases h.shape with ⟨rfl, rfl, rfl⟩ | ⟨g, cap, cur, rfl, hS, hb, hn, hc, hl, rfl⟩
  · exact ⟨none, 0, rfl, Nat.le_refl _, Nat.zero_le _, by simp, .inl rfl⟩
  · refine ⟨_, cap, rfl, hn, hc, ?_, .inr ⟨g, 0, rfl, hS, hb.lt, fun j u hj => ?_⟩⟩
    · rw [List.length_take, hl, Nat.min_eq_left (Nat.mul_le_mul_right _ hn)]
    · rw [Nat.zero_add, hb.cell, ← hj, List.getElem?_take]
      split
      · rfl
      · rename_i hlt
        have := (List.getElem?_eq_some_iff.1 hj).1
        rw [List.length_take] at this
        omega
end
section
variable {P : Program} {w : World} {S : Nat → Prop} {v : Value} {n size bytes e t : Nat} {xs : List Value}
  {ops : Array Oper} {rest : List Oper} {o : Oper} {a : Act} {Q : Exit → Act → World → Prop}
theorem runRowAppend (E : ElemT P t e size bytes) (hsz : 0 < size) (ty : Nat) (h : Row w S e size v n xs)
    {ad : Addr} {m c : Nat} {news : List Value} (hl : news.length = m * size) (hnews : ∀ j u, news[j]? = some u → w.cell? (ad.add j) = some u) (h1 : ∀ u ∈ news, u.oneCell' = true)
    (h63 : n + m ≤ maxLen) (hbytes : (n + m) * bytes ≤ 140737488355328) :
    ∃ v' w', (Builtin.append_ #[t, t] ty #[v, .slice (some ad) m c]).run P w = .ok v' w' ∧ Row w' (fun k => S k ∨ k = w.heap.size) e size v' (n + m) (xs ++ news) ∧ Mod S w w' := by
  obtain ⟨i, z, hi, hz, hs, hb, hc⟩ := E.info
  obtain ⟨v', w', hr, h2, h3, _, h5⟩ := run_append_own_at (P := P) w 0 t ty e i z size bytes E.under hi hz hs hb hc hsz v n xs h.1 ad m c news hl hnews h1 h63 hbytes (Nat.zero_le _)
  refine ⟨v', w', hr, ⟨h2, fun g hg => ?_⟩, (Mod.refl S w).grown h3 fun k hk _ => h.2 k hk⟩
  rcases h5 with h5 | h5
  · exact .inl (h.2 g (h5 ▸ hg))
  · rw [h5] at hg; injection hg with hg; exact .inr hg.symm
theorem wpRowAppend (hg : o.guard = none) (s x : Operand) (ho : o.op = .call { callee := .builtin .append, args := #[s, x], argTypes := #[t, t] })
    (E : ElemT P t e size bytes) (hsz : 0 < size) (h : Row w S e size v n xs) (hs : a.eval s = v)
    (ad : Addr) (m c : Nat) (news : List Value) (hx : a.eval x = .slice (some ad) m c) (hl : news.length = m * size) (hnews : ∀ j u, news[j]? = some u → w.cell? (ad.add j) = some u) (h1 : ∀ u ∈ news, u.oneCell' = true)
    (h63 : n + m ≤ maxLen) (hbytes : (n + m) * bytes ≤ 140737488355328)
    (hK : ∀ v' w', Row w' (fun k => S k ∨ k = w.heap.size) e size v' (n + m) (xs ++ news) → Mod S w w' → wpList P ops Q rest (a.put o.dst v') w') : wpList P ops Q (o :: rest) a w := by
  refine wpList_plain hg fun K' hK' => ?_
  obtain ⟨v', w', hr, h2, h3⟩ := runRowAppend E hsz o.type h hl (c := c) hnews h1 h63 hbytes
  unfold Oper.wp execOp
  simp only [ho, resolve, invoke, builtin, Sem.run_bind, Sem.run_pure, Result.andThen_ok, List.map_toArray, List.map_cons, List.map_nil, hs, hx, hr]
  exact hK' _ _ (hK v' w' h2 h3)
theorem addr_add (g j : Nat) : (⟨g, 0, none⟩ : Addr).add j = ⟨g, j, none⟩ := by unfold Addr.add; split <;> simp_all
theorem addr_add' (g o j : Nat) : (⟨g, o, none⟩ : Addr).add j = ⟨g, o + j, none⟩ := by unfold Addr.add; split <;> simp_all
theorem wpRowPush (hg : o.guard = none) (s x : Operand) (ho : o.op = .call { callee := .builtin .append, args := #[s, x], argTypes := #[t, t] })
    (E : ElemT P t e size bytes) (hsz : 0 < size) (h : Row w S e size v n xs) (hs : a.eval s = v)
    {B : Nat} (hx : a.eval x = .slice (some ⟨B, 0, none⟩) 1 1) (hB : B = w.heap.size) (news : List Value) (T : Nat) (hl : news.length = size) (h1 : ∀ u ∈ news, u.oneCell' = true)
    (h63 : n + 1 ≤ maxLen) (hbytes : (n + 1) * bytes ≤ 140737488355328)
    (hK : ∀ v' w', Row w' (fun k => S k ∨ w.heap.size ≤ k) e size v' (n + 1) (xs ++ news) → Mod S w w' → w.heap.size + 1 ≤ w'.heap.size → wpList P ops Q rest (a.put o.dst v') w') : wpList P ops Q (o :: rest) a (w.alloc (.cells news.toArray T)) := by
  subst hB
  have hb := Blk.new w news T
  refine wpRowAppend hg s x ho E hsz (h.alloc _) hs ⟨w.heap.size, 0, none⟩ 1 1 news hx (by omega) (fun j u hj => ?_) h1 h63 hbytes fun v' w' h2 h3 => hK v' w' (h2.mono fun k _ q => ?_) ?_ ?_
  · rw [addr_add, hb.cell]; exact hj
  · rcases q with q | q
    · exact .inl q
    · exact .inr (by simp at q; omega)
  · exact ((Mod.refl S w).alloc _).trans h3
  · have := h3.size; simpa using this
end
end Go.Proofs.YtholinnmjoelkaaGreatDoor
namespace Go.Proofs.YtholinnmjoelkaaGreatDoor
open Go.RowKit Go.MapKept Go.ChangeShapes Go.WideShapes Go.Deep
theorem list_of {α : Type} {Q : Nat → α → Prop} : ∀ (n : Nat), (∀ i, i < n → ∃ x, Q i x) → ∃ xs : List α, xs.length = n ∧ ∀ i (h : i < xs.length), Q i xs[i]
  | 0, _ => ⟨[], rfl, fun i h => absurd h (Nat.not_lt_zero i)⟩
  | n + 1, h => by
    obtain ⟨xs, hl, hx⟩ := list_of n fun i hi => h i (by omega)
    obtain ⟨x, hq⟩ := h n (by omega)
    refine ⟨xs ++ [x], by simp [hl], fun i hi => ?_⟩
    by_cases e : i < xs.length
    · rw [List.getElem_append_left e]; exact hx i e
    · have : i = n := by simp at hi; omega
      subst this
      rw [List.getElem_append_right (by omega)]
      simpa [hl] using hq
theorem length_flat {α : Type} {f : α → List Value} {size : Nat} (hf : ∀ x, (f x).length = size) : ∀ xs : List α, (xs.flatMap f).length = xs.length * size
  | [] => by simp
  | x :: xs => by rw [List.flatMap_cons, List.length_append, hf, length_flat hf xs, List.length_cons, Nat.add_mul, Nat.one_mul, Nat.add_comm]
theorem get_flat {α : Type} {f : α → List Value} {size : Nat} (hf : ∀ x, (f x).length = size) : ∀ (xs : List α) (i j : Nat) (h : i < xs.length), j < size → (xs.flatMap f)[i * size + j]? = (f xs[i])[j]?
  | x :: xs, 0, j, _, hj => by
    rw [List.flatMap_cons, Nat.zero_mul, Nat.zero_add, List.getElem?_append_left (by rw [hf]; exact hj)]
    rfl
  | x :: xs, i + 1, j, h, hj => by
    rw [List.flatMap_cons, List.getElem?_append_right (by rw [hf, Nat.add_mul]; omega), hf]
    rw [show (i + 1) * size + j - size = i * size + j from by rw [Nat.add_mul]; omega]
    exact get_flat hf xs i j (by simpa using h) hj
section
variable {H : Type} {enc : TypeId × Value → H} {P : Program} {w : World} {sp : Nat → Bool} {held : Bool}
theorem open_cells {t e size : Nat} {a : Option Addr} {len cap : Nat} {d : DataW H} {p : List MemPlace} {α : Type} (f : α → List Value) (ht : P.underlying t = some (.slice e)) (hC : P.cellsOf e = size) (hsz : 0 < size)
    (hf : ∀ n cs y, DataW.trod enc P w 0 sp held n e cs = some y → ∃ x, cs = f x) (hl : ∀ x, (f x).length = size) (h : DataW.Trod enc P w 0 sp held t (.slice a len cap) d p) :
    ∃ xs : List α, Cells w (fun k => k < w.heap.size) (.slice a len cap) xs.length size (xs.flatMap f) := by
  obtain ⟨fuel, hx⟩ := h
  rcases open_slice ht hx with ⟨hcs, _⟩ | ⟨a', len', cap', m, n, D, Pl, hcs, _, hlc, hm, hmm, _, hi⟩
  · simp [Value.cells] at hcs
    obtain ⟨rfl, rfl, rfl⟩ := hcs
    exact ⟨[], none, 0, rfl, Nat.le_refl _, Nat.zero_le _, by simp, .inl rfl⟩
  · simp [Value.cells] at hcs
    obtain ⟨rfl, rfl, rfl⟩ := hcs
    have hlm : len ≤ m := by rw [hmm]; split <;> omega
    rw [hC] at hi
    obtain ⟨xs, hxl, hxs⟩ := list_of (Q := fun i x => w.cells? 0 (a'.add (i * size)) size = some (f x)) len fun i hlt => by
      obtain ⟨cs', h1, h2⟩ := hi i (by omega)
      obtain ⟨x, rfl⟩ := hf _ _ _ h2
      exact ⟨x, h1⟩
    subst hxl
    refine ⟨xs, some a', cap, rfl, hlc, hm, length_flat hl xs, ?_⟩
    by_cases h0 : xs.length = 0
    · exact .inl h0
    · right
      obtain ⟨g, off, spot⟩ := a'
      have hat : ∀ i (hlt : i < xs.length) j, j < size → w.cell? ((⟨g, off, spot⟩ : Addr).add (i * size + j)) = (f xs[i])[j]? := fun i hlt j hj => by
        obtain ⟨_, _, h3⟩ := World.cells?_some (hxs i hlt)
        rw [← h3 j hj, Deep.add_add]
      have h1 := hat 0 (by omega) 0 hsz
      have hv : (f xs[0])[0]? = some ((f xs[0])[0]'(by rw [hl]; exact hsz)) := List.getElem?_eq_getElem _
      rw [hv] at h1
      have hlt0 := World.block_lt_of_cell? w _ h1
      have hs : spot = none := by
        cases spot with
        | none => rfl
        | some s => simp [Addr.add, World.cell?] at h1; split at h1 <;> simp at h1
      subst hs
      refine ⟨g, off, rfl, by simpa [Addr.add] using hlt0, by simpa [Addr.add] using hlt0, fun j u hj => ?_⟩
      have hjl : j < xs.length * size := by have := (List.getElem?_eq_some_iff.1 hj).1; rwa [length_flat hl] at this
      have hq : j / size < xs.length := Nat.div_lt_of_lt_mul (by rw [Nat.mul_comm]; exact hjl)
      have hr : j % size < size := Nat.mod_lt _ hsz
      have hjj : j / size * size + j % size = j := by rw [Nat.mul_comm]; exact Nat.div_add_mod j size
      have h2 := hat (j / size) hq (j % size) hr
      have h3 := get_flat hl xs (j / size) (j % size) hq hr
      rw [hjj] at h2 h3
      rw [← addr_add', h2, ← h3, hj]
end
section
variable {H : Type} {enc : TypeId × Value → H} {P : Program} {w : World} {base : Nat} {sp : Nat → Bool} {held : Bool} {n : Nat} {cs : List Value} {y : DataW H × List MemPlace}
theorem el_str {e : Nat} (he : P.underlying e = some .string) (h : DataW.trod enc P w base sp held n e cs = some y) : ∃ x : {s : ByteArray // s.size ≤ maxLen}, cs = [.string x.1] := by
  obtain ⟨s, rfl, _, hs⟩ := DataW.trod_string he h
  exact ⟨⟨s, hs⟩, rfl⟩
end
end Go.Proofs.YtholinnmjoelkaaGreatDoor
namespace Go.Proofs.YtholinnmjoelkaaGreatDoor
open Go.RowKit Go.MapKept
structure Base (w0 w : World) (own : Nat → Nat) : Prop where
  bel : Mod Nil w0 w
  old : ∀ k, k < w0.heap.size → own k = 0
structure Keeps (w w' : World) (own own' : Nat → Nat) (c : Nat) : Prop where
  size : w.heap.size ≤ w'.heap.size
  block : ∀ k, k < w.heap.size → own k = c → own' k = c ∧ w'.heap[k]? = w.heap[k]?
section
variable {w0 w w' : World} {own : Nat → Nat} {c : Nat}
theorem Base.start (w : World) : Base w w (fun _ => 0) := ⟨Mod.refl _ _, fun _ _ => rfl⟩
theorem Base.size (h : Base w0 w own) : w0.heap.size ≤ w.heap.size := h.bel.size
theorem Base.drew (h : Base w0 w own) : Base w0 w.drew own := ⟨h.bel.drew, h.old⟩
theorem Base.drewN (h : Base w0 w own) (n : Nat) : Base w0 (w.drewN n) own := ⟨h.bel.drewN n, h.old⟩
theorem Base.alloc (h : Base w0 w own) (o : Obj) : Base w0 (w.alloc o) own := ⟨h.bel.alloc o, h.old⟩
theorem Base.turn (h : Base w0 w own) (hc : c ≠ 0) (hm : Mod (fun k => own k = c) w w') : Base w0 w' (paint own w c) :=
  ⟨h.bel.trans' hm fun k hk q => hc (by rw [← q, h.old k hk]), fun k hk => by rw [paint_old own w c (Nat.lt_of_lt_of_le hk h.size)]; exact h.old k hk⟩
theorem Base.cell (h : Base w0 w own) {p : Addr} {v : Value} (hv : w0.cell? p = some v) : w.cell? p = some v := h.bel.cell hv fun q => q
theorem keeps_turn (hm : Mod (fun k => own k = c) w w') {c' : Nat} (hne : c' ≠ c) : Keeps w w' own (paint own w c) c' := ⟨hm.size, kept hm (fun _ _ q => q) hne⟩
theorem Keeps.trans {w2 : World} {own' own2 : Nat → Nat} (h : Keeps w w' own own' c) (k : Keeps w' w2 own' own2 c) : Keeps w w2 own own2 c :=
  ⟨Nat.le_trans h.size k.size, fun j hj e => ⟨(k.block j (Nat.lt_of_lt_of_le hj h.size) (h.block j hj e).1).1, (k.block j (Nat.lt_of_lt_of_le hj h.size) (h.block j hj e).1).2.trans (h.block j hj e).2⟩⟩
theorem Keeps.refl (w : World) (own : Nat → Nat) (c : Nat) : Keeps w w own own c := ⟨Nat.le_refl _, fun _ _ e => ⟨e, rfl⟩⟩
theorem Cells.keep {own' : Nat → Nat} {v : Value} {n size : Nat} {xs : List Value} (h : Cells w (fun k => own k = c) v n size xs) (K : Keeps w w' own own' c) : Cells w' (fun k => own' k = c) v n size xs := h.move K.size K.block
theorem Row.keep {own' : Nat → Nat} {v : Value} {e n size : Nat} {xs : List Value} (h : Row w (fun k => own k = c) e size v n xs) (K : Keeps w w' own own' c) : Row w' (fun k => own' k = c) e size v n xs := h.move K.size K.block
end
section
variable {w : World} {S : Nat → Prop} {g off n cap size : Nat} {a : Option Addr} {xs : List Value}
theorem Cells.addr (h : Cells w S (.slice a n cap) n size xs) (hn : 0 < n) : ∃ g off, a = some ⟨g, off, none⟩ ∧ S g ∧ g < w.heap.size ∧ ∀ j u, xs[j]? = some u → w.cell? ⟨g, off + j, none⟩ = some u := by
  obtain ⟨a', cap', e, h2, h3, h4, h5⟩ := h
  injection e with e1 _ e3
  subst e1 e3
  exact h5.resolve_left (by omega)
end
def OwnMap {κ α : Type} (g : κ → Value) (f : α → Value) (w : World) (own : Nat → Nat) (c b : Nat) (l : List (κ × α)) : Prop := MapAt g f w b l ∧ own b = c
section
variable {κ α : Type} {g : κ → Value} {f : α → Value} {w0 w w' : World} {own own' : Nat → Nat} {c b : Nat} {l l' : List (κ × α)}
theorem OwnMap.keep (h : OwnMap g f w own c b l) (K : Keeps w w' own own' c) : OwnMap g f w' own' c b l :=
  ⟨h.1.same (K.block b h.1.lt h.2).2, (K.block b h.1.lt h.2).1⟩
theorem OwnMap.turn (hB : Base w0 w own) (hc : c ≠ 0) (h : OwnMap g f w own c b l) (hm : MapAt g f w' b l') (hg : w.grownBy w' (some b)) :
    ∃ own', Base w0 w' own' ∧ OwnMap g f w' own' c b l' ∧ ∀ c', c' ≠ c → Keeps w w' own own' c' := by
  have hmod : Mod (fun k => own k = c) w w' := (Mod.refl _ _).grown hg fun k hk _ => by injection hk with hk; subst hk; exact h.2
  exact ⟨paint own w c, hB.turn hc hmod, ⟨hm, (paint_old own w c h.1.lt).trans h.2⟩, fun c' hne => keeps_turn hmod hne⟩
end
theorem Strs.drewN {w : World} {S : Nat → Prop} {v : Value} {ks : List ByteArray} (h : Strs w S v ks) (m : Nat) : Strs (w.drewN m) S v ks := Cells.modNil h ((Mod.refl _ _).drewN m)
theorem Strs.keep {w w' : World} {own own' : Nat → Nat} {c : Nat} {v : Value} {ks : List ByteArray} (h : Strs w (fun k => own k = c) v ks) (K : Keeps w w' own own' c) : Strs w' (fun k => own' k = c) v ks := Cells.keep h K
theorem Keeps.drewN (w : World) (own : Nat → Nat) (n c : Nat) : Keeps w (w.drewN n) own own c := ⟨Nat.le_refl _, fun _ _ e => ⟨e, rfl⟩⟩
theorem Row.strs {w : World} {S : Nat → Prop} {e : Nat} {v : Value} {n : Nat} {ks : List ByteArray} (h : Row w S e 1 v n (ks.map Value.string)) : Strs w S v ks := by
  have := h.length
  have hn : n = ks.length := by simpa using this.symm
  subst hn
  exact h.cells
end Go.Proofs.YtholinnmjoelkaaGreatDoor
namespace Go.Proofs.YtholinnmjoelkaaGreatDoor
open Go.RowKit Go.MapKept
class Mov (R : World → (Nat → Prop) → Prop) : Prop where
  mov : ∀ {w w' : World} {S S' : Nat → Prop}, R w S → w.heap.size ≤ w'.heap.size → (∀ k, k < w.heap.size → S k → S' k ∧ w'.heap[k]? = w.heap[k]?) → R w' S'
theorem Mov.mono {R : World → (Nat → Prop) → Prop} [Mov R] {w : World} {S S' : Nat → Prop} (h : R w S) (hs : ∀ k, S k → S' k) : R w S' := Mov.mov h (Nat.le_refl _) fun k _ q => ⟨hs k q, rfl⟩
theorem Mov.drewN {R : World → (Nat → Prop) → Prop} [Mov R] {w : World} {S : Nat → Prop} (h : R w S) (n : Nat) : R (w.drewN n) S := Mov.mov h (Nat.le_refl _) fun k _ q => ⟨q, rfl⟩
instance {e size : Nat} {v : Value} {n : Nat} {xs : List Value} : Mov (fun w S => Row w S e size v n xs) := ⟨fun h hz hs => h.move hz hs⟩
instance {size : Nat} {v : Value} {n : Nat} {xs : List Value} : Mov (fun w S => Cells w S v n size xs) := ⟨fun h hz hs => h.move hz hs⟩
instance {v : Value} {xs : List ByteArray} : Mov (fun w S => Strs w S v xs) := ⟨fun h hz hs => Cells.move h hz hs⟩
def BlkAt (w : World) (S : Nat → Prop) (b : Nat) (l : List Value) (T : TypeId) : Prop := Blk w b l T ∧ S b
theorem BlkAt.move {w w' : World} {S S' : Nat → Prop} {b : Nat} {l : List Value} {T : TypeId} (h : BlkAt w S b l T) (hz : w.heap.size ≤ w'.heap.size) (hs : ∀ k, k < w.heap.size → S k → S' k ∧ w'.heap[k]? = w.heap[k]?) : BlkAt w' S' b l T :=
  ⟨h.1.same (hs b h.1.lt h.2).2, (hs b h.1.lt h.2).1⟩
instance {b : Nat} {l : List Value} {T : TypeId} : Mov (fun w S => BlkAt w S b l T) := ⟨fun h hz hs => h.move hz hs⟩
def MapOf {κ α : Type} (g : κ → Value) (f : α → Value) (w : World) (S : Nat → Prop) (b : Nat) (l : List (κ × α)) : Prop := MapAt g f w b l ∧ S b
theorem MapOf.move {κ α : Type} {g : κ → Value} {f : α → Value} {w w' : World} {S S' : Nat → Prop} {b : Nat} {l : List (κ × α)} (h : MapOf g f w S b l) (hz : w.heap.size ≤ w'.heap.size) (hs : ∀ k, k < w.heap.size → S k → S' k ∧ w'.heap[k]? = w.heap[k]?) : MapOf g f w' S' b l :=
  ⟨h.1.same (hs b h.1.lt h.2).2, (hs b h.1.lt h.2).1⟩
instance {κ α : Type} {g : κ → Value} {f : α → Value} {b : Nat} {l : List (κ × α)} : Mov (fun w S => MapOf g f w S b l) := ⟨fun h hz hs => h.move hz hs⟩
section
variable {w : World} {S : Nat → Prop} {b : Nat} {T : TypeId} {x0 x1 x2 x3 x4 x5 : Value} {l : List Value}
theorem BlkAt.c0 (h : BlkAt w S b (x0 :: l) T) : w.cell? ⟨b, 0, none⟩ = some x0 := h.1.at 0 _ rfl
theorem BlkAt.c1 (h : BlkAt w S b (x0 :: x1 :: l) T) : w.cell? ⟨b, 1, none⟩ = some x1 := h.1.at 1 _ rfl
theorem BlkAt.c2 (h : BlkAt w S b (x0 :: x1 :: x2 :: l) T) : w.cell? ⟨b, 2, none⟩ = some x2 := h.1.at 2 _ rfl
theorem BlkAt.c3 (h : BlkAt w S b (x0 :: x1 :: x2 :: x3 :: l) T) : w.cell? ⟨b, 3, none⟩ = some x3 := h.1.at 3 _ rfl
theorem BlkAt.c4 (h : BlkAt w S b (x0 :: x1 :: x2 :: x3 :: x4 :: l) T) : w.cell? ⟨b, 4, none⟩ = some x4 := h.1.at 4 _ rfl
theorem BlkAt.lt (h : BlkAt w S b l T) : b < w.heap.size := h.1.lt
theorem BlkAt.fr (h : BlkAt w S b l T) (i : Nat) : w.frozen? ⟨b, i, none⟩ = false := h.1.free i
end
def After (S : Nat → Prop) (w : World) (r : Value) (R : World → (Nat → Prop) → Prop) : Ending → World → Prop := fun e w' =>
  e = .returned r ∧ Mod S w w' ∧ ∃ S' : Nat → Prop, (∀ k, S' k → S k ∨ w.heap.size ≤ k) ∧ R w' S'
def Makes (w : World) (N : Value → World → (Nat → Prop) → Prop) : Ending → World → Prop := fun e w' =>
  ∃ v, e = .returned v ∧ Mod Nil w w' ∧ N v w' (fun k => w.heap.size ≤ k)
def Reads (w : World) (r : Value) : Ending → World → Prop := fun e w' => e = .returned r ∧ ∃ n, w' = w.drewN n
theorem Reads.of_eq {w : World} {r : Value} {e : Ending} {w' : World} (h : e = .returned r ∧ w = w') : Reads w r e w' := ⟨h.1, 0, by rw [← h.2]; rfl⟩
theorem reads_of {P : Program} {f : Nat} {args : Array Value} {w : World} {r : Value} (h : Calls P f args w fun e w' => e = .returned r ∧ w = w') : Calls P f args w (Reads w r) := h.mono fun _ _ q => Reads.of_eq q
theorem after_as {P : Program} {f : Nat} {args : Array Value} {w : World} {S : Nat → Prop} {r r' : Value} {R R' : World → (Nat → Prop) → Prop} (h : Calls P f args w (After S w r R)) (e : r = r') (hR : ∀ w S, R w S → R' w S) : Calls P f args w (After S w r' R') :=
  h.mono fun _ _ ⟨h1, h2, S', h3, h4⟩ => ⟨h1.trans (by rw [e]), h2, S', h3, hR _ _ h4⟩
structure Home (own0 : Nat → Nat) (w0 w : World) (own : Nat → Nat) : Prop where
  bel : Mod (fun k => own0 k ≠ 0) w0 w
  old : ∀ k, k < w0.heap.size → own k = own0 k
def none0 : Nat → Nat := fun _ => 0
section
variable {own0 own : Nat → Nat} {w0 w w' : World} {c c1 : Nat}
theorem Home.start (own0 : Nat → Nat) (w : World) : Home own0 w w own0 := ⟨Mod.refl _ _, fun _ _ => rfl⟩
theorem Home.size (h : Home own0 w0 w own) : w0.heap.size ≤ w.heap.size := h.bel.size
theorem Home.nil (h : Home none0 w0 w own) : Mod Nil w0 w := h.bel.mono fun _ _ q => q rfl
theorem Home.turn (h : Home own0 w0 w own) (hc : c ≠ 0) (hm : Mod (fun k => own k = c) w w') : Home own0 w0 w' (paint own w c) :=
  ⟨h.bel.trans' hm fun k hk q => by rw [← h.old k hk, q]; exact hc, fun k hk => by rw [paint_old own w c (Nat.lt_of_lt_of_le hk h.size)]; exact h.old k hk⟩
theorem Home.still (h : Home own0 w0 w own) (hm : Mod Nil w w') : Home own0 w0 w' own := ⟨h.bel.trans' hm fun _ _ q => q.elim, h.old⟩
theorem Home.drewN (h : Home own0 w0 w own) (n : Nat) : Home own0 w0 (w.drewN n) own := h.still ((Mod.refl _ _).drewN n)
theorem Home.drew (h : Home own0 w0 w own) : Home own0 w0 w.drew own := h.still ((Mod.refl _ _).drew)
theorem Home.cell (h : Home none0 w0 w own) {p : Addr} {v : Value} (hv : w0.cell? p = some v) : w.cell? p = some v := h.nil.cell hv fun q => q
theorem Home.cells {S : Nat → Prop} (h : Home none0 w0 w own) {v : Value} {n size : Nat} {xs : List Value} (hv : Cells w0 S v n size xs) : Cells w S v n size xs := hv.modNil h.nil
theorem Home.mod {S : Nat → Prop} (h : Home own0 w0 w own) (hs : ∀ k, own0 k ≠ 0 → S k) : Mod S w0 w := h.bel.mono fun k _ q => hs k q
theorem Home.left {S : Nat → Prop} (h : Home own0 w0 w own) (hs : ∀ k, own0 k ≠ 0 → S k) : ∀ k, own k ≠ 0 → S k ∨ w0.heap.size ≤ k := fun k q => by
  rcases Nat.lt_or_ge k w0.heap.size with hk | hk
  · exact .inl (hs k (by rw [← h.old k hk]; exact q))
  · exact .inr hk
theorem Home.new (h : Home own0 w0 w own) {c : Nat} (hc : ∀ k, own0 k ≠ c) : ∀ k, own k = c → w0.heap.size ≤ k := fun k q => by
  rcases Nat.lt_or_ge k w0.heap.size with hk | hk
  · exact absurd ((h.old k hk).symm.trans q) (hc k)
  · exact hk
section
variable {P : Program} {f : Nat} {args : Array Value} {r : Value} {R : World → (Nat → Prop) → Prop} {N : Value → World → (Nat → Prop) → Prop}
open Classical in
end
theorem BlkAt.keep {own' : Nat → Nat} {b : Nat} {l : List Value} {T : TypeId} (h : BlkAt w (fun k => own k = c) b l T) (K : Keeps w w' own own' c) : BlkAt w' (fun k => own' k = c) b l T := h.move K.size K.block
theorem MapOf.keep {κ α : Type} {g : κ → Value} {f : α → Value} {own' : Nat → Nat} {b : Nat} {l : List (κ × α)} (h : MapOf g f w (fun k => own k = c) b l) (K : Keeps w w' own own' c) : MapOf g f w' (fun k => own' k = c) b l := h.move K.size K.block
end
def MakesP (w : World) (N : Nat → World → (Nat → Prop) → Prop) : Ending → World → Prop := fun e w' =>
  ∃ b, e = .returned (.pointer (some ⟨b, 0, none⟩)) ∧ Mod Nil w w' ∧ N b w' (fun k => w.heap.size ≤ k)
theorem MakesP.from {w w1 : World} {N : Nat → World → (Nat → Prop) → Prop} [∀ b, Mov (N b)] (hm : Mod Nil w w1) {e : Ending} {w' : World} (h : MakesP w1 N e w') : MakesP w N e w' := by
  obtain ⟨b, he, h1, h2⟩ := h
  exact ⟨b, he, hm.trans h1, Mov.mono h2 fun k q => Nat.le_trans hm.size q⟩
theorem Makes.from {w w1 : World} {N : Value → World → (Nat → Prop) → Prop} [∀ b, Mov (N b)] (hm : Mod Nil w w1) {e : Ending} {w' : World} (h : Makes w1 N e w') : Makes w N e w' := by
  obtain ⟨b, he, h1, h2⟩ := h
  exact ⟨b, he, hm.trans h1, Mov.mono h2 fun k q => Nat.le_trans hm.size q⟩
def Owned (S : Nat → Prop) (own : Nat → Nat) (n : Nat) : Prop := ∀ k, own k ≠ 0 → S k ∧ own k ≤ n
def cutOwn (own : Nat → Nat) (w : World) : Nat → Nat := fun k => if k < w.heap.size then own k else 0
theorem Owned.move {w w' : World} {S S' : Nat → Prop} {own : Nat → Nat} {n : Nat} (h : Owned S own n) (hs : ∀ k, k < w.heap.size → S k → S' k ∧ w'.heap[k]? = w.heap[k]?) (hz : w.heap.size ≤ w'.heap.size) :
    Owned S' (cutOwn own w) n ∧ ∀ c, c ≠ 0 → Keeps w w' own (cutOwn own w) c := by
  refine ⟨fun k q => ?_, fun c hc => ⟨hz, fun k hk e => ⟨by unfold cutOwn; rw [if_pos hk]; exact e, ?_⟩⟩⟩
  · unfold cutOwn at q ⊢
    split at q
    · rename_i hk; rw [if_pos hk]; exact ⟨(hs k hk (h k q).1).1, (h k q).2⟩
    · exact absurd rfl q
  · exact (hs k hk (h k (by rw [e]; exact hc)).1).2
theorem Owned.has {S : Nat → Prop} {own : Nat → Nat} {n : Nat} (h : Owned S own n) : ∀ k, own k ≠ 0 → S k := fun k q => (h k q).1
section
variable {w : World} {S : Nat → Prop} {a : Option Addr} {n cap k : Nat} {xs : List ByteArray}
theorem Strs.get (h : Strs w S (.slice a n cap) xs) (hk : k < xs.length) : ∃ g off, a = some ⟨g, off, none⟩ ∧ S g ∧ w.cell? ⟨g, off + k, none⟩ = some (.string xs[k]) := by
  obtain ⟨a', cap', e, h2, h3, h4, h5⟩ := h
  injection e with e1 _ e3
  subst e1 e3
  rcases h5 with h5 | ⟨g, off, h5, h6, h7, h8⟩
  · omega
  · exact ⟨g, off, h5, h6, h8 k _ (by rw [List.getElem?_map, List.getElem?_eq_getElem hk]; rfl)⟩
theorem Strs.getAt {g off : Nat} {x : ByteArray} (h : Strs w S (.slice (some ⟨g, off, none⟩) n cap) xs) (hx : xs[k]? = some x) : w.cell? ⟨g, off + k, none⟩ = some (.string x) := by
  have hk := (List.getElem?_eq_some_iff.1 hx).1
  obtain ⟨g', off', e, _, h2⟩ := h.get hk
  cases e
  rw [h2, (List.getElem?_eq_some_iff.1 hx).2]
end
end Go.Proofs.YtholinnmjoelkaaGreatDoor
