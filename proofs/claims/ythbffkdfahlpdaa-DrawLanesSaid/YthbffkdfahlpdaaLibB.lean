/- Words for a seat's proofs: slices that are read, rows that are appended to. Over any program; no condition. -/
import Derived.Test.YthbffkdfahlpdaaLibA
set_option linter.unusedVariables false
namespace Go.Proofs.Ythbffkdfahlpdaa
open Go.RowKit Go.MapKept

/-- What a slice's element type is. -/
structure ElemT (P : Program) (t e size bytes : Nat) : Prop where
  under : P.underlying t = some (.slice e)
  info : ∃ i z, P.info? e = some i ∧ i.zero = some z ∧ i.size = size ∧ i.bytes = bytes ∧ z.cells.size = size
theorem elemT {P : Program} {t e size bytes : Nat} {z : Value} (ht : P.underlying t = some (.slice e)) (h : (P.info? e).map (fun i => (i.zero, i.size, i.bytes)) = some (some z, size, bytes)) (hz : z.cells.size = size) : ElemT P t e size bytes := by
  obtain ⟨i0, hi, hz0, hz1, hz2⟩ := info_parts h
  exact ⟨ht, i0, z, hi, hz0, hz1, hz2, hz⟩

/-! ### a slice that is read -/
/-- v is a slice of n elements, whose cells are xs; they lie in blocks of S. -/
def Cells (w : World) (S : Nat → Prop) (v : Value) (n size : Nat) (xs : List Value) : Prop :=
  ∃ a cap, v = .slice a n cap ∧ n ≤ cap ∧ cap ≤ maxLen ∧ xs.length = n * size ∧
    (n = 0 ∨ ∃ g off, a = some ⟨g, off, none⟩ ∧ S g ∧ g < w.heap.size ∧ ∀ j u, xs[j]? = some u → w.cell? ⟨g, off + j, none⟩ = some u)
def Strs (w : World) (S : Nat → Prop) (v : Value) (xs : List ByteArray) : Prop := Cells w S v xs.length 1 (xs.map Value.string)

/-- v is nil, or a slice at the head of a row whose first cells are xs; S has the row. -/
def Row (w : World) (S : Nat → Prop) (e size : Nat) (v : Value) (n : Nat) (xs : List Value) : Prop := w.ownsRow 0 e size v n xs ∧ ∀ g, v.ownBlock = some g → S g

section
variable {w w' : World} {S S' : Nat → Prop} {v : Value} {n size e : Nat} {xs : List Value}

theorem Cells.move (h : Cells w S v n size xs) (hz : w.heap.size ≤ w'.heap.size) (hs : ∀ k, k < w.heap.size → S k → S' k ∧ w'.heap[k]? = w.heap[k]?) : Cells w' S' v n size xs := by
  obtain ⟨a, cap, h1, h2, h3, h4, h5⟩ := h
  refine ⟨a, cap, h1, h2, h3, h4, ?_⟩
  rcases h5 with h5 | ⟨g, off, h5, h6, h7, h8⟩
  · exact .inl h5
  · exact .inr ⟨g, off, h5, (hs g h7 h6).1, by omega, fun j u hj => (World.cell?_of_block (hs g h7 h6).2).trans (h8 j u hj)⟩
theorem Cells.mono (h : Cells w S v n size xs) (hs : ∀ k, k < w.heap.size → S k → S' k) : Cells w S' v n size xs := h.move (Nat.le_refl _) fun k hk q => ⟨hs k hk q, rfl⟩
theorem Cells.mod {T : Nat → Prop} (h : Cells w S v n size xs) (hm : Mod T w w') (hd : ∀ k, k < w.heap.size → S k → ¬ T k) : Cells w' S v n size xs :=
  h.move hm.size fun k hk q => ⟨q, hm.block k hk (hd k hk q)⟩
theorem Cells.modNil (h : Cells w S v n size xs) (hm : Mod Nil w w') : Cells w' S v n size xs := h.mod hm fun _ _ _ q => q
theorem Cells.drew (h : Cells w S v n size xs) : Cells w.drew S v n size xs := h
theorem Cells.alloc (h : Cells w S v n size xs) (o : Obj) : Cells (w.alloc o) S v n size xs := h.modNil ((Mod.refl _ _).alloc o)
/-- The value, written out, and each cell. -/
theorem Cells.shape (h : Cells w S v n size xs) : ∃ a cap, v = .slice a n cap ∧ n ≤ cap ∧ cap ≤ maxLen ∧ xs.length = n * size ∧ (0 < n → ∃ g off, a = some ⟨g, off, none⟩ ∧ S g ∧ g < w.heap.size ∧ ∀ j u, xs[j]? = some u → w.cell? ⟨g, off + j, none⟩ = some u) := by
  obtain ⟨a, cap, h1, h2, h3, h4, h5⟩ := h
  refine ⟨a, cap, h1, h2, h3, h4, fun hn => ?_⟩
  rcases h5 with h5 | h5
  · omega
  · exact h5

theorem Row.nil (w : World) (S : Nat → Prop) (e size : Nat) : Row w S e size (.slice none 0 0) 0 [] := ⟨World.ownsRow_nil w 0 e size, fun g h => by simp [Value.ownBlock] at h⟩
theorem Row.move (h : Row w S e size v n xs) (hz : w.heap.size ≤ w'.heap.size) (hs : ∀ k, k < w.heap.size → S k → S' k ∧ w'.heap[k]? = w.heap[k]?) : Row w' S' e size v n xs := by
  obtain ⟨⟨h1, h2⟩, h3⟩ := h
  rcases h2 with h2 | ⟨g, cap, cur, rfl, h4, h5, h6⟩
  · exact ⟨⟨h1, .inl h2⟩, fun g hg => by rw [h2.1] at hg; simp [Value.ownBlock] at hg⟩
  · have hlt : g < w.heap.size := (Array.getElem?_eq_some_iff.1 h5).1
    have := hs g hlt (h3 g rfl)
    exact ⟨⟨h1, .inr ⟨g, cap, cur, rfl, h4, this.2.trans h5, h6⟩⟩, fun k hk => by simp [Value.ownBlock] at hk; subst hk; exact this.1⟩
theorem Row.mono (h : Row w S e size v n xs) (hs : ∀ k, k < w.heap.size → S k → S' k) : Row w S' e size v n xs := h.move (Nat.le_refl _) fun k hk q => ⟨hs k hk q, rfl⟩
theorem Row.mod {T : Nat → Prop} (h : Row w S e size v n xs) (hm : Mod T w w') (hd : ∀ k, k < w.heap.size → S k → ¬ T k) : Row w' S e size v n xs :=
  h.move hm.size fun k hk q => ⟨q, hm.block k hk (hd k hk q)⟩
theorem Row.modNil (h : Row w S e size v n xs) (hm : Mod Nil w w') : Row w' S e size v n xs := h.mod hm fun _ _ _ q => q
theorem Row.drew (h : Row w S e size v n xs) : Row w.drew S e size v n xs := h
theorem Row.alloc (h : Row w S e size v n xs) (o : Obj) : Row (w.alloc o) S e size v n xs := h.modNil ((Mod.refl _ _).alloc o)
theorem Row.ne (h : Row w S e size v n xs) {b : Nat} {l : List Value} {T : Nat} (hb : Blk w b l T) (hT : e ≠ T) : ∀ g, v.ownBlock = some g → b ≠ g := by
  obtain ⟨⟨h1, h2⟩, h3⟩ := h
  rcases h2 with h2 | ⟨g, cap, cur, rfl, h4, h5, h6⟩
  · intro g hg; rw [h2.1] at hg; simp [Value.ownBlock] at hg
  · intro k hk
    simp [Value.ownBlock] at hk; subst hk
    exact hb.ne (show Blk w g cur.toList e from by unfold Blk; simpa using h5) (Ne.symm hT)
theorem Row.neMap (h : Row w S e size v n xs) {κ α : Type} {g : κ → Value} {f : α → Value} {b : Nat} {l : List (κ × α)} (hb : MapAt g f w b l) : ∀ g, v.ownBlock = some g → b ≠ g := by
  obtain ⟨⟨h1, h2⟩, h3⟩ := h
  rcases h2 with h2 | ⟨g, cap, cur, rfl, h4, h5, h6⟩
  · intro g hg; rw [h2.1] at hg; simp [Value.ownBlock] at hg
  · intro k hk
    simp [Value.ownBlock] at hk; subst hk
    exact hb.ne (show Blk w g cur.toList e from by unfold Blk; simpa using h5)
theorem Row.setne (h : Row w S e size v n xs) {p : Addr} (hne : ∀ g, v.ownBlock = some g → p.block ≠ g) (u : Value) : Row (w.setCell p u) S e size v n xs := by
  obtain ⟨⟨h1, h2⟩, h3⟩ := h
  refine ⟨⟨h1, ?_⟩, h3⟩
  rcases h2 with h2 | ⟨g, cap, cur, rfl, h4, h5, h6⟩
  · exact .inl h2
  · exact .inr ⟨g, cap, cur, rfl, h4, by rw [Below.heap_setCell _ _ _ _ (Ne.symm (hne g rfl))]; exact h5, h6⟩
theorem Row.self (h : Row w S e size v n xs) : Row w (fun k => v.ownBlock = some k) e size v n xs := ⟨h.1, fun _ hg => hg⟩
theorem Row.len (h : Row w S e size v n xs) : ∃ a cap, v = .slice a n cap ∧ n ≤ cap ∧ cap ≤ maxLen := by
  obtain ⟨⟨_, h2⟩, _⟩ := h
  rcases h2 with ⟨rfl, rfl⟩ | ⟨g, cap, cur, rfl, _, _, h5, h6, _⟩
  · exact ⟨none, 0, rfl, Nat.le_refl _, Nat.zero_le _⟩
  · exact ⟨_, cap, rfl, h5, h6⟩
theorem Row.length (h : Row w S e size v n xs) : xs.length = n * size := h.1.1
theorem Row.lt (h : Row w S e size v n xs) : ∀ g, v.ownBlock = some g → g < w.heap.size := fun g hg => (h.1.lt g hg).2
/-- The value, written out; the row. -/
theorem Row.shape (h : Row w S e size v n xs) : (v = .slice none 0 0 ∧ n = 0 ∧ xs = []) ∨
    ∃ g cap cur, v = .slice (some ⟨g, 0, none⟩) n cap ∧ S g ∧ Blk w g cur e ∧ n ≤ cap ∧ cap ≤ maxLen ∧ cur.length = cap * size ∧ cur.take (n * size) = xs := by
  obtain ⟨⟨h1, h2⟩, h3⟩ := h
  rcases h2 with h2 | ⟨g, cap, cur, rfl, _, h5, h6, h7, h8, h9⟩
  · refine .inl ⟨h2.1, h2.2, List.eq_nil_of_length_eq_zero ?_⟩
    rw [h1, h2.2, Nat.zero_mul]
  · exact .inr ⟨g, cap, cur.toList, rfl, h3 g rfl, by unfold Blk; simpa using h5, h6, h7, by simpa using h8, h9⟩
theorem Row.mk {g cap : Nat} {cur : List Value} (hS : S g) (hb : Blk w g cur e) (hn : n ≤ cap) (hc : cap ≤ maxLen) (hl : cur.length = cap * size) (hx : cur.take (n * size) = xs) : Row w S e size (.slice (some ⟨g, 0, none⟩) n cap) n xs := by
  refine ⟨⟨?_, .inr ⟨g, cap, cur.toArray, rfl, Nat.zero_le _, hb, hn, hc, by simpa using hl, by simpa using hx⟩⟩, fun k hk => by simp [Value.ownBlock] at hk; subst hk; exact hS⟩
  rw [← hx, List.length_take, hl, Nat.min_eq_left (Nat.mul_le_mul_right _ hn)]
theorem Row.cells (h : Row w S e size v n xs) : Cells w S v n size xs := by
  rcases h.shape with ⟨rfl, rfl, rfl⟩ | ⟨g, cap, cur, rfl, hS, hb, hn, hc, hl, rfl⟩
  · exact ⟨none, 0, rfl, Nat.le_refl _, Nat.zero_le _, by simp, .inl rfl⟩
  · refine ⟨_, cap, rfl, hn, hc, ?_, .inr ⟨g, 0, rfl, hS, hb.lt, fun j u hj => ?_⟩⟩
    · rw [List.length_take, hl, Nat.min_eq_left (Nat.mul_le_mul_right _ hn)]
    · rw [Nat.zero_add, hb.cell, ← hj, List.getElem?_take]
      split
      · rfl
      · rename_i hlt
        have := (List.getElem?_eq_some_iff.1 hj).1
        rw [List.length_take] at this
        omega
/-- A row that was just made: its cells. -/
theorem Row.fresh (w : World) (cur : List Value) (e : Nat) (hl : cur.length = n * size) (hn : n ≤ maxLen) : Row (w.alloc (.cells cur.toArray e)) (fun k => w.heap.size ≤ k) e size (.slice (some ⟨w.heap.size, 0, none⟩) n n) n cur :=
  Row.mk (Nat.le_refl _) (Blk.new w cur e) (Nat.le_refl _) hn hl (by rw [← hl]; exact List.take_length)
end

/-! ### append -/
section
variable {P : Program} {w : World} {S : Nat → Prop} {v : Value} {n size bytes e t : Nat} {xs : List Value}
  {ops : Array Oper} {rest : List Oper} {o : Oper} {a : Act} {Q : Exit → Act → World → Prop}

theorem runRowAppend (E : ElemT P t e size bytes) (hsz : 0 < size) (ty : Nat) (h : Row w S e size v n xs)
    {ad : Addr} {m c : Nat} {news : List Value} (hl : news.length = m * size) (hnews : ∀ j u, news[j]? = some u → w.cell? (ad.add j) = some u) (h1 : ∀ u ∈ news, u.oneCell' = true)
    (h63 : n + m ≤ maxLen) (hbytes : (n + m) * bytes ≤ 140737488355328) :
    ∃ v' w', (Builtin.append_ #[t, t] ty #[v, .slice (some ad) m c]).run P w = .ok v' w' ∧ Row w' (fun k => S k ∨ k = w.heap.size) e size v' (n + m) (xs ++ news) ∧ Mod S w w' := by
  obtain ⟨i, z, hi, hz, hs, hb, hc⟩ := E.info
  obtain ⟨v', w', hr, h2, h3, _, h5⟩ := run_append_own_at (P := P) w 0 t ty e i z size bytes E.under hi hz hs hb hc hsz v n xs h.1 ad m c news hl hnews h1 h63 hbytes (Nat.zero_le _)
  refine ⟨v', w', hr, ⟨h2, fun g hg => ?_⟩, (Mod.refl S w).grown h3 fun k hk _ => h.2 k hk⟩
  rcases h5 with h5 | h5
  · exact .inl (h.2 g (h5 ▸ hg))
  · rw [h5] at hg; injection hg with hg; exact .inr hg.symm

theorem wpRowAppend (hg : o.guard = none) (s x : Operand) (ho : o.op = .call { callee := .builtin .append, args := #[s, x], argTypes := #[t, t] })
    (E : ElemT P t e size bytes) (hsz : 0 < size) (h : Row w S e size v n xs) (hs : a.eval s = v)
    (ad : Addr) (m c : Nat) (news : List Value) (hx : a.eval x = .slice (some ad) m c) (hl : news.length = m * size) (hnews : ∀ j u, news[j]? = some u → w.cell? (ad.add j) = some u) (h1 : ∀ u ∈ news, u.oneCell' = true)
    (h63 : n + m ≤ maxLen) (hbytes : (n + m) * bytes ≤ 140737488355328)
    (hK : ∀ v' w', Row w' (fun k => S k ∨ k = w.heap.size) e size v' (n + m) (xs ++ news) → Mod S w w' → wpList P ops Q rest (a.put o.dst v') w') : wpList P ops Q (o :: rest) a w := by
  refine wpList_plain hg fun K' hK' => ?_
  obtain ⟨v', w', hr, h2, h3⟩ := runRowAppend E hsz o.type h hl (c := c) hnews h1 h63 hbytes
  unfold Oper.wp execOp
  simp only [ho, resolve, invoke, builtin, Sem.run_bind, Sem.run_pure, Result.andThen_ok, List.map_toArray, List.map_cons, List.map_nil, hs, hx, hr]
  exact hK' _ _ (hK v' w' h2 h3)

theorem addr_add (g j : Nat) : (⟨g, 0, none⟩ : Addr).add j = ⟨g, j, none⟩ := by unfold Addr.add; split <;> simp_all
theorem addr_add' (g o j : Nat) : (⟨g, o, none⟩ : Addr).add j = ⟨g, o + j, none⟩ := by unfold Addr.add; split <;> simp_all

/-- 'append(s, x)': x lies in a block of its own, just made. -/
theorem wpRowPush (hg : o.guard = none) (s x : Operand) (ho : o.op = .call { callee := .builtin .append, args := #[s, x], argTypes := #[t, t] })
    (E : ElemT P t e size bytes) (hsz : 0 < size) (h : Row w S e size v n xs) (hs : a.eval s = v)
    {B : Nat} (hx : a.eval x = .slice (some ⟨B, 0, none⟩) 1 1) (hB : B = w.heap.size) (news : List Value) (T : Nat) (hl : news.length = size) (h1 : ∀ u ∈ news, u.oneCell' = true)
    (h63 : n + 1 ≤ maxLen) (hbytes : (n + 1) * bytes ≤ 140737488355328)
    (hK : ∀ v' w', Row w' (fun k => S k ∨ w.heap.size ≤ k) e size v' (n + 1) (xs ++ news) → Mod S w w' → w.heap.size + 1 ≤ w'.heap.size → wpList P ops Q rest (a.put o.dst v') w') : wpList P ops Q (o :: rest) a (w.alloc (.cells news.toArray T)) := by
  subst hB
  have hb := Blk.new w news T
  refine wpRowAppend hg s x ho E hsz (h.alloc _) hs ⟨w.heap.size, 0, none⟩ 1 1 news hx (by omega) (fun j u hj => ?_) h1 h63 hbytes fun v' w' h2 h3 => hK v' w' (h2.mono fun k _ q => ?_) ?_ ?_
  · rw [addr_add, hb.cell]; exact hj
  · rcases q with q | q
    · exact .inl q
    · exact .inr (by simp at q; omega)
  · exact ((Mod.refl S w).alloc _).trans h3
  · have := h3.size; simpa using this

/-- 'append(s, x...)' of a slice that is read. -/
theorem wpRowCells (hg : o.guard = none) (s x : Operand) (ho : o.op = .call { callee := .builtin .append, args := #[s, x], argTypes := #[t, t] })
    (E : ElemT P t e size bytes) (hsz : 0 < size) (h : Row w S e size v n xs) (hs : a.eval s = v)
    {S' : Nat → Prop} {y : Value} {m : Nat} {news : List Value} (hy : Cells w S' y m size news) (hx : a.eval x = y) (h1 : ∀ u ∈ news, u.oneCell' = true)
    (h63 : n + m ≤ maxLen) (hbytes : (n + m) * bytes ≤ 140737488355328)
    (hK : ∀ v' w', Row w' (fun k => S k ∨ w.heap.size ≤ k) e size v' (n + m) (xs ++ news) → Mod S w w' → wpList P ops Q rest (a.put o.dst v') w') : wpList P ops Q (o :: rest) a w := by
  obtain ⟨ad, cap, rfl, hc1, hc2, hl, hc⟩ := hy.shape
  cases ad with
  | some ad =>
    refine wpRowAppend hg s x ho E hsz h hs ad m cap news hx hl (fun j u hj => ?_) h1 h63 hbytes fun v' w' h2 h3 => hK v' w' (h2.mono fun k _ q => ?_) h3
    · have : 0 < m := by
        rcases Nat.eq_zero_or_pos m with e | e
        · subst e; rw [Nat.zero_mul] at hl; rw [List.eq_nil_of_length_eq_zero hl] at hj; simp at hj
        · exact e
      obtain ⟨g, off, e, _, _, hcell⟩ := hc this
      cases e
      rw [addr_add']; exact hcell j u hj
    · rcases q with q | q
      · exact .inl q
      · exact .inr (by omega)
  | none =>
    have hm : m = 0 := by
      rcases Nat.eq_zero_or_pos m with e | e
      · exact e
      · obtain ⟨g, off, e, _⟩ := hc e; simp at e
    subst hm
    have hn0 : news = [] := List.eq_nil_of_length_eq_zero (by rw [hl, Nat.zero_mul])
    subst hn0
    refine wpList_plain hg fun K' hK' => ?_
    obtain ⟨i, z, hi, hz, hsi, hb, hcz⟩ := E.info
    have hv : ∃ a0 c0, v = .slice a0 n c0 ∧ n ≤ c0 := by
      obtain ⟨a0, c0, h1, h2, _⟩ := h.cells.shape; exact ⟨a0, c0, h1, h2⟩
    obtain ⟨a0, c0, rfl, hn⟩ := hv
    have hr : (Builtin.append_ #[t, t] o.type #[.slice a0 n c0, .slice none 0 cap]).run P w = .ok (.slice a0 n c0) w := by
      cases a0 <;> simp [Builtin.append_, run_underlying E.under, sizeOf, typeInfo, hi, Builtin.lenOf, Builtin.firstCells, hn, storeCells]
    unfold Oper.wp execOp
    simp only [ho, resolve, invoke, builtin, Sem.run_bind, Sem.run_pure, Result.andThen_ok, List.map_toArray, List.map_cons, List.map_nil, hs, hx, hr]
    exact hK' _ _ (hK _ w (by simpa using h.mono fun k _ q => .inl q) (Mod.refl _ _))
end
end Go.Proofs.Ythbffkdfahlpdaa
