/- Words for a seat's proofs: a block known whole, what a call may have changed, maps as lists of pairs, rows of cells. Over any program; no condition. -/
import Derived.WalkKit
import Derived.WalkLawsBesides
import Derived.WalkSpells
import Derived.Maps.OwnSet
import Derived.Maps.AppendAt
set_option linter.unusedVariables false
namespace Go.Proofs.Ythbffkdfahlpdaa
open Go.RowKit Go.MapKept

/-- A fact put out of the walk's sight. -/
theorem hid {p : Prop} (h : p) : Hid p := h

/-! ### strings -/
instance : DecidableEq ByteArray := fun a b => decidable_of_iff _ (bytes_beq a b)
instance : ReflBEq ByteArray := ⟨(bytes_beq _ _).2 rfl⟩
instance : LawfulBEq ByteArray := ⟨fun h => (bytes_beq _ _).1 h⟩
theorem str_iff (a b : ByteArray) : (a.toList == b.toList) = decide (a = b) := by
  rw [ByteArray.toList_eq, ByteArray.toList_eq]
  obtain ⟨⟨x⟩⟩ := a
  obtain ⟨⟨y⟩⟩ := b
  by_cases h : x = y <;> simp [h]
theorem str_t {a b : ByteArray} (h : a = b) : (a.toList == b.toList) = true := by rw [str_iff]; exact decide_eq_true h
theorem str_f {a b : ByteArray} (h : a ≠ b) : (a.toList == b.toList) = false := by rw [str_iff]; exact decide_eq_false h
theorem str_of {a b : ByteArray} (h : (a.toList == b.toList) = true) : a = b := by rw [str_iff] at h; exact of_decide_eq_true h
theorem str_no {a b : ByteArray} (h : (a.toList == b.toList) = false) : a ≠ b := by rw [str_iff] at h; exact of_decide_eq_false h

/-! ### tests on numbers, as the walk spells them -/
theorem nef {a b : Int} (h : a = b) : (a != b) = false := by simp [h]
theorem net {a b : Int} (h : a ≠ b) : (a != b) = true := by simp [h]
theorem eqt {a b : Int} (h : a = b) : (a == b) = true := by simp [h]
theorem eqf {a b : Int} (h : a ≠ b) : (a == b) = false := by simp [h]
theorem ret_bool {a b : Bool} (h : a = b) : Ending.returned (.bool a) = .returned (.bool b) := by rw [h]
theorem ret_int {k : IntKind} {a b : Int} (h : a = b) : Ending.returned (.int k a) = .returned (.int k b) := by rw [h]

/-! ### a block known whole -/
def Blk (w : World) (b : Nat) (l : List Value) (T : TypeId) : Prop := w.heap[b]? = some (.cells l.toArray T (0, 0))

section
variable {w w' : World} {b : Nat} {l : List Value} {T : TypeId}

theorem Blk.lt (h : Blk w b l T) : b < w.heap.size := (Array.getElem?_eq_some_iff.1 h).1
theorem Blk.cell (h : Blk w b l T) (i : Nat) : w.cell? ⟨b, i, none⟩ = l[i]? := by
  unfold Blk at h
  simp [World.cell?, h]
theorem Blk.at (h : Blk w b l T) (i : Nat) (v : Value) (hv : l[i]? = some v) : w.cell? ⟨b, i, none⟩ = some v := by rw [h.cell, hv]
theorem Blk.free (h : Blk w b l T) (i : Nat) : w.frozen? ⟨b, i, none⟩ = false := by
  unfold Blk at h
  simp [World.frozen?, h]
theorem Blk.same (h : Blk w b l T) (e : w'.heap[b]? = w.heap[b]?) : Blk w' b l T := by unfold Blk at *; rw [e]; exact h
theorem Blk.alloc (h : Blk w b l T) (o : Obj) : Blk (w.alloc o) b l T := h.same (Below.heap_alloc w o b h.lt)
theorem Blk.drew (h : Blk w b l T) : Blk w.drew b l T := h
theorem Blk.setne (h : Blk w b l T) {a : Addr} (hne : b ≠ a.block) (v : Value) : Blk (w.setCell a v) b l T := h.same (Below.heap_setCell w a v b hne)
theorem Blk.set (h : Blk w b l T) (i : Nat) (v : Value) : Blk (w.setCell ⟨b, i, none⟩ v) b (l.set i v) T := by
  unfold Blk at *
  simp [World.setCell, Array.getElem?_modify, h]
theorem Blk.new (w : World) (l : List Value) (T : TypeId) : Blk (w.alloc (.cells l.toArray T)) w.heap.size l T := by
  unfold Blk
  show (w.heap.push _)[w.heap.size]? = _
  simp
end

theorem Blk.ne {w : World} {b b' : Nat} {l l' : List Value} {T T' : TypeId} (h : Blk w b l T) (h' : Blk w b' l' T') (hT : T ≠ T') : b ≠ b' := by
  rintro rfl
  unfold Blk at h h'
  rw [h] at h'
  simp at h'
  exact hT h'.2

/-! ### what a call may have changed -/
/-- w' is w but for the blocks of S and for new ones. -/
structure Mod (S : Nat → Prop) (w w' : World) : Prop where
  os : w'.os = w.os
  tape : w'.tape = w.tape
  output : w'.output = w.output
  size : w.heap.size ≤ w'.heap.size
  block : ∀ k, k < w.heap.size → ¬ S k → w'.heap[k]? = w.heap[k]?

/-- No block. -/
def Nil : Nat → Prop := fun _ => False

section
variable {S S' : Nat → Prop} {a w w' : World}

theorem Mod.refl (S : Nat → Prop) (w : World) : Mod S w w := ⟨rfl, rfl, rfl, Nat.le_refl _, fun _ _ _ => rfl⟩
theorem Mod.trans' (h : Mod S a w) (k : Mod S' w w') (hs : ∀ j, j < a.heap.size → S' j → S j) : Mod S a w' :=
  ⟨k.os.trans h.os, k.tape.trans h.tape, k.output.trans h.output, Nat.le_trans h.size k.size, fun i hi hn => (k.block i (Nat.lt_of_lt_of_le hi h.size) (fun q => hn (hs i hi q))).trans (h.block i hi hn)⟩
theorem Mod.trans (h : Mod S a w) (k : Mod S w w') : Mod S a w' := h.trans' k fun _ _ q => q
theorem Mod.nil (h : Mod S a w) (k : Mod Nil w w') : Mod S a w' := h.trans' k fun _ _ q => q.elim
theorem Mod.mono (h : Mod S w w') (hs : ∀ j, j < w.heap.size → S j → S' j) : Mod S' w w' := ⟨h.os, h.tape, h.output, h.size, fun i hi hn => h.block i hi (fun q => hn (hs i hi q))⟩
theorem Mod.drew (h : Mod S a w) : Mod S a w.drew := ⟨h.os, h.tape, h.output, h.size, h.block⟩
theorem Mod.drewN (h : Mod S a w) (n : Nat) : Mod S a (w.drewN n) := ⟨h.os, h.tape, h.output, h.size, h.block⟩
theorem Mod.alloc (h : Mod S a w) (o : Obj) : Mod S a (w.alloc o) :=
  ⟨h.os, h.tape, h.output, by have := h.size; simp; omega, fun k hk hn => (Below.heap_alloc _ _ _ (Nat.lt_of_lt_of_le hk h.size)).trans (h.block k hk hn)⟩
theorem Mod.setCell (h : Mod S a w) {p : Addr} (hp : p.block < a.heap.size → S p.block) (u : Value) : Mod S a (w.setCell p u) :=
  ⟨h.os, h.tape, h.output, by have := h.size; simpa using this, fun k hk hn => (Below.heap_setCell _ _ _ _ (fun e => hn (by subst e; exact hp hk))).trans (h.block k hk hn)⟩
theorem Mod.grown {row : Option Nat} (h : Mod S a w) (hg : w.grownBy w' row) (hr : ∀ k, row = some k → k < a.heap.size → S k) : Mod S a w' :=
  ⟨hg.os.trans h.os, hg.tape.trans h.tape, hg.output.trans h.output, Nat.le_trans h.size hg.size, fun k hk hn => (hg.block k (Nat.lt_of_lt_of_le hk h.size) (fun e => hn (hr k e.symm hk))).trans (h.block k hk hn)⟩
theorem Mod.below {B : Nat} (h : Mod S w w') (hB : B ≤ w.heap.size) (hs : ∀ k, k < B → ¬ S k) : Below B w w' :=
  ⟨h.os, h.tape, h.output, h.size, fun k hk => h.block k (by omega) (hs k hk)⟩
theorem Mod.blk (h : Mod S w w') {b : Nat} {l : List Value} {T : TypeId} (hb : Blk w b l T) (hn : ¬ S b) : Blk w' b l T := hb.same (h.block b hb.lt hn)
theorem Mod.cell (h : Mod S w w') {p : Addr} {v : Value} (hv : w.cell? p = some v) (hn : ¬ S p.block) : w'.cell? p = some v :=
  (World.cell?_of_block (h.block p.block (World.block_lt_of_cell? w p hv) hn)).trans hv
end

/-! ### whose a block is -/
/-- New blocks of w' are c's; the elder ones are whose they were. -/
def paint (own : Nat → Nat) (w : World) (c : Nat) : Nat → Nat := fun k => if k < w.heap.size then own k else c
theorem paint_old (own : Nat → Nat) (w : World) (c : Nat) {k : Nat} (h : k < w.heap.size) : paint own w c k = own k := if_pos h
theorem paint_new (own : Nat → Nat) (w : World) (c : Nat) {k : Nat} (h : w.heap.size ≤ k) : paint own w c k = c := if_neg (by omega)
/-- What was c's, or is new, is c's. -/
theorem took {own : Nat → Nat} {w : World} {c : Nat} {S' : Nat → Prop} (h : ∀ k, S' k → own k = c ∨ w.heap.size ≤ k) : ∀ k, S' k → paint own w c k = c := by
  intro k hk
  unfold paint
  split
  · rcases h k hk with e | e
    · exact e
    · omega
  · rfl
/-- What is another's is still so, and as it was. -/
theorem kept {own : Nat → Nat} {S : Nat → Prop} {w w' : World} {c c' : Nat} (hm : Mod S w w') (hS : ∀ k, k < w.heap.size → S k → own k = c) (hne : c' ≠ c) :
    ∀ k, k < w.heap.size → own k = c' → paint own w c k = c' ∧ w'.heap[k]? = w.heap[k]? := fun k hk e =>
  ⟨(paint_old own w c hk).trans e, hm.block k hk fun q => hne (by rw [← e, hS k hk q])⟩

/-! ### lists of pairs -/
section
variable {κ α β : Type} [DecidableEq κ]
def lk : List (κ × α) → κ → Option α
  | [], _ => none
  | (y, v) :: r, x => if y = x then some v else lk r x
def put : List (κ × α) → κ → α → List (κ × α)
  | [], x, v => [(x, v)]
  | (y, u) :: r, x, v => if y = x then (x, v) :: r else (y, u) :: put r x v
def del : List (κ × α) → κ → List (κ × α)
  | [], _ => []
  | (y, u) :: r, x => if y = x then r else (y, u) :: del r x

theorem lk_none {l : List (κ × α)} {x : κ} : lk l x = none ↔ x ∉ l.map (·.1) := by
  induction l with
  | nil => simp [lk]
  | cons p r ih =>
    obtain ⟨y, v⟩ := p
    by_cases h : y = x
    · simp [lk, h]
    · simp [lk, h, ih, Ne.symm h]
theorem lk_put_same (l : List (κ × α)) (x : κ) (v : α) : lk (put l x v) x = some v := by
  induction l with
  | nil => simp [put, lk]
  | cons p r ih =>
    obtain ⟨y, u⟩ := p
    by_cases h : y = x <;> simp [put, lk, h, ih]
theorem lk_put_other (l : List (κ × α)) {x z : κ} (v : α) (hne : z ≠ x) : lk (put l x v) z = lk l z := by
  induction l with
  | nil => simp [put, lk, Ne.symm hne]
  | cons p r ih =>
    obtain ⟨y, u⟩ := p
    by_cases h : y = x
    · subst h; simp [put, lk, Ne.symm hne]
    · simp [put, lk, h, ih]
theorem lk_put (l : List (κ × α)) (x z : κ) (v : α) : lk (put l x v) z = if z = x then some v else lk l z := by
  split
  · rename_i h; subst h; exact lk_put_same ..
  · rename_i h; exact lk_put_other l v h
theorem keys_put (l : List (κ × α)) (x : κ) (v : α) : (put l x v).map (·.1) = if x ∈ l.map (·.1) then l.map (·.1) else l.map (·.1) ++ [x] := by
  induction l with
  | nil => simp [put]
  | cons p r ih =>
    obtain ⟨y, u⟩ := p
    by_cases h : y = x
    · simp [put, h]
    · rw [put, if_neg h, List.map_cons, ih]
      by_cases h2 : x ∈ r.map (·.1)
      · rw [if_pos h2, if_pos (by simp only [List.map_cons, List.mem_cons]; exact .inr h2)]; rfl
      · rw [if_neg h2, if_neg (by simp only [List.map_cons, List.mem_cons, not_or]; exact ⟨Ne.symm h, h2⟩)]; rfl
theorem nodup_put {l : List (κ × α)} (h : (l.map (·.1)).Nodup) (x : κ) (v : α) : ((put l x v).map (·.1)).Nodup := by
  rw [keys_put]
  split
  · exact h
  · rename_i hx
    exact List.nodup_append.2 ⟨h, by simp, fun a ha b hb => by simp at hb; subst hb; exact fun e => hx (e ▸ ha)⟩
theorem length_put (l : List (κ × α)) (x : κ) (v : α) : (put l x v).length = if (lk l x).isSome then l.length else l.length + 1 := by
  induction l with
  | nil => simp [put, lk]
  | cons p r ih =>
    obtain ⟨y, u⟩ := p
    by_cases h : y = x
    · simp [put, lk, h]
    · simp only [put, lk, if_neg h, List.length_cons, ih]; split <;> rfl
theorem keys_del (l : List (κ × α)) (x : κ) : ((del l x).map (·.1)) = (l.map (·.1)).erase x := by
  induction l with
  | nil => simp [del]
  | cons p r ih =>
    obtain ⟨y, u⟩ := p
    by_cases h : y = x
    · simp [del, h]
    · simp [del, h, ih]
theorem nodup_del {l : List (κ × α)} (h : (l.map (·.1)).Nodup) (x : κ) : ((del l x).map (·.1)).Nodup := by
  rw [keys_del]; exact h.erase x
theorem lk_del {l : List (κ × α)} (h : (l.map (·.1)).Nodup) (x z : κ) : lk (del l x) z = if z = x then none else lk l z := by
  induction l with
  | nil => simp [del, lk]
  | cons p r ih =>
    obtain ⟨y, u⟩ := p
    simp only [List.map_cons, List.nodup_cons] at h
    by_cases hy : y = x
    · subst hy
      simp only [del, if_pos]
      split
      · rename_i e; subst e; exact lk_none.2 h.1
      · rename_i e; simp [lk, Ne.symm e]
    · simp only [del, if_neg hy, lk, ih h.2]
      by_cases e : z = x
      · subst e; simp [hy]
      · simp [e]
theorem length_del (l : List (κ × α)) (x : κ) : (del l x).length = if (lk l x).isSome then l.length - 1 else l.length := by
  induction l with
  | nil => simp [del, lk]
  | cons p r ih =>
    obtain ⟨y, u⟩ := p
    by_cases h : y = x
    · simp [del, lk, h]
    · simp only [del, lk, if_neg h, List.length_cons, ih]
      split
      · rename_i hs
        have : r ≠ [] := by intro e; subst e; simp [lk] at hs
        have := List.length_pos_iff.2 this
        omega
      · rfl
theorem put_new {l : List (κ × α)} {x : κ} (h : lk l x = none) (v : α) : put l x v = l ++ [(x, v)] := by
  induction l with
  | nil => rfl
  | cons p r ih =>
    obtain ⟨y, u⟩ := p
    by_cases hy : y = x
    · simp [lk, hy] at h
    · simp [lk, hy] at h; simp [put, hy, ih h]
theorem del_none {l : List (κ × α)} {x : κ} (h : lk l x = none) : del l x = l := by
  induction l with
  | nil => rfl
  | cons p r ih =>
    obtain ⟨y, u⟩ := p
    by_cases hy : y = x
    · simp [lk, hy] at h
    · simp [lk, hy] at h; simp [del, hy, ih h]
theorem lk_mem {l : List (κ × α)} {x : κ} {v : α} (h : lk l x = some v) : (x, v) ∈ l := by
  induction l with
  | nil => simp [lk] at h
  | cons p r ih =>
    obtain ⟨y, u⟩ := p
    by_cases hy : y = x
    · simp [lk, hy] at h; simp [hy, h]
    · simp [lk, hy] at h; exact List.mem_cons_of_mem _ (ih h)
theorem lk_of_mem {l : List (κ × α)} (hn : (l.map (·.1)).Nodup) {x : κ} {v : α} (h : (x, v) ∈ l) : lk l x = some v := by
  induction l with
  | nil => simp at h
  | cons p r ih =>
    obtain ⟨y, u⟩ := p
    simp only [List.map_cons, List.nodup_cons] at hn
    rcases List.mem_cons.1 h with e | h
    · cases e; simp [lk]
    · have : y ≠ x := fun e => hn.1 (e ▸ List.mem_map.2 ⟨(x, v), h, rfl⟩)
      simp [lk, this, ih hn.2 h]
end

/-! ### maps -/
section
variable {κ α : Type}

/-- Block b is a map: these pairs, in the order in which they came. -/
def MapAt (g : κ → Value) (f : α → Value) (w : World) (b : Nat) (l : List (κ × α)) : Prop :=
  ∃ es clock, w.heap[b]? = some (.map es clock) ∧ es.toList.map (fun e => (e.key, e.val)) = l.map (fun p => (g p.1, f p.2)) ∧ (l.map (·.1)).Nodup ∧ MapKept.Stamped es clock

/-- The keys' type. -/
structure KeyT (P : Program) (k : TypeId) (g : κ → Value) : Prop where
  desc : ∃ d, P.underlying k = some d ∧ ∀ x, IsKey d (g x)
  inj : ∀ {x y}, g x = g y → x = y

theorem strKey {P : Program} {k : TypeId} (h : P.underlying k = some .string) : KeyT P k Value.string := ⟨⟨_, h, fun x => by simp [IsKey]⟩, fun e => by injection e⟩
theorem intKey {P : Program} {k : TypeId} {q : IntKind} (h : P.underlying k = some (.int q)) : KeyT P k (Value.int q) := ⟨⟨_, h, fun x => by simp [IsKey]⟩, fun e => by injection e⟩

variable {g : κ → Value} {f : α → Value} {w : World} {b : Nat} {l : List (κ × α)} {P : Program} {k e t : TypeId}

theorem MapAt.lt (h : MapAt g f w b l) : b < w.heap.size := by
  obtain ⟨es, clock, hb, _⟩ := h
  exact (Array.getElem?_eq_some_iff.1 hb).1
theorem MapAt.nodup (h : MapAt g f w b l) : (l.map (·.1)).Nodup := by obtain ⟨_, _, _, _, h, _⟩ := h; exact h
theorem MapAt.same {w' : World} (h : MapAt g f w b l) (e : w'.heap[b]? = w.heap[b]?) : MapAt g f w' b l := by
  obtain ⟨es, clock, hb, r⟩ := h
  exact ⟨es, clock, by rw [e]; exact hb, r⟩
theorem MapAt.alloc (h : MapAt g f w b l) (o : Obj) : MapAt g f (w.alloc o) b l := h.same (Below.heap_alloc w o b h.lt)
theorem MapAt.drew (h : MapAt g f w b l) : MapAt g f w.drew b l := h
theorem MapAt.setne (h : MapAt g f w b l) {a : Addr} (hne : b ≠ a.block) (v : Value) : MapAt g f (w.setCell a v) b l := h.same (Below.heap_setCell w a v b hne)
theorem MapAt.ne (h : MapAt g f w b l) {b' : Nat} {c : List Value} {T : TypeId} (h' : Blk w b' c T) : b ≠ b' := by
  rintro rfl
  obtain ⟨es, clock, hb, _⟩ := h
  unfold Blk at h'
  rw [hb] at h'
  simp at h'
theorem MapAt.new (g : κ → Value) (f : α → Value) (w : World) : MapAt g f (w.alloc (.map #[] 0)) w.heap.size [] :=
  ⟨#[], 0, (MapKept.heap_alloc w _).1, by simp, by simp, MapKept.stamped_empty 0⟩

variable [DecidableEq κ]

/-- Entries and pairs, one by one. -/
theorem entries_find (K : ∀ {x y}, g x = g y → x = y) : ∀ (es : List MapEntry) (l : List (κ × α)), es.map (fun e => (e.key, e.val)) = l.map (fun p => (g p.1, f p.2)) → (l.map (·.1)).Nodup → ∀ (x : κ),
    ((∀ e ∈ es, e.key ≠ g x) → lk l x = none) ∧ (∀ j e0, es[j]? = some e0 → e0.key = g x → ∃ v, lk l x = some v ∧ e0.val = f v ∧
      (∀ u, (es.modify j (fun e => { e with key := g x, val := f u })).map (fun e => (e.key, e.val)) = (put l x u).map (fun p => (g p.1, f p.2))) ∧
      (es.eraseIdx j).map (fun e => (e.key, e.val)) = (del l x).map (fun p => (g p.1, f p.2)))
  | [], l, h, _, x => by
    have : l = [] := by simpa using h.symm
    subst this
    simp [lk]
  | e :: es, l, h, hn, x => by
    cases l with
    | nil => simp at h
    | cons p r =>
      obtain ⟨y, v⟩ := p
      simp only [List.map_cons, List.cons.injEq, Prod.mk.injEq] at h
      obtain ⟨⟨h1, h2⟩, h3⟩ := h
      simp only [List.map_cons, List.nodup_cons] at hn
      have ih := entries_find K es r h3 hn.2 x
      refine ⟨fun hno => ?_, fun j e0 hj hk => ?_⟩
      · have hy : y ≠ x := fun q => hno e (by simp) (by rw [h1, q])
        simp only [lk, if_neg hy]
        exact ih.1 fun e' he' => hno e' (by simp [he'])
      · cases j with
        | zero =>
          simp only [List.getElem?_cons_zero, Option.some.injEq] at hj
          subst hj
          have hy : y = x := K (by rw [← h1, hk])
          subst hy
          exact ⟨v, by simp [lk], h2, fun u => by simp [put, h3], by simp [del, h3]⟩
        | succ j =>
          simp only [List.getElem?_cons_succ] at hj
          have hmem : (e0.key, e0.val) ∈ r.map (fun p => (g p.1, f p.2)) := h3 ▸ List.mem_map.2 ⟨e0, List.mem_of_getElem? hj, rfl⟩
          obtain ⟨q, hq, hqe⟩ := List.mem_map.1 hmem
          have hqx : q.1 = x := K (by simp only [Prod.mk.injEq] at hqe; rw [hqe.1, hk])
          have hy : y ≠ x := fun c => hn.1 (by rw [c, ← hqx]; exact List.mem_map.2 ⟨q, hq, rfl⟩)
          obtain ⟨u, i1, i2, i3, i4⟩ := ih.2 j e0 hj hk
          exact ⟨u, by simp [lk, hy, i1], i2, fun u' => by simp [put, hy, h1, h2, i3 u'], by simp [del, hy, h1, h2, i4]⟩

theorem MapAt.find (h : MapAt g f w b l) (K : KeyT P k g) (x : κ) : ∃ es clock d, w.heap[b]? = some (.map es clock) ∧ P.underlying k = some d ∧ IsKey d (g x) ∧
    ((lk l x = none ∧ (Instr.findKey k (g x) es.toList).run P w = .ok none w) ∨
     ∃ j v e0, lk l x = some v ∧ (Instr.findKey k (g x) es.toList).run P w = .ok (some (j, f v)) w ∧ es[j]? = some e0 ∧ e0.key = g x) := by
  obtain ⟨es, clock, hb, hes, hn, _⟩ := h
  obtain ⟨d, hd, hk⟩ := K.desc
  refine ⟨es, clock, d, hb, hd, hk x, ?_⟩
  have hks : ∀ y ∈ es.toList, IsKey d y.key := fun y hy => by
    have : (y.key, y.val) ∈ l.map (fun p => (g p.1, f p.2)) := hes ▸ List.mem_map.2 ⟨y, hy, rfl⟩
    obtain ⟨p, _, hp⟩ := List.mem_map.1 this
    simp only [Prod.mk.injEq] at hp
    rw [← hp.1]; exact hk _
  have hf := entries_find (f := f) K.inj es.toList l hes hn x
  rcases findNow_spec (hk x) es.toList 0 hks with ⟨h1, h2⟩ | ⟨j, e0, h1, h2, h3⟩
  · exact .inl ⟨hf.1 h2, run_findKey hd h1⟩
  · obtain ⟨v, h4, h5, _⟩ := hf.2 j e0 h2 h3
    exact .inr ⟨j, v, e0, h4, by rw [← h5]; simpa using run_findKey hd h1, by simpa using h2, h3⟩

/-- 'm[k]', 'v, ok := m[k]'. -/
theorem MapAt.lookup (h : MapAt g f w b l) (K : KeyT P k g) (ht : P.underlying t = some (.map k e)) {z : Value} (hz : (zeroValue e).run P w = .ok z w) (x : κ) (c : Bool) :
    (Instr.lookup t (.map (some b)) (g x) c).run P w = .ok (if c then .tuple #[((lk l x).map f).getD z, .bool (lk l x).isSome] else ((lk l x).map f).getD z) w := by
  obtain ⟨es, clock, d, hb, hd, hk, hf⟩ := h.find (P := P) K x
  rcases hf with ⟨h1, h2⟩ | ⟨j, v, e0, h1, h2, _, _⟩ <;>
    simp [Instr.lookup, run_underlying ht, MapKept.run_getObj_map hb, run_checkKey hd hk, h2, h1, hz, Result.andThen]
theorem MapAt.ask (h : MapAt g f w b l) (K : KeyT P k g) (ht : P.underlying t = some (.map k e)) {z : Value} (hz : (zeroValue e).run P w = .ok z w) (x : κ) :
    (Instr.lookup t (.map (some b)) (g x) true).run P w = .ok (.tuple #[((lk l x).map f).getD z, .bool (lk l x).isSome]) w := h.lookup K ht hz x true
theorem MapAt.get (h : MapAt g f w b l) (K : KeyT P k g) (ht : P.underlying t = some (.map k e)) {z : Value} (hz : (zeroValue e).run P w = .ok z w) (x : κ) :
    (Instr.lookup t (.map (some b)) (g x) false).run P w = .ok (((lk l x).map f).getD z) w := h.lookup K ht hz x false

theorem setBlk_grown {w : World} {b : Nat} (o : Obj) : w.grownBy { w with heap := w.heap.setIfInBounds b o } (some b) :=
  ⟨rfl, rfl, rfl, by simp, fun k _ hk => by
    have : b ≠ k := fun e => hk (by rw [e])
    simp [this]⟩

theorem keys_ne {κ α : Type} [DecidableEq κ] {g : κ → Value} {f : α → Value} (K : ∀ {x y}, g x = g y → x = y) {es : List MapEntry} {l : List (κ × α)} {x : κ} (h : es.map (fun e => (e.key, e.val)) = l.map (fun p => (g p.1, f p.2))) (hx : lk l x = none) : ∀ e ∈ es, e.key ≠ g x := by
  intro e he hk
  have hm : (e.key, e.val) ∈ l.map (fun p => (g p.1, f p.2)) := h ▸ List.mem_map.2 ⟨e, he, rfl⟩
  obtain ⟨p, hp, e1⟩ := List.mem_map.1 hm
  simp only [Prod.mk.injEq] at e1
  have hpx : p.1 = x := K (by rw [e1.1, hk])
  exact lk_none.1 hx (hpx ▸ List.mem_map.2 ⟨p, hp, rfl⟩)
/-- 'm[k] = v'. -/
theorem MapAt.store (h : MapAt g f w b l) (K : KeyT P k g) (ht : P.underlying t = some (.map k e)) (x : κ) (v : α) :
    ∃ w', (Instr.mapUpdate t (.map (some b)) (g x) (f v)).run P w = .ok () w' ∧ MapAt g f w' b (put l x v) ∧ w.grownBy w' (some b) := by
  obtain ⟨es, clock, d, hb, hd, hk, hf⟩ := h.find (P := P) K x
  have hn := h.nodup
  have hlt : b < w.heap.size := (Array.getElem?_eq_some_iff.1 hb).1
  obtain ⟨es', clock', hb', hes, _, hst⟩ := h
  have e := hb.symm.trans hb'
  simp only [Option.some.injEq, Obj.map.injEq] at e
  obtain ⟨rfl, rfl⟩ := e
  rcases hf with ⟨h1, h2⟩ | ⟨j, u, e0, h1, h2, h3, h4⟩
  · refine ⟨_, by simp [Instr.mapUpdate, run_underlying ht, MapKept.run_getObj_map hb, run_checkKey hd hk, h2, Result.andThen]; exact MapKept.run_setObj_map _ hb, ⟨_, _, (heap_set hb).1, ?_, nodup_put hn x v, MapKept.stamped_push hst (keys_ne K.inj hes h1)⟩, setBlk_grown _⟩
    have := put_new h1 v
    simp [this, hes]
  · have hjl : j < es.size := (Array.getElem?_eq_some_iff.1 h3).1
    have hkt := run_keyThatStays (P := P) (w := w) (d := d) hk
    refine ⟨_, by simp [Instr.mapUpdate, run_underlying ht, MapKept.run_getObj_map hb, run_checkKey hd hk, h2, Result.andThen, h3, h4, hkt]; exact MapKept.run_setObj_map _ hb, ⟨_, _, (heap_set hb).1, ?_, nodup_put hn x v, MapKept.stamped_modify hst j (fun e => { e with key := g x, val := f v }) (fun _ _ => rfl) (fun e _ he => by rw [h3] at he; cases he; exact h4.symm)⟩, setBlk_grown _⟩
    obtain ⟨_, _, _, h5, _⟩ := (entries_find (f := f) K.inj es.toList l hes hn x).2 j e0 (by simpa using h3) h4
    rw [← h5 v]
    simp [Array.toList_modify]

/-- 'delete(m, k)'. -/
theorem MapAt.drop (h : MapAt g f w b l) (K : KeyT P k g) (ht : P.underlying t = some (.map k e)) (x : κ) (kt ty : TypeId) :
    ∃ w', (Builtin.delete_ #[t, kt] ty #[.map (some b), g x]).run P w = .ok (.tuple #[]) w' ∧ MapAt g f w' b (del l x) ∧ w.grownBy w' (some b) := by
  obtain ⟨es, clock, d, hb, hd, hk, hf⟩ := h.find (P := P) K x
  have hn := h.nodup
  obtain ⟨es', clock', hb', hes, _, hst⟩ := h
  have e := hb.symm.trans hb'
  simp only [Option.some.injEq, Obj.map.injEq] at e
  obtain ⟨rfl, rfl⟩ := e
  rcases hf with ⟨h1, h2⟩ | ⟨j, u, e0, h1, h2, h3, h4⟩
  · refine ⟨{ w with heap := w.heap.setIfInBounds b (.map es clock) }, ?_, ⟨_, _, (heap_set hb).1, ?_, nodup_del hn x, hst⟩, setBlk_grown _⟩
    · simp [Builtin.delete_, run_underlying ht, MapKept.run_getObj_map hb, run_checkKey hd hk, h2, Result.andThen, MapKept.run_setObj_map _ hb]
    · have := del_none h1
      rw [this]; exact hes
  · have hjl : j < es.size := (Array.getElem?_eq_some_iff.1 h3).1
    refine ⟨{ w with heap := w.heap.setIfInBounds b (.map (es.eraseIdxIfInBounds j) clock) }, ?_, ⟨_, _, (heap_set hb).1, ?_, nodup_del hn x, MapKept.stamped_erase hst j⟩, setBlk_grown _⟩
    · simp [Builtin.delete_, run_underlying ht, MapKept.run_getObj_map hb, run_checkKey hd hk, h2, Result.andThen, MapKept.run_setObj_map _ hb]
    · obtain ⟨_, _, _, _, h5⟩ := (entries_find (f := f) K.inj es.toList l hes hn x).2 j e0 (by simpa using h3) h4
      rw [← h5]
      simp [Array.eraseIdxIfInBounds, hjl, Array.toList_eraseIdx]

omit [DecidableEq κ] in
theorem MapAt.length (h : MapAt g f w b l) : ∃ es clock, w.heap[b]? = some (.map es clock) ∧ es.size = l.length := by
  obtain ⟨es, clock, hb, hes, _⟩ := h
  exact ⟨es, clock, hb, by simpa using congrArg List.length hes⟩

omit [DecidableEq κ] in
/-- 'len(m)'. -/
theorem MapAt.len (h : MapAt g f w b l) (ht : P.underlying t = some (.map k e)) (ty : TypeId) :
    (Builtin.len_ #[t] ty #[.map (some b)]).run P w = .ok (goInt l.length) w := by
  obtain ⟨es, clock, hb, hs⟩ := h.length
  simp [Builtin.len_, run_underlying ht, MapKept.run_getObj_map hb, Result.andThen, hs]

omit [DecidableEq κ] in
/-- 'clear(m)'. -/
theorem MapAt.cleared (h : MapAt g f w b l) (ht : P.underlying t = some (.map k e)) (ty : TypeId) :
    ∃ w', (Builtin.clear_ #[t] ty #[.map (some b)]).run P w = .ok (.tuple #[]) w' ∧ MapAt g f w' b [] ∧ w.grownBy w' (some b) := by
  obtain ⟨es, clock, hb, _⟩ := h
  refine ⟨{ w with heap := w.heap.setIfInBounds b (.map #[] clock) }, ?_, ⟨_, _, (heap_set hb).1, by simp, by simp, MapKept.stamped_empty _⟩, setBlk_grown _⟩
  simp [Builtin.clear_, run_underlying ht, MapKept.run_getObj_map hb, Result.andThen, MapKept.run_setObj_map _ hb]
end

/-! ### the laws at the operations -/
section
variable {κ α : Type} [DecidableEq κ] {g : κ → Value} {f : α → Value} {w : World} {b : Nat} {l : List (κ × α)} {P : Program} {k e t : TypeId}
  {ops : Array Oper} {rest : List Oper} {o : Oper} {a : Act} {Q : Exit → Act → World → Prop}

theorem wpMapStore (hg : o.guard = none) (m x v : Operand) (hop : o.op = Op.mapUpdate t m x v) (K : KeyT P k g) (ht : P.underlying t = some (.map k e)) (h : MapAt g f w b l)
    (hm : a.eval m = .map (some b)) (y : κ) (u : α) (hx : a.eval x = g y) (hv : a.eval v = f u)
    (hK : ∀ w', MapAt g f w' b (put l y u) → w.grownBy w' (some b) → wpList P ops Q rest (a.put o.dst undef) w') : wpList P ops Q (o :: rest) a w := by
  refine wpList_plain hg fun K' hK' => ?_
  obtain ⟨w', hrun, r1, r2⟩ := h.store K ht y u
  unfold Oper.wp
  simp [execOp, hop, hm, hx, hv, hrun, Result.andThen]
  exact hK' _ _ (hK w' r1 r2)

theorem wpMapDel (hg : o.guard = none) (m x : Operand) (kt : TypeId) (ho : o.op = .call { callee := .builtin .delete, args := #[m, x], argTypes := #[t, kt] }) (K : KeyT P k g) (ht : P.underlying t = some (.map k e)) (h : MapAt g f w b l)
    (hm : a.eval m = .map (some b)) (y : κ) (hx : a.eval x = g y)
    (hK : ∀ w', MapAt g f w' b (del l y) → w.grownBy w' (some b) → wpList P ops Q rest (a.put o.dst (.tuple #[])) w') : wpList P ops Q (o :: rest) a w := by
  refine wpList_plain hg fun K' hK' => ?_
  obtain ⟨w', hrun, r1, r2⟩ := h.drop K ht y kt o.type
  unfold Oper.wp
  simp [execOp, ho, resolve, invoke, builtin, hm, hx, hrun, Result.andThen]
  exact hK' _ _ (hK w' r1 r2)

omit [DecidableEq κ] in
theorem wpMapClear (hg : o.guard = none) (m : Operand) (ho : o.op = .call { callee := .builtin .clear, args := #[m], argTypes := #[t] }) (ht : P.underlying t = some (.map k e)) (h : MapAt g f w b l)
    (hm : a.eval m = .map (some b))
    (hK : ∀ w', MapAt g f w' b [] → w.grownBy w' (some b) → wpList P ops Q rest (a.put o.dst (.tuple #[])) w') : wpList P ops Q (o :: rest) a w := by
  refine wpList_plain hg fun K' hK' => ?_
  obtain ⟨w', hrun, r1, r2⟩ := h.cleared ht o.type
  unfold Oper.wp
  simp [execOp, ho, resolve, invoke, builtin, hm, hrun, Result.andThen]
  exact hK' _ _ (hK w' r1 r2)
end

end Go.Proofs.Ythbffkdfahlpdaa
