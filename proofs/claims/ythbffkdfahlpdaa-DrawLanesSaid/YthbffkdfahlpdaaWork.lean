/- Words for the walks of calls on what a caller holds: whose each block is; what a call turns, makes, reads. Over any program; no condition. -/
import Derived.Test.YthbffkdfahlpdaaLibD
set_option linter.unusedVariables false
namespace Go.Proofs.Ythbffkdfahlpdaa
open Go.RowKit Go.MapKept

/-- R is said of the blocks of S alone. -/
class Mov (R : World → (Nat → Prop) → Prop) : Prop where
  mov : ∀ {w w' : World} {S S' : Nat → Prop}, R w S → w.heap.size ≤ w'.heap.size → (∀ k, k < w.heap.size → S k → S' k ∧ w'.heap[k]? = w.heap[k]?) → R w' S'
theorem Mov.mono {R : World → (Nat → Prop) → Prop} [Mov R] {w : World} {S S' : Nat → Prop} (h : R w S) (hs : ∀ k, S k → S' k) : R w S' := Mov.mov h (Nat.le_refl _) fun k _ q => ⟨hs k q, rfl⟩
theorem Mov.drewN {R : World → (Nat → Prop) → Prop} [Mov R] {w : World} {S : Nat → Prop} (h : R w S) (n : Nat) : R (w.drewN n) S := Mov.mov h (Nat.le_refl _) fun k _ q => ⟨q, rfl⟩
instance {e size : Nat} {v : Value} {n : Nat} {xs : List Value} : Mov (fun w S => Row w S e size v n xs) := ⟨fun h hz hs => h.move hz hs⟩
instance {size : Nat} {v : Value} {n : Nat} {xs : List Value} : Mov (fun w S => Cells w S v n size xs) := ⟨fun h hz hs => h.move hz hs⟩
instance {v : Value} {xs : List ByteArray} : Mov (fun w S => Strs w S v xs) := ⟨fun h hz hs => Cells.move h hz hs⟩

/-- A block of S, known whole. -/
def BlkAt (w : World) (S : Nat → Prop) (b : Nat) (l : List Value) (T : TypeId) : Prop := Blk w b l T ∧ S b
theorem BlkAt.move {w w' : World} {S S' : Nat → Prop} {b : Nat} {l : List Value} {T : TypeId} (h : BlkAt w S b l T) (hz : w.heap.size ≤ w'.heap.size) (hs : ∀ k, k < w.heap.size → S k → S' k ∧ w'.heap[k]? = w.heap[k]?) : BlkAt w' S' b l T :=
  ⟨h.1.same (hs b h.1.lt h.2).2, (hs b h.1.lt h.2).1⟩
instance {b : Nat} {l : List Value} {T : TypeId} : Mov (fun w S => BlkAt w S b l T) := ⟨fun h hz hs => h.move hz hs⟩
/-- A map of S. -/
def MapOf {κ α : Type} (g : κ → Value) (f : α → Value) (w : World) (S : Nat → Prop) (b : Nat) (l : List (κ × α)) : Prop := MapAt g f w b l ∧ S b
theorem MapOf.move {κ α : Type} {g : κ → Value} {f : α → Value} {w w' : World} {S S' : Nat → Prop} {b : Nat} {l : List (κ × α)} (h : MapOf g f w S b l) (hz : w.heap.size ≤ w'.heap.size) (hs : ∀ k, k < w.heap.size → S k → S' k ∧ w'.heap[k]? = w.heap[k]?) : MapOf g f w' S' b l :=
  ⟨h.1.same (hs b h.1.lt h.2).2, (hs b h.1.lt h.2).1⟩
instance {κ α : Type} {g : κ → Value} {f : α → Value} {b : Nat} {l : List (κ × α)} : Mov (fun w S => MapOf g f w S b l) := ⟨fun h hz hs => h.move hz hs⟩

theorem BlkAt.nec {w : World} {own : Nat → Nat} {c c' : Nat} {b b' : Nat} {l l' : List Value} {T T' : TypeId} (h : BlkAt w (fun k => own k = c) b l T) (h' : BlkAt w (fun k => own k = c') b' l' T') (hc : c ≠ c') : b ≠ b' := by
  rintro rfl; exact hc (h.2.symm.trans h'.2)

section
variable {w : World} {S : Nat → Prop} {b : Nat} {T : TypeId} {x0 x1 x2 x3 x4 x5 : Value} {l : List Value}
theorem BlkAt.c0 (h : BlkAt w S b (x0 :: l) T) : w.cell? ⟨b, 0, none⟩ = some x0 := h.1.at 0 _ rfl
theorem BlkAt.c1 (h : BlkAt w S b (x0 :: x1 :: l) T) : w.cell? ⟨b, 1, none⟩ = some x1 := h.1.at 1 _ rfl
theorem BlkAt.c2 (h : BlkAt w S b (x0 :: x1 :: x2 :: l) T) : w.cell? ⟨b, 2, none⟩ = some x2 := h.1.at 2 _ rfl
theorem BlkAt.c3 (h : BlkAt w S b (x0 :: x1 :: x2 :: x3 :: l) T) : w.cell? ⟨b, 3, none⟩ = some x3 := h.1.at 3 _ rfl
theorem BlkAt.c4 (h : BlkAt w S b (x0 :: x1 :: x2 :: x3 :: x4 :: l) T) : w.cell? ⟨b, 4, none⟩ = some x4 := h.1.at 4 _ rfl
theorem BlkAt.c5 (h : BlkAt w S b (x0 :: x1 :: x2 :: x3 :: x4 :: x5 :: l) T) : w.cell? ⟨b, 5, none⟩ = some x5 := h.1.at 5 _ rfl
theorem BlkAt.lt (h : BlkAt w S b l T) : b < w.heap.size := h.1.lt
theorem BlkAt.fr (h : BlkAt w S b l T) (i : Nat) : w.frozen? ⟨b, i, none⟩ = false := h.1.free i
end

/-! ### what calls do -/
/-- The call returned r; what of S is R now. -/
def After (S : Nat → Prop) (w : World) (r : Value) (R : World → (Nat → Prop) → Prop) : Ending → World → Prop := fun e w' =>
  e = .returned r ∧ Mod S w w' ∧ ∃ S' : Nat → Prop, (∀ k, S' k → S k ∨ w.heap.size ≤ k) ∧ R w' S'
/-- The call made something. -/
def Makes (w : World) (N : Value → World → (Nat → Prop) → Prop) : Ending → World → Prop := fun e w' =>
  ∃ v, e = .returned v ∧ Mod Nil w w' ∧ N v w' (fun k => w.heap.size ≤ k)
/-- Both. -/
def AfterMake (S : Nat → Prop) (w : World) (R : World → (Nat → Prop) → Prop) (N : Value → World → (Nat → Prop) → Prop) : Ending → World → Prop := fun e w' =>
  ∃ v, e = .returned v ∧ Mod S w w' ∧ ∃ S' T' : Nat → Prop, (∀ k, S' k → S k ∨ w.heap.size ≤ k) ∧ (∀ k, T' k → w.heap.size ≤ k) ∧ (∀ k, S' k → ¬ T' k) ∧ R w' S' ∧ N v w' T'
/-- The call read alone. -/
def Reads (w : World) (r : Value) : Ending → World → Prop := fun e w' => e = .returned r ∧ ∃ n, w' = w.drewN n
theorem Reads.of_eq {w : World} {r : Value} {e : Ending} {w' : World} (h : e = .returned r ∧ w = w') : Reads w r e w' := ⟨h.1, 0, by rw [← h.2]; rfl⟩
theorem reads_of {P : Program} {f : Nat} {args : Array Value} {w : World} {r : Value} (h : Calls P f args w fun e w' => e = .returned r ∧ w = w') : Calls P f args w (Reads w r) := h.mono fun _ _ q => Reads.of_eq q
theorem reads_as {P : Program} {f : Nat} {args : Array Value} {w : World} {r r' : Value} (h : Calls P f args w (Reads w r)) (e : r = r') : Calls P f args w (Reads w r') := e ▸ h
theorem after_as {P : Program} {f : Nat} {args : Array Value} {w : World} {S : Nat → Prop} {r r' : Value} {R R' : World → (Nat → Prop) → Prop} (h : Calls P f args w (After S w r R)) (e : r = r') (hR : ∀ w S, R w S → R' w S) : Calls P f args w (After S w r' R') :=
  h.mono fun _ _ ⟨h1, h2, S', h3, h4⟩ => ⟨h1.trans (by rw [e]), h2, S', h3, hR _ _ h4⟩

/-! ### whose each block is -/
/-- own0's blocks of w0 are what may have turned; they have their colour still. -/
structure Home (own0 : Nat → Nat) (w0 w : World) (own : Nat → Nat) : Prop where
  bel : Mod (fun k => own0 k ≠ 0) w0 w
  old : ∀ k, k < w0.heap.size → own k = own0 k
/-- Nobody's. -/
def none0 : Nat → Nat := fun _ => 0
section
variable {own0 own : Nat → Nat} {w0 w w' : World} {c c1 : Nat}
theorem Home.start (own0 : Nat → Nat) (w : World) : Home own0 w w own0 := ⟨Mod.refl _ _, fun _ _ => rfl⟩
theorem Home.size (h : Home own0 w0 w own) : w0.heap.size ≤ w.heap.size := h.bel.size
theorem Home.nil (h : Home none0 w0 w own) : Mod Nil w0 w := h.bel.mono fun _ _ q => q rfl
theorem Home.below (h : Home none0 w0 w own) : Below w0.heap.size w0 w := h.nil.below (Nat.le_refl _) fun _ _ q => q
theorem Home.turn (h : Home own0 w0 w own) (hc : c ≠ 0) (hm : Mod (fun k => own k = c) w w') : Home own0 w0 w' (paint own w c) :=
  ⟨h.bel.trans' hm fun k hk q => by rw [← h.old k hk, q]; exact hc, fun k hk => by rw [paint_old own w c (Nat.lt_of_lt_of_le hk h.size)]; exact h.old k hk⟩
theorem Home.made (h : Home own0 w0 w own) (c : Nat) (hm : Mod Nil w w') : Home own0 w0 w' (paint own w c) :=
  ⟨h.bel.trans' hm fun _ _ q => q.elim, fun k hk => by rw [paint_old own w c (Nat.lt_of_lt_of_le hk h.size)]; exact h.old k hk⟩
theorem Home.still (h : Home own0 w0 w own) (hm : Mod Nil w w') : Home own0 w0 w' own := ⟨h.bel.trans' hm fun _ _ q => q.elim, h.old⟩
theorem Home.drewN (h : Home own0 w0 w own) (n : Nat) : Home own0 w0 (w.drewN n) own := h.still ((Mod.refl _ _).drewN n)
theorem Home.drew (h : Home own0 w0 w own) : Home own0 w0 w.drew own := h.still ((Mod.refl _ _).drew)
theorem Home.cell (h : Home none0 w0 w own) {p : Addr} {v : Value} (hv : w0.cell? p = some v) : w.cell? p = some v := h.nil.cell hv fun q => q
theorem Home.cells {S : Nat → Prop} (h : Home none0 w0 w own) {v : Value} {n size : Nat} {xs : List Value} (hv : Cells w0 S v n size xs) : Cells w S v n size xs := hv.modNil h.nil
/-- What is left of own0's: S has it. -/
theorem Home.mod {S : Nat → Prop} (h : Home own0 w0 w own) (hs : ∀ k, own0 k ≠ 0 → S k) : Mod S w0 w := h.bel.mono fun k _ q => hs k q
theorem Home.left {S : Nat → Prop} (h : Home own0 w0 w own) (hs : ∀ k, own0 k ≠ 0 → S k) : ∀ k, own k ≠ 0 → S k ∨ w0.heap.size ≤ k := fun k q => by
  rcases Nat.lt_or_ge k w0.heap.size with hk | hk
  · exact .inl (hs k (by rw [← h.old k hk]; exact q))
  · exact .inr hk
/-- A colour that nobody had is new. -/
theorem Home.new (h : Home own0 w0 w own) {c : Nat} (hc : ∀ k, own0 k ≠ c) : ∀ k, own k = c → w0.heap.size ≤ k := fun k q => by
  rcases Nat.lt_or_ge k w0.heap.size with hk | hk
  · exact absurd ((h.old k hk).symm.trans q) (hc k)
  · exact hk

section
variable {P : Program} {f : Nat} {args : Array Value} {r : Value} {R : World → (Nat → Prop) → Prop} {N : Value → World → (Nat → Prop) → Prop}
theorem step_turn [Mov R] {w1 : World} (hB : Home own0 w0 w own) (hc : c ≠ 0) (h : Calls P f args w1 (After (fun k => own k = c) w r R)) :
    Calls P f args w1 fun e w' => ∃ own', e = .returned r ∧ Home own0 w0 w' own' ∧ R w' (fun k => own' k = c) ∧ ∀ c', c' ≠ c → Keeps w w' own own' c' :=
  h.mono fun _ _ ⟨he, hm, S', hs, hl⟩ => ⟨paint own w c, he, hB.turn hc hm, Mov.mono hl fun k q => took hs k q, fun c' hne => keeps_turn hm hne⟩
theorem step_make [∀ v, Mov (N v)] {w1 : World} (hB : Home own0 w0 w own) (c : Nat) (h : Calls P f args w1 (Makes w N)) :
    Calls P f args w1 fun e w' => ∃ v own', e = .returned v ∧ Home own0 w0 w' own' ∧ N v w' (fun k => own' k = c) ∧ ∀ c', Keeps w w' own own' c' :=
  h.mono fun _ _ ⟨v, he, hm, hl⟩ => ⟨v, paint own w c, he, hB.made c hm, Mov.mono hl fun k q => paint_new own w c q, fun c' => keeps_made hm c c'⟩
theorem step_read {w1 : World} (hB : Home own0 w0 w own) (h : Calls P f args w1 (Reads w r)) :
    Calls P f args w1 fun e w' => e = .returned r ∧ Home own0 w0 w' own ∧ ∀ c', Keeps w w' own own c' :=
  h.mono fun _ _ ⟨he, n, hw⟩ => by subst hw; exact ⟨he, hB.drewN n, fun c' => Keeps.drewN w own n c'⟩
theorem step_quiet {w1 : World} (hB : Home own0 w0 w own) (h : Calls P f args w1 (After Nil w r R)) :
    Calls P f args w1 fun e w' => e = .returned r ∧ Home own0 w0 w' own ∧ ∀ c', Keeps w w' own own c' :=
  h.mono fun _ _ ⟨he, hm, _⟩ => ⟨he, hB.still hm, fun c' => keeps_still hm c'⟩
open Classical in
theorem step_turnmake [Mov R] [∀ v, Mov (N v)] {w1 : World} (hB : Home own0 w0 w own) (hc : c ≠ 0) (c1 : Nat) (h : Calls P f args w1 (AfterMake (fun k => own k = c) w R N)) :
    Calls P f args w1 fun e w' => ∃ v own', e = .returned v ∧ Home own0 w0 w' own' ∧ R w' (fun k => own' k = c) ∧ N v w' (fun k => own' k = c1) ∧ ∀ c', c' ≠ c → Keeps w w' own own' c' :=
  h.mono fun _ w' ⟨v, he, hm, S', T', hs, ht, hd, hR, hN⟩ => by
    obtain ⟨own', ho⟩ : ∃ own' : Nat → Nat, own' = fun k => if k < w.heap.size then own k else if T' k then c1 else c := ⟨_, rfl⟩
    have h1 : ∀ k, k < w.heap.size → own' k = own k := fun k hk => by rw [ho]; exact if_pos hk
    have h2 : ∀ k, w.heap.size ≤ k → T' k → own' k = c1 := fun k hk q => by rw [ho]; simp only [if_neg (show ¬ k < w.heap.size by omega), if_pos q]
    have h3 : ∀ k, w.heap.size ≤ k → ¬ T' k → own' k = c := fun k hk q => by rw [ho]; simp only [if_neg (show ¬ k < w.heap.size by omega), if_neg q]
    refine ⟨v, own', he, ⟨hB.bel.trans' hm fun k hk q => by rw [← hB.old k hk, q]; exact hc, fun k hk => (h1 k (Nat.lt_of_lt_of_le hk hB.size)).trans (hB.old k hk)⟩, Mov.mono hR fun k q => ?_, Mov.mono hN fun k q => h2 k (ht k q) q, fun c' hne => ⟨hm.size, fun k hk e => ⟨(h1 k hk).trans e, hm.block k hk fun q => hne (by rw [← e, q])⟩⟩⟩
    rcases Nat.lt_or_ge k w.heap.size with hk | hk
    · exact (h1 k hk).trans ((hs k q).resolve_right (by omega))
    · exact h3 k hk (hd k q)
end

theorem home_drewN (hB : Home own0 w0 w own) (n : Nat) : Home own0 w0 (w.drewN n) own ∧ ∀ c', Keeps w (w.drewN n) own own c' := ⟨hB.drewN n, fun c' => Keeps.drewN w own n c'⟩
theorem home_drew (hB : Home own0 w0 w own) : Home own0 w0 w.drew own ∧ ∀ c', Keeps w w.drew own own c' := ⟨hB.drew, fun c' => keeps_still (Mod.refl _ _).drew c'⟩
theorem home_still (hB : Home own0 w0 w own) (hm : Mod Nil w w') : Home own0 w0 w' own ∧ ∀ c', Keeps w w' own own c' := ⟨hB.still hm, fun c' => keeps_still hm c'⟩
/-- A store into a block of c's. -/
theorem home_store {b : Nat} {l : List Value} {T : TypeId} (hB : Home own0 w0 w own) (hc : c ≠ 0) (h : BlkAt w (fun k => own k = c) b l T) (i : Nat) (v : Value) :
    Home own0 w0 (w.setCell ⟨b, i, none⟩ v) own ∧ BlkAt (w.setCell ⟨b, i, none⟩ v) (fun k => own k = c) b (l.set i v) T ∧ ∀ c', c' ≠ c → Keeps w (w.setCell ⟨b, i, none⟩ v) own own c' := by
  have hm : Mod (fun k => own k = c) w (w.setCell ⟨b, i, none⟩ v) := (Mod.refl _ w).setCell (fun _ => h.2) v
  refine ⟨⟨hB.bel.trans' hm fun k hk q => by rw [← hB.old k hk, q]; exact hc, hB.old⟩, ⟨h.1.set i v, h.2⟩, fun c' hne => ⟨hm.size, fun k hk e => ⟨e, hm.block k hk fun q => hne (by rw [← e, q])⟩⟩⟩
/-- A block is made. -/
theorem home_alloc (hB : Home own0 w0 w own) (l : List Value) (T : TypeId) (c : Nat) :
    ∃ own', Home own0 w0 (w.alloc (.cells l.toArray T)) own' ∧ BlkAt (w.alloc (.cells l.toArray T)) (fun k => own' k = c) w.heap.size l T ∧ ∀ c', Keeps w (w.alloc (.cells l.toArray T)) own own' c' :=
  ⟨paint own w c, hB.made c ((Mod.refl _ _).alloc _), ⟨Blk.new w l T, paint_new own w c (Nat.le_refl _)⟩, fun c' => keeps_made ((Mod.refl _ _).alloc _) c c'⟩
theorem home_map {κ α : Type} (g : κ → Value) (f : α → Value) (hB : Home own0 w0 w own) (c : Nat) :
    ∃ own', Home own0 w0 (w.alloc (.map #[] 0)) own' ∧ MapOf g f (w.alloc (.map #[] 0)) (fun k => own' k = c) w.heap.size [] ∧ ∀ c', Keeps w (w.alloc (.map #[] 0)) own own' c' :=
  ⟨paint own w c, hB.made c ((Mod.refl _ _).alloc _), ⟨MapAt.new g f w, paint_new own w c (Nat.le_refl _)⟩, fun c' => keeps_made ((Mod.refl _ _).alloc _) c c'⟩
/-- A map of c's has turned. -/
theorem home_turnmap {κ α : Type} {g : κ → Value} {f : α → Value} {b : Nat} {l l' : List (κ × α)} (hB : Home own0 w0 w own) (hc : c ≠ 0) (h : MapOf g f w (fun k => own k = c) b l) (hm : MapAt g f w' b l') (hg : w.grownBy w' (some b)) :
    ∃ own', Home own0 w0 w' own' ∧ MapOf g f w' (fun k => own' k = c) b l' ∧ ∀ c', c' ≠ c → Keeps w w' own own' c' := by
  have hmod : Mod (fun k => own k = c) w w' := (Mod.refl _ _).grown hg fun k hk _ => by injection hk with hk; subst hk; exact h.2
  exact ⟨paint own w c, hB.turn hc hmod, ⟨hm, (paint_old own w c h.1.lt).trans h.2⟩, fun c' hne => keeps_turn hmod hne⟩
/-- A row of c's has turned. -/
theorem home_turnrow {e size : Nat} {v' : Value} {n' : Nat} {xs' : List Value} (hB : Home own0 w0 w own) (hc : c ≠ 0) (hm : Mod (fun k => own k = c) w w') (h : Row w' (fun k => own k = c ∨ w.heap.size ≤ k) e size v' n' xs') :
    ∃ own', Home own0 w0 w' own' ∧ Row w' (fun k => own' k = c) e size v' n' xs' ∧ ∀ c', c' ≠ c → Keeps w w' own own' c' :=
  ⟨paint own w c, hB.turn hc hm, h.mono fun k _ q => took (S' := fun k => own k = c ∨ w.heap.size ≤ k) (fun _ q => q) k q, fun c' hne => keeps_turn hm hne⟩
theorem BlkAt.keep {own' : Nat → Nat} {b : Nat} {l : List Value} {T : TypeId} (h : BlkAt w (fun k => own k = c) b l T) (K : Keeps w w' own own' c) : BlkAt w' (fun k => own' k = c) b l T := h.move K.size K.block
theorem MapOf.keep {κ α : Type} {g : κ → Value} {f : α → Value} {own' : Nat → Nat} {b : Nat} {l : List (κ × α)} (h : MapOf g f w (fun k => own k = c) b l) (K : Keeps w w' own own' c) : MapOf g f w' (fun k => own' k = c) b l := h.move K.size K.block
end

/-- The call made something that is pointed to. -/
def MakesP (w : World) (N : Nat → World → (Nat → Prop) → Prop) : Ending → World → Prop := fun e w' =>
  ∃ b, e = .returned (.pointer (some ⟨b, 0, none⟩)) ∧ Mod Nil w w' ∧ N b w' (fun k => w.heap.size ≤ k)
theorem step_makep {own0 own : Nat → Nat} {w0 w : World} {P : Program} {f : Nat} {args : Array Value} {N : Nat → World → (Nat → Prop) → Prop} [∀ b, Mov (N b)] {w1 : World} (hB : Home own0 w0 w own) (c : Nat) (h : Calls P f args w1 (MakesP w N)) :
    Calls P f args w1 fun e w' => ∃ b own', e = .returned (.pointer (some ⟨b, 0, none⟩)) ∧ Home own0 w0 w' own' ∧ N b w' (fun k => own' k = c) ∧ ∀ c', Keeps w w' own own' c' :=
  h.mono fun _ _ ⟨v, he, hm, hl⟩ => ⟨v, paint own w c, he, hB.made c hm, Mov.mono hl fun k q => paint_new own w c q, fun c' => keeps_made hm c c'⟩

theorem MakesP.from {w w1 : World} {N : Nat → World → (Nat → Prop) → Prop} [∀ b, Mov (N b)] (hm : Mod Nil w w1) {e : Ending} {w' : World} (h : MakesP w1 N e w') : MakesP w N e w' := by
  obtain ⟨b, he, h1, h2⟩ := h
  exact ⟨b, he, hm.trans h1, Mov.mono h2 fun k q => Nat.le_trans hm.size q⟩
theorem Makes.from {w w1 : World} {N : Value → World → (Nat → Prop) → Prop} [∀ b, Mov (N b)] (hm : Mod Nil w w1) {e : Ending} {w' : World} (h : Makes w1 N e w') : Makes w N e w' := by
  obtain ⟨b, he, h1, h2⟩ := h
  exact ⟨b, he, hm.trans h1, Mov.mono h2 fun k q => Nat.le_trans hm.size q⟩

/-! ### what lies in parts -/
/-- own colours blocks of S alone, by 1 to n. -/
def Owned (S : Nat → Prop) (own : Nat → Nat) (n : Nat) : Prop := ∀ k, own k ≠ 0 → S k ∧ own k ≤ n
/-- The colours of old blocks. -/
def cutOwn (own : Nat → Nat) (w : World) : Nat → Nat := fun k => if k < w.heap.size then own k else 0
theorem Owned.move {w w' : World} {S S' : Nat → Prop} {own : Nat → Nat} {n : Nat} (h : Owned S own n) (hs : ∀ k, k < w.heap.size → S k → S' k ∧ w'.heap[k]? = w.heap[k]?) (hz : w.heap.size ≤ w'.heap.size) :
    Owned S' (cutOwn own w) n ∧ ∀ c, c ≠ 0 → Keeps w w' own (cutOwn own w) c := by
  refine ⟨fun k q => ?_, fun c hc => ⟨hz, fun k hk e => ⟨by unfold cutOwn; rw [if_pos hk]; exact e, ?_⟩⟩⟩
  · unfold cutOwn at q ⊢
    split at q
    · rename_i hk; rw [if_pos hk]; exact ⟨(hs k hk (h k q).1).1, (h k q).2⟩
    · exact absurd rfl q
  · exact (hs k hk (h k (by rw [e]; exact hc)).1).2
/-- The colours 1 to n alone. -/
def lim (own : Nat → Nat) (n : Nat) : Nat → Nat := fun k => if own k ≤ n then own k else 0
theorem lim_owned (own : Nat → Nat) (n : Nat) : Owned (fun k => lim own n k ≠ 0) (lim own n) n := fun k q => ⟨q, by unfold lim at q ⊢; split <;> omega⟩
theorem Keeps.lim (w : World) (own : Nat → Nat) {n c : Nat} (hc : c ≤ n) : Keeps w w own (lim own n) c := ⟨Nat.le_refl _, fun k _ e => ⟨by unfold Proofs.Ythbffkdfahlpdaa.lim; rw [if_pos (by omega)]; exact e, rfl⟩⟩
theorem Home.leftLim {S : Nat → Prop} {own0 own : Nat → Nat} {w0 w : World} (h : Home own0 w0 w own) (hs : ∀ k, own0 k ≠ 0 → S k) (n : Nat) : ∀ k, Proofs.Ythbffkdfahlpdaa.lim own n k ≠ 0 → S k ∨ w0.heap.size ≤ k := fun k q =>
  h.left hs k (by unfold Proofs.Ythbffkdfahlpdaa.lim at q; split at q <;> omega)
theorem lim_apart (own : Nat → Nat) {n c : Nat} (hc : n < c) : ∀ k, lim own n k ≠ 0 → ¬ own k = c := fun k q e => by unfold lim at q; split at q <;> omega
/-- What was made since w0 is new. -/
theorem Home.newLim {own : Nat → Nat} {w0 w : World} (h : Home none0 w0 w own) : ∀ k, own k ≠ 0 → w0.heap.size ≤ k := fun k q => by
  rcases Nat.lt_or_ge k w0.heap.size with hk | hk
  · exact absurd (h.old k hk) q
  · exact hk
theorem Owned.lack {S : Nat → Prop} {own : Nat → Nat} {n : Nat} (h : Owned S own n) {c : Nat} (hc : n < c) : ∀ k, own k ≠ c := fun k q => by
  have := (h k (by omega)).2; omega
theorem Owned.has {S : Nat → Prop} {own : Nat → Nat} {n : Nat} (h : Owned S own n) : ∀ k, own k ≠ 0 → S k := fun k q => (h k q).1

/-! ### slices of strings, cut -/
section
variable {w : World} {S : Nat → Prop} {a : Option Addr} {n cap k : Nat} {xs : List ByteArray}
theorem Strs.get (h : Strs w S (.slice a n cap) xs) (hk : k < xs.length) : ∃ g off, a = some ⟨g, off, none⟩ ∧ S g ∧ w.cell? ⟨g, off + k, none⟩ = some (.string xs[k]) := by
  obtain ⟨a', cap', e, h2, h3, h4, h5⟩ := h
  injection e with e1 _ e3
  subst e1 e3
  rcases h5 with h5 | ⟨g, off, h5, h6, h7, h8⟩
  · omega
  · exact ⟨g, off, h5, h6, h8 k _ (by rw [List.getElem?_map, List.getElem?_eq_getElem hk]; rfl)⟩
theorem Strs.getAt {g off : Nat} {x : ByteArray} (h : Strs w S (.slice (some ⟨g, off, none⟩) n cap) xs) (hx : xs[k]? = some x) : w.cell? ⟨g, off + k, none⟩ = some (.string x) := by
  have hk := (List.getElem?_eq_some_iff.1 hx).1
  obtain ⟨g', off', e, _, h2⟩ := h.get hk
  cases e
  rw [h2, (List.getElem?_eq_some_iff.1 hx).2]
theorem Strs.cutTo (h : Strs w S (.slice a n cap) xs) (hk : k ≤ n) : Strs w S (.slice a k cap) (xs.take k) := by
  have hl : n = xs.length := by obtain ⟨a', cap', e, _⟩ := h; injection e
  subst hl
  have := Cells.cutTo h hk
  unfold Strs
  rw [List.length_take, Nat.min_eq_left hk, List.map_take]
  simpa using this
theorem Strs.cutFrom (h : Strs w S (.slice a n cap) xs) (hk : k ≤ n) : Strs w S (.slice (if cap = k then a else a.map fun x => x.add k) (n - k) (cap - k)) (xs.drop k) := by
  have hl : n = xs.length := by obtain ⟨a', cap', e, _⟩ := h; injection e
  subst hl
  obtain ⟨a', cap', e, h2, h3, h4, h5⟩ := h
  injection e with e1 _ e3
  subst e1 e3
  refine ⟨_, _, by rw [List.length_drop], by rw [List.length_drop]; omega, by omega, by simp, ?_⟩
  rw [List.length_drop]
  rcases h5 with h5 | ⟨g, off, h5, h6, h7, h8⟩
  · exact .inl (by omega)
  · by_cases q : cap = k
    · exact .inl (by omega)
    · refine .inr ⟨g, off + k, by rw [if_neg q, h5, Option.map_some, addr_add'], h6, h7, fun j u hj => ?_⟩
      rw [List.getElem?_map, List.getElem?_drop, ← List.getElem?_map] at hj
      have := h8 (k + j) u hj
      rwa [← Nat.add_assoc] at this
end
end Go.Proofs.Ythbffkdfahlpdaa
