/- Words for walks over what is owned apart: a row of things in memory, each with blocks of its own; what an operation does to some of them. Over any program; no condition. -/
import Derived.Test.YthbffkdfahlpdaaWork
import Derived.BigCall
set_option linter.unusedVariables false
namespace Go.Proofs.Ythbffkdfahlpdaa
open Go.RowKit Go.MapKept

/-- A thing in memory: what is said of the world and of the thing's blocks. -/
structure Res where
  p : World → (Nat → Prop) → Prop
  mov : ∀ {w w' : World} {S S' : Nat → Prop}, p w S → w.heap.size ≤ w'.heap.size → (∀ k, k < w.heap.size → S k → S' k ∧ w'.heap[k]? = w.heap[k]?) → p w' S'
def Res.of (R : World → (Nat → Prop) → Prop) [h : Mov R] : Res := ⟨R, h.mov⟩
def emp : Res := ⟨fun _ _ => True, fun _ _ _ => trivial⟩
def blkR (b : Nat) (l : List Value) (T : TypeId) : Res := .of fun w S => BlkAt w S b l T
def mapR {κ α : Type} (g : κ → Value) (f : α → Value) (b : Nat) (l : List (κ × α)) : Res := .of fun w S => MapOf g f w S b l
def rowR (e size : Nat) (v : Value) (n : Nat) (xs : List Value) : Res := .of fun w S => Row w S e size v n xs

/-- Thing i of a row has the blocks of colour i + 1. -/
def Holds (Γ : List Res) (own : Nat → Nat) (w : World) : Prop := ∀ (i : Nat) (R : Res), Γ[i]? = some R → R.p w (fun k => own k = i + 1)
/-- The row's things are there; of w0 nothing but blocks of B has turned. -/
def St (B : Nat → Prop) (w0 : World) (Γ : List Res) (w : World) : Prop :=
  ∃ own, Mod B w0 w ∧ (∀ k, k < w0.heap.size → own k ≠ 0 → B k) ∧ Holds Γ own w
/-- Things of l (colours of own) have become those of l', which Post allows; nothing else has turned. -/
def Became (Post : Value → List Res → Prop) (own : Nat → Nat) (w : World) (v : Value) (w' : World) : Prop :=
  ∃ l' own', Post v l' ∧ Holds l' own' w' ∧ Mod (fun k => own k ≠ 0) w w' ∧ ∀ k, k < w.heap.size → own' k ≠ 0 → own k ≠ 0
/-- A call's contract. -/
def Tri (P : Program) (f : Nat) (args : Array Value) (l : List Res) (Post : Value → List Res → Prop) : Prop :=
  ∀ w own, Holds l own w → (∀ k, k < w.heap.size → own k ≤ l.length) → Calls P f args w fun e w' => ∃ v, e = .returned v ∧ Became Post own w v w'
/-- An operation's. -/
def OpR (P : Program) (ρ : Operand → Value) (o : Oper) (l : List Res) (Post : Value → List Res → Prop) : Prop :=
  ∀ w own, Holds l own w → (∀ k, k < w.heap.size → own k ≤ l.length) →
    (∃ v w', ((execOp ρ o).run P w = .ok (.value v) w' ∨ ((execOp ρ o).run P w = .ok .skip w' ∧ v = undef)) ∧ Became Post own w v w') ∨
    (∃ f args, (execOp ρ o).run P w = .ok (.enter f args) w ∧ Calls P f args w fun e w' => ∃ v, e = .returned v ∧ Became Post own w v w')

/-! ### some of a row -/
def idxOf (r : Nat) : List Nat → Nat → Option Nat
  | [], _ => none
  | i :: is, j => if i = r then some j else idxOf r is (j + 1)
theorem idxOf_some {r : Nat} : ∀ {is : List Nat} {j m : Nat}, idxOf r is j = some m → j ≤ m ∧ is[m - j]? = some r
  | [], _, _, h => by simp [idxOf] at h
  | i :: is, j, m, h => by
    unfold idxOf at h
    split at h
    · rename_i e; cases h; simp [e]
    · obtain ⟨h1, h2⟩ := idxOf_some h
      refine ⟨by omega, ?_⟩
      rw [show m - j = (m - (j + 1)) + 1 by omega]
      simpa using h2
theorem idxOf_none {r : Nat} : ∀ {is : List Nat} {j : Nat}, idxOf r is j = none → r ∉ is
  | [], _, _ => by simp
  | i :: is, j, h => by
    unfold idxOf at h
    split at h
    · cases h
    · rename_i e
      have := idxOf_none h
      simp [this, Ne.symm e]
theorem idxOf_get {is : List Nat} (hn : is.Nodup) {m r : Nat} (h : is[m]? = some r) : idxOf r is 0 = some m := by
  cases e : idxOf r is 0 with
  | none => exact absurd (List.mem_of_getElem? h) (idxOf_none e)
  | some m' =>
    obtain ⟨_, h2⟩ := idxOf_some e
    rw [Nat.sub_zero] at h2
    obtain ⟨l1, e1⟩ := List.getElem?_eq_some_iff.1 h
    obtain ⟨l2, e2⟩ := List.getElem?_eq_some_iff.1 h2
    rw [(List.getElem_inj hn).1 (e1.trans e2.symm)]

/-- Those of Γ that are named by number. -/
def pickR (Γ : List Res) (is : List Nat) : List Res := is.map fun i => Γ.getD i emp
theorem pick_get (Γ : List Res) {is : List Nat} {j : Nat} {R : Res} (h : (pickR Γ is)[j]? = some R) : ∃ i, is[j]? = some i ∧ R = Γ.getD i emp := by
  unfold pickR at h
  rw [List.getElem?_map] at h
  cases e : is[j]? with
  | none => rw [e] at h; cases h
  | some i => rw [e] at h; cases h; exact ⟨i, rfl, rfl⟩
def setAll : List Res → List Nat → List Res → List Res
  | Γ, i :: is, R :: l => setAll (Γ.set i R) is l
  | Γ, _, _ => Γ
/-- Those of Γ are l' now; what else l' has comes behind. -/
def updR (Γ : List Res) (is : List Nat) (l' : List Res) : List Res := setAll Γ is l' ++ l'.drop is.length
theorem setAll_length : ∀ (Γ : List Res) (is : List Nat) (l : List Res), (setAll Γ is l).length = Γ.length
  | Γ, i :: is, R :: l => by rw [setAll, setAll_length, List.length_set]
  | Γ, [], _ => by simp [setAll]
  | Γ, i :: is, [] => by simp [setAll]
theorem setAll_other : ∀ (Γ : List Res) (is : List Nat) (l : List Res) (r : Nat), r ∉ is → (setAll Γ is l)[r]? = Γ[r]?
  | Γ, i :: is, R :: l, r, h => by
    simp only [List.mem_cons, not_or] at h
    rw [setAll, setAll_other _ is l r h.2, List.getElem?_set_ne (Ne.symm h.1)]
  | Γ, [], _, _, _ => by simp [setAll]
  | Γ, i :: is, [], _, _ => by simp [setAll]
theorem setAll_at : ∀ (Γ : List Res) (is : List Nat) (l : List Res) (m r : Nat), is.Nodup → is[m]? = some r → r < Γ.length → (setAll Γ is l)[r]? = (l[m]?).or Γ[r]?
  | Γ, i :: is, R :: l, 0, r, hn, h, hr => by
    simp at h
    subst h
    rw [setAll, setAll_other _ _ _ _ (List.nodup_cons.1 hn).1]
    simp [hr]
  | Γ, i :: is, R :: l, m + 1, r, hn, h, hr => by
    have h' : is[m]? = some r := by simpa using h
    have hne : i ≠ r := fun e => (List.nodup_cons.1 hn).1 (e ▸ List.mem_of_getElem? h')
    rw [setAll, setAll_at _ is l m r (List.nodup_cons.1 hn).2 h' (by simpa using hr), List.getElem?_set_ne hne]
    simp
  | Γ, [], _, _, _, _, h, _ => by simp at h
  | Γ, i :: is, [], _, _, _, _, _ => by simp [setAll]

/-- The colours of some, by their place among these. -/
def selR (is : List Nat) (own : Nat → Nat) : Nat → Nat := fun k => match own k with
  | 0 => 0
  | r + 1 => match idxOf r is 0 with
    | some m => m + 1
    | none => 0
theorem sel_le (is : List Nat) (own : Nat → Nat) (k : Nat) : selR is own k ≤ is.length := by
  unfold selR
  split
  · omega
  · split
    · rename_i m e
      obtain ⟨_, h⟩ := idxOf_some e
      have := (List.getElem?_eq_some_iff.1 h).1
      omega
    · omega
theorem sel_at {is : List Nat} (hn : is.Nodup) {m r : Nat} (h : is[m]? = some r) (own : Nat → Nat) (k : Nat) (hk : own k = r + 1) : selR is own k = m + 1 := by
  unfold selR
  rw [hk]
  simp [idxOf_get hn h]
theorem sel_ne {is : List Nat} {own : Nat → Nat} {k : Nat} (h : selR is own k ≠ 0) : ∃ r m, own k = r + 1 ∧ is[m]? = some r ∧ selR is own k = m + 1 := by
  unfold selR at h ⊢
  cases e : own k with
  | zero => rw [e] at h; simp at h
  | succ r =>
    rw [e] at h
    cases e2 : idxOf r is 0 with
    | none => simp [e2] at h
    | some m => exact ⟨r, m, rfl, by simpa using (idxOf_some e2).2, by simp [e2]⟩
theorem Holds.pick {Γ : List Res} {own : Nat → Nat} {w : World} (h : Holds Γ own w) {is : List Nat} (hn : is.Nodup) (hl : ∀ i ∈ is, i < Γ.length) : Holds (pickR Γ is) (selR is own) w := by
  intro j R hj
  obtain ⟨i, h1, rfl⟩ := pick_get Γ hj
  have hi := hl i (List.mem_of_getElem? h1)
  have := h i (Γ.getD i emp) (by simp [hi])
  exact Res.mov _ this (Nat.le_refl _) fun k hk q => ⟨sel_at hn h1 own k q, rfl⟩
/-- The colours behind. -/
def backR (is : List Nat) (own own1 own1' : Nat → Nat) (w : World) (n : Nat) : Nat → Nat := fun k =>
  if k < w.heap.size ∧ own1 k = 0 then own k else match own1' k with
    | 0 => 0
    | j + 1 => match is[j]? with
      | some r => r + 1
      | none => n + (j - is.length) + 1
theorem Holds.back {Γ : List Res} {own own1' : Nat → Nat} {w w' : World} (h : Holds Γ own w) {is : List Nat} (hn : is.Nodup) (hl : ∀ i ∈ is, i < Γ.length) {l' : List Res} (hle : is.length ≤ l'.length)
    (h1 : Holds l' own1' w') (hm : Mod (fun k => selR is own k ≠ 0) w w') (ho : ∀ k, k < w.heap.size → own1' k ≠ 0 → selR is own k ≠ 0) :
    Holds (updR Γ is l') (backR is own (selR is own) own1' w Γ.length) w' := by
  intro i R hi
  unfold updR at hi
  have hlen := setAll_length Γ is l'
  by_cases hc : i < Γ.length
  · rw [List.getElem?_append_left (by omega)] at hi
    by_cases hmem : i ∈ is
    · obtain ⟨m, hm1⟩ := List.mem_iff_getElem?.1 hmem
      rw [setAll_at _ _ _ _ _ hn hm1 hc] at hi
      have hml : m < l'.length := Nat.lt_of_lt_of_le (List.getElem?_eq_some_iff.1 hm1).1 hle
      have : l'[m]? = some R := by rw [List.getElem?_eq_getElem hml] at hi ⊢; simpa using hi
      refine Res.mov _ (h1 m R this) (Nat.le_refl _) fun k hk q => ⟨?_, rfl⟩
      unfold Proofs.Ythbffkdfahlpdaa.backR
      have : ¬ (k < w.heap.size ∧ selR is own k = 0) := fun ⟨a, b⟩ => ho k a (by omega) b
      simp only [if_neg this, q, hm1]
    · rw [setAll_other _ _ _ _ hmem] at hi
      refine Res.mov _ (h i R hi) hm.size fun k hk q => ?_
      have hs : selR is own k = 0 := by
        by_cases e : selR is own k = 0
        · exact e
        · obtain ⟨r, m, e1, e2, _⟩ := sel_ne e
          have : r = i := by omega
          subst this
          exact absurd (List.mem_of_getElem? e2) hmem
      refine ⟨?_, hm.block k hk (by simp [hs])⟩
      unfold Proofs.Ythbffkdfahlpdaa.backR
      rw [if_pos ⟨hk, hs⟩]; exact q
  · rw [List.getElem?_append_right (by omega), hlen, List.getElem?_drop] at hi
    refine Res.mov _ (h1 _ R hi) (Nat.le_refl _) fun k hk q => ⟨?_, rfl⟩
    unfold Proofs.Ythbffkdfahlpdaa.backR
    have : ¬ (k < w.heap.size ∧ selR is own k = 0) := fun ⟨a, b⟩ => ho k a (by omega) b
    have h2 : is[is.length + (i - Γ.length)]? = none := by simp
    simp only [if_neg this, q, h2]
    omega
theorem back_ne {is : List Nat} {own own1' : Nat → Nat} {w : World} {n k : Nat} (hk : k < w.heap.size) (ho : own1' k ≠ 0 → selR is own k ≠ 0) (h : backR is own (selR is own) own1' w n k ≠ 0) : own k ≠ 0 := by
  unfold Proofs.Ythbffkdfahlpdaa.backR at h
  split at h
  · exact h
  · rename_i hc
    have hs : selR is own k ≠ 0 := fun e => hc ⟨hk, e⟩
    obtain ⟨r, m, e1, _⟩ := sel_ne hs
    omega

/-- From some to all. -/
theorem St.became {B : Nat → Prop} {w0 w w' : World} {Γ : List Res} {own : Nat → Nat} {is : List Nat} {Post : Value → List Res → Prop} {v : Value}
    (hM : Mod B w0 w) (hO : ∀ k, k < w0.heap.size → own k ≠ 0 → B k) (hΓ : Holds Γ own w) (hn : is.Nodup) (hl : ∀ i ∈ is, i < Γ.length)
    (hp : ∀ v l', Post v l' → is.length ≤ l'.length) (hb : Became Post (selR is own) w v w') : ∃ l', Post v l' ∧ St B w0 (updR Γ is l') w' := by
  obtain ⟨l', own1', h1, h2, h3, h4⟩ := hb
  refine ⟨l', h1, _, hM.trans' h3 fun k hk q => ?_, fun k hk q => ?_, hΓ.back hn hl (hp v l' h1) h2 h3 h4⟩
  · obtain ⟨r, m, e, _⟩ := sel_ne q
    exact hO k hk (by omega)
  · exact hO k hk (back_ne (Nat.lt_of_lt_of_le hk hM.size) (h4 k (Nat.lt_of_lt_of_le hk hM.size)) q)
/-- Some of a row, in another order. -/
theorem St.keep {B : Nat → Prop} {w0 w : World} {Γ : List Res} (h : St B w0 Γ w) (is : List Nat) (hn : is.Nodup) (hl : ∀ i ∈ is, i < Γ.length) : St B w0 (pickR Γ is) w := by
  obtain ⟨own, hM, hO, hΓ⟩ := h
  refine ⟨selR is own, hM, fun k hk q => ?_, hΓ.pick hn hl⟩
  obtain ⟨r, m, e, _⟩ := sel_ne q
  exact hO k hk (by omega)
/-- What is said of one thing. -/
theorem St.fact {B : Nat → Prop} {w0 w : World} {Γ : List Res} (h : St B w0 Γ w) {i : Nat} {R : Res} (hi : Γ[i]? = some R) : ∃ S, R.p w S := by
  obtain ⟨own, hM, hO, hΓ⟩ := h
  exact ⟨_, hΓ i R hi⟩
theorem St.still {B : Nat → Prop} {w0 w w' : World} {Γ : List Res} (h : St B w0 Γ w) (hm : Mod Nil w w') : St B w0 Γ w' := by
  obtain ⟨own, hM, hO, hΓ⟩ := h
  exact ⟨own, hM.nil hm, hO, fun i R hi => Res.mov _ (hΓ i R hi) hm.size fun k hk q => ⟨q, hm.block k hk fun q => q⟩⟩
theorem St.start {own : Nat → Nat} {w : World} {Γ : List Res} (h : Holds Γ own w) : St (fun k => own k ≠ 0) w Γ w := ⟨own, Mod.refl _ _, fun k _ q => q, h⟩

/-! ### things made of parts -/
/-- For some x: these parts. -/
def compR {ι : Type} (f : ι → List Res) : Res := ⟨fun w S => ∃ x own, (∀ k, k < w.heap.size → own k ≠ 0 → S k) ∧ Holds (f x) own w, by
  rintro w w' S S' ⟨x, own, h1, h2⟩ hz hs
  refine ⟨x, fun k => if k < w.heap.size then own k else 0, fun k hk q => ?_, fun i R hi => Res.mov _ (h2 i R hi) hz fun k hk q => ⟨?_, ?_⟩⟩
  · by_cases e : k < w.heap.size
    · simp only [if_pos e] at q; exact (hs k e (h1 k e q)).1
    · simp [e] at q
  · simp only [if_pos hk]; exact q
  · exact (hs k hk (h1 k hk (by omega))).2⟩
/-- A thing that stands for another one. -/
theorem St.conv {B : Nat → Prop} {w0 w : World} {Γ : List Res} (h : St B w0 Γ w) (i : Nat) {R R' : Res} (hi : Γ[i]? = some R) (hR : ∀ w S, R.p w S → R'.p w S) : St B w0 (Γ.set i R') w := by
  obtain ⟨own, hM, hO, hΓ⟩ := h
  refine ⟨own, hM, hO, fun j Q hj => ?_⟩
  by_cases e : i = j
  · subst e
    have : i < Γ.length := (List.getElem?_eq_some_iff.1 hi).1
    rw [List.getElem?_set_self this] at hj
    cases hj
    exact hR _ _ (hΓ i R hi)
  · rw [List.getElem?_set_ne e] at hj
    exact hΓ j Q hj
/-- The parts, apart. -/
theorem St.open {B : Nat → Prop} {w0 w : World} {Γ : List Res} {ι : Type} {f : ι → List Res} (h : St B w0 Γ w) (i : Nat) (hi : Γ[i]? = some (compR f)) : ∃ x, St B w0 (Γ.set i emp ++ f x) w := by
  obtain ⟨own, hM, hO, hΓ⟩ := h
  obtain ⟨x, own1, h1, h2⟩ := hΓ i _ hi
  refine ⟨x, fun k => if k < w.heap.size then (if own1 k = 0 then (if own k = i + 1 then 0 else own k) else Γ.length + own1 k) else 0, hM, fun k hk q => ?_, fun j R hj => ?_⟩
  · have hkw := Nat.lt_of_lt_of_le hk hM.size
    simp only [if_pos hkw] at q
    by_cases e : own1 k = 0
    · simp only [if_pos e] at q
      split at q
      · exact absurd rfl q
      · exact hO k hk q
    · have := h1 k hkw e
      exact hO k hk (by omega)
  · by_cases hc : j < Γ.length
    · rw [List.getElem?_append_left (by simpa using hc)] at hj
      by_cases e : i = j
      · subst e
        rw [List.getElem?_set_self hc] at hj
        cases hj
        exact trivial
      · rw [List.getElem?_set_ne e] at hj
        refine Res.mov _ (hΓ j R hj) (Nat.le_refl _) fun k hk q => ⟨?_, rfl⟩
        have : own1 k = 0 := Classical.byContradiction fun q2 => by have := h1 k hk q2; omega
        simp only [if_pos hk, if_pos this, if_neg (show ¬ own k = i + 1 by omega)]
        exact q
    · rw [List.getElem?_append_right (by simp; omega)] at hj
      refine Res.mov _ (h2 _ R hj) (Nat.le_refl _) fun k hk q => ⟨?_, rfl⟩
      simp only [List.length_set] at q
      simp only [if_pos hk]
      rw [if_neg (by omega)]
      omega
/-- And backR together. -/
theorem comp_of {B : Nat → Prop} {ι : Type} {f : ι → List Res} {w : World} {own : Nat → Nat} {Γ : List Res} (x : ι) (h : Holds Γ own w) (is : List Nat) (hn : is.Nodup) (hl : ∀ i ∈ is, i < Γ.length) (hf : pickR Γ is = f x) (S : Nat → Prop) (hS : ∀ k, k < w.heap.size → selR is own k ≠ 0 → S k) : (compR f).p w S :=
  ⟨x, selR is own, hS, hf ▸ h.pick hn hl⟩
/-- Behind the parts, the whole; the parts are gone. -/
theorem St.close {B : Nat → Prop} {w0 w : World} {Γ : List Res} {ι : Type} {f : ι → List Res} (h : St B w0 Γ w) (x : ι) (is : List Nat) (hn : is.Nodup) (hl : ∀ i ∈ is, i < Γ.length) (hf : pickR Γ is = f x) : St B w0 (setAll Γ is (is.map fun _ => emp) ++ [compR f]) w := by
  obtain ⟨own, hM, hO, hΓ⟩ := h
  refine ⟨fun k => if selR is own k = 0 then (if own k ≤ Γ.length then own k else 0) else Γ.length + 1, hM, fun k hk q => ?_, fun j R hj => ?_⟩
  · by_cases e : selR is own k = 0
    · simp only [if_pos e] at q
      split at q
      · exact hO k hk q
      · exact absurd rfl q
    · obtain ⟨r, m, e1, _⟩ := sel_ne e
      exact hO k hk (by omega)
  · by_cases hc : j < Γ.length
    · rw [List.getElem?_append_left (by rw [setAll_length]; exact hc)] at hj
      by_cases hmem : j ∈ is
      · obtain ⟨m, hm1⟩ := List.mem_iff_getElem?.1 hmem
        rw [setAll_at _ _ _ _ _ hn hm1 hc, List.getElem?_map, hm1] at hj
        simp at hj
        subst hj
        exact trivial
      · rw [setAll_other _ _ _ _ hmem] at hj
        refine Res.mov _ (hΓ j R hj) (Nat.le_refl _) fun k hk q => ⟨?_, rfl⟩
        have hs : selR is own k = 0 := by
          by_cases e : selR is own k = 0
          · exact e
          · obtain ⟨r, m, e1, e2, _⟩ := sel_ne e
            have : r = j := by omega
            subst this
            exact absurd (List.mem_of_getElem? e2) hmem
        simp only [if_pos hs, if_pos (show own k ≤ Γ.length by omega)]
        exact q
    · rw [List.getElem?_append_right (by rw [setAll_length]; omega), setAll_length] at hj
      have hj0 : j - Γ.length = 0 := by
        have := (List.getElem?_eq_some_iff.1 hj).1; simp at this; omega
      rw [hj0] at hj
      cases hj
      refine ⟨x, selR is own, fun k hk q => ?_, hf ▸ hΓ.pick hn hl⟩
      simp only [if_neg q]; omega
end Go.Proofs.Ythbffkdfahlpdaa
