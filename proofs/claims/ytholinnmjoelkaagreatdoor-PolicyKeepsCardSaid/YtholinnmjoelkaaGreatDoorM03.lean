/- Sep, SepA -/
import Derived.Test.YtholinnmjoelkaaGreatDoorM02
import Derived.BigCall
import Derived.Scope
import Derived.Deep.LoopGhost
set_option linter.unusedVariables false
set_option linter.unusedSimpArgs false
namespace Go.Proofs.YtholinnmjoelkaaGreatDoor
open Go.RowKit Go.MapKept
structure Res where
  p : World → (Nat → Prop) → Prop
  mov : ∀ {w w' : World} {S S' : Nat → Prop}, p w S → w.heap.size ≤ w'.heap.size → (∀ k, k < w.heap.size → S k → S' k ∧ w'.heap[k]? = w.heap[k]?) → p w' S'
def Res.of (R : World → (Nat → Prop) → Prop) [h : Mov R] : Res := ⟨R, h.mov⟩
def emp : Res := ⟨fun _ _ => True, fun _ _ _ => trivial⟩
def blkR (b : Nat) (l : List Value) (T : TypeId) : Res := .of fun w S => BlkAt w S b l T
def mapR {κ α : Type} (g : κ → Value) (f : α → Value) (b : Nat) (l : List (κ × α)) : Res := .of fun w S => MapOf g f w S b l
def rowR (e size : Nat) (v : Value) (n : Nat) (xs : List Value) : Res := .of fun w S => Row w S e size v n xs
def Holds (Γ : List Res) (own : Nat → Nat) (w : World) : Prop := ∀ (i : Nat) (R : Res), Γ[i]? = some R → R.p w (fun k => own k = i + 1)
def St (B : Nat → Prop) (w0 : World) (Γ : List Res) (w : World) : Prop :=
  ∃ own, Mod B w0 w ∧ (∀ k, k < w0.heap.size → own k ≠ 0 → B k) ∧ Holds Γ own w
def Became (Post : Value → List Res → Prop) (own : Nat → Nat) (w : World) (v : Value) (w' : World) : Prop :=
  ∃ l' own', Post v l' ∧ Holds l' own' w' ∧ Mod (fun k => own k ≠ 0) w w' ∧ ∀ k, k < w.heap.size → own' k ≠ 0 → own k ≠ 0
def Tri (P : Program) (f : Nat) (args : Array Value) (l : List Res) (Post : Value → List Res → Prop) : Prop :=
  ∀ w own, Holds l own w → (∀ k, k < w.heap.size → own k ≤ l.length) → Calls P f args w fun e w' => ∃ v, e = .returned v ∧ Became Post own w v w'
def OpR (P : Program) (ρ : Operand → Value) (o : Oper) (l : List Res) (Post : Value → List Res → Prop) : Prop :=
  ∀ w own, Holds l own w → (∀ k, k < w.heap.size → own k ≤ l.length) →
    (∃ v w', ((execOp ρ o).run P w = .ok (.value v) w' ∨ ((execOp ρ o).run P w = .ok .skip w' ∧ v = undef)) ∧ Became Post own w v w') ∨
    (∃ f args, (execOp ρ o).run P w = .ok (.enter f args) w ∧ Calls P f args w fun e w' => ∃ v, e = .returned v ∧ Became Post own w v w')
def idxOf (r : Nat) : List Nat → Nat → Option Nat
  | [], _ => none
  | i :: is, j => if i = r then some j else idxOf r is (j + 1)
theorem idxOf_some {r : Nat} : ∀ {is : List Nat} {j m : Nat}, idxOf r is j = some m → j ≤ m ∧ is[m - j]? = some r
  | [], _, _, h => by simp [idxOf] at h
  | i :: is, j, m, h => by
    unfold idxOf at h
    split at h
    · rename_i e; cases h; simp [e]
    · obtain ⟨h1, h2⟩ := idxOf_some h
      refine ⟨by omega, ?_⟩
      rw [show m - j = (m - (j + 1)) + 1 by omega]
      simpa using h2
theorem idxOf_none {r : Nat} : ∀ {is : List Nat} {j : Nat}, idxOf r is j = none → r ∉ is
  | [], _, _ => by simp
  | i :: is, j, h => by
    unfold idxOf at h
    split at h
    · cases h
    · rename_i e
      have := idxOf_none h
      simp [this, Ne.symm e]
theorem idxOf_get {is : List Nat} (hn : is.Nodup) {m r : Nat} (h : is[m]? = some r) : idxOf r is 0 = some m := by
  cases e : idxOf r is 0 with
  | none => exact absurd (List.mem_of_getElem? h) (idxOf_none e)
  | some m' =>
    obtain ⟨_, h2⟩ := idxOf_some e
    rw [Nat.sub_zero] at h2
    obtain ⟨l1, e1⟩ := List.getElem?_eq_some_iff.1 h
    obtain ⟨l2, e2⟩ := List.getElem?_eq_some_iff.1 h2
    rw [(List.getElem_inj hn).1 (e1.trans e2.symm)]
def pickR (Γ : List Res) (is : List Nat) : List Res := is.map fun i => Γ.getD i emp
theorem pick_get (Γ : List Res) {is : List Nat} {j : Nat} {R : Res} (h : (pickR Γ is)[j]? = some R) : ∃ i, is[j]? = some i ∧ R = Γ.getD i emp := by
  unfold pickR at h
  rw [List.getElem?_map] at h
  cases e : is[j]? with
  | none => rw [e] at h; cases h
  | some i => rw [e] at h; cases h; exact ⟨i, rfl, rfl⟩
def setAll : List Res → List Nat → List Res → List Res
  | Γ, i :: is, R :: l => setAll (Γ.set i R) is l
  | Γ, _, _ => Γ
def updR (Γ : List Res) (is : List Nat) (l' : List Res) : List Res := setAll Γ is l' ++ l'.drop is.length
theorem setAll_length : ∀ (Γ : List Res) (is : List Nat) (l : List Res), (setAll Γ is l).length = Γ.length
  | Γ, i :: is, R :: l => by rw [setAll, setAll_length, List.length_set]
  | Γ, [], _ => by simp [setAll]
  | Γ, i :: is, [] => by simp [setAll]
theorem setAll_other : ∀ (Γ : List Res) (is : List Nat) (l : List Res) (r : Nat), r ∉ is → (setAll Γ is l)[r]? = Γ[r]?
  | Γ, i :: is, R :: l, r, h => by
    simp only [List.mem_cons, not_or] at h
    rw [setAll, setAll_other _ is l r h.2, List.getElem?_set_ne (Ne.symm h.1)]
  | Γ, [], _, _, _ => by simp [setAll]
  | Γ, i :: is, [], _, _ => by simp [setAll]
theorem setAll_at : ∀ (Γ : List Res) (is : List Nat) (l : List Res) (m r : Nat), is.Nodup → is[m]? = some r → r < Γ.length → (setAll Γ is l)[r]? = (l[m]?).or Γ[r]?
  | Γ, i :: is, R :: l, 0, r, hn, h, hr => by
    simp at h
    subst h
    rw [setAll, setAll_other _ _ _ _ (List.nodup_cons.1 hn).1]
    simp [hr]
  | Γ, i :: is, R :: l, m + 1, r, hn, h, hr => by
    have h' : is[m]? = some r := by simpa using h
    have hne : i ≠ r := fun e => (List.nodup_cons.1 hn).1 (e ▸ List.mem_of_getElem? h')
    rw [setAll, setAll_at _ is l m r (List.nodup_cons.1 hn).2 h' (by simpa using hr), List.getElem?_set_ne hne]
    simp
  | Γ, [], _, _, _, _, h, _ => by simp at h
  | Γ, i :: is, [], _, _, _, _, _ => by simp [setAll]
def selR (is : List Nat) (own : Nat → Nat) : Nat → Nat := fun k => match own k with
  | 0 => 0
  | r + 1 => match idxOf r is 0 with
    | some m => m + 1
    | none => 0
theorem sel_le (is : List Nat) (own : Nat → Nat) (k : Nat) : selR is own k ≤ is.length := by
  unfold selR
  split
  · omega
  · split
    · rename_i m e
      obtain ⟨_, h⟩ := idxOf_some e
      have := (List.getElem?_eq_some_iff.1 h).1
      omega
    · omega
theorem sel_at {is : List Nat} (hn : is.Nodup) {m r : Nat} (h : is[m]? = some r) (own : Nat → Nat) (k : Nat) (hk : own k = r + 1) : selR is own k = m + 1 := by
  unfold selR
  rw [hk]
  simp [idxOf_get hn h]
theorem sel_ne {is : List Nat} {own : Nat → Nat} {k : Nat} (h : selR is own k ≠ 0) : ∃ r m, own k = r + 1 ∧ is[m]? = some r ∧ selR is own k = m + 1 := by
  unfold selR at h ⊢
  cases e : own k with
  | zero => rw [e] at h; simp at h
  | succ r =>
    rw [e] at h
    cases e2 : idxOf r is 0 with
    | none => simp [e2] at h
    | some m => exact ⟨r, m, rfl, by simpa using (idxOf_some e2).2, by simp [e2]⟩
theorem Holds.pick {Γ : List Res} {own : Nat → Nat} {w : World} (h : Holds Γ own w) {is : List Nat} (hn : is.Nodup) (hl : ∀ i ∈ is, i < Γ.length) : Holds (pickR Γ is) (selR is own) w := by
  intro j R hj
  obtain ⟨i, h1, rfl⟩ := pick_get Γ hj
  have hi := hl i (List.mem_of_getElem? h1)
  have := h i (Γ.getD i emp) (by simp [hi])
  exact Res.mov _ this (Nat.le_refl _) fun k hk q => ⟨sel_at hn h1 own k q, rfl⟩
def backR (is : List Nat) (own own1 own1' : Nat → Nat) (w : World) (n : Nat) : Nat → Nat := fun k =>
  if k < w.heap.size ∧ own1 k = 0 then own k else match own1' k with
    | 0 => 0
    | j + 1 => match is[j]? with
      | some r => r + 1
      | none => n + (j - is.length) + 1
theorem Holds.back {Γ : List Res} {own own1' : Nat → Nat} {w w' : World} (h : Holds Γ own w) {is : List Nat} (hn : is.Nodup) (hl : ∀ i ∈ is, i < Γ.length) {l' : List Res} (hle : is.length ≤ l'.length)
    (h1 : Holds l' own1' w') (hm : Mod (fun k => selR is own k ≠ 0) w w') (ho : ∀ k, k < w.heap.size → own1' k ≠ 0 → selR is own k ≠ 0) :
    Holds (updR Γ is l') (backR is own (selR is own) own1' w Γ.length) w' := by
  intro i R hi
  unfold updR at hi
  have hlen := setAll_length Γ is l'
  by_cases hc : i < Γ.length
  · rw [List.getElem?_append_left (by omega)] at hi
    by_cases hmem : i ∈ is
    · obtain ⟨m, hm1⟩ := List.mem_iff_getElem?.1 hmem
      rw [setAll_at _ _ _ _ _ hn hm1 hc] at hi
      have hml : m < l'.length := Nat.lt_of_lt_of_le (List.getElem?_eq_some_iff.1 hm1).1 hle
      have : l'[m]? = some R := by rw [List.getElem?_eq_getElem hml] at hi ⊢; simpa using hi
      refine Res.mov _ (h1 m R this) (Nat.le_refl _) fun k hk q => ⟨?_, rfl⟩
      unfold Proofs.YtholinnmjoelkaaGreatDoor.backR
      have : ¬ (k < w.heap.size ∧ selR is own k = 0) := fun ⟨a, b⟩ => ho k a (by omega) b
      simp only [if_neg this, q, hm1]
    · rw [setAll_other _ _ _ _ hmem] at hi
      refine Res.mov _ (h i R hi) hm.size fun k hk q => ?_
      have hs : selR is own k = 0 := by
        by_cases e : selR is own k = 0
        · exact e
        · obtain ⟨r, m, e1, e2, _⟩ := sel_ne e
          have : r = i := by omega
          subst this
          exact absurd (List.mem_of_getElem? e2) hmem
      refine ⟨?_, hm.block k hk (by simp [hs])⟩
      unfold Proofs.YtholinnmjoelkaaGreatDoor.backR
      rw [if_pos ⟨hk, hs⟩]; exact q
  · rw [List.getElem?_append_right (by omega), hlen, List.getElem?_drop] at hi
    refine Res.mov _ (h1 _ R hi) (Nat.le_refl _) fun k hk q => ⟨?_, rfl⟩
    unfold Proofs.YtholinnmjoelkaaGreatDoor.backR
    have : ¬ (k < w.heap.size ∧ selR is own k = 0) := fun ⟨a, b⟩ => ho k a (by omega) b
    have h2 : is[is.length + (i - Γ.length)]? = none := by simp
    simp only [if_neg this, q, h2]
    omega
theorem back_ne {is : List Nat} {own own1' : Nat → Nat} {w : World} {n k : Nat} (hk : k < w.heap.size) (ho : own1' k ≠ 0 → selR is own k ≠ 0) (h : backR is own (selR is own) own1' w n k ≠ 0) : own k ≠ 0 := by
  unfold Proofs.YtholinnmjoelkaaGreatDoor.backR at h
  split at h
  · exact h
  · rename_i hc
    have hs : selR is own k ≠ 0 := fun e => hc ⟨hk, e⟩
    obtain ⟨r, m, e1, _⟩ := sel_ne hs
    omega
theorem St.became {B : Nat → Prop} {w0 w w' : World} {Γ : List Res} {own : Nat → Nat} {is : List Nat} {Post : Value → List Res → Prop} {v : Value}
    (hM : Mod B w0 w) (hO : ∀ k, k < w0.heap.size → own k ≠ 0 → B k) (hΓ : Holds Γ own w) (hn : is.Nodup) (hl : ∀ i ∈ is, i < Γ.length)
    (hp : ∀ v l', Post v l' → is.length ≤ l'.length) (hb : Became Post (selR is own) w v w') : ∃ l', Post v l' ∧ St B w0 (updR Γ is l') w' := by
  obtain ⟨l', own1', h1, h2, h3, h4⟩ := hb
  refine ⟨l', h1, _, hM.trans' h3 fun k hk q => ?_, fun k hk q => ?_, hΓ.back hn hl (hp v l' h1) h2 h3 h4⟩
  · obtain ⟨r, m, e, _⟩ := sel_ne q
    exact hO k hk (by omega)
  · exact hO k hk (back_ne (Nat.lt_of_lt_of_le hk hM.size) (h4 k (Nat.lt_of_lt_of_le hk hM.size)) q)
theorem St.keep {B : Nat → Prop} {w0 w : World} {Γ : List Res} (h : St B w0 Γ w) (is : List Nat) (hn : is.Nodup) (hl : ∀ i ∈ is, i < Γ.length) : St B w0 (pickR Γ is) w := by
  obtain ⟨own, hM, hO, hΓ⟩ := h
  refine ⟨selR is own, hM, fun k hk q => ?_, hΓ.pick hn hl⟩
  obtain ⟨r, m, e, _⟩ := sel_ne q
  exact hO k hk (by omega)
theorem St.fact {B : Nat → Prop} {w0 w : World} {Γ : List Res} (h : St B w0 Γ w) {i : Nat} {R : Res} (hi : Γ[i]? = some R) : ∃ S, R.p w S := by
  obtain ⟨own, hM, hO, hΓ⟩ := h
  exact ⟨_, hΓ i R hi⟩
theorem St.still {B : Nat → Prop} {w0 w w' : World} {Γ : List Res} (h : St B w0 Γ w) (hm : Mod Nil w w') : St B w0 Γ w' := by
  obtain ⟨own, hM, hO, hΓ⟩ := h
  exact ⟨own, hM.nil hm, hO, fun i R hi => Res.mov _ (hΓ i R hi) hm.size fun k hk q => ⟨q, hm.block k hk fun q => q⟩⟩
theorem St.start {own : Nat → Nat} {w : World} {Γ : List Res} (h : Holds Γ own w) : St (fun k => own k ≠ 0) w Γ w := ⟨own, Mod.refl _ _, fun k _ q => q, h⟩
def compR {ι : Type} (f : ι → List Res) : Res := ⟨fun w S => ∃ x own, (∀ k, k < w.heap.size → own k ≠ 0 → S k) ∧ Holds (f x) own w, by
  rintro w w' S S' ⟨x, own, h1, h2⟩ hz hs
  refine ⟨x, fun k => if k < w.heap.size then own k else 0, fun k hk q => ?_, fun i R hi => Res.mov _ (h2 i R hi) hz fun k hk q => ⟨?_, ?_⟩⟩
  · by_cases e : k < w.heap.size
    · simp only [if_pos e] at q; exact (hs k e (h1 k e q)).1
    · simp [e] at q
  · simp only [if_pos hk]; exact q
  · exact (hs k hk (h1 k hk (by omega))).2⟩
theorem St.conv {B : Nat → Prop} {w0 w : World} {Γ : List Res} (h : St B w0 Γ w) (i : Nat) {R R' : Res} (hi : Γ[i]? = some R) (hR : ∀ w S, R.p w S → R'.p w S) : St B w0 (Γ.set i R') w := by
  obtain ⟨own, hM, hO, hΓ⟩ := h
  refine ⟨own, hM, hO, fun j Q hj => ?_⟩
  by_cases e : i = j
  · subst e
    have : i < Γ.length := (List.getElem?_eq_some_iff.1 hi).1
    rw [List.getElem?_set_self this] at hj
    cases hj
    exact hR _ _ (hΓ i R hi)
  · rw [List.getElem?_set_ne e] at hj
    exact hΓ j Q hj
theorem St.open {B : Nat → Prop} {w0 w : World} {Γ : List Res} {ι : Type} {f : ι → List Res} (h : St B w0 Γ w) (i : Nat) (hi : Γ[i]? = some (compR f)) : ∃ x, St B w0 (Γ.set i emp ++ f x) w := by
  obtain ⟨own, hM, hO, hΓ⟩ := h
  obtain ⟨x, own1, h1, h2⟩ := hΓ i _ hi
  refine ⟨x, fun k => if k < w.heap.size then (if own1 k = 0 then (if own k = i + 1 then 0 else own k) else Γ.length + own1 k) else 0, hM, fun k hk q => ?_, fun j R hj => ?_⟩
  · have hkw := Nat.lt_of_lt_of_le hk hM.size
    simp only [if_pos hkw] at q
    by_cases e : own1 k = 0
    · simp only [if_pos e] at q
      split at q
      · exact absurd rfl q
      · exact hO k hk q
    · have := h1 k hkw e
      exact hO k hk (by omega)
  · by_cases hc : j < Γ.length
    · rw [List.getElem?_append_left (by simpa using hc)] at hj
      by_cases e : i = j
      · subst e
        rw [List.getElem?_set_self hc] at hj
        cases hj
        exact trivial
      · rw [List.getElem?_set_ne e] at hj
        refine Res.mov _ (hΓ j R hj) (Nat.le_refl _) fun k hk q => ⟨?_, rfl⟩
        have : own1 k = 0 := Classical.byContradiction fun q2 => by have := h1 k hk q2; omega
        simp only [if_pos hk, if_pos this, if_neg (show ¬ own k = i + 1 by omega)]
        exact q
    · rw [List.getElem?_append_right (by simp; omega)] at hj
      refine Res.mov _ (h2 _ R hj) (Nat.le_refl _) fun k hk q => ⟨?_, rfl⟩
      simp only [List.length_set] at q
      simp only [if_pos hk]
      rw [if_neg (by omega)]
      omega
end Go.Proofs.YtholinnmjoelkaaGreatDoor
namespace Go.Proofs.YtholinnmjoelkaaGreatDoor
open Go.RowKit Go.MapKept
def lkS : List (Nat × Value) → Nat → Option Value
  | [], _ => none
  | (s, v) :: σ, k => bif Nat.beq s k then some v else lkS σ k
def ev (σ : List (Nat × Value)) : Operand → Option Value
  | .tmp t => lkS σ t
  | .const v => some v
  | .global g => some (.pointer (some ⟨g, 0, none⟩))
  | .func f => some (.func (.func f) #[] #[])
def evs (σ : List (Nat × Value)) : List Operand → Option (List Value)
  | [] => some []
  | x :: xs => match ev σ x, evs σ xs with
    | some v, some vs => some (v :: vs)
    | _, _ => none
def Knows (σ : List (Nat × Value)) (ρ : Operand → Value) : Prop := ∀ x v, ev σ x = some v → ρ x = v
structure Sl (N : Nat) (σ : List (Nat × Value)) (a : Act) : Prop where
  size : a.tmps.size = N
  defers : a.defers = []
  slot : ∀ k v, lkS σ k = some v → a.tmps[k]? = some v
def putS (d : Option Nat) (v : Value) (σ : List (Nat × Value)) : List (Nat × Value) := match d with
  | some d => (d, v) :: σ
  | none => σ
def fits (N : Nat) : Option Nat → Bool
  | some d => Nat.blt d N
  | none => true
theorem Sl.knows {N : Nat} {σ : List (Nat × Value)} {a : Act} (h : Sl N σ a) : Knows σ a.eval := by
  intro x v e
  cases x with
  | tmp t => have := h.slot t v e; simp [Act.eval, this]
  | const u => cases e; rfl
  | global g => cases e; rfl
  | func f => cases e; rfl
theorem Sl.put {N : Nat} {σ : List (Nat × Value)} {a : Act} (h : Sl N σ a) (d : Option Nat) (hd : fits N d = true) (v : Value) : Sl N (putS d v σ) (a.put d v) := by
  cases d with
  | none => exact h
  | some d =>
    have hlt : d < N := by simpa [fits] using hd
    refine ⟨by simp [Act.put, h.size], h.defers, fun k u e => ?_⟩
    unfold putS lkS at e
    cases hb : Nat.beq d k with
    | true =>
      have := Nat.eq_of_beq_eq_true hb
      subst this
      rw [hb] at e
      simp at e
      subst e
      simp [Act.put, h.size, hlt]
    | false =>
      rw [hb] at e
      have hne : d ≠ k := fun q => by subst q; simp at hb
      have := h.slot k u e
      simpa [Act.put, Array.getElem?_setIfInBounds_ne hne] using this
def subS (σ σ' : List (Nat × Value)) : Prop := ∀ k v, lkS σ' k = some v → lkS σ k = some v
theorem Sl.sub {N : Nat} {σ σ' : List (Nat × Value)} {a : Act} (h : Sl N σ a) (hs : subS σ σ') : Sl N σ' a := ⟨h.size, h.defers, fun k v e => h.slot k v (hs k v e)⟩
theorem subS.nil {σ : List (Nat × Value)} : subS σ [] := fun _ _ e => by cases e
theorem subS.cons {σ σ' : List (Nat × Value)} {d : Nat} {v : Value} (h : lkS σ d = some v) (t : subS σ σ') : subS σ ((d, v) :: σ') := fun k u e => by
  unfold lkS at e
  cases hb : Nat.beq d k with
  | true =>
    have := Nat.eq_of_beq_eq_true hb
    subst this
    rw [hb] at e
    simp at e
    subst e
    exact h
  | false => rw [hb] at e; exact t k u e
structure Cx where
  P : Program
  N : Nat
  B : Nat → Prop
  w0 : World
def Ex' (K : Cx) (e : Exit) (Q : Exit → Act → World → Prop) (σ : List (Nat × Value)) (Γ : List Res) : Prop := ∀ a w, Sl K.N σ a → St K.B K.w0 Γ w → Q e a w
def Cd (K : Cx) (c : Code) (Q : Exit → Act → World → Prop) (σ : List (Nat × Value)) (Γ : List Res) : Prop := ∀ a w, Sl K.N σ a → St K.B K.w0 Γ w → c.wp K.P Q a w
def Sq (K : Cx) (ops : Array Oper) (l : List Nat) (Q : Exit → Act → World → Prop) (σ : List (Nat × Value)) (Γ : List Res) : Prop := ∀ a w, Sl K.N σ a → St K.B K.w0 Γ w → wpOps K.P ops Q l a w
def Opr (P : Program) (σ : List (Nat × Value)) (o : Oper) (l : List Res) (Post : Value → List Res → Prop) : Prop := ∀ ρ, Knows σ ρ → OpR P ρ o l Post
theorem Opr.mono {P : Program} {σ : List (Nat × Value)} {o : Oper} {l : List Res} {Post Post' : Value → List Res → Prop} (h : Opr P σ o l Post) (hp : ∀ v l', Post v l' → Post' v l') : Opr P σ o l Post' := by
  intro ρ hρ w own hH hO
  have hb : ∀ {v w'}, Became Post own w v w' → Became Post' own w v w' := fun ⟨l', own', q, r⟩ => ⟨l', own', hp _ _ q, r⟩
  rcases h ρ hρ w own hH hO with ⟨v, w', h1, h2⟩ | ⟨f, args, h1, h2⟩
  · exact .inl ⟨v, w', h1, hb h2⟩
  · exact .inr ⟨f, args, h1, h2.mono fun _ _ ⟨v, e, q⟩ => ⟨v, e, hb q⟩⟩
def wants (ops : Array Oper) (σ : List (Nat × Value)) (o : Oper) : Option Bool := match o.guard with
  | none => some true
  | some (g, b) => match (ops[g]?).bind Oper.dst with
    | some d => match lkS σ d with
      | some (.bool b') => some (b' == b)
      | some _ => some false
      | none => none
    | none => some false
theorem wants_of {N : Nat} {ops : Array Oper} {σ : List (Nat × Value)} {o : Oper} {a : Act} (h : Sl N σ a) {t : Bool} (hw : wants ops σ o = some t) : Region.wanted o (yielded ops a.tmps) = t := by
  unfold wants at hw
  unfold Region.wanted
  cases hg : o.guard with
  | none => rw [hg] at hw; simp at hw; simp [hw]
  | some gb =>
    obtain ⟨g, b⟩ := gb
    rw [hg] at hw
    simp only at hw ⊢
    unfold yielded
    cases hd : (ops[g]?).bind Oper.dst with
    | none => simp [hd] at hw ⊢; exact hw
    | some d =>
      rw [hd] at hw
      simp only at hw
      cases hl : lkS σ d with
      | none => simp [hl] at hw
      | some v =>
        have := h.slot d v hl
        rw [hl] at hw
        simp only [Option.bind_some, this]
        cases v <;> simp at hw ⊢ <;> try exact hw
        done
section
variable {K : Cx} {Q : Exit → Act → World → Prop} {σ : List (Nat × Value)} {Γ : List Res} {ops : Array Oper}
theorem Sq.done (h : Ex' K .normal Q σ Γ) : Sq K ops [] Q σ Γ := h
theorem Sq.skip {i : Nat} {rest : List Nat} {o : Oper} (ho : ops[i]? = some o) (hw : wants ops σ o = some false) (hd : fits K.N o.dst = true) (h : Sq K ops rest Q (putS o.dst undef σ) Γ) : Sq K ops (i :: rest) Q σ Γ := by
  intro a w hS hΓ
  simp only [wpOps, ho, wants_of hS hw, Bool.false_eq_true, if_false]
  exact h _ _ (hS.put _ hd _) hΓ
theorem Opr.wp {is : List Nat} {Post : Value → List Res → Prop} {o : Oper} (h : Opr K.P σ o (pickR Γ is) Post) (hn : is.Nodup) (hl : ∀ i ∈ is, i < Γ.length) (hp : ∀ v l', Post v l' → is.length ≤ l'.length)
    {a : Act} {w : World} (hS : Sl K.N σ a) (hΓ : St K.B K.w0 Γ w) {next : Act → World → Prop} (hK : ∀ v l' w', Post v l' → St K.B K.w0 (updR Γ is l') w' → next (a.put o.dst v) w') : o.wp K.P a w next Q := by
  obtain ⟨own, hM, hO, hH⟩ := hΓ
  have hgo : ∀ v w', Became Post (selR is own) w v w' → next (a.put o.dst v) w' := fun v w' hb => by
    obtain ⟨l', h1, h2⟩ := St.became hM hO hH hn hl hp hb
    exact hK v l' w' h1 h2
  unfold Oper.wp
  rcases h a.eval hS.knows w (selR is own) (hH.pick hn hl) (fun k _ => by unfold pickR; rw [List.length_map]; exact sel_le is own k) with ⟨v, w', h1, h2⟩ | ⟨f, args, h1, h2⟩
  · rcases h1 with h1 | ⟨h1, rfl⟩
    · rw [h1]; exact hgo v w' h2
    · rw [h1]; exact hgo _ w' h2
  · rw [h1]
    refine Calls.mono h2 ?_
    rintro e w' ⟨v, rfl, h3⟩
    exact hgo v w' h3
theorem Sq.op {i : Nat} {rest : List Nat} {o : Oper} (ho : ops[i]? = some o) (hw : wants ops σ o = some true) (hd : fits K.N o.dst = true) (is : List Nat) {Post : Value → List Res → Prop} (h : Opr K.P σ o (pickR Γ is) Post)
    (hn : is.Nodup) (hl : ∀ i ∈ is, i < Γ.length) (hp : ∀ v l', Post v l' → is.length ≤ l'.length)
    (hK : ∀ v l', Post v l' → Sq K ops rest Q (putS o.dst v σ) (updR Γ is l')) : Sq K ops (i :: rest) Q σ Γ := by
  intro a w hS hΓ
  simp only [wpOps, ho, wants_of hS hw, if_true]
  exact .inl (h.wp hn hl hp hS hΓ fun v l' w' h1 h2 => hK v l' h1 _ _ (hS.put _ hd _) h2)
def OprV (P : Program) (σ : List (Nat × Value)) (o : Oper) (v : Value) : Prop := Opr P σ o [] fun v' l' => v' = v ∧ l' = []
theorem Sq.val {i : Nat} {rest : List Nat} {o : Oper} (ho : ops[i]? = some o) (hw : wants ops σ o = some true) (hd : fits K.N o.dst = true) {v : Value} (h : OprV K.P σ o v)
    (hK : Sq K ops rest Q (putS o.dst v σ) Γ) : Sq K ops (i :: rest) Q σ Γ :=
  Sq.op ho hw hd [] h List.nodup_nil (by simp) (fun _ _ _ => Nat.zero_le _) fun v' l' ⟨e, e'⟩ => by subst e e'; simpa [updR, setAll] using hK
theorem Cd.region {id : Nat} {l : List Nat} (hl : List.range ops.size = l) (h : Sq K ops l Q σ Γ) : Cd K (.region id ops false) Q σ Γ := fun a w hS hΓ => wp_region (hl ▸ h a w hS hΓ)
theorem Cd.seq {x y : Code} (h : Cd K x (Exit.then (y.wp K.P Q) Q) σ Γ) : Cd K (.seq x y) Q σ Γ := fun a w hS hΓ => wp_seq (h a w hS hΓ)
theorem Ex'.next {y : Code} (h : Cd K y Q σ Γ) : Ex' K .normal (Exit.then (y.wp K.P Q) Q) σ Γ := h
theorem Ex'.thenRet {y : Act → World → Prop} (h : Ex' K .ret Q σ Γ) : Ex' K .ret (Exit.then y Q) σ Γ := h
theorem Ex'.thenExit {id : Nat} {y : Act → World → Prop} (h : Ex' K (.exit id) Q σ Γ) : Ex' K (.exit id) (Exit.then y Q) σ Γ := h
theorem Ex'.blockNormal {id : Nat} (h : Ex' K .normal Q σ Γ) : Ex' K .normal (Exit.inBlock id Q) σ Γ := h
theorem Ex'.blockRet {id : Nat} (h : Ex' K .ret Q σ Γ) : Ex' K .ret (Exit.inBlock id Q) σ Γ := h
theorem Ex'.blockHit {id : Nat} (h : Ex' K .normal Q σ Γ) : Ex' K (.exit id) (Exit.inBlock id Q) σ Γ := fun a w hS hΓ => by simp only [Exit.inBlock, if_true]; exact h a w hS hΓ
theorem Ex'.blockMiss {id id' : Nat} (hb : Nat.beq id' id = false) (h : Ex' K (.exit id') Q σ Γ) : Ex' K (.exit id') (Exit.inBlock id Q) σ Γ := fun a w hS hΓ => by
  have : id' ≠ id := fun e => by subst e; simp at hb
  simp only [Exit.inBlock, if_neg this]; exact h a w hS hΓ
theorem Cd.skip (h : Ex' K .normal Q σ Γ) : Cd K .skip Q σ Γ := fun a w hS hΓ => wp_skip (h a w hS hΓ)
theorem Cd.ret (h : Ex' K .ret Q σ Γ) : Cd K .ret Q σ Γ := fun a w hS hΓ => wp_ret (h a w hS hΓ)
theorem Cd.exit {id : Nat} (h : Ex' K (.exit id) Q σ Γ) : Cd K (.exit id) Q σ Γ := fun a w hS hΓ => wp_exit (h a w hS hΓ)
theorem Cd.block {id : Nat} {c : Code} (h : Cd K c (Exit.inBlock id Q) σ Γ) : Cd K (.block id c) Q σ Γ := fun a w hS hΓ => wp_block (h a w hS hΓ)
theorem Cd.condT {c : Operand} {x y : Code} (hc : ev σ c = some (.bool true)) (h : Cd K x Q σ Γ) : Cd K (.cond c x y) Q σ Γ := fun a w hS hΓ => wp_cond_true (hS.knows c _ hc) (h a w hS hΓ)
theorem Cd.condF {c : Operand} {x y : Code} (hc : ev σ c = some (.bool false)) (h : Cd K y Q σ Γ) : Cd K (.cond c x y) Q σ Γ := fun a w hS hΓ => wp_cond_false (hS.knows c _ hc) (h a w hS hΓ)
theorem Cd.cond {c : Operand} {x y : Code} {t : Bool} (hc : ev σ c = some (.bool t)) (h1 : t = true → Cd K x Q σ Γ) (h2 : t = false → Cd K y Q σ Γ) : Cd K (.cond c x y) Q σ Γ := fun a w hS hΓ => by
  cases t
  · exact wp_cond_false (hS.knows c _ hc) (h2 rfl a w hS hΓ)
  · exact wp_cond_true (hS.knows c _ hc) (h1 rfl a w hS hΓ)
theorem Cd.sub {c : Code} {σ' : List (Nat × Value)} (hs : subS σ σ') (h : Cd K c Q σ' Γ) : Cd K c Q σ Γ := fun a w hS hΓ => h a w (hS.sub hs) hΓ
theorem Ex'.sub {e : Exit} {σ' : List (Nat × Value)} (hs : subS σ σ') (h : Ex' K e Q σ' Γ) : Ex' K e Q σ Γ := fun a w hS hΓ => h a w (hS.sub hs) hΓ
theorem Cd.st {c : Code} (h : ∀ w, St K.B K.w0 Γ w → ∃ Γ', St K.B K.w0 Γ' w ∧ Cd K c Q σ Γ') : Cd K c Q σ Γ := fun a w hS hΓ => by
  obtain ⟨Γ', h1, h2⟩ := h w hΓ
  exact h2 a w hS h1
theorem Ex'.st {e : Exit} (h : ∀ w, St K.B K.w0 Γ w → ∃ Γ', St K.B K.w0 Γ' w ∧ Ex' K e Q σ Γ') : Ex' K e Q σ Γ := fun a w hS hΓ => by
  obtain ⟨Γ', h1, h2⟩ := h w hΓ
  exact h2 a w hS h1
theorem Sq.st {l : List Nat} (h : ∀ w, St K.B K.w0 Γ w → ∃ Γ', St K.B K.w0 Γ' w ∧ Sq K ops l Q σ Γ') : Sq K ops l Q σ Γ := fun a w hS hΓ => by
  obtain ⟨Γ', h1, h2⟩ := h w hΓ
  exact h2 a w hS h1
theorem Cd.fact {c : Code} {i : Nat} {R : Res} {φ : Prop} (hi : Γ[i]? = some R) (hφ : ∀ w S, R.p w S → φ) (h : φ → Cd K c Q σ Γ) : Cd K c Q σ Γ := fun a w hS hΓ => by
  obtain ⟨S, hR⟩ := hΓ.fact hi
  exact h (hφ w S hR) a w hS hΓ
theorem Cd.keep {c : Code} (is : List Nat) (hn : is.Nodup) (hl : ∀ i ∈ is, i < Γ.length) (h : Cd K c Q σ (pickR Γ is)) : Cd K c Q σ Γ := fun a w hS hΓ => h a w hS (hΓ.keep is hn hl)
def Rnd (K : Cx) {ι : Type} (I : ι → Prop) (μ : ι → Nat) (σ' : ι → List (Nat × Value)) (Γ' : ι → List Res) (g : ι) : Act → World → Prop := fun a w => ∃ g', I g' ∧ μ g' < μ g ∧ Sl K.N (σ' g') a ∧ St K.B K.w0 (Γ' g') w
theorem Cd.loop {ι : Type} {c : Code} (I : ι → Prop) (μ : ι → Nat) (σ' : ι → List (Nat × Value)) (Γ' : ι → List Res) (g0 : ι) (h0 : I g0) (hs : subS σ (σ' g0)) (hΓ0 : ∀ w, St K.B K.w0 Γ w → St K.B K.w0 (Γ' g0) w)
    (round : ∀ g, I g → Cd K c (Exit.then (Rnd K I μ σ' Γ' g) Q) (σ' g) (Γ' g)) : Cd K (.loop c) Q σ Γ := fun a w hS hΓ => by
  refine wp_loop_ghost (fun n a w => ∃ g, μ g = n ∧ I g ∧ Sl K.N (σ' g) a ∧ St K.B K.w0 (Γ' g) w) (μ g0) ⟨g0, rfl, h0, hS.sub hs, hΓ0 w hΓ⟩ ?_
  rintro n a w ⟨g, rfl, h1, h2, h3⟩
  refine wp_mono (round g h1 a w h2 h3) ?_
  intro e a' w' hq
  cases e <;> try exact hq
  obtain ⟨g', q1, q2, q3, q4⟩ := hq
  exact ⟨μ g', q2, g', rfl, q1, q3, q4⟩
theorem Ex'.round {ι : Type} {I : ι → Prop} {μ : ι → Nat} {σ' : ι → List (Nat × Value)} {Γ' : ι → List Res} {g : ι} (g' : ι) (h1 : I g') (h2 : μ g' < μ g) (hs : subS σ (σ' g')) (hΓ : ∀ w, St K.B K.w0 Γ w → St K.B K.w0 (Γ' g') w) :
    Ex' K .normal (Exit.then (Rnd K I μ σ' Γ' g) Q) σ Γ := fun a w hS hG => ⟨g', h1, h2, hS.sub hs, hΓ w hG⟩
end
end Go.Proofs.YtholinnmjoelkaaGreatDoor
