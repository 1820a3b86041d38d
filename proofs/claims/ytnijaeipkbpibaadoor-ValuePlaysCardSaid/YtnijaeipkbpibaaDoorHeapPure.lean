/- Package heap as plain lists: settling; a heap as its row. -/
import Derived.Test.YtnijaeipkbpibaaDoorLibA
set_option linter.unusedVariables false
namespace Go.Proofs.YtnijaeipkbpibaaDoor

/-- A thing in a heap: its key, its rank, when it came to have it. -/
structure HI (κ : Type) where
  key : κ
  one : Int
  two : Int
  came : Int
/-- Is it ahead? -/
def HI.lt {κ : Type} (a b : HI κ) : Prop := a.one < b.one ∨ a.one = b.one ∧ (a.two < b.two ∨ a.two = b.two ∧ a.came < b.came)
instance {κ : Type} (a b : HI κ) : Decidable (a.lt b) := by unfold HI.lt; infer_instance
section
variable {κ : Type} {a b c : HI κ}
theorem HI.irr : ¬ a.lt a := by unfold HI.lt; omega
theorem HI.tr (h : a.lt b) (h2 : b.lt c) : a.lt c := by unfold HI.lt at *; omega
theorem HI.asymm (h : a.lt b) : ¬ b.lt a := by unfold HI.lt at *; omega
theorem HI.le_tr (h : ¬ b.lt a) (h2 : ¬ c.lt b) : ¬ c.lt a := by unfold HI.lt at *; omega
theorem HI.tri (h : a.came ≠ b.came) : a.lt b ∨ b.lt a := by unfold HI.lt at *; omega
end
theorem gset {α : Type} (l : List α) (i j : Nat) (x z : α) (hi : i < l.length) : (l.set i x).getD j z = if i = j then x else l.getD j z := by
  simp only [List.getD_eq_getElem?_getD, List.getElem?_set]
  split
  · simp_all
  · rfl
section
variable {κ : Type} {z : HI κ} {l : List (HI κ)} {i p c : Nat}
/-- What stands at j isn't ahead of what stands above it. -/
def Okp (z : HI κ) (l : List (HI κ)) (j : Nat) : Prop := ¬ (l.getD j z).lt (l.getD ((j - 1) / 2) z)
def Hp (z : HI κ) (l : List (HI κ)) : Prop := ∀ j, 0 < j → j < l.length → Okp z l j
structure SI (z : HI κ) (l : List (HI κ)) (i : Nat) : Prop where
  lt : i < l.length
  pr : ∀ j, 0 < j → j < l.length → j ≠ i → (j - 1) / 2 ≠ i → Okp z l j
  gr : 0 < i → ∀ j, 0 < j → j < l.length → (j - 1) / 2 = i → ¬ (l.getD j z).lt (l.getD ((i - 1) / 2) z)
structure DI (z : HI κ) (l : List (HI κ)) (i : Nat) : Prop where
  lt : i < l.length
  pr : ∀ j, 0 < j → j < l.length → (j - 1) / 2 ≠ i → Okp z l j
  gr : 0 < i → ∀ j, 0 < j → j < l.length → (j - 1) / 2 = i → ¬ (l.getD j z).lt (l.getD ((i - 1) / 2) z)
def sw (z : HI κ) (l : List (HI κ)) (i p : Nat) : List (HI κ) := (l.set i (l.getD p z)).set p (l.getD i z)
theorem sw_len : (sw z l i p).length = l.length := by simp [sw]
theorem sw_get (hi : i < l.length) (hp : p < l.length) (j : Nat) : (sw z l i p).getD j z = if p = j then l.getD i z else if i = j then l.getD p z else l.getD j z := by
  unfold sw
  rw [gset _ _ _ _ _ (by simpa using hp), gset _ _ _ _ _ hi]
theorem SI.up (h : SI z l i) (h0 : 0 < i) (hl : (l.getD i z).lt (l.getD ((i - 1) / 2) z)) : SI z (sw z l i ((i - 1) / 2)) ((i - 1) / 2) := by
  have hi := h.lt
  generalize hp : (i - 1) / 2 = p at *
  have hpl : p < l.length := by omega
  refine ⟨by rw [sw_len]; exact hpl, fun j h1 h2 h3 h4 => ?_, fun h1 j h2 h3 h4 => ?_⟩
  · rw [sw_len] at h2
    unfold Okp
    rw [sw_get hi hpl, sw_get hi hpl, if_neg (Ne.symm h3), if_neg (Ne.symm h4)]
    have hji : ¬ i = j := fun e => by subst e; exact h4 hp
    rw [if_neg hji]
    by_cases h5 : i = (j - 1) / 2
    · rw [if_pos h5]
      have := h.gr h0 j h1 h2 h5.symm
      rw [hp] at this; exact this
    · rw [if_neg h5]
      exact h.pr j h1 h2 (Ne.symm hji) (Ne.symm h5)
  · rw [sw_len] at h3
    have hpp : ¬ (l.getD p z).lt (l.getD ((p - 1) / 2) z) := h.pr p h1 hpl (by omega) (by omega)
    rw [sw_get hi hpl, sw_get hi hpl, if_neg (show ¬ p = (p - 1) / 2 by omega), if_neg (show ¬ i = (p - 1) / 2 by omega), if_neg (show ¬ p = j by omega)]
    by_cases h5 : i = j
    · rw [if_pos h5]; exact hpp
    · rw [if_neg h5]
      have := h.pr j h2 h3 (Ne.symm h5) (by omega)
      unfold Okp at this
      rw [h4] at this
      exact HI.le_tr hpp this
theorem SI.turn (h : SI z l i) (he : 0 < i → ¬ (l.getD i z).lt (l.getD ((i - 1) / 2) z)) : DI z l i := by
  refine ⟨h.lt, fun j h1 h2 h3 => ?_, h.gr⟩
  by_cases e : j = i
  · subst e; exact he h1
  · exact h.pr j h1 h2 e h3
theorem DI.down (h : DI z l i) (hc : c < l.length) (h0 : 0 < c) (hpi : (c - 1) / 2 = i) (hs : ∀ j, 0 < j → j < l.length → (j - 1) / 2 = i → ¬ (l.getD j z).lt (l.getD c z)) (hl : (l.getD c z).lt (l.getD i z)) : DI z (sw z l i c) c := by
  have hi := h.lt
  have hci : ¬ c = i := by omega
  refine ⟨by rw [sw_len]; exact hc, fun j h1 h2 h3 => ?_, fun h1 j h2 h3 h4 => ?_⟩
  · rw [sw_len] at h2
    unfold Okp
    rw [sw_get hi hc, sw_get hi hc, if_neg (Ne.symm h3)]
    by_cases e1 : c = j
    · subst e1
      rw [if_pos rfl, if_pos hpi.symm]
      exact HI.asymm hl
    rw [if_neg e1]
    by_cases e2 : i = j
    · subst e2
      rw [if_pos rfl, if_neg (show ¬ i = (i - 1) / 2 by omega)]
      exact h.gr h1 c h0 hc hpi
    rw [if_neg e2]
    by_cases e3 : i = (j - 1) / 2
    · rw [if_pos e3]; exact hs j h1 h2 e3.symm
    · rw [if_neg e3]; exact h.pr j h1 h2 (Ne.symm e3)
  · rw [sw_len] at h3
    rw [sw_get hi hc, sw_get hi hc, if_neg (show ¬ c = j by omega), if_neg (show ¬ i = j by omega), hpi, if_neg hci, if_pos rfl]
    have := h.pr j h2 h3 (by omega)
    unfold Okp at this
    rw [h4] at this; exact this
theorem DI.done (h : DI z l i) (hs : ∀ j, 0 < j → j < l.length → (j - 1) / 2 = i → ¬ (l.getD j z).lt (l.getD i z)) : Hp z l := fun j h1 h2 => by
  by_cases e : (j - 1) / 2 = i
  · unfold Okp; rw [e]; exact hs j h1 h2 e
  · exact h.pr j h1 h2 e
/-- The first one is least. -/
theorem Hp.least (h : Hp z l) : ∀ j, j < l.length → ¬ (l.getD j z).lt (l.getD 0 z) := by
  intro j
  induction j using Nat.strongRecOn with
  | ind j ih =>
    intro hj
    by_cases e : j = 0
    · subst e; exact HI.irr
    · exact HI.le_tr (ih ((j - 1) / 2) (by omega) (by omega)) (h j (by omega) hj)
theorem getD_in {α : Type} {l : List α} {i : Nat} (h : i < l.length) (z : α) : l.getD i z = l[i] := by simp [List.getD_eq_getElem?_getD, h]
theorem sw_perm (hi : i < l.length) (hp : p < l.length) : (sw z l i p).Perm l := by
  have := Array.swap_perm (xs := l.toArray) (i := i) (j := p) (by simpa using hi) (by simpa using hp)
  have h2 := this.toList
  unfold sw
  rw [getD_in hi, getD_in hp]
  simpa [Array.swap] using h2
end
section
variable {κ : Type} [DecidableEq κ] {z : HI κ} {l m l0 : List (HI κ)} {mp : List (κ × Int)} {i p c : Nat} {x : HI κ}
/-- The map tells where keys stand, but of what stands at i. -/
structure AtH (mp : List (κ × Int)) (z : HI κ) (l : List (HI κ)) (i : Nat) : Prop where
  nd : (mp.map (·.1)).Nodup
  kd : (l.map HI.key).Nodup
  pl : ∀ j, j < l.length → j ≠ i → lk mp (l.getD j z).key = some (j : Int)
  dm : ∀ k, (lk mp k).isSome = true ↔ k ∈ l.map HI.key
structure AtOK (mp : List (κ × Int)) (z : HI κ) (l : List (HI κ)) : Prop where
  nd : (mp.map (·.1)).Nodup
  kd : (l.map HI.key).Nodup
  pl : ∀ j, j < l.length → lk mp (l.getD j z).key = some (j : Int)
  dm : ∀ k, (lk mp k).isSome = true ↔ k ∈ l.map HI.key
omit [DecidableEq κ] in
theorem key_inj (h : (l.map HI.key).Nodup) {a b : Nat} (ha : a < l.length) (hb : b < l.length) (e : (l.getD a z).key = (l.getD b z).key) : a = b := by
  rw [getD_in ha, getD_in hb] at e
  have : (l.map HI.key)[a]'(by simpa using ha) = (l.map HI.key)[b]'(by simpa using hb) := by simpa using e
  exact (List.getElem_inj h).1 this
omit [DecidableEq κ] in
theorem key_mem {j : Nat} (hj : j < l.length) : (l.getD j z).key ∈ l.map HI.key := by
  rw [getD_in hj]; exact List.mem_map.2 ⟨_, List.getElem_mem hj, rfl⟩
theorem AtH.sw (h : AtH mp z l i) (hi : i < l.length) (hp : p < l.length) (hne : i ≠ p) : AtH (put mp (l.getD p z).key (i : Int)) z (sw z l i p) p := by
  have hpm := sw_perm (z := z) hi hp
  refine ⟨nodup_put h.nd _ _, (hpm.map HI.key).nodup_iff.2 h.kd, fun j hj hjp => ?_, fun k => ?_⟩
  · rw [sw_len] at hj
    rw [sw_get hi hp, if_neg (Ne.symm hjp), lk_put]
    by_cases e : i = j
    · subst e; simp
    · rw [if_neg e, if_neg (fun q => hjp (key_inj h.kd hj hp q))]
      exact h.pl j hj (Ne.symm e)
  · rw [lk_put, (hpm.map HI.key).mem_iff, ← h.dm]
    split
    · rename_i q; subst q; simpa using (h.dm _).2 (key_mem hp)
    · rfl
theorem AtH.fill (h : AtH mp z l i) (hi : i < l.length) : AtOK (put mp (l.getD i z).key (i : Int)) z l := by
  refine ⟨nodup_put h.nd _ _, h.kd, fun j hj => ?_, fun k => ?_⟩
  · rw [lk_put]
    split
    · rename_i q; rw [key_inj h.kd hj hi q]
    · rename_i q; exact h.pl j hj fun e => q (by rw [e])
  · rw [lk_put, ← h.dm]
    split
    · rename_i q; subst q; simpa using (h.dm _).2 (key_mem hi)
    · rfl
theorem AtOK.hole (h : AtOK mp z l) (i : Nat) : AtH mp z l i := ⟨h.nd, h.kd, fun j hj _ => h.pl j hj, h.dm⟩
/-- x belongs to place i, on its way up; m is what stands there. -/
structure HU (z : HI κ) (l0 : List (HI κ)) (x : HI κ) (m : List (HI κ)) (mp : List (κ × Int)) (i : Nat) : Prop where
  si : SI z (m.set i x) i
  pm : (m.set i x).Perm l0
  ah : AtH mp z (m.set i x) i
structure HD (z : HI κ) (l0 : List (HI κ)) (x : HI κ) (m : List (HI κ)) (mp : List (κ × Int)) (i : Nat) : Prop where
  di : DI z (m.set i x) i
  pm : (m.set i x).Perm l0
  ah : AtH mp z (m.set i x) i
omit [DecidableEq κ] in
theorem set_sw (hi : i < m.length) (hne : ¬ i = p) : sw z (m.set i x) i p = (m.set i (m.getD p z)).set p x := by
  unfold sw
  rw [gset _ _ _ _ _ hi, gset _ _ _ _ _ hi, if_pos rfl, if_neg hne, List.set_set]
theorem HU.lt (h : HU z l0 x m mp i) : i < m.length := by have := h.si.lt; simpa using this
theorem HD.lt (h : HD z l0 x m mp i) : i < m.length := by have := h.di.lt; simpa using this
theorem HU.len (h : HU z l0 x m mp i) : m.length = l0.length := by simpa using h.pm.length_eq
theorem HD.len (h : HD z l0 x m mp i) : m.length = l0.length := by simpa using h.pm.length_eq
theorem HU.up (h : HU z l0 x m mp i) (h0 : 0 < i) (hl : x.lt (m.getD ((i - 1) / 2) z)) :
    HU z l0 x (m.set i (m.getD ((i - 1) / 2) z)) (put mp (m.getD ((i - 1) / 2) z).key (i : Int)) ((i - 1) / 2) := by
  have hi := h.lt
  have hne : ¬ i = (i - 1) / 2 := by omega
  have e := set_sw (z := z) (x := x) hi hne
  have g0 : (m.set i x).getD i z = x := by rw [gset _ _ _ _ _ hi, if_pos rfl]
  have gp : (m.set i x).getD ((i - 1) / 2) z = m.getD ((i - 1) / 2) z := by rw [gset _ _ _ _ _ hi, if_neg hne]
  have h1 := h.si.up h0 (by rw [g0, gp]; exact hl)
  have h2 := h.ah.sw (p := (i - 1) / 2) (by simpa using hi) (by simp; omega) hne
  have h3 := sw_perm (z := z) (l := m.set i x) (i := i) (p := (i - 1) / 2) (by simpa using hi) (by simp; omega)
  rw [e] at h1 h2 h3
  rw [gp] at h2
  exact ⟨h1, h3.trans h.pm, h2⟩
theorem HU.turn (h : HU z l0 x m mp i) (he : ¬ (0 < i ∧ x.lt (m.getD ((i - 1) / 2) z))) : HD z l0 x m mp i := by
  have hi := h.lt
  refine ⟨h.si.turn fun h0 q => he ⟨h0, ?_⟩, h.pm, h.ah⟩
  rwa [gset _ _ _ _ _ hi, if_pos rfl, gset _ _ _ _ _ hi, if_neg (by omega)] at q
theorem HD.down (h : HD z l0 x m mp i) (hc : c < m.length) (hci : c = 2 * i + 1 ∨ c = 2 * i + 1 + 1) (hs : ∀ j, (j = 2 * i + 1 ∨ j = 2 * i + 1 + 1) → j < m.length → ¬ (m.getD j z).lt (m.getD c z)) (hl : (m.getD c z).lt x) :
    HD z l0 x (m.set i (m.getD c z)) (put mp (m.getD c z).key (i : Int)) c := by
  have hi := h.lt
  have hne : ¬ i = c := by omega
  have e := set_sw (z := z) (x := x) hi hne
  have g0 : (m.set i x).getD i z = x := by rw [gset _ _ _ _ _ hi, if_pos rfl]
  have gp : ∀ j, ¬ i = j → (m.set i x).getD j z = m.getD j z := fun j hj => by rw [gset _ _ _ _ _ hi, if_neg hj]
  have h1 := h.di.down (c := c) (by simpa using hc) (by omega) (by omega) (fun j h1 h2 h3 => by
    rw [gp j (by omega), gp c hne]; exact hs j (by omega) (by simpa using h2)) (by rw [g0, gp c hne]; exact hl)
  have h2 := h.ah.sw (p := c) (by simpa using hi) (by simpa using hc) hne
  have h3 := sw_perm (z := z) (l := m.set i x) (i := i) (p := c) (by simpa using hi) (by simpa using hc)
  rw [e] at h1 h2 h3
  rw [gp c hne] at h2
  exact ⟨h1, h3.trans h.pm, h2⟩
theorem HD.done (h : HD z l0 x m mp i) (hs : ∀ j, (j = 2 * i + 1 ∨ j = 2 * i + 1 + 1) → j < m.length → ¬ (m.getD j z).lt x) :
    Hp z (m.set i x) ∧ (m.set i x).Perm l0 ∧ AtOK (put mp x.key (i : Int)) z (m.set i x) := by
  have hi := h.lt
  have g0 : (m.set i x).getD i z = x := by rw [gset _ _ _ _ _ hi, if_pos rfl]
  refine ⟨h.di.done fun j h1 h2 h3 => ?_, h.pm, ?_⟩
  · rw [g0, gset _ _ _ _ _ hi, if_neg (by omega)]
    exact hs j (by omega) (by simpa using h2)
  · have := h.ah.fill (by simpa using hi)
    rwa [g0] at this
omit [DecidableEq κ] in
theorem set_self {j : Nat} (hj : j < m.length) : m.set j (m.getD j z) = m := by rw [getD_in hj, List.set_getElem_self]
/-! ### a heap as its row -/
abbrev KR (κ : Type) := κ × Int × Int
def HI.kr (x : HI κ) : KR κ := (x.key, x.one, x.two)
def rlt (a b : KR κ) : Prop := a.2.1 < b.2.1 ∨ a.2.1 = b.2.1 ∧ a.2.2 < b.2.2
instance (a b : KR κ) : Decidable (rlt a b) := by unfold rlt; infer_instance
/-- The row without a key; with a thing behind all that aren't behind it; what a key has. -/
def hrem (S : List (KR κ)) (k : κ) : List (KR κ) := S.filter fun y => y.1 ≠ k
def hins : List (KR κ) → KR κ → List (KR κ)
  | [], x => [x]
  | y :: S, x => if rlt x y then x :: y :: S else y :: hins S x
def hset (S : List (KR κ)) (x : KR κ) : List (KR κ) := hins (hrem S x.1) x
def hfnd (S : List (KR κ)) (k : κ) : Option (Int × Int) := lk S k
/-- l, with the map mp, is a heap of the row S. -/
structure HpS (z : HI κ) (S : List (KR κ)) (l : List (HI κ)) (mp : List (κ × Int)) (came : Int) (n : Nat) : Prop where
  hp : Hp z l
  ok : AtOK mp z l
  c0 : 0 ≤ came
  cn : came ≤ n
  ln : l.length ≤ n
  row : ∃ L : List (HI κ), L.Perm l ∧ L.Pairwise HI.lt ∧ S = L.map HI.kr ∧ ∀ x ∈ L, x.came ≤ came
theorem HpS.up {S : List (KR κ)} {came : Int} {n n' : Nat} (h : HpS z S l mp came n) (hn : n ≤ n') : HpS z S l mp came n' :=
  ⟨h.hp, h.ok, h.c0, by have := h.cn; omega, Nat.le_trans h.ln hn, h.row⟩
theorem HpS.new : HpS z ([] : List (KR κ)) [] [] 0 0 :=
  ⟨fun j _ h => by simp at h, ⟨by simp, by simp, fun j h => by simp at h, fun k => by simp [lk]⟩, Int.le_refl _, Int.le_refl _, Nat.le_refl _, [], .nil, .nil, rfl, fun x h => by simp at h⟩
variable {S : List (KR κ)} {came : Int} {n : Nat}
theorem HpS.len (h : HpS z S l mp came n) : S.length = l.length := by
  obtain ⟨L, h1, _, rfl, _⟩ := h.row
  simpa using h1.length_eq
theorem HpS.keys (h : HpS z S l mp came n) : (S.map (·.1)).Perm (l.map HI.key) := by
  obtain ⟨L, h1, _, rfl, _⟩ := h.row
  have := h1.map HI.key
  simpa [List.map_map, HI.kr, Function.comp_def] using this
theorem HpS.nodup (h : HpS z S l mp came n) : (S.map (·.1)).Nodup := h.keys.nodup_iff.2 h.ok.kd
theorem HpS.has (h : HpS z S l mp came n) (k : κ) : (lk mp k).isSome = (lk S k).isSome := by
  rw [Bool.eq_iff_iff, h.ok.dm, ← h.keys.mem_iff]
  cases e : lk S k with
  | none => simpa using lk_none.1 e
  | some v => simpa using ⟨v.1, v.2, lk_mem e⟩
theorem HpS.at (h : HpS z S l mp came n) {k : κ} {j : Int} (hj : lk mp k = some j) : ∃ i : Nat, j = i ∧ i < l.length ∧ (l.getD i z).key = k ∧ lk S k = some ((l.getD i z).one, (l.getD i z).two) := by
  have hm : k ∈ l.map HI.key := (h.ok.dm k).1 (by rw [hj]; rfl)
  obtain ⟨x, hx, rfl⟩ := List.mem_map.1 hm
  obtain ⟨i, hi, e⟩ := List.getElem_of_mem hx
  have e' : l.getD i z = x := by rw [getD_in hi, e]
  have := h.ok.pl i hi
  rw [e', hj] at this
  cases this
  refine ⟨i, rfl, hi, by rw [e'], ?_⟩
  rw [e']
  refine lk_of_mem h.nodup ?_
  obtain ⟨L, h1, _, rfl, _⟩ := h.row
  exact List.mem_map.2 ⟨x, h1.mem_iff.2 hx, rfl⟩
/-- The first of the row stands at the top. -/
theorem HpS.top (h : HpS z S l mp came n) (h0 : 0 < l.length) : ∃ S', S = (l.getD 0 z).kr :: S' := by
  obtain ⟨L, h1, h2, rfl, _⟩ := h.row
  cases L with
  | nil => have := h1.length_eq; simp at this; omega
  | cons a L =>
    refine ⟨L.map HI.kr, ?_⟩
    suffices a = l.getD 0 z by rw [this]; rfl
    have hm : l.getD 0 z ∈ a :: L := h1.mem_iff.2 (by rw [getD_in h0]; exact List.getElem_mem h0)
    rcases List.mem_cons.1 hm with e | e
    · exact e.symm
    · have h3 := (List.pairwise_cons.1 h2).1 _ e
      have ha : a ∈ l := h1.mem_iff.1 (List.mem_cons_self ..)
      obtain ⟨j, hj, e2⟩ := List.getElem_of_mem ha
      have := h.hp.least j hj
      rw [getD_in hj, e2] at this
      exact absurd h3 this
omit [DecidableEq κ] in
theorem HI.eq_of_sorted {A B : List (HI κ)} (h : A.Perm B) (ha : A.Pairwise HI.lt) (hb : B.Pairwise HI.lt) : A = B := by
  induction A generalizing B with
  | nil => exact (List.nil_perm.1 h).symm
  | cons a A ih =>
    cases B with
    | nil => exact absurd h (by simp)
    | cons b B =>
      have : a = b := by
        have m1 : a ∈ b :: B := h.mem_iff.1 (List.mem_cons_self ..)
        have m2 : b ∈ a :: A := h.mem_iff.2 (List.mem_cons_self ..)
        rcases List.mem_cons.1 m1 with e | e
        · exact e
        rcases List.mem_cons.1 m2 with e2 | e2
        · exact e2.symm
        exact absurd ((List.pairwise_cons.1 ha).1 _ e2) (HI.asymm ((List.pairwise_cons.1 hb).1 _ e))
      subst this
      rw [ih ((List.perm_cons a).1 h) (List.pairwise_cons.1 ha).2 (List.pairwise_cons.1 hb).2]
theorem hrem_kr (L : List (HI κ)) (k : κ) : hrem (L.map HI.kr) k = (L.filter fun y => y.key ≠ k).map HI.kr := by
  unfold hrem; rw [List.filter_map]; rfl
/-- The row, with a thing that came last. -/
def insI : List (HI κ) → HI κ → List (HI κ)
  | [], x => [x]
  | y :: L, x => if x.lt y then x :: y :: L else y :: insI L x
omit [DecidableEq κ] in
theorem insI_perm (L : List (HI κ)) (x : HI κ) : (insI L x).Perm (x :: L) := by
  induction L with
  | nil => exact .refl _
  | cons y L ih =>
    unfold insI; split
    · exact .refl _
    · exact (List.Perm.cons y ih).trans (List.Perm.swap x y L)
omit [DecidableEq κ] in
theorem insI_sorted {L : List (HI κ)} {x : HI κ} (h : L.Pairwise HI.lt) (hx : ∀ y ∈ L, y.came ≠ x.came) : (insI L x).Pairwise HI.lt := by
  induction L with
  | nil => exact List.pairwise_singleton _ _
  | cons y L ih =>
    obtain ⟨h1, h2⟩ := List.pairwise_cons.1 h
    unfold insI; split
    · rename_i q
      exact List.pairwise_cons.2 ⟨fun a ha => by
        rcases List.mem_cons.1 ha with e | e
        · exact e ▸ q
        · exact HI.tr q (h1 a e), h⟩
    · rename_i q
      refine List.pairwise_cons.2 ⟨fun a ha => ?_, ih h2 fun b hb => hx b (List.mem_cons_of_mem _ hb)⟩
      rcases List.mem_cons.1 ((insI_perm L x).mem_iff.1 ha) with e | e
      · subst e; exact (HI.tri (hx y (List.mem_cons_self ..))).resolve_right q
      · exact h1 a e
omit [DecidableEq κ] in
theorem insI_kr {L : List (HI κ)} {x : HI κ} (hx : ∀ y ∈ L, y.came < x.came) : (insI L x).map HI.kr = hins (L.map HI.kr) x.kr := by
  induction L with
  | nil => rfl
  | cons y L ih =>
    have hy := hx y (List.mem_cons_self ..)
    have e : x.lt y ↔ rlt x.kr y.kr := by unfold HI.lt rlt HI.kr; dsimp only; omega
    simp only [insI, List.map_cons, hins]
    by_cases q : x.lt y
    · rw [if_pos q, if_pos (e.1 q)]; rfl
    · rw [if_neg q, if_neg (fun q2 => q (e.2 q2)), List.map_cons, ih fun b hb => hx b (List.mem_cons_of_mem _ hb)]
/-- Set: behind settling. -/
theorem HpS.set (h : HpS z S l mp came n) {k : κ} {a b : Int} {l' : List (HI κ)} {mp' : List (κ × Int)} (hp : Hp z l') (ok : AtOK mp' z l') (hl : l'.Perm (⟨k, a, b, came + 1⟩ :: l.filter fun y => y.key ≠ k)) :
    HpS z (hset S (k, a, b)) l' mp' (came + 1) (n + 1) := by
  have c0 := h.c0; have cn := h.cn; have ln := h.ln
  obtain ⟨L, h1, h2, rfl, h3⟩ := h.row
  have hf := h1.filter fun y => decide (y.key ≠ k)
  have hlt : ∀ y ∈ L.filter (fun y => decide (y.key ≠ k)), y.came < (⟨k, a, b, came + 1⟩ : HI κ).came := fun y hy => by have := h3 y (List.mem_filter.1 hy).1; show y.came < came + 1; omega
  refine ⟨hp, ok, by omega, by omega, ?_, insI (L.filter fun y => decide (y.key ≠ k)) ⟨k, a, b, came + 1⟩, (insI_perm _ _).trans ((List.Perm.cons _ hf).trans hl.symm), ?_, ?_, ?_⟩
  · have := hl.length_eq
    have := List.length_filter_le (fun y : HI κ => decide (y.key ≠ k)) l
    simp only [List.length_cons] at *; omega
  · exact insI_sorted (h2.filter _) fun y hy => by have := hlt y hy; dsimp only at *; omega
  · rw [insI_kr hlt, ← hrem_kr]; rfl
  · intro y hy
    rcases List.mem_cons.1 ((insI_perm _ _).mem_iff.1 hy) with e | e
    · subst e; exact Int.le_refl _
    · have := hlt y e; dsimp only at this; omega
theorem HpS.remove (h : HpS z S l mp came n) {k : κ} {l' : List (HI κ)} {mp' : List (κ × Int)} (hp : Hp z l') (ok : AtOK mp' z l') (hl : l'.Perm (l.filter fun y => y.key ≠ k)) : HpS z (hrem S k) l' mp' came n := by
  have ln := h.ln
  obtain ⟨L, h1, h2, rfl, h3⟩ := h.row
  have hf := h1.filter fun y => decide (y.key ≠ k)
  refine ⟨hp, ok, h.c0, h.cn, ?_, L.filter fun y => decide (y.key ≠ k), hf.trans hl.symm, h2.filter _, hrem_kr L k, fun y hy => h3 y (List.mem_filter.1 hy).1⟩
  have := hl.length_eq
  have := List.length_filter_le (fun y : HI κ => decide (y.key ≠ k)) l
  omega
end
section
variable {κ : Type} [DecidableEq κ] {z : HI κ} {l m l0 : List (HI κ)} {mp : List (κ × Int)} {i p c : Nat} {x y : HI κ} {k : κ} {S : List (KR κ)} {came : Int} {n : Nat}
theorem perm_off (hp : (y :: m).Perm l) (hk : y.key = k) (kd : (l.map HI.key).Nodup) : m.Perm (l.filter fun y => y.key ≠ k) := by
  have h1 := (hp.map HI.key).nodup_iff.2 kd
  rw [List.map_cons, List.nodup_cons, hk] at h1
  have h2 := hp.filter fun y => decide (y.key ≠ k)
  rw [List.filter_cons_of_neg (by simp [hk]), List.filter_eq_self.2] at h2
  · exact h2
  · intro a ha; simp only [decide_eq_true_eq]; intro e; exact h1.1 (List.mem_map.2 ⟨a, ha, e⟩)
theorem perm_set (hi : i < l.length) (hk : (l.getD i z).key = k) (kd : (l.map HI.key).Nodup) (x : HI κ) : (l.set i x).Perm (x :: l.filter fun y => y.key ≠ k) := by
  have h1 : (l.getD i z :: (l.take i ++ l.drop (i + 1))).Perm l := by
    rw [getD_in hi]
    refine List.perm_middle.symm.trans ?_
    rw [List.getElem_cons_drop, List.take_append_drop]
  have h2 : (x :: (l.take i ++ l.drop (i + 1))).Perm (l.set i x) := by
    refine List.perm_middle.symm.trans ?_
    rw [List.set_eq_take_append_cons_drop, if_pos hi]
  exact h2.symm.trans (List.Perm.cons x (perm_off h1 hk kd))
theorem perm_add (hk : k ∉ l.map HI.key) (x : HI κ) : (l ++ [x]).Perm (x :: l.filter fun y => y.key ≠ k) := by
  rw [List.filter_eq_self.2 (fun a ha => by simp only [decide_eq_true_eq]; intro e; exact hk (List.mem_map.2 ⟨a, ha, e⟩))]
  exact List.perm_append_singleton x l
/-- Ahead of settling: a thing of the same key at its place. -/
theorem HpS.at_set (h : HpS z S l mp came n) (hi : i < l.length) (hk : x.key = (l.getD i z).key) : SI z (l.set i x) i ∧ AtH (put mp x.key (i : Int)) z (l.set i x) i := by
  have hkey : (l.set i x).map HI.key = l.map HI.key := by
    rw [List.map_set, hk, getD_in hi]
    have : l[i].key = (l.map HI.key)[i]'(by simpa using hi) := by simp
    rw [this, List.set_getElem_self]
  refine ⟨⟨by simpa using hi, fun j h1 h2 h3 h4 => ?_, fun h0 j h1 h2 h3 => ?_⟩, ⟨nodup_put h.ok.nd _ _, by rw [hkey]; exact h.ok.kd, fun j hj hji => ?_, fun q => ?_⟩⟩
  · unfold Okp; rw [gset _ _ _ _ _ hi, gset _ _ _ _ _ hi, if_neg (Ne.symm h3), if_neg (Ne.symm h4)]
    exact h.hp j h1 (by simpa using h2)
  · rw [gset _ _ _ _ _ hi, gset _ _ _ _ _ hi, if_neg (by omega), if_neg (by omega)]
    have a1 := h.hp j h1 (by simpa using h2)
    have a2 := h.hp i h0 hi
    unfold Okp at a1 a2
    rw [h3] at a1
    exact HI.le_tr a2 a1
  · have hj' : j < l.length := by simpa using hj
    rw [gset _ _ _ _ _ hi, if_neg (Ne.symm hji), lk_put, if_neg (fun e => hji (key_inj h.ok.kd hj' hi (by rw [e, hk]))), h.ok.pl j hj']
  · rw [hkey, lk_put, ← h.ok.dm]
    split
    · rename_i e; subst e; simp; rw [hk]; exact (h.ok.dm _).2 (key_mem hi)
    · rfl
theorem HpS.at_add (h : HpS z S l mp came n) (hk : x.key ∉ l.map HI.key) : SI z (l ++ [x]) l.length ∧ AtH (put mp x.key (l.length : Int)) z (l ++ [x]) l.length := by
  have g : ∀ j, j < l.length → (l ++ [x]).getD j z = l.getD j z := fun j hj => by simp only [List.getD_eq_getElem?_getD, List.getElem?_append_left hj]
  refine ⟨⟨by simp, fun j h1 h2 h3 h4 => ?_, fun h0 j h1 h2 h3 => ?_⟩, ⟨nodup_put h.ok.nd _ _, ?_, fun j hj hji => ?_, fun q => ?_⟩⟩
  · simp at h2
    unfold Okp; rw [g j (by omega), g _ (by omega)]
    exact h.hp j h1 (by omega)
  · simp at h2; omega
  · rw [List.map_append, List.map_singleton]
    exact List.nodup_append.2 ⟨h.ok.kd, by simp, fun a ha b hb => by simp at hb; subst hb; exact fun e => hk (e ▸ ha)⟩
  · simp at hj
    have hj' : j < l.length := by omega
    rw [g j hj', lk_put, if_neg (fun e => hk (by rw [← e]; exact key_mem hj')), h.ok.pl j hj']
  · rw [List.map_append, List.map_singleton, List.mem_append, List.mem_singleton, lk_put, ← h.ok.dm]
    by_cases e : q = x.key
    · subst e; simp
    · simp [e]
/-- Without the last one, which fills the place i. -/
theorem HpS.at_fill (h : HpS z S l mp came n) (hi : i < l.length - 1) (hk : (l.getD i z).key = k) :
    SI z ((l.take (l.length - 1)).set i (l.getD (l.length - 1) z)) i ∧ AtH (put (del mp k) (l.getD (l.length - 1) z).key (i : Int)) z ((l.take (l.length - 1)).set i (l.getD (l.length - 1) z)) i ∧
    ((l.take (l.length - 1)).set i (l.getD (l.length - 1) z)).Perm (l.filter fun y => y.key ≠ k) := by
  have hi' : i < (l.take (l.length - 1)).length := by simp; omega
  have g : ∀ j, j < l.length - 1 → (l.take (l.length - 1)).getD j z = l.getD j z := fun j hj => by
    simp only [List.getD_eq_getElem?_getD, List.getElem?_take, if_pos hj]
  have gl : (l.take (l.length - 1)).length = l.length - 1 := by simp
  have hpm : ((l.take (l.length - 1)).set i (l.getD (l.length - 1) z)).Perm (l.filter fun y => y.key ≠ k) := by
    refine perm_off (y := l.getD i z) ?_ hk h.ok.kd
    have h1 := sw_perm (z := z) (l := l) (i := i) (p := l.length - 1) (by omega) (by omega)
    refine List.Perm.trans ?_ h1
    refine (List.perm_append_singleton _ _).symm.trans ?_
    suffices (l.take (l.length - 1)).set i (l.getD (l.length - 1) z) ++ [l.getD i z] = sw z l i (l.length - 1) by rw [this]
    refine List.ext_getElem (by simp [sw]; omega) fun j q1 q2 => ?_
    rw [sw_len] at q2
    have hsg := sw_get (z := z) (l := l) (i := i) (p := l.length - 1) (by omega) (by omega) j
    rw [getD_in (by rw [sw_len]; exact q2)] at hsg
    rw [hsg]
    by_cases e : l.length - 1 = j
    · rw [if_pos e, List.getElem_append_right (by simp; omega)]; simp
    · rw [if_neg e, List.getElem_append_left (by simp; omega), List.getElem_set]
      by_cases e2 : i = j
      · rw [if_pos e2, if_pos e2]
      · rw [if_neg e2, if_neg e2, List.getElem_take, getD_in q2]
  have hfd : ((l.filter fun y => decide (y.key ≠ k)).map HI.key).Nodup := (h.ok.kd.sublist (List.filter_sublist.map _))
  refine ⟨⟨by simpa using hi', fun j h1 h2 h3 h4 => ?_, fun h0 j h1 h2 h3 => ?_⟩, ⟨nodup_put (nodup_del h.ok.nd _) _ _, (hpm.map HI.key).nodup_iff.2 hfd, fun j hj hji => ?_, fun q => ?_⟩, hpm⟩
  · have h2' : j < l.length - 1 := by simpa using h2
    unfold Okp; rw [gset _ _ _ _ _ hi', gset _ _ _ _ _ hi', if_neg (Ne.symm h3), if_neg (Ne.symm h4), g _ h2', g _ (by omega)]
    exact h.hp j h1 (by omega)
  · have h2' : j < l.length - 1 := by simpa using h2
    rw [gset _ _ _ _ _ hi', gset _ _ _ _ _ hi', if_neg (by omega), if_neg (by omega), g _ h2', g _ (by omega)]
    have a1 := h.hp j h1 (by omega)
    have a2 := h.hp i h0 (by omega)
    unfold Okp at a1 a2
    rw [h3] at a1
    exact HI.le_tr a2 a1
  · have hj' : j < l.length - 1 := by simpa using hj
    rw [gset _ _ _ _ _ hi', if_neg (Ne.symm hji), g _ hj', lk_put, if_neg (fun e => by have := key_inj h.ok.kd (show j < l.length by omega) (show l.length - 1 < l.length by omega) e; omega), lk_del h.ok.nd,
      if_neg (fun e => hji (key_inj h.ok.kd (show j < l.length by omega) (show i < l.length by omega) (e.trans hk.symm))), h.ok.pl j (by omega)]
  · have hl1 : (l.getD (l.length - 1) z).key ≠ k := fun e => by have := key_inj h.ok.kd (show l.length - 1 < l.length by omega) (show i < l.length by omega) (e.trans hk.symm); omega
    have hm : q ∈ (l.filter fun y => decide (y.key ≠ k)).map HI.key ↔ q ≠ k ∧ q ∈ l.map HI.key := by
      simp only [List.mem_map, List.mem_filter, decide_eq_true_eq]
      constructor
      · rintro ⟨a, ⟨h1, h2⟩, rfl⟩; exact ⟨h2, a, h1, rfl⟩
      · rintro ⟨h1, a, h2, rfl⟩; exact ⟨a, ⟨h2, h1⟩, rfl⟩
    rw [(hpm.map HI.key).mem_iff, hm, ← h.ok.dm, lk_put, lk_del h.ok.nd]
    by_cases e1 : q = (l.getD (l.length - 1) z).key
    · subst e1
      rw [if_pos rfl]
      simp only [Option.isSome_some, true_iff]
      exact ⟨hl1, (h.ok.dm _).2 (key_mem (by omega))⟩
    · rw [if_neg e1]
      by_cases e2 : q = k
      · simp [e2]
      · simp [e2]
theorem HpS.at_last (h : HpS z S l mp came n) (h0 : 0 < l.length) (hk : (l.getD (l.length - 1) z).key = k) :
    Hp z (l.take (l.length - 1)) ∧ AtOK (del mp k) z (l.take (l.length - 1)) ∧ (l.take (l.length - 1)).Perm (l.filter fun y => y.key ≠ k) := by
  have g : ∀ j, j < l.length - 1 → (l.take (l.length - 1)).getD j z = l.getD j z := fun j hj => by
    simp only [List.getD_eq_getElem?_getD, List.getElem?_take, if_pos hj]
  have hpm : (l.take (l.length - 1)).Perm (l.filter fun y => y.key ≠ k) := by
    refine perm_off (y := l.getD (l.length - 1) z) ?_ hk h.ok.kd
    refine (List.perm_append_singleton _ _).symm.trans ?_
    suffices l.take (l.length - 1) ++ [l.getD (l.length - 1) z] = l by rw [this]
    rw [getD_in (by omega), List.take_append_getElem (by omega)]
    exact List.take_of_length_le (by omega)
  have hfd : ((l.filter fun y => decide (y.key ≠ k)).map HI.key).Nodup := (h.ok.kd.sublist (List.filter_sublist.map _))
  refine ⟨fun j h1 h2 => ?_, ⟨nodup_del h.ok.nd _, (hpm.map HI.key).nodup_iff.2 hfd, fun j hj => ?_, fun q => ?_⟩, hpm⟩
  · have h2' : j < l.length - 1 := by simpa using h2
    unfold Okp; rw [g _ h2', g _ (by omega)]; exact h.hp j h1 (by omega)
  · have hj' : j < l.length - 1 := by simpa using hj
    rw [g _ hj', lk_del h.ok.nd, if_neg (fun e => by have := key_inj h.ok.kd (show j < l.length by omega) (show l.length - 1 < l.length by omega) (e.trans hk.symm); omega), h.ok.pl j (by omega)]
  · have hm : q ∈ (l.filter fun y => decide (y.key ≠ k)).map HI.key ↔ q ≠ k ∧ q ∈ l.map HI.key := by
      simp only [List.mem_map, List.mem_filter, decide_eq_true_eq]
      constructor
      · rintro ⟨a, ⟨h1, h2⟩, rfl⟩; exact ⟨h2, a, h1, rfl⟩
      · rintro ⟨h1, a, h2, rfl⟩; exact ⟨a, ⟨h2, h1⟩, rfl⟩
    rw [(hpm.map HI.key).mem_iff, hm, ← h.ok.dm, lk_del h.ok.nd]
    by_cases e2 : q = k
    · simp [e2]
    · simp [e2]
end
end Go.Proofs.YtnijaeipkbpibaaDoor
