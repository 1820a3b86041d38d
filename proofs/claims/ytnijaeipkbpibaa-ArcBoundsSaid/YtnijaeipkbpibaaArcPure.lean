/- Package arc as plain functions: what holds whatever is asked. -/
import Derived.Test.YtnijaeipkbpibaaArcW
import Derived.Test.YtnijaeipkbpibaaRowPure
set_option linter.unusedVariables false
namespace Go.Proofs.Ytnijaeipkbpibaa
variable {most p : Int} {t1 t2 b1 b2 : LB} {key : ByteArray}

abbrev Four := LB × LB × LB × LB × ByteArray × Bool
/-- Room is made by one who goes as a ghost, or there was some. -/
def Room (most : Int) (t1 t2 b1 b2 : LB) (x : Four) : Prop :=
  (x = (t1, t2, b1, b2, ⟨#[]⟩, false) ∧ (t1.length : Int) + t2.length < most) ∨
  (x = (t1.dropLast, t2, fr b1 (lastOf t1), b2, lastOf t1, true) ∧ 0 < t1.length ∧ most ≤ (t1.length : Int) + t2.length) ∨
  (x = (t1, t2.dropLast, b1, fr b2 (lastOf t2), lastOf t2, true) ∧ 0 < t2.length ∧ most ≤ (t1.length : Int) + t2.length)
theorem room_F (h : 0 < most) : Room most t1 t2 b1 b2 (arcRoomF most p t1 t2 b1 b2) := by
  unfold arcRoomF
  have e : arcLen most p t1 t2 b1 b2 = (t1.length : Int) + t2.length := rfl
  rw [e]
  by_cases hl : (t1.length : Int) + t2.length < most
  · rw [if_pos hl]; exact .inl ⟨rfl, hl⟩
  rw [if_neg hl]
  unfold arcYieldF
  by_cases hc : (t1.length : Int) > 0 ∧ ((t1.length : Int) > p ∨ (t2.length : Int) = 0)
  · have h0 : 0 < t1.length := by omega
    simp only [if_pos hc, if_pos h0, decide_eq_true h0]
    exact .inr (.inl ⟨rfl, h0, by omega⟩)
  · have h0 : 0 < t2.length := by omega
    simp only [if_neg hc, if_pos h0, decide_eq_true h0]
    exact .inr (.inr ⟨rfl, h0, by omega⟩)
theorem room_T (h : 0 < most) : Room most t1 t2 b1 b2 (arcRoomT most p t1 t2 b1 b2) := by
  unfold arcRoomT
  have e : arcLen most p t1 t2 b1 b2 = (t1.length : Int) + t2.length := rfl
  rw [e]
  by_cases hl : (t1.length : Int) + t2.length < most
  · rw [if_pos hl]; exact .inl ⟨rfl, hl⟩
  rw [if_neg hl]
  unfold arcYieldT
  by_cases hc : (t1.length : Int) > 0 ∧ ((t1.length : Int) > p ∨ (t1.length : Int) = p ∨ (t2.length : Int) = 0)
  · have h0 : 0 < t1.length := by omega
    simp only [if_pos hc, if_pos h0, decide_eq_true h0]
    exact .inr (.inl ⟨rfl, h0, by omega⟩)
  · have h0 : 0 < t2.length := by omega
    simp only [if_neg hc, if_pos h0, decide_eq_true h0]
    exact .inr (.inr ⟨rfl, h0, by omega⟩)
/-- No key is there twice. -/
def Apart (t1 t2 b1 b2 : LB) : Prop := ∀ k, cn t1 k + cn t2 k + cn b1 k + cn b2 k ≤ 1
structure RoomS (most : Int) (t1 t2 b1 b2 : LB) (x : Four) : Prop where
  apart : Apart x.1 x.2.1 x.2.2.1 x.2.2.2.1
  len : (x.1.length : Int) + x.2.1.length < most
  l1 : x.1.length + x.2.2.1.length = t1.length + b1.length
  l2 : x.2.1.length + x.2.2.2.1.length = t2.length + b2.length
  le : x.1.length ≤ t1.length ∧ x.2.1.length ≤ t2.length
  res : ∀ k, cn x.1 k + cn x.2.1 k = cn t1 k + cn t2 k - if x.2.2.2.2.2 = true ∧ k = x.2.2.2.2.1 then 1 else 0
  gho : ∀ k, cn x.2.2.1 k = cn b1 k + (if x.2.2.2.2.2 = true ∧ k = x.2.2.2.2.1 then cn t1 k else 0) ∧ cn x.2.2.2.1 k = cn b2 k + (if x.2.2.2.2.2 = true ∧ k = x.2.2.2.2.1 then cn t2 k else 0)
  out : x.2.2.2.2.2 = true → 0 < cn t1 x.2.2.2.2.1 + cn t2 x.2.2.2.2.1
theorem Room.spec {x : Four} (h : Room most t1 t2 b1 b2 x) (hN : Apart t1 t2 b1 b2) (hl : (t1.length : Int) + t2.length ≤ most) : RoomS most t1 t2 b1 b2 x := by
  rcases h with ⟨rfl, h1⟩ | ⟨rfl, h0, h1⟩ | ⟨rfl, h0, h1⟩
  · exact ⟨hN, h1, rfl, rfl, ⟨Nat.le_refl _, Nat.le_refl _⟩, fun k => by simp, fun k => by simp, fun q => by simp at q⟩
  · have c1 := cn_last h0
    have n1 := hN (lastOf t1)
    have f1 := len_fr b1 (lastOf t1)
    have d1 := len_dl t1
    refine ⟨fun k => ?_, ?_, ?_, rfl, ⟨by dsimp only; omega, Nat.le_refl _⟩, fun k => ?_, fun k => ?_, fun _ => ?_⟩
    · have := hN k; have e := cn_dl h0 k
      simp only [cn_fr]
      by_cases q : k = lastOf t1
      · subst q; simp only [eq_self, if_true] at *; omega
      · rw [if_neg q] at *; omega
    · dsimp only; omega
    · dsimp only; omega
    · have := hN k; have e := cn_dl h0 k
      by_cases q : k = lastOf t1
      · subst q; simp only [eq_self, and_self, if_true] at *; omega
      · simp only [q, and_false, if_false] at *; omega
    · have := hN k; have e := cn_dl h0 k
      simp only [cn_fr]
      by_cases q : k = lastOf t1
      · subst q; simp only [and_self, if_true]; constructor <;> omega
      · simp only [q, and_false, if_false]; omega
    · dsimp only; omega
  · have c1 := cn_last h0
    have n1 := hN (lastOf t2)
    have f1 := len_fr b2 (lastOf t2)
    have d1 := len_dl t2
    refine ⟨fun k => ?_, ?_, rfl, ?_, ⟨Nat.le_refl _, by dsimp only; omega⟩, fun k => ?_, fun k => ?_, fun _ => ?_⟩
    · have := hN k; have e := cn_dl h0 k
      simp only [cn_fr]
      by_cases q : k = lastOf t2
      · subst q; simp only [eq_self, if_true] at *; omega
      · rw [if_neg q] at *; omega
    · dsimp only; omega
    · dsimp only; omega
    · have := hN k; have e := cn_dl h0 k
      by_cases q : k = lastOf t2
      · subst q; simp only [eq_self, and_self, if_true] at *; omega
      · simp only [q, and_false, if_false] at *; omega
    · have := hN k; have e := cn_dl h0 k
      simp only [cn_fr]
      by_cases q : k = lastOf t2
      · subst q; simp only [and_self, if_true]; constructor <;> omega
      · simp only [q, and_false, if_false]; omega
    · dsimp only; omega
/-- The share, from B1 and from B2. -/
def arcUp (most p : Int) (b1 b2 : LB) : Int := if p + (if (b2.length : Int) / (b1.length : Int) > 1 then (b2.length : Int) / (b1.length : Int) else 1) < most then p + (if (b2.length : Int) / (b1.length : Int) > 1 then (b2.length : Int) / (b1.length : Int) else 1) else most
def arcDn (p : Int) (b1 b2 : LB) : Int := if p - (if (b1.length : Int) / (b2.length : Int) > 1 then (b1.length : Int) / (b2.length : Int) else 1) > 0 then p - (if (b1.length : Int) / (b2.length : Int) > 1 then (b1.length : Int) / (b2.length : Int) else 1) else 0
theorem arcUp_le (h : p ≤ most) (h0 : 0 ≤ p) : p ≤ arcUp most p b1 b2 ∧ arcUp most p b1 b2 ≤ most ∧ (p < arcUp most p b1 b2 ∨ p = most) := by
  unfold arcUp
  generalize (b2.length : Int) / (b1.length : Int) = q
  split <;> split at * <;> omega
theorem arcDn_le (h0 : 0 ≤ p) : arcDn p b1 b2 ≤ p ∧ 0 ≤ arcDn p b1 b2 ∧ (arcDn p b1 b2 < p ∨ p = 0) := by
  unfold arcDn
  generalize (b1.length : Int) / (b2.length : Int) = q
  split <;> split at * <;> omega
theorem arcReq_zero (h : most = 0) : arcReq most p t1 t2 b1 b2 key = (p, t1, t2, b1, b2, decide (key ∈ t1 ∨ key ∈ t2), ⟨#[]⟩, false) := by
  unfold arcReq
  by_cases h1 : key ∈ t1
  · simp [h1, h]
  by_cases h2 : key ∈ t2
  · simp [h1, h2, h]
  by_cases h3 : key ∈ b1
  · simp [h1, h2, h3, h]
  by_cases h4 : key ∈ b2 <;> simp [h1, h2, h3, h4, h]
theorem arcReq_t1 (h : most ≠ 0) (h1 : key ∈ t1) : arcReq most p t1 t2 b1 b2 key = (p, rm t1 key, fr t2 key, b1, b2, true, ⟨#[]⟩, false) := by
  unfold arcReq; rw [if_pos h1, if_neg h]
theorem arcReq_t2 (h : most ≠ 0) (h1 : key ∉ t1) (h2 : key ∈ t2) : arcReq most p t1 t2 b1 b2 key = (p, t1, fr (rm t2 key) key, b1, b2, true, ⟨#[]⟩, false) := by
  unfold arcReq; rw [if_neg h1, if_pos h2, if_neg h]
theorem arcReq_b1 (h : most ≠ 0) (h1 : key ∉ t1) (h2 : key ∉ t2) (h3 : key ∈ b1) {x} (hx : arcRoomF most (arcUp most p b1 b2) t1 t2 b1 b2 = x) : arcReq most p t1 t2 b1 b2 key = (arcUp most p b1 b2, x.1, fr x.2.1 key, rm x.2.2.1 key, x.2.2.2.1, false, x.2.2.2.2.1, x.2.2.2.2.2) := by
  subst hx; unfold arcReq; rw [if_neg h1, if_neg h2, if_pos h3, if_neg h]; rfl
theorem arcReq_b2 (h : most ≠ 0) (h1 : key ∉ t1) (h2 : key ∉ t2) (h3 : key ∉ b1) (h4 : key ∈ b2) {x} (hx : arcRoomT most (arcDn p b1 b2) t1 t2 b1 b2 = x) : arcReq most p t1 t2 b1 b2 key = (arcDn p b1 b2, x.1, fr x.2.1 key, x.2.2.1, rm x.2.2.2.1 key, false, x.2.2.2.2.1, x.2.2.2.2.2) := by
  subst hx; unfold arcReq; rw [if_neg h1, if_neg h2, if_neg h3, if_pos h4, if_neg h]; rfl
theorem arcReq_new (h : most ≠ 0) (h1 : key ∉ t1) (h2 : key ∉ t2) (h3 : key ∉ b1) (h4 : key ∉ b2) {x} (hx : arcFresh most p t1 t2 b1 b2 = x) : arcReq most p t1 t2 b1 b2 key = (p, fr x.1 key, x.2.1, x.2.2.1, x.2.2.2.1, false, x.2.2.2.2.1, x.2.2.2.2.2) := by
  subst hx; unfold arcReq; rw [if_neg h1, if_neg h2, if_neg h3, if_neg h4, if_neg h]
theorem arcHas_eq : arcHas most p t1 t2 b1 b2 key = decide (key ∈ t1 ∨ key ∈ t2) := by
  unfold arcHas
  by_cases h1 : key ∈ t1
  · simp [h1]
  by_cases h2 : key ∈ t2
  · simp [h1, h2]
  by_cases h3 : key ∈ b1 <;> by_cases h4 : key ∈ b2 <;> simp [h1, h2, h3, h4]
theorem arcNew_nn {m : Int} (h : 0 ≤ m) : arcNew m = (m, 0, [], [], [], []) := by unfold arcNew; rw [if_neg (by omega)]
end Go.Proofs.Ytnijaeipkbpibaa
