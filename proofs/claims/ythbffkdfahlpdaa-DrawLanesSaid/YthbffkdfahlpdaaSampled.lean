/- What is sampled: by package draw, and by the reference. -/
import Derived.Test.YthbffkdfahlpdaaHashB
set_option linter.unusedVariables false
namespace Go.Proofs.Ythbffkdfahlpdaa
open Go.RowKit Go.MapKept

def sampled (h : Nat) (i : Int) : Bool := decide (i ≤ 0 ∨ h < 2 ^ (64 - i).toNat)
theorem div_zero (h m : Nat) : ((h : Int) / 2 ^ m == 0) = decide (h < 2 ^ m) := by
  have e : (h : Int) / 2 ^ m = ((h / 2 ^ m : Nat) : Int) := by rw [Int.natCast_ediv, Int.natCast_pow]; rfl
  rw [e, Bool.eq_iff_iff, beq_iff_eq, decide_eq_true_iff]
  have := Nat.div_eq_zero_iff_lt (x := h) (Nat.two_pow_pos m)
  rw [← this]
  omega
theorem sampled_mono {h : Nat} {i j : Int} (hij : j ≤ i) (hs : sampled h i = true) : sampled h j = true := by
  unfold sampled at *
  rw [decide_eq_true_iff] at *
  rcases hs with hs | hs
  · exact .inl (by omega)
  · exact .inr (Nat.lt_of_lt_of_le hs (Nat.pow_le_pow_right (by decide) (by omega)))

set_option maxHeartbeats 1600000 in
set_option maxRecDepth 100000 in
theorem draw_Sampled (key : ByteArray) (hk : key.size ≤ 1000000) (i : Int) (hi : -9223372036854775808 ≤ i ∧ i ≤ 9223372036854775807) (w : World) :
    Calls Try.prog 25 #[.string key, .int .i64 i] w fun e w' => e = .returned (.bool (sampled (hashOf key) i)) ∧ Mod Nil w w' := by
  have hh := hashOf_lt key
  have HC := hid (draw_Hash key hk w)
  by_cases h0 : i ≤ 0
  · have e : sampled (hashOf key) i = true := by unfold sampled; simp [h0]
    rw [e]
    go_enter Try.func25, Try.ntmps25
    go_wp2
    go_ret
    exact ⟨rfl, Mod.refl _ _⟩
  · have e : sampled (hashOf key) i = decide (hashOf key < 2 ^ (64 - i).toNat) := by unfold sampled; simp [h0]
    rw [e]
    clear e
    generalize hashOf key = x at *
    by_cases h1 : i ≤ 64
    · have E := hid (div_zero x (64 - i).toNat)
      go_enter Try.func25, Try.ntmps25
      go_wp2_with fail
      with_reducible refine HC.out.mono ?_
      rintro e w1 ⟨rfl, hm⟩
      have HM := hid hm
      clear hm
      go_wp2
      go_ret
      exact ⟨ret_bool E.out, HM.out⟩
    · have E := hid (div_zero x 0)
      have em : (64 - i).toNat = 0 := by omega
      rw [em]
      clear em
      go_enter Try.func25, Try.ntmps25
      go_wp2_with fail
      with_reducible refine HC.out.mono ?_
      rintro e w1 ⟨rfl, hm⟩
      have HM := hid hm
      clear hm
      go_wp2
      go_ret
      exact ⟨ret_bool (by rw [Bool.eq_iff_iff, beq_iff_eq, decide_eq_true_iff, Nat.pow_zero]; omega), HM.out⟩

theorem lt_two {x m : Nat} (hm : m ≤ 64) : x * 2 ^ m < 18446744073709551616 ↔ x < 2 ^ (64 - m) := by
  have e : (18446744073709551616 : Nat) = 2 ^ (64 - m) * 2 ^ m := by rw [← Nat.pow_add, Nat.sub_add_cancel hm]
  rw [e]
  exact Nat.mul_lt_mul_right (Nat.two_pow_pos m)

set_option maxHeartbeats 1600000 in
set_option maxRecDepth 100000 in
theorem ref02_Sampled (key : ByteArray) (hk : key.size ≤ 1000000) (i : Int) (hi : -9223372036854775808 ≤ i ∧ i ≤ 9223372036854775807) (w : World) :
    Calls Try.prog 26 #[.string key, .int .i64 i] w fun e w' => e = .returned (.bool (sampled (hashOf key) i)) ∧ w = w' := by
  have hh := hashOf_lt key
  have HC := hid (ref02_Hash key hk w)
  by_cases h0 : i < 1
  · have e : sampled (hashOf key) i = true := by unfold sampled; simp [show i ≤ 0 by omega]
    rw [e]
    go_enter Try.func26, Try.ntmps26
    go_wp2
    go_ret
    exact ⟨rfl, rfl⟩
  · obtain ⟨m, hm⟩ : ∃ m : Nat, m = min i.toNat 64 := ⟨_, rfl⟩
    have hmv : m ≤ 64 ∧ (m : Int) ≤ i ∧ (m = 64 ∨ (m : Int) = i) := by rw [hm]; omega
    have e : sampled (hashOf key) i = decide (hashOf key * 2 ^ m < 18446744073709551616) := by
      have q : (64 - i).toNat = 64 - m := by omega
      unfold sampled
      rw [q, Bool.eq_iff_iff, decide_eq_true_iff, decide_eq_true_iff, lt_two hmv.1]
      exact ⟨fun q => q.resolve_left (by omega), .inr⟩
    rw [e]
    clear e hm
    generalize hashOf key = x at *
    obtain ⟨r, hr⟩ : ∃ r, decide (x * 2 ^ m < 18446744073709551616) = r := ⟨_, rfl⟩
    rw [hr]
    have HR := hid hr
    clear hr
    have hx0 : x * 2 ^ 0 = x := by rw [Nat.pow_zero, Nat.mul_one]
    go_enter Try.func26, Try.ntmps26
    go_wp2_with fail
    with_reducible refine HC.out.mono ?_
    rintro e w1 ⟨rfl, rfl⟩
    clear HC
    go_wp2_with fail
    go_loopw [5, 6] (fun vh vi wr => ∃ k y : Nat, k ≤ m ∧ vi = .int .i64 k ∧ vh = .int .u64 y ∧ y = x * 2 ^ k ∧ y < 18446744073709551616 ∧ wr = w) (fun _ vi _ => 64 - (intOf vi).toNat)
    case atStart => exact ⟨0, x, by omega, rfl, rfl, hx0.symm, hh, rfl⟩
    case round =>
      obtain ⟨k, y, hk2, rfl, rfl, hy, hlt, rfl⟩ := hrel
      have h2 : x * 2 ^ (k + 1) = 2 * y := by rw [Nat.pow_succ, ← Nat.mul_assoc, ← hy, Nat.mul_comm]
      have HY := hid hy; have H2 := hid h2
      clear hy h2 hx0
      by_cases hkm : k < m
      · have hk3 : (k : Int) < i := by omega
        have hk4 : (k : Int) < 64 := by omega
        by_cases hb : y < 9223372036854775808
        · have hbi : (y : Int) < 9223372036854775808 := by omega
          have HB := hid hb
          clear hb hlt hh
          obtain ⟨Y, hY⟩ : ∃ Y : Int, (y : Int) = Y := ⟨_, rfl⟩
          have hY0 : 0 ≤ Y := by omega
          rw [hY] at hbi ⊢
          have HYY := hid hY
          clear hY
          go_wp2_with fail
          go_roundw
          case rel => exact ⟨k + 1, 2 * y, by omega, by go_num, congrArg (Value.int .u64) (by have := HYY.out; omega), H2.out.symm, by have := HB.out; omega, trivial⟩
          case measure => simp [intOf]; omega
        · have hmono : 2 * y ≤ x * 2 ^ m := by rw [← H2.out]; exact Nat.mul_le_mul_left _ (Nat.pow_le_pow_right (by decide) (by omega))
          have HD := hid (HR.out.symm.trans (decide_eq_false (show ¬ x * 2 ^ m < 18446744073709551616 by omega)))
          have hbi : (9223372036854775808 : Int) ≤ (y : Int) := by omega
          clear hmono HY H2 HR hb hlt hh
          go_wp2
          go_ret
          exact ⟨ret_bool HD.out.symm, rfl⟩
      · have hkm2 : k = m := by omega
        subst hkm2
        have HD := hid (HR.out.symm.trans (decide_eq_true (show x * 2 ^ k < 18446744073709551616 by rw [← HY.out]; exact hlt)))
        clear HY H2 HR
        by_cases hk3 : (k : Int) < i
        · go_wp2
          go_ret
          exact ⟨ret_bool HD.out.symm, rfl⟩
        · go_wp2
          go_ret
          exact ⟨ret_bool HD.out.symm, rfl⟩
end Go.Proofs.Ythbffkdfahlpdaa
