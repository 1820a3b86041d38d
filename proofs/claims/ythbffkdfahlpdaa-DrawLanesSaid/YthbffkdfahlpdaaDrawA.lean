/- The walks of DrawHashes, DrawSamples, DrawPicks, DrawCopies: what came in is read alone; true. -/
import Derived.Test.YthbffkdfahlpdaaDraw
import Derived.Deep.RegionHeld3
import Derived.Deep.DrawnRows
set_option linter.unusedVariables false
namespace Go.Proofs.Ythbffkdfahlpdaa
open Go.RowKit Go.MapKept
attribute [local go_sem ↓] Go.wp_at_zero Go.wp_at_succ

theorem i64_range {a : Int} (h : (Lit.int .i64 a).wf = true) : -9223372036854775808 ≤ a ∧ a ≤ 9223372036854775807 := by
  simp [Lit.wf] at h; exact h
theorem u64_range {a : Int} (h : (Lit.int .u64 a).wf = true) : 0 ≤ a ∧ a < 18446744073709551616 := by
  simp [Lit.wf] at h; have := h.1; have := h.2; simp [IntKind.min, IntKind.max, IntKind.signed, IntKind.bits] at *; omega
theorem u8_range {a : Int} (h : (Lit.int .u8 a).wf = true) : 0 ≤ a ∧ a < 256 := by
  simp [Lit.wf] at h; have := h.1; have := h.2; simp [IntKind.min, IntKind.max, IntKind.signed, IntKind.bits] at *; omega

set_option maxHeartbeats 1600000 in
set_option maxRecDepth 100000 in
theorem drawHashes_walk (s : ByteArray) (i : Int) (w : World) (hs : s.size ≤ maxLen) (hi : (Lit.int .i64 i).wf = true) :
    Calls Try.prog 4 #[.string s, .int .i64 i] w fun e w' => e = .returned (.bool true) ∧ Below w.heap.size w w' := by
  have hi' := i64_range hi
  unfold maxLen at hs
  clear hi
  by_cases h3 : s.size ≤ 500
  · clear hs
    go_enter Try.func4, Try.ntmps4
    go_wp2_with fail
    with_reducible refine (draw_awake w).mono ?_
    rintro e w1 ⟨rfl, hm1⟩
    have HB := hid ((Home.start none0 w).made 0 hm1)
    clear hm1
    have c1 := d_Hash s (by omega)
    have c2 := ref02_Hash s (by omega)
    have c3 := d_Sampled s (by omega) i hi'
    have c4 := ref02_Sampled s (by omega) i hi'
    generalize sampled (hashOf s) i = B at c3 c4
    generalize hashOf s = A at c1 c2
    have C1 := hid c1; have C2 := hid c2; have C3 := hid c3; have C4 := hid c4
    clear c1 c2 c3 c4
    go_wp2_with fail
    have hct := step_quiet HB.out (C1.out _)
    with_reducible refine hct.mono ?_
    clear hct
    rintro e x1 ⟨rfl, hB', hK'⟩
    replace HB := hid hB'
    clear hB' hK'
    go_wp2_with fail
    with_reducible refine ((C2.out _)).mono ?_
    rintro e w' ⟨rfl, rfl⟩
    go_wp2_with fail
    have hct := step_quiet HB.out (C3.out _)
    with_reducible refine hct.mono ?_
    clear hct
    rintro e x3 ⟨rfl, hB', hK'⟩
    replace HB := hid hB'
    clear hB' hK'
    go_wp2_with fail
    with_reducible refine ((C4.out _)).mono ?_
    rintro e w' ⟨rfl, rfl⟩
    go_wp2
    go_ret
    exact ⟨ret_bool (by simp), HB.out.below⟩
  · go_enter Try.func4, Try.ntmps4
    go_wp2_with fail
    with_reducible refine (draw_awake w).mono ?_
    rintro e w1 ⟨rfl, hm1⟩
    have HB := hid ((Home.start none0 w).made 0 hm1).below
    clear hm1
    go_wp2
    go_ret
    exact ⟨rfl, HB.out⟩

set_option maxHeartbeats 1600000 in
set_option maxRecDepth 100000 in
theorem drawSamples_walk (s : ByteArray) (i j : Int) (w : World) (hs : s.size ≤ maxLen) (hi : (Lit.int .i64 i).wf = true) (hj : (Lit.int .i64 j).wf = true) :
    Calls Try.prog 5 #[.string s, .int .i64 i, .int .i64 j] w fun e w' => e = .returned (.bool true) ∧ Below w.heap.size w w' := by
  have hi' := i64_range hi
  have hj' := i64_range hj
  unfold maxLen at hs
  clear hi hj
  by_cases h3 : s.size ≤ 500
  · clear hs
    by_cases h4 : j ≤ i
    · go_enter Try.func5, Try.ntmps5
      go_wp2_with fail
      with_reducible refine (draw_awake w).mono ?_
      rintro e w1 ⟨rfl, hm1⟩
      have HB := hid ((Home.start none0 w).made 0 hm1)
      clear hm1
      have c1 := d_Sampled s (by omega) i hi'
      have c2 := d_Sampled s (by omega) j hj'
      have c3 := d_Sampled s (by omega) 0 (by decide)
      have h0 : sampled (hashOf s) 0 = true := by simp [sampled]
      rw [h0] at c3
      clear h0
      by_cases h5 : sampled (hashOf s) i = true
      · rw [h5] at c1
        rw [sampled_mono h4 h5] at c2
        have C1 := hid c1; have C2 := hid c2; have C3 := hid c3
        clear c1 c2 c3 h5
        go_wp2_with fail
        have hct := step_quiet HB.out (C1.out _)
        with_reducible refine hct.mono ?_
        clear hct
        rintro e x1 ⟨rfl, hB', hK'⟩
        replace HB := hid hB'
        clear hB' hK'
        go_wp2_with fail
        have hct := step_quiet HB.out (C2.out _)
        with_reducible refine hct.mono ?_
        clear hct
        rintro e x2 ⟨rfl, hB', hK'⟩
        replace HB := hid hB'
        clear hB' hK'
        go_wp2_with fail
        have hct := step_quiet HB.out (C3.out _)
        with_reducible refine hct.mono ?_
        clear hct
        rintro e x3 ⟨rfl, hB', hK'⟩
        replace HB := hid hB'
        clear hB' hK'
        go_wp2
        go_ret
        exact ⟨rfl, HB.out.below⟩
      · have h6 : sampled (hashOf s) i = false := by simpa using h5
        rw [h6] at c1
        have C1 := hid c1; have C3 := hid c3
        clear c1 c2 c3 h5 h6
        go_wp2_with fail
        have hct := step_quiet HB.out (C1.out _)
        with_reducible refine hct.mono ?_
        clear hct
        rintro e x1 ⟨rfl, hB', hK'⟩
        replace HB := hid hB'
        clear hB' hK'
        go_wp2_with fail
        have hct := step_quiet HB.out (C3.out _)
        with_reducible refine hct.mono ?_
        clear hct
        rintro e x2 ⟨rfl, hB', hK'⟩
        replace HB := hid hB'
        clear hB' hK'
        go_wp2
        go_ret
        exact ⟨rfl, HB.out.below⟩
    · go_enter Try.func5, Try.ntmps5
      go_wp2_with fail
      with_reducible refine (draw_awake w).mono ?_
      rintro e w1 ⟨rfl, hm1⟩
      have HB := hid ((Home.start none0 w).made 0 hm1).below
      clear hm1
      go_wp2
      go_ret
      exact ⟨rfl, HB.out⟩
  · go_enter Try.func5, Try.ntmps5
    go_wp2_with fail
    with_reducible refine (draw_awake w).mono ?_
    rintro e w1 ⟨rfl, hm1⟩
    have HB := hid ((Home.start none0 w).made 0 hm1).below
    clear hm1
    go_wp2
    go_ret
    exact ⟨rfl, HB.out⟩

theorem pick_one {n : Int} (h : 0 ≤ n ∧ n < 18446744073709551616) : decide (n / 4 < 4611686018427387904) = true := by
  rw [decide_eq_true_iff]; omega

theorem ln_zero1 (x : Int) : ln [[x]] 0 = [x] := rfl
theorem ln_zero2 (x y : Int) : ln [[x, y]] 0 = [x, y] := rfl

set_option maxHeartbeats 1600000 in
set_option maxRecDepth 100000 in
theorem drawPicks_walk (n a b : Int) (w : World) (hn : (Lit.int .u64 n).wf = true) (ha : (Lit.int .u64 a).wf = true) (hb : (Lit.int .u64 b).wf = true) :
    Calls Try.prog 8 #[.int .u64 n, .int .u64 a, .int .u64 b] w fun e w' => e = .returned (.bool true) ∧ Below w.heap.size w w' := by
  have hn' := u64_range hn
  clear hn ha hb
  by_cases h3 : a ≤ b
  · go_enter Try.func8, Try.ntmps8
    go_wp2_with fail
    with_reducible refine (draw_awake w).mono ?_
    rintro e w1 ⟨rfl, hm1⟩
    have HB := hid ((Home.start none0 w).made 0 hm1)
    clear hm1
    go_wp2_with fail
    with_reducible refine (step_makep HB.out 1 (t_NewL w1 [n] (by simp) (by simp) (by simp))).mono ?_
    rintro e x1 ⟨bx, own1, rfl, hB', hL', hK'⟩
    have HX := hid hL'
    replace HB := hid hB'
    clear hB' hL' hK'
    go_wp2_with fail
    with_reducible refine (step_makep HB.out 2 (t_NewL x1 [n] (by simp) (by simp) (by simp))).mono ?_
    rintro e x2 ⟨bey, own2, rfl, hB', hL', hK'⟩
    replace HX := hid (HX.out.keep (hK' 1))
    have HY := hid hL'
    replace HB := hid hB'
    clear hB' hL' hK'
    go_wp2_with fail
    with_reducible refine (step_makep HB.out 3 (t_NewL x2 [n] (by simp) (by simp) (by simp))).mono ?_
    rintro e x3 ⟨bz, own3, rfl, hB', hL', hK'⟩
    replace HX := hid (HX.out.keep (hK' 1))
    replace HY := hid (HY.out.keep (hK' 2))
    have HZ := hid hL'
    replace HB := hid hB'
    clear hB' hL' hK'
    go_wp2_with fail
    with_reducible refine (step_makep HB.out 4 (t_NewL x3 [n, 1] (by simp) (by simp) (by simp))).mono ?_
    rintro e x4 ⟨bu, own4, rfl, hB', hL', hK'⟩
    replace HX := hid (HX.out.keep (hK' 1))
    replace HY := hid (HY.out.keep (hK' 2))
    replace HZ := hid (HZ.out.keep (hK' 3))
    have HU := hid hL'
    replace HB := hid hB'
    clear hB' hL' hK'
    have q0 : decide (n / 4 < 0) = false := by rw [decide_eq_false_iff_not]; omega
    have q1 := pick_one hn'
    by_cases h4 : n / 4 < a
    · have q2 : decide (n / 4 < a) = true := by simp [h4]
      have q3 : decide (n / 4 < b) = true := by rw [decide_eq_true_iff]; omega
      have Q0 := hid q0; have Q1 := hid q1; have Q2 := hid q2; have Q3 := hid q3
      clear q0 q1 q2 q3 hn' h3 h4
      go_wp2_with fail
      have hct := step_turn HB.out (by decide) (after_as (t_Pick HX.out 0 (by decide) a) (r' := .bool true) (congrArg Value.bool Q2.out) (fun _ _ q => q))
      with_reducible refine hct.mono ?_
      clear hct
      rintro e x5 ⟨own5, rfl, hB', hL', hK'⟩
      replace HY := hid (HY.out.keep (hK' 2 (by decide)))
      replace HZ := hid (HZ.out.keep (hK' 3 (by decide)))
      replace HU := hid (HU.out.keep (hK' 4 (by decide)))
      replace HX := hid hL'
      replace HB := hid hB'
      clear hB' hL' hK'
      go_wp2_with fail
      have hct := step_turn HB.out (by decide) (after_as (t_Pick HY.out 0 (by decide) b) (r' := .bool true) (congrArg Value.bool Q3.out) (fun _ _ q => q))
      with_reducible refine hct.mono ?_
      clear hct
      rintro e x6 ⟨own6, rfl, hB', hL', hK'⟩
      replace HX := hid (HX.out.keep (hK' 1 (by decide)))
      replace HZ := hid (HZ.out.keep (hK' 3 (by decide)))
      replace HU := hid (HU.out.keep (hK' 4 (by decide)))
      replace HY := hid hL'
      replace HB := hid hB'
      clear hB' hL' hK'
      go_wp2_with fail
      have hct := step_turn HB.out (by decide) (after_as (t_Pick HZ.out 0 (by decide) 0) (r' := .bool false) (congrArg Value.bool Q0.out) (fun _ _ q => q))
      with_reducible refine hct.mono ?_
      clear hct
      rintro e x7 ⟨own7, rfl, hB', hL', hK'⟩
      replace HX := hid (HX.out.keep (hK' 1 (by decide)))
      replace HY := hid (HY.out.keep (hK' 2 (by decide)))
      replace HU := hid (HU.out.keep (hK' 4 (by decide)))
      replace HZ := hid hL'
      replace HB := hid hB'
      clear hB' hL' hK'
      go_wp2_with fail
      have hct := step_turn HB.out (by decide) (after_as (t_Pick HU.out 0 (by decide) 4611686018427387904) (r' := .bool true) (congrArg Value.bool Q1.out) (fun _ _ q => q))
      with_reducible refine hct.mono ?_
      clear hct
      rintro e x8 ⟨own8, rfl, hB', hL', hK'⟩
      replace HX := hid (HX.out.keep (hK' 1 (by decide)))
      replace HY := hid (HY.out.keep (hK' 2 (by decide)))
      replace HZ := hid (HZ.out.keep (hK' 3 (by decide)))
      replace HU := hid hL'
      replace HB := hid hB'
      clear hB' hL' hK'
      go_wp2_with fail
      have hct := (tape_Left HU.out 0 (by decide))
      with_reducible refine hct.mono ?_
      clear hct
      rintro e w' ⟨rfl, rfl⟩
      go_wp2_with fail
      have hct := (tape_Left HX.out 0 (by decide))
      with_reducible refine hct.mono ?_
      clear hct
      rintro e w' ⟨rfl, rfl⟩
      go_wp2
      go_ret
      exact ⟨rfl, HB.out.below⟩
    · have q2 : decide (n / 4 < a) = false := by simp [h4]
      have Q0 := hid q0; have Q1 := hid q1; have Q2 := hid q2
      clear q0 q1 q2 hn' h3 h4
      go_wp2_with fail
      have hct := step_turn HB.out (by decide) (after_as (t_Pick HX.out 0 (by decide) a) (r' := .bool false) (congrArg Value.bool Q2.out) (fun _ _ q => q))
      with_reducible refine hct.mono ?_
      clear hct
      rintro e x11 ⟨own11, rfl, hB', hL', hK'⟩
      replace HY := hid (HY.out.keep (hK' 2 (by decide)))
      replace HZ := hid (HZ.out.keep (hK' 3 (by decide)))
      replace HU := hid (HU.out.keep (hK' 4 (by decide)))
      replace HX := hid hL'
      replace HB := hid hB'
      clear hB' hL' hK'
      go_wp2_with fail
      have hct := step_turn HB.out (by decide) (after_as (t_Pick HZ.out 0 (by decide) 0) (r' := .bool false) (congrArg Value.bool Q0.out) (fun _ _ q => q))
      with_reducible refine hct.mono ?_
      clear hct
      rintro e x12 ⟨own12, rfl, hB', hL', hK'⟩
      replace HX := hid (HX.out.keep (hK' 1 (by decide)))
      replace HY := hid (HY.out.keep (hK' 2 (by decide)))
      replace HU := hid (HU.out.keep (hK' 4 (by decide)))
      replace HZ := hid hL'
      replace HB := hid hB'
      clear hB' hL' hK'
      go_wp2_with fail
      have hct := step_turn HB.out (by decide) (after_as (t_Pick HU.out 0 (by decide) 4611686018427387904) (r' := .bool true) (congrArg Value.bool Q1.out) (fun _ _ q => q))
      with_reducible refine hct.mono ?_
      clear hct
      rintro e x13 ⟨own13, rfl, hB', hL', hK'⟩
      replace HX := hid (HX.out.keep (hK' 1 (by decide)))
      replace HY := hid (HY.out.keep (hK' 2 (by decide)))
      replace HZ := hid (HZ.out.keep (hK' 3 (by decide)))
      replace HU := hid hL'
      replace HB := hid hB'
      clear hB' hL' hK'
      go_wp2_with fail
      have hct := (tape_Left HU.out 0 (by decide))
      with_reducible refine hct.mono ?_
      clear hct
      rintro e w' ⟨rfl, rfl⟩
      go_wp2_with fail
      have hct := (tape_Left HX.out 0 (by decide))
      with_reducible refine hct.mono ?_
      clear hct
      rintro e w' ⟨rfl, rfl⟩
      go_wp2
      go_ret
      exact ⟨rfl, HB.out.below⟩
  · go_enter Try.func8, Try.ntmps8
    go_wp2_with fail
    with_reducible refine (draw_awake w).mono ?_
    rintro e w1 ⟨rfl, hm1⟩
    have HB := hid ((Home.start none0 w).made 0 hm1).below
    clear hm1
    go_wp2
    go_ret
    exact ⟨rfl, HB.out⟩
end Go.Proofs.Ythbffkdfahlpdaa
