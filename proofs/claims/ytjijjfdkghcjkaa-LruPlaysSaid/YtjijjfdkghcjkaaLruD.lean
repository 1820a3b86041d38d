/- The walks of LruAdopts, LruDrops: what came in is read alone; true. -/
import Derived.Test.YtjijjfdkghcjkaaLruC
set_option linter.unusedVariables false
namespace Go.Proofs.Ytjijjfdkghcjkaa
open Go.RowKit Go.MapKept
attribute [local go_sem ↓] Go.wp_at_zero Go.wp_at_succ

theorem lruReq_room {M : Int} {ks : List ByteArray} {k : ByteArray} (h : lruRoom M ks k = true) : lruReq M ks k = bk ks k ∧ lruHit ks k = false ∧ lruOutB M ks k = false := by
  unfold lruRoom at h
  rw [decide_eq_true_iff] at h
  obtain ⟨h1, h2⟩ := h
  have h0 : M ≠ 0 := by omega
  unfold lruReq lruHit lruOutB
  rw [if_neg h0, if_neg h1, if_neg (by omega)]
  exact ⟨rfl, by simp [h1], by simp; omega⟩

set_option maxHeartbeats 3200000 in
set_option maxRecDepth 100000 in
theorem lruAdopts_walk (m : Int) (v0 : Value) (ks : List ByteArray) (key : ByteArray) (w : World) (hm : (Lit.int .i64 m).wf = true) (h : Strs w (fun k => k < w.heap.size) v0 ks) (hz : ∀ k ∈ ks, k.size ≤ maxLen) (hk : key.size ≤ maxLen) :
    Calls Try.prog 6 #[.int .i64 m, v0, .string key] w fun e w' => e = .returned (.bool true) ∧ Below w.heap.size w w' := by
  have hm' := i64_range hm
  obtain ⟨a, cap, rfl, hc1, hc2, _, hc⟩ := h.shape
  unfold maxLen at hc2 hz hk
  clear hm
  by_cases h3 : 200 < ks.length
  · clear hc
    go_enter Try.func6, Try.ntmps6
    go_wp2_with fail
    with_reducible refine (lru_awake w).mono ?_
    rintro e w1 ⟨rfl, hm1⟩
    have HB := hid ((Home.start none0 w).made 0 hm1).below
    clear hm1
    go_wp2
    go_ret
    exact ⟨rfl, HB.out⟩
  · by_cases h4 : 200 < key.size
    · clear hc
      go_enter Try.func6, Try.ntmps6
      go_wp2_with fail
      with_reducible refine (lru_awake w).mono ?_
      rintro e w1 ⟨rfl, hm1⟩
      have HB := hid ((Home.start none0 w).made 0 hm1).below
      clear hm1
      go_wp2
      go_ret
      exact ⟨rfl, HB.out⟩
    · obtain ⟨M, hM⟩ : ∃ M : Int, M = max m 0 := ⟨_, rfl⟩
      have HMX := hid hM.symm
      have hMm : M = m ∨ (m < 0 ∧ M = 0) := by omega
      have HMM := hid hMm
      clear hM hMm
      go_enter Try.func6, Try.ntmps6
      go_wp2_with fail
      with_reducible refine (lru_awake w).mono ?_
      rintro e w1 ⟨rfl, hm1⟩
      have HB := hid ((Home.start none0 w).made 0 hm1)
      clear hm1
      go_wp2_with fail
      have hct := step_makep HB.out 1 (lru_New m hm')
      with_reducible refine hct.mono ?_
      clear hct
      rintro e x1 ⟨a1, own1, rfl, hB', hL', hK'⟩
      have HA := hid hL'
      replace HB := hid hB'
      clear hB' hL' hK'
      go_wp2_with fail
      have hct := step_makep HB.out 2 (lru_New m hm')
      with_reducible refine hct.mono ?_
      clear hct
      rintro e x2 ⟨b1, own2, rfl, hB', hL', hK'⟩
      replace HA := hid (HA.out.keep (hK' 1))
      have HC := hid hL'
      replace HB := hid hB'
      clear hB' hL' hK'
      rw [HMX.out] at HC HA
      go_wp2_with fail
      go_loopg [9] (ks.length) (fun g i wr => ∃ k : Nat, k ≤ ks.length ∧ g = ks.length - k ∧ i = .int .i64 k ∧ LruInv2 w wr a1 b1 M M ks k)
      case atStart => exact ⟨0, by omega, by omega, rfl, own2, HB.out, HA.out, HC.out⟩
      case round =>
        clear HB HA HC
        obtain ⟨k, hk, hg, rfl, own, hB, hA, hC⟩ := hrel
        by_cases hlt : k < ks.length
        · obtain ⟨g, off, rfl, _, _, hcell⟩ := hc (by omega)
          have hq := lruRun_take (M := M) hlt
          have hq2 := lruRun_take (M := M) hlt
          have hsz := hz ks[k] (List.getElem_mem hlt)
          have q0 := hcell k (.string ks[k]) (by simp [hlt])
          have p0 := hB.cell q0
          generalize ks[k] = ky at p0 q0 hq hq2 hsz
          have HQ := hid hq
          have HQ2 := hid hq2
          by_cases h5 : ky.size ≤ 200
          · clear hcell hc hz hsz hq hq2
            have HQ0 := hid q0
            clear q0
            have HB := hid hB
            have HA := hid hA
            have HC := hid hC
            clear hB hA hC
            go_wp2_with fail
            have hct := step_turn HB.out (by decide) (lru_Request_as HA.out (by omega) ky (lruStep_eq _ _ _) HQ2.out.symm)
            with_reducible refine hct.mono ?_
            clear hct
            rintro e x1 ⟨own1, rfl, hB', hL', hK'⟩
            replace HC := hid (HC.out.keep (hK' 2 (by decide)))
            replace HA := hid hL'
            replace HB := hid hB'
            clear hB' hL' hK'
            replace p0 := HB.out.cell HQ0.out
            go_wp2_with fail
            have hct := step_turn HB.out (by decide) (lru_Request_as HC.out (by omega) ky (lruStep_eq _ _ _) HQ.out.symm)
            with_reducible refine hct.mono ?_
            clear hct
            rintro e x2 ⟨own2, rfl, hB', hL', hK'⟩
            replace HA := hid (HA.out.keep (hK' 1 (by decide)))
            replace HC := hid hL'
            replace HB := hid hB'
            clear hB' hL' hK'
            replace p0 := HB.out.cell HQ0.out
            go_wp2_with fail
            go_roundg (ks.length - (k + 1))
            case measure => omega
            case rel => exact ⟨k + 1, by omega, by omega, by go_num, own2, HB.out, HA.out, HC.out⟩
          · have h5' : (200 : Int) < (ky.size : Int) := by omega
            clear hcell hc hq
            have HB := hid hB
            have HA := hid hA
            have HC := hid hC
            clear hB hA hC
            go_wp2
            go_ret
            exact ⟨rfl, HB.out.below⟩
        · have hkl : k = ks.length := by omega
          subst hkl
          rw [List.take_length] at hC hA
          clear hc hz
          have HB := hid hB
          have HA := hid hA
          have HC := hid hC
          clear hB hA hC
          generalize hB : lruRun M ks = B at *
          have hBl : B.length ≤ 200 := by have := HC.out.le; omega
          have hr : lruRoom m B key = lruRoom M B key := by
            rcases HMM.out with q | ⟨q1, q2⟩
            · rw [q]
            · unfold lruRoom; rw [q2]; apply decide_eq_decide.2; omega
          have HRM := hid hr
          clear hB hr
          go_wp2_with fail
          have hct := step_make HB.out 3 (lru_Keys HA.out (by omega))
          with_reducible refine hct.mono ?_
          clear hct
          rintro e x1 ⟨vw, own1, rfl, hB', hL', hK'⟩
          replace HA := hid (HA.out.keep (hK' 1))
          replace HC := hid (HC.out.keep (hK' 2))
          have HW := hid hL'
          replace HB := hid hB'
          clear hB' hL' hK'
          go_wp2_with fail
          have hct := (lru_Len HA.out)
          with_reducible refine hct.mono ?_
          clear hct
          rintro e w' ⟨rfl, rfl⟩
          by_cases hroom : lruRoom M B key = true
          · have h1 := lruReq_room hroom
            have h2 : (B.length : Int) < m := by have := HRM.out.trans hroom; unfold lruRoom at this; rw [decide_eq_true_iff] at this; exact this.2
            have h3 : decide (key ∈ B) = false := by unfold lruRoom at hroom; rw [decide_eq_true_iff] at hroom; simp [hroom.1]
            obtain ⟨q1, q2, q3⟩ := h1
            have HRO := hid hroom; have HQ1 := hid q1; have HQ2 := hid q2; have HQ3 := hid q3; have H3 := hid h3
            clear hroom q1 q2 q3 h3
            go_wp2_with fail
            have hct := (lru_Has_as HA.out key H3.out)
            with_reducible refine hct.mono ?_
            clear hct
            rintro e w' ⟨rfl, rfl⟩
            go_wp2_with fail
            have hct := step_turn HB.out (by decide) (lru_Adopt_as HA.out (by omega) key HRO.out (ks' := bk B key) (by rw [HRO.out]; rfl))
            with_reducible refine hct.mono ?_
            clear hct
            rintro e x4 ⟨own4, rfl, hB', hL', hK'⟩
            replace HC := hid (HC.out.keep (hK' 2 (by decide)))
            replace HW := hid (HW.out.keep (hK' 3 (by decide)))
            replace HA := hid hL'
            replace HB := hid hB'
            clear hB' hL' hK'
            go_wp2_with fail
            go_wp2_with fail
            have hct := step_turn HB.out (by decide) (lru_Request_as HC.out (by omega) key (r := .agg #[.bool false, .string (lruVic M B key), .bool false]) (ks' := bk B key) (by rw [lruStep_eq, HQ2.out, HQ3.out]) HQ1.out)
            with_reducible refine hct.mono ?_
            clear hct
            rintro e x5 ⟨own5, rfl, hB', hL', hK'⟩
            replace HA := hid (HA.out.keep (hK' 1 (by decide)))
            replace HW := hid (HW.out.keep (hK' 3 (by decide)))
            replace HC := hid hL'
            replace HB := hid hB'
            clear hB' hL' hK'
            generalize lruVic M B key = vic
            go_wp2_with fail
            obtain ⟨own6, hB', hL', hK'⟩ := home_alloc HB.out [.bool false, .string vic, .bool false] 27 4
            replace HA := hid (HA.out.keep (hK' 1))
            replace HC := hid (HC.out.keep (hK' 2))
            replace HW := hid (HW.out.keep (hK' 3))
            have HS := hid hL'
            replace HB := hid hB'
            clear hB' hL' hK'
            have hsz_x6 : Hid ((x5.alloc (.cells [.bool false, .string vic, .bool false].toArray 27)).heap.size = x5.heap.size + 1) := hid (by simp)
            generalize x5.alloc (.cells [.bool false, .string vic, .bool false].toArray 27) = x6 at HB hsz_x6 HA HC HW HS ⊢
            have s0 := HS.out.1.at 0 _ rfl
            have s1 := HS.out.1.at 1 _ rfl
            have s2 := HS.out.1.at 2 _ rfl
            have slt := HS.out.1.lt
            go_wp2_with fail
            have hct := step_make HB.out 5 (lru_Keys HA.out (by omega))
            with_reducible refine hct.mono ?_
            clear hct
            rintro e x7 ⟨va, own7, rfl, hB', hL', hK'⟩
            replace HA := hid (HA.out.keep (hK' 1))
            replace HC := hid (HC.out.keep (hK' 2))
            replace HW := hid (HW.out.keep (hK' 3))
            replace HS := hid (HS.out.keep (hK' 4))
            have HVA := hid hL'
            replace HB := hid hB'
            clear hB' hL' hK'
            replace s0 := HS.out.1.at 0 _ rfl
            replace s1 := HS.out.1.at 1 _ rfl
            replace s2 := HS.out.1.at 2 _ rfl
            replace slt := HS.out.1.lt
            go_wp2_with fail
            have hct := step_make HB.out 6 (lru_Keys HC.out (by omega))
            with_reducible refine hct.mono ?_
            clear hct
            rintro e x8 ⟨vb, own8, rfl, hB', hL', hK'⟩
            replace HA := hid (HA.out.keep (hK' 1))
            replace HC := hid (HC.out.keep (hK' 2))
            replace HW := hid (HW.out.keep (hK' 3))
            replace HS := hid (HS.out.keep (hK' 4))
            replace HVA := hid (HVA.out.keep (hK' 5))
            have HVB := hid hL'
            replace HB := hid hB'
            clear hB' hL' hK'
            replace s0 := HS.out.1.at 0 _ rfl
            replace s1 := HS.out.1.at 1 _ rfl
            replace s2 := HS.out.1.at 2 _ rfl
            replace slt := HS.out.1.lt
            go_wp2_with fail
            have hct := step_read HB.out (w_Same HVA.out.strs' HVB.out.strs' (x := true) (by simp))
            with_reducible refine hct.mono ?_
            clear hct
            rintro e x9 ⟨rfl, hB', hK'⟩
            replace HA := hid (HA.out.keep (hK' 1))
            replace HC := hid (HC.out.keep (hK' 2))
            replace HW := hid (HW.out.keep (hK' 3))
            replace HS := hid (HS.out.keep (hK' 4))
            replace HVA := hid (HVA.out.keep (hK' 5))
            replace HVB := hid (HVB.out.keep (hK' 6))
            replace HB := hid hB'
            clear hB' hK'
            replace s0 := HS.out.1.at 0 _ rfl
            replace s1 := HS.out.1.at 1 _ rfl
            replace s2 := HS.out.1.at 2 _ rfl
            replace slt := HS.out.1.lt
            go_wp2
            go_ret
            exact ⟨rfl, HB.out.below⟩
          · skip
            have hroom : lruRoom M B key = false := by simpa using hroom
            have HRO := hid hroom
            clear hroom
            by_cases h2 : (B.length : Int) < m
            · have h3 : decide (key ∈ B) = true := by
                have := HRM.out.trans HRO.out
                unfold lruRoom at this
                rw [decide_eq_false_iff_not] at this
                rw [decide_eq_true_iff]
                exact Classical.byContradiction fun q => this ⟨q, h2⟩
              have H3 := hid h3
              clear h3
              go_wp2_with fail
              have hct := (lru_Has_as HA.out key H3.out)
              with_reducible refine hct.mono ?_
              clear hct
              rintro e w' ⟨rfl, rfl⟩
              go_wp2_with fail
              have hct := step_turn HB.out (by decide) (lru_Adopt_as HA.out (by omega) key HRO.out (ks' := B) (by rw [HRO.out]; rfl))
              with_reducible refine hct.mono ?_
              clear hct
              rintro e x4 ⟨own4, rfl, hB', hL', hK'⟩
              replace HC := hid (HC.out.keep (hK' 2 (by decide)))
              replace HW := hid (HW.out.keep (hK' 3 (by decide)))
              replace HA := hid hL'
              replace HB := hid hB'
              clear hB' hL' hK'
              go_wp2_with fail
              have hct := step_make HB.out 5 (lru_Keys HA.out (by omega))
              with_reducible refine hct.mono ?_
              clear hct
              rintro e x5 ⟨va, own5, rfl, hB', hL', hK'⟩
              replace HA := hid (HA.out.keep (hK' 1))
              replace HC := hid (HC.out.keep (hK' 2))
              replace HW := hid (HW.out.keep (hK' 3))
              have HVA := hid hL'
              replace HB := hid hB'
              clear hB' hL' hK'
              go_wp2_with fail
              have hct := step_read HB.out (w_Same HVA.out.strs' HW.out.strs' (x := true) (by simp))
              with_reducible refine hct.mono ?_
              clear hct
              rintro e x6 ⟨rfl, hB', hK'⟩
              replace HA := hid (HA.out.keep (hK' 1))
              replace HC := hid (HC.out.keep (hK' 2))
              replace HW := hid (HW.out.keep (hK' 3))
              replace HVA := hid (HVA.out.keep (hK' 5))
              replace HB := hid hB'
              clear hB' hK'
              go_wp2
              go_ret
              exact ⟨rfl, HB.out.below⟩
            · skip
              have h2' : m ≤ (B.length : Int) := by omega
              go_wp2_with fail
              have hct := step_turn HB.out (by decide) (lru_Adopt_as HA.out (by omega) key HRO.out (ks' := B) (by rw [HRO.out]; rfl))
              with_reducible refine hct.mono ?_
              clear hct
              rintro e x3 ⟨own3, rfl, hB', hL', hK'⟩
              replace HC := hid (HC.out.keep (hK' 2 (by decide)))
              replace HW := hid (HW.out.keep (hK' 3 (by decide)))
              replace HA := hid hL'
              replace HB := hid hB'
              clear hB' hL' hK'
              go_wp2_with fail
              have hct := step_make HB.out 5 (lru_Keys HA.out (by omega))
              with_reducible refine hct.mono ?_
              clear hct
              rintro e x4 ⟨va, own4, rfl, hB', hL', hK'⟩
              replace HA := hid (HA.out.keep (hK' 1))
              replace HC := hid (HC.out.keep (hK' 2))
              replace HW := hid (HW.out.keep (hK' 3))
              have HVA := hid hL'
              replace HB := hid hB'
              clear hB' hL' hK'
              go_wp2_with fail
              have hct := step_read HB.out (w_Same HVA.out.strs' HW.out.strs' (x := true) (by simp))
              with_reducible refine hct.mono ?_
              clear hct
              rintro e x5 ⟨rfl, hB', hK'⟩
              replace HA := hid (HA.out.keep (hK' 1))
              replace HC := hid (HC.out.keep (hK' 2))
              replace HW := hid (HW.out.keep (hK' 3))
              replace HVA := hid (HVA.out.keep (hK' 5))
              replace HB := hid hB'
              clear hB' hK'
              go_wp2
              go_ret
              exact ⟨rfl, HB.out.below⟩

/-- What is dropped from the front on. -/
def LruDropInv (w wr : World) (b : Nat) (M : Int) (L : List ByteArray) (n : Nat) (u : Value) (k : Nat) : Prop :=
  ∃ own, Home none0 w wr own ∧ LruAt wr (fun j => own j = 1) b M (L.drop k) n ∧ Row wr (fun j => own j = 3) 9 1 u L.length (L.map Value.string)

set_option maxHeartbeats 3200000 in
set_option maxRecDepth 100000 in
theorem lruDrops_walk (m : Int) (v0 : Value) (ks : List ByteArray) (key : ByteArray) (w : World) (hm : (Lit.int .i64 m).wf = true) (h : Strs w (fun k => k < w.heap.size) v0 ks) (hz : ∀ k ∈ ks, k.size ≤ maxLen) (hk : key.size ≤ maxLen) :
    Calls Try.prog 8 #[.int .i64 m, v0, .string key] w fun e w' => e = .returned (.bool true) ∧ Below w.heap.size w w' := by
  have hm' := i64_range hm
  obtain ⟨a, cap, rfl, hc1, hc2, _, hc⟩ := h.shape
  unfold maxLen at hc2 hz hk
  clear hm
  by_cases h3 : 200 < ks.length
  · clear hc
    go_enter Try.func8, Try.ntmps8
    go_wp2_with fail
    with_reducible refine (lru_awake w).mono ?_
    rintro e w1 ⟨rfl, hm1⟩
    have HB := hid ((Home.start none0 w).made 0 hm1).below
    clear hm1
    go_wp2
    go_ret
    exact ⟨rfl, HB.out⟩
  · by_cases h4 : 200 < key.size
    · clear hc
      go_enter Try.func8, Try.ntmps8
      go_wp2_with fail
      with_reducible refine (lru_awake w).mono ?_
      rintro e w1 ⟨rfl, hm1⟩
      have HB := hid ((Home.start none0 w).made 0 hm1).below
      clear hm1
      go_wp2
      go_ret
      exact ⟨rfl, HB.out⟩
    · obtain ⟨M, hM⟩ : ∃ M : Int, M = max m 0 := ⟨_, rfl⟩
      have HMX := hid hM.symm
      clear hM
      go_enter Try.func8, Try.ntmps8
      go_wp2_with fail
      with_reducible refine (lru_awake w).mono ?_
      rintro e w1 ⟨rfl, hm1⟩
      have HB := hid ((Home.start none0 w).made 0 hm1)
      clear hm1
      go_wp2_with fail
      have hct := step_makep HB.out 1 (lru_New m hm')
      with_reducible refine hct.mono ?_
      clear hct
      rintro e x1 ⟨b, own1, rfl, hB', hL', hK'⟩
      have HC := hid hL'
      replace HB := hid hB'
      clear hB' hL' hK'
      rw [HMX.out] at HC
      go_wp2_with fail
      go_loopg [8] (ks.length) (fun g i wr => ∃ k : Nat, k ≤ ks.length ∧ g = ks.length - k ∧ i = .int .i64 k ∧ LruInv w wr b M ks k)
      case atStart => exact ⟨0, by omega, by omega, rfl, own1, HB.out, HC.out⟩
      case round =>
        clear HB HC
        obtain ⟨k, hk, hg, rfl, own, hB, hC⟩ := hrel
        by_cases hlt : k < ks.length
        · obtain ⟨g, off, rfl, _, _, hcell⟩ := hc (by omega)
          have p0 := hB.cell (hcell k (.string ks[k]) (by simp [hlt]))
          have hq := lruRun_take (M := M) hlt
          have hsz := hz ks[k] (List.getElem_mem hlt)
          generalize ks[k] = ky at p0 hq hsz
          have HQ := hid hq
          by_cases h5 : ky.size ≤ 200
          · clear hcell hc hz hsz hq
            have HB := hid hB
            have HC := hid hC
            clear hB hC
            go_wp2_with fail
            have hct := step_turn HB.out (by decide) (lru_Request_as HC.out (by omega) ky (lruStep_eq _ _ _) HQ.out.symm)
            with_reducible refine hct.mono ?_
            clear hct
            rintro e x1 ⟨own1, rfl, hB', hL', hK'⟩
            replace HC := hid hL'
            replace HB := hid hB'
            clear hB' hL' hK'
            go_wp2_with fail
            go_roundg (ks.length - (k + 1))
            case measure => omega
            case rel => exact ⟨k + 1, by omega, by omega, by go_num, own1, HB.out, HC.out⟩
          · have h5' : (200 : Int) < (ky.size : Int) := by omega
            clear hcell hc hq
            have HB := hid hB
            have HC := hid hC
            clear hB hC
            go_wp2
            go_ret
            exact ⟨rfl, HB.out.below⟩
        · have hkl : k = ks.length := by omega
          subst hkl
          rw [List.take_length] at hC
          have HB := hid hB
          have HC := hid hC
          clear hB hC
          clear hc hz
          generalize hB : lruRun M ks = B at *
          have hBl : B.length ≤ 200 := by have := HC.out.le; omega
          have hun := HC.out.uniq
          go_wp2_with fail
          have hct := step_make HB.out 2 (lru_Keys HC.out (by omega))
          with_reducible refine hct.mono ?_
          clear hct
          rintro e x1 ⟨vw, own1, rfl, hB', hL', hK'⟩
          replace HC := hid (HC.out.keep (hK' 1))
          have HW := hid hL'
          replace HB := hid hB'
          clear hB' hL' hK'
          go_wp2_with fail
          have hct := step_turn HB.out (by decide) (lru_Remove HC.out (by omega) key)
          with_reducible refine hct.mono ?_
          clear hct
          rintro e x2 ⟨own2, rfl, hB', hL', hK'⟩
          replace HW := hid (HW.out.keep (hK' 2 (by decide)))
          replace HC := hid hL'
          replace HB := hid hB'
          clear hB' hL' hK'
          go_wp2_with fail
          have hct := (r_Has HW.out.strs key)
          with_reducible refine hct.mono ?_
          clear hct
          rintro e w' ⟨rfl, rfl⟩
          obtain ⟨d, hd⟩ : ∃ d, decide (key ∈ B) = d := ⟨_, rfl⟩
          rw [hd]
          clear hd
          go_wp2_with fail
          have hct := step_make HB.out 3 (r_Remove HW.out.strs (by omega) key)
          with_reducible refine hct.mono ?_
          clear hct
          rintro e x4 ⟨vl, own4, rfl, hB', hL', hK'⟩
          replace HC := hid (HC.out.keep (hK' 1))
          replace HW := hid (HW.out.keep (hK' 2))
          have HL := hid hL'
          replace HB := hid hB'
          clear hB' hL' hK'
          have hLl := rm_le B key
          have hLn : (rm B key).Nodup := hun.filter _
          generalize rm B key = L at *
          obtain ⟨al, cl, rfl, hcl, hcl2⟩ := HL.out.len
          unfold maxLen at hcl2
          have HLN := hid hLn
          clear hB hun hLn
          go_wp2_with fail
          go_loopg [10] (L.length) (fun g i wr => ∃ k : Nat, k ≤ L.length ∧ g = L.length - k ∧ i = .int .i64 k ∧ LruDropInv w wr b M L ks.length (.slice al L.length cl) k)
          case atStart => exact ⟨0, by omega, by omega, rfl, own4, HB.out, HC.out, HL.out⟩
          case round =>
            clear HB HC HW HL
            obtain ⟨k, hk, hg, rfl, own', hB, hC, hL⟩ := hrel
            by_cases hlt : k < L.length
            · obtain ⟨x, r, hr⟩ : ∃ x r, L.drop k = x :: r := by
                cases hq : L.drop k with
                | nil => have := congrArg List.length hq; rw [List.length_drop] at this; simp at this; omega
                | cons x r => exact ⟨x, r, rfl⟩
              obtain ⟨t1, t2, t3, t4⟩ := take_snoc hr
              have hrl : r.length = L.length - k - 1 := by have := congrArg List.length hr; rw [List.length_drop] at this; simp at this; omega
              have hx : x = L[k] := by rw [List.drop_eq_getElem_cons hlt] at hr; injection hr with e _; exact e.symm
              have hxr : decide (x ∈ r) = false := by
                have : (L.drop k).Nodup := HLN.out.sublist (List.drop_sublist k L)
                rw [hr, List.nodup_cons] at this
                simp [this.1]
              obtain ⟨g, off, rfl, _, _⟩ := Strs.get hL.strs hlt
              have hv : headV (L.drop k) = .tuple #[.string x, .bool true] := by rw [hr]; simp [headV]
              have ht : (L.drop k).tail = r := by rw [hr]; rfl
              have HX := hid (show L[k]? = some x by rw [hx]; exact List.getElem?_eq_getElem hlt)
              have HV := hid hv; have HT := hid ht; have HXR := hid hxr
              have hkl : (k : Int) < (L.length : Int) := by omega
              have hrl2 : ((L.length : Int) - k - 1) = (r.length : Int) := by omega
              have HRL := hid hrl2
              have hxs := str_t (rfl : x = x)
              clear hr t1 t2 t3 hx hxr hv ht hrl2
              have HB := hid hB
              have HC := hid hC
              have HL := hid hL
              clear hB hC hL
              go_wp2_with fail
              have p0 := Strs.getAt HL.out.strs HX.out
              go_wp2_with fail
              have hct := step_read HB.out (reads_as (lru_Victim HC.out) HV.out)
              with_reducible refine hct.mono ?_
              clear hct
              rintro e x1 ⟨rfl, hB', hK'⟩
              replace HC := hid (HC.out.keep (hK' 1))
              replace HL := hid (HL.out.keep (hK' 3))
              replace HB := hid hB'
              clear hB' hK'
              replace p0 := Strs.getAt HL.out.strs HX.out
              go_wp2_with fail
              have hct := step_turn HB.out (by decide) (after_as (lru_Drop HC.out (by omega)) HV.out (fun _ _ q => q))
              with_reducible refine hct.mono ?_
              clear hct
              rintro e x2 ⟨own2, rfl, hB', hL', hK'⟩
              replace HL := hid (HL.out.keep (hK' 3 (by decide)))
              replace HC := hid hL'
              replace HB := hid hB'
              clear hB' hL' hK'
              replace p0 := Strs.getAt HL.out.strs HX.out
              rw [HT.out] at HC
              go_wp2_with fail
              have hct := (lru_Has_as HC.out x HXR.out)
              with_reducible refine hct.mono ?_
              clear hct
              rintro e w' ⟨rfl, rfl⟩
              go_wp2_with fail
              have hct := (lru_Len HC.out)
              with_reducible refine hct.mono ?_
              clear hct
              rintro e w' ⟨rfl, rfl⟩
              rw [← HRL.out]
              go_wp2_with fail
              go_roundg (L.length - (k + 1))
              case measure => omega
              case rel => exact ⟨k + 1, by omega, by omega, by go_num, own2, HB.out, by rw [← List.tail_drop, HT.out]; exact HC.out, HL.out⟩
            · have hkl : k = L.length := by omega
              subst hkl
              rw [List.drop_length] at hC
              have HB := hid hB
              have HC := hid hC
              have HL := hid hL
              clear hB hC hL
              go_wp2_with fail
              go_wp2_with fail
              have hct := step_turn HB.out (by decide) (after_as (lru_Drop HC.out (by omega)) (r' := .tuple #[.string ⟨#[]⟩, .bool false]) (by kernel_rfl) (fun _ _ q => q))
              with_reducible refine hct.mono ?_
              clear hct
              rintro e x1 ⟨own1, rfl, hB', hL', hK'⟩
              replace HC := hid hL'
              replace HB := hid hB'
              clear hB' hL' hK'
              go_wp2
              go_ret
              exact ⟨rfl, HB.out.below⟩
end Go.Proofs.Ytjijjfdkghcjkaa
