/- The walks of LruResizes, LruAdopts: what came in is read alone; true. -/
import Derived.Test.YtjijjfdkghcjkaaLruA
set_option linter.unusedVariables false
namespace Go.Proofs.Ytjijjfdkghcjkaa
open Go.RowKit Go.MapKept
attribute [local go_sem ↓] Go.wp_at_zero Go.wp_at_succ

/-- Two caches, behind k requests each. -/
def LruInv2 (w wr : World) (a b : Nat) (M N : Int) (ks : List ByteArray) (k : Nat) : Prop := ∃ own, Home none0 w wr own ∧ LruAt wr (fun j => own j = 1) a M (lruRun M (ks.take k)) k ∧ LruAt wr (fun j => own j = 2) b N (lruRun N (ks.take k)) k

set_option maxHeartbeats 1600000 in
set_option maxRecDepth 100000 in
theorem lruResizes_walk (n m : Int) (v0 : Value) (ks : List ByteArray) (w : World) (hn : (Lit.int .i64 n).wf = true) (hm : (Lit.int .i64 m).wf = true) (h : Strs w (fun k => k < w.heap.size) v0 ks) (hz : ∀ k ∈ ks, k.size ≤ maxLen) :
    Calls Try.prog 5 #[.int .i64 n, .int .i64 m, v0] w fun e w' => e = .returned (.bool true) ∧ Below w.heap.size w w' := by
  have hm' := i64_range hm
  have hn' := i64_range hn
  obtain ⟨a, cap, rfl, hc1, hc2, _, hc⟩ := h.shape
  unfold maxLen at hc2 hz
  clear hm hn
  by_cases h4 : n < 0
  · clear hc
    go_enter Try.func5, Try.ntmps5
    go_wp2_with fail
    with_reducible refine (lru_awake w).mono ?_
    rintro e w1 ⟨rfl, hm1⟩
    have HB := hid ((Home.start none0 w).made 0 hm1).below
    clear hm1
    go_wp2
    go_ret
    exact ⟨rfl, HB.out⟩
  · by_cases h5 : m < n
    · clear hc
      go_enter Try.func5, Try.ntmps5
      go_wp2_with fail
      with_reducible refine (lru_awake w).mono ?_
      rintro e w1 ⟨rfl, hm1⟩
      have HB := hid ((Home.start none0 w).made 0 hm1).below
      clear hm1
      go_wp2
      go_ret
      exact ⟨rfl, HB.out⟩
    · by_cases h3 : 200 < ks.length
      · clear hc
        go_enter Try.func5, Try.ntmps5
        go_wp2_with fail
        with_reducible refine (lru_awake w).mono ?_
        rintro e w1 ⟨rfl, hm1⟩
        have HB := hid ((Home.start none0 w).made 0 hm1).below
        clear hm1
        go_wp2
        go_ret
        exact ⟨rfl, HB.out⟩
      · obtain ⟨M, rfl⟩ : ∃ M : Nat, m = M := ⟨m.toNat, by omega⟩
        obtain ⟨N, rfl⟩ : ∃ N : Nat, n = N := ⟨n.toNat, by omega⟩
        have HMX := hid (show max (M : Int) 0 = M by omega)
        have HNX := hid (show max (N : Int) 0 = N by omega)
        clear h4
        have hNM : N ≤ M := by omega
        go_enter Try.func5, Try.ntmps5
        go_wp2_with fail
        with_reducible refine (lru_awake w).mono ?_
        rintro e w1 ⟨rfl, hm1⟩
        have HB := hid ((Home.start none0 w).made 0 hm1)
        clear hm1
        go_wp2_with fail
        have hct := step_makep HB.out 1 (lru_New N hn')
        with_reducible refine hct.mono ?_
        clear hct
        rintro e x1 ⟨a1, own1, rfl, hB', hL', hK'⟩
        have HA := hid hL'
        replace HB := hid hB'
        clear hB' hL' hK'
        go_wp2_with fail
        have hct := step_makep HB.out 2 (lru_New M hm')
        with_reducible refine hct.mono ?_
        clear hct
        rintro e x2 ⟨b1, own2, rfl, hB', hL', hK'⟩
        replace HA := hid (HA.out.keep (hK' 1))
        have HC := hid hL'
        replace HB := hid hB'
        clear hB' hL' hK'
        rw [HMX.out] at HC
        rw [HNX.out] at HA
        go_wp2_with fail
        go_loopg [9] (ks.length) (fun g i wr => ∃ k : Nat, k ≤ ks.length ∧ g = ks.length - k ∧ i = .int .i64 k ∧ LruInv2 w wr a1 b1 N M ks k)
        case atStart => exact ⟨0, by omega, by omega, rfl, own2, HB.out, HA.out, HC.out⟩
        case round =>
          clear HB HA HC
          obtain ⟨k, hk, hg, rfl, own, hB, hA, hC⟩ := hrel
          by_cases hlt : k < ks.length
          · obtain ⟨g, off, rfl, _, _, hcell⟩ := hc (by omega)
            have hq := lruRun_take (M := M) hlt
            have hq2 := lruRun_take (M := N) hlt
            have hsz := hz ks[k] (List.getElem_mem hlt)
            have q0 := hcell k (.string ks[k]) (by simp [hlt])
            have p0 := hB.cell q0
            generalize ks[k] = ky at p0 q0 hq hq2 hsz
            have HQ := hid hq
            have HQ2 := hid hq2
            by_cases h5 : ky.size ≤ 200
            · clear hcell hc hz hsz hq hq2
              have HQ0 := hid q0
              clear q0
              have HB := hid hB
              have HA := hid hA
              have HC := hid hC
              clear hB hA hC
              go_wp2_with fail
              have hct := step_turn HB.out (by decide) (lru_Request_as HA.out (by omega) ky (lruStep_eq _ _ _) HQ2.out.symm)
              with_reducible refine hct.mono ?_
              clear hct
              rintro e x1 ⟨own1, rfl, hB', hL', hK'⟩
              replace HC := hid (HC.out.keep (hK' 2 (by decide)))
              replace HA := hid hL'
              replace HB := hid hB'
              clear hB' hL' hK'
              replace p0 := HB.out.cell HQ0.out
              go_wp2_with fail
              have hct := step_turn HB.out (by decide) (lru_Request_as HC.out (by omega) ky (lruStep_eq _ _ _) HQ.out.symm)
              with_reducible refine hct.mono ?_
              clear hct
              rintro e x2 ⟨own2, rfl, hB', hL', hK'⟩
              replace HA := hid (HA.out.keep (hK' 1 (by decide)))
              replace HC := hid hL'
              replace HB := hid hB'
              clear hB' hL' hK'
              replace p0 := HB.out.cell HQ0.out
              go_wp2_with fail
              go_roundg (ks.length - (k + 1))
              case measure => omega
              case rel => exact ⟨k + 1, by omega, by omega, by go_num, own2, HB.out, HA.out, HC.out⟩
            · have h5' : (200 : Int) < (ky.size : Int) := by omega
              clear hcell hc hq
              have HB := hid hB
              have HA := hid hA
              have HC := hid hC
              clear hB hA hC
              go_wp2
              go_ret
              exact ⟨rfl, HB.out.below⟩
          · have hkl : k = ks.length := by omega
            subst hkl
            rw [List.take_length] at hC hA
            clear hc hz
            have HB := hid hB
            have HA := hid hA
            have HC := hid hC
            clear hB hA hC
            have hF := lruRun_eq M ks
            have hG := lruRun_eq N ks
            obtain ⟨B, hB⟩ : ∃ B, B = lruRun M ks := ⟨_, rfl⟩
            rw [← hB] at hF HC
            have hBl : B.length ≤ ks.length := HC.out.le
            have hkp : lruKeep N B = lruRun N ks := by
              rw [hG, hF]
              have := lastN_lastN hNM (full ks)
              unfold lruKeep
              rw [Int.toNat_natCast]
              exact this
            rw [← hkp] at HA
            have hol : (lruOut N B).length = B.length - N := by unfold lruOut; rw [List.length_take, Int.toNat_natCast]; omega
            have HO := hid (show lruOut N B = B.take (B.length - N) by unfold lruOut; rw [Int.toNat_natCast])
            have HK := hid (show lruKeep N B = B.drop (B.length - N) by unfold lruKeep; rw [Int.toNat_natCast])
            have HOL := hid hol
            clear hF hG hB hkp hol
            go_wp2_with fail
            have hct := step_make HB.out 3 (lru_Keys HC.out (by omega))
            with_reducible refine hct.mono ?_
            clear hct
            rintro e x1 ⟨vw, own1, rfl, hB', hL', hK'⟩
            replace HA := hid (HA.out.keep (hK' 1))
            replace HC := hid (HC.out.keep (hK' 2))
            have HW := hid hL'
            replace HB := hid hB'
            clear hB' hL' hK'
            go_wp2_with fail
            have hct := step_turnmake HB.out (by decide) 4 (lru_Resize HC.out (by omega) N hn')
            with_reducible refine hct.mono ?_
            clear hct
            rintro e x2 ⟨vo, own2, rfl, hB', hL', hN', hK'⟩
            replace HA := hid (HA.out.keep (hK' 1 (by decide)))
            replace HW := hid (HW.out.keep (hK' 3 (by decide)))
            replace HC := hid hL'
            have HO2 := hid hN'
            replace HB := hid hB'
            clear hB' hL' hN' hK'
            rw [HNX.out] at HC
            rw [HOL.out] at HO2
            obtain ⟨aw, cw, rfl, hcw, hcw2⟩ := HW.out.len
            obtain ⟨ao, co, rfl, hco, hco2⟩ := HO2.out.len
            unfold maxLen at hcw2 hco2
            generalize lruKeep N B = K at *
            generalize lruOut N B = O at *
            generalize hD : B.length - N = D at *
            have hDB : D ≤ B.length := by omega
            have hDB1 : (D : Int) ≤ (B.length : Int) := by omega
            have hDB2 : (D : Int) ≤ (cw : Int) := by omega
            clear hD
            go_wp2_with fail
            obtain ⟨hB', hK'⟩ := home_drew HB.out
            replace HA := hid (HA.out.keep (hK' 1))
            replace HC := hid (HC.out.keep (hK' 2))
            replace HW := hid (HW.out.keep (hK' 3))
            replace HO2 := hid (HO2.out.keep (hK' 4))
            replace HB := hid hB'
            clear hB' hK'
            have hcut : ∃ A', (if cw = D then aw else aw.map fun x => x.add D) = A' := ⟨_, rfl⟩
            obtain ⟨A', hA'⟩ := hcut
            have HCF := hid (show ∀ x, Strs x (fun _ => True) (.slice aw B.length cw) B → Strs x (fun _ => True) (.slice A' (B.length - D) (cw - D)) (B.drop D) from fun x hx => hA' ▸ hx.cutFrom hDB)
            have tok1 : True := trivial
            have tok2 : True := trivial
            have tok3 : True := trivial
            have tok4 : True := trivial
            have tok5 : True := trivial
            have tok6 : True := trivial
            go_region_held3 (fun _ => True) (trivial) (first
              | (go_at_call 22; have _t := tok1; clear tok1 _t; have hct := step_read HB.out (w_Same HO2.out.strs' (HW.out.strs'.cutTo hDB) (x := true) (by rw [HO.out]; simp)); with_reducible refine hct.mono ?_; clear hct; rintro e x4 ⟨rfl, hB', hK'⟩; replace HA := hid (HA.out.keep (hK' 1)); replace HC := hid (HC.out.keep (hK' 2)); replace HW := hid (HW.out.keep (hK' 3)); replace HO2 := hid (HO2.out.keep (hK' 4)); replace HB := hid hB'; clear hB' hK')
              | (go_at_call 19; have _t := tok2; clear tok2 _t; have hct := step_make HB.out 5 (lru_Keys HC.out (by omega)); with_reducible refine hct.mono ?_; clear hct; rintro e x5 ⟨vb, own5, rfl, hB', hL', hK'⟩; replace HA := hid (HA.out.keep (hK' 1)); replace HC := hid (HC.out.keep (hK' 2)); replace HW := hid (HW.out.keep (hK' 3)); replace HO2 := hid (HO2.out.keep (hK' 4)); have HVB := hid hL'; replace HB := hid hB'; clear hB' hL' hK')
              | (go_at_call 22; have _t := tok3; clear tok3 _t; have hct := step_read HB.out (w_Same HVB.out.strs' (HCF.out _ HW.out.strs') (x := true) (by rw [HK.out]; simp)); with_reducible refine hct.mono ?_; clear hct; rintro e x6 ⟨rfl, hB', hK'⟩; replace HA := hid (HA.out.keep (hK' 1)); replace HC := hid (HC.out.keep (hK' 2)); replace HW := hid (HW.out.keep (hK' 3)); replace HO2 := hid (HO2.out.keep (hK' 4)); replace HVB := hid (HVB.out.keep (hK' 5)); replace HB := hid hB'; clear hB' hK')
              | (go_at_call 19; have _t := tok4; clear tok4 _t; have hct := step_make HB.out 6 (lru_Keys HA.out (by omega)); with_reducible refine hct.mono ?_; clear hct; rintro e x7 ⟨va, own7, rfl, hB', hL', hK'⟩; replace HA := hid (HA.out.keep (hK' 1)); replace HC := hid (HC.out.keep (hK' 2)); replace HW := hid (HW.out.keep (hK' 3)); replace HO2 := hid (HO2.out.keep (hK' 4)); replace HVB := hid (HVB.out.keep (hK' 5)); have HVA := hid hL'; replace HB := hid hB'; clear hB' hL' hK')
              | (go_at_call 19; have _t := tok5; clear tok5 _t; have hct := step_make HB.out 7 (lru_Keys HC.out (by omega)); with_reducible refine hct.mono ?_; clear hct; rintro e x8 ⟨vc, own8, rfl, hB', hL', hK'⟩; replace HA := hid (HA.out.keep (hK' 1)); replace HC := hid (HC.out.keep (hK' 2)); replace HW := hid (HW.out.keep (hK' 3)); replace HO2 := hid (HO2.out.keep (hK' 4)); replace HVB := hid (HVB.out.keep (hK' 5)); replace HVA := hid (HVA.out.keep (hK' 6)); have HVC := hid hL'; replace HB := hid hB'; clear hB' hL' hK')
              | (go_at_call 22; have _t := tok6; clear tok6 _t; have hct := step_read HB.out (w_Same HVA.out.strs' HVC.out.strs' (x := true) (by simp)); with_reducible refine hct.mono ?_; clear hct; rintro e x9 ⟨rfl, hB', hK'⟩; replace HA := hid (HA.out.keep (hK' 1)); replace HC := hid (HC.out.keep (hK' 2)); replace HW := hid (HW.out.keep (hK' 3)); replace HO2 := hid (HO2.out.keep (hK' 4)); replace HVB := hid (HVB.out.keep (hK' 5)); replace HVA := hid (HVA.out.keep (hK' 6)); replace HVC := hid (HVC.out.keep (hK' 7)); replace HB := hid hB'; clear hB' hK'))
            go_wp2
            go_ret
            exact ⟨rfl, HB.out.below⟩
end Go.Proofs.Ytjijjfdkghcjkaa
