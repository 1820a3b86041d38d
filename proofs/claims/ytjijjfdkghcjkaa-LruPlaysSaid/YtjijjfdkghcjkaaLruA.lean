/- The walks of LruRecent, LruResizes, LruAdopts: what came in is read alone; true. -/
import Derived.Test.YtjijjfdkghcjkaaLruPure
import Derived.Test.YtjijjfdkghcjkaaLruAwake
import Derived.Deep.RegionHeld3
import Derived.Deep.DrawnRows
set_option linter.unusedVariables false
namespace Go.Proofs.Ytjijjfdkghcjkaa
open Go.RowKit Go.MapKept
attribute [local go_sem ↓] Go.wp_at_zero Go.wp_at_succ

/-- Keys that came in. -/
theorem strs_of {w : World} {S : Nat → Prop} {v : Value} {xs : List {s : ByteArray // s.size ≤ maxLen}} (h : Cells w S v xs.length 1 (xs.flatMap fun x => [Value.string x.1])) : Strs w S v (xs.map Subtype.val) ∧ ∀ k ∈ xs.map Subtype.val, k.size ≤ maxLen := by
  refine ⟨?_, fun k hk => ?_⟩
  · unfold Strs
    rw [List.length_map, List.map_map]
    have e : xs.flatMap (fun x => [Value.string x.1]) = xs.map (Value.string ∘ Subtype.val) := by
      clear h
      induction xs with
      | nil => rfl
      | cons x xs ih => rw [List.flatMap_cons, ih]; rfl
    rw [← e]; exact h
  · obtain ⟨x, _, rfl⟩ := List.mem_map.1 hk
    exact x.2
theorem i64_range {a : Int} (h : (Lit.int .i64 a).wf = true) : -9223372036854775808 ≤ a ∧ a ≤ 9223372036854775807 := by
  simp [Lit.wf] at h; exact h

/-- Behind k requests. -/
def LruInv (w wr : World) (b : Nat) (M : Int) (ks : List ByteArray) (k : Nat) : Prop := ∃ own, Home none0 w wr own ∧ LruAt wr (fun j => own j = 1) b M (lruRun M (ks.take k)) k

/-- From p on. -/
def LruRec (w wr : World) (b M : Nat) (ks : List ByteArray) (u : Value) (p : Nat) : Prop :=
  ∃ own, Home none0 w wr own ∧ LruAt wr (fun j => own j = 1) b M (lruRun M ks) ks.length ∧ Row wr (fun j => own j = 2) 9 1 u (full (ks.drop p)).length ((full (ks.drop p)).map Value.string) ∧ (full (ks.drop p)).length ≤ M

set_option maxHeartbeats 1600000 in
set_option maxRecDepth 100000 in
theorem lruRecent_walk (m : Int) (v0 : Value) (ks : List ByteArray) (w : World) (hm : (Lit.int .i64 m).wf = true) (h : Strs w (fun k => k < w.heap.size) v0 ks) (hz : ∀ k ∈ ks, k.size ≤ maxLen) :
    Calls Try.prog 4 #[.int .i64 m, v0] w fun e w' => e = .returned (.bool true) ∧ Below w.heap.size w w' := by
  have hm' := i64_range hm
  obtain ⟨a, cap, rfl, hc1, hc2, _, hc⟩ := h.shape
  unfold maxLen at hc2 hz
  clear hm
  by_cases h3 : ks.length ≤ 200
  · by_cases h4 : m < 0
    · clear hc
      go_enter Try.func4, Try.ntmps4
      go_wp2_with fail
      with_reducible refine (lru_awake w).mono ?_
      rintro e w1 ⟨rfl, hm1⟩
      have HB := hid ((Home.start none0 w).made 0 hm1).below
      clear hm1
      go_wp2
      go_ret
      exact ⟨rfl, HB.out⟩
    · obtain ⟨M, rfl⟩ : ∃ M : Nat, m = M := ⟨m.toNat, by omega⟩
      have hmax : max (M : Int) 0 = M := by omega
      have HMX := hid hmax
      clear hmax h4
      go_enter Try.func4, Try.ntmps4
      go_wp2_with fail
      with_reducible refine (lru_awake w).mono ?_
      rintro e w1 ⟨rfl, hm1⟩
      have HB := hid ((Home.start none0 w).made 0 hm1)
      clear hm1
      go_wp2_with fail
      have hct := step_makep HB.out 1 (lru_New M hm')
      with_reducible refine hct.mono ?_
      clear hct
      rintro e x1 ⟨b, own1, rfl, hB', hL', hK'⟩
      have HC := hid hL'
      replace HB := hid hB'
      clear hB' hL' hK'
      rw [HMX.out] at HC
      go_wp2_with fail
      go_loopg [7] (ks.length) (fun g i wr => ∃ k : Nat, k ≤ ks.length ∧ g = ks.length - k ∧ i = .int .i64 k ∧ LruInv w wr b M ks k)
      case atStart => exact ⟨0, by omega, by omega, rfl, own1, HB.out, HC.out⟩
      case round =>
        clear HB HC
        obtain ⟨k, hk, hg, rfl, own, hB, hC⟩ := hrel
        by_cases hlt : k < ks.length
        · obtain ⟨g, off, rfl, _, _, hcell⟩ := hc (by omega)
          have p0 := hB.cell (hcell k (.string ks[k]) (by simp [hlt]))
          have hq := lruRun_take (M := M) hlt
          have hsz := hz ks[k] (List.getElem_mem hlt)
          generalize ks[k] = ky at p0 hq hsz
          have HQ := hid hq
          by_cases h5 : ky.size ≤ 200
          · clear hcell hc hz hsz hq
            have HB := hid hB
            have HC := hid hC
            clear hB hC
            go_wp2_with fail
            have hct := step_turn HB.out (by decide) (lru_Request_as HC.out (by omega) ky (lruStep_eq _ _ _) HQ.out.symm)
            with_reducible refine hct.mono ?_
            clear hct
            rintro e x1 ⟨own1, rfl, hB', hL', hK'⟩
            replace HC := hid hL'
            replace HB := hid hB'
            clear hB' hL' hK'
            go_wp2_with fail
            go_roundg (ks.length - (k + 1))
            case measure => omega
            case rel => exact ⟨k + 1, by omega, by omega, by go_num, own1, HB.out, HC.out⟩
          · have h5' : (200 : Int) < (ky.size : Int) := by omega
            clear hcell hc hq
            have HB := hid hB
            have HC := hid hC
            clear hB hC
            go_wp2
            go_ret
            exact ⟨rfl, HB.out.below⟩
        · have hkl : k = ks.length := by omega
          subst hkl
          rw [List.take_length] at hC
          have HB := hid hB
          have HC := hid hC
          clear hB hC
          go_wp2_with fail
          go_loopg [6, 8] (ks.length) (fun g u i wr => ∃ p : Nat, p ≤ ks.length ∧ g = p ∧ i = .int .i64 ((p : Int) - 1) ∧ LruRec w wr b M ks u p)
          case atStart => exact ⟨ks.length, by omega, rfl, rfl, own, HB.out, HC.out, by rw [List.drop_length]; exact Row.nil _ _ _ _, by simp [full]⟩
          case round =>
            clear HB HC
            obtain ⟨p, hp, hg, rfl, own', hB, hC, hW, hle⟩ := hrel
            by_cases hp0 : 0 < p
            · by_cases hpm : (full (ks.drop p)).length < M
              · obtain ⟨q, rfl⟩ : ∃ q, p = q + 1 := ⟨p - 1, by omega⟩
                obtain ⟨g2, off, rfl, _, _, hcell⟩ := hc (by omega)
                have p0 := hB.cell (hcell q (.string ks[q]) (by rw [List.getElem?_map, List.getElem?_eq_getElem (by omega)]; rfl))
                have hfd := full_drop (ks := ks) (p := q) (by omega)
                obtain ⟨F, hFF⟩ : ∃ F, F = full (ks.drop (q + 1)) := ⟨_, rfl⟩
                rw [← hFF] at hfd hle hpm hW
                have hFl : F.length ≤ 200 := by
                  rw [hFF]
                  have := nodup_le (nodup_full (ks.drop (q + 1))) (m := ks) fun x hx => List.mem_of_mem_drop (mem_full.1 hx)
                  omega
                generalize ks[q]'(by omega) = ky at p0 hfd
                obtain ⟨au, cu, rfl, hcu, hcu2⟩ := hW.len
                unfold maxLen at hcu2
                have HD := hid hfd
                clear hcell hc hz hfd hFF
                have HB := hid hB
                have HC := hid hC
                have HW := hid hW
                clear hB hC hW
                have ei : ((q + 1 : Nat) : Int) - 1 = (q : Int) := by omega
                have hqb : (q : Int) < (ks.length : Int) := by omega
                have hpm' : (F.length : Int) < (M : Int) := by omega
                rw [ei]
                clear ei
                by_cases hin : ky ∈ F
                · have hd : decide (ky ∈ F) = true := by simp [hin]
                  have HIN := hid hin; have HDD := hid hd
                  clear hin hd
                  go_wp2_with fail
                  with_reducible refine (ref03_Has _ F ky _ _ HW.out.strs).mono ?_
                  rintro e x9 ⟨rfl, rfl⟩
                  rw [HDD.out]
                  go_wp2_with fail
                  go_roundg q
                  case measure => omega
                  case rel => exact ⟨q, by omega, rfl, rfl, own', HB.out, HC.out, by rw [HD.out, if_pos HIN.out]; exact HW.out, by rw [HD.out, if_pos HIN.out]; omega⟩
                · have hd : decide (ky ∈ F) = false := by simp [hin]
                  have HIN := hid hin; have HDD := hid hd
                  clear hin hd
                  go_wp2_with fail
                  with_reducible refine (ref03_Has _ F ky _ _ HW.out.strs).mono ?_
                  rintro e x9 ⟨rfl, rfl⟩
                  rw [HDD.out]
                  go_wp2_with fail
                  have hct := step_make HB.out 2 (r_Front HW.out.strs (by omega) ky)
                  with_reducible refine hct.mono ?_
                  clear hct
                  rintro e x1 ⟨vn, own1, rfl, hB', hL', hK'⟩
                  replace HC := hid (HC.out.keep (hK' 1))
                  replace HW := hid (HW.out.keep (hK' 2))
                  have HN := hid hL'
                  replace HB := hid hB'
                  clear hB' hL' hK'
                  go_wp2_with fail
                  go_roundg q
                  case measure => omega
                  case rel => exact ⟨q, by omega, rfl, rfl, own1, HB.out, HC.out, by rw [HD.out, if_neg HIN.out]; exact HN.out, by rw [HD.out, if_neg HIN.out]; have := fr_le F ky; omega⟩
              · have hex : p = 0 ∨ (full (ks.drop p)).length = M := .inr (by omega)
                have hpm' : (M : Int) ≤ ((full (ks.drop p)).length : Int) := by omega
                have hf := recent_done (ks := ks) (p := p) hle hex
                have HF := hid hf
                obtain ⟨au, cu, rfl, hcu, hcu2⟩ := hW.len
                unfold maxLen at hcu2
                clear hc hz hle hex hf
                have HB := hid hB
                have HC := hid hC
                have HW := hid hW
                clear hB hC hW
                go_wp2_with fail
                go_wp2_with fail
                have hct := step_make HB.out 3 (lru_Keys HC.out (by omega))
                with_reducible refine hct.mono ?_
                clear hct
                rintro e x1 ⟨vk, own1, rfl, hB', hL', hK'⟩
                replace HC := hid (HC.out.keep (hK' 1))
                replace HW := hid (HW.out.keep (hK' 2))
                have HK := hid hL'
                replace HB := hid hB'
                clear hB' hL' hK'
                go_wp2_with fail
                with_reducible refine (w_Same HK.out.strs' HW.out.strs' (x := true) (by rw [HF.out]; simp)).mono ?_
                rintro e x9 ⟨rfl, nn, rfl⟩
                go_wp2
                go_ret
                exact ⟨rfl, (HB.out.drewN nn).below⟩
            · have hp1 : p = 0 := by omega
              have hex : p = 0 ∨ (full (ks.drop p)).length = M := .inl hp1
              have hlt0 : (p : Int) - 1 < 0 := by omega
              clear hp1
              have hf := recent_done (ks := ks) (p := p) hle hex
              have HF := hid hf
              obtain ⟨au, cu, rfl, hcu, hcu2⟩ := hW.len
              unfold maxLen at hcu2
              clear hc hz hle hex hf
              have HB := hid hB
              have HC := hid hC
              have HW := hid hW
              clear hB hC hW
              go_wp2_with fail
              go_wp2_with fail
              have hct := step_make HB.out 3 (lru_Keys HC.out (by omega))
              with_reducible refine hct.mono ?_
              clear hct
              rintro e x1 ⟨vk, own1, rfl, hB', hL', hK'⟩
              replace HC := hid (HC.out.keep (hK' 1))
              replace HW := hid (HW.out.keep (hK' 2))
              have HK := hid hL'
              replace HB := hid hB'
              clear hB' hL' hK'
              go_wp2_with fail
              with_reducible refine (w_Same HK.out.strs' HW.out.strs' (x := true) (by rw [HF.out]; simp)).mono ?_
              rintro e x9 ⟨rfl, nn, rfl⟩
              go_wp2
              go_ret
              exact ⟨rfl, (HB.out.drewN nn).below⟩
  · clear hc
    go_enter Try.func4, Try.ntmps4
    go_wp2_with fail
    with_reducible refine (lru_awake w).mono ?_
    rintro e w1 ⟨rfl, hm1⟩
    have HB := hid ((Home.start none0 w).made 0 hm1).below
    clear hm1
    go_wp2
    go_ret
    exact ⟨rfl, HB.out⟩
end Go.Proofs.Ytjijjfdkghcjkaa
