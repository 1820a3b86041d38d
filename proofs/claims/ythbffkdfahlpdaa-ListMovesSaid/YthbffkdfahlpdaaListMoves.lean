/- The walk of ListMoves: what came in is read alone; true. -/
import Derived.Test.YthbffkdfahlpdaaListActs
set_option linter.unusedVariables false
namespace Go.Proofs.Ythbffkdfahlpdaa
open Go.RowKit Go.MapKept

def MovesInv (w wr : World) (a b mb k : Nat) : Prop :=
  ∃ (own : Nat → Nat) (l : List (ByteArray × Bool)) (ks : List ByteArray) (pl : Nat), pl ≤ k ∧ Base w wr own ∧ ListAt wr a (fun k => own k = 1) ks pl ∧ ListAt wr b (fun k => own k = 2) ks pl ∧ OwnMap Value.string Value.bool wr own 3 mb l ∧ SetOf l ks

set_option maxHeartbeats 1600000 in
set_option maxRecDepth 100000 in
theorem listMoves_walk (v0 : Value) (xs : List LAct) (key : ByteArray) (w : World) (h : Cells w (fun k => k < w.heap.size) v0 xs.length 2 (xs.flatMap LAct.cells)) (hks : key.size ≤ maxLen) :
    Calls Try.prog 10 #[v0, .string key] w fun e w' => e = .returned (.bool true) ∧ Below w.heap.size w w' := by
  obtain ⟨a, cap, rfl, hc1, hc2, _, hc⟩ := h.shape
  unfold maxLen at hc2 hks
  by_cases h3 : xs.length ≤ 200
  · by_cases h4 : key.size ≤ 1000
    · clear hc2 hks
      have hmm := @run_makeMap Try.prog
      go_enter Try.func10, Try.ntmps10
      go_wp2_with fail
      with_reducible refine (list_awake w).mono ?_
      rintro e w1 ⟨rfl, hm1⟩
      have HB := hid ((Base.start w).made 0 hm1)
      clear hm1
      go_wp2_with fail
      with_reducible refine (law_New HB.out 1).mono ?_
      rintro e x1 ⟨ba, own1', rfl, hB', hL', hK'⟩
      have HL := hid hL'
      replace HB := hid hB'
      clear hB' hL' hK'
      go_wp2_with fail
      with_reducible refine (law_New HB.out 2).mono ?_
      rintro e x2 ⟨bb, own2', rfl, hB', hL', hK'⟩
      replace HL := hid (HL.out.keep (hK' 1))
      have HR := hid hL'
      replace HB := hid hB'
      clear hB' hL' hK'
      go_wp2_with fail
      obtain ⟨own3', hB', hL', hK'⟩ := law_map Value.string Value.bool HB.out 3
      replace HL := hid (HL.out.keep (hK' 1))
      replace HR := hid (HR.out.keep (hK' 2))
      have HM := hid hL'
      replace HB := hid hB'
      clear hB' hL' hK'
      clear hmm
      go_loopw [8] (fun i wr => ∃ k : Nat, k ≤ xs.length ∧ i = .int .i64 k ∧ MovesInv w wr ba bb x2.heap.size k) (fun i _ => xs.length - (intOf i).toNat)
      case atStart => exact ⟨0, by omega, rfl, own3', [], [], 0, by omega, HB.out, HL.out, HR.out, HM.out, SetOf.nil⟩
      case round =>
        clear HB HL HR HM
        obtain ⟨k, hk, rfl, own, l, ks, pl, hpl, hB, hL, hR, hM, hS⟩ := hrel
        have hle := hL.le
        have hun := hL.uniq
        by_cases hlt : k < xs.length
        · obtain ⟨g, off, rfl, _, _, hcell⟩ := hc (by omega)
          obtain ⟨⟨⟨kd, ky⟩, hw, hz⟩, hx⟩ : ∃ x, x = xs[k] := ⟨_, rfl⟩
          have p0 := hB.cell (hcell (k * 2 + 0) (.int .i64 kd) (by rw [get_flat (size := 2) (fun _ => rfl) xs k 0 hlt (by omega), ← hx]; rfl))
          have p1 := hB.cell (hcell (k * 2 + 1) (.string ky) (by rw [get_flat (size := 2) (fun _ => rfl) xs k 1 hlt (by omega), ← hx]; rfl))
          have q0 := hcell (k * 2 + 0) (.int .i64 kd) (by rw [get_flat (size := 2) (fun _ => rfl) xs k 0 hlt (by omega), ← hx]; rfl)
          have q1 := hcell (k * 2 + 1) (.string ky) (by rw [get_flat (size := 2) (fun _ => rfl) xs k 1 hlt (by omega), ← hx]; rfl)
          obtain ⟨r1, r2⟩ := wf_range hw
          simp only [Nat.add_zero, ← Nat.add_assoc] at p0 p1 q0 q1
          have hfl := fr_le ks ky
          clear hcell hc hx hw hz p0 q0
          have HB := hid hB
          have HL := hid hL
          have HR := hid hR
          have HM := hid hM
          have HS := hid hS
          have Hun := hid hun
          clear hB hL hR hM hS hun
          go_wp2_with fail
          with_reducible refine (law_Front HB.out (by omega) HL.out (by omega) ky).mono ?_
          rintro e x1 ⟨rfl, own1', hB', hL', hK'⟩
          replace HR := hid (HR.out.keep (hK' 2 (by decide)))
          replace HM := hid (HM.out.keep (hK' 3 (by decide)))
          replace HL := hid hL'
          replace HB := hid hB'
          clear hB' hL' hK'
          replace p1 := HB.out.cell q1
          go_wp2_with fail
          with_reducible refine (law_Front HB.out (by omega) HR.out (by omega) ky).mono ?_
          rintro e x2 ⟨rfl, own2', hB', hL', hK'⟩
          replace HL := hid (HL.out.keep (hK' 1 (by decide)))
          replace HM := hid (HM.out.keep (hK' 3 (by decide)))
          replace HR := hid hL'
          replace HB := hid hB'
          clear hB' hL' hK'
          replace p1 := HB.out.cell q1
          go_wp2_with (at_mapUpdate; refine wpMapStore rfl _ _ _ rfl key_str Try.underlying59 HM.out.1 rfl ky true rfl rfl ?_; intro w3 hm3 hg3)
          obtain ⟨own3', hB', hL', hK'⟩ := OwnMap.turn HB.out (by decide) HM.out hm3 hg3
          replace HL := hid (HL.out.keep (hK' 1 (by decide)))
          replace HR := hid (HR.out.keep (hK' 2 (by decide)))
          replace HM := hid hL'
          replace HB := hid hB'
          clear hB' hL' hK' hm3 hg3
          replace p1 := HB.out.cell q1
          go_wp2
          go_roundw
          case rel => exact ⟨k + 1, by omega, by go_num, own3', _, _, _, by omega, HB.out, HL.out, HR.out, HM.out, HS.out.put Hun.out ky⟩
          case measure => simp [intOf]; omega
        · clear hc h
          have hlen := length_fr hun key
          have hlen2 := length_put l key true
          have hsk := hS.1 key
          have hS2 := hS.2
          have hl1 : (fr (bk ks key) key).length = (put l key true).length := by
            rw [fr_bk, hlen, hlen2, hsk, hS2]; simp
          have hl2 : (fr (rm ks key) key).length = (put l key true).length := by rw [fr_rm, ← fr_bk]; exact hl1
          have he : fr (bk ks key) key = fr (rm ks key) key := by rw [fr_bk, fr_rm]
          have hle' : (fr (rm ks key) key).length ≤ 201 := by rw [fr_rm]; have := fr_le ks key; omega
          have hbl := bk_le ks key
          clear hlen hlen2 hsk hS2 hS hun
          have HB := hid hB
          have HL := hid hL
          have HR := hid hR
          have HM := hid hM
          have Hl1 := hid hl1
          have Hl2 := hid hl2
          have He := hid he
          clear hB hL hR hM hl1 hl2 he
          go_wp2_with (at_mapUpdate; refine wpMapStore rfl _ _ _ rfl key_str Try.underlying59 HM.out.1 rfl key true rfl rfl ?_; intro w3 hm3 hg3)
          obtain ⟨own1', hB', hL', hK'⟩ := OwnMap.turn HB.out (by decide) HM.out hm3 hg3
          replace HL := hid (HL.out.keep (hK' 1 (by decide)))
          replace HR := hid (HR.out.keep (hK' 2 (by decide)))
          replace HM := hid hL'
          replace HB := hid hB'
          clear hB' hL' hK' hm3 hg3
          go_wp2_with fail
          with_reducible refine (law_Back HB.out (by omega) HL.out (by omega) key).mono ?_
          rintro e x2 ⟨rfl, own2', hB', hL', hK'⟩
          replace HR := hid (HR.out.keep (hK' 2 (by decide)))
          replace HM := hid (HM.out.keep (hK' 3 (by decide)))
          replace HL := hid hL'
          replace HB := hid hB'
          clear hB' hL' hK'
          go_wp2_with fail
          with_reducible refine (law_Front HB.out (by omega) HL.out (by omega) key).mono ?_
          rintro e x3 ⟨rfl, own3', hB', hL', hK'⟩
          replace HR := hid (HR.out.keep (hK' 2 (by decide)))
          replace HM := hid (HM.out.keep (hK' 3 (by decide)))
          replace HL := hid hL'
          replace HB := hid hB'
          clear hB' hL' hK'
          go_wp2_with fail
          with_reducible refine (law_Remove HB.out (by omega) HR.out (by omega) key).mono ?_
          rintro e x4 ⟨rfl, own4', hB', hL', hK'⟩
          replace HL := hid (HL.out.keep (hK' 1 (by decide)))
          replace HM := hid (HM.out.keep (hK' 3 (by decide)))
          replace HR := hid hL'
          replace HB := hid hB'
          clear hB' hL' hK'
          go_wp2_with fail
          with_reducible refine (law_Front HB.out (by omega) HR.out (by omega) key).mono ?_
          rintro e x5 ⟨rfl, own5', hB', hL', hK'⟩
          replace HL := hid (HL.out.keep (hK' 1 (by decide)))
          replace HM := hid (HM.out.keep (hK' 3 (by decide)))
          replace HR := hid hL'
          replace HB := hid hB'
          clear hB' hL' hK'
          have hL2 := HL.out
          have hR2 := HR.out
          rw [He.out] at hL2
          generalize hpl1 : max (max pl (bk ks key).length) (fr (bk ks key) key).length = p1 at hL2
          generalize hpl2 : max pl (fr (rm ks key) key).length = p2 at hR2
          have hp1 : p1 ≤ 1000 := by rw [← hpl1, He.out]; omega
          have hp2 : p2 ≤ 1000 := by rw [← hpl2]; omega
          have hlx := HM.out.1.len (P := Try.prog) Try.underlying59 3
          rw [← Hl2.out] at hlx
          replace HL := hid hL2
          replace HR := hid hR2
          clear hL2 hR2 hpl1 hpl2 hlx
          generalize fr (rm ks key) key = zs at *
          go_wp2_with fail
          with_reducible refine (law_Keys HB.out HL.out (by omega) 4).mono ?_
          rintro e x6 ⟨va, own6', rfl, hB', hL', hK'⟩
          replace HL := hid (HL.out.keep (hK' 1))
          replace HR := hid (HR.out.keep (hK' 2))
          replace HM := hid (HM.out.keep (hK' 3))
          have HA := hid hL'
          replace HB := hid hB'
          clear hB' hL' hK'
          go_wp2_with fail
          with_reducible refine (law_Keys HB.out HR.out (by omega) 5).mono ?_
          rintro e x7 ⟨vb, own7', rfl, hB', hL', hK'⟩
          replace HL := hid (HL.out.keep (hK' 1))
          replace HR := hid (HR.out.keep (hK' 2))
          replace HM := hid (HM.out.keep (hK' 3))
          replace HA := hid (HA.out.keep (hK' 4))
          have HC := hid hL'
          replace HB := hid hB'
          clear hB' hL' hK'
          go_wp2_with fail
          with_reducible refine (ref03_Same _ _ zs zs _ _ _ HA.out.strs HC.out.strs).mono ?_
          rintro e w' ⟨rfl, n, rfl⟩
          have hlx := fun n => (HM.out.keep (Keeps.drewN _ _ n 3)).1.len (P := Try.prog) Try.underlying59 3
          rw [← Hl2.out] at hlx
          have HX := hid (hlx n)
          have HL3 := hid (HL.out.keep (Keeps.drewN _ _ n 1))
          have HR3 := hid (HR.out.keep (Keeps.drewN _ _ n 2))
          clear hlx
          go_wp2_with fail
          with_reducible refine (list_Len HL3.out).mono ?_
          rintro e w' ⟨rfl, rfl⟩
          have hlx := HX.out
          go_wp2_with fail
          with_reducible refine (list_Len HR3.out).mono ?_
          rintro e w' ⟨rfl, rfl⟩
          have hlx := HX.out
          go_wp2
          go_ret
          exact ⟨by simp, (HB.out.drewN n).below⟩
    · have hks' : (1000 : Int) < (key.size : Int) := by omega
      go_enter Try.func10, Try.ntmps10
      go_wp2_with fail
      with_reducible refine (list_awake w).mono ?_
      rintro e w1 ⟨rfl, hm1⟩
      have HB := hid ((Base.start w).made 0 hm1).below
      clear hm1
      go_wp2
      go_ret
      exact ⟨rfl, HB.out⟩
  · go_enter Try.func10, Try.ntmps10
    go_wp2_with fail
    with_reducible refine (list_awake w).mono ?_
    rintro e w1 ⟨rfl, hm1⟩
    have HB := hid ((Base.start w).made 0 hm1).below
    clear hm1
    go_wp2
    go_ret
    exact ⟨rfl, HB.out⟩
end Go.Proofs.Ythbffkdfahlpdaa
