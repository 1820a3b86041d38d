/- The walk of ListPops: what came in is read alone; true. -/
import Derived.Test.YthbffkdfahlpdaaListActs
set_option linter.unusedVariables false
namespace Go.Proofs.Ythbffkdfahlpdaa
open Go.RowKit Go.MapKept

def PopsInv (w wr : World) (b k : Nat) : Prop := ∃ (own : Nat → Nat) (ks : List ByteArray), ks.length ≤ k ∧ Base w wr own ∧ ListAt wr b (fun k => own k = 1) ks ks.length
def PopsInv2 (w wr : World) (b : Nat) (v : Value) (ks : List ByteArray) (n : Nat) : Prop :=
  ∃ own : Nat → Nat, Base w wr own ∧ ListAt wr b (fun k => own k = 1) (ks.take n) ks.length ∧ Row wr (fun k => own k = 2) 9 1 v ks.length (ks.map Value.string)

theorem max_fr {ks : List ByteArray} (h : ks.Nodup) (k : ByteArray) : max ks.length (fr ks k).length = (fr ks k).length := by
  rw [length_fr h]; split <;> omega
theorem max_bk {ks : List ByteArray} (h : ks.Nodup) (k : ByteArray) : max ks.length (bk ks k).length = (bk ks k).length := by
  rw [length_bk, max_fr h]

set_option maxHeartbeats 1600000 in
set_option maxRecDepth 100000 in
theorem listPops_walk (v0 : Value) (xs : List LAct) (w : World) (h : Cells w (fun k => k < w.heap.size) v0 xs.length 2 (xs.flatMap LAct.cells)) :
    Calls Try.prog 11 #[v0] w fun e w' => e = .returned (.bool true) ∧ Below w.heap.size w w' := by
  obtain ⟨a, cap, rfl, hc1, hc2, _, hc⟩ := h.shape
  unfold maxLen at hc2
  by_cases h3 : xs.length ≤ 200
  · clear hc2
    go_enter Try.func11, Try.ntmps11
    go_wp2_with fail
    with_reducible refine (list_awake w).mono ?_
    rintro e w1 ⟨rfl, hm1⟩
    have HB := hid ((Base.start w).made 0 hm1)
    clear hm1
    go_wp2_with fail
    with_reducible refine (law_New HB.out 1).mono ?_
    rintro e x1 ⟨b, own1', rfl, hB', hL', hK'⟩
    have HL := hid hL'
    replace HB := hid hB'
    clear hB' hL' hK'
    go_wp2_with fail
    go_loopw [4] (fun i wr => ∃ k : Nat, k ≤ xs.length ∧ i = .int .i64 k ∧ PopsInv w wr b k) (fun i _ => xs.length - (intOf i).toNat)
    case atStart => exact ⟨0, by omega, rfl, own1', [], by simp, HB.out, HL.out⟩
    case round =>
      clear HB HL
      obtain ⟨k, hk, rfl, own, ks, hpl, hB, hL⟩ := hrel
      have hun := hL.uniq
      by_cases hlt : k < xs.length
      · obtain ⟨g, off, rfl, _, _, hcell⟩ := hc (by omega)
        obtain ⟨⟨⟨kd, ky⟩, hw, hz⟩, hx⟩ : ∃ x, x = xs[k] := ⟨_, rfl⟩
        have p0 := hB.cell (hcell (k * 2 + 0) (.int .i64 kd) (by rw [get_flat (size := 2) (fun _ => rfl) xs k 0 hlt (by omega), ← hx]; rfl))
        have p1 := hB.cell (hcell (k * 2 + 1) (.string ky) (by rw [get_flat (size := 2) (fun _ => rfl) xs k 1 hlt (by omega), ← hx]; rfl))
        have q0 := hcell (k * 2 + 0) (.int .i64 kd) (by rw [get_flat (size := 2) (fun _ => rfl) xs k 0 hlt (by omega), ← hx]; rfl)
        have q1 := hcell (k * 2 + 1) (.string ky) (by rw [get_flat (size := 2) (fun _ => rfl) xs k 1 hlt (by omega), ← hx]; rfl)
        obtain ⟨r1, r2⟩ := wf_range hw
        simp only [Nat.add_zero, ← Nat.add_assoc] at p0 p1 q0 q1
        have hfl := fr_le ks ky
        have hbl := bk_le ks ky
        clear hcell hc hx hw hz
        have HB := hid hB
        have HL := hid hL
        have Hun := hid hun
        clear hB hL hun
        go_wp2_with fail
        · with_reducible refine (law_Back HB.out (by omega) HL.out (by omega) ky).mono ?_
          rintro e w3 ⟨rfl, own3, hB3, hL3, _⟩
          rw [max_bk Hun.out] at hL3
          have HB3 := hid hB3; have HL3 := hid hL3
          clear hB3 hL3
          go_wp2
          go_roundw
          case rel => exact ⟨k + 1, by omega, by go_num, own3, _, by omega, HB3.out, HL3.out⟩
          case measure => simp [intOf]; omega
        · with_reducible refine (law_Front HB.out (by omega) HL.out (by omega) ky).mono ?_
          rintro e w3 ⟨rfl, own3, hB3, hL3, _⟩
          rw [max_fr Hun.out] at hL3
          have HB3 := hid hB3; have HL3 := hid hL3
          clear hB3 hL3
          go_wp2
          go_roundw
          case rel => exact ⟨k + 1, by omega, by go_num, own3, _, by omega, HB3.out, HL3.out⟩
          case measure => simp [intOf]; omega
      · clear hc h
        have hpl' : ks.length ≤ 200 := by omega
        have HB := hid hB
        have HL := hid hL
        have Hun := hid hun
        clear hB hL hun
        go_wp2_with fail
        with_reducible refine (law_Keys HB.out HL.out (by omega) 2).mono ?_
        rintro e x1 ⟨v, own1', rfl, hB', hL', hK'⟩
        replace HL := hid (HL.out.keep (hK' 1))
        have HR := hid hL'
        replace HB := hid hB'
        clear hB' hL' hK'
        go_wp2_with fail
        with_reducible refine (list_Places HL.out (by omega)).mono ?_
        rintro e w' ⟨rfl, rfl⟩
        obtain ⟨ar, cr, rfl, hcr1, hcr2⟩ := HR.out.len
        unfold maxLen at hcr2
        go_wp2_with fail
        go_loopg [7, 8, 9, 10, 11] ks.length (fun g i t8 t9 t10 t11 wr => i = .int .i64 ((g : Int) - 1) ∧ g ≤ ks.length ∧ PopsInv2 w wr b (.slice ar ks.length cr) ks g)
        case atStart => exact ⟨rfl, Nat.le_refl _, own1', HB.out, by rw [List.take_length]; exact HL.out, HR.out⟩
        case round =>
          clear HB HL HR
          obtain ⟨rfl, hgk, own3, hB, hL, hR⟩ := hrel
          cases gk with
          | zero =>
            rw [List.take_zero] at hL
            have HB := hid hB
            have HL := hid hL
            have HR := hid hR
            clear hB hL hR
            go_wp2_with fail
            have hp : Calls Try.prog 38 #[.pointer (some ⟨b, 0, none⟩)] wr fun e w' => e = .returned (.tuple #[.string ⟨#[]⟩, .bool false]) ∧ Next w wr w' own3 b 1 [] ks.length := law_Pop HB.out (by omega) HL.out (by omega)
            with_reducible refine hp.mono ?_
            rintro e w4 ⟨rfl, own4, hB4, hL4, _⟩
            clear hp HB HL
            have HB := hid hB4; have HL := hid hL4
            clear hB4 hL4
            go_wp2_with fail
            have hp : Calls Try.prog 40 #[.pointer (some ⟨b, 0, none⟩)] w4 fun e w' => e = .returned (.tuple #[.string ⟨#[]⟩, .bool false]) ∧ ∃ n, w' = w4.drewN n := list_First HL.out
            with_reducible refine hp.mono ?_
            rintro e w' ⟨rfl, n, rfl⟩
            clear hp
            have HL2 := hid (HL.out.keep (Keeps.drewN _ _ n 1))
            go_wp2_with fail
            with_reducible refine (list_Places HL2.out (by omega)).mono ?_
            rintro e w' ⟨rfl, rfl⟩
            go_wp2
            go_ret
            exact ⟨by simp, (HB.out.drewN n).below⟩
          | succ g =>
            have hlt2 : g < ks.length := by omega
            have ht : ks.take (g + 1) = ks.take g ++ [ks[g]] := List.take_succ_eq_append_getElem hlt2
            have hnd := hL.uniq
            rw [ht, List.nodup_append] at hnd
            have hnot : ks[g] ∉ ks.take g := fun q => hnd.2.2 _ q _ (by simp) rfl
            rw [ht] at hL
            obtain ⟨x, hx⟩ : ∃ x, x = ks[g] := ⟨_, rfl⟩
            rw [← hx] at hL hnot
            obtain ⟨g6, o6, rfl, _, _, hcell6⟩ := hR.cells.addr (by omega)
            have p6 := hcell6 g (.string x) (by rw [List.getElem?_map, List.getElem?_eq_getElem hlt2, ← hx]; rfl)
            have c1 : Calls Try.prog 37 #[.pointer (some ⟨b, 0, none⟩)] wr fun e w' => e = .returned (.tuple #[.string x, .bool true]) ∧ ∃ n, w' = wr.drewN n := by
              have := list_Last hL; simpa using this
            have c2 : ∀ n, Calls Try.prog 38 #[.pointer (some ⟨b, 0, none⟩)] (wr.drewN n) fun e w' => e = .returned (.tuple #[.string x, .bool true]) ∧ Next w (wr.drewN n) w' own3 b 1 (ks.take g) ks.length := fun n => by
              have := law_Pop (hB.drewN n) (by decide) (hL.keep (Keeps.drewN _ _ n 1)) (by omega); simpa using this
            have C1 := hid c1; have C2 := hid c2; have Hnot := hid hnot
            have HB := hid hB; have HR := hid hR
            have HX := hid hx
            clear c1 c2 hnot hnd ht hx hcell6 hB hL hR
            go_wp2_with fail
            with_reducible refine C1.out.mono ?_
            rintro e w' ⟨rfl, n, rfl⟩
            go_wp2_with fail
            with_reducible refine (C2.out n).mono ?_
            rintro e w4 ⟨rfl, own4, hB4, hL4, hK4⟩
            have hR4 := (HR.out.keep (Keeps.drewN _ _ n 2)).keep (hK4 2 (by decide))
            obtain ⟨g7, o7, e7, _, _, hcell7⟩ := hR4.cells.addr (by omega)
            injection e7 with e7; injection e7 with e7 e8; subst e7 e8
            have p7 := hcell7 g (.string x) (by rw [List.getElem?_map, List.getElem?_eq_getElem hlt2, ← HX.out]; rfl)
            have c3 : Calls Try.prog 39 #[.pointer (some ⟨b, 0, none⟩), .string x] w4 fun e w' => e = .returned (.bool false) ∧ w4 = w' :=
              (list_Has hL4 x).mono fun e w' ⟨he, hw⟩ => ⟨he.trans (ret_bool (by simp [Hnot.out])), hw⟩
            have c4 : Calls Try.prog 35 #[.pointer (some ⟨b, 0, none⟩)] w4 fun e w' => e = .returned (.int .i64 g) ∧ w4 = w' :=
              (list_Len hL4).mono fun e w' ⟨he, hw⟩ => ⟨he.trans (ret_int (by rw [List.length_take]; omega)), hw⟩
            have C3 := hid c3; have C4 := hid c4
            have HB4 := hid hB4; have HL4 := hid hL4; have HR4 := hid hR4
            clear c3 c4 hB4 hL4 hR4 hcell7 hK4 p6
            go_wp2_with fail
            with_reducible refine C3.out.mono ?_
            rintro e w' ⟨rfl, rfl⟩
            go_wp2_with fail
            with_reducible refine C4.out.mono ?_
            rintro e w' ⟨rfl, rfl⟩
            go_wp2
            go_roundg g
            case measure => omega
            case rel => exact ⟨by go_num, by omega, own4, HB4.out, HL4.out, HR4.out⟩
  · go_enter Try.func11, Try.ntmps11
    go_wp2_with fail
    with_reducible refine (list_awake w).mono ?_
    rintro e w1 ⟨rfl, hm1⟩
    have HB := hid ((Base.start w).made 0 hm1).below
    clear hm1
    go_wp2
    go_ret
    exact ⟨rfl, HB.out⟩
end Go.Proofs.Ythbffkdfahlpdaa
