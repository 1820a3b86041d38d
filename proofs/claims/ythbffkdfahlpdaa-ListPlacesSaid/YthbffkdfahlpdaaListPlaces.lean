/- The walk of ListPlaces: what came in is read alone; true. -/
import Derived.Test.YthbffkdfahlpdaaListActs
set_option linter.unusedVariables false
namespace Go.Proofs.Ythbffkdfahlpdaa
open Go.RowKit Go.MapKept

abbrev LStr := {s : ByteArray // s.size ≤ maxLen}
/-- The places G that were ever taken at once, beside the keys ks. -/
def PlIn (w wr : World) (b mb : Nat) (xs : List ByteArray) (ks G : List ByteArray) : Prop :=
  ∃ (own : Nat → Nat) (l : List (ByteArray × Bool)), Base w wr own ∧ ListAt wr b (fun k => own k = 1) ks G.length ∧ OwnMap Value.string Value.bool wr own 3 mb l ∧ SetOf l G ∧ G.Nodup ∧ (∀ x ∈ G, x ∈ xs) ∧ (∀ x ∈ ks, x ∈ G)
def PlOut (w wr : World) (b mb : Nat) (xs : List ByteArray) : Prop := ∃ G, (G = [] ∨ ∀ x ∈ xs, x ∈ G) ∧ PlIn w wr b mb xs [] G
def PlFront (w wr : World) (b mb : Nat) (xs : List ByteArray) (k : Nat) : Prop := ∃ ks G, (ks = G ∨ ∀ x ∈ xs, x ∈ G) ∧ (∀ x ∈ xs.take k, x ∈ G) ∧ PlIn w wr b mb xs ks G
def PlBack (w wr : World) (b mb : Nat) (xs : List ByteArray) (k : Nat) : Prop := ∃ ks G, (∀ x ∈ xs, x ∈ G) ∧ (∀ x ∈ ks, x ∈ xs.drop k) ∧ PlIn w wr b mb xs ks G

theorem pl_max {ks G xs : List ByteArray} {k : ByteArray} (hn : ks.Nodup) (hG : G.Nodup) (h : ks = G ∨ ∀ x ∈ xs, x ∈ G) (hk : k ∈ xs) (hs : ∀ x ∈ ks, x ∈ G) : max G.length (fr ks k).length = (fr G k).length := by
  rcases h with rfl | h
  · rw [length_fr hn]; split <;> omega
  · have h1 := nodup_le (nodup_fr hn k) (m := G) fun x hx => (mem_fr.1 hx).elim (fun e => e ▸ h _ hk) (hs x)
    rw [length_fr hG, if_pos (h k hk)]; omega

set_option maxHeartbeats 1600000 in
set_option maxRecDepth 100000 in
theorem listPlaces_walk (v0 : Value) (xs : List LStr) (r : Int) (w : World) (h : Cells w (fun k => k < w.heap.size) v0 xs.length 1 (xs.flatMap fun x => [Value.string x.1])) (hr : (Lit.int .u8 r).wf = true) :
    Calls Try.prog 13 #[v0, .int .u8 r] w fun e w' => e = .returned (.bool true) ∧ Below w.heap.size w w' := by
  obtain ⟨a, cap, rfl, hc1, hc2, _, hc⟩ := h.shape
  unfold maxLen at hc2
  have hr1 : 0 ≤ r ∧ r ≤ 255 := by simp [Lit.wf] at hr; exact hr
  by_cases h3 : xs.length ≤ 50
  · clear hc2
    have hmm := @run_makeMap Try.prog
    go_enter Try.func13, Try.ntmps13
    go_wp2_with fail
    with_reducible refine (list_awake w).mono ?_
    rintro e w1 ⟨rfl, hm1⟩
    have HB := hid ((Base.start w).made 0 hm1)
    clear hm1
    go_wp2_with fail
    with_reducible refine (law_New HB.out 1).mono ?_
    rintro e x1 ⟨b, own1', rfl, hB', hL', hK'⟩
    have HL := hid hL'
    replace HB := hid hB'
    clear hB' hL' hK'
    go_wp2_with fail
    obtain ⟨own2', hB', hL', hK'⟩ := law_map Value.string Value.bool HB.out 3
    replace HL := hid (HL.out.keep (hK' 1))
    have HM := hid hL'
    replace HB := hid hB'
    clear hB' hL' hK'
    clear hmm
    go_loopw [7] (fun i wr => ∃ k : Nat, (k : Int) ≤ r % 8 + 1 ∧ i = .int .i64 k ∧ PlOut w wr b x1.heap.size (xs.map Subtype.val)) (fun i _ => 10 - (intOf i).toNat)
    case atStart => exact ⟨0, by omega, rfl, [], .inl rfl, own2', [], HB.out, HL.out, HM.out, SetOf.nil, by simp, by simp, by simp⟩
    case round =>
      clear HB HL HM
      obtain ⟨k, hk, rfl, G, hG, hin⟩ := hrel
      by_cases hlt : (k : Int) < r % 8 + 1
      · clear hk
        go_wp2_with fail
        go_loopw [8] (fun i wr => ∃ k : Nat, k ≤ xs.length ∧ i = .int .i64 k ∧ PlFront w wr b x1.heap.size (xs.map Subtype.val) k) (fun i _ => xs.length - (intOf i).toNat)
        case atStart => exact ⟨0, by omega, rfl, [], G, hG.imp Eq.symm id, by simp, hin⟩
        case round =>
          clear hin
          obtain ⟨k2, hk2, rfl, ks, G, hG, hall, own, l, hB, hL, hM, hS, hn, hsub, hle⟩ := hrel
          by_cases hlt2 : k2 < xs.length
          · obtain ⟨g, off, rfl, _, _, hcell⟩ := hc (by omega)
            obtain ⟨⟨ky, hw⟩, hx⟩ : ∃ x, x = xs[k2] := ⟨_, rfl⟩
            have p1 := hB.cell (hcell (k2 * 1 + 0) (.string ky) (by rw [get_flat (size := 1) (fun _ => rfl) xs k2 0 hlt2 (by omega), ← hx]; rfl))
            have q1 := hcell (k2 * 1 + 0) (.string ky) (by rw [get_flat (size := 1) (fun _ => rfl) xs k2 0 hlt2 (by omega), ← hx]; rfl)
            simp only [Nat.add_zero, Nat.mul_one] at p1 q1
            have hmem : ky ∈ xs.map Subtype.val := List.mem_map.2 ⟨xs[k2], List.getElem_mem hlt2, by rw [← hx]⟩
            have hun := hL.uniq
            have hmax := pl_max hun hn hG hmem hle
            have hG' : fr ks ky = fr G ky ∨ ∀ x ∈ xs.map Subtype.val, x ∈ fr G ky := by
              rcases hG with rfl | hG
              · exact .inl rfl
              · exact .inr fun x hx => mem_fr.2 (.inr (hG x hx))
            have hall' : ∀ x ∈ (xs.map Subtype.val).take (k2 + 1), x ∈ fr G ky := by
              intro x hx'
              rw [List.take_succ_eq_append_getElem (by simpa using hlt2), List.mem_append] at hx'
              rcases hx' with hx' | hx'
              · exact mem_fr.2 (.inr (hall x hx'))
              · rw [List.getElem_map, ← hx] at hx'; exact mem_fr.2 (.inl (by simpa using hx'))
            have hsub' : ∀ x ∈ fr G ky, x ∈ xs.map Subtype.val := fun x hx' => (mem_fr.1 hx').elim (fun e => e ▸ hmem) (hsub x)
            have hle' : ∀ x ∈ fr ks ky, x ∈ fr G ky := fun x hx' => mem_fr.2 ((mem_fr.1 hx').imp id (hle x))
            have hpl : G.length ≤ 50 := by have := nodup_le hn hsub; simp at this; omega
            clear hcell hc hx hw hG hall hmem
            have HB := hid hB
            have HL := hid hL
            have HM := hid hM
            have HS := hid hS
            have Hun := hid hun
            have Hmax := hid hmax
            have HG' := hid hG'
            have Hall' := hid hall'
            have Hsub' := hid hsub'
            have Hle' := hid hle'
            clear hB hL hM hS hun hmax hG' hall' hsub' hle'
            go_wp2_with fail
            with_reducible refine (law_Front HB.out (by omega) HL.out (by omega) ky).mono ?_
            rintro e x1 ⟨rfl, own1', hB', hL', hK'⟩
            replace HM := hid (HM.out.keep (hK' 3 (by decide)))
            replace HL := hid hL'
            replace HB := hid hB'
            clear hB' hL' hK'
            replace p1 := HB.out.cell q1
            go_wp2_with (at_mapUpdate; refine wpMapStore rfl _ _ _ rfl key_str Try.underlying59 HM.out.1 rfl ky true rfl rfl ?_; intro w3 hm3 hg3)
            obtain ⟨own2', hB', hL', hK'⟩ := OwnMap.turn HB.out (by decide) HM.out hm3 hg3
            replace HL := hid (HL.out.keep (hK' 1 (by decide)))
            replace HM := hid hL'
            replace HB := hid hB'
            clear hB' hL' hK' hm3 hg3
            replace p1 := HB.out.cell q1
            go_wp2
            go_roundw
            case rel => exact ⟨k2 + 1, by omega, by go_num, _, _, HG'.out, Hall'.out, own2', _, HB.out, by have := HL.out; rwa [Hmax.out] at this, HM.out, HS.out.put hn ky, nodup_fr hn ky, Hsub'.out, Hle'.out⟩
            case measure => simp [intOf]; omega
          · have hall : ∀ x ∈ xs.map Subtype.val, x ∈ G := by rw [List.take_of_length_le (by simp; omega)] at hall; exact hall
            clear hG
            go_wp2_with fail
            go_loopw [9] (fun i wr => ∃ k : Nat, k ≤ xs.length ∧ i = .int .i64 k ∧ PlBack w wr b x1.heap.size (xs.map Subtype.val) k) (fun i _ => xs.length - (intOf i).toNat)
            case atStart => exact ⟨0, by omega, rfl, ks, G, hall, by simpa using fun x hx => by simpa using hsub x (hle x hx), own, l, hB, hL, hM, hS, hn, hsub, hle⟩
            case round =>
              clear hB hL hM hS hn hsub hle hall
              obtain ⟨k3, hk3, rfl, ks, G, hall, hleft, own, l, hB, hL, hM, hS, hn, hsub, hle⟩ := hrel
              by_cases hlt3 : k3 < xs.length
              · obtain ⟨g, off, rfl, _, _, hcell⟩ := hc (by omega)
                obtain ⟨⟨ky, hw⟩, hx⟩ : ∃ x, x = xs[k3] := ⟨_, rfl⟩
                have p1 := hB.cell (hcell (k3 * 1 + 0) (.string ky) (by rw [get_flat (size := 1) (fun _ => rfl) xs k3 0 hlt3 (by omega), ← hx]; rfl))
                simp only [Nat.add_zero, Nat.mul_one] at p1
                have hleft' : ∀ x ∈ rm ks ky, x ∈ (xs.map Subtype.val).drop (k3 + 1) := by
                  intro x hx'
                  obtain ⟨h1, h2⟩ := mem_rm.1 hx'
                  have h4 := hleft x h1
                  rw [List.drop_eq_getElem_cons (by simpa using hlt3), List.getElem_map, ← hx, List.mem_cons] at h4
                  exact h4.resolve_left h2
                have hle' : ∀ x ∈ rm ks ky, x ∈ G := fun x hx' => hle x (mem_rm.1 hx').1
                have hpl : G.length ≤ 50 := by have := nodup_le hn hsub; simp at this; omega
                clear hcell hc hx hw hle hleft
                have HB := hid hB
                have HL := hid hL
                have HM := hid hM
                have HS := hid hS
                have Hall := hid hall
                have Hleft' := hid hleft'
                have Hsub := hid hsub
                have Hle' := hid hle'
                clear hB hL hM hS hall hleft' hsub hle'
                go_wp2_with fail
                with_reducible refine (law_Remove HB.out (by omega) HL.out (by omega) ky).mono ?_
                rintro e x1 ⟨rfl, own1', hB', hL', hK'⟩
                replace HM := hid (HM.out.keep (hK' 3 (by decide)))
                replace HL := hid hL'
                replace HB := hid hB'
                clear hB' hL' hK'
                go_wp2
                go_roundw
                case rel => exact ⟨k3 + 1, by omega, by go_num, _, _, Hall.out, Hleft'.out, own1', _, HB.out, HL.out, HM.out, HS.out, hn, Hsub.out, Hle'.out⟩
                case measure => simp [intOf]; omega
              · have hks : ks = [] := List.eq_nil_iff_forall_not_mem.2 fun x hx => by have := hleft x hx; rw [List.drop_eq_nil_of_le (by simp; omega)] at this; simp at this
                subst hks
                have hpl : G.length ≤ 50 := by have := nodup_le hn hsub; simp at this; omega
                have hlx := hM.1.len (P := Try.prog) Try.underlying59 3
                rw [hS.2] at hlx
                have HB := hid hB
                have HL := hid hL
                have HM := hid hM
                have HS := hid hS
                have Hall := hid hall
                have Hsub := hid hsub
                have Hle := hid hle
                have Hleft := hid hleft
                have Hlx := hid hlx
                clear hB hL hM hS hall hsub hle hleft hlx
                go_wp2_with fail
                with_reducible refine (list_Places HL.out (by omega)).mono ?_
                rintro e w' ⟨rfl, rfl⟩
                have hlx := Hlx.out
                go_wp2_with fail
                with_reducible refine (list_Len HL.out).mono ?_
                rintro e w' ⟨rfl, rfl⟩
                go_wp2
                go_roundw
                case rel => exact ⟨k + 1, by omega, by go_num, G, .inr Hall.out, own, l, HB.out, HL.out, HM.out, HS.out, hn, Hsub.out, by simp⟩
                case measure => simp [intOf]; omega
      · obtain ⟨own, l, hB, hL, hM, hS, hn, hsub, hle⟩ := hin
        clear hG hM hS
        have hpl : G.length ≤ 50 := by have := nodup_le hn hsub; simp at this; omega
        have HB := hid hB
        have HL := hid hL
        clear hB hL
        go_wp2_with fail
        with_reducible refine (law_Clear HB.out (by omega) HL.out).mono ?_
        rintro e x1 ⟨rfl, own1', hB', hL', hK'⟩
        replace HL := hid hL'
        replace HB := hid hB'
        clear hB' hL' hK'
        go_wp2_with fail
        with_reducible refine (law_Back HB.out (by omega) HL.out (by omega) ⟨#[120]⟩).mono ?_
        rintro e x2 ⟨rfl, own2', hB', hL', hK'⟩
        replace HL := hid hL'
        replace HB := hid hB'
        clear hB' hL' hK'
        have hL2 : ListAt x2 b (fun k => own2' k = 1) (bk [] ⟨#[120]⟩) 1 := HL.out
        go_wp2_with fail
        with_reducible refine (list_Places hL2 (by omega)).mono ?_
        rintro e w' ⟨rfl, rfl⟩
        go_wp2_with fail
        with_reducible refine (list_Len hL2).mono ?_
        rintro e w' ⟨rfl, rfl⟩
        go_wp2
        go_ret
        exact ⟨by simp [bk, rm], HB.out.below⟩
  · go_enter Try.func13, Try.ntmps13
    go_wp2_with fail
    with_reducible refine (list_awake w).mono ?_
    rintro e w1 ⟨rfl, hm1⟩
    have HB := hid ((Base.start w).made 0 hm1).below
    clear hm1
    go_wp2
    go_ret
    exact ⟨rfl, HB.out⟩
end Go.Proofs.Ythbffkdfahlpdaa
