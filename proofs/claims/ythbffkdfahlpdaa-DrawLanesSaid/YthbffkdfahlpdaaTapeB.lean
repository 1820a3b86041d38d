/- The tape of package draw: Left, Next, Pick, Copy. -/
import Derived.Test.YthbffkdfahlpdaaTape
set_option linter.unusedVariables false
namespace Go.Proofs.Ythbffkdfahlpdaa
open Go.RowKit Go.MapKept

/-- A lane by its number. -/
def ln (ls : List (List Int)) (i : Int) : List Int := if i < 0 then [] else ls.getD i.toNat []
/-- The lanes behind a draw of i. -/
def nx (ls : List (List Int)) (i : Int) : List (List Int) := if i < 0 then ls else ls.set i.toNat (ln ls i).tail

theorem ln_nat {ls : List (List Int)} {k : Nat} (hk : k < ls.length) : ln ls k = ls[k] := by
  unfold ln
  rw [if_neg (by omega), Int.toNat_natCast, List.getD_eq_getElem?_getD, List.getElem?_eq_getElem hk]
  rfl
theorem ln_out {ls : List (List Int)} {i : Int} (h : (ls.length : Int) ≤ i) : ln ls i = [] := by
  unfold ln
  rw [if_neg (by omega), List.getD_eq_getElem?_getD, List.getElem?_eq_none (by omega)]
  rfl
theorem ln_neg {ls : List (List Int)} {i : Int} (h : i < 0) : ln ls i = [] := if_pos h

theorem AllL.set {R : Value → List Int → Prop} {vs : List Value} {ls : List (List Int)} (h : AllL R vs ls) (k : Nat) {u : Value} {l : List Int} (hc : R u l) : AllL R (vs.set k u) (ls.set k l) := by
  refine ⟨by simp [h.1], fun i hi => ?_⟩
  have hi' : i < ls.length := by simpa using hi
  by_cases e : k = i
  · subst e
    exact ⟨u, by rw [List.getElem?_set_self (by rw [h.1]; exact hi')], by rw [List.getElem_set_self]; exact hc⟩
  · obtain ⟨u', h1, h2⟩ := h.2 i hi'
    exact ⟨u', by rw [List.getElem?_set_ne e]; exact h1, by rw [List.getElem_set_ne e]; exact h2⟩

section
variable {w w' : World} {b : Nat} {S S' : Nat → Prop} {ls : List (List Int)}
theorem TapeAt.drewN (h : TapeAt w b S ls) (n : Nat) : TapeAt (w.drewN n) b S ls := h.modNil ((Mod.refl _ _).drewN n)

set_option maxHeartbeats 1600000 in
set_option maxRecDepth 100000 in
theorem tape_Left (h : TapeAt w b S ls) (i : Int) (hi : -9223372036854775808 ≤ i ∧ i ≤ 9223372036854775807) :
    Calls Try.prog 21 #[.pointer (some ⟨b, 0, none⟩), .int .i64 i] w fun e w' => e = .returned (.int .i64 (ln ls i).length) ∧ w = w' := by
  obtain ⟨v, vs, hB, hS, hR, hN⟩ := h
  obtain ⟨a, cap, rfl, hc1, hc2⟩ := hR.len
  unfold maxLen at hc2
  have pb := hB.at 0 _ rfl
  by_cases h0 : i < 0
  · have h0' : decide (i < 0) = true := decide_eq_true h0
    have e : (ln ls i).length = 0 := by rw [ln_neg h0]; rfl
    go_enter Try.func21, Try.ntmps21
    go_wp2_with fail
    go_ret
    exact ⟨ret_int (by rw [e]; rfl), rfl⟩
  · have h0' : decide (i < 0) = false := decide_eq_false h0
    by_cases h1 : (ls.length : Int) ≤ i
    · have h1' : decide ((ls.length : Int) ≤ i) = true := decide_eq_true h1
      have e : (ln ls i).length = 0 := by rw [ln_out h1]; rfl
      have E := hid e
      clear e
      go_enter Try.func21, Try.ntmps21
      go_wp2_with fail
      go_ret
      exact ⟨ret_int (by rw [E.out]; rfl), rfl⟩
    · have h1' : decide ((ls.length : Int) ≤ i) = false := decide_eq_false h1
      obtain ⟨k, rfl⟩ : ∃ k : Nat, i = k := ⟨i.toNat, by omega⟩
      have hk : k < ls.length := by omega
      obtain ⟨u, hu, g2, off, c2, cur2, rfl, hS2, hB2, h2, h3, h4⟩ := hN.2 k hk
      have e : (ln ls k).length = ls[k].length := by rw [ln_nat hk]
      obtain ⟨g, cap', cur, q, hSg, hBg, hn, _, hlen, hx⟩ := hR.shape.resolve_left (by omega)
      cases q
      have p1 := hBg.at k _ (by rw [← hx, List.getElem?_take] at hu; simpa [hk] using hu)
      have E := hid e
      clear e hu hx
      go_enter Try.func21, Try.ntmps21
      go_wp2_with fail
      go_ret
      exact ⟨ret_int (by rw [E.out]), rfl⟩

set_option maxHeartbeats 1600000 in
set_option maxRecDepth 100000 in
theorem tape_Next (h : TapeAt w b S ls) (i : Int) (hi : -9223372036854775808 ≤ i ∧ i ≤ 9223372036854775807) :
    Calls Try.prog 17 #[.pointer (some ⟨b, 0, none⟩), .int .i64 i] w fun e w' => e = .returned (.int .u64 ((ln ls i).headD 0)) ∧ Mod S w w' ∧ TapeAt w' b S (nx ls i) := by
  by_cases h0 : (ln ls i).length = 0
  · have hc := tape_Left h i hi
    have hn : ln ls i = [] := List.eq_nil_of_length_eq_zero h0
    rw [h0] at hc
    have H := hid h
    have HC := hid hc
    have hnx : nx ls i = ls := by
      unfold nx
      split
      · rfl
      · rename_i hneg
        rw [hn]
        apply List.ext_getElem (by simp)
        intro j h1 h2
        rw [List.getElem_set]
        split
        · rename_i e; subst e
          have : ls.getD i.toNat [] = [] := by have := hn; unfold ln at this; rw [if_neg hneg] at this; exact this
          simpa [h2] using this.symm
        · rfl
    have HX := hid hnx
    clear h hc hnx
    go_enter Try.func17, Try.ntmps17
    go_wp2_with fail
    with_reducible refine HC.out.mono ?_
    rintro e w' ⟨rfl, rfl⟩
    go_wp2
    go_ret
    exact ⟨by rw [hn]; rfl, Mod.refl _ _, by rw [HX.out]; exact H.out⟩
  · have hge : ¬ i < 0 := fun q => h0 (by rw [ln_neg q]; rfl)
    obtain ⟨k, rfl⟩ : ∃ k : Nat, i = k := ⟨i.toNat, by omega⟩
    have hk : k < ls.length := Nat.lt_of_not_le fun q => h0 (by rw [ln_out (by omega)]; rfl)
    have e : ln ls k = ls[k] := ln_nat hk
    rw [e] at h0
    have hc := tape_Left h k hi
    rw [e] at hc
    obtain ⟨v, vs, hB, hS, hR, hN⟩ := h
    obtain ⟨a, cap, rfl, hc1, hc2⟩ := hR.len
    unfold maxLen at hc2
    obtain ⟨u, hu, g2, off, c2, cur2, rfl, hS2, hB2, h2, h3, h4⟩ := hN.2 k hk
    obtain ⟨g, cap', cur, q, hSg, hBg, hn, _, hlen, hx⟩ := hR.shape.resolve_left (by omega)
    cases q
    unfold maxLen at h3
    obtain ⟨x, t, hl⟩ : ∃ x t, ls[k] = x :: t := by
      cases hq : ls[k] with
      | nil => rw [hq] at h0; simp at h0
      | cons x t => exact ⟨x, t, rfl⟩
    have hlk : ls[k].length = t.length + 1 := by rw [hl]; rfl
    have hu' : cur[k]? = some (.slice (some ⟨g2, off, none⟩) (t.length + 1) c2) := by rw [← hx, List.getElem?_take] at hu; rw [hlk] at hu; simpa [hk] using hu
    have hd : cur2[off]? = some (.int .u64 x) := by have := h4 0 x (by rw [hl]; rfl); simpa using this
    rw [hlk] at hc h2
    go_enter Try.func17, Try.ntmps17
    have HC := hid hc
    clear hc
    go_wp2_with fail
    with_reducible refine HC.out.mono ?_
    rintro e' w' ⟨rfl, rfl⟩
    have pb := hB.at 0 _ rfl
    have p1 := hBg.at k _ hu'
    have p2 := hB2.at off _ hd
    have f1 := hBg.free k
    have HB := hid hB; have HBG := hid hBg; have HB2 := hid hB2; have HU := hid hu; have HX := hid hx; have HL := hid hl; have HN := hid hN; have HR := hid hR; have H4 := hid h4; have HE := hid e; have HLK := hid hlk
    have HS := hid (And.intro hS (And.intro hSg hS2)); have HLEN := hid hlen
    clear hB hBg hB2 hu hx hl hN hR hu' hd h4 e hlk HC hSg hS hS2 hlen
    go_wp2_with fail
    go_region
    obtain ⟨o2, ho2, hne2⟩ : ∃ o2, (if c2 = 1 then some (⟨g2, off, none⟩ : Addr) else some ⟨g2, off + 1, none⟩) = some ⟨g2, o2, none⟩ ∧ (c2 ≠ 1 → o2 = off + 1) := by
      by_cases q : c2 = 1
      · exact ⟨off, by rw [if_pos q], fun q' => (q' q).elim⟩
      · exact ⟨off + 1, by rw [if_neg q], fun _ => rfl⟩
    rw [ho2]
    go_wp2
    go_ret
    refine ⟨by rw [HE.out, HL.out]; rfl, ((Mod.refl S w).setCell (fun _ => HS.out.2.1) _).drew, ?_⟩
    have enx : nx ls k = ls.set k t := by unfold nx; rw [if_neg (by omega), HE.out, HL.out]; rfl
    rw [enx]
    have hgb : b ≠ g := HB.out.ne HBG.out (by decide)
    have hg2 : g2 ≠ g := HB2.out.ne HBG.out (by decide)
    refine ⟨_, vs.set k (.slice (some ⟨g2, o2, none⟩) t.length (c2 - 1)), (HB.out.setne hgb _).drew, HS.out.1, ?_, ?_⟩
    · rw [List.length_set]
      refine Row.mk HS.out.2.1 ((HBG.out.set k _).drew) hn (by unfold maxLen; omega) (by rw [List.length_set]; exact HLEN.out) ?_
      rw [← HX.out, List.take_set]
    · refine (HN.out.mono fun _ _ q => ?_).set k ?_
      · exact (q.other ((Mod.refl (fun j => j = g) w).setCell (fun _ => rfl) _).drew fun j cur hb e => hb.ne HBG.out (by decide) e)
      · refine ⟨g2, o2, c2 - 1, cur2, rfl, HS.out.2.2, (HB2.out.setne hg2 _).drew, by omega, by unfold maxLen; omega, fun j y hj => ?_⟩
        have hjt : j < t.length := (List.getElem?_eq_some_iff.1 hj).1
        rw [hne2 (by omega), Nat.add_assoc, Nat.add_comm 1 j]
        exact H4.out (j + 1) y (by rw [HL.out]; exact hj)

/-- A draw's pick. -/
theorem tape_Pick (h : TapeAt w b S ls) (i : Int) (hi : -9223372036854775808 ≤ i ∧ i ≤ 9223372036854775807) (p : Int) :
    Calls Try.prog 18 #[.pointer (some ⟨b, 0, none⟩), .int .i64 i, .int .u64 p] w fun e w' => e = .returned (.bool (decide ((ln ls i).headD 0 / 4 < p))) ∧ Mod S w w' ∧ TapeAt w' b S (nx ls i) := by
  have hc := tape_Next h i hi
  generalize (ln ls i).headD 0 = x at *
  have HC := hid hc
  clear hc h
  go_enter Try.func18, Try.ntmps18
  go_wp2_with fail
  with_reducible refine HC.out.mono ?_
  rintro e w1 ⟨rfl, hm, ht⟩
  have HM := hid hm; have HT := hid ht
  clear hm ht HC
  go_wp2
  go_ret
  exact ⟨rfl, HM.out, HT.out⟩

theorem tape_Copy (h : TapeAt w b S ls) (hb : ls.length ≤ 1000000) (hbs : ∀ l ∈ ls, l.length ≤ 1000000) :
    Calls Try.prog 20 #[.pointer (some ⟨b, 0, none⟩)] w fun e w' => ∃ b', e = .returned (.pointer (some ⟨b', 0, none⟩)) ∧ Mod Nil w w' ∧ ∃ S', (∀ k, S' k → w.heap.size ≤ k) ∧ TapeAt w' b' S' ls := by
  obtain ⟨v, vs, hB, hS, hR, hN⟩ := h
  obtain ⟨a, cap, rfl, _, _⟩ := hR.len
  have pb := hB.at 0 _ rfl
  have HC := hid (tape_New _ vs ls w S hR.cells (hN.mono fun _ _ q => q.lane) hb hbs)
  clear hB hR hN
  go_enter Try.func20, Try.ntmps20
  go_wp2_with fail
  with_reducible refine HC.out.mono ?_
  rintro e w1 ⟨b1, rfl, hm, ht⟩
  have HM := hid (And.intro hm ht)
  clear hm ht HC
  go_wp2
  go_ret
  exact ⟨b1, rfl, HM.out⟩
end
end Go.Proofs.Ythbffkdfahlpdaa
