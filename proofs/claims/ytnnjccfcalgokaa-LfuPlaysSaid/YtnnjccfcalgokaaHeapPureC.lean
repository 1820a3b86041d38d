/- Package heap as its row: what three statements want. Plain lists. -/
import Derived.Test.YtnnjccfcalgokaaHeapPureB
import Derived.Test.YtnnjccfcalgokaaSepI
set_option linter.unusedVariables false
namespace Go.Proofs.Ytnnjccfcalgokaa
open Go.RowKit
theorem range_sub {w : World} {g o : Nat} {cs : List Value} (h : w.rangeAt g o cs) (i n : Nat) : w.rangeAt g (o + i) ((cs.drop i).take n) := fun j v hj => by
  rw [List.getElem?_take] at hj
  split at hj
  · rw [List.getElem?_drop] at hj
    have := h (i + j) v hj
    rwa [← Nat.add_assoc] at this
  · cases hj
/-- The row without a key, step by step. -/
theorem cut_at {ks : List ByteArray} {j : Nat} (hj : j < ks.length) : ks = ks.take j ++ ks.getD j ⟨#[]⟩ :: ks.drop (j + 1) ∧ ks.take (j + 1) = ks.take j ++ [ks.getD j ⟨#[]⟩] := by
  rw [getD_in hj]
  refine ⟨by rw [List.getElem_cons_drop, List.take_append_drop], ?_⟩
  rw [List.take_add_one, List.getElem?_eq_getElem hj]; rfl
theorem filt_eq {ks : List ByteArray} {key : ByteArray} {j : Nat} (hj : j < ks.length) (h : ks.getD j ⟨#[]⟩ = key) : ((ks.take (j + 1)).filter fun z => z ≠ key).length = ((ks.take j).filter fun z => z ≠ key).length := by
  rw [(cut_at hj).2, h, List.filter_append]; simp
theorem filt_at {ks : List ByteArray} {key : ByteArray} {j q : Nat} (hj : j < ks.length) (h : ks.getD j ⟨#[]⟩ ≠ key) (hq : q = ((ks.take j).filter fun z => z ≠ key).length) :
    q < (ks.filter fun z => z ≠ key).length ∧ (ks.filter fun z => z ≠ key).getD q ⟨#[]⟩ = ks.getD j ⟨#[]⟩ ∧ q + 1 = ((ks.take (j + 1)).filter fun z => z ≠ key).length := by
  obtain ⟨e1, e2⟩ := cut_at hj
  have e3 : (ks.filter fun z => z ≠ key) = ((ks.take j).filter fun z => z ≠ key) ++ ks.getD j ⟨#[]⟩ :: ((ks.drop (j + 1)).filter fun z => z ≠ key) := by
    conv => lhs; rw [e1]
    rw [List.filter_append, List.filter_cons_of_pos (by simpa using h)]
  rw [e3, e2, List.filter_append]
  generalize ks.getD j ⟨#[]⟩ = c at *
  subst hq
  refine ⟨by simp, ?_, by simp [h]⟩
  rw [List.getD_eq_getElem?_getD, List.getElem?_append_right (Nat.le_refl _)]; simp
/-! ### popping -/
theorem drop_kr {S : List (KR ByteArray)} {j : Nat} (hj : j < (S.map (·.1)).length) : ∃ kj aj bj, S.drop j = (kj, aj, bj) :: S.drop (j + 1) ∧ (S.map (·.1)).getD j ⟨#[]⟩ = kj ∧ S[j]? = some (kj, aj, bj) := by
  have hj' : j < S.length := by simpa using hj
  refine ⟨S[j].1, S[j].2.1, S[j].2.2, List.drop_eq_getElem_cons hj', ?_, List.getElem?_eq_getElem hj'⟩
  rw [getD_in hj]; simp
/-- Behind j that came. -/
structure PopI (S : List (KR ByteArray)) (sn : List (ByteArray × Bool)) (la lb : Int) (j : Nat) : Prop where
  le : j ≤ (S.map (·.1)).length
  sn : ∀ k, (lk sn k).getD false = decide (k ∈ (S.map (·.1)).take j)
  last : 0 < j → ∃ k, S[j - 1]? = some (k, la, lb)
theorem PopI.new {S : List (KR ByteArray)} : PopI S [] 0 0 0 := ⟨Nat.zero_le _, fun k => by simp [lk], fun h => by omega⟩
theorem PopI.fresh {S : List (KR ByteArray)} {sn : List (ByteArray × Bool)} {la lb aj bj : Int} {j : Nat} {kj : ByteArray} (h : PopI S sn la lb j) (hn : (S.map (·.1)).Nodup) (hj : S[j]? = some (kj, aj, bj)) : (lk sn kj).getD false = false := by
  rw [h.sn, decide_eq_false_iff_not]
  intro hm
  obtain ⟨i, hi, e⟩ := List.mem_take_iff_getElem.1 hm
  have hj' := (List.getElem?_eq_some_iff.1 hj)
  obtain ⟨hl, e2⟩ := hj'
  have : (S.map (·.1))[i]'(by omega) = (S.map (·.1))[j]'(by simpa using hl) := by rw [e]; simp [e2]
  have := (List.getElem_inj hn).1 this
  omega
theorem PopI.less {S : List (KR ByteArray)} {sn : List (ByteArray × Bool)} {la lb aj bj : Int} {j : Nat} {kj : ByteArray} (h : PopI S sn la lb j) (hs : HSorted S) (hj : S[j]? = some (kj, aj, bj)) (h0 : 0 < j) : ¬ (aj < la ∨ aj = la ∧ bj < lb) := by
  obtain ⟨k, hk⟩ := h.last h0
  obtain ⟨l1, e1⟩ := List.getElem?_eq_some_iff.1 hk
  obtain ⟨l2, e2⟩ := List.getElem?_eq_some_iff.1 hj
  have := List.pairwise_iff_getElem.1 hs (j - 1) j l1 l2 (by omega)
  rw [e1, e2] at this
  exact this
theorem PopI.step {S : List (KR ByteArray)} {sn : List (ByteArray × Bool)} {la lb aj bj : Int} {j : Nat} {kj : ByteArray} (h : PopI S sn la lb j) (hj : S[j]? = some (kj, aj, bj)) : PopI S (put sn kj true) aj bj (j + 1) := by
  obtain ⟨l2, e2⟩ := List.getElem?_eq_some_iff.1 hj
  refine ⟨by rw [List.length_map]; exact l2, fun k => ?_, fun _ => ⟨kj, by simpa using hj⟩⟩
  have hl : j < (S.map (·.1)).length := by simpa using l2
  rw [lk_put, (cut_at hl).2, getD_in hl]
  by_cases e : k = kj
  · subst e; simp [e2]
  · rw [if_neg e, h.sn]; simp [e2, e]
/-! ### numbers and texts -/
theorem strOf1_inj {a b : Int} (ha : 0 ≤ a ∧ a ≤ 255) (hb : 0 ≤ b ∧ b ≤ 255) (h : strOf [a] = strOf [b]) : a = b := by
  have h1 : (strOf [a]).data = #[UInt8.ofNat a.toNat] := rfl
  have h2 : (strOf [b]).data = #[UInt8.ofNat b.toNat] := rfl
  have h3 : UInt8.ofNat a.toNat = UInt8.ofNat b.toNat := by
    have := congrArg ByteArray.data h
    rw [h1, h2] at this
    simpa using this
  have h4 := congrArg UInt8.toNat h3
  rw [UInt8.toNat_ofNat', UInt8.toNat_ofNat'] at h4
  omega
structure KindI (TA : List (KR ByteArray)) (TB : List (KR Int)) (k : Nat) : Prop where
  map : TA = TB.map fun y => (strOf [y.1], y.2)
  bd : ∀ y ∈ TB, 0 ≤ y.1 ∧ y.1 < k
  len : TB.length = k
theorem KindI.new : KindI [] [] 0 := ⟨rfl, fun y h => by simp at h, rfl⟩
theorem KindI.step {TA : List (KR ByteArray)} {TB : List (KR Int)} {k : Nat} (h : KindI TA TB k) (hk : k < 200) (r1 r2 : Int) : KindI (hset TA (strOf [(k : Int)], r1, r2)) (hset TB ((k : Int), r1, r2)) (k + 1) := by
  obtain ⟨e, hb, hl⟩ := h
  have hno : hrem TB (k : Int) = TB := by
    unfold hrem; rw [List.filter_eq_self]; intro y hy; have := hb y hy; simp; omega
  refine ⟨?_, fun y hy => ?_, ?_⟩
  · rw [e]
    exact (hset_map (f := fun a : Int => strOf [a]) (k := (k : Int)) (fun y hy q => by have := hb y hy; exact strOf1_inj (by omega) (by omega) q) (r1, r2)).symm
  · rcases hset_mem.1 hy with q | ⟨q, _⟩
    · subst q; dsimp only; omega
    · have := hb y q; omega
  · unfold hset; rw [(hins_perm _ _).length_eq, List.length_cons]; dsimp only; rw [hno, hl]
theorem KindI.at {TA : List (KR ByteArray)} {TB : List (KR Int)} {k j : Nat} (h : KindI TA TB k) (hj : j < k) : (TA.map (·.1)).getD j ⟨#[]⟩ = strOf [(TB.map (·.1)).getD j 0] ∧ 0 ≤ (TB.map (·.1)).getD j 0 ∧ (TB.map (·.1)).getD j 0 < k := by
  have h1 : j < TB.length := by rw [h.len]; exact hj
  have e2 : (TB.map (·.1)).getD j 0 = TB[j].1 := by rw [getD_in (by simpa using h1)]; simp
  have e1 : (TA.map (·.1)).getD j ⟨#[]⟩ = strOf [TB[j].1] := by
    rw [h.map, List.map_map, getD_in (by simpa using h1)]; simp
  rw [e1, e2]
  exact ⟨rfl, h.bd _ (List.getElem_mem h1)⟩
theorem KindI.lens {TA : List (KR ByteArray)} {TB : List (KR Int)} {k : Nat} (h : KindI TA TB k) : (TA.map (·.1)).length = k ∧ (TB.map (·.1)).length = k := by
  rw [h.map]; simp [h.len]
end Go.Proofs.Ytnnjccfcalgokaa
