/- LruQ, HeapPureC, LfuPure, LfuPureB -/
import Derived.Test.YtholinnmjoelkaaGreatDoorM22
import Derived.Test.YtholinnmjoelkaaGreatDoorM17
set_option linter.unusedVariables false
set_option linter.unusedSimpArgs false
namespace Go.Proofs.YtholinnmjoelkaaGreatDoor
structure LqI (most : Int) (ks : LB) : Prop where
  nd : ks.Nodup
  h0 : 0 ≤ most
  len : (ks.length : Int) ≤ most
section
variable {most : Int} {ks : LB} {key : ByteArray}
theorem LqI.new (h : 0 ≤ most) : LqI most [] := ⟨by simp, h, by simpa using h⟩
theorem lqNew_nn (h : 0 ≤ most) : lqNew most = (most, []) := by unfold lqNew; rw [if_neg (by omega)]
theorem LqI.req (h : LqI most ks) (key : ByteArray) {x} (hx : lqReq most ks key = x) : LqI most x.1 ∧ (0 < most → ReqP most ks.reverse key x.1.reverse x.2.1 x.2.2.1 x.2.2.2) ∧ (most = 0 → x = (ks, decide (key ∈ ks), ⟨#[]⟩, false)) := by
  have h0 := h.h0; have hl := h.len; have hn := nodup_cn.1 h.nd
  unfold lqReq at hx
  by_cases hm : most = 0
  · rw [if_pos hm] at hx; subst hx; exact ⟨h, fun q => by omega, fun _ => rfl⟩
  rw [if_neg hm] at hx
  by_cases hk : key ∈ ks
  · rw [if_neg (fun q => q hk), decide_eq_true hk] at hx
    subst hx
    have c1 := cn_mem.1 hk
    have f1 := len_fr ks key
    have nk := hn key
    refine ⟨⟨nodup_cn.2 fun k => by rw [cn_fr]; have := hn k; split <;> omega, h0, by dsimp only; omega⟩, fun _ => ⟨fun k => ?_, ?_, ?_, ?_, fun q => (by cases q), fun _ => rfl⟩, fun q => absurd q hm⟩
    · rw [cn_rev, cn_rev, cn_fr]; simp only [Bool.false_eq_true, false_and, if_false, Nat.sub_zero]
    · simp only [List.length_reverse, if_true, Bool.false_eq_true, if_false]; omega
    · simp [hk]
    · simp [hk]
  · rw [if_pos hk, decide_eq_false hk] at hx
    have c1 := cn_zero hk
    by_cases hf : (ks.length : Int) ≥ most
    · rw [if_pos hf] at hx
      have hpos : 0 < ks.length := by omega
      rw [decide_eq_true hpos, show ks.getLast?.getD ⟨#[]⟩ = lastOf ks from rfl] at hx
      subst hx
      have hd := fun k => cn_dl hpos k
      have cl := cn_last hpos
      have hkl : key ≠ lastOf ks := fun e => by rw [e] at c1; omega
      have f1 := len_fr ks.dropLast key
      have d1 := len_dl ks
      have dk := hd key
      rw [if_neg hkl] at dk
      refine ⟨⟨nodup_cn.2 fun k => by rw [cn_fr]; have := hn k; have := hd k; split <;> omega, h0, by dsimp only; omega⟩, fun _ => ⟨fun k => ?_, ?_, ?_, ?_, fun _ => ?_, fun q => by cases q⟩, fun q => absurd q hm⟩
      · rw [cn_rev, cn_rev, cn_fr]
        have := hd k
        by_cases q : k = key
        · rw [if_pos q, if_pos q]
        · rw [if_neg q, if_neg q]
          by_cases q2 : k = lastOf ks
          · rw [if_pos ⟨rfl, q2⟩]; rw [if_pos q2] at this; omega
          · rw [if_neg (fun w => q2 w.2)]; rw [if_neg q2] at this; omega
      · simp only [List.length_reverse, if_true, Bool.false_eq_true, if_false]; omega
      · simp [hk]
      · have : (ks.length : Int) = most := by omega
        simp [hk, this]
      · exact List.mem_reverse.2 (cn_mem.2 cl)
    · rw [if_neg hf] at hx
      subst hx
      have f1 := len_fr ks key
      refine ⟨⟨nodup_cn.2 fun k => by rw [cn_fr]; have := hn k; split <;> omega, h0, by dsimp only; omega⟩, fun _ => ⟨fun k => ?_, ?_, ?_, ?_, fun q => (by cases q), fun _ => rfl⟩, fun q => absurd q hm⟩
      · rw [cn_rev, cn_rev, cn_fr]; simp only [Bool.false_eq_true, false_and, if_false, Nat.sub_zero]
      · simp only [List.length_reverse, Bool.false_eq_true, if_false]; omega
      · simp [hk]
      · have : ¬ (ks.length : Int) = most := by omega
        simp [hk, this]
theorem LqI.remove (h : LqI most ks) (key : ByteArray) {x} (hx : lqRemove most ks key = x) : LqI most x.1 ∧ RemP ks.reverse key x.1.reverse [] x.2 := by
  have hn := nodup_cn.1 h.nd; have hl := h.len; have r1 := len_rm ks key
  unfold lqRemove at hx
  subst hx
  refine ⟨⟨nodup_cn.2 fun k => by rw [cn_rm]; have := hn k; split <;> omega, h.h0, by dsimp only; omega⟩, by simp, fun k => by rw [cn_rev, cn_rev, cn_rm], by rw [cn_rev, List.length_reverse, List.length_reverse]; exact r1, by simp⟩
theorem LqI.drop (h : LqI most ks) {x} (hx : lqDrop most ks = x) : LqI most x.1 ∧ DroP ks.reverse [] x.1.reverse [] x.2.1 x.2.2 ∧ lqVictim most ks = x.2 := by
  have hn := nodup_cn.1 h.nd; have hl := h.len; have d1 := len_dl ks
  unfold lqDrop at hx
  subst hx
  refine ⟨⟨h.nd.sublist (List.dropLast_sublist _), h.h0, by dsimp only; omega⟩, ⟨by simp, fun q => ?_, fun q k => ?_, fun q => ?_, fun q => ?_, rfl⟩, rfl⟩
  · have hpos := of_decide_eq_true q
    exact List.mem_reverse.2 (cn_mem.2 (cn_last hpos))
  · have hpos := of_decide_eq_true q
    have := cn_dl hpos k
    rw [cn_rev, cn_rev, show ks.getLast?.getD ⟨#[]⟩ = lastOf ks from rfl]
    split at this <;> rename_i e
    · rw [if_pos e]; dsimp only; omega
    · rw [if_neg e]; dsimp only; omega
  · have hpos := of_decide_eq_true q
    rw [List.length_reverse, List.length_reverse]; dsimp only; omega
  · have := of_decide_eq_false q
    have e : ks = [] := List.eq_nil_of_length_eq_zero (by omega)
    subst e; rfl
end
end Go.Proofs.YtholinnmjoelkaaGreatDoor
namespace Go.Proofs.YtholinnmjoelkaaGreatDoor
open Go.RowKit
theorem cut_at {ks : List ByteArray} {j : Nat} (hj : j < ks.length) : ks = ks.take j ++ ks.getD j ⟨#[]⟩ :: ks.drop (j + 1) ∧ ks.take (j + 1) = ks.take j ++ [ks.getD j ⟨#[]⟩] := by
  rw [getD_in hj]
  refine ⟨by rw [List.getElem_cons_drop, List.take_append_drop], ?_⟩
  rw [List.take_add_one, List.getElem?_eq_getElem hj]; rfl
structure PopI (S : List (KR ByteArray)) (sn : List (ByteArray × Bool)) (la lb : Int) (j : Nat) : Prop where
  le : j ≤ (S.map (·.1)).length
  sn : ∀ k, (lk sn k).getD false = decide (k ∈ (S.map (·.1)).take j)
  last : 0 < j → ∃ k, S[j - 1]? = some (k, la, lb)
theorem PopI.new {S : List (KR ByteArray)} : PopI S [] 0 0 0 := ⟨Nat.zero_le _, fun k => by simp [lk], fun h => by omega⟩
theorem PopI.less {S : List (KR ByteArray)} {sn : List (ByteArray × Bool)} {la lb aj bj : Int} {j : Nat} {kj : ByteArray} (h : PopI S sn la lb j) (hs : HSorted S) (hj : S[j]? = some (kj, aj, bj)) (h0 : 0 < j) : ¬ (aj < la ∨ aj = la ∧ bj < lb) := by
  obtain ⟨k, hk⟩ := h.last h0
  obtain ⟨l1, e1⟩ := List.getElem?_eq_some_iff.1 hk
  obtain ⟨l2, e2⟩ := List.getElem?_eq_some_iff.1 hj
  have := List.pairwise_iff_getElem.1 hs (j - 1) j l1 l2 (by omega)
  rw [e1, e2] at this
  exact this
theorem PopI.step {S : List (KR ByteArray)} {sn : List (ByteArray × Bool)} {la lb aj bj : Int} {j : Nat} {kj : ByteArray} (h : PopI S sn la lb j) (hj : S[j]? = some (kj, aj, bj)) : PopI S (put sn kj true) aj bj (j + 1) := by
  obtain ⟨l2, e2⟩ := List.getElem?_eq_some_iff.1 hj
  refine ⟨by rw [List.length_map]; exact l2, fun k => ?_, fun _ => ⟨kj, by simpa using hj⟩⟩
  have hl : j < (S.map (·.1)).length := by simpa using l2
  rw [lk_put, (cut_at hl).2, getD_in hl]
  by_cases e : k = kj
  · subst e; simp [e2]
  · rw [if_neg e, h.sn]; simp [e2, e]
theorem strOf1_inj {a b : Int} (ha : 0 ≤ a ∧ a ≤ 255) (hb : 0 ≤ b ∧ b ≤ 255) (h : strOf [a] = strOf [b]) : a = b := by
  have h1 : (strOf [a]).data = #[UInt8.ofNat a.toNat] := rfl
  have h2 : (strOf [b]).data = #[UInt8.ofNat b.toNat] := rfl
  have h3 : UInt8.ofNat a.toNat = UInt8.ofNat b.toNat := by
    have := congrArg ByteArray.data h
    rw [h1, h2] at this
    simpa using this
  have h4 := congrArg UInt8.toNat h3
  rw [UInt8.toNat_ofNat', UInt8.toNat_ofNat'] at h4
  omega
structure KindI (TA : List (KR ByteArray)) (TB : List (KR Int)) (k : Nat) : Prop where
  map : TA = TB.map fun y => (strOf [y.1], y.2)
  bd : ∀ y ∈ TB, 0 ≤ y.1 ∧ y.1 < k
  len : TB.length = k
theorem KindI.new : KindI [] [] 0 := ⟨rfl, fun y h => by simp at h, rfl⟩
theorem KindI.step {TA : List (KR ByteArray)} {TB : List (KR Int)} {k : Nat} (h : KindI TA TB k) (hk : k < 200) (r1 r2 : Int) : KindI (hset TA (strOf [(k : Int)], r1, r2)) (hset TB ((k : Int), r1, r2)) (k + 1) := by
  obtain ⟨e, hb, hl⟩ := h
  have hno : hrem TB (k : Int) = TB := by
    unfold hrem; rw [List.filter_eq_self]; intro y hy; have := hb y hy; simp; omega
  refine ⟨?_, fun y hy => ?_, ?_⟩
  · rw [e]
    exact (hset_map (f := fun a : Int => strOf [a]) (k := (k : Int)) (fun y hy q => by have := hb y hy; exact strOf1_inj (by omega) (by omega) q) (r1, r2)).symm
  · rcases hset_mem.1 hy with q | ⟨q, _⟩
    · subst q; dsimp only; omega
    · have := hb y q; omega
  · unfold hset; rw [(hins_perm _ _).length_eq, List.length_cons]; dsimp only; rw [hno, hl]
theorem KindI.at {TA : List (KR ByteArray)} {TB : List (KR Int)} {k j : Nat} (h : KindI TA TB k) (hj : j < k) : (TA.map (·.1)).getD j ⟨#[]⟩ = strOf [(TB.map (·.1)).getD j 0] ∧ 0 ≤ (TB.map (·.1)).getD j 0 ∧ (TB.map (·.1)).getD j 0 < k := by
  have h1 : j < TB.length := by rw [h.len]; exact hj
  have e2 : (TB.map (·.1)).getD j 0 = TB[j].1 := by rw [getD_in (by simpa using h1)]; simp
  have e1 : (TA.map (·.1)).getD j ⟨#[]⟩ = strOf [TB[j].1] := by
    rw [h.map, List.map_map, getD_in (by simpa using h1)]; simp
  rw [e1, e2]
  exact ⟨rfl, h.bd _ (List.getElem_mem h1)⟩
end Go.Proofs.YtholinnmjoelkaaGreatDoor
namespace Go.Proofs.YtholinnmjoelkaaGreatDoor
abbrev KS := List (KR ByteArray)
variable {m now : Int} {ch : Bool} {S : KS} {key : ByteArray}
theorem hins_sorted {κ : Type} [DecidableEq κ] {S : List (KR κ)} (h : HSorted S) (x : KR κ) : HSorted (hins S x) := by
  unfold HSorted at *
  induction S with
  | nil => exact List.pairwise_singleton _ _
  | cons y S ih =>
    obtain ⟨h1, h2⟩ := List.pairwise_cons.1 h
    unfold hins; split
    · rename_i q
      refine List.pairwise_cons.2 ⟨fun a ha => ?_, h⟩
      rcases List.mem_cons.1 ha with e | e
      · subst e; unfold rlt at *; omega
      · have := h1 a e; unfold rlt at *; omega
    · rename_i q
      refine List.pairwise_cons.2 ⟨fun a ha => ?_, ih h2⟩
      rcases List.mem_cons.1 ((hins_perm S x).mem_iff.1 ha) with e | e
      · subst e; exact q
      · exact h1 a e
theorem hrem_sorted {κ : Type} [DecidableEq κ] {S : List (KR κ)} (h : HSorted S) (k : κ) : HSorted (hrem S k) := List.Pairwise.filter _ h
theorem hset_sorted {κ : Type} [DecidableEq κ] {S : List (KR κ)} (h : HSorted S) (x : KR κ) : HSorted (hset S x) := hins_sorted (hrem_sorted h _) x
theorem lk_hset_same {κ : Type} [DecidableEq κ] {S : List (KR κ)} (h : (S.map (·.1)).Nodup) (x : KR κ) : lk (hset S x) x.1 = some x.2 := lk_of_mem (hset_nodup h) (hset_mem.2 (.inl rfl))
theorem tms_hset (h : (S.map (·.1)).Nodup) (a b : Int) : tms (hset S (key, a, b)) key = a := by
  unfold tms; rw [lk_hset_same h (key, a, b)]; rfl
theorem tms_mem (h : (S.map (·.1)).Nodup) {y : KR ByteArray} (hy : y ∈ S) : tms S y.1 = y.2.1 := by
  unfold tms; rw [lk_of_mem h (show (y.1, y.2) ∈ S from hy)]; rfl
theorem tms_not (h : key ∉ S.map (·.1)) : tms S key = 0 := by unfold tms; rw [lk_none.2 h]; rfl
structure LfuI (m now : Int) (S : KS) : Prop where
  nd : (S.map (·.1)).Nodup
  srt : HSorted S
  tm : ∀ y ∈ S, 1 ≤ y.2.1 ∧ y.2.1 ≤ now
  n0 : 0 ≤ now
  len : (S.length : Int) ≤ m
theorem LfuI.new {m : Int} (h : 0 ≤ m) : LfuI m 0 [] := ⟨by simp, .nil, fun y h => by simp at h, Int.le_refl _, by simpa using h⟩
theorem LfuI.has (h : LfuI m now S) (key : ByteArray) : 0 < tms S key ↔ key ∈ S.map (·.1) := by
  constructor
  · intro q; refine Classical.byContradiction fun e => ?_; rw [tms_not e] at q; omega
  · intro q
    obtain ⟨y, hy, rfl⟩ := List.mem_map.1 q
    rw [tms_mem h.nd hy]; have := h.tm y hy; omega
theorem LfuI.tmb (h : LfuI m now S) (hn : now ≤ 1000000000) : TmB 1000000000 S := fun y hy => by have := h.tm y hy; omega
theorem LfuI.le (h : LfuI m now S) (key : ByteArray) : 0 ≤ tms S key ∧ tms S key ≤ now := by
  by_cases q : key ∈ S.map (·.1)
  · obtain ⟨y, hy, rfl⟩ := List.mem_map.1 q
    rw [tms_mem h.nd hy]; have := h.tm y hy; omega
  · rw [tms_not q]; exact ⟨Int.le_refl _, h.n0⟩
theorem LfuI.rem (h : LfuI m now S) (key : ByteArray) : LfuI m now (hrem S key) :=
  ⟨hrem_nodup h.nd, hrem_sorted h.srt _, fun y hy => h.tm y (hrem_mem.1 hy).1, h.n0, by have := hrem_le S key; have := h.len; omega⟩
theorem LfuI.tail (h : LfuI m now S) : LfuI m now S.tail :=
  ⟨by rw [List.map_tail]; exact h.nd.sublist (List.tail_sublist _), List.Pairwise.sublist (List.tail_sublist _) h.srt, fun y hy => h.tm y (List.mem_of_mem_tail hy), h.n0, by have := h.len; rw [List.length_tail]; omega⟩
def asked (now : Int) (ch : Bool) (S : KS) (key : ByteArray) : KS := hset S (key, tms S key + 1, if ch then -(now + 1) else now + 1)
theorem lfuAsk_eq : lfuAsk m now ch S key = (now + 1, asked now ch S key) := by
  unfold lfuAsk asked; cases ch <;> simp
theorem LfuI.ask (h : LfuI m now S) (key : ByteArray) (hr : key ∈ S.map (·.1) ∨ (S.length : Int) < m) : LfuI m (now + 1) (asked now ch S key) := by
  have ht := h.le key; have hl := h.len; have h0 := h.n0
  refine ⟨hset_nodup h.nd, hset_sorted h.srt _, fun y hy => ?_, by omega, ?_⟩
  · rcases hset_mem.1 hy with e | ⟨e, _⟩
    · subst e; dsimp only; omega
    · have := h.tm y e; omega
  · unfold asked hset
    rw [(hins_perm _ _).length_eq, List.length_cons]
    dsimp only
    rcases hr with q | q
    · have : (hrem S key).length < S.length := by
        have e : (hrem S key).length = ((S.map (·.1)).filter (fun q => q ≠ key)).length := by rw [← hrem_keys, List.length_map]
        rw [e, show S.length = (S.map (·.1)).length from (List.length_map _).symm]
        exact List.length_filter_lt_length_iff_exists.2 ⟨key, q, by simp⟩
      omega
    · have := hrem_le S key; omega
structure LReq (m now : Int) (ch : Bool) (S : KS) (key : ByteArray) (x : Int × KS × Bool × ByteArray × Bool) : Prop where
  i : LfuI m x.1 x.2.1
  n : x.1 = now + 1
  hit : x.2.2.1 = decide (0 < tms S key)
  tm : tms x.2.1 key = tms S key + 1
  out : x.2.2.2.2 = decide (¬ 0 < tms S key ∧ (S.length : Int) = m)
  vic : x.2.2.2.2 = true → ∃ v T, S = v :: T ∧ x.2.2.2.1 = v.1
  st : x.2.1 = asked now ch (if x.2.2.2.2 = true then S.tail else S) key
theorem tail_not (h : (S.map (·.1)).Nodup) (hk : key ∉ S.map (·.1)) : key ∉ S.tail.map (·.1) := fun q => hk (by rw [List.map_tail] at q; exact List.mem_of_mem_tail q)
theorem LfuI.req (h : LfuI m now S) (hm : 1 ≤ m) (key : ByteArray) {x} (hx : lfuReq m now ch S key = x) : LReq m now ch S key x := by
  have hl := h.len
  unfold lfuReq at hx
  rw [if_neg (by omega)] at hx
  have hh : lfuHas m now ch S key = decide (0 < tms S key) := rfl
  rw [hh] at hx
  simp only [lfuAsk_eq] at hx
  by_cases hk : key ∈ S.map (·.1)
  · have hp := (h.has key).2 hk
    rw [decide_eq_true hp, if_neg (by simp)] at hx
    subst hx
    exact ⟨h.ask key (.inl hk), rfl, (decide_eq_true hp).symm, tms_hset h.nd _ _, (decide_eq_false (by omega)).symm, fun q => by simp at q, rfl⟩
  · have hp : ¬ 0 < tms S key := fun q => hk ((h.has key).1 q)
    rw [decide_eq_false hp, if_pos (by simp)] at hx
    by_cases hf : (S.length : Int) ≥ m
    · rw [if_pos hf] at hx
      have h0 : 0 < S.length := by omega
      rw [decide_eq_true h0] at hx
      have hk2 := tail_not h.nd hk
      have htl : (S.tail.length : Int) < m := by rw [List.length_tail]; omega
      subst hx
      refine ⟨h.tail.ask key (.inr htl), rfl, (decide_eq_false hp).symm, ?_, (decide_eq_true ⟨hp, by omega⟩).symm, fun _ => ?_, rfl⟩
      · show tms (asked now ch S.tail key) key = _
        unfold asked; rw [tms_hset h.tail.nd, tms_not hk, tms_not hk2]
      · cases S with
        | nil => simp at h0
        | cons v T => exact ⟨v, T, rfl, rfl⟩
    · rw [if_neg hf] at hx
      subst hx
      exact ⟨h.ask key (.inr (by omega)), rfl, (decide_eq_false hp).symm, tms_hset h.nd _ _, (decide_eq_false (by omega)).symm, fun q => by simp at q, rfl⟩
structure AhI (S : KS) (ah : List (ByteArray × Int)) (j : Nat) : Prop where
  le : j ≤ (S.map (·.1)).length
  tk : ∀ k, (lk ah k).getD 0 = if k ∈ (S.map (·.1)).take j then tms S k else 0
theorem AhI.new : AhI S [] 0 := ⟨Nat.zero_le _, fun k => by simp [lk]⟩
theorem AhI.step {ah : List (ByteArray × Int)} {j : Nat} (h : AhI S ah j) (hj : j < (S.map (·.1)).length) : AhI S (put ah ((S.map (·.1)).getD j ⟨#[]⟩) (tms S ((S.map (·.1)).getD j ⟨#[]⟩))) (j + 1) := by
  refine ⟨hj, fun k => ?_⟩
  rw [lk_put, (cut_at hj).2]
  by_cases e : k = (S.map (·.1)).getD j ⟨#[]⟩
  · rw [if_pos e, ← e]; simp
  · rw [if_neg e, h.tk]
    simp only [List.mem_append, List.mem_singleton, e, or_false]
theorem AhI.fin {ah : List (ByteArray × Int)} {j : Nat} (h : AhI S ah j) (hj : ¬ j < (S.map (·.1)).length) (k : ByteArray) : (lk ah k).getD 0 = tms S k := by
  rw [h.tk, List.take_of_length_le (by omega)]
  split
  · rfl
  · rename_i q; exact (tms_not q).symm
end Go.Proofs.YtholinnmjoelkaaGreatDoor
namespace Go.Proofs.YtholinnmjoelkaaGreatDoor
variable {m now : Int} {ch : Bool} {S : KS} {key : ByteArray} {rw : LB}
structure LOnA (m now : Int) (rw : LB) (S : KS) : Prop where
  i : LfuI m now S
  keys : S.map (·.1) = rw.drop (rw.length - m.toNat)
  rk : ∀ y ∈ S, y.2.1 = 1 ∧ y.2.2 ≤ now
theorem LOnA.new (h : 0 ≤ m) : LOnA m 0 [] [] := ⟨LfuI.new h, by simp, fun y h => by simp at h⟩
theorem hset_new_last (h : ∀ y ∈ S, y.2.1 = 1 ∧ y.2.2 ≤ now) (hk : key ∉ S.map (·.1)) : asked now false S key = S ++ [(key, 1, now + 1)] := by
  unfold asked hset
  rw [tms_not hk, hrem_none (lk_none.2 hk)]
  exact hins_last fun y hy => by have := h y hy; unfold rlt; simp; omega
theorem LOnA.step (h : LOnA m now rw S) (hm : 1 ≤ m) (hk : key ∉ rw) {x} (hx : lfuReq m now false S key = x) :
    LOnA m x.1 (rw ++ [key]) x.2.1 ∧ x.1 = now + 1 ∧ x.2.2.1 = false ∧ x.2.2.2.2 = decide (((rw ++ [key]).length : Int) > m) ∧ (x.2.2.2.2 = true → x.2.2.2.1 = (rw ++ [key]).getD (rw.length - m.toNat) ⟨#[]⟩ ∧ m ≤ (rw.length : Int)) := by
  have hR := h.i.req hm key hx
  have hk2 : key ∉ S.map (·.1) := fun q => hk (by rw [h.keys] at q; exact List.mem_of_mem_drop q)
  have ht : ¬ 0 < tms S key := fun q => hk2 ((h.i.has key).1 q)
  have hl : S.length = rw.length - (rw.length - m.toNat) := by rw [← List.length_map (f := (·.1)), h.keys, List.length_drop]
  have hn := hR.n
  have hout : x.2.2.2.2 = decide (((rw ++ [key]).length : Int) > m) := by
    rw [hR.out, decide_eq_decide]; simp only [List.length_append, List.length_singleton]; omega
  have hst := hR.st
  by_cases hf : (rw.length : Int) < m
  · have ho : x.2.2.2.2 = false := by rw [hout, decide_eq_false_iff_not]; simp only [List.length_append, List.length_singleton]; omega
    rw [ho, if_neg (by simp), hset_new_last h.rk hk2] at hst
    refine ⟨⟨hR.i, ?_, fun y hy => ?_⟩, hn, by rw [hR.hit, decide_eq_false ht], hout, fun q => by rw [ho] at q; cases q⟩
    · rw [hst, List.map_append, h.keys]
      have e1 : rw.length - m.toNat = 0 := by omega
      have e2 : (rw ++ [key]).length - m.toNat = 0 := by simp only [List.length_append, List.length_singleton]; omega
      rw [e1, e2]; simp
    · rw [hst] at hy
      rcases List.mem_append.1 hy with q | q
      · have := h.rk y q; omega
      · simp at q; subst q; dsimp only; omega
  · have ho : x.2.2.2.2 = true := by rw [hout, decide_eq_true_iff]; simp only [List.length_append, List.length_singleton]; omega
    obtain ⟨v, T, hv, hv2⟩ := hR.vic ho
    have hkT : key ∉ T.map (·.1) := fun q => hk2 (by rw [hv]; exact List.mem_cons_of_mem _ q)
    rw [ho, if_pos rfl, hv, List.tail_cons, hset_new_last (fun y hy => h.rk y (by rw [hv]; exact List.mem_cons_of_mem _ hy)) hkT] at hst
    have hd : rw.length - m.toNat < rw.length := by omega
    have hke := h.keys
    rw [hv, List.drop_eq_getElem_cons hd] at hke
    simp only [List.map_cons, List.cons.injEq] at hke
    refine ⟨⟨hR.i, ?_, fun y hy => ?_⟩, hn, by rw [hR.hit, decide_eq_false ht], hout, fun _ => ⟨?_, by omega⟩⟩
    · rw [hst, List.map_append, hke.2]
      have e2 : (rw ++ [key]).length - m.toNat = rw.length - m.toNat + 1 := by simp only [List.length_append, List.length_singleton]; omega
      rw [e2, List.drop_append_of_le_length (by omega)]; rfl
    · rw [hst] at hy
      rcases List.mem_append.1 hy with q | q
      · have := h.rk y (by rw [hv]; exact List.mem_cons_of_mem _ q); omega
      · simp at q; subst q; dsimp only; omega
    · rw [hv2, hke.1, List.getD_eq_getElem?_getD, List.getElem?_append_left hd, List.getElem?_eq_getElem hd]; rfl
structure LOnB (m now : Int) (rw : LB) (S : KS) : Prop where
  i : LfuI m now S
  sub : ∀ k ∈ S.map (·.1), k ∈ rw
  len : (S.length : Int) = if (rw.length : Int) ≤ m then (rw.length : Int) else m
  rk : ∀ y ∈ S, y.2.1 = 1 ∧ -now ≤ y.2.2
  hd : 0 < rw.length → ∃ v T, S = v :: T ∧ v.1 = rw.getD (rw.length - 1) ⟨#[]⟩
theorem LOnB.new (h : 0 ≤ m) : LOnB m 0 [] [] := ⟨LfuI.new h, by simp, by simp; omega, fun y h => by simp at h, fun h => by simp at h⟩
theorem hset_new_first (h : ∀ y ∈ S, y.2.1 = 1 ∧ -now ≤ y.2.2) (hk : key ∉ S.map (·.1)) : asked now true S key = (key, 1, -(now + 1)) :: S := by
  unfold asked hset
  rw [tms_not hk, hrem_none (lk_none.2 hk)]
  cases S with
  | nil => rfl
  | cons y S =>
    have := h y (List.mem_cons_self ..)
    show hins (y :: S) (key, 0 + 1, if true then -(now + 1) else now + 1) = _
    unfold hins
    rw [if_pos (by unfold rlt; simp; omega)]; rfl
theorem LOnB.step (h : LOnB m now rw S) (hm : 1 ≤ m) (hk : key ∉ rw) {x} (hx : lfuReq m now true S key = x) :
    LOnB m x.1 (rw ++ [key]) x.2.1 ∧ x.1 = now + 1 ∧ x.2.2.1 = false ∧ x.2.2.2.2 = decide (((rw ++ [key]).length : Int) > m) ∧ (x.2.2.2.2 = true → x.2.2.2.1 = (rw ++ [key]).getD ((rw ++ [key]).length - 2) ⟨#[]⟩ ∧ 1 ≤ rw.length) := by
  have hR := h.i.req hm key hx
  have hk2 : key ∉ S.map (·.1) := fun q => hk (h.sub _ q)
  have ht : ¬ 0 < tms S key := fun q => hk2 ((h.i.has key).1 q)
  have hl := h.len
  have hn := hR.n
  have hout : x.2.2.2.2 = decide (((rw ++ [key]).length : Int) > m) := by
    rw [hR.out, decide_eq_decide]; simp only [List.length_append, List.length_singleton]; split at hl <;> omega
  have hst := hR.st
  have hlast : (rw ++ [key]).getD ((rw ++ [key]).length - 1) ⟨#[]⟩ = key := by simp [List.getD_eq_getElem?_getD]
  by_cases hf : (rw.length : Int) < m
  · have ho : x.2.2.2.2 = false := by rw [hout, decide_eq_false_iff_not]; simp only [List.length_append, List.length_singleton]; omega
    rw [ho, if_neg (by simp), hset_new_first h.rk hk2] at hst
    refine ⟨⟨hR.i, fun k hkk => ?_, ?_, fun y hy => ?_, fun _ => ⟨_, _, hst, hlast.symm⟩⟩, hn, by rw [hR.hit, decide_eq_false ht], hout, fun q => by rw [ho] at q; cases q⟩
    · rw [hst, List.map_cons] at hkk
      rcases List.mem_cons.1 hkk with e | e
      · subst e; simp
      · exact List.mem_append.2 (.inl (h.sub _ e))
    · rw [hst, List.length_cons, if_pos (by simp only [List.length_append, List.length_singleton]; omega)]
      simp only [List.length_append, List.length_singleton]; split at hl <;> omega
    · rw [hst] at hy
      rcases List.mem_cons.1 hy with e | e
      · subst e; dsimp only; omega
      · have := h.rk y e; omega
  · have ho : x.2.2.2.2 = true := by rw [hout, decide_eq_true_iff]; simp only [List.length_append, List.length_singleton]; omega
    obtain ⟨v, T, hv, hv2⟩ := hR.vic ho
    have hkT : key ∉ T.map (·.1) := fun q => hk2 (by rw [hv]; exact List.mem_cons_of_mem _ q)
    rw [ho, if_pos rfl, hv, List.tail_cons, hset_new_first (fun y hy => h.rk y (by rw [hv]; exact List.mem_cons_of_mem _ hy)) hkT] at hst
    obtain ⟨v', T', hv', hv3⟩ := h.hd (by omega)
    rw [hv] at hv'
    injection hv' with q1 q2
    subst q1 q2
    refine ⟨⟨hR.i, fun k hkk => ?_, ?_, fun y hy => ?_, fun _ => ⟨_, _, hst, hlast.symm⟩⟩, hn, by rw [hR.hit, decide_eq_false ht], hout, fun _ => ⟨?_, by omega⟩⟩
    · rw [hst, List.map_cons] at hkk
      rcases List.mem_cons.1 hkk with e | e
      · subst e; simp
      · exact List.mem_append.2 (.inl (h.sub _ (by rw [hv]; exact List.mem_cons_of_mem _ e)))
    · rw [hv, List.length_cons] at hl
      rw [hst, List.length_cons, if_neg (by simp only [List.length_append, List.length_singleton]; omega)]
      split at hl <;> omega
    · rw [hst] at hy
      rcases List.mem_cons.1 hy with e | e
      · subst e; dsimp only; omega
      · have := h.rk y (by rw [hv]; exact List.mem_cons_of_mem _ e); omega
    · rw [hv2, hv3]
      have e : (rw ++ [key]).length - 2 = rw.length - 1 := by simp only [List.length_append, List.length_singleton]; omega
      rw [e, List.getD_eq_getElem?_getD, List.getD_eq_getElem?_getD, List.getElem?_append_left (by omega)]
theorem LfuI.gone (h : LfuI m now S) (key : ByteArray) : tms (hrem S key) key = 0 ∧ (lk S key).isSome = decide (0 < tms S key) := by
  refine ⟨by unfold tms; rw [lk_hrem h.nd]; rfl, ?_⟩
  rw [Bool.eq_iff_iff, decide_eq_true_iff, h.has, lk_some_mem]
end Go.Proofs.YtholinnmjoelkaaGreatDoor
