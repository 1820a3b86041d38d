/- Package lfu as plain functions: what holds whatever is asked. -/
import Derived.Test.YtnnjccfcalgokaaLfuW
import Derived.Test.YtnnjccfcalgokaaHeapPureC
import Derived.Test.YtnnjccfcalgokaaRowPure
set_option linter.unusedVariables false
namespace Go.Proofs.Ytnnjccfcalgokaa
abbrev KS := List (KR ByteArray)
variable {m now : Int} {ch : Bool} {S : KS} {key : ByteArray}
theorem hins_sorted {κ : Type} [DecidableEq κ] {S : List (KR κ)} (h : HSorted S) (x : KR κ) : HSorted (hins S x) := by
  unfold HSorted at *
  induction S with
  | nil => exact List.pairwise_singleton _ _
  | cons y S ih =>
    obtain ⟨h1, h2⟩ := List.pairwise_cons.1 h
    unfold hins; split
    · rename_i q
      refine List.pairwise_cons.2 ⟨fun a ha => ?_, h⟩
      rcases List.mem_cons.1 ha with e | e
      · subst e; unfold rlt at *; omega
      · have := h1 a e; unfold rlt at *; omega
    · rename_i q
      refine List.pairwise_cons.2 ⟨fun a ha => ?_, ih h2⟩
      rcases List.mem_cons.1 ((hins_perm S x).mem_iff.1 ha) with e | e
      · subst e; exact q
      · exact h1 a e
theorem hrem_sorted {κ : Type} [DecidableEq κ] {S : List (KR κ)} (h : HSorted S) (k : κ) : HSorted (hrem S k) := List.Pairwise.filter _ h
theorem hset_sorted {κ : Type} [DecidableEq κ] {S : List (KR κ)} (h : HSorted S) (x : KR κ) : HSorted (hset S x) := hins_sorted (hrem_sorted h _) x
theorem lk_hset_same {κ : Type} [DecidableEq κ] {S : List (KR κ)} (h : (S.map (·.1)).Nodup) (x : KR κ) : lk (hset S x) x.1 = some x.2 := lk_of_mem (hset_nodup h) (hset_mem.2 (.inl rfl))
theorem tms_hset (h : (S.map (·.1)).Nodup) (a b : Int) : tms (hset S (key, a, b)) key = a := by
  unfold tms; rw [lk_hset_same h (key, a, b)]; rfl
theorem tms_mem (h : (S.map (·.1)).Nodup) {y : KR ByteArray} (hy : y ∈ S) : tms S y.1 = y.2.1 := by
  unfold tms; rw [lk_of_mem h (show (y.1, y.2) ∈ S from hy)]; rfl
theorem tms_not (h : key ∉ S.map (·.1)) : tms S key = 0 := by unfold tms; rw [lk_none.2 h]; rfl
structure LfuI (m now : Int) (S : KS) : Prop where
  nd : (S.map (·.1)).Nodup
  srt : HSorted S
  tm : ∀ y ∈ S, 1 ≤ y.2.1 ∧ y.2.1 ≤ now
  n0 : 0 ≤ now
  len : (S.length : Int) ≤ m
theorem LfuI.new {m : Int} (h : 0 ≤ m) : LfuI m 0 [] := ⟨by simp, .nil, fun y h => by simp at h, Int.le_refl _, by simpa using h⟩
theorem LfuI.has (h : LfuI m now S) (key : ByteArray) : 0 < tms S key ↔ key ∈ S.map (·.1) := by
  constructor
  · intro q; refine Classical.byContradiction fun e => ?_; rw [tms_not e] at q; omega
  · intro q
    obtain ⟨y, hy, rfl⟩ := List.mem_map.1 q
    rw [tms_mem h.nd hy]; have := h.tm y hy; omega
theorem LfuI.tmb (h : LfuI m now S) (hn : now ≤ 1000000000) : TmB 1000000000 S := fun y hy => by have := h.tm y hy; omega
theorem LfuI.le (h : LfuI m now S) (key : ByteArray) : 0 ≤ tms S key ∧ tms S key ≤ now := by
  by_cases q : key ∈ S.map (·.1)
  · obtain ⟨y, hy, rfl⟩ := List.mem_map.1 q
    rw [tms_mem h.nd hy]; have := h.tm y hy; omega
  · rw [tms_not q]; exact ⟨Int.le_refl _, h.n0⟩
theorem LfuI.rem (h : LfuI m now S) (key : ByteArray) : LfuI m now (hrem S key) :=
  ⟨hrem_nodup h.nd, hrem_sorted h.srt _, fun y hy => h.tm y (hrem_mem.1 hy).1, h.n0, by have := hrem_le S key; have := h.len; omega⟩
theorem LfuI.tail (h : LfuI m now S) : LfuI m now S.tail :=
  ⟨by rw [List.map_tail]; exact h.nd.sublist (List.tail_sublist _), List.Pairwise.sublist (List.tail_sublist _) h.srt, fun y hy => h.tm y (List.mem_of_mem_tail hy), h.n0, by have := h.len; rw [List.length_tail]; omega⟩
/-- A key, asked for once more. -/
def asked (now : Int) (ch : Bool) (S : KS) (key : ByteArray) : KS := hset S (key, tms S key + 1, if ch then -(now + 1) else now + 1)
theorem lfuAsk_eq : lfuAsk m now ch S key = (now + 1, asked now ch S key) := by
  unfold lfuAsk asked; cases ch <;> simp
theorem LfuI.ask (h : LfuI m now S) (key : ByteArray) (hr : key ∈ S.map (·.1) ∨ (S.length : Int) < m) : LfuI m (now + 1) (asked now ch S key) := by
  have ht := h.le key; have hl := h.len; have h0 := h.n0
  refine ⟨hset_nodup h.nd, hset_sorted h.srt _, fun y hy => ?_, by omega, ?_⟩
  · rcases hset_mem.1 hy with e | ⟨e, _⟩
    · subst e; dsimp only; omega
    · have := h.tm y e; omega
  · unfold asked hset
    rw [(hins_perm _ _).length_eq, List.length_cons]
    dsimp only
    rcases hr with q | q
    · have : (hrem S key).length < S.length := by
        have e : (hrem S key).length = ((S.map (·.1)).filter (fun q => q ≠ key)).length := by rw [← hrem_keys, List.length_map]
        rw [e, show S.length = (S.map (·.1)).length from (List.length_map _).symm]
        exact List.length_filter_lt_length_iff_exists.2 ⟨key, q, by simp⟩
      omega
    · have := hrem_le S key; omega
/-- What a request does, where there is room for one at least. -/
structure LReq (m now : Int) (ch : Bool) (S : KS) (key : ByteArray) (x : Int × KS × Bool × ByteArray × Bool) : Prop where
  i : LfuI m x.1 x.2.1
  n : x.1 = now + 1
  hit : x.2.2.1 = decide (0 < tms S key)
  tm : tms x.2.1 key = tms S key + 1
  out : x.2.2.2.2 = decide (¬ 0 < tms S key ∧ (S.length : Int) = m)
  vic : x.2.2.2.2 = true → ∃ v T, S = v :: T ∧ x.2.2.2.1 = v.1
  st : x.2.1 = asked now ch (if x.2.2.2.2 = true then S.tail else S) key
theorem tail_not (h : (S.map (·.1)).Nodup) (hk : key ∉ S.map (·.1)) : key ∉ S.tail.map (·.1) := fun q => hk (by rw [List.map_tail] at q; exact List.mem_of_mem_tail q)
theorem LfuI.req (h : LfuI m now S) (hm : 1 ≤ m) (key : ByteArray) {x} (hx : lfuReq m now ch S key = x) : LReq m now ch S key x := by
  have hl := h.len
  unfold lfuReq at hx
  rw [if_neg (by omega)] at hx
  have hh : lfuHas m now ch S key = decide (0 < tms S key) := rfl
  rw [hh] at hx
  simp only [lfuAsk_eq] at hx
  by_cases hk : key ∈ S.map (·.1)
  · have hp := (h.has key).2 hk
    rw [decide_eq_true hp, if_neg (by simp)] at hx
    subst hx
    exact ⟨h.ask key (.inl hk), rfl, (decide_eq_true hp).symm, tms_hset h.nd _ _, (decide_eq_false (by omega)).symm, fun q => by simp at q, rfl⟩
  · have hp : ¬ 0 < tms S key := fun q => hk ((h.has key).1 q)
    rw [decide_eq_false hp, if_pos (by simp)] at hx
    by_cases hf : (S.length : Int) ≥ m
    · rw [if_pos hf] at hx
      have h0 : 0 < S.length := by omega
      rw [decide_eq_true h0] at hx
      have hk2 := tail_not h.nd hk
      have htl : (S.tail.length : Int) < m := by rw [List.length_tail]; omega
      subst hx
      refine ⟨h.tail.ask key (.inr htl), rfl, (decide_eq_false hp).symm, ?_, (decide_eq_true ⟨hp, by omega⟩).symm, fun _ => ?_, rfl⟩
      · show tms (asked now ch S.tail key) key = _
        unfold asked; rw [tms_hset h.tail.nd, tms_not hk, tms_not hk2]
      · cases S with
        | nil => simp at h0
        | cons v T => exact ⟨v, T, rfl, rfl⟩
    · rw [if_neg hf] at hx
      subst hx
      exact ⟨h.ask key (.inr (by omega)), rfl, (decide_eq_false hp).symm, tms_hset h.nd _ _, (decide_eq_false (by omega)).symm, fun q => by simp at q, rfl⟩
/-- Who goes has the fewest. -/
theorem LfuI.fewest {v : KR ByteArray} {T : KS} (h : LfuI m now S) (e : S = v :: T) {j : Nat} (hj : j < (S.map (·.1)).length) : tms S v.1 ≤ tms S ((S.map (·.1)).getD j ⟨#[]⟩) ∧ 1 ≤ tms S v.1 := by
  have hj' : j < S.length := by simpa using hj
  have hv : v ∈ S := by rw [e]; exact List.mem_cons_self ..
  have hg : (S.map (·.1)).getD j ⟨#[]⟩ = S[j].1 := by rw [getD_in hj]; simp
  rw [hg, tms_mem h.nd hv, tms_mem h.nd (List.getElem_mem hj')]
  refine ⟨?_, (h.tm v hv).1⟩
  have hs := h.srt
  rw [e] at hs
  have hm := List.getElem_mem hj'
  generalize S[j] = y at hm ⊢
  rw [e] at hm
  rcases List.mem_cons.1 hm with q | q
  · subst q; exact Int.le_refl _
  · have := (List.pairwise_cons.1 hs).1 y q
    unfold rlt at this; omega
/-- The map of times, behind j keys. -/
structure AhI (S : KS) (ah : List (ByteArray × Int)) (j : Nat) : Prop where
  le : j ≤ (S.map (·.1)).length
  tk : ∀ k, (lk ah k).getD 0 = if k ∈ (S.map (·.1)).take j then tms S k else 0
theorem AhI.new : AhI S [] 0 := ⟨Nat.zero_le _, fun k => by simp [lk]⟩
theorem AhI.step {ah : List (ByteArray × Int)} {j : Nat} (h : AhI S ah j) (hj : j < (S.map (·.1)).length) : AhI S (put ah ((S.map (·.1)).getD j ⟨#[]⟩) (tms S ((S.map (·.1)).getD j ⟨#[]⟩))) (j + 1) := by
  refine ⟨hj, fun k => ?_⟩
  rw [lk_put, (cut_at hj).2]
  by_cases e : k = (S.map (·.1)).getD j ⟨#[]⟩
  · rw [if_pos e, ← e]; simp
  · rw [if_neg e, h.tk]
    simp only [List.mem_append, List.mem_singleton, e, or_false]
theorem AhI.fin {ah : List (ByteArray × Int)} {j : Nat} (h : AhI S ah j) (hj : ¬ j < (S.map (·.1)).length) (k : ByteArray) : (lk ah k).getD 0 = tms S k := by
  rw [h.tk, List.take_of_length_le (by omega)]
  split
  · rfl
  · rename_i q; exact (tms_not q).symm
end Go.Proofs.Ytnnjccfcalgokaa
