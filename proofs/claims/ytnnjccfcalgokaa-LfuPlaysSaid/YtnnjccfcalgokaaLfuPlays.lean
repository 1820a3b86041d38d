/- Package lfu beside the document's: the plain law. -/
import Derived.Test.YtnnjccfcalgokaaRef06
import Derived.Test.YtnnjccfcalgokaaLfuPureB
set_option linter.unusedVariables false
namespace Go.Proofs.Ytnnjccfcalgokaa
/-- Who would go has the fewest times; of the same the first one, or, churning, the last one. -/
theorem vicN_min (ch : Bool) (l : L2) (k : Nat) (h0 : 0 < k) (i : Nat) (hi : i < k) :
    (l.getD (vicN ch l k).toNat kz2).2 ≤ (l.getD i kz2).2 ∧ ((l.getD i kz2).2 = (l.getD (vicN ch l k).toNat kz2).2 → if ch = true then i ≤ (vicN ch l k).toNat else (vicN ch l k).toNat ≤ i) := by
  induction k generalizing i with
  | zero => omega
  | succ k ih =>
    rcases Nat.eq_zero_or_pos k with e | e
    · subst e
      have e1 : vicN ch l 1 = 0 := by simp [vicN]
      have e2 : i = 0 := by omega
      subst e2; rw [e1]; simp
    · have hb := vicN_some ch l e
      have hb2 := (vicN_in ch l k).2
      by_cases hc : vicN ch l k < 0 ∨ (l.getD k kz2).2 < (l.getD (vicN ch l k).toNat kz2).2 ∨ (ch = true ∧ (l.getD k kz2).2 = (l.getD (vicN ch l k).toNat kz2).2)
      · have e1 : vicN ch l (k + 1) = (k : Int) := by rw [vicN, if_pos hc]
        rw [e1, Int.toNat_natCast]
        rcases Nat.lt_or_ge i k with hik | hik
        · obtain ⟨q1, q2⟩ := ih e i hik
          rcases hc with hc | hc | ⟨hc, hd⟩
          · omega
          · exact ⟨by omega, fun q => by omega⟩
          · exact ⟨by omega, fun q => by rw [if_pos hc]; omega⟩
        · have e2 : i = k := by omega
          subst e2; exact ⟨Int.le_refl _, fun _ => by split <;> exact Nat.le_refl _⟩
      · have e1 : vicN ch l (k + 1) = vicN ch l k := by rw [vicN, if_neg hc]
        rw [e1]
        rcases Nat.lt_or_ge i k with hik | hik
        · exact ih e i hik
        · have e2 : i = k := by omega
          subst e2
          have c1 : ¬ (l.getD i kz2).2 < (l.getD (vicN ch l i).toNat kz2).2 := fun q => hc (.inr (.inl q))
          refine ⟨by omega, fun q => ?_⟩
          split
          · rename_i hch; exact absurd (.inr (.inr ⟨hch, q⟩)) hc
          · omega
abbrev T3 := ByteArray × Int × Int
def rkf (ch : Bool) (y : T3) : KR ByteArray := (y.1, y.2.1, if ch = true then -y.2.2 else y.2.2)
/-- The two: T says of each resident when it was asked for last. -/
structure LR (ch : Bool) (T : List T3) (S : KS) (L : L2) (now : Int) : Prop where
  l : L = T.map fun y => (y.1, y.2.1)
  perm : S.Perm (T.map (rkf ch))
  srt : HSorted S
  nd : (T.map (·.1)).Nodup
  inc : T.Pairwise fun a b => a.2.2 < b.2.2
  bd : ∀ y ∈ T, 1 ≤ y.2.2 ∧ y.2.2 ≤ now
theorem LR.new {ch : Bool} : LR ch [] [] [] 0 := ⟨rfl, .refl _, .nil, by simp, .nil, fun y h => by simp at h⟩
theorem LR.first {ch : Bool} {T : List T3} {S : KS} {L : L2} {now : Int} (h : LR ch T S L now) (h0 : 0 < L.length) : ∃ v S', S = v :: S' ∧ v.1 = vkey ch L := by
  have hTl : L.length = T.length := by rw [h.l, List.length_map]
  have hb0 := vicN_some ch L h0
  have hb1 := (vicN_in ch L L.length).2
  have hbl : (vicN ch L L.length).toNat < L.length := by omega
  have hmin := vicN_min ch L L.length h0
  have hvk : vkey ch L = (L.getD (vicN ch L L.length).toNat kz2).1 := rfl
  rw [hvk]; clear hvk
  generalize (vicN ch L L.length).toNat = b at hbl hmin ⊢
  have hbT : b < T.length := by omega
  have hget : ∀ i (hi : i < T.length), L.getD i kz2 = (T[i].1, T[i].2.1) := fun i hi => by
    rw [getD_in (by omega)]; simp [h.l]
  have hlt : ∀ i (hi : i < T.length), ¬ rlt (rkf ch T[i]) (rkf ch T[b]) := by
    intro i hi q
    obtain ⟨m1, m2⟩ := hmin i (by omega)
    rw [hget i hi, hget b hbT] at m1 m2
    have hin := List.pairwise_iff_getElem.1 h.inc
    unfold rlt rkf at q
    dsimp only at m1 m2 q
    rcases q with q | ⟨q1, q2⟩
    · omega
    · have m3 := m2 q1
      split at m3
      · rename_i hc
        rw [if_pos hc, if_pos hc] at q2
        rcases Nat.lt_or_ge i b with e | e
        · have := hin i b hi hbT e; omega
        · have e2 : i = b := by omega
          subst e2; omega
      · rename_i hc
        rw [if_neg hc, if_neg hc] at q2
        rcases Nat.lt_or_ge b i with e | e
        · have := hin b i hbT hi e; omega
        · have e2 : i = b := by omega
          subst e2; omega
  have hSl : S.length = T.length := by rw [h.perm.length_eq, List.length_map]
  cases S with
  | nil => simp at hSl; omega
  | cons v S' =>
    refine ⟨v, S', rfl, ?_⟩
    rw [hget b hbT]
    have hv : v ∈ T.map (rkf ch) := h.perm.mem_iff.1 (List.mem_cons_self ..)
    obtain ⟨y, hy, rfl⟩ := List.mem_map.1 hv
    obtain ⟨j, hj, rfl⟩ := List.mem_iff_getElem.1 hy
    have hu : rkf ch T[b] ∈ rkf ch T[j] :: S' := h.perm.mem_iff.2 (List.mem_map_of_mem (List.getElem_mem hbT))
    rcases List.mem_cons.1 hu with e | e
    · rw [← e]; rfl
    · have n1 := (List.pairwise_cons.1 h.srt).1 _ e
      have n2 := hlt j hj
      have hin := List.pairwise_iff_getElem.1 h.inc
      unfold rlt rkf at n1 n2
      dsimp only at n1 n2
      have ht : T[j].2.2 = T[b].2.2 := by cases ch <;> simp only [Bool.false_eq_true, if_true, if_false] at n1 n2 <;> omega
      rcases Nat.lt_trichotomy j b with q | q | q
      · have := hin j b hj hbT q; omega
      · subst q; rfl
      · have := hin b j hbT hj q; omega
abbrev rem3 (T : List T3) (k : ByteArray) : List T3 := T.filter fun y => y.1 ≠ k
theorem LR.rem {ch : Bool} {T : List T3} {S : KS} {L : L2} {now : Int} (h : LR ch T S L now) (k : ByteArray) : LR ch (rem3 T k) (hrem S k) (rem2 L k) now := by
  refine ⟨?_, ?_, hrem_sorted h.srt _, h.nd.sublist (List.Sublist.map _ List.filter_sublist), List.Pairwise.filter _ h.inc, fun y hy => h.bd y (List.mem_filter.1 hy).1⟩
  · rw [h.l]; unfold rem2 rem3; rw [List.filter_map]; rfl
  · have := h.perm.filter (fun y : KR ByteArray => decide (y.1 ≠ k))
    rw [List.filter_map] at this
    exact this
theorem LR.lk {ch : Bool} {T : List T3} {S : KS} {L : L2} {now : Int} (h : LR ch T S L now) (k : ByteArray) : tms S k = (Proofs.Ytnnjccfcalgokaa.lk L k).getD 0 := by
  have hSn : (S.map (·.1)).Nodup := by
    rw [(h.perm.map (·.1)).nodup_iff, List.map_map]; exact h.nd
  have hLn : (L.map (·.1)).Nodup := by rw [h.l, List.map_map]; exact h.nd
  by_cases e : k ∈ T.map (·.1)
  · obtain ⟨y, hy, rfl⟩ := List.mem_map.1 e
    have h1 : rkf ch y ∈ S := h.perm.mem_iff.2 (List.mem_map_of_mem hy)
    have h2 : (y.1, y.2.1) ∈ L := by rw [h.l]; exact List.mem_map_of_mem (f := fun y : T3 => (y.1, y.2.1)) hy
    have e1 := tms_mem hSn h1
    rw [lk_of_mem hLn h2]; exact e1
  · have h1 : k ∉ S.map (·.1) := fun q => e (by
      have := (h.perm.map (·.1)).mem_iff.1 q
      rw [List.map_map] at this; exact this)
    have h2 : k ∉ L.map (·.1) := fun q => e (by rw [h.l, List.map_map] at q; exact q)
    rw [tms_not h1, lk_none.2 h2]; rfl
theorem LR.ask {ch : Bool} {T : List T3} {S : KS} {L : L2} {now : Int} (h : LR ch T S L now) (hn : 0 ≤ now) (k : ByteArray) : LR ch (rem3 T k ++ [(k, (Proofs.Ytnnjccfcalgokaa.lk L k).getD 0 + 1, now + 1)]) (asked now ch S k) (ask2 L k) (now + 1) := by
  have hr := h.rem k
  refine ⟨?_, ?_, ?_, ?_, ?_, ?_⟩
  · unfold ask2; rw [List.map_append, ← hr.l]; rfl
  · unfold asked hset
    refine (hins_perm _ _).trans ?_
    rw [List.map_append, h.lk k]
    exact (List.perm_append_singleton _ _).symm.trans (List.Perm.append_right _ hr.perm)
  · exact hset_sorted h.srt _
  · rw [List.map_append, List.nodup_append]
    refine ⟨hr.nd, by simp, fun a ha b hb => ?_⟩
    simp at hb; subst hb
    obtain ⟨y, hy, rfl⟩ := List.mem_map.1 ha
    have := (List.mem_filter.1 hy).2
    simpa using this
  · rw [List.pairwise_append]
    refine ⟨hr.inc, by simp, fun a ha b hb => ?_⟩
    simp at hb; subst hb
    have := hr.bd a ha
    show a.2.2 < now + 1
    omega
  · intro y hy
    rcases List.mem_append.1 hy with q | q
    · have := hr.bd y q; omega
    · simp at q; subst q; show 1 ≤ now + 1 ∧ now + 1 ≤ now + 1; omega
theorem LR.len {ch : Bool} {T : List T3} {S : KS} {L : L2} {now : Int} (h : LR ch T S L now) : S.length = L.length := by rw [h.perm.length_eq, h.l, List.length_map, List.length_map]
theorem LR.snd {ch : Bool} {T : List T3} {S : KS} {L : L2} {now : Int} (h : LR ch T S L now) : (S.map (·.1)).Nodup := by
  rw [(h.perm.map (·.1)).nodup_iff, List.map_map]; exact h.nd
theorem hrem_head {v : KR ByteArray} {S : KS} (h : ((v :: S).map (·.1)).Nodup) : hrem (v :: S) v.1 = S := by
  unfold hrem
  rw [List.filter_cons_of_neg (by simp)]
  refine List.filter_eq_self.2 fun y hy => ?_
  have := (List.nodup_cons.1 h).1
  simp only [decide_eq_true_eq]
  exact fun q => this (by show v.1 ∈ _; rw [← q]; exact List.mem_map_of_mem (f := fun z : KR ByteArray => z.1) hy)
theorem LR.drop1 {ch : Bool} {T : List T3} {S : KS} {L : L2} {now : Int} (h : LR ch T S L now) (h0 : 0 < L.length) : ∃ v S', S = v :: S' ∧ v.1 = vkey ch L ∧ LR ch (rem3 T (vkey ch L)) S' (rem2 L (vkey ch L)) now := by
  obtain ⟨v, S', rfl, hv⟩ := h.first h0
  refine ⟨v, S', rfl, hv, ?_⟩
  have hr := h.rem (vkey ch L)
  have e : hrem (v :: S') (vkey ch L) = S' := by rw [← hv]; exact hrem_head h.snd
  rw [e] at hr; exact hr
theorem LR.rsz {ch : Bool} {now M : Int} (hM : 0 ≤ M) : ∀ (f : Nat) {T : List T3} {S : KS} {L : L2}, LR ch T S L now → L.length ≤ f →
    (rszN M ch f L).2 = (S.map fun y : KR ByteArray => y.1).take (S.length - M.toNat) ∧ ∃ T', LR ch T' (S.drop (S.length - M.toNat)) (rszN M ch f L).1 now
  | 0, T, S, L, h, hf => by
    have hl := h.len
    have e : S.length - M.toNat = 0 := by omega
    rw [e]; exact ⟨by simp [rszN], T, h⟩
  | f + 1, T, S, L, h, hf => by
    have hl := h.len
    by_cases hc : (L.length : Int) > M
    · obtain ⟨v, S', rfl, hv, hr⟩ := h.drop1 (by omega)
      have h3 := vkey_lt (ch := ch) (l := L) (by omega)
      obtain ⟨i1, T', i2⟩ := LR.rsz hM f hr (by omega)
      have e : (v :: S').length - M.toNat = (S'.length - M.toNat) + 1 := by simp only [List.length_cons] at hl ⊢; omega
      rw [rszN, if_pos hc, e]
      refine ⟨?_, T', ?_⟩
      · rw [i1, List.map_cons, List.take_succ_cons, hv]
      · rw [List.drop_succ_cons]; exact i2
    · have e : S.length - M.toNat = 0 := by omega
      rw [rszN, if_neg hc, e]; exact ⟨by simp, T, h⟩
theorem LR.req {ch : Bool} {T : List T3} {S : KS} {L : L2} {now m : Int} {key : ByteArray} (h : LR ch T S L now) (hn : 0 ≤ now) (hm : 0 < m) {x} (hx : lfuReq m now ch S key = x) :
    (∃ T', LR ch T' x.2.1 (req06 m ch L key).1 x.1) ∧ x.2.2.1 = (req06 m ch L key).2.1 ∧ x.2.2.2.1 = (req06 m ch L key).2.2.1 ∧ x.2.2.2.2 = (req06 m ch L key).2.2.2 ∧ x.1 = now + 1 := by
  have hl := h.len
  have hk := h.lk key
  have hh : lfuHas m now ch S key = decide (0 < tms S key) := rfl
  unfold lfuReq at hx
  unfold req06
  rw [if_neg (by omega), hh, hk] at hx
  rw [if_neg (by omega)]
  by_cases ht : (Proofs.Ytnnjccfcalgokaa.lk L key).getD 0 > 0
  · rw [decide_eq_true (show 0 < (Proofs.Ytnnjccfcalgokaa.lk L key).getD 0 from ht), if_neg (by simp), lfuAsk_eq] at hx
    rw [if_neg (fun q => q.1 ht)]
    subst hx
    exact ⟨⟨_, h.ask hn key⟩, (decide_eq_true ht).symm, rfl, rfl, rfl⟩
  · rw [decide_eq_false (show ¬ 0 < (Proofs.Ytnnjccfcalgokaa.lk L key).getD 0 from ht), if_pos (by simp)] at hx
    by_cases hf : (S.length : Int) ≥ m
    · rw [if_pos hf, lfuAsk_eq] at hx
      rw [if_pos ⟨ht, by omega⟩]
      obtain ⟨v, S', rfl, hv, hr⟩ := h.drop1 (by omega)
      subst hx
      exact ⟨⟨_, hr.ask hn key⟩, (decide_eq_false ht).symm, hv, (by show decide (0 < (v :: S').length) = true; simp), rfl⟩
    · rw [if_neg hf, lfuAsk_eq] at hx
      rw [if_neg (fun q => by have := q.2; omega)]
      subst hx
      exact ⟨⟨_, h.ask hn key⟩, (decide_eq_false ht).symm, rfl, rfl, rfl⟩
theorem LR.adopt {ch : Bool} {T : List T3} {S : KS} {L : L2} {now m : Int} {key : ByteArray} (h : LR ch T S L now) (hn : 0 ≤ now) {x} (hx : lfuAdopt m now ch S key = x) :
    (((Proofs.Ytnnjccfcalgokaa.lk L key).getD 0 > 0 ∨ (L.length : Int) ≥ m) → x = (now, S, false)) ∧ (¬ ((Proofs.Ytnnjccfcalgokaa.lk L key).getD 0 > 0 ∨ (L.length : Int) ≥ m) → x.2.2 = true ∧ x.1 = now + 1 ∧ ∃ T', LR ch T' x.2.1 (ask2 L key) (now + 1)) := by
  have hl := h.len
  have hk := h.lk key
  have hh : lfuHas m now ch S key = decide (0 < tms S key) := rfl
  unfold lfuAdopt at hx
  rw [hh, hk] at hx
  constructor
  · intro q
    by_cases ht : (Proofs.Ytnnjccfcalgokaa.lk L key).getD 0 > 0
    · rw [if_pos (decide_eq_true (show 0 < (Proofs.Ytnnjccfcalgokaa.lk L key).getD 0 from ht))] at hx; exact hx.symm
    · have hf : (S.length : Int) ≥ m := by rcases q with q | q; exact absurd q ht; omega
      rw [if_neg (by rw [decide_eq_true_iff]; exact ht), if_pos hf] at hx; exact hx.symm
  · intro q
    have ht : ¬ (Proofs.Ytnnjccfcalgokaa.lk L key).getD 0 > 0 := fun z => q (.inl z)
    rw [if_neg (by rw [decide_eq_true_iff]; exact ht), if_neg (fun z => q (.inr (by omega))), lfuAsk_eq] at hx
    subst hx
    exact ⟨rfl, rfl, _, h.ask hn key⟩
end Go.Proofs.Ytnnjccfcalgokaa
