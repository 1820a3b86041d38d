/- Package lfu: keys asked for once each; what is adopted; the order. -/
import Derived.Test.YtnnjccfcalgokaaLfuPure
set_option linter.unusedVariables false
namespace Go.Proofs.Ytnnjccfcalgokaa
variable {m now : Int} {ch : Bool} {S : KS} {key : ByteArray} {rw : LB}
/-- The plain one, asked for each key of a row once: the last ones of the row. -/
structure LOnA (m now : Int) (rw : LB) (S : KS) : Prop where
  i : LfuI m now S
  keys : S.map (·.1) = rw.drop (rw.length - m.toNat)
  rk : ∀ y ∈ S, y.2.1 = 1 ∧ y.2.2 ≤ now
theorem LOnA.new (h : 0 ≤ m) : LOnA m 0 [] [] := ⟨LfuI.new h, by simp, fun y h => by simp at h⟩
theorem hset_new_last (h : ∀ y ∈ S, y.2.1 = 1 ∧ y.2.2 ≤ now) (hk : key ∉ S.map (·.1)) : asked now false S key = S ++ [(key, 1, now + 1)] := by
  unfold asked hset
  rw [tms_not hk, hrem_none (lk_none.2 hk)]
  exact hins_last fun y hy => by have := h y hy; unfold rlt; simp; omega
theorem LOnA.step (h : LOnA m now rw S) (hm : 1 ≤ m) (hk : key ∉ rw) {x} (hx : lfuReq m now false S key = x) :
    LOnA m x.1 (rw ++ [key]) x.2.1 ∧ x.1 = now + 1 ∧ x.2.2.1 = false ∧ x.2.2.2.2 = decide (((rw ++ [key]).length : Int) > m) ∧ (x.2.2.2.2 = true → x.2.2.2.1 = (rw ++ [key]).getD (rw.length - m.toNat) ⟨#[]⟩ ∧ m ≤ (rw.length : Int)) := by
  have hR := h.i.req hm key hx
  have hk2 : key ∉ S.map (·.1) := fun q => hk (by rw [h.keys] at q; exact List.mem_of_mem_drop q)
  have ht : ¬ 0 < tms S key := fun q => hk2 ((h.i.has key).1 q)
  have hl : S.length = rw.length - (rw.length - m.toNat) := by rw [← List.length_map (f := (·.1)), h.keys, List.length_drop]
  have hn := hR.n
  have hout : x.2.2.2.2 = decide (((rw ++ [key]).length : Int) > m) := by
    rw [hR.out, decide_eq_decide]; simp only [List.length_append, List.length_singleton]; omega
  have hst := hR.st
  by_cases hf : (rw.length : Int) < m
  · have ho : x.2.2.2.2 = false := by rw [hout, decide_eq_false_iff_not]; simp only [List.length_append, List.length_singleton]; omega
    rw [ho, if_neg (by simp), hset_new_last h.rk hk2] at hst
    refine ⟨⟨hR.i, ?_, fun y hy => ?_⟩, hn, by rw [hR.hit, decide_eq_false ht], hout, fun q => by rw [ho] at q; cases q⟩
    · rw [hst, List.map_append, h.keys]
      have e1 : rw.length - m.toNat = 0 := by omega
      have e2 : (rw ++ [key]).length - m.toNat = 0 := by simp only [List.length_append, List.length_singleton]; omega
      rw [e1, e2]; simp
    · rw [hst] at hy
      rcases List.mem_append.1 hy with q | q
      · have := h.rk y q; omega
      · simp at q; subst q; dsimp only; omega
  · have ho : x.2.2.2.2 = true := by rw [hout, decide_eq_true_iff]; simp only [List.length_append, List.length_singleton]; omega
    obtain ⟨v, T, hv, hv2⟩ := hR.vic ho
    have hkT : key ∉ T.map (·.1) := fun q => hk2 (by rw [hv]; exact List.mem_cons_of_mem _ q)
    rw [ho, if_pos rfl, hv, List.tail_cons, hset_new_last (fun y hy => h.rk y (by rw [hv]; exact List.mem_cons_of_mem _ hy)) hkT] at hst
    have hd : rw.length - m.toNat < rw.length := by omega
    have hke := h.keys
    rw [hv, List.drop_eq_getElem_cons hd] at hke
    simp only [List.map_cons, List.cons.injEq] at hke
    refine ⟨⟨hR.i, ?_, fun y hy => ?_⟩, hn, by rw [hR.hit, decide_eq_false ht], hout, fun _ => ⟨?_, by omega⟩⟩
    · rw [hst, List.map_append, hke.2]
      have e2 : (rw ++ [key]).length - m.toNat = rw.length - m.toNat + 1 := by simp only [List.length_append, List.length_singleton]; omega
      rw [e2, List.drop_append_of_le_length (by omega)]; rfl
    · rw [hst] at hy
      rcases List.mem_append.1 hy with q | q
      · have := h.rk y (by rw [hv]; exact List.mem_cons_of_mem _ q); omega
      · simp at q; subst q; dsimp only; omega
    · rw [hv2, hke.1, List.getD_eq_getElem?_getD, List.getElem?_append_left hd, List.getElem?_eq_getElem hd]; rfl
/-- The other one: the newest one stands first. -/
structure LOnB (m now : Int) (rw : LB) (S : KS) : Prop where
  i : LfuI m now S
  sub : ∀ k ∈ S.map (·.1), k ∈ rw
  len : (S.length : Int) = if (rw.length : Int) ≤ m then (rw.length : Int) else m
  rk : ∀ y ∈ S, y.2.1 = 1 ∧ -now ≤ y.2.2
  hd : 0 < rw.length → ∃ v T, S = v :: T ∧ v.1 = rw.getD (rw.length - 1) ⟨#[]⟩
theorem LOnB.new (h : 0 ≤ m) : LOnB m 0 [] [] := ⟨LfuI.new h, by simp, by simp; omega, fun y h => by simp at h, fun h => by simp at h⟩
theorem hset_new_first (h : ∀ y ∈ S, y.2.1 = 1 ∧ -now ≤ y.2.2) (hk : key ∉ S.map (·.1)) : asked now true S key = (key, 1, -(now + 1)) :: S := by
  unfold asked hset
  rw [tms_not hk, hrem_none (lk_none.2 hk)]
  cases S with
  | nil => rfl
  | cons y S =>
    have := h y (List.mem_cons_self ..)
    show hins (y :: S) (key, 0 + 1, if true then -(now + 1) else now + 1) = _
    unfold hins
    rw [if_pos (by unfold rlt; simp; omega)]; rfl
theorem LOnB.step (h : LOnB m now rw S) (hm : 1 ≤ m) (hk : key ∉ rw) {x} (hx : lfuReq m now true S key = x) :
    LOnB m x.1 (rw ++ [key]) x.2.1 ∧ x.1 = now + 1 ∧ x.2.2.1 = false ∧ x.2.2.2.2 = decide (((rw ++ [key]).length : Int) > m) ∧ (x.2.2.2.2 = true → x.2.2.2.1 = (rw ++ [key]).getD ((rw ++ [key]).length - 2) ⟨#[]⟩ ∧ 1 ≤ rw.length) := by
  have hR := h.i.req hm key hx
  have hk2 : key ∉ S.map (·.1) := fun q => hk (h.sub _ q)
  have ht : ¬ 0 < tms S key := fun q => hk2 ((h.i.has key).1 q)
  have hl := h.len
  have hn := hR.n
  have hout : x.2.2.2.2 = decide (((rw ++ [key]).length : Int) > m) := by
    rw [hR.out, decide_eq_decide]; simp only [List.length_append, List.length_singleton]; split at hl <;> omega
  have hst := hR.st
  have hlast : (rw ++ [key]).getD ((rw ++ [key]).length - 1) ⟨#[]⟩ = key := by simp [List.getD_eq_getElem?_getD]
  by_cases hf : (rw.length : Int) < m
  · have ho : x.2.2.2.2 = false := by rw [hout, decide_eq_false_iff_not]; simp only [List.length_append, List.length_singleton]; omega
    rw [ho, if_neg (by simp), hset_new_first h.rk hk2] at hst
    refine ⟨⟨hR.i, fun k hkk => ?_, ?_, fun y hy => ?_, fun _ => ⟨_, _, hst, hlast.symm⟩⟩, hn, by rw [hR.hit, decide_eq_false ht], hout, fun q => by rw [ho] at q; cases q⟩
    · rw [hst, List.map_cons] at hkk
      rcases List.mem_cons.1 hkk with e | e
      · subst e; simp
      · exact List.mem_append.2 (.inl (h.sub _ e))
    · rw [hst, List.length_cons, if_pos (by simp only [List.length_append, List.length_singleton]; omega)]
      simp only [List.length_append, List.length_singleton]; split at hl <;> omega
    · rw [hst] at hy
      rcases List.mem_cons.1 hy with e | e
      · subst e; dsimp only; omega
      · have := h.rk y e; omega
  · have ho : x.2.2.2.2 = true := by rw [hout, decide_eq_true_iff]; simp only [List.length_append, List.length_singleton]; omega
    obtain ⟨v, T, hv, hv2⟩ := hR.vic ho
    have hkT : key ∉ T.map (·.1) := fun q => hk2 (by rw [hv]; exact List.mem_cons_of_mem _ q)
    rw [ho, if_pos rfl, hv, List.tail_cons, hset_new_first (fun y hy => h.rk y (by rw [hv]; exact List.mem_cons_of_mem _ hy)) hkT] at hst
    obtain ⟨v', T', hv', hv3⟩ := h.hd (by omega)
    rw [hv] at hv'
    injection hv' with q1 q2
    subst q1 q2
    refine ⟨⟨hR.i, fun k hkk => ?_, ?_, fun y hy => ?_, fun _ => ⟨_, _, hst, hlast.symm⟩⟩, hn, by rw [hR.hit, decide_eq_false ht], hout, fun _ => ⟨?_, by omega⟩⟩
    · rw [hst, List.map_cons] at hkk
      rcases List.mem_cons.1 hkk with e | e
      · subst e; simp
      · exact List.mem_append.2 (.inl (h.sub _ (by rw [hv]; exact List.mem_cons_of_mem _ e)))
    · rw [hv, List.length_cons] at hl
      rw [hst, List.length_cons, if_neg (by simp only [List.length_append, List.length_singleton]; omega)]
      split at hl <;> omega
    · rw [hst] at hy
      rcases List.mem_cons.1 hy with e | e
      · subst e; dsimp only; omega
      · have := h.rk y (by rw [hv]; exact List.mem_cons_of_mem _ e); omega
    · rw [hv2, hv3]
      have e : (rw ++ [key]).length - 2 = rw.length - 1 := by simp only [List.length_append, List.length_singleton]; omega
      rw [e, List.getD_eq_getElem?_getD, List.getD_eq_getElem?_getD, List.getElem?_append_left (by omega)]
/-! ### adopted -/
theorem LfuI.gone (h : LfuI m now S) (key : ByteArray) : tms (hrem S key) key = 0 ∧ (lk S key).isSome = decide (0 < tms S key) := by
  refine ⟨by unfold tms; rw [lk_hrem h.nd]; rfl, ?_⟩
  rw [Bool.eq_iff_iff, decide_eq_true_iff, h.has, lk_some_mem]
theorem adopt_spec (h0 : tms S key = 0) (h : LfuI m now S) {x} (hx : lfuAdopt m now ch S key = x) : x.2.2 = decide ((S.length : Int) < m) ∧ (x.2.2 = true → x.1 = now + 1 ∧ x.2.1 = asked now ch S key) ∧ (x.2.2 = false → x.2.1 = S ∧ x.1 = now) := by
  unfold lfuAdopt at hx
  have hh : lfuHas m now ch S key = decide (0 < tms S key) := rfl
  rw [hh, h0, decide_eq_false (by omega), if_neg (by simp)] at hx
  have hl := h.len
  by_cases hf : (S.length : Int) ≥ m
  · rw [if_pos hf] at hx; subst hx
    exact ⟨(decide_eq_false (by omega)).symm, fun q => by simp at q, fun _ => ⟨rfl, rfl⟩⟩
  · rw [if_neg hf, lfuAsk_eq] at hx; subst hx
    exact ⟨(decide_eq_true (by omega)).symm, fun _ => ⟨rfl, rfl⟩, fun q => by simp at q⟩
/-! ### the order -/
theorem LfuI.ordered (h : LfuI m now S) {i : Nat} (hi : i + 1 < (S.map (·.1)).length) : tms S ((S.map (·.1)).getD i ⟨#[]⟩) ≤ tms S ((S.map (·.1)).getD (i + 1) ⟨#[]⟩) := by
  have h2 : i + 1 < S.length := by simpa using hi
  have g1 : (S.map (·.1)).getD i ⟨#[]⟩ = S[i].1 := by rw [getD_in (by omega)]; simp
  have g2 : (S.map (·.1)).getD (i + 1) ⟨#[]⟩ = S[i + 1].1 := by rw [getD_in hi]; simp
  rw [g1, g2, tms_mem h.nd (List.getElem_mem _), tms_mem h.nd (List.getElem_mem _)]
  have := List.pairwise_iff_getElem.1 h.srt i (i + 1) (by omega) h2 (by omega)
  unfold rlt at this; omega
theorem getD_map_fst {j : Nat} (hj : j < S.length) : (S.map (·.1)).getD j ⟨#[]⟩ = (htop (⟨#[]⟩, 0, 0) (S.drop j)).1 := by
  rw [getD_in (by simpa using hj), List.drop_eq_getElem_cons hj]; simp only [htop, List.headD_cons, List.getElem_map]
theorem resize_spec {r : Int} (h : 0 ≤ r) {x} (hx : lfuResize m now ch S r = x) : x.1 = r ∧ x.2.1 = S.drop (S.length - r.toNat) ∧ x.2.2 = (S.map (fun y : KR ByteArray => y.1)).take (S.length - r.toNat) ∧ x.2.2.length = S.length - r.toNat := by
  have e : lfuM r = r := by unfold lfuM; rw [if_neg (by omega)]
  unfold lfuResize at hx; rw [e] at hx; subst hx
  exact ⟨rfl, rfl, by rw [List.map_take], by rw [List.length_map, List.length_take]; omega⟩
end Go.Proofs.Ytnnjccfcalgokaa
