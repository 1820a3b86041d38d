/- Package lfu beside the document's: what stands through the rows of calls. -/
import Derived.Test.YtnnjccfcalgokaaLfuPlays
set_option linter.unusedVariables false
namespace Go.Proofs.Ytnnjccfcalgokaa
structure LP (m now : Int) (ch : Bool) (S : KS) (L : L2) : Prop where
  i : LfuI m now S
  r : ∃ T, LR ch T S L now
  m0 : 0 ≤ m
section
variable {m now : Int} {ch : Bool} {S : KS} {L : L2}
theorem LP.new (h : 0 ≤ m) : LP m 0 ch [] [] := ⟨LfuI.new h, ⟨[], LR.new⟩, h⟩
theorem LP.len (h : LP m now ch S L) : S.length = L.length := by obtain ⟨T, hr⟩ := h.r; exact hr.len
theorem LP.tms (h : LP m now ch S L) (k : ByteArray) : Proofs.Ytnnjccfcalgokaa.tms S k = (lk L k).getD 0 := by obtain ⟨T, hr⟩ := h.r; exact hr.lk k
theorem LP.t2b (h : LP m now ch S L) (hn : now ≤ 1000000000) : T2B L := by
  obtain ⟨T, hr⟩ := h.r
  intro y hy
  rw [hr.l] at hy
  obtain ⟨z, hz, rfl⟩ := List.mem_map.1 hy
  have := h.i.tm _ (hr.perm.mem_iff.2 (List.mem_map_of_mem hz))
  have h2 : (rkf ch z).2.1 = z.2.1 := rfl
  rw [h2] at this
  show 0 ≤ z.2.1 ∧ z.2.1 ≤ 1000000000
  omega
theorem LP.rem (h : LP m now ch S L) (k : ByteArray) : LP m now ch (hrem S k) (rem2 L k) := by
  obtain ⟨T, hr⟩ := h.r
  exact ⟨h.i.rem k, ⟨_, hr.rem k⟩, h.m0⟩
theorem LP.req (h : LP m now ch S L) (hm : ¬ m = 0) (key : ByteArray) {x} (hx : lfuReq m now ch S key = x) :
    LP m x.1 ch x.2.1 (req06 m ch L key).1 ∧ x.2.2.1 = (req06 m ch L key).2.1 ∧ x.2.2.2.1 = (req06 m ch L key).2.2.1 ∧ x.2.2.2.2 = (req06 m ch L key).2.2.2 ∧ x.1 = now + 1 := by
  have h0 := h.m0
  obtain ⟨T, hr⟩ := h.r
  obtain ⟨h1, h2, h3, h4, h5⟩ := hr.req h.i.n0 (by omega) hx
  have hi := LfuI.req h.i (by omega) key hx
  exact ⟨⟨hi.i, h1, h0⟩, h2, h3, h4, h5⟩
theorem LP.req0 (h : LP m now ch S L) (hm : m = 0) (key : ByteArray) {x} (hx : lfuReq m now ch S key = x) : x = (now, S, decide ((lk L key).getD 0 > 0), ⟨#[]⟩, false) := by
  have hh : lfuHas m now ch S key = decide (0 < Proofs.Ytnnjccfcalgokaa.tms S key) := rfl
  unfold lfuReq at hx
  rw [if_pos (by omega), hh, h.tms key] at hx
  exact hx.symm
theorem LP.adopt_no (h : LP m now ch S L) {key : ByteArray} (hc : (lk L key).getD 0 > 0 ∨ (L.length : Int) ≥ m) {x} (hx : lfuAdopt m now ch S key = x) : x = (now, S, false) := by
  obtain ⟨T, hr⟩ := h.r
  exact (hr.adopt h.i.n0 hx).1 hc
theorem LP.adopt (h : LP m now ch S L) {key : ByteArray} (hc : ¬ ((lk L key).getD 0 > 0 ∨ (L.length : Int) ≥ m)) {x} (hx : lfuAdopt m now ch S key = x) : x.2.2 = true ∧ x.1 = now + 1 ∧ LP m x.1 ch x.2.1 (ask2 L key) := by
  obtain ⟨T, hr⟩ := h.r
  obtain ⟨h1, h2, h3⟩ := (hr.adopt h.i.n0 hx).2 hc
  have hl := h.len
  have h0 : Proofs.Ytnnjccfcalgokaa.tms S key = 0 := by have := (h.i.le key).1; have := h.tms key; have : ¬ (lk L key).getD 0 > 0 := fun q => hc (.inl q); omega
  obtain ⟨-, h4, -⟩ := adopt_spec h0 h.i hx
  obtain ⟨h5, h6⟩ := h4 h1
  refine ⟨h1, h2, ?_, by rw [h2]; exact h3, h.m0⟩
  rw [h5, h6]
  exact h.i.ask key (.inr (by have : ¬ (L.length : Int) ≥ m := fun q => hc (.inr q); omega))
theorem LP.top (h : LP m now ch S L) (h0 : 0 < L.length) : (htop (⟨#[]⟩, 0, 0) S).1 = vkey ch L := by
  obtain ⟨T, hr⟩ := h.r
  obtain ⟨v, S', rfl, hv, -⟩ := hr.drop1 h0
  exact hv
theorem LP.drop (h : LP m now ch S L) (h0 : 0 < L.length) : LP m now ch S.tail (rem2 L (vkey ch L)) := by
  obtain ⟨T, hr⟩ := h.r
  obtain ⟨v, S', rfl, hv, h1⟩ := hr.drop1 h0
  exact ⟨h.i.tail, ⟨_, h1⟩, h.m0⟩
theorem vic_neg {L : L2} (h : vicN ch L L.length < 0) : L.length = 0 := by
  rcases Nat.eq_zero_or_pos L.length with e | e
  · exact e
  · have := vicN_some ch L e; omega
theorem vic_pos {L : L2} (h : ¬ vicN ch L L.length < 0) : 0 < L.length := by
  rcases Nat.eq_zero_or_pos L.length with e | e
  · rw [e] at h; exact absurd (by simp [vicN]) h
  · exact e
theorem LP.rsz (h : LP m now ch S L) {r : Int} {x} (hx : lfuResize m now ch S r = x) :
    x.1 = (if r < 0 then 0 else r) ∧ LP x.1 now ch x.2.1 (rsz06 (if r < 0 then 0 else r) ch L).1 ∧ x.2.2 = (rsz06 (if r < 0 then 0 else r) ch L).2 := by
  have e0 : lfuM r = if r < 0 then 0 else r := by unfold lfuM; by_cases q : r < 0 <;> simp [q]
  have hM : 0 ≤ (if r < 0 then 0 else r) := by split <;> omega
  unfold lfuResize at hx
  rw [e0] at hx
  generalize (if r < 0 then 0 else r) = M at hx hM ⊢
  obtain ⟨T, hr⟩ := h.r
  obtain ⟨h1, T', h2⟩ := hr.rsz hM L.length (Nat.le_refl _)
  subst hx
  refine ⟨rfl, ⟨⟨?_, ?_, fun y hy => h.i.tm y (List.mem_of_mem_drop hy), h.i.n0, ?_⟩, ⟨T', h2⟩, hM⟩, ?_⟩
  · rw [List.map_drop]; exact h.i.nd.sublist (List.drop_sublist _ _)
  · exact List.Pairwise.sublist (List.drop_sublist _ _) h.i.srt
  · show ((S.drop (S.length - M.toNat)).length : Int) ≤ M
    rw [List.length_drop]; omega
  · show (S.take (S.length - M.toNat)).map (·.1) = (rszN M ch L.length L).2
    rw [h1, List.map_take]
theorem LP.rsz_no (h : LP m now ch S L) {r : Int} (hc : ¬ (L.length : Int) > (if r < 0 then 0 else r)) {x} (hx : lfuResize m now ch S r = x) :
    x.1 = (if r < 0 then 0 else r) ∧ LP x.1 now ch x.2.1 L ∧ x.2.2 = [] := by
  obtain ⟨h1, h2, h3⟩ := h.rsz hx
  have e : rsz06 (if r < 0 then 0 else r) ch L = (L, []) := by
    have := (RszI.new (M := if r < 0 then 0 else r) (ch := ch) (l := L)).fin hc
    exact this
  rw [e] at h2 h3
  exact ⟨h1, h2, h3⟩
theorem LP.keys (h : LP m now ch S L) : S.map (fun y : KR ByteArray => y.1) = (rsz06 (if (0 : Int) < 0 then 0 else (0 : Int)) ch L).2 := by
  obtain ⟨T, hr⟩ := h.r
  obtain ⟨h1, -⟩ := hr.rsz (M := 0) (Int.le_refl _) L.length (Nat.le_refl _)
  show _ = (rsz06 0 ch L).2
  unfold rsz06
  rw [h1, List.take_of_length_le (by simp)]
theorem LP.nokeys (h : LP m now ch S L) (h0 : ¬ (L.length : Int) > (if (0 : Int) < 0 then 0 else (0 : Int))) : S.map (fun y : KR ByteArray => y.1) = [] := by
  have h1 := h.len
  rw [show (if (0 : Int) < 0 then (0 : Int) else 0) = 0 from by simp] at h0
  have h2 : S.length = 0 := by omega
  rw [List.eq_nil_of_length_eq_zero h2]; rfl
theorem LP.has (h : LP m now ch S L) (k : ByteArray) : (lk S k).isSome = decide (0 < (lk L k).getD 0) := by rw [← h.tms k]; exact (h.i.gone k).2
end
end Go.Proofs.Ytnnjccfcalgokaa
