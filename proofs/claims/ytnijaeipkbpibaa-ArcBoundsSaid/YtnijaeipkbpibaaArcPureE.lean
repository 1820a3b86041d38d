/- Package arc: its other calls keep what holds. -/
import Derived.Test.YtnijaeipkbpibaaArcPureD
set_option linter.unusedVariables false
namespace Go.Proofs.Ytnijaeipkbpibaa
open Go.RowKit
variable {most p : Int} {t1 t2 b1 b2 : LB} {key : ByteArray}
/-- Fewer keys keep it. -/
theorem ArcI.less (h : ArcI most p t1 t2 b1 b2) {u1 u2 c1 c2 : LB} (hc : ∀ k, cn u1 k ≤ cn t1 k ∧ cn u2 k ≤ cn t2 k ∧ cn c1 k ≤ cn b1 k ∧ cn c2 k ≤ cn b2 k) (hl : u1.length ≤ t1.length ∧ u2.length ≤ t2.length ∧ c1.length ≤ b1.length ∧ c2.length ≤ b2.length) : ArcI most p u1 u2 c1 c2 := by
  have g1 := h.len; have g2 := h.l1; have g3 := h.all
  exact ⟨fun k => by have := h.n k; have := hc k; omega, h.h0, h.p0, h.pm, by omega, by omega, by omega⟩
theorem cn_rm_le (l : LB) (a k : ByteArray) : cn (rm l a) k ≤ cn l k := by rw [cn_rm]; split <;> omega
theorem len_rm_le (l : LB) (a : ByteArray) : (rm l a).length ≤ l.length := by have := len_rm l a; omega
theorem ArcI.drop (h : ArcI most p t1 t2 b1 b2) {x} (hx : arcDrop most p t1 t2 b1 b2 = x) : ArcI most p x.1 x.2.1 b1 b2 := by
  have key : ∃ u1 u2 s t, x = (u1, u2, s, t) ∧ (u1 = t1 ∨ ∃ a, u1 = rm t1 a) ∧ (u2 = t2 ∨ ∃ a, u2 = rm t2 a) := by
    subst hx
    unfold arcDrop
    repeat' split
    all_goals first
      | exact ⟨_, _, _, _, rfl, .inl rfl, .inl rfl⟩
      | exact ⟨_, _, _, _, rfl, .inr ⟨_, rfl⟩, .inl rfl⟩
      | exact ⟨_, _, _, _, rfl, .inl rfl, .inr ⟨_, rfl⟩⟩
  obtain ⟨u1, u2, s, t, rfl, q1, q2⟩ := key
  refine h.less (fun k => ?_) ?_
  · rcases q1 with rfl | ⟨a, rfl⟩ <;> rcases q2 with rfl | ⟨c, rfl⟩ <;> simp only [Nat.le_refl, and_true, true_and] <;> first | exact ⟨cn_rm_le _ _ _, cn_rm_le _ _ _⟩ | exact cn_rm_le _ _ _ | trivial
  · rcases q1 with rfl | ⟨a, rfl⟩ <;> rcases q2 with rfl | ⟨c, rfl⟩ <;> simp only [Nat.le_refl, and_true, true_and] <;> first | exact ⟨len_rm_le _ _, len_rm_le _ _⟩ | exact len_rm_le _ _ | trivial
theorem arcRemove_eq (h : Apart t1 t2 b1 b2) : arcRemove most p t1 t2 b1 b2 key = (rm t1 key, rm t2 key, rm b1 key, rm b2 key, decide (key ∈ t1 ∨ key ∈ t2)) := by
  have nk := h key
  unfold arcRemove
  by_cases h1 : key ∈ t1
  · have c := cn_mem.1 h1
    rw [if_pos h1, rm_none (a := t2) (not_cn.2 (by omega)), rm_none (a := b1) (not_cn.2 (by omega)), rm_none (a := b2) (not_cn.2 (by omega))]; simp [h1]
  rw [if_neg h1, rm_none h1]
  by_cases h2 : key ∈ t2
  · have c := cn_mem.1 h2
    rw [if_pos h2, rm_none (a := b1) (not_cn.2 (by omega)), rm_none (a := b2) (not_cn.2 (by omega))]; simp [h2]
  rw [if_neg h2, rm_none h2]
  by_cases h3 : key ∈ b1
  · have c := cn_mem.1 h3
    rw [if_pos h3, rm_none (a := b2) (not_cn.2 (by omega))]; simp [h1, h2]
  rw [if_neg h3, rm_none h3]
  by_cases h4 : key ∈ b2
  · rw [if_pos h4]; simp [h1, h2]
  · rw [if_neg h4, rm_none h4]; simp [h1, h2]
theorem ArcI.remove (h : ArcI most p t1 t2 b1 b2) (key : ByteArray) {x} (hx : arcRemove most p t1 t2 b1 b2 key = x) : ArcI most p x.1 x.2.1 x.2.2.1 x.2.2.2.1 ∧ x = (rm t1 key, rm t2 key, rm b1 key, rm b2 key, decide (key ∈ t1 ∨ key ∈ t2)) := by
  rw [arcRemove_eq h.n] at hx
  subst hx
  exact ⟨h.less (fun k => ⟨cn_rm_le _ _ _, cn_rm_le _ _ _, cn_rm_le _ _ _, cn_rm_le _ _ _⟩) ⟨len_rm_le _ _, len_rm_le _ _, len_rm_le _ _, len_rm_le _ _⟩, rfl⟩
theorem cn_take_le (l : LB) (n : Nat) (k : ByteArray) : cn (l.take n) k ≤ cn l k := by
  conv => rhs; rw [← List.take_append_drop n l]
  rw [cn_app]; omega
/-- Residents within the size, whatever the ghosts: trimmed, all is as it should. -/
theorem trim_inv (hN : Apart t1 t2 b1 b2) (h0 : 0 ≤ most) (hp : 0 ≤ p ∧ p ≤ most) (hl : (t1.length : Int) + t2.length ≤ most) {x} (hx : arcTrim most p t1 t2 b1 b2 = x) : ArcI most p t1 t2 x.1 x.2 := by
  have e1 : (arcTrim1 most p t1 t2 b1 b2).length ≤ (most - t1.length).toNat := by unfold arcTrim1; rw [List.length_take]; omega
  have e2 : ∀ c, (arcTrim2 most p t1 t2 c b2).length ≤ (2 * most - t1.length - t2.length - c.length).toNat := fun c => by unfold arcTrim2; rw [List.length_take]; omega
  subst hx
  have e3 := e2 (arcTrim1 most p t1 t2 b1 b2)
  refine ⟨fun k => ?_, h0, hp.1, hp.2, hl, ?_, ?_⟩
  · have := hN k
    have q1 : cn (arcTrim1 most p t1 t2 b1 b2) k ≤ cn b1 k := cn_take_le _ _ _
    have q2 : cn (arcTrim2 most p t1 t2 (arcTrim1 most p t1 t2 b1 b2) b2) k ≤ cn b2 k := cn_take_le _ _ _
    show cn t1 k + cn t2 k + cn (arcTrim1 most p t1 t2 b1 b2) k + cn (arcTrim2 most p t1 t2 (arcTrim1 most p t1 t2 b1 b2) b2) k ≤ 1
    omega
  · show (t1.length : Int) + (arcTrim1 most p t1 t2 b1 b2).length ≤ most; omega
  · show (t1.length : Int) + t2.length + (arcTrim1 most p t1 t2 b1 b2).length + (arcTrim2 most p t1 t2 (arcTrim1 most p t1 t2 b1 b2) b2).length ≤ 2 * most; omega
theorem ArcI.adopt (h : ArcI most p t1 t2 b1 b2) (key : ByteArray) {x} (hx : arcAdopt most p t1 t2 b1 b2 key = x) : ArcI most p x.1 x.2.1 x.2.2.1 x.2.2.2.1 := by
  unfold arcAdopt at hx
  split at hx
  · subst hx; exact h
  split at hx
  · subst hx; exact h
  rename_i h1 h2
  rw [arcRemove_eq h.n] at hx
  dsimp only at hx
  have hl : ¬ ((t1.length : Int) + t2.length ≥ most) := h2
  have l1 := len_rm_le t1 key
  have l2 := len_rm_le t2 key
  have f1 := len_fr (rm t1 key) key
  subst hx
  refine trim_inv (fun k => ?_) h.h0 ⟨h.p0, h.pm⟩ (by dsimp only; omega) rfl
  have := h.n k
  simp only [cn_fr, cn_rm]
  by_cases e : k = key
  · simp [e]
  · simp only [if_neg e]; omega
/-- Made smaller, step by step. -/
theorem resL_inv (hm : 0 ≤ most) : ∀ (n : Nat) (t1 t2 b1 b2 out : LB), t1.length + t2.length ≤ n → Apart t1 t2 b1 b2 → Apart (arcResL most p n t1 t2 b1 b2 out).1 (arcResL most p n t1 t2 b1 b2 out).2.1 (arcResL most p n t1 t2 b1 b2 out).2.2.1 (arcResL most p n t1 t2 b1 b2 out).2.2.2.1 ∧
    ((arcResL most p n t1 t2 b1 b2 out).1.length : Int) + (arcResL most p n t1 t2 b1 b2 out).2.1.length ≤ most
  | 0, t1, t2, b1, b2, out, h, hN => ⟨hN, by show (t1.length : Int) + t2.length ≤ most; omega⟩
  | n + 1, t1, t2, b1, b2, out, h, hN => by
    rw [arcResL]
    by_cases hc : (t1.length : Int) + t2.length > most
    · rw [if_pos hc]
      have hlen := arcYieldF_len (most := most) (p := p) (t1 := t1) (t2 := t2) (b1 := b1) (b2 := b2) (by omega)
      refine resL_inv hm n _ _ _ _ _ (by omega) ?_
      unfold arcYieldF
      by_cases hq : (t1.length : Int) > 0 ∧ ((t1.length : Int) > p ∨ (t2.length : Int) = 0)
      · have h0 : 0 < t1.length := by omega
        simp only [if_pos hq, if_pos h0]
        intro k
        have := hN k; have e := cn_dl h0 k
        have n1 := hN (lastOf t1); have c1 := cn_last h0
        show cn t1.dropLast k + cn t2 k + cn (fr b1 (lastOf t1)) k + cn b2 k ≤ 1
        rw [cn_fr]
        by_cases e2 : k = lastOf t1
        · subst e2; simp only [eq_self, if_true] at *; omega
        · rw [if_neg e2] at *; omega
      · have h0 : 0 < t2.length := by omega
        simp only [if_neg hq, if_pos h0]
        intro k
        have := hN k; have e := cn_dl h0 k
        have n1 := hN (lastOf t2); have c1 := cn_last h0
        show cn t1 k + cn t2.dropLast k + cn b1 k + cn (fr b2 (lastOf t2)) k ≤ 1
        rw [cn_fr]
        by_cases e2 : k = lastOf t2
        · subst e2; simp only [eq_self, if_true] at *; omega
        · rw [if_neg e2] at *; omega
    · rw [if_neg hc]; exact ⟨hN, by show (t1.length : Int) + t2.length ≤ most; omega⟩
theorem ArcI.resize (h : ArcI most p t1 t2 b1 b2) {mo : Int} (hmo : 0 ≤ mo) {x} (hx : arcResize most p t1 t2 b1 b2 mo = x) : ArcI mo x.2.1 x.2.2.1 x.2.2.2.1 x.2.2.2.2.1 x.2.2.2.2.2.1 ∧ x.1 = mo := by
  have eM : arcResM mo = mo := by unfold arcResM; rw [if_neg (by omega)]
  have hP : 0 ≤ arcResP mo p ∧ arcResP mo p ≤ mo := by
    have := h.p0
    unfold arcResP; rw [eM]; split <;> omega
  unfold arcResize at hx
  rw [eM] at hx
  obtain ⟨q1, q2⟩ := resL_inv (most := mo) (p := arcResP mo p) hmo (t1.length + t2.length) t1 t2 b1 b2 [] (Nat.le_refl _) h.n
  subst hx
  exact ⟨trim_inv q1 hmo hP q2 rfl, rfl⟩
/-! ### the rows, one behind another -/
theorem Apart.nodup (h : Apart t1 t2 b1 b2) : (t1.reverse ++ t2.reverse ++ (b1 ++ b2)).Nodup := by
  rw [nodup_cn]
  intro k
  have := h k
  rw [cn_app, cn_app, cn_app, cn_rev, cn_rev]; omega
/-- Behind k that were seen. -/
structure SeenI (l : LB) (sn : List (ByteArray × Bool)) (k : Nat) : Prop where
  le : k ≤ l.length
  sn : ∀ x, (lk sn x).getD false = decide (x ∈ l.take k)
theorem SeenI.new {l : LB} : SeenI l [] 0 := ⟨Nat.zero_le _, fun x => by simp [lk]⟩
theorem take_push {l : LB} {k : Nat} (hk : k < l.length) : l.take (k + 1) = l.take k ++ [l.getD k ⟨#[]⟩] := by
  rw [List.take_add_one, List.getD_eq_getElem?_getD, List.getElem?_eq_getElem hk]; rfl
theorem SeenI.fresh {l : LB} {sn : List (ByteArray × Bool)} {k : Nat} (h : SeenI l sn k) (hn : l.Nodup) (hk : k < l.length) : (lk sn (l.getD k ⟨#[]⟩)).getD false = false := by
  rw [h.sn, decide_eq_false_iff_not]
  intro hm
  obtain ⟨i, hi, e⟩ := List.mem_take_iff_getElem.1 hm
  rw [List.getD_eq_getElem?_getD, List.getElem?_eq_getElem hk] at e
  have := (List.getElem_inj hn).1 (show l[i]'(by omega) = l[k] from e)
  omega
theorem SeenI.step {l : LB} {sn : List (ByteArray × Bool)} {k : Nat} (h : SeenI l sn k) (hk : k < l.length) : SeenI l (put sn (l.getD k ⟨#[]⟩) true) (k + 1) := by
  refine ⟨hk, fun x => ?_⟩
  rw [lk_put, take_push hk]
  by_cases e : x = l.getD k ⟨#[]⟩
  · rw [if_pos e]; simp [e]
  · rw [if_neg e, h.sn]
    simp only [List.mem_append, List.mem_singleton, e, or_false]
/-- Who of the row is resident. -/
theorem Apart.here (h : Apart t1 t2 b1 b2) {k : Nat} (hk : k < (t1.reverse ++ t2.reverse ++ (b1 ++ b2)).length) :
    ((t1.reverse ++ t2.reverse ++ (b1 ++ b2)).getD k ⟨#[]⟩ ∈ t1 ∨ (t1.reverse ++ t2.reverse ++ (b1 ++ b2)).getD k ⟨#[]⟩ ∈ t2) ↔ k < t1.length + t2.length := by
  constructor
  · intro q
    refine Classical.byContradiction fun hc => ?_
    have := getD_appR (a := t1.reverse ++ t2.reverse) (b := b1 ++ b2) (i := k) (by simp; omega) hk
    have n := h ((t1.reverse ++ t2.reverse ++ (b1 ++ b2)).getD k ⟨#[]⟩)
    rw [cn_mem, cn_app] at this
    rcases q with q | q <;> (have := cn_mem.1 q; omega)
  · intro q
    have := getD_appL (a := t1.reverse ++ t2.reverse) (b := b1 ++ b2) (i := k) (by simp; omega)
    simpa using this
end Go.Proofs.Ytnijaeipkbpibaa
