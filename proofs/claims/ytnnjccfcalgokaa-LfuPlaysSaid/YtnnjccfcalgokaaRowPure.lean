/- Rows of keys: the last one, how often a key is there. Plain lists. -/
import Derived.Test.YtnnjccfcalgokaaRowLaws
set_option linter.unusedVariables false
namespace Go.Proofs.Ytnnjccfcalgokaa

abbrev LB := List ByteArray
/-- The last one. -/
def lastOf (l : LB) : ByteArray := l.getLast?.getD ⟨#[]⟩
theorem perm_last {l : LB} (h : 0 < l.length) : l.dropLast ++ [lastOf l] = l := by
  obtain ⟨l', x, rfl⟩ : ∃ l' x, l = l' ++ [x] := ⟨l.dropLast, l.getLast (by intro e; simp [e] at h), (List.dropLast_concat_getLast _).symm⟩
  simp [lastOf]
theorem lastOf_app {a b : LB} (h : 0 < b.length) : lastOf (a ++ b) = lastOf b := by
  obtain ⟨l', x, rfl⟩ : ∃ l' x, b = l' ++ [x] := ⟨b.dropLast, lastOf b, (perm_last h).symm⟩
  simp [lastOf, ← List.append_assoc]
/-- How often. -/
def cn (l : LB) (k : ByteArray) : Nat := (l.filter (· = k)).length
theorem cn_nil (k : ByteArray) : cn [] k = 0 := rfl
theorem cn_cons (x : ByteArray) (l : LB) (k : ByteArray) : cn (x :: l) k = cn l k + if k = x then 1 else 0 := by
  unfold cn
  rw [List.filter_cons]
  by_cases h : x = k
  · subst h; simp
  · simp [h, Ne.symm h]
theorem cn_app (a b : LB) (k : ByteArray) : cn (a ++ b) k = cn a k + cn b k := by simp [cn]
theorem cn_rev (l : LB) (k : ByteArray) : cn l.reverse k = cn l k := by simp [cn, List.filter_reverse]
theorem cn_mem {l : LB} {k : ByteArray} : k ∈ l ↔ 0 < cn l k := by
  unfold cn
  rw [List.length_pos_iff_exists_mem]
  constructor
  · intro h; exact ⟨k, List.mem_filter.2 ⟨h, by simp⟩⟩
  · rintro ⟨x, hx⟩
    have := List.mem_filter.1 hx
    have e : x = k := by simpa using this.2
    exact e ▸ this.1
theorem cn_rm (l : LB) (a k : ByteArray) : cn (rm l a) k = if k = a then 0 else cn l k := by
  unfold cn rm
  rw [List.filter_filter]
  by_cases h : k = a
  · subst h; rw [if_pos rfl, List.filter_eq_nil_iff.2 (fun x _ => by simp)]; rfl
  · rw [if_neg h]; congr 1
    apply List.filter_congr
    intro x _
    by_cases e : x = k
    · subst e; simp [h]
    · simp [e]
theorem cn_fr (l : LB) (a k : ByteArray) : cn (fr l a) k = if k = a then 1 else cn l k := by
  rw [fr, cn_cons, cn_rm]; split <;> simp
theorem cn_dl {l : LB} (h : 0 < l.length) (k : ByteArray) : cn l k = cn l.dropLast k + if k = lastOf l then 1 else 0 := by
  conv => lhs; rw [← perm_last h]
  rw [cn_app, cn_cons, cn_nil, Nat.zero_add]
theorem len_rm (l : LB) (a : ByteArray) : (rm l a).length + cn l a = l.length := by
  induction l with
  | nil => rfl
  | cons x l ih =>
    rw [cn_cons]
    by_cases h : a = x
    · subst h
      rw [if_pos rfl, show rm (a :: l) a = rm l a by simp [rm]]
      simp only [List.length_cons]; omega
    · rw [if_neg h, show rm (x :: l) a = x :: rm l a by simp [rm, Ne.symm h]]
      simp only [List.length_cons]; omega
theorem len_fr (l : LB) (a : ByteArray) : (fr l a).length + cn l a = l.length + 1 := by
  have := len_rm l a
  show (rm l a).length + 1 + _ = _; omega
theorem len_dl (l : LB) : l.dropLast.length = l.length - 1 := List.length_dropLast
theorem cn_last {l : LB} (h : 0 < l.length) : 0 < cn l (lastOf l) := by rw [cn_dl h, if_pos rfl]; omega
theorem nodup_cn {l : LB} : l.Nodup ↔ ∀ k, cn l k ≤ 1 := by
  induction l with
  | nil => simp [cn_nil]
  | cons x l ih =>
    rw [List.nodup_cons, ih]
    constructor
    · rintro ⟨h1, h2⟩ k
      rw [cn_cons]
      have := h2 k
      by_cases e : k = x
      · subst e; rw [cn_mem] at h1; rw [if_pos rfl]; omega
      · rw [if_neg e]; exact this
    · intro h
      refine ⟨fun q => ?_, fun k => ?_⟩
      · have := h x; rw [cn_cons, if_pos rfl] at this; rw [cn_mem] at q; omega
      · have := h k; rw [cn_cons] at this; omega
theorem getD_mem {l : LB} {i : Nat} (h : i < l.length) : l.getD i ⟨#[]⟩ ∈ l := by
  rw [List.getD_eq_getElem?_getD, List.getElem?_eq_getElem h]; exact List.getElem_mem h
theorem mem_dl {l : LB} {k : ByteArray} (h : k ∈ l.dropLast) : k ∈ l := (List.dropLast_sublist l).subset h
/-- The last m of a row, from the last one on. -/
def lastRev (m : Int) (rw : LB) : LB := (rw.drop (rw.length - m.toNat)).reverse
theorem lastRev_length {m : Int} (h : 0 ≤ m) (rw : LB) : ((lastRev m rw).length : Int) = min (rw.length : Int) m := by
  unfold lastRev; rw [List.length_reverse, List.length_drop]; omega
theorem lastRev_push_room {m : Int} {rw : LB} (h : (rw.length : Int) < m) (key : ByteArray) : lastRev m (rw ++ [key]) = key :: lastRev m rw := by
  unfold lastRev
  rw [show (rw ++ [key]).length - m.toNat = 0 by simp; omega, show rw.length - m.toNat = 0 by omega]
  simp
theorem lastRev_push_full {m : Int} {rw : LB} (h1 : 1 ≤ m) (h : m ≤ (rw.length : Int)) (key : ByteArray) : lastRev m (rw ++ [key]) = key :: (lastRev m rw).dropLast ∧ lastOf (lastRev m rw) = rw.getD (rw.length - m.toNat) ⟨#[]⟩ := by
  unfold lastRev
  obtain ⟨i, hi⟩ : ∃ i, rw.length - m.toNat = i := ⟨_, rfl⟩
  have hlt : i < rw.length := by omega
  rw [show (rw ++ [key]).length - m.toNat = i + 1 by simp; omega, hi]
  constructor
  · rw [List.drop_append_of_le_length (by omega), List.reverse_append, List.drop_eq_getElem_cons hlt, List.reverse_cons (a := rw[i]), List.dropLast_concat]
    rfl
  · rw [List.drop_eq_getElem_cons hlt, List.reverse_cons]
    simp [lastOf, hlt]
theorem lastRev_mem {m : Int} {rw : LB} {k : ByteArray} (h : k ∈ lastRev m rw) : k ∈ rw := by
  unfold lastRev at h; rw [List.mem_reverse] at h; exact (List.drop_sublist _ _).subset h
end Go.Proofs.Ytnnjccfcalgokaa
