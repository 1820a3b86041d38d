/- Laws of rows of keys, of sets. No program. -/
import Derived.Test.YthbffkdfahlpdaaRefA
set_option linter.unusedVariables false
namespace Go.Proofs.Ythbffkdfahlpdaa
open Go.RowKit Go.MapKept

theorem length_rm {ks : List ByteArray} (h : ks.Nodup) (k : ByteArray) : (rm ks k).length = if k ∈ ks then ks.length - 1 else ks.length := by
  have e : rm ks k = ks.erase k := (List.Nodup.erase_eq_filter h k).symm ▸ List.filter_congr fun x _ => by by_cases q : x = k <;> simp [q]
  rw [e, List.length_erase]
theorem rm_not {ks : List ByteArray} {k : ByteArray} (h : k ∉ ks) : rm ks k = ks := List.filter_eq_self.2 fun x hx => by simpa using fun q : x = k => h (q ▸ hx)
theorem rm_rm (ks : List ByteArray) (k : ByteArray) : rm (rm ks k) k = rm ks k := rm_not fun q => (mem_rm.1 q).2 rfl
theorem fr_bk (ks : List ByteArray) (k : ByteArray) : fr (bk ks k) k = fr ks k := by
  rw [fr, bk, rm_append, rm_same, List.append_nil, rm_rm]; rfl
theorem fr_rm (ks : List ByteArray) (k : ByteArray) : fr (rm ks k) k = fr ks k := by rw [fr, rm_rm]; rfl
theorem mem_fr {ks : List ByteArray} {k x : ByteArray} : x ∈ fr ks k ↔ x = k ∨ x ∈ ks := by
  rw [fr, List.mem_cons, mem_rm]
  by_cases e : x = k <;> simp [e]
theorem length_fr {ks : List ByteArray} (h : ks.Nodup) (k : ByteArray) : (fr ks k).length = if k ∈ ks then ks.length else ks.length + 1 := by
  rw [fr, List.length_cons, length_rm h]
  by_cases e : k ∈ ks
  · have := List.length_pos_of_mem e; simp [e]; omega
  · simp [e]
theorem nodup_le {α : Type} [DecidableEq α] : ∀ {l m : List α}, l.Nodup → (∀ x ∈ l, x ∈ m) → l.length ≤ m.length
  | [], _, _, _ => Nat.zero_le _
  | x :: l, m, h, hs => by
    rw [List.nodup_cons] at h
    have hx := hs x (by simp)
    have := nodup_le (m := m.erase x) h.2 fun y hy => (List.mem_erase_of_ne (by rintro rfl; exact h.1 hy)).2 (hs y (by simp [hy]))
    rw [List.length_erase_of_mem hx] at this
    have := List.length_pos_of_mem hx
    simp; omega
theorem nodup_fr {ks : List ByteArray} (h : ks.Nodup) (k : ByteArray) : (fr ks k).Nodup := List.nodup_cons.2 ⟨fun q => (mem_rm.1 q).2 rfl, h.filter _⟩
theorem nodup_bk {ks : List ByteArray} (h : ks.Nodup) (k : ByteArray) : (bk ks k).Nodup := List.nodup_append.2 ⟨h.filter _, by simp, fun a ha b hb => by simp at hb; subst hb; exact (mem_rm.1 ha).2⟩
theorem length_bk (ks : List ByteArray) (k : ByteArray) : (bk ks k).length = (fr ks k).length := by simp [bk, fr]
/-- A set that is kept in a map. -/
def SetOf (l : List (ByteArray × Bool)) (ks : List ByteArray) : Prop := (∀ x, (lk l x).isSome = decide (x ∈ ks)) ∧ l.length = ks.length
theorem SetOf.nil : SetOf [] [] := ⟨fun x => by simp [lk], rfl⟩
theorem SetOf.put {l : List (ByteArray × Bool)} {ks : List ByteArray} (h : SetOf l ks) (hn : ks.Nodup) (k : ByteArray) : SetOf (put l k true) (fr ks k) := by
  refine ⟨fun x => ?_, ?_⟩
  · rw [lk_put, Bool.eq_iff_iff, decide_eq_true_iff, mem_fr]
    by_cases e : x = k
    · simp [e]
    · have := h.1 x
      rw [Bool.eq_iff_iff, decide_eq_true_iff] at this
      simp [e, this]
  · rw [length_put, length_fr hn, h.1 k, h.2]
    simp

theorem rm_reverse (ks : List ByteArray) (k : ByteArray) : rm ks.reverse k = (rm ks k).reverse := by unfold rm; rw [List.filter_reverse]
theorem fr_reverse (ks : List ByteArray) (k : ByteArray) : fr ks.reverse k = (bk ks k).reverse := by rw [fr, bk, rm_reverse, List.reverse_append]; rfl
theorem bk_reverse (ks : List ByteArray) (k : ByteArray) : bk ks.reverse k = (fr ks k).reverse := by rw [fr, bk, rm_reverse, List.reverse_cons]
theorem mem_bk {ks : List ByteArray} {k x : ByteArray} : x ∈ bk ks k ↔ x = k ∨ x ∈ ks := by
  rw [bk, List.mem_append, mem_rm, List.mem_singleton]
  by_cases e : x = k <;> simp [e]
theorem bk_not {ks : List ByteArray} {k : ByteArray} (h : k ∉ ks) : bk ks k = ks ++ [k] := by rw [bk, rm_not h]
theorem fr_not {ks : List ByteArray} {k : ByteArray} (h : k ∉ ks) : fr ks k = k :: ks := by rw [fr, rm_not h]
theorem nodup_reverse {ks : List ByteArray} : ks.reverse.Nodup ↔ ks.Nodup := by
  unfold List.Nodup
  rw [List.pairwise_reverse]
  exact ⟨fun h => h.imp fun q => Ne.symm q, fun h => h.imp fun q => Ne.symm q⟩
theorem head_getD_reverse (ks : List ByteArray) : ks.reverse.getLast?.getD ⟨#[]⟩ = ks.head?.getD ⟨#[]⟩ := by rw [List.getLast?_reverse]
theorem dropLast_reverse (ks : List ByteArray) : ks.reverse.dropLast = ks.tail.reverse := by cases ks <;> simp
end Go.Proofs.Ythbffkdfahlpdaa
