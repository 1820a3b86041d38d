/- What an lru cache holds: the last ones of what was asked for, each once. No program. -/
import Derived.Test.YtjijjfdkghcjkaaLruB
set_option linter.unusedVariables false
namespace Go.Proofs.Ytjijjfdkghcjkaa
open Go.RowKit Go.MapKept

/-- The last M. -/
def lastN (M : Nat) (l : List ByteArray) : List ByteArray := l.drop (l.length - M)
/-- Each once, by when it was there last. -/
def full : List ByteArray → List ByteArray
  | [] => []
  | x :: s => if x ∈ s then full s else x :: full s
def lruRun (M : Int) (ks : List ByteArray) : List ByteArray := ks.foldl (lruReq M) []
theorem lruRun_snoc (M : Int) (ks : List ByteArray) (k : ByteArray) : lruRun M (ks ++ [k]) = lruReq M (lruRun M ks) k := by simp [lruRun]
theorem lruRun_take {M : Int} {ks : List ByteArray} {j : Nat} (h : j < ks.length) : lruRun M (ks.take (j + 1)) = lruReq M (lruRun M (ks.take j)) ks[j] := by
  rw [List.take_succ_eq_append_getElem h, lruRun_snoc]

theorem mem_full {k : ByteArray} : ∀ {s : List ByteArray}, k ∈ full s ↔ k ∈ s
  | [] => by simp [full]
  | x :: s => by
    unfold full
    split
    · rename_i h
      rw [mem_full, List.mem_cons]
      exact ⟨.inr, fun q => q.elim (fun e => e ▸ h) id⟩
    · rw [List.mem_cons, mem_full, List.mem_cons]
theorem nodup_full : ∀ (s : List ByteArray), (full s).Nodup
  | [] => List.nodup_nil
  | x :: s => by
    unfold full
    split
    · exact nodup_full s
    · rename_i h
      exact List.nodup_cons.2 ⟨fun q => h (mem_full.1 q), nodup_full s⟩
theorem full_snoc (k : ByteArray) : ∀ (s : List ByteArray), full (s ++ [k]) = bk (full s) k
  | [] => by simp [full, bk, rm]
  | x :: s => by
    have ih := full_snoc k s
    rw [List.cons_append]
    by_cases hk : x = k
    · subst hk
      rw [full, if_pos (by simp), ih]
      rw [full]
      split
      · rfl
      · rename_i h
        have : rm (x :: full s) x = rm (full s) x := by simp [rm]
        rw [bk, bk, this]
    · by_cases hx : x ∈ s
      · rw [full, if_pos (by simp [hx]), ih, full, if_pos hx]
      · rw [full, if_neg (by simp [hx, hk]), ih, full, if_neg hx, bk, bk]
        have : rm (x :: full s) k = x :: rm (full s) k := by simp [rm, hk]
        rw [this]; rfl
theorem rm_length {l : List ByteArray} (h : l.Nodup) {k : ByteArray} (hk : k ∈ l) : (rm l k).length + 1 = l.length := by
  rw [length_rm h, if_pos hk]
  have := List.length_pos_of_mem hk
  omega
theorem lastN_req {F : List ByteArray} (hF : F.Nodup) (M : Nat) (k : ByteArray) : lruReq (M : Int) (lastN M F) k = lastN M (bk F k) := by
  obtain ⟨A, B, rfl, hA, hB⟩ : ∃ A B, F = A ++ B ∧ A.length = F.length - M ∧ lastN M F = B := ⟨F.take (F.length - M), F.drop (F.length - M), (List.take_append_drop _ _).symm, by rw [List.length_take]; omega, rfl⟩
  rw [hB]
  have hn := hF
  rw [List.nodup_append] at hn
  obtain ⟨hnA, hnB, hnAB⟩ := hn
  rw [List.length_append] at hA
  by_cases h0 : M = 0
  · subst h0
    have hB0 : B = [] := by
      rw [← hB]; unfold lastN; rw [Nat.sub_zero, List.drop_length]
    subst hB0
    unfold lruReq lastN
    rw [if_pos (show ((0 : Nat) : Int) = 0 from rfl), Nat.sub_zero, List.drop_length]
  · have hM : ¬ (M : Int) = 0 := by omega
    unfold lruReq
    rw [if_neg hM]
    have hbk : bk (A ++ B) k = rm A k ++ (rm B k ++ [k]) := by rw [bk, rm_append, List.append_assoc]
    by_cases h1 : k ∈ B
    · rw [if_pos h1, hbk]
      have hkA : k ∉ A := fun q => hnAB k q k h1 rfl
      have := rm_length hnB h1
      rw [rm_not hkA]
      unfold lastN
      rw [List.length_append, List.length_append, List.length_singleton, show A.length + ((rm B k).length + 1) - M = A.length by omega, List.drop_left]
      rfl
    · rw [if_neg h1, hbk, rm_not h1]
      by_cases h2 : k ∈ A
      · have hl := rm_length hnA h2
        have hpos := List.length_pos_of_mem h2
        have hBM : B.length = M := by omega
        rw [if_pos (by omega)]
        cases B with
        | nil => simp at hBM; omega
        | cons y t =>
          have hkt : k ∉ t := fun q => h1 (by simp [q])
          rw [List.tail_cons, bk_not hkt]
          unfold lastN
          have e : (rm A k ++ (y :: t ++ [k])) = (rm A k ++ [y]) ++ (t ++ [k]) := by simp
          rw [e]
          have : ((rm A k ++ [y]) ++ (t ++ [k])).length - M = (rm A k ++ [y]).length := by simp at hBM ⊢; omega
          rw [this, List.drop_left]
      · rw [rm_not h2]
        by_cases h3 : (M : Int) ≤ (B.length : Int)
        · rw [if_pos h3]
          have hBM : B.length = M := by
            have : (lastN M (A ++ B)).length ≤ M := by unfold lastN; rw [List.length_drop]; omega
            rw [hB] at this; omega
          cases B with
          | nil => simp at hBM; omega
          | cons y t =>
            have hkt : k ∉ t := fun q => h1 (by simp [q])
            rw [List.tail_cons, bk_not hkt]
            unfold lastN
            have e : (A ++ (y :: t ++ [k])) = (A ++ [y]) ++ (t ++ [k]) := by simp
            rw [e]
            have : ((A ++ [y]) ++ (t ++ [k])).length - M = (A ++ [y]).length := by simp at hBM ⊢; omega
            rw [this, List.drop_left]
        · rw [if_neg h3, bk_not h1]
          have hA0 : A = [] := List.eq_nil_of_length_eq_zero (by
            rcases Nat.lt_or_ge (A.length + B.length) M with q | q
            · omega
            · have : (lastN M (A ++ B)).length = M := by unfold lastN; rw [List.length_drop, List.length_append]; omega
              rw [hB] at this; omega)
          subst hA0
          unfold lastN
          rw [List.nil_append, List.length_append, List.length_singleton, show B.length + 1 - M = 0 by omega, List.drop_zero]
theorem lruRun_eq (M : Nat) (ks : List ByteArray) : lruRun (M : Int) ks = lastN M (full ks) := by
  have : ∀ (n : Nat), n ≤ ks.length → lruRun (M : Int) (ks.take n) = lastN M (full (ks.take n)) := by
    intro n
    induction n with
    | zero => intro _; simp [lruRun, full, lastN]
    | succ n ih =>
      intro h
      rw [lruRun_take (by omega), ih (by omega), lastN_req (nodup_full _), ← full_snoc, ← List.take_succ_eq_append_getElem]
  have h := this ks.length (Nat.le_refl _)
  rwa [List.take_length] at h
theorem length_lastN (M : Nat) (l : List ByteArray) : (lastN M l).length ≤ M := by unfold lastN; rw [List.length_drop]; omega
theorem lastN_sub {n m : Nat} (h : n ≤ m) {l : List ByteArray} {x : ByteArray} (hx : x ∈ lastN n l) : x ∈ lastN m l := by
  unfold lastN at *
  have e : l.length - n = (l.length - m) + (l.length - n - (l.length - m)) := by omega
  rw [e, ← List.drop_drop] at hx
  exact List.mem_of_mem_drop hx
theorem lastN_lastN {n m : Nat} (h : n ≤ m) (l : List ByteArray) : lastN n (lastN m l) = lastN n l := by
  unfold lastN
  rw [List.drop_drop, List.length_drop]
  congr 1
  omega
theorem lastN_all {M : Nat} {l : List ByteArray} (h : l.length ≤ M) : lastN M l = l := by unfold lastN; rw [show l.length - M = 0 by omega, List.drop_zero]
theorem mem_lastN_snoc {M : Nat} (hM : 0 < M) (l : List ByteArray) (k : ByteArray) : k ∈ lastN M (bk l k) := by
  unfold lastN bk
  rw [List.length_append, List.length_singleton, List.drop_append_of_le_length (by omega)]
  simp

/-- What is asked for next: does it hit; who goes. -/
def lruHit (ks : List ByteArray) (k : ByteArray) : Bool := decide (k ∈ ks)
def lruOutB (M : Int) (ks : List ByteArray) (k : ByteArray) : Bool := decide (M ≠ 0 ∧ k ∉ ks ∧ M ≤ (ks.length : Int) ∧ 0 < ks.length)
def lruVic (M : Int) (ks : List ByteArray) (k : ByteArray) : ByteArray := if M ≠ 0 ∧ k ∉ ks ∧ M ≤ (ks.length : Int) then ks.head?.getD ⟨#[]⟩ else ⟨#[]⟩
theorem lruStep_eq (M : Int) (ks : List ByteArray) (k : ByteArray) : lruStep M ks k = .agg #[.bool (lruHit ks k), .string (lruVic M ks k), .bool (lruOutB M ks k)] := by
  unfold lruStep stepV lruHit lruVic lruOutB
  by_cases h0 : M = 0
  · simp [h0]
  · by_cases h1 : k ∈ ks
    · simp [h0, h1]
    · by_cases h2 : M ≤ (ks.length : Int)
      · simp [h0, h1, h2]
      · simp [h0, h1, h2]
theorem lruVic_gone {M : Int} {ks : List ByteArray} {k : ByteArray} (hn : ks.Nodup) (h : lruOutB M ks k = true) : lruVic M ks k ∉ lruReq M ks k := by
  unfold lruOutB at h
  rw [decide_eq_true_iff] at h
  obtain ⟨h0, h1, h2, h3⟩ := h
  have hv : lruVic M ks k = ks.head?.getD ⟨#[]⟩ := if_pos ⟨h0, h1, h2⟩
  have hr : lruReq M ks k = bk ks.tail k := by unfold lruReq; rw [if_neg h0, if_neg h1, if_pos h2]
  rw [hv, hr]
  cases ks with
  | nil => simp at h3
  | cons y t =>
    rw [List.nodup_cons] at hn
    rw [List.head?_cons, Option.getD_some, List.tail_cons, mem_bk]
    rintro (q | q)
    · exact h1 (by simp [q])
    · exact hn.1 q
theorem lruReq_mem {M : Int} (h0 : M ≠ 0) (ks : List ByteArray) (k : ByteArray) : k ∈ lruReq M ks k := by
  unfold lruReq
  rw [if_neg h0]
  split
  · simp [bk]
  · split <;> simp [bk]
theorem full_append (s : List ByteArray) : ∀ a : List ByteArray, ∃ A, full (a ++ s) = A ++ full s
  | [] => ⟨[], rfl⟩
  | x :: a => by
    obtain ⟨A, hA⟩ := full_append s a
    rw [List.cons_append, full]
    split
    · exact ⟨A, hA⟩
    · exact ⟨x :: A, by rw [hA]; rfl⟩
theorem lastN_append {M : Nat} (A B : List ByteArray) (h : B.length = M) : lastN M (A ++ B) = B := by
  unfold lastN
  rw [List.length_append, show A.length + B.length - M = A.length by omega, List.drop_left]
/-- The last ones, taken from behind. -/
theorem recent_done {M : Nat} {ks : List ByteArray} {p : Nat} (h : (full (ks.drop p)).length ≤ M) (h' : p = 0 ∨ (full (ks.drop p)).length = M) : lruRun (M : Int) ks = full (ks.drop p) := by
  rw [lruRun_eq]
  rcases h' with rfl | h'
  · rw [List.drop_zero] at *
    exact lastN_all h
  · obtain ⟨A, hA⟩ := full_append (ks.drop p) (ks.take p)
    rw [List.take_append_drop] at hA
    rw [hA, lastN_append A _ h']
theorem full_drop {ks : List ByteArray} {p : Nat} (h : p < ks.length) : full (ks.drop p) = if ks[p] ∈ full (ks.drop (p + 1)) then full (ks.drop (p + 1)) else fr (full (ks.drop (p + 1))) ks[p] := by
  rw [List.drop_eq_getElem_cons h, full]
  by_cases q : ks[p] ∈ ks.drop (p + 1)
  · rw [if_pos q, if_pos (mem_full.2 q)]
  · rw [if_neg q, if_neg (fun c => q (mem_full.1 c)), fr_not (fun c => q (mem_full.1 c))]
end Go.Proofs.Ytjijjfdkghcjkaa
