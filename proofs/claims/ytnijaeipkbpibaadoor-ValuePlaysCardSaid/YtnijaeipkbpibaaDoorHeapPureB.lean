/- Package heap as its row: what the statements want. Plain lists. -/
import Derived.Test.YtnijaeipkbpibaaDoorHeapPure
set_option linter.unusedVariables false
namespace Go.Proofs.YtnijaeipkbpibaaDoor
section
variable {κ : Type} [DecidableEq κ] {S : List (KR κ)} {x y : KR κ} {k : κ}
omit [DecidableEq κ] in
theorem hins_perm (S : List (KR κ)) (x : KR κ) : (hins S x).Perm (x :: S) := by
  induction S with
  | nil => exact .refl _
  | cons y S ih =>
    unfold hins; split
    · exact .refl _
    · exact (List.Perm.cons y ih).trans (List.Perm.swap x y S)
theorem hrem_mem : y ∈ hrem S k ↔ y ∈ S ∧ y.1 ≠ k := by unfold hrem; rw [List.mem_filter]; simp
theorem hset_mem : y ∈ hset S x ↔ y = x ∨ (y ∈ S ∧ y.1 ≠ x.1) := by
  unfold hset; rw [(hins_perm _ _).mem_iff, List.mem_cons, hrem_mem]
theorem hrem_keys (S : List (KR κ)) (k : κ) : (hrem S k).map (·.1) = (S.map (·.1)).filter (fun q => q ≠ k) := by
  unfold hrem; rw [List.filter_map]; rfl
theorem hrem_idem (S : List (KR κ)) (k : κ) : hrem (hrem S k) k = hrem S k := by unfold hrem; rw [List.filter_filter]; simp
theorem hrem_nodup (h : (S.map (·.1)).Nodup) : ((hrem S k).map (·.1)).Nodup := by rw [hrem_keys]; exact h.filter _
theorem hset_nodup (h : (S.map (·.1)).Nodup) : ((hset S x).map (·.1)).Nodup := by
  unfold hset
  rw [((hins_perm _ _).map _).nodup_iff, List.map_cons, List.nodup_cons]
  refine ⟨?_, hrem_nodup h⟩
  rw [hrem_keys]; simp
theorem hrem_le (S : List (KR κ)) (k : κ) : (hrem S k).length ≤ S.length := List.length_filter_le _ _
theorem hset_le (S : List (KR κ)) (x : KR κ) : (hset S x).length ≤ S.length + 1 := by
  unfold hset; rw [(hins_perm _ _).length_eq]; have := hrem_le S x.1; simp; omega
theorem lk_hrem (h : (S.map (·.1)).Nodup) : lk (hrem S k) k = none := by rw [lk_none, hrem_keys]; simp
theorem lk_some_mem : (lk S k).isSome = true ↔ k ∈ S.map (·.1) := by
  cases e : lk S k with
  | none => simpa using lk_none.1 e
  | some v => simpa using ⟨v.1, v.2, lk_mem e⟩
omit [DecidableEq κ] in
/-- Among the same ranks it comes last. -/
theorem hins_last (h : ∀ y ∈ S, ¬ rlt x y) : hins S x = S ++ [x] := by
  induction S with
  | nil => rfl
  | cons y S ih =>
    unfold hins
    rw [if_neg (h y (List.mem_cons_self ..)), ih fun z hz => h z (List.mem_cons_of_mem _ hz)]; rfl
/-! ### the same ranks -/
/-- S has the rank r alone; without one key it is the row want. -/
structure Tied (r : Int × Int) (again : ByteArray) (S : List (KR ByteArray)) (want : List ByteArray) (seen : List (ByteArray × Bool)) : Prop where
  rk : ∀ y ∈ S, y.2 = r
  row : hrem S again = want.map fun k => (k, r)
  no : again ∉ want
  sn : ∀ k, (lk seen k).getD false = decide (k ∈ want)
theorem Tied.new {r : Int × Int} {again : ByteArray} : Tied r again [] [] [] := ⟨fun y h => by simp at h, rfl, by simp, fun k => by simp [lk]⟩
theorem Tied.hset {r : Int × Int} {again key : ByteArray} {S : List (KR ByteArray)} {want : List ByteArray} {seen : List (ByteArray × Bool)} (h : Tied r again S want seen) : hset S (key, r.1, r.2) = hrem S key ++ [(key, r.1, r.2)] := by
  unfold Proofs.YtnijaeipkbpibaaDoor.hset
  refine hins_last fun y hy => ?_
  have := h.rk y (hrem_mem.1 hy).1
  unfold rlt; rw [this]; dsimp only; omega
theorem Tied.step {r : Int × Int} {again key : ByteArray} {S : List (KR ByteArray)} {want : List ByteArray} {seen : List (ByteArray × Bool)} (h : Tied r again S want seen) (hs : (lk seen key).getD false = false) (hk : key ≠ again) :
    Tied r again (Proofs.YtnijaeipkbpibaaDoor.hset S (key, r.1, r.2)) (want ++ [key]) (put seen key true) := by
  have hw : key ∉ want := by rw [h.sn] at hs; simpa using hs
  have hnot : ∀ y ∈ hrem S again, y.1 ≠ key := fun y hy e => by
    rw [h.row] at hy
    obtain ⟨q, hq, rfl⟩ := List.mem_map.1 hy
    exact hw (e ▸ hq)
  refine ⟨fun y hy => ?_, ?_, by simp; exact ⟨h.no, Ne.symm hk⟩, fun k => ?_⟩
  · rcases hset_mem.1 hy with e | ⟨e, _⟩
    · subst e; rfl
    · exact h.rk y e
  · rw [h.hset, List.map_append, ← h.row]
    unfold hrem
    rw [List.filter_append, List.filter_filter]
    congr 1
    · apply List.filter_congr
      intro y hy
      by_cases e : y.1 = again
      · simp [e]
      · have := hnot y (hrem_mem.2 ⟨hy, e⟩)
        simp [e, this]
    · simp [hk]
  · rw [lk_put]
    by_cases e : k = key
    · subst e; simp
    · rw [if_neg e, h.sn]; simp [e]
theorem Tied.again {r : Int × Int} {again : ByteArray} {S : List (KR ByteArray)} {want : List ByteArray} {seen : List (ByteArray × Bool)} (h : Tied r again S want seen) : Tied r again (Proofs.YtnijaeipkbpibaaDoor.hset S (again, r.1, r.2)) want seen := by
  refine ⟨fun y hy => ?_, ?_, h.no, h.sn⟩
  · rcases hset_mem.1 hy with e | ⟨e, _⟩
    · subst e; rfl
    · exact h.rk y e
  · rw [h.hset]
    unfold hrem
    rw [List.filter_append, List.filter_filter]
    simp only [Bool.and_self]
    have := h.row
    unfold hrem at this
    rw [this]; simp
theorem Tied.fin {r : Int × Int} {again : ByteArray} {S : List (KR ByteArray)} {want : List ByteArray} {seen : List (ByteArray × Bool)} (h : Tied r again S want seen) : (Proofs.YtnijaeipkbpibaaDoor.hset S (again, r.1, r.2)).map (·.1) = want ++ [again] := by
  rw [h.hset, h.row, List.map_append, List.map_map]
  congr 1
  exact List.map_id' _
/-! ### sorted -/
def HSorted (S : List (KR κ)) : Prop := S.Pairwise fun a b => ¬ rlt b a
theorem HpS.sorted {z : HI κ} {l : List (HI κ)} {mp : List (κ × Int)} {came : Int} {n : Nat} (h : HpS z S l mp came n) : HSorted S := by
  obtain ⟨L, _, h2, rfl, _⟩ := h.row
  unfold HSorted
  rw [List.pairwise_map]
  refine h2.imp fun {a b} q => ?_
  unfold HI.lt at q; unfold rlt HI.kr; dsimp only; omega
/-! ### keys turned -/
theorem hset_map {κ' : Type} [DecidableEq κ'] {f : κ → κ'} {S : List (KR κ)} (hf : ∀ y ∈ S, f y.1 = f k → y.1 = k) (r : Int × Int) :
    (hset S (k, r.1, r.2)).map (fun y => (f y.1, y.2)) = hset (S.map fun y => (f y.1, y.2)) (f k, r.1, r.2) := by
  unfold hset
  have e1 : hrem (S.map fun y => (f y.1, y.2)) (f k) = (hrem S k).map fun y => (f y.1, y.2) := by
    unfold hrem
    rw [List.filter_map]
    congr 1
    apply List.filter_congr
    intro y hy
    simp only [Function.comp]
    by_cases e : y.1 = k
    · simp [e]
    · have : f y.1 ≠ f k := fun q => e (hf y hy q)
      simp [e, this]
  rw [e1]
  generalize hrem S k = T
  induction T with
  | nil => rfl
  | cons y T ih =>
    simp only [List.map_cons, hins]
    by_cases q : rlt (k, r.1, r.2) y
    · rw [if_pos q, if_pos (show rlt (f k, r.1, r.2) (f y.1, y.2) from q)]; rfl
    · rw [if_neg q, if_neg (show ¬ rlt (f k, r.1, r.2) (f y.1, y.2) from q), List.map_cons, ih]
end
end Go.Proofs.YtnijaeipkbpibaaDoor
