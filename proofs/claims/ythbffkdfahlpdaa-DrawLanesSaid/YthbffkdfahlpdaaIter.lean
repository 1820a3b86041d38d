/- A walk over a map: who is still to come, in whatever order. Over any program; no condition. -/
import Derived.Test.YthbffkdfahlpdaaLibA
import Derived.Maps.RangeRun
import Derived.Maps.Range
set_option linter.unusedVariables false
namespace Go.Proofs.Ythbffkdfahlpdaa
open Go.RowKit Go.MapKept
open Go.ChangeMaps (setBlock)
section
variable {κ α : Type}
/-- The walk r over the map b: these pairs are still to come. -/
def IterAt (g : κ → Value) (f : α → Value) (w : World) (b r : Nat) (l rest : List (κ × α)) : Prop :=
  MapAt g f w b l ∧ ∃ es clock since seen c0, w.heap[b]? = some (.map es clock) ∧ Stamped es clock ∧ w.heap[r]? = some (.mapIter (some b) since seen c0) ∧ (∀ x ∈ es.toList, x.born < since) ∧ since ≤ c0 ∧ since ≤ clock ∧
    (leftOf es seen).toList.map (fun e => (e.key, e.val)) = rest.map (fun p => (g p.1, f p.2)) ∧ rest.Sublist l
variable {g : κ → Value} {f : α → Value} {w : World} {b r : Nat} {l rest : List (κ × α)} {P : Program} {k e t : TypeId}

theorem strike_at : ∀ {L : List MapEntry} {i : Nat} {e : MapEntry}, (L.map (·.born)).Nodup → L[i]? = some e → L.filter (fun x => !(x.born == e.born)) = L.eraseIdx i
  | [], i, e, _, h => by simp at h
  | x :: L, 0, e, hn, h => by
    simp only [List.getElem?_cons_zero, Option.some.injEq] at h
    subst h
    simp only [List.map_cons, List.nodup_cons] at hn
    rw [List.filter_cons]
    simp only [beq_self_eq_true, Bool.not_true, Bool.false_eq_true, if_false, List.eraseIdx_cons_zero]
    refine List.filter_eq_self.2 fun y hy => ?_
    have : y.born ≠ x.born := fun q => hn.1 (q ▸ List.mem_map.2 ⟨y, hy, rfl⟩)
    simp [this]
  | x :: L, i + 1, e, hn, h => by
    simp only [List.getElem?_cons_succ] at h
    simp only [List.map_cons, List.nodup_cons] at hn
    have : x.born ≠ e.born := fun q => hn.1 (q ▸ List.mem_map.2 ⟨e, List.mem_of_getElem? h, rfl⟩)
    rw [List.filter_cons, List.eraseIdx_cons_succ]
    simp [this, strike_at hn.2 h]

theorem map_eraseI {A B : Type} (f : A → B) : ∀ (l : List A) (i : Nat), (l.eraseIdx i).map f = (l.map f).eraseIdx i
  | [], i => by simp
  | x :: l, 0 => by simp
  | x :: l, i + 1 => by simp [map_eraseI f l i]
theorem left_push {es : Array MapEntry} {seen : Array Nat} {i : Nat} {e : MapEntry} (hn : (es.toList.map (·.born)).Nodup) (h : (leftOf es seen).toList[i]? = some e) : (leftOf es (seen.push e.born)).toList = (leftOf es seen).toList.eraseIdx i := by
  have hn2 : ((leftOf es seen).toList.map (·.born)).Nodup := by
    unfold leftOf
    rw [Array.toList_filter]
    exact hn.sublist (List.Sublist.map _ List.filter_sublist)
  rw [← strike_at hn2 h]
  unfold leftOf
  rw [Array.toList_filter, Array.toList_filter, List.filter_filter]
  refine List.filter_congr fun x _ => ?_
  rw [contains_push]
  cases seen.contains x.born <;> cases (x.born == e.born) <;> rfl

theorem MapAt.range (h : MapAt g f w b l) (ht : P.underlying t = some (.map k e)) :
    ∃ c, (Instr.range t (.map (some b))).run P w = .ok (.pointer (some ⟨w.heap.size, 0, none⟩)) (w.alloc (.mapIter (some b) c #[] c)) ∧ IterAt g f (w.alloc (.mapIter (some b) c #[] c)) b w.heap.size l l := by
  have h0 := h
  have hlt := h.lt
  obtain ⟨es, clock, hb, hes, hn, hst⟩ := h
  have hb' : (w.alloc (.mapIter (some b) clock #[] clock)).heap[b]? = some (.map es clock) := ((MapKept.heap_alloc w _).2 b hlt).trans hb
  refine ⟨clock, run_range_map w t k e b es clock ht hb, h0.same (hb'.trans hb.symm), es, clock, clock, #[], clock, hb', hst, (MapKept.heap_alloc w _).1, hst.1, Nat.le_refl _, Nat.le_refl _, ?_, List.Sublist.refl _⟩
  rw [← hes]
  have : (leftOf es #[]).toList = es.toList := by
    unfold leftOf
    rw [Array.toList_filter]
    exact List.filter_eq_self.2 fun x _ => by simp
  rw [this]

theorem IterAt.ne (h : IterAt g f w b r l rest) : r ≠ b := by
  obtain ⟨_, es, clock, since, seen, c0, hb, _, hr, _⟩ := h
  intro e
  rw [e, hb] at hr
  cases hr
theorem IterAt.lt (h : IterAt g f w b r l rest) : r < w.heap.size := by
  obtain ⟨_, es, clock, since, seen, c0, hb, _, hr, _⟩ := h
  exact (Array.getElem?_eq_some_iff.1 hr).1
theorem IterAt.same {w' : World} (h : IterAt g f w b r l rest) (e1 : w'.heap[b]? = w.heap[b]?) (e2 : w'.heap[r]? = w.heap[r]?) : IterAt g f w' b r l rest := by
  obtain ⟨h0, es, clock, since, seen, c0, hb, hst, hr, q⟩ := h
  exact ⟨h0.same e1, es, clock, since, seen, c0, e1.trans hb, hst, e2.trans hr, q⟩
theorem IterAt.walk (h : IterAt g f w b r l rest) : ∃ m s c d, w.heap[r]? = some (.mapIter m s c d) := by
  obtain ⟨_, es, clock, since, seen, c0, hb, _, hr, _⟩ := h
  exact ⟨_, _, _, _, hr⟩

/-- The step. -/
theorem IterAt.next (h : IterAt g f w b r l rest) (ty : TypeId) :
    (rest = [] ∧ (Instr.next (.pointer (some ⟨r, 0, none⟩)) false ty).run P w = .ok (.tuple #[.bool false]) w) ∨
    ∃ i p w', rest[i]? = some p ∧ (Instr.next (.pointer (some ⟨r, 0, none⟩)) false ty).run P w = .ok (.tuple #[.bool true, g p.1, f p.2]) w' ∧ IterAt g f w' b r l (rest.eraseIdx i) ∧ w.grownBy w' (some r) ∧ w'.heap.size = w.heap.size ∧
      (Instr.entry (.pointer (some ⟨r, 0, none⟩))).run P w' = .ok (.tuple #[g p.1, f p.2]) w' := by
  have hne := h.ne
  obtain ⟨h0, es, clock, since, seen, c0, hb, hst, hr, hold, hsc, hsk, hl, hsub⟩ := h
  rcases run_next_at (P := P) w ty r b since c0 seen es clock hr hb hold hsc with ⟨hz, hrun⟩ | ⟨e, he, w1, hal, hrun⟩
  · refine .inl ⟨?_, hrun⟩
    have e1 : (leftOf es seen).toList = [] := List.eq_nil_of_length_eq_zero (by simpa using hz)
    rw [e1] at hl
    simpa using hl.symm
  · obtain ⟨i, hi⟩ := List.getElem?_of_mem he
    have hi2 := congrArg (fun L => L[i]?) hl
    simp only [List.getElem?_map, hi, Option.map_some] at hi2
    obtain ⟨p, hp, hpe⟩ : ∃ p, rest[i]? = some p ∧ (g p.1, f p.2) = (e.key, e.val) := by
      cases hq : rest[i]? with
      | none => rw [hq] at hi2; simp at hi2
      | some p => rw [hq] at hi2; simp only [Option.map_some, Option.some.injEq] at hi2; exact ⟨p, rfl, hi2.symm⟩
    simp only [Prod.mk.injEq] at hpe
    rw [← hpe.1, ← hpe.2] at hrun
    have hr1 : w1.heap[r]? = some (.mapIter (some b) since seen c0) := by rcases hal with rfl | rfl <;> exact hr
    have hb1 : w1.heap[b]? = some (.map es clock) := by rcases hal with rfl | rfl <;> exact hb
    have hset := heap_set (o' := .mapIter (some b) since (seen.push e.born) clock) hr1
    have hb' : (setBlock w1 r (.mapIter (some b) since (seen.push e.born) clock)).heap[b]? = some (.map es clock) := (hset.2 b (fun e1 => hne e1.symm)).trans hb1
    have hen := run_entry_at (P := P) _ r b since seen es clock e hset.1 hb' (by unfold leftOf at he; rw [Array.toList_filter] at he; exact (List.mem_filter.1 he).1) hst.2.1
    rw [← hpe.1, ← hpe.2] at hen
    refine .inr ⟨i, p, _, hp, hrun, ⟨h0.same (hb'.trans hb.symm), es, clock, since, seen.push e.born, clock, hb', hst, hset.1, hold, hsk, hsk, ?_, (List.eraseIdx_sublist _ _).trans hsub⟩, ?_, ?_, hen⟩
    · rw [left_push hst.2.1 hi, map_eraseI, map_eraseI, hl]
    · rcases hal with rfl | rfl <;> exact ⟨rfl, rfl, rfl, by simp [setBlock], fun i _ hi => hset.2 i (fun e1 => hi (by rw [e1]))⟩
    · rcases hal with rfl | rfl <;> simp [setBlock]
theorem erase_perm {A : Type} : ∀ {l : List A} {i : Nat} {p : A}, l[i]? = some p → l.Perm (p :: l.eraseIdx i)
  | [], i, p, h => by simp at h
  | x :: l, 0, p, h => by simp only [List.getElem?_cons_zero, Option.some.injEq] at h; subst h; simp
  | x :: l, i + 1, p, h => by
    simp only [List.getElem?_cons_succ] at h
    rw [List.eraseIdx_cons_succ]
    exact ((erase_perm h).cons x).trans (List.Perm.swap p x _)
theorem erase_len {A : Type} {l : List A} {i : Nat} {p : A} (h : l[i]? = some p) : (l.eraseIdx i).length < l.length := by
  have := (erase_perm h).length_eq
  simp at this; omega
end
end Go.Proofs.Ythbffkdfahlpdaa
