/- Words for a seat's proofs: make([]T, n) and copy over it, as laws of a walk. Over any program; no condition. -/
import Derived.Test.YthbffkdfahlpdaaLibD
import Derived.OwnWalk
import Derived.Laws.CopyOwn
set_option linter.unusedVariables false
namespace Go.Proofs.Ythbffkdfahlpdaa
open Go.RowKit Go.MapKept

section
variable {P : Program} {w : World} {S : Nat → Prop} {n bytes e t : Nat} {ops : Array Oper} {rest : List Oper} {o : Oper} {a : Act} {Q : Exit → Act → World → Prop}

/-- 'make([]T, n)', T of one cell: a block known whole. -/
theorem wpMakeBlk (hg : o.guard = none) (l c : Operand) (hop : o.op = Op.makeSlice t l c) (E : ElemT P t e 1 bytes) (hl : a.eval l = .int .i64 (n : Int)) (hc : a.eval c = .int .i64 (n : Int))
    (b2 : bytes * n ≤ 281474976710656) (b3 : n ≤ maxLen)
    (hK : ∀ w' cur, cur.length = n → Blk w' w.heap.size cur e → Mod Nil w w' → wpList P ops Q rest (a.put o.dst (.slice (some ⟨w.heap.size, 0, none⟩) n n)) w') : wpList P ops Q (o :: rest) a w := by
  obtain ⟨i, z, hi, hz, hs, hb, hcz⟩ := E.info
  refine wpList_make_full w hg l c t hop 0 e i z 1 E.under hi hz hs .i64 .i64 n n n hl hc rfl rfl (by rw [hb]; exact b2) b3 (Nat.zero_le _) fun w' hw hgr => ?_
  have hR : Row w' (fun _ => True) e 1 (.slice (some ⟨w.heap.size, 0, none⟩) n n) n (madeCells z.cells (n * 1)).toList := ⟨hw, fun _ _ => trivial⟩
  rcases hR.shape with ⟨q, _, _⟩ | ⟨g, cap, cur, q, _, hB, hn, _, hlen, _⟩
  · cases q
  · injection q with q1 q2 q3
    injection q1 with q1
    injection q1 with q1
    subst q1 q3
    exact hK w' cur (by omega) hB ((Mod.refl Nil w).grown hgr fun _ q => by cases q)

/-- 'copy(d, s)' over the whole of a block known whole. -/
theorem wpCopyBlk (hg : o.guard = none) (d s : Operand) (dT sT : TypeId) (ho : o.op = .call { callee := .builtin .copy, args := #[d, s], argTypes := #[dT, sT] })
    (E : ElemT P dT e 1 bytes) {g : Nat} {cap : Nat} (hd : a.eval d = .slice (some ⟨g, 0, none⟩) n cap) {v : Value} (hs : a.eval s = v) {xs : List Value} (hv : Cells w S v n 1 xs) (h1 : ∀ u ∈ xs, u.oneCell' = true)
    {cur : List Value} (hB : Blk w g cur e) (hl : cur.length = n) (w0 : World) (hw0 : w0.heap.size ≤ g) (hm : Mod Nil w0 w)
    (hK : ∀ w', Blk w' g xs e → Mod Nil w0 w' → (∀ k, k ≠ g → k < w.heap.size → w'.heap[k]? = w.heap[k]?) → w.heap.size ≤ w'.heap.size → wpList P ops Q rest (a.put o.dst (.int .i64 n)) w') : wpList P ops Q (o :: rest) a w := by
  obtain ⟨a', cap', rfl, h2, h3, h4, h5⟩ := hv.shape
  obtain ⟨i, z, hi, hz, hsz, hb, hcz⟩ := E.info
  have hinfo : (P.info? e).map (·.size) = some 1 := by rw [hi]; simp [hsz]
  have hlx : xs.length = n := by omega
  by_cases h0 : n = 0
  · subst h0
    have e1 : xs = [] := List.eq_nil_of_length_eq_zero hlx
    have e2 : cur = [] := List.eq_nil_of_length_eq_zero hl
    subst e1 e2
    refine wpList_copy_nothing hg d s dT sT ho e E.under hinfo _ _ _ _ _ _ hd hs rfl ?_
    exact hK w hB hm (fun _ _ _ => rfl) (Nat.le_refl _)
  · obtain ⟨g', off, rfl, _, _, hcell⟩ := h5 (by omega)
    refine wpList_copy_own hg d s dT sT ho e E.under hinfo g 0 n cap ⟨g', off, none⟩ n cap' hd hs cur.toArray e hB xs (by rw [hlx]; exact (Nat.min_self n).symm) (fun j u hj => by rw [addr_add']; exact hcell j u hj) (by simp [hlx, hl]) h1 ?_
    have ex : (cur.toArray.toList.take 0 ++ (xs ++ cur.toArray.toList.drop (0 + xs.length))).toArray = xs.toArray := by
      simp
      omega
    rw [ex]
    have hoth : ∀ k, k ≠ g → (w.setRow g xs.toArray).heap[k]? = w.heap[k]? := fun k hk => setRow_other w g k _ hk
    have hsize : (w.setRow g xs.toArray).heap.size = w.heap.size := by simp [World.setRow]
    have hgoal := hK (w.setRow g xs.toArray) (setRow_heap w g _ _ e _ hB) ⟨hm.os, hm.tape, hm.output, by rw [hsize]; exact hm.size, fun k hk q => (hoth k (by omega)).trans (hm.block k hk q)⟩ (fun k hk _ => hoth k hk) (by rw [hsize]; exact Nat.le_refl _)
    rw [show goInt xs.length = .int .i64 n by rw [hlx]; rfl]
    exact hgoal
end
end Go.Proofs.Ythbffkdfahlpdaa
