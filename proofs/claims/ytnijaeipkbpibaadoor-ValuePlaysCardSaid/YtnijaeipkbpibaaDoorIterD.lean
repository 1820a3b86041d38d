/- Records in new blocks, inside a fence. Over any program; no condition. -/
import Derived.Test.YtnijaeipkbpibaaDoorIterB
import Derived.Test.YtnijaeipkbpibaaDoorSepG
set_option linter.unusedVariables false
namespace Go.Proofs.YtnijaeipkbpibaaDoor
open Go.RowKit Go.MapKept
def Any1 : Nat → Prop := fun _ => True
theorem Mod.grown1 {w w' : World} {b : Nat} (h : Mod (fun k => k = b) w w') : w.grownBy w' (some b) := ⟨h.os, h.tape, h.output, h.size, fun k hk hn => h.block k hk fun e => hn (by rw [e])⟩
theorem BlkAt.grown {w w' : World} {row : Option Nat} {S : Nat → Prop} {b : Nat} {l : List Value} {T : TypeId} (h : BlkAt w S b l T) (hg : w.grownBy w' row) (hr : row ≠ some b) : BlkAt w' S b l T :=
  ⟨h.1.same (hg.block b h.1.lt fun e => hr e.symm), h.2⟩
section
variable {F : Fence} {n : Nat} {P : Program} (w : World) {ops : Array Oper} {rest : List Oper} {o : Oper} {a : Act} {Q : Exit → Act → World → Prop}
theorem in_alloc (hg : o.guard = none) (t : TypeId) (hop : o.op = Op.alloc t) (l : List Value) (h : ∀ w, (Instr.alloc t true (.tuple #[])).run P w = .ok (.pointer (some ⟨w.heap.size, 0, none⟩)) (w.alloc (.cells l.toArray t)))
    (hK : ∀ w', BlkAt w' Any1 w.heap.size l t → w.grownBy w' none → w'.heap.size = w.heap.size + 1 → wpListIn F n P ops Q rest (a.put o.dst (.pointer (some ⟨w.heap.size, 0, none⟩))) w') :
    wpListIn F n P ops Q (o :: rest) a w := by
  refine wpListIn_plain hg fun K' hK' => ?_
  unfold Oper.wpIn
  refine ⟨by simp [Oper.about, hop], ?_⟩
  rw [Oper.semAt_plain F _ _ (by rw [hop]; intro c hc'; cases hc')]
  simp [execOp, hop, h w, Result.andThen]
  exact hK' _ _ (hK _ ⟨Blk.new w l t, trivial⟩ (World.grownBy_alloc w _ none) (by simp))
theorem in_store (hg : o.guard = none) (t : TypeId) (x y : Operand) (hop : o.op = Op.store t x y) {b : Nat} {l : List Value} {T : TypeId} {v : Value} (hx : a.eval x = .pointer (some ⟨b, 0, none⟩)) (hy : a.eval y = v) (hb : BlkAt w Any1 b l T)
    (hs : sizeT P t v.cells.size = true) (hi : Nat.ble v.cells.size l.length = true) (h1 : v.cells.toList.all Value.oneCell' = true)
    (hK : ∀ w', BlkAt w' Any1 b (setL l 0 v.cells.toList) T → w.grownBy w' (some b) → w'.heap.size = w.heap.size → wpListIn F n P ops Q rest (a.put o.dst undef) w') :
    wpListIn F n P ops Q (o :: rest) a w := by
  refine wpListIn_plain hg fun K' hK' => ?_
  have hb2 : BlkAt w (fun k => k = b) b l T := ⟨hb.1, rfl⟩
  obtain ⟨h2, h3⟩ := blk_sets v.cells.toList 0 l w hb2
  have hrun := run_storeN (P := P) (t := t) (i := 0) hb2 hs (by rw [Nat.zero_add]; exact Nat.le_of_ble_eq_true hi) h1
  have hsz : (w.setCells b 0 v.cells.toList).heap.size = w.heap.size := by
    have : ∀ (vs : List Value) (i : Nat) (w : World), (w.setCells b i vs).heap.size = w.heap.size := by
      intro vs
      induction vs with
      | nil => intro i w; rfl
      | cons u vs ih => intro i w; exact (ih (i + 1) _).trans (by simp [World.setCell])
    exact this _ _ _
  unfold Oper.wpIn
  refine ⟨by simp [Oper.about, hop], ?_⟩
  rw [Oper.semAt_plain F _ _ (by rw [hop]; intro c hc'; cases hc')]
  simp [execOp, hop, hx, hy, hrun, Result.andThen]
  exact hK' _ _ (hK _ ⟨h2.1, trivial⟩ h3.grown1 hsz)
theorem in_load (hg : o.guard = none) (t : TypeId) (x : Operand) (hop : o.op = Op.load t x) {b : Nat} {T : TypeId} (cs : List Value) (hx : a.eval x = .pointer (some ⟨b, 0, none⟩)) (hb : BlkAt w Any1 b cs T) (ht : rowT P t cs.length = true)
    (hK : wpListIn F n P ops Q rest (a.put o.dst (.agg cs.toArray)) w) :
    wpListIn F n P ops Q (o :: rest) a w := by
  refine wpListIn_plain hg fun K' hK' => ?_
  have hr := blk_range hb 0 cs.length
  rw [List.drop_zero, List.take_length] at hr
  unfold Oper.wpIn
  refine ⟨by simp [Oper.about, hop], ?_⟩
  rw [Oper.semAt_plain F _ _ (by rw [hop]; intro c hc'; cases hc')]
  simp [execOp, hop, hx, run_loadN (n := 0) ht hr, Result.andThen]
  exact hK' _ _ hK
theorem in_build (hg : o.guard = none) (t e : TypeId) (len sz : Nat) (parts : Array (Nat × Operand)) (hop : o.op = Op.buildSlice t len parts) (z : Value) (cells : List Value) (hu : P.underlying t = some (.slice e)) (hi : (P.info? e).map (fun i => (i.zero, i.size)) = some (some z, sz)) (hs : Nat.ble (len * sz) 1000 = true) (hp : Nat.blt 0 (len * sz) = true)
    (h : Instr.fill (fun i => some (i * sz, sz)) ((Array.range (len * sz)).map (z.cells[· % z.cells.size]!)) (parts.toList.map fun p => (p.1, a.eval p.2)) = some cells.toArray)
    (hK : ∀ w', BlkAt w' Any1 w.heap.size cells e → w.grownBy w' none → w'.heap.size = w.heap.size + 1 → wpListIn F n P ops Q rest (a.put o.dst (.slice (some ⟨w.heap.size, 0, none⟩) len len)) w') :
    wpListIn F n P ops Q (o :: rest) a w := by
  refine wpListIn_plain hg fun K' hK' => ?_
  cases hq : P.info? e with
  | none => rw [hq] at hi; cases hi
  | some ie =>
    rw [hq] at hi
    simp only [Option.map_some, Option.some.injEq, Prod.mk.injEq] at hi
    obtain ⟨h1, rfl⟩ := hi
    have := Nat.le_of_ble_eq_true hs
    have hp' : 0 < len * ie.size := by simpa using hp
    have hrun := run_buildSlice (P := P) w t e len (parts.map fun p => (p.1, a.eval p.2)) cells.toArray ie z hu hq h1 (by omega) (by omega) (by rw [← h]; congr 1; simp)
    unfold Oper.wpIn
    refine ⟨by simp [Oper.about, hop], ?_⟩
    rw [Oper.semAt_plain F _ _ (by rw [hop]; intro c hc'; cases hc')]
    simp [execOp, hop, hrun, Result.andThen]
    exact hK' _ _ (hK _ ⟨Blk.new w cells e, trivial⟩ (World.grownBy_alloc w _ none) (by simp))
end
end Go.Proofs.YtnijaeipkbpibaaDoor
