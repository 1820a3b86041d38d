/- Package heap: scripts and ranks that came in. -/
import Derived.Test.YtnnjccfcalgokaaActs
import Derived.ChangeSame
set_option linter.unusedVariables false
namespace Go.Proofs.Ytnnjccfcalgokaa
open Go.RowKit Go.MapKept

/-- Records of k cells that came in, each of a kind W. -/
structure RecsIn {α : Type} (f : α → List Value) (k : Nat) (W : α → Prop) (w : World) (v : Value) (xs : List α) : Prop where
  cells : Cells w (fun k => k < w.heap.size) v xs.length k (xs.flatMap f)
  wf : ∀ x ∈ xs, W x
section
variable {α : Type} {f : α → List Value} {k : Nat} {W : α → Prop} {w : World} {xs : List α}
theorem RecsIn.addr {a : Option Addr} {n cap : Nat} (h : RecsIn f k W w (.slice a n cap) xs) (hn : 0 < xs.length) : ∃ g off, a = some ⟨g, off, none⟩ := by
  have hl : n = xs.length := by obtain ⟨a', cap', e, _⟩ := h.cells; injection e
  subst hl
  obtain ⟨g, off, e, _⟩ := h.cells.addr hn; exact ⟨g, off, e⟩
theorem RecsIn.get {g off n cap : Nat} (h : RecsIn f k W w (.slice (some ⟨g, off, none⟩) n cap) xs) (hf : ∀ x, (f x).length = k) {i : Nat} (hi : i < xs.length) :
    ∃ x, xs[i]? = some x ∧ W x ∧ w.rangeAt g (off + i * k) (f x) := by
  have hl : n = xs.length := by obtain ⟨a', cap', e, _⟩ := h.cells; injection e
  subst hl
  obtain ⟨g', off', e, _, _, hcell⟩ := h.cells.addr (show 0 < xs.length by omega)
  cases e
  refine ⟨xs[i], by rw [List.getElem?_eq_getElem hi], h.wf _ (List.getElem_mem hi), fun j v hj => ?_⟩
  have hjk : j < k := by rw [← hf xs[i]]; exact (List.getElem?_eq_some_iff.1 hj).1
  have := hcell (i * k + j) v (by rw [get_flat hf xs i j hi hjk]; exact hj)
  rwa [← Nat.add_assoc] at this
theorem RecsIn.shape {v : Value} (h : RecsIn f k W w v xs) : ∃ a cap, v = .slice a xs.length cap ∧ xs.length ≤ cap ∧ cap ≤ 9223372036854775807 := by
  obtain ⟨a, cap, e, h1, h2, _⟩ := Cells.shape h.cells
  unfold maxLen at h2
  exact ⟨a, cap, e, h1, by omega⟩
theorem recs_of {p : α → Prop} {g : {x : α // p x} → List Value} (hg : ∀ x, g x = f x.1) (hW : ∀ x, p x → W x) {v : Value} {ys : List {x : α // p x}} (h : Cells w (fun k => k < w.heap.size) v ys.length k (ys.flatMap g)) :
    RecsIn f k W w v (ys.map Subtype.val) := by
  refine ⟨?_, fun x hx => ?_⟩
  · rw [List.length_map]
    have e : (ys.map Subtype.val).flatMap f = ys.flatMap g := by
      clear h
      induction ys with
      | nil => rfl
      | cons a l ih => rw [List.map_cons, List.flatMap_cons, List.flatMap_cons, ih, hg]
    rw [e]; exact h
  · obtain ⟨y, _, rfl⟩ := List.mem_map.1 hx; exact hW _ y.2
end
abbrev I64 (a : Int) : Prop := -9223372036854775808 ≤ a ∧ a ≤ 9223372036854775807
/-- A call on a heap: its kind, key, rank. -/
abbrev Act4 := Int × ByteArray × Int × Int
abbrev Act4.cells (x : Act4) : List Value := [iV x.1, sV x.2.1, iV x.2.2.1, iV x.2.2.2]
abbrev Act4.W (x : Act4) : Prop := I64 x.1 ∧ x.2.1.size ≤ maxLen ∧ I64 x.2.2.1 ∧ I64 x.2.2.2
abbrev HScr (w : World) (v : Value) (xs : List Act4) : Prop := RecsIn Act4.cells 4 Act4.W w v xs
abbrev HAct := {p : Act4 // (Lit.int .i64 p.1).wf = true ∧ p.2.1.size ≤ maxLen ∧ (Lit.int .i64 p.2.2.1).wf = true ∧ (Lit.int .i64 p.2.2.2).wf = true}
def HAct.cells (x : HAct) : List Value := Act4.cells x.1
theorem HScr.at {w : World} {xs : List Act4} {g off n cap : Nat} (h : HScr w (.slice (some ⟨g, off, none⟩) n cap) xs) {k : Nat} (hk : k < xs.length) :
    ∃ kd ky r1 r2, xs[k]? = some (kd, ky, r1, r2) ∧ (I64 kd ∧ ky.size ≤ maxLen ∧ I64 r1 ∧ I64 r2) ∧ w.rangeAt g (off + k * 4) [iV kd, sV ky, iV r1, iV r2] := by
  obtain ⟨⟨kd, ky, r1, r2⟩, h1, h2, h3⟩ := RecsIn.get h (fun _ => rfl) hk
  exact ⟨kd, ky, r1, r2, h1, h2, h3⟩
theorem hscr_of {w : World} {v : Value} {ys : List HAct} (h : Cells w (fun k => k < w.heap.size) v ys.length 4 (ys.flatMap HAct.cells)) : HScr w v (ys.map Subtype.val) :=
  recs_of (fun _ => rfl) (fun x hx => ⟨range64 hx.1, hx.2.1, range64 hx.2.2.1, range64 hx.2.2.2⟩) h

set_option maxRecDepth 100000 in
theorem el_hact {H : Type} {enc : TypeId × Value → H} {w : World} {base : Nat} {sp : Nat → Bool} {held : Bool} {n : Nat} {cs : List Value} {y : DataW H × List MemPlace}
    (h : DataW.trod enc Try.prog w base sp held n 30 cs = some y) : ∃ x : HAct, cs = x.cells := by
  obtain ⟨y0, y1, y2, m, _, hl, h0, h1, h2⟩ := Go.Deep.trod_struct3 Try.underlying30 h
  obtain ⟨z0, z1, m2, _, hl2, g0, g1⟩ := Go.ChangeShapes.trod_struct2 Try.underlying28 h2
  obtain ⟨a, ha, _, hw⟩ := DataW.trod_int Try.underlying3 h0
  obtain ⟨b, hb, _, hw1⟩ := DataW.trod_string Try.underlying9 h1
  obtain ⟨c, hc', _, hw2⟩ := DataW.trod_int Try.underlying3 g0
  obtain ⟨d, hd', _, hw3⟩ := DataW.trod_int Try.underlying3 g1
  have hc : Try.prog.cellsOf 30 = 4 := by kernel_rfl
  have hc0 : Try.prog.cellsOf 3 = 1 := by kernel_rfl
  have hc1 : Try.prog.cellsOf 9 = 1 := by kernel_rfl
  have hc2 : Try.prog.cellsOf 28 = 2 := by kernel_rfl
  rw [hc] at hl
  match cs, hl with
  | [c0, c1, c2, c3], _ =>
    simp [hc0, hc1, hc2] at ha hb hc' hd'
    exact ⟨⟨(a, b, c, d), hw, hw1, hw2, hw3⟩, by rw [ha, hb, hc', hd']; rfl⟩

/-- A row of ranks. -/
abbrev Rk := Int × Int
abbrev Rk.cells (x : Rk) : List Value := [iV x.1, iV x.2]
abbrev Rk.W (x : Rk) : Prop := I64 x.1 ∧ I64 x.2
abbrev RkIn (w : World) (v : Value) (xs : List Rk) : Prop := RecsIn Rk.cells 2 Rk.W w v xs
abbrev HRk := {p : Rk // (Lit.int .i64 p.1).wf = true ∧ (Lit.int .i64 p.2).wf = true}
def HRk.cells (x : HRk) : List Value := Rk.cells x.1
theorem RkIn.at {w : World} {xs : List Rk} {g off n cap : Nat} (h : RkIn w (.slice (some ⟨g, off, none⟩) n cap) xs) {k : Nat} (hk : k < xs.length) :
    ∃ r1 r2, xs[k]? = some (r1, r2) ∧ (I64 r1 ∧ I64 r2) ∧ w.rangeAt g (off + k * 2) [iV r1, iV r2] := by
  obtain ⟨⟨r1, r2⟩, h1, h2, h3⟩ := RecsIn.get h (fun _ => rfl) hk
  exact ⟨r1, r2, h1, h2, h3⟩
theorem rks_of {w : World} {v : Value} {ys : List HRk} (h : Cells w (fun k => k < w.heap.size) v ys.length 2 (ys.flatMap HRk.cells)) : RkIn w v (ys.map Subtype.val) :=
  recs_of (fun _ => rfl) (fun x hx => ⟨range64 hx.1, range64 hx.2⟩) h

set_option maxRecDepth 100000 in
theorem el_hrk {H : Type} {enc : TypeId × Value → H} {w : World} {base : Nat} {sp : Nat → Bool} {held : Bool} {n : Nat} {cs : List Value} {y : DataW H × List MemPlace}
    (h : DataW.trod enc Try.prog w base sp held n 28 cs = some y) : ∃ x : HRk, cs = x.cells := by
  obtain ⟨z0, z1, m2, _, hl, g0, g1⟩ := Go.ChangeShapes.trod_struct2 Try.underlying28 h
  obtain ⟨c, hc', _, hw2⟩ := DataW.trod_int Try.underlying3 g0
  obtain ⟨d, hd', _, hw3⟩ := DataW.trod_int Try.underlying3 g1
  have hc0 : Try.prog.cellsOf 3 = 1 := by kernel_rfl
  have hc2 : Try.prog.cellsOf 28 = 2 := by kernel_rfl
  rw [hc2] at hl
  match cs, hl with
  | [c0, c1], _ =>
    simp [hc0] at hc' hd'
    exact ⟨⟨(c, d), hw2, hw3⟩, by rw [hc', hd']; rfl⟩
end Go.Proofs.Ytnnjccfcalgokaa
