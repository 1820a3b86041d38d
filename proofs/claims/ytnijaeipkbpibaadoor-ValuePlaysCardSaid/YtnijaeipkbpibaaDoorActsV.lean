/- Package value: scripts that came in. -/
import Derived.Test.YtnijaeipkbpibaaDoorRefS
import Derived.Deep.Strs
import Derived.ChangeSame
set_option linter.unusedVariables false
namespace Go.Proofs.YtnijaeipkbpibaaDoor
open Go.RowKit Go.MapKept
theorem range64 {a : Int} (h : (Lit.int .i64 a).wf = true) : -9223372036854775808 ≤ a ∧ a ≤ 9223372036854775807 := by
  simp [Lit.wf] at h; exact h

/-- Records of k cells that came in, each of a kind W. -/
structure RecsIn {α : Type} (f : α → List Value) (k : Nat) (W : α → Prop) (w : World) (v : Value) (xs : List α) : Prop where
  cells : Cells w (fun k => k < w.heap.size) v xs.length k (xs.flatMap f)
  wf : ∀ x ∈ xs, W x
section
variable {α : Type} {f : α → List Value} {k : Nat} {W : α → Prop} {w : World} {xs : List α}
theorem RecsIn.addr {a : Option Addr} {n cap : Nat} (h : RecsIn f k W w (.slice a n cap) xs) (hn : 0 < xs.length) : ∃ g off, a = some ⟨g, off, none⟩ := by
  have hl : n = xs.length := by obtain ⟨a', cap', e, _⟩ := h.cells; injection e
  subst hl
  obtain ⟨g, off, e, _⟩ := h.cells.addr hn; exact ⟨g, off, e⟩
theorem RecsIn.get {g off n cap : Nat} (h : RecsIn f k W w (.slice (some ⟨g, off, none⟩) n cap) xs) (hf : ∀ x, (f x).length = k) {i : Nat} (hi : i < xs.length) :
    ∃ x, xs[i]? = some x ∧ W x ∧ w.rangeAt g (off + i * k) (f x) := by
  have hl : n = xs.length := by obtain ⟨a', cap', e, _⟩ := h.cells; injection e
  subst hl
  obtain ⟨g', off', e, _, _, hcell⟩ := h.cells.addr (show 0 < xs.length by omega)
  cases e
  refine ⟨xs[i], by rw [List.getElem?_eq_getElem hi], h.wf _ (List.getElem_mem hi), fun j v hj => ?_⟩
  have hjk : j < k := by rw [← hf xs[i]]; exact (List.getElem?_eq_some_iff.1 hj).1
  have := hcell (i * k + j) v (by rw [get_flat hf xs i j hi hjk]; exact hj)
  rwa [← Nat.add_assoc] at this
theorem RecsIn.shape {v : Value} (h : RecsIn f k W w v xs) : ∃ a cap, v = .slice a xs.length cap ∧ xs.length ≤ cap ∧ cap ≤ 9223372036854775807 := by
  obtain ⟨a, cap, e, h1, h2, _⟩ := Cells.shape h.cells
  unfold maxLen at h2
  exact ⟨a, cap, e, h1, by omega⟩
theorem recs_of {p : α → Prop} {g : {x : α // p x} → List Value} (hg : ∀ x, g x = f x.1) (hW : ∀ x, p x → W x) {v : Value} {ys : List {x : α // p x}} (h : Cells w (fun k => k < w.heap.size) v ys.length k (ys.flatMap g)) :
    RecsIn f k W w v (ys.map Subtype.val) := by
  refine ⟨?_, fun x hx => ?_⟩
  · rw [List.length_map]
    have e : (ys.map Subtype.val).flatMap f = ys.flatMap g := by
      clear h
      induction ys with
      | nil => rfl
      | cons a l ih => rw [List.map_cons, List.flatMap_cons, List.flatMap_cons, ih, hg]
    rw [e]; exact h
  · obtain ⟨y, _, rfl⟩ := List.mem_map.1 hx; exact hW _ y.2
end
abbrev I64 (a : Int) : Prop := -9223372036854775808 ≤ a ∧ a ≤ 9223372036854775807
/-- A call on a store: its kind, an item (key, value, deadline), the time. -/
abbrev Act5 := Int × ByteArray × ByteArray × Int × Int
abbrev Act5.cells (x : Act5) : List Value := [iV x.1, sV x.2.1, sV x.2.2.1, iV x.2.2.2.1, iV x.2.2.2.2]
abbrev Act5.W (x : Act5) : Prop := I64 x.1 ∧ x.2.1.size ≤ maxLen ∧ x.2.2.1.size ≤ maxLen ∧ I64 x.2.2.2.1 ∧ I64 x.2.2.2.2
abbrev VScr (w : World) (v : Value) (xs : List Act5) : Prop := RecsIn Act5.cells 5 Act5.W w v xs
abbrev VAct := {p : Act5 // (Lit.int .i64 p.1).wf = true ∧ p.2.1.size ≤ maxLen ∧ p.2.2.1.size ≤ maxLen ∧ (Lit.int .i64 p.2.2.2.1).wf = true ∧ (Lit.int .i64 p.2.2.2.2).wf = true}
def VAct.cells (x : VAct) : List Value := Act5.cells x.1
theorem VScr.at {w : World} {xs : List Act5} {g off n cap : Nat} (h : VScr w (.slice (some ⟨g, off, none⟩) n cap) xs) {k : Nat} (hk : k < xs.length) :
    ∃ kd ky tx dl nw, xs[k]? = some (kd, ky, tx, dl, nw) ∧ (I64 kd ∧ ky.size ≤ maxLen ∧ tx.size ≤ maxLen ∧ I64 dl ∧ I64 nw) ∧ w.rangeAt g (off + k * 5) [iV kd, sV ky, sV tx, iV dl, iV nw] := by
  obtain ⟨⟨kd, ky, tx, dl, nw⟩, h1, h2, h3⟩ := RecsIn.get h (fun _ => rfl) hk
  exact ⟨kd, ky, tx, dl, nw, h1, h2, h3⟩
theorem vscr_of {w : World} {v : Value} {ys : List VAct} (h : Cells w (fun k => k < w.heap.size) v ys.length 5 (ys.flatMap VAct.cells)) : VScr w v (ys.map Subtype.val) :=
  recs_of (fun _ => rfl) (fun x hx => ⟨range64 hx.1, hx.2.1, hx.2.2.1, range64 hx.2.2.2.1, range64 hx.2.2.2.2⟩) h

set_option maxRecDepth 100000 in
theorem el_vact {H : Type} {enc : TypeId × Value → H} {w : World} {base : Nat} {sp : Nat → Bool} {held : Bool} {n : Nat} {cs : List Value} {y : DataW H × List MemPlace}
    (h : DataW.trod enc Tryd.prog w base sp held n 33 cs = some y) : ∃ x : VAct, cs = x.cells := by
  obtain ⟨y0, y1, y2, m, _, hl, h0, h1, h2⟩ := Go.Deep.trod_struct3 Tryd.underlying33 h
  obtain ⟨z0, z1, z2, m2, _, hl2, g0, g1, g2⟩ := Go.Deep.trod_struct3 Tryd.underlying24 h1
  obtain ⟨a, ha, _, hw⟩ := DataW.trod_int Tryd.underlying3 h0
  obtain ⟨b, hb, _, hw1⟩ := DataW.trod_string Tryd.underlying9 g0
  obtain ⟨c, hc', _, hw2⟩ := DataW.trod_string Tryd.underlying9 g1
  obtain ⟨d, hd', _, hw3⟩ := DataW.trod_int Tryd.underlying3 g2
  obtain ⟨e, he', _, hw4⟩ := DataW.trod_int Tryd.underlying3 h2
  have hc : Tryd.prog.cellsOf 33 = 5 := by kernel_rfl
  have hc0 : Tryd.prog.cellsOf 3 = 1 := by kernel_rfl
  have hc1 : Tryd.prog.cellsOf 9 = 1 := by kernel_rfl
  have hc2 : Tryd.prog.cellsOf 24 = 3 := by kernel_rfl
  rw [hc] at hl
  match cs, hl with
  | [c0, c1, c2, c3, c4], _ =>
    simp [hc0, hc1, hc2] at ha hb hc' hd' he'
    exact ⟨⟨(a, b, c, d, e), hw, hw1, hw2, hw3, hw4⟩, by rw [ha, hb, hc', hd', he']; rfl⟩
end Go.Proofs.YtnijaeipkbpibaaDoor
