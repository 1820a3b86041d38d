/- Package list: scripts that came in. -/
import Derived.Test.YthbffkdfahlpdaaRefS
import Derived.ChangeShapes
set_option linter.unusedVariables false
namespace Go.Proofs.Ythbffkdfahlpdaa
open Go.RowKit Go.MapKept

/-- Records of k cells that came in, each of a kind W. -/
structure RecsIn {α : Type} (f : α → List Value) (k : Nat) (W : α → Prop) (w : World) (v : Value) (xs : List α) : Prop where
  cells : Cells w (fun k => k < w.heap.size) v xs.length k (xs.flatMap f)
  wf : ∀ x ∈ xs, W x
section
variable {α : Type} {f : α → List Value} {k : Nat} {W : α → Prop} {w : World} {xs : List α}
theorem RecsIn.addr {a : Option Addr} {n cap : Nat} (h : RecsIn f k W w (.slice a n cap) xs) (hn : 0 < xs.length) : ∃ g off, a = some ⟨g, off, none⟩ := by
  have hl : n = xs.length := by obtain ⟨a', cap', e, _⟩ := h.cells; injection e
  subst hl
  obtain ⟨g, off, e, _⟩ := h.cells.addr hn; exact ⟨g, off, e⟩
theorem RecsIn.get {g off n cap : Nat} (h : RecsIn f k W w (.slice (some ⟨g, off, none⟩) n cap) xs) (hf : ∀ x, (f x).length = k) {i : Nat} (hi : i < xs.length) :
    ∃ x, xs[i]? = some x ∧ W x ∧ w.rangeAt g (off + i * k) (f x) := by
  have hl : n = xs.length := by obtain ⟨a', cap', e, _⟩ := h.cells; injection e
  subst hl
  obtain ⟨g', off', e, _, _, hcell⟩ := h.cells.addr (show 0 < xs.length by omega)
  cases e
  refine ⟨xs[i], by rw [List.getElem?_eq_getElem hi], h.wf _ (List.getElem_mem hi), fun j v hj => ?_⟩
  have hjk : j < k := by rw [← hf xs[i]]; exact (List.getElem?_eq_some_iff.1 hj).1
  have := hcell (i * k + j) v (by rw [get_flat hf xs i j hi hjk]; exact hj)
  rwa [← Nat.add_assoc] at this
theorem RecsIn.shape {v : Value} (h : RecsIn f k W w v xs) : ∃ a cap, v = .slice a xs.length cap ∧ xs.length ≤ cap ∧ cap ≤ 9223372036854775807 := by
  obtain ⟨a, cap, e, h1, h2, _⟩ := Cells.shape h.cells
  unfold maxLen at h2
  exact ⟨a, cap, e, h1, by omega⟩
theorem recs_of {p : α → Prop} {g : {x : α // p x} → List Value} (hg : ∀ x, g x = f x.1) (hW : ∀ x, p x → W x) {v : Value} {ys : List {x : α // p x}} (h : Cells w (fun k => k < w.heap.size) v ys.length k (ys.flatMap g)) :
    RecsIn f k W w v (ys.map Subtype.val) := by
  refine ⟨?_, fun x hx => ?_⟩
  · rw [List.length_map]
    have e : (ys.map Subtype.val).flatMap f = ys.flatMap g := by
      clear h
      induction ys with
      | nil => rfl
      | cons a l ih => rw [List.map_cons, List.flatMap_cons, List.flatMap_cons, ih, hg]
    rw [e]; exact h
  · obtain ⟨y, _, rfl⟩ := List.mem_map.1 hx; exact hW _ y.2
end
abbrev I64 (a : Int) : Prop := -9223372036854775808 ≤ a ∧ a ≤ 9223372036854775807
theorem range64 {a : Int} (h : (Lit.int .i64 a).wf = true) : -9223372036854775808 ≤ a ∧ a ≤ 9223372036854775807 := by
  simp [Lit.wf] at h; exact h
abbrev Act2 := Int × ByteArray
abbrev Act2.cells (x : Act2) : List Value := [iV x.1, sV x.2]
abbrev Act2.W (x : Act2) : Prop := I64 x.1 ∧ x.2.size ≤ maxLen
abbrev LScr (w : World) (v : Value) (xs : List Act2) : Prop := RecsIn Act2.cells 2 Act2.W w v xs
theorem LScr.at {w : World} {xs : List Act2} {g off n cap : Nat} (h : LScr w (.slice (some ⟨g, off, none⟩) n cap) xs) {k : Nat} (hk : k < xs.length) :
    ∃ kd ky, xs[k]? = some (kd, ky) ∧ (I64 kd ∧ ky.size ≤ maxLen) ∧ w.rangeAt g (off + k * 2) [iV kd, sV ky] := by
  obtain ⟨⟨kd, ky⟩, h1, h2, h3⟩ := RecsIn.get h (fun _ => rfl) hk
  exact ⟨kd, ky, h1, h2, h3⟩
/-- A call of a script over lists: its kind, its key. -/
abbrev LAct := {p : Int × ByteArray // (Lit.int .i64 p.1).wf = true ∧ p.2.size ≤ maxLen}
def LAct.cells (x : LAct) : List Value := [.int .i64 x.1.1, .string x.1.2]
theorem lscr_of {w : World} {v : Value} {ys : List LAct} (h : Cells w (fun k => k < w.heap.size) v ys.length 2 (ys.flatMap LAct.cells)) : LScr w v (ys.map Subtype.val) :=
  recs_of (fun _ => rfl) (fun x hx => ⟨range64 hx.1, hx.2⟩) h
theorem el_lact {H : Type} {enc : TypeId × Value → H} {w : World} {base : Nat} {sp : Nat → Bool} {held : Bool} {n : Nat} {cs : List Value} {y : DataW H × List MemPlace}
    (h : DataW.trod enc Try.prog w base sp held n 53 cs = some y) : ∃ x : LAct, cs = x.cells := by
  obtain ⟨y0, y1, m, _, hl, h0, h1⟩ := ChangeShapes.trod_struct2 Try.underlying53 h
  obtain ⟨a, ha, _, hw⟩ := DataW.trod_int Try.underlying3 h0
  obtain ⟨s, hs, _, hz⟩ := DataW.trod_string Try.underlying9 h1
  have hc : Try.prog.cellsOf 53 = 2 := by kernel_rfl
  have hc0 : Try.prog.cellsOf 3 = 1 := by kernel_rfl
  have hc1 : Try.prog.cellsOf 9 = 1 := by kernel_rfl
  rw [hc] at hl
  match cs, hl with
  | [c0, c1], _ =>
    simp [hc0, hc1] at ha hs
    exact ⟨⟨(a, s), hw, hz⟩, by rw [ha, hs]; rfl⟩
end Go.Proofs.Ythbffkdfahlpdaa
