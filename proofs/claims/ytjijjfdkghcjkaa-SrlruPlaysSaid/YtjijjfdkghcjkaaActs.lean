/- A script of calls that came in: its cells. -/
import Derived.Test.YtjijjfdkghcjkaaRefS
import Derived.Deep.Strs
set_option linter.unusedVariables false
namespace Go.Proofs.Ytjijjfdkghcjkaa
open Go.RowKit Go.MapKept

/-- A call of a script: its kind, its key, its number. -/
abbrev Act3 := Int × ByteArray × Int
def Act3.cells (x : Act3) : List Value := [iV x.1, sV x.2.1, iV x.2.2]
/-- v is a script that came in. -/
structure ScriptIn (w : World) (v : Value) (xs : List Act3) : Prop where
  cells : Cells w (fun k => k < w.heap.size) v xs.length 3 (xs.flatMap Act3.cells)
  wf : ∀ x ∈ xs, (-9223372036854775808 ≤ x.1 ∧ x.1 ≤ 9223372036854775807) ∧ x.2.1.size ≤ maxLen ∧ -9223372036854775808 ≤ x.2.2 ∧ x.2.2 ≤ 9223372036854775807
section
variable {w : World} {xs : List Act3}
theorem ScriptIn.addr {a : Option Addr} {n cap : Nat} (h : ScriptIn w (.slice a n cap) xs) (hn : 0 < xs.length) : ∃ g off, a = some ⟨g, off, none⟩ := by
  have hl : n = xs.length := by obtain ⟨a', cap', e, _⟩ := h.cells; injection e
  subst hl
  obtain ⟨g, off, e, _⟩ := h.cells.addr hn; exact ⟨g, off, e⟩
theorem ScriptIn.at {g off n cap : Nat} (h : ScriptIn w (.slice (some ⟨g, off, none⟩) n cap) xs) {k : Nat} (hk : k < xs.length) :
    ∃ kd ky nn, xs[k]? = some (kd, ky, nn) ∧ ((-9223372036854775808 ≤ kd ∧ kd ≤ 9223372036854775807) ∧ ky.size ≤ maxLen ∧ -9223372036854775808 ≤ nn ∧ nn ≤ 9223372036854775807) ∧ w.rangeAt g (off + k * 3) [iV kd, sV ky, iV nn] := by
  have hl : n = xs.length := by obtain ⟨a', cap', e, _⟩ := h.cells; injection e
  subst hl
  obtain ⟨g', off', e, _, _, hcell⟩ := h.cells.addr (show 0 < xs.length by omega)
  cases e
  obtain ⟨kd, ky, nn⟩ : Act3 := xs[k]
  refine ⟨xs[k].1, xs[k].2.1, xs[k].2.2, by rw [List.getElem?_eq_getElem hk], h.wf _ (List.getElem_mem hk), fun j v hj => ?_⟩
  have hj3 : j < 3 := (List.getElem?_eq_some_iff.1 hj).1
  have := hcell (k * 3 + j) v (by rw [get_flat (size := 3) (f := Act3.cells) (fun _ => rfl) xs k j hk hj3]; exact hj)
  rwa [← Nat.add_assoc] at this
end
theorem range64 {a : Int} (h : (Lit.int .i64 a).wf = true) : -9223372036854775808 ≤ a ∧ a ≤ 9223372036854775807 := by
  simp [Lit.wf] at h; exact h
/-- The same, as it comes in. -/
abbrev SAct := {p : Act3 // (Lit.int .i64 p.1).wf = true ∧ p.2.1.size ≤ maxLen ∧ (Lit.int .i64 p.2.2).wf = true}
def SAct.cells (x : SAct) : List Value := Act3.cells x.1
set_option maxRecDepth 100000 in
theorem el_sact {H : Type} {enc : TypeId × Value → H} {w : World} {base : Nat} {sp : Nat → Bool} {held : Bool} {n : Nat} {cs : List Value} {y : DataW H × List MemPlace}
    (h : DataW.trod enc Try.prog w base sp held n 45 cs = some y) : ∃ x : SAct, cs = x.cells := by
  obtain ⟨y0, y1, y2, m, _, hl, h0, h1, h2⟩ := Go.Deep.trod_struct3 Try.underlying45 h
  obtain ⟨a, ha, _, hw⟩ := DataW.trod_int Try.underlying3 h0
  obtain ⟨b, hb, _, hw1⟩ := DataW.trod_string Try.underlying9 h1
  obtain ⟨c, hc', _, hw2⟩ := DataW.trod_int Try.underlying3 h2
  have hc : Try.prog.cellsOf 45 = 3 := by kernel_rfl
  have hc0 : Try.prog.cellsOf 3 = 1 := by kernel_rfl
  have hc1 : Try.prog.cellsOf 9 = 1 := by kernel_rfl
  rw [hc] at hl
  match cs, hl with
  | [c0, c1, cd], _ =>
    simp [hc0, hc1] at ha hb hc'
    exact ⟨⟨(a, b, c), hw, hw1, hw2⟩, by rw [ha, hb, hc']; rfl⟩
theorem script_of {w : World} {v : Value} {xs : List SAct} (h : Cells w (fun k => k < w.heap.size) v xs.length 3 (xs.flatMap SAct.cells)) :
    ∃ a cap, v = .slice a (xs.map Subtype.val).length cap ∧ (xs.map Subtype.val).length ≤ 9223372036854775807 ∧ ScriptIn w (.slice a (xs.map Subtype.val).length cap) (xs.map Subtype.val) := by
  obtain ⟨a, cap, rfl, hc1, hc2, _, hc⟩ := h.shape
  unfold maxLen at hc2
  rw [List.length_map]
  refine ⟨a, cap, rfl, by omega, ⟨?_, fun x hx => ?_⟩⟩
  · rw [List.length_map, show (xs.map Subtype.val).flatMap Act3.cells = xs.flatMap SAct.cells from by rw [List.flatMap_map]; rfl]; exact h
  · obtain ⟨y, _, rfl⟩ := List.mem_map.1 hx
    exact ⟨range64 y.2.1, y.2.2.1, range64 y.2.2.2⟩
/-- A row of texts that came in. -/
structure KeysIn (w : World) (v : Value) (xs : List ByteArray) : Prop where
  strs : Strs w (fun k => k < w.heap.size) v xs
  wf : ∀ k ∈ xs, k.size ≤ maxLen
theorem KeysIn.addr {w : World} {xs : List ByteArray} {a : Option Addr} {n cap : Nat} (h : KeysIn w (.slice a n cap) xs) (hn : 0 < xs.length) : ∃ g off, a = some ⟨g, off, none⟩ := strs_addr h.strs hn
theorem KeysIn.at {w : World} {xs : List ByteArray} {g off n cap : Nat} (h : KeysIn w (.slice (some ⟨g, off, none⟩) n cap) xs) {k : Nat} (hk : k < xs.length) : ∃ y, xs[k]? = some y ∧ y.size ≤ maxLen ∧ w.rangeAt g (off + k) [sV y] := by
  refine ⟨xs[k], List.getElem?_eq_getElem hk, h.wf _ (List.getElem_mem hk), fun j v hj => ?_⟩
  match j, hj with
  | 0, hj =>
    cases hj
    exact h.strs.getAt (List.getElem?_eq_getElem hk)
theorem KeysIn.shape {w : World} {v : Value} {xs : List ByteArray} (h : KeysIn w v xs) : ∃ a cap, v = .slice a xs.length cap ∧ xs.length ≤ cap ∧ cap ≤ 9223372036854775807 := by
  obtain ⟨a, cap, e, h1, h2, _⟩ := Cells.shape h.strs
  unfold maxLen at h2
  exact ⟨a, cap, e, h1, by omega⟩
theorem strs_of {w : World} {S : Nat → Prop} {v : Value} {xs : List {s : ByteArray // s.size ≤ maxLen}} (h : Cells w S v xs.length 1 (xs.flatMap fun x => [Value.string x.1])) : Strs w S v (xs.map Subtype.val) ∧ ∀ k ∈ xs.map Subtype.val, k.size ≤ maxLen := by
  refine ⟨?_, fun k hk => ?_⟩
  · unfold Strs
    rw [List.length_map, List.map_map]
    have e : xs.flatMap (fun x => [Value.string x.1]) = xs.map (Value.string ∘ Subtype.val) := by
      clear h
      induction xs with
      | nil => rfl
      | cons a l ih => rw [List.flatMap_cons, ih]; rfl
    rw [← e]; exact h
  · obtain ⟨x, _, rfl⟩ := List.mem_map.1 hk; exact x.2
end Go.Proofs.Ytjijjfdkghcjkaa
