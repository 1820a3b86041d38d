/- The list of package list, in the words of XWork: what each call on it does. -/
import Derived.Test.YtjijjfdkghcjkaaListC
import Derived.Test.YtjijjfdkghcjkaaWork
import Derived.Test.YtjijjfdkghcjkaaRowLaws
set_option linter.unusedVariables false
namespace Go.Proofs.Ytjijjfdkghcjkaa
open Go.RowKit Go.MapKept

/-- A list of at most n places. -/
def LL (w : World) (S : Nat → Prop) (b : Nat) (keys : List ByteArray) (n : Nat) : Prop := ∃ pl, pl ≤ n ∧ ListAt w b S keys pl

section
variable {w w' : World} {S S' : Nat → Prop} {b n : Nat} {keys : List ByteArray}
theorem LL.move (h : LL w S b keys n) (hz : w.heap.size ≤ w'.heap.size) (hs : ∀ k, k < w.heap.size → S k → S' k ∧ w'.heap[k]? = w.heap[k]?) : LL w' S' b keys n := by
  obtain ⟨pl, h1, h2⟩ := h; exact ⟨pl, h1, h2.move hz hs⟩
instance {b : Nat} {keys : List ByteArray} {n : Nat} : Mov (fun w S => LL w S b keys n) := ⟨fun h hz hs => h.move hz hs⟩
theorem LL.keep {own own' : Nat → Nat} {c : Nat} (h : LL w (fun k => own k = c) b keys n) (K : Keeps w w' own own' c) : LL w' (fun k => own' k = c) b keys n := h.move K.size K.block
theorem LL.uniq (h : LL w S b keys n) : keys.Nodup := by obtain ⟨pl, _, h⟩ := h; exact h.uniq
theorem LL.le (h : LL w S b keys n) : keys.length ≤ n := by obtain ⟨pl, h1, h⟩ := h; exact Nat.le_trans h.le h1
theorem LL.up (h : LL w S b keys n) {m : Nat} (hm : n ≤ m) : LL w S b keys m := by obtain ⟨pl, h1, h⟩ := h; exact ⟨pl, Nat.le_trans h1 hm, h⟩

theorem w_New {w : World} : Calls Try.prog 59 #[] w (MakesP w fun b w S => LL w S b [] 0) :=
  list_New.mono fun _ _ ⟨b, he, hm, S', hs, ht⟩ => ⟨b, he, hm, 0, Nat.le_refl _, ht.mono fun k _ q => hs k q⟩

theorem w_Len (h : LL w S b keys n) : Calls Try.prog 61 #[.pointer (some ⟨b, 0, none⟩)] w fun e w' => e = .returned (.int .i64 keys.length) ∧ w = w' := by
  obtain ⟨pl, h1, h⟩ := h; exact list_Len h

theorem w_Has (h : LL w S b keys n) (key : ByteArray) : Calls Try.prog 60 #[.pointer (some ⟨b, 0, none⟩), .string key] w fun e w' => e = .returned (.bool (decide (key ∈ keys))) ∧ w = w' := by
  obtain ⟨pl, h1, h⟩ := h; exact list_Has h key

theorem w_Last (h : LL w S b keys n) : Calls Try.prog 69 #[.pointer (some ⟨b, 0, none⟩)] w (Reads w (.tuple #[.string (keys.getLast?.getD ⟨#[]⟩), .bool (decide (0 < keys.length))])) := by
  obtain ⟨pl, h1, h⟩ := h; exact list_Last h

theorem w_Pop (h : LL w S b keys n) (hb : n ≤ 1000000000) : Calls Try.prog 62 #[.pointer (some ⟨b, 0, none⟩)] w (After S w (.tuple #[.string (keys.getLast?.getD ⟨#[]⟩), .bool (decide (0 < keys.length))]) fun w S => LL w S b keys.dropLast n) := by
  obtain ⟨pl, h1, h⟩ := h
  exact (list_Pop h (by omega)).mono fun _ _ ⟨he, hm, S', hs, hl⟩ => ⟨he, hm, S', hs, pl, h1, hl⟩

theorem w_Remove (h : LL w S b keys n) (hb : n ≤ 1000000000) (key : ByteArray) : Calls Try.prog 68 #[.pointer (some ⟨b, 0, none⟩), .string key] w (After S w (.bool (decide (key ∈ keys))) fun w S => LL w S b (rm keys key) n) := by
  obtain ⟨pl, h1, h⟩ := h
  exact (list_Remove h (by omega) key).mono fun _ _ ⟨he, hm, S', hs, hl⟩ => ⟨he, hm, S', hs, pl, h1, hl⟩

theorem w_Front (h : LL w S b keys n) (hb : n ≤ 1000000000) (key : ByteArray) : Calls Try.prog 63 #[.pointer (some ⟨b, 0, none⟩), .string key] w (After S w (.tuple #[]) fun w S => LL w S b (fr keys key) (n + 1)) := by
  obtain ⟨pl, h1, h⟩ := h
  have h2 := fr_le keys key
  have h3 := h.le
  exact (list_Front h (by omega) key).mono fun _ _ ⟨he, hm, S', hs, hl⟩ => ⟨he, hm, S', hs, _, by omega, hl⟩

theorem w_Keys (h : LL w S b keys n) (hb : n ≤ 1000000000) : Calls Try.prog 64 #[.pointer (some ⟨b, 0, none⟩)] w (Makes w fun v w S => Row w S 9 1 v keys.length (keys.map Value.string)) := by
  obtain ⟨pl, h1, h⟩ := h
  exact list_Keys h (by omega)

end

section
variable {w : World} {S : Nat → Prop} {v : Value} {xs : List ByteArray}
theorem r_Remove (h : Strs w S v xs) (hb : xs.length ≤ 1000000000) (key : ByteArray) : Calls Try.prog 29 #[v, .string key] w (Makes w fun v w S => Row w S 9 1 v (rm xs key).length ((rm xs key).map Value.string)) := ref03_Remove v xs key w S h hb

theorem r_Front (h : Strs w S v xs) (hb : xs.length ≤ 1000000000) (key : ByteArray) : Calls Try.prog 21 #[v, .string key] w (Makes w fun v w S => Row w S 9 1 v (fr xs key).length ((fr xs key).map Value.string)) := ref03_Front v xs key w S h hb

theorem r_Back (h : Strs w S v xs) (hb : xs.length ≤ 1000000000) (key : ByteArray) : Calls Try.prog 67 #[v, .string key] w (Makes w fun v w S => Row w S 9 1 v (bk xs key).length ((bk xs key).map Value.string)) := ref03_Back v xs key w S h hb

theorem r_Has (h : Strs w S v xs) (key : ByteArray) : Calls Try.prog 20 #[v, .string key] w fun e w' => e = .returned (.bool (decide (key ∈ xs))) ∧ w = w' := ref03_Has v xs key w S h

end
end Go.Proofs.Ytjijjfdkghcjkaa
