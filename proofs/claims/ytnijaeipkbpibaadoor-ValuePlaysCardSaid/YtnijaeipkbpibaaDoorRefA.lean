/- What the reference's functions on rows of strings (cachewiseref03) come to. -/
import Derived.Test.YtnijaeipkbpibaaDoorLibB
import Derived.Test.YtnijaeipkbpibaaDoorProg
import Derived.Deep.QuietTactic
import Derived.BigQuiet
set_option linter.unusedVariables false
namespace Go.Proofs.YtnijaeipkbpibaaDoor
open Go.RowKit Go.MapKept

theorem sl_str : ElemT Tryd.prog 39 9 1 16 := elemT (z := .string ⟨#[]⟩) Tryd.underlying39 (by kernel_rfl) rfl

theorem take_mem {α : Type} {xs : List α} {k : Nat} {x : α} (h : k < xs.length) : x ∈ xs.take (k + 1) ↔ x ∈ xs.take k ∨ x = xs[k] := by
  rw [List.take_succ_eq_append_getElem h, List.mem_append, List.mem_singleton]

/-- A row without a key. -/
def rm (xs : List ByteArray) (key : ByteArray) : List ByteArray := xs.filter (· ≠ key)
theorem rm_nil (key : ByteArray) : rm [] key = [] := rfl
theorem rm_append (a b : List ByteArray) (key : ByteArray) : rm (a ++ b) key = rm a key ++ rm b key := List.filter_append ..
theorem rm_same (key : ByteArray) : rm [key] key = [] := by simp [rm]
theorem rm_other {x key : ByteArray} (h : x ≠ key) : rm [x] key = [x] := by simp [rm, h]
theorem rm_le (xs : List ByteArray) (key : ByteArray) : (rm xs key).length ≤ xs.length := List.length_filter_le _ _
theorem mem_rm {xs : List ByteArray} {key x : ByteArray} : x ∈ rm xs key ↔ x ∈ xs ∧ x ≠ key := by simp [rm]

set_option maxHeartbeats 400000 in
theorem ref03_Same (v u : Value) (xs ys : List ByteArray) (w : World) (S S' : Nat → Prop) (h : Strs w S v xs) (h' : Strs w S' u ys) :
    Calls Tryd.prog 22 #[v, u] w fun e w' => e = .returned (.bool (decide (xs = ys))) ∧ ∃ n, w' = w.drewN n := by
  obtain ⟨a, cap, rfl, hc1, hc2, _, hc⟩ := h.shape
  obtain ⟨b, cap', rfl, hc1', hc2', _, hc'⟩ := h'.shape
  unfold maxLen at hc2 hc2'
  by_cases hl : xs.length = ys.length
  · have HL := hid hl
    have hlb : ((xs.length : Int) != (ys.length : Int)) = false := nef (by omega)
    clear hl
    go_enter Tryd.func22, Tryd.ntmps22
    go_wp2
    go_loopw [5] (fun i wr => ∃ k n : Nat, k ≤ xs.length ∧ i = .int .i64 k ∧ wr = w.drewN n ∧ xs.take k = ys.take k) (fun i _ => xs.length - (intOf i).toNat)
    case atStart => exact ⟨0, 0, by omega, rfl, rfl, by simp⟩
    case round =>
      obtain ⟨k, n, hk, rfl, rfl, hno⟩ := hrel
      have HN := hid hno
      clear hno
      by_cases hlt : k < xs.length
      · have hlt' : k < ys.length := HL.out ▸ hlt
        obtain ⟨g, off, rfl, _, _, hcell⟩ := hc (by omega)
        obtain ⟨g', off', rfl, _, _, hcell'⟩ := hc' (by omega)
        have hx := hcell k (.string xs[k]) (by simp [hlt])
        have hy := hcell' k (.string ys[k]) (by simp [hlt'])
        clear hcell hc hcell' hc'
        by_cases he : xs[k] = ys[k]
        · have hb := str_t he
          have HE := hid he
          clear he
          go_wp2
          go_quiet (fail)
          go_wp2
          go_roundw
          case rel => exact ⟨k + 1, _, by omega, by go_num, rfl, by rw [List.take_succ_eq_append_getElem hlt, List.take_succ_eq_append_getElem hlt', HN.out, HE.out]⟩
          case measure => simp [intOf]; omega
        · have hb := str_f he
          have HE := hid he
          clear he
          go_wp2
          go_quiet (fail)
          go_wp2
          go_ret
          exact ⟨ret_bool (by symm; rw [decide_eq_false_iff_not]; intro e; subst e; exact HE.out rfl), n + nq, by simp⟩
      · clear hc hc'
        go_wp2
        go_ret
        exact ⟨ret_bool (by
          have := HN.out
          have hl := HL.out
          rw [List.take_of_length_le (by omega), List.take_of_length_le (by omega)] at this
          simp [this]), n, rfl⟩
  · have hlb : ((xs.length : Int) != (ys.length : Int)) = true := net (by omega)
    have HL := hid hl
    clear hl
    go_enter Tryd.func22, Tryd.ntmps22
    go_wp2
    go_ret
    exact ⟨ret_bool (by symm; rw [decide_eq_false_iff_not]; intro e; subst e; exact HL.out rfl), 0, rfl⟩

def fr (xs : List ByteArray) (key : ByteArray) : List ByteArray := key :: rm xs key
def bk (xs : List ByteArray) (key : ByteArray) : List ByteArray := rm xs key ++ [key]
theorem fr_le (xs : List ByteArray) (key : ByteArray) : (fr xs key).length ≤ xs.length + 1 := by have := rm_le xs key; simp [fr]; omega
theorem bk_le (xs : List ByteArray) (key : ByteArray) : (bk xs key).length ≤ xs.length + 1 := by have := rm_le xs key; simp [bk]; omega
theorem ones (xs : List ByteArray) : ∀ u ∈ xs.map Value.string, u.oneCell' = true := by
  intro u hu; obtain ⟨x, _, rfl⟩ := List.mem_map.1 hu; rfl

end Go.Proofs.YtnijaeipkbpibaaDoor
