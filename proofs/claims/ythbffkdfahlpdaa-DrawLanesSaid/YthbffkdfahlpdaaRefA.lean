/- What the reference's functions on rows of strings (cachewiseref03) come to. -/
import Derived.Test.YthbffkdfahlpdaaLibB
import Derived.Test.YthbffkdfahlpdaaProg
import Derived.Deep.QuietTactic
import Derived.BigQuiet
set_option linter.unusedVariables false
namespace Go.Proofs.Ythbffkdfahlpdaa
open Go.RowKit Go.MapKept

theorem sl_str : ElemT Try.prog 55 9 1 16 := elemT (z := .string ⟨#[]⟩) Try.underlying55 (by kernel_rfl) rfl

theorem take_mem {α : Type} {xs : List α} {k : Nat} {x : α} (h : k < xs.length) : x ∈ xs.take (k + 1) ↔ x ∈ xs.take k ∨ x = xs[k] := by
  rw [List.take_succ_eq_append_getElem h, List.mem_append, List.mem_singleton]

set_option maxHeartbeats 400000 in
theorem ref03_Has (v : Value) (xs : List ByteArray) (key : ByteArray) (w : World) (S : Nat → Prop) (h : Strs w S v xs) :
    Calls Try.prog 43 #[v, .string key] w fun e w' => e = .returned (.bool (decide (key ∈ xs))) ∧ w = w' := by
  obtain ⟨a, cap, rfl, hc1, hc2, _, hc⟩ := h.shape
  unfold maxLen at hc2
  go_enter Try.func43, Try.ntmps43
  go_wp2
  go_loop [5] (fun i => ∃ k : Nat, k ≤ xs.length ∧ i = .int .i64 k ∧ key ∉ xs.take k) (fun i => xs.length - (intOf i).toNat)
  case atStart => exact ⟨0, by omega, rfl, by simp⟩
  case round =>
    obtain ⟨k, hk, rfl, hno⟩ := hrel
    have HN := hid hno
    clear hno
    by_cases hlt : k < xs.length
    · obtain ⟨g, off, rfl, _, _, hcell⟩ := hc (by omega)
      have hx := hcell k (.string xs[k]) (by simp [hlt])
      clear hcell hc
      by_cases he : xs[k] = key
      · have hb := str_t he
        have HE := hid he
        clear he
        go_wp2
        go_ret
        exact ⟨ret_bool (by have : key ∈ xs := HE.out ▸ List.getElem_mem hlt
                            simp [this]), rfl⟩
      · have hb := str_f he
        have HE := hid he
        clear he
        go_wp2
        go_round
        case rel => exact ⟨k + 1, by omega, by go_num, fun hm => ((take_mem hlt).1 hm).elim HN.out fun e => HE.out e.symm⟩
        case measure => simp [intOf]; omega
    · clear hc
      go_wp2
      go_ret
      exact ⟨ret_bool (by have := HN.out
                          rw [List.take_of_length_le (by omega)] at this
                          simp [this]), rfl⟩

/-- A row without a key. -/
def rm (xs : List ByteArray) (key : ByteArray) : List ByteArray := xs.filter (· ≠ key)
theorem rm_nil (key : ByteArray) : rm [] key = [] := rfl
theorem rm_append (a b : List ByteArray) (key : ByteArray) : rm (a ++ b) key = rm a key ++ rm b key := List.filter_append ..
theorem rm_same (key : ByteArray) : rm [key] key = [] := by simp [rm]
theorem rm_other {x key : ByteArray} (h : x ≠ key) : rm [x] key = [x] := by simp [rm, h]
theorem rm_le (xs : List ByteArray) (key : ByteArray) : (rm xs key).length ≤ xs.length := List.length_filter_le _ _
theorem mem_rm {xs : List ByteArray} {key x : ByteArray} : x ∈ rm xs key ↔ x ∈ xs ∧ x ≠ key := by simp [rm]

set_option maxHeartbeats 400000 in
theorem ref03_Remove (v : Value) (xs : List ByteArray) (key : ByteArray) (w : World) (S : Nat → Prop) (h : Strs w S v xs) (hb : xs.length ≤ 1000000000) :
    Calls Try.prog 31 #[v, .string key] w fun e w' => ∃ v', e = .returned v' ∧ Mod Nil w w' ∧
      Row w' (fun k => w.heap.size ≤ k) 9 1 v' (rm xs key).length ((rm xs key).map Value.string) := by
  obtain ⟨a, cap, rfl, hc1, hc2, _, hc⟩ := h.shape
  unfold maxLen at hc2
  go_enter Try.func31, Try.ntmps31
  go_wp2
  go_loopw [5, 6] (fun o i wr => ∃ k : Nat, k ≤ xs.length ∧ i = .int .i64 k ∧ Mod Nil w wr ∧ Row wr (fun k => w.heap.size ≤ k) 9 1 o (rm (xs.take k) key).length ((rm (xs.take k) key).map Value.string)) (fun _ i _ => xs.length - (intOf i).toNat)
  case atStart => exact ⟨0, by omega, rfl, Mod.refl _ _, Row.nil _ _ _ _⟩
  case round =>
    obtain ⟨k, hk, rfl, hm, hr⟩ := hrel
    by_cases hlt : k < xs.length
    · obtain ⟨g, off, rfl, _, _, hcell⟩ := hc (by omega)
      have hx := hm.cell (hcell k (.string xs[k]) (by simp [hlt])) (fun q => q)
      have hts : xs.take (k + 1) = xs.take k ++ [xs[k]] := List.take_succ_eq_append_getElem hlt
      have hfl : (rm (xs.take k) key).length ≤ k := Nat.le_trans (rm_le _ _) (List.length_take_le _ _)
      clear hcell hc
      by_cases he : xs[k] = key
      · have hb := str_t he
        have HE := hid he
        have HT := hid hts
        clear he hts
        go_wp2
        go_roundw
        case rel => exact ⟨k + 1, by omega, by go_num, hm, by rw [HT.out, rm_append, HE.out, rm_same, List.append_nil]; exact hr⟩
        case measure => simp [intOf]; omega
      · have hb := str_f he
        have HE := hid he
        have HT := hid hts
        clear he hts
        go_wp2_with (at_builtin; refine wpRowPush rfl _ _ rfl sl_str (by omega) hr rfl rfl (by simp) [.string xs[k]] 9 rfl ?_ ?_ ?_ ?_)
        · simp [Value.oneCell']
        · unfold maxLen; omega
        · omega
        · intro v' w' hr' hm' hs'
          go_wp2
          go_roundw
          case rel => exact ⟨k + 1, by omega, by go_num, hm.trans' hm' fun j hj q => (Nat.not_lt.2 q hj).elim, by
            rw [HT.out, rm_append, rm_other HE.out, List.length_append, List.map_append]
            exact hr'.mono fun j _ q => q.elim id fun q => Nat.le_trans hm.size q⟩
          case measure => simp [intOf]; omega
    · clear hc
      go_wp2
      go_ret
      exact ⟨_, rfl, hm, by rw [List.take_of_length_le (by omega)] at hr; exact hr⟩

set_option maxHeartbeats 400000 in
theorem ref03_Same (v u : Value) (xs ys : List ByteArray) (w : World) (S S' : Nat → Prop) (h : Strs w S v xs) (h' : Strs w S' u ys) :
    Calls Try.prog 34 #[v, u] w fun e w' => e = .returned (.bool (decide (xs = ys))) ∧ ∃ n, w' = w.drewN n := by
  obtain ⟨a, cap, rfl, hc1, hc2, _, hc⟩ := h.shape
  obtain ⟨b, cap', rfl, hc1', hc2', _, hc'⟩ := h'.shape
  unfold maxLen at hc2 hc2'
  by_cases hl : xs.length = ys.length
  · have HL := hid hl
    have hlb : ((xs.length : Int) != (ys.length : Int)) = false := nef (by omega)
    clear hl
    go_enter Try.func34, Try.ntmps34
    go_wp2
    go_loopw [5] (fun i wr => ∃ k n : Nat, k ≤ xs.length ∧ i = .int .i64 k ∧ wr = w.drewN n ∧ xs.take k = ys.take k) (fun i _ => xs.length - (intOf i).toNat)
    case atStart => exact ⟨0, 0, by omega, rfl, rfl, by simp⟩
    case round =>
      obtain ⟨k, n, hk, rfl, rfl, hno⟩ := hrel
      have HN := hid hno
      clear hno
      by_cases hlt : k < xs.length
      · have hlt' : k < ys.length := HL.out ▸ hlt
        obtain ⟨g, off, rfl, _, _, hcell⟩ := hc (by omega)
        obtain ⟨g', off', rfl, _, _, hcell'⟩ := hc' (by omega)
        have hx := hcell k (.string xs[k]) (by simp [hlt])
        have hy := hcell' k (.string ys[k]) (by simp [hlt'])
        clear hcell hc hcell' hc'
        by_cases he : xs[k] = ys[k]
        · have hb := str_t he
          have HE := hid he
          clear he
          go_wp2
          go_quiet (fail)
          go_wp2
          go_roundw
          case rel => exact ⟨k + 1, _, by omega, by go_num, rfl, by rw [List.take_succ_eq_append_getElem hlt, List.take_succ_eq_append_getElem hlt', HN.out, HE.out]⟩
          case measure => simp [intOf]; omega
        · have hb := str_f he
          have HE := hid he
          clear he
          go_wp2
          go_quiet (fail)
          go_wp2
          go_ret
          exact ⟨ret_bool (by symm; rw [decide_eq_false_iff_not]; intro e; subst e; exact HE.out rfl), n + nq, by simp⟩
      · clear hc hc'
        go_wp2
        go_ret
        exact ⟨ret_bool (by
          have := HN.out
          have hl := HL.out
          rw [List.take_of_length_le (by omega), List.take_of_length_le (by omega)] at this
          simp [this]), n, rfl⟩
  · have hlb : ((xs.length : Int) != (ys.length : Int)) = true := net (by omega)
    have HL := hid hl
    clear hl
    go_enter Try.func34, Try.ntmps34
    go_wp2
    go_ret
    exact ⟨ret_bool (by symm; rw [decide_eq_false_iff_not]; intro e; subst e; exact HL.out rfl), 0, rfl⟩

def fr (xs : List ByteArray) (key : ByteArray) : List ByteArray := key :: rm xs key
def bk (xs : List ByteArray) (key : ByteArray) : List ByteArray := rm xs key ++ [key]
theorem fr_le (xs : List ByteArray) (key : ByteArray) : (fr xs key).length ≤ xs.length + 1 := by have := rm_le xs key; simp [fr]; omega
theorem bk_le (xs : List ByteArray) (key : ByteArray) : (bk xs key).length ≤ xs.length + 1 := by have := rm_le xs key; simp [bk]; omega
theorem ones (xs : List ByteArray) : ∀ u ∈ xs.map Value.string, u.oneCell' = true := by
  intro u hu; obtain ⟨x, _, rfl⟩ := List.mem_map.1 hu; rfl

theorem ref03_Front (v : Value) (xs : List ByteArray) (key : ByteArray) (w : World) (S : Nat → Prop) (h : Strs w S v xs) (hb : xs.length ≤ 1000000000) :
    Calls Try.prog 41 #[v, .string key] w fun e w' => ∃ v', e = .returned v' ∧ Mod Nil w w' ∧
      Row w' (fun k => w.heap.size ≤ k) 9 1 v' (fr xs key).length ((fr xs key).map Value.string) := by
  have hrl := rm_le xs key
  have h2 := h.alloc (.cells #[.string key] 9)
  have hf := Row.fresh (n := 1) (size := 1) w [.string key] 9 rfl (by unfold maxLen; omega)
  go_enter Try.func41, Try.ntmps41
  go_wp2_with (first
    | (go_at_call 31; refine (ref03_Remove _ xs key _ S h2 hb).mono ?_; rintro e w1 ⟨v1, rfl, hm1, hr1⟩)
    | (at_builtin; refine wpRowCells rfl _ _ rfl sl_str (by omega) (hf.modNil hm1) rfl hr1.cells rfl (ones _) (by unfold maxLen; omega) (by omega) ?_; intro v2 w2 hr2 hm2))
  go_ret
  have hm := ((Mod.refl Nil w).alloc (.cells #[.string key] 9)).trans hm1
  have hs := hm.size
  refine ⟨v2, rfl, hm.trans' hm2 fun j hj q => (Nat.not_lt.2 q hj).elim, ?_⟩
  have e : (fr xs key).length = 1 + (rm xs key).length := by simp [fr]; omega
  rw [e]
  exact hr2.mono fun j _ q => q.elim id fun q => Nat.le_trans hs q

theorem ref03_Back (v : Value) (xs : List ByteArray) (key : ByteArray) (w : World) (S : Nat → Prop) (h : Strs w S v xs) (hb : xs.length ≤ 1000000000) :
    Calls Try.prog 42 #[v, .string key] w fun e w' => ∃ v', e = .returned v' ∧ Mod Nil w w' ∧
      Row w' (fun k => w.heap.size ≤ k) 9 1 v' (bk xs key).length ((bk xs key).map Value.string) := by
  have hrl := rm_le xs key
  go_enter Try.func42, Try.ntmps42
  go_wp2_with (first
    | (go_at_call 31; refine (ref03_Remove _ xs key _ S h hb).mono ?_; rintro e w1 ⟨v1, rfl, hm1, hr1⟩)
    | (at_builtin; refine wpRowPush rfl _ _ rfl sl_str (by omega) hr1 rfl rfl (by simp) [.string key] 9 rfl ?_ (by unfold maxLen; omega) (by omega) ?_))
  · simp [Value.oneCell']
  · intro v2 w2 hr2 hm2 _
    go_wp2
    go_ret
    have hs := hm1.size
    refine ⟨v2, rfl, hm1.trans' hm2 fun j hj q => (Nat.not_lt.2 q hj).elim, ?_⟩
    have e : (bk xs key).length = (rm xs key).length + 1 := by simp [bk]
    rw [e, bk, List.map_append]
    exact hr2.mono fun j _ q => q.elim id fun q => Nat.le_trans hs q

end Go.Proofs.Ythbffkdfahlpdaa
