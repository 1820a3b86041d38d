/- The reference's lanes (cachewiseref02.Next, Left, Pick). -/
import Derived.Test.YthbffkdfahlpdaaDrawB
set_option linter.unusedVariables false
namespace Go.Proofs.Ythbffkdfahlpdaa
open Go.RowKit Go.MapKept Go.ChangeShapes Go.WideShapes Go.Deep

/-- Lanes that are read. -/
def Lanes (w : World) (S : Nat → Prop) (v : Value) (ls : List (List Int)) : Prop := ∃ vs, Cells w S v ls.length 1 vs ∧ AllL (Lane w S) vs ls
section
variable {w w' : World} {S S' : Nat → Prop} {v : Value} {ls : List (List Int)}
theorem Lanes.modNil (h : Lanes w S v ls) (hm : Mod Nil w w') : Lanes w' S v ls := by
  obtain ⟨vs, h1, h2⟩ := h
  exact ⟨vs, h1.modNil hm, h2.mono fun _ _ q => Cells.modNil q hm⟩
theorem Lanes.shape (h : Lanes w S v ls) : ∃ a cap, v = .slice a ls.length cap ∧ ls.length ≤ cap ∧ cap ≤ maxLen := by
  obtain ⟨vs, h1, h2⟩ := h
  obtain ⟨a, cap, h3, h4, h5, _⟩ := h1.shape
  exact ⟨a, cap, h3, h4, h5⟩
/-- One lane's slice. -/
theorem Lanes.one {a : Option Addr} {n cap : Nat} (h : Lanes w S (.slice a n cap) ls) {k : Nat} (hk : k < ls.length) : ∃ g off b c, a = some ⟨g, off, none⟩ ∧ w.cell? ⟨g, off + k, none⟩ = some (.slice b ls[k].length c) ∧ ls[k].length ≤ c ∧ c ≤ maxLen ∧ Lane w S (.slice b ls[k].length c) ls[k] := by
  obtain ⟨vs, h1, h2⟩ := h
  obtain ⟨u, hu, hL⟩ := h2.2 k hk
  have hn : n = ls.length := by obtain ⟨_, _, e, _⟩ := h1; injection e
  subst hn
  obtain ⟨g, off, rfl, _⟩ := Cells.get h1 hu
  obtain ⟨b, c, rfl, h3, h4, _⟩ := Cells.shape hL
  exact ⟨g, off, b, c, rfl, Cells.getAt h1 hu, h3, h4, hL⟩
/-- A draw's cell. -/
theorem Lane.cell {b : Option Addr} {n c k : Nat} {l : List Int} {x : Int} (h : Lane w S (.slice b n c) l) (hx : l[k]? = some x) : ∃ g off, b = some ⟨g, off, none⟩ ∧ w.cell? ⟨g, off + k, none⟩ = some (.int .u64 x) := by
  have hn : n = l.length := by obtain ⟨_, _, e, _⟩ := h; injection e
  subst hn
  have hx' : (l.map (Value.int .u64))[k]? = some (.int .u64 x) := by rw [List.getElem?_map, hx]; rfl
  obtain ⟨g, off, rfl, _⟩ := Cells.get h hx'
  exact ⟨g, off, rfl, Cells.getAt h hx'⟩
end

section
variable {w : World} {S : Nat → Prop} {v : Value} {ls : List (List Int)}
set_option maxHeartbeats 1600000 in
set_option maxRecDepth 100000 in
theorem ref02_Left (h : Lanes w S v ls) (i : Int) (hi : -9223372036854775808 ≤ i ∧ i ≤ 9223372036854775807) (n : Nat) (hn : n ≤ 1000000) :
    Calls Try.prog 22 #[v, .int .i64 i, .int .i64 (n : Int)] w fun e w' => e = .returned (.int .i64 (((ln ls i).drop n).length : Nat)) ∧ w = w' := by
  obtain ⟨a, cap, rfl, hc1, hc2⟩ := h.shape
  unfold maxLen at hc2
  obtain ⟨d, hd⟩ : ∃ d, d = ((ln ls i).drop n).length := ⟨_, rfl⟩
  rw [← hd]
  by_cases h0 : i < 0
  · have h0' : decide (i < 0) = true := decide_eq_true h0
    have e : d = 0 := by rw [hd, ln_neg h0, List.drop_nil]; rfl
    subst e
    clear hd h
    go_enter Try.func22, Try.ntmps22
    go_wp2_with fail
    go_ret
    exact ⟨rfl, rfl⟩
  · have h0' : decide (i < 0) = false := decide_eq_false h0
    by_cases h1 : (ls.length : Int) ≤ i
    · have h1' : decide ((ls.length : Int) ≤ i) = true := decide_eq_true h1
      have e : d = 0 := by rw [hd, ln_out h1, List.drop_nil]; rfl
      subst e
      clear hd h
      go_enter Try.func22, Try.ntmps22
      go_wp2_with fail
      go_ret
      exact ⟨rfl, rfl⟩
    · have h1' : decide ((ls.length : Int) ≤ i) = false := decide_eq_false h1
      obtain ⟨k, rfl⟩ : ∃ k : Nat, i = k := ⟨i.toNat, by omega⟩
      have hk : k < ls.length := by omega
      obtain ⟨g, off, b, c, rfl, p0, q1, q2, _⟩ := h.one hk
      unfold maxLen at q2
      rw [ln_nat hk, List.length_drop] at hd
      generalize ls[k].length = L at *
      have hkn : (k : Int) < (ls.length : Int) := by omega
      clear h
      by_cases h2 : (L : Int) ≤ n
      · have h2' : decide ((L : Int) ≤ n) = true := decide_eq_true h2
        obtain rfl : d = 0 := by omega
        clear hd
        go_enter Try.func22, Try.ntmps22
        go_wp2_with fail
        go_ret
        exact ⟨rfl, rfl⟩
      · have h2' : decide ((L : Int) ≤ n) = false := decide_eq_false h2
        have HD := hid hd
        clear hd
        go_enter Try.func22, Try.ntmps22
        go_wp2_with fail
        go_ret
        exact ⟨ret_int (by have := HD.out; omega), rfl⟩

set_option maxHeartbeats 1600000 in
set_option maxRecDepth 100000 in
theorem ref02_Next (h : Lanes w S v ls) (i : Int) (hi : -9223372036854775808 ≤ i ∧ i ≤ 9223372036854775807) (n : Nat) (hn : n ≤ 1000000) :
    Calls Try.prog 16 #[v, .int .i64 i, .int .i64 (n : Int)] w fun e w' => e = .returned (.int .u64 (((ln ls i).drop n).headD 0)) ∧ w = w' := by
  obtain ⟨a, cap, rfl, hc1, hc2⟩ := h.shape
  unfold maxLen at hc2
  obtain ⟨d, hd⟩ : ∃ d, d = ((ln ls i).drop n).headD 0 := ⟨_, rfl⟩
  rw [← hd]
  by_cases h0 : i < 0
  · have h0' : decide (i < 0) = true := decide_eq_true h0
    have e : d = 0 := by rw [hd, ln_neg h0, List.drop_nil]; rfl
    subst e
    clear hd h
    go_enter Try.func16, Try.ntmps16
    go_wp2_with fail
    go_ret
    exact ⟨rfl, rfl⟩
  · have h0' : decide (i < 0) = false := decide_eq_false h0
    by_cases h1 : (ls.length : Int) ≤ i
    · have h1' : decide ((ls.length : Int) ≤ i) = true := decide_eq_true h1
      have e : d = 0 := by rw [hd, ln_out h1, List.drop_nil]; rfl
      subst e
      clear hd h
      go_enter Try.func16, Try.ntmps16
      go_wp2_with fail
      go_ret
      exact ⟨rfl, rfl⟩
    · have h1' : decide ((ls.length : Int) ≤ i) = false := decide_eq_false h1
      obtain ⟨k, rfl⟩ : ∃ k : Nat, i = k := ⟨i.toNat, by omega⟩
      have hk : k < ls.length := by omega
      obtain ⟨g, off, b, c, rfl, p0, q1, q2, hL⟩ := h.one hk
      unfold maxLen at q2
      rw [ln_nat hk] at hd
      generalize ls[k] = l at *
      have hkn : (k : Int) < (ls.length : Int) := by omega
      clear h
      by_cases h2 : (l.length : Int) ≤ n
      · have h2' : decide ((l.length : Int) ≤ n) = true := decide_eq_true h2
        have e : d = 0 := by rw [hd, List.drop_eq_nil_of_le (by omega)]; rfl
        subst e
        clear hd hL
        go_enter Try.func16, Try.ntmps16
        go_wp2_with fail
        go_ret
        exact ⟨rfl, rfl⟩
      · have h2' : decide ((l.length : Int) ≤ n) = false := decide_eq_false h2
        have hnl : n < l.length := by omega
        have hx : l[n]? = some d := by rw [hd, List.drop_eq_getElem_cons hnl, List.getElem?_eq_getElem hnl]; rfl
        obtain ⟨g2, off2, rfl, p1⟩ := Lane.cell hL hx
        have hni : (n : Int) < (l.length : Int) := by omega
        clear hd hL hx
        go_enter Try.func16, Try.ntmps16
        go_wp2_with fail
        go_ret
        exact ⟨rfl, rfl⟩

theorem ref02_Pick (n p : Int) (h0 : 0 ≤ n) (h1 : n < 18446744073709551616) : Calls Try.prog 19 #[.int .u64 n, .int .u64 p] w fun e w' => e = .returned (.bool (decide (n / 4 < p))) ∧ w = w' := by
  go_enter Try.func19, Try.ntmps19
  go_wp2_with fail
  go_ret
  exact ⟨rfl, rfl⟩
end

/-- How often each lane was asked. -/
def cnt (m : List (Int × Nat)) (i : Int) : Nat := (lk m i).getD 0
def bump (m : List (Int × Nat)) (i : Int) : List (Int × Nat) := put m i (cnt m i + 1)
theorem cnt_bump (m : List (Int × Nat)) (i j : Int) : cnt (bump m i) j = if j = i then cnt m i + 1 else cnt m j := by
  unfold cnt bump
  rw [lk_put]
  split <;> rfl
theorem ln_nx (ls : List (List Int)) (i j : Int) : ln (nx ls i) j = if j = i then (ln ls i).tail else ln ls j := by
  by_cases hi : i < 0
  · have e : nx ls i = ls := if_pos hi
    rw [e]
    split
    · rename_i q; subst q; rw [ln_neg hi]; rfl
    · rfl
  · obtain ⟨k, rfl⟩ : ∃ k : Nat, i = k := ⟨i.toNat, by omega⟩
    have e : nx ls (k : Int) = ls.set k (ln ls k).tail := by unfold nx; rw [if_neg hi]; rfl
    rw [e]
    by_cases hj : j < 0
    · rw [ln_neg hj, if_neg (by omega), ln_neg hj]
    · obtain ⟨l, rfl⟩ : ∃ l : Nat, j = l := ⟨j.toNat, by omega⟩
      by_cases hkl : l = k
      · subst hkl
        rw [if_pos rfl]
        by_cases hlt : l < ls.length
        · rw [ln_nat (by rw [List.length_set]; exact hlt), List.getElem_set_self]
        · rw [ln_out (by rw [List.length_set]; omega), ln_out (by omega)]; rfl
      · rw [if_neg (by omega)]
        by_cases hlt : l < ls.length
        · rw [ln_nat (by rw [List.length_set]; exact hlt), ln_nat hlt, List.getElem_set_ne (Ne.symm hkl)]
        · rw [ln_out (by rw [List.length_set]; omega), ln_out (by omega)]
theorem length_nx (ls : List (List Int)) (i : Int) : (nx ls i).length = ls.length := by unfold nx; split <;> simp
/-- ts: what is left of ls, behind m's draws. -/
def Behind (ls ts : List (List Int)) (m : List (Int × Nat)) : Prop := ts.length = ls.length ∧ ∀ i, ln ts i = (ln ls i).drop (cnt m i)
theorem Behind.start (ls : List (List Int)) : Behind ls ls [] := ⟨rfl, fun i => by simp [cnt, lk]⟩
theorem Behind.next {ls ts : List (List Int)} {m : List (Int × Nat)} (h : Behind ls ts m) (i : Int) : Behind ls (nx ts i) (bump m i) := by
  refine ⟨(length_nx _ _).trans h.1, fun j => ?_⟩
  rw [ln_nx, cnt_bump]
  split
  · rename_i q; subst q; rw [h.2, List.tail_drop]
  · exact h.2 j
theorem Behind.le {ls ts : List (List Int)} {m : List (Int × Nat)} (h : Behind ls ts m) {n : Nat} (hl : ∀ l ∈ ls, l.length ≤ n) : ∀ l ∈ ts, l.length ≤ n := by
  intro l hm
  obtain ⟨k, hk, rfl⟩ := List.mem_iff_getElem.1 hm
  have hk' : k < ls.length := by rw [← h.1]; exact hk
  have e := h.2 k
  rw [ln_nat hk, ln_nat hk'] at e
  rw [e, List.length_drop]
  have := hl _ (List.getElem_mem hk')
  omega

/-! ### lanes that came in -/
theorem el_lane {H : Type} {enc : TypeId × Value → H} {w : World} {sp : Nat → Bool} {held : Bool} {n : Nat} {cs : List Value} {y : DataW H × List MemPlace}
    (h : DataW.trod enc Try.prog w 0 sp held n 25 cs = some y) : ∃ x : {u : Value // ∃ l : List {a : Int // (Lit.int .u64 a).wf = true}, Lane w (fun k => k < w.heap.size) u (l.map Subtype.val)}, cs = [x.1] := by
  have hx := h
  rcases open_slice Try.underlying25 h with ⟨hcs, _⟩ | ⟨a', len', cap', m, n', D, Pl, hcs, _⟩
  · exact ⟨⟨.slice none 0 0, [], Cells.cutNone none (by decide) 1⟩, hcs⟩
  · subst hcs
    obtain ⟨xs, hxs⟩ := open_cells (size := 1) (fun x : {a : Int // (Lit.int .u64 a).wf = true} => [Value.int .u64 x.1]) Try.underlying25 (by kernel_rfl) (by decide) (fun _ _ _ h => el_int Try.underlying28 h) (fun _ => rfl) (show DataW.Trod enc Try.prog w 0 sp held 25 (.slice (some a') len' cap') y.1 y.2 from ⟨n, hx⟩)
    exact ⟨⟨_, xs, lane_of hxs⟩, rfl⟩
theorem lanes_of {w : World} {v : Value} {xs : List {u : Value // ∃ l : List {a : Int // (Lit.int .u64 a).wf = true}, Lane w (fun k => k < w.heap.size) u (l.map Subtype.val)}}
    (h : Cells w (fun k => k < w.heap.size) v xs.length 1 (xs.flatMap fun x => [x.1])) : ∃ ls : List (List Int), Lanes w (fun k => k < w.heap.size) v ls ∧ ∀ l ∈ ls, ∀ x ∈ l, 0 ≤ x ∧ x < 18446744073709551616 := by
  have : ∀ ys : List {u : Value // ∃ l : List {a : Int // (Lit.int .u64 a).wf = true}, Lane w (fun k => k < w.heap.size) u (l.map Subtype.val)}, ∃ ls : List (List Int), ls.length = ys.length ∧ AllL (Lane w (fun k => k < w.heap.size)) (ys.flatMap fun x => [x.1]) ls ∧ ∀ l ∈ ls, ∀ x ∈ l, 0 ≤ x ∧ x < 18446744073709551616 := by
    intro ys
    induction ys with
    | nil => exact ⟨[], rfl, ⟨rfl, fun i hi => by simp at hi⟩, by simp⟩
    | cons y ys ih =>
      obtain ⟨ls, h1, h2, h3⟩ := ih
      obtain ⟨u, l, hl⟩ := y
      refine ⟨l.map Subtype.val :: ls, by simp [h1], ⟨by simpa using h2.1, fun i hi => ?_⟩, fun l' hl' => ?_⟩
      · cases i with
        | zero => exact ⟨u, rfl, hl⟩
        | succ i => exact h2.2 i (by simpa using hi)
      · rcases List.mem_cons.1 hl' with rfl | hl'
        · intro x hx
          obtain ⟨⟨z, hz⟩, _, rfl⟩ := List.mem_map.1 hx
          exact u64_range hz
        · exact h3 l' hl'
  obtain ⟨ls, h1, h2, h3⟩ := this xs
  exact ⟨ls, ⟨_, by rw [h1]; exact h, h2⟩, h3⟩
end Go.Proofs.Ythbffkdfahlpdaa
