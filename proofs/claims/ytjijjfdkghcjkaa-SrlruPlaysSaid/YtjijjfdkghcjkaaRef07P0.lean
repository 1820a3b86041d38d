/- cachewiseref07: its functions over rows that are read. -/
import Derived.Test.YtjijjfdkghcjkaaSepW
import Derived.Test.YtjijjfdkghcjkaaRefS
set_option linter.unusedVariables false
namespace Go.Proofs.Ytjijjfdkghcjkaa
open Go.RowKit Go.MapKept

abbrev K7 := ByteArray × Bool × Bool
abbrev kz7 : K7 := (⟨#[]⟩, false, false)
abbrev kq7 (x : K7) : List Value := [sV x.1, bV x.2.1, bV x.2.2]
theorem sl_it07 : ElemT Try.prog 59 88 3 24 := elemT (z := .agg #[sV ⟨#[]⟩, bV false, bV false]) Try.underlying59 (by kernel_rfl) rfl
/-- The row without a key. -/
def rem7 (l : List K7) (s : ByteArray) : List K7 := l.filter fun y => y.1 ≠ s
theorem find7_hit {l : List K7} {k : Nat} {s : ByteArray} (h : ∀ y ∈ l.take k, y.1 ≠ s) (hk : k < l.length) (e : (l.getD k kz7).1 = s) : lk l s = some (l.getD k kz7).2 := by
  have e1 : l = l.take k ++ l.getD k kz7 :: l.drop (k + 1) := by
    rw [getD_lt hk, ← List.drop_eq_getElem_cons hk, List.take_append_drop]
  generalize hA : l.take k = A at h e1
  generalize l.getD k kz7 = y at e e1 ⊢
  generalize l.drop (k + 1) = B at e1
  subst e1; clear hA hk
  induction A with
  | nil => subst e; simp [lk]
  | cons x A ih => rw [List.cons_append, lk, if_neg (h x (List.mem_cons_self ..))]; exact ih (fun z hz => h z (List.mem_cons_of_mem _ hz))
theorem find7_step {l : List K7} {k : Nat} {s : ByteArray} (h : ∀ y ∈ l.take k, y.1 ≠ s) (hk : k < l.length) (e : ¬ (l.getD k kz7).1 = s) : ∀ y ∈ l.take (k + 1), y.1 ≠ s := by
  intro y hy
  rw [List.take_add_one, List.getElem?_eq_getElem hk] at hy
  rcases List.mem_append.1 hy with q | q
  · exact h y q
  · simp at q; subst q; rwa [getD_lt hk] at e
theorem find7_miss {l : List K7} {k : Nat} {s : ByteArray} (h : ∀ y ∈ l.take k, y.1 ≠ s) (hk : ¬ k < l.length) : lk l s = none := by
  rw [List.take_of_length_le (by omega)] at h
  exact lk_none.2 fun q => by obtain ⟨y, hy, e⟩ := List.mem_map.1 q; exact h y hy e
theorem rem7_step {l : List K7} {k : Nat} {s : ByteArray} (hk : k < l.length) : rem7 (l.take (k + 1)) s = if (l.getD k kz7).1 ≠ s then rem7 (l.take k) s ++ [l.getD k kz7] else rem7 (l.take k) s := by
  unfold rem7
  rw [List.take_add_one, List.getElem?_eq_getElem hk, List.filter_append, getD_lt hk]
  by_cases e : l[k].1 = s <;> simp [e]
theorem rem7_le (l : List K7) (s : ByteArray) : (rem7 l s).length ≤ l.length := List.length_filter_le _ _
/-- Names, from the last one on. -/
def nm7 (l : List K7) : List ByteArray := (l.map (·.1)).reverse
theorem nm7_len (l : List K7) : (nm7 l).length = l.length := by simp [nm7]
theorem nm7_step {l : List K7} {k : Nat} (h0 : 0 < k) (hk : k ≤ l.length) : nm7 (l.drop (k - 1)) = nm7 (l.drop k) ++ [(l.getD (k - 1) kz7).1] := by
  unfold nm7
  rw [List.drop_eq_getElem_cons (show k - 1 < l.length by omega), show k - 1 + 1 = k by omega, getD_lt (show k - 1 < l.length by omega)]
  simp
theorem take_fold {l : List ByteArray} {k : Nat} (hk : k < l.length) : (l.take (k + 1)).foldl fr [] = fr ((l.take k).foldl fr []) (l.getD k ⟨#[]⟩) := by
  rw [List.take_add_one, List.getElem?_eq_getElem hk, List.foldl_append, getD_lt hk]; rfl
theorem fold_fr_le (l : List ByteArray) : ∀ a : List ByteArray, (l.foldl fr a).length ≤ a.length + l.length := by
  induction l with
  | nil => intro a; simp
  | cons x l ih => intro a; have := ih (fr a x); have h2 := fr_le a x; rw [List.foldl_cons, List.length_cons]; omega
/-- Those too many of A go to N's front. -/
def dem7 (t : Int) : Nat → List K7 → List K7 → List K7 × List K7
  | 0, N, A => (N, A)
  | k + 1, N, A => if (A.length : Int) > t ∧ (A.length : Int) > 1 then dem7 t k ([((A.getD (A.length - 1) kz7).1, true, true)] ++ N) (A.take (A.length - 1)) else (N, A)
theorem dem7_stop {t : Int} {N A : List K7} (h : ¬ ((A.length : Int) > t ∧ (A.length : Int) > 1)) (k : Nat) : dem7 t k N A = (N, A) := by
  cases k with
  | zero => rfl
  | succ k => rw [dem7, if_neg h]
theorem dem7_go {t : Int} {N A : List K7} (h : (A.length : Int) > t ∧ (A.length : Int) > 1) : dem7 t A.length N A = dem7 t (A.take (A.length - 1)).length ([((A.getD (A.length - 1) kz7).1, true, true)] ++ N) (A.take (A.length - 1)) := by
  obtain ⟨k, e⟩ : ∃ k, A.length = k + 1 := ⟨A.length - 1, by omega⟩
  have e2 : (A.take (A.length - 1)).length = k := by rw [List.length_take]; omega
  rw [e2]
  conv => lhs; rw [e, dem7, if_pos h]
def r7Again (Most t : Int) (N A G : List K7) (s : ByteArray) : List K7 × List K7 × List K7 := ((dem7 t ([(s, true, false)] ++ A).length N ([(s, true, false)] ++ A)).1, (dem7 t ([(s, true, false)] ++ A).length N ([(s, true, false)] ++ A)).2, G)
set_option maxHeartbeats 8000000 in
set_option maxRecDepth 100000 in
theorem t_find07 {la : Option Addr} {lc : Nat} {l : List K7} {s : ByteArray} (hb : l.length ≤ 1000000) (hh : (lk l s).isSome = true) : Tri Try.prog 73 #[.slice la l.length lc, sV s] [vewR 3 (.slice la l.length lc) l.length (l.flatMap kq7)] (Same [vewR 3 (.slice la l.length lc) l.length (l.flatMap kq7)] (.tuple #[.agg #[sV s, bV ((lk l s).getD (false, false)).1, bV ((lk l s).getD (false, false)).2], bV true])) := by
  refine Tri.enter (args := [.slice la l.length lc, sV s]) Try.func73 rfl rfl rfl (fun B wz => ?_)
  refine Cd.fact (i := 0) rfl vew_cap ?_; intro hcap0
  refine Cd.seq ?_
  refine Cd.region rfl ?_
  refine Sq.ex [] (l := []) (o_new [sV ⟨#[]⟩, bV false, bV false] (fun w => by kernel_rfl)) (by kernel_rfl) rfl (by kernel_rfl) (fun _ => Nat.zero_le _) ?_; intro b3 _
  refine Sq.vals [1] (rest := []) [bV false] (fun w => by kernel_rfl) ?_
  refine Sq.done ?_
  refine Ex'.next ?_
  refine Cd.seq ?_
  refine Cd.seq ?_
  refine Cd.region rfl ?_
  refine Sq.vals [0] (rest := []) [iV 0] (fun w => by kernel_rfl) ?_
  refine Sq.done ?_
  refine Ex'.next ?_
  refine Cd.block ?_
  refine Cd.loop (ι := Nat) (fun k => k ≤ l.length ∧ ∀ y ∈ l.take k, y.1 ≠ s) (fun k => l.length - k) (fun k => [(0, .slice la l.length lc), (1, sV s), (4, pV b3 0), (6, iV (k : Int))]) (fun k => [vewR 3 (.slice la l.length lc) l.length (l.flatMap kq7), blkR b3 [sV ⟨#[]⟩, bV false, bV false] 88]) 0 (⟨Nat.zero_le _, by simp⟩) (subB_eq (l := [0, 1, 4, 6]) (by kernel_rfl)) (fun w hw => hw.pickB [0, 1] (by kernel_rfl) (by kernel_rfl) (by kernel_rfl)) ?_
  rintro k hL4
  try dsimp only at hL4 ⊢
  obtain ⟨hk, hno⟩ := hL4
  refine Cd.seq ?_
  refine Cd.seq ?_
  refine Cd.region rfl ?_
  refine Sq.vals [0, 1, 2, 3] (rest := []) [iV (k : Int), .slice la l.length lc, iV (l.length : Int), bV (decide ((k : Int) < (l.length : Int)))] (fun w => by kernel_rfl) ?_
  refine Sq.done ?_
  refine Ex'.next ?_
  refine Cd.case (p := (k : Int) < (l.length : Int)) (by kernel_rfl) (fun h5 => ?_) (fun h5 => ?_)
  ·
    refine Cd.fact (i := 0) (R := vewR 3 (.slice la l.length lc) l.length (l.flatMap kq7)) (by kernel_rfl) (vew_addr (by omega)) ?_; rintro ⟨b6, off7, rfl⟩
    refine Cd.skip ?_
    refine Ex'.next ?_
    refine Cd.seq ?_
    refine Cd.block ?_
    refine Cd.seq ?_
    refine Cd.region rfl ?_
    refine Sq.vals [0, 1] (rest := [2, 3, 4, 5, 6]) [.slice (some ⟨b6, off7, none⟩) l.length lc, iV (k : Int)] (fun w => by kernel_rfl) ?_
    refine Sq.v (r := pV b6 (off7 + k * 3)) (o_idx (b := b6) (cap := lc) (e := 88) (off := off7) (n := l.length) (kd := .i64) (q := (k : Int)) (i := k) (size := 3) (j := off7 + k * 3) (by kernel_rfl) (by kernel_rfl) (by rfl) (by omega) Try.underlying59 (by kernel_rfl) (by omega)) rfl (by kernel_rfl) ?_
    refine Sq.vals [3] (rest := [4, 5, 6]) [pV b6 (off7 + k * 3)] (fun w => by kernel_rfl) ?_
    refine Sq.same [0] (l := [vewR 3 (.slice (some ⟨b6, off7, none⟩) l.length lc) l.length (l.flatMap kq7)]) (o_loadView (off := off7) (j := k * 3) (u := sV ((l.getD k kz7).1)) (by kernel_rfl) (by omega) (by kernel_rfl) ((rec_get (f := kq7) (k := 3) (z := kz7) (l := l) (i := k) (j := 0) (fun _ => rfl) (by omega) (by decide)).trans rfl)) (by kernel_rfl) rfl (by kernel_rfl) rfl ?_
    refine Sq.vals [5] (rest := [6]) [sV s] (fun w => by kernel_rfl) ?_
    refine Sq.v (r := bV (decide ((l.getD k kz7).1 = s))) (o_eqS (a := (l.getD k kz7).1) (b := s) (by kernel_rfl) (by kernel_rfl)) rfl (by kernel_rfl) ?_
    refine Sq.done ?_
    refine Ex'.next ?_
    refine Cd.case (p := (l.getD k kz7).1 = s) (by kernel_rfl) (fun h8 => ?_) (fun h8 => ?_)
    ·
      refine Cd.seq ?_
      refine Cd.region rfl ?_
      refine Sq.vals [0, 1] (rest := [2, 3, 4, 5]) [.slice (some ⟨b6, off7, none⟩) l.length lc, iV (k : Int)] (fun w => by kernel_rfl) ?_
      refine Sq.v (r := pV b6 (off7 + k * 3)) (o_idx (b := b6) (cap := lc) (e := 88) (off := off7) (n := l.length) (kd := .i64) (q := (k : Int)) (i := k) (size := 3) (j := off7 + k * 3) (by kernel_rfl) (by kernel_rfl) (by rfl) (by omega) Try.underlying59 (by kernel_rfl) (by omega)) rfl (by kernel_rfl) ?_
      refine Sq.same [0] (l := [vewR 3 (.slice (some ⟨b6, off7, none⟩) l.length lc) l.length (l.flatMap kq7)]) (o_loadViewN (off := off7) (j := k * 3) [sV ((l.getD k kz7).1), bV ((l.getD k kz7).2.1), bV ((l.getD k kz7).2.2)] (by kernel_rfl) (by omega) (by kernel_rfl) (rec_gets (f := kq7) (k := 3) (z := kz7) (l := l) (i := k) (o := 0) (fun _ => rfl) (by omega) (Nat.le_of_ble_eq_true rfl) rfl)) (by kernel_rfl) rfl (by kernel_rfl) rfl ?_
      refine Sq.same [1] (l := [blkR b3 [sV ⟨#[]⟩, bV false, bV false] 88]) (o_store (i := 0) (v := .agg #[sV ((l.getD k kz7).1), bV ((l.getD k kz7).2.1), bV ((l.getD k kz7).2.2)]) (by kernel_rfl) (by kernel_rfl) (by kernel_rfl) (by kernel_rfl) (by kernel_rfl)) (by kernel_rfl) rfl (by kernel_rfl) rfl ?_
      refine Sq.vals [5] (rest := []) [bV true] (fun w => by kernel_rfl) ?_
      refine Sq.done ?_
      refine Ex'.next ?_
      refine Cd.ret ?_
      refine Ex'.blockRet ?_
      refine Ex'.thenRet ?_
      refine Ex'.thenRet ?_
      refine Ex'.blockRet ?_
      refine Ex'.thenRet ?_
      refine Ex'.ret Try.results73 (RVs.cellN (i := 0) (b := b3) (l := [sV ((l.getD k kz7).1), bV ((l.getD k kz7).2.1), bV ((l.getD k kz7).2.2)]) (E := 88) [sV ((l.getD k kz7).1), bV ((l.getD k kz7).2.1), bV ((l.getD k kz7).2.2)] 1 (by kernel_rfl) (by kernel_rfl) (by kernel_rfl) (by kernel_rfl) (RVs.tmp (v := bV true) (by kernel_rfl) (RVs.nil))) (fun w hw => ?_)
      have e := find7_hit hno (by omega) h8; have e2 := h8
      exact ⟨_, ⟨by rw [e, ← e2]; rfl, rfl⟩, hw.pickB [0] (by kernel_rfl) (by kernel_rfl) (by kernel_rfl)⟩
    ·
      refine Cd.skip ?_
      refine Ex'.blockNormal ?_
      refine Ex'.next ?_
      refine Cd.region rfl ?_
      refine Sq.vals [0] (rest := [1, 2]) [iV (k : Int)] (fun w => by kernel_rfl) ?_
      refine Sq.v (r := iV ((k + 1 : Nat) : Int)) (o_add (k := .i64) (a := (k : Int)) (b := 1) (c := ((k + 1 : Nat) : Int)) (by kernel_rfl) (by kernel_rfl) (w64 (by omega) (by omega))) rfl (by kernel_rfl) ?_
      refine Sq.vals [2] (rest := []) [iV ((k + 1 : Nat) : Int)] (fun w => by kernel_rfl) ?_
      refine Sq.done ?_
      refine Ex'.round (g := k) (k + 1) ?_ ?_ (subB_eq (l := [0, 1, 4, 6]) (by kernel_rfl)) (fun w hw => hw.pickB [0, 1] (by kernel_rfl) (by kernel_rfl) (by kernel_rfl))
      · (try dsimp only); exact ⟨by omega, find7_step hno (by omega) h8⟩
      · omega
  ·
    refine Cd.exit ?_
    refine Ex'.thenExit ?_
    refine Ex'.thenExit ?_
    refine Ex'.blockHit ?_
    refine Ex'.next ?_
    refine Cd.seq ?_
    refine Cd.region rfl ?_
    refine Sq.vals [0] (rest := [1, 2]) [.agg #[sV ⟨#[]⟩, bV false, bV false]] (fun w => by kernel_rfl) ?_
    refine Sq.same [1] (l := [blkR b3 [sV ⟨#[]⟩, bV false, bV false] 88]) (o_store (i := 0) (v := .agg #[sV ⟨#[]⟩, bV false, bV false]) (by kernel_rfl) (by kernel_rfl) (by kernel_rfl) (by kernel_rfl) (by kernel_rfl)) (by kernel_rfl) rfl (by kernel_rfl) rfl ?_
    refine Sq.vals [2] (rest := []) [bV false] (fun w => by kernel_rfl) ?_
    refine Sq.done ?_
    refine Ex'.next ?_
    refine Cd.ret ?_
    refine Ex'.ret Try.results73 (RVs.cellN (i := 0) (b := b3) (l := [sV ⟨#[]⟩, bV false, bV false]) (E := 88) [sV ⟨#[]⟩, bV false, bV false] 1 (by kernel_rfl) (by kernel_rfl) (by kernel_rfl) (by kernel_rfl) (RVs.tmp (v := bV false) (by kernel_rfl) (RVs.nil))) (fun w hw => ?_)
    have e := find7_miss hno (by omega)
    exact absurd hh (by rw [e]; simp)

set_option maxHeartbeats 8000000 in
set_option maxRecDepth 100000 in
theorem t_find07_no {la : Option Addr} {lc : Nat} {l : List K7} {s : ByteArray} (hb : l.length ≤ 1000000) (hh : ¬ (lk l s).isSome = true) : Tri Try.prog 73 #[.slice la l.length lc, sV s] [vewR 3 (.slice la l.length lc) l.length (l.flatMap kq7)] (Same [vewR 3 (.slice la l.length lc) l.length (l.flatMap kq7)] (.tuple #[.agg #[sV ⟨#[]⟩, bV false, bV false], bV false])) := by
  refine Tri.enter (args := [.slice la l.length lc, sV s]) Try.func73 rfl rfl rfl (fun B wz => ?_)
  refine Cd.fact (i := 0) rfl vew_cap ?_; intro hcap0
  refine Cd.seq ?_
  refine Cd.region rfl ?_
  refine Sq.ex [] (l := []) (o_new [sV ⟨#[]⟩, bV false, bV false] (fun w => by kernel_rfl)) (by kernel_rfl) rfl (by kernel_rfl) (fun _ => Nat.zero_le _) ?_; intro b3 _
  refine Sq.vals [1] (rest := []) [bV false] (fun w => by kernel_rfl) ?_
  refine Sq.done ?_
  refine Ex'.next ?_
  refine Cd.seq ?_
  refine Cd.seq ?_
  refine Cd.region rfl ?_
  refine Sq.vals [0] (rest := []) [iV 0] (fun w => by kernel_rfl) ?_
  refine Sq.done ?_
  refine Ex'.next ?_
  refine Cd.block ?_
  refine Cd.loop (ι := Nat) (fun k => k ≤ l.length ∧ ∀ y ∈ l.take k, y.1 ≠ s) (fun k => l.length - k) (fun k => [(0, .slice la l.length lc), (1, sV s), (4, pV b3 0), (6, iV (k : Int))]) (fun k => [vewR 3 (.slice la l.length lc) l.length (l.flatMap kq7), blkR b3 [sV ⟨#[]⟩, bV false, bV false] 88]) 0 (⟨Nat.zero_le _, by simp⟩) (subB_eq (l := [0, 1, 4, 6]) (by kernel_rfl)) (fun w hw => hw.pickB [0, 1] (by kernel_rfl) (by kernel_rfl) (by kernel_rfl)) ?_
  rintro k hL4
  try dsimp only at hL4 ⊢
  obtain ⟨hk, hno⟩ := hL4
  refine Cd.seq ?_
  refine Cd.seq ?_
  refine Cd.region rfl ?_
  refine Sq.vals [0, 1, 2, 3] (rest := []) [iV (k : Int), .slice la l.length lc, iV (l.length : Int), bV (decide ((k : Int) < (l.length : Int)))] (fun w => by kernel_rfl) ?_
  refine Sq.done ?_
  refine Ex'.next ?_
  refine Cd.case (p := (k : Int) < (l.length : Int)) (by kernel_rfl) (fun h5 => ?_) (fun h5 => ?_)
  ·
    refine Cd.fact (i := 0) (R := vewR 3 (.slice la l.length lc) l.length (l.flatMap kq7)) (by kernel_rfl) (vew_addr (by omega)) ?_; rintro ⟨b6, off7, rfl⟩
    refine Cd.skip ?_
    refine Ex'.next ?_
    refine Cd.seq ?_
    refine Cd.block ?_
    refine Cd.seq ?_
    refine Cd.region rfl ?_
    refine Sq.vals [0, 1] (rest := [2, 3, 4, 5, 6]) [.slice (some ⟨b6, off7, none⟩) l.length lc, iV (k : Int)] (fun w => by kernel_rfl) ?_
    refine Sq.v (r := pV b6 (off7 + k * 3)) (o_idx (b := b6) (cap := lc) (e := 88) (off := off7) (n := l.length) (kd := .i64) (q := (k : Int)) (i := k) (size := 3) (j := off7 + k * 3) (by kernel_rfl) (by kernel_rfl) (by rfl) (by omega) Try.underlying59 (by kernel_rfl) (by omega)) rfl (by kernel_rfl) ?_
    refine Sq.vals [3] (rest := [4, 5, 6]) [pV b6 (off7 + k * 3)] (fun w => by kernel_rfl) ?_
    refine Sq.same [0] (l := [vewR 3 (.slice (some ⟨b6, off7, none⟩) l.length lc) l.length (l.flatMap kq7)]) (o_loadView (off := off7) (j := k * 3) (u := sV ((l.getD k kz7).1)) (by kernel_rfl) (by omega) (by kernel_rfl) ((rec_get (f := kq7) (k := 3) (z := kz7) (l := l) (i := k) (j := 0) (fun _ => rfl) (by omega) (by decide)).trans rfl)) (by kernel_rfl) rfl (by kernel_rfl) rfl ?_
    refine Sq.vals [5] (rest := [6]) [sV s] (fun w => by kernel_rfl) ?_
    refine Sq.v (r := bV (decide ((l.getD k kz7).1 = s))) (o_eqS (a := (l.getD k kz7).1) (b := s) (by kernel_rfl) (by kernel_rfl)) rfl (by kernel_rfl) ?_
    refine Sq.done ?_
    refine Ex'.next ?_
    refine Cd.case (p := (l.getD k kz7).1 = s) (by kernel_rfl) (fun h8 => ?_) (fun h8 => ?_)
    ·
      refine Cd.seq ?_
      refine Cd.region rfl ?_
      refine Sq.vals [0, 1] (rest := [2, 3, 4, 5]) [.slice (some ⟨b6, off7, none⟩) l.length lc, iV (k : Int)] (fun w => by kernel_rfl) ?_
      refine Sq.v (r := pV b6 (off7 + k * 3)) (o_idx (b := b6) (cap := lc) (e := 88) (off := off7) (n := l.length) (kd := .i64) (q := (k : Int)) (i := k) (size := 3) (j := off7 + k * 3) (by kernel_rfl) (by kernel_rfl) (by rfl) (by omega) Try.underlying59 (by kernel_rfl) (by omega)) rfl (by kernel_rfl) ?_
      refine Sq.same [0] (l := [vewR 3 (.slice (some ⟨b6, off7, none⟩) l.length lc) l.length (l.flatMap kq7)]) (o_loadViewN (off := off7) (j := k * 3) [sV ((l.getD k kz7).1), bV ((l.getD k kz7).2.1), bV ((l.getD k kz7).2.2)] (by kernel_rfl) (by omega) (by kernel_rfl) (rec_gets (f := kq7) (k := 3) (z := kz7) (l := l) (i := k) (o := 0) (fun _ => rfl) (by omega) (Nat.le_of_ble_eq_true rfl) rfl)) (by kernel_rfl) rfl (by kernel_rfl) rfl ?_
      refine Sq.same [1] (l := [blkR b3 [sV ⟨#[]⟩, bV false, bV false] 88]) (o_store (i := 0) (v := .agg #[sV ((l.getD k kz7).1), bV ((l.getD k kz7).2.1), bV ((l.getD k kz7).2.2)]) (by kernel_rfl) (by kernel_rfl) (by kernel_rfl) (by kernel_rfl) (by kernel_rfl)) (by kernel_rfl) rfl (by kernel_rfl) rfl ?_
      refine Sq.vals [5] (rest := []) [bV true] (fun w => by kernel_rfl) ?_
      refine Sq.done ?_
      refine Ex'.next ?_
      refine Cd.ret ?_
      refine Ex'.blockRet ?_
      refine Ex'.thenRet ?_
      refine Ex'.thenRet ?_
      refine Ex'.blockRet ?_
      refine Ex'.thenRet ?_
      refine Ex'.ret Try.results73 (RVs.cellN (i := 0) (b := b3) (l := [sV ((l.getD k kz7).1), bV ((l.getD k kz7).2.1), bV ((l.getD k kz7).2.2)]) (E := 88) [sV ((l.getD k kz7).1), bV ((l.getD k kz7).2.1), bV ((l.getD k kz7).2.2)] 1 (by kernel_rfl) (by kernel_rfl) (by kernel_rfl) (by kernel_rfl) (RVs.tmp (v := bV true) (by kernel_rfl) (RVs.nil))) (fun w hw => ?_)
      have e := find7_hit hno (by omega) h8; have e2 := h8
      exact absurd hh (by rw [e]; simp)
    ·
      refine Cd.skip ?_
      refine Ex'.blockNormal ?_
      refine Ex'.next ?_
      refine Cd.region rfl ?_
      refine Sq.vals [0] (rest := [1, 2]) [iV (k : Int)] (fun w => by kernel_rfl) ?_
      refine Sq.v (r := iV ((k + 1 : Nat) : Int)) (o_add (k := .i64) (a := (k : Int)) (b := 1) (c := ((k + 1 : Nat) : Int)) (by kernel_rfl) (by kernel_rfl) (w64 (by omega) (by omega))) rfl (by kernel_rfl) ?_
      refine Sq.vals [2] (rest := []) [iV ((k + 1 : Nat) : Int)] (fun w => by kernel_rfl) ?_
      refine Sq.done ?_
      refine Ex'.round (g := k) (k + 1) ?_ ?_ (subB_eq (l := [0, 1, 4, 6]) (by kernel_rfl)) (fun w hw => hw.pickB [0, 1] (by kernel_rfl) (by kernel_rfl) (by kernel_rfl))
      · (try dsimp only); exact ⟨by omega, find7_step hno (by omega) h8⟩
      · omega
  ·
    refine Cd.exit ?_
    refine Ex'.thenExit ?_
    refine Ex'.thenExit ?_
    refine Ex'.blockHit ?_
    refine Ex'.next ?_
    refine Cd.seq ?_
    refine Cd.region rfl ?_
    refine Sq.vals [0] (rest := [1, 2]) [.agg #[sV ⟨#[]⟩, bV false, bV false]] (fun w => by kernel_rfl) ?_
    refine Sq.same [1] (l := [blkR b3 [sV ⟨#[]⟩, bV false, bV false] 88]) (o_store (i := 0) (v := .agg #[sV ⟨#[]⟩, bV false, bV false]) (by kernel_rfl) (by kernel_rfl) (by kernel_rfl) (by kernel_rfl) (by kernel_rfl)) (by kernel_rfl) rfl (by kernel_rfl) rfl ?_
    refine Sq.vals [2] (rest := []) [bV false] (fun w => by kernel_rfl) ?_
    refine Sq.done ?_
    refine Ex'.next ?_
    refine Cd.ret ?_
    refine Ex'.ret Try.results73 (RVs.cellN (i := 0) (b := b3) (l := [sV ⟨#[]⟩, bV false, bV false]) (E := 88) [sV ⟨#[]⟩, bV false, bV false] 1 (by kernel_rfl) (by kernel_rfl) (by kernel_rfl) (by kernel_rfl) (RVs.tmp (v := bV false) (by kernel_rfl) (RVs.nil))) (fun w hw => ?_)
    have e := find7_miss hno (by omega)
    exact ⟨_, ⟨rfl, rfl⟩, hw.pickB [0] (by kernel_rfl) (by kernel_rfl) (by kernel_rfl)⟩

set_option maxHeartbeats 8000000 in
set_option maxRecDepth 100000 in
theorem t_without07 {la : Option Addr} {lc : Nat} {l : List K7} {s : ByteArray} (hbd : l.length ≤ 1000000) : Tri Try.prog 75 #[.slice la l.length lc, sV s] [vewR 3 (.slice la l.length lc) l.length (l.flatMap kq7)] (PostE (ι := Value) (fun _ => True) (fun v => v) fun v => [vewR 3 (.slice la l.length lc) l.length (l.flatMap kq7), vewR 3 v ((rem7 l s).length) ((rem7 l s).flatMap kq7)]) := by
  refine Tri.enter (args := [.slice la l.length lc, sV s]) Try.func75 rfl rfl rfl (fun B wz => ?_)
  refine Cd.fact (i := 0) rfl vew_cap ?_; intro hcap0
  refine Cd.seq ?_
  refine Cd.region rfl ?_
  refine Sq.vals [0] (rest := []) [.slice none 0 0] (fun w => by kernel_rfl) ?_
  refine Sq.done ?_
  refine Ex'.next ?_
  refine Cd.seq ?_
  refine Cd.region rfl ?_
  refine Sq.vals [0] (rest := []) [.slice none 0 0] (fun w => by kernel_rfl) ?_
  refine Sq.done ?_
  refine Ex'.next ?_
  refine Cd.seq ?_
  refine Cd.seq ?_
  refine Cd.region rfl ?_
  refine Sq.vals [0] (rest := []) [iV 0] (fun w => by kernel_rfl) ?_
  refine Sq.done ?_
  refine Ex'.next ?_
  refine Cd.block ?_
  refine Cd.nilRow 88 3 ?_
  refine Cd.loop (ι := Nat × Value × (List K7)) (fun ⟨k, rv, ow⟩ => k ≤ l.length ∧ ow = rem7 (l.take k) s) (fun ⟨k, rv, ow⟩ => l.length - k) (fun ⟨k, rv, ow⟩ => [(0, .slice la l.length lc), (1, sV s), (4, .slice none 0 0), (6, iV (k : Int)), (5, rv)]) (fun ⟨k, rv, ow⟩ => [vewR 3 (.slice la l.length lc) l.length (l.flatMap kq7), rowR 88 3 rv ow.length (ow.flatMap kq7)]) (0, .slice none 0 0, ([] : List K7)) (⟨Nat.zero_le _, by simp [rem7]⟩) (subB_eq (l := [0, 1, 4, 6, 5]) (by kernel_rfl)) (fun w hw => hw.pickB [0, 1] (by kernel_rfl) (by kernel_rfl) (by kernel_rfl)) ?_
  rintro ⟨k, rv, ow⟩ hL1
  try dsimp only at hL1 ⊢
  obtain ⟨hk, hrw⟩ := hL1
  have hol : ow.length ≤ l.length := by rw [hrw]; exact Nat.le_trans (rem7_le _ _) (by rw [List.length_take]; omega)
  refine Cd.fact (i := 1) (R := rowR 88 3 rv ow.length (ow.flatMap kq7)) (by kernel_rfl) row_slice ?_; rintro ⟨a2, c3, rfl, hc3, hc3'⟩
  have hc3'' : c3 ≤ 9223372036854775807 := hc3'
  refine Cd.seq ?_
  refine Cd.seq ?_
  refine Cd.region rfl ?_
  refine Sq.vals [0, 1, 2, 3] (rest := []) [iV (k : Int), .slice la l.length lc, iV (l.length : Int), bV (decide ((k : Int) < (l.length : Int)))] (fun w => by kernel_rfl) ?_
  refine Sq.done ?_
  refine Ex'.next ?_
  refine Cd.case (p := (k : Int) < (l.length : Int)) (by kernel_rfl) (fun h4 => ?_) (fun h4 => ?_)
  ·
    refine Cd.fact (i := 0) (R := vewR 3 (.slice la l.length lc) l.length (l.flatMap kq7)) (by kernel_rfl) (vew_addr (by omega)) ?_; rintro ⟨b5, off6, rfl⟩
    refine Cd.skip ?_
    refine Ex'.next ?_
    refine Cd.seq ?_
    refine Cd.block ?_
    refine Cd.seq ?_
    refine Cd.region rfl ?_
    refine Sq.vals [0, 1] (rest := [2, 3, 4, 5, 6]) [.slice (some ⟨b5, off6, none⟩) l.length lc, iV (k : Int)] (fun w => by kernel_rfl) ?_
    refine Sq.v (r := pV b5 (off6 + k * 3)) (o_idx (b := b5) (cap := lc) (e := 88) (off := off6) (n := l.length) (kd := .i64) (q := (k : Int)) (i := k) (size := 3) (j := off6 + k * 3) (by kernel_rfl) (by kernel_rfl) (by rfl) (by omega) Try.underlying59 (by kernel_rfl) (by omega)) rfl (by kernel_rfl) ?_
    refine Sq.vals [3] (rest := [4, 5, 6]) [pV b5 (off6 + k * 3)] (fun w => by kernel_rfl) ?_
    refine Sq.same [0] (l := [vewR 3 (.slice (some ⟨b5, off6, none⟩) l.length lc) l.length (l.flatMap kq7)]) (o_loadView (off := off6) (j := k * 3) (u := sV ((l.getD k kz7).1)) (by kernel_rfl) (by omega) (by kernel_rfl) ((rec_get (f := kq7) (k := 3) (z := kz7) (l := l) (i := k) (j := 0) (fun _ => rfl) (by omega) (by decide)).trans rfl)) (by kernel_rfl) rfl (by kernel_rfl) rfl ?_
    refine Sq.vals [5] (rest := [6]) [sV s] (fun w => by kernel_rfl) ?_
    refine Sq.v (r := bV (decide ((l.getD k kz7).1 ≠ s))) (o_neS (a := (l.getD k kz7).1) (b := s) (by kernel_rfl) (by kernel_rfl)) rfl (by kernel_rfl) ?_
    refine Sq.done ?_
    refine Ex'.next ?_
    refine Cd.case (p := (l.getD k kz7).1 ≠ s) (by kernel_rfl) (fun h7 => ?_) (fun h7 => ?_)
    ·
      refine Cd.region rfl ?_
      refine Sq.vals [0, 1, 2] (rest := [3, 4, 5, 6, 7]) [.slice a2 ow.length c3, .slice (some ⟨b5, off6, none⟩) l.length lc, iV (k : Int)] (fun w => by kernel_rfl) ?_
      refine Sq.v (r := pV b5 (off6 + k * 3)) (o_idx (b := b5) (cap := lc) (e := 88) (off := off6) (n := l.length) (kd := .i64) (q := (k : Int)) (i := k) (size := 3) (j := off6 + k * 3) (by kernel_rfl) (by kernel_rfl) (by rfl) (by omega) Try.underlying59 (by kernel_rfl) (by omega)) rfl (by kernel_rfl) ?_
      refine Sq.same [0] (l := [vewR 3 (.slice (some ⟨b5, off6, none⟩) l.length lc) l.length (l.flatMap kq7)]) (o_loadViewN (off := off6) (j := k * 3) [sV ((l.getD k kz7).1), bV ((l.getD k kz7).2.1), bV ((l.getD k kz7).2.2)] (by kernel_rfl) (by omega) (by kernel_rfl) (rec_gets (f := kq7) (k := 3) (z := kz7) (l := l) (i := k) (o := 0) (fun _ => rfl) (by omega) (Nat.le_of_ble_eq_true rfl) rfl)) (by kernel_rfl) rfl (by kernel_rfl) rfl ?_
      refine Sq.ex [] (l := []) (o_lit (sz := 3) (.agg #[sV ⟨#[]⟩, bV false, bV false]) [sV ((l.getD k kz7).1), bV ((l.getD k kz7).2.1), bV ((l.getD k kz7).2.2)] Try.underlying59 (by kernel_rfl) (by kernel_rfl) (by kernel_rfl) (by kernel_rfl) (by kernel_rfl)) (by kernel_rfl) rfl (by kernel_rfl) (fun _ => Nat.zero_le _) ?_; intro b8 _
      refine Sq.ex [1, 2] (l := [rowR 88 3 (.slice a2 ow.length c3) ow.length (ow.flatMap kq7), blkR b8 [sV ((l.getD k kz7).1), bV ((l.getD k kz7).2.1), bV ((l.getD k kz7).2.2)] 88]) (o_push (n' := ow.length + 1) (xs' := (ow ++ [(l.getD k kz7)]).flatMap kq7) (by kernel_rfl) (by kernel_rfl) sl_it07 (by decide) rfl (by kernel_rfl) (by unfold maxLen; first | omega | (simp only [List.length_nil]; omega)) (by first | omega | (simp only [List.length_nil]; omega)) (by simp) (by rw [List.flatMap_append]; rfl)) (by kernel_rfl) rfl (by kernel_rfl) (fun _ => Nat.le_of_ble_eq_true (by kernel_rfl)) ?_; rintro v9 _
      refine Sq.fact (i := 1) (R := rowR 88 3 v9 (ow.length + 1) ((ow ++ [(l.getD k kz7)]).flatMap kq7)) (by kernel_rfl) row_slice ?_; rintro ⟨a10, c11, rfl, hc11, hc11'⟩
      have hc11'' : c11 ≤ 9223372036854775807 := hc11'
      refine Sq.fact (i := 1) (R := rowR 88 3 (.slice a10 (ow.length + 1) c11) (ow.length + 1) ((ow ++ [(l.getD k kz7)]).flatMap kq7)) (by kernel_rfl) (row_addr (by simp)) ?_; rintro ⟨b12, rfl⟩
      refine Sq.vals [7] (rest := []) [.slice (some ⟨b12, 0, none⟩) (ow.length + 1) c11] (fun w => by kernel_rfl) ?_
      refine Sq.done ?_
      refine Ex'.blockNormal ?_
      refine Ex'.next ?_
      refine Cd.region rfl ?_
      refine Sq.vals [0] (rest := [1, 2]) [iV (k : Int)] (fun w => by kernel_rfl) ?_
      refine Sq.v (r := iV ((k + 1 : Nat) : Int)) (o_add (k := .i64) (a := (k : Int)) (b := 1) (c := ((k + 1 : Nat) : Int)) (by kernel_rfl) (by kernel_rfl) (w64 (by omega) (by omega))) rfl (by kernel_rfl) ?_
      refine Sq.vals [2] (rest := []) [iV ((k + 1 : Nat) : Int)] (fun w => by kernel_rfl) ?_
      refine Sq.done ?_
      refine Ex'.round (g := (k, .slice a2 ow.length c3, ow)) (k + 1, .slice (some ⟨b12, 0, none⟩) (ow.length + 1) c11, ow ++ [(l.getD k kz7)]) ?_ ?_ (subB_eq (l := [0, 1, 4, 6, 5]) (by kernel_rfl)) (fun w hw => (hw.conv 1 (R := rowR 88 3 (.slice (some ⟨b12, 0, none⟩) (ow.length + 1) c11) (ow.length + 1) ((ow ++ [(l.getD k kz7)]).flatMap kq7)) (R' := rowR 88 3 (.slice (some ⟨b12, 0, none⟩) (ow.length + 1) c11) (ow ++ [(l.getD k kz7)]).length ((ow ++ [(l.getD k kz7)]).flatMap kq7)) (by kernel_rfl) (row_len (by first | rfl | omega | (simp only [List.length_take, List.length_drop, List.length_append, List.length_cons, List.length_nil]; omega) | (simp; done) | (simp; omega)))).pickB [0, 1] (by kernel_rfl) (by kernel_rfl) (by kernel_rfl))
      · (try dsimp only); exact ⟨by omega, by rw [rem7_step (by omega), hrw, if_pos h7]⟩
      · omega
    ·
      refine Cd.skip ?_
      refine Ex'.blockNormal ?_
      refine Ex'.next ?_
      refine Cd.region rfl ?_
      refine Sq.vals [0] (rest := [1, 2]) [iV (k : Int)] (fun w => by kernel_rfl) ?_
      refine Sq.v (r := iV ((k + 1 : Nat) : Int)) (o_add (k := .i64) (a := (k : Int)) (b := 1) (c := ((k + 1 : Nat) : Int)) (by kernel_rfl) (by kernel_rfl) (w64 (by omega) (by omega))) rfl (by kernel_rfl) ?_
      refine Sq.vals [2] (rest := []) [iV ((k + 1 : Nat) : Int)] (fun w => by kernel_rfl) ?_
      refine Sq.done ?_
      refine Ex'.round (g := (k, .slice a2 ow.length c3, ow)) (k + 1, .slice a2 ow.length c3, ow) ?_ ?_ (subB_eq (l := [0, 1, 4, 6, 5]) (by kernel_rfl)) (fun w hw => hw.pickB [0, 1] (by kernel_rfl) (by kernel_rfl) (by kernel_rfl))
      · (try dsimp only); exact ⟨by omega, by rw [rem7_step (by omega), hrw, if_neg h7]⟩
      · omega
  ·
    refine Cd.exit ?_
    refine Ex'.thenExit ?_
    refine Ex'.thenExit ?_
    refine Ex'.blockHit ?_
    refine Ex'.next ?_
    refine Cd.seq ?_
    refine Cd.region rfl ?_
    refine Sq.vals [0, 1] (rest := []) [.slice a2 ow.length c3, .slice a2 ow.length c3] (fun w => by kernel_rfl) ?_
    refine Sq.done ?_
    refine Ex'.next ?_
    refine Cd.ret ?_
    refine Ex'.ret Try.results75 (RVs.tmp (v := .slice a2 ow.length c3) (by kernel_rfl) (RVs.nil)) (fun w hw => ?_)
    have e : rem7 l s = ow := by rw [hrw, List.take_of_length_le (by omega)]
    rw [e]
    exact ⟨_, ⟨(.slice a2 ow.length c3), trivial, rfl, rfl⟩, (hw.conv 1 (R := rowR 88 3 (.slice a2 ow.length c3) ow.length (ow.flatMap kq7)) (R' := vewR 3 (.slice a2 ow.length c3) ow.length (ow.flatMap kq7)) (by kernel_rfl) (vew_of_row)).pickB [0, 1] (by kernel_rfl) (by kernel_rfl) (by kernel_rfl)⟩

def front7 (l : List K7) (kS : ByteArray) (kOld : Bool) (kDemoted : Bool) : List K7 :=
  [((kS, kOld, kDemoted) : K7)] ++ l

set_option maxHeartbeats 8000000 in
set_option maxRecDepth 100000 in
theorem t_front07 {la : Option Addr} {lc : Nat} {l : List K7} {kS : ByteArray} {kOld : Bool} {kDemoted : Bool} (hbd : l.length ≤ 1000000) : Tri Try.prog 74 #[.slice la l.length lc, .agg #[sV kS, bV kOld, bV kDemoted]] [vewR 3 (.slice la l.length lc) l.length (l.flatMap kq7)] (PostE (ι := Value) (fun _ => True) (fun v => v) fun v => [vewR 3 (.slice la l.length lc) l.length (l.flatMap kq7), vewR 3 v ((front7 l kS kOld kDemoted).length) ((front7 l kS kOld kDemoted).flatMap kq7)]) := by
  refine Tri.enter (args := [.slice la l.length lc, .agg #[sV kS, bV kOld, bV kDemoted]]) Try.func74 rfl rfl rfl (fun B wz => ?_)
  refine Cd.fact (i := 0) rfl vew_cap ?_; intro hcap0
  refine Cd.seq ?_
  refine Cd.region rfl ?_
  refine Sq.ex [] (l := []) (o_newBox (v := .agg #[sV kS, bV kOld, bV kDemoted]) [sV kS, bV kOld, bV kDemoted] (by kernel_rfl) rfl) (by kernel_rfl) rfl (by kernel_rfl) (fun _ => Nat.zero_le _) ?_; intro b3 _
  refine Sq.vals [1] (rest := []) [.slice none 0 0] (fun w => by kernel_rfl) ?_
  refine Sq.done ?_
  refine Ex'.next ?_
  refine Cd.seq ?_
  refine Cd.region rfl ?_
  refine Sq.same [1] (l := [blkR b3 [sV kS, bV kOld, bV kDemoted] 88]) (o_loadN (i := 0) [sV kS, bV kOld, bV kDemoted] (by kernel_rfl) (by kernel_rfl) (by kernel_rfl)) (by kernel_rfl) rfl (by kernel_rfl) rfl ?_
  refine Sq.ex [] (l := []) (o_lit (sz := 3) (.agg #[sV ⟨#[]⟩, bV false, bV false]) [sV kS, bV kOld, bV kDemoted] Try.underlying59 (by kernel_rfl) (by kernel_rfl) (by kernel_rfl) (by kernel_rfl) (by kernel_rfl)) (by kernel_rfl) rfl (by kernel_rfl) (fun _ => Nat.zero_le _) ?_; intro b4 _
  refine Sq.vals [2] (rest := [3, 4]) [.slice la l.length lc] (fun w => by kernel_rfl) ?_
  refine Sq.res 2 (R := blkR b4 [sV kS, bV kOld, bV kDemoted] 88) (R' := rowR 88 3 (.slice (some ⟨b4, 0, none⟩) 1 1) 1 ([((kS, kOld, kDemoted) : K7)].flatMap kq7)) (by kernel_rfl) (row_of_blk rfl (by decide)) ?_
  refine Sq.ex [2, 0] (l := [rowR 88 3 (.slice (some ⟨b4, 0, none⟩) 1 1) 1 ([((kS, kOld, kDemoted) : K7)].flatMap kq7), vewR 3 (.slice la l.length lc) l.length (l.flatMap kq7)]) (o_pushAll (n' := 1 + l.length) (xs' := ([((kS, kOld, kDemoted) : K7)] ++ l).flatMap kq7) (m := l.length) (news := l.flatMap kq7) (by kernel_rfl) (by kernel_rfl) (fun w S h => ⟨S, h⟩) sl_it07 (by decide) (recsOne (f := kq7) (fun _ => rfl) _) (by unfold maxLen; omega) (by omega) (by omega) (by first | rfl | rw [List.flatMap_append])) (by kernel_rfl) rfl (by kernel_rfl) (fun _ => Nat.le_of_ble_eq_true (by kernel_rfl)) ?_; rintro v5 _
  refine Sq.fact (i := 2) (R := rowR 88 3 v5 (1 + l.length) (([((kS, kOld, kDemoted) : K7)] ++ l).flatMap kq7)) (by kernel_rfl) row_slice ?_; rintro ⟨a6, c7, rfl, hc7, hc7'⟩
  have hc7'' : c7 ≤ 9223372036854775807 := hc7'
  refine Sq.vals [4] (rest := []) [.slice a6 (1 + l.length) c7] (fun w => by kernel_rfl) ?_
  refine Sq.done ?_
  refine Ex'.next ?_
  refine Cd.ret ?_
  refine Ex'.ret Try.results74 (RVs.tmp (v := .slice a6 (1 + l.length) c7) (by kernel_rfl) (RVs.nil)) (fun w hw => ?_)
  have e : front7 l kS kOld kDemoted = [((kS, kOld, kDemoted) : K7)] ++ l := by unfold front7; rfl
  rw [e]
  exact ⟨_, ⟨(.slice a6 (1 + l.length) c7), trivial, rfl, rfl⟩, (hw.conv 2 (R := rowR 88 3 (.slice a6 (1 + l.length) c7) (1 + l.length) (([((kS, kOld, kDemoted) : K7)] ++ l).flatMap kq7)) (R' := vewR 3 (.slice a6 (1 + l.length) c7) (([((kS, kOld, kDemoted) : K7)] ++ l).length) (([((kS, kOld, kDemoted) : K7)] ++ l).flatMap kq7)) (by kernel_rfl) (fun w S h => vew_len (by first | rfl | omega | (simp only [List.length_take, List.length_drop, List.length_append, List.length_cons, List.length_nil]; omega) | (simp; done) | (simp; omega)) w S (vew_of_row w S h))).pickB [0, 2] (by kernel_rfl) (by kernel_rfl) (by kernel_rfl)⟩

def r7Has (cMost : Int) (cTarget : Int) (cN : List K7) (cA : List K7) (cG : List K7) (s : ByteArray) : Bool :=
  if (lk cN s).isSome = true then if (lk cA s).isSome = true then true else true else if (lk cA s).isSome = true then true else false

set_option maxHeartbeats 8000000 in
set_option maxRecDepth 100000 in
theorem t_Has07 {cNa : Option Addr} {cNc : Nat} {cAa : Option Addr} {cAc : Nat} {cGa : Option Addr} {cGc : Nat} {cMost : Int} {cTarget : Int} {cN : List K7} {cA : List K7} {cG : List K7} {s : ByteArray} (hbd : cN.length + cA.length + cG.length ≤ 1000000) : Tri Try.prog 49 #[.agg #[iV cMost, iV cTarget, .slice cNa cN.length cNc, .slice cAa cA.length cAc, .slice cGa cG.length cGc], sV s] [vewR 3 (.slice cNa cN.length cNc) cN.length (cN.flatMap kq7), vewR 3 (.slice cAa cA.length cAc) cA.length (cA.flatMap kq7), vewR 3 (.slice cGa cG.length cGc) cG.length (cG.flatMap kq7)] (Same [vewR 3 (.slice cNa cN.length cNc) cN.length (cN.flatMap kq7), vewR 3 (.slice cAa cA.length cAc) cA.length (cA.flatMap kq7), vewR 3 (.slice cGa cG.length cGc) cG.length (cG.flatMap kq7)] (bV (r7Has cMost cTarget cN cA cG s))) := by
  refine Tri.enter (args := [.agg #[iV cMost, iV cTarget, .slice cNa cN.length cNc, .slice cAa cA.length cAc, .slice cGa cG.length cGc], sV s]) Try.func49 rfl rfl rfl (fun B wz => ?_)
  refine Cd.fact (i := 0) rfl vew_cap ?_; intro hcap0
  refine Cd.fact (i := 1) rfl vew_cap ?_; intro hcap1
  refine Cd.fact (i := 2) rfl vew_cap ?_; intro hcap2
  refine Cd.seq ?_
  refine Cd.region rfl ?_
  refine Sq.ex [] (l := []) (o_newBox (v := .agg #[iV cMost, iV cTarget, .slice cNa cN.length cNc, .slice cAa cA.length cAc, .slice cGa cG.length cGc]) [iV cMost, iV cTarget, .slice cNa cN.length cNc, .slice cAa cA.length cAc, .slice cGa cG.length cGc] (by kernel_rfl) rfl) (by kernel_rfl) rfl (by kernel_rfl) (fun _ => Nat.zero_le _) ?_; intro b3 _
  refine Sq.vals [1] (rest := []) [bV false] (fun w => by kernel_rfl) ?_
  refine Sq.done ?_
  refine Ex'.next ?_
  refine Cd.seq ?_
  refine Cd.region rfl ?_
  refine Sq.vals [0] (rest := [1, 2, 3, 4, 5, 6, 7, 8, 9]) [pV b3 2] (fun w => by kernel_rfl) ?_
  refine Sq.same [3] (l := [blkR b3 [iV cMost, iV cTarget, .slice cNa cN.length cNc, .slice cAa cA.length cAc, .slice cGa cG.length cGc] 61]) (o_load (i := 2) (v := .slice cNa cN.length cNc) (by kernel_rfl) (by kernel_rfl) (by kernel_rfl)) (by kernel_rfl) rfl (by kernel_rfl) rfl ?_
  refine Sq.vals [2] (rest := [3, 4, 5, 6, 7, 8, 9]) [sV s] (fun w => by kernel_rfl) ?_
  by_cases h4 : (lk cN s).isSome = true
  ·
    refine Sq.same [0] (l := [vewR 3 (.slice cNa cN.length cNc) cN.length (cN.flatMap kq7)]) (o_call (by kernel_rfl) Try.call73 (t_find07 (la := cNa) (lc := cNc) (l := cN) (s := s) (by omega) h4)) (by kernel_rfl) rfl (by kernel_rfl) rfl ?_
    refine Sq.vals [4, 5, 6] (rest := [7, 8, 9]) [.tuple #[.agg #[sV s, bV (((lk cN s).getD (false, false)).1), bV (((lk cN s).getD (false, false)).2)], bV true], .agg #[sV s, bV (((lk cN s).getD (false, false)).1), bV (((lk cN s).getD (false, false)).2)], bV true] (fun w => by kernel_rfl) ?_
    refine Sq.ex [] (l := []) (o_new [sV ⟨#[]⟩, bV false, bV false] (fun w => by kernel_rfl)) (by kernel_rfl) rfl (by kernel_rfl) (fun _ => Nat.zero_le _) ?_; intro b5 _
    refine Sq.same [4] (l := [blkR b5 [sV ⟨#[]⟩, bV false, bV false] 88]) (o_store (i := 0) (v := .agg #[sV s, bV (((lk cN s).getD (false, false)).1), bV (((lk cN s).getD (false, false)).2)]) (by kernel_rfl) (by kernel_rfl) (by kernel_rfl) (by kernel_rfl) (by kernel_rfl)) (by kernel_rfl) rfl (by kernel_rfl) rfl ?_
    refine Sq.vals [9] (rest := []) [bV true] (fun w => by kernel_rfl) ?_
    refine Sq.done ?_
    refine Ex'.next ?_
    refine Cd.seq ?_
    refine Cd.region rfl ?_
    refine Sq.vals [0] (rest := [1, 2, 3, 4, 5, 6, 7, 8, 9]) [pV b3 3] (fun w => by kernel_rfl) ?_
    refine Sq.same [3] (l := [blkR b3 [iV cMost, iV cTarget, .slice cNa cN.length cNc, .slice cAa cA.length cAc, .slice cGa cG.length cGc] 61]) (o_load (i := 3) (v := .slice cAa cA.length cAc) (by kernel_rfl) (by kernel_rfl) (by kernel_rfl)) (by kernel_rfl) rfl (by kernel_rfl) rfl ?_
    refine Sq.vals [2] (rest := [3, 4, 5, 6, 7, 8, 9]) [sV s] (fun w => by kernel_rfl) ?_
    by_cases h6 : (lk cA s).isSome = true
    ·
      refine Sq.same [1] (l := [vewR 3 (.slice cAa cA.length cAc) cA.length (cA.flatMap kq7)]) (o_call (by kernel_rfl) Try.call73 (t_find07 (la := cAa) (lc := cAc) (l := cA) (s := s) (by omega) h6)) (by kernel_rfl) rfl (by kernel_rfl) rfl ?_
      refine Sq.vals [4, 5, 6] (rest := [7, 8, 9]) [.tuple #[.agg #[sV s, bV (((lk cA s).getD (false, false)).1), bV (((lk cA s).getD (false, false)).2)], bV true], .agg #[sV s, bV (((lk cA s).getD (false, false)).1), bV (((lk cA s).getD (false, false)).2)], bV true] (fun w => by kernel_rfl) ?_
      refine Sq.ex [] (l := []) (o_new [sV ⟨#[]⟩, bV false, bV false] (fun w => by kernel_rfl)) (by kernel_rfl) rfl (by kernel_rfl) (fun _ => Nat.zero_le _) ?_; intro b7 _
      refine Sq.same [5] (l := [blkR b7 [sV ⟨#[]⟩, bV false, bV false] 88]) (o_store (i := 0) (v := .agg #[sV s, bV (((lk cA s).getD (false, false)).1), bV (((lk cA s).getD (false, false)).2)]) (by kernel_rfl) (by kernel_rfl) (by kernel_rfl) (by kernel_rfl) (by kernel_rfl)) (by kernel_rfl) rfl (by kernel_rfl) rfl ?_
      refine Sq.vals [9] (rest := []) [bV true] (fun w => by kernel_rfl) ?_
      refine Sq.done ?_
      refine Ex'.next ?_
      refine Cd.seq ?_
      refine Cd.region rfl ?_
      refine Sq.vals [0, 1, 2, 3, 4] (rest := []) [bV true, bV true, undef, bV true, bV true] (fun w => by kernel_rfl) ?_
      refine Sq.done ?_
      refine Ex'.next ?_
      refine Cd.ret ?_
      refine Ex'.ret Try.results49 (RVs.tmp (v := bV true) (by kernel_rfl) (RVs.nil)) (fun w hw => ?_)
      have e : r7Has cMost cTarget cN cA cG s = true := by unfold r7Has; rw [if_pos h4, if_pos h6]
      rw [e]
      exact ⟨_, ⟨rfl, rfl⟩, hw.pickB [0, 1, 2] (by kernel_rfl) (by kernel_rfl) (by kernel_rfl)⟩
    ·
      have h8 : (lk cA s).isSome = false := Bool.eq_false_iff.2 h6
      refine Sq.same [1] (l := [vewR 3 (.slice cAa cA.length cAc) cA.length (cA.flatMap kq7)]) (o_call (by kernel_rfl) Try.call73 (t_find07_no (la := cAa) (lc := cAc) (l := cA) (s := s) (by omega) (Bool.eq_false_iff.1 h8))) (by kernel_rfl) rfl (by kernel_rfl) rfl ?_
      refine Sq.vals [4, 5, 6] (rest := [7, 8, 9]) [.tuple #[.agg #[sV ⟨#[]⟩, bV false, bV false], bV false], .agg #[sV ⟨#[]⟩, bV false, bV false], bV false] (fun w => by kernel_rfl) ?_
      refine Sq.ex [] (l := []) (o_new [sV ⟨#[]⟩, bV false, bV false] (fun w => by kernel_rfl)) (by kernel_rfl) rfl (by kernel_rfl) (fun _ => Nat.zero_le _) ?_; intro b9 _
      refine Sq.same [5] (l := [blkR b9 [sV ⟨#[]⟩, bV false, bV false] 88]) (o_store (i := 0) (v := .agg #[sV ⟨#[]⟩, bV false, bV false]) (by kernel_rfl) (by kernel_rfl) (by kernel_rfl) (by kernel_rfl) (by kernel_rfl)) (by kernel_rfl) rfl (by kernel_rfl) rfl ?_
      refine Sq.vals [9] (rest := []) [bV false] (fun w => by kernel_rfl) ?_
      refine Sq.done ?_
      refine Ex'.next ?_
      refine Cd.seq ?_
      refine Cd.region rfl ?_
      refine Sq.vals [0, 1, 2, 3, 4] (rest := []) [bV true, bV true, undef, bV true, bV true] (fun w => by kernel_rfl) ?_
      refine Sq.done ?_
      refine Ex'.next ?_
      refine Cd.ret ?_
      refine Ex'.ret Try.results49 (RVs.tmp (v := bV true) (by kernel_rfl) (RVs.nil)) (fun w hw => ?_)
      have e : r7Has cMost cTarget cN cA cG s = true := by unfold r7Has; rw [if_pos h4, if_neg (Bool.eq_false_iff.1 h8)]
      rw [e]
      exact ⟨_, ⟨rfl, rfl⟩, hw.pickB [0, 1, 2] (by kernel_rfl) (by kernel_rfl) (by kernel_rfl)⟩
  ·
    have h10 : (lk cN s).isSome = false := Bool.eq_false_iff.2 h4
    refine Sq.same [0] (l := [vewR 3 (.slice cNa cN.length cNc) cN.length (cN.flatMap kq7)]) (o_call (by kernel_rfl) Try.call73 (t_find07_no (la := cNa) (lc := cNc) (l := cN) (s := s) (by omega) (Bool.eq_false_iff.1 h10))) (by kernel_rfl) rfl (by kernel_rfl) rfl ?_
    refine Sq.vals [4, 5, 6] (rest := [7, 8, 9]) [.tuple #[.agg #[sV ⟨#[]⟩, bV false, bV false], bV false], .agg #[sV ⟨#[]⟩, bV false, bV false], bV false] (fun w => by kernel_rfl) ?_
    refine Sq.ex [] (l := []) (o_new [sV ⟨#[]⟩, bV false, bV false] (fun w => by kernel_rfl)) (by kernel_rfl) rfl (by kernel_rfl) (fun _ => Nat.zero_le _) ?_; intro b11 _
    refine Sq.same [4] (l := [blkR b11 [sV ⟨#[]⟩, bV false, bV false] 88]) (o_store (i := 0) (v := .agg #[sV ⟨#[]⟩, bV false, bV false]) (by kernel_rfl) (by kernel_rfl) (by kernel_rfl) (by kernel_rfl) (by kernel_rfl)) (by kernel_rfl) rfl (by kernel_rfl) rfl ?_
    refine Sq.vals [9] (rest := []) [bV false] (fun w => by kernel_rfl) ?_
    refine Sq.done ?_
    refine Ex'.next ?_
    refine Cd.seq ?_
    refine Cd.region rfl ?_
    refine Sq.vals [0] (rest := [1, 2, 3, 4, 5, 6, 7, 8, 9]) [pV b3 3] (fun w => by kernel_rfl) ?_
    refine Sq.same [3] (l := [blkR b3 [iV cMost, iV cTarget, .slice cNa cN.length cNc, .slice cAa cA.length cAc, .slice cGa cG.length cGc] 61]) (o_load (i := 3) (v := .slice cAa cA.length cAc) (by kernel_rfl) (by kernel_rfl) (by kernel_rfl)) (by kernel_rfl) rfl (by kernel_rfl) rfl ?_
    refine Sq.vals [2] (rest := [3, 4, 5, 6, 7, 8, 9]) [sV s] (fun w => by kernel_rfl) ?_
    by_cases h12 : (lk cA s).isSome = true
    ·
      refine Sq.same [1] (l := [vewR 3 (.slice cAa cA.length cAc) cA.length (cA.flatMap kq7)]) (o_call (by kernel_rfl) Try.call73 (t_find07 (la := cAa) (lc := cAc) (l := cA) (s := s) (by omega) h12)) (by kernel_rfl) rfl (by kernel_rfl) rfl ?_
      refine Sq.vals [4, 5, 6] (rest := [7, 8, 9]) [.tuple #[.agg #[sV s, bV (((lk cA s).getD (false, false)).1), bV (((lk cA s).getD (false, false)).2)], bV true], .agg #[sV s, bV (((lk cA s).getD (false, false)).1), bV (((lk cA s).getD (false, false)).2)], bV true] (fun w => by kernel_rfl) ?_
      refine Sq.ex [] (l := []) (o_new [sV ⟨#[]⟩, bV false, bV false] (fun w => by kernel_rfl)) (by kernel_rfl) rfl (by kernel_rfl) (fun _ => Nat.zero_le _) ?_; intro b13 _
      refine Sq.same [5] (l := [blkR b13 [sV ⟨#[]⟩, bV false, bV false] 88]) (o_store (i := 0) (v := .agg #[sV s, bV (((lk cA s).getD (false, false)).1), bV (((lk cA s).getD (false, false)).2)]) (by kernel_rfl) (by kernel_rfl) (by kernel_rfl) (by kernel_rfl) (by kernel_rfl)) (by kernel_rfl) rfl (by kernel_rfl) rfl ?_
      refine Sq.vals [9] (rest := []) [bV true] (fun w => by kernel_rfl) ?_
      refine Sq.done ?_
      refine Ex'.next ?_
      refine Cd.seq ?_
      refine Cd.region rfl ?_
      refine Sq.vals [0, 1, 2, 3, 4] (rest := []) [bV false, bV false, bV true, bV true, bV true] (fun w => by kernel_rfl) ?_
      refine Sq.done ?_
      refine Ex'.next ?_
      refine Cd.ret ?_
      refine Ex'.ret Try.results49 (RVs.tmp (v := bV true) (by kernel_rfl) (RVs.nil)) (fun w hw => ?_)
      have e : r7Has cMost cTarget cN cA cG s = true := by unfold r7Has; rw [if_neg (Bool.eq_false_iff.1 h10), if_pos h12]
      rw [e]
      exact ⟨_, ⟨rfl, rfl⟩, hw.pickB [0, 1, 2] (by kernel_rfl) (by kernel_rfl) (by kernel_rfl)⟩
    ·
      have h14 : (lk cA s).isSome = false := Bool.eq_false_iff.2 h12
      refine Sq.same [1] (l := [vewR 3 (.slice cAa cA.length cAc) cA.length (cA.flatMap kq7)]) (o_call (by kernel_rfl) Try.call73 (t_find07_no (la := cAa) (lc := cAc) (l := cA) (s := s) (by omega) (Bool.eq_false_iff.1 h14))) (by kernel_rfl) rfl (by kernel_rfl) rfl ?_
      refine Sq.vals [4, 5, 6] (rest := [7, 8, 9]) [.tuple #[.agg #[sV ⟨#[]⟩, bV false, bV false], bV false], .agg #[sV ⟨#[]⟩, bV false, bV false], bV false] (fun w => by kernel_rfl) ?_
      refine Sq.ex [] (l := []) (o_new [sV ⟨#[]⟩, bV false, bV false] (fun w => by kernel_rfl)) (by kernel_rfl) rfl (by kernel_rfl) (fun _ => Nat.zero_le _) ?_; intro b15 _
      refine Sq.same [5] (l := [blkR b15 [sV ⟨#[]⟩, bV false, bV false] 88]) (o_store (i := 0) (v := .agg #[sV ⟨#[]⟩, bV false, bV false]) (by kernel_rfl) (by kernel_rfl) (by kernel_rfl) (by kernel_rfl) (by kernel_rfl)) (by kernel_rfl) rfl (by kernel_rfl) rfl ?_
      refine Sq.vals [9] (rest := []) [bV false] (fun w => by kernel_rfl) ?_
      refine Sq.done ?_
      refine Ex'.next ?_
      refine Cd.seq ?_
      refine Cd.region rfl ?_
      refine Sq.vals [0, 1, 2, 3, 4] (rest := []) [bV false, bV false, bV false, bV false, bV false] (fun w => by kernel_rfl) ?_
      refine Sq.done ?_
      refine Ex'.next ?_
      refine Cd.ret ?_
      refine Ex'.ret Try.results49 (RVs.tmp (v := bV false) (by kernel_rfl) (RVs.nil)) (fun w hw => ?_)
      have e : r7Has cMost cTarget cN cA cG s = false := by unfold r7Has; rw [if_neg (Bool.eq_false_iff.1 h10), if_neg (Bool.eq_false_iff.1 h14)]
      rw [e]
      exact ⟨_, ⟨rfl, rfl⟩, hw.pickB [0, 1, 2] (by kernel_rfl) (by kernel_rfl) (by kernel_rfl)⟩

def r7Victim (cMost : Int) (cTarget : Int) (cN : List K7) (cA : List K7) (cG : List K7) : ByteArray × Bool :=
  if (cN.length : Int) > 0 then ((cN.getD (cN.length - 1) kz7).1, true) else if (cA.length : Int) > 0 then ((cA.getD (cA.length - 1) kz7).1, true) else (⟨#[]⟩, false)

set_option maxHeartbeats 8000000 in
set_option maxRecDepth 100000 in
theorem t_Victim07 {cNa : Option Addr} {cNc : Nat} {cAa : Option Addr} {cAc : Nat} {cGa : Option Addr} {cGc : Nat} {cMost : Int} {cTarget : Int} {cN : List K7} {cA : List K7} {cG : List K7} (hbd : cN.length + cA.length + cG.length ≤ 1000000) : Tri Try.prog 56 #[.agg #[iV cMost, iV cTarget, .slice cNa cN.length cNc, .slice cAa cA.length cAc, .slice cGa cG.length cGc]] [vewR 3 (.slice cNa cN.length cNc) cN.length (cN.flatMap kq7), vewR 3 (.slice cAa cA.length cAc) cA.length (cA.flatMap kq7), vewR 3 (.slice cGa cG.length cGc) cG.length (cG.flatMap kq7)] (Same [vewR 3 (.slice cNa cN.length cNc) cN.length (cN.flatMap kq7), vewR 3 (.slice cAa cA.length cAc) cA.length (cA.flatMap kq7), vewR 3 (.slice cGa cG.length cGc) cG.length (cG.flatMap kq7)] (.tuple #[sV ((r7Victim cMost cTarget cN cA cG).1), bV ((r7Victim cMost cTarget cN cA cG).2)])) := by
  refine Tri.enter (args := [.agg #[iV cMost, iV cTarget, .slice cNa cN.length cNc, .slice cAa cA.length cAc, .slice cGa cG.length cGc]]) Try.func56 rfl rfl rfl (fun B wz => ?_)
  refine Cd.fact (i := 0) rfl vew_cap ?_; intro hcap0
  refine Cd.fact (i := 1) rfl vew_cap ?_; intro hcap1
  refine Cd.fact (i := 2) rfl vew_cap ?_; intro hcap2
  refine Cd.seq ?_
  refine Cd.region rfl ?_
  refine Sq.ex [] (l := []) (o_newBox (v := .agg #[iV cMost, iV cTarget, .slice cNa cN.length cNc, .slice cAa cA.length cAc, .slice cGa cG.length cGc]) [iV cMost, iV cTarget, .slice cNa cN.length cNc, .slice cAa cA.length cAc, .slice cGa cG.length cGc] (by kernel_rfl) rfl) (by kernel_rfl) rfl (by kernel_rfl) (fun _ => Nat.zero_le _) ?_; intro b3 _
  refine Sq.vals [1, 2] (rest := []) [sV ⟨#[]⟩, bV false] (fun w => by kernel_rfl) ?_
  refine Sq.done ?_
  refine Ex'.next ?_
  refine Cd.seq ?_
  refine Cd.seq ?_
  refine Cd.region rfl ?_
  refine Sq.vals [0] (rest := [1, 2, 3]) [pV b3 2] (fun w => by kernel_rfl) ?_
  refine Sq.same [3] (l := [blkR b3 [iV cMost, iV cTarget, .slice cNa cN.length cNc, .slice cAa cA.length cAc, .slice cGa cG.length cGc] 61]) (o_load (i := 2) (v := .slice cNa cN.length cNc) (by kernel_rfl) (by kernel_rfl) (by kernel_rfl)) (by kernel_rfl) rfl (by kernel_rfl) rfl ?_
  refine Sq.vals [2, 3] (rest := []) [iV (cN.length : Int), bV (decide ((cN.length : Int) > 0))] (fun w => by kernel_rfl) ?_
  refine Sq.done ?_
  refine Ex'.next ?_
  refine Cd.case (p := (cN.length : Int) > 0) (by kernel_rfl) (fun h4 => ?_) (fun h4 => ?_)
  ·
    refine Cd.seq ?_
    refine Cd.region rfl ?_
    refine Sq.vals [0] (rest := [1, 2, 3, 4, 5, 6, 7, 8, 9, 10]) [pV b3 2] (fun w => by kernel_rfl) ?_
    refine Sq.same [3] (l := [blkR b3 [iV cMost, iV cTarget, .slice cNa cN.length cNc, .slice cAa cA.length cAc, .slice cGa cG.length cGc] 61]) (o_load (i := 2) (v := .slice cNa cN.length cNc) (by kernel_rfl) (by kernel_rfl) (by kernel_rfl)) (by kernel_rfl) rfl (by kernel_rfl) rfl ?_
    refine Sq.vals [2] (rest := [3, 4, 5, 6, 7, 8, 9, 10]) [pV b3 2] (fun w => by kernel_rfl) ?_
    refine Sq.same [3] (l := [blkR b3 [iV cMost, iV cTarget, .slice cNa cN.length cNc, .slice cAa cA.length cAc, .slice cGa cG.length cGc] 61]) (o_load (i := 2) (v := .slice cNa cN.length cNc) (by kernel_rfl) (by kernel_rfl) (by kernel_rfl)) (by kernel_rfl) rfl (by kernel_rfl) rfl ?_
    refine Sq.vals [4] (rest := [5, 6, 7, 8, 9, 10]) [iV (cN.length : Int)] (fun w => by kernel_rfl) ?_
    refine Sq.v (r := iV ((cN.length - 1 : Nat) : Int)) (o_sub (k := .i64) (a := (cN.length : Int)) (b := 1) (c := ((cN.length - 1 : Nat) : Int)) (by kernel_rfl) (by kernel_rfl) (w64 (by omega) (by omega))) rfl (by kernel_rfl) ?_
    refine Sq.fact (i := 0) (R := vewR 3 (.slice cNa cN.length cNc) cN.length (cN.flatMap kq7)) (by kernel_rfl) (vew_addr (by omega)) ?_; rintro ⟨b5, off6, rfl⟩
    refine Sq.v (r := pV b5 (off6 + (cN.length - 1) * 3)) (o_idx (b := b5) (cap := cNc) (e := 88) (off := off6) (n := cN.length) (kd := .i64) (q := ((cN.length - 1 : Nat) : Int)) (i := (cN.length - 1)) (size := 3) (j := off6 + (cN.length - 1) * 3) (by kernel_rfl) (by kernel_rfl) (by rfl) (by omega) Try.underlying59 (by kernel_rfl) (by omega)) rfl (by kernel_rfl) ?_
    refine Sq.vals [7] (rest := [8, 9, 10]) [pV b5 (off6 + (cN.length - 1) * 3)] (fun w => by kernel_rfl) ?_
    refine Sq.same [0] (l := [vewR 3 (.slice (some ⟨b5, off6, none⟩) cN.length cNc) cN.length (cN.flatMap kq7)]) (o_loadView (off := off6) (j := (cN.length - 1) * 3) (u := sV ((cN.getD (cN.length - 1) kz7).1)) (by kernel_rfl) (by omega) (by kernel_rfl) ((rec_get (f := kq7) (k := 3) (z := kz7) (l := cN) (i := (cN.length - 1)) (j := 0) (fun _ => rfl) (by omega) (by decide)).trans rfl)) (by kernel_rfl) rfl (by kernel_rfl) rfl ?_
    refine Sq.vals [9, 10] (rest := []) [sV ((cN.getD (cN.length - 1) kz7).1), bV true] (fun w => by kernel_rfl) ?_
    refine Sq.done ?_
    refine Ex'.next ?_
    refine Cd.ret ?_
    refine Ex'.thenRet ?_
    refine Ex'.ret Try.results56 (RVs.tmp (v := sV ((cN.getD (cN.length - 1) kz7).1)) (by kernel_rfl) (RVs.tmp (v := bV true) (by kernel_rfl) (RVs.nil))) (fun w hw => ?_)
    have e : r7Victim cMost cTarget cN cA cG = ((cN.getD (cN.length - 1) kz7).1, true) := by unfold r7Victim; rw [if_pos h4]
    rw [e]
    exact ⟨_, ⟨rfl, rfl⟩, hw.pickB [0, 1, 2] (by kernel_rfl) (by kernel_rfl) (by kernel_rfl)⟩
  ·
    refine Cd.skip ?_
    refine Ex'.next ?_
    refine Cd.seq ?_
    refine Cd.seq ?_
    refine Cd.region rfl ?_
    refine Sq.vals [0] (rest := [1, 2, 3]) [pV b3 3] (fun w => by kernel_rfl) ?_
    refine Sq.same [3] (l := [blkR b3 [iV cMost, iV cTarget, .slice cNa cN.length cNc, .slice cAa cA.length cAc, .slice cGa cG.length cGc] 61]) (o_load (i := 3) (v := .slice cAa cA.length cAc) (by kernel_rfl) (by kernel_rfl) (by kernel_rfl)) (by kernel_rfl) rfl (by kernel_rfl) rfl ?_
    refine Sq.vals [2, 3] (rest := []) [iV (cA.length : Int), bV (decide ((cA.length : Int) > 0))] (fun w => by kernel_rfl) ?_
    refine Sq.done ?_
    refine Ex'.next ?_
    refine Cd.case (p := (cA.length : Int) > 0) (by kernel_rfl) (fun h7 => ?_) (fun h7 => ?_)
    ·
      refine Cd.seq ?_
      refine Cd.region rfl ?_
      refine Sq.vals [0] (rest := [1, 2, 3, 4, 5, 6, 7, 8, 9, 10]) [pV b3 3] (fun w => by kernel_rfl) ?_
      refine Sq.same [3] (l := [blkR b3 [iV cMost, iV cTarget, .slice cNa cN.length cNc, .slice cAa cA.length cAc, .slice cGa cG.length cGc] 61]) (o_load (i := 3) (v := .slice cAa cA.length cAc) (by kernel_rfl) (by kernel_rfl) (by kernel_rfl)) (by kernel_rfl) rfl (by kernel_rfl) rfl ?_
      refine Sq.vals [2] (rest := [3, 4, 5, 6, 7, 8, 9, 10]) [pV b3 3] (fun w => by kernel_rfl) ?_
      refine Sq.same [3] (l := [blkR b3 [iV cMost, iV cTarget, .slice cNa cN.length cNc, .slice cAa cA.length cAc, .slice cGa cG.length cGc] 61]) (o_load (i := 3) (v := .slice cAa cA.length cAc) (by kernel_rfl) (by kernel_rfl) (by kernel_rfl)) (by kernel_rfl) rfl (by kernel_rfl) rfl ?_
      refine Sq.vals [4] (rest := [5, 6, 7, 8, 9, 10]) [iV (cA.length : Int)] (fun w => by kernel_rfl) ?_
      refine Sq.v (r := iV ((cA.length - 1 : Nat) : Int)) (o_sub (k := .i64) (a := (cA.length : Int)) (b := 1) (c := ((cA.length - 1 : Nat) : Int)) (by kernel_rfl) (by kernel_rfl) (w64 (by omega) (by omega))) rfl (by kernel_rfl) ?_
      refine Sq.fact (i := 1) (R := vewR 3 (.slice cAa cA.length cAc) cA.length (cA.flatMap kq7)) (by kernel_rfl) (vew_addr (by omega)) ?_; rintro ⟨b8, off9, rfl⟩
      refine Sq.v (r := pV b8 (off9 + (cA.length - 1) * 3)) (o_idx (b := b8) (cap := cAc) (e := 88) (off := off9) (n := cA.length) (kd := .i64) (q := ((cA.length - 1 : Nat) : Int)) (i := (cA.length - 1)) (size := 3) (j := off9 + (cA.length - 1) * 3) (by kernel_rfl) (by kernel_rfl) (by rfl) (by omega) Try.underlying59 (by kernel_rfl) (by omega)) rfl (by kernel_rfl) ?_
      refine Sq.vals [7] (rest := [8, 9, 10]) [pV b8 (off9 + (cA.length - 1) * 3)] (fun w => by kernel_rfl) ?_
      refine Sq.same [1] (l := [vewR 3 (.slice (some ⟨b8, off9, none⟩) cA.length cAc) cA.length (cA.flatMap kq7)]) (o_loadView (off := off9) (j := (cA.length - 1) * 3) (u := sV ((cA.getD (cA.length - 1) kz7).1)) (by kernel_rfl) (by omega) (by kernel_rfl) ((rec_get (f := kq7) (k := 3) (z := kz7) (l := cA) (i := (cA.length - 1)) (j := 0) (fun _ => rfl) (by omega) (by decide)).trans rfl)) (by kernel_rfl) rfl (by kernel_rfl) rfl ?_
      refine Sq.vals [9, 10] (rest := []) [sV ((cA.getD (cA.length - 1) kz7).1), bV true] (fun w => by kernel_rfl) ?_
      refine Sq.done ?_
      refine Ex'.next ?_
      refine Cd.ret ?_
      refine Ex'.thenRet ?_
      refine Ex'.ret Try.results56 (RVs.tmp (v := sV ((cA.getD (cA.length - 1) kz7).1)) (by kernel_rfl) (RVs.tmp (v := bV true) (by kernel_rfl) (RVs.nil))) (fun w hw => ?_)
      have e : r7Victim cMost cTarget cN cA cG = ((cA.getD (cA.length - 1) kz7).1, true) := by unfold r7Victim; rw [if_neg h4, if_pos h7]
      rw [e]
      exact ⟨_, ⟨rfl, rfl⟩, hw.pickB [0, 1, 2] (by kernel_rfl) (by kernel_rfl) (by kernel_rfl)⟩
    ·
      refine Cd.skip ?_
      refine Ex'.next ?_
      refine Cd.seq ?_
      refine Cd.region rfl ?_
      refine Sq.vals [0, 1] (rest := []) [sV ⟨#[]⟩, bV false] (fun w => by kernel_rfl) ?_
      refine Sq.done ?_
      refine Ex'.next ?_
      refine Cd.ret ?_
      refine Ex'.ret Try.results56 (RVs.tmp (v := sV ⟨#[]⟩) (by kernel_rfl) (RVs.tmp (v := bV false) (by kernel_rfl) (RVs.nil))) (fun w hw => ?_)
      have e : r7Victim cMost cTarget cN cA cG = (⟨#[]⟩, false) := by unfold r7Victim; rw [if_neg h4, if_neg h7]
      rw [e]
      exact ⟨_, ⟨rfl, rfl⟩, hw.pickB [0, 1, 2] (by kernel_rfl) (by kernel_rfl) (by kernel_rfl)⟩

def r7Go (cMost : Int) (cTarget : Int) (cN : List K7) (cA : List K7) (cG : List K7) : List K7 × List K7 × List K7 × ByteArray × Bool × Bool :=
  if (cN.length : Int) > 0 then (cN.take (cN.length - 1), cA, cG, (cN.getD (cN.length - 1) kz7).1, (cN.getD (cN.length - 1) kz7).2.1, (cN.getD (cN.length - 1) kz7).2.2) else (cN, cA.take (cA.length - 1), cG, (cA.getD (cA.length - 1) kz7).1, (cA.getD (cA.length - 1) kz7).2.1, (cA.getD (cA.length - 1) kz7).2.2)

theorem r7Go_len (Most t : Int) (N A G : List K7) (h : 0 < N.length + A.length) : (r7Go Most t N A G).1.length + (r7Go Most t N A G).2.1.length + 1 = N.length + A.length ∧ (r7Go Most t N A G).2.2.1 = G := by
  unfold r7Go
  split
  · refine ⟨?_, rfl⟩; simp only [List.length_take]; omega
  · refine ⟨?_, rfl⟩; simp only [List.length_take]; omega

set_option maxHeartbeats 8000000 in
set_option maxRecDepth 100000 in
theorem t_go107 {cNa : Option Addr} {cNc : Nat} {cAa : Option Addr} {cAc : Nat} {cGa : Option Addr} {cGc : Nat} {cMost : Int} {cTarget : Int} {cN : List K7} {cA : List K7} {cG : List K7} (hbd : cN.length + cA.length + cG.length ≤ 1000000) (h0 : 0 < cN.length + cA.length) : Tri Try.prog 78 #[.agg #[iV cMost, iV cTarget, .slice cNa cN.length cNc, .slice cAa cA.length cAc, .slice cGa cG.length cGc]] [vewR 3 (.slice cNa cN.length cNc) cN.length (cN.flatMap kq7), vewR 3 (.slice cAa cA.length cAc) cA.length (cA.flatMap kq7), vewR 3 (.slice cGa cG.length cGc) cG.length (cG.flatMap kq7)] (PostE (ι := Value × Value × Value) (fun _ => True) (fun v => .tuple #[.agg #[iV cMost, iV cTarget, v.1, v.2.1, v.2.2], .agg #[sV ((r7Go cMost cTarget cN cA cG).2.2.2.1), bV ((r7Go cMost cTarget cN cA cG).2.2.2.2.1), bV ((r7Go cMost cTarget cN cA cG).2.2.2.2.2)]]) fun v => [vewR 3 v.1 (((r7Go cMost cTarget cN cA cG).1).length) (((r7Go cMost cTarget cN cA cG).1).flatMap kq7), vewR 3 v.2.1 (((r7Go cMost cTarget cN cA cG).2.1).length) (((r7Go cMost cTarget cN cA cG).2.1).flatMap kq7), vewR 3 v.2.2 (((r7Go cMost cTarget cN cA cG).2.2.1).length) (((r7Go cMost cTarget cN cA cG).2.2.1).flatMap kq7)]) := by
  refine Tri.enter (args := [.agg #[iV cMost, iV cTarget, .slice cNa cN.length cNc, .slice cAa cA.length cAc, .slice cGa cG.length cGc]]) Try.func78 rfl rfl rfl (fun B wz => ?_)
  refine Cd.fact (i := 0) rfl vew_cap ?_; intro hcap0
  refine Cd.fact (i := 1) rfl vew_cap ?_; intro hcap1
  refine Cd.fact (i := 2) rfl vew_cap ?_; intro hcap2
  refine Cd.seq ?_
  refine Cd.region rfl ?_
  refine Sq.ex [] (l := []) (o_newBox (v := .agg #[iV cMost, iV cTarget, .slice cNa cN.length cNc, .slice cAa cA.length cAc, .slice cGa cG.length cGc]) [iV cMost, iV cTarget, .slice cNa cN.length cNc, .slice cAa cA.length cAc, .slice cGa cG.length cGc] (by kernel_rfl) rfl) (by kernel_rfl) rfl (by kernel_rfl) (fun _ => Nat.zero_le _) ?_; intro b3 _
  refine Sq.ex [] (l := []) (o_new [iV 0, iV 0, .slice none 0 0, .slice none 0 0, .slice none 0 0] (fun w => by kernel_rfl)) (by kernel_rfl) rfl (by kernel_rfl) (fun _ => Nat.zero_le _) ?_; intro b4 _
  refine Sq.ex [] (l := []) (o_new [sV ⟨#[]⟩, bV false, bV false] (fun w => by kernel_rfl)) (by kernel_rfl) rfl (by kernel_rfl) (fun _ => Nat.zero_le _) ?_; intro b5 _
  refine Sq.done ?_
  refine Ex'.next ?_
  refine Cd.seq ?_
  refine Cd.seq ?_
  refine Cd.region rfl ?_
  refine Sq.vals [0] (rest := [1, 2, 3]) [pV b3 2] (fun w => by kernel_rfl) ?_
  refine Sq.same [3] (l := [blkR b3 [iV cMost, iV cTarget, .slice cNa cN.length cNc, .slice cAa cA.length cAc, .slice cGa cG.length cGc] 61]) (o_load (i := 2) (v := .slice cNa cN.length cNc) (by kernel_rfl) (by kernel_rfl) (by kernel_rfl)) (by kernel_rfl) rfl (by kernel_rfl) rfl ?_
  refine Sq.vals [2, 3] (rest := []) [iV (cN.length : Int), bV (decide ((cN.length : Int) > 0))] (fun w => by kernel_rfl) ?_
  refine Sq.done ?_
  refine Ex'.next ?_
  refine Cd.case (p := (cN.length : Int) > 0) (by kernel_rfl) (fun h6 => ?_) (fun h6 => ?_)
  ·
    refine Cd.seq ?_
    refine Cd.region rfl ?_
    refine Sq.vals [0] (rest := [1, 2, 3, 4, 5, 6, 7, 8, 9]) [pV b3 2] (fun w => by kernel_rfl) ?_
    refine Sq.same [3] (l := [blkR b3 [iV cMost, iV cTarget, .slice cNa cN.length cNc, .slice cAa cA.length cAc, .slice cGa cG.length cGc] 61]) (o_load (i := 2) (v := .slice cNa cN.length cNc) (by kernel_rfl) (by kernel_rfl) (by kernel_rfl)) (by kernel_rfl) rfl (by kernel_rfl) rfl ?_
    refine Sq.vals [2] (rest := [3, 4, 5, 6, 7, 8, 9]) [pV b3 2] (fun w => by kernel_rfl) ?_
    refine Sq.same [3] (l := [blkR b3 [iV cMost, iV cTarget, .slice cNa cN.length cNc, .slice cAa cA.length cAc, .slice cGa cG.length cGc] 61]) (o_load (i := 2) (v := .slice cNa cN.length cNc) (by kernel_rfl) (by kernel_rfl) (by kernel_rfl)) (by kernel_rfl) rfl (by kernel_rfl) rfl ?_
    refine Sq.vals [4] (rest := [5, 6, 7, 8, 9]) [iV (cN.length : Int)] (fun w => by kernel_rfl) ?_
    refine Sq.v (r := iV ((cN.length - 1 : Nat) : Int)) (o_sub (k := .i64) (a := (cN.length : Int)) (b := 1) (c := ((cN.length - 1 : Nat) : Int)) (by kernel_rfl) (by kernel_rfl) (w64 (by omega) (by omega))) rfl (by kernel_rfl) ?_
    refine Sq.fact (i := 0) (R := vewR 3 (.slice cNa cN.length cNc) cN.length (cN.flatMap kq7)) (by kernel_rfl) (vew_addr (by omega)) ?_; rintro ⟨b7, off8, rfl⟩
    refine Sq.v (r := pV b7 (off8 + (cN.length - 1) * 3)) (o_idx (b := b7) (cap := cNc) (e := 88) (off := off8) (n := cN.length) (kd := .i64) (q := ((cN.length - 1 : Nat) : Int)) (i := (cN.length - 1)) (size := 3) (j := off8 + (cN.length - 1) * 3) (by kernel_rfl) (by kernel_rfl) (by rfl) (by omega) Try.underlying59 (by kernel_rfl) (by omega)) rfl (by kernel_rfl) ?_
    refine Sq.same [0] (l := [vewR 3 (.slice (some ⟨b7, off8, none⟩) cN.length cNc) cN.length (cN.flatMap kq7)]) (o_loadViewN (off := off8) (j := (cN.length - 1) * 3) [sV ((cN.getD (cN.length - 1) kz7).1), bV ((cN.getD (cN.length - 1) kz7).2.1), bV ((cN.getD (cN.length - 1) kz7).2.2)] (by kernel_rfl) (by omega) (by kernel_rfl) (rec_gets (f := kq7) (k := 3) (z := kz7) (l := cN) (i := (cN.length - 1)) (o := 0) (fun _ => rfl) (by omega) (Nat.le_of_ble_eq_true rfl) rfl)) (by kernel_rfl) rfl (by kernel_rfl) rfl ?_
    refine Sq.ex [] (l := []) (o_new [sV ⟨#[]⟩, bV false, bV false] (fun w => by kernel_rfl)) (by kernel_rfl) rfl (by kernel_rfl) (fun _ => Nat.zero_le _) ?_; intro b9 _
    refine Sq.same [6] (l := [blkR b9 [sV ⟨#[]⟩, bV false, bV false] 88]) (o_store (i := 0) (v := .agg #[sV ((cN.getD (cN.length - 1) kz7).1), bV ((cN.getD (cN.length - 1) kz7).2.1), bV ((cN.getD (cN.length - 1) kz7).2.2)]) (by kernel_rfl) (by kernel_rfl) (by kernel_rfl) (by kernel_rfl) (by kernel_rfl)) (by kernel_rfl) rfl (by kernel_rfl) rfl ?_
    refine Sq.done ?_
    refine Ex'.next ?_
    refine Cd.seq ?_
    refine Cd.region rfl ?_
    refine Sq.vals [0] (rest := [1, 2, 3, 4, 5, 6, 7, 8]) [pV b3 2] (fun w => by kernel_rfl) ?_
    refine Sq.same [3] (l := [blkR b3 [iV cMost, iV cTarget, .slice (some ⟨b7, off8, none⟩) cN.length cNc, .slice cAa cA.length cAc, .slice cGa cG.length cGc] 61]) (o_load (i := 2) (v := .slice (some ⟨b7, off8, none⟩) cN.length cNc) (by kernel_rfl) (by kernel_rfl) (by kernel_rfl)) (by kernel_rfl) rfl (by kernel_rfl) rfl ?_
    refine Sq.vals [2] (rest := [3, 4, 5, 6, 7, 8]) [pV b3 2] (fun w => by kernel_rfl) ?_
    refine Sq.same [3] (l := [blkR b3 [iV cMost, iV cTarget, .slice (some ⟨b7, off8, none⟩) cN.length cNc, .slice cAa cA.length cAc, .slice cGa cG.length cGc] 61]) (o_load (i := 2) (v := .slice (some ⟨b7, off8, none⟩) cN.length cNc) (by kernel_rfl) (by kernel_rfl) (by kernel_rfl)) (by kernel_rfl) rfl (by kernel_rfl) rfl ?_
    refine Sq.vals [4] (rest := [5, 6, 7, 8]) [iV (cN.length : Int)] (fun w => by kernel_rfl) ?_
    refine Sq.v (r := iV ((cN.length - 1 : Nat) : Int)) (o_sub (k := .i64) (a := (cN.length : Int)) (b := 1) (c := ((cN.length - 1 : Nat) : Int)) (by kernel_rfl) (by kernel_rfl) (w64 (by omega) (by omega))) rfl (by kernel_rfl) ?_
    refine Sq.v (r := .slice (some ⟨b7, off8, none⟩) (cN.length - 1) cNc) (o_cutTo (kd := .i64) (q := ((cN.length - 1 : Nat) : Int)) (h := (cN.length - 1)) (n := cN.length) (size := 3) (by kernel_rfl) (by kernel_rfl) (by rfl) (by omega) Try.underlying59 (by kernel_rfl)) rfl (by kernel_rfl) ?_
    refine Sq.res 0 (R := vewR 3 (.slice (some ⟨b7, off8, none⟩) cN.length cNc) cN.length (cN.flatMap kq7)) (R' := vewR 3 (.slice (some ⟨b7, off8, none⟩) (cN.length - 1) cNc) (cN.length - 1) ((cN.take (cN.length - 1)).flatMap kq7)) (by kernel_rfl) (vew_cut (f := kq7) (fun _ => rfl) (by omega)) ?_
    refine Sq.vals [7] (rest := [8]) [pV b3 2] (fun w => by kernel_rfl) ?_
    refine Sq.same [3] (l := [blkR b3 [iV cMost, iV cTarget, .slice (some ⟨b7, off8, none⟩) cN.length cNc, .slice cAa cA.length cAc, .slice cGa cG.length cGc] 61]) (o_store (i := 2) (v := .slice (some ⟨b7, off8, none⟩) (cN.length - 1) cNc) (by kernel_rfl) (by kernel_rfl) (by kernel_rfl) (by kernel_rfl) (by kernel_rfl)) (by kernel_rfl) rfl (by kernel_rfl) rfl ?_
    refine Sq.done ?_
    refine Ex'.next ?_
    refine Cd.seq ?_
    refine Cd.plan [0, 0, 1, 7] [(0, [(3, false, 0)]), (1, [(6, false, 0)]), (2, [(4, true, 0)]), (3, [(5, true, 0)])] [] [] [(4, 2, fun g => blkR b4 [iV cMost, iV cTarget, .slice (some ⟨b7, off8, none⟩) (cN.length - 1) cNc, .slice cAa cA.length cAc, .slice cGa cG.length cGc] 61), (5, 3, fun g => blkR b5 [sV ((cN.getD (cN.length - 1) kz7).1), bV ((cN.getD (cN.length - 1) kz7).2.1), bV ((cN.getD (cN.length - 1) kz7).2.2)] 88)] [fun g => .agg #[iV cMost, iV cTarget, .slice (some ⟨b7, off8, none⟩) (cN.length - 1) cNc, .slice cAa cA.length cAc, .slice cGa cG.length cGc], fun g => .agg #[sV ((cN.getD (cN.length - 1) kz7).1), bV ((cN.getD (cN.length - 1) kz7).2.1), bV ((cN.getD (cN.length - 1) kz7).2.2)], fun g => undef, fun g => undef] (by kernel_rfl) (by kernel_rfl) rfl (trivial) ?_ ?_
    · exact ⟨ob_s (l := fun g => [blkR b3 [iV cMost, iV cTarget, .slice (some ⟨b7, off8, none⟩) (cN.length - 1) cNc, .slice cAa cA.length cAc, .slice cGa cG.length cGc] 61]) (l' := fun g => [blkR b3 [iV cMost, iV cTarget, .slice (some ⟨b7, off8, none⟩) (cN.length - 1) cNc, .slice cAa cA.length cAc, .slice cGa cG.length cGc] 61]) (v := fun g => .agg #[iV cMost, iV cTarget, .slice (some ⟨b7, off8, none⟩) (cN.length - 1) cNc, .slice cAa cA.length cAc, .slice cGa cG.length cGc]) (fun g => o_loadN (i := 0) [iV cMost, iV cTarget, .slice (some ⟨b7, off8, none⟩) (cN.length - 1) cNc, .slice cAa cA.length cAc, .slice cGa cG.length cGc] (by kernel_rfl) (by kernel_rfl) (by kernel_rfl)) (fun g => by kernel_rfl), ob_s (l := fun g => [blkR b9 [sV ((cN.getD (cN.length - 1) kz7).1), bV ((cN.getD (cN.length - 1) kz7).2.1), bV ((cN.getD (cN.length - 1) kz7).2.2)] 88]) (l' := fun g => [blkR b9 [sV ((cN.getD (cN.length - 1) kz7).1), bV ((cN.getD (cN.length - 1) kz7).2.1), bV ((cN.getD (cN.length - 1) kz7).2.2)] 88]) (v := fun g => .agg #[sV ((cN.getD (cN.length - 1) kz7).1), bV ((cN.getD (cN.length - 1) kz7).2.1), bV ((cN.getD (cN.length - 1) kz7).2.2)]) (fun g => o_loadN (i := 0) [sV ((cN.getD (cN.length - 1) kz7).1), bV ((cN.getD (cN.length - 1) kz7).2.1), bV ((cN.getD (cN.length - 1) kz7).2.2)] (by kernel_rfl) (by kernel_rfl) (by kernel_rfl)) (fun g => by kernel_rfl), ob_s (l := fun g => [blkR b4 [iV 0, iV 0, .slice none 0 0, .slice none 0 0, .slice none 0 0] 61]) (l' := fun g => [blkR b4 [iV cMost, iV cTarget, .slice (some ⟨b7, off8, none⟩) (cN.length - 1) cNc, .slice cAa cA.length cAc, .slice cGa cG.length cGc] 61]) (v := fun g => undef) (fun g => o_store (i := 0) (v := .agg #[iV cMost, iV cTarget, .slice (some ⟨b7, off8, none⟩) (cN.length - 1) cNc, .slice cAa cA.length cAc, .slice cGa cG.length cGc]) (by kernel_rfl) (by kernel_rfl) (by kernel_rfl) (by kernel_rfl) (by kernel_rfl)) (fun g => by kernel_rfl), ob_s (l := fun g => [blkR b5 [sV ⟨#[]⟩, bV false, bV false] 88]) (l' := fun g => [blkR b5 [sV ((cN.getD (cN.length - 1) kz7).1), bV ((cN.getD (cN.length - 1) kz7).2.1), bV ((cN.getD (cN.length - 1) kz7).2.2)] 88]) (v := fun g => undef) (fun g => o_store (i := 0) (v := .agg #[sV ((cN.getD (cN.length - 1) kz7).1), bV ((cN.getD (cN.length - 1) kz7).2.1), bV ((cN.getD (cN.length - 1) kz7).2.2)]) (by kernel_rfl) (by kernel_rfl) (by kernel_rfl) (by kernel_rfl) (by kernel_rfl)) (fun g => by kernel_rfl), trivial⟩
    intro g
    refine Ex'.sub (subB_spec [1, 2, 3]) ?_
    refine Ex'.as [0, 1, 2, 3, 4, 5, 6] (σ' := [(1, pV b3 0), (2, pV b4 0), (3, pV b5 0)]) (Γ' := [vewR 3 (.slice (some ⟨b7, off8, none⟩) (cN.length - 1) cNc) (cN.length - 1) ((cN.take (cN.length - 1)).flatMap kq7), vewR 3 (.slice cAa cA.length cAc) cA.length (cA.flatMap kq7), vewR 3 (.slice cGa cG.length cGc) cG.length (cG.flatMap kq7), blkR b3 [iV cMost, iV cTarget, .slice (some ⟨b7, off8, none⟩) (cN.length - 1) cNc, .slice cAa cA.length cAc, .slice cGa cG.length cGc] 61, blkR b4 [iV cMost, iV cTarget, .slice (some ⟨b7, off8, none⟩) (cN.length - 1) cNc, .slice cAa cA.length cAc, .slice cGa cG.length cGc] 61, blkR b5 [sV ((cN.getD (cN.length - 1) kz7).1), bV ((cN.getD (cN.length - 1) kz7).2.1), bV ((cN.getD (cN.length - 1) kz7).2.2)] 88, blkR b9 [sV ((cN.getD (cN.length - 1) kz7).1), bV ((cN.getD (cN.length - 1) kz7).2.1), bV ((cN.getD (cN.length - 1) kz7).2.2)] 88]) (by kernel_rfl) rfl (by kernel_rfl) (by kernel_rfl) ?_
    refine Ex'.next ?_
    refine Cd.ret ?_
    refine Ex'.thenRet ?_
    refine Ex'.ret Try.results78 (RVs.cellN (i := 0) (b := b4) (l := [iV cMost, iV cTarget, .slice (some ⟨b7, off8, none⟩) (cN.length - 1) cNc, .slice cAa cA.length cAc, .slice cGa cG.length cGc]) (E := 61) [iV cMost, iV cTarget, .slice (some ⟨b7, off8, none⟩) (cN.length - 1) cNc, .slice cAa cA.length cAc, .slice cGa cG.length cGc] 4 (by kernel_rfl) (by kernel_rfl) (by kernel_rfl) (by kernel_rfl) (RVs.cellN (i := 0) (b := b5) (l := [sV ((cN.getD (cN.length - 1) kz7).1), bV ((cN.getD (cN.length - 1) kz7).2.1), bV ((cN.getD (cN.length - 1) kz7).2.2)]) (E := 88) [sV ((cN.getD (cN.length - 1) kz7).1), bV ((cN.getD (cN.length - 1) kz7).2.1), bV ((cN.getD (cN.length - 1) kz7).2.2)] 5 (by kernel_rfl) (by kernel_rfl) (by kernel_rfl) (by kernel_rfl) (RVs.nil))) (fun w hw => ?_)
    have e : r7Go cMost cTarget cN cA cG = (cN.take (cN.length - 1), cA, cG, (cN.getD (cN.length - 1) kz7).1, (cN.getD (cN.length - 1) kz7).2.1, (cN.getD (cN.length - 1) kz7).2.2) := by unfold r7Go; rw [if_pos h6]
    rw [e]
    exact ⟨_, ⟨(.slice (some ⟨b7, off8, none⟩) (cN.length - 1) cNc, .slice cAa cA.length cAc, .slice cGa cG.length cGc), trivial, rfl, rfl⟩, (hw.conv 0 (R := vewR 3 (.slice (some ⟨b7, off8, none⟩) (cN.length - 1) cNc) (cN.length - 1) ((cN.take (cN.length - 1)).flatMap kq7)) (R' := vewR 3 (.slice (some ⟨b7, off8, none⟩) (cN.length - 1) cNc) ((cN.take (cN.length - 1)).length) ((cN.take (cN.length - 1)).flatMap kq7)) (by kernel_rfl) (vew_len (by first | rfl | omega | (simp only [List.length_take, List.length_drop, List.length_append, List.length_cons, List.length_nil]; omega) | (simp; done) | (simp; omega)))).pickB [0, 1, 2] (by kernel_rfl) (by kernel_rfl) (by kernel_rfl)⟩
  ·
    refine Cd.skip ?_
    refine Ex'.next ?_
    refine Cd.seq ?_
    refine Cd.region rfl ?_
    refine Sq.vals [0] (rest := [1, 2, 3, 4, 5, 6, 7, 8, 9]) [pV b3 3] (fun w => by kernel_rfl) ?_
    refine Sq.same [3] (l := [blkR b3 [iV cMost, iV cTarget, .slice cNa cN.length cNc, .slice cAa cA.length cAc, .slice cGa cG.length cGc] 61]) (o_load (i := 3) (v := .slice cAa cA.length cAc) (by kernel_rfl) (by kernel_rfl) (by kernel_rfl)) (by kernel_rfl) rfl (by kernel_rfl) rfl ?_
    refine Sq.vals [2] (rest := [3, 4, 5, 6, 7, 8, 9]) [pV b3 3] (fun w => by kernel_rfl) ?_
    refine Sq.same [3] (l := [blkR b3 [iV cMost, iV cTarget, .slice cNa cN.length cNc, .slice cAa cA.length cAc, .slice cGa cG.length cGc] 61]) (o_load (i := 3) (v := .slice cAa cA.length cAc) (by kernel_rfl) (by kernel_rfl) (by kernel_rfl)) (by kernel_rfl) rfl (by kernel_rfl) rfl ?_
    refine Sq.vals [4] (rest := [5, 6, 7, 8, 9]) [iV (cA.length : Int)] (fun w => by kernel_rfl) ?_
    refine Sq.v (r := iV ((cA.length - 1 : Nat) : Int)) (o_sub (k := .i64) (a := (cA.length : Int)) (b := 1) (c := ((cA.length - 1 : Nat) : Int)) (by kernel_rfl) (by kernel_rfl) (w64 (by omega) (by omega))) rfl (by kernel_rfl) ?_
    refine Sq.fact (i := 1) (R := vewR 3 (.slice cAa cA.length cAc) cA.length (cA.flatMap kq7)) (by kernel_rfl) (vew_addr (by omega)) ?_; rintro ⟨b10, off11, rfl⟩
    refine Sq.v (r := pV b10 (off11 + (cA.length - 1) * 3)) (o_idx (b := b10) (cap := cAc) (e := 88) (off := off11) (n := cA.length) (kd := .i64) (q := ((cA.length - 1 : Nat) : Int)) (i := (cA.length - 1)) (size := 3) (j := off11 + (cA.length - 1) * 3) (by kernel_rfl) (by kernel_rfl) (by rfl) (by omega) Try.underlying59 (by kernel_rfl) (by omega)) rfl (by kernel_rfl) ?_
    refine Sq.same [1] (l := [vewR 3 (.slice (some ⟨b10, off11, none⟩) cA.length cAc) cA.length (cA.flatMap kq7)]) (o_loadViewN (off := off11) (j := (cA.length - 1) * 3) [sV ((cA.getD (cA.length - 1) kz7).1), bV ((cA.getD (cA.length - 1) kz7).2.1), bV ((cA.getD (cA.length - 1) kz7).2.2)] (by kernel_rfl) (by omega) (by kernel_rfl) (rec_gets (f := kq7) (k := 3) (z := kz7) (l := cA) (i := (cA.length - 1)) (o := 0) (fun _ => rfl) (by omega) (Nat.le_of_ble_eq_true rfl) rfl)) (by kernel_rfl) rfl (by kernel_rfl) rfl ?_
    refine Sq.ex [] (l := []) (o_new [sV ⟨#[]⟩, bV false, bV false] (fun w => by kernel_rfl)) (by kernel_rfl) rfl (by kernel_rfl) (fun _ => Nat.zero_le _) ?_; intro b12 _
    refine Sq.same [6] (l := [blkR b12 [sV ⟨#[]⟩, bV false, bV false] 88]) (o_store (i := 0) (v := .agg #[sV ((cA.getD (cA.length - 1) kz7).1), bV ((cA.getD (cA.length - 1) kz7).2.1), bV ((cA.getD (cA.length - 1) kz7).2.2)]) (by kernel_rfl) (by kernel_rfl) (by kernel_rfl) (by kernel_rfl) (by kernel_rfl)) (by kernel_rfl) rfl (by kernel_rfl) rfl ?_
    refine Sq.done ?_
    refine Ex'.next ?_
    refine Cd.seq ?_
    refine Cd.region rfl ?_
    refine Sq.vals [0] (rest := [1, 2, 3, 4, 5, 6, 7, 8]) [pV b3 3] (fun w => by kernel_rfl) ?_
    refine Sq.same [3] (l := [blkR b3 [iV cMost, iV cTarget, .slice cNa cN.length cNc, .slice (some ⟨b10, off11, none⟩) cA.length cAc, .slice cGa cG.length cGc] 61]) (o_load (i := 3) (v := .slice (some ⟨b10, off11, none⟩) cA.length cAc) (by kernel_rfl) (by kernel_rfl) (by kernel_rfl)) (by kernel_rfl) rfl (by kernel_rfl) rfl ?_
    refine Sq.vals [2] (rest := [3, 4, 5, 6, 7, 8]) [pV b3 3] (fun w => by kernel_rfl) ?_
    refine Sq.same [3] (l := [blkR b3 [iV cMost, iV cTarget, .slice cNa cN.length cNc, .slice (some ⟨b10, off11, none⟩) cA.length cAc, .slice cGa cG.length cGc] 61]) (o_load (i := 3) (v := .slice (some ⟨b10, off11, none⟩) cA.length cAc) (by kernel_rfl) (by kernel_rfl) (by kernel_rfl)) (by kernel_rfl) rfl (by kernel_rfl) rfl ?_
    refine Sq.vals [4] (rest := [5, 6, 7, 8]) [iV (cA.length : Int)] (fun w => by kernel_rfl) ?_
    refine Sq.v (r := iV ((cA.length - 1 : Nat) : Int)) (o_sub (k := .i64) (a := (cA.length : Int)) (b := 1) (c := ((cA.length - 1 : Nat) : Int)) (by kernel_rfl) (by kernel_rfl) (w64 (by omega) (by omega))) rfl (by kernel_rfl) ?_
    refine Sq.v (r := .slice (some ⟨b10, off11, none⟩) (cA.length - 1) cAc) (o_cutTo (kd := .i64) (q := ((cA.length - 1 : Nat) : Int)) (h := (cA.length - 1)) (n := cA.length) (size := 3) (by kernel_rfl) (by kernel_rfl) (by rfl) (by omega) Try.underlying59 (by kernel_rfl)) rfl (by kernel_rfl) ?_
    refine Sq.res 1 (R := vewR 3 (.slice (some ⟨b10, off11, none⟩) cA.length cAc) cA.length (cA.flatMap kq7)) (R' := vewR 3 (.slice (some ⟨b10, off11, none⟩) (cA.length - 1) cAc) (cA.length - 1) ((cA.take (cA.length - 1)).flatMap kq7)) (by kernel_rfl) (vew_cut (f := kq7) (fun _ => rfl) (by omega)) ?_
    refine Sq.vals [7] (rest := [8]) [pV b3 3] (fun w => by kernel_rfl) ?_
    refine Sq.same [3] (l := [blkR b3 [iV cMost, iV cTarget, .slice cNa cN.length cNc, .slice (some ⟨b10, off11, none⟩) cA.length cAc, .slice cGa cG.length cGc] 61]) (o_store (i := 3) (v := .slice (some ⟨b10, off11, none⟩) (cA.length - 1) cAc) (by kernel_rfl) (by kernel_rfl) (by kernel_rfl) (by kernel_rfl) (by kernel_rfl)) (by kernel_rfl) rfl (by kernel_rfl) rfl ?_
    refine Sq.done ?_
    refine Ex'.next ?_
    refine Cd.seq ?_
    refine Cd.plan [0, 0, 1, 7] [(0, [(3, false, 0)]), (1, [(6, false, 0)]), (2, [(4, true, 0)]), (3, [(5, true, 0)])] [] [] [(4, 2, fun g => blkR b4 [iV cMost, iV cTarget, .slice cNa cN.length cNc, .slice (some ⟨b10, off11, none⟩) (cA.length - 1) cAc, .slice cGa cG.length cGc] 61), (5, 3, fun g => blkR b5 [sV ((cA.getD (cA.length - 1) kz7).1), bV ((cA.getD (cA.length - 1) kz7).2.1), bV ((cA.getD (cA.length - 1) kz7).2.2)] 88)] [fun g => .agg #[iV cMost, iV cTarget, .slice cNa cN.length cNc, .slice (some ⟨b10, off11, none⟩) (cA.length - 1) cAc, .slice cGa cG.length cGc], fun g => .agg #[sV ((cA.getD (cA.length - 1) kz7).1), bV ((cA.getD (cA.length - 1) kz7).2.1), bV ((cA.getD (cA.length - 1) kz7).2.2)], fun g => undef, fun g => undef] (by kernel_rfl) (by kernel_rfl) rfl (trivial) ?_ ?_
    · exact ⟨ob_s (l := fun g => [blkR b3 [iV cMost, iV cTarget, .slice cNa cN.length cNc, .slice (some ⟨b10, off11, none⟩) (cA.length - 1) cAc, .slice cGa cG.length cGc] 61]) (l' := fun g => [blkR b3 [iV cMost, iV cTarget, .slice cNa cN.length cNc, .slice (some ⟨b10, off11, none⟩) (cA.length - 1) cAc, .slice cGa cG.length cGc] 61]) (v := fun g => .agg #[iV cMost, iV cTarget, .slice cNa cN.length cNc, .slice (some ⟨b10, off11, none⟩) (cA.length - 1) cAc, .slice cGa cG.length cGc]) (fun g => o_loadN (i := 0) [iV cMost, iV cTarget, .slice cNa cN.length cNc, .slice (some ⟨b10, off11, none⟩) (cA.length - 1) cAc, .slice cGa cG.length cGc] (by kernel_rfl) (by kernel_rfl) (by kernel_rfl)) (fun g => by kernel_rfl), ob_s (l := fun g => [blkR b12 [sV ((cA.getD (cA.length - 1) kz7).1), bV ((cA.getD (cA.length - 1) kz7).2.1), bV ((cA.getD (cA.length - 1) kz7).2.2)] 88]) (l' := fun g => [blkR b12 [sV ((cA.getD (cA.length - 1) kz7).1), bV ((cA.getD (cA.length - 1) kz7).2.1), bV ((cA.getD (cA.length - 1) kz7).2.2)] 88]) (v := fun g => .agg #[sV ((cA.getD (cA.length - 1) kz7).1), bV ((cA.getD (cA.length - 1) kz7).2.1), bV ((cA.getD (cA.length - 1) kz7).2.2)]) (fun g => o_loadN (i := 0) [sV ((cA.getD (cA.length - 1) kz7).1), bV ((cA.getD (cA.length - 1) kz7).2.1), bV ((cA.getD (cA.length - 1) kz7).2.2)] (by kernel_rfl) (by kernel_rfl) (by kernel_rfl)) (fun g => by kernel_rfl), ob_s (l := fun g => [blkR b4 [iV 0, iV 0, .slice none 0 0, .slice none 0 0, .slice none 0 0] 61]) (l' := fun g => [blkR b4 [iV cMost, iV cTarget, .slice cNa cN.length cNc, .slice (some ⟨b10, off11, none⟩) (cA.length - 1) cAc, .slice cGa cG.length cGc] 61]) (v := fun g => undef) (fun g => o_store (i := 0) (v := .agg #[iV cMost, iV cTarget, .slice cNa cN.length cNc, .slice (some ⟨b10, off11, none⟩) (cA.length - 1) cAc, .slice cGa cG.length cGc]) (by kernel_rfl) (by kernel_rfl) (by kernel_rfl) (by kernel_rfl) (by kernel_rfl)) (fun g => by kernel_rfl), ob_s (l := fun g => [blkR b5 [sV ⟨#[]⟩, bV false, bV false] 88]) (l' := fun g => [blkR b5 [sV ((cA.getD (cA.length - 1) kz7).1), bV ((cA.getD (cA.length - 1) kz7).2.1), bV ((cA.getD (cA.length - 1) kz7).2.2)] 88]) (v := fun g => undef) (fun g => o_store (i := 0) (v := .agg #[sV ((cA.getD (cA.length - 1) kz7).1), bV ((cA.getD (cA.length - 1) kz7).2.1), bV ((cA.getD (cA.length - 1) kz7).2.2)]) (by kernel_rfl) (by kernel_rfl) (by kernel_rfl) (by kernel_rfl) (by kernel_rfl)) (fun g => by kernel_rfl), trivial⟩
    intro g
    refine Ex'.sub (subB_spec [2, 3]) ?_
    refine Ex'.as [0, 1, 2, 3, 4, 5, 6] (σ' := [(2, pV b4 0), (3, pV b5 0)]) (Γ' := [vewR 3 (.slice cNa cN.length cNc) cN.length (cN.flatMap kq7), vewR 3 (.slice (some ⟨b10, off11, none⟩) (cA.length - 1) cAc) (cA.length - 1) ((cA.take (cA.length - 1)).flatMap kq7), vewR 3 (.slice cGa cG.length cGc) cG.length (cG.flatMap kq7), blkR b3 [iV cMost, iV cTarget, .slice cNa cN.length cNc, .slice (some ⟨b10, off11, none⟩) (cA.length - 1) cAc, .slice cGa cG.length cGc] 61, blkR b4 [iV cMost, iV cTarget, .slice cNa cN.length cNc, .slice (some ⟨b10, off11, none⟩) (cA.length - 1) cAc, .slice cGa cG.length cGc] 61, blkR b5 [sV ((cA.getD (cA.length - 1) kz7).1), bV ((cA.getD (cA.length - 1) kz7).2.1), bV ((cA.getD (cA.length - 1) kz7).2.2)] 88, blkR b12 [sV ((cA.getD (cA.length - 1) kz7).1), bV ((cA.getD (cA.length - 1) kz7).2.1), bV ((cA.getD (cA.length - 1) kz7).2.2)] 88]) (by kernel_rfl) rfl (by kernel_rfl) (by kernel_rfl) ?_
    refine Ex'.next ?_
    refine Cd.ret ?_
    refine Ex'.ret Try.results78 (RVs.cellN (i := 0) (b := b4) (l := [iV cMost, iV cTarget, .slice cNa cN.length cNc, .slice (some ⟨b10, off11, none⟩) (cA.length - 1) cAc, .slice cGa cG.length cGc]) (E := 61) [iV cMost, iV cTarget, .slice cNa cN.length cNc, .slice (some ⟨b10, off11, none⟩) (cA.length - 1) cAc, .slice cGa cG.length cGc] 4 (by kernel_rfl) (by kernel_rfl) (by kernel_rfl) (by kernel_rfl) (RVs.cellN (i := 0) (b := b5) (l := [sV ((cA.getD (cA.length - 1) kz7).1), bV ((cA.getD (cA.length - 1) kz7).2.1), bV ((cA.getD (cA.length - 1) kz7).2.2)]) (E := 88) [sV ((cA.getD (cA.length - 1) kz7).1), bV ((cA.getD (cA.length - 1) kz7).2.1), bV ((cA.getD (cA.length - 1) kz7).2.2)] 5 (by kernel_rfl) (by kernel_rfl) (by kernel_rfl) (by kernel_rfl) (RVs.nil))) (fun w hw => ?_)
    have e : r7Go cMost cTarget cN cA cG = (cN, cA.take (cA.length - 1), cG, (cA.getD (cA.length - 1) kz7).1, (cA.getD (cA.length - 1) kz7).2.1, (cA.getD (cA.length - 1) kz7).2.2) := by unfold r7Go; rw [if_neg h6]
    rw [e]
    exact ⟨_, ⟨(.slice cNa cN.length cNc, .slice (some ⟨b10, off11, none⟩) (cA.length - 1) cAc, .slice cGa cG.length cGc), trivial, rfl, rfl⟩, (hw.conv 1 (R := vewR 3 (.slice (some ⟨b10, off11, none⟩) (cA.length - 1) cAc) (cA.length - 1) ((cA.take (cA.length - 1)).flatMap kq7)) (R' := vewR 3 (.slice (some ⟨b10, off11, none⟩) (cA.length - 1) cAc) ((cA.take (cA.length - 1)).length) ((cA.take (cA.length - 1)).flatMap kq7)) (by kernel_rfl) (vew_len (by first | rfl | omega | (simp only [List.length_take, List.length_drop, List.length_append, List.length_cons, List.length_nil]; omega) | (simp; done) | (simp; omega)))).pickB [0, 1, 2] (by kernel_rfl) (by kernel_rfl) (by kernel_rfl)⟩

def r7Drop (cMost : Int) (cTarget : Int) (cN : List K7) (cA : List K7) (cG : List K7) : List K7 × List K7 × List K7 × ByteArray × Bool :=
  if ((cN.length + cA.length : Nat) : Int) = 0 then (cN, cA, cG, ⟨#[]⟩, false) else ((r7Go cMost cTarget cN cA cG).1, (r7Go cMost cTarget cN cA cG).2.1, (r7Go cMost cTarget cN cA cG).2.2.1, (r7Go cMost cTarget cN cA cG).2.2.2.1, true)

set_option maxHeartbeats 8000000 in
set_option maxRecDepth 100000 in
theorem t_Drop07 {cNa : Option Addr} {cNc : Nat} {cAa : Option Addr} {cAc : Nat} {cGa : Option Addr} {cGc : Nat} {cMost : Int} {cTarget : Int} {cN : List K7} {cA : List K7} {cG : List K7} (hbd : cN.length + cA.length + cG.length ≤ 1000000) : Tri Try.prog 52 #[.agg #[iV cMost, iV cTarget, .slice cNa cN.length cNc, .slice cAa cA.length cAc, .slice cGa cG.length cGc]] [vewR 3 (.slice cNa cN.length cNc) cN.length (cN.flatMap kq7), vewR 3 (.slice cAa cA.length cAc) cA.length (cA.flatMap kq7), vewR 3 (.slice cGa cG.length cGc) cG.length (cG.flatMap kq7)] (PostE (ι := Value × Value × Value) (fun _ => True) (fun v => .tuple #[.agg #[iV cMost, iV cTarget, v.1, v.2.1, v.2.2], sV ((r7Drop cMost cTarget cN cA cG).2.2.2.1), bV ((r7Drop cMost cTarget cN cA cG).2.2.2.2)]) fun v => [vewR 3 v.1 (((r7Drop cMost cTarget cN cA cG).1).length) (((r7Drop cMost cTarget cN cA cG).1).flatMap kq7), vewR 3 v.2.1 (((r7Drop cMost cTarget cN cA cG).2.1).length) (((r7Drop cMost cTarget cN cA cG).2.1).flatMap kq7), vewR 3 v.2.2 (((r7Drop cMost cTarget cN cA cG).2.2.1).length) (((r7Drop cMost cTarget cN cA cG).2.2.1).flatMap kq7)]) := by
  refine Tri.enter (args := [.agg #[iV cMost, iV cTarget, .slice cNa cN.length cNc, .slice cAa cA.length cAc, .slice cGa cG.length cGc]]) Try.func52 rfl rfl rfl (fun B wz => ?_)
  refine Cd.fact (i := 0) rfl vew_cap ?_; intro hcap0
  refine Cd.fact (i := 1) rfl vew_cap ?_; intro hcap1
  refine Cd.fact (i := 2) rfl vew_cap ?_; intro hcap2
  refine Cd.seq ?_
  refine Cd.region rfl ?_
  refine Sq.ex [] (l := []) (o_newBox (v := .agg #[iV cMost, iV cTarget, .slice cNa cN.length cNc, .slice cAa cA.length cAc, .slice cGa cG.length cGc]) [iV cMost, iV cTarget, .slice cNa cN.length cNc, .slice cAa cA.length cAc, .slice cGa cG.length cGc] (by kernel_rfl) rfl) (by kernel_rfl) rfl (by kernel_rfl) (fun _ => Nat.zero_le _) ?_; intro b3 _
  refine Sq.ex [] (l := []) (o_new [iV 0, iV 0, .slice none 0 0, .slice none 0 0, .slice none 0 0] (fun w => by kernel_rfl)) (by kernel_rfl) rfl (by kernel_rfl) (fun _ => Nat.zero_le _) ?_; intro b4 _
  refine Sq.vals [2, 3] (rest := []) [sV ⟨#[]⟩, bV false] (fun w => by kernel_rfl) ?_
  refine Sq.done ?_
  refine Ex'.next ?_
  refine Cd.seq ?_
  refine Cd.seq ?_
  refine Cd.region rfl ?_
  refine Sq.vals [0] (rest := [1, 2, 3, 4, 5, 6, 7]) [pV b3 2] (fun w => by kernel_rfl) ?_
  refine Sq.same [3] (l := [blkR b3 [iV cMost, iV cTarget, .slice cNa cN.length cNc, .slice cAa cA.length cAc, .slice cGa cG.length cGc] 61]) (o_load (i := 2) (v := .slice cNa cN.length cNc) (by kernel_rfl) (by kernel_rfl) (by kernel_rfl)) (by kernel_rfl) rfl (by kernel_rfl) rfl ?_
  refine Sq.vals [2, 3] (rest := [4, 5, 6, 7]) [iV (cN.length : Int), pV b3 3] (fun w => by kernel_rfl) ?_
  refine Sq.same [3] (l := [blkR b3 [iV cMost, iV cTarget, .slice cNa cN.length cNc, .slice cAa cA.length cAc, .slice cGa cG.length cGc] 61]) (o_load (i := 3) (v := .slice cAa cA.length cAc) (by kernel_rfl) (by kernel_rfl) (by kernel_rfl)) (by kernel_rfl) rfl (by kernel_rfl) rfl ?_
  refine Sq.vals [5] (rest := [6, 7]) [iV (cA.length : Int)] (fun w => by kernel_rfl) ?_
  refine Sq.v (r := iV ((cN.length + cA.length : Nat) : Int)) (o_add (k := .i64) (a := (cN.length : Int)) (b := (cA.length : Int)) (c := ((cN.length + cA.length : Nat) : Int)) (by kernel_rfl) (by kernel_rfl) (w64 (by omega) (by omega))) rfl (by kernel_rfl) ?_
  refine Sq.v (r := bV (decide (((cN.length + cA.length : Nat) : Int) = 0))) (o_eqI (k := .i64) (a := ((cN.length + cA.length : Nat) : Int)) (b := 0) (by kernel_rfl) (by kernel_rfl)) rfl (by kernel_rfl) ?_
  refine Sq.done ?_
  refine Ex'.next ?_
  refine Cd.case (p := ((cN.length + cA.length : Nat) : Int) = 0) (by kernel_rfl) (fun h5 => ?_) (fun h5 => ?_)
  ·
    refine Cd.seq ?_
    refine Cd.region rfl ?_
    refine Sq.same [3] (l := [blkR b3 [iV cMost, iV cTarget, .slice cNa cN.length cNc, .slice cAa cA.length cAc, .slice cGa cG.length cGc] 61]) (o_loadN (i := 0) [iV cMost, iV cTarget, .slice cNa cN.length cNc, .slice cAa cA.length cAc, .slice cGa cG.length cGc] (by kernel_rfl) (by kernel_rfl) (by kernel_rfl)) (by kernel_rfl) rfl (by kernel_rfl) rfl ?_
    refine Sq.same [4] (l := [blkR b4 [iV 0, iV 0, .slice none 0 0, .slice none 0 0, .slice none 0 0] 61]) (o_store (i := 0) (v := .agg #[iV cMost, iV cTarget, .slice cNa cN.length cNc, .slice cAa cA.length cAc, .slice cGa cG.length cGc]) (by kernel_rfl) (by kernel_rfl) (by kernel_rfl) (by kernel_rfl) (by kernel_rfl)) (by kernel_rfl) rfl (by kernel_rfl) rfl ?_
    refine Sq.vals [2, 3] (rest := []) [sV ⟨#[]⟩, bV false] (fun w => by kernel_rfl) ?_
    refine Sq.done ?_
    refine Ex'.next ?_
    refine Cd.ret ?_
    refine Ex'.thenRet ?_
    refine Ex'.ret Try.results52 (RVs.cellN (i := 0) (b := b4) (l := [iV cMost, iV cTarget, .slice cNa cN.length cNc, .slice cAa cA.length cAc, .slice cGa cG.length cGc]) (E := 61) [iV cMost, iV cTarget, .slice cNa cN.length cNc, .slice cAa cA.length cAc, .slice cGa cG.length cGc] 4 (by kernel_rfl) (by kernel_rfl) (by kernel_rfl) (by kernel_rfl) (RVs.tmp (v := sV ⟨#[]⟩) (by kernel_rfl) (RVs.tmp (v := bV false) (by kernel_rfl) (RVs.nil)))) (fun w hw => ?_)
    have e : r7Drop cMost cTarget cN cA cG = (cN, cA, cG, ⟨#[]⟩, false) := by unfold r7Drop; rw [if_pos h5]
    rw [e]
    exact ⟨_, ⟨(.slice cNa cN.length cNc, .slice cAa cA.length cAc, .slice cGa cG.length cGc), trivial, rfl, rfl⟩, hw.pickB [0, 1, 2] (by kernel_rfl) (by kernel_rfl) (by kernel_rfl)⟩
  ·
    refine Cd.skip ?_
    refine Ex'.next ?_
    refine Cd.seq ?_
    refine Cd.region rfl ?_
    refine Sq.same [3] (l := [blkR b3 [iV cMost, iV cTarget, .slice cNa cN.length cNc, .slice cAa cA.length cAc, .slice cGa cG.length cGc] 61]) (o_loadN (i := 0) [iV cMost, iV cTarget, .slice cNa cN.length cNc, .slice cAa cA.length cAc, .slice cGa cG.length cGc] (by kernel_rfl) (by kernel_rfl) (by kernel_rfl)) (by kernel_rfl) rfl (by kernel_rfl) rfl ?_
    refine Sq.ex [0, 1, 2] (l := [vewR 3 (.slice cNa cN.length cNc) cN.length (cN.flatMap kq7), vewR 3 (.slice cAa cA.length cAc) cA.length (cA.flatMap kq7), vewR 3 (.slice cGa cG.length cGc) cG.length (cG.flatMap kq7)]) (o_call (by kernel_rfl) Try.call78 (t_go107 (cMost := cMost) (cTarget := cTarget) (cN := cN) (cNa := cNa) (cNc := cNc) (cA := cA) (cAa := cAa) (cAc := cAc) (cG := cG) (cGa := cGa) (cGc := cGc) (by omega) (by omega))) (by kernel_rfl) rfl (by kernel_rfl) (fun _ => Nat.le_of_ble_eq_true (by kernel_rfl)) ?_; rintro ⟨v8, v9, v10⟩ _
    have q6 := congrArg List.length (r7Go_len cMost cTarget cN cA cG (by omega)).2; have q7 := (r7Go_len cMost cTarget cN cA cG (by omega)).1
    refine Sq.fact (i := 0) (R := vewR 3 v8 (((r7Go cMost cTarget cN cA cG).1).length) (((r7Go cMost cTarget cN cA cG).1).flatMap kq7)) (by kernel_rfl) vew_slice ?_; rintro ⟨a11, c12, rfl, hc12, hc12'⟩
    have hc12'' : c12 ≤ 9223372036854775807 := hc12'
    refine Sq.fact (i := 1) (R := vewR 3 v9 (((r7Go cMost cTarget cN cA cG).2.1).length) (((r7Go cMost cTarget cN cA cG).2.1).flatMap kq7)) (by kernel_rfl) vew_slice ?_; rintro ⟨a13, c14, rfl, hc14, hc14'⟩
    have hc14'' : c14 ≤ 9223372036854775807 := hc14'
    refine Sq.fact (i := 2) (R := vewR 3 v10 (((r7Go cMost cTarget cN cA cG).2.2.1).length) (((r7Go cMost cTarget cN cA cG).2.2.1).flatMap kq7)) (by kernel_rfl) vew_slice ?_; rintro ⟨a15, c16, rfl, hc16, hc16'⟩
    have hc16'' : c16 ≤ 9223372036854775807 := hc16'
    refine Sq.vals [2, 3, 4] (rest := [5, 6, 7]) [.tuple #[.agg #[iV cMost, iV cTarget, .slice a11 (((r7Go cMost cTarget cN cA cG).1).length) c12, .slice a13 (((r7Go cMost cTarget cN cA cG).2.1).length) c14, .slice a15 (((r7Go cMost cTarget cN cA cG).2.2.1).length) c16], .agg #[sV ((r7Go cMost cTarget cN cA cG).2.2.2.1), bV ((r7Go cMost cTarget cN cA cG).2.2.2.2.1), bV ((r7Go cMost cTarget cN cA cG).2.2.2.2.2)]], .agg #[iV cMost, iV cTarget, .slice a11 (((r7Go cMost cTarget cN cA cG).1).length) c12, .slice a13 (((r7Go cMost cTarget cN cA cG).2.1).length) c14, .slice a15 (((r7Go cMost cTarget cN cA cG).2.2.1).length) c16], .agg #[sV ((r7Go cMost cTarget cN cA cG).2.2.2.1), bV ((r7Go cMost cTarget cN cA cG).2.2.2.2.1), bV ((r7Go cMost cTarget cN cA cG).2.2.2.2.2)]] (fun w => by kernel_rfl) ?_
    refine Sq.ex [] (l := []) (o_new [sV ⟨#[]⟩, bV false, bV false] (fun w => by kernel_rfl)) (by kernel_rfl) rfl (by kernel_rfl) (fun _ => Nat.zero_le _) ?_; intro b17 _
    refine Sq.same [3] (l := [blkR b3 [iV cMost, iV cTarget, .slice cNa cN.length cNc, .slice cAa cA.length cAc, .slice cGa cG.length cGc] 61]) (o_store (i := 0) (v := .agg #[iV cMost, iV cTarget, .slice a11 (((r7Go cMost cTarget cN cA cG).1).length) c12, .slice a13 (((r7Go cMost cTarget cN cA cG).2.1).length) c14, .slice a15 (((r7Go cMost cTarget cN cA cG).2.2.1).length) c16]) (by kernel_rfl) (by kernel_rfl) (by kernel_rfl) (by kernel_rfl) (by kernel_rfl)) (by kernel_rfl) rfl (by kernel_rfl) rfl ?_
    refine Sq.same [5] (l := [blkR b17 [sV ⟨#[]⟩, bV false, bV false] 88]) (o_store (i := 0) (v := .agg #[sV ((r7Go cMost cTarget cN cA cG).2.2.2.1), bV ((r7Go cMost cTarget cN cA cG).2.2.2.2.1), bV ((r7Go cMost cTarget cN cA cG).2.2.2.2.2)]) (by kernel_rfl) (by kernel_rfl) (by kernel_rfl) (by kernel_rfl) (by kernel_rfl)) (by kernel_rfl) rfl (by kernel_rfl) rfl ?_
    refine Sq.done ?_
    refine Ex'.next ?_
    refine Cd.seq ?_
    refine Cd.sub (subB_spec [0, 1, 2, 6, 7, 8, 9, 10, 11, 12, 13, 16, 17, 15, 18, 19, 5]) ?_
    refine Cd.plan [0, 0, 2, 1, 15, 31] [(0, [(3, false, 0)]), (2, [(5, false, 0)]), (3, [(4, true, 0)])] [] [] [(4, 3, fun g => blkR b4 [iV cMost, iV cTarget, .slice a11 (((r7Go cMost cTarget cN cA cG).1).length) c12, .slice a13 (((r7Go cMost cTarget cN cA cG).2.1).length) c14, .slice a15 (((r7Go cMost cTarget cN cA cG).2.2.1).length) c16] 61)] [fun g => .agg #[iV cMost, iV cTarget, .slice a11 (((r7Go cMost cTarget cN cA cG).1).length) c12, .slice a13 (((r7Go cMost cTarget cN cA cG).2.1).length) c14, .slice a15 (((r7Go cMost cTarget cN cA cG).2.2.1).length) c16], fun g => pV b17 0, fun g => sV ((r7Go cMost cTarget cN cA cG).2.2.2.1), fun g => undef, fun g => sV ((r7Go cMost cTarget cN cA cG).2.2.2.1), fun g => bV true] (by kernel_rfl) (by kernel_rfl) rfl (trivial) ?_ ?_
    · exact ⟨ob_s (l := fun g => [blkR b3 [iV cMost, iV cTarget, .slice a11 (((r7Go cMost cTarget cN cA cG).1).length) c12, .slice a13 (((r7Go cMost cTarget cN cA cG).2.1).length) c14, .slice a15 (((r7Go cMost cTarget cN cA cG).2.2.1).length) c16] 61]) (l' := fun g => [blkR b3 [iV cMost, iV cTarget, .slice a11 (((r7Go cMost cTarget cN cA cG).1).length) c12, .slice a13 (((r7Go cMost cTarget cN cA cG).2.1).length) c14, .slice a15 (((r7Go cMost cTarget cN cA cG).2.2.1).length) c16] 61]) (v := fun g => .agg #[iV cMost, iV cTarget, .slice a11 (((r7Go cMost cTarget cN cA cG).1).length) c12, .slice a13 (((r7Go cMost cTarget cN cA cG).2.1).length) c14, .slice a15 (((r7Go cMost cTarget cN cA cG).2.2.1).length) c16]) (fun g => o_loadN (i := 0) [iV cMost, iV cTarget, .slice a11 (((r7Go cMost cTarget cN cA cG).1).length) c12, .slice a13 (((r7Go cMost cTarget cN cA cG).2.1).length) c14, .slice a15 (((r7Go cMost cTarget cN cA cG).2.2.1).length) c16] (by kernel_rfl) (by kernel_rfl) (by kernel_rfl)) (fun g => by kernel_rfl), ob_val fun g w => by kernel_rfl, ob_s (l := fun g => [blkR b17 [sV ((r7Go cMost cTarget cN cA cG).2.2.2.1), bV ((r7Go cMost cTarget cN cA cG).2.2.2.2.1), bV ((r7Go cMost cTarget cN cA cG).2.2.2.2.2)] 88]) (l' := fun g => [blkR b17 [sV ((r7Go cMost cTarget cN cA cG).2.2.2.1), bV ((r7Go cMost cTarget cN cA cG).2.2.2.2.1), bV ((r7Go cMost cTarget cN cA cG).2.2.2.2.2)] 88]) (v := fun g => sV ((r7Go cMost cTarget cN cA cG).2.2.2.1)) (fun g => o_load (i := 0) (v := sV ((r7Go cMost cTarget cN cA cG).2.2.2.1)) (by kernel_rfl) (by kernel_rfl) (by kernel_rfl)) (fun g => by kernel_rfl), ob_s (l := fun g => [blkR b4 [iV 0, iV 0, .slice none 0 0, .slice none 0 0, .slice none 0 0] 61]) (l' := fun g => [blkR b4 [iV cMost, iV cTarget, .slice a11 (((r7Go cMost cTarget cN cA cG).1).length) c12, .slice a13 (((r7Go cMost cTarget cN cA cG).2.1).length) c14, .slice a15 (((r7Go cMost cTarget cN cA cG).2.2.1).length) c16] 61]) (v := fun g => undef) (fun g => o_store (i := 0) (v := .agg #[iV cMost, iV cTarget, .slice a11 (((r7Go cMost cTarget cN cA cG).1).length) c12, .slice a13 (((r7Go cMost cTarget cN cA cG).2.1).length) c14, .slice a15 (((r7Go cMost cTarget cN cA cG).2.2.1).length) c16]) (by kernel_rfl) (by kernel_rfl) (by kernel_rfl) (by kernel_rfl) (by kernel_rfl)) (fun g => by kernel_rfl), ob_val fun g w => by kernel_rfl, ob_val fun g w => by kernel_rfl, trivial⟩
    intro g
    refine Ex'.sub (subB_spec [2, 3, 4]) ?_
    refine Ex'.as [0, 1, 2, 3, 4, 5] (σ' := [(2, pV b4 0), (3, sV ((r7Go cMost cTarget cN cA cG).2.2.2.1)), (4, bV true)]) (Γ' := [vewR 3 (.slice a11 (((r7Go cMost cTarget cN cA cG).1).length) c12) (((r7Go cMost cTarget cN cA cG).1).length) (((r7Go cMost cTarget cN cA cG).1).flatMap kq7), vewR 3 (.slice a13 (((r7Go cMost cTarget cN cA cG).2.1).length) c14) (((r7Go cMost cTarget cN cA cG).2.1).length) (((r7Go cMost cTarget cN cA cG).2.1).flatMap kq7), vewR 3 (.slice a15 (((r7Go cMost cTarget cN cA cG).2.2.1).length) c16) (((r7Go cMost cTarget cN cA cG).2.2.1).length) (((r7Go cMost cTarget cN cA cG).2.2.1).flatMap kq7), blkR b3 [iV cMost, iV cTarget, .slice a11 (((r7Go cMost cTarget cN cA cG).1).length) c12, .slice a13 (((r7Go cMost cTarget cN cA cG).2.1).length) c14, .slice a15 (((r7Go cMost cTarget cN cA cG).2.2.1).length) c16] 61, blkR b4 [iV cMost, iV cTarget, .slice a11 (((r7Go cMost cTarget cN cA cG).1).length) c12, .slice a13 (((r7Go cMost cTarget cN cA cG).2.1).length) c14, .slice a15 (((r7Go cMost cTarget cN cA cG).2.2.1).length) c16] 61, blkR b17 [sV ((r7Go cMost cTarget cN cA cG).2.2.2.1), bV ((r7Go cMost cTarget cN cA cG).2.2.2.2.1), bV ((r7Go cMost cTarget cN cA cG).2.2.2.2.2)] 88]) (by kernel_rfl) rfl (by kernel_rfl) (by kernel_rfl) ?_
    refine Ex'.next ?_
    refine Cd.ret ?_
    refine Ex'.ret Try.results52 (RVs.cellN (i := 0) (b := b4) (l := [iV cMost, iV cTarget, .slice a11 (((r7Go cMost cTarget cN cA cG).1).length) c12, .slice a13 (((r7Go cMost cTarget cN cA cG).2.1).length) c14, .slice a15 (((r7Go cMost cTarget cN cA cG).2.2.1).length) c16]) (E := 61) [iV cMost, iV cTarget, .slice a11 (((r7Go cMost cTarget cN cA cG).1).length) c12, .slice a13 (((r7Go cMost cTarget cN cA cG).2.1).length) c14, .slice a15 (((r7Go cMost cTarget cN cA cG).2.2.1).length) c16] 4 (by kernel_rfl) (by kernel_rfl) (by kernel_rfl) (by kernel_rfl) (RVs.tmp (v := sV ((r7Go cMost cTarget cN cA cG).2.2.2.1)) (by kernel_rfl) (RVs.tmp (v := bV true) (by kernel_rfl) (RVs.nil)))) (fun w hw => ?_)
    have e : r7Drop cMost cTarget cN cA cG = ((r7Go cMost cTarget cN cA cG).1, (r7Go cMost cTarget cN cA cG).2.1, (r7Go cMost cTarget cN cA cG).2.2.1, (r7Go cMost cTarget cN cA cG).2.2.2.1, true) := by unfold r7Drop; rw [if_neg h5]
    rw [e]
    exact ⟨_, ⟨(.slice a11 (((r7Go cMost cTarget cN cA cG).1).length) c12, .slice a13 (((r7Go cMost cTarget cN cA cG).2.1).length) c14, .slice a15 (((r7Go cMost cTarget cN cA cG).2.2.1).length) c16), trivial, rfl, rfl⟩, hw.pickB [0, 1, 2] (by kernel_rfl) (by kernel_rfl) (by kernel_rfl)⟩

def r7Trim (cMost : Int) (cTarget : Int) (cN : List K7) (cA : List K7) (cG : List K7) : List K7 × List K7 × List K7 :=
  if (cG.length : Int) > cMost then (cN, cA, cG.take cMost.toNat) else (cN, cA, cG)

theorem r7Trim_eq (Most t : Int) (N A G : List K7) (h : 0 ≤ Most) : r7Trim Most t N A G = (N, A, G.take Most.toNat) := by
  unfold r7Trim
  split
  · rfl
  · rw [List.take_of_length_le (by omega)]
theorem r7Trim_len (Most t : Int) (N A G : List K7) (h : 0 ≤ Most) : (r7Trim Most t N A G).1.length = N.length ∧ (r7Trim Most t N A G).2.1.length = A.length ∧ (r7Trim Most t N A G).2.2.length ≤ G.length := by
  rw [r7Trim_eq _ _ _ _ _ h]; exact ⟨rfl, rfl, by show (G.take _).length ≤ _; rw [List.length_take]; omega⟩

set_option maxHeartbeats 8000000 in
set_option maxRecDepth 100000 in
theorem t_trim07 {cNa : Option Addr} {cNc : Nat} {cAa : Option Addr} {cAc : Nat} {cGa : Option Addr} {cGc : Nat} {cMost : Int} {cTarget : Int} {cN : List K7} {cA : List K7} {cG : List K7} (hbd : cN.length + cA.length + cG.length ≤ 1000000) (hm : 0 ≤ cMost) : Tri Try.prog 79 #[.agg #[iV cMost, iV cTarget, .slice cNa cN.length cNc, .slice cAa cA.length cAc, .slice cGa cG.length cGc]] [vewR 3 (.slice cNa cN.length cNc) cN.length (cN.flatMap kq7), vewR 3 (.slice cAa cA.length cAc) cA.length (cA.flatMap kq7), vewR 3 (.slice cGa cG.length cGc) cG.length (cG.flatMap kq7)] (PostE (ι := Value × Value × Value) (fun _ => True) (fun v => .agg #[iV cMost, iV cTarget, v.1, v.2.1, v.2.2]) fun v => [vewR 3 v.1 (((r7Trim cMost cTarget cN cA cG).1).length) (((r7Trim cMost cTarget cN cA cG).1).flatMap kq7), vewR 3 v.2.1 (((r7Trim cMost cTarget cN cA cG).2.1).length) (((r7Trim cMost cTarget cN cA cG).2.1).flatMap kq7), vewR 3 v.2.2 (((r7Trim cMost cTarget cN cA cG).2.2).length) (((r7Trim cMost cTarget cN cA cG).2.2).flatMap kq7)]) := by
  refine Tri.enter (args := [.agg #[iV cMost, iV cTarget, .slice cNa cN.length cNc, .slice cAa cA.length cAc, .slice cGa cG.length cGc]]) Try.func79 rfl rfl rfl (fun B wz => ?_)
  refine Cd.fact (i := 0) rfl vew_cap ?_; intro hcap0
  refine Cd.fact (i := 1) rfl vew_cap ?_; intro hcap1
  refine Cd.fact (i := 2) rfl vew_cap ?_; intro hcap2
  refine Cd.seq ?_
  refine Cd.region rfl ?_
  refine Sq.ex [] (l := []) (o_newBox (v := .agg #[iV cMost, iV cTarget, .slice cNa cN.length cNc, .slice cAa cA.length cAc, .slice cGa cG.length cGc]) [iV cMost, iV cTarget, .slice cNa cN.length cNc, .slice cAa cA.length cAc, .slice cGa cG.length cGc] (by kernel_rfl) rfl) (by kernel_rfl) rfl (by kernel_rfl) (fun _ => Nat.zero_le _) ?_; intro b3 _
  refine Sq.ex [] (l := []) (o_new [iV 0, iV 0, .slice none 0 0, .slice none 0 0, .slice none 0 0] (fun w => by kernel_rfl)) (by kernel_rfl) rfl (by kernel_rfl) (fun _ => Nat.zero_le _) ?_; intro b4 _
  refine Sq.done ?_
  refine Ex'.next ?_
  refine Cd.seq ?_
  refine Cd.seq ?_
  refine Cd.region rfl ?_
  refine Sq.vals [0] (rest := [1, 2, 3, 4, 5]) [pV b3 4] (fun w => by kernel_rfl) ?_
  refine Sq.same [3] (l := [blkR b3 [iV cMost, iV cTarget, .slice cNa cN.length cNc, .slice cAa cA.length cAc, .slice cGa cG.length cGc] 61]) (o_load (i := 4) (v := .slice cGa cG.length cGc) (by kernel_rfl) (by kernel_rfl) (by kernel_rfl)) (by kernel_rfl) rfl (by kernel_rfl) rfl ?_
  refine Sq.vals [2, 3] (rest := [4, 5]) [iV (cG.length : Int), pV b3 0] (fun w => by kernel_rfl) ?_
  refine Sq.same [3] (l := [blkR b3 [iV cMost, iV cTarget, .slice cNa cN.length cNc, .slice cAa cA.length cAc, .slice cGa cG.length cGc] 61]) (o_load (i := 0) (v := iV cMost) (by kernel_rfl) (by kernel_rfl) (by kernel_rfl)) (by kernel_rfl) rfl (by kernel_rfl) rfl ?_
  refine Sq.vals [5] (rest := []) [bV (decide ((cG.length : Int) > cMost))] (fun w => by kernel_rfl) ?_
  refine Sq.done ?_
  refine Ex'.next ?_
  refine Cd.case (p := (cG.length : Int) > cMost) (by kernel_rfl) (fun h5 => ?_) (fun h5 => ?_)
  ·
    refine Cd.region rfl ?_
    refine Sq.vals [0] (rest := [1, 2, 3, 4, 5, 6]) [pV b3 4] (fun w => by kernel_rfl) ?_
    refine Sq.same [3] (l := [blkR b3 [iV cMost, iV cTarget, .slice cNa cN.length cNc, .slice cAa cA.length cAc, .slice cGa cG.length cGc] 61]) (o_load (i := 4) (v := .slice cGa cG.length cGc) (by kernel_rfl) (by kernel_rfl) (by kernel_rfl)) (by kernel_rfl) rfl (by kernel_rfl) rfl ?_
    refine Sq.vals [2] (rest := [3, 4, 5, 6]) [pV b3 0] (fun w => by kernel_rfl) ?_
    refine Sq.same [3] (l := [blkR b3 [iV cMost, iV cTarget, .slice cNa cN.length cNc, .slice cAa cA.length cAc, .slice cGa cG.length cGc] 61]) (o_load (i := 0) (v := iV cMost) (by kernel_rfl) (by kernel_rfl) (by kernel_rfl)) (by kernel_rfl) rfl (by kernel_rfl) rfl ?_
    refine Sq.v (r := .slice cGa cMost.toNat cGc) (o_cutToA (a := cGa) (kd := .i64) (q := cMost) (h := cMost.toNat) (n := cG.length) (cap := cGc) (size := 3) (by kernel_rfl) (by kernel_rfl) (by omega) (by omega) Try.underlying59 (by kernel_rfl)) rfl (by kernel_rfl) ?_
    refine Sq.res 2 (R := vewR 3 (.slice cGa cG.length cGc) cG.length (cG.flatMap kq7)) (R' := vewR 3 (.slice cGa cMost.toNat cGc) cMost.toNat ((cG.take cMost.toNat).flatMap kq7)) (by kernel_rfl) (vew_cut (f := kq7) (fun _ => rfl) (by omega)) ?_
    refine Sq.vals [5] (rest := [6]) [pV b3 4] (fun w => by kernel_rfl) ?_
    refine Sq.same [3] (l := [blkR b3 [iV cMost, iV cTarget, .slice cNa cN.length cNc, .slice cAa cA.length cAc, .slice cGa cG.length cGc] 61]) (o_store (i := 4) (v := .slice cGa cMost.toNat cGc) (by kernel_rfl) (by kernel_rfl) (by kernel_rfl) (by kernel_rfl) (by kernel_rfl)) (by kernel_rfl) rfl (by kernel_rfl) rfl ?_
    refine Sq.done ?_
    refine Ex'.next ?_
    refine Cd.seq ?_
    refine Cd.region rfl ?_
    refine Sq.same [3] (l := [blkR b3 [iV cMost, iV cTarget, .slice cNa cN.length cNc, .slice cAa cA.length cAc, .slice cGa cMost.toNat cGc] 61]) (o_loadN (i := 0) [iV cMost, iV cTarget, .slice cNa cN.length cNc, .slice cAa cA.length cAc, .slice cGa cMost.toNat cGc] (by kernel_rfl) (by kernel_rfl) (by kernel_rfl)) (by kernel_rfl) rfl (by kernel_rfl) rfl ?_
    refine Sq.same [4] (l := [blkR b4 [iV 0, iV 0, .slice none 0 0, .slice none 0 0, .slice none 0 0] 61]) (o_store (i := 0) (v := .agg #[iV cMost, iV cTarget, .slice cNa cN.length cNc, .slice cAa cA.length cAc, .slice cGa cMost.toNat cGc]) (by kernel_rfl) (by kernel_rfl) (by kernel_rfl) (by kernel_rfl) (by kernel_rfl)) (by kernel_rfl) rfl (by kernel_rfl) rfl ?_
    refine Sq.done ?_
    refine Ex'.next ?_
    refine Cd.ret ?_
    refine Ex'.ret Try.results79 (RVs.cellN (i := 0) (b := b4) (l := [iV cMost, iV cTarget, .slice cNa cN.length cNc, .slice cAa cA.length cAc, .slice cGa cMost.toNat cGc]) (E := 61) [iV cMost, iV cTarget, .slice cNa cN.length cNc, .slice cAa cA.length cAc, .slice cGa cMost.toNat cGc] 4 (by kernel_rfl) (by kernel_rfl) (by kernel_rfl) (by kernel_rfl) (RVs.nil)) (fun w hw => ?_)
    have e : r7Trim cMost cTarget cN cA cG = (cN, cA, cG.take cMost.toNat) := by unfold r7Trim; rw [if_pos h5]
    rw [e]
    exact ⟨_, ⟨(.slice cNa cN.length cNc, .slice cAa cA.length cAc, .slice cGa cMost.toNat cGc), trivial, rfl, rfl⟩, (hw.conv 2 (R := vewR 3 (.slice cGa cMost.toNat cGc) cMost.toNat ((cG.take cMost.toNat).flatMap kq7)) (R' := vewR 3 (.slice cGa cMost.toNat cGc) ((cG.take cMost.toNat).length) ((cG.take cMost.toNat).flatMap kq7)) (by kernel_rfl) (vew_len (by first | rfl | omega | (simp only [List.length_take, List.length_drop, List.length_append, List.length_cons, List.length_nil]; omega) | (simp; done) | (simp; omega)))).pickB [0, 1, 2] (by kernel_rfl) (by kernel_rfl) (by kernel_rfl)⟩
  ·
    refine Cd.skip ?_
    refine Ex'.next ?_
    refine Cd.seq ?_
    refine Cd.region rfl ?_
    refine Sq.same [3] (l := [blkR b3 [iV cMost, iV cTarget, .slice cNa cN.length cNc, .slice cAa cA.length cAc, .slice cGa cG.length cGc] 61]) (o_loadN (i := 0) [iV cMost, iV cTarget, .slice cNa cN.length cNc, .slice cAa cA.length cAc, .slice cGa cG.length cGc] (by kernel_rfl) (by kernel_rfl) (by kernel_rfl)) (by kernel_rfl) rfl (by kernel_rfl) rfl ?_
    refine Sq.same [4] (l := [blkR b4 [iV 0, iV 0, .slice none 0 0, .slice none 0 0, .slice none 0 0] 61]) (o_store (i := 0) (v := .agg #[iV cMost, iV cTarget, .slice cNa cN.length cNc, .slice cAa cA.length cAc, .slice cGa cG.length cGc]) (by kernel_rfl) (by kernel_rfl) (by kernel_rfl) (by kernel_rfl) (by kernel_rfl)) (by kernel_rfl) rfl (by kernel_rfl) rfl ?_
    refine Sq.done ?_
    refine Ex'.next ?_
    refine Cd.ret ?_
    refine Ex'.ret Try.results79 (RVs.cellN (i := 0) (b := b4) (l := [iV cMost, iV cTarget, .slice cNa cN.length cNc, .slice cAa cA.length cAc, .slice cGa cG.length cGc]) (E := 61) [iV cMost, iV cTarget, .slice cNa cN.length cNc, .slice cAa cA.length cAc, .slice cGa cG.length cGc] 4 (by kernel_rfl) (by kernel_rfl) (by kernel_rfl) (by kernel_rfl) (RVs.nil)) (fun w hw => ?_)
    have e : r7Trim cMost cTarget cN cA cG = (cN, cA, cG) := by unfold r7Trim; rw [if_neg h5]
    rw [e]
    exact ⟨_, ⟨(.slice cNa cN.length cNc, .slice cAa cA.length cAc, .slice cGa cG.length cGc), trivial, rfl, rfl⟩, hw.pickB [0, 1, 2] (by kernel_rfl) (by kernel_rfl) (by kernel_rfl)⟩

def r7Evict (cMost : Int) (cTarget : Int) (cN : List K7) (cA : List K7) (cG : List K7) : List K7 × List K7 × List K7 × ByteArray :=
  ((r7Trim cMost cTarget ((r7Go cMost cTarget cN cA cG).1) ((r7Go cMost cTarget cN cA cG).2.1) (front7 ((r7Go cMost cTarget cN cA cG).2.2.1) ((r7Go cMost cTarget cN cA cG).2.2.2.1) ((r7Go cMost cTarget cN cA cG).2.2.2.2.1) false)).1, (r7Trim cMost cTarget ((r7Go cMost cTarget cN cA cG).1) ((r7Go cMost cTarget cN cA cG).2.1) (front7 ((r7Go cMost cTarget cN cA cG).2.2.1) ((r7Go cMost cTarget cN cA cG).2.2.2.1) ((r7Go cMost cTarget cN cA cG).2.2.2.2.1) false)).2.1, (r7Trim cMost cTarget ((r7Go cMost cTarget cN cA cG).1) ((r7Go cMost cTarget cN cA cG).2.1) (front7 ((r7Go cMost cTarget cN cA cG).2.2.1) ((r7Go cMost cTarget cN cA cG).2.2.2.1) ((r7Go cMost cTarget cN cA cG).2.2.2.2.1) false)).2.2, (r7Go cMost cTarget cN cA cG).2.2.2.1)

theorem r7Evict_len (Most t : Int) (N A G : List K7) (h : 0 ≤ Most) (h0 : 0 < N.length + A.length) : (r7Evict Most t N A G).1.length + (r7Evict Most t N A G).2.1.length + 1 = N.length + A.length ∧ (r7Evict Most t N A G).2.2.1.length ≤ G.length + 1 := by
  have h1 := r7Go_len Most t N A G h0
  unfold r7Evict
  dsimp only
  rw [r7Trim_eq _ _ _ _ _ h]
  dsimp only
  refine ⟨h1.1, ?_⟩
  rw [List.length_take, h1.2]
  unfold front7
  simp only [List.length_append, List.length_singleton]
  omega

set_option maxHeartbeats 8000000 in
set_option maxRecDepth 100000 in
theorem t_evict07 {cNa : Option Addr} {cNc : Nat} {cAa : Option Addr} {cAc : Nat} {cGa : Option Addr} {cGc : Nat} {cMost : Int} {cTarget : Int} {cN : List K7} {cA : List K7} {cG : List K7} (hbd : cN.length + cA.length + cG.length ≤ 1000000) (hm : 0 ≤ cMost) (h0 : 0 < cN.length + cA.length) : Tri Try.prog 77 #[.agg #[iV cMost, iV cTarget, .slice cNa cN.length cNc, .slice cAa cA.length cAc, .slice cGa cG.length cGc]] [vewR 3 (.slice cNa cN.length cNc) cN.length (cN.flatMap kq7), vewR 3 (.slice cAa cA.length cAc) cA.length (cA.flatMap kq7), vewR 3 (.slice cGa cG.length cGc) cG.length (cG.flatMap kq7)] (PostE (ι := Value × Value × Value) (fun _ => True) (fun v => .tuple #[.agg #[iV cMost, iV cTarget, v.1, v.2.1, v.2.2], sV ((r7Evict cMost cTarget cN cA cG).2.2.2)]) fun v => [vewR 3 v.1 (((r7Evict cMost cTarget cN cA cG).1).length) (((r7Evict cMost cTarget cN cA cG).1).flatMap kq7), vewR 3 v.2.1 (((r7Evict cMost cTarget cN cA cG).2.1).length) (((r7Evict cMost cTarget cN cA cG).2.1).flatMap kq7), vewR 3 v.2.2 (((r7Evict cMost cTarget cN cA cG).2.2.1).length) (((r7Evict cMost cTarget cN cA cG).2.2.1).flatMap kq7)]) := by
  refine Tri.enter (args := [.agg #[iV cMost, iV cTarget, .slice cNa cN.length cNc, .slice cAa cA.length cAc, .slice cGa cG.length cGc]]) Try.func77 rfl rfl rfl (fun B wz => ?_)
  refine Cd.fact (i := 0) rfl vew_cap ?_; intro hcap0
  refine Cd.fact (i := 1) rfl vew_cap ?_; intro hcap1
  refine Cd.fact (i := 2) rfl vew_cap ?_; intro hcap2
  refine Cd.seq ?_
  refine Cd.region rfl ?_
  refine Sq.ex [] (l := []) (o_newBox (v := .agg #[iV cMost, iV cTarget, .slice cNa cN.length cNc, .slice cAa cA.length cAc, .slice cGa cG.length cGc]) [iV cMost, iV cTarget, .slice cNa cN.length cNc, .slice cAa cA.length cAc, .slice cGa cG.length cGc] (by kernel_rfl) rfl) (by kernel_rfl) rfl (by kernel_rfl) (fun _ => Nat.zero_le _) ?_; intro b3 _
  refine Sq.ex [] (l := []) (o_new [iV 0, iV 0, .slice none 0 0, .slice none 0 0, .slice none 0 0] (fun w => by kernel_rfl)) (by kernel_rfl) rfl (by kernel_rfl) (fun _ => Nat.zero_le _) ?_; intro b4 _
  refine Sq.vals [2] (rest := []) [sV ⟨#[]⟩] (fun w => by kernel_rfl) ?_
  refine Sq.done ?_
  refine Ex'.next ?_
  refine Cd.seq ?_
  refine Cd.region rfl ?_
  refine Sq.same [3] (l := [blkR b3 [iV cMost, iV cTarget, .slice cNa cN.length cNc, .slice cAa cA.length cAc, .slice cGa cG.length cGc] 61]) (o_loadN (i := 0) [iV cMost, iV cTarget, .slice cNa cN.length cNc, .slice cAa cA.length cAc, .slice cGa cG.length cGc] (by kernel_rfl) (by kernel_rfl) (by kernel_rfl)) (by kernel_rfl) rfl (by kernel_rfl) rfl ?_
  refine Sq.ex [0, 1, 2] (l := [vewR 3 (.slice cNa cN.length cNc) cN.length (cN.flatMap kq7), vewR 3 (.slice cAa cA.length cAc) cA.length (cA.flatMap kq7), vewR 3 (.slice cGa cG.length cGc) cG.length (cG.flatMap kq7)]) (o_call (by kernel_rfl) Try.call78 (t_go107 (cMost := cMost) (cTarget := cTarget) (cN := cN) (cNa := cNa) (cNc := cNc) (cA := cA) (cAa := cAa) (cAc := cAc) (cG := cG) (cGa := cGa) (cGc := cGc) (by omega) (by omega))) (by kernel_rfl) rfl (by kernel_rfl) (fun _ => Nat.le_of_ble_eq_true (by kernel_rfl)) ?_; rintro ⟨v7, v8, v9⟩ _
  have q5 := congrArg List.length (r7Go_len cMost cTarget cN cA cG (by omega)).2; have q6 := (r7Go_len cMost cTarget cN cA cG (by omega)).1
  refine Sq.fact (i := 0) (R := vewR 3 v7 (((r7Go cMost cTarget cN cA cG).1).length) (((r7Go cMost cTarget cN cA cG).1).flatMap kq7)) (by kernel_rfl) vew_slice ?_; rintro ⟨a10, c11, rfl, hc11, hc11'⟩
  have hc11'' : c11 ≤ 9223372036854775807 := hc11'
  refine Sq.fact (i := 1) (R := vewR 3 v8 (((r7Go cMost cTarget cN cA cG).2.1).length) (((r7Go cMost cTarget cN cA cG).2.1).flatMap kq7)) (by kernel_rfl) vew_slice ?_; rintro ⟨a12, c13, rfl, hc13, hc13'⟩
  have hc13'' : c13 ≤ 9223372036854775807 := hc13'
  refine Sq.fact (i := 2) (R := vewR 3 v9 (((r7Go cMost cTarget cN cA cG).2.2.1).length) (((r7Go cMost cTarget cN cA cG).2.2.1).flatMap kq7)) (by kernel_rfl) vew_slice ?_; rintro ⟨a14, c15, rfl, hc15, hc15'⟩
  have hc15'' : c15 ≤ 9223372036854775807 := hc15'
  refine Sq.vals [2, 3, 4] (rest := [5, 6, 7]) [.tuple #[.agg #[iV cMost, iV cTarget, .slice a10 (((r7Go cMost cTarget cN cA cG).1).length) c11, .slice a12 (((r7Go cMost cTarget cN cA cG).2.1).length) c13, .slice a14 (((r7Go cMost cTarget cN cA cG).2.2.1).length) c15], .agg #[sV ((r7Go cMost cTarget cN cA cG).2.2.2.1), bV ((r7Go cMost cTarget cN cA cG).2.2.2.2.1), bV ((r7Go cMost cTarget cN cA cG).2.2.2.2.2)]], .agg #[iV cMost, iV cTarget, .slice a10 (((r7Go cMost cTarget cN cA cG).1).length) c11, .slice a12 (((r7Go cMost cTarget cN cA cG).2.1).length) c13, .slice a14 (((r7Go cMost cTarget cN cA cG).2.2.1).length) c15], .agg #[sV ((r7Go cMost cTarget cN cA cG).2.2.2.1), bV ((r7Go cMost cTarget cN cA cG).2.2.2.2.1), bV ((r7Go cMost cTarget cN cA cG).2.2.2.2.2)]] (fun w => by kernel_rfl) ?_
  refine Sq.ex [] (l := []) (o_new [sV ⟨#[]⟩, bV false, bV false] (fun w => by kernel_rfl)) (by kernel_rfl) rfl (by kernel_rfl) (fun _ => Nat.zero_le _) ?_; intro b16 _
  refine Sq.same [3] (l := [blkR b3 [iV cMost, iV cTarget, .slice cNa cN.length cNc, .slice cAa cA.length cAc, .slice cGa cG.length cGc] 61]) (o_store (i := 0) (v := .agg #[iV cMost, iV cTarget, .slice a10 (((r7Go cMost cTarget cN cA cG).1).length) c11, .slice a12 (((r7Go cMost cTarget cN cA cG).2.1).length) c13, .slice a14 (((r7Go cMost cTarget cN cA cG).2.2.1).length) c15]) (by kernel_rfl) (by kernel_rfl) (by kernel_rfl) (by kernel_rfl) (by kernel_rfl)) (by kernel_rfl) rfl (by kernel_rfl) rfl ?_
  refine Sq.same [5] (l := [blkR b16 [sV ⟨#[]⟩, bV false, bV false] 88]) (o_store (i := 0) (v := .agg #[sV ((r7Go cMost cTarget cN cA cG).2.2.2.1), bV ((r7Go cMost cTarget cN cA cG).2.2.2.2.1), bV ((r7Go cMost cTarget cN cA cG).2.2.2.2.2)]) (by kernel_rfl) (by kernel_rfl) (by kernel_rfl) (by kernel_rfl) (by kernel_rfl)) (by kernel_rfl) rfl (by kernel_rfl) rfl ?_
  refine Sq.done ?_
  refine Ex'.next ?_
  refine Cd.seq ?_
  refine Cd.region rfl ?_
  refine Sq.vals [0] (rest := [1]) [pV b16 2] (fun w => by kernel_rfl) ?_
  refine Sq.same [5] (l := [blkR b16 [sV ((r7Go cMost cTarget cN cA cG).2.2.2.1), bV ((r7Go cMost cTarget cN cA cG).2.2.2.2.1), bV ((r7Go cMost cTarget cN cA cG).2.2.2.2.2)] 88]) (o_store (i := 2) (v := bV false) (by kernel_rfl) (by kernel_rfl) (by kernel_rfl) (by kernel_rfl) (by kernel_rfl)) (by kernel_rfl) rfl (by kernel_rfl) rfl ?_
  refine Sq.done ?_
  refine Ex'.next ?_
  refine Cd.seq ?_
  refine Cd.region rfl ?_
  refine Sq.vals [0] (rest := [1, 2, 3, 4, 5]) [pV b3 4] (fun w => by kernel_rfl) ?_
  refine Sq.same [3] (l := [blkR b3 [iV cMost, iV cTarget, .slice a10 (((r7Go cMost cTarget cN cA cG).1).length) c11, .slice a12 (((r7Go cMost cTarget cN cA cG).2.1).length) c13, .slice a14 (((r7Go cMost cTarget cN cA cG).2.2.1).length) c15] 61]) (o_load (i := 4) (v := .slice a14 (((r7Go cMost cTarget cN cA cG).2.2.1).length) c15) (by kernel_rfl) (by kernel_rfl) (by kernel_rfl)) (by kernel_rfl) rfl (by kernel_rfl) rfl ?_
  refine Sq.same [5] (l := [blkR b16 [sV ((r7Go cMost cTarget cN cA cG).2.2.2.1), bV ((r7Go cMost cTarget cN cA cG).2.2.2.2.1), bV false] 88]) (o_loadN (i := 0) [sV ((r7Go cMost cTarget cN cA cG).2.2.2.1), bV ((r7Go cMost cTarget cN cA cG).2.2.2.2.1), bV false] (by kernel_rfl) (by kernel_rfl) (by kernel_rfl)) (by kernel_rfl) rfl (by kernel_rfl) rfl ?_
  refine Sq.ex [2] (l := [vewR 3 (.slice a14 (((r7Go cMost cTarget cN cA cG).2.2.1).length) c15) (((r7Go cMost cTarget cN cA cG).2.2.1).length) (((r7Go cMost cTarget cN cA cG).2.2.1).flatMap kq7)]) (o_call (by kernel_rfl) Try.call74 (t_front07 (l := (r7Go cMost cTarget cN cA cG).2.2.1) (la := a14) (lc := c15) (kS := (r7Go cMost cTarget cN cA cG).2.2.2.1) (kOld := (r7Go cMost cTarget cN cA cG).2.2.2.2.1) (kDemoted := false) (by omega))) (by kernel_rfl) rfl (by kernel_rfl) (fun _ => Nat.le_of_ble_eq_true (by kernel_rfl)) ?_; rintro v18 _
  have q17 : ((front7 ((r7Go cMost cTarget cN cA cG).2.2.1) ((r7Go cMost cTarget cN cA cG).2.2.2.1) ((r7Go cMost cTarget cN cA cG).2.2.2.2.1) false)).length = ((r7Go cMost cTarget cN cA cG).2.2.1).length + 1 := by unfold front7; simp [Nat.add_comm]
  refine Sq.fact (i := 6) (R := vewR 3 v18 ((front7 ((r7Go cMost cTarget cN cA cG).2.2.1) ((r7Go cMost cTarget cN cA cG).2.2.2.1) ((r7Go cMost cTarget cN cA cG).2.2.2.2.1) false).length) ((front7 ((r7Go cMost cTarget cN cA cG).2.2.1) ((r7Go cMost cTarget cN cA cG).2.2.2.1) ((r7Go cMost cTarget cN cA cG).2.2.2.2.1) false).flatMap kq7)) (by kernel_rfl) vew_slice ?_; rintro ⟨a19, c20, rfl, hc20, hc20'⟩
  have hc20'' : c20 ≤ 9223372036854775807 := hc20'
  refine Sq.vals [4] (rest := [5]) [pV b3 4] (fun w => by kernel_rfl) ?_
  refine Sq.same [3] (l := [blkR b3 [iV cMost, iV cTarget, .slice a10 (((r7Go cMost cTarget cN cA cG).1).length) c11, .slice a12 (((r7Go cMost cTarget cN cA cG).2.1).length) c13, .slice a14 (((r7Go cMost cTarget cN cA cG).2.2.1).length) c15] 61]) (o_store (i := 4) (v := .slice a19 ((front7 ((r7Go cMost cTarget cN cA cG).2.2.1) ((r7Go cMost cTarget cN cA cG).2.2.2.1) ((r7Go cMost cTarget cN cA cG).2.2.2.2.1) false).length) c20) (by kernel_rfl) (by kernel_rfl) (by kernel_rfl) (by kernel_rfl) (by kernel_rfl)) (by kernel_rfl) rfl (by kernel_rfl) rfl ?_
  refine Sq.done ?_
  refine Ex'.next ?_
  refine Cd.seq ?_
  refine Cd.sub (subB_spec [0, 1, 2, 6, 7, 5, 8, 9, 4, 10, 11, 12, 13, 14, 15]) ?_
  refine Cd.plan [0, 1, 0, 4, 3, 31] [(0, [(3, false, 0)]), (1, [(0, true, 0), (1, true, 0), (6, true, 0)]), (3, [(5, false, 0)]), (4, [(4, true, 0)])] [] [(1, fun _ => True)] [(0, 1, fun g => vewR 3 (.slice (addrOf (aggAt ((g 1)) 2)) (((r7Trim cMost cTarget ((r7Go cMost cTarget cN cA cG).1) ((r7Go cMost cTarget cN cA cG).2.1) (front7 ((r7Go cMost cTarget cN cA cG).2.2.1) ((r7Go cMost cTarget cN cA cG).2.2.2.1) ((r7Go cMost cTarget cN cA cG).2.2.2.2.1) false)).1).length) (capOf (aggAt ((g 1)) 2))) (((r7Trim cMost cTarget ((r7Go cMost cTarget cN cA cG).1) ((r7Go cMost cTarget cN cA cG).2.1) (front7 ((r7Go cMost cTarget cN cA cG).2.2.1) ((r7Go cMost cTarget cN cA cG).2.2.2.1) ((r7Go cMost cTarget cN cA cG).2.2.2.2.1) false)).1).length) (((r7Trim cMost cTarget ((r7Go cMost cTarget cN cA cG).1) ((r7Go cMost cTarget cN cA cG).2.1) (front7 ((r7Go cMost cTarget cN cA cG).2.2.1) ((r7Go cMost cTarget cN cA cG).2.2.2.1) ((r7Go cMost cTarget cN cA cG).2.2.2.2.1) false)).1).flatMap kq7)), (1, 1, fun g => vewR 3 (.slice (addrOf (aggAt ((g 1)) 3)) (((r7Trim cMost cTarget ((r7Go cMost cTarget cN cA cG).1) ((r7Go cMost cTarget cN cA cG).2.1) (front7 ((r7Go cMost cTarget cN cA cG).2.2.1) ((r7Go cMost cTarget cN cA cG).2.2.2.1) ((r7Go cMost cTarget cN cA cG).2.2.2.2.1) false)).2.1).length) (capOf (aggAt ((g 1)) 3))) (((r7Trim cMost cTarget ((r7Go cMost cTarget cN cA cG).1) ((r7Go cMost cTarget cN cA cG).2.1) (front7 ((r7Go cMost cTarget cN cA cG).2.2.1) ((r7Go cMost cTarget cN cA cG).2.2.2.1) ((r7Go cMost cTarget cN cA cG).2.2.2.2.1) false)).2.1).length) (((r7Trim cMost cTarget ((r7Go cMost cTarget cN cA cG).1) ((r7Go cMost cTarget cN cA cG).2.1) (front7 ((r7Go cMost cTarget cN cA cG).2.2.1) ((r7Go cMost cTarget cN cA cG).2.2.2.1) ((r7Go cMost cTarget cN cA cG).2.2.2.2.1) false)).2.1).flatMap kq7)), (6, 1, fun g => vewR 3 (.slice (addrOf (aggAt ((g 1)) 4)) (((r7Trim cMost cTarget ((r7Go cMost cTarget cN cA cG).1) ((r7Go cMost cTarget cN cA cG).2.1) (front7 ((r7Go cMost cTarget cN cA cG).2.2.1) ((r7Go cMost cTarget cN cA cG).2.2.2.1) ((r7Go cMost cTarget cN cA cG).2.2.2.2.1) false)).2.2).length) (capOf (aggAt ((g 1)) 4))) (((r7Trim cMost cTarget ((r7Go cMost cTarget cN cA cG).1) ((r7Go cMost cTarget cN cA cG).2.1) (front7 ((r7Go cMost cTarget cN cA cG).2.2.1) ((r7Go cMost cTarget cN cA cG).2.2.2.1) ((r7Go cMost cTarget cN cA cG).2.2.2.2.1) false)).2.2).length) (((r7Trim cMost cTarget ((r7Go cMost cTarget cN cA cG).1) ((r7Go cMost cTarget cN cA cG).2.1) (front7 ((r7Go cMost cTarget cN cA cG).2.2.1) ((r7Go cMost cTarget cN cA cG).2.2.2.1) ((r7Go cMost cTarget cN cA cG).2.2.2.2.1) false)).2.2).flatMap kq7)), (4, 4, fun g => blkR b4 [iV cMost, iV cTarget, .slice (addrOf (aggAt ((g 1)) 2)) (((r7Trim cMost cTarget ((r7Go cMost cTarget cN cA cG).1) ((r7Go cMost cTarget cN cA cG).2.1) (front7 ((r7Go cMost cTarget cN cA cG).2.2.1) ((r7Go cMost cTarget cN cA cG).2.2.2.1) ((r7Go cMost cTarget cN cA cG).2.2.2.2.1) false)).1).length) (capOf (aggAt ((g 1)) 2)), .slice (addrOf (aggAt ((g 1)) 3)) (((r7Trim cMost cTarget ((r7Go cMost cTarget cN cA cG).1) ((r7Go cMost cTarget cN cA cG).2.1) (front7 ((r7Go cMost cTarget cN cA cG).2.2.1) ((r7Go cMost cTarget cN cA cG).2.2.2.1) ((r7Go cMost cTarget cN cA cG).2.2.2.2.1) false)).2.1).length) (capOf (aggAt ((g 1)) 3)), .slice (addrOf (aggAt ((g 1)) 4)) (((r7Trim cMost cTarget ((r7Go cMost cTarget cN cA cG).1) ((r7Go cMost cTarget cN cA cG).2.1) (front7 ((r7Go cMost cTarget cN cA cG).2.2.1) ((r7Go cMost cTarget cN cA cG).2.2.2.1) ((r7Go cMost cTarget cN cA cG).2.2.2.2.1) false)).2.2).length) (capOf (aggAt ((g 1)) 4))] 61)] [fun g => .agg #[iV cMost, iV cTarget, .slice a10 (((r7Go cMost cTarget cN cA cG).1).length) c11, .slice a12 (((r7Go cMost cTarget cN cA cG).2.1).length) c13, .slice a19 ((front7 ((r7Go cMost cTarget cN cA cG).2.2.1) ((r7Go cMost cTarget cN cA cG).2.2.2.1) ((r7Go cMost cTarget cN cA cG).2.2.2.2.1) false).length) c20], fun g => .agg #[iV cMost, iV cTarget, .slice (addrOf (aggAt ((g 1)) 2)) (((r7Trim cMost cTarget ((r7Go cMost cTarget cN cA cG).1) ((r7Go cMost cTarget cN cA cG).2.1) (front7 ((r7Go cMost cTarget cN cA cG).2.2.1) ((r7Go cMost cTarget cN cA cG).2.2.2.1) ((r7Go cMost cTarget cN cA cG).2.2.2.2.1) false)).1).length) (capOf (aggAt ((g 1)) 2)), .slice (addrOf (aggAt ((g 1)) 3)) (((r7Trim cMost cTarget ((r7Go cMost cTarget cN cA cG).1) ((r7Go cMost cTarget cN cA cG).2.1) (front7 ((r7Go cMost cTarget cN cA cG).2.2.1) ((r7Go cMost cTarget cN cA cG).2.2.2.1) ((r7Go cMost cTarget cN cA cG).2.2.2.2.1) false)).2.1).length) (capOf (aggAt ((g 1)) 3)), .slice (addrOf (aggAt ((g 1)) 4)) (((r7Trim cMost cTarget ((r7Go cMost cTarget cN cA cG).1) ((r7Go cMost cTarget cN cA cG).2.1) (front7 ((r7Go cMost cTarget cN cA cG).2.2.1) ((r7Go cMost cTarget cN cA cG).2.2.2.1) ((r7Go cMost cTarget cN cA cG).2.2.2.2.1) false)).2.2).length) (capOf (aggAt ((g 1)) 4))], fun g => pV b16 0, fun g => sV ((r7Go cMost cTarget cN cA cG).2.2.2.1), fun g => undef, fun g => sV ((r7Go cMost cTarget cN cA cG).2.2.2.1)] (by kernel_rfl) (by kernel_rfl) rfl (⟨⟨⟨fun _ _ => rfl, ⟨trivial, ⟨fun _ _ => rfl, ⟨fun _ _ => rfl, ⟨trivial, ⟨trivial, trivial⟩⟩⟩⟩⟩⟩, ⟨trivial, ⟨trivial, ⟨trivial, ⟨trivial, trivial⟩⟩⟩⟩⟩, trivial⟩) ?_ ?_
  · exact ⟨ob_s (l := fun g => [blkR b3 [iV cMost, iV cTarget, .slice a10 (((r7Go cMost cTarget cN cA cG).1).length) c11, .slice a12 (((r7Go cMost cTarget cN cA cG).2.1).length) c13, .slice a19 ((front7 ((r7Go cMost cTarget cN cA cG).2.2.1) ((r7Go cMost cTarget cN cA cG).2.2.2.1) ((r7Go cMost cTarget cN cA cG).2.2.2.2.1) false).length) c20] 61]) (l' := fun g => [blkR b3 [iV cMost, iV cTarget, .slice a10 (((r7Go cMost cTarget cN cA cG).1).length) c11, .slice a12 (((r7Go cMost cTarget cN cA cG).2.1).length) c13, .slice a19 ((front7 ((r7Go cMost cTarget cN cA cG).2.2.1) ((r7Go cMost cTarget cN cA cG).2.2.2.1) ((r7Go cMost cTarget cN cA cG).2.2.2.2.1) false).length) c20] 61]) (v := fun g => .agg #[iV cMost, iV cTarget, .slice a10 (((r7Go cMost cTarget cN cA cG).1).length) c11, .slice a12 (((r7Go cMost cTarget cN cA cG).2.1).length) c13, .slice a19 ((front7 ((r7Go cMost cTarget cN cA cG).2.2.1) ((r7Go cMost cTarget cN cA cG).2.2.2.1) ((r7Go cMost cTarget cN cA cG).2.2.2.2.1) false).length) c20]) (fun g => o_loadN (i := 0) [iV cMost, iV cTarget, .slice a10 (((r7Go cMost cTarget cN cA cG).1).length) c11, .slice a12 (((r7Go cMost cTarget cN cA cG).2.1).length) c13, .slice a19 ((front7 ((r7Go cMost cTarget cN cA cG).2.2.1) ((r7Go cMost cTarget cN cA cG).2.2.2.1) ((r7Go cMost cTarget cN cA cG).2.2.2.2.1) false).length) c20] (by kernel_rfl) (by kernel_rfl) (by kernel_rfl)) (fun g => by kernel_rfl), ob_d (ι := (Option Addr × Nat) × (Option Addr × Nat) × (Option Addr × Nat)) (l := fun g => [vewR 3 (.slice a10 (((r7Go cMost cTarget cN cA cG).1).length) c11) (((r7Go cMost cTarget cN cA cG).1).length) (((r7Go cMost cTarget cN cA cG).1).flatMap kq7), vewR 3 (.slice a12 (((r7Go cMost cTarget cN cA cG).2.1).length) c13) (((r7Go cMost cTarget cN cA cG).2.1).length) (((r7Go cMost cTarget cN cA cG).2.1).flatMap kq7), vewR 3 (.slice a19 ((front7 ((r7Go cMost cTarget cN cA cG).2.2.1) ((r7Go cMost cTarget cN cA cG).2.2.2.1) ((r7Go cMost cTarget cN cA cG).2.2.2.2.1) false).length) c20) ((front7 ((r7Go cMost cTarget cN cA cG).2.2.1) ((r7Go cMost cTarget cN cA cG).2.2.2.1) ((r7Go cMost cTarget cN cA cG).2.2.2.2.1) false).length) ((front7 ((r7Go cMost cTarget cN cA cG).2.2.1) ((r7Go cMost cTarget cN cA cG).2.2.2.1) ((r7Go cMost cTarget cN cA cG).2.2.2.2.1) false).flatMap kq7)]) (L := fun g y => [vewR 3 (.slice y.1.1 (((r7Trim cMost cTarget ((r7Go cMost cTarget cN cA cG).1) ((r7Go cMost cTarget cN cA cG).2.1) (front7 ((r7Go cMost cTarget cN cA cG).2.2.1) ((r7Go cMost cTarget cN cA cG).2.2.2.1) ((r7Go cMost cTarget cN cA cG).2.2.2.2.1) false)).1).length) y.1.2) (((r7Trim cMost cTarget ((r7Go cMost cTarget cN cA cG).1) ((r7Go cMost cTarget cN cA cG).2.1) (front7 ((r7Go cMost cTarget cN cA cG).2.2.1) ((r7Go cMost cTarget cN cA cG).2.2.2.1) ((r7Go cMost cTarget cN cA cG).2.2.2.2.1) false)).1).length) (((r7Trim cMost cTarget ((r7Go cMost cTarget cN cA cG).1) ((r7Go cMost cTarget cN cA cG).2.1) (front7 ((r7Go cMost cTarget cN cA cG).2.2.1) ((r7Go cMost cTarget cN cA cG).2.2.2.1) ((r7Go cMost cTarget cN cA cG).2.2.2.2.1) false)).1).flatMap kq7), vewR 3 (.slice y.2.1.1 (((r7Trim cMost cTarget ((r7Go cMost cTarget cN cA cG).1) ((r7Go cMost cTarget cN cA cG).2.1) (front7 ((r7Go cMost cTarget cN cA cG).2.2.1) ((r7Go cMost cTarget cN cA cG).2.2.2.1) ((r7Go cMost cTarget cN cA cG).2.2.2.2.1) false)).2.1).length) y.2.1.2) (((r7Trim cMost cTarget ((r7Go cMost cTarget cN cA cG).1) ((r7Go cMost cTarget cN cA cG).2.1) (front7 ((r7Go cMost cTarget cN cA cG).2.2.1) ((r7Go cMost cTarget cN cA cG).2.2.2.1) ((r7Go cMost cTarget cN cA cG).2.2.2.2.1) false)).2.1).length) (((r7Trim cMost cTarget ((r7Go cMost cTarget cN cA cG).1) ((r7Go cMost cTarget cN cA cG).2.1) (front7 ((r7Go cMost cTarget cN cA cG).2.2.1) ((r7Go cMost cTarget cN cA cG).2.2.2.1) ((r7Go cMost cTarget cN cA cG).2.2.2.2.1) false)).2.1).flatMap kq7), vewR 3 (.slice y.2.2.1 (((r7Trim cMost cTarget ((r7Go cMost cTarget cN cA cG).1) ((r7Go cMost cTarget cN cA cG).2.1) (front7 ((r7Go cMost cTarget cN cA cG).2.2.1) ((r7Go cMost cTarget cN cA cG).2.2.2.1) ((r7Go cMost cTarget cN cA cG).2.2.2.2.1) false)).2.2).length) y.2.2.2) (((r7Trim cMost cTarget ((r7Go cMost cTarget cN cA cG).1) ((r7Go cMost cTarget cN cA cG).2.1) (front7 ((r7Go cMost cTarget cN cA cG).2.2.1) ((r7Go cMost cTarget cN cA cG).2.2.2.1) ((r7Go cMost cTarget cN cA cG).2.2.2.2.1) false)).2.2).length) (((r7Trim cMost cTarget ((r7Go cMost cTarget cN cA cG).1) ((r7Go cMost cTarget cN cA cG).2.1) (front7 ((r7Go cMost cTarget cN cA cG).2.2.1) ((r7Go cMost cTarget cN cA cG).2.2.2.1) ((r7Go cMost cTarget cN cA cG).2.2.2.2.1) false)).2.2).flatMap kq7)]) (fun y => .agg #[iV cMost, iV cTarget, .slice y.1.1 (((r7Trim cMost cTarget ((r7Go cMost cTarget cN cA cG).1) ((r7Go cMost cTarget cN cA cG).2.1) (front7 ((r7Go cMost cTarget cN cA cG).2.2.1) ((r7Go cMost cTarget cN cA cG).2.2.2.1) ((r7Go cMost cTarget cN cA cG).2.2.2.2.1) false)).1).length) y.1.2, .slice y.2.1.1 (((r7Trim cMost cTarget ((r7Go cMost cTarget cN cA cG).1) ((r7Go cMost cTarget cN cA cG).2.1) (front7 ((r7Go cMost cTarget cN cA cG).2.2.1) ((r7Go cMost cTarget cN cA cG).2.2.2.1) ((r7Go cMost cTarget cN cA cG).2.2.2.2.1) false)).2.1).length) y.2.1.2, .slice y.2.2.1 (((r7Trim cMost cTarget ((r7Go cMost cTarget cN cA cG).1) ((r7Go cMost cTarget cN cA cG).2.1) (front7 ((r7Go cMost cTarget cN cA cG).2.2.1) ((r7Go cMost cTarget cN cA cG).2.2.2.1) ((r7Go cMost cTarget cN cA cG).2.2.2.2.1) false)).2.2).length) y.2.2.2]) (fun g => o_call (by kernel_rfl) Try.call79 (Tri.vewA3 (K := []) (F := fun v => .agg #[iV cMost, iV cTarget, v.1, v.2.1, v.2.2]) (t_trim07 (cMost := cMost) (cTarget := cTarget) (cN := (r7Go cMost cTarget cN cA cG).1) (cNa := a10) (cNc := c11) (cA := (r7Go cMost cTarget cN cA cG).2.1) (cAa := a12) (cAc := c13) (cG := front7 ((r7Go cMost cTarget cN cA cG).2.2.1) ((r7Go cMost cTarget cN cA cG).2.2.2.1) ((r7Go cMost cTarget cN cA cG).2.2.2.2.1) false) (cGa := a19) (cGc := c20) (by omega) (by omega)))) (fun g => by kernel_rfl) (fun g y _ => ⟨trivial, by kernel_rfl, by kernel_rfl⟩), ob_val fun g w => by kernel_rfl, ob_s (l := fun g => [blkR b16 [sV ((r7Go cMost cTarget cN cA cG).2.2.2.1), bV ((r7Go cMost cTarget cN cA cG).2.2.2.2.1), bV false] 88]) (l' := fun g => [blkR b16 [sV ((r7Go cMost cTarget cN cA cG).2.2.2.1), bV ((r7Go cMost cTarget cN cA cG).2.2.2.2.1), bV false] 88]) (v := fun g => sV ((r7Go cMost cTarget cN cA cG).2.2.2.1)) (fun g => o_load (i := 0) (v := sV ((r7Go cMost cTarget cN cA cG).2.2.2.1)) (by kernel_rfl) (by kernel_rfl) (by kernel_rfl)) (fun g => by kernel_rfl), ob_s (l := fun g => [blkR b4 [iV 0, iV 0, .slice none 0 0, .slice none 0 0, .slice none 0 0] 61]) (l' := fun g => [blkR b4 [iV cMost, iV cTarget, .slice (addrOf (aggAt ((g 1)) 2)) (((r7Trim cMost cTarget ((r7Go cMost cTarget cN cA cG).1) ((r7Go cMost cTarget cN cA cG).2.1) (front7 ((r7Go cMost cTarget cN cA cG).2.2.1) ((r7Go cMost cTarget cN cA cG).2.2.2.1) ((r7Go cMost cTarget cN cA cG).2.2.2.2.1) false)).1).length) (capOf (aggAt ((g 1)) 2)), .slice (addrOf (aggAt ((g 1)) 3)) (((r7Trim cMost cTarget ((r7Go cMost cTarget cN cA cG).1) ((r7Go cMost cTarget cN cA cG).2.1) (front7 ((r7Go cMost cTarget cN cA cG).2.2.1) ((r7Go cMost cTarget cN cA cG).2.2.2.1) ((r7Go cMost cTarget cN cA cG).2.2.2.2.1) false)).2.1).length) (capOf (aggAt ((g 1)) 3)), .slice (addrOf (aggAt ((g 1)) 4)) (((r7Trim cMost cTarget ((r7Go cMost cTarget cN cA cG).1) ((r7Go cMost cTarget cN cA cG).2.1) (front7 ((r7Go cMost cTarget cN cA cG).2.2.1) ((r7Go cMost cTarget cN cA cG).2.2.2.1) ((r7Go cMost cTarget cN cA cG).2.2.2.2.1) false)).2.2).length) (capOf (aggAt ((g 1)) 4))] 61]) (v := fun g => undef) (fun g => o_store (i := 0) (v := .agg #[iV cMost, iV cTarget, .slice (addrOf (aggAt ((g 1)) 2)) (((r7Trim cMost cTarget ((r7Go cMost cTarget cN cA cG).1) ((r7Go cMost cTarget cN cA cG).2.1) (front7 ((r7Go cMost cTarget cN cA cG).2.2.1) ((r7Go cMost cTarget cN cA cG).2.2.2.1) ((r7Go cMost cTarget cN cA cG).2.2.2.2.1) false)).1).length) (capOf (aggAt ((g 1)) 2)), .slice (addrOf (aggAt ((g 1)) 3)) (((r7Trim cMost cTarget ((r7Go cMost cTarget cN cA cG).1) ((r7Go cMost cTarget cN cA cG).2.1) (front7 ((r7Go cMost cTarget cN cA cG).2.2.1) ((r7Go cMost cTarget cN cA cG).2.2.2.1) ((r7Go cMost cTarget cN cA cG).2.2.2.2.1) false)).2.1).length) (capOf (aggAt ((g 1)) 3)), .slice (addrOf (aggAt ((g 1)) 4)) (((r7Trim cMost cTarget ((r7Go cMost cTarget cN cA cG).1) ((r7Go cMost cTarget cN cA cG).2.1) (front7 ((r7Go cMost cTarget cN cA cG).2.2.1) ((r7Go cMost cTarget cN cA cG).2.2.2.1) ((r7Go cMost cTarget cN cA cG).2.2.2.2.1) false)).2.2).length) (capOf (aggAt ((g 1)) 4))]) (by kernel_rfl) (by kernel_rfl) (by kernel_rfl) (by kernel_rfl) (by kernel_rfl)) (fun g => by kernel_rfl), ob_val fun g w => by kernel_rfl, trivial⟩
  intro g
  refine Ex'.sub (subB_spec [2, 3]) ?_
  refine Ex'.as [0, 1, 2, 3, 4, 5, 6] (σ' := [(2, pV b4 0), (3, sV ((r7Go cMost cTarget cN cA cG).2.2.2.1))]) (Γ' := [vewR 3 (.slice (addrOf (aggAt ((g 1)) 2)) (((r7Trim cMost cTarget ((r7Go cMost cTarget cN cA cG).1) ((r7Go cMost cTarget cN cA cG).2.1) (front7 ((r7Go cMost cTarget cN cA cG).2.2.1) ((r7Go cMost cTarget cN cA cG).2.2.2.1) ((r7Go cMost cTarget cN cA cG).2.2.2.2.1) false)).1).length) (capOf (aggAt ((g 1)) 2))) (((r7Trim cMost cTarget ((r7Go cMost cTarget cN cA cG).1) ((r7Go cMost cTarget cN cA cG).2.1) (front7 ((r7Go cMost cTarget cN cA cG).2.2.1) ((r7Go cMost cTarget cN cA cG).2.2.2.1) ((r7Go cMost cTarget cN cA cG).2.2.2.2.1) false)).1).length) (((r7Trim cMost cTarget ((r7Go cMost cTarget cN cA cG).1) ((r7Go cMost cTarget cN cA cG).2.1) (front7 ((r7Go cMost cTarget cN cA cG).2.2.1) ((r7Go cMost cTarget cN cA cG).2.2.2.1) ((r7Go cMost cTarget cN cA cG).2.2.2.2.1) false)).1).flatMap kq7), vewR 3 (.slice (addrOf (aggAt ((g 1)) 3)) (((r7Trim cMost cTarget ((r7Go cMost cTarget cN cA cG).1) ((r7Go cMost cTarget cN cA cG).2.1) (front7 ((r7Go cMost cTarget cN cA cG).2.2.1) ((r7Go cMost cTarget cN cA cG).2.2.2.1) ((r7Go cMost cTarget cN cA cG).2.2.2.2.1) false)).2.1).length) (capOf (aggAt ((g 1)) 3))) (((r7Trim cMost cTarget ((r7Go cMost cTarget cN cA cG).1) ((r7Go cMost cTarget cN cA cG).2.1) (front7 ((r7Go cMost cTarget cN cA cG).2.2.1) ((r7Go cMost cTarget cN cA cG).2.2.2.1) ((r7Go cMost cTarget cN cA cG).2.2.2.2.1) false)).2.1).length) (((r7Trim cMost cTarget ((r7Go cMost cTarget cN cA cG).1) ((r7Go cMost cTarget cN cA cG).2.1) (front7 ((r7Go cMost cTarget cN cA cG).2.2.1) ((r7Go cMost cTarget cN cA cG).2.2.2.1) ((r7Go cMost cTarget cN cA cG).2.2.2.2.1) false)).2.1).flatMap kq7), vewR 3 (.slice a14 (((r7Go cMost cTarget cN cA cG).2.2.1).length) c15) (((r7Go cMost cTarget cN cA cG).2.2.1).length) (((r7Go cMost cTarget cN cA cG).2.2.1).flatMap kq7), blkR b3 [iV cMost, iV cTarget, .slice a10 (((r7Go cMost cTarget cN cA cG).1).length) c11, .slice a12 (((r7Go cMost cTarget cN cA cG).2.1).length) c13, .slice a19 ((front7 ((r7Go cMost cTarget cN cA cG).2.2.1) ((r7Go cMost cTarget cN cA cG).2.2.2.1) ((r7Go cMost cTarget cN cA cG).2.2.2.2.1) false).length) c20] 61, blkR b4 [iV cMost, iV cTarget, .slice (addrOf (aggAt ((g 1)) 2)) (((r7Trim cMost cTarget ((r7Go cMost cTarget cN cA cG).1) ((r7Go cMost cTarget cN cA cG).2.1) (front7 ((r7Go cMost cTarget cN cA cG).2.2.1) ((r7Go cMost cTarget cN cA cG).2.2.2.1) ((r7Go cMost cTarget cN cA cG).2.2.2.2.1) false)).1).length) (capOf (aggAt ((g 1)) 2)), .slice (addrOf (aggAt ((g 1)) 3)) (((r7Trim cMost cTarget ((r7Go cMost cTarget cN cA cG).1) ((r7Go cMost cTarget cN cA cG).2.1) (front7 ((r7Go cMost cTarget cN cA cG).2.2.1) ((r7Go cMost cTarget cN cA cG).2.2.2.1) ((r7Go cMost cTarget cN cA cG).2.2.2.2.1) false)).2.1).length) (capOf (aggAt ((g 1)) 3)), .slice (addrOf (aggAt ((g 1)) 4)) (((r7Trim cMost cTarget ((r7Go cMost cTarget cN cA cG).1) ((r7Go cMost cTarget cN cA cG).2.1) (front7 ((r7Go cMost cTarget cN cA cG).2.2.1) ((r7Go cMost cTarget cN cA cG).2.2.2.1) ((r7Go cMost cTarget cN cA cG).2.2.2.2.1) false)).2.2).length) (capOf (aggAt ((g 1)) 4))] 61, blkR b16 [sV ((r7Go cMost cTarget cN cA cG).2.2.2.1), bV ((r7Go cMost cTarget cN cA cG).2.2.2.2.1), bV false] 88, vewR 3 (.slice (addrOf (aggAt ((g 1)) 4)) (((r7Trim cMost cTarget ((r7Go cMost cTarget cN cA cG).1) ((r7Go cMost cTarget cN cA cG).2.1) (front7 ((r7Go cMost cTarget cN cA cG).2.2.1) ((r7Go cMost cTarget cN cA cG).2.2.2.1) ((r7Go cMost cTarget cN cA cG).2.2.2.2.1) false)).2.2).length) (capOf (aggAt ((g 1)) 4))) (((r7Trim cMost cTarget ((r7Go cMost cTarget cN cA cG).1) ((r7Go cMost cTarget cN cA cG).2.1) (front7 ((r7Go cMost cTarget cN cA cG).2.2.1) ((r7Go cMost cTarget cN cA cG).2.2.2.1) ((r7Go cMost cTarget cN cA cG).2.2.2.2.1) false)).2.2).length) (((r7Trim cMost cTarget ((r7Go cMost cTarget cN cA cG).1) ((r7Go cMost cTarget cN cA cG).2.1) (front7 ((r7Go cMost cTarget cN cA cG).2.2.1) ((r7Go cMost cTarget cN cA cG).2.2.2.1) ((r7Go cMost cTarget cN cA cG).2.2.2.2.1) false)).2.2).flatMap kq7)]) (by kernel_rfl) rfl (by kernel_rfl) (by kernel_rfl) ?_
  generalize addrOf (aggAt ((g 1)) 2) = a25
  generalize capOf (aggAt ((g 1)) 2) = c26
  generalize addrOf (aggAt ((g 1)) 3) = a27
  generalize capOf (aggAt ((g 1)) 3) = c28
  generalize addrOf (aggAt ((g 1)) 4) = a29
  generalize capOf (aggAt ((g 1)) 4) = c30
  refine Ex'.next ?_
  refine Cd.ret ?_
  refine Ex'.ret Try.results77 (RVs.cellN (i := 0) (b := b4) (l := [iV cMost, iV cTarget, .slice a25 (((r7Trim cMost cTarget ((r7Go cMost cTarget cN cA cG).1) ((r7Go cMost cTarget cN cA cG).2.1) (front7 ((r7Go cMost cTarget cN cA cG).2.2.1) ((r7Go cMost cTarget cN cA cG).2.2.2.1) ((r7Go cMost cTarget cN cA cG).2.2.2.2.1) false)).1).length) c26, .slice a27 (((r7Trim cMost cTarget ((r7Go cMost cTarget cN cA cG).1) ((r7Go cMost cTarget cN cA cG).2.1) (front7 ((r7Go cMost cTarget cN cA cG).2.2.1) ((r7Go cMost cTarget cN cA cG).2.2.2.1) ((r7Go cMost cTarget cN cA cG).2.2.2.2.1) false)).2.1).length) c28, .slice a29 (((r7Trim cMost cTarget ((r7Go cMost cTarget cN cA cG).1) ((r7Go cMost cTarget cN cA cG).2.1) (front7 ((r7Go cMost cTarget cN cA cG).2.2.1) ((r7Go cMost cTarget cN cA cG).2.2.2.1) ((r7Go cMost cTarget cN cA cG).2.2.2.2.1) false)).2.2).length) c30]) (E := 61) [iV cMost, iV cTarget, .slice a25 (((r7Trim cMost cTarget ((r7Go cMost cTarget cN cA cG).1) ((r7Go cMost cTarget cN cA cG).2.1) (front7 ((r7Go cMost cTarget cN cA cG).2.2.1) ((r7Go cMost cTarget cN cA cG).2.2.2.1) ((r7Go cMost cTarget cN cA cG).2.2.2.2.1) false)).1).length) c26, .slice a27 (((r7Trim cMost cTarget ((r7Go cMost cTarget cN cA cG).1) ((r7Go cMost cTarget cN cA cG).2.1) (front7 ((r7Go cMost cTarget cN cA cG).2.2.1) ((r7Go cMost cTarget cN cA cG).2.2.2.1) ((r7Go cMost cTarget cN cA cG).2.2.2.2.1) false)).2.1).length) c28, .slice a29 (((r7Trim cMost cTarget ((r7Go cMost cTarget cN cA cG).1) ((r7Go cMost cTarget cN cA cG).2.1) (front7 ((r7Go cMost cTarget cN cA cG).2.2.1) ((r7Go cMost cTarget cN cA cG).2.2.2.1) ((r7Go cMost cTarget cN cA cG).2.2.2.2.1) false)).2.2).length) c30] 4 (by kernel_rfl) (by kernel_rfl) (by kernel_rfl) (by kernel_rfl) (RVs.tmp (v := sV ((r7Go cMost cTarget cN cA cG).2.2.2.1)) (by kernel_rfl) (RVs.nil))) (fun w hw => ?_)
  have e : r7Evict cMost cTarget cN cA cG = ((r7Trim cMost cTarget ((r7Go cMost cTarget cN cA cG).1) ((r7Go cMost cTarget cN cA cG).2.1) (front7 ((r7Go cMost cTarget cN cA cG).2.2.1) ((r7Go cMost cTarget cN cA cG).2.2.2.1) ((r7Go cMost cTarget cN cA cG).2.2.2.2.1) false)).1, (r7Trim cMost cTarget ((r7Go cMost cTarget cN cA cG).1) ((r7Go cMost cTarget cN cA cG).2.1) (front7 ((r7Go cMost cTarget cN cA cG).2.2.1) ((r7Go cMost cTarget cN cA cG).2.2.2.1) ((r7Go cMost cTarget cN cA cG).2.2.2.2.1) false)).2.1, (r7Trim cMost cTarget ((r7Go cMost cTarget cN cA cG).1) ((r7Go cMost cTarget cN cA cG).2.1) (front7 ((r7Go cMost cTarget cN cA cG).2.2.1) ((r7Go cMost cTarget cN cA cG).2.2.2.1) ((r7Go cMost cTarget cN cA cG).2.2.2.2.1) false)).2.2, (r7Go cMost cTarget cN cA cG).2.2.2.1) := by unfold r7Evict; rfl
  rw [e]
  exact ⟨_, ⟨(.slice a25 (((r7Trim cMost cTarget ((r7Go cMost cTarget cN cA cG).1) ((r7Go cMost cTarget cN cA cG).2.1) (front7 ((r7Go cMost cTarget cN cA cG).2.2.1) ((r7Go cMost cTarget cN cA cG).2.2.2.1) ((r7Go cMost cTarget cN cA cG).2.2.2.2.1) false)).1).length) c26, .slice a27 (((r7Trim cMost cTarget ((r7Go cMost cTarget cN cA cG).1) ((r7Go cMost cTarget cN cA cG).2.1) (front7 ((r7Go cMost cTarget cN cA cG).2.2.1) ((r7Go cMost cTarget cN cA cG).2.2.2.1) ((r7Go cMost cTarget cN cA cG).2.2.2.2.1) false)).2.1).length) c28, .slice a29 (((r7Trim cMost cTarget ((r7Go cMost cTarget cN cA cG).1) ((r7Go cMost cTarget cN cA cG).2.1) (front7 ((r7Go cMost cTarget cN cA cG).2.2.1) ((r7Go cMost cTarget cN cA cG).2.2.2.1) ((r7Go cMost cTarget cN cA cG).2.2.2.2.1) false)).2.2).length) c30), trivial, rfl, rfl⟩, hw.pickB [0, 1, 6] (by kernel_rfl) (by kernel_rfl) (by kernel_rfl)⟩

set_option maxHeartbeats 8000000 in
set_option maxRecDepth 100000 in
theorem t_again07 {cNa : Option Addr} {cNc : Nat} {cAa : Option Addr} {cAc : Nat} {cGa : Option Addr} {cGc : Nat} {cMost : Int} {cTarget : Int} {cN : List K7} {cA : List K7} {cG : List K7} {s : ByteArray} (hbd : cN.length + cA.length + cG.length ≤ 1000000) : Tri Try.prog 76 #[.agg #[iV cMost, iV cTarget, .slice cNa cN.length cNc, .slice cAa cA.length cAc, .slice cGa cG.length cGc], sV s] [vewR 3 (.slice cNa cN.length cNc) cN.length (cN.flatMap kq7), vewR 3 (.slice cAa cA.length cAc) cA.length (cA.flatMap kq7), vewR 3 (.slice cGa cG.length cGc) cG.length (cG.flatMap kq7)] (PostE (ι := Value × Value × Value) (fun _ => True) (fun v => .agg #[iV cMost, iV cTarget, v.1, v.2.1, v.2.2]) fun v => [vewR 3 v.1 (((r7Again cMost cTarget cN cA cG s).1).length) (((r7Again cMost cTarget cN cA cG s).1).flatMap kq7), vewR 3 v.2.1 (((r7Again cMost cTarget cN cA cG s).2.1).length) (((r7Again cMost cTarget cN cA cG s).2.1).flatMap kq7), vewR 3 v.2.2 (((r7Again cMost cTarget cN cA cG s).2.2).length) (((r7Again cMost cTarget cN cA cG s).2.2).flatMap kq7)]) := by
  refine Tri.enter (args := [.agg #[iV cMost, iV cTarget, .slice cNa cN.length cNc, .slice cAa cA.length cAc, .slice cGa cG.length cGc], sV s]) Try.func76 rfl rfl rfl (fun B wz => ?_)
  refine Cd.fact (i := 0) rfl vew_cap ?_; intro hcap0
  refine Cd.fact (i := 1) rfl vew_cap ?_; intro hcap1
  refine Cd.fact (i := 2) rfl vew_cap ?_; intro hcap2
  refine Cd.seq ?_
  refine Cd.region rfl ?_
  refine Sq.ex [] (l := []) (o_newBox (v := .agg #[iV cMost, iV cTarget, .slice cNa cN.length cNc, .slice cAa cA.length cAc, .slice cGa cG.length cGc]) [iV cMost, iV cTarget, .slice cNa cN.length cNc, .slice cAa cA.length cAc, .slice cGa cG.length cGc] (by kernel_rfl) rfl) (by kernel_rfl) rfl (by kernel_rfl) (fun _ => Nat.zero_le _) ?_; intro b3 _
  refine Sq.ex [] (l := []) (o_new [iV 0, iV 0, .slice none 0 0, .slice none 0 0, .slice none 0 0] (fun w => by kernel_rfl)) (by kernel_rfl) rfl (by kernel_rfl) (fun _ => Nat.zero_le _) ?_; intro b4 _
  refine Sq.done ?_
  refine Ex'.next ?_
  refine Cd.seq ?_
  refine Cd.region rfl ?_
  refine Sq.vals [0] (rest := [1, 2, 3, 4, 5, 6]) [pV b3 3] (fun w => by kernel_rfl) ?_
  refine Sq.same [3] (l := [blkR b3 [iV cMost, iV cTarget, .slice cNa cN.length cNc, .slice cAa cA.length cAc, .slice cGa cG.length cGc] 61]) (o_load (i := 3) (v := .slice cAa cA.length cAc) (by kernel_rfl) (by kernel_rfl) (by kernel_rfl)) (by kernel_rfl) rfl (by kernel_rfl) rfl ?_
  refine Sq.vals [2, 3] (rest := [4, 5, 6]) [sV s, .agg #[sV s, bV true, bV false]] (fun w => by kernel_rfl) ?_
  refine Sq.ex [1] (l := [vewR 3 (.slice cAa cA.length cAc) cA.length (cA.flatMap kq7)]) (o_call (by kernel_rfl) Try.call74 (t_front07 (l := cA) (la := cAa) (lc := cAc) (kS := s) (kOld := true) (kDemoted := false) (by omega))) (by kernel_rfl) rfl (by kernel_rfl) (fun _ => Nat.le_of_ble_eq_true (by kernel_rfl)) ?_; rintro v6 _
  have q5 : ((front7 cA s true false)).length = cA.length + 1 := by unfold front7; simp [Nat.add_comm]
  refine Sq.fact (i := 5) (R := vewR 3 v6 ((front7 cA s true false).length) ((front7 cA s true false).flatMap kq7)) (by kernel_rfl) vew_slice ?_; rintro ⟨a7, c8, rfl, hc8, hc8'⟩
  have hc8'' : c8 ≤ 9223372036854775807 := hc8'
  refine Sq.vals [5] (rest := [6]) [pV b3 3] (fun w => by kernel_rfl) ?_
  refine Sq.same [3] (l := [blkR b3 [iV cMost, iV cTarget, .slice cNa cN.length cNc, .slice cAa cA.length cAc, .slice cGa cG.length cGc] 61]) (o_store (i := 3) (v := .slice a7 ((front7 cA s true false).length) c8) (by kernel_rfl) (by kernel_rfl) (by kernel_rfl) (by kernel_rfl) (by kernel_rfl)) (by kernel_rfl) rfl (by kernel_rfl) rfl ?_
  refine Sq.done ?_
  refine Ex'.next ?_
  refine Cd.seq ?_
  refine Cd.block ?_
  refine Cd.loop (ι := Value × (List K7) × Value × (List K7)) (fun ⟨vN, N2, vA, A2⟩ => dem7 cTarget A2.length N2 A2 = dem7 cTarget ([(s, true, false)] ++ cA).length cN ([(s, true, false)] ++ cA) ∧ A2.length + N2.length ≤ cN.length + cA.length + 1) (fun ⟨vN, N2, vA, A2⟩ => A2.length) (fun ⟨vN, N2, vA, A2⟩ => [(2, pV b3 0), (4, pV b4 0)]) (fun ⟨vN, N2, vA, A2⟩ => [vewR 3 vN N2.length (N2.flatMap kq7), vewR 3 vA A2.length (A2.flatMap kq7), vewR 3 (.slice cGa cG.length cGc) cG.length (cG.flatMap kq7), blkR b3 [iV cMost, iV cTarget, vN, vA, .slice cGa cG.length cGc] 61, blkR b4 [iV 0, iV 0, .slice none 0 0, .slice none 0 0, .slice none 0 0] 61]) (.slice cNa cN.length cNc, cN, .slice a7 ((front7 cA s true false).length) c8, front7 cA s true false) (⟨rfl, by omega⟩) (subB_eq (l := [2, 4]) (by kernel_rfl)) (fun w hw => hw.pickB [0, 5, 2, 3, 4] (by kernel_rfl) (by kernel_rfl) (by kernel_rfl)) ?_
  rintro ⟨vN, N2, vA, A2⟩ hL9
  try dsimp only at hL9 ⊢
  obtain ⟨hz, hzl⟩ := hL9
  refine Cd.fact (i := 0) (R := vewR 3 vN N2.length (N2.flatMap kq7)) (by kernel_rfl) vew_slice ?_; rintro ⟨a10, c11, rfl, hc11, hc11'⟩
  have hc11'' : c11 ≤ 9223372036854775807 := hc11'
  refine Cd.fact (i := 1) (R := vewR 3 vA A2.length (A2.flatMap kq7)) (by kernel_rfl) vew_slice ?_; rintro ⟨a12, c13, rfl, hc13, hc13'⟩
  have hc13'' : c13 ≤ 9223372036854775807 := hc13'
  refine Cd.seq ?_
  refine Cd.seq ?_
  refine Cd.region rfl ?_
  refine Sq.vals [0] (rest := [1, 2, 3, 4, 5, 6, 7, 8, 9, 10, 11]) [pV b3 3] (fun w => by kernel_rfl) ?_
  refine Sq.same [3] (l := [blkR b3 [iV cMost, iV cTarget, .slice a10 N2.length c11, .slice a12 A2.length c13, .slice cGa cG.length cGc] 61]) (o_load (i := 3) (v := .slice a12 A2.length c13) (by kernel_rfl) (by kernel_rfl) (by kernel_rfl)) (by kernel_rfl) rfl (by kernel_rfl) rfl ?_
  refine Sq.vals [2, 3] (rest := [4, 5, 6, 7, 8, 9, 10, 11]) [iV (A2.length : Int), pV b3 1] (fun w => by kernel_rfl) ?_
  refine Sq.same [3] (l := [blkR b3 [iV cMost, iV cTarget, .slice a10 N2.length c11, .slice a12 A2.length c13, .slice cGa cG.length cGc] 61]) (o_load (i := 1) (v := iV cTarget) (by kernel_rfl) (by kernel_rfl) (by kernel_rfl)) (by kernel_rfl) rfl (by kernel_rfl) rfl ?_
  refine Sq.vals [5, 6] (rest := [7, 8, 9, 10, 11]) [bV (decide ((A2.length : Int) > cTarget)), bV (decide ((A2.length : Int) > cTarget))] (fun w => by kernel_rfl) ?_
  refine Sq.case 18 (p := (A2.length : Int) > cTarget) rfl (fun h14 => ?_) (fun h14 => ?_)
  ·
    refine Sq.vals [7] (rest := [8, 9, 10, 11]) [pV b3 3] (fun w => by kernel_rfl) ?_
    refine Sq.same [3] (l := [blkR b3 [iV cMost, iV cTarget, .slice a10 N2.length c11, .slice a12 A2.length c13, .slice cGa cG.length cGc] 61]) (o_load (i := 3) (v := .slice a12 A2.length c13) (by kernel_rfl) (by kernel_rfl) (by kernel_rfl)) (by kernel_rfl) rfl (by kernel_rfl) rfl ?_
    refine Sq.vals [9, 10, 11] (rest := []) [iV (A2.length : Int), bV (decide ((A2.length : Int) > 1)), bV (decide ((A2.length : Int) > 1))] (fun w => by kernel_rfl) ?_
    refine Sq.done ?_
    refine Ex'.next ?_
    refine Cd.case (p := (A2.length : Int) > 1) (by kernel_rfl) (fun h15 => ?_) (fun h15 => ?_)
    ·
      refine Cd.skip ?_
      refine Ex'.next ?_
      refine Cd.block ?_
      refine Cd.seq ?_
      refine Cd.region rfl ?_
      refine Sq.vals [0] (rest := [1, 2, 3, 4, 5, 6, 7, 8, 9]) [pV b3 3] (fun w => by kernel_rfl) ?_
      refine Sq.same [3] (l := [blkR b3 [iV cMost, iV cTarget, .slice a10 N2.length c11, .slice a12 A2.length c13, .slice cGa cG.length cGc] 61]) (o_load (i := 3) (v := .slice a12 A2.length c13) (by kernel_rfl) (by kernel_rfl) (by kernel_rfl)) (by kernel_rfl) rfl (by kernel_rfl) rfl ?_
      refine Sq.vals [2] (rest := [3, 4, 5, 6, 7, 8, 9]) [pV b3 3] (fun w => by kernel_rfl) ?_
      refine Sq.same [3] (l := [blkR b3 [iV cMost, iV cTarget, .slice a10 N2.length c11, .slice a12 A2.length c13, .slice cGa cG.length cGc] 61]) (o_load (i := 3) (v := .slice a12 A2.length c13) (by kernel_rfl) (by kernel_rfl) (by kernel_rfl)) (by kernel_rfl) rfl (by kernel_rfl) rfl ?_
      refine Sq.vals [4] (rest := [5, 6, 7, 8, 9]) [iV (A2.length : Int)] (fun w => by kernel_rfl) ?_
      refine Sq.v (r := iV ((A2.length - 1 : Nat) : Int)) (o_sub (k := .i64) (a := (A2.length : Int)) (b := 1) (c := ((A2.length - 1 : Nat) : Int)) (by kernel_rfl) (by kernel_rfl) (w64 (by omega) (by omega))) rfl (by kernel_rfl) ?_
      refine Sq.fact (i := 1) (R := vewR 3 (.slice a12 A2.length c13) A2.length (A2.flatMap kq7)) (by kernel_rfl) (vew_addr (by omega)) ?_; rintro ⟨b16, off17, rfl⟩
      refine Sq.v (r := pV b16 (off17 + (A2.length - 1) * 3)) (o_idx (b := b16) (cap := c13) (e := 88) (off := off17) (n := A2.length) (kd := .i64) (q := ((A2.length - 1 : Nat) : Int)) (i := (A2.length - 1)) (size := 3) (j := off17 + (A2.length - 1) * 3) (by kernel_rfl) (by kernel_rfl) (by rfl) (by omega) Try.underlying59 (by kernel_rfl) (by omega)) rfl (by kernel_rfl) ?_
      refine Sq.same [1] (l := [vewR 3 (.slice (some ⟨b16, off17, none⟩) A2.length c13) A2.length (A2.flatMap kq7)]) (o_loadViewN (off := off17) (j := (A2.length - 1) * 3) [sV ((A2.getD (A2.length - 1) kz7).1), bV ((A2.getD (A2.length - 1) kz7).2.1), bV ((A2.getD (A2.length - 1) kz7).2.2)] (by kernel_rfl) (by omega) (by kernel_rfl) (rec_gets (f := kq7) (k := 3) (z := kz7) (l := A2) (i := (A2.length - 1)) (o := 0) (fun _ => rfl) (by omega) (Nat.le_of_ble_eq_true rfl) rfl)) (by kernel_rfl) rfl (by kernel_rfl) rfl ?_
      refine Sq.ex [] (l := []) (o_new [sV ⟨#[]⟩, bV false, bV false] (fun w => by kernel_rfl)) (by kernel_rfl) rfl (by kernel_rfl) (fun _ => Nat.zero_le _) ?_; intro b18 _
      refine Sq.same [5] (l := [blkR b18 [sV ⟨#[]⟩, bV false, bV false] 88]) (o_store (i := 0) (v := .agg #[sV ((A2.getD (A2.length - 1) kz7).1), bV ((A2.getD (A2.length - 1) kz7).2.1), bV ((A2.getD (A2.length - 1) kz7).2.2)]) (by kernel_rfl) (by kernel_rfl) (by kernel_rfl) (by kernel_rfl) (by kernel_rfl)) (by kernel_rfl) rfl (by kernel_rfl) rfl ?_
      refine Sq.done ?_
      refine Ex'.next ?_
      refine Cd.seq ?_
      refine Cd.region rfl ?_
      refine Sq.vals [0] (rest := [1, 2, 3, 4, 5, 6, 7, 8]) [pV b3 3] (fun w => by kernel_rfl) ?_
      refine Sq.same [3] (l := [blkR b3 [iV cMost, iV cTarget, .slice a10 N2.length c11, .slice (some ⟨b16, off17, none⟩) A2.length c13, .slice cGa cG.length cGc] 61]) (o_load (i := 3) (v := .slice (some ⟨b16, off17, none⟩) A2.length c13) (by kernel_rfl) (by kernel_rfl) (by kernel_rfl)) (by kernel_rfl) rfl (by kernel_rfl) rfl ?_
      refine Sq.vals [2] (rest := [3, 4, 5, 6, 7, 8]) [pV b3 3] (fun w => by kernel_rfl) ?_
      refine Sq.same [3] (l := [blkR b3 [iV cMost, iV cTarget, .slice a10 N2.length c11, .slice (some ⟨b16, off17, none⟩) A2.length c13, .slice cGa cG.length cGc] 61]) (o_load (i := 3) (v := .slice (some ⟨b16, off17, none⟩) A2.length c13) (by kernel_rfl) (by kernel_rfl) (by kernel_rfl)) (by kernel_rfl) rfl (by kernel_rfl) rfl ?_
      refine Sq.vals [4] (rest := [5, 6, 7, 8]) [iV (A2.length : Int)] (fun w => by kernel_rfl) ?_
      refine Sq.v (r := iV ((A2.length - 1 : Nat) : Int)) (o_sub (k := .i64) (a := (A2.length : Int)) (b := 1) (c := ((A2.length - 1 : Nat) : Int)) (by kernel_rfl) (by kernel_rfl) (w64 (by omega) (by omega))) rfl (by kernel_rfl) ?_
      refine Sq.v (r := .slice (some ⟨b16, off17, none⟩) (A2.length - 1) c13) (o_cutTo (kd := .i64) (q := ((A2.length - 1 : Nat) : Int)) (h := (A2.length - 1)) (n := A2.length) (size := 3) (by kernel_rfl) (by kernel_rfl) (by rfl) (by omega) Try.underlying59 (by kernel_rfl)) rfl (by kernel_rfl) ?_
      refine Sq.res 1 (R := vewR 3 (.slice (some ⟨b16, off17, none⟩) A2.length c13) A2.length (A2.flatMap kq7)) (R' := vewR 3 (.slice (some ⟨b16, off17, none⟩) (A2.length - 1) c13) (A2.length - 1) ((A2.take (A2.length - 1)).flatMap kq7)) (by kernel_rfl) (vew_cut (f := kq7) (fun _ => rfl) (by omega)) ?_
      refine Sq.vals [7] (rest := [8]) [pV b3 3] (fun w => by kernel_rfl) ?_
      refine Sq.same [3] (l := [blkR b3 [iV cMost, iV cTarget, .slice a10 N2.length c11, .slice (some ⟨b16, off17, none⟩) A2.length c13, .slice cGa cG.length cGc] 61]) (o_store (i := 3) (v := .slice (some ⟨b16, off17, none⟩) (A2.length - 1) c13) (by kernel_rfl) (by kernel_rfl) (by kernel_rfl) (by kernel_rfl) (by kernel_rfl)) (by kernel_rfl) rfl (by kernel_rfl) rfl ?_
      refine Sq.done ?_
      refine Ex'.next ?_
      refine Cd.region rfl ?_
      refine Sq.vals [0] (rest := [1, 2, 3, 4, 5, 6, 7]) [pV b3 2] (fun w => by kernel_rfl) ?_
      refine Sq.same [3] (l := [blkR b3 [iV cMost, iV cTarget, .slice a10 N2.length c11, .slice (some ⟨b16, off17, none⟩) (A2.length - 1) c13, .slice cGa cG.length cGc] 61]) (o_load (i := 2) (v := .slice a10 N2.length c11) (by kernel_rfl) (by kernel_rfl) (by kernel_rfl)) (by kernel_rfl) rfl (by kernel_rfl) rfl ?_
      refine Sq.vals [2] (rest := [3, 4, 5, 6, 7]) [pV b18 0] (fun w => by kernel_rfl) ?_
      refine Sq.same [5] (l := [blkR b18 [sV ((A2.getD (A2.length - 1) kz7).1), bV ((A2.getD (A2.length - 1) kz7).2.1), bV ((A2.getD (A2.length - 1) kz7).2.2)] 88]) (o_load (i := 0) (v := sV ((A2.getD (A2.length - 1) kz7).1)) (by kernel_rfl) (by kernel_rfl) (by kernel_rfl)) (by kernel_rfl) rfl (by kernel_rfl) rfl ?_
      refine Sq.vals [4] (rest := [5, 6, 7]) [.agg #[sV ((A2.getD (A2.length - 1) kz7).1), bV true, bV true]] (fun w => by kernel_rfl) ?_
      refine Sq.ex [0] (l := [vewR 3 (.slice a10 N2.length c11) N2.length (N2.flatMap kq7)]) (o_call (by kernel_rfl) Try.call74 (t_front07 (l := N2) (la := a10) (lc := c11) (kS := (A2.getD (A2.length - 1) kz7).1) (kOld := true) (kDemoted := true) (by omega))) (by kernel_rfl) rfl (by kernel_rfl) (fun _ => Nat.le_of_ble_eq_true (by kernel_rfl)) ?_; rintro v20 _
      have q19 : ((front7 N2 ((A2.getD (A2.length - 1) kz7).1) true true)).length = N2.length + 1 := by unfold front7; simp [Nat.add_comm]
      refine Sq.fact (i := 6) (R := vewR 3 v20 ((front7 N2 ((A2.getD (A2.length - 1) kz7).1) true true).length) ((front7 N2 ((A2.getD (A2.length - 1) kz7).1) true true).flatMap kq7)) (by kernel_rfl) vew_slice ?_; rintro ⟨a21, c22, rfl, hc22, hc22'⟩
      have hc22'' : c22 ≤ 9223372036854775807 := hc22'
      refine Sq.vals [6] (rest := [7]) [pV b3 2] (fun w => by kernel_rfl) ?_
      refine Sq.same [3] (l := [blkR b3 [iV cMost, iV cTarget, .slice a10 N2.length c11, .slice (some ⟨b16, off17, none⟩) (A2.length - 1) c13, .slice cGa cG.length cGc] 61]) (o_store (i := 2) (v := .slice a21 ((front7 N2 ((A2.getD (A2.length - 1) kz7).1) true true).length) c22) (by kernel_rfl) (by kernel_rfl) (by kernel_rfl) (by kernel_rfl) (by kernel_rfl)) (by kernel_rfl) rfl (by kernel_rfl) rfl ?_
      refine Sq.done ?_
      refine Ex'.blockNormal ?_
      refine Ex'.round (g := (.slice a10 N2.length c11, N2, .slice (some ⟨b16, off17, none⟩) A2.length c13, A2)) (.slice a21 ((front7 N2 ((A2.getD (A2.length - 1) kz7).1) true true).length) c22, front7 N2 ((A2.getD (A2.length - 1) kz7).1) true true, .slice (some ⟨b16, off17, none⟩) (A2.length - 1) c13, A2.take (A2.length - 1)) ?_ ?_ (subB_eq (l := [2, 4]) (by kernel_rfl)) (fun w hw => (hw.conv 1 (R := vewR 3 (.slice (some ⟨b16, off17, none⟩) (A2.length - 1) c13) (A2.length - 1) ((A2.take (A2.length - 1)).flatMap kq7)) (R' := vewR 3 (.slice (some ⟨b16, off17, none⟩) (A2.length - 1) c13) (A2.take (A2.length - 1)).length ((A2.take (A2.length - 1)).flatMap kq7)) (by kernel_rfl) (vew_len (by first | rfl | omega | (simp only [List.length_take, List.length_drop, List.length_append, List.length_cons, List.length_nil]; omega) | (simp; done) | (simp; omega)))).pickB [6, 1, 2, 3, 4] (by kernel_rfl) (by kernel_rfl) (by kernel_rfl))
      · (try dsimp only); exact ⟨(dem7_go ⟨h14, h15⟩).symm.trans hz, by rw [List.length_take]; omega⟩
      · (try dsimp only); rw [List.length_take]; omega
    ·
      refine Cd.exit ?_
      refine Ex'.thenExit ?_
      refine Ex'.thenExit ?_
      refine Ex'.blockHit ?_
      refine Ex'.next ?_
      refine Cd.seq ?_
      refine Cd.region rfl ?_
      refine Sq.same [3] (l := [blkR b3 [iV cMost, iV cTarget, .slice a10 N2.length c11, .slice a12 A2.length c13, .slice cGa cG.length cGc] 61]) (o_loadN (i := 0) [iV cMost, iV cTarget, .slice a10 N2.length c11, .slice a12 A2.length c13, .slice cGa cG.length cGc] (by kernel_rfl) (by kernel_rfl) (by kernel_rfl)) (by kernel_rfl) rfl (by kernel_rfl) rfl ?_
      refine Sq.same [4] (l := [blkR b4 [iV 0, iV 0, .slice none 0 0, .slice none 0 0, .slice none 0 0] 61]) (o_store (i := 0) (v := .agg #[iV cMost, iV cTarget, .slice a10 N2.length c11, .slice a12 A2.length c13, .slice cGa cG.length cGc]) (by kernel_rfl) (by kernel_rfl) (by kernel_rfl) (by kernel_rfl) (by kernel_rfl)) (by kernel_rfl) rfl (by kernel_rfl) rfl ?_
      refine Sq.done ?_
      refine Ex'.next ?_
      refine Cd.ret ?_
      refine Ex'.ret Try.results76 (RVs.cellN (i := 0) (b := b4) (l := [iV cMost, iV cTarget, .slice a10 N2.length c11, .slice a12 A2.length c13, .slice cGa cG.length cGc]) (E := 61) [iV cMost, iV cTarget, .slice a10 N2.length c11, .slice a12 A2.length c13, .slice cGa cG.length cGc] 4 (by kernel_rfl) (by kernel_rfl) (by kernel_rfl) (by kernel_rfl) (RVs.nil)) (fun w hw => ?_)
      have e : r7Again cMost cTarget cN cA cG s = (N2, A2, cG) := by unfold r7Again; rw [← hz, dem7_stop (fun q => h15 q.2) _]
      rw [e]
      exact ⟨_, ⟨(.slice a10 N2.length c11, .slice a12 A2.length c13, .slice cGa cG.length cGc), trivial, rfl, rfl⟩, hw.pickB [0, 1, 2] (by kernel_rfl) (by kernel_rfl) (by kernel_rfl)⟩
  ·
    refine Sq.vals [7, 8, 9, 10, 11] (rest := []) [undef, undef, undef, undef, bV false] (fun w => by kernel_rfl) ?_
    refine Sq.done ?_
    refine Ex'.next ?_
    refine Cd.condF (by kernel_rfl) ?_
    refine Cd.exit ?_
    refine Ex'.thenExit ?_
    refine Ex'.thenExit ?_
    refine Ex'.blockHit ?_
    refine Ex'.next ?_
    refine Cd.seq ?_
    refine Cd.region rfl ?_
    refine Sq.same [3] (l := [blkR b3 [iV cMost, iV cTarget, .slice a10 N2.length c11, .slice a12 A2.length c13, .slice cGa cG.length cGc] 61]) (o_loadN (i := 0) [iV cMost, iV cTarget, .slice a10 N2.length c11, .slice a12 A2.length c13, .slice cGa cG.length cGc] (by kernel_rfl) (by kernel_rfl) (by kernel_rfl)) (by kernel_rfl) rfl (by kernel_rfl) rfl ?_
    refine Sq.same [4] (l := [blkR b4 [iV 0, iV 0, .slice none 0 0, .slice none 0 0, .slice none 0 0] 61]) (o_store (i := 0) (v := .agg #[iV cMost, iV cTarget, .slice a10 N2.length c11, .slice a12 A2.length c13, .slice cGa cG.length cGc]) (by kernel_rfl) (by kernel_rfl) (by kernel_rfl) (by kernel_rfl) (by kernel_rfl)) (by kernel_rfl) rfl (by kernel_rfl) rfl ?_
    refine Sq.done ?_
    refine Ex'.next ?_
    refine Cd.ret ?_
    refine Ex'.ret Try.results76 (RVs.cellN (i := 0) (b := b4) (l := [iV cMost, iV cTarget, .slice a10 N2.length c11, .slice a12 A2.length c13, .slice cGa cG.length cGc]) (E := 61) [iV cMost, iV cTarget, .slice a10 N2.length c11, .slice a12 A2.length c13, .slice cGa cG.length cGc] 4 (by kernel_rfl) (by kernel_rfl) (by kernel_rfl) (by kernel_rfl) (RVs.nil)) (fun w hw => ?_)
    have e : r7Again cMost cTarget cN cA cG s = (N2, A2, cG) := by unfold r7Again; rw [← hz, dem7_stop (fun q => h14 q.1) _]
    rw [e]
    exact ⟨_, ⟨(.slice a10 N2.length c11, .slice a12 A2.length c13, .slice cGa cG.length cGc), trivial, rfl, rfl⟩, hw.pickB [0, 1, 2] (by kernel_rfl) (by kernel_rfl) (by kernel_rfl)⟩

def r7Remove (cMost : Int) (cTarget : Int) (cN : List K7) (cA : List K7) (cG : List K7) (s : ByteArray) : List K7 × List K7 × List K7 :=
  (rem7 cN s, rem7 cA s, rem7 cG s)

set_option maxHeartbeats 8000000 in
set_option maxRecDepth 100000 in
theorem t_Remove07 {cNa : Option Addr} {cNc : Nat} {cAa : Option Addr} {cAc : Nat} {cGa : Option Addr} {cGc : Nat} {cMost : Int} {cTarget : Int} {cN : List K7} {cA : List K7} {cG : List K7} {s : ByteArray} (hbd : cN.length + cA.length + cG.length ≤ 1000000) : Tri Try.prog 50 #[.agg #[iV cMost, iV cTarget, .slice cNa cN.length cNc, .slice cAa cA.length cAc, .slice cGa cG.length cGc], sV s] [vewR 3 (.slice cNa cN.length cNc) cN.length (cN.flatMap kq7), vewR 3 (.slice cAa cA.length cAc) cA.length (cA.flatMap kq7), vewR 3 (.slice cGa cG.length cGc) cG.length (cG.flatMap kq7)] (PostE (ι := Value × Value × Value) (fun _ => True) (fun v => .agg #[iV cMost, iV cTarget, v.1, v.2.1, v.2.2]) fun v => [vewR 3 v.1 (((r7Remove cMost cTarget cN cA cG s).1).length) (((r7Remove cMost cTarget cN cA cG s).1).flatMap kq7), vewR 3 v.2.1 (((r7Remove cMost cTarget cN cA cG s).2.1).length) (((r7Remove cMost cTarget cN cA cG s).2.1).flatMap kq7), vewR 3 v.2.2 (((r7Remove cMost cTarget cN cA cG s).2.2).length) (((r7Remove cMost cTarget cN cA cG s).2.2).flatMap kq7)]) := by
  refine Tri.enter (args := [.agg #[iV cMost, iV cTarget, .slice cNa cN.length cNc, .slice cAa cA.length cAc, .slice cGa cG.length cGc], sV s]) Try.func50 rfl rfl rfl (fun B wz => ?_)
  refine Cd.fact (i := 0) rfl vew_cap ?_; intro hcap0
  refine Cd.fact (i := 1) rfl vew_cap ?_; intro hcap1
  refine Cd.fact (i := 2) rfl vew_cap ?_; intro hcap2
  refine Cd.seq ?_
  refine Cd.region rfl ?_
  refine Sq.ex [] (l := []) (o_newBox (v := .agg #[iV cMost, iV cTarget, .slice cNa cN.length cNc, .slice cAa cA.length cAc, .slice cGa cG.length cGc]) [iV cMost, iV cTarget, .slice cNa cN.length cNc, .slice cAa cA.length cAc, .slice cGa cG.length cGc] (by kernel_rfl) rfl) (by kernel_rfl) rfl (by kernel_rfl) (fun _ => Nat.zero_le _) ?_; intro b3 _
  refine Sq.ex [] (l := []) (o_new [iV 0, iV 0, .slice none 0 0, .slice none 0 0, .slice none 0 0] (fun w => by kernel_rfl)) (by kernel_rfl) rfl (by kernel_rfl) (fun _ => Nat.zero_le _) ?_; intro b4 _
  refine Sq.done ?_
  refine Ex'.next ?_
  refine Cd.seq ?_
  refine Cd.region rfl ?_
  refine Sq.vals [0] (rest := [1, 2, 3, 4, 5]) [pV b3 2] (fun w => by kernel_rfl) ?_
  refine Sq.same [3] (l := [blkR b3 [iV cMost, iV cTarget, .slice cNa cN.length cNc, .slice cAa cA.length cAc, .slice cGa cG.length cGc] 61]) (o_load (i := 2) (v := .slice cNa cN.length cNc) (by kernel_rfl) (by kernel_rfl) (by kernel_rfl)) (by kernel_rfl) rfl (by kernel_rfl) rfl ?_
  refine Sq.vals [2] (rest := [3, 4, 5]) [sV s] (fun w => by kernel_rfl) ?_
  refine Sq.ex [0] (l := [vewR 3 (.slice cNa cN.length cNc) cN.length (cN.flatMap kq7)]) (o_call (by kernel_rfl) Try.call75 (t_without07 (l := cN) (la := cNa) (lc := cNc) (s := s) (by omega))) (by kernel_rfl) rfl (by kernel_rfl) (fun _ => Nat.le_of_ble_eq_true (by kernel_rfl)) ?_; rintro v6 _
  have q5 := rem7_le cN s
  refine Sq.fact (i := 5) (R := vewR 3 v6 ((rem7 cN s).length) ((rem7 cN s).flatMap kq7)) (by kernel_rfl) vew_slice ?_; rintro ⟨a7, c8, rfl, hc8, hc8'⟩
  have hc8'' : c8 ≤ 9223372036854775807 := hc8'
  refine Sq.vals [4] (rest := [5]) [pV b3 2] (fun w => by kernel_rfl) ?_
  refine Sq.same [3] (l := [blkR b3 [iV cMost, iV cTarget, .slice cNa cN.length cNc, .slice cAa cA.length cAc, .slice cGa cG.length cGc] 61]) (o_store (i := 2) (v := .slice a7 ((rem7 cN s).length) c8) (by kernel_rfl) (by kernel_rfl) (by kernel_rfl) (by kernel_rfl) (by kernel_rfl)) (by kernel_rfl) rfl (by kernel_rfl) rfl ?_
  refine Sq.done ?_
  refine Ex'.next ?_
  refine Cd.seq ?_
  refine Cd.region rfl ?_
  refine Sq.vals [0] (rest := [1, 2, 3, 4, 5]) [pV b3 3] (fun w => by kernel_rfl) ?_
  refine Sq.same [3] (l := [blkR b3 [iV cMost, iV cTarget, .slice a7 ((rem7 cN s).length) c8, .slice cAa cA.length cAc, .slice cGa cG.length cGc] 61]) (o_load (i := 3) (v := .slice cAa cA.length cAc) (by kernel_rfl) (by kernel_rfl) (by kernel_rfl)) (by kernel_rfl) rfl (by kernel_rfl) rfl ?_
  refine Sq.vals [2] (rest := [3, 4, 5]) [sV s] (fun w => by kernel_rfl) ?_
  refine Sq.ex [1] (l := [vewR 3 (.slice cAa cA.length cAc) cA.length (cA.flatMap kq7)]) (o_call (by kernel_rfl) Try.call75 (t_without07 (l := cA) (la := cAa) (lc := cAc) (s := s) (by omega))) (by kernel_rfl) rfl (by kernel_rfl) (fun _ => Nat.le_of_ble_eq_true (by kernel_rfl)) ?_; rintro v10 _
  have q9 := rem7_le cA s
  refine Sq.fact (i := 6) (R := vewR 3 v10 ((rem7 cA s).length) ((rem7 cA s).flatMap kq7)) (by kernel_rfl) vew_slice ?_; rintro ⟨a11, c12, rfl, hc12, hc12'⟩
  have hc12'' : c12 ≤ 9223372036854775807 := hc12'
  refine Sq.vals [4] (rest := [5]) [pV b3 3] (fun w => by kernel_rfl) ?_
  refine Sq.same [3] (l := [blkR b3 [iV cMost, iV cTarget, .slice a7 ((rem7 cN s).length) c8, .slice cAa cA.length cAc, .slice cGa cG.length cGc] 61]) (o_store (i := 3) (v := .slice a11 ((rem7 cA s).length) c12) (by kernel_rfl) (by kernel_rfl) (by kernel_rfl) (by kernel_rfl) (by kernel_rfl)) (by kernel_rfl) rfl (by kernel_rfl) rfl ?_
  refine Sq.done ?_
  refine Ex'.next ?_
  refine Cd.seq ?_
  refine Cd.region rfl ?_
  refine Sq.vals [0] (rest := [1, 2, 3, 4, 5]) [pV b3 4] (fun w => by kernel_rfl) ?_
  refine Sq.same [3] (l := [blkR b3 [iV cMost, iV cTarget, .slice a7 ((rem7 cN s).length) c8, .slice a11 ((rem7 cA s).length) c12, .slice cGa cG.length cGc] 61]) (o_load (i := 4) (v := .slice cGa cG.length cGc) (by kernel_rfl) (by kernel_rfl) (by kernel_rfl)) (by kernel_rfl) rfl (by kernel_rfl) rfl ?_
  refine Sq.vals [2] (rest := [3, 4, 5]) [sV s] (fun w => by kernel_rfl) ?_
  refine Sq.ex [2] (l := [vewR 3 (.slice cGa cG.length cGc) cG.length (cG.flatMap kq7)]) (o_call (by kernel_rfl) Try.call75 (t_without07 (l := cG) (la := cGa) (lc := cGc) (s := s) (by omega))) (by kernel_rfl) rfl (by kernel_rfl) (fun _ => Nat.le_of_ble_eq_true (by kernel_rfl)) ?_; rintro v14 _
  have q13 := rem7_le cG s
  refine Sq.fact (i := 7) (R := vewR 3 v14 ((rem7 cG s).length) ((rem7 cG s).flatMap kq7)) (by kernel_rfl) vew_slice ?_; rintro ⟨a15, c16, rfl, hc16, hc16'⟩
  have hc16'' : c16 ≤ 9223372036854775807 := hc16'
  refine Sq.vals [4] (rest := [5]) [pV b3 4] (fun w => by kernel_rfl) ?_
  refine Sq.same [3] (l := [blkR b3 [iV cMost, iV cTarget, .slice a7 ((rem7 cN s).length) c8, .slice a11 ((rem7 cA s).length) c12, .slice cGa cG.length cGc] 61]) (o_store (i := 4) (v := .slice a15 ((rem7 cG s).length) c16) (by kernel_rfl) (by kernel_rfl) (by kernel_rfl) (by kernel_rfl) (by kernel_rfl)) (by kernel_rfl) rfl (by kernel_rfl) rfl ?_
  refine Sq.done ?_
  refine Ex'.next ?_
  refine Cd.seq ?_
  refine Cd.region rfl ?_
  refine Sq.same [3] (l := [blkR b3 [iV cMost, iV cTarget, .slice a7 ((rem7 cN s).length) c8, .slice a11 ((rem7 cA s).length) c12, .slice a15 ((rem7 cG s).length) c16] 61]) (o_loadN (i := 0) [iV cMost, iV cTarget, .slice a7 ((rem7 cN s).length) c8, .slice a11 ((rem7 cA s).length) c12, .slice a15 ((rem7 cG s).length) c16] (by kernel_rfl) (by kernel_rfl) (by kernel_rfl)) (by kernel_rfl) rfl (by kernel_rfl) rfl ?_
  refine Sq.same [4] (l := [blkR b4 [iV 0, iV 0, .slice none 0 0, .slice none 0 0, .slice none 0 0] 61]) (o_store (i := 0) (v := .agg #[iV cMost, iV cTarget, .slice a7 ((rem7 cN s).length) c8, .slice a11 ((rem7 cA s).length) c12, .slice a15 ((rem7 cG s).length) c16]) (by kernel_rfl) (by kernel_rfl) (by kernel_rfl) (by kernel_rfl) (by kernel_rfl)) (by kernel_rfl) rfl (by kernel_rfl) rfl ?_
  refine Sq.done ?_
  refine Ex'.next ?_
  refine Cd.ret ?_
  refine Ex'.ret Try.results50 (RVs.cellN (i := 0) (b := b4) (l := [iV cMost, iV cTarget, .slice a7 ((rem7 cN s).length) c8, .slice a11 ((rem7 cA s).length) c12, .slice a15 ((rem7 cG s).length) c16]) (E := 61) [iV cMost, iV cTarget, .slice a7 ((rem7 cN s).length) c8, .slice a11 ((rem7 cA s).length) c12, .slice a15 ((rem7 cG s).length) c16] 4 (by kernel_rfl) (by kernel_rfl) (by kernel_rfl) (by kernel_rfl) (RVs.nil)) (fun w hw => ?_)
  have e : r7Remove cMost cTarget cN cA cG s = (rem7 cN s, rem7 cA s, rem7 cG s) := by unfold r7Remove; rfl
  rw [e]
  exact ⟨_, ⟨(.slice a7 ((rem7 cN s).length) c8, .slice a11 ((rem7 cA s).length) c12, .slice a15 ((rem7 cG s).length) c16), trivial, rfl, rfl⟩, hw.pickB [5, 6, 7] (by kernel_rfl) (by kernel_rfl) (by kernel_rfl)⟩

def r7Adopt (cMost : Int) (cTarget : Int) (cN : List K7) (cA : List K7) (cG : List K7) (s : ByteArray) : List K7 × List K7 × List K7 × Bool :=
  if r7Has cMost cTarget cN cA cG s = true then (cN, cA, cG, false) else if ((cN.length + cA.length : Nat) : Int) ≥ cMost then (cN, cA, cG, false) else (front7 cN s false false, cA, rem7 cG s, true)

set_option maxHeartbeats 8000000 in
set_option maxRecDepth 100000 in
theorem t_Adopt07 {cNa : Option Addr} {cNc : Nat} {cAa : Option Addr} {cAc : Nat} {cGa : Option Addr} {cGc : Nat} {cMost : Int} {cTarget : Int} {cN : List K7} {cA : List K7} {cG : List K7} {s : ByteArray} (hbd : cN.length + cA.length + cG.length ≤ 1000000) : Tri Try.prog 51 #[.agg #[iV cMost, iV cTarget, .slice cNa cN.length cNc, .slice cAa cA.length cAc, .slice cGa cG.length cGc], sV s] [vewR 3 (.slice cNa cN.length cNc) cN.length (cN.flatMap kq7), vewR 3 (.slice cAa cA.length cAc) cA.length (cA.flatMap kq7), vewR 3 (.slice cGa cG.length cGc) cG.length (cG.flatMap kq7)] (PostE (ι := Value × Value × Value) (fun _ => True) (fun v => .tuple #[.agg #[iV cMost, iV cTarget, v.1, v.2.1, v.2.2], bV ((r7Adopt cMost cTarget cN cA cG s).2.2.2)]) fun v => [vewR 3 v.1 (((r7Adopt cMost cTarget cN cA cG s).1).length) (((r7Adopt cMost cTarget cN cA cG s).1).flatMap kq7), vewR 3 v.2.1 (((r7Adopt cMost cTarget cN cA cG s).2.1).length) (((r7Adopt cMost cTarget cN cA cG s).2.1).flatMap kq7), vewR 3 v.2.2 (((r7Adopt cMost cTarget cN cA cG s).2.2.1).length) (((r7Adopt cMost cTarget cN cA cG s).2.2.1).flatMap kq7)]) := by
  refine Tri.enter (args := [.agg #[iV cMost, iV cTarget, .slice cNa cN.length cNc, .slice cAa cA.length cAc, .slice cGa cG.length cGc], sV s]) Try.func51 rfl rfl rfl (fun B wz => ?_)
  refine Cd.fact (i := 0) rfl vew_cap ?_; intro hcap0
  refine Cd.fact (i := 1) rfl vew_cap ?_; intro hcap1
  refine Cd.fact (i := 2) rfl vew_cap ?_; intro hcap2
  refine Cd.seq ?_
  refine Cd.region rfl ?_
  refine Sq.ex [] (l := []) (o_newBox (v := .agg #[iV cMost, iV cTarget, .slice cNa cN.length cNc, .slice cAa cA.length cAc, .slice cGa cG.length cGc]) [iV cMost, iV cTarget, .slice cNa cN.length cNc, .slice cAa cA.length cAc, .slice cGa cG.length cGc] (by kernel_rfl) rfl) (by kernel_rfl) rfl (by kernel_rfl) (fun _ => Nat.zero_le _) ?_; intro b3 _
  refine Sq.ex [] (l := []) (o_new [iV 0, iV 0, .slice none 0 0, .slice none 0 0, .slice none 0 0] (fun w => by kernel_rfl)) (by kernel_rfl) rfl (by kernel_rfl) (fun _ => Nat.zero_le _) ?_; intro b4 _
  refine Sq.vals [2] (rest := []) [bV false] (fun w => by kernel_rfl) ?_
  refine Sq.done ?_
  refine Ex'.next ?_
  refine Cd.seq ?_
  refine Cd.seq ?_
  refine Cd.region rfl ?_
  refine Sq.same [3] (l := [blkR b3 [iV cMost, iV cTarget, .slice cNa cN.length cNc, .slice cAa cA.length cAc, .slice cGa cG.length cGc] 61]) (o_loadN (i := 0) [iV cMost, iV cTarget, .slice cNa cN.length cNc, .slice cAa cA.length cAc, .slice cGa cG.length cGc] (by kernel_rfl) (by kernel_rfl) (by kernel_rfl)) (by kernel_rfl) rfl (by kernel_rfl) rfl ?_
  refine Sq.vals [1] (rest := [2, 3, 4, 5, 6, 7, 8, 9, 10, 11, 12, 13, 14]) [sV s] (fun w => by kernel_rfl) ?_
  refine Sq.same [0, 1, 2] (l := [vewR 3 (.slice cNa cN.length cNc) cN.length (cN.flatMap kq7), vewR 3 (.slice cAa cA.length cAc) cA.length (cA.flatMap kq7), vewR 3 (.slice cGa cG.length cGc) cG.length (cG.flatMap kq7)]) (o_call (by kernel_rfl) Try.call49 (t_Has07 (cMost := cMost) (cTarget := cTarget) (cN := cN) (cNa := cNa) (cNc := cNc) (cA := cA) (cAa := cAa) (cAc := cAc) (cG := cG) (cGa := cGa) (cGc := cGc) (s := s) (by omega))) (by kernel_rfl) rfl (by kernel_rfl) rfl ?_
  refine Sq.vals [3] (rest := [4, 5, 6, 7, 8, 9, 10, 11, 12, 13, 14]) [bV (r7Has cMost cTarget cN cA cG s)] (fun w => by kernel_rfl) ?_
  refine Sq.caseB 9 (t := r7Has cMost cTarget cN cA cG s) rfl (fun h5 => ?_) (fun h5 => ?_)
  ·
    refine Sq.vals [4, 5, 6, 7, 8, 9, 10, 11, 12, 13, 14] (rest := []) [undef, undef, undef, undef, undef, undef, undef, undef, undef, undef, bV true] (fun w => by kernel_rfl) ?_
    refine Sq.done ?_
    refine Ex'.next ?_
    refine Cd.condT (by kernel_rfl) ?_
    refine Cd.seq ?_
    refine Cd.region rfl ?_
    refine Sq.same [3] (l := [blkR b3 [iV cMost, iV cTarget, .slice cNa cN.length cNc, .slice cAa cA.length cAc, .slice cGa cG.length cGc] 61]) (o_loadN (i := 0) [iV cMost, iV cTarget, .slice cNa cN.length cNc, .slice cAa cA.length cAc, .slice cGa cG.length cGc] (by kernel_rfl) (by kernel_rfl) (by kernel_rfl)) (by kernel_rfl) rfl (by kernel_rfl) rfl ?_
    refine Sq.same [4] (l := [blkR b4 [iV 0, iV 0, .slice none 0 0, .slice none 0 0, .slice none 0 0] 61]) (o_store (i := 0) (v := .agg #[iV cMost, iV cTarget, .slice cNa cN.length cNc, .slice cAa cA.length cAc, .slice cGa cG.length cGc]) (by kernel_rfl) (by kernel_rfl) (by kernel_rfl) (by kernel_rfl) (by kernel_rfl)) (by kernel_rfl) rfl (by kernel_rfl) rfl ?_
    refine Sq.vals [2] (rest := []) [bV false] (fun w => by kernel_rfl) ?_
    refine Sq.done ?_
    refine Ex'.next ?_
    refine Cd.ret ?_
    refine Ex'.thenRet ?_
    refine Ex'.ret Try.results51 (RVs.cellN (i := 0) (b := b4) (l := [iV cMost, iV cTarget, .slice cNa cN.length cNc, .slice cAa cA.length cAc, .slice cGa cG.length cGc]) (E := 61) [iV cMost, iV cTarget, .slice cNa cN.length cNc, .slice cAa cA.length cAc, .slice cGa cG.length cGc] 4 (by kernel_rfl) (by kernel_rfl) (by kernel_rfl) (by kernel_rfl) (RVs.tmp (v := bV false) (by kernel_rfl) (RVs.nil))) (fun w hw => ?_)
    have e : r7Adopt cMost cTarget cN cA cG s = (cN, cA, cG, false) := by unfold r7Adopt; rw [if_pos h5]
    rw [e]
    exact ⟨_, ⟨(.slice cNa cN.length cNc, .slice cAa cA.length cAc, .slice cGa cG.length cGc), trivial, rfl, rfl⟩, hw.pickB [0, 1, 2] (by kernel_rfl) (by kernel_rfl) (by kernel_rfl)⟩
  ·
    refine Sq.vals [4] (rest := [5, 6, 7, 8, 9, 10, 11, 12, 13, 14]) [pV b3 2] (fun w => by kernel_rfl) ?_
    refine Sq.same [3] (l := [blkR b3 [iV cMost, iV cTarget, .slice cNa cN.length cNc, .slice cAa cA.length cAc, .slice cGa cG.length cGc] 61]) (o_load (i := 2) (v := .slice cNa cN.length cNc) (by kernel_rfl) (by kernel_rfl) (by kernel_rfl)) (by kernel_rfl) rfl (by kernel_rfl) rfl ?_
    refine Sq.vals [6, 7] (rest := [8, 9, 10, 11, 12, 13, 14]) [iV (cN.length : Int), pV b3 3] (fun w => by kernel_rfl) ?_
    refine Sq.same [3] (l := [blkR b3 [iV cMost, iV cTarget, .slice cNa cN.length cNc, .slice cAa cA.length cAc, .slice cGa cG.length cGc] 61]) (o_load (i := 3) (v := .slice cAa cA.length cAc) (by kernel_rfl) (by kernel_rfl) (by kernel_rfl)) (by kernel_rfl) rfl (by kernel_rfl) rfl ?_
    refine Sq.vals [9] (rest := [10, 11, 12, 13, 14]) [iV (cA.length : Int)] (fun w => by kernel_rfl) ?_
    refine Sq.v (r := iV ((cN.length + cA.length : Nat) : Int)) (o_add (k := .i64) (a := (cN.length : Int)) (b := (cA.length : Int)) (c := ((cN.length + cA.length : Nat) : Int)) (by kernel_rfl) (by kernel_rfl) (w64 (by omega) (by omega))) rfl (by kernel_rfl) ?_
    refine Sq.vals [11] (rest := [12, 13, 14]) [pV b3 0] (fun w => by kernel_rfl) ?_
    refine Sq.same [3] (l := [blkR b3 [iV cMost, iV cTarget, .slice cNa cN.length cNc, .slice cAa cA.length cAc, .slice cGa cG.length cGc] 61]) (o_load (i := 0) (v := iV cMost) (by kernel_rfl) (by kernel_rfl) (by kernel_rfl)) (by kernel_rfl) rfl (by kernel_rfl) rfl ?_
    refine Sq.vals [13, 14] (rest := []) [bV (decide (((cN.length + cA.length : Nat) : Int) ≥ cMost)), bV (decide (((cN.length + cA.length : Nat) : Int) ≥ cMost))] (fun w => by kernel_rfl) ?_
    refine Sq.done ?_
    refine Ex'.next ?_
    refine Cd.case (p := ((cN.length + cA.length : Nat) : Int) ≥ cMost) (by kernel_rfl) (fun h6 => ?_) (fun h6 => ?_)
    ·
      refine Cd.seq ?_
      refine Cd.region rfl ?_
      refine Sq.same [3] (l := [blkR b3 [iV cMost, iV cTarget, .slice cNa cN.length cNc, .slice cAa cA.length cAc, .slice cGa cG.length cGc] 61]) (o_loadN (i := 0) [iV cMost, iV cTarget, .slice cNa cN.length cNc, .slice cAa cA.length cAc, .slice cGa cG.length cGc] (by kernel_rfl) (by kernel_rfl) (by kernel_rfl)) (by kernel_rfl) rfl (by kernel_rfl) rfl ?_
      refine Sq.same [4] (l := [blkR b4 [iV 0, iV 0, .slice none 0 0, .slice none 0 0, .slice none 0 0] 61]) (o_store (i := 0) (v := .agg #[iV cMost, iV cTarget, .slice cNa cN.length cNc, .slice cAa cA.length cAc, .slice cGa cG.length cGc]) (by kernel_rfl) (by kernel_rfl) (by kernel_rfl) (by kernel_rfl) (by kernel_rfl)) (by kernel_rfl) rfl (by kernel_rfl) rfl ?_
      refine Sq.vals [2] (rest := []) [bV false] (fun w => by kernel_rfl) ?_
      refine Sq.done ?_
      refine Ex'.next ?_
      refine Cd.ret ?_
      refine Ex'.thenRet ?_
      refine Ex'.ret Try.results51 (RVs.cellN (i := 0) (b := b4) (l := [iV cMost, iV cTarget, .slice cNa cN.length cNc, .slice cAa cA.length cAc, .slice cGa cG.length cGc]) (E := 61) [iV cMost, iV cTarget, .slice cNa cN.length cNc, .slice cAa cA.length cAc, .slice cGa cG.length cGc] 4 (by kernel_rfl) (by kernel_rfl) (by kernel_rfl) (by kernel_rfl) (RVs.tmp (v := bV false) (by kernel_rfl) (RVs.nil))) (fun w hw => ?_)
      have e : r7Adopt cMost cTarget cN cA cG s = (cN, cA, cG, false) := by unfold r7Adopt; rw [if_neg (Bool.eq_false_iff.1 h5), if_pos h6]
      rw [e]
      exact ⟨_, ⟨(.slice cNa cN.length cNc, .slice cAa cA.length cAc, .slice cGa cG.length cGc), trivial, rfl, rfl⟩, hw.pickB [0, 1, 2] (by kernel_rfl) (by kernel_rfl) (by kernel_rfl)⟩
    ·
      refine Cd.skip ?_
      refine Ex'.next ?_
      refine Cd.seq ?_
      refine Cd.region rfl ?_
      refine Sq.vals [0] (rest := [1, 2, 3, 4, 5]) [pV b3 4] (fun w => by kernel_rfl) ?_
      refine Sq.same [3] (l := [blkR b3 [iV cMost, iV cTarget, .slice cNa cN.length cNc, .slice cAa cA.length cAc, .slice cGa cG.length cGc] 61]) (o_load (i := 4) (v := .slice cGa cG.length cGc) (by kernel_rfl) (by kernel_rfl) (by kernel_rfl)) (by kernel_rfl) rfl (by kernel_rfl) rfl ?_
      refine Sq.vals [2] (rest := [3, 4, 5]) [sV s] (fun w => by kernel_rfl) ?_
      refine Sq.ex [2] (l := [vewR 3 (.slice cGa cG.length cGc) cG.length (cG.flatMap kq7)]) (o_call (by kernel_rfl) Try.call75 (t_without07 (l := cG) (la := cGa) (lc := cGc) (s := s) (by omega))) (by kernel_rfl) rfl (by kernel_rfl) (fun _ => Nat.le_of_ble_eq_true (by kernel_rfl)) ?_; rintro v8 _
      have q7 := rem7_le cG s
      refine Sq.fact (i := 5) (R := vewR 3 v8 ((rem7 cG s).length) ((rem7 cG s).flatMap kq7)) (by kernel_rfl) vew_slice ?_; rintro ⟨a9, c10, rfl, hc10, hc10'⟩
      have hc10'' : c10 ≤ 9223372036854775807 := hc10'
      refine Sq.vals [4] (rest := [5]) [pV b3 4] (fun w => by kernel_rfl) ?_
      refine Sq.same [3] (l := [blkR b3 [iV cMost, iV cTarget, .slice cNa cN.length cNc, .slice cAa cA.length cAc, .slice cGa cG.length cGc] 61]) (o_store (i := 4) (v := .slice a9 ((rem7 cG s).length) c10) (by kernel_rfl) (by kernel_rfl) (by kernel_rfl) (by kernel_rfl) (by kernel_rfl)) (by kernel_rfl) rfl (by kernel_rfl) rfl ?_
      refine Sq.done ?_
      refine Ex'.next ?_
      refine Cd.seq ?_
      refine Cd.region rfl ?_
      refine Sq.vals [0] (rest := [1, 2, 3, 4, 5, 6]) [pV b3 2] (fun w => by kernel_rfl) ?_
      refine Sq.same [3] (l := [blkR b3 [iV cMost, iV cTarget, .slice cNa cN.length cNc, .slice cAa cA.length cAc, .slice a9 ((rem7 cG s).length) c10] 61]) (o_load (i := 2) (v := .slice cNa cN.length cNc) (by kernel_rfl) (by kernel_rfl) (by kernel_rfl)) (by kernel_rfl) rfl (by kernel_rfl) rfl ?_
      refine Sq.vals [2, 3] (rest := [4, 5, 6]) [sV s, .agg #[sV s, bV false, bV false]] (fun w => by kernel_rfl) ?_
      refine Sq.ex [0] (l := [vewR 3 (.slice cNa cN.length cNc) cN.length (cN.flatMap kq7)]) (o_call (by kernel_rfl) Try.call74 (t_front07 (l := cN) (la := cNa) (lc := cNc) (kS := s) (kOld := false) (kDemoted := false) (by omega))) (by kernel_rfl) rfl (by kernel_rfl) (fun _ => Nat.le_of_ble_eq_true (by kernel_rfl)) ?_; rintro v12 _
      have q11 : ((front7 cN s false false)).length = cN.length + 1 := by unfold front7; simp [Nat.add_comm]
      refine Sq.fact (i := 6) (R := vewR 3 v12 ((front7 cN s false false).length) ((front7 cN s false false).flatMap kq7)) (by kernel_rfl) vew_slice ?_; rintro ⟨a13, c14, rfl, hc14, hc14'⟩
      have hc14'' : c14 ≤ 9223372036854775807 := hc14'
      refine Sq.vals [5] (rest := [6]) [pV b3 2] (fun w => by kernel_rfl) ?_
      refine Sq.same [3] (l := [blkR b3 [iV cMost, iV cTarget, .slice cNa cN.length cNc, .slice cAa cA.length cAc, .slice a9 ((rem7 cG s).length) c10] 61]) (o_store (i := 2) (v := .slice a13 ((front7 cN s false false).length) c14) (by kernel_rfl) (by kernel_rfl) (by kernel_rfl) (by kernel_rfl) (by kernel_rfl)) (by kernel_rfl) rfl (by kernel_rfl) rfl ?_
      refine Sq.done ?_
      refine Ex'.next ?_
      refine Cd.seq ?_
      refine Cd.region rfl ?_
      refine Sq.same [3] (l := [blkR b3 [iV cMost, iV cTarget, .slice a13 ((front7 cN s false false).length) c14, .slice cAa cA.length cAc, .slice a9 ((rem7 cG s).length) c10] 61]) (o_loadN (i := 0) [iV cMost, iV cTarget, .slice a13 ((front7 cN s false false).length) c14, .slice cAa cA.length cAc, .slice a9 ((rem7 cG s).length) c10] (by kernel_rfl) (by kernel_rfl) (by kernel_rfl)) (by kernel_rfl) rfl (by kernel_rfl) rfl ?_
      refine Sq.same [4] (l := [blkR b4 [iV 0, iV 0, .slice none 0 0, .slice none 0 0, .slice none 0 0] 61]) (o_store (i := 0) (v := .agg #[iV cMost, iV cTarget, .slice a13 ((front7 cN s false false).length) c14, .slice cAa cA.length cAc, .slice a9 ((rem7 cG s).length) c10]) (by kernel_rfl) (by kernel_rfl) (by kernel_rfl) (by kernel_rfl) (by kernel_rfl)) (by kernel_rfl) rfl (by kernel_rfl) rfl ?_
      refine Sq.vals [2] (rest := []) [bV true] (fun w => by kernel_rfl) ?_
      refine Sq.done ?_
      refine Ex'.next ?_
      refine Cd.ret ?_
      refine Ex'.ret Try.results51 (RVs.cellN (i := 0) (b := b4) (l := [iV cMost, iV cTarget, .slice a13 ((front7 cN s false false).length) c14, .slice cAa cA.length cAc, .slice a9 ((rem7 cG s).length) c10]) (E := 61) [iV cMost, iV cTarget, .slice a13 ((front7 cN s false false).length) c14, .slice cAa cA.length cAc, .slice a9 ((rem7 cG s).length) c10] 4 (by kernel_rfl) (by kernel_rfl) (by kernel_rfl) (by kernel_rfl) (RVs.tmp (v := bV true) (by kernel_rfl) (RVs.nil))) (fun w hw => ?_)
      have e : r7Adopt cMost cTarget cN cA cG s = (front7 cN s false false, cA, rem7 cG s, true) := by unfold r7Adopt; rw [if_neg (Bool.eq_false_iff.1 h5), if_neg h6]
      rw [e]
      exact ⟨_, ⟨(.slice a13 ((front7 cN s false false).length) c14, .slice cAa cA.length cAc, .slice a9 ((rem7 cG s).length) c10), trivial, rfl, rfl⟩, hw.pickB [6, 1, 5] (by kernel_rfl) (by kernel_rfl) (by kernel_rfl)⟩

def r7Request (cMost : Int) (cTarget : Int) (cN : List K7) (cA : List K7) (cG : List K7) (s : ByteArray) : Int × List K7 × List K7 × List K7 × Bool × ByteArray × Bool :=
  if cMost = 0 then (cTarget, cN, cA, cG, r7Has cMost cTarget cN cA cG s, ⟨#[]⟩, false) else if (lk cA s).isSome = true then (cTarget, cN, front7 (rem7 cA s) s (((lk cA s).getD (false, false)).1) (((lk cA s).getD (false, false)).2), cG, r7Has cMost cTarget cN cA cG s, ⟨#[]⟩, false) else if (lk cN s).isSome = true then if ((lk cN s).getD (false, false)).2 = true then if cTarget < cMost then (cTarget + 1, (r7Again cMost (cTarget + 1) (rem7 cN s) cA cG s).1, (r7Again cMost (cTarget + 1) (rem7 cN s) cA cG s).2.1, (r7Again cMost (cTarget + 1) (rem7 cN s) cA cG s).2.2, r7Has cMost cTarget cN cA cG s, ⟨#[]⟩, false) else (cTarget, (r7Again cMost cTarget (rem7 cN s) cA cG s).1, (r7Again cMost cTarget (rem7 cN s) cA cG s).2.1, (r7Again cMost cTarget (rem7 cN s) cA cG s).2.2, r7Has cMost cTarget cN cA cG s, ⟨#[]⟩, false) else (cTarget, (r7Again cMost cTarget (rem7 cN s) cA cG s).1, (r7Again cMost cTarget (rem7 cN s) cA cG s).2.1, (r7Again cMost cTarget (rem7 cN s) cA cG s).2.2, r7Has cMost cTarget cN cA cG s, ⟨#[]⟩, false) else if (lk cG s).isSome = true then if (!(((lk cG s).getD (false, false)).1)) = true then if cTarget > 1 then if ((cN.length + cA.length : Nat) : Int) ≥ cMost then (cTarget - 1, (r7Again cMost (cTarget - 1) ((r7Evict cMost (cTarget - 1) cN cA (rem7 cG s)).1) ((r7Evict cMost (cTarget - 1) cN cA (rem7 cG s)).2.1) ((r7Evict cMost (cTarget - 1) cN cA (rem7 cG s)).2.2.1) s).1, (r7Again cMost (cTarget - 1) ((r7Evict cMost (cTarget - 1) cN cA (rem7 cG s)).1) ((r7Evict cMost (cTarget - 1) cN cA (rem7 cG s)).2.1) ((r7Evict cMost (cTarget - 1) cN cA (rem7 cG s)).2.2.1) s).2.1, (r7Again cMost (cTarget - 1) ((r7Evict cMost (cTarget - 1) cN cA (rem7 cG s)).1) ((r7Evict cMost (cTarget - 1) cN cA (rem7 cG s)).2.1) ((r7Evict cMost (cTarget - 1) cN cA (rem7 cG s)).2.2.1) s).2.2, r7Has cMost cTarget cN cA cG s, (r7Evict cMost (cTarget - 1) cN cA (rem7 cG s)).2.2.2, true) else (cTarget - 1, (r7Again cMost (cTarget - 1) cN cA (rem7 cG s) s).1, (r7Again cMost (cTarget - 1) cN cA (rem7 cG s) s).2.1, (r7Again cMost (cTarget - 1) cN cA (rem7 cG s) s).2.2, r7Has cMost cTarget cN cA cG s, ⟨#[]⟩, false) else if ((cN.length + cA.length : Nat) : Int) ≥ cMost then (cTarget, (r7Again cMost cTarget ((r7Evict cMost cTarget cN cA (rem7 cG s)).1) ((r7Evict cMost cTarget cN cA (rem7 cG s)).2.1) ((r7Evict cMost cTarget cN cA (rem7 cG s)).2.2.1) s).1, (r7Again cMost cTarget ((r7Evict cMost cTarget cN cA (rem7 cG s)).1) ((r7Evict cMost cTarget cN cA (rem7 cG s)).2.1) ((r7Evict cMost cTarget cN cA (rem7 cG s)).2.2.1) s).2.1, (r7Again cMost cTarget ((r7Evict cMost cTarget cN cA (rem7 cG s)).1) ((r7Evict cMost cTarget cN cA (rem7 cG s)).2.1) ((r7Evict cMost cTarget cN cA (rem7 cG s)).2.2.1) s).2.2, r7Has cMost cTarget cN cA cG s, (r7Evict cMost cTarget cN cA (rem7 cG s)).2.2.2, true) else (cTarget, (r7Again cMost cTarget cN cA (rem7 cG s) s).1, (r7Again cMost cTarget cN cA (rem7 cG s) s).2.1, (r7Again cMost cTarget cN cA (rem7 cG s) s).2.2, r7Has cMost cTarget cN cA cG s, ⟨#[]⟩, false) else if ((cN.length + cA.length : Nat) : Int) ≥ cMost then (cTarget, (r7Again cMost cTarget ((r7Evict cMost cTarget cN cA (rem7 cG s)).1) ((r7Evict cMost cTarget cN cA (rem7 cG s)).2.1) ((r7Evict cMost cTarget cN cA (rem7 cG s)).2.2.1) s).1, (r7Again cMost cTarget ((r7Evict cMost cTarget cN cA (rem7 cG s)).1) ((r7Evict cMost cTarget cN cA (rem7 cG s)).2.1) ((r7Evict cMost cTarget cN cA (rem7 cG s)).2.2.1) s).2.1, (r7Again cMost cTarget ((r7Evict cMost cTarget cN cA (rem7 cG s)).1) ((r7Evict cMost cTarget cN cA (rem7 cG s)).2.1) ((r7Evict cMost cTarget cN cA (rem7 cG s)).2.2.1) s).2.2, r7Has cMost cTarget cN cA cG s, (r7Evict cMost cTarget cN cA (rem7 cG s)).2.2.2, true) else (cTarget, (r7Again cMost cTarget cN cA (rem7 cG s) s).1, (r7Again cMost cTarget cN cA (rem7 cG s) s).2.1, (r7Again cMost cTarget cN cA (rem7 cG s) s).2.2, r7Has cMost cTarget cN cA cG s, ⟨#[]⟩, false) else if ((cN.length + cA.length : Nat) : Int) ≥ cMost then (cTarget, front7 ((r7Evict cMost cTarget cN cA (rem7 cG s)).1) s false false, (r7Evict cMost cTarget cN cA (rem7 cG s)).2.1, (r7Evict cMost cTarget cN cA (rem7 cG s)).2.2.1, r7Has cMost cTarget cN cA cG s, (r7Evict cMost cTarget cN cA (rem7 cG s)).2.2.2, true) else (cTarget, front7 cN s false false, cA, rem7 cG s, r7Has cMost cTarget cN cA cG s, ⟨#[]⟩, false)

end Go.Proofs.Ytjijjfdkghcjkaa
