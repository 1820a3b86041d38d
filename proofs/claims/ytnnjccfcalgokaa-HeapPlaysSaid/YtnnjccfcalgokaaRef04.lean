/- cachewiseref04: its functions over rows that are read. -/
import Derived.Test.YtnnjccfcalgokaaSepV
import Derived.Test.YtnnjccfcalgokaaRefA
import Derived.Test.YtnnjccfcalgokaaHpX
import Derived.Test.YtnnjccfcalgokaaHeapPureC
set_option linter.unusedVariables false
namespace Go.Proofs.Ytnnjccfcalgokaa
open Go.RowKit Go.MapKept

abbrev kz3 : KR ByteArray := (⟨#[]⟩, 0, 0)
abbrev kr3 (x : KR ByteArray) : List Value := [sV x.1, iV x.2.1, iV x.2.2]
theorem sl_it04 : ElemT Try.prog 26 41 3 32 := elemT (z := .agg #[sV ⟨#[]⟩, iV 0, iV 0]) Try.underlying26 (by kernel_rfl) rfl
theorem find_hit {l : List (KR ByteArray)} {k : Nat} {key : ByteArray} (h : ∀ y ∈ l.take k, y.1 ≠ key) (hk : k < l.length) (e : (l.getD k kz3).1 = key) : lk l key = some (l.getD k kz3).2 := by
  have e1 : l = l.take k ++ l.getD k kz3 :: l.drop (k + 1) := by
    rw [getD_in hk, ← List.drop_eq_getElem_cons hk, List.take_append_drop]
  generalize hA : l.take k = A at h e1
  generalize l.getD k kz3 = y at e e1 ⊢
  generalize l.drop (k + 1) = B at e1
  subst e1; clear hA hk
  induction A with
  | nil => subst e; simp [lk]
  | cons x A ih => rw [List.cons_append, lk, if_neg (h x (List.mem_cons_self ..))]; exact ih (fun z hz => h z (List.mem_cons_of_mem _ hz))
theorem find_step {l : List (KR ByteArray)} {k : Nat} {key : ByteArray} (h : ∀ y ∈ l.take k, y.1 ≠ key) (hk : k < l.length) (e : ¬ (l.getD k kz3).1 = key) : ∀ y ∈ l.take (k + 1), y.1 ≠ key := by
  intro y hy
  rw [List.take_add_one, List.getElem?_eq_getElem hk] at hy
  rcases List.mem_append.1 hy with q | q
  · exact h y q
  · simp at q; subst q; rwa [getD_in hk] at e
theorem find_miss {l : List (KR ByteArray)} {k : Nat} {key : ByteArray} (h : ∀ y ∈ l.take k, y.1 ≠ key) (hk : ¬ k < l.length) : lk l key = none := by
  rw [List.take_of_length_le (by omega)] at h
  exact lk_none.2 fun q => by obtain ⟨y, hy, e⟩ := List.mem_map.1 q; exact h y hy e
theorem rem_step {l : List (KR ByteArray)} {k : Nat} {key : ByteArray} (hk : k < l.length) : hrem (l.take (k + 1)) key = if (l.getD k kz3).1 ≠ key then hrem (l.take k) key ++ [l.getD k kz3] else hrem (l.take k) key := by
  unfold hrem
  rw [List.take_add_one, List.getElem?_eq_getElem hk, List.filter_append, getD_in hk]
  by_cases e : l[k].1 = key <;> simp [e]
theorem hins_last_of {S : List (KR ByteArray)} {x : KR ByteArray} (h : ∀ y ∈ S, ¬ rlt x y) : hins S x = S ++ [x] := by
  induction S with
  | nil => rfl
  | cons y S ih => rw [hins, if_neg (h y (List.mem_cons_self ..)), ih fun z hz => h z (List.mem_cons_of_mem _ hz)]; rfl
theorem hins_app {A B : List (KR ByteArray)} {x : KR ByteArray} (h : ∀ y ∈ A, ¬ rlt x y) : hins (A ++ B) x = A ++ hins B x := by
  induction A with
  | nil => rfl
  | cons y A ih => rw [List.cons_append, hins, if_neg (h y (List.mem_cons_self ..)), ih fun z hz => h z (List.mem_cons_of_mem _ hz)]; rfl
theorem hins_head {B : List (KR ByteArray)} {x : KR ByteArray} (h : ∀ y ∈ B, rlt x y) : hins B x = x :: B := by
  cases B with
  | nil => rfl
  | cons y B => rw [hins, if_pos (h y (List.mem_cons_self ..))]
/-- Where a thing stands, found from behind. -/
theorem ins_at {L : List (KR ByteArray)} {x : KR ByteArray} {a : Nat} (hs : HSorted L) (ha : a ≤ L.length) (h1 : ∀ y ∈ L.drop a, rlt x y) (h2 : 0 < a → ¬ rlt x (L.getD (a - 1) kz3)) : L.take a ++ [x] ++ L.drop a = hins L x := by
  have hA : ∀ y ∈ L.take a, ¬ rlt x y := by
    intro y hy q
    obtain ⟨i, hi, rfl⟩ := List.mem_iff_getElem.1 hy
    rw [List.length_take] at hi
    have h3 := h2 (by omega)
    rw [getD_in (by omega)] at h3
    rw [List.getElem_take] at q
    rcases Nat.lt_or_ge i (a - 1) with h | h
    · have := List.pairwise_iff_getElem.1 hs i (a - 1) (by omega) (by omega) h
      unfold rlt at *; omega
    · have e : i = a - 1 := by omega
      subst e; exact h3 q
  conv => rhs; rw [← List.take_append_drop a L]
  rw [hins_app hA, hins_head h1, List.append_assoc]; rfl
theorem drop_step {L : List (KR ByteArray)} {x : KR ByteArray} {a : Nat} (h0 : 0 < a) (ha : a ≤ L.length) (h1 : ∀ y ∈ L.drop a, rlt x y) (h2 : rlt x (L.getD (a - 1) kz3)) : ∀ y ∈ L.drop (a - 1), rlt x y := by
  intro y hy
  rw [List.drop_eq_getElem_cons (show a - 1 < L.length by omega), show a - 1 + 1 = a by omega] at hy
  rcases List.mem_cons.1 hy with q | q
  · rw [q]; rwa [getD_in (by omega)] at h2
  · exact h1 y q
set_option maxHeartbeats 8000000 in
set_option maxRecDepth 100000 in
theorem t_find04 {a0 : Option Addr} {cap : Nat} {l : List (KR ByteArray)} {key : ByteArray} (hl : l.length ≤ cap ∧ cap ≤ 9223372036854775807) : Tri Try.prog 15 #[.slice a0 l.length cap, sV key] [vewR 3 (.slice a0 l.length cap) l.length (l.flatMap kr3)] (Same [vewR 3 (.slice a0 l.length cap) l.length (l.flatMap kr3)] (.tuple #[.agg #[iV ((lk l key).getD (0, 0)).1, iV ((lk l key).getD (0, 0)).2], bV (lk l key).isSome])) := by
  refine Tri.enter (args := [.slice a0 l.length cap, sV key]) Try.func15 rfl rfl rfl (fun B wz => ?_)
  refine Cd.seq ?_
  refine Cd.region rfl ?_
  refine Sq.ex [] (l := []) (o_new [iV 0, iV 0] (fun w => by kernel_rfl)) (by kernel_rfl) rfl (by kernel_rfl) (fun _ => Nat.zero_le _) ?_; intro b1 _
  refine Sq.vals [1] (rest := []) [bV false] (fun w => by kernel_rfl) ?_
  refine Sq.done ?_
  refine Ex'.next ?_
  refine Cd.seq ?_
  refine Cd.seq ?_
  refine Cd.region rfl ?_
  refine Sq.vals [0] (rest := []) [iV 0] (fun w => by kernel_rfl) ?_
  refine Sq.done ?_
  refine Ex'.next ?_
  refine Cd.block ?_
  refine Cd.loop (ι := Nat) (fun k => k ≤ l.length ∧ ∀ y ∈ l.take k, y.1 ≠ key) (fun k => l.length - k) (fun k => [(0, .slice a0 l.length cap), (1, sV key), (4, pV b1 0), (6, iV (k : Int))]) (fun k => [vewR 3 (.slice a0 l.length cap) l.length (l.flatMap kr3), blkR b1 [iV 0, iV 0] 31]) 0 (⟨Nat.zero_le _, by simp⟩) (subB_eq (l := [0, 1, 4, 6]) (by kernel_rfl)) (fun w hw => hw.pickB [0, 1] (by kernel_rfl) (by kernel_rfl) (by kernel_rfl)) ?_
  rintro k hL2
  try dsimp only at hL2 ⊢
  obtain ⟨hk, hno⟩ := hL2
  refine Cd.seq ?_
  refine Cd.seq ?_
  refine Cd.region rfl ?_
  refine Sq.vals [0, 1, 2, 3] (rest := []) [iV (k : Int), .slice a0 l.length cap, iV (l.length : Int), bV (decide ((k : Int) < (l.length : Int)))] (fun w => by kernel_rfl) ?_
  refine Sq.done ?_
  refine Ex'.next ?_
  refine Cd.case (p := (k : Int) < (l.length : Int)) (by kernel_rfl) (fun h3 => ?_) (fun h3 => ?_)
  ·
    refine Cd.fact (i := 0) (R := vewR 3 (.slice a0 l.length cap) l.length (l.flatMap kr3)) (by kernel_rfl) (vew_addr (by omega)) ?_; rintro ⟨b4, off5, rfl⟩
    refine Cd.skip ?_
    refine Ex'.next ?_
    refine Cd.seq ?_
    refine Cd.block ?_
    refine Cd.seq ?_
    refine Cd.region rfl ?_
    refine Sq.vals [0, 1] (rest := [2, 3, 4, 5, 6]) [.slice (some ⟨b4, off5, none⟩) l.length cap, iV (k : Int)] (fun w => by kernel_rfl) ?_
    refine Sq.v (r := pV b4 (off5 + k * 3)) (o_idx (b := b4) (cap := cap) (e := 41) (off := off5) (n := l.length) (kd := .i64) (q := (k : Int)) (i := k) (size := 3) (j := off5 + k * 3) (by kernel_rfl) (by kernel_rfl) (by rfl) (by omega) Try.underlying26 (by kernel_rfl) (by omega)) rfl (by kernel_rfl) ?_
    refine Sq.vals [3] (rest := [4, 5, 6]) [pV b4 (off5 + k * 3)] (fun w => by kernel_rfl) ?_
    refine Sq.same [0] (l := [vewR 3 (.slice (some ⟨b4, off5, none⟩) l.length cap) l.length (l.flatMap kr3)]) (o_loadView (off := off5) (j := k * 3) (u := sV ((l.getD k kz3).1)) (by kernel_rfl) (by omega) (by kernel_rfl) ((rec_get (f := kr3) (k := 3) (z := kz3) (l := l) (i := k) (j := 0) (fun _ => rfl) (by omega) (by decide)).trans rfl)) (by kernel_rfl) rfl (by kernel_rfl) rfl ?_
    refine Sq.vals [5] (rest := [6]) [sV key] (fun w => by kernel_rfl) ?_
    refine Sq.v (r := bV (decide ((l.getD k kz3).1 = key))) (o_eqS (a := (l.getD k kz3).1) (b := key) (by kernel_rfl) (by kernel_rfl)) rfl (by kernel_rfl) ?_
    refine Sq.done ?_
    refine Ex'.next ?_
    refine Cd.case (p := (l.getD k kz3).1 = key) (by kernel_rfl) (fun h6 => ?_) (fun h6 => ?_)
    ·
      refine Cd.seq ?_
      refine Cd.region rfl ?_
      refine Sq.vals [0, 1] (rest := [2, 3, 4, 5, 6]) [.slice (some ⟨b4, off5, none⟩) l.length cap, iV (k : Int)] (fun w => by kernel_rfl) ?_
      refine Sq.v (r := pV b4 (off5 + k * 3)) (o_idx (b := b4) (cap := cap) (e := 41) (off := off5) (n := l.length) (kd := .i64) (q := (k : Int)) (i := k) (size := 3) (j := off5 + k * 3) (by kernel_rfl) (by kernel_rfl) (by rfl) (by omega) Try.underlying26 (by kernel_rfl) (by omega)) rfl (by kernel_rfl) ?_
      refine Sq.vals [3] (rest := [4, 5, 6]) [pV b4 (off5 + k * 3 + 1)] (fun w => by kernel_rfl) ?_
      refine Sq.same [0] (l := [vewR 3 (.slice (some ⟨b4, off5, none⟩) l.length cap) l.length (l.flatMap kr3)]) (o_loadViewN (off := off5) (j := k * 3 + 1) [iV ((l.getD k kz3).2.1), iV ((l.getD k kz3).2.2)] (by kernel_rfl) (by omega) (by kernel_rfl) (rec_gets (f := kr3) (k := 3) (z := kz3) (l := l) (i := k) (o := 1) (fun _ => rfl) (by omega) (Nat.le_of_ble_eq_true rfl) rfl)) (by kernel_rfl) rfl (by kernel_rfl) rfl ?_
      refine Sq.same [1] (l := [blkR b1 [iV 0, iV 0] 31]) (o_store (i := 0) (v := .agg #[iV ((l.getD k kz3).2.1), iV ((l.getD k kz3).2.2)]) (by kernel_rfl) (by kernel_rfl) (by kernel_rfl) (by kernel_rfl) (by kernel_rfl)) (by kernel_rfl) rfl (by kernel_rfl) rfl ?_
      refine Sq.vals [6] (rest := []) [bV true] (fun w => by kernel_rfl) ?_
      refine Sq.done ?_
      refine Ex'.next ?_
      refine Cd.ret ?_
      refine Ex'.blockRet ?_
      refine Ex'.thenRet ?_
      refine Ex'.thenRet ?_
      refine Ex'.blockRet ?_
      refine Ex'.thenRet ?_
      refine Ex'.ret Try.results15 (RVs.cellN (i := 0) (b := b1) (l := [iV ((l.getD k kz3).2.1), iV ((l.getD k kz3).2.2)]) (E := 31) [iV ((l.getD k kz3).2.1), iV ((l.getD k kz3).2.2)] 1 (by kernel_rfl) (by kernel_rfl) (by kernel_rfl) (by kernel_rfl) (RVs.tmp (v := bV true) (by kernel_rfl) (RVs.nil))) (fun w hw => ?_)
      have e := find_hit hno (by omega) h6
      rw [e]; exact ⟨_, ⟨rfl, rfl⟩, hw.pickB [0] (by kernel_rfl) (by kernel_rfl) (by kernel_rfl)⟩
    ·
      refine Cd.skip ?_
      refine Ex'.blockNormal ?_
      refine Ex'.next ?_
      refine Cd.region rfl ?_
      refine Sq.vals [0] (rest := [1, 2]) [iV (k : Int)] (fun w => by kernel_rfl) ?_
      refine Sq.v (r := iV ((k : Int) + 1)) (o_add (k := .i64) (a := (k : Int)) (b := 1) (c := (k : Int) + 1) (by kernel_rfl) (by kernel_rfl) (w64 rfl (by omega))) rfl (by kernel_rfl) ?_
      refine Sq.vals [2] (rest := []) [iV ((k : Int) + 1)] (fun w => by kernel_rfl) ?_
      refine Sq.done ?_
      refine Ex'.round (g := k) (k + 1) ?_ ?_ (subB_eq (l := [0, 1, 4, 6]) (by kernel_rfl)) (fun w hw => hw.pickB [0, 1] (by kernel_rfl) (by kernel_rfl) (by kernel_rfl))
      · (try dsimp only); exact ⟨by omega, find_step hno (by omega) h6⟩
      · omega
  ·
    refine Cd.exit ?_
    refine Ex'.thenExit ?_
    refine Ex'.thenExit ?_
    refine Ex'.blockHit ?_
    refine Ex'.next ?_
    refine Cd.seq ?_
    refine Cd.region rfl ?_
    refine Sq.vals [0] (rest := [1, 2]) [.agg #[iV 0, iV 0]] (fun w => by kernel_rfl) ?_
    refine Sq.same [1] (l := [blkR b1 [iV 0, iV 0] 31]) (o_store (i := 0) (v := .agg #[iV 0, iV 0]) (by kernel_rfl) (by kernel_rfl) (by kernel_rfl) (by kernel_rfl) (by kernel_rfl)) (by kernel_rfl) rfl (by kernel_rfl) rfl ?_
    refine Sq.vals [2] (rest := []) [bV false] (fun w => by kernel_rfl) ?_
    refine Sq.done ?_
    refine Ex'.next ?_
    refine Cd.ret ?_
    refine Ex'.ret Try.results15 (RVs.cellN (i := 0) (b := b1) (l := [iV 0, iV 0]) (E := 31) [iV 0, iV 0] 1 (by kernel_rfl) (by kernel_rfl) (by kernel_rfl) (by kernel_rfl) (RVs.tmp (v := bV false) (by kernel_rfl) (RVs.nil))) (fun w hw => ?_)
    have e := find_miss hno (by omega)
    rw [e]; exact ⟨_, ⟨rfl, rfl⟩, hw.pickB [0] (by kernel_rfl) (by kernel_rfl) (by kernel_rfl)⟩

set_option maxHeartbeats 8000000 in
set_option maxRecDepth 100000 in
theorem t_remove04 {a0 : Option Addr} {cap : Nat} {l : List (KR ByteArray)} {key : ByteArray} (hl : l.length ≤ cap ∧ cap ≤ 9223372036854775807) (hb : l.length ≤ 1000000) : Tri Try.prog 19 #[.slice a0 l.length cap, sV key] [vewR 3 (.slice a0 l.length cap) l.length (l.flatMap kr3)] (PostE (fun _ => True) id fun v => [vewR 3 (.slice a0 l.length cap) l.length (l.flatMap kr3), rowR 41 3 v ((hrem l key).length) ((hrem l key).flatMap kr3)]) := by
  refine Tri.enter (args := [.slice a0 l.length cap, sV key]) Try.func19 rfl rfl rfl (fun B wz => ?_)
  refine Cd.seq ?_
  refine Cd.region rfl ?_
  refine Sq.vals [0] (rest := []) [.slice none 0 0] (fun w => by kernel_rfl) ?_
  refine Sq.done ?_
  refine Ex'.next ?_
  refine Cd.seq ?_
  refine Cd.region rfl ?_
  refine Sq.vals [0] (rest := []) [.slice none 0 0] (fun w => by kernel_rfl) ?_
  refine Sq.done ?_
  refine Ex'.next ?_
  refine Cd.seq ?_
  refine Cd.seq ?_
  refine Cd.region rfl ?_
  refine Sq.vals [0] (rest := []) [iV 0] (fun w => by kernel_rfl) ?_
  refine Sq.done ?_
  refine Ex'.next ?_
  refine Cd.block ?_
  refine Cd.nilRow 41 3 ?_
  refine Cd.loop (ι := Nat × Value × (List (KR ByteArray))) (fun ⟨k, rv, ow⟩ => k ≤ l.length ∧ ow = hrem (l.take k) key) (fun ⟨k, rv, ow⟩ => l.length - k) (fun ⟨k, rv, ow⟩ => [(0, .slice a0 l.length cap), (1, sV key), (4, .slice none 0 0), (6, iV (k : Int)), (5, rv)]) (fun ⟨k, rv, ow⟩ => [vewR 3 (.slice a0 l.length cap) l.length (l.flatMap kr3), rowR 41 3 rv ow.length (ow.flatMap kr3)]) (0, .slice none 0 0, ([] : List (KR ByteArray))) (⟨Nat.zero_le _, by simp [hrem]⟩) (subB_eq (l := [0, 1, 4, 6, 5]) (by kernel_rfl)) (fun w hw => hw.pickB [0, 1] (by kernel_rfl) (by kernel_rfl) (by kernel_rfl)) ?_
  rintro ⟨k, rv, ow⟩ hL1
  try dsimp only at hL1 ⊢
  obtain ⟨hk, hrw⟩ := hL1
  have hol : ow.length ≤ l.length := by rw [hrw]; exact Nat.le_trans (hrem_le _ _) (by rw [List.length_take]; omega)
  refine Cd.fact (i := 1) (R := rowR 41 3 rv ow.length (ow.flatMap kr3)) (by kernel_rfl) row_slice ?_; rintro ⟨a2, c3, rfl, hc3, hc3'⟩
  have hc3'' : c3 ≤ 9223372036854775807 := hc3'
  refine Cd.seq ?_
  refine Cd.seq ?_
  refine Cd.region rfl ?_
  refine Sq.vals [0, 1, 2, 3] (rest := []) [iV (k : Int), .slice a0 l.length cap, iV (l.length : Int), bV (decide ((k : Int) < (l.length : Int)))] (fun w => by kernel_rfl) ?_
  refine Sq.done ?_
  refine Ex'.next ?_
  refine Cd.case (p := (k : Int) < (l.length : Int)) (by kernel_rfl) (fun h4 => ?_) (fun h4 => ?_)
  ·
    refine Cd.fact (i := 0) (R := vewR 3 (.slice a0 l.length cap) l.length (l.flatMap kr3)) (by kernel_rfl) (vew_addr (by omega)) ?_; rintro ⟨b5, off6, rfl⟩
    refine Cd.skip ?_
    refine Ex'.next ?_
    refine Cd.seq ?_
    refine Cd.block ?_
    refine Cd.seq ?_
    refine Cd.region rfl ?_
    refine Sq.vals [0, 1] (rest := [2, 3, 4, 5, 6]) [.slice (some ⟨b5, off6, none⟩) l.length cap, iV (k : Int)] (fun w => by kernel_rfl) ?_
    refine Sq.v (r := pV b5 (off6 + k * 3)) (o_idx (b := b5) (cap := cap) (e := 41) (off := off6) (n := l.length) (kd := .i64) (q := (k : Int)) (i := k) (size := 3) (j := off6 + k * 3) (by kernel_rfl) (by kernel_rfl) (by rfl) (by omega) Try.underlying26 (by kernel_rfl) (by omega)) rfl (by kernel_rfl) ?_
    refine Sq.vals [3] (rest := [4, 5, 6]) [pV b5 (off6 + k * 3)] (fun w => by kernel_rfl) ?_
    refine Sq.same [0] (l := [vewR 3 (.slice (some ⟨b5, off6, none⟩) l.length cap) l.length (l.flatMap kr3)]) (o_loadView (off := off6) (j := k * 3) (u := sV ((l.getD k kz3).1)) (by kernel_rfl) (by omega) (by kernel_rfl) ((rec_get (f := kr3) (k := 3) (z := kz3) (l := l) (i := k) (j := 0) (fun _ => rfl) (by omega) (by decide)).trans rfl)) (by kernel_rfl) rfl (by kernel_rfl) rfl ?_
    refine Sq.vals [5] (rest := [6]) [sV key] (fun w => by kernel_rfl) ?_
    refine Sq.v (r := bV (decide ((l.getD k kz3).1 ≠ key))) (o_neS (a := (l.getD k kz3).1) (b := key) (by kernel_rfl) (by kernel_rfl)) rfl (by kernel_rfl) ?_
    refine Sq.done ?_
    refine Ex'.next ?_
    refine Cd.case (p := (l.getD k kz3).1 ≠ key) (by kernel_rfl) (fun h7 => ?_) (fun h7 => ?_)
    ·
      refine Cd.region rfl ?_
      refine Sq.vals [0, 1, 2] (rest := [3, 4, 5, 6, 7]) [.slice a2 ow.length c3, .slice (some ⟨b5, off6, none⟩) l.length cap, iV (k : Int)] (fun w => by kernel_rfl) ?_
      refine Sq.v (r := pV b5 (off6 + k * 3)) (o_idx (b := b5) (cap := cap) (e := 41) (off := off6) (n := l.length) (kd := .i64) (q := (k : Int)) (i := k) (size := 3) (j := off6 + k * 3) (by kernel_rfl) (by kernel_rfl) (by rfl) (by omega) Try.underlying26 (by kernel_rfl) (by omega)) rfl (by kernel_rfl) ?_
      refine Sq.same [0] (l := [vewR 3 (.slice (some ⟨b5, off6, none⟩) l.length cap) l.length (l.flatMap kr3)]) (o_loadViewN (off := off6) (j := k * 3) [sV ((l.getD k kz3).1), iV ((l.getD k kz3).2.1), iV ((l.getD k kz3).2.2)] (by kernel_rfl) (by omega) (by kernel_rfl) (rec_gets (f := kr3) (k := 3) (z := kz3) (l := l) (i := k) (o := 0) (fun _ => rfl) (by omega) (Nat.le_of_ble_eq_true rfl) rfl)) (by kernel_rfl) rfl (by kernel_rfl) rfl ?_
      refine Sq.ex [] (l := []) (o_lit (sz := 3) (.agg #[sV ⟨#[]⟩, iV 0, iV 0]) [sV ((l.getD k kz3).1), iV ((l.getD k kz3).2.1), iV ((l.getD k kz3).2.2)] Try.underlying26 (by kernel_rfl) (by kernel_rfl) (by kernel_rfl) (by kernel_rfl) (by kernel_rfl)) (by kernel_rfl) rfl (by kernel_rfl) (fun _ => Nat.zero_le _) ?_; intro b8 _
      refine Sq.ex [1, 2] (l := [rowR 41 3 (.slice a2 ow.length c3) ow.length (ow.flatMap kr3), blkR b8 [sV ((l.getD k kz3).1), iV ((l.getD k kz3).2.1), iV ((l.getD k kz3).2.2)] 41]) (o_push (n' := ow.length + 1) (xs' := (ow ++ [(l.getD k kz3)]).flatMap kr3) (by kernel_rfl) (by kernel_rfl) sl_it04 (by decide) rfl (by kernel_rfl) (by unfold maxLen; omega) (by omega) (by simp) (by rw [List.flatMap_append]; rfl)) (by kernel_rfl) rfl (by kernel_rfl) (fun _ => Nat.le_of_ble_eq_true (by kernel_rfl)) ?_; rintro v9 _
      refine Sq.fact (i := 1) (R := rowR 41 3 v9 (ow.length + 1) ((ow ++ [(l.getD k kz3)]).flatMap kr3)) (by kernel_rfl) row_slice ?_; rintro ⟨a10, c11, rfl, hc11, hc11'⟩
      have hc11'' : c11 ≤ 9223372036854775807 := hc11'
      refine Sq.fact (i := 1) (R := rowR 41 3 (.slice a10 (ow.length + 1) c11) (ow.length + 1) ((ow ++ [(l.getD k kz3)]).flatMap kr3)) (by kernel_rfl) (row_addr (by simp)) ?_; rintro ⟨b12, rfl⟩
      refine Sq.vals [7] (rest := []) [.slice (some ⟨b12, 0, none⟩) (ow.length + 1) c11] (fun w => by kernel_rfl) ?_
      refine Sq.done ?_
      refine Ex'.blockNormal ?_
      refine Ex'.next ?_
      refine Cd.region rfl ?_
      refine Sq.vals [0] (rest := [1, 2]) [iV (k : Int)] (fun w => by kernel_rfl) ?_
      refine Sq.v (r := iV ((k : Int) + 1)) (o_add (k := .i64) (a := (k : Int)) (b := 1) (c := (k : Int) + 1) (by kernel_rfl) (by kernel_rfl) (w64 rfl (by omega))) rfl (by kernel_rfl) ?_
      refine Sq.vals [2] (rest := []) [iV ((k : Int) + 1)] (fun w => by kernel_rfl) ?_
      refine Sq.done ?_
      refine Ex'.round (g := (k, .slice a2 ow.length c3, ow)) (k + 1, .slice (some ⟨b12, 0, none⟩) (ow.length + 1) c11, ow ++ [(l.getD k kz3)]) ?_ ?_ (subB_eq (l := [0, 1, 4, 6, 5]) (by kernel_rfl)) (fun w hw => (hw.conv 1 (R := rowR 41 3 (.slice (some ⟨b12, 0, none⟩) (ow.length + 1) c11) (ow.length + 1) ((ow ++ [(l.getD k kz3)]).flatMap kr3)) (R' := rowR 41 3 (.slice (some ⟨b12, 0, none⟩) (ow.length + 1) c11) (ow ++ [(l.getD k kz3)]).length ((ow ++ [(l.getD k kz3)]).flatMap kr3)) (by kernel_rfl) (fun w S h => by simpa using h)).pickB [0, 1] (by kernel_rfl) (by kernel_rfl) (by kernel_rfl))
      · (try dsimp only); exact ⟨by omega, by rw [rem_step (by omega), hrw, if_pos h7]⟩
      · omega
    ·
      refine Cd.skip ?_
      refine Ex'.blockNormal ?_
      refine Ex'.next ?_
      refine Cd.region rfl ?_
      refine Sq.vals [0] (rest := [1, 2]) [iV (k : Int)] (fun w => by kernel_rfl) ?_
      refine Sq.v (r := iV ((k : Int) + 1)) (o_add (k := .i64) (a := (k : Int)) (b := 1) (c := (k : Int) + 1) (by kernel_rfl) (by kernel_rfl) (w64 rfl (by omega))) rfl (by kernel_rfl) ?_
      refine Sq.vals [2] (rest := []) [iV ((k : Int) + 1)] (fun w => by kernel_rfl) ?_
      refine Sq.done ?_
      refine Ex'.round (g := (k, .slice a2 ow.length c3, ow)) (k + 1, .slice a2 ow.length c3, ow) ?_ ?_ (subB_eq (l := [0, 1, 4, 6, 5]) (by kernel_rfl)) (fun w hw => hw.pickB [0, 1] (by kernel_rfl) (by kernel_rfl) (by kernel_rfl))
      · (try dsimp only); exact ⟨by omega, by rw [rem_step (by omega), hrw, if_neg h7]⟩
      · omega
  ·
    refine Cd.exit ?_
    refine Ex'.thenExit ?_
    refine Ex'.thenExit ?_
    refine Ex'.blockHit ?_
    refine Ex'.next ?_
    refine Cd.seq ?_
    refine Cd.region rfl ?_
    refine Sq.vals [0, 1] (rest := []) [.slice a2 ow.length c3, .slice a2 ow.length c3] (fun w => by kernel_rfl) ?_
    refine Sq.done ?_
    refine Ex'.next ?_
    refine Cd.ret ?_
    refine Ex'.ret Try.results19 (RVs.tmp (v := .slice a2 ow.length c3) (by kernel_rfl) (RVs.nil)) (fun w hw => ?_)
    have e : ow = hrem l key := by rw [hrw, List.take_of_length_le (by omega)]
    rw [← e]; exact ⟨_, ⟨_, trivial, rfl, rfl⟩, hw.pickB [0, 1] (by kernel_rfl) (by kernel_rfl) (by kernel_rfl)⟩

set_option maxHeartbeats 8000000 in
set_option maxRecDepth 100000 in
theorem t_less04 {a b c d : Int}  : Tri Try.prog 56 #[.agg #[iV a, iV b], .agg #[iV c, iV d]] [] (Same [] (bV (decide (rlt ((⟨#[]⟩, a, b) : KR ByteArray) (⟨#[]⟩, c, d))))) := by
  refine Tri.enter (args := [.agg #[iV a, iV b], .agg #[iV c, iV d]]) Try.func56 rfl rfl rfl (fun B wz => ?_)
  refine Cd.seq ?_
  refine Cd.region rfl ?_
  refine Sq.ex [] (l := []) (o_newBox (v := .agg #[iV a, iV b]) [iV a, iV b] (by kernel_rfl) rfl) (by kernel_rfl) rfl (by kernel_rfl) (fun _ => Nat.zero_le _) ?_; intro b1 _
  refine Sq.ex [] (l := []) (o_newBox (v := .agg #[iV c, iV d]) [iV c, iV d] (by kernel_rfl) rfl) (by kernel_rfl) rfl (by kernel_rfl) (fun _ => Nat.zero_le _) ?_; intro b2 _
  refine Sq.vals [2] (rest := []) [bV false] (fun w => by kernel_rfl) ?_
  refine Sq.done ?_
  refine Ex'.next ?_
  refine Cd.seq ?_
  refine Cd.seq ?_
  refine Cd.region rfl ?_
  refine Sq.vals [0] (rest := [1, 2, 3, 4]) [pV b1 0] (fun w => by kernel_rfl) ?_
  refine Sq.same [0] (l := [blkR b1 [iV a, iV b] 31]) (o_load (i := 0) (v := iV a) (by kernel_rfl) (by kernel_rfl) (by kernel_rfl)) (by kernel_rfl) rfl (by kernel_rfl) rfl ?_
  refine Sq.vals [2] (rest := [3, 4]) [pV b2 0] (fun w => by kernel_rfl) ?_
  refine Sq.same [1] (l := [blkR b2 [iV c, iV d] 31]) (o_load (i := 0) (v := iV c) (by kernel_rfl) (by kernel_rfl) (by kernel_rfl)) (by kernel_rfl) rfl (by kernel_rfl) rfl ?_
  refine Sq.v (r := bV (decide (a ≠ c))) (o_neI (k := .i64) (a := a) (b := c) (by kernel_rfl) (by kernel_rfl)) rfl (by kernel_rfl) ?_
  refine Sq.done ?_
  refine Ex'.next ?_
  refine Cd.case (p := a ≠ c) (by kernel_rfl) (fun h3 => ?_) (fun h3 => ?_)
  ·
    refine Cd.seq ?_
    refine Cd.region rfl ?_
    refine Sq.vals [0] (rest := [1, 2, 3, 4, 5]) [pV b1 0] (fun w => by kernel_rfl) ?_
    refine Sq.same [0] (l := [blkR b1 [iV a, iV b] 31]) (o_load (i := 0) (v := iV a) (by kernel_rfl) (by kernel_rfl) (by kernel_rfl)) (by kernel_rfl) rfl (by kernel_rfl) rfl ?_
    refine Sq.vals [2] (rest := [3, 4, 5]) [pV b2 0] (fun w => by kernel_rfl) ?_
    refine Sq.same [1] (l := [blkR b2 [iV c, iV d] 31]) (o_load (i := 0) (v := iV c) (by kernel_rfl) (by kernel_rfl) (by kernel_rfl)) (by kernel_rfl) rfl (by kernel_rfl) rfl ?_
    refine Sq.vals [4, 5] (rest := []) [bV (decide (a < c)), bV (decide (a < c))] (fun w => by kernel_rfl) ?_
    refine Sq.done ?_
    refine Ex'.next ?_
    refine Cd.ret ?_
    refine Ex'.thenRet ?_
    refine Ex'.ret Try.results56 (RVs.tmp (v := bV (decide (a < c))) (by kernel_rfl) (RVs.nil)) (fun w hw => ?_)
    exact ⟨_, ⟨congrArg Value.bool (by rw [decide_eq_decide]; unfold rlt; dsimp only; omega), rfl⟩, hw.pickB [] (by kernel_rfl) (by kernel_rfl) (by kernel_rfl)⟩
  ·
    refine Cd.skip ?_
    refine Ex'.next ?_
    refine Cd.seq ?_
    refine Cd.region rfl ?_
    refine Sq.vals [0] (rest := [1, 2, 3, 4, 5]) [pV b1 1] (fun w => by kernel_rfl) ?_
    refine Sq.same [0] (l := [blkR b1 [iV a, iV b] 31]) (o_load (i := 1) (v := iV b) (by kernel_rfl) (by kernel_rfl) (by kernel_rfl)) (by kernel_rfl) rfl (by kernel_rfl) rfl ?_
    refine Sq.vals [2] (rest := [3, 4, 5]) [pV b2 1] (fun w => by kernel_rfl) ?_
    refine Sq.same [1] (l := [blkR b2 [iV c, iV d] 31]) (o_load (i := 1) (v := iV d) (by kernel_rfl) (by kernel_rfl) (by kernel_rfl)) (by kernel_rfl) rfl (by kernel_rfl) rfl ?_
    refine Sq.vals [4, 5] (rest := []) [bV (decide (b < d)), bV (decide (b < d))] (fun w => by kernel_rfl) ?_
    refine Sq.done ?_
    refine Ex'.next ?_
    refine Cd.ret ?_
    refine Ex'.ret Try.results56 (RVs.tmp (v := bV (decide (b < d))) (by kernel_rfl) (RVs.nil)) (fun w hw => ?_)
    exact ⟨_, ⟨congrArg Value.bool (by rw [decide_eq_decide]; unfold rlt; dsimp only; omega), rfl⟩, hw.pickB [] (by kernel_rfl) (by kernel_rfl) (by kernel_rfl)⟩

set_option maxHeartbeats 8000000 in
set_option maxRecDepth 100000 in
theorem t_set04 {a0 : Option Addr} {cap : Nat} {l : List (KR ByteArray)} {key : ByteArray} {one two : Int} (hl : l.length ≤ cap ∧ cap ≤ 9223372036854775807) (hb : l.length ≤ 1000000) (hs0 : HSorted l) : Tri Try.prog 17 #[.slice a0 l.length cap, sV key, .agg #[iV one, iV two]] [vewR 3 (.slice a0 l.length cap) l.length (l.flatMap kr3)] (PostE (fun _ => True) id fun v => [vewR 3 (.slice a0 l.length cap) l.length (l.flatMap kr3), rowR 41 3 v ((hset l ((key, one, two) : KR ByteArray)).length) ((hset l ((key, one, two) : KR ByteArray)).flatMap kr3)]) := by
  have hsl : HSorted (hrem l key) := List.Pairwise.filter _ hs0
  have hrl := hrem_le l key
  refine Tri.enter (args := [.slice a0 l.length cap, sV key, .agg #[iV one, iV two]]) Try.func17 rfl rfl rfl (fun B wz => ?_)
  refine Cd.seq ?_
  refine Cd.region rfl ?_
  refine Sq.ex [] (l := []) (o_newBox (v := .agg #[iV one, iV two]) [iV one, iV two] (by kernel_rfl) rfl) (by kernel_rfl) rfl (by kernel_rfl) (fun _ => Nat.zero_le _) ?_; intro b1 _
  refine Sq.vals [1] (rest := []) [.slice none 0 0] (fun w => by kernel_rfl) ?_
  refine Sq.done ?_
  refine Ex'.next ?_
  refine Cd.seq ?_
  refine Cd.region rfl ?_
  refine Sq.vals [0, 1] (rest := [2, 3]) [.slice a0 l.length cap, sV key] (fun w => by kernel_rfl) ?_
  refine Sq.ex [0] (l := [vewR 3 (.slice a0 l.length cap) l.length (l.flatMap kr3)]) (o_call (by kernel_rfl) Try.call19 (t_remove04 (a0 := a0) (cap := cap) (l := l) (key := key) (by omega) (by omega))) (by kernel_rfl) rfl (by kernel_rfl) (fun _ => Nat.le_of_ble_eq_true (by kernel_rfl)) ?_; rintro v2 _
  refine Sq.fact (i := 2) (R := rowR 41 3 v2 ((hrem l key).length) ((hrem l key).flatMap kr3)) (by kernel_rfl) row_slice ?_; rintro ⟨a3, c4, rfl, hc4, hc4'⟩
  have hc4'' : c4 ≤ 9223372036854775807 := hc4'
  refine Sq.vals [3] (rest := []) [.slice a3 ((hrem l key).length) c4] (fun w => by kernel_rfl) ?_
  refine Sq.done ?_
  refine Ex'.next ?_
  refine Cd.seq ?_
  refine Cd.region rfl ?_
  refine Sq.vals [0, 1, 2] (rest := []) [.slice a3 ((hrem l key).length) c4, iV ((hrem l key).length : Int), iV ((hrem l key).length : Int)] (fun w => by kernel_rfl) ?_
  refine Sq.done ?_
  refine Ex'.next ?_
  refine Cd.seq ?_
  refine Cd.block ?_
  refine Cd.loop (ι := Nat) (fun k => k ≤ (hrem l key).length ∧ ∀ y ∈ (hrem l key).drop k, rlt ((key, one, two) : KR ByteArray) y) (fun k => k) (fun k => [(0, .slice a3 ((hrem l key).length) c4), (1, sV key), (5, pV b1 0), (6, .slice none 0 0), (7, iV (k : Int))]) (fun k => [vewR 3 (.slice a0 l.length cap) l.length (l.flatMap kr3), blkR b1 [iV one, iV two] 31, rowR 41 3 (.slice a3 ((hrem l key).length) c4) ((hrem l key).length) ((hrem l key).flatMap kr3)]) ((hrem l key).length) (⟨Nat.le_refl _, by simp⟩) (subB_eq (l := [0, 1, 5, 6, 7]) (by kernel_rfl)) (fun w hw => hw.pickB [0, 1, 2] (by kernel_rfl) (by kernel_rfl) (by kernel_rfl)) ?_
  rintro k hL5
  try dsimp only at hL5 ⊢
  obtain ⟨hk, hdr⟩ := hL5
  refine Cd.seq ?_
  refine Cd.seq ?_
  by_cases h6 : (k : Int) > 0
  ·
    refine Cd.fact (i := 2) (R := rowR 41 3 (.slice a3 ((hrem l key).length) c4) ((hrem l key).length) ((hrem l key).flatMap kr3)) (by kernel_rfl) (row_addr (by omega)) ?_; rintro ⟨b7, rfl⟩
    refine Cd.plan [0, 1, 3, 7, 7, 7, 39, 119, 247, 503, 1023, 2047] [(3, [(1, false, 0)]), (9, [(2, false, 0)]), (10, [])] [] [] [] [fun g => iV (k : Int), fun g => bV true, fun g => bV true, fun g => .agg #[iV one, iV two], fun g => .slice (some ⟨b7, 0, none⟩) ((hrem l key).length) c4, fun g => iV (k : Int), fun g => iV ((k - 1 : Nat) : Int), fun g => pV b7 ((k - 1) * 3), fun g => pV b7 ((k - 1) * 3 + 1), fun g => .agg #[iV (((hrem l key).getD (k - 1) kz3).2.1), iV (((hrem l key).getD (k - 1) kz3).2.2)], fun g => bV (decide (rlt ((⟨#[]⟩, one, two) : KR ByteArray) ((⟨#[]⟩, ((hrem l key).getD (k - 1) kz3).2.1, ((hrem l key).getD (k - 1) kz3).2.2) : KR ByteArray))), fun g => bV (decide (rlt ((⟨#[]⟩, one, two) : KR ByteArray) ((⟨#[]⟩, ((hrem l key).getD (k - 1) kz3).2.1, ((hrem l key).getD (k - 1) kz3).2.2) : KR ByteArray)))] (by kernel_rfl) (by kernel_rfl) rfl (trivial) ?_ ?_
    · exact ⟨ob_val fun g w => by kernel_rfl, ob_v (v := fun g => bV true) (fun g => OprV.re (pureV (v := bV (decide ((k : Int) > 0))) (by kernel_rfl) rfl fun w => by kernel_rfl) (vT h6)) (fun g => by kernel_rfl), ob_val fun g w => by kernel_rfl, ob_s (l := fun g => [blkR b1 [iV one, iV two] 31]) (l' := fun g => [blkR b1 [iV one, iV two] 31]) (v := fun g => .agg #[iV one, iV two]) (fun g => o_loadN (i := 0) [iV one, iV two] (by kernel_rfl) (by kernel_rfl) (by kernel_rfl)) (fun g => by kernel_rfl), ob_val fun g w => by kernel_rfl, ob_val fun g w => by kernel_rfl, ob_v (v := fun g => iV ((k - 1 : Nat) : Int)) (fun g => o_sub (k := .i64) (a := (k : Int)) (b := 1) (c := ((k - 1 : Nat) : Int)) (by kernel_rfl) (by kernel_rfl) (w64 (by omega) (by omega))) (fun g => by kernel_rfl), ob_v (v := fun g => pV b7 ((k - 1) * 3)) (fun g => o_idx (b := b7) (cap := c4) (e := 41) (off := 0) (n := (hrem l key).length) (kd := .i64) (q := ((k - 1 : Nat) : Int)) (i := (k - 1)) (size := 3) (j := (k - 1) * 3) (by kernel_rfl) (by kernel_rfl) (by rfl) (by omega) Try.underlying26 (by kernel_rfl) (by omega)) (fun g => by kernel_rfl), ob_val fun g w => by kernel_rfl, ob_s (l := fun g => [rowR 41 3 (.slice (some ⟨b7, 0, none⟩) ((hrem l key).length) c4) ((hrem l key).length) ((hrem l key).flatMap kr3)]) (l' := fun g => [rowR 41 3 (.slice (some ⟨b7, 0, none⟩) ((hrem l key).length) c4) ((hrem l key).length) ((hrem l key).flatMap kr3)]) (v := fun g => .agg #[iV (((hrem l key).getD (k - 1) kz3).2.1), iV (((hrem l key).getD (k - 1) kz3).2.2)]) (fun g => o_loadRowN (j := (k - 1) * 3 + 1) [iV (((hrem l key).getD (k - 1) kz3).2.1), iV (((hrem l key).getD (k - 1) kz3).2.2)] (by kernel_rfl) (by omega) (by kernel_rfl) (rec_gets (f := kr3) (k := 3) (z := kz3) (l := hrem l key) (i := (k - 1)) (o := 1) (fun _ => rfl) (by omega) (Nat.le_of_ble_eq_true rfl) rfl)) (fun g => by kernel_rfl), ob_s (l := fun g => []) (l' := fun g => []) (v := fun g => bV (decide (rlt ((⟨#[]⟩, one, two) : KR ByteArray) ((⟨#[]⟩, ((hrem l key).getD (k - 1) kz3).2.1, ((hrem l key).getD (k - 1) kz3).2.2) : KR ByteArray)))) (fun g => o_call (by kernel_rfl) Try.call56 (t_less04 (a := one) (b := two) (c := ((hrem l key).getD (k - 1) kz3).2.1) (d := ((hrem l key).getD (k - 1) kz3).2.2))) (fun g => by kernel_rfl), ob_val fun g w => by kernel_rfl, trivial⟩
    intro g
    refine Ex'.sub (subB_spec [0, 1, 5, 6, 7, 24]) ?_
    refine Ex'.as [0, 1, 2] (σ' := [(0, .slice (some ⟨b7, 0, none⟩) ((hrem l key).length) c4), (1, sV key), (5, pV b1 0), (6, .slice none 0 0), (7, iV (k : Int)), (24, bV (decide (rlt ((⟨#[]⟩, one, two) : KR ByteArray) ((⟨#[]⟩, ((hrem l key).getD (k - 1) kz3).2.1, ((hrem l key).getD (k - 1) kz3).2.2) : KR ByteArray))))]) (Γ' := [vewR 3 (.slice a0 l.length cap) l.length (l.flatMap kr3), blkR b1 [iV one, iV two] 31, rowR 41 3 (.slice (some ⟨b7, 0, none⟩) ((hrem l key).length) c4) ((hrem l key).length) ((hrem l key).flatMap kr3)]) (by kernel_rfl) rfl (by kernel_rfl) (by kernel_rfl) ?_
    refine Ex'.next ?_
    refine Cd.case (p := rlt ((⟨#[]⟩, one, two) : KR ByteArray) ((⟨#[]⟩, ((hrem l key).getD (k - 1) kz3).2.1, ((hrem l key).getD (k - 1) kz3).2.2) : KR ByteArray)) (by kernel_rfl) (fun h8 => ?_) (fun h8 => ?_)
    ·
      refine Cd.skip ?_
      refine Ex'.next ?_
      refine Cd.block ?_
      refine Cd.region rfl ?_
      refine Sq.vals [0] (rest := [1, 2]) [iV (k : Int)] (fun w => by kernel_rfl) ?_
      refine Sq.v (r := iV ((k - 1 : Nat) : Int)) (o_sub (k := .i64) (a := (k : Int)) (b := 1) (c := ((k - 1 : Nat) : Int)) (by kernel_rfl) (by kernel_rfl) (w64 (by omega) (by omega))) rfl (by kernel_rfl) ?_
      refine Sq.vals [2] (rest := []) [iV ((k - 1 : Nat) : Int)] (fun w => by kernel_rfl) ?_
      refine Sq.done ?_
      refine Ex'.blockNormal ?_
      refine Ex'.round (g := k) (k - 1) ?_ ?_ (subB_eq (l := [0, 1, 5, 6, 7]) (by kernel_rfl)) (fun w hw => hw.pickB [0, 1, 2] (by kernel_rfl) (by kernel_rfl) (by kernel_rfl))
      · (try dsimp only); exact ⟨by omega, drop_step (by omega) hk hdr (by have h9 := h8; unfold rlt at h9 ⊢; exact h9)⟩
      · omega
    ·
      refine Cd.exit ?_
      refine Ex'.thenExit ?_
      refine Ex'.thenExit ?_
      refine Ex'.blockHit ?_
      refine Ex'.next ?_
      refine Cd.seq ?_
      refine Cd.sub (subB_spec [0, 1, 5, 7, 24]) ?_
      refine Cd.plan [0, 0, 0, 6, 15, 0, 0, 96, 224, 511, 0, 0, 3072, 8191, 16383] [(4, [(3, true, 1), (2, false, 0)]), (6, [(1, false, 0)]), (9, [(3, true, 5), (11, false, 9)]), (13, [(3, true, 10), (2, false, 0)])] [0, 8] [(0, fun _ => True), (4, fun _ => True), (8, fun _ => True), (9, fun _ => True), (13, fun _ => True)] [(3, 0, fun g => rowR 41 3 (.slice (some ⟨(slOf (g 0)), 0, none⟩) 0 0) 0 (([] : List (KR ByteArray)).flatMap kr3)), (3, 4, fun g => rowR 41 3 (g 4) k (((hrem l key).take k).flatMap kr3)), (11, 8, fun g => blkR (slOf (g 8)) [sV key, iV one, iV two] 41), (3, 9, fun g => rowR 41 3 (g 9) (k + 1) ((((hrem l key).take k) ++ [((key, one, two) : KR ByteArray)]).flatMap kr3)), (3, 13, fun g => rowR 41 3 (g 13) (k + 1 + ((hrem l key).length - k)) (((((hrem l key).take k) ++ [((key, one, two) : KR ByteArray)]) ++ ((hrem l key).drop k)).flatMap kr3))] [fun g => .slice (some ⟨(slOf (g 0)), 0, none⟩) 0 0, fun g => .slice (some ⟨b7, 0, none⟩) ((hrem l key).length) c4, fun g => iV (k : Int), fun g => .slice (some ⟨b7, 0, none⟩) k c4, fun g => (g 4), fun g => sV key, fun g => .agg #[iV one, iV two], fun g => .agg #[sV key, iV one, iV two], fun g => .slice (some ⟨(slOf (g 8)), 0, none⟩) 1 1, fun g => (g 9), fun g => .slice (some ⟨b7, 0, none⟩) ((hrem l key).length) c4, fun g => iV (k : Int), fun g => .slice (if c4 = k then some ⟨b7, 0, none⟩ else Option.map (fun y : Addr => y.add (k * 3)) (some ⟨b7, 0, none⟩)) ((hrem l key).length - k) (c4 - k), fun g => (g 13), fun g => (g 13)] (by kernel_rfl) (by kernel_rfl) rfl (⟨⟨⟨trivial, ⟨fun _ _ => rfl, ⟨fun _ _ => rfl, ⟨fun _ _ => rfl, ⟨trivial, ⟨fun _ _ => rfl, ⟨fun _ _ => rfl, ⟨fun _ _ => rfl, ⟨fun _ _ => rfl, ⟨trivial, ⟨fun _ _ => rfl, ⟨fun _ _ => rfl, ⟨fun _ _ => rfl, ⟨trivial, ⟨trivial, trivial⟩⟩⟩⟩⟩⟩⟩⟩⟩⟩⟩⟩⟩⟩⟩, ⟨trivial, ⟨trivial, ⟨fun _ _ => rfl, ⟨trivial, ⟨trivial, trivial⟩⟩⟩⟩⟩⟩, ⟨⟨⟨fun _ _ => rfl, ⟨fun _ _ => rfl, ⟨fun _ _ => rfl, ⟨fun _ _ => rfl, ⟨trivial, ⟨fun _ _ => rfl, ⟨fun _ _ => rfl, ⟨fun _ _ => rfl, ⟨fun _ _ => rfl, ⟨trivial, ⟨fun _ _ => rfl, ⟨fun _ _ => rfl, ⟨fun _ _ => rfl, ⟨trivial, ⟨trivial, trivial⟩⟩⟩⟩⟩⟩⟩⟩⟩⟩⟩⟩⟩⟩⟩, ⟨fun _ _ => rfl, ⟨trivial, ⟨fun _ _ => rfl, ⟨trivial, ⟨trivial, trivial⟩⟩⟩⟩⟩⟩, ⟨⟨⟨fun _ _ => rfl, ⟨fun _ _ => rfl, ⟨fun _ _ => rfl, ⟨fun _ _ => rfl, ⟨fun _ _ => rfl, ⟨fun _ _ => rfl, ⟨fun _ _ => rfl, ⟨fun _ _ => rfl, ⟨trivial, ⟨trivial, ⟨fun _ _ => rfl, ⟨fun _ _ => rfl, ⟨fun _ _ => rfl, ⟨trivial, ⟨trivial, trivial⟩⟩⟩⟩⟩⟩⟩⟩⟩⟩⟩⟩⟩⟩⟩, ⟨fun _ _ => rfl, ⟨fun _ _ => rfl, ⟨trivial, ⟨trivial, ⟨trivial, trivial⟩⟩⟩⟩⟩⟩, ⟨⟨⟨fun _ _ => rfl, ⟨fun _ _ => rfl, ⟨fun _ _ => rfl, ⟨fun _ _ => rfl, ⟨fun _ _ => rfl, ⟨fun _ _ => rfl, ⟨fun _ _ => rfl, ⟨fun _ _ => rfl, ⟨fun _ _ => rfl, ⟨trivial, ⟨fun _ _ => rfl, ⟨fun _ _ => rfl, ⟨fun _ _ => rfl, ⟨trivial, ⟨trivial, trivial⟩⟩⟩⟩⟩⟩⟩⟩⟩⟩⟩⟩⟩⟩⟩, ⟨fun _ _ => rfl, ⟨fun _ _ => rfl, ⟨fun _ _ => rfl, ⟨trivial, ⟨trivial, trivial⟩⟩⟩⟩⟩⟩, ⟨⟨⟨fun _ _ => rfl, ⟨fun _ _ => rfl, ⟨fun _ _ => rfl, ⟨fun _ _ => rfl, ⟨fun _ _ => rfl, ⟨fun _ _ => rfl, ⟨fun _ _ => rfl, ⟨fun _ _ => rfl, ⟨fun _ _ => rfl, ⟨fun _ _ => rfl, ⟨fun _ _ => rfl, ⟨fun _ _ => rfl, ⟨fun _ _ => rfl, ⟨trivial, ⟨trivial, trivial⟩⟩⟩⟩⟩⟩⟩⟩⟩⟩⟩⟩⟩⟩⟩, ⟨fun _ _ => rfl, ⟨fun _ _ => rfl, ⟨fun _ _ => rfl, ⟨fun _ _ => rfl, ⟨trivial, trivial⟩⟩⟩⟩⟩⟩, trivial⟩⟩⟩⟩⟩) ?_ ?_
      · exact ⟨ob_d (ι := Nat) (l := fun g => []) (L := fun g y => [rowR 41 3 (.slice (some ⟨y, 0, none⟩) 0 0) 0 (([] : List (KR ByteArray)).flatMap kr3)]) (fun y => .slice (some ⟨y, 0, none⟩) 0 0) (fun g => o_lit0 (size := 3) Try.underlying26 (by kernel_rfl)) (fun g => by kernel_rfl) (fun g y _ => ⟨trivial, by kernel_rfl, by kernel_rfl⟩), ob_val fun g w => by kernel_rfl, ob_val fun g w => by kernel_rfl, ob_v (v := fun g => .slice (some ⟨b7, 0, none⟩) k c4) (fun g => o_cutToA (a := (some ⟨b7, 0, none⟩)) (kd := .i64) (q := (k : Int)) (h := k) (n := (hrem l key).length) (cap := c4) (size := 3) (by kernel_rfl) (by kernel_rfl) (by rfl) (by omega) Try.underlying26 (by kernel_rfl)) (fun g => by kernel_rfl), ob_d (ι := Value) (l := fun g => [rowR 41 3 (.slice (some ⟨(slOf (g 0)), 0, none⟩) 0 0) 0 (([] : List (KR ByteArray)).flatMap kr3), rowR 41 3 (.slice (some ⟨b7, 0, none⟩) ((hrem l key).length) c4) ((hrem l key).length) ((hrem l key).flatMap kr3)]) (L := fun g y => [rowR 41 3 y k (((hrem l key).take k).flatMap kr3), rowR 41 3 (.slice (some ⟨b7, 0, none⟩) ((hrem l key).length) c4) ((hrem l key).length) ((hrem l key).flatMap kr3)]) (id) (fun g => o_pushAll (n' := k) (xs' := ((hrem l key).take k).flatMap kr3) (m := k) (news := ((hrem l key).take k).flatMap kr3) (by kernel_rfl) (by kernel_rfl) (fun w S h => ⟨S, vw_take (f := kr3) h (fun _ => rfl) (by omega)⟩) sl_it04 (by decide) (recs_one (f := kr3) (fun _ => rfl) _) (by unfold maxLen; omega) (by omega) (by omega) (by first | rfl | (simp only [List.flatMap_append]; done) | (simp only [List.flatMap_append]; rfl))) (fun g => by kernel_rfl) (fun g y _ => ⟨trivial, by kernel_rfl, by kernel_rfl⟩), ob_val fun g w => by kernel_rfl, ob_s (l := fun g => [blkR b1 [iV one, iV two] 31]) (l' := fun g => [blkR b1 [iV one, iV two] 31]) (v := fun g => .agg #[iV one, iV two]) (fun g => o_loadN (i := 0) [iV one, iV two] (by kernel_rfl) (by kernel_rfl) (by kernel_rfl)) (fun g => by kernel_rfl), ob_val fun g w => by kernel_rfl, ob_d (ι := Nat) (l := fun g => []) (L := fun g y => [blkR y [sV key, iV one, iV two] 41]) (fun y => .slice (some ⟨y, 0, none⟩) 1 1) (fun g => o_lit (sz := 3) (.agg #[sV ⟨#[]⟩, iV 0, iV 0]) [sV key, iV one, iV two] Try.underlying26 (by kernel_rfl) (by kernel_rfl) (by kernel_rfl) (by kernel_rfl) (by kernel_rfl)) (fun g => by kernel_rfl) (fun g y _ => ⟨trivial, by kernel_rfl, by kernel_rfl⟩), ob_d (ι := Value) (l := fun g => [rowR 41 3 (g 4) k (((hrem l key).take k).flatMap kr3), blkR (slOf (g 8)) [sV key, iV one, iV two] 41]) (L := fun g y => [rowR 41 3 y (k + 1) ((((hrem l key).take k) ++ [((key, one, two) : KR ByteArray)]).flatMap kr3), blkR (slOf (g 8)) [sV key, iV one, iV two] 41]) (id) (fun g => o_push (n' := k + 1) (xs' := (((hrem l key).take k) ++ [((key, one, two) : KR ByteArray)]).flatMap kr3) (by kernel_rfl) (by kernel_rfl) sl_it04 (by decide) rfl (by kernel_rfl) (by unfold maxLen; omega) (by omega) (by simp) (by rw [List.flatMap_append]; rfl)) (fun g => by kernel_rfl) (fun g y _ => ⟨trivial, by kernel_rfl, by kernel_rfl⟩), ob_val fun g w => by kernel_rfl, ob_val fun g w => by kernel_rfl, ob_v (v := fun g => .slice (if c4 = k then some ⟨b7, 0, none⟩ else Option.map (fun y : Addr => y.add (k * 3)) (some ⟨b7, 0, none⟩)) ((hrem l key).length - k) (c4 - k)) (fun g => o_cutFromK (size := 3) (kd := .i64) (q := (k : Int)) (l := k) (n := (hrem l key).length) (cap := c4) (a := some ⟨b7, 0, none⟩) (by kernel_rfl) (by kernel_rfl) (by rfl) (by omega) (by omega) Try.underlying26 (by kernel_rfl)) (fun g => by kernel_rfl), ob_d (ι := Value) (l := fun g => [rowR 41 3 (g 9) (k + 1) ((((hrem l key).take k) ++ [((key, one, two) : KR ByteArray)]).flatMap kr3), rowR 41 3 (.slice (some ⟨b7, 0, none⟩) ((hrem l key).length) c4) ((hrem l key).length) ((hrem l key).flatMap kr3)]) (L := fun g y => [rowR 41 3 y (k + 1 + ((hrem l key).length - k)) (((((hrem l key).take k) ++ [((key, one, two) : KR ByteArray)]) ++ ((hrem l key).drop k)).flatMap kr3), rowR 41 3 (.slice (some ⟨b7, 0, none⟩) ((hrem l key).length) c4) ((hrem l key).length) ((hrem l key).flatMap kr3)]) (id) (fun g => o_pushAll (n' := k + 1 + ((hrem l key).length - k)) (xs' := ((((hrem l key).take k) ++ [((key, one, two) : KR ByteArray)]) ++ ((hrem l key).drop k)).flatMap kr3) (m := (hrem l key).length - k) (news := ((hrem l key).drop k).flatMap kr3) (by kernel_rfl) (by kernel_rfl) (fun w S h => ⟨S, vw_drop (f := kr3) h (fun _ => rfl) (by omega)⟩) sl_it04 (by decide) (recs_one (f := kr3) (fun _ => rfl) _) (by unfold maxLen; omega) (by omega) (by omega) (by first | rfl | (simp only [List.flatMap_append]; done) | (simp only [List.flatMap_append]; rfl))) (fun g => by kernel_rfl) (fun g y _ => ⟨trivial, by kernel_rfl, by kernel_rfl⟩), ob_val fun g w => by kernel_rfl, trivial⟩
      intro g
      refine Ex'.sub (subB_spec [6]) ?_
      refine Ex'.as [0, 1, 2, 3, 11] (σ' := [(6, (g 13))]) (Γ' := [vewR 3 (.slice a0 l.length cap) l.length (l.flatMap kr3), blkR b1 [iV one, iV two] 31, rowR 41 3 (.slice (some ⟨b7, 0, none⟩) ((hrem l key).length) c4) ((hrem l key).length) ((hrem l key).flatMap kr3), rowR 41 3 (g 13) (k + 1 + ((hrem l key).length - k)) (((((hrem l key).take k) ++ [((key, one, two) : KR ByteArray)]) ++ ((hrem l key).drop k)).flatMap kr3), blkR (slOf (g 8)) [sV key, iV one, iV two] 41]) (by kernel_rfl) rfl (by kernel_rfl) (by kernel_rfl) ?_
      generalize slOf (g 0) = b14
      generalize g 4 = v15
      generalize slOf (g 8) = b16
      generalize g 9 = v17
      generalize g 13 = v18
      refine Ex'.fact (i := 3) (R := rowR 41 3 v18 (k + 1 + ((hrem l key).length - k)) (((((hrem l key).take k) ++ [((key, one, two) : KR ByteArray)]) ++ ((hrem l key).drop k)).flatMap kr3)) (by kernel_rfl) row_slice ?_; rintro ⟨a19, c20, rfl, hc20, hc20'⟩
      have hc20'' : c20 ≤ 9223372036854775807 := hc20'
      refine Ex'.next ?_
      refine Cd.ret ?_
      refine Ex'.ret Try.results17 (RVs.tmp (v := .slice a19 (k + 1 + ((hrem l key).length - k)) c20) (by kernel_rfl) (RVs.nil)) (fun w hw => ?_)
      have e := ins_at (x := ((key, one, two) : KR ByteArray)) hsl hk hdr (fun _ q => h8 (by unfold rlt at q ⊢; exact q))
      have en : k + 1 + ((hrem l key).length - k) = (hset l ((key, one, two) : KR ByteArray)).length := by have := congrArg List.length e; simp only [List.length_append, List.length_take, List.length_drop, List.length_singleton] at this; show _ = (hins (hrem l key) ((key, one, two) : KR ByteArray)).length; omega
      have e2 : (((hrem l key).take k) ++ [((key, one, two) : KR ByteArray)]) ++ ((hrem l key).drop k) = hset l ((key, one, two) : KR ByteArray) := by unfold hset; simpa using e
      exact ⟨_, ⟨_, trivial, rfl, rfl⟩, (hw.conv 3 (R := rowR 41 3 (.slice a19 (k + 1 + ((hrem l key).length - k)) c20) (k + 1 + ((hrem l key).length - k)) (((((hrem l key).take k) ++ [((key, one, two) : KR ByteArray)]) ++ ((hrem l key).drop k)).flatMap kr3)) (R' := rowR 41 3 (.slice a19 (k + 1 + ((hrem l key).length - k)) c20) ((hset l ((key, one, two) : KR ByteArray)).length) ((hset l ((key, one, two) : KR ByteArray)).flatMap kr3)) (by kernel_rfl) (fun w S h => by rw [← en, ← e2]; exact h)).pickB [0, 3] (by kernel_rfl) (by kernel_rfl) (by kernel_rfl)⟩
  ·
    refine Cd.plan [0, 1, 3, 7, 7, 7, 39, 119, 247, 503, 1023, 2047] [] [] [] [] [fun g => iV (k : Int), fun g => bV false, fun g => bV false, fun g => undef, fun g => undef, fun g => undef, fun g => undef, fun g => undef, fun g => undef, fun g => undef, fun g => undef, fun g => bV false] (by kernel_rfl) (by kernel_rfl) rfl (trivial) ?_ ?_
    · exact ⟨ob_val fun g w => by kernel_rfl, ob_v (v := fun g => bV false) (fun g => OprV.re (pureV (v := bV (decide ((k : Int) > 0))) (by kernel_rfl) rfl fun w => by kernel_rfl) (vF h6)) (fun g => by kernel_rfl), ob_val fun g w => by kernel_rfl, ob_val fun g w => by kernel_rfl, ob_val fun g w => by kernel_rfl, ob_val fun g w => by kernel_rfl, ob_val fun g w => by kernel_rfl, ob_val fun g w => by kernel_rfl, ob_val fun g w => by kernel_rfl, ob_val fun g w => by kernel_rfl, ob_val fun g w => by kernel_rfl, ob_val fun g w => by kernel_rfl, trivial⟩
    intro g
    refine Ex'.sub (subB_spec [0, 1, 5, 6, 7, 24]) ?_
    refine Ex'.as [0, 1, 2] (σ' := [(0, .slice a3 ((hrem l key).length) c4), (1, sV key), (5, pV b1 0), (6, .slice none 0 0), (7, iV (k : Int)), (24, bV false)]) (Γ' := [vewR 3 (.slice a0 l.length cap) l.length (l.flatMap kr3), blkR b1 [iV one, iV two] 31, rowR 41 3 (.slice a3 ((hrem l key).length) c4) ((hrem l key).length) ((hrem l key).flatMap kr3)]) (by kernel_rfl) rfl (by kernel_rfl) (by kernel_rfl) ?_
    refine Ex'.next ?_
    refine Cd.condF (by kernel_rfl) ?_
    refine Cd.exit ?_
    refine Ex'.thenExit ?_
    refine Ex'.thenExit ?_
    refine Ex'.blockHit ?_
    refine Ex'.next ?_
    refine Cd.seq ?_
    refine Cd.sub (subB_spec [0, 1, 5, 7, 24]) ?_
    refine Cd.plan [0, 0, 0, 6, 15, 0, 0, 96, 224, 511, 0, 0, 3072, 8191, 16383] [(4, [(3, true, 1), (2, false, 0)]), (6, [(1, false, 0)]), (9, [(3, true, 5), (11, false, 9)]), (13, [(3, true, 10), (2, false, 0)])] [0, 8] [(0, fun _ => True), (4, fun _ => True), (8, fun _ => True), (9, fun _ => True), (13, fun _ => True)] [(3, 0, fun g => rowR 41 3 (.slice (some ⟨(slOf (g 0)), 0, none⟩) 0 0) 0 (([] : List (KR ByteArray)).flatMap kr3)), (3, 4, fun g => rowR 41 3 (g 4) k (((hrem l key).take k).flatMap kr3)), (11, 8, fun g => blkR (slOf (g 8)) [sV key, iV one, iV two] 41), (3, 9, fun g => rowR 41 3 (g 9) (k + 1) ((((hrem l key).take k) ++ [((key, one, two) : KR ByteArray)]).flatMap kr3)), (3, 13, fun g => rowR 41 3 (g 13) (k + 1 + ((hrem l key).length - k)) (((((hrem l key).take k) ++ [((key, one, two) : KR ByteArray)]) ++ ((hrem l key).drop k)).flatMap kr3))] [fun g => .slice (some ⟨(slOf (g 0)), 0, none⟩) 0 0, fun g => .slice a3 ((hrem l key).length) c4, fun g => iV (k : Int), fun g => .slice a3 k c4, fun g => (g 4), fun g => sV key, fun g => .agg #[iV one, iV two], fun g => .agg #[sV key, iV one, iV two], fun g => .slice (some ⟨(slOf (g 8)), 0, none⟩) 1 1, fun g => (g 9), fun g => .slice a3 ((hrem l key).length) c4, fun g => iV (k : Int), fun g => .slice (if c4 = k then a3 else Option.map (fun y : Addr => y.add (k * 3)) a3) ((hrem l key).length - k) (c4 - k), fun g => (g 13), fun g => (g 13)] (by kernel_rfl) (by kernel_rfl) rfl (⟨⟨⟨trivial, ⟨fun _ _ => rfl, ⟨fun _ _ => rfl, ⟨fun _ _ => rfl, ⟨trivial, ⟨fun _ _ => rfl, ⟨fun _ _ => rfl, ⟨fun _ _ => rfl, ⟨fun _ _ => rfl, ⟨trivial, ⟨fun _ _ => rfl, ⟨fun _ _ => rfl, ⟨fun _ _ => rfl, ⟨trivial, ⟨trivial, trivial⟩⟩⟩⟩⟩⟩⟩⟩⟩⟩⟩⟩⟩⟩⟩, ⟨trivial, ⟨trivial, ⟨fun _ _ => rfl, ⟨trivial, ⟨trivial, trivial⟩⟩⟩⟩⟩⟩, ⟨⟨⟨fun _ _ => rfl, ⟨fun _ _ => rfl, ⟨fun _ _ => rfl, ⟨fun _ _ => rfl, ⟨trivial, ⟨fun _ _ => rfl, ⟨fun _ _ => rfl, ⟨fun _ _ => rfl, ⟨fun _ _ => rfl, ⟨trivial, ⟨fun _ _ => rfl, ⟨fun _ _ => rfl, ⟨fun _ _ => rfl, ⟨trivial, ⟨trivial, trivial⟩⟩⟩⟩⟩⟩⟩⟩⟩⟩⟩⟩⟩⟩⟩, ⟨fun _ _ => rfl, ⟨trivial, ⟨fun _ _ => rfl, ⟨trivial, ⟨trivial, trivial⟩⟩⟩⟩⟩⟩, ⟨⟨⟨fun _ _ => rfl, ⟨fun _ _ => rfl, ⟨fun _ _ => rfl, ⟨fun _ _ => rfl, ⟨fun _ _ => rfl, ⟨fun _ _ => rfl, ⟨fun _ _ => rfl, ⟨fun _ _ => rfl, ⟨trivial, ⟨trivial, ⟨fun _ _ => rfl, ⟨fun _ _ => rfl, ⟨fun _ _ => rfl, ⟨trivial, ⟨trivial, trivial⟩⟩⟩⟩⟩⟩⟩⟩⟩⟩⟩⟩⟩⟩⟩, ⟨fun _ _ => rfl, ⟨fun _ _ => rfl, ⟨trivial, ⟨trivial, ⟨trivial, trivial⟩⟩⟩⟩⟩⟩, ⟨⟨⟨fun _ _ => rfl, ⟨fun _ _ => rfl, ⟨fun _ _ => rfl, ⟨fun _ _ => rfl, ⟨fun _ _ => rfl, ⟨fun _ _ => rfl, ⟨fun _ _ => rfl, ⟨fun _ _ => rfl, ⟨fun _ _ => rfl, ⟨trivial, ⟨fun _ _ => rfl, ⟨fun _ _ => rfl, ⟨fun _ _ => rfl, ⟨trivial, ⟨trivial, trivial⟩⟩⟩⟩⟩⟩⟩⟩⟩⟩⟩⟩⟩⟩⟩, ⟨fun _ _ => rfl, ⟨fun _ _ => rfl, ⟨fun _ _ => rfl, ⟨trivial, ⟨trivial, trivial⟩⟩⟩⟩⟩⟩, ⟨⟨⟨fun _ _ => rfl, ⟨fun _ _ => rfl, ⟨fun _ _ => rfl, ⟨fun _ _ => rfl, ⟨fun _ _ => rfl, ⟨fun _ _ => rfl, ⟨fun _ _ => rfl, ⟨fun _ _ => rfl, ⟨fun _ _ => rfl, ⟨fun _ _ => rfl, ⟨fun _ _ => rfl, ⟨fun _ _ => rfl, ⟨fun _ _ => rfl, ⟨trivial, ⟨trivial, trivial⟩⟩⟩⟩⟩⟩⟩⟩⟩⟩⟩⟩⟩⟩⟩, ⟨fun _ _ => rfl, ⟨fun _ _ => rfl, ⟨fun _ _ => rfl, ⟨fun _ _ => rfl, ⟨trivial, trivial⟩⟩⟩⟩⟩⟩, trivial⟩⟩⟩⟩⟩) ?_ ?_
    · exact ⟨ob_d (ι := Nat) (l := fun g => []) (L := fun g y => [rowR 41 3 (.slice (some ⟨y, 0, none⟩) 0 0) 0 (([] : List (KR ByteArray)).flatMap kr3)]) (fun y => .slice (some ⟨y, 0, none⟩) 0 0) (fun g => o_lit0 (size := 3) Try.underlying26 (by kernel_rfl)) (fun g => by kernel_rfl) (fun g y _ => ⟨trivial, by kernel_rfl, by kernel_rfl⟩), ob_val fun g w => by kernel_rfl, ob_val fun g w => by kernel_rfl, ob_v (v := fun g => .slice a3 k c4) (fun g => o_cutToA (a := a3) (kd := .i64) (q := (k : Int)) (h := k) (n := (hrem l key).length) (cap := c4) (size := 3) (by kernel_rfl) (by kernel_rfl) (by rfl) (by omega) Try.underlying26 (by kernel_rfl)) (fun g => by kernel_rfl), ob_d (ι := Value) (l := fun g => [rowR 41 3 (.slice (some ⟨(slOf (g 0)), 0, none⟩) 0 0) 0 (([] : List (KR ByteArray)).flatMap kr3), rowR 41 3 (.slice a3 ((hrem l key).length) c4) ((hrem l key).length) ((hrem l key).flatMap kr3)]) (L := fun g y => [rowR 41 3 y k (((hrem l key).take k).flatMap kr3), rowR 41 3 (.slice a3 ((hrem l key).length) c4) ((hrem l key).length) ((hrem l key).flatMap kr3)]) (id) (fun g => o_pushAll (n' := k) (xs' := ((hrem l key).take k).flatMap kr3) (m := k) (news := ((hrem l key).take k).flatMap kr3) (by kernel_rfl) (by kernel_rfl) (fun w S h => ⟨S, vw_take (f := kr3) h (fun _ => rfl) (by omega)⟩) sl_it04 (by decide) (recs_one (f := kr3) (fun _ => rfl) _) (by unfold maxLen; omega) (by omega) (by omega) (by first | rfl | (simp only [List.flatMap_append]; done) | (simp only [List.flatMap_append]; rfl))) (fun g => by kernel_rfl) (fun g y _ => ⟨trivial, by kernel_rfl, by kernel_rfl⟩), ob_val fun g w => by kernel_rfl, ob_s (l := fun g => [blkR b1 [iV one, iV two] 31]) (l' := fun g => [blkR b1 [iV one, iV two] 31]) (v := fun g => .agg #[iV one, iV two]) (fun g => o_loadN (i := 0) [iV one, iV two] (by kernel_rfl) (by kernel_rfl) (by kernel_rfl)) (fun g => by kernel_rfl), ob_val fun g w => by kernel_rfl, ob_d (ι := Nat) (l := fun g => []) (L := fun g y => [blkR y [sV key, iV one, iV two] 41]) (fun y => .slice (some ⟨y, 0, none⟩) 1 1) (fun g => o_lit (sz := 3) (.agg #[sV ⟨#[]⟩, iV 0, iV 0]) [sV key, iV one, iV two] Try.underlying26 (by kernel_rfl) (by kernel_rfl) (by kernel_rfl) (by kernel_rfl) (by kernel_rfl)) (fun g => by kernel_rfl) (fun g y _ => ⟨trivial, by kernel_rfl, by kernel_rfl⟩), ob_d (ι := Value) (l := fun g => [rowR 41 3 (g 4) k (((hrem l key).take k).flatMap kr3), blkR (slOf (g 8)) [sV key, iV one, iV two] 41]) (L := fun g y => [rowR 41 3 y (k + 1) ((((hrem l key).take k) ++ [((key, one, two) : KR ByteArray)]).flatMap kr3), blkR (slOf (g 8)) [sV key, iV one, iV two] 41]) (id) (fun g => o_push (n' := k + 1) (xs' := (((hrem l key).take k) ++ [((key, one, two) : KR ByteArray)]).flatMap kr3) (by kernel_rfl) (by kernel_rfl) sl_it04 (by decide) rfl (by kernel_rfl) (by unfold maxLen; omega) (by omega) (by simp) (by rw [List.flatMap_append]; rfl)) (fun g => by kernel_rfl) (fun g y _ => ⟨trivial, by kernel_rfl, by kernel_rfl⟩), ob_val fun g w => by kernel_rfl, ob_val fun g w => by kernel_rfl, ob_v (v := fun g => .slice (if c4 = k then a3 else Option.map (fun y : Addr => y.add (k * 3)) a3) ((hrem l key).length - k) (c4 - k)) (fun g => o_cutFromK (size := 3) (kd := .i64) (q := (k : Int)) (l := k) (n := (hrem l key).length) (cap := c4) (a := a3) (by kernel_rfl) (by kernel_rfl) (by rfl) (by omega) (by omega) Try.underlying26 (by kernel_rfl)) (fun g => by kernel_rfl), ob_d (ι := Value) (l := fun g => [rowR 41 3 (g 9) (k + 1) ((((hrem l key).take k) ++ [((key, one, two) : KR ByteArray)]).flatMap kr3), rowR 41 3 (.slice a3 ((hrem l key).length) c4) ((hrem l key).length) ((hrem l key).flatMap kr3)]) (L := fun g y => [rowR 41 3 y (k + 1 + ((hrem l key).length - k)) (((((hrem l key).take k) ++ [((key, one, two) : KR ByteArray)]) ++ ((hrem l key).drop k)).flatMap kr3), rowR 41 3 (.slice a3 ((hrem l key).length) c4) ((hrem l key).length) ((hrem l key).flatMap kr3)]) (id) (fun g => o_pushAll (n' := k + 1 + ((hrem l key).length - k)) (xs' := ((((hrem l key).take k) ++ [((key, one, two) : KR ByteArray)]) ++ ((hrem l key).drop k)).flatMap kr3) (m := (hrem l key).length - k) (news := ((hrem l key).drop k).flatMap kr3) (by kernel_rfl) (by kernel_rfl) (fun w S h => ⟨S, vw_drop (f := kr3) h (fun _ => rfl) (by omega)⟩) sl_it04 (by decide) (recs_one (f := kr3) (fun _ => rfl) _) (by unfold maxLen; omega) (by omega) (by omega) (by first | rfl | (simp only [List.flatMap_append]; done) | (simp only [List.flatMap_append]; rfl))) (fun g => by kernel_rfl) (fun g y _ => ⟨trivial, by kernel_rfl, by kernel_rfl⟩), ob_val fun g w => by kernel_rfl, trivial⟩
    intro g
    refine Ex'.sub (subB_spec [6]) ?_
    refine Ex'.as [0, 1, 2, 3, 11] (σ' := [(6, (g 13))]) (Γ' := [vewR 3 (.slice a0 l.length cap) l.length (l.flatMap kr3), blkR b1 [iV one, iV two] 31, rowR 41 3 (.slice a3 ((hrem l key).length) c4) ((hrem l key).length) ((hrem l key).flatMap kr3), rowR 41 3 (g 13) (k + 1 + ((hrem l key).length - k)) (((((hrem l key).take k) ++ [((key, one, two) : KR ByteArray)]) ++ ((hrem l key).drop k)).flatMap kr3), blkR (slOf (g 8)) [sV key, iV one, iV two] 41]) (by kernel_rfl) rfl (by kernel_rfl) (by kernel_rfl) ?_
    generalize slOf (g 0) = b26
    generalize g 4 = v27
    generalize slOf (g 8) = b28
    generalize g 9 = v29
    generalize g 13 = v30
    refine Ex'.fact (i := 3) (R := rowR 41 3 v30 (k + 1 + ((hrem l key).length - k)) (((((hrem l key).take k) ++ [((key, one, two) : KR ByteArray)]) ++ ((hrem l key).drop k)).flatMap kr3)) (by kernel_rfl) row_slice ?_; rintro ⟨a31, c32, rfl, hc32, hc32'⟩
    have hc32'' : c32 ≤ 9223372036854775807 := hc32'
    refine Ex'.next ?_
    refine Cd.ret ?_
    refine Ex'.ret Try.results17 (RVs.tmp (v := .slice a31 (k + 1 + ((hrem l key).length - k)) c32) (by kernel_rfl) (RVs.nil)) (fun w hw => ?_)
    have e := ins_at (x := ((key, one, two) : KR ByteArray)) hsl hk hdr (fun q => absurd q (by omega))
    have en : k + 1 + ((hrem l key).length - k) = (hset l ((key, one, two) : KR ByteArray)).length := by have := congrArg List.length e; simp only [List.length_append, List.length_take, List.length_drop, List.length_singleton] at this; show _ = (hins (hrem l key) ((key, one, two) : KR ByteArray)).length; omega
    have e2 : (((hrem l key).take k) ++ [((key, one, two) : KR ByteArray)]) ++ ((hrem l key).drop k) = hset l ((key, one, two) : KR ByteArray) := by unfold hset; simpa using e
    exact ⟨_, ⟨_, trivial, rfl, rfl⟩, (hw.conv 3 (R := rowR 41 3 (.slice a31 (k + 1 + ((hrem l key).length - k)) c32) (k + 1 + ((hrem l key).length - k)) (((((hrem l key).take k) ++ [((key, one, two) : KR ByteArray)]) ++ ((hrem l key).drop k)).flatMap kr3)) (R' := rowR 41 3 (.slice a31 (k + 1 + ((hrem l key).length - k)) c32) ((hset l ((key, one, two) : KR ByteArray)).length) ((hset l ((key, one, two) : KR ByteArray)).flatMap kr3)) (by kernel_rfl) (fun w S h => by rw [← en, ← e2]; exact h)).pickB [0, 3] (by kernel_rfl) (by kernel_rfl) (by kernel_rfl)⟩

end Go.Proofs.Ytnnjccfcalgokaa
