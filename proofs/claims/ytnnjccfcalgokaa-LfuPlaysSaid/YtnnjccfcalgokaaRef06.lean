/- cachewiseref06: its functions over rows that are read. -/
import Derived.Test.YtnnjccfcalgokaaSepV
import Derived.Test.YtnnjccfcalgokaaRefA
import Derived.Test.YtnnjccfcalgokaaHeapPureC
set_option linter.unusedVariables false
namespace Go.Proofs.Ytnnjccfcalgokaa
open Go.RowKit Go.MapKept

abbrev L2 := List (ByteArray × Int)
abbrev kz2 : ByteArray × Int := (⟨#[]⟩, 0)
abbrev kr2 (x : ByteArray × Int) : List Value := [sV x.1, iV x.2]
theorem sl_it06 : ElemT Try.prog 77 126 2 24 := elemT (z := .agg #[sV ⟨#[]⟩, iV 0]) Try.underlying77 (by kernel_rfl) rfl
/-- The row without a key. -/
def rem2 (l : L2) (key : ByteArray) : L2 := l.filter fun y => y.1 ≠ key
theorem find2_hit {l : L2} {k : Nat} {key : ByteArray} (h : ∀ y ∈ l.take k, y.1 ≠ key) (hk : k < l.length) (e : (l.getD k kz2).1 = key) : lk l key = some (l.getD k kz2).2 := by
  have e1 : l = l.take k ++ l.getD k kz2 :: l.drop (k + 1) := by
    rw [getD_in hk, ← List.drop_eq_getElem_cons hk, List.take_append_drop]
  generalize hA : l.take k = A at h e1
  generalize l.getD k kz2 = y at e e1 ⊢
  generalize l.drop (k + 1) = B at e1
  subst e1; clear hA hk
  induction A with
  | nil => subst e; simp [lk]
  | cons x A ih => rw [List.cons_append, lk, if_neg (h x (List.mem_cons_self ..))]; exact ih (fun z hz => h z (List.mem_cons_of_mem _ hz))
theorem find2_step {l : L2} {k : Nat} {key : ByteArray} (h : ∀ y ∈ l.take k, y.1 ≠ key) (hk : k < l.length) (e : ¬ (l.getD k kz2).1 = key) : ∀ y ∈ l.take (k + 1), y.1 ≠ key := by
  intro y hy
  rw [List.take_add_one, List.getElem?_eq_getElem hk] at hy
  rcases List.mem_append.1 hy with q | q
  · exact h y q
  · simp at q; subst q; rwa [getD_in hk] at e
theorem find2_miss {l : L2} {k : Nat} {key : ByteArray} (h : ∀ y ∈ l.take k, y.1 ≠ key) (hk : ¬ k < l.length) : lk l key = none := by
  rw [List.take_of_length_le (by omega)] at h
  exact lk_none.2 fun q => by obtain ⟨y, hy, e⟩ := List.mem_map.1 q; exact h y hy e
theorem rem2_step {l : L2} {k : Nat} {key : ByteArray} (hk : k < l.length) : rem2 (l.take (k + 1)) key = if (l.getD k kz2).1 ≠ key then rem2 (l.take k) key ++ [l.getD k kz2] else rem2 (l.take k) key := by
  unfold rem2
  rw [List.take_add_one, List.getElem?_eq_getElem hk, List.filter_append, getD_in hk]
  by_cases e : l[k].1 = key <;> simp [e]
theorem rem2_le (l : L2) (key : ByteArray) : (rem2 l key).length ≤ l.length := List.length_filter_le _ _
/-- Who would go, of the first k: its place, or -1. -/
def vicN (ch : Bool) (l : L2) : Nat → Int
  | 0 => -1
  | k + 1 => if vicN ch l k < 0 ∨ (l.getD k kz2).2 < (l.getD (vicN ch l k).toNat kz2).2 ∨ (ch = true ∧ (l.getD k kz2).2 = (l.getD (vicN ch l k).toNat kz2).2) then (k : Int) else vicN ch l k
theorem vicN_in (ch : Bool) (l : L2) : ∀ k, -1 ≤ vicN ch l k ∧ vicN ch l k < k
  | 0 => by simp [vicN]
  | k + 1 => by have := vicN_in ch l k; unfold vicN; split <;> omega
theorem vicN_some (ch : Bool) (l : L2) {k : Nat} (h : 0 < k) : 0 ≤ vicN ch l k := by
  induction k with
  | zero => omega
  | succ k ih =>
    unfold vicN
    split
    · omega
    · rename_i q
      rcases Nat.eq_zero_or_pos k with e | e
      · subst e; exact absurd (.inl (by simp [vicN])) q
      · exact ih e
/-- Who would go. -/
abbrev vkey (ch : Bool) (l : L2) : ByteArray := (l.getD (vicN ch l l.length).toNat kz2).1
abbrev ask2 (l : L2) (key : ByteArray) : L2 := rem2 l key ++ [(key, (lk l key).getD 0 + 1)]
def T2B (l : L2) : Prop := ∀ y ∈ l, 0 ≤ y.2 ∧ y.2 ≤ 1000000000
theorem T2B.at {l : L2} (h : T2B l) (key : ByteArray) : -1000000000 ≤ (lk l key).getD 0 ∧ (lk l key).getD 0 ≤ 1000000000 := by
  cases e : lk l key with
  | none => exact ⟨by decide, by decide⟩
  | some v => have := h (key, v) (lk_mem e); simp only [Option.getD_some]; omega
theorem T2B.rem {l : L2} (h : T2B l) (key : ByteArray) : T2B (rem2 l key) := fun y hy => h y (List.mem_filter.1 hy).1
def req06 (most : Int) (ch : Bool) (l : L2) (key : ByteArray) : L2 × Bool × ByteArray × Bool :=
  if most = 0 then (l, decide ((lk l key).getD 0 > 0), ⟨#[]⟩, false)
  else if ¬ ((lk l key).getD 0 > 0) ∧ (l.length : Int) ≥ most then (ask2 (rem2 l (vkey ch l)) key, decide ((lk l key).getD 0 > 0), vkey ch l, true)
  else (ask2 l key, decide ((lk l key).getD 0 > 0), ⟨#[]⟩, false)
def adopt06 (most : Int) (ch : Bool) (l : L2) (key : ByteArray) : Option L2 :=
  if (lk l key).getD 0 > 0 ∨ (l.length : Int) ≥ most then none else some (ask2 l key)
/-- Dropped till there are no more than M. -/
def rszN (M : Int) (ch : Bool) : Nat → L2 → L2 × List ByteArray
  | 0, l => (l, [])
  | f + 1, l => if (l.length : Int) > M then ((rszN M ch f (rem2 l (vkey ch l))).1, vkey ch l :: (rszN M ch f (rem2 l (vkey ch l))).2) else (l, [])
def rsz06 (M : Int) (ch : Bool) (l : L2) : L2 × List ByteArray := rszN M ch l.length l
theorem rem2_lt {l : L2} {y : ByteArray × Int} (hy : y ∈ l) : (rem2 l y.1).length < l.length := by
  unfold rem2
  exact List.length_filter_lt_length_iff_exists.2 ⟨y, hy, by simp⟩
theorem vkey_lt {ch : Bool} {l : L2} (h : 0 < l.length) : (rem2 l (vkey ch l)).length < l.length := by
  have h1 := vicN_some ch l h
  have h2 := (vicN_in ch l l.length).2
  have hj : (vicN ch l l.length).toNat < l.length := by omega
  have : l.getD (vicN ch l l.length).toNat kz2 ∈ l := by rw [getD_in hj]; exact List.getElem_mem hj
  exact rem2_lt this
structure RszI (M : Int) (ch : Bool) (l cl : L2) (rw : List ByteArray) (f : Nat) : Prop where
  e : rsz06 M ch l = ((rszN M ch f cl).1, rw ++ (rszN M ch f cl).2)
  len : cl.length ≤ f
  tot : rw.length + f ≤ l.length
theorem RszI.new {M : Int} {ch : Bool} {l : L2} : RszI M ch l l [] l.length := ⟨rfl, Nat.le_refl _, by simp⟩
theorem RszI.step {M : Int} {ch : Bool} {l cl : L2} {rw : List ByteArray} {f : Nat} (h : RszI M ch l cl rw f) (hM : 0 ≤ M) (hc : (cl.length : Int) > M) : RszI M ch l (rem2 cl (vkey ch cl)) (rw ++ [vkey ch cl]) (f - 1) := by
  have h1 := h.len; have h2 := h.tot; have h3 := vkey_lt (ch := ch) (l := cl) (by omega)
  obtain ⟨g, rfl⟩ : ∃ g, f = g + 1 := ⟨f - 1, by omega⟩
  have e := h.e
  rw [rszN, if_pos hc] at e
  exact ⟨by rw [e]; simp, by omega, by simp; omega⟩
theorem RszI.fin {M : Int} {ch : Bool} {l cl : L2} {rw : List ByteArray} {f : Nat} (h : RszI M ch l cl rw f) (hc : ¬ (cl.length : Int) > M) : rsz06 M ch l = (cl, rw) := by
  have e := h.e
  cases f with
  | zero => rw [e]; simp [rszN]
  | succ f => rw [rszN, if_neg hc] at e; rw [e]; simp
set_option maxHeartbeats 8000000 in
set_option maxRecDepth 100000 in
theorem t_times06 {a0 : Option Addr} {cap : Nat} {l : List (ByteArray × Int)} {most : Int} {ch : Bool} {key : ByteArray} (hl : l.length ≤ cap ∧ cap ≤ 9223372036854775807) (hb : l.length ≤ 1000000) : Tri Try.prog 43 #[.agg #[iV most, bV ch, .slice a0 l.length cap], sV key] [vewR 2 (.slice a0 l.length cap) l.length (l.flatMap kr2)] (Same [vewR 2 (.slice a0 l.length cap) l.length (l.flatMap kr2)] (iV ((lk l key).getD 0))) := by
  refine Tri.enter (args := [.agg #[iV most, bV ch, .slice a0 l.length cap], sV key]) Try.func43 rfl rfl rfl (fun B wz => ?_)
  refine Cd.seq ?_
  refine Cd.region rfl ?_
  refine Sq.ex [] (l := []) (o_newBox (v := .agg #[iV most, bV ch, .slice a0 l.length cap]) [iV most, bV ch, .slice a0 l.length cap] (by kernel_rfl) rfl) (by kernel_rfl) rfl (by kernel_rfl) (fun _ => Nat.zero_le _) ?_; intro b1 _
  refine Sq.vals [1] (rest := []) [iV 0] (fun w => by kernel_rfl) ?_
  refine Sq.done ?_
  refine Ex'.next ?_
  refine Cd.seq ?_
  refine Cd.seq ?_
  refine Cd.region rfl ?_
  refine Sq.vals [0] (rest := []) [iV 0] (fun w => by kernel_rfl) ?_
  refine Sq.done ?_
  refine Ex'.next ?_
  refine Cd.block ?_
  refine Cd.loop (ι := Nat) (fun k => k ≤ l.length ∧ ∀ y ∈ l.take k, y.1 ≠ key) (fun k => l.length - k) (fun k => [(1, sV key), (2, pV b1 0), (5, iV (k : Int))]) (fun k => [vewR 2 (.slice a0 l.length cap) l.length (l.flatMap kr2), blkR b1 [iV most, bV ch, .slice a0 l.length cap] 79]) 0 (⟨Nat.zero_le _, by simp⟩) (subB_eq (l := [1, 2, 5]) (by kernel_rfl)) (fun w hw => hw.pickB [0, 1] (by kernel_rfl) (by kernel_rfl) (by kernel_rfl)) ?_
  rintro k hL2
  try dsimp only at hL2 ⊢
  obtain ⟨hk, hno⟩ := hL2
  refine Cd.seq ?_
  refine Cd.seq ?_
  refine Cd.region rfl ?_
  refine Sq.vals [0, 1] (rest := [2, 3, 4]) [iV (k : Int), pV b1 2] (fun w => by kernel_rfl) ?_
  refine Sq.same [1] (l := [blkR b1 [iV most, bV ch, .slice a0 l.length cap] 79]) (o_load (i := 2) (v := .slice a0 l.length cap) (by kernel_rfl) (by kernel_rfl) (by kernel_rfl)) (by kernel_rfl) rfl (by kernel_rfl) rfl ?_
  refine Sq.vals [3, 4] (rest := []) [iV (l.length : Int), bV (decide ((k : Int) < (l.length : Int)))] (fun w => by kernel_rfl) ?_
  refine Sq.done ?_
  refine Ex'.next ?_
  refine Cd.case (p := (k : Int) < (l.length : Int)) (by kernel_rfl) (fun h3 => ?_) (fun h3 => ?_)
  ·
    refine Cd.fact (i := 0) (R := vewR 2 (.slice a0 l.length cap) l.length (l.flatMap kr2)) (by kernel_rfl) (vew_addr (by omega)) ?_; rintro ⟨b4, off5, rfl⟩
    refine Cd.skip ?_
    refine Ex'.next ?_
    refine Cd.seq ?_
    refine Cd.block ?_
    refine Cd.seq ?_
    refine Cd.region rfl ?_
    refine Sq.vals [0] (rest := [1, 2, 3, 4, 5, 6, 7]) [pV b1 2] (fun w => by kernel_rfl) ?_
    refine Sq.same [1] (l := [blkR b1 [iV most, bV ch, .slice (some ⟨b4, off5, none⟩) l.length cap] 79]) (o_load (i := 2) (v := .slice (some ⟨b4, off5, none⟩) l.length cap) (by kernel_rfl) (by kernel_rfl) (by kernel_rfl)) (by kernel_rfl) rfl (by kernel_rfl) rfl ?_
    refine Sq.vals [2] (rest := [3, 4, 5, 6, 7]) [iV (k : Int)] (fun w => by kernel_rfl) ?_
    refine Sq.v (r := pV b4 (off5 + k * 2)) (o_idx (b := b4) (cap := cap) (e := 126) (off := off5) (n := l.length) (kd := .i64) (q := (k : Int)) (i := k) (size := 2) (j := off5 + k * 2) (by kernel_rfl) (by kernel_rfl) (by rfl) (by omega) Try.underlying77 (by kernel_rfl) (by omega)) rfl (by kernel_rfl) ?_
    refine Sq.vals [4] (rest := [5, 6, 7]) [pV b4 (off5 + k * 2)] (fun w => by kernel_rfl) ?_
    refine Sq.same [0] (l := [vewR 2 (.slice (some ⟨b4, off5, none⟩) l.length cap) l.length (l.flatMap kr2)]) (o_loadView (off := off5) (j := k * 2) (u := sV ((l.getD k kz2).1)) (by kernel_rfl) (by omega) (by kernel_rfl) ((rec_get (f := kr2) (k := 2) (z := kz2) (l := l) (i := k) (j := 0) (fun _ => rfl) (by omega) (by decide)).trans rfl)) (by kernel_rfl) rfl (by kernel_rfl) rfl ?_
    refine Sq.vals [6] (rest := [7]) [sV key] (fun w => by kernel_rfl) ?_
    refine Sq.v (r := bV (decide ((l.getD k kz2).1 = key))) (o_eqS (a := (l.getD k kz2).1) (b := key) (by kernel_rfl) (by kernel_rfl)) rfl (by kernel_rfl) ?_
    refine Sq.done ?_
    refine Ex'.next ?_
    refine Cd.case (p := (l.getD k kz2).1 = key) (by kernel_rfl) (fun h6 => ?_) (fun h6 => ?_)
    ·
      refine Cd.seq ?_
      refine Cd.region rfl ?_
      refine Sq.vals [0] (rest := [1, 2, 3, 4, 5, 6]) [pV b1 2] (fun w => by kernel_rfl) ?_
      refine Sq.same [1] (l := [blkR b1 [iV most, bV ch, .slice (some ⟨b4, off5, none⟩) l.length cap] 79]) (o_load (i := 2) (v := .slice (some ⟨b4, off5, none⟩) l.length cap) (by kernel_rfl) (by kernel_rfl) (by kernel_rfl)) (by kernel_rfl) rfl (by kernel_rfl) rfl ?_
      refine Sq.vals [2] (rest := [3, 4, 5, 6]) [iV (k : Int)] (fun w => by kernel_rfl) ?_
      refine Sq.v (r := pV b4 (off5 + k * 2)) (o_idx (b := b4) (cap := cap) (e := 126) (off := off5) (n := l.length) (kd := .i64) (q := (k : Int)) (i := k) (size := 2) (j := off5 + k * 2) (by kernel_rfl) (by kernel_rfl) (by rfl) (by omega) Try.underlying77 (by kernel_rfl) (by omega)) rfl (by kernel_rfl) ?_
      refine Sq.vals [4] (rest := [5, 6]) [pV b4 (off5 + k * 2 + 1)] (fun w => by kernel_rfl) ?_
      refine Sq.same [0] (l := [vewR 2 (.slice (some ⟨b4, off5, none⟩) l.length cap) l.length (l.flatMap kr2)]) (o_loadView (off := off5) (j := k * 2 + 1) (u := iV ((l.getD k kz2).2)) (by kernel_rfl) (by omega) (by kernel_rfl) ((rec_get (f := kr2) (k := 2) (z := kz2) (l := l) (i := k) (j := 1) (fun _ => rfl) (by omega) (by decide)).trans rfl)) (by kernel_rfl) rfl (by kernel_rfl) rfl ?_
      refine Sq.vals [6] (rest := []) [iV ((l.getD k kz2).2)] (fun w => by kernel_rfl) ?_
      refine Sq.done ?_
      refine Ex'.next ?_
      refine Cd.ret ?_
      refine Ex'.blockRet ?_
      refine Ex'.thenRet ?_
      refine Ex'.thenRet ?_
      refine Ex'.blockRet ?_
      refine Ex'.thenRet ?_
      refine Ex'.ret Try.results43 (RVs.tmp (v := iV ((l.getD k kz2).2)) (by kernel_rfl) (RVs.nil)) (fun w hw => ?_)
      have e := find2_hit hno (by omega) h6
      rw [e]; exact ⟨_, ⟨rfl, rfl⟩, hw.pickB [0] (by kernel_rfl) (by kernel_rfl) (by kernel_rfl)⟩
    ·
      refine Cd.skip ?_
      refine Ex'.blockNormal ?_
      refine Ex'.next ?_
      refine Cd.region rfl ?_
      refine Sq.vals [0] (rest := [1, 2]) [iV (k : Int)] (fun w => by kernel_rfl) ?_
      refine Sq.v (r := iV ((k : Int) + 1)) (o_add (k := .i64) (a := (k : Int)) (b := 1) (c := (k : Int) + 1) (by kernel_rfl) (by kernel_rfl) (w64 rfl (by omega))) rfl (by kernel_rfl) ?_
      refine Sq.vals [2] (rest := []) [iV ((k : Int) + 1)] (fun w => by kernel_rfl) ?_
      refine Sq.done ?_
      refine Ex'.round (g := k) (k + 1) ?_ ?_ (subB_eq (l := [1, 2, 5]) (by kernel_rfl)) (fun w hw => hw.pickB [0, 1] (by kernel_rfl) (by kernel_rfl) (by kernel_rfl))
      · (try dsimp only); exact ⟨by omega, find2_step hno (by omega) h6⟩
      · omega
  ·
    refine Cd.exit ?_
    refine Ex'.thenExit ?_
    refine Ex'.thenExit ?_
    refine Ex'.blockHit ?_
    refine Ex'.next ?_
    refine Cd.seq ?_
    refine Cd.region rfl ?_
    refine Sq.vals [0] (rest := []) [iV 0] (fun w => by kernel_rfl) ?_
    refine Sq.done ?_
    refine Ex'.next ?_
    refine Cd.ret ?_
    refine Ex'.ret Try.results43 (RVs.tmp (v := iV 0) (by kernel_rfl) (RVs.nil)) (fun w hw => ?_)
    have e := find2_miss hno (by omega)
    rw [e]; exact ⟨_, ⟨rfl, rfl⟩, hw.pickB [0] (by kernel_rfl) (by kernel_rfl) (by kernel_rfl)⟩

set_option maxHeartbeats 8000000 in
set_option maxRecDepth 100000 in
theorem t_remove06 {a0 : Option Addr} {cap : Nat} {l : List (ByteArray × Int)} {most : Int} {ch : Bool} {key : ByteArray} (hl : l.length ≤ cap ∧ cap ≤ 9223372036854775807) (hb : l.length ≤ 1000000) : Tri Try.prog 44 #[.agg #[iV most, bV ch, .slice a0 l.length cap], sV key] [vewR 2 (.slice a0 l.length cap) l.length (l.flatMap kr2)] (PostE (fun _ => True) (fun v => .agg #[iV most, bV ch, v]) fun v => [vewR 2 (.slice a0 l.length cap) l.length (l.flatMap kr2), rowR 126 2 v ((rem2 l key).length) ((rem2 l key).flatMap kr2)]) := by
  refine Tri.enter (args := [.agg #[iV most, bV ch, .slice a0 l.length cap], sV key]) Try.func44 rfl rfl rfl (fun B wz => ?_)
  refine Cd.seq ?_
  refine Cd.region rfl ?_
  refine Sq.ex [] (l := []) (o_newBox (v := .agg #[iV most, bV ch, .slice a0 l.length cap]) [iV most, bV ch, .slice a0 l.length cap] (by kernel_rfl) rfl) (by kernel_rfl) rfl (by kernel_rfl) (fun _ => Nat.zero_le _) ?_; intro b1 _
  refine Sq.ex [] (l := []) (o_new [iV 0, bV false, .slice none 0 0] (fun w => by kernel_rfl)) (by kernel_rfl) rfl (by kernel_rfl) (fun _ => Nat.zero_le _) ?_; intro b2 _
  refine Sq.done ?_
  refine Ex'.next ?_
  refine Cd.seq ?_
  refine Cd.region rfl ?_
  refine Sq.vals [0] (rest := []) [.slice none 0 0] (fun w => by kernel_rfl) ?_
  refine Sq.done ?_
  refine Ex'.next ?_
  refine Cd.seq ?_
  refine Cd.seq ?_
  refine Cd.region rfl ?_
  refine Sq.vals [0] (rest := []) [iV 0] (fun w => by kernel_rfl) ?_
  refine Sq.done ?_
  refine Ex'.next ?_
  refine Cd.block ?_
  refine Cd.nilRow 126 2 ?_
  refine Cd.loop (ι := Nat × Value × (List (ByteArray × Int))) (fun ⟨k, rv, ow⟩ => k ≤ l.length ∧ ow = rem2 (l.take k) key) (fun ⟨k, rv, ow⟩ => l.length - k) (fun ⟨k, rv, ow⟩ => [(1, sV key), (2, pV b1 0), (4, pV b2 0), (6, iV (k : Int)), (5, rv)]) (fun ⟨k, rv, ow⟩ => [vewR 2 (.slice a0 l.length cap) l.length (l.flatMap kr2), blkR b1 [iV most, bV ch, .slice a0 l.length cap] 79, blkR b2 [iV 0, bV false, .slice none 0 0] 79, rowR 126 2 rv ow.length (ow.flatMap kr2)]) (0, .slice none 0 0, ([] : List (ByteArray × Int))) (⟨Nat.zero_le _, by simp [rem2]⟩) (subB_eq (l := [1, 2, 4, 6, 5]) (by kernel_rfl)) (fun w hw => hw.pickB [0, 1, 2, 3] (by kernel_rfl) (by kernel_rfl) (by kernel_rfl)) ?_
  rintro ⟨k, rv, ow⟩ hL3
  try dsimp only at hL3 ⊢
  obtain ⟨hk, hrw⟩ := hL3
  have hol : ow.length ≤ l.length := by rw [hrw]; exact Nat.le_trans (rem2_le _ _) (by rw [List.length_take]; omega)
  refine Cd.fact (i := 3) (R := rowR 126 2 rv ow.length (ow.flatMap kr2)) (by kernel_rfl) row_slice ?_; rintro ⟨a4, c5, rfl, hc5, hc5'⟩
  have hc5'' : c5 ≤ 9223372036854775807 := hc5'
  refine Cd.seq ?_
  refine Cd.seq ?_
  refine Cd.region rfl ?_
  refine Sq.vals [0, 1] (rest := [2, 3, 4]) [iV (k : Int), pV b1 2] (fun w => by kernel_rfl) ?_
  refine Sq.same [1] (l := [blkR b1 [iV most, bV ch, .slice a0 l.length cap] 79]) (o_load (i := 2) (v := .slice a0 l.length cap) (by kernel_rfl) (by kernel_rfl) (by kernel_rfl)) (by kernel_rfl) rfl (by kernel_rfl) rfl ?_
  refine Sq.vals [3, 4] (rest := []) [iV (l.length : Int), bV (decide ((k : Int) < (l.length : Int)))] (fun w => by kernel_rfl) ?_
  refine Sq.done ?_
  refine Ex'.next ?_
  refine Cd.case (p := (k : Int) < (l.length : Int)) (by kernel_rfl) (fun h6 => ?_) (fun h6 => ?_)
  ·
    refine Cd.fact (i := 0) (R := vewR 2 (.slice a0 l.length cap) l.length (l.flatMap kr2)) (by kernel_rfl) (vew_addr (by omega)) ?_; rintro ⟨b7, off8, rfl⟩
    refine Cd.skip ?_
    refine Ex'.next ?_
    refine Cd.seq ?_
    refine Cd.block ?_
    refine Cd.seq ?_
    refine Cd.region rfl ?_
    refine Sq.vals [0] (rest := [1, 2, 3, 4, 5, 6, 7]) [pV b1 2] (fun w => by kernel_rfl) ?_
    refine Sq.same [1] (l := [blkR b1 [iV most, bV ch, .slice (some ⟨b7, off8, none⟩) l.length cap] 79]) (o_load (i := 2) (v := .slice (some ⟨b7, off8, none⟩) l.length cap) (by kernel_rfl) (by kernel_rfl) (by kernel_rfl)) (by kernel_rfl) rfl (by kernel_rfl) rfl ?_
    refine Sq.vals [2] (rest := [3, 4, 5, 6, 7]) [iV (k : Int)] (fun w => by kernel_rfl) ?_
    refine Sq.v (r := pV b7 (off8 + k * 2)) (o_idx (b := b7) (cap := cap) (e := 126) (off := off8) (n := l.length) (kd := .i64) (q := (k : Int)) (i := k) (size := 2) (j := off8 + k * 2) (by kernel_rfl) (by kernel_rfl) (by rfl) (by omega) Try.underlying77 (by kernel_rfl) (by omega)) rfl (by kernel_rfl) ?_
    refine Sq.vals [4] (rest := [5, 6, 7]) [pV b7 (off8 + k * 2)] (fun w => by kernel_rfl) ?_
    refine Sq.same [0] (l := [vewR 2 (.slice (some ⟨b7, off8, none⟩) l.length cap) l.length (l.flatMap kr2)]) (o_loadView (off := off8) (j := k * 2) (u := sV ((l.getD k kz2).1)) (by kernel_rfl) (by omega) (by kernel_rfl) ((rec_get (f := kr2) (k := 2) (z := kz2) (l := l) (i := k) (j := 0) (fun _ => rfl) (by omega) (by decide)).trans rfl)) (by kernel_rfl) rfl (by kernel_rfl) rfl ?_
    refine Sq.vals [6] (rest := [7]) [sV key] (fun w => by kernel_rfl) ?_
    refine Sq.v (r := bV (decide ((l.getD k kz2).1 ≠ key))) (o_neS (a := (l.getD k kz2).1) (b := key) (by kernel_rfl) (by kernel_rfl)) rfl (by kernel_rfl) ?_
    refine Sq.done ?_
    refine Ex'.next ?_
    refine Cd.case (p := (l.getD k kz2).1 ≠ key) (by kernel_rfl) (fun h9 => ?_) (fun h9 => ?_)
    ·
      refine Cd.region rfl ?_
      refine Sq.vals [0, 1] (rest := [2, 3, 4, 5, 6, 7, 8]) [.slice a4 ow.length c5, pV b1 2] (fun w => by kernel_rfl) ?_
      refine Sq.same [1] (l := [blkR b1 [iV most, bV ch, .slice (some ⟨b7, off8, none⟩) l.length cap] 79]) (o_load (i := 2) (v := .slice (some ⟨b7, off8, none⟩) l.length cap) (by kernel_rfl) (by kernel_rfl) (by kernel_rfl)) (by kernel_rfl) rfl (by kernel_rfl) rfl ?_
      refine Sq.vals [3] (rest := [4, 5, 6, 7, 8]) [iV (k : Int)] (fun w => by kernel_rfl) ?_
      refine Sq.v (r := pV b7 (off8 + k * 2)) (o_idx (b := b7) (cap := cap) (e := 126) (off := off8) (n := l.length) (kd := .i64) (q := (k : Int)) (i := k) (size := 2) (j := off8 + k * 2) (by kernel_rfl) (by kernel_rfl) (by rfl) (by omega) Try.underlying77 (by kernel_rfl) (by omega)) rfl (by kernel_rfl) ?_
      refine Sq.same [0] (l := [vewR 2 (.slice (some ⟨b7, off8, none⟩) l.length cap) l.length (l.flatMap kr2)]) (o_loadViewN (off := off8) (j := k * 2) [sV ((l.getD k kz2).1), iV ((l.getD k kz2).2)] (by kernel_rfl) (by omega) (by kernel_rfl) (rec_gets (f := kr2) (k := 2) (z := kz2) (l := l) (i := k) (o := 0) (fun _ => rfl) (by omega) (Nat.le_of_ble_eq_true rfl) rfl)) (by kernel_rfl) rfl (by kernel_rfl) rfl ?_
      refine Sq.ex [] (l := []) (o_lit (sz := 2) (.agg #[sV ⟨#[]⟩, iV 0]) [sV ((l.getD k kz2).1), iV ((l.getD k kz2).2)] Try.underlying77 (by kernel_rfl) (by kernel_rfl) (by kernel_rfl) (by kernel_rfl) (by kernel_rfl)) (by kernel_rfl) rfl (by kernel_rfl) (fun _ => Nat.zero_le _) ?_; intro b10 _
      refine Sq.ex [3, 4] (l := [rowR 126 2 (.slice a4 ow.length c5) ow.length (ow.flatMap kr2), blkR b10 [sV ((l.getD k kz2).1), iV ((l.getD k kz2).2)] 126]) (o_push (n' := ow.length + 1) (xs' := (ow ++ [(l.getD k kz2)]).flatMap kr2) (by kernel_rfl) (by kernel_rfl) sl_it06 (by decide) rfl (by kernel_rfl) (by unfold maxLen; first | omega | (simp only [List.length_nil]; omega)) (by first | omega | (simp only [List.length_nil]; omega)) (by simp) (by rw [List.flatMap_append]; rfl)) (by kernel_rfl) rfl (by kernel_rfl) (fun _ => Nat.le_of_ble_eq_true (by kernel_rfl)) ?_; rintro v11 _
      refine Sq.fact (i := 3) (R := rowR 126 2 v11 (ow.length + 1) ((ow ++ [(l.getD k kz2)]).flatMap kr2)) (by kernel_rfl) row_slice ?_; rintro ⟨a12, c13, rfl, hc13, hc13'⟩
      have hc13'' : c13 ≤ 9223372036854775807 := hc13'
      refine Sq.fact (i := 3) (R := rowR 126 2 (.slice a12 (ow.length + 1) c13) (ow.length + 1) ((ow ++ [(l.getD k kz2)]).flatMap kr2)) (by kernel_rfl) (row_addr (by simp)) ?_; rintro ⟨b14, rfl⟩
      refine Sq.vals [8] (rest := []) [.slice (some ⟨b14, 0, none⟩) (ow.length + 1) c13] (fun w => by kernel_rfl) ?_
      refine Sq.done ?_
      refine Ex'.blockNormal ?_
      refine Ex'.next ?_
      refine Cd.region rfl ?_
      refine Sq.vals [0] (rest := [1, 2]) [iV (k : Int)] (fun w => by kernel_rfl) ?_
      refine Sq.v (r := iV ((k : Int) + 1)) (o_add (k := .i64) (a := (k : Int)) (b := 1) (c := (k : Int) + 1) (by kernel_rfl) (by kernel_rfl) (w64 rfl (by omega))) rfl (by kernel_rfl) ?_
      refine Sq.vals [2] (rest := []) [iV ((k : Int) + 1)] (fun w => by kernel_rfl) ?_
      refine Sq.done ?_
      refine Ex'.round (g := (k, .slice a4 ow.length c5, ow)) (k + 1, .slice (some ⟨b14, 0, none⟩) (ow.length + 1) c13, ow ++ [(l.getD k kz2)]) ?_ ?_ (subB_eq (l := [1, 2, 4, 6, 5]) (by kernel_rfl)) (fun w hw => (hw.conv 3 (R := rowR 126 2 (.slice (some ⟨b14, 0, none⟩) (ow.length + 1) c13) (ow.length + 1) ((ow ++ [(l.getD k kz2)]).flatMap kr2)) (R' := rowR 126 2 (.slice (some ⟨b14, 0, none⟩) (ow.length + 1) c13) (ow ++ [(l.getD k kz2)]).length ((ow ++ [(l.getD k kz2)]).flatMap kr2)) (by kernel_rfl) (fun w S h => by simpa using h)).pickB [0, 1, 2, 3] (by kernel_rfl) (by kernel_rfl) (by kernel_rfl))
      · (try dsimp only); exact ⟨by omega, by rw [rem2_step (by omega), hrw, if_pos h9]⟩
      · omega
    ·
      refine Cd.skip ?_
      refine Ex'.blockNormal ?_
      refine Ex'.next ?_
      refine Cd.region rfl ?_
      refine Sq.vals [0] (rest := [1, 2]) [iV (k : Int)] (fun w => by kernel_rfl) ?_
      refine Sq.v (r := iV ((k : Int) + 1)) (o_add (k := .i64) (a := (k : Int)) (b := 1) (c := (k : Int) + 1) (by kernel_rfl) (by kernel_rfl) (w64 rfl (by omega))) rfl (by kernel_rfl) ?_
      refine Sq.vals [2] (rest := []) [iV ((k : Int) + 1)] (fun w => by kernel_rfl) ?_
      refine Sq.done ?_
      refine Ex'.round (g := (k, .slice a4 ow.length c5, ow)) (k + 1, .slice a4 ow.length c5, ow) ?_ ?_ (subB_eq (l := [1, 2, 4, 6, 5]) (by kernel_rfl)) (fun w hw => hw.pickB [0, 1, 2, 3] (by kernel_rfl) (by kernel_rfl) (by kernel_rfl))
      · (try dsimp only); exact ⟨by omega, by rw [rem2_step (by omega), hrw, if_neg h9]⟩
      · omega
  ·
    refine Cd.exit ?_
    refine Ex'.thenExit ?_
    refine Ex'.thenExit ?_
    refine Ex'.blockHit ?_
    refine Ex'.next ?_
    refine Cd.seq ?_
    refine Cd.region rfl ?_
    refine Sq.vals [0, 1] (rest := [2]) [.slice a4 ow.length c5, pV b1 2] (fun w => by kernel_rfl) ?_
    refine Sq.same [1] (l := [blkR b1 [iV most, bV ch, .slice a0 l.length cap] 79]) (o_store (i := 2) (v := .slice a4 ow.length c5) (by kernel_rfl) (by kernel_rfl) (by kernel_rfl) (by kernel_rfl) (by kernel_rfl)) (by kernel_rfl) rfl (by kernel_rfl) rfl ?_
    refine Sq.done ?_
    refine Ex'.next ?_
    refine Cd.seq ?_
    refine Cd.region rfl ?_
    refine Sq.same [1] (l := [blkR b1 [iV most, bV ch, .slice a4 ow.length c5] 79]) (o_loadN (i := 0) [iV most, bV ch, .slice a4 ow.length c5] (by kernel_rfl) (by kernel_rfl) (by kernel_rfl)) (by kernel_rfl) rfl (by kernel_rfl) rfl ?_
    refine Sq.same [2] (l := [blkR b2 [iV 0, bV false, .slice none 0 0] 79]) (o_store (i := 0) (v := .agg #[iV most, bV ch, .slice a4 ow.length c5]) (by kernel_rfl) (by kernel_rfl) (by kernel_rfl) (by kernel_rfl) (by kernel_rfl)) (by kernel_rfl) rfl (by kernel_rfl) rfl ?_
    refine Sq.done ?_
    refine Ex'.next ?_
    refine Cd.ret ?_
    refine Ex'.ret Try.results44 (RVs.cellN (i := 0) (b := b2) (l := [iV most, bV ch, .slice a4 ow.length c5]) (E := 79) [iV most, bV ch, .slice a4 ow.length c5] 2 (by kernel_rfl) (by kernel_rfl) (by kernel_rfl) (by kernel_rfl) (RVs.nil)) (fun w hw => ?_)
    have e : ow = rem2 l key := by rw [hrw, List.take_of_length_le (by omega)]
    rw [← e]; exact ⟨_, ⟨.slice a4 ow.length c5, trivial, rfl, rfl⟩, hw.pickB [0, 3] (by kernel_rfl) (by kernel_rfl) (by kernel_rfl)⟩

set_option maxHeartbeats 8000000 in
set_option maxRecDepth 100000 in
theorem t_victim06 {a0 : Option Addr} {cap : Nat} {l : List (ByteArray × Int)} {most : Int} {ch : Bool} (hl : l.length ≤ cap ∧ cap ≤ 9223372036854775807) (hb : l.length ≤ 1000000) : Tri Try.prog 51 #[.agg #[iV most, bV ch, .slice a0 l.length cap]] [vewR 2 (.slice a0 l.length cap) l.length (l.flatMap kr2)] (Same [vewR 2 (.slice a0 l.length cap) l.length (l.flatMap kr2)] (if vicN ch l l.length < 0 then .tuple #[sV ⟨#[]⟩, bV false] else .tuple #[sV (l.getD (vicN ch l l.length).toNat kz2).1, bV true])) := by
  refine Tri.enter (args := [.agg #[iV most, bV ch, .slice a0 l.length cap]]) Try.func51 rfl rfl rfl (fun B wz => ?_)
  refine Cd.seq ?_
  refine Cd.region rfl ?_
  refine Sq.ex [] (l := []) (o_newBox (v := .agg #[iV most, bV ch, .slice a0 l.length cap]) [iV most, bV ch, .slice a0 l.length cap] (by kernel_rfl) rfl) (by kernel_rfl) rfl (by kernel_rfl) (fun _ => Nat.zero_le _) ?_; intro b1 _
  refine Sq.vals [1, 2] (rest := []) [sV ⟨#[]⟩, bV false] (fun w => by kernel_rfl) ?_
  refine Sq.done ?_
  refine Ex'.next ?_
  refine Cd.seq ?_
  refine Cd.region rfl ?_
  refine Sq.vals [0] (rest := []) [iV (-1)] (fun w => by kernel_rfl) ?_
  refine Sq.done ?_
  refine Ex'.next ?_
  refine Cd.seq ?_
  refine Cd.seq ?_
  refine Cd.region rfl ?_
  refine Sq.vals [0] (rest := []) [iV 0] (fun w => by kernel_rfl) ?_
  refine Sq.done ?_
  refine Ex'.next ?_
  refine Cd.block ?_
  refine Cd.loop (ι := Nat × Int) (fun ⟨k, bi⟩ => k ≤ l.length ∧ bi = vicN ch l k ∧ -1 ≤ bi ∧ bi < k) (fun ⟨k, bi⟩ => l.length - k) (fun ⟨k, bi⟩ => [(1, pV b1 0), (2, sV ⟨#[]⟩), (3, bV false), (5, iV (k : Int)), (4, iV bi)]) (fun ⟨k, bi⟩ => [vewR 2 (.slice a0 l.length cap) l.length (l.flatMap kr2), blkR b1 [iV most, bV ch, .slice a0 l.length cap] 79]) (0, -1) (⟨Nat.zero_le _, rfl, by omega, by omega⟩) (subB_eq (l := [1, 2, 3, 5, 4]) (by kernel_rfl)) (fun w hw => hw.pickB [0, 1] (by kernel_rfl) (by kernel_rfl) (by kernel_rfl)) ?_
  rintro ⟨k, bi⟩ hL2
  try dsimp only at hL2 ⊢
  obtain ⟨hk, hbi, hb0, hb1⟩ := hL2
  refine Cd.seq ?_
  refine Cd.seq ?_
  refine Cd.region rfl ?_
  refine Sq.vals [0, 1] (rest := [2, 3, 4]) [iV (k : Int), pV b1 2] (fun w => by kernel_rfl) ?_
  refine Sq.same [1] (l := [blkR b1 [iV most, bV ch, .slice a0 l.length cap] 79]) (o_load (i := 2) (v := .slice a0 l.length cap) (by kernel_rfl) (by kernel_rfl) (by kernel_rfl)) (by kernel_rfl) rfl (by kernel_rfl) rfl ?_
  refine Sq.vals [3, 4] (rest := []) [iV (l.length : Int), bV (decide ((k : Int) < (l.length : Int)))] (fun w => by kernel_rfl) ?_
  refine Sq.done ?_
  refine Ex'.next ?_
  refine Cd.case (p := (k : Int) < (l.length : Int)) (by kernel_rfl) (fun h3 => ?_) (fun h3 => ?_)
  ·
    refine Cd.fact (i := 0) (R := vewR 2 (.slice a0 l.length cap) l.length (l.flatMap kr2)) (by kernel_rfl) (vew_addr (by omega)) ?_; rintro ⟨b4, off5, rfl⟩
    refine Cd.skip ?_
    refine Ex'.next ?_
    refine Cd.seq ?_
    refine Cd.block ?_
    refine Cd.seq ?_
    by_cases h6 : bi < 0
    ·
      refine Cd.plan (0 :: 1 :: 3 :: 7 :: 15 :: 7 :: 63 :: 127 :: 255 :: 7 :: 519 :: 7 :: 3591 :: 7687 :: 15879 :: 32767 :: 65535 :: 131071 :: 262143 :: 524287 :: 1048575 :: 2097151 :: 4194303 :: 2097151 :: 16777215 :: 33554431 :: 67108863 :: 2097151 :: 136314879 :: 2097151 :: 941621247 :: 2015363071 :: 4162846719 :: 8589934591 :: 17179869183 :: 34359738367 :: []) [] [] [] [] ((fun g => iV bi) :: (fun g => bV true) :: (fun g => bV true) :: (fun g => undef) :: (fun g => undef) :: (fun g => undef) :: (fun g => undef) :: (fun g => undef) :: (fun g => undef) :: (fun g => undef) :: (fun g => undef) :: (fun g => undef) :: (fun g => undef) :: (fun g => undef) :: (fun g => undef) :: (fun g => undef) :: (fun g => bV true) :: (fun g => bV true) :: (fun g => undef) :: (fun g => undef) :: (fun g => undef) :: (fun g => undef) :: (fun g => undef) :: (fun g => undef) :: (fun g => undef) :: (fun g => undef) :: (fun g => undef) :: (fun g => undef) :: (fun g => undef) :: (fun g => undef) :: (fun g => undef) :: (fun g => undef) :: (fun g => undef) :: (fun g => undef) :: (fun g => undef) :: (fun g => bV true) :: []) (by kernel_rfl) (by kernel_rfl) rfl (trivial) ?_ ?_
      · exact ⟨ob_val fun g w => by kernel_rfl, ob_v (v := fun g => bV true) (fun g => OprV.re (pureV (v := bV (decide (bi < 0))) (by kernel_rfl) rfl fun w => by kernel_rfl) (vT h6)) (fun g => by kernel_rfl), ob_val fun g w => by kernel_rfl, ob_val fun g w => by kernel_rfl, ob_val fun g w => by kernel_rfl, ob_val fun g w => by kernel_rfl, ob_val fun g w => by kernel_rfl, ob_val fun g w => by kernel_rfl, ob_val fun g w => by kernel_rfl, ob_val fun g w => by kernel_rfl, ob_val fun g w => by kernel_rfl, ob_val fun g w => by kernel_rfl, ob_val fun g w => by kernel_rfl, ob_val fun g w => by kernel_rfl, ob_val fun g w => by kernel_rfl, ob_val fun g w => by kernel_rfl, ob_val fun g w => by kernel_rfl, ob_val fun g w => by kernel_rfl, ob_val fun g w => by kernel_rfl, ob_val fun g w => by kernel_rfl, ob_val fun g w => by kernel_rfl, ob_val fun g w => by kernel_rfl, ob_val fun g w => by kernel_rfl, ob_val fun g w => by kernel_rfl, ob_val fun g w => by kernel_rfl, ob_val fun g w => by kernel_rfl, ob_val fun g w => by kernel_rfl, ob_val fun g w => by kernel_rfl, ob_val fun g w => by kernel_rfl, ob_val fun g w => by kernel_rfl, ob_val fun g w => by kernel_rfl, ob_val fun g w => by kernel_rfl, ob_val fun g w => by kernel_rfl, ob_val fun g w => by kernel_rfl, ob_val fun g w => by kernel_rfl, ob_val fun g w => by kernel_rfl, trivial⟩
      intro g
      refine Ex'.sub (subB_spec [1, 2, 3, 5, 4, 48]) ?_
      refine Ex'.as [0, 1] (σ' := [(1, pV b1 0), (2, sV ⟨#[]⟩), (3, bV false), (5, iV (k : Int)), (4, iV bi), (48, bV true)]) (Γ' := [vewR 2 (.slice (some ⟨b4, off5, none⟩) l.length cap) l.length (l.flatMap kr2), blkR b1 [iV most, bV ch, .slice (some ⟨b4, off5, none⟩) l.length cap] 79]) (by kernel_rfl) rfl (by kernel_rfl) (by kernel_rfl) ?_
      refine Ex'.next ?_
      refine Cd.condT (by kernel_rfl) ?_
      refine Cd.region rfl ?_
      refine Sq.vals [0, 1] (rest := []) [iV (k : Int), iV (k : Int)] (fun w => by kernel_rfl) ?_
      refine Sq.done ?_
      refine Ex'.blockNormal ?_
      refine Ex'.next ?_
      refine Cd.region rfl ?_
      refine Sq.vals [0] (rest := [1, 2]) [iV (k : Int)] (fun w => by kernel_rfl) ?_
      refine Sq.v (r := iV ((k : Int) + 1)) (o_add (k := .i64) (a := (k : Int)) (b := 1) (c := (k : Int) + 1) (by kernel_rfl) (by kernel_rfl) (w64 rfl (by omega))) rfl (by kernel_rfl) ?_
      refine Sq.vals [2] (rest := []) [iV ((k : Int) + 1)] (fun w => by kernel_rfl) ?_
      refine Sq.done ?_
      refine Ex'.round (g := (k, bi)) (k + 1, (k : Int)) ?_ ?_ (subB_eq (l := [1, 2, 3, 5, 4]) (by kernel_rfl)) (fun w hw => hw.pickB [0, 1] (by kernel_rfl) (by kernel_rfl) (by kernel_rfl))
      · (try dsimp only); exact ⟨by omega, by rw [vicN, ← hbi, if_pos (.inl h6)], by omega, by omega⟩
      · omega
    ·
      by_cases h7 : (l.getD k kz2).2 < (l.getD bi.toNat kz2).2
      ·
        refine Cd.plan (0 :: 1 :: 3 :: 7 :: 15 :: 7 :: 63 :: 127 :: 255 :: 7 :: 519 :: 7 :: 3591 :: 7687 :: 15879 :: 32767 :: 65535 :: 131071 :: 262143 :: 524287 :: 1048575 :: 2097151 :: 4194303 :: 2097151 :: 16777215 :: 33554431 :: 67108863 :: 2097151 :: 136314879 :: 2097151 :: 941621247 :: 2015363071 :: 4162846719 :: 8589934591 :: 17179869183 :: 34359738367 :: []) [(4, [(1, false, 0)]), (8, [(0, false, 0)]), (10, [(1, false, 0)]), (14, [(0, false, 0)])] [] [] [] ((fun g => iV bi) :: (fun g => bV false) :: (fun g => bV false) :: (fun g => pV b1 2) :: (fun g => .slice (some ⟨b4, off5, none⟩) l.length cap) :: (fun g => iV (k : Int)) :: (fun g => pV b4 (off5 + k * 2)) :: (fun g => pV b4 (off5 + k * 2 + 1)) :: (fun g => iV ((l.getD k kz2).2)) :: (fun g => pV b1 2) :: (fun g => .slice (some ⟨b4, off5, none⟩) l.length cap) :: (fun g => iV bi) :: (fun g => pV b4 (off5 + bi.toNat * 2)) :: (fun g => pV b4 (off5 + bi.toNat * 2 + 1)) :: (fun g => iV ((l.getD bi.toNat kz2).2)) :: (fun g => bV true) :: (fun g => bV true) :: (fun g => bV true) :: (fun g => undef) :: (fun g => undef) :: (fun g => undef) :: (fun g => undef) :: (fun g => undef) :: (fun g => undef) :: (fun g => undef) :: (fun g => undef) :: (fun g => undef) :: (fun g => undef) :: (fun g => undef) :: (fun g => undef) :: (fun g => undef) :: (fun g => undef) :: (fun g => undef) :: (fun g => undef) :: (fun g => undef) :: (fun g => bV true) :: []) (by kernel_rfl) (by kernel_rfl) rfl (trivial) ?_ ?_
        · exact ⟨ob_val fun g w => by kernel_rfl, ob_v (v := fun g => bV false) (fun g => OprV.re (pureV (v := bV (decide (bi < 0))) (by kernel_rfl) rfl fun w => by kernel_rfl) (vF h6)) (fun g => by kernel_rfl), ob_val fun g w => by kernel_rfl, ob_val fun g w => by kernel_rfl, ob_s (l := fun g => [blkR b1 [iV most, bV ch, .slice (some ⟨b4, off5, none⟩) l.length cap] 79]) (l' := fun g => [blkR b1 [iV most, bV ch, .slice (some ⟨b4, off5, none⟩) l.length cap] 79]) (v := fun g => .slice (some ⟨b4, off5, none⟩) l.length cap) (fun g => o_load (i := 2) (v := .slice (some ⟨b4, off5, none⟩) l.length cap) (by kernel_rfl) (by kernel_rfl) (by kernel_rfl)) (fun g => by kernel_rfl), ob_val fun g w => by kernel_rfl, ob_v (v := fun g => pV b4 (off5 + k * 2)) (fun g => o_idx (b := b4) (cap := cap) (e := 126) (off := off5) (n := l.length) (kd := .i64) (q := (k : Int)) (i := k) (size := 2) (j := off5 + k * 2) (by kernel_rfl) (by kernel_rfl) (by rfl) (by omega) Try.underlying77 (by kernel_rfl) (by omega)) (fun g => by kernel_rfl), ob_val fun g w => by kernel_rfl, ob_s (l := fun g => [vewR 2 (.slice (some ⟨b4, off5, none⟩) l.length cap) l.length (l.flatMap kr2)]) (l' := fun g => [vewR 2 (.slice (some ⟨b4, off5, none⟩) l.length cap) l.length (l.flatMap kr2)]) (v := fun g => iV ((l.getD k kz2).2)) (fun g => o_loadView (off := off5) (j := k * 2 + 1) (u := iV ((l.getD k kz2).2)) (by kernel_rfl) (by omega) (by kernel_rfl) ((rec_get (f := kr2) (k := 2) (z := kz2) (l := l) (i := k) (j := 1) (fun _ => rfl) (by omega) (by decide)).trans rfl)) (fun g => by kernel_rfl), ob_val fun g w => by kernel_rfl, ob_s (l := fun g => [blkR b1 [iV most, bV ch, .slice (some ⟨b4, off5, none⟩) l.length cap] 79]) (l' := fun g => [blkR b1 [iV most, bV ch, .slice (some ⟨b4, off5, none⟩) l.length cap] 79]) (v := fun g => .slice (some ⟨b4, off5, none⟩) l.length cap) (fun g => o_load (i := 2) (v := .slice (some ⟨b4, off5, none⟩) l.length cap) (by kernel_rfl) (by kernel_rfl) (by kernel_rfl)) (fun g => by kernel_rfl), ob_val fun g w => by kernel_rfl, ob_v (v := fun g => pV b4 (off5 + bi.toNat * 2)) (fun g => o_idx (b := b4) (cap := cap) (e := 126) (off := off5) (n := l.length) (kd := .i64) (q := bi) (i := bi.toNat) (size := 2) (j := off5 + bi.toNat * 2) (by kernel_rfl) (by kernel_rfl) (by omega) (by omega) Try.underlying77 (by kernel_rfl) (by omega)) (fun g => by kernel_rfl), ob_val fun g w => by kernel_rfl, ob_s (l := fun g => [vewR 2 (.slice (some ⟨b4, off5, none⟩) l.length cap) l.length (l.flatMap kr2)]) (l' := fun g => [vewR 2 (.slice (some ⟨b4, off5, none⟩) l.length cap) l.length (l.flatMap kr2)]) (v := fun g => iV ((l.getD bi.toNat kz2).2)) (fun g => o_loadView (off := off5) (j := bi.toNat * 2 + 1) (u := iV ((l.getD bi.toNat kz2).2)) (by kernel_rfl) (by omega) (by kernel_rfl) ((rec_get (f := kr2) (k := 2) (z := kz2) (l := l) (i := bi.toNat) (j := 1) (fun _ => rfl) (by omega) (by decide)).trans rfl)) (fun g => by kernel_rfl), ob_v (v := fun g => bV true) (fun g => OprV.re (pureV (v := bV (decide ((l.getD k kz2).2 < (l.getD bi.toNat kz2).2))) (by kernel_rfl) rfl fun w => by kernel_rfl) (vT h7)) (fun g => by kernel_rfl), ob_val fun g w => by kernel_rfl, ob_val fun g w => by kernel_rfl, ob_val fun g w => by kernel_rfl, ob_val fun g w => by kernel_rfl, ob_val fun g w => by kernel_rfl, ob_val fun g w => by kernel_rfl, ob_val fun g w => by kernel_rfl, ob_val fun g w => by kernel_rfl, ob_val fun g w => by kernel_rfl, ob_val fun g w => by kernel_rfl, ob_val fun g w => by kernel_rfl, ob_val fun g w => by kernel_rfl, ob_val fun g w => by kernel_rfl, ob_val fun g w => by kernel_rfl, ob_val fun g w => by kernel_rfl, ob_val fun g w => by kernel_rfl, ob_val fun g w => by kernel_rfl, ob_val fun g w => by kernel_rfl, ob_val fun g w => by kernel_rfl, ob_val fun g w => by kernel_rfl, trivial⟩
        intro g
        refine Ex'.sub (subB_spec [1, 2, 3, 5, 4, 48]) ?_
        refine Ex'.as [0, 1] (σ' := [(1, pV b1 0), (2, sV ⟨#[]⟩), (3, bV false), (5, iV (k : Int)), (4, iV bi), (48, bV true)]) (Γ' := [vewR 2 (.slice (some ⟨b4, off5, none⟩) l.length cap) l.length (l.flatMap kr2), blkR b1 [iV most, bV ch, .slice (some ⟨b4, off5, none⟩) l.length cap] 79]) (by kernel_rfl) rfl (by kernel_rfl) (by kernel_rfl) ?_
        refine Ex'.next ?_
        refine Cd.condT (by kernel_rfl) ?_
        refine Cd.region rfl ?_
        refine Sq.vals [0, 1] (rest := []) [iV (k : Int), iV (k : Int)] (fun w => by kernel_rfl) ?_
        refine Sq.done ?_
        refine Ex'.blockNormal ?_
        refine Ex'.next ?_
        refine Cd.region rfl ?_
        refine Sq.vals [0] (rest := [1, 2]) [iV (k : Int)] (fun w => by kernel_rfl) ?_
        refine Sq.v (r := iV ((k : Int) + 1)) (o_add (k := .i64) (a := (k : Int)) (b := 1) (c := (k : Int) + 1) (by kernel_rfl) (by kernel_rfl) (w64 rfl (by omega))) rfl (by kernel_rfl) ?_
        refine Sq.vals [2] (rest := []) [iV ((k : Int) + 1)] (fun w => by kernel_rfl) ?_
        refine Sq.done ?_
        refine Ex'.round (g := (k, bi)) (k + 1, (k : Int)) ?_ ?_ (subB_eq (l := [1, 2, 3, 5, 4]) (by kernel_rfl)) (fun w hw => hw.pickB [0, 1] (by kernel_rfl) (by kernel_rfl) (by kernel_rfl))
        · (try dsimp only); exact ⟨by omega, by rw [vicN, ← hbi, if_pos (.inr (.inl h7))], by omega, by omega⟩
        · omega
      ·
        rcases Bool.eq_false_or_eq_true (ch) with h8 | h8
        ·
          refine Cd.plan (0 :: 1 :: 3 :: 7 :: 15 :: 7 :: 63 :: 127 :: 255 :: 7 :: 519 :: 7 :: 3591 :: 7687 :: 15879 :: 32767 :: 65535 :: 131071 :: 262143 :: 524287 :: 1048575 :: 2097151 :: 4194303 :: 2097151 :: 16777215 :: 33554431 :: 67108863 :: 2097151 :: 136314879 :: 2097151 :: 941621247 :: 2015363071 :: 4162846719 :: 8589934591 :: 17179869183 :: 34359738367 :: []) [(4, [(1, false, 0)]), (8, [(0, false, 0)]), (10, [(1, false, 0)]), (14, [(0, false, 0)]), (19, [(1, false, 0)]), (22, [(1, false, 0)]), (26, [(0, false, 0)]), (28, [(1, false, 0)]), (32, [(0, false, 0)])] [] [] [] ((fun g => iV bi) :: (fun g => bV false) :: (fun g => bV false) :: (fun g => pV b1 2) :: (fun g => .slice (some ⟨b4, off5, none⟩) l.length cap) :: (fun g => iV (k : Int)) :: (fun g => pV b4 (off5 + k * 2)) :: (fun g => pV b4 (off5 + k * 2 + 1)) :: (fun g => iV ((l.getD k kz2).2)) :: (fun g => pV b1 2) :: (fun g => .slice (some ⟨b4, off5, none⟩) l.length cap) :: (fun g => iV bi) :: (fun g => pV b4 (off5 + bi.toNat * 2)) :: (fun g => pV b4 (off5 + bi.toNat * 2 + 1)) :: (fun g => iV ((l.getD bi.toNat kz2).2)) :: (fun g => bV false) :: (fun g => bV false) :: (fun g => bV false) :: (fun g => pV b1 1) :: (fun g => bV ch) :: (fun g => bV true) :: (fun g => pV b1 2) :: (fun g => .slice (some ⟨b4, off5, none⟩) l.length cap) :: (fun g => iV (k : Int)) :: (fun g => pV b4 (off5 + k * 2)) :: (fun g => pV b4 (off5 + k * 2 + 1)) :: (fun g => iV ((l.getD k kz2).2)) :: (fun g => pV b1 2) :: (fun g => .slice (some ⟨b4, off5, none⟩) l.length cap) :: (fun g => iV bi) :: (fun g => pV b4 (off5 + bi.toNat * 2)) :: (fun g => pV b4 (off5 + bi.toNat * 2 + 1)) :: (fun g => iV ((l.getD bi.toNat kz2).2)) :: (fun g => bV (decide ((l.getD k kz2).2 = (l.getD bi.toNat kz2).2))) :: (fun g => bV (decide ((l.getD k kz2).2 = (l.getD bi.toNat kz2).2))) :: (fun g => bV (decide ((l.getD k kz2).2 = (l.getD bi.toNat kz2).2))) :: []) (by kernel_rfl) (by kernel_rfl) rfl (trivial) ?_ ?_
          · exact ⟨ob_val fun g w => by kernel_rfl, ob_v (v := fun g => bV false) (fun g => OprV.re (pureV (v := bV (decide (bi < 0))) (by kernel_rfl) rfl fun w => by kernel_rfl) (vF h6)) (fun g => by kernel_rfl), ob_val fun g w => by kernel_rfl, ob_val fun g w => by kernel_rfl, ob_s (l := fun g => [blkR b1 [iV most, bV ch, .slice (some ⟨b4, off5, none⟩) l.length cap] 79]) (l' := fun g => [blkR b1 [iV most, bV ch, .slice (some ⟨b4, off5, none⟩) l.length cap] 79]) (v := fun g => .slice (some ⟨b4, off5, none⟩) l.length cap) (fun g => o_load (i := 2) (v := .slice (some ⟨b4, off5, none⟩) l.length cap) (by kernel_rfl) (by kernel_rfl) (by kernel_rfl)) (fun g => by kernel_rfl), ob_val fun g w => by kernel_rfl, ob_v (v := fun g => pV b4 (off5 + k * 2)) (fun g => o_idx (b := b4) (cap := cap) (e := 126) (off := off5) (n := l.length) (kd := .i64) (q := (k : Int)) (i := k) (size := 2) (j := off5 + k * 2) (by kernel_rfl) (by kernel_rfl) (by rfl) (by omega) Try.underlying77 (by kernel_rfl) (by omega)) (fun g => by kernel_rfl), ob_val fun g w => by kernel_rfl, ob_s (l := fun g => [vewR 2 (.slice (some ⟨b4, off5, none⟩) l.length cap) l.length (l.flatMap kr2)]) (l' := fun g => [vewR 2 (.slice (some ⟨b4, off5, none⟩) l.length cap) l.length (l.flatMap kr2)]) (v := fun g => iV ((l.getD k kz2).2)) (fun g => o_loadView (off := off5) (j := k * 2 + 1) (u := iV ((l.getD k kz2).2)) (by kernel_rfl) (by omega) (by kernel_rfl) ((rec_get (f := kr2) (k := 2) (z := kz2) (l := l) (i := k) (j := 1) (fun _ => rfl) (by omega) (by decide)).trans rfl)) (fun g => by kernel_rfl), ob_val fun g w => by kernel_rfl, ob_s (l := fun g => [blkR b1 [iV most, bV ch, .slice (some ⟨b4, off5, none⟩) l.length cap] 79]) (l' := fun g => [blkR b1 [iV most, bV ch, .slice (some ⟨b4, off5, none⟩) l.length cap] 79]) (v := fun g => .slice (some ⟨b4, off5, none⟩) l.length cap) (fun g => o_load (i := 2) (v := .slice (some ⟨b4, off5, none⟩) l.length cap) (by kernel_rfl) (by kernel_rfl) (by kernel_rfl)) (fun g => by kernel_rfl), ob_val fun g w => by kernel_rfl, ob_v (v := fun g => pV b4 (off5 + bi.toNat * 2)) (fun g => o_idx (b := b4) (cap := cap) (e := 126) (off := off5) (n := l.length) (kd := .i64) (q := bi) (i := bi.toNat) (size := 2) (j := off5 + bi.toNat * 2) (by kernel_rfl) (by kernel_rfl) (by omega) (by omega) Try.underlying77 (by kernel_rfl) (by omega)) (fun g => by kernel_rfl), ob_val fun g w => by kernel_rfl, ob_s (l := fun g => [vewR 2 (.slice (some ⟨b4, off5, none⟩) l.length cap) l.length (l.flatMap kr2)]) (l' := fun g => [vewR 2 (.slice (some ⟨b4, off5, none⟩) l.length cap) l.length (l.flatMap kr2)]) (v := fun g => iV ((l.getD bi.toNat kz2).2)) (fun g => o_loadView (off := off5) (j := bi.toNat * 2 + 1) (u := iV ((l.getD bi.toNat kz2).2)) (by kernel_rfl) (by omega) (by kernel_rfl) ((rec_get (f := kr2) (k := 2) (z := kz2) (l := l) (i := bi.toNat) (j := 1) (fun _ => rfl) (by omega) (by decide)).trans rfl)) (fun g => by kernel_rfl), ob_v (v := fun g => bV false) (fun g => OprV.re (pureV (v := bV (decide ((l.getD k kz2).2 < (l.getD bi.toNat kz2).2))) (by kernel_rfl) rfl fun w => by kernel_rfl) (vF h7)) (fun g => by kernel_rfl), ob_val fun g w => by kernel_rfl, ob_val fun g w => by kernel_rfl, ob_val fun g w => by kernel_rfl, ob_s (l := fun g => [blkR b1 [iV most, bV ch, .slice (some ⟨b4, off5, none⟩) l.length cap] 79]) (l' := fun g => [blkR b1 [iV most, bV ch, .slice (some ⟨b4, off5, none⟩) l.length cap] 79]) (v := fun g => bV ch) (fun g => o_load (i := 1) (v := bV ch) (by kernel_rfl) (by kernel_rfl) (by kernel_rfl)) (fun g => by kernel_rfl), ob_v (v := fun g => bV true) (fun g => OprV.re (pureV (v := bV ch) (by kernel_rfl) rfl fun w => by kernel_rfl) (congrArg Value.bool (show ch = true from h8))) (fun g => by kernel_rfl), ob_val fun g w => by kernel_rfl, ob_s (l := fun g => [blkR b1 [iV most, bV ch, .slice (some ⟨b4, off5, none⟩) l.length cap] 79]) (l' := fun g => [blkR b1 [iV most, bV ch, .slice (some ⟨b4, off5, none⟩) l.length cap] 79]) (v := fun g => .slice (some ⟨b4, off5, none⟩) l.length cap) (fun g => o_load (i := 2) (v := .slice (some ⟨b4, off5, none⟩) l.length cap) (by kernel_rfl) (by kernel_rfl) (by kernel_rfl)) (fun g => by kernel_rfl), ob_val fun g w => by kernel_rfl, ob_v (v := fun g => pV b4 (off5 + k * 2)) (fun g => o_idx (b := b4) (cap := cap) (e := 126) (off := off5) (n := l.length) (kd := .i64) (q := (k : Int)) (i := k) (size := 2) (j := off5 + k * 2) (by kernel_rfl) (by kernel_rfl) (by rfl) (by omega) Try.underlying77 (by kernel_rfl) (by omega)) (fun g => by kernel_rfl), ob_val fun g w => by kernel_rfl, ob_s (l := fun g => [vewR 2 (.slice (some ⟨b4, off5, none⟩) l.length cap) l.length (l.flatMap kr2)]) (l' := fun g => [vewR 2 (.slice (some ⟨b4, off5, none⟩) l.length cap) l.length (l.flatMap kr2)]) (v := fun g => iV ((l.getD k kz2).2)) (fun g => o_loadView (off := off5) (j := k * 2 + 1) (u := iV ((l.getD k kz2).2)) (by kernel_rfl) (by omega) (by kernel_rfl) ((rec_get (f := kr2) (k := 2) (z := kz2) (l := l) (i := k) (j := 1) (fun _ => rfl) (by omega) (by decide)).trans rfl)) (fun g => by kernel_rfl), ob_val fun g w => by kernel_rfl, ob_s (l := fun g => [blkR b1 [iV most, bV ch, .slice (some ⟨b4, off5, none⟩) l.length cap] 79]) (l' := fun g => [blkR b1 [iV most, bV ch, .slice (some ⟨b4, off5, none⟩) l.length cap] 79]) (v := fun g => .slice (some ⟨b4, off5, none⟩) l.length cap) (fun g => o_load (i := 2) (v := .slice (some ⟨b4, off5, none⟩) l.length cap) (by kernel_rfl) (by kernel_rfl) (by kernel_rfl)) (fun g => by kernel_rfl), ob_val fun g w => by kernel_rfl, ob_v (v := fun g => pV b4 (off5 + bi.toNat * 2)) (fun g => o_idx (b := b4) (cap := cap) (e := 126) (off := off5) (n := l.length) (kd := .i64) (q := bi) (i := bi.toNat) (size := 2) (j := off5 + bi.toNat * 2) (by kernel_rfl) (by kernel_rfl) (by omega) (by omega) Try.underlying77 (by kernel_rfl) (by omega)) (fun g => by kernel_rfl), ob_val fun g w => by kernel_rfl, ob_s (l := fun g => [vewR 2 (.slice (some ⟨b4, off5, none⟩) l.length cap) l.length (l.flatMap kr2)]) (l' := fun g => [vewR 2 (.slice (some ⟨b4, off5, none⟩) l.length cap) l.length (l.flatMap kr2)]) (v := fun g => iV ((l.getD bi.toNat kz2).2)) (fun g => o_loadView (off := off5) (j := bi.toNat * 2 + 1) (u := iV ((l.getD bi.toNat kz2).2)) (by kernel_rfl) (by omega) (by kernel_rfl) ((rec_get (f := kr2) (k := 2) (z := kz2) (l := l) (i := bi.toNat) (j := 1) (fun _ => rfl) (by omega) (by decide)).trans rfl)) (fun g => by kernel_rfl), ob_v (v := fun g => bV (decide ((l.getD k kz2).2 = (l.getD bi.toNat kz2).2))) (fun g => o_eqI (k := .i64) (a := (l.getD k kz2).2) (b := (l.getD bi.toNat kz2).2) (by kernel_rfl) (by kernel_rfl)) (fun g => by kernel_rfl), ob_val fun g w => by kernel_rfl, ob_val fun g w => by kernel_rfl, trivial⟩
          intro g
          refine Ex'.sub (subB_spec [1, 2, 3, 5, 4, 48]) ?_
          refine Ex'.as [0, 1] (σ' := [(1, pV b1 0), (2, sV ⟨#[]⟩), (3, bV false), (5, iV (k : Int)), (4, iV bi), (48, bV (decide ((l.getD k kz2).2 = (l.getD bi.toNat kz2).2)))]) (Γ' := [vewR 2 (.slice (some ⟨b4, off5, none⟩) l.length cap) l.length (l.flatMap kr2), blkR b1 [iV most, bV ch, .slice (some ⟨b4, off5, none⟩) l.length cap] 79]) (by kernel_rfl) rfl (by kernel_rfl) (by kernel_rfl) ?_
          refine Ex'.next ?_
          refine Cd.case (p := (l.getD k kz2).2 = (l.getD bi.toNat kz2).2) (by kernel_rfl) (fun h9 => ?_) (fun h9 => ?_)
          ·
            refine Cd.region rfl ?_
            refine Sq.vals [0, 1] (rest := []) [iV (k : Int), iV (k : Int)] (fun w => by kernel_rfl) ?_
            refine Sq.done ?_
            refine Ex'.blockNormal ?_
            refine Ex'.next ?_
            refine Cd.region rfl ?_
            refine Sq.vals [0] (rest := [1, 2]) [iV (k : Int)] (fun w => by kernel_rfl) ?_
            refine Sq.v (r := iV ((k : Int) + 1)) (o_add (k := .i64) (a := (k : Int)) (b := 1) (c := (k : Int) + 1) (by kernel_rfl) (by kernel_rfl) (w64 rfl (by omega))) rfl (by kernel_rfl) ?_
            refine Sq.vals [2] (rest := []) [iV ((k : Int) + 1)] (fun w => by kernel_rfl) ?_
            refine Sq.done ?_
            refine Ex'.round (g := (k, bi)) (k + 1, (k : Int)) ?_ ?_ (subB_eq (l := [1, 2, 3, 5, 4]) (by kernel_rfl)) (fun w hw => hw.pickB [0, 1] (by kernel_rfl) (by kernel_rfl) (by kernel_rfl))
            · (try dsimp only); exact ⟨by omega, by rw [vicN, ← hbi, if_pos (.inr (.inr ⟨h8, h9⟩))], by omega, by omega⟩
            · omega
          ·
            refine Cd.skip ?_
            refine Ex'.blockNormal ?_
            refine Ex'.next ?_
            refine Cd.region rfl ?_
            refine Sq.vals [0] (rest := [1, 2]) [iV (k : Int)] (fun w => by kernel_rfl) ?_
            refine Sq.v (r := iV ((k : Int) + 1)) (o_add (k := .i64) (a := (k : Int)) (b := 1) (c := (k : Int) + 1) (by kernel_rfl) (by kernel_rfl) (w64 rfl (by omega))) rfl (by kernel_rfl) ?_
            refine Sq.vals [2] (rest := []) [iV ((k : Int) + 1)] (fun w => by kernel_rfl) ?_
            refine Sq.done ?_
            refine Ex'.round (g := (k, bi)) (k + 1, bi) ?_ ?_ (subB_eq (l := [1, 2, 3, 5, 4]) (by kernel_rfl)) (fun w hw => hw.pickB [0, 1] (by kernel_rfl) (by kernel_rfl) (by kernel_rfl))
            · (try dsimp only); exact ⟨by omega, by rw [vicN, ← hbi, if_neg (fun q => q.elim (fun q => h6 q) (fun q => q.elim (fun q => h7 q) (fun q => h9 q.2)))], by omega, by omega⟩
            · omega
        ·
          refine Cd.plan (0 :: 1 :: 3 :: 7 :: 15 :: 7 :: 63 :: 127 :: 255 :: 7 :: 519 :: 7 :: 3591 :: 7687 :: 15879 :: 32767 :: 65535 :: 131071 :: 262143 :: 524287 :: 1048575 :: 2097151 :: 4194303 :: 2097151 :: 16777215 :: 33554431 :: 67108863 :: 2097151 :: 136314879 :: 2097151 :: 941621247 :: 2015363071 :: 4162846719 :: 8589934591 :: 17179869183 :: 34359738367 :: []) [(4, [(1, false, 0)]), (8, [(0, false, 0)]), (10, [(1, false, 0)]), (14, [(0, false, 0)]), (19, [(1, false, 0)])] [] [] [] ((fun g => iV bi) :: (fun g => bV false) :: (fun g => bV false) :: (fun g => pV b1 2) :: (fun g => .slice (some ⟨b4, off5, none⟩) l.length cap) :: (fun g => iV (k : Int)) :: (fun g => pV b4 (off5 + k * 2)) :: (fun g => pV b4 (off5 + k * 2 + 1)) :: (fun g => iV ((l.getD k kz2).2)) :: (fun g => pV b1 2) :: (fun g => .slice (some ⟨b4, off5, none⟩) l.length cap) :: (fun g => iV bi) :: (fun g => pV b4 (off5 + bi.toNat * 2)) :: (fun g => pV b4 (off5 + bi.toNat * 2 + 1)) :: (fun g => iV ((l.getD bi.toNat kz2).2)) :: (fun g => bV false) :: (fun g => bV false) :: (fun g => bV false) :: (fun g => pV b1 1) :: (fun g => bV ch) :: (fun g => bV false) :: (fun g => undef) :: (fun g => undef) :: (fun g => undef) :: (fun g => undef) :: (fun g => undef) :: (fun g => undef) :: (fun g => undef) :: (fun g => undef) :: (fun g => undef) :: (fun g => undef) :: (fun g => undef) :: (fun g => undef) :: (fun g => undef) :: (fun g => bV false) :: (fun g => bV false) :: []) (by kernel_rfl) (by kernel_rfl) rfl (trivial) ?_ ?_
          · exact ⟨ob_val fun g w => by kernel_rfl, ob_v (v := fun g => bV false) (fun g => OprV.re (pureV (v := bV (decide (bi < 0))) (by kernel_rfl) rfl fun w => by kernel_rfl) (vF h6)) (fun g => by kernel_rfl), ob_val fun g w => by kernel_rfl, ob_val fun g w => by kernel_rfl, ob_s (l := fun g => [blkR b1 [iV most, bV ch, .slice (some ⟨b4, off5, none⟩) l.length cap] 79]) (l' := fun g => [blkR b1 [iV most, bV ch, .slice (some ⟨b4, off5, none⟩) l.length cap] 79]) (v := fun g => .slice (some ⟨b4, off5, none⟩) l.length cap) (fun g => o_load (i := 2) (v := .slice (some ⟨b4, off5, none⟩) l.length cap) (by kernel_rfl) (by kernel_rfl) (by kernel_rfl)) (fun g => by kernel_rfl), ob_val fun g w => by kernel_rfl, ob_v (v := fun g => pV b4 (off5 + k * 2)) (fun g => o_idx (b := b4) (cap := cap) (e := 126) (off := off5) (n := l.length) (kd := .i64) (q := (k : Int)) (i := k) (size := 2) (j := off5 + k * 2) (by kernel_rfl) (by kernel_rfl) (by rfl) (by omega) Try.underlying77 (by kernel_rfl) (by omega)) (fun g => by kernel_rfl), ob_val fun g w => by kernel_rfl, ob_s (l := fun g => [vewR 2 (.slice (some ⟨b4, off5, none⟩) l.length cap) l.length (l.flatMap kr2)]) (l' := fun g => [vewR 2 (.slice (some ⟨b4, off5, none⟩) l.length cap) l.length (l.flatMap kr2)]) (v := fun g => iV ((l.getD k kz2).2)) (fun g => o_loadView (off := off5) (j := k * 2 + 1) (u := iV ((l.getD k kz2).2)) (by kernel_rfl) (by omega) (by kernel_rfl) ((rec_get (f := kr2) (k := 2) (z := kz2) (l := l) (i := k) (j := 1) (fun _ => rfl) (by omega) (by decide)).trans rfl)) (fun g => by kernel_rfl), ob_val fun g w => by kernel_rfl, ob_s (l := fun g => [blkR b1 [iV most, bV ch, .slice (some ⟨b4, off5, none⟩) l.length cap] 79]) (l' := fun g => [blkR b1 [iV most, bV ch, .slice (some ⟨b4, off5, none⟩) l.length cap] 79]) (v := fun g => .slice (some ⟨b4, off5, none⟩) l.length cap) (fun g => o_load (i := 2) (v := .slice (some ⟨b4, off5, none⟩) l.length cap) (by kernel_rfl) (by kernel_rfl) (by kernel_rfl)) (fun g => by kernel_rfl), ob_val fun g w => by kernel_rfl, ob_v (v := fun g => pV b4 (off5 + bi.toNat * 2)) (fun g => o_idx (b := b4) (cap := cap) (e := 126) (off := off5) (n := l.length) (kd := .i64) (q := bi) (i := bi.toNat) (size := 2) (j := off5 + bi.toNat * 2) (by kernel_rfl) (by kernel_rfl) (by omega) (by omega) Try.underlying77 (by kernel_rfl) (by omega)) (fun g => by kernel_rfl), ob_val fun g w => by kernel_rfl, ob_s (l := fun g => [vewR 2 (.slice (some ⟨b4, off5, none⟩) l.length cap) l.length (l.flatMap kr2)]) (l' := fun g => [vewR 2 (.slice (some ⟨b4, off5, none⟩) l.length cap) l.length (l.flatMap kr2)]) (v := fun g => iV ((l.getD bi.toNat kz2).2)) (fun g => o_loadView (off := off5) (j := bi.toNat * 2 + 1) (u := iV ((l.getD bi.toNat kz2).2)) (by kernel_rfl) (by omega) (by kernel_rfl) ((rec_get (f := kr2) (k := 2) (z := kz2) (l := l) (i := bi.toNat) (j := 1) (fun _ => rfl) (by omega) (by decide)).trans rfl)) (fun g => by kernel_rfl), ob_v (v := fun g => bV false) (fun g => OprV.re (pureV (v := bV (decide ((l.getD k kz2).2 < (l.getD bi.toNat kz2).2))) (by kernel_rfl) rfl fun w => by kernel_rfl) (vF h7)) (fun g => by kernel_rfl), ob_val fun g w => by kernel_rfl, ob_val fun g w => by kernel_rfl, ob_val fun g w => by kernel_rfl, ob_s (l := fun g => [blkR b1 [iV most, bV ch, .slice (some ⟨b4, off5, none⟩) l.length cap] 79]) (l' := fun g => [blkR b1 [iV most, bV ch, .slice (some ⟨b4, off5, none⟩) l.length cap] 79]) (v := fun g => bV ch) (fun g => o_load (i := 1) (v := bV ch) (by kernel_rfl) (by kernel_rfl) (by kernel_rfl)) (fun g => by kernel_rfl), ob_v (v := fun g => bV false) (fun g => OprV.re (pureV (v := bV ch) (by kernel_rfl) rfl fun w => by kernel_rfl) (congrArg Value.bool (show ch = false from h8))) (fun g => by kernel_rfl), ob_val fun g w => by kernel_rfl, ob_val fun g w => by kernel_rfl, ob_val fun g w => by kernel_rfl, ob_val fun g w => by kernel_rfl, ob_val fun g w => by kernel_rfl, ob_val fun g w => by kernel_rfl, ob_val fun g w => by kernel_rfl, ob_val fun g w => by kernel_rfl, ob_val fun g w => by kernel_rfl, ob_val fun g w => by kernel_rfl, ob_val fun g w => by kernel_rfl, ob_val fun g w => by kernel_rfl, ob_val fun g w => by kernel_rfl, ob_val fun g w => by kernel_rfl, ob_val fun g w => by kernel_rfl, trivial⟩
          intro g
          refine Ex'.sub (subB_spec [1, 2, 3, 5, 4, 48]) ?_
          refine Ex'.as [0, 1] (σ' := [(1, pV b1 0), (2, sV ⟨#[]⟩), (3, bV false), (5, iV (k : Int)), (4, iV bi), (48, bV false)]) (Γ' := [vewR 2 (.slice (some ⟨b4, off5, none⟩) l.length cap) l.length (l.flatMap kr2), blkR b1 [iV most, bV ch, .slice (some ⟨b4, off5, none⟩) l.length cap] 79]) (by kernel_rfl) rfl (by kernel_rfl) (by kernel_rfl) ?_
          refine Ex'.next ?_
          refine Cd.condF (by kernel_rfl) ?_
          refine Cd.skip ?_
          refine Ex'.blockNormal ?_
          refine Ex'.next ?_
          refine Cd.region rfl ?_
          refine Sq.vals [0] (rest := [1, 2]) [iV (k : Int)] (fun w => by kernel_rfl) ?_
          refine Sq.v (r := iV ((k : Int) + 1)) (o_add (k := .i64) (a := (k : Int)) (b := 1) (c := (k : Int) + 1) (by kernel_rfl) (by kernel_rfl) (w64 rfl (by omega))) rfl (by kernel_rfl) ?_
          refine Sq.vals [2] (rest := []) [iV ((k : Int) + 1)] (fun w => by kernel_rfl) ?_
          refine Sq.done ?_
          refine Ex'.round (g := (k, bi)) (k + 1, bi) ?_ ?_ (subB_eq (l := [1, 2, 3, 5, 4]) (by kernel_rfl)) (fun w hw => hw.pickB [0, 1] (by kernel_rfl) (by kernel_rfl) (by kernel_rfl))
          · (try dsimp only); exact ⟨by omega, by rw [vicN, ← hbi, if_neg (fun q => q.elim (fun q => h6 q) (fun q => q.elim (fun q => h7 q) (fun q => absurd q.1 (by rw [h8]; exact Bool.false_ne_true))))], by omega, by omega⟩
          · omega
  ·
    refine Cd.exit ?_
    refine Ex'.thenExit ?_
    refine Ex'.thenExit ?_
    refine Ex'.blockHit ?_
    refine Ex'.next ?_
    refine Cd.seq ?_
    refine Cd.seq ?_
    refine Cd.region rfl ?_
    refine Sq.vals [0, 1] (rest := []) [iV bi, bV (decide (bi < 0))] (fun w => by kernel_rfl) ?_
    refine Sq.done ?_
    refine Ex'.next ?_
    refine Cd.case (p := bi < 0) (by kernel_rfl) (fun h10 => ?_) (fun h10 => ?_)
    ·
      refine Cd.seq ?_
      refine Cd.region rfl ?_
      refine Sq.vals [0, 1] (rest := []) [sV ⟨#[]⟩, bV false] (fun w => by kernel_rfl) ?_
      refine Sq.done ?_
      refine Ex'.next ?_
      refine Cd.ret ?_
      refine Ex'.thenRet ?_
      refine Ex'.ret Try.results51 (RVs.tmp (v := sV ⟨#[]⟩) (by kernel_rfl) (RVs.tmp (v := bV false) (by kernel_rfl) (RVs.nil))) (fun w hw => ?_)
      have e : vicN ch l l.length = bi := by rw [hbi]; congr 1; omega
      rw [e]; exact ⟨_, ⟨by rw [if_pos h10]; rfl, rfl⟩, hw.pickB [0] (by kernel_rfl) (by kernel_rfl) (by kernel_rfl)⟩
    ·
      refine Cd.fact (i := 0) (R := vewR 2 (.slice a0 l.length cap) l.length (l.flatMap kr2)) (by kernel_rfl) (vew_addr (by omega)) ?_; rintro ⟨b11, off12, rfl⟩
      refine Cd.skip ?_
      refine Ex'.next ?_
      refine Cd.seq ?_
      refine Cd.region rfl ?_
      refine Sq.vals [0] (rest := [1, 2, 3, 4, 5, 6, 7]) [pV b1 2] (fun w => by kernel_rfl) ?_
      refine Sq.same [1] (l := [blkR b1 [iV most, bV ch, .slice (some ⟨b11, off12, none⟩) l.length cap] 79]) (o_load (i := 2) (v := .slice (some ⟨b11, off12, none⟩) l.length cap) (by kernel_rfl) (by kernel_rfl) (by kernel_rfl)) (by kernel_rfl) rfl (by kernel_rfl) rfl ?_
      refine Sq.vals [2] (rest := [3, 4, 5, 6, 7]) [iV bi] (fun w => by kernel_rfl) ?_
      refine Sq.v (r := pV b11 (off12 + bi.toNat * 2)) (o_idx (b := b11) (cap := cap) (e := 126) (off := off12) (n := l.length) (kd := .i64) (q := bi) (i := bi.toNat) (size := 2) (j := off12 + bi.toNat * 2) (by kernel_rfl) (by kernel_rfl) (by omega) (by omega) Try.underlying77 (by kernel_rfl) (by omega)) rfl (by kernel_rfl) ?_
      refine Sq.vals [4] (rest := [5, 6, 7]) [pV b11 (off12 + bi.toNat * 2)] (fun w => by kernel_rfl) ?_
      refine Sq.same [0] (l := [vewR 2 (.slice (some ⟨b11, off12, none⟩) l.length cap) l.length (l.flatMap kr2)]) (o_loadView (off := off12) (j := bi.toNat * 2) (u := sV ((l.getD bi.toNat kz2).1)) (by kernel_rfl) (by omega) (by kernel_rfl) ((rec_get (f := kr2) (k := 2) (z := kz2) (l := l) (i := bi.toNat) (j := 0) (fun _ => rfl) (by omega) (by decide)).trans rfl)) (by kernel_rfl) rfl (by kernel_rfl) rfl ?_
      refine Sq.vals [6, 7] (rest := []) [sV ((l.getD bi.toNat kz2).1), bV true] (fun w => by kernel_rfl) ?_
      refine Sq.done ?_
      refine Ex'.next ?_
      refine Cd.ret ?_
      refine Ex'.ret Try.results51 (RVs.tmp (v := sV ((l.getD bi.toNat kz2).1)) (by kernel_rfl) (RVs.tmp (v := bV true) (by kernel_rfl) (RVs.nil))) (fun w hw => ?_)
      have e : vicN ch l l.length = bi := by rw [hbi]; congr 1; omega
      rw [e]; exact ⟨_, ⟨by rw [if_neg h10]; rfl, rfl⟩, hw.pickB [0] (by kernel_rfl) (by kernel_rfl) (by kernel_rfl)⟩

set_option maxHeartbeats 8000000 in
set_option maxRecDepth 100000 in
theorem t_drop06_no {a0 : Option Addr} {cap : Nat} {l : List (ByteArray × Int)} {most : Int} {ch : Bool} (hl : l.length ≤ cap ∧ cap ≤ 9223372036854775807) (hb : l.length ≤ 1000000) (hv : vicN ch l l.length < 0) : Tri Try.prog 47 #[.agg #[iV most, bV ch, .slice a0 l.length cap]] [vewR 2 (.slice a0 l.length cap) l.length (l.flatMap kr2)] (Same [vewR 2 (.slice a0 l.length cap) l.length (l.flatMap kr2)] (.tuple #[.agg #[iV most, bV ch, .slice a0 l.length cap], sV ⟨#[]⟩, bV false])) := by
  refine Tri.enter (args := [.agg #[iV most, bV ch, .slice a0 l.length cap]]) Try.func47 rfl rfl rfl (fun B wz => ?_)
  refine Cd.seq ?_
  refine Cd.region rfl ?_
  refine Sq.ex [] (l := []) (o_newBox (v := .agg #[iV most, bV ch, .slice a0 l.length cap]) [iV most, bV ch, .slice a0 l.length cap] (by kernel_rfl) rfl) (by kernel_rfl) rfl (by kernel_rfl) (fun _ => Nat.zero_le _) ?_; intro b1 _
  refine Sq.ex [] (l := []) (o_new [iV 0, bV false, .slice none 0 0] (fun w => by kernel_rfl)) (by kernel_rfl) rfl (by kernel_rfl) (fun _ => Nat.zero_le _) ?_; intro b2 _
  refine Sq.vals [2, 3] (rest := []) [sV ⟨#[]⟩, bV false] (fun w => by kernel_rfl) ?_
  refine Sq.done ?_
  refine Ex'.next ?_
  refine Cd.seq ?_
  refine Cd.region rfl ?_
  refine Sq.same [1] (l := [blkR b1 [iV most, bV ch, .slice a0 l.length cap] 79]) (o_loadN (i := 0) [iV most, bV ch, .slice a0 l.length cap] (by kernel_rfl) (by kernel_rfl) (by kernel_rfl)) (by kernel_rfl) rfl (by kernel_rfl) rfl ?_
  refine Sq.same [0] (l := [vewR 2 (.slice a0 l.length cap) l.length (l.flatMap kr2)]) (o_call (by kernel_rfl) Try.call51 ((t_victim06 (a0 := a0) (cap := cap) (l := l) (most := most) (ch := ch) (by omega) (by omega)).re (if_pos hv))) (by kernel_rfl) rfl (by kernel_rfl) rfl ?_
  refine Sq.vals [2, 3, 4, 5, 6] (rest := []) [.tuple #[sV ⟨#[]⟩, bV false], sV ⟨#[]⟩, bV false, sV ⟨#[]⟩, bV false] (fun w => by kernel_rfl) ?_
  refine Sq.done ?_
  refine Ex'.next ?_
  refine Cd.seq ?_
  refine Cd.seq ?_
  refine Cd.region rfl ?_
  refine Sq.vals [0, 1] (rest := []) [bV false, bV true] (fun w => by kernel_rfl) ?_
  refine Sq.done ?_
  refine Ex'.next ?_
  refine Cd.condT (by kernel_rfl) ?_
  refine Cd.seq ?_
  refine Cd.region rfl ?_
  refine Sq.same [1] (l := [blkR b1 [iV most, bV ch, .slice a0 l.length cap] 79]) (o_loadN (i := 0) [iV most, bV ch, .slice a0 l.length cap] (by kernel_rfl) (by kernel_rfl) (by kernel_rfl)) (by kernel_rfl) rfl (by kernel_rfl) rfl ?_
  refine Sq.same [2] (l := [blkR b2 [iV 0, bV false, .slice none 0 0] 79]) (o_store (i := 0) (v := .agg #[iV most, bV ch, .slice a0 l.length cap]) (by kernel_rfl) (by kernel_rfl) (by kernel_rfl) (by kernel_rfl) (by kernel_rfl)) (by kernel_rfl) rfl (by kernel_rfl) rfl ?_
  refine Sq.vals [2, 3] (rest := []) [sV ⟨#[]⟩, bV false] (fun w => by kernel_rfl) ?_
  refine Sq.done ?_
  refine Ex'.next ?_
  refine Cd.ret ?_
  refine Ex'.thenRet ?_
  refine Ex'.ret Try.results47 (RVs.cellN (i := 0) (b := b2) (l := [iV most, bV ch, .slice a0 l.length cap]) (E := 79) [iV most, bV ch, .slice a0 l.length cap] 2 (by kernel_rfl) (by kernel_rfl) (by kernel_rfl) (by kernel_rfl) (RVs.tmp (v := sV ⟨#[]⟩) (by kernel_rfl) (RVs.tmp (v := bV false) (by kernel_rfl) (RVs.nil)))) (fun w hw => ?_)
  exact ⟨_, ⟨rfl, rfl⟩, hw.pickB [0] (by kernel_rfl) (by kernel_rfl) (by kernel_rfl)⟩

set_option maxHeartbeats 8000000 in
set_option maxRecDepth 100000 in
theorem t_drop06 {a0 : Option Addr} {cap : Nat} {l : List (ByteArray × Int)} {most : Int} {ch : Bool} (hl : l.length ≤ cap ∧ cap ≤ 9223372036854775807) (hb : l.length ≤ 1000000) (hv : ¬ vicN ch l l.length < 0) : Tri Try.prog 47 #[.agg #[iV most, bV ch, .slice a0 l.length cap]] [vewR 2 (.slice a0 l.length cap) l.length (l.flatMap kr2)] (PostE (fun _ => True) (fun v => .tuple #[.agg #[iV most, bV ch, v], sV (l.getD (vicN ch l l.length).toNat kz2).1, bV true]) fun v => [vewR 2 (.slice a0 l.length cap) l.length (l.flatMap kr2), vewR 2 v ((rem2 l (l.getD (vicN ch l l.length).toNat kz2).1).length) ((rem2 l (l.getD (vicN ch l l.length).toNat kz2).1).flatMap kr2)]) := by
  refine Tri.enter (args := [.agg #[iV most, bV ch, .slice a0 l.length cap]]) Try.func47 rfl rfl rfl (fun B wz => ?_)
  refine Cd.seq ?_
  refine Cd.region rfl ?_
  refine Sq.ex [] (l := []) (o_newBox (v := .agg #[iV most, bV ch, .slice a0 l.length cap]) [iV most, bV ch, .slice a0 l.length cap] (by kernel_rfl) rfl) (by kernel_rfl) rfl (by kernel_rfl) (fun _ => Nat.zero_le _) ?_; intro b1 _
  refine Sq.ex [] (l := []) (o_new [iV 0, bV false, .slice none 0 0] (fun w => by kernel_rfl)) (by kernel_rfl) rfl (by kernel_rfl) (fun _ => Nat.zero_le _) ?_; intro b2 _
  refine Sq.vals [2, 3] (rest := []) [sV ⟨#[]⟩, bV false] (fun w => by kernel_rfl) ?_
  refine Sq.done ?_
  refine Ex'.next ?_
  refine Cd.seq ?_
  refine Cd.region rfl ?_
  refine Sq.same [1] (l := [blkR b1 [iV most, bV ch, .slice a0 l.length cap] 79]) (o_loadN (i := 0) [iV most, bV ch, .slice a0 l.length cap] (by kernel_rfl) (by kernel_rfl) (by kernel_rfl)) (by kernel_rfl) rfl (by kernel_rfl) rfl ?_
  refine Sq.same [0] (l := [vewR 2 (.slice a0 l.length cap) l.length (l.flatMap kr2)]) (o_call (by kernel_rfl) Try.call51 ((t_victim06 (a0 := a0) (cap := cap) (l := l) (most := most) (ch := ch) (by omega) (by omega)).re (if_neg hv))) (by kernel_rfl) rfl (by kernel_rfl) rfl ?_
  refine Sq.vals [2, 3, 4, 5, 6] (rest := []) [.tuple #[sV ((l.getD (vicN ch l l.length).toNat kz2).1), bV true], sV ((l.getD (vicN ch l l.length).toNat kz2).1), bV true, sV ((l.getD (vicN ch l l.length).toNat kz2).1), bV true] (fun w => by kernel_rfl) ?_
  refine Sq.done ?_
  refine Ex'.next ?_
  refine Cd.seq ?_
  refine Cd.seq ?_
  refine Cd.region rfl ?_
  refine Sq.vals [0, 1] (rest := []) [bV true, bV false] (fun w => by kernel_rfl) ?_
  refine Sq.done ?_
  refine Ex'.next ?_
  refine Cd.condF (by kernel_rfl) ?_
  refine Cd.skip ?_
  refine Ex'.next ?_
  refine Cd.seq ?_
  refine Cd.region rfl ?_
  refine Sq.same [1] (l := [blkR b1 [iV most, bV ch, .slice a0 l.length cap] 79]) (o_loadN (i := 0) [iV most, bV ch, .slice a0 l.length cap] (by kernel_rfl) (by kernel_rfl) (by kernel_rfl)) (by kernel_rfl) rfl (by kernel_rfl) rfl ?_
  refine Sq.vals [1] (rest := [2, 3, 4, 5, 6]) [sV ((l.getD (vicN ch l l.length).toNat kz2).1)] (fun w => by kernel_rfl) ?_
  refine Sq.ex [0] (l := [vewR 2 (.slice a0 l.length cap) l.length (l.flatMap kr2)]) (o_call (by kernel_rfl) Try.call44 (t_remove06 (a0 := a0) (cap := cap) (l := l) (most := most) (ch := ch) (key := (l.getD (vicN ch l l.length).toNat kz2).1) (by omega) (by omega))) (by kernel_rfl) rfl (by kernel_rfl) (fun _ => Nat.le_of_ble_eq_true (by kernel_rfl)) ?_; rintro v3 _
  refine Sq.fact (i := 3) (R := rowR 126 2 v3 ((rem2 l ((l.getD (vicN ch l l.length).toNat kz2).1)).length) ((rem2 l ((l.getD (vicN ch l l.length).toNat kz2).1)).flatMap kr2)) (by kernel_rfl) row_slice ?_; rintro ⟨a4, c5, rfl, hc5, hc5'⟩
  have hc5'' : c5 ≤ 9223372036854775807 := hc5'
  refine Sq.vals [3] (rest := [4, 5, 6]) [sV ((l.getD (vicN ch l l.length).toNat kz2).1)] (fun w => by kernel_rfl) ?_
  refine Sq.same [2] (l := [blkR b2 [iV 0, bV false, .slice none 0 0] 79]) (o_store (i := 0) (v := .agg #[iV most, bV ch, .slice a4 ((rem2 l ((l.getD (vicN ch l l.length).toNat kz2).1)).length) c5]) (by kernel_rfl) (by kernel_rfl) (by kernel_rfl) (by kernel_rfl) (by kernel_rfl)) (by kernel_rfl) rfl (by kernel_rfl) rfl ?_
  refine Sq.vals [5, 6] (rest := []) [sV ((l.getD (vicN ch l l.length).toNat kz2).1), bV true] (fun w => by kernel_rfl) ?_
  refine Sq.done ?_
  refine Ex'.next ?_
  refine Cd.ret ?_
  refine Ex'.ret Try.results47 (RVs.cellN (i := 0) (b := b2) (l := [iV most, bV ch, .slice a4 ((rem2 l ((l.getD (vicN ch l l.length).toNat kz2).1)).length) c5]) (E := 79) [iV most, bV ch, .slice a4 ((rem2 l ((l.getD (vicN ch l l.length).toNat kz2).1)).length) c5] 2 (by kernel_rfl) (by kernel_rfl) (by kernel_rfl) (by kernel_rfl) (RVs.tmp (v := sV ((l.getD (vicN ch l l.length).toNat kz2).1)) (by kernel_rfl) (RVs.tmp (v := bV true) (by kernel_rfl) (RVs.nil)))) (fun w hw => ?_)
  exact ⟨_, ⟨.slice a4 ((rem2 l ((l.getD (vicN ch l l.length).toNat kz2).1)).length) c5, trivial, rfl, rfl⟩, (hw.conv 3 (R := rowR 126 2 (.slice a4 ((rem2 l ((l.getD (vicN ch l l.length).toNat kz2).1)).length) c5) ((rem2 l ((l.getD (vicN ch l l.length).toNat kz2).1)).length) ((rem2 l ((l.getD (vicN ch l l.length).toNat kz2).1)).flatMap kr2)) (R' := vewR 2 (.slice a4 ((rem2 l ((l.getD (vicN ch l l.length).toNat kz2).1)).length) c5) ((rem2 l ((l.getD (vicN ch l l.length).toNat kz2).1)).length) ((rem2 l ((l.getD (vicN ch l l.length).toNat kz2).1)).flatMap kr2)) (by kernel_rfl) vew_of_row).pickB [0, 3] (by kernel_rfl) (by kernel_rfl) (by kernel_rfl)⟩

set_option maxHeartbeats 8000000 in
set_option maxRecDepth 100000 in
theorem t_ask06 {a0 : Option Addr} {cap : Nat} {l : List (ByteArray × Int)} {most : Int} {ch : Bool} {key : ByteArray} (hl : l.length ≤ cap ∧ cap ≤ 9223372036854775807) (hb : l.length ≤ 1000000) (ht : -1000000000 ≤ (lk l key).getD 0 ∧ (lk l key).getD 0 ≤ 1000000000) : Tri Try.prog 68 #[.agg #[iV most, bV ch, .slice a0 l.length cap], sV key] [vewR 2 (.slice a0 l.length cap) l.length (l.flatMap kr2)] (PostE (fun _ => True) (fun v => .agg #[iV most, bV ch, v]) fun v => [vewR 2 (.slice a0 l.length cap) l.length (l.flatMap kr2), vewR 2 v ((rem2 l key ++ [(key, (lk l key).getD 0 + 1)]).length) ((rem2 l key ++ [(key, (lk l key).getD 0 + 1)]).flatMap kr2)]) := by
  have hrl := rem2_le l key
  refine Tri.enter (args := [.agg #[iV most, bV ch, .slice a0 l.length cap], sV key]) Try.func68 rfl rfl rfl (fun B wz => ?_)
  refine Cd.seq ?_
  refine Cd.region rfl ?_
  refine Sq.ex [] (l := []) (o_newBox (v := .agg #[iV most, bV ch, .slice a0 l.length cap]) [iV most, bV ch, .slice a0 l.length cap] (by kernel_rfl) rfl) (by kernel_rfl) rfl (by kernel_rfl) (fun _ => Nat.zero_le _) ?_; intro b1 _
  refine Sq.ex [] (l := []) (o_new [iV 0, bV false, .slice none 0 0] (fun w => by kernel_rfl)) (by kernel_rfl) rfl (by kernel_rfl) (fun _ => Nat.zero_le _) ?_; intro b2 _
  refine Sq.done ?_
  refine Ex'.next ?_
  refine Cd.seq ?_
  refine Cd.region rfl ?_
  refine Sq.same [1] (l := [blkR b1 [iV most, bV ch, .slice a0 l.length cap] 79]) (o_loadN (i := 0) [iV most, bV ch, .slice a0 l.length cap] (by kernel_rfl) (by kernel_rfl) (by kernel_rfl)) (by kernel_rfl) rfl (by kernel_rfl) rfl ?_
  refine Sq.vals [1] (rest := [2, 3]) [sV key] (fun w => by kernel_rfl) ?_
  refine Sq.same [0] (l := [vewR 2 (.slice a0 l.length cap) l.length (l.flatMap kr2)]) (o_call (by kernel_rfl) Try.call43 (t_times06 (a0 := a0) (cap := cap) (l := l) (most := most) (ch := ch) (key := key) (by omega) (by omega))) (by kernel_rfl) rfl (by kernel_rfl) rfl ?_
  refine Sq.vals [3] (rest := []) [iV ((lk l key).getD 0)] (fun w => by kernel_rfl) ?_
  refine Sq.done ?_
  refine Ex'.next ?_
  refine Cd.seq ?_
  refine Cd.region rfl ?_
  refine Sq.same [1] (l := [blkR b1 [iV most, bV ch, .slice a0 l.length cap] 79]) (o_loadN (i := 0) [iV most, bV ch, .slice a0 l.length cap] (by kernel_rfl) (by kernel_rfl) (by kernel_rfl)) (by kernel_rfl) rfl (by kernel_rfl) rfl ?_
  refine Sq.vals [1] (rest := [2, 3]) [sV key] (fun w => by kernel_rfl) ?_
  refine Sq.ex [0] (l := [vewR 2 (.slice a0 l.length cap) l.length (l.flatMap kr2)]) (o_call (by kernel_rfl) Try.call44 (t_remove06 (a0 := a0) (cap := cap) (l := l) (most := most) (ch := ch) (key := key) (by omega) (by omega))) (by kernel_rfl) rfl (by kernel_rfl) (fun _ => Nat.le_of_ble_eq_true (by kernel_rfl)) ?_; rintro v3 _
  refine Sq.fact (i := 3) (R := rowR 126 2 v3 ((rem2 l key).length) ((rem2 l key).flatMap kr2)) (by kernel_rfl) row_slice ?_; rintro ⟨a4, c5, rfl, hc5, hc5'⟩
  have hc5'' : c5 ≤ 9223372036854775807 := hc5'
  refine Sq.same [1] (l := [blkR b1 [iV most, bV ch, .slice a0 l.length cap] 79]) (o_store (i := 0) (v := .agg #[iV most, bV ch, .slice a4 ((rem2 l key).length) c5]) (by kernel_rfl) (by kernel_rfl) (by kernel_rfl) (by kernel_rfl) (by kernel_rfl)) (by kernel_rfl) rfl (by kernel_rfl) rfl ?_
  refine Sq.done ?_
  refine Ex'.next ?_
  refine Cd.seq ?_
  refine Cd.region rfl ?_
  refine Sq.vals [0] (rest := [1, 2, 3, 4, 5, 6, 7, 8, 9]) [pV b1 2] (fun w => by kernel_rfl) ?_
  refine Sq.same [1] (l := [blkR b1 [iV most, bV ch, .slice a4 ((rem2 l key).length) c5] 79]) (o_load (i := 2) (v := .slice a4 ((rem2 l key).length) c5) (by kernel_rfl) (by kernel_rfl) (by kernel_rfl)) (by kernel_rfl) rfl (by kernel_rfl) rfl ?_
  refine Sq.vals [2, 3] (rest := [4, 5, 6, 7, 8, 9]) [sV key, iV ((lk l key).getD 0)] (fun w => by kernel_rfl) ?_
  refine Sq.v (r := iV ((lk l key).getD 0 + 1)) (o_add (k := .i64) (a := (lk l key).getD 0) (b := 1) (c := (lk l key).getD 0 + 1) (by kernel_rfl) (by kernel_rfl) (w64 rfl (by omega))) rfl (by kernel_rfl) ?_
  refine Sq.vals [5] (rest := [6, 7, 8, 9]) [.agg #[sV key, iV ((lk l key).getD 0 + 1)]] (fun w => by kernel_rfl) ?_
  refine Sq.ex [] (l := []) (o_lit (sz := 2) (.agg #[sV ⟨#[]⟩, iV 0]) [sV key, iV ((lk l key).getD 0 + 1)] Try.underlying77 (by kernel_rfl) (by kernel_rfl) (by kernel_rfl) (by kernel_rfl) (by kernel_rfl)) (by kernel_rfl) rfl (by kernel_rfl) (fun _ => Nat.zero_le _) ?_; intro b6 _
  refine Sq.ex [3, 4] (l := [rowR 126 2 (.slice a4 ((rem2 l key).length) c5) ((rem2 l key).length) ((rem2 l key).flatMap kr2), blkR b6 [sV key, iV ((lk l key).getD 0 + 1)] 126]) (o_push (n' := (rem2 l key).length + 1) (xs' := ((rem2 l key) ++ [((key, (lk l key).getD 0 + 1) : ByteArray × Int)]).flatMap kr2) (by kernel_rfl) (by kernel_rfl) sl_it06 (by decide) rfl (by kernel_rfl) (by unfold maxLen; first | omega | (simp only [List.length_nil]; omega)) (by first | omega | (simp only [List.length_nil]; omega)) (by simp) (by rw [List.flatMap_append]; rfl)) (by kernel_rfl) rfl (by kernel_rfl) (fun _ => Nat.le_of_ble_eq_true (by kernel_rfl)) ?_; rintro v7 _
  refine Sq.fact (i := 3) (R := rowR 126 2 v7 ((rem2 l key).length + 1) (((rem2 l key) ++ [((key, (lk l key).getD 0 + 1) : ByteArray × Int)]).flatMap kr2)) (by kernel_rfl) row_slice ?_; rintro ⟨a8, c9, rfl, hc9, hc9'⟩
  have hc9'' : c9 ≤ 9223372036854775807 := hc9'
  refine Sq.fact (i := 3) (R := rowR 126 2 (.slice a8 ((rem2 l key).length + 1) c9) ((rem2 l key).length + 1) (((rem2 l key) ++ [((key, (lk l key).getD 0 + 1) : ByteArray × Int)]).flatMap kr2)) (by kernel_rfl) (row_addr (by simp)) ?_; rintro ⟨b10, rfl⟩
  refine Sq.vals [8] (rest := [9]) [pV b1 2] (fun w => by kernel_rfl) ?_
  refine Sq.same [1] (l := [blkR b1 [iV most, bV ch, .slice a4 ((rem2 l key).length) c5] 79]) (o_store (i := 2) (v := .slice (some ⟨b10, 0, none⟩) ((rem2 l key).length + 1) c9) (by kernel_rfl) (by kernel_rfl) (by kernel_rfl) (by kernel_rfl) (by kernel_rfl)) (by kernel_rfl) rfl (by kernel_rfl) rfl ?_
  refine Sq.done ?_
  refine Ex'.next ?_
  refine Cd.seq ?_
  refine Cd.region rfl ?_
  refine Sq.same [1] (l := [blkR b1 [iV most, bV ch, .slice (some ⟨b10, 0, none⟩) ((rem2 l key).length + 1) c9] 79]) (o_loadN (i := 0) [iV most, bV ch, .slice (some ⟨b10, 0, none⟩) ((rem2 l key).length + 1) c9] (by kernel_rfl) (by kernel_rfl) (by kernel_rfl)) (by kernel_rfl) rfl (by kernel_rfl) rfl ?_
  refine Sq.same [2] (l := [blkR b2 [iV 0, bV false, .slice none 0 0] 79]) (o_store (i := 0) (v := .agg #[iV most, bV ch, .slice (some ⟨b10, 0, none⟩) ((rem2 l key).length + 1) c9]) (by kernel_rfl) (by kernel_rfl) (by kernel_rfl) (by kernel_rfl) (by kernel_rfl)) (by kernel_rfl) rfl (by kernel_rfl) rfl ?_
  refine Sq.done ?_
  refine Ex'.next ?_
  refine Cd.ret ?_
  refine Ex'.ret Try.results68 (RVs.cellN (i := 0) (b := b2) (l := [iV most, bV ch, .slice (some ⟨b10, 0, none⟩) ((rem2 l key).length + 1) c9]) (E := 79) [iV most, bV ch, .slice (some ⟨b10, 0, none⟩) ((rem2 l key).length + 1) c9] 2 (by kernel_rfl) (by kernel_rfl) (by kernel_rfl) (by kernel_rfl) (RVs.nil)) (fun w hw => ?_)
  exact ⟨_, ⟨.slice (some ⟨b10, 0, none⟩) ((rem2 l key).length + 1) c9, trivial, rfl, rfl⟩, (hw.conv 3 (R := rowR 126 2 (.slice (some ⟨b10, 0, none⟩) ((rem2 l key).length + 1) c9) ((rem2 l key).length + 1) (((rem2 l key) ++ [((key, (lk l key).getD 0 + 1) : ByteArray × Int)]).flatMap kr2)) (R' := vewR 2 (.slice (some ⟨b10, 0, none⟩) ((rem2 l key).length + 1) c9) ((rem2 l key ++ [(key, (lk l key).getD 0 + 1)]).length) ((rem2 l key ++ [(key, (lk l key).getD 0 + 1)]).flatMap kr2)) (by kernel_rfl) (fun w S h => vew_of_row w S (by simpa using h))).pickB [0, 3] (by kernel_rfl) (by kernel_rfl) (by kernel_rfl)⟩

set_option maxHeartbeats 8000000 in
set_option maxRecDepth 100000 in
theorem t_request06 {a0 : Option Addr} {cap : Nat} {l : List (ByteArray × Int)} {most : Int} {ch : Bool} {key : ByteArray} (hl : l.length ≤ cap ∧ cap ≤ 9223372036854775807) (hb : l.length ≤ 1000000) (hT : T2B l) (hm : 0 ≤ most) (hm0 : ¬ most = 0) : Tri Try.prog 42 #[.agg #[iV most, bV ch, .slice a0 l.length cap], sV key] [vewR 2 (.slice a0 l.length cap) l.length (l.flatMap kr2)] (PostE (fun _ => True) (fun v => .tuple #[.agg #[iV most, bV ch, v], .agg #[bV (req06 most ch l key).2.1, sV (req06 most ch l key).2.2.1, bV (req06 most ch l key).2.2.2]]) fun v => [vewR 2 (.slice a0 l.length cap) l.length (l.flatMap kr2), vewR 2 v ((req06 most ch l key).1.length) (((req06 most ch l key).1).flatMap kr2)]) := by
  refine Tri.enter (args := [.agg #[iV most, bV ch, .slice a0 l.length cap], sV key]) Try.func42 rfl rfl rfl (fun B wz => ?_)
  refine Cd.seq ?_
  refine Cd.region rfl ?_
  refine Sq.ex [] (l := []) (o_newBox (v := .agg #[iV most, bV ch, .slice a0 l.length cap]) [iV most, bV ch, .slice a0 l.length cap] (by kernel_rfl) rfl) (by kernel_rfl) rfl (by kernel_rfl) (fun _ => Nat.zero_le _) ?_; intro b1 _
  refine Sq.ex [] (l := []) (o_new [iV 0, bV false, .slice none 0 0] (fun w => by kernel_rfl)) (by kernel_rfl) rfl (by kernel_rfl) (fun _ => Nat.zero_le _) ?_; intro b2 _
  refine Sq.ex [] (l := []) (o_new [bV false, sV ⟨#[]⟩, bV false] (fun w => by kernel_rfl)) (by kernel_rfl) rfl (by kernel_rfl) (fun _ => Nat.zero_le _) ?_; intro b3 _
  refine Sq.done ?_
  refine Ex'.next ?_
  refine Cd.seq ?_
  refine Cd.region rfl ?_
  refine Sq.ex [] (l := []) (o_new [bV false, sV ⟨#[]⟩, bV false] (fun w => by kernel_rfl)) (by kernel_rfl) rfl (by kernel_rfl) (fun _ => Nat.zero_le _) ?_; intro b4 _
  refine Sq.done ?_
  refine Ex'.next ?_
  refine Cd.seq ?_
  refine Cd.region rfl ?_
  refine Sq.same [1] (l := [blkR b1 [iV most, bV ch, .slice a0 l.length cap] 79]) (o_loadN (i := 0) [iV most, bV ch, .slice a0 l.length cap] (by kernel_rfl) (by kernel_rfl) (by kernel_rfl)) (by kernel_rfl) rfl (by kernel_rfl) rfl ?_
  refine Sq.vals [1] (rest := [2, 3, 4, 5]) [sV key] (fun w => by kernel_rfl) ?_
  refine Sq.same [0] (l := [vewR 2 (.slice a0 l.length cap) l.length (l.flatMap kr2)]) (o_call (by kernel_rfl) Try.call43 (t_times06 (a0 := a0) (cap := cap) (l := l) (most := most) (ch := ch) (key := key) (by omega) (by omega))) (by kernel_rfl) rfl (by kernel_rfl) rfl ?_
  refine Sq.vals [3, 4] (rest := [5]) [bV (decide ((lk l key).getD 0 > 0)), pV b4 0] (fun w => by kernel_rfl) ?_
  refine Sq.same [4] (l := [blkR b4 [bV false, sV ⟨#[]⟩, bV false] 68]) (o_store (i := 0) (v := bV (decide ((lk l key).getD 0 > 0))) (by kernel_rfl) (by kernel_rfl) (by kernel_rfl) (by kernel_rfl) (by kernel_rfl)) (by kernel_rfl) rfl (by kernel_rfl) rfl ?_
  refine Sq.done ?_
  refine Ex'.next ?_
  refine Cd.seq ?_
  refine Cd.seq ?_
  refine Cd.region rfl ?_
  refine Sq.vals [0] (rest := [1, 2]) [pV b1 0] (fun w => by kernel_rfl) ?_
  refine Sq.same [1] (l := [blkR b1 [iV most, bV ch, .slice a0 l.length cap] 79]) (o_load (i := 0) (v := iV most) (by kernel_rfl) (by kernel_rfl) (by kernel_rfl)) (by kernel_rfl) rfl (by kernel_rfl) rfl ?_
  refine Sq.v (r := bV (decide (most = 0))) (o_eqI (k := .i64) (a := most) (b := 0) (by kernel_rfl) (by kernel_rfl)) rfl (by kernel_rfl) ?_
  refine Sq.re 14 rfl (vF hm0) ?_
  refine Sq.done ?_
  refine Ex'.next ?_
  refine Cd.condF (by kernel_rfl) ?_
  refine Cd.skip ?_
  refine Ex'.next ?_
  refine Cd.seq ?_
  refine Cd.seq ?_
  refine Cd.region rfl ?_
  refine Sq.vals [0] (rest := [1, 2, 3, 4, 5, 6, 7, 8, 9, 10]) [pV b4 0] (fun w => by kernel_rfl) ?_
  refine Sq.same [4] (l := [blkR b4 [bV (decide ((lk l key).getD 0 > 0)), sV ⟨#[]⟩, bV false] 68]) (o_load (i := 0) (v := bV (decide ((lk l key).getD 0 > 0))) (by kernel_rfl) (by kernel_rfl) (by kernel_rfl)) (by kernel_rfl) rfl (by kernel_rfl) rfl ?_
  refine Sq.v (r := bV (decide (¬ ((lk l key).getD 0 > 0)))) (o_not (by kernel_rfl)) rfl (by kernel_rfl) ?_
  refine Sq.vals [3] (rest := [4, 5, 6, 7, 8, 9, 10]) [bV (decide (¬ ((lk l key).getD 0 > 0)))] (fun w => by kernel_rfl) ?_
  refine Sq.case 20 (p := ¬ ((lk l key).getD 0 > 0)) rfl (fun h5 => ?_) (fun h5 => ?_)
  ·
    refine Sq.vals [4] (rest := [5, 6, 7, 8, 9, 10]) [pV b1 2] (fun w => by kernel_rfl) ?_
    refine Sq.same [1] (l := [blkR b1 [iV most, bV ch, .slice a0 l.length cap] 79]) (o_load (i := 2) (v := .slice a0 l.length cap) (by kernel_rfl) (by kernel_rfl) (by kernel_rfl)) (by kernel_rfl) rfl (by kernel_rfl) rfl ?_
    refine Sq.vals [6, 7] (rest := [8, 9, 10]) [iV (l.length : Int), pV b1 0] (fun w => by kernel_rfl) ?_
    refine Sq.same [1] (l := [blkR b1 [iV most, bV ch, .slice a0 l.length cap] 79]) (o_load (i := 0) (v := iV most) (by kernel_rfl) (by kernel_rfl) (by kernel_rfl)) (by kernel_rfl) rfl (by kernel_rfl) rfl ?_
    refine Sq.vals [9, 10] (rest := []) [bV (decide ((l.length : Int) ≥ most)), bV (decide ((l.length : Int) ≥ most))] (fun w => by kernel_rfl) ?_
    refine Sq.done ?_
    refine Ex'.next ?_
    refine Cd.case (p := (l.length : Int) ≥ most) (by kernel_rfl) (fun h6 => ?_) (fun h6 => ?_)
    ·
      refine Cd.region rfl ?_
      refine Sq.same [1] (l := [blkR b1 [iV most, bV ch, .slice a0 l.length cap] 79]) (o_loadN (i := 0) [iV most, bV ch, .slice a0 l.length cap] (by kernel_rfl) (by kernel_rfl) (by kernel_rfl)) (by kernel_rfl) rfl (by kernel_rfl) rfl ?_
      refine Sq.ex [0] (l := [vewR 2 (.slice a0 l.length cap) l.length (l.flatMap kr2)]) (o_call (by kernel_rfl) Try.call47 (t_drop06 (a0 := a0) (cap := cap) (l := l) (most := most) (ch := ch) (by omega) (by omega) (by have := vicN_some ch l (k := l.length) (by omega); omega))) (by kernel_rfl) rfl (by kernel_rfl) (fun _ => Nat.le_of_ble_eq_true (by kernel_rfl)) ?_; rintro v7 _
      refine Sq.fact (i := 5) (R := vewR 2 v7 ((rem2 l (l.getD (vicN ch l l.length).toNat kz2).1).length) ((rem2 l (l.getD (vicN ch l l.length).toNat kz2).1).flatMap kr2)) (by kernel_rfl) vew_slice ?_; rintro ⟨a8, c9, rfl, hc9, hc9'⟩
      have hc9'' : c9 ≤ 9223372036854775807 := hc9'
      refine Sq.vals [2, 3, 4, 5] (rest := [6, 7, 8, 9, 10]) [.tuple #[.agg #[iV most, bV ch, .slice a8 ((rem2 l (l.getD (vicN ch l l.length).toNat kz2).1).length) c9], sV ((l.getD (vicN ch l l.length).toNat kz2).1), bV true], .agg #[iV most, bV ch, .slice a8 ((rem2 l (l.getD (vicN ch l l.length).toNat kz2).1).length) c9], sV ((l.getD (vicN ch l l.length).toNat kz2).1), bV true] (fun w => by kernel_rfl) ?_
      refine Sq.same [1] (l := [blkR b1 [iV most, bV ch, .slice a0 l.length cap] 79]) (o_store (i := 0) (v := .agg #[iV most, bV ch, .slice a8 ((rem2 l (l.getD (vicN ch l l.length).toNat kz2).1).length) c9]) (by kernel_rfl) (by kernel_rfl) (by kernel_rfl) (by kernel_rfl) (by kernel_rfl)) (by kernel_rfl) rfl (by kernel_rfl) rfl ?_
      refine Sq.vals [7] (rest := [8, 9, 10]) [pV b4 1] (fun w => by kernel_rfl) ?_
      refine Sq.same [4] (l := [blkR b4 [bV (decide ((lk l key).getD 0 > 0)), sV ⟨#[]⟩, bV false] 68]) (o_store (i := 1) (v := sV ((l.getD (vicN ch l l.length).toNat kz2).1)) (by kernel_rfl) (by kernel_rfl) (by kernel_rfl) (by kernel_rfl) (by kernel_rfl)) (by kernel_rfl) rfl (by kernel_rfl) rfl ?_
      refine Sq.vals [9] (rest := [10]) [pV b4 2] (fun w => by kernel_rfl) ?_
      refine Sq.same [4] (l := [blkR b4 [bV (decide ((lk l key).getD 0 > 0)), sV ((l.getD (vicN ch l l.length).toNat kz2).1), bV false] 68]) (o_store (i := 2) (v := bV true) (by kernel_rfl) (by kernel_rfl) (by kernel_rfl) (by kernel_rfl) (by kernel_rfl)) (by kernel_rfl) rfl (by kernel_rfl) rfl ?_
      refine Sq.done ?_
      refine Ex'.next ?_
      refine Cd.seq ?_
      refine Cd.plan [0, 0, 3, 0, 7, 31] [(0, [(1, false, 0)]), (2, [(5, false, 0)]), (3, [(4, false, 0)]), (4, [(2, true, 0)]), (5, [(3, true, 0)])] [2] [(2, fun _ => True)] [(8, 2, fun g => vewR 2 (.slice (addrOf (aggAt (g 2) 2)) ((rem2 (rem2 l (l.getD (vicN ch l l.length).toNat kz2).1) key ++ [(key, (lk (rem2 l (l.getD (vicN ch l l.length).toNat kz2).1) key).getD 0 + 1)]).length) (capOf (aggAt (g 2) 2))) ((rem2 (rem2 l (l.getD (vicN ch l l.length).toNat kz2).1) key ++ [(key, (lk (rem2 l (l.getD (vicN ch l l.length).toNat kz2).1) key).getD 0 + 1)]).length) ((rem2 (rem2 l (l.getD (vicN ch l l.length).toNat kz2).1) key ++ [(key, (lk (rem2 l (l.getD (vicN ch l l.length).toNat kz2).1) key).getD 0 + 1)]).flatMap kr2)), (2, 4, fun g => blkR b2 [iV most, bV ch, .slice (addrOf (aggAt (g 2) 2)) ((rem2 (rem2 l (l.getD (vicN ch l l.length).toNat kz2).1) key ++ [(key, (lk (rem2 l (l.getD (vicN ch l l.length).toNat kz2).1) key).getD 0 + 1)]).length) (capOf (aggAt (g 2) 2))] 79), (3, 5, fun g => blkR b3 [bV (decide ((lk l key).getD 0 > 0)), sV ((l.getD (vicN ch l l.length).toNat kz2).1), bV true] 68)] [fun g => .agg #[iV most, bV ch, .slice a8 ((rem2 l (l.getD (vicN ch l l.length).toNat kz2).1).length) c9], fun g => sV key, fun g => .agg #[iV most, bV ch, .slice (addrOf (aggAt (g 2) 2)) ((rem2 (rem2 l (l.getD (vicN ch l l.length).toNat kz2).1) key ++ [(key, (lk (rem2 l (l.getD (vicN ch l l.length).toNat kz2).1) key).getD 0 + 1)]).length) (capOf (aggAt (g 2) 2))], fun g => .agg #[bV (decide ((lk l key).getD 0 > 0)), sV ((l.getD (vicN ch l l.length).toNat kz2).1), bV true], fun g => undef, fun g => undef] (by kernel_rfl) (by kernel_rfl) rfl (⟨⟨⟨fun _ _ => rfl, ⟨fun _ _ => rfl, ⟨trivial, ⟨fun _ _ => rfl, ⟨trivial, ⟨trivial, trivial⟩⟩⟩⟩⟩⟩, ⟨trivial, ⟨trivial, ⟨trivial, trivial⟩⟩⟩⟩, trivial⟩) ?_ ?_
      · exact ⟨ob_s (l := fun g => [blkR b1 [iV most, bV ch, .slice a8 ((rem2 l (l.getD (vicN ch l l.length).toNat kz2).1).length) c9] 79]) (l' := fun g => [blkR b1 [iV most, bV ch, .slice a8 ((rem2 l (l.getD (vicN ch l l.length).toNat kz2).1).length) c9] 79]) (v := fun g => .agg #[iV most, bV ch, .slice a8 ((rem2 l (l.getD (vicN ch l l.length).toNat kz2).1).length) c9]) (fun g => o_loadN (i := 0) [iV most, bV ch, .slice a8 ((rem2 l (l.getD (vicN ch l l.length).toNat kz2).1).length) c9] (by kernel_rfl) (by kernel_rfl) (by kernel_rfl)) (fun g => by kernel_rfl), ob_val fun g w => by kernel_rfl, ob_d (ι := Option Addr × Nat) (l := fun g => [vewR 2 (.slice a8 ((rem2 l (l.getD (vicN ch l l.length).toNat kz2).1).length) c9) ((rem2 l (l.getD (vicN ch l l.length).toNat kz2).1).length) ((rem2 l (l.getD (vicN ch l l.length).toNat kz2).1).flatMap kr2)]) (L := fun g y => [vewR 2 (.slice a8 ((rem2 l (l.getD (vicN ch l l.length).toNat kz2).1).length) c9) ((rem2 l (l.getD (vicN ch l l.length).toNat kz2).1).length) ((rem2 l (l.getD (vicN ch l l.length).toNat kz2).1).flatMap kr2), vewR 2 (.slice y.1 ((rem2 (rem2 l (l.getD (vicN ch l l.length).toNat kz2).1) key ++ [(key, (lk (rem2 l (l.getD (vicN ch l l.length).toNat kz2).1) key).getD 0 + 1)]).length) y.2) ((rem2 (rem2 l (l.getD (vicN ch l l.length).toNat kz2).1) key ++ [(key, (lk (rem2 l (l.getD (vicN ch l l.length).toNat kz2).1) key).getD 0 + 1)]).length) ((rem2 (rem2 l (l.getD (vicN ch l l.length).toNat kz2).1) key ++ [(key, (lk (rem2 l (l.getD (vicN ch l l.length).toNat kz2).1) key).getD 0 + 1)]).flatMap kr2)]) (fun y => .agg #[iV most, bV ch, .slice y.1 ((rem2 (rem2 l (l.getD (vicN ch l l.length).toNat kz2).1) key ++ [(key, (lk (rem2 l (l.getD (vicN ch l l.length).toNat kz2).1) key).getD 0 + 1)]).length) y.2]) (fun g => o_call (by kernel_rfl) Try.call68 (Tri.vewA (L := [vewR 2 (.slice a8 ((rem2 l (l.getD (vicN ch l l.length).toNat kz2).1).length) c9) ((rem2 l (l.getD (vicN ch l l.length).toNat kz2).1).length) ((rem2 l (l.getD (vicN ch l l.length).toNat kz2).1).flatMap kr2)]) (F := fun v => .agg #[iV most, bV ch, v]) (t_ask06 (a0 := a8) (cap := c9) (l := rem2 l (l.getD (vicN ch l l.length).toNat kz2).1) (most := most) (ch := ch) (key := key) (by omega) (by first | omega | exact Nat.le_trans (rem2_le _ _) (by omega)) (by first | assumption | exact T2B.at hT _ | exact T2B.at (T2B.rem hT _) _)))) (fun g => by kernel_rfl) (fun g y _ => ⟨trivial, by kernel_rfl, by kernel_rfl⟩), ob_s (l := fun g => [blkR b4 [bV (decide ((lk l key).getD 0 > 0)), sV ((l.getD (vicN ch l l.length).toNat kz2).1), bV true] 68]) (l' := fun g => [blkR b4 [bV (decide ((lk l key).getD 0 > 0)), sV ((l.getD (vicN ch l l.length).toNat kz2).1), bV true] 68]) (v := fun g => .agg #[bV (decide ((lk l key).getD 0 > 0)), sV ((l.getD (vicN ch l l.length).toNat kz2).1), bV true]) (fun g => o_loadN (i := 0) [bV (decide ((lk l key).getD 0 > 0)), sV ((l.getD (vicN ch l l.length).toNat kz2).1), bV true] (by kernel_rfl) (by kernel_rfl) (by kernel_rfl)) (fun g => by kernel_rfl), ob_s (l := fun g => [blkR b2 [iV 0, bV false, .slice none 0 0] 79]) (l' := fun g => [blkR b2 [iV most, bV ch, .slice (addrOf (aggAt (g 2) 2)) ((rem2 (rem2 l (l.getD (vicN ch l l.length).toNat kz2).1) key ++ [(key, (lk (rem2 l (l.getD (vicN ch l l.length).toNat kz2).1) key).getD 0 + 1)]).length) (capOf (aggAt (g 2) 2))] 79]) (v := fun g => undef) (fun g => o_store (i := 0) (v := .agg #[iV most, bV ch, .slice (addrOf (aggAt (g 2) 2)) ((rem2 (rem2 l (l.getD (vicN ch l l.length).toNat kz2).1) key ++ [(key, (lk (rem2 l (l.getD (vicN ch l l.length).toNat kz2).1) key).getD 0 + 1)]).length) (capOf (aggAt (g 2) 2))]) (by kernel_rfl) (by kernel_rfl) (by kernel_rfl) (by kernel_rfl) (by kernel_rfl)) (fun g => by kernel_rfl), ob_s (l := fun g => [blkR b3 [bV false, sV ⟨#[]⟩, bV false] 68]) (l' := fun g => [blkR b3 [bV (decide ((lk l key).getD 0 > 0)), sV ((l.getD (vicN ch l l.length).toNat kz2).1), bV true] 68]) (v := fun g => undef) (fun g => o_store (i := 0) (v := .agg #[bV (decide ((lk l key).getD 0 > 0)), sV ((l.getD (vicN ch l l.length).toNat kz2).1), bV true]) (by kernel_rfl) (by kernel_rfl) (by kernel_rfl) (by kernel_rfl) (by kernel_rfl)) (fun g => by kernel_rfl), trivial⟩
      intro g
      refine Ex'.sub (subB_spec [4, 5]) ?_
      refine Ex'.as [0, 1, 2, 3, 4, 5, 8] (σ' := [(4, pV b2 0), (5, pV b3 0)]) (Γ' := [vewR 2 (.slice a0 l.length cap) l.length (l.flatMap kr2), blkR b1 [iV most, bV ch, .slice a8 ((rem2 l (l.getD (vicN ch l l.length).toNat kz2).1).length) c9] 79, blkR b2 [iV most, bV ch, .slice (addrOf (aggAt (g 2) 2)) ((rem2 (rem2 l (l.getD (vicN ch l l.length).toNat kz2).1) key ++ [(key, (lk (rem2 l (l.getD (vicN ch l l.length).toNat kz2).1) key).getD 0 + 1)]).length) (capOf (aggAt (g 2) 2))] 79, blkR b3 [bV (decide ((lk l key).getD 0 > 0)), sV ((l.getD (vicN ch l l.length).toNat kz2).1), bV true] 68, blkR b4 [bV (decide ((lk l key).getD 0 > 0)), sV ((l.getD (vicN ch l l.length).toNat kz2).1), bV true] 68, vewR 2 (.slice a8 ((rem2 l (l.getD (vicN ch l l.length).toNat kz2).1).length) c9) ((rem2 l (l.getD (vicN ch l l.length).toNat kz2).1).length) ((rem2 l (l.getD (vicN ch l l.length).toNat kz2).1).flatMap kr2), vewR 2 (.slice (addrOf (aggAt (g 2) 2)) ((rem2 (rem2 l (l.getD (vicN ch l l.length).toNat kz2).1) key ++ [(key, (lk (rem2 l (l.getD (vicN ch l l.length).toNat kz2).1) key).getD 0 + 1)]).length) (capOf (aggAt (g 2) 2))) ((rem2 (rem2 l (l.getD (vicN ch l l.length).toNat kz2).1) key ++ [(key, (lk (rem2 l (l.getD (vicN ch l l.length).toNat kz2).1) key).getD 0 + 1)]).length) ((rem2 (rem2 l (l.getD (vicN ch l l.length).toNat kz2).1) key ++ [(key, (lk (rem2 l (l.getD (vicN ch l l.length).toNat kz2).1) key).getD 0 + 1)]).flatMap kr2)]) (by kernel_rfl) rfl (by kernel_rfl) (by kernel_rfl) ?_
      generalize addrOf (aggAt (g 2) 2) = a11
      generalize capOf (aggAt (g 2) 2) = c12
      refine Ex'.next ?_
      refine Cd.ret ?_
      refine Ex'.ret Try.results42 (RVs.cellN (i := 0) (b := b2) (l := [iV most, bV ch, .slice a11 ((rem2 (rem2 l (l.getD (vicN ch l l.length).toNat kz2).1) key ++ [(key, (lk (rem2 l (l.getD (vicN ch l l.length).toNat kz2).1) key).getD 0 + 1)]).length) c12]) (E := 79) [iV most, bV ch, .slice a11 ((rem2 (rem2 l (l.getD (vicN ch l l.length).toNat kz2).1) key ++ [(key, (lk (rem2 l (l.getD (vicN ch l l.length).toNat kz2).1) key).getD 0 + 1)]).length) c12] 2 (by kernel_rfl) (by kernel_rfl) (by kernel_rfl) (by kernel_rfl) (RVs.cellN (i := 0) (b := b3) (l := [bV (decide ((lk l key).getD 0 > 0)), sV ((l.getD (vicN ch l l.length).toNat kz2).1), bV true]) (E := 68) [bV (decide ((lk l key).getD 0 > 0)), sV ((l.getD (vicN ch l l.length).toNat kz2).1), bV true] 3 (by kernel_rfl) (by kernel_rfl) (by kernel_rfl) (by kernel_rfl) (RVs.nil))) (fun w hw => ?_)
      have e : req06 most ch l key = (rem2 (rem2 l (l.getD (vicN ch l l.length).toNat kz2).1) key ++ [(key, (lk (rem2 l (l.getD (vicN ch l l.length).toNat kz2).1) key).getD 0 + 1)], decide ((lk l key).getD 0 > 0), (l.getD (vicN ch l l.length).toNat kz2).1, true) := by unfold req06; rw [if_neg hm0, if_pos ⟨h5, h6⟩]
      rw [e]; exact ⟨_, ⟨.slice a11 ((rem2 (rem2 l (l.getD (vicN ch l l.length).toNat kz2).1) key ++ [(key, (lk (rem2 l (l.getD (vicN ch l l.length).toNat kz2).1) key).getD 0 + 1)]).length) c12, trivial, rfl, rfl⟩, hw.pickB [0, 6] (by kernel_rfl) (by kernel_rfl) (by kernel_rfl)⟩
    ·
      refine Cd.skip ?_
      refine Ex'.next ?_
      refine Cd.seq ?_
      refine Cd.plan [0, 0, 3, 0, 7, 31] [(0, [(1, false, 0)]), (2, [(0, false, 0)]), (3, [(4, false, 0)]), (4, [(2, true, 0)]), (5, [(3, true, 0)])] [2] [(2, fun _ => True)] [(7, 2, fun g => vewR 2 (.slice (addrOf (aggAt (g 2) 2)) ((rem2 l key ++ [(key, (lk l key).getD 0 + 1)]).length) (capOf (aggAt (g 2) 2))) ((rem2 l key ++ [(key, (lk l key).getD 0 + 1)]).length) ((rem2 l key ++ [(key, (lk l key).getD 0 + 1)]).flatMap kr2)), (2, 4, fun g => blkR b2 [iV most, bV ch, .slice (addrOf (aggAt (g 2) 2)) ((rem2 l key ++ [(key, (lk l key).getD 0 + 1)]).length) (capOf (aggAt (g 2) 2))] 79), (3, 5, fun g => blkR b3 [bV (decide ((lk l key).getD 0 > 0)), sV ⟨#[]⟩, bV false] 68)] [fun g => .agg #[iV most, bV ch, .slice a0 l.length cap], fun g => sV key, fun g => .agg #[iV most, bV ch, .slice (addrOf (aggAt (g 2) 2)) ((rem2 l key ++ [(key, (lk l key).getD 0 + 1)]).length) (capOf (aggAt (g 2) 2))], fun g => .agg #[bV (decide ((lk l key).getD 0 > 0)), sV ⟨#[]⟩, bV false], fun g => undef, fun g => undef] (by kernel_rfl) (by kernel_rfl) rfl (⟨⟨⟨fun _ _ => rfl, ⟨fun _ _ => rfl, ⟨trivial, ⟨fun _ _ => rfl, ⟨trivial, ⟨trivial, trivial⟩⟩⟩⟩⟩⟩, ⟨trivial, ⟨trivial, ⟨trivial, trivial⟩⟩⟩⟩, trivial⟩) ?_ ?_
      · exact ⟨ob_s (l := fun g => [blkR b1 [iV most, bV ch, .slice a0 l.length cap] 79]) (l' := fun g => [blkR b1 [iV most, bV ch, .slice a0 l.length cap] 79]) (v := fun g => .agg #[iV most, bV ch, .slice a0 l.length cap]) (fun g => o_loadN (i := 0) [iV most, bV ch, .slice a0 l.length cap] (by kernel_rfl) (by kernel_rfl) (by kernel_rfl)) (fun g => by kernel_rfl), ob_val fun g w => by kernel_rfl, ob_d (ι := Option Addr × Nat) (l := fun g => [vewR 2 (.slice a0 l.length cap) l.length (l.flatMap kr2)]) (L := fun g y => [vewR 2 (.slice a0 l.length cap) l.length (l.flatMap kr2), vewR 2 (.slice y.1 ((rem2 l key ++ [(key, (lk l key).getD 0 + 1)]).length) y.2) ((rem2 l key ++ [(key, (lk l key).getD 0 + 1)]).length) ((rem2 l key ++ [(key, (lk l key).getD 0 + 1)]).flatMap kr2)]) (fun y => .agg #[iV most, bV ch, .slice y.1 ((rem2 l key ++ [(key, (lk l key).getD 0 + 1)]).length) y.2]) (fun g => o_call (by kernel_rfl) Try.call68 (Tri.vewA (L := [vewR 2 (.slice a0 l.length cap) l.length (l.flatMap kr2)]) (F := fun v => .agg #[iV most, bV ch, v]) (t_ask06 (a0 := a0) (cap := cap) (l := l) (most := most) (ch := ch) (key := key) (by omega) (by first | omega | exact Nat.le_trans (rem2_le _ _) (by omega)) (by first | assumption | exact T2B.at hT _ | exact T2B.at (T2B.rem hT _) _)))) (fun g => by kernel_rfl) (fun g y _ => ⟨trivial, by kernel_rfl, by kernel_rfl⟩), ob_s (l := fun g => [blkR b4 [bV (decide ((lk l key).getD 0 > 0)), sV ⟨#[]⟩, bV false] 68]) (l' := fun g => [blkR b4 [bV (decide ((lk l key).getD 0 > 0)), sV ⟨#[]⟩, bV false] 68]) (v := fun g => .agg #[bV (decide ((lk l key).getD 0 > 0)), sV ⟨#[]⟩, bV false]) (fun g => o_loadN (i := 0) [bV (decide ((lk l key).getD 0 > 0)), sV ⟨#[]⟩, bV false] (by kernel_rfl) (by kernel_rfl) (by kernel_rfl)) (fun g => by kernel_rfl), ob_s (l := fun g => [blkR b2 [iV 0, bV false, .slice none 0 0] 79]) (l' := fun g => [blkR b2 [iV most, bV ch, .slice (addrOf (aggAt (g 2) 2)) ((rem2 l key ++ [(key, (lk l key).getD 0 + 1)]).length) (capOf (aggAt (g 2) 2))] 79]) (v := fun g => undef) (fun g => o_store (i := 0) (v := .agg #[iV most, bV ch, .slice (addrOf (aggAt (g 2) 2)) ((rem2 l key ++ [(key, (lk l key).getD 0 + 1)]).length) (capOf (aggAt (g 2) 2))]) (by kernel_rfl) (by kernel_rfl) (by kernel_rfl) (by kernel_rfl) (by kernel_rfl)) (fun g => by kernel_rfl), ob_s (l := fun g => [blkR b3 [bV false, sV ⟨#[]⟩, bV false] 68]) (l' := fun g => [blkR b3 [bV (decide ((lk l key).getD 0 > 0)), sV ⟨#[]⟩, bV false] 68]) (v := fun g => undef) (fun g => o_store (i := 0) (v := .agg #[bV (decide ((lk l key).getD 0 > 0)), sV ⟨#[]⟩, bV false]) (by kernel_rfl) (by kernel_rfl) (by kernel_rfl) (by kernel_rfl) (by kernel_rfl)) (fun g => by kernel_rfl), trivial⟩
      intro g
      refine Ex'.sub (subB_spec [4, 5]) ?_
      refine Ex'.as [0, 1, 2, 3, 4, 7] (σ' := [(4, pV b2 0), (5, pV b3 0)]) (Γ' := [vewR 2 (.slice a0 l.length cap) l.length (l.flatMap kr2), blkR b1 [iV most, bV ch, .slice a0 l.length cap] 79, blkR b2 [iV most, bV ch, .slice (addrOf (aggAt (g 2) 2)) ((rem2 l key ++ [(key, (lk l key).getD 0 + 1)]).length) (capOf (aggAt (g 2) 2))] 79, blkR b3 [bV (decide ((lk l key).getD 0 > 0)), sV ⟨#[]⟩, bV false] 68, blkR b4 [bV (decide ((lk l key).getD 0 > 0)), sV ⟨#[]⟩, bV false] 68, vewR 2 (.slice (addrOf (aggAt (g 2) 2)) ((rem2 l key ++ [(key, (lk l key).getD 0 + 1)]).length) (capOf (aggAt (g 2) 2))) ((rem2 l key ++ [(key, (lk l key).getD 0 + 1)]).length) ((rem2 l key ++ [(key, (lk l key).getD 0 + 1)]).flatMap kr2)]) (by kernel_rfl) rfl (by kernel_rfl) (by kernel_rfl) ?_
      generalize addrOf (aggAt (g 2) 2) = a14
      generalize capOf (aggAt (g 2) 2) = c15
      refine Ex'.next ?_
      refine Cd.ret ?_
      refine Ex'.ret Try.results42 (RVs.cellN (i := 0) (b := b2) (l := [iV most, bV ch, .slice a14 ((rem2 l key ++ [(key, (lk l key).getD 0 + 1)]).length) c15]) (E := 79) [iV most, bV ch, .slice a14 ((rem2 l key ++ [(key, (lk l key).getD 0 + 1)]).length) c15] 2 (by kernel_rfl) (by kernel_rfl) (by kernel_rfl) (by kernel_rfl) (RVs.cellN (i := 0) (b := b3) (l := [bV (decide ((lk l key).getD 0 > 0)), sV ⟨#[]⟩, bV false]) (E := 68) [bV (decide ((lk l key).getD 0 > 0)), sV ⟨#[]⟩, bV false] 3 (by kernel_rfl) (by kernel_rfl) (by kernel_rfl) (by kernel_rfl) (RVs.nil))) (fun w hw => ?_)
      have e : req06 most ch l key = (rem2 l key ++ [(key, (lk l key).getD 0 + 1)], decide ((lk l key).getD 0 > 0), ⟨#[]⟩, false) := by unfold req06; rw [if_neg hm0, if_neg (fun q => h6 q.2)]
      rw [e]; exact ⟨_, ⟨.slice a14 ((rem2 l key ++ [(key, (lk l key).getD 0 + 1)]).length) c15, trivial, rfl, rfl⟩, hw.pickB [0, 5] (by kernel_rfl) (by kernel_rfl) (by kernel_rfl)⟩
  ·
    refine Sq.vals [4, 5, 6, 7, 8, 9, 10] (rest := []) [undef, undef, undef, undef, undef, undef, bV false] (fun w => by kernel_rfl) ?_
    refine Sq.done ?_
    refine Ex'.next ?_
    refine Cd.condF (by kernel_rfl) ?_
    refine Cd.skip ?_
    refine Ex'.next ?_
    refine Cd.seq ?_
    refine Cd.plan [0, 0, 3, 0, 7, 31] [(0, [(1, false, 0)]), (2, [(0, false, 0)]), (3, [(4, false, 0)]), (4, [(2, true, 0)]), (5, [(3, true, 0)])] [2] [(2, fun _ => True)] [(7, 2, fun g => vewR 2 (.slice (addrOf (aggAt (g 2) 2)) ((rem2 l key ++ [(key, (lk l key).getD 0 + 1)]).length) (capOf (aggAt (g 2) 2))) ((rem2 l key ++ [(key, (lk l key).getD 0 + 1)]).length) ((rem2 l key ++ [(key, (lk l key).getD 0 + 1)]).flatMap kr2)), (2, 4, fun g => blkR b2 [iV most, bV ch, .slice (addrOf (aggAt (g 2) 2)) ((rem2 l key ++ [(key, (lk l key).getD 0 + 1)]).length) (capOf (aggAt (g 2) 2))] 79), (3, 5, fun g => blkR b3 [bV (decide ((lk l key).getD 0 > 0)), sV ⟨#[]⟩, bV false] 68)] [fun g => .agg #[iV most, bV ch, .slice a0 l.length cap], fun g => sV key, fun g => .agg #[iV most, bV ch, .slice (addrOf (aggAt (g 2) 2)) ((rem2 l key ++ [(key, (lk l key).getD 0 + 1)]).length) (capOf (aggAt (g 2) 2))], fun g => .agg #[bV (decide ((lk l key).getD 0 > 0)), sV ⟨#[]⟩, bV false], fun g => undef, fun g => undef] (by kernel_rfl) (by kernel_rfl) rfl (⟨⟨⟨fun _ _ => rfl, ⟨fun _ _ => rfl, ⟨trivial, ⟨fun _ _ => rfl, ⟨trivial, ⟨trivial, trivial⟩⟩⟩⟩⟩⟩, ⟨trivial, ⟨trivial, ⟨trivial, trivial⟩⟩⟩⟩, trivial⟩) ?_ ?_
    · exact ⟨ob_s (l := fun g => [blkR b1 [iV most, bV ch, .slice a0 l.length cap] 79]) (l' := fun g => [blkR b1 [iV most, bV ch, .slice a0 l.length cap] 79]) (v := fun g => .agg #[iV most, bV ch, .slice a0 l.length cap]) (fun g => o_loadN (i := 0) [iV most, bV ch, .slice a0 l.length cap] (by kernel_rfl) (by kernel_rfl) (by kernel_rfl)) (fun g => by kernel_rfl), ob_val fun g w => by kernel_rfl, ob_d (ι := Option Addr × Nat) (l := fun g => [vewR 2 (.slice a0 l.length cap) l.length (l.flatMap kr2)]) (L := fun g y => [vewR 2 (.slice a0 l.length cap) l.length (l.flatMap kr2), vewR 2 (.slice y.1 ((rem2 l key ++ [(key, (lk l key).getD 0 + 1)]).length) y.2) ((rem2 l key ++ [(key, (lk l key).getD 0 + 1)]).length) ((rem2 l key ++ [(key, (lk l key).getD 0 + 1)]).flatMap kr2)]) (fun y => .agg #[iV most, bV ch, .slice y.1 ((rem2 l key ++ [(key, (lk l key).getD 0 + 1)]).length) y.2]) (fun g => o_call (by kernel_rfl) Try.call68 (Tri.vewA (L := [vewR 2 (.slice a0 l.length cap) l.length (l.flatMap kr2)]) (F := fun v => .agg #[iV most, bV ch, v]) (t_ask06 (a0 := a0) (cap := cap) (l := l) (most := most) (ch := ch) (key := key) (by omega) (by first | omega | exact Nat.le_trans (rem2_le _ _) (by omega)) (by first | assumption | exact T2B.at hT _ | exact T2B.at (T2B.rem hT _) _)))) (fun g => by kernel_rfl) (fun g y _ => ⟨trivial, by kernel_rfl, by kernel_rfl⟩), ob_s (l := fun g => [blkR b4 [bV (decide ((lk l key).getD 0 > 0)), sV ⟨#[]⟩, bV false] 68]) (l' := fun g => [blkR b4 [bV (decide ((lk l key).getD 0 > 0)), sV ⟨#[]⟩, bV false] 68]) (v := fun g => .agg #[bV (decide ((lk l key).getD 0 > 0)), sV ⟨#[]⟩, bV false]) (fun g => o_loadN (i := 0) [bV (decide ((lk l key).getD 0 > 0)), sV ⟨#[]⟩, bV false] (by kernel_rfl) (by kernel_rfl) (by kernel_rfl)) (fun g => by kernel_rfl), ob_s (l := fun g => [blkR b2 [iV 0, bV false, .slice none 0 0] 79]) (l' := fun g => [blkR b2 [iV most, bV ch, .slice (addrOf (aggAt (g 2) 2)) ((rem2 l key ++ [(key, (lk l key).getD 0 + 1)]).length) (capOf (aggAt (g 2) 2))] 79]) (v := fun g => undef) (fun g => o_store (i := 0) (v := .agg #[iV most, bV ch, .slice (addrOf (aggAt (g 2) 2)) ((rem2 l key ++ [(key, (lk l key).getD 0 + 1)]).length) (capOf (aggAt (g 2) 2))]) (by kernel_rfl) (by kernel_rfl) (by kernel_rfl) (by kernel_rfl) (by kernel_rfl)) (fun g => by kernel_rfl), ob_s (l := fun g => [blkR b3 [bV false, sV ⟨#[]⟩, bV false] 68]) (l' := fun g => [blkR b3 [bV (decide ((lk l key).getD 0 > 0)), sV ⟨#[]⟩, bV false] 68]) (v := fun g => undef) (fun g => o_store (i := 0) (v := .agg #[bV (decide ((lk l key).getD 0 > 0)), sV ⟨#[]⟩, bV false]) (by kernel_rfl) (by kernel_rfl) (by kernel_rfl) (by kernel_rfl) (by kernel_rfl)) (fun g => by kernel_rfl), trivial⟩
    intro g
    refine Ex'.sub (subB_spec [4, 5]) ?_
    refine Ex'.as [0, 1, 2, 3, 4, 7] (σ' := [(4, pV b2 0), (5, pV b3 0)]) (Γ' := [vewR 2 (.slice a0 l.length cap) l.length (l.flatMap kr2), blkR b1 [iV most, bV ch, .slice a0 l.length cap] 79, blkR b2 [iV most, bV ch, .slice (addrOf (aggAt (g 2) 2)) ((rem2 l key ++ [(key, (lk l key).getD 0 + 1)]).length) (capOf (aggAt (g 2) 2))] 79, blkR b3 [bV (decide ((lk l key).getD 0 > 0)), sV ⟨#[]⟩, bV false] 68, blkR b4 [bV (decide ((lk l key).getD 0 > 0)), sV ⟨#[]⟩, bV false] 68, vewR 2 (.slice (addrOf (aggAt (g 2) 2)) ((rem2 l key ++ [(key, (lk l key).getD 0 + 1)]).length) (capOf (aggAt (g 2) 2))) ((rem2 l key ++ [(key, (lk l key).getD 0 + 1)]).length) ((rem2 l key ++ [(key, (lk l key).getD 0 + 1)]).flatMap kr2)]) (by kernel_rfl) rfl (by kernel_rfl) (by kernel_rfl) ?_
    generalize addrOf (aggAt (g 2) 2) = a17
    generalize capOf (aggAt (g 2) 2) = c18
    refine Ex'.next ?_
    refine Cd.ret ?_
    refine Ex'.ret Try.results42 (RVs.cellN (i := 0) (b := b2) (l := [iV most, bV ch, .slice a17 ((rem2 l key ++ [(key, (lk l key).getD 0 + 1)]).length) c18]) (E := 79) [iV most, bV ch, .slice a17 ((rem2 l key ++ [(key, (lk l key).getD 0 + 1)]).length) c18] 2 (by kernel_rfl) (by kernel_rfl) (by kernel_rfl) (by kernel_rfl) (RVs.cellN (i := 0) (b := b3) (l := [bV (decide ((lk l key).getD 0 > 0)), sV ⟨#[]⟩, bV false]) (E := 68) [bV (decide ((lk l key).getD 0 > 0)), sV ⟨#[]⟩, bV false] 3 (by kernel_rfl) (by kernel_rfl) (by kernel_rfl) (by kernel_rfl) (RVs.nil))) (fun w hw => ?_)
    have e : req06 most ch l key = (rem2 l key ++ [(key, (lk l key).getD 0 + 1)], decide ((lk l key).getD 0 > 0), ⟨#[]⟩, false) := by unfold req06; rw [if_neg hm0, if_neg (fun q => q.1 (Classical.not_not.1 h5))]
    rw [e]; exact ⟨_, ⟨.slice a17 ((rem2 l key ++ [(key, (lk l key).getD 0 + 1)]).length) c18, trivial, rfl, rfl⟩, hw.pickB [0, 5] (by kernel_rfl) (by kernel_rfl) (by kernel_rfl)⟩

set_option maxHeartbeats 8000000 in
set_option maxRecDepth 100000 in
theorem t_request06_0 {a0 : Option Addr} {cap : Nat} {l : List (ByteArray × Int)} {most : Int} {ch : Bool} {key : ByteArray} (hl : l.length ≤ cap ∧ cap ≤ 9223372036854775807) (hb : l.length ≤ 1000000) (hm0 : most = 0) : Tri Try.prog 42 #[.agg #[iV most, bV ch, .slice a0 l.length cap], sV key] [vewR 2 (.slice a0 l.length cap) l.length (l.flatMap kr2)] (Same [vewR 2 (.slice a0 l.length cap) l.length (l.flatMap kr2)] (.tuple #[.agg #[iV most, bV ch, .slice a0 l.length cap], .agg #[bV (decide ((lk l key).getD 0 > 0)), sV ⟨#[]⟩, bV false]])) := by
  refine Tri.enter (args := [.agg #[iV most, bV ch, .slice a0 l.length cap], sV key]) Try.func42 rfl rfl rfl (fun B wz => ?_)
  refine Cd.seq ?_
  refine Cd.region rfl ?_
  refine Sq.ex [] (l := []) (o_newBox (v := .agg #[iV most, bV ch, .slice a0 l.length cap]) [iV most, bV ch, .slice a0 l.length cap] (by kernel_rfl) rfl) (by kernel_rfl) rfl (by kernel_rfl) (fun _ => Nat.zero_le _) ?_; intro b1 _
  refine Sq.ex [] (l := []) (o_new [iV 0, bV false, .slice none 0 0] (fun w => by kernel_rfl)) (by kernel_rfl) rfl (by kernel_rfl) (fun _ => Nat.zero_le _) ?_; intro b2 _
  refine Sq.ex [] (l := []) (o_new [bV false, sV ⟨#[]⟩, bV false] (fun w => by kernel_rfl)) (by kernel_rfl) rfl (by kernel_rfl) (fun _ => Nat.zero_le _) ?_; intro b3 _
  refine Sq.done ?_
  refine Ex'.next ?_
  refine Cd.seq ?_
  refine Cd.region rfl ?_
  refine Sq.ex [] (l := []) (o_new [bV false, sV ⟨#[]⟩, bV false] (fun w => by kernel_rfl)) (by kernel_rfl) rfl (by kernel_rfl) (fun _ => Nat.zero_le _) ?_; intro b4 _
  refine Sq.done ?_
  refine Ex'.next ?_
  refine Cd.seq ?_
  refine Cd.region rfl ?_
  refine Sq.same [1] (l := [blkR b1 [iV most, bV ch, .slice a0 l.length cap] 79]) (o_loadN (i := 0) [iV most, bV ch, .slice a0 l.length cap] (by kernel_rfl) (by kernel_rfl) (by kernel_rfl)) (by kernel_rfl) rfl (by kernel_rfl) rfl ?_
  refine Sq.vals [1] (rest := [2, 3, 4, 5]) [sV key] (fun w => by kernel_rfl) ?_
  refine Sq.same [0] (l := [vewR 2 (.slice a0 l.length cap) l.length (l.flatMap kr2)]) (o_call (by kernel_rfl) Try.call43 (t_times06 (a0 := a0) (cap := cap) (l := l) (most := most) (ch := ch) (key := key) (by omega) (by omega))) (by kernel_rfl) rfl (by kernel_rfl) rfl ?_
  refine Sq.vals [3, 4] (rest := [5]) [bV (decide ((lk l key).getD 0 > 0)), pV b4 0] (fun w => by kernel_rfl) ?_
  refine Sq.same [4] (l := [blkR b4 [bV false, sV ⟨#[]⟩, bV false] 68]) (o_store (i := 0) (v := bV (decide ((lk l key).getD 0 > 0))) (by kernel_rfl) (by kernel_rfl) (by kernel_rfl) (by kernel_rfl) (by kernel_rfl)) (by kernel_rfl) rfl (by kernel_rfl) rfl ?_
  refine Sq.done ?_
  refine Ex'.next ?_
  refine Cd.seq ?_
  refine Cd.seq ?_
  refine Cd.region rfl ?_
  refine Sq.vals [0] (rest := [1, 2]) [pV b1 0] (fun w => by kernel_rfl) ?_
  refine Sq.same [1] (l := [blkR b1 [iV most, bV ch, .slice a0 l.length cap] 79]) (o_load (i := 0) (v := iV most) (by kernel_rfl) (by kernel_rfl) (by kernel_rfl)) (by kernel_rfl) rfl (by kernel_rfl) rfl ?_
  refine Sq.v (r := bV (decide (most = 0))) (o_eqI (k := .i64) (a := most) (b := 0) (by kernel_rfl) (by kernel_rfl)) rfl (by kernel_rfl) ?_
  refine Sq.re 14 rfl (vT hm0) ?_
  refine Sq.done ?_
  refine Ex'.next ?_
  refine Cd.condT (by kernel_rfl) ?_
  refine Cd.seq ?_
  refine Cd.plan [0, 0, 1, 7] [(0, [(1, false, 0)]), (1, [(4, false, 0)]), (2, [(2, true, 0)]), (3, [(3, true, 0)])] [] [] [(2, 2, fun g => blkR b2 [iV most, bV ch, .slice a0 l.length cap] 79), (3, 3, fun g => blkR b3 [bV (decide ((lk l key).getD 0 > 0)), sV ⟨#[]⟩, bV false] 68)] [fun g => .agg #[iV most, bV ch, .slice a0 l.length cap], fun g => .agg #[bV (decide ((lk l key).getD 0 > 0)), sV ⟨#[]⟩, bV false], fun g => undef, fun g => undef] (by kernel_rfl) (by kernel_rfl) rfl (trivial) ?_ ?_
  · exact ⟨ob_s (l := fun g => [blkR b1 [iV most, bV ch, .slice a0 l.length cap] 79]) (l' := fun g => [blkR b1 [iV most, bV ch, .slice a0 l.length cap] 79]) (v := fun g => .agg #[iV most, bV ch, .slice a0 l.length cap]) (fun g => o_loadN (i := 0) [iV most, bV ch, .slice a0 l.length cap] (by kernel_rfl) (by kernel_rfl) (by kernel_rfl)) (fun g => by kernel_rfl), ob_s (l := fun g => [blkR b4 [bV (decide ((lk l key).getD 0 > 0)), sV ⟨#[]⟩, bV false] 68]) (l' := fun g => [blkR b4 [bV (decide ((lk l key).getD 0 > 0)), sV ⟨#[]⟩, bV false] 68]) (v := fun g => .agg #[bV (decide ((lk l key).getD 0 > 0)), sV ⟨#[]⟩, bV false]) (fun g => o_loadN (i := 0) [bV (decide ((lk l key).getD 0 > 0)), sV ⟨#[]⟩, bV false] (by kernel_rfl) (by kernel_rfl) (by kernel_rfl)) (fun g => by kernel_rfl), ob_s (l := fun g => [blkR b2 [iV 0, bV false, .slice none 0 0] 79]) (l' := fun g => [blkR b2 [iV most, bV ch, .slice a0 l.length cap] 79]) (v := fun g => undef) (fun g => o_store (i := 0) (v := .agg #[iV most, bV ch, .slice a0 l.length cap]) (by kernel_rfl) (by kernel_rfl) (by kernel_rfl) (by kernel_rfl) (by kernel_rfl)) (fun g => by kernel_rfl), ob_s (l := fun g => [blkR b3 [bV false, sV ⟨#[]⟩, bV false] 68]) (l' := fun g => [blkR b3 [bV (decide ((lk l key).getD 0 > 0)), sV ⟨#[]⟩, bV false] 68]) (v := fun g => undef) (fun g => o_store (i := 0) (v := .agg #[bV (decide ((lk l key).getD 0 > 0)), sV ⟨#[]⟩, bV false]) (by kernel_rfl) (by kernel_rfl) (by kernel_rfl) (by kernel_rfl) (by kernel_rfl)) (fun g => by kernel_rfl), trivial⟩
  intro g
  refine Ex'.sub (subB_spec [1, 2, 4, 5, 6]) ?_
  refine Ex'.as [0, 1, 2, 3, 4] (σ' := [(1, sV key), (2, pV b1 0), (4, pV b2 0), (5, pV b3 0), (6, pV b4 0)]) (Γ' := [vewR 2 (.slice a0 l.length cap) l.length (l.flatMap kr2), blkR b1 [iV most, bV ch, .slice a0 l.length cap] 79, blkR b2 [iV most, bV ch, .slice a0 l.length cap] 79, blkR b3 [bV (decide ((lk l key).getD 0 > 0)), sV ⟨#[]⟩, bV false] 68, blkR b4 [bV (decide ((lk l key).getD 0 > 0)), sV ⟨#[]⟩, bV false] 68]) (by kernel_rfl) rfl (by kernel_rfl) (by kernel_rfl) ?_
  refine Ex'.next ?_
  refine Cd.ret ?_
  refine Ex'.thenRet ?_
  refine Ex'.ret Try.results42 (RVs.cellN (i := 0) (b := b2) (l := [iV most, bV ch, .slice a0 l.length cap]) (E := 79) [iV most, bV ch, .slice a0 l.length cap] 2 (by kernel_rfl) (by kernel_rfl) (by kernel_rfl) (by kernel_rfl) (RVs.cellN (i := 0) (b := b3) (l := [bV (decide ((lk l key).getD 0 > 0)), sV ⟨#[]⟩, bV false]) (E := 68) [bV (decide ((lk l key).getD 0 > 0)), sV ⟨#[]⟩, bV false] 3 (by kernel_rfl) (by kernel_rfl) (by kernel_rfl) (by kernel_rfl) (RVs.nil))) (fun w hw => ?_)
  exact ⟨_, ⟨rfl, rfl⟩, hw.pickB [0] (by kernel_rfl) (by kernel_rfl) (by kernel_rfl)⟩

set_option maxHeartbeats 8000000 in
set_option maxRecDepth 100000 in
theorem t_adopt06_no {a0 : Option Addr} {cap : Nat} {l : List (ByteArray × Int)} {most : Int} {ch : Bool} {key : ByteArray} (hl : l.length ≤ cap ∧ cap ≤ 9223372036854775807) (hb : l.length ≤ 1000000) (hT : T2B l) (hn : ((lk l key).getD 0 > 0 ∨ (l.length : Int) ≥ most)) : Tri Try.prog 45 #[.agg #[iV most, bV ch, .slice a0 l.length cap], sV key] [vewR 2 (.slice a0 l.length cap) l.length (l.flatMap kr2)] (Same [vewR 2 (.slice a0 l.length cap) l.length (l.flatMap kr2)] (.tuple #[.agg #[iV most, bV ch, .slice a0 l.length cap], bV false])) := by
  refine Tri.enter (args := [.agg #[iV most, bV ch, .slice a0 l.length cap], sV key]) Try.func45 rfl rfl rfl (fun B wz => ?_)
  refine Cd.seq ?_
  refine Cd.region rfl ?_
  refine Sq.ex [] (l := []) (o_newBox (v := .agg #[iV most, bV ch, .slice a0 l.length cap]) [iV most, bV ch, .slice a0 l.length cap] (by kernel_rfl) rfl) (by kernel_rfl) rfl (by kernel_rfl) (fun _ => Nat.zero_le _) ?_; intro b1 _
  refine Sq.ex [] (l := []) (o_new [iV 0, bV false, .slice none 0 0] (fun w => by kernel_rfl)) (by kernel_rfl) rfl (by kernel_rfl) (fun _ => Nat.zero_le _) ?_; intro b2 _
  refine Sq.vals [2] (rest := []) [bV false] (fun w => by kernel_rfl) ?_
  refine Sq.done ?_
  refine Ex'.next ?_
  refine Cd.seq ?_
  refine Cd.seq ?_
  refine Cd.region rfl ?_
  refine Sq.same [1] (l := [blkR b1 [iV most, bV ch, .slice a0 l.length cap] 79]) (o_loadN (i := 0) [iV most, bV ch, .slice a0 l.length cap] (by kernel_rfl) (by kernel_rfl) (by kernel_rfl)) (by kernel_rfl) rfl (by kernel_rfl) rfl ?_
  refine Sq.vals [1] (rest := [2, 3, 4, 5, 6, 7, 8, 9, 10, 11]) [sV key] (fun w => by kernel_rfl) ?_
  refine Sq.same [0] (l := [vewR 2 (.slice a0 l.length cap) l.length (l.flatMap kr2)]) (o_call (by kernel_rfl) Try.call43 (t_times06 (a0 := a0) (cap := cap) (l := l) (most := most) (ch := ch) (key := key) (by omega) (by omega))) (by kernel_rfl) rfl (by kernel_rfl) rfl ?_
  refine Sq.vals [3, 4] (rest := [5, 6, 7, 8, 9, 10, 11]) [bV (decide ((lk l key).getD 0 > 0)), bV (decide ((lk l key).getD 0 > 0))] (fun w => by kernel_rfl) ?_
  refine Sq.case 10 (p := (lk l key).getD 0 > 0) rfl (fun h3 => ?_) (fun h3 => ?_)
  ·
    refine Sq.vals [5, 6, 7, 8, 9, 10, 11] (rest := []) [undef, undef, undef, undef, undef, undef, bV true] (fun w => by kernel_rfl) ?_
    refine Sq.done ?_
    refine Ex'.next ?_
    refine Cd.condT (by kernel_rfl) ?_
    refine Cd.seq ?_
    refine Cd.region rfl ?_
    refine Sq.same [1] (l := [blkR b1 [iV most, bV ch, .slice a0 l.length cap] 79]) (o_loadN (i := 0) [iV most, bV ch, .slice a0 l.length cap] (by kernel_rfl) (by kernel_rfl) (by kernel_rfl)) (by kernel_rfl) rfl (by kernel_rfl) rfl ?_
    refine Sq.same [2] (l := [blkR b2 [iV 0, bV false, .slice none 0 0] 79]) (o_store (i := 0) (v := .agg #[iV most, bV ch, .slice a0 l.length cap]) (by kernel_rfl) (by kernel_rfl) (by kernel_rfl) (by kernel_rfl) (by kernel_rfl)) (by kernel_rfl) rfl (by kernel_rfl) rfl ?_
    refine Sq.vals [2] (rest := []) [bV false] (fun w => by kernel_rfl) ?_
    refine Sq.done ?_
    refine Ex'.next ?_
    refine Cd.ret ?_
    refine Ex'.thenRet ?_
    refine Ex'.ret Try.results45 (RVs.cellN (i := 0) (b := b2) (l := [iV most, bV ch, .slice a0 l.length cap]) (E := 79) [iV most, bV ch, .slice a0 l.length cap] 2 (by kernel_rfl) (by kernel_rfl) (by kernel_rfl) (by kernel_rfl) (RVs.tmp (v := bV false) (by kernel_rfl) (RVs.nil))) (fun w hw => ?_)
    exact ⟨_, ⟨rfl, rfl⟩, hw.pickB [0] (by kernel_rfl) (by kernel_rfl) (by kernel_rfl)⟩
  ·
    refine Sq.vals [5] (rest := [6, 7, 8, 9, 10, 11]) [pV b1 2] (fun w => by kernel_rfl) ?_
    refine Sq.same [1] (l := [blkR b1 [iV most, bV ch, .slice a0 l.length cap] 79]) (o_load (i := 2) (v := .slice a0 l.length cap) (by kernel_rfl) (by kernel_rfl) (by kernel_rfl)) (by kernel_rfl) rfl (by kernel_rfl) rfl ?_
    refine Sq.vals [7, 8] (rest := [9, 10, 11]) [iV (l.length : Int), pV b1 0] (fun w => by kernel_rfl) ?_
    refine Sq.same [1] (l := [blkR b1 [iV most, bV ch, .slice a0 l.length cap] 79]) (o_load (i := 0) (v := iV most) (by kernel_rfl) (by kernel_rfl) (by kernel_rfl)) (by kernel_rfl) rfl (by kernel_rfl) rfl ?_
    refine Sq.vals [10, 11] (rest := []) [bV (decide ((l.length : Int) ≥ most)), bV (decide ((l.length : Int) ≥ most))] (fun w => by kernel_rfl) ?_
    refine Sq.done ?_
    refine Ex'.next ?_
    refine Cd.case (p := (l.length : Int) ≥ most) (by kernel_rfl) (fun h4 => ?_) (fun h4 => ?_)
    ·
      refine Cd.seq ?_
      refine Cd.region rfl ?_
      refine Sq.same [1] (l := [blkR b1 [iV most, bV ch, .slice a0 l.length cap] 79]) (o_loadN (i := 0) [iV most, bV ch, .slice a0 l.length cap] (by kernel_rfl) (by kernel_rfl) (by kernel_rfl)) (by kernel_rfl) rfl (by kernel_rfl) rfl ?_
      refine Sq.same [2] (l := [blkR b2 [iV 0, bV false, .slice none 0 0] 79]) (o_store (i := 0) (v := .agg #[iV most, bV ch, .slice a0 l.length cap]) (by kernel_rfl) (by kernel_rfl) (by kernel_rfl) (by kernel_rfl) (by kernel_rfl)) (by kernel_rfl) rfl (by kernel_rfl) rfl ?_
      refine Sq.vals [2] (rest := []) [bV false] (fun w => by kernel_rfl) ?_
      refine Sq.done ?_
      refine Ex'.next ?_
      refine Cd.ret ?_
      refine Ex'.thenRet ?_
      refine Ex'.ret Try.results45 (RVs.cellN (i := 0) (b := b2) (l := [iV most, bV ch, .slice a0 l.length cap]) (E := 79) [iV most, bV ch, .slice a0 l.length cap] 2 (by kernel_rfl) (by kernel_rfl) (by kernel_rfl) (by kernel_rfl) (RVs.tmp (v := bV false) (by kernel_rfl) (RVs.nil))) (fun w hw => ?_)
      exact ⟨_, ⟨rfl, rfl⟩, hw.pickB [0] (by kernel_rfl) (by kernel_rfl) (by kernel_rfl)⟩
    ·
      refine Cd.skip ?_
      refine Ex'.next ?_
      refine Cd.seq ?_
      refine Cd.region rfl ?_
      refine Sq.same [1] (l := [blkR b1 [iV most, bV ch, .slice a0 l.length cap] 79]) (o_loadN (i := 0) [iV most, bV ch, .slice a0 l.length cap] (by kernel_rfl) (by kernel_rfl) (by kernel_rfl)) (by kernel_rfl) rfl (by kernel_rfl) rfl ?_
      refine Sq.vals [1] (rest := [2, 3, 4]) [sV key] (fun w => by kernel_rfl) ?_
      refine Sq.ex [0] (l := [vewR 2 (.slice a0 l.length cap) l.length (l.flatMap kr2)]) (o_call (by kernel_rfl) Try.call68 (t_ask06 (a0 := a0) (cap := cap) (l := l) (most := most) (ch := ch) (key := key) (by omega) (by first | omega | exact Nat.le_trans (rem2_le _ _) (by omega)) (by first | assumption | exact T2B.at hT _ | exact T2B.at (T2B.rem hT _) _))) (by kernel_rfl) rfl (by kernel_rfl) (fun _ => Nat.le_of_ble_eq_true (by kernel_rfl)) ?_; rintro v5 _
      refine Sq.fact (i := 3) (R := vewR 2 v5 ((rem2 l key ++ [(key, (lk l key).getD 0 + 1)]).length) ((rem2 l key ++ [(key, (lk l key).getD 0 + 1)]).flatMap kr2)) (by kernel_rfl) vew_slice ?_; rintro ⟨a6, c7, rfl, hc7, hc7'⟩
      have hc7'' : c7 ≤ 9223372036854775807 := hc7'
      refine Sq.same [2] (l := [blkR b2 [iV 0, bV false, .slice none 0 0] 79]) (o_store (i := 0) (v := .agg #[iV most, bV ch, .slice a6 ((rem2 l key ++ [(key, (lk l key).getD 0 + 1)]).length) c7]) (by kernel_rfl) (by kernel_rfl) (by kernel_rfl) (by kernel_rfl) (by kernel_rfl)) (by kernel_rfl) rfl (by kernel_rfl) rfl ?_
      refine Sq.vals [4] (rest := []) [bV true] (fun w => by kernel_rfl) ?_
      refine Sq.done ?_
      refine Ex'.next ?_
      refine Cd.ret ?_
      refine Ex'.ret Try.results45 (RVs.cellN (i := 0) (b := b2) (l := [iV most, bV ch, .slice a6 ((rem2 l key ++ [(key, (lk l key).getD 0 + 1)]).length) c7]) (E := 79) [iV most, bV ch, .slice a6 ((rem2 l key ++ [(key, (lk l key).getD 0 + 1)]).length) c7] 2 (by kernel_rfl) (by kernel_rfl) (by kernel_rfl) (by kernel_rfl) (RVs.tmp (v := bV true) (by kernel_rfl) (RVs.nil))) (fun w hw => ?_)
      exact absurd hn (fun q => q.elim (fun q => h3 q) (fun q => h4 q))

set_option maxHeartbeats 8000000 in
set_option maxRecDepth 100000 in
theorem t_adopt06 {a0 : Option Addr} {cap : Nat} {l : List (ByteArray × Int)} {most : Int} {ch : Bool} {key : ByteArray} (hl : l.length ≤ cap ∧ cap ≤ 9223372036854775807) (hb : l.length ≤ 1000000) (hT : T2B l) (hn : ¬ ((lk l key).getD 0 > 0 ∨ (l.length : Int) ≥ most)) : Tri Try.prog 45 #[.agg #[iV most, bV ch, .slice a0 l.length cap], sV key] [vewR 2 (.slice a0 l.length cap) l.length (l.flatMap kr2)] (PostE (fun _ => True) (fun v => .tuple #[.agg #[iV most, bV ch, v], bV true]) fun v => [vewR 2 (.slice a0 l.length cap) l.length (l.flatMap kr2), vewR 2 v ((ask2 l key).length) ((ask2 l key).flatMap kr2)]) := by
  refine Tri.enter (args := [.agg #[iV most, bV ch, .slice a0 l.length cap], sV key]) Try.func45 rfl rfl rfl (fun B wz => ?_)
  refine Cd.seq ?_
  refine Cd.region rfl ?_
  refine Sq.ex [] (l := []) (o_newBox (v := .agg #[iV most, bV ch, .slice a0 l.length cap]) [iV most, bV ch, .slice a0 l.length cap] (by kernel_rfl) rfl) (by kernel_rfl) rfl (by kernel_rfl) (fun _ => Nat.zero_le _) ?_; intro b1 _
  refine Sq.ex [] (l := []) (o_new [iV 0, bV false, .slice none 0 0] (fun w => by kernel_rfl)) (by kernel_rfl) rfl (by kernel_rfl) (fun _ => Nat.zero_le _) ?_; intro b2 _
  refine Sq.vals [2] (rest := []) [bV false] (fun w => by kernel_rfl) ?_
  refine Sq.done ?_
  refine Ex'.next ?_
  refine Cd.seq ?_
  refine Cd.seq ?_
  refine Cd.region rfl ?_
  refine Sq.same [1] (l := [blkR b1 [iV most, bV ch, .slice a0 l.length cap] 79]) (o_loadN (i := 0) [iV most, bV ch, .slice a0 l.length cap] (by kernel_rfl) (by kernel_rfl) (by kernel_rfl)) (by kernel_rfl) rfl (by kernel_rfl) rfl ?_
  refine Sq.vals [1] (rest := [2, 3, 4, 5, 6, 7, 8, 9, 10, 11]) [sV key] (fun w => by kernel_rfl) ?_
  refine Sq.same [0] (l := [vewR 2 (.slice a0 l.length cap) l.length (l.flatMap kr2)]) (o_call (by kernel_rfl) Try.call43 (t_times06 (a0 := a0) (cap := cap) (l := l) (most := most) (ch := ch) (key := key) (by omega) (by omega))) (by kernel_rfl) rfl (by kernel_rfl) rfl ?_
  refine Sq.vals [3, 4] (rest := [5, 6, 7, 8, 9, 10, 11]) [bV (decide ((lk l key).getD 0 > 0)), bV (decide ((lk l key).getD 0 > 0))] (fun w => by kernel_rfl) ?_
  refine Sq.case 10 (p := (lk l key).getD 0 > 0) rfl (fun h3 => ?_) (fun h3 => ?_)
  ·
    refine Sq.vals [5, 6, 7, 8, 9, 10, 11] (rest := []) [undef, undef, undef, undef, undef, undef, bV true] (fun w => by kernel_rfl) ?_
    refine Sq.done ?_
    refine Ex'.next ?_
    refine Cd.condT (by kernel_rfl) ?_
    refine Cd.seq ?_
    refine Cd.region rfl ?_
    refine Sq.same [1] (l := [blkR b1 [iV most, bV ch, .slice a0 l.length cap] 79]) (o_loadN (i := 0) [iV most, bV ch, .slice a0 l.length cap] (by kernel_rfl) (by kernel_rfl) (by kernel_rfl)) (by kernel_rfl) rfl (by kernel_rfl) rfl ?_
    refine Sq.same [2] (l := [blkR b2 [iV 0, bV false, .slice none 0 0] 79]) (o_store (i := 0) (v := .agg #[iV most, bV ch, .slice a0 l.length cap]) (by kernel_rfl) (by kernel_rfl) (by kernel_rfl) (by kernel_rfl) (by kernel_rfl)) (by kernel_rfl) rfl (by kernel_rfl) rfl ?_
    refine Sq.vals [2] (rest := []) [bV false] (fun w => by kernel_rfl) ?_
    refine Sq.done ?_
    refine Ex'.next ?_
    refine Cd.ret ?_
    refine Ex'.thenRet ?_
    refine Ex'.ret Try.results45 (RVs.cellN (i := 0) (b := b2) (l := [iV most, bV ch, .slice a0 l.length cap]) (E := 79) [iV most, bV ch, .slice a0 l.length cap] 2 (by kernel_rfl) (by kernel_rfl) (by kernel_rfl) (by kernel_rfl) (RVs.tmp (v := bV false) (by kernel_rfl) (RVs.nil))) (fun w hw => ?_)
    exact absurd (.inl h3) hn
  ·
    refine Sq.vals [5] (rest := [6, 7, 8, 9, 10, 11]) [pV b1 2] (fun w => by kernel_rfl) ?_
    refine Sq.same [1] (l := [blkR b1 [iV most, bV ch, .slice a0 l.length cap] 79]) (o_load (i := 2) (v := .slice a0 l.length cap) (by kernel_rfl) (by kernel_rfl) (by kernel_rfl)) (by kernel_rfl) rfl (by kernel_rfl) rfl ?_
    refine Sq.vals [7, 8] (rest := [9, 10, 11]) [iV (l.length : Int), pV b1 0] (fun w => by kernel_rfl) ?_
    refine Sq.same [1] (l := [blkR b1 [iV most, bV ch, .slice a0 l.length cap] 79]) (o_load (i := 0) (v := iV most) (by kernel_rfl) (by kernel_rfl) (by kernel_rfl)) (by kernel_rfl) rfl (by kernel_rfl) rfl ?_
    refine Sq.vals [10, 11] (rest := []) [bV (decide ((l.length : Int) ≥ most)), bV (decide ((l.length : Int) ≥ most))] (fun w => by kernel_rfl) ?_
    refine Sq.done ?_
    refine Ex'.next ?_
    refine Cd.case (p := (l.length : Int) ≥ most) (by kernel_rfl) (fun h4 => ?_) (fun h4 => ?_)
    ·
      refine Cd.seq ?_
      refine Cd.region rfl ?_
      refine Sq.same [1] (l := [blkR b1 [iV most, bV ch, .slice a0 l.length cap] 79]) (o_loadN (i := 0) [iV most, bV ch, .slice a0 l.length cap] (by kernel_rfl) (by kernel_rfl) (by kernel_rfl)) (by kernel_rfl) rfl (by kernel_rfl) rfl ?_
      refine Sq.same [2] (l := [blkR b2 [iV 0, bV false, .slice none 0 0] 79]) (o_store (i := 0) (v := .agg #[iV most, bV ch, .slice a0 l.length cap]) (by kernel_rfl) (by kernel_rfl) (by kernel_rfl) (by kernel_rfl) (by kernel_rfl)) (by kernel_rfl) rfl (by kernel_rfl) rfl ?_
      refine Sq.vals [2] (rest := []) [bV false] (fun w => by kernel_rfl) ?_
      refine Sq.done ?_
      refine Ex'.next ?_
      refine Cd.ret ?_
      refine Ex'.thenRet ?_
      refine Ex'.ret Try.results45 (RVs.cellN (i := 0) (b := b2) (l := [iV most, bV ch, .slice a0 l.length cap]) (E := 79) [iV most, bV ch, .slice a0 l.length cap] 2 (by kernel_rfl) (by kernel_rfl) (by kernel_rfl) (by kernel_rfl) (RVs.tmp (v := bV false) (by kernel_rfl) (RVs.nil))) (fun w hw => ?_)
      exact absurd (.inr h4) hn
    ·
      refine Cd.skip ?_
      refine Ex'.next ?_
      refine Cd.seq ?_
      refine Cd.region rfl ?_
      refine Sq.same [1] (l := [blkR b1 [iV most, bV ch, .slice a0 l.length cap] 79]) (o_loadN (i := 0) [iV most, bV ch, .slice a0 l.length cap] (by kernel_rfl) (by kernel_rfl) (by kernel_rfl)) (by kernel_rfl) rfl (by kernel_rfl) rfl ?_
      refine Sq.vals [1] (rest := [2, 3, 4]) [sV key] (fun w => by kernel_rfl) ?_
      refine Sq.ex [0] (l := [vewR 2 (.slice a0 l.length cap) l.length (l.flatMap kr2)]) (o_call (by kernel_rfl) Try.call68 (t_ask06 (a0 := a0) (cap := cap) (l := l) (most := most) (ch := ch) (key := key) (by omega) (by first | omega | exact Nat.le_trans (rem2_le _ _) (by omega)) (by first | assumption | exact T2B.at hT _ | exact T2B.at (T2B.rem hT _) _))) (by kernel_rfl) rfl (by kernel_rfl) (fun _ => Nat.le_of_ble_eq_true (by kernel_rfl)) ?_; rintro v5 _
      refine Sq.fact (i := 3) (R := vewR 2 v5 ((rem2 l key ++ [(key, (lk l key).getD 0 + 1)]).length) ((rem2 l key ++ [(key, (lk l key).getD 0 + 1)]).flatMap kr2)) (by kernel_rfl) vew_slice ?_; rintro ⟨a6, c7, rfl, hc7, hc7'⟩
      have hc7'' : c7 ≤ 9223372036854775807 := hc7'
      refine Sq.same [2] (l := [blkR b2 [iV 0, bV false, .slice none 0 0] 79]) (o_store (i := 0) (v := .agg #[iV most, bV ch, .slice a6 ((rem2 l key ++ [(key, (lk l key).getD 0 + 1)]).length) c7]) (by kernel_rfl) (by kernel_rfl) (by kernel_rfl) (by kernel_rfl) (by kernel_rfl)) (by kernel_rfl) rfl (by kernel_rfl) rfl ?_
      refine Sq.vals [4] (rest := []) [bV true] (fun w => by kernel_rfl) ?_
      refine Sq.done ?_
      refine Ex'.next ?_
      refine Cd.ret ?_
      refine Ex'.ret Try.results45 (RVs.cellN (i := 0) (b := b2) (l := [iV most, bV ch, .slice a6 ((rem2 l key ++ [(key, (lk l key).getD 0 + 1)]).length) c7]) (E := 79) [iV most, bV ch, .slice a6 ((rem2 l key ++ [(key, (lk l key).getD 0 + 1)]).length) c7] 2 (by kernel_rfl) (by kernel_rfl) (by kernel_rfl) (by kernel_rfl) (RVs.tmp (v := bV true) (by kernel_rfl) (RVs.nil))) (fun w hw => ?_)
      exact ⟨_, ⟨.slice a6 ((rem2 l key ++ [(key, (lk l key).getD 0 + 1)]).length) c7, trivial, rfl, rfl⟩, hw.pickB [0, 3] (by kernel_rfl) (by kernel_rfl) (by kernel_rfl)⟩

set_option maxHeartbeats 8000000 in
set_option maxRecDepth 100000 in
theorem t_new06 {most : Int} {ch : Bool}  : Tri Try.prog 41 #[iV most, bV ch] [] (Same [] (.agg #[iV (if most < 0 then 0 else most), bV ch, .slice none 0 0])) := by
  refine Tri.enter (args := [iV most, bV ch]) Try.func41 rfl rfl rfl (fun B wz => ?_)
  refine Cd.seq ?_
  refine Cd.region rfl ?_
  refine Sq.ex [] (l := []) (o_new [iV 0, bV false, .slice none 0 0] (fun w => by kernel_rfl)) (by kernel_rfl) rfl (by kernel_rfl) (fun _ => Nat.zero_le _) ?_; intro b1 _
  refine Sq.done ?_
  refine Ex'.next ?_
  refine Cd.seq ?_
  refine Cd.seq ?_
  refine Cd.region rfl ?_
  refine Sq.vals [0, 1] (rest := []) [iV most, bV (decide (most < 0))] (fun w => by kernel_rfl) ?_
  refine Sq.done ?_
  refine Ex'.next ?_
  refine Cd.case (p := most < 0) (by kernel_rfl) (fun h2 => ?_) (fun h2 => ?_)
  ·
    refine Cd.region rfl ?_
    refine Sq.vals [0] (rest := []) [iV 0] (fun w => by kernel_rfl) ?_
    refine Sq.done ?_
    refine Ex'.next ?_
    refine Cd.seq ?_
    refine Cd.region rfl ?_
    refine Sq.vals [0, 1, 2] (rest := [3]) [iV 0, bV ch, .agg #[iV 0, bV ch, .slice none 0 0]] (fun w => by kernel_rfl) ?_
    refine Sq.same [0] (l := [blkR b1 [iV 0, bV false, .slice none 0 0] 79]) (o_store (i := 0) (v := .agg #[iV 0, bV ch, .slice none 0 0]) (by kernel_rfl) (by kernel_rfl) (by kernel_rfl) (by kernel_rfl) (by kernel_rfl)) (by kernel_rfl) rfl (by kernel_rfl) rfl ?_
    refine Sq.done ?_
    refine Ex'.next ?_
    refine Cd.ret ?_
    refine Ex'.ret Try.results41 (RVs.cellN (i := 0) (b := b1) (l := [iV 0, bV ch, .slice none 0 0]) (E := 79) [iV 0, bV ch, .slice none 0 0] 0 (by kernel_rfl) (by kernel_rfl) (by kernel_rfl) (by kernel_rfl) (RVs.nil)) (fun w hw => ?_)
    exact ⟨_, ⟨by rw [if_pos h2]; rfl, rfl⟩, hw.pickB [] (by kernel_rfl) (by kernel_rfl) (by kernel_rfl)⟩
  ·
    refine Cd.skip ?_
    refine Ex'.next ?_
    refine Cd.seq ?_
    refine Cd.region rfl ?_
    refine Sq.vals [0, 1, 2] (rest := [3]) [iV most, bV ch, .agg #[iV most, bV ch, .slice none 0 0]] (fun w => by kernel_rfl) ?_
    refine Sq.same [0] (l := [blkR b1 [iV 0, bV false, .slice none 0 0] 79]) (o_store (i := 0) (v := .agg #[iV most, bV ch, .slice none 0 0]) (by kernel_rfl) (by kernel_rfl) (by kernel_rfl) (by kernel_rfl) (by kernel_rfl)) (by kernel_rfl) rfl (by kernel_rfl) rfl ?_
    refine Sq.done ?_
    refine Ex'.next ?_
    refine Cd.ret ?_
    refine Ex'.ret Try.results41 (RVs.cellN (i := 0) (b := b1) (l := [iV most, bV ch, .slice none 0 0]) (E := 79) [iV most, bV ch, .slice none 0 0] 0 (by kernel_rfl) (by kernel_rfl) (by kernel_rfl) (by kernel_rfl) (RVs.nil)) (fun w hw => ?_)
    exact ⟨_, ⟨by rw [if_neg h2]; rfl, rfl⟩, hw.pickB [] (by kernel_rfl) (by kernel_rfl) (by kernel_rfl)⟩

set_option maxHeartbeats 8000000 in
set_option maxRecDepth 100000 in
theorem t_resize06 {a0 : Option Addr} {cap : Nat} {l : List (ByteArray × Int)} {most : Int} {ch : Bool} {mo : Int} (hl : l.length ≤ cap ∧ cap ≤ 9223372036854775807) (hb : l.length ≤ 1000000) (hM : 0 ≤ (if mo < 0 then 0 else mo)) (hbig : (l.length : Int) > (if mo < 0 then 0 else mo)) : Tri Try.prog 48 #[.agg #[iV most, bV ch, .slice a0 l.length cap], iV mo] [vewR 2 (.slice a0 l.length cap) l.length (l.flatMap kr2)] (PostE (ι := Value × Value) (fun _ => True) (fun v => .tuple #[.agg #[iV (if mo < 0 then 0 else mo), bV ch, v.1], v.2]) fun v => [vewR 2 (.slice a0 l.length cap) l.length (l.flatMap kr2), vewR 2 v.1 ((rsz06 (if mo < 0 then 0 else mo) ch l).1.length) (((rsz06 (if mo < 0 then 0 else mo) ch l).1).flatMap kr2), rowR 9 1 v.2 (rsz06 (if mo < 0 then 0 else mo) ch l).2.length ((rsz06 (if mo < 0 then 0 else mo) ch l).2.map Value.string)]) := by
  refine Tri.enter (args := [.agg #[iV most, bV ch, .slice a0 l.length cap], iV mo]) Try.func48 rfl rfl rfl (fun B wz => ?_)
  refine Cd.seq ?_
  refine Cd.region rfl ?_
  refine Sq.ex [] (l := []) (o_newBox (v := .agg #[iV most, bV ch, .slice a0 l.length cap]) [iV most, bV ch, .slice a0 l.length cap] (by kernel_rfl) rfl) (by kernel_rfl) rfl (by kernel_rfl) (fun _ => Nat.zero_le _) ?_; intro b1 _
  refine Sq.ex [] (l := []) (o_new [iV 0, bV false, .slice none 0 0] (fun w => by kernel_rfl)) (by kernel_rfl) rfl (by kernel_rfl) (fun _ => Nat.zero_le _) ?_; intro b2 _
  refine Sq.vals [2] (rest := []) [.slice none 0 0] (fun w => by kernel_rfl) ?_
  refine Sq.done ?_
  refine Ex'.next ?_
  refine Cd.seq ?_
  refine Cd.region rfl ?_
  refine Sq.vals [0] (rest := [1, 2, 3, 4]) [iV mo] (fun w => by kernel_rfl) ?_
  refine Sq.same [] (l := []) (o_call (by kernel_rfl) Try.call41 (t_new06 (most := mo) (ch := false))) (by kernel_rfl) rfl (by kernel_rfl) rfl ?_
  refine Sq.vals [2, 3] (rest := [4]) [iV (if mo < 0 then 0 else mo), pV b1 0] (fun w => by kernel_rfl) ?_
  refine Sq.same [1] (l := [blkR b1 [iV most, bV ch, .slice a0 l.length cap] 79]) (o_store (i := 0) (v := iV (if mo < 0 then 0 else mo)) (by kernel_rfl) (by kernel_rfl) (by kernel_rfl) (by kernel_rfl) (by kernel_rfl)) (by kernel_rfl) rfl (by kernel_rfl) rfl ?_
  refine Sq.done ?_
  refine Ex'.next ?_
  refine Cd.seq ?_
  refine Cd.region rfl ?_
  refine Sq.vals [0] (rest := []) [.slice none 0 0] (fun w => by kernel_rfl) ?_
  refine Sq.done ?_
  refine Ex'.next ?_
  refine Cd.seq ?_
  refine Cd.block ?_
  refine Cd.nilRow 9 1 ?_
  refine Cd.loopP (ι := Value × (List (ByteArray × Int)) × Value × (List ByteArray) × Nat) (fun ⟨cv, cl, rv, rw, f⟩ => RszI (if mo < 0 then 0 else mo) ch l cl rw f) (fun ⟨cv, cl, rv, rw, f⟩ => f) (fun ⟨cv, cl, rv, rw, f⟩ => [(2, pV b1 0), (4, pV b2 0), (5, .slice none 0 0), (6, rv)]) (fun ⟨cv, cl, rv, rw, f⟩ => [vewR 2 (.slice a0 l.length cap) l.length (l.flatMap kr2), blkR b1 [iV (if mo < 0 then 0 else mo), bV ch, cv] 79, blkR b2 [iV 0, bV false, .slice none 0 0] 79, vewR 2 cv cl.length (cl.flatMap kr2), rowR 9 1 rv rw.length (rw.map Value.string)]) (l.length) ?_ ?_
  ·
    refine Cd.seq ?_
    refine Cd.seq ?_
    refine Cd.region rfl ?_
    refine Sq.vals [0] (rest := [1, 2, 3, 4, 5]) [pV b1 2] (fun w => by kernel_rfl) ?_
    refine Sq.same [1] (l := [blkR b1 [iV (if mo < 0 then 0 else mo), bV ch, .slice a0 l.length cap] 79]) (o_load (i := 2) (v := .slice a0 l.length cap) (by kernel_rfl) (by kernel_rfl) (by kernel_rfl)) (by kernel_rfl) rfl (by kernel_rfl) rfl ?_
    refine Sq.vals [2, 3] (rest := [4, 5]) [iV (l.length : Int), pV b1 0] (fun w => by kernel_rfl) ?_
    refine Sq.same [1] (l := [blkR b1 [iV (if mo < 0 then 0 else mo), bV ch, .slice a0 l.length cap] 79]) (o_load (i := 0) (v := iV (if mo < 0 then 0 else mo)) (by kernel_rfl) (by kernel_rfl) (by kernel_rfl)) (by kernel_rfl) rfl (by kernel_rfl) rfl ?_
    refine Sq.v (r := bV (decide ((l.length : Int) > (if mo < 0 then 0 else mo)))) (pureV (by kernel_rfl) rfl fun w => by kernel_rfl) rfl (by kernel_rfl) ?_
    refine Sq.re 19 rfl (vT hbig) ?_
    refine Sq.done ?_
    refine Ex'.next ?_
    refine Cd.condT (by kernel_rfl) ?_
    refine Cd.skip ?_
    refine Ex'.next ?_
    refine Cd.block ?_
    refine Cd.seq ?_
    refine Cd.region rfl ?_
    refine Sq.same [1] (l := [blkR b1 [iV (if mo < 0 then 0 else mo), bV ch, .slice a0 l.length cap] 79]) (o_loadN (i := 0) [iV (if mo < 0 then 0 else mo), bV ch, .slice a0 l.length cap] (by kernel_rfl) (by kernel_rfl) (by kernel_rfl)) (by kernel_rfl) rfl (by kernel_rfl) rfl ?_
    refine Sq.ex [0] (l := [vewR 2 (.slice a0 l.length cap) l.length (l.flatMap kr2)]) (o_call (by kernel_rfl) Try.call47 (t_drop06 (a0 := a0) (cap := cap) (l := l) (most := (if mo < 0 then 0 else mo)) (ch := ch) (by omega) (by omega) (by have := vicN_some ch l (k := l.length) (by omega); omega))) (by kernel_rfl) rfl (by kernel_rfl) (fun _ => Nat.le_of_ble_eq_true (by kernel_rfl)) ?_; rintro v3 _
    refine Sq.fact (i := 4) (R := vewR 2 v3 ((rem2 l (l.getD (vicN ch l l.length).toNat kz2).1).length) ((rem2 l (l.getD (vicN ch l l.length).toNat kz2).1).flatMap kr2)) (by kernel_rfl) vew_slice ?_; rintro ⟨a4, c5, rfl, hc5, hc5'⟩
    have hc5'' : c5 ≤ 9223372036854775807 := hc5'
    refine Sq.vals [2, 3, 4, 5] (rest := [6, 7, 8, 9]) [.tuple #[.agg #[iV (if mo < 0 then 0 else mo), bV ch, .slice a4 ((rem2 l (l.getD (vicN ch l l.length).toNat kz2).1).length) c5], sV ((l.getD (vicN ch l l.length).toNat kz2).1), bV true], .agg #[iV (if mo < 0 then 0 else mo), bV ch, .slice a4 ((rem2 l (l.getD (vicN ch l l.length).toNat kz2).1).length) c5], sV ((l.getD (vicN ch l l.length).toNat kz2).1), bV true] (fun w => by kernel_rfl) ?_
    refine Sq.ex [] (l := []) (o_new [iV 0, bV false, .slice none 0 0] (fun w => by kernel_rfl)) (by kernel_rfl) rfl (by kernel_rfl) (fun _ => Nat.zero_le _) ?_; intro b6 _
    refine Sq.same [5] (l := [blkR b6 [iV 0, bV false, .slice none 0 0] 79]) (o_store (i := 0) (v := .agg #[iV (if mo < 0 then 0 else mo), bV ch, .slice a4 ((rem2 l (l.getD (vicN ch l l.length).toNat kz2).1).length) c5]) (by kernel_rfl) (by kernel_rfl) (by kernel_rfl) (by kernel_rfl) (by kernel_rfl)) (by kernel_rfl) rfl (by kernel_rfl) rfl ?_
    refine Sq.vals [8, 9] (rest := []) [sV ((l.getD (vicN ch l l.length).toNat kz2).1), bV true] (fun w => by kernel_rfl) ?_
    refine Sq.done ?_
    refine Ex'.next ?_
    refine Cd.seq ?_
    refine Cd.region rfl ?_
    refine Sq.same [5] (l := [blkR b6 [iV (if mo < 0 then 0 else mo), bV ch, .slice a4 ((rem2 l (l.getD (vicN ch l l.length).toNat kz2).1).length) c5] 79]) (o_loadN (i := 0) [iV (if mo < 0 then 0 else mo), bV ch, .slice a4 ((rem2 l (l.getD (vicN ch l l.length).toNat kz2).1).length) c5] (by kernel_rfl) (by kernel_rfl) (by kernel_rfl)) (by kernel_rfl) rfl (by kernel_rfl) rfl ?_
    refine Sq.same [1] (l := [blkR b1 [iV (if mo < 0 then 0 else mo), bV ch, .slice a0 l.length cap] 79]) (o_store (i := 0) (v := .agg #[iV (if mo < 0 then 0 else mo), bV ch, .slice a4 ((rem2 l (l.getD (vicN ch l l.length).toNat kz2).1).length) c5]) (by kernel_rfl) (by kernel_rfl) (by kernel_rfl) (by kernel_rfl) (by kernel_rfl)) (by kernel_rfl) rfl (by kernel_rfl) rfl ?_
    refine Sq.done ?_
    refine Ex'.next ?_
    refine Cd.region rfl ?_
    refine Sq.vals [0, 1] (rest := [2, 3, 4]) [.slice none 0 0, sV ((l.getD (vicN ch l l.length).toNat kz2).1)] (fun w => by kernel_rfl) ?_
    refine Sq.ex [] (l := []) (o_lit (sz := 1) (sV ⟨#[]⟩) [sV ((l.getD (vicN ch l l.length).toNat kz2).1)] Try.underlying47 (by kernel_rfl) (by kernel_rfl) (by kernel_rfl) (by kernel_rfl) (by kernel_rfl)) (by kernel_rfl) rfl (by kernel_rfl) (fun _ => Nat.zero_le _) ?_; intro b7 _
    refine Sq.ex [3, 6] (l := [rowR 9 1 (.slice none 0 0) (([] : List ByteArray).length) (([] : List ByteArray).map Value.string), blkR b7 [sV ((l.getD (vicN ch l l.length).toNat kz2).1)] 9]) (o_push (n' := (([] : List ByteArray) ++ [(l.getD (vicN ch l l.length).toNat kz2).1]).length) (xs' := (([] : List ByteArray) ++ [(l.getD (vicN ch l l.length).toNat kz2).1]).map Value.string) (by kernel_rfl) (by kernel_rfl) sl_str (by decide) rfl (by kernel_rfl) (by unfold maxLen; first | omega | (simp only [List.length_nil]; omega)) (by first | omega | (simp only [List.length_nil]; omega)) (by simp) (by simp)) (by kernel_rfl) rfl (by kernel_rfl) (fun _ => Nat.le_of_ble_eq_true (by kernel_rfl)) ?_; rintro v8 _
    refine Sq.fact (i := 3) (R := rowR 9 1 v8 ((([] : List ByteArray) ++ [(l.getD (vicN ch l l.length).toNat kz2).1]).length) ((([] : List ByteArray) ++ [(l.getD (vicN ch l l.length).toNat kz2).1]).map Value.string)) (by kernel_rfl) row_slice ?_; rintro ⟨a9, c10, rfl, hc10, hc10'⟩
    have hc10'' : c10 ≤ 9223372036854775807 := hc10'
    have hlen11 : (([] : List ByteArray) ++ [(l.getD (vicN ch l l.length).toNat kz2).1]).length = ([] : List ByteArray).length + 1 := by simp
    refine Sq.fact (i := 3) (R := rowR 9 1 (.slice a9 ((([] : List ByteArray) ++ [(l.getD (vicN ch l l.length).toNat kz2).1]).length) c10) ((([] : List ByteArray) ++ [(l.getD (vicN ch l l.length).toNat kz2).1]).length) ((([] : List ByteArray) ++ [(l.getD (vicN ch l l.length).toNat kz2).1]).map Value.string)) (by kernel_rfl) (row_addr (by simp)) ?_; rintro ⟨b12, rfl⟩
    refine Sq.vals [4] (rest := []) [.slice (some ⟨b12, 0, none⟩) ((([] : List ByteArray) ++ [(l.getD (vicN ch l l.length).toNat kz2).1]).length) c10] (fun w => by kernel_rfl) ?_
    refine Sq.done ?_
    refine Ex'.blockNormal ?_
    refine Ex'.meetP (.slice a4 ((rem2 l (l.getD (vicN ch l l.length).toNat kz2).1).length) c5, rem2 l (l.getD (vicN ch l l.length).toNat kz2).1, .slice (some ⟨b12, 0, none⟩) ((([] : List ByteArray) ++ [(l.getD (vicN ch l l.length).toNat kz2).1]).length) c10, ([] : List ByteArray) ++ [(l.getD (vicN ch l l.length).toNat kz2).1], l.length - 1) ?_ ?_ (subB_eq (l := [2, 4, 5, 6]) (by kernel_rfl)) (fun w hw => hw.pickB [0, 1, 2, 4, 3] (by kernel_rfl) (by kernel_rfl) (by kernel_rfl))
    · (try dsimp only); exact RszI.step RszI.new hM hbig
    · (try dsimp only); omega
  rintro ⟨cv, cl, rv, rw, f⟩ hL13
  try dsimp only at hL13 ⊢
  have hz := hL13
  have hz1 := hz.len; have hz2 := hz.tot
  refine Cd.fact (i := 3) (R := vewR 2 cv cl.length (cl.flatMap kr2)) (by kernel_rfl) vew_slice ?_; rintro ⟨a14, c15, rfl, hc15, hc15'⟩
  have hc15'' : c15 ≤ 9223372036854775807 := hc15'
  refine Cd.fact (i := 4) (R := rowR 9 1 rv rw.length (rw.map Value.string)) (by kernel_rfl) row_slice ?_; rintro ⟨a16, c17, rfl, hc17, hc17'⟩
  have hc17'' : c17 ≤ 9223372036854775807 := hc17'
  refine Cd.seq ?_
  refine Cd.seq ?_
  refine Cd.region rfl ?_
  refine Sq.vals [0] (rest := [1, 2, 3, 4, 5]) [pV b1 2] (fun w => by kernel_rfl) ?_
  refine Sq.same [1] (l := [blkR b1 [iV (if mo < 0 then 0 else mo), bV ch, .slice a14 cl.length c15] 79]) (o_load (i := 2) (v := .slice a14 cl.length c15) (by kernel_rfl) (by kernel_rfl) (by kernel_rfl)) (by kernel_rfl) rfl (by kernel_rfl) rfl ?_
  refine Sq.vals [2, 3] (rest := [4, 5]) [iV (cl.length : Int), pV b1 0] (fun w => by kernel_rfl) ?_
  refine Sq.same [1] (l := [blkR b1 [iV (if mo < 0 then 0 else mo), bV ch, .slice a14 cl.length c15] 79]) (o_load (i := 0) (v := iV (if mo < 0 then 0 else mo)) (by kernel_rfl) (by kernel_rfl) (by kernel_rfl)) (by kernel_rfl) rfl (by kernel_rfl) rfl ?_
  refine Sq.vals [5] (rest := []) [bV (decide ((cl.length : Int) > (if mo < 0 then 0 else mo)))] (fun w => by kernel_rfl) ?_
  refine Sq.done ?_
  refine Ex'.next ?_
  refine Cd.case (p := (cl.length : Int) > (if mo < 0 then 0 else mo)) (by kernel_rfl) (fun h18 => ?_) (fun h18 => ?_)
  ·
    refine Cd.skip ?_
    refine Ex'.next ?_
    refine Cd.block ?_
    refine Cd.seq ?_
    refine Cd.region rfl ?_
    refine Sq.same [1] (l := [blkR b1 [iV (if mo < 0 then 0 else mo), bV ch, .slice a14 cl.length c15] 79]) (o_loadN (i := 0) [iV (if mo < 0 then 0 else mo), bV ch, .slice a14 cl.length c15] (by kernel_rfl) (by kernel_rfl) (by kernel_rfl)) (by kernel_rfl) rfl (by kernel_rfl) rfl ?_
    refine Sq.ex [3] (l := [vewR 2 (.slice a14 cl.length c15) cl.length (cl.flatMap kr2)]) (o_call (by kernel_rfl) Try.call47 (t_drop06 (a0 := a14) (cap := c15) (l := cl) (most := (if mo < 0 then 0 else mo)) (ch := ch) (by omega) (by omega) (by have := vicN_some ch cl (k := cl.length) (by omega); omega))) (by kernel_rfl) rfl (by kernel_rfl) (fun _ => Nat.le_of_ble_eq_true (by kernel_rfl)) ?_; rintro v19 _
    refine Sq.fact (i := 5) (R := vewR 2 v19 ((rem2 cl (cl.getD (vicN ch cl cl.length).toNat kz2).1).length) ((rem2 cl (cl.getD (vicN ch cl cl.length).toNat kz2).1).flatMap kr2)) (by kernel_rfl) vew_slice ?_; rintro ⟨a20, c21, rfl, hc21, hc21'⟩
    have hc21'' : c21 ≤ 9223372036854775807 := hc21'
    refine Sq.vals [2, 3, 4, 5] (rest := [6, 7, 8, 9]) [.tuple #[.agg #[iV (if mo < 0 then 0 else mo), bV ch, .slice a20 ((rem2 cl (cl.getD (vicN ch cl cl.length).toNat kz2).1).length) c21], sV ((cl.getD (vicN ch cl cl.length).toNat kz2).1), bV true], .agg #[iV (if mo < 0 then 0 else mo), bV ch, .slice a20 ((rem2 cl (cl.getD (vicN ch cl cl.length).toNat kz2).1).length) c21], sV ((cl.getD (vicN ch cl cl.length).toNat kz2).1), bV true] (fun w => by kernel_rfl) ?_
    refine Sq.ex [] (l := []) (o_new [iV 0, bV false, .slice none 0 0] (fun w => by kernel_rfl)) (by kernel_rfl) rfl (by kernel_rfl) (fun _ => Nat.zero_le _) ?_; intro b22 _
    refine Sq.same [6] (l := [blkR b22 [iV 0, bV false, .slice none 0 0] 79]) (o_store (i := 0) (v := .agg #[iV (if mo < 0 then 0 else mo), bV ch, .slice a20 ((rem2 cl (cl.getD (vicN ch cl cl.length).toNat kz2).1).length) c21]) (by kernel_rfl) (by kernel_rfl) (by kernel_rfl) (by kernel_rfl) (by kernel_rfl)) (by kernel_rfl) rfl (by kernel_rfl) rfl ?_
    refine Sq.vals [8, 9] (rest := []) [sV ((cl.getD (vicN ch cl cl.length).toNat kz2).1), bV true] (fun w => by kernel_rfl) ?_
    refine Sq.done ?_
    refine Ex'.next ?_
    refine Cd.seq ?_
    refine Cd.region rfl ?_
    refine Sq.same [6] (l := [blkR b22 [iV (if mo < 0 then 0 else mo), bV ch, .slice a20 ((rem2 cl (cl.getD (vicN ch cl cl.length).toNat kz2).1).length) c21] 79]) (o_loadN (i := 0) [iV (if mo < 0 then 0 else mo), bV ch, .slice a20 ((rem2 cl (cl.getD (vicN ch cl cl.length).toNat kz2).1).length) c21] (by kernel_rfl) (by kernel_rfl) (by kernel_rfl)) (by kernel_rfl) rfl (by kernel_rfl) rfl ?_
    refine Sq.same [1] (l := [blkR b1 [iV (if mo < 0 then 0 else mo), bV ch, .slice a14 cl.length c15] 79]) (o_store (i := 0) (v := .agg #[iV (if mo < 0 then 0 else mo), bV ch, .slice a20 ((rem2 cl (cl.getD (vicN ch cl cl.length).toNat kz2).1).length) c21]) (by kernel_rfl) (by kernel_rfl) (by kernel_rfl) (by kernel_rfl) (by kernel_rfl)) (by kernel_rfl) rfl (by kernel_rfl) rfl ?_
    refine Sq.done ?_
    refine Ex'.next ?_
    refine Cd.region rfl ?_
    refine Sq.vals [0, 1] (rest := [2, 3, 4]) [.slice a16 rw.length c17, sV ((cl.getD (vicN ch cl cl.length).toNat kz2).1)] (fun w => by kernel_rfl) ?_
    refine Sq.ex [] (l := []) (o_lit (sz := 1) (sV ⟨#[]⟩) [sV ((cl.getD (vicN ch cl cl.length).toNat kz2).1)] Try.underlying47 (by kernel_rfl) (by kernel_rfl) (by kernel_rfl) (by kernel_rfl) (by kernel_rfl)) (by kernel_rfl) rfl (by kernel_rfl) (fun _ => Nat.zero_le _) ?_; intro b23 _
    refine Sq.ex [4, 7] (l := [rowR 9 1 (.slice a16 rw.length c17) rw.length (rw.map Value.string), blkR b23 [sV ((cl.getD (vicN ch cl cl.length).toNat kz2).1)] 9]) (o_push (n' := (rw ++ [(cl.getD (vicN ch cl cl.length).toNat kz2).1]).length) (xs' := (rw ++ [(cl.getD (vicN ch cl cl.length).toNat kz2).1]).map Value.string) (by kernel_rfl) (by kernel_rfl) sl_str (by decide) rfl (by kernel_rfl) (by unfold maxLen; first | omega | (simp only [List.length_nil]; omega)) (by first | omega | (simp only [List.length_nil]; omega)) (by simp) (by simp)) (by kernel_rfl) rfl (by kernel_rfl) (fun _ => Nat.le_of_ble_eq_true (by kernel_rfl)) ?_; rintro v24 _
    refine Sq.fact (i := 4) (R := rowR 9 1 v24 ((rw ++ [(cl.getD (vicN ch cl cl.length).toNat kz2).1]).length) ((rw ++ [(cl.getD (vicN ch cl cl.length).toNat kz2).1]).map Value.string)) (by kernel_rfl) row_slice ?_; rintro ⟨a25, c26, rfl, hc26, hc26'⟩
    have hc26'' : c26 ≤ 9223372036854775807 := hc26'
    have hlen27 : (rw ++ [(cl.getD (vicN ch cl cl.length).toNat kz2).1]).length = rw.length + 1 := by simp
    refine Sq.fact (i := 4) (R := rowR 9 1 (.slice a25 ((rw ++ [(cl.getD (vicN ch cl cl.length).toNat kz2).1]).length) c26) ((rw ++ [(cl.getD (vicN ch cl cl.length).toNat kz2).1]).length) ((rw ++ [(cl.getD (vicN ch cl cl.length).toNat kz2).1]).map Value.string)) (by kernel_rfl) (row_addr (by simp)) ?_; rintro ⟨b28, rfl⟩
    refine Sq.vals [4] (rest := []) [.slice (some ⟨b28, 0, none⟩) ((rw ++ [(cl.getD (vicN ch cl cl.length).toNat kz2).1]).length) c26] (fun w => by kernel_rfl) ?_
    refine Sq.done ?_
    refine Ex'.blockNormal ?_
    refine Ex'.round (g := (.slice a14 cl.length c15, cl, .slice a16 rw.length c17, rw, f)) (.slice a20 ((rem2 cl (cl.getD (vicN ch cl cl.length).toNat kz2).1).length) c21, rem2 cl (cl.getD (vicN ch cl cl.length).toNat kz2).1, .slice (some ⟨b28, 0, none⟩) ((rw ++ [(cl.getD (vicN ch cl cl.length).toNat kz2).1]).length) c26, rw ++ [(cl.getD (vicN ch cl cl.length).toNat kz2).1], f - 1) ?_ ?_ (subB_eq (l := [2, 4, 5, 6]) (by kernel_rfl)) (fun w hw => hw.pickB [0, 1, 2, 5, 4] (by kernel_rfl) (by kernel_rfl) (by kernel_rfl))
    · (try dsimp only); exact hz.step hM h18
    · (try dsimp only); omega
  ·
    refine Cd.exit ?_
    refine Ex'.thenExit ?_
    refine Ex'.thenExit ?_
    refine Ex'.blockHit ?_
    refine Ex'.next ?_
    refine Cd.seq ?_
    refine Cd.region rfl ?_
    refine Sq.same [1] (l := [blkR b1 [iV (if mo < 0 then 0 else mo), bV ch, .slice a14 cl.length c15] 79]) (o_loadN (i := 0) [iV (if mo < 0 then 0 else mo), bV ch, .slice a14 cl.length c15] (by kernel_rfl) (by kernel_rfl) (by kernel_rfl)) (by kernel_rfl) rfl (by kernel_rfl) rfl ?_
    refine Sq.vals [1] (rest := [2, 3]) [.slice a16 rw.length c17] (fun w => by kernel_rfl) ?_
    refine Sq.same [2] (l := [blkR b2 [iV 0, bV false, .slice none 0 0] 79]) (o_store (i := 0) (v := .agg #[iV (if mo < 0 then 0 else mo), bV ch, .slice a14 cl.length c15]) (by kernel_rfl) (by kernel_rfl) (by kernel_rfl) (by kernel_rfl) (by kernel_rfl)) (by kernel_rfl) rfl (by kernel_rfl) rfl ?_
    refine Sq.vals [3] (rest := []) [.slice a16 rw.length c17] (fun w => by kernel_rfl) ?_
    refine Sq.done ?_
    refine Ex'.next ?_
    refine Cd.ret ?_
    refine Ex'.ret Try.results48 (RVs.cellN (i := 0) (b := b2) (l := [iV (if mo < 0 then 0 else mo), bV ch, .slice a14 cl.length c15]) (E := 79) [iV (if mo < 0 then 0 else mo), bV ch, .slice a14 cl.length c15] 2 (by kernel_rfl) (by kernel_rfl) (by kernel_rfl) (by kernel_rfl) (RVs.tmp (v := .slice a16 rw.length c17) (by kernel_rfl) (RVs.nil))) (fun w hw => ?_)
    rw [hz.fin h18]
    exact ⟨_, ⟨(.slice a14 cl.length c15, .slice a16 rw.length c17), trivial, rfl, rfl⟩, hw.pickB [0, 3, 4] (by kernel_rfl) (by kernel_rfl) (by kernel_rfl)⟩

set_option maxHeartbeats 8000000 in
set_option maxRecDepth 100000 in
theorem t_resize06_no {a0 : Option Addr} {cap : Nat} {l : List (ByteArray × Int)} {most : Int} {ch : Bool} {mo : Int} (hl : l.length ≤ cap ∧ cap ≤ 9223372036854775807) (hb : l.length ≤ 1000000) (hbig : ¬ (l.length : Int) > (if mo < 0 then 0 else mo)) : Tri Try.prog 48 #[.agg #[iV most, bV ch, .slice a0 l.length cap], iV mo] [vewR 2 (.slice a0 l.length cap) l.length (l.flatMap kr2)] (Same [vewR 2 (.slice a0 l.length cap) l.length (l.flatMap kr2)] (.tuple #[.agg #[iV (if mo < 0 then 0 else mo), bV ch, .slice a0 l.length cap], .slice none 0 0])) := by
  refine Tri.enter (args := [.agg #[iV most, bV ch, .slice a0 l.length cap], iV mo]) Try.func48 rfl rfl rfl (fun B wz => ?_)
  refine Cd.seq ?_
  refine Cd.region rfl ?_
  refine Sq.ex [] (l := []) (o_newBox (v := .agg #[iV most, bV ch, .slice a0 l.length cap]) [iV most, bV ch, .slice a0 l.length cap] (by kernel_rfl) rfl) (by kernel_rfl) rfl (by kernel_rfl) (fun _ => Nat.zero_le _) ?_; intro b1 _
  refine Sq.ex [] (l := []) (o_new [iV 0, bV false, .slice none 0 0] (fun w => by kernel_rfl)) (by kernel_rfl) rfl (by kernel_rfl) (fun _ => Nat.zero_le _) ?_; intro b2 _
  refine Sq.vals [2] (rest := []) [.slice none 0 0] (fun w => by kernel_rfl) ?_
  refine Sq.done ?_
  refine Ex'.next ?_
  refine Cd.seq ?_
  refine Cd.region rfl ?_
  refine Sq.vals [0] (rest := [1, 2, 3, 4]) [iV mo] (fun w => by kernel_rfl) ?_
  refine Sq.same [] (l := []) (o_call (by kernel_rfl) Try.call41 (t_new06 (most := mo) (ch := false))) (by kernel_rfl) rfl (by kernel_rfl) rfl ?_
  refine Sq.vals [2, 3] (rest := [4]) [iV (if mo < 0 then 0 else mo), pV b1 0] (fun w => by kernel_rfl) ?_
  refine Sq.same [1] (l := [blkR b1 [iV most, bV ch, .slice a0 l.length cap] 79]) (o_store (i := 0) (v := iV (if mo < 0 then 0 else mo)) (by kernel_rfl) (by kernel_rfl) (by kernel_rfl) (by kernel_rfl) (by kernel_rfl)) (by kernel_rfl) rfl (by kernel_rfl) rfl ?_
  refine Sq.done ?_
  refine Ex'.next ?_
  refine Cd.seq ?_
  refine Cd.region rfl ?_
  refine Sq.vals [0] (rest := []) [.slice none 0 0] (fun w => by kernel_rfl) ?_
  refine Sq.done ?_
  refine Ex'.next ?_
  refine Cd.seq ?_
  refine Cd.block ?_
  refine Cd.loop (ι := Nat) (fun k => True) (fun k => k) (fun k => [(2, pV b1 0), (4, pV b2 0), (5, .slice none 0 0), (6, .slice none 0 0)]) (fun k => [vewR 2 (.slice a0 l.length cap) l.length (l.flatMap kr2), blkR b1 [iV (if mo < 0 then 0 else mo), bV ch, .slice a0 l.length cap] 79, blkR b2 [iV 0, bV false, .slice none 0 0] 79]) 0 (trivial) (subB_eq (l := [2, 4, 5, 6]) (by kernel_rfl)) (fun w hw => hw.pickB [0, 1, 2] (by kernel_rfl) (by kernel_rfl) (by kernel_rfl)) ?_
  rintro k hL3
  try dsimp only at hL3 ⊢
  have hz := hL3
  refine Cd.seq ?_
  refine Cd.seq ?_
  refine Cd.region rfl ?_
  refine Sq.vals [0] (rest := [1, 2, 3, 4, 5]) [pV b1 2] (fun w => by kernel_rfl) ?_
  refine Sq.same [1] (l := [blkR b1 [iV (if mo < 0 then 0 else mo), bV ch, .slice a0 l.length cap] 79]) (o_load (i := 2) (v := .slice a0 l.length cap) (by kernel_rfl) (by kernel_rfl) (by kernel_rfl)) (by kernel_rfl) rfl (by kernel_rfl) rfl ?_
  refine Sq.vals [2, 3] (rest := [4, 5]) [iV (l.length : Int), pV b1 0] (fun w => by kernel_rfl) ?_
  refine Sq.same [1] (l := [blkR b1 [iV (if mo < 0 then 0 else mo), bV ch, .slice a0 l.length cap] 79]) (o_load (i := 0) (v := iV (if mo < 0 then 0 else mo)) (by kernel_rfl) (by kernel_rfl) (by kernel_rfl)) (by kernel_rfl) rfl (by kernel_rfl) rfl ?_
  refine Sq.v (r := bV (decide ((l.length : Int) > (if mo < 0 then 0 else mo)))) (pureV (by kernel_rfl) rfl fun w => by kernel_rfl) rfl (by kernel_rfl) ?_
  refine Sq.re 19 rfl (vF hbig) ?_
  refine Sq.done ?_
  refine Ex'.next ?_
  refine Cd.condF (by kernel_rfl) ?_
  refine Cd.exit ?_
  refine Ex'.thenExit ?_
  refine Ex'.thenExit ?_
  refine Ex'.blockHit ?_
  refine Ex'.next ?_
  refine Cd.seq ?_
  refine Cd.region rfl ?_
  refine Sq.same [1] (l := [blkR b1 [iV (if mo < 0 then 0 else mo), bV ch, .slice a0 l.length cap] 79]) (o_loadN (i := 0) [iV (if mo < 0 then 0 else mo), bV ch, .slice a0 l.length cap] (by kernel_rfl) (by kernel_rfl) (by kernel_rfl)) (by kernel_rfl) rfl (by kernel_rfl) rfl ?_
  refine Sq.vals [1] (rest := [2, 3]) [.slice none 0 0] (fun w => by kernel_rfl) ?_
  refine Sq.same [2] (l := [blkR b2 [iV 0, bV false, .slice none 0 0] 79]) (o_store (i := 0) (v := .agg #[iV (if mo < 0 then 0 else mo), bV ch, .slice a0 l.length cap]) (by kernel_rfl) (by kernel_rfl) (by kernel_rfl) (by kernel_rfl) (by kernel_rfl)) (by kernel_rfl) rfl (by kernel_rfl) rfl ?_
  refine Sq.vals [3] (rest := []) [.slice none 0 0] (fun w => by kernel_rfl) ?_
  refine Sq.done ?_
  refine Ex'.next ?_
  refine Cd.ret ?_
  refine Ex'.ret Try.results48 (RVs.cellN (i := 0) (b := b2) (l := [iV (if mo < 0 then 0 else mo), bV ch, .slice a0 l.length cap]) (E := 79) [iV (if mo < 0 then 0 else mo), bV ch, .slice a0 l.length cap] 2 (by kernel_rfl) (by kernel_rfl) (by kernel_rfl) (by kernel_rfl) (RVs.tmp (v := .slice none 0 0) (by kernel_rfl) (RVs.nil))) (fun w hw => ?_)
  exact ⟨_, ⟨rfl, rfl⟩, hw.pickB [0] (by kernel_rfl) (by kernel_rfl) (by kernel_rfl)⟩

set_option maxHeartbeats 8000000 in
set_option maxRecDepth 100000 in
theorem t_keys06_no {a0 : Option Addr} {cap : Nat} {l : List (ByteArray × Int)} {most : Int} {ch : Bool} (hl : l.length ≤ cap ∧ cap ≤ 9223372036854775807) (hb : l.length ≤ 1000000) (hbig : ¬ (l.length : Int) > (if (0 : Int) < 0 then 0 else (0 : Int))) : Tri Try.prog 52 #[.agg #[iV most, bV ch, .slice a0 l.length cap]] [vewR 2 (.slice a0 l.length cap) l.length (l.flatMap kr2)] (Same [vewR 2 (.slice a0 l.length cap) l.length (l.flatMap kr2)] (.slice none 0 0)) := by
  refine Tri.enter (args := [.agg #[iV most, bV ch, .slice a0 l.length cap]]) Try.func52 rfl rfl rfl (fun B wz => ?_)
  refine Cd.seq ?_
  refine Cd.region rfl ?_
  refine Sq.ex [] (l := []) (o_newBox (v := .agg #[iV most, bV ch, .slice a0 l.length cap]) [iV most, bV ch, .slice a0 l.length cap] (by kernel_rfl) rfl) (by kernel_rfl) rfl (by kernel_rfl) (fun _ => Nat.zero_le _) ?_; intro b1 _
  refine Sq.vals [1] (rest := []) [.slice none 0 0] (fun w => by kernel_rfl) ?_
  refine Sq.done ?_
  refine Ex'.next ?_
  refine Cd.seq ?_
  refine Cd.region rfl ?_
  refine Sq.same [1] (l := [blkR b1 [iV most, bV ch, .slice a0 l.length cap] 79]) (o_loadN (i := 0) [iV most, bV ch, .slice a0 l.length cap] (by kernel_rfl) (by kernel_rfl) (by kernel_rfl)) (by kernel_rfl) rfl (by kernel_rfl) rfl ?_
  refine Sq.same [0] (l := [vewR 2 (.slice a0 l.length cap) l.length (l.flatMap kr2)]) (o_call (by kernel_rfl) Try.call48 (t_resize06_no (a0 := a0) (cap := cap) (l := l) (most := most) (ch := ch) (mo := (0 : Int)) (by omega) (by omega) hbig)) (by kernel_rfl) rfl (by kernel_rfl) rfl ?_
  refine Sq.vals [2, 3, 4] (rest := [5, 6, 7]) [.tuple #[.agg #[iV (if (0 : Int) < 0 then 0 else (0 : Int)), bV ch, .slice a0 l.length cap], .slice none 0 0], .agg #[iV (if (0 : Int) < 0 then 0 else (0 : Int)), bV ch, .slice a0 l.length cap], .slice none 0 0] (fun w => by kernel_rfl) ?_
  refine Sq.ex [] (l := []) (o_new [iV 0, bV false, .slice none 0 0] (fun w => by kernel_rfl)) (by kernel_rfl) rfl (by kernel_rfl) (fun _ => Nat.zero_le _) ?_; intro b2 _
  refine Sq.same [2] (l := [blkR b2 [iV 0, bV false, .slice none 0 0] 79]) (o_store (i := 0) (v := .agg #[iV (if (0 : Int) < 0 then 0 else (0 : Int)), bV ch, .slice a0 l.length cap]) (by kernel_rfl) (by kernel_rfl) (by kernel_rfl) (by kernel_rfl) (by kernel_rfl)) (by kernel_rfl) rfl (by kernel_rfl) rfl ?_
  refine Sq.vals [7] (rest := []) [.slice none 0 0] (fun w => by kernel_rfl) ?_
  refine Sq.done ?_
  refine Ex'.next ?_
  refine Cd.seq ?_
  refine Cd.region rfl ?_
  refine Sq.vals [0, 1] (rest := []) [.slice none 0 0, .slice none 0 0] (fun w => by kernel_rfl) ?_
  refine Sq.done ?_
  refine Ex'.next ?_
  refine Cd.ret ?_
  refine Ex'.ret Try.results52 (RVs.tmp (v := .slice none 0 0) (by kernel_rfl) (RVs.nil)) (fun w hw => ?_)
  exact ⟨_, ⟨rfl, rfl⟩, hw.pickB [0] (by kernel_rfl) (by kernel_rfl) (by kernel_rfl)⟩

set_option maxHeartbeats 8000000 in
set_option maxRecDepth 100000 in
theorem t_keys06 {a0 : Option Addr} {cap : Nat} {l : List (ByteArray × Int)} {most : Int} {ch : Bool} (hl : l.length ≤ cap ∧ cap ≤ 9223372036854775807) (hb : l.length ≤ 1000000) (hbig : (l.length : Int) > (if (0 : Int) < 0 then 0 else (0 : Int))) : Tri Try.prog 52 #[.agg #[iV most, bV ch, .slice a0 l.length cap]] [vewR 2 (.slice a0 l.length cap) l.length (l.flatMap kr2)] (PostE (fun _ => True) id fun u => [vewR 2 (.slice a0 l.length cap) l.length (l.flatMap kr2), rowR 9 1 u (rsz06 (if (0 : Int) < 0 then 0 else (0 : Int)) ch l).2.length ((rsz06 (if (0 : Int) < 0 then 0 else (0 : Int)) ch l).2.map Value.string)]) := by
  refine Tri.enter (args := [.agg #[iV most, bV ch, .slice a0 l.length cap]]) Try.func52 rfl rfl rfl (fun B wz => ?_)
  refine Cd.seq ?_
  refine Cd.region rfl ?_
  refine Sq.ex [] (l := []) (o_newBox (v := .agg #[iV most, bV ch, .slice a0 l.length cap]) [iV most, bV ch, .slice a0 l.length cap] (by kernel_rfl) rfl) (by kernel_rfl) rfl (by kernel_rfl) (fun _ => Nat.zero_le _) ?_; intro b1 _
  refine Sq.vals [1] (rest := []) [.slice none 0 0] (fun w => by kernel_rfl) ?_
  refine Sq.done ?_
  refine Ex'.next ?_
  refine Cd.seq ?_
  refine Cd.region rfl ?_
  refine Sq.same [1] (l := [blkR b1 [iV most, bV ch, .slice a0 l.length cap] 79]) (o_loadN (i := 0) [iV most, bV ch, .slice a0 l.length cap] (by kernel_rfl) (by kernel_rfl) (by kernel_rfl)) (by kernel_rfl) rfl (by kernel_rfl) rfl ?_
  refine Sq.ex [0] (l := [vewR 2 (.slice a0 l.length cap) l.length (l.flatMap kr2)]) (o_call (by kernel_rfl) Try.call48 (t_resize06 (a0 := a0) (cap := cap) (l := l) (most := most) (ch := ch) (mo := (0 : Int)) (by omega) (by omega) (by first | decide | (split <;> omega)) hbig)) (by kernel_rfl) rfl (by kernel_rfl) (fun _ => Nat.le_of_ble_eq_true (by kernel_rfl)) ?_; rintro ⟨v2, u3⟩ _
  refine Sq.fact (i := 3) (R := rowR 9 1 u3 ((rsz06 (if (0 : Int) < 0 then 0 else (0 : Int)) ch l).2.length) ((rsz06 (if (0 : Int) < 0 then 0 else (0 : Int)) ch l).2.map Value.string)) (by kernel_rfl) row_slice ?_; rintro ⟨a4, c5, rfl, hc5, hc5'⟩
  have hc5'' : c5 ≤ 9223372036854775807 := hc5'
  refine Sq.fact (i := 2) (R := vewR 2 v2 ((rsz06 (if (0 : Int) < 0 then 0 else (0 : Int)) ch l).1.length) (((rsz06 (if (0 : Int) < 0 then 0 else (0 : Int)) ch l).1).flatMap kr2)) (by kernel_rfl) vew_slice ?_; rintro ⟨a6, c7, rfl, hc7, hc7'⟩
  have hc7'' : c7 ≤ 9223372036854775807 := hc7'
  refine Sq.vals [2, 3, 4] (rest := [5, 6, 7]) [.tuple #[.agg #[iV (if (0 : Int) < 0 then 0 else (0 : Int)), bV ch, .slice a6 ((rsz06 (if (0 : Int) < 0 then 0 else (0 : Int)) ch l).1.length) c7], .slice a4 ((rsz06 (if (0 : Int) < 0 then 0 else (0 : Int)) ch l).2.length) c5], .agg #[iV (if (0 : Int) < 0 then 0 else (0 : Int)), bV ch, .slice a6 ((rsz06 (if (0 : Int) < 0 then 0 else (0 : Int)) ch l).1.length) c7], .slice a4 ((rsz06 (if (0 : Int) < 0 then 0 else (0 : Int)) ch l).2.length) c5] (fun w => by kernel_rfl) ?_
  refine Sq.ex [] (l := []) (o_new [iV 0, bV false, .slice none 0 0] (fun w => by kernel_rfl)) (by kernel_rfl) rfl (by kernel_rfl) (fun _ => Nat.zero_le _) ?_; intro b8 _
  refine Sq.same [4] (l := [blkR b8 [iV 0, bV false, .slice none 0 0] 79]) (o_store (i := 0) (v := .agg #[iV (if (0 : Int) < 0 then 0 else (0 : Int)), bV ch, .slice a6 ((rsz06 (if (0 : Int) < 0 then 0 else (0 : Int)) ch l).1.length) c7]) (by kernel_rfl) (by kernel_rfl) (by kernel_rfl) (by kernel_rfl) (by kernel_rfl)) (by kernel_rfl) rfl (by kernel_rfl) rfl ?_
  refine Sq.vals [7] (rest := []) [.slice a4 ((rsz06 (if (0 : Int) < 0 then 0 else (0 : Int)) ch l).2.length) c5] (fun w => by kernel_rfl) ?_
  refine Sq.done ?_
  refine Ex'.next ?_
  refine Cd.seq ?_
  refine Cd.region rfl ?_
  refine Sq.vals [0, 1] (rest := []) [.slice a4 ((rsz06 (if (0 : Int) < 0 then 0 else (0 : Int)) ch l).2.length) c5, .slice a4 ((rsz06 (if (0 : Int) < 0 then 0 else (0 : Int)) ch l).2.length) c5] (fun w => by kernel_rfl) ?_
  refine Sq.done ?_
  refine Ex'.next ?_
  refine Cd.ret ?_
  refine Ex'.ret Try.results52 (RVs.tmp (v := .slice a4 ((rsz06 (if (0 : Int) < 0 then 0 else (0 : Int)) ch l).2.length) c5) (by kernel_rfl) (RVs.nil)) (fun w hw => ?_)
  exact ⟨_, ⟨_, trivial, rfl, rfl⟩, hw.pickB [0, 3] (by kernel_rfl) (by kernel_rfl) (by kernel_rfl)⟩

end Go.Proofs.Ytnnjccfcalgokaa
