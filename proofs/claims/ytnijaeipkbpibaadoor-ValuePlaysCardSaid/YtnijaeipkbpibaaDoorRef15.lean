/- cachewiseref15: its functions over rows that are read. -/
import Derived.Test.YtnijaeipkbpibaaDoorSepW
import Derived.Test.YtnijaeipkbpibaaDoorRefS
import Derived.Test.YtnijaeipkbpibaaDoorValPureE
set_option linter.unusedVariables false
namespace Go.Proofs.YtnijaeipkbpibaaDoor
open Go.Shelf Go.RowKit Go.MapKept Go.Lib Go.Sort

theorem sl_it15 : ElemT Tryd.prog 47 50 3 40 := elemT (z := .agg #[.string ⟨#[]⟩, .string ⟨#[]⟩, .int .i64 0]) Tryd.underlying47 (by kernel_rfl) rfl
section
variable {P : Program} {σ : List (Nat × Value)}
theorem o_gtS {ty xt yt : TypeId} {dst : Option Tmp} {pos : String} {after : Array Edge} {g : Option (Nat × Bool)} {x y : Operand} {a b : ByteArray} (hx : ev σ x = some (.string a)) (hy : ev σ y = some (.string b)) : OprV P σ ⟨dst, .binOp .gtr xt x y yt, ty, pos, after, g⟩ (.bool (decide (b.toList < a.toList))) := oprV_of fun ρ hρ w => by
  have h := bl_not (x := a) (y := b)
  rw [show decide (b.toList < a.toList) = !(Op.bytesLess a.toList b.toList || a.toList == b.toList) from by rw [h]; simp]
  simp [execOp, hρ x _ hx, hρ y _ hy, binOp, Op.stringOp, eqGuard, Result.andThen]
end
abbrev z15 : It := (⟨#[]⟩, ⟨#[]⟩, 0)
theorem get15 {l : List It} {k : Nat} (hk : k < l.length) : l[k]? = some (l.getD k z15) := at_get hk
theorem take15 {l : List It} {k : Nat} (hk : k < l.length) : l.take (k + 1) = l.take k ++ [l.getD k z15] := by rw [List.take_add_one, get15 hk]; rfl
/-- The row without a key. -/
def del15 (l : List It) (key : ByteArray) : List It := l.filter fun y => y.1 ≠ key
theorem del15_step {l : List It} {k : Nat} {key : ByteArray} (hk : k < l.length) : del15 (l.take (k + 1)) key = if (l.getD k z15).1 ≠ key then del15 (l.take k) key ++ [l.getD k z15] else del15 (l.take k) key := by
  unfold del15
  rw [take15 hk, List.filter_append]
  generalize l.getD k z15 = x
  by_cases e : x.1 = key <;> simp [e]
theorem del15_le (l : List It) (s : ByteArray) : (del15 l s).length ≤ l.length := List.length_filter_le _ _
/-- What is to be had. -/
def gt15 (l : List It) (key : ByteArray) (n : Int) : Option It := l.find? fun x => decide (x.1 = key ∧ ¬ (0 < x.2.2 ∧ x.2.2 ≤ n))
theorem gt15_hit {l : List It} {k : Nat} {key : ByteArray} {n : Int} (h : ∀ y ∈ l.take k, ¬ (y.1 = key ∧ ¬ (0 < y.2.2 ∧ y.2.2 ≤ n))) (hk : k < l.length) (e : (l.getD k z15).1 = key) (e2 : ¬ (0 < (l.getD k z15).2.2 ∧ (l.getD k z15).2.2 ≤ n)) : gt15 l key n = some (l.getD k z15) := by
  unfold gt15
  have g := get15 hk
  generalize l.getD k z15 = x at e e2 g ⊢
  obtain ⟨h1, h2⟩ := List.getElem?_eq_some_iff.1 g
  have e1 : l = l.take k ++ x :: l.drop (k + 1) := by rw [← h2, ← List.drop_eq_getElem_cons hk, List.take_append_drop]
  generalize l.take k = A at h e1
  generalize l.drop (k + 1) = B at e1
  clear g h2 h1 hk
  subst e1
  rw [List.find?_append, List.find?_eq_none.2 (fun y hy => by simpa using h y hy), Option.none_or, List.find?_cons_of_pos]
  simp only [decide_eq_true_eq]
  exact ⟨e, e2⟩
theorem gt15_step {l : List It} {k : Nat} {key : ByteArray} {n : Int} (h : ∀ y ∈ l.take k, ¬ (y.1 = key ∧ ¬ (0 < y.2.2 ∧ y.2.2 ≤ n))) (hk : k < l.length) (e : ¬ ((l.getD k z15).1 = key ∧ ¬ (0 < (l.getD k z15).2.2 ∧ (l.getD k z15).2.2 ≤ n))) : ∀ y ∈ l.take (k + 1), ¬ (y.1 = key ∧ ¬ (0 < y.2.2 ∧ y.2.2 ≤ n)) := by
  intro y hy
  rw [take15 hk] at hy
  rcases List.mem_append.1 hy with q | q
  · exact h y q
  · rw [List.mem_singleton.1 q]; exact e
theorem gt15_miss {l : List It} {k : Nat} {key : ByteArray} {n : Int} (h : ∀ y ∈ l.take k, ¬ (y.1 = key ∧ ¬ (0 < y.2.2 ∧ y.2.2 ≤ n))) (hk : ¬ k < l.length) : gt15 l key n = none := by
  rw [List.take_of_length_le (by omega)] at h
  exact List.find?_eq_none.2 fun y hy => by simpa using h y hy
/-- A thing behind all that aren't behind it. -/
def ins15 (lt : It → It → Bool) : List It → It → List It
  | [], x => [x]
  | y :: S, x => if lt x y = true then x :: y :: S else y :: ins15 lt S x
section
variable {lt : It → It → Bool}
theorem ins15_app {A B : List It} {x : It} (h : ∀ y ∈ A, ¬ lt x y = true) : ins15 lt (A ++ B) x = A ++ ins15 lt B x := by
  induction A with
  | nil => rfl
  | cons y A ih => rw [List.cons_append, ins15, if_neg (h y (List.mem_cons_self ..)), ih fun z hz => h z (List.mem_cons_of_mem _ hz)]; rfl
theorem ins15_head {B : List It} {x : It} (h : ∀ y ∈ B, lt x y = true) : ins15 lt B x = x :: B := by
  cases B with
  | nil => rfl
  | cons y B => rw [ins15, if_pos (h y (List.mem_cons_self ..))]
theorem ins15_perm : ∀ (S : List It) (x : It), (ins15 lt S x).Perm (x :: S)
  | [], x => by simp [ins15]
  | y :: S, x => by
    unfold ins15
    split
    · exact List.Perm.refl _
    · exact ((ins15_perm S x).cons y).trans (List.Perm.swap x y S)
structure Ord (lt : It → It → Bool) : Prop where
  tr : ∀ x y z, ¬ lt x y = true → ¬ lt y z = true → ¬ lt x z = true
  asy : ∀ x y, lt x y = true → ¬ lt y x = true
  lt_tr : ∀ x y z, lt x y = true → ¬ lt z y = true → lt x z = true
theorem ins15_sd (O : Ord lt) {x : It} : ∀ {S : List It}, S.Pairwise (fun x y => ¬ lt y x = true) → (ins15 lt S x).Pairwise fun x y => ¬ lt y x = true
  | [], _ => by simp [ins15]
  | y :: S, h => by
    obtain ⟨h1, h2⟩ := List.pairwise_cons.1 h
    unfold ins15
    split
    · rename_i q
      refine List.pairwise_cons.2 ⟨fun z hz => ?_, h⟩
      rcases List.mem_cons.1 hz with e | e
      · subst e; exact O.asy _ _ q
      · exact O.tr _ _ _ (h1 z e) (O.asy _ _ q)
    · rename_i q
      refine List.pairwise_cons.2 ⟨fun z hz => ?_, ins15_sd O h2⟩
      rcases List.mem_cons.1 ((ins15_perm S x).mem_iff.1 hz) with e | e
      · subst e; exact q
      · exact h1 z e
/-- Where a thing stands, found from behind. -/
theorem ins15_at (O : Ord lt) {L : List It} {x : It} {a : Nat} (hs : L.Pairwise fun x y => ¬ lt y x = true) (ha : a ≤ L.length) (h1 : ∀ y ∈ L.drop a, lt x y = true) (h2 : 0 < a → ¬ lt x (L.getD (a - 1) z15) = true) : L.take a ++ [x] ++ L.drop a = ins15 lt L x := by
  have hA : ∀ y ∈ L.take a, ¬ lt x y = true := by
    intro y hy q
    obtain ⟨i, hi, rfl⟩ := List.mem_iff_getElem.1 hy
    rw [List.length_take] at hi
    have h3 := h2 (by omega)
    obtain ⟨k1, k2⟩ := List.getElem?_eq_some_iff.1 (get15 (l := L) (k := a - 1) (by omega))
    rw [← k2] at h3
    rw [List.getElem_take] at q
    rcases Nat.lt_or_ge i (a - 1) with h | h
    · have h4 := List.pairwise_iff_getElem.1 hs i (a - 1) (by omega) (by omega) h
      exact h3 (O.lt_tr _ _ _ q h4)
    · have e : i = a - 1 := by omega
      subst e; exact h3 q
  conv => rhs; rw [← List.take_append_drop a L]
  rw [ins15_app hA, ins15_head h1, List.append_assoc]; rfl
theorem drop15_step {L : List It} {x : It} {a : Nat} (h0 : 0 < a) (ha : a ≤ L.length) (h1 : ∀ y ∈ L.drop a, lt x y = true) (h2 : lt x (L.getD (a - 1) z15) = true) : ∀ y ∈ L.drop (a - 1), lt x y = true := by
  intro y hy
  rw [List.drop_eq_getElem_cons (show a - 1 < L.length by omega), show a - 1 + 1 = a by omega] at hy
  rcases List.mem_cons.1 hy with q | q
  · obtain ⟨k1, k2⟩ := List.getElem?_eq_some_iff.1 (get15 (l := L) (k := a - 1) (by omega))
    rw [q, k2]; exact h2
  · exact h1 y q
def sort15 (lt : It → It → Bool) (l : List It) : List It := l.foldl (ins15 lt) []
theorem sort15_step {l : List It} {k : Nat} (hk : k < l.length) : sort15 lt (l.take (k + 1)) = ins15 lt (sort15 lt (l.take k)) (l.getD k z15) := by
  unfold sort15; rw [take15 hk, List.foldl_append]; rfl
theorem fold15_sd (O : Ord lt) : ∀ (l S : List It), S.Pairwise (fun x y => ¬ lt y x = true) → (l.foldl (ins15 lt) S).Pairwise fun x y => ¬ lt y x = true
  | [], S, h => h
  | x :: l, S, h => fold15_sd O l _ (ins15_sd O h)
theorem sort15_sd (O : Ord lt) (l : List It) : (sort15 lt l).Pairwise fun x y => ¬ lt y x = true := fold15_sd O l [] .nil
theorem fold15_perm : ∀ (l S : List It), (l.foldl (ins15 lt) S).Perm (l ++ S)
  | [], S => List.Perm.refl _
  | x :: l, S => (fold15_perm l _).trans (((ins15_perm S x).append_left l).trans List.perm_middle)
theorem sort15_perm (l : List It) : (sort15 lt l).Perm l := by have := fold15_perm (lt := lt) l []; rwa [List.append_nil] at this
theorem sort15_len (l : List It) : (sort15 lt l).length = l.length := (sort15_perm l).length_eq
end
def ltD (x y : It) : Bool := decide (x.2.2 < y.2.2)
def ltK (x y : It) : Bool := decide (x.1.toList < y.1.toList)
theorem ordD : Ord ltD := ⟨fun x y z h1 h2 => by unfold ltD at *; simp at *; omega, fun x y h => by unfold ltD at *; simp at *; omega, fun x y z h1 h2 => by unfold ltD at *; simp at *; omega⟩
theorem ordK : Ord ltK := ⟨fun x y z h1 h2 => by
    unfold ltK at *; simp only [decide_eq_true_eq] at *; exact List.not_lt.2 (List.le_trans (List.not_lt.1 h2) (List.not_lt.1 h1)), fun x y h => by unfold ltK at *; simp only [decide_eq_true_eq] at *; exact List.lt_asymm h,
  fun x y z h1 h2 => by unfold ltK at *; simp only [decide_eq_true_eq] at *; exact Classical.byContradiction fun q => (List.not_lt.2 (List.le_trans (List.not_lt.1 h2) (List.not_lt.1 q))) h1⟩
def over15 (n : Int) (x : It) : Bool := decide (0 < x.2.2 ∧ x.2.2 ≤ n)
def stay15 (l : List It) (n : Int) : List It := l.filter fun x => !over15 n x
def gone15 (l : List It) (n : Int) : List It := sort15 ltD (l.filter (over15 n))
theorem stay15_le (l : List It) (n : Int) : (stay15 l n).length ≤ l.length := List.length_filter_le _ _
theorem gone15_le (l : List It) (n : Int) : (gone15 l n).length ≤ l.length := by unfold gone15; rw [sort15_len]; exact List.length_filter_le _ _
theorem over15_step {l : List It} {k : Nat} {n : Int} (hk : k < l.length) (h : 0 < (l.getD k z15).2.2 ∧ (l.getD k z15).2.2 ≤ n) : stay15 (l.take (k + 1)) n = stay15 (l.take k) n ∧ gone15 (l.take (k + 1)) n = ins15 ltD (gone15 (l.take k) n) (l.getD k z15) := by
  have e : over15 n (l.getD k z15) = true := decide_eq_true h
  unfold stay15 gone15 sort15
  rw [take15 hk, List.filter_append, List.filter_append]
  generalize l.getD k z15 = x at e ⊢
  simp [e, List.foldl_append]
theorem under15_step {l : List It} {k : Nat} {n : Int} (hk : k < l.length) (h : ¬ (0 < (l.getD k z15).2.2 ∧ (l.getD k z15).2.2 ≤ n)) : stay15 (l.take (k + 1)) n = stay15 (l.take k) n ++ [l.getD k z15] ∧ gone15 (l.take (k + 1)) n = gone15 (l.take k) n := by
  have e : over15 n (l.getD k z15) = false := decide_eq_false h
  unfold stay15 gone15
  rw [take15 hk, List.filter_append, List.filter_append]
  generalize l.getD k z15 = x at e ⊢
  simp [e]
theorem map15_step {l : List It} {k : Nat} (hk : k < l.length) : (l.take (k + 1)).map (·.1) = (l.take k).map (·.1) ++ [(l.getD k z15).1] := by rw [take15 hk, List.map_append]; rfl
def r15Right (xKey : ByteArray) (xValue : ByteArray) (xDeadline : Int) : Int :=
  if (xKey.size : Int) = 0 then 3 else if (xKey.size : Int) > 64 then 4 else if (xValue.size : Int) > 256 then 4 else if xDeadline < 0 then 1 else 0

set_option maxHeartbeats 8000000 in
set_option maxRecDepth 100000 in
theorem t_Right15  {xKey : ByteArray} {xValue : ByteArray} {xDeadline : Int}  : Tri Tryd.prog 39 #[.agg #[sV xKey, sV xValue, iV xDeadline]] [] (Same [] (iV (r15Right xKey xValue xDeadline))) := by
  refine Tri.enter (args := [.agg #[sV xKey, sV xValue, iV xDeadline]]) Tryd.func39 rfl rfl rfl (fun B wz => ?_)
  refine Cd.seq ?_
  refine Cd.region rfl ?_
  refine Sq.ex [] (l := []) (o_newBox (v := .agg #[sV xKey, sV xValue, iV xDeadline]) [sV xKey, sV xValue, iV xDeadline] (by kernel_rfl) rfl) (by kernel_rfl) rfl (by kernel_rfl) (fun _ => Nat.zero_le _) ?_; intro b3 _
  refine Sq.vals [1] (rest := []) [iV 0] (fun w => by kernel_rfl) ?_
  refine Sq.done ?_
  refine Ex'.next ?_
  refine Cd.seq ?_
  refine Cd.seq ?_
  refine Cd.region rfl ?_
  refine Sq.vals [0] (rest := [1, 2, 3]) [pV b3 0] (fun w => by kernel_rfl) ?_
  refine Sq.same [0] (l := [blkR b3 [sV xKey, sV xValue, iV xDeadline] 50]) (o_load (i := 0) (v := sV xKey) (by kernel_rfl) (by kernel_rfl) (by kernel_rfl)) (by kernel_rfl) rfl (by kernel_rfl) rfl ?_
  refine Sq.vals [2] (rest := [3]) [iV (xKey.size : Int)] (fun w => by kernel_rfl) ?_
  refine Sq.v (r := bV (decide ((xKey.size : Int) = 0))) (o_eqI (k := .i64) (a := (xKey.size : Int)) (b := 0) (by kernel_rfl) (by kernel_rfl)) rfl (by kernel_rfl) ?_
  refine Sq.done ?_
  refine Ex'.next ?_
  refine Cd.case (p := (xKey.size : Int) = 0) (by kernel_rfl) (fun h4 => ?_) (fun h4 => ?_)
  ·
    refine Cd.seq ?_
    refine Cd.region rfl ?_
    refine Sq.vals [0] (rest := []) [iV 3] (fun w => by kernel_rfl) ?_
    refine Sq.done ?_
    refine Ex'.next ?_
    refine Cd.ret ?_
    refine Ex'.thenRet ?_
    refine Ex'.ret Tryd.results39 (RVs.tmp (v := iV 3) (by kernel_rfl) (RVs.nil)) (fun w hw => ?_)
    have e : r15Right xKey xValue xDeadline = 3 := by unfold r15Right; rw [if_pos h4]
    rw [e]
    exact ⟨_, ⟨rfl, rfl⟩, hw.pickB [] (by kernel_rfl) (by kernel_rfl) (by kernel_rfl)⟩
  ·
    refine Cd.skip ?_
    refine Ex'.next ?_
    refine Cd.seq ?_
    refine Cd.seq ?_
    refine Cd.region rfl ?_
    refine Sq.vals [0] (rest := [1, 2, 3, 4, 5, 6, 7, 8, 9]) [pV b3 0] (fun w => by kernel_rfl) ?_
    refine Sq.same [0] (l := [blkR b3 [sV xKey, sV xValue, iV xDeadline] 50]) (o_load (i := 0) (v := sV xKey) (by kernel_rfl) (by kernel_rfl) (by kernel_rfl)) (by kernel_rfl) rfl (by kernel_rfl) rfl ?_
    refine Sq.vals [2, 3, 4] (rest := [5, 6, 7, 8, 9]) [iV (xKey.size : Int), bV (decide ((xKey.size : Int) > 64)), bV (decide ((xKey.size : Int) > 64))] (fun w => by kernel_rfl) ?_
    refine Sq.case 11 (p := (xKey.size : Int) > 64) rfl (fun h5 => ?_) (fun h5 => ?_)
    ·
      refine Sq.vals [5, 6, 7, 8, 9] (rest := []) [undef, undef, undef, undef, bV true] (fun w => by kernel_rfl) ?_
      refine Sq.done ?_
      refine Ex'.next ?_
      refine Cd.condT (by kernel_rfl) ?_
      refine Cd.seq ?_
      refine Cd.region rfl ?_
      refine Sq.vals [0] (rest := []) [iV 4] (fun w => by kernel_rfl) ?_
      refine Sq.done ?_
      refine Ex'.next ?_
      refine Cd.ret ?_
      refine Ex'.thenRet ?_
      refine Ex'.ret Tryd.results39 (RVs.tmp (v := iV 4) (by kernel_rfl) (RVs.nil)) (fun w hw => ?_)
      have e : r15Right xKey xValue xDeadline = 4 := by unfold r15Right; rw [if_neg h4, if_pos h5]
      rw [e]
      exact ⟨_, ⟨rfl, rfl⟩, hw.pickB [] (by kernel_rfl) (by kernel_rfl) (by kernel_rfl)⟩
    ·
      refine Sq.vals [5] (rest := [6, 7, 8, 9]) [pV b3 1] (fun w => by kernel_rfl) ?_
      refine Sq.same [0] (l := [blkR b3 [sV xKey, sV xValue, iV xDeadline] 50]) (o_load (i := 1) (v := sV xValue) (by kernel_rfl) (by kernel_rfl) (by kernel_rfl)) (by kernel_rfl) rfl (by kernel_rfl) rfl ?_
      refine Sq.vals [7, 8, 9] (rest := []) [iV (xValue.size : Int), bV (decide ((xValue.size : Int) > 256)), bV (decide ((xValue.size : Int) > 256))] (fun w => by kernel_rfl) ?_
      refine Sq.done ?_
      refine Ex'.next ?_
      refine Cd.case (p := (xValue.size : Int) > 256) (by kernel_rfl) (fun h6 => ?_) (fun h6 => ?_)
      ·
        refine Cd.seq ?_
        refine Cd.region rfl ?_
        refine Sq.vals [0] (rest := []) [iV 4] (fun w => by kernel_rfl) ?_
        refine Sq.done ?_
        refine Ex'.next ?_
        refine Cd.ret ?_
        refine Ex'.thenRet ?_
        refine Ex'.ret Tryd.results39 (RVs.tmp (v := iV 4) (by kernel_rfl) (RVs.nil)) (fun w hw => ?_)
        have e : r15Right xKey xValue xDeadline = 4 := by unfold r15Right; rw [if_neg h4, if_neg h5, if_pos h6]
        rw [e]
        exact ⟨_, ⟨rfl, rfl⟩, hw.pickB [] (by kernel_rfl) (by kernel_rfl) (by kernel_rfl)⟩
      ·
        refine Cd.skip ?_
        refine Ex'.next ?_
        refine Cd.seq ?_
        refine Cd.seq ?_
        refine Cd.region rfl ?_
        refine Sq.vals [0] (rest := [1, 2]) [pV b3 2] (fun w => by kernel_rfl) ?_
        refine Sq.same [0] (l := [blkR b3 [sV xKey, sV xValue, iV xDeadline] 50]) (o_load (i := 2) (v := iV xDeadline) (by kernel_rfl) (by kernel_rfl) (by kernel_rfl)) (by kernel_rfl) rfl (by kernel_rfl) rfl ?_
        refine Sq.vals [2] (rest := []) [bV (decide (xDeadline < 0))] (fun w => by kernel_rfl) ?_
        refine Sq.done ?_
        refine Ex'.next ?_
        refine Cd.case (p := xDeadline < 0) (by kernel_rfl) (fun h7 => ?_) (fun h7 => ?_)
        ·
          refine Cd.seq ?_
          refine Cd.region rfl ?_
          refine Sq.vals [0] (rest := []) [iV 1] (fun w => by kernel_rfl) ?_
          refine Sq.done ?_
          refine Ex'.next ?_
          refine Cd.ret ?_
          refine Ex'.thenRet ?_
          refine Ex'.ret Tryd.results39 (RVs.tmp (v := iV 1) (by kernel_rfl) (RVs.nil)) (fun w hw => ?_)
          have e : r15Right xKey xValue xDeadline = 1 := by unfold r15Right; rw [if_neg h4, if_neg h5, if_neg h6, if_pos h7]
          rw [e]
          exact ⟨_, ⟨rfl, rfl⟩, hw.pickB [] (by kernel_rfl) (by kernel_rfl) (by kernel_rfl)⟩
        ·
          refine Cd.skip ?_
          refine Ex'.next ?_
          refine Cd.seq ?_
          refine Cd.region rfl ?_
          refine Sq.vals [0] (rest := []) [iV 0] (fun w => by kernel_rfl) ?_
          refine Sq.done ?_
          refine Ex'.next ?_
          refine Cd.ret ?_
          refine Ex'.ret Tryd.results39 (RVs.tmp (v := iV 0) (by kernel_rfl) (RVs.nil)) (fun w hw => ?_)
          have e : r15Right xKey xValue xDeadline = 0 := by unfold r15Right; rw [if_neg h4, if_neg h5, if_neg h6, if_neg h7]
          rw [e]
          exact ⟨_, ⟨rfl, rfl⟩, hw.pickB [] (by kernel_rfl) (by kernel_rfl) (by kernel_rfl)⟩

theorem r15Right_eq (k v : ByteArray) (d : Int) : r15Right k v d = rightC k v d := by
  unfold r15Right rightC
  by_cases h : k = ⟨#[]⟩
  · subst h; rw [if_pos (show (((⟨#[]⟩ : ByteArray).size : Nat) : Int) = 0 from rfl), if_pos rfl]
  · have : ¬ (k.size : Int) = 0 := fun q => h (by have : k.size = 0 := by omega
                                                  exact ByteArray.ext (by have h2 : k.data.size = 0 := this; exact Array.eq_empty_of_size_eq_zero h2))
    simp only [if_neg h, if_neg this]
    repeat' split
    all_goals first | rfl | omega

set_option maxHeartbeats 8000000 in
set_option maxRecDepth 100000 in
theorem t_Over15 {k v : ByteArray} {d n : Int}  : Tri Tryd.prog 42 #[.agg #[sV k, sV v, iV d], iV n] [] (Same [] (bV (decide (0 < d ∧ d ≤ n)))) := by
  refine Tri.enter (args := [.agg #[sV k, sV v, iV d], iV n]) Tryd.func42 rfl rfl rfl (fun B wz => ?_)
  refine Cd.seq ?_
  refine Cd.region rfl ?_
  refine Sq.ex [] (l := []) (o_newBox (v := .agg #[sV k, sV v, iV d]) [sV k, sV v, iV d] (by kernel_rfl) rfl) (by kernel_rfl) rfl (by kernel_rfl) (fun _ => Nat.zero_le _) ?_; intro b3 _
  refine Sq.vals [1] (rest := []) [bV false] (fun w => by kernel_rfl) ?_
  refine Sq.done ?_
  refine Ex'.next ?_
  refine Cd.seq ?_
  refine Cd.region rfl ?_
  refine Sq.vals [0] (rest := [1, 2, 3, 4, 5, 6, 7, 8, 9]) [pV b3 2] (fun w => by kernel_rfl) ?_
  refine Sq.same [0] (l := [blkR b3 [sV k, sV v, iV d] 50]) (o_load (i := 2) (v := iV d) (by kernel_rfl) (by kernel_rfl) (by kernel_rfl)) (by kernel_rfl) rfl (by kernel_rfl) rfl ?_
  refine Sq.vals [2, 3] (rest := [4, 5, 6, 7, 8, 9]) [bV (decide (d > 0)), bV (decide (d > 0))] (fun w => by kernel_rfl) ?_
  refine Sq.case 8 (p := d > 0) rfl (fun h4 => ?_) (fun h4 => ?_)
  ·
    refine Sq.vals [4] (rest := [5, 6, 7, 8, 9]) [pV b3 2] (fun w => by kernel_rfl) ?_
    refine Sq.same [0] (l := [blkR b3 [sV k, sV v, iV d] 50]) (o_load (i := 2) (v := iV d) (by kernel_rfl) (by kernel_rfl) (by kernel_rfl)) (by kernel_rfl) rfl (by kernel_rfl) rfl ?_
    refine Sq.vals [6, 7, 8, 9] (rest := []) [iV n, bV (decide (d ≤ n)), bV (decide (d ≤ n)), bV (decide (d ≤ n))] (fun w => by kernel_rfl) ?_
    refine Sq.done ?_
    refine Ex'.next ?_
    refine Cd.ret ?_
    refine Ex'.ret Tryd.results42 (RVs.tmp (v := bV (decide (d ≤ n))) (by kernel_rfl) (RVs.nil)) (fun w hw => ?_)
    exact ⟨_, ⟨by first | exact (vT (by omega)).symm | exact (vF (by omega)).symm | exact congrArg Value.bool (by rw [decide_eq_decide]; omega), rfl⟩, hw.pickB [] (by kernel_rfl) (by kernel_rfl) (by kernel_rfl)⟩
  ·
    refine Sq.vals [4, 5, 6, 7, 8, 9] (rest := []) [undef, undef, undef, undef, bV false, bV false] (fun w => by kernel_rfl) ?_
    refine Sq.done ?_
    refine Ex'.next ?_
    refine Cd.ret ?_
    refine Ex'.ret Tryd.results42 (RVs.tmp (v := bV false) (by kernel_rfl) (RVs.nil)) (fun w hw => ?_)
    exact ⟨_, ⟨by first | exact (vT (by omega)).symm | exact (vF (by omega)).symm | exact congrArg Value.bool (by rw [decide_eq_decide]; omega), rfl⟩, hw.pickB [] (by kernel_rfl) (by kernel_rfl) (by kernel_rfl)⟩

set_option maxHeartbeats 8000000 in
set_option maxRecDepth 100000 in
theorem t_Delete15 {la : Option Addr} {lc : Nat} {l : List It} {key : ByteArray} (hbd : l.length ≤ 1000000) : Tri Tryd.prog 20 #[.slice la l.length lc, sV key] [vewR 3 (.slice la l.length lc) l.length (l.flatMap it3)] (PostE (ι := Value) (fun _ => True) (fun v => v) fun v => [vewR 3 (.slice la l.length lc) l.length (l.flatMap it3), rowR 50 3 v ((del15 l key).length) ((del15 l key).flatMap it3)]) := by
  refine Tri.enter (args := [.slice la l.length lc, sV key]) Tryd.func20 rfl rfl rfl (fun B wz => ?_)
  refine Cd.fact (i := 0) rfl vew_cap ?_; intro hcap0
  refine Cd.seq ?_
  refine Cd.region rfl ?_
  refine Sq.vals [0] (rest := []) [.slice none 0 0] (fun w => by kernel_rfl) ?_
  refine Sq.done ?_
  refine Ex'.next ?_
  refine Cd.seq ?_
  refine Cd.region rfl ?_
  refine Sq.vals [0] (rest := []) [.slice none 0 0] (fun w => by kernel_rfl) ?_
  refine Sq.done ?_
  refine Ex'.next ?_
  refine Cd.seq ?_
  refine Cd.seq ?_
  refine Cd.region rfl ?_
  refine Sq.vals [0] (rest := []) [iV 0] (fun w => by kernel_rfl) ?_
  refine Sq.done ?_
  refine Ex'.next ?_
  refine Cd.block ?_
  refine Cd.nilRow 50 3 ?_
  refine Cd.loop (ι := Nat × Value × (List It)) (fun ⟨k, rv, ow⟩ => k ≤ l.length ∧ ow = del15 (l.take k) key) (fun ⟨k, rv, ow⟩ => l.length - k) (fun ⟨k, rv, ow⟩ => [(0, .slice la l.length lc), (1, sV key), (4, .slice none 0 0), (6, iV (k : Int)), (5, rv)]) (fun ⟨k, rv, ow⟩ => [vewR 3 (.slice la l.length lc) l.length (l.flatMap it3), rowR 50 3 rv ow.length (ow.flatMap it3)]) (0, .slice none 0 0, ([] : List It)) (⟨Nat.zero_le _, by simp [del15]⟩) (subB_eq (l := [0, 1, 4, 6, 5]) (by kernel_rfl)) (fun w hw => hw.pickB [0, 1] (by kernel_rfl) (by kernel_rfl) (by kernel_rfl)) ?_
  rintro ⟨k, rv, ow⟩ hL1
  try dsimp only at hL1 ⊢
  obtain ⟨hk, hrw⟩ := hL1
  have hol : ow.length ≤ l.length := by rw [hrw]; exact Nat.le_trans (del15_le _ _) (by rw [List.length_take]; omega)
  refine Cd.fact (i := 1) (R := rowR 50 3 rv ow.length (ow.flatMap it3)) (by kernel_rfl) row_slice ?_; rintro ⟨a2, c3, rfl, hc3, hc3'⟩
  have hc3'' : c3 ≤ 9223372036854775807 := hc3'
  refine Cd.seq ?_
  refine Cd.seq ?_
  refine Cd.region rfl ?_
  refine Sq.vals [0, 1, 2, 3] (rest := []) [iV (k : Int), .slice la l.length lc, iV (l.length : Int), bV (decide ((k : Int) < (l.length : Int)))] (fun w => by kernel_rfl) ?_
  refine Sq.done ?_
  refine Ex'.next ?_
  refine Cd.case (p := (k : Int) < (l.length : Int)) (by kernel_rfl) (fun h4 => ?_) (fun h4 => ?_)
  ·
    refine Cd.skip ?_
    refine Ex'.next ?_
    refine Cd.seq ?_
    refine Cd.block ?_
    refine Cd.seq ?_
    refine Cd.region rfl ?_
    refine Sq.vals [0, 1] (rest := [2, 3, 4, 5, 6]) [.slice la l.length lc, iV (k : Int)] (fun w => by kernel_rfl) ?_
    refine Sq.fact (i := 0) (R := vewR 3 (.slice la l.length lc) l.length (l.flatMap it3)) (by kernel_rfl) (vew_addr (by omega)) ?_; rintro ⟨b5, off6, rfl⟩
    refine Sq.v (r := pV b5 (off6 + k * 3)) (o_idx (b := b5) (cap := lc) (e := 50) (off := off6) (n := l.length) (kd := .i64) (q := (k : Int)) (i := k) (size := 3) (j := off6 + k * 3) (by kernel_rfl) (by kernel_rfl) (by rfl) (by omega) Tryd.underlying47 (by kernel_rfl) (by omega)) rfl (by kernel_rfl) ?_
    refine Sq.vals [3] (rest := [4, 5, 6]) [pV b5 (off6 + k * 3)] (fun w => by kernel_rfl) ?_
    refine Sq.same [0] (l := [vewR 3 (.slice (some ⟨b5, off6, none⟩) l.length lc) l.length (l.flatMap it3)]) (o_loadView (off := off6) (j := k * 3) (u := sV ((l.getD k ((⟨#[]⟩, ⟨#[]⟩, 0) : ByteArray × ByteArray × Int)).1)) (by kernel_rfl) (by omega) (by kernel_rfl) ((rec_get (f := it3) (k := 3) (z := ((⟨#[]⟩, ⟨#[]⟩, 0) : ByteArray × ByteArray × Int)) (l := l) (i := k) (j := 0) (fun _ => rfl) (by omega) (by decide)).trans rfl)) (by kernel_rfl) rfl (by kernel_rfl) rfl ?_
    refine Sq.vals [5] (rest := [6]) [sV key] (fun w => by kernel_rfl) ?_
    refine Sq.v (r := bV (decide ((l.getD k ((⟨#[]⟩, ⟨#[]⟩, 0) : ByteArray × ByteArray × Int)).1 ≠ key))) (o_neS (a := (l.getD k ((⟨#[]⟩, ⟨#[]⟩, 0) : ByteArray × ByteArray × Int)).1) (b := key) (by kernel_rfl) (by kernel_rfl)) rfl (by kernel_rfl) ?_
    refine Sq.done ?_
    refine Ex'.next ?_
    refine Cd.case (p := (l.getD k ((⟨#[]⟩, ⟨#[]⟩, 0) : ByteArray × ByteArray × Int)).1 ≠ key) (by kernel_rfl) (fun h7 => ?_) (fun h7 => ?_)
    ·
      refine Cd.region rfl ?_
      refine Sq.vals [0, 1, 2] (rest := [3, 4, 5, 6, 7]) [.slice a2 ow.length c3, .slice (some ⟨b5, off6, none⟩) l.length lc, iV (k : Int)] (fun w => by kernel_rfl) ?_
      refine Sq.v (r := pV b5 (off6 + k * 3)) (o_idx (b := b5) (cap := lc) (e := 50) (off := off6) (n := l.length) (kd := .i64) (q := (k : Int)) (i := k) (size := 3) (j := off6 + k * 3) (by kernel_rfl) (by kernel_rfl) (by rfl) (by omega) Tryd.underlying47 (by kernel_rfl) (by omega)) rfl (by kernel_rfl) ?_
      refine Sq.same [0] (l := [vewR 3 (.slice (some ⟨b5, off6, none⟩) l.length lc) l.length (l.flatMap it3)]) (o_loadViewN (off := off6) (j := k * 3) [sV ((l.getD k ((⟨#[]⟩, ⟨#[]⟩, 0) : ByteArray × ByteArray × Int)).1), sV ((l.getD k ((⟨#[]⟩, ⟨#[]⟩, 0) : ByteArray × ByteArray × Int)).2.1), iV ((l.getD k ((⟨#[]⟩, ⟨#[]⟩, 0) : ByteArray × ByteArray × Int)).2.2)] (by kernel_rfl) (by omega) (by kernel_rfl) (rec_gets (f := it3) (k := 3) (z := ((⟨#[]⟩, ⟨#[]⟩, 0) : ByteArray × ByteArray × Int)) (l := l) (i := k) (o := 0) (fun _ => rfl) (by omega) (Nat.le_of_ble_eq_true rfl) rfl)) (by kernel_rfl) rfl (by kernel_rfl) rfl ?_
      refine Sq.ex [] (l := []) (o_lit (sz := 3) (.agg #[sV ⟨#[]⟩, sV ⟨#[]⟩, iV 0]) [sV ((l.getD k ((⟨#[]⟩, ⟨#[]⟩, 0) : ByteArray × ByteArray × Int)).1), sV ((l.getD k ((⟨#[]⟩, ⟨#[]⟩, 0) : ByteArray × ByteArray × Int)).2.1), iV ((l.getD k ((⟨#[]⟩, ⟨#[]⟩, 0) : ByteArray × ByteArray × Int)).2.2)] Tryd.underlying47 (by kernel_rfl) (by kernel_rfl) (by kernel_rfl) (by kernel_rfl) (by kernel_rfl)) (by kernel_rfl) rfl (by kernel_rfl) (fun _ => Nat.zero_le _) ?_; intro b8 _
      refine Sq.ex [1, 2] (l := [rowR 50 3 (.slice a2 ow.length c3) ow.length (ow.flatMap it3), blkR b8 [sV ((l.getD k ((⟨#[]⟩, ⟨#[]⟩, 0) : ByteArray × ByteArray × Int)).1), sV ((l.getD k ((⟨#[]⟩, ⟨#[]⟩, 0) : ByteArray × ByteArray × Int)).2.1), iV ((l.getD k ((⟨#[]⟩, ⟨#[]⟩, 0) : ByteArray × ByteArray × Int)).2.2)] 50]) (o_push (n' := ow.length + 1) (xs' := (ow ++ [(l.getD k ((⟨#[]⟩, ⟨#[]⟩, 0) : ByteArray × ByteArray × Int))]).flatMap it3) (by kernel_rfl) (by kernel_rfl) sl_it15 (by decide) rfl (by kernel_rfl) (by unfold maxLen; first | omega | (simp only [List.length_nil]; omega)) (by first | omega | (simp only [List.length_nil]; omega)) (by simp) (by rw [List.flatMap_append]; rfl)) (by kernel_rfl) rfl (by kernel_rfl) (fun _ => Nat.le_of_ble_eq_true (by kernel_rfl)) ?_; rintro v9 _
      refine Sq.fact (i := 1) (R := rowR 50 3 v9 (ow.length + 1) ((ow ++ [(l.getD k ((⟨#[]⟩, ⟨#[]⟩, 0) : ByteArray × ByteArray × Int))]).flatMap it3)) (by kernel_rfl) row_slice ?_; rintro ⟨a10, c11, rfl, hc11, hc11'⟩
      have hc11'' : c11 ≤ 9223372036854775807 := hc11'
      refine Sq.fact (i := 1) (R := rowR 50 3 (.slice a10 (ow.length + 1) c11) (ow.length + 1) ((ow ++ [(l.getD k ((⟨#[]⟩, ⟨#[]⟩, 0) : ByteArray × ByteArray × Int))]).flatMap it3)) (by kernel_rfl) (row_addr (by simp)) ?_; rintro ⟨b12, rfl⟩
      refine Sq.vals [7] (rest := []) [.slice (some ⟨b12, 0, none⟩) (ow.length + 1) c11] (fun w => by kernel_rfl) ?_
      refine Sq.done ?_
      refine Ex'.blockNormal ?_
      refine Ex'.next ?_
      refine Cd.region rfl ?_
      refine Sq.vals [0] (rest := [1, 2]) [iV (k : Int)] (fun w => by kernel_rfl) ?_
      refine Sq.v (r := iV ((k + 1 : Nat) : Int)) (o_add (k := .i64) (a := (k : Int)) (b := 1) (c := ((k + 1 : Nat) : Int)) (by kernel_rfl) (by kernel_rfl) (w64 (by omega) (by omega))) rfl (by kernel_rfl) ?_
      refine Sq.vals [2] (rest := []) [iV ((k + 1 : Nat) : Int)] (fun w => by kernel_rfl) ?_
      refine Sq.done ?_
      refine Ex'.round (g := (k, .slice a2 ow.length c3, ow)) (k + 1, .slice (some ⟨b12, 0, none⟩) (ow.length + 1) c11, ow ++ [(l.getD k ((⟨#[]⟩, ⟨#[]⟩, 0) : ByteArray × ByteArray × Int))]) ?_ ?_ (subB_eq (l := [0, 1, 4, 6, 5]) (by kernel_rfl)) (fun w hw => (hw.conv 1 (R := rowR 50 3 (.slice (some ⟨b12, 0, none⟩) (ow.length + 1) c11) (ow.length + 1) ((ow ++ [(l.getD k ((⟨#[]⟩, ⟨#[]⟩, 0) : ByteArray × ByteArray × Int))]).flatMap it3)) (R' := rowR 50 3 (.slice (some ⟨b12, 0, none⟩) (ow.length + 1) c11) (ow ++ [(l.getD k ((⟨#[]⟩, ⟨#[]⟩, 0) : ByteArray × ByteArray × Int))]).length ((ow ++ [(l.getD k ((⟨#[]⟩, ⟨#[]⟩, 0) : ByteArray × ByteArray × Int))]).flatMap it3)) (by kernel_rfl) (row_len (by first | rfl | omega | (simp only [List.length_take, List.length_drop, List.length_append, List.length_cons, List.length_nil]; omega) | (simp; done) | (simp; omega)))).pickB [0, 1] (by kernel_rfl) (by kernel_rfl) (by kernel_rfl))
      · (try dsimp only); exact ⟨by omega, by rw [del15_step (by omega), hrw, if_pos h7]⟩
      · omega
    ·
      refine Cd.skip ?_
      refine Ex'.blockNormal ?_
      refine Ex'.next ?_
      refine Cd.region rfl ?_
      refine Sq.vals [0] (rest := [1, 2]) [iV (k : Int)] (fun w => by kernel_rfl) ?_
      refine Sq.v (r := iV ((k + 1 : Nat) : Int)) (o_add (k := .i64) (a := (k : Int)) (b := 1) (c := ((k + 1 : Nat) : Int)) (by kernel_rfl) (by kernel_rfl) (w64 (by omega) (by omega))) rfl (by kernel_rfl) ?_
      refine Sq.vals [2] (rest := []) [iV ((k + 1 : Nat) : Int)] (fun w => by kernel_rfl) ?_
      refine Sq.done ?_
      refine Ex'.round (g := (k, .slice a2 ow.length c3, ow)) (k + 1, .slice a2 ow.length c3, ow) ?_ ?_ (subB_eq (l := [0, 1, 4, 6, 5]) (by kernel_rfl)) (fun w hw => hw.pickB [0, 1] (by kernel_rfl) (by kernel_rfl) (by kernel_rfl))
      · (try dsimp only); exact ⟨by omega, by rw [del15_step (by omega), hrw, if_neg h7]⟩
      · omega
  ·
    refine Cd.exit ?_
    refine Ex'.thenExit ?_
    refine Ex'.thenExit ?_
    refine Ex'.blockHit ?_
    refine Ex'.next ?_
    refine Cd.seq ?_
    refine Cd.region rfl ?_
    refine Sq.vals [0, 1] (rest := []) [.slice a2 ow.length c3, .slice a2 ow.length c3] (fun w => by kernel_rfl) ?_
    refine Sq.done ?_
    refine Ex'.next ?_
    refine Cd.ret ?_
    refine Ex'.ret Tryd.results20 (RVs.tmp (v := .slice a2 ow.length c3) (by kernel_rfl) (RVs.nil)) (fun w hw => ?_)
    have e : del15 l key = ow := by rw [hrw, List.take_of_length_le (by omega)]
    rw [e]
    exact ⟨_, ⟨(.slice a2 ow.length c3), trivial, rfl, rfl⟩, hw.pickB [0, 1] (by kernel_rfl) (by kernel_rfl) (by kernel_rfl)⟩

def r15Put (l : List It) (xKey : ByteArray) (xValue : ByteArray) (xDeadline : Int) : List It × Int :=
  if r15Right xKey xValue xDeadline ≠ 0 then (l, r15Right xKey xValue xDeadline) else ((del15 l xKey) ++ [((xKey, xValue, xDeadline) : ByteArray × ByteArray × Int)], 0)

theorem r15Put_eq (l : List It) (k v : ByteArray) (d : Int) : r15Put l k v d = (if rightC k v d = 0 then del15 l k ++ [(k, v, d)] else l, rightC k v d) := by
  unfold r15Put
  rw [r15Right_eq]
  by_cases h : rightC k v d = 0 <;> simp [h]

set_option maxHeartbeats 8000000 in
set_option maxRecDepth 100000 in
theorem t_Put15 {la : Option Addr} {lc : Nat} {l : List It} {xKey : ByteArray} {xValue : ByteArray} {xDeadline : Int} (hbd : l.length ≤ 1000000) : Tri Tryd.prog 17 #[.slice la l.length lc, .agg #[sV xKey, sV xValue, iV xDeadline]] [vewR 3 (.slice la l.length lc) l.length (l.flatMap it3)] (PostE (ι := Value) (fun _ => True) (fun v => .tuple #[v, iV ((r15Put l xKey xValue xDeadline).2)]) fun v => [vewR 3 v (((r15Put l xKey xValue xDeadline).1).length) (((r15Put l xKey xValue xDeadline).1).flatMap it3)]) := by
  refine Tri.enter (args := [.slice la l.length lc, .agg #[sV xKey, sV xValue, iV xDeadline]]) Tryd.func17 rfl rfl rfl (fun B wz => ?_)
  refine Cd.fact (i := 0) rfl vew_cap ?_; intro hcap0
  have hdl := del15_le l xKey
  refine Cd.seq ?_
  refine Cd.region rfl ?_
  refine Sq.ex [] (l := []) (o_newBox (v := .agg #[sV xKey, sV xValue, iV xDeadline]) [sV xKey, sV xValue, iV xDeadline] (by kernel_rfl) rfl) (by kernel_rfl) rfl (by kernel_rfl) (fun _ => Nat.zero_le _) ?_; intro b3 _
  refine Sq.vals [1, 2] (rest := []) [.slice none 0 0, iV 0] (fun w => by kernel_rfl) ?_
  refine Sq.done ?_
  refine Ex'.next ?_
  refine Cd.seq ?_
  refine Cd.seq ?_
  refine Cd.region rfl ?_
  refine Sq.same [1] (l := [blkR b3 [sV xKey, sV xValue, iV xDeadline] 50]) (o_loadN (i := 0) [sV xKey, sV xValue, iV xDeadline] (by kernel_rfl) (by kernel_rfl) (by kernel_rfl)) (by kernel_rfl) rfl (by kernel_rfl) rfl ?_
  refine Sq.same [] (l := []) (o_call (by kernel_rfl) Tryd.call39 (t_Right15 (xKey := xKey) (xValue := xValue) (xDeadline := xDeadline) )) (by kernel_rfl) rfl (by kernel_rfl) rfl ?_
  refine Sq.vals [2] (rest := []) [iV (r15Right xKey xValue xDeadline)] (fun w => by kernel_rfl) ?_
  refine Sq.done ?_
  refine Ex'.next ?_
  refine Cd.seq ?_
  refine Cd.region rfl ?_
  refine Sq.vals [0] (rest := [1]) [iV (r15Right xKey xValue xDeadline)] (fun w => by kernel_rfl) ?_
  refine Sq.v (r := bV (decide (r15Right xKey xValue xDeadline ≠ 0))) (o_neI (k := .i64) (a := r15Right xKey xValue xDeadline) (b := 0) (by kernel_rfl) (by kernel_rfl)) rfl (by kernel_rfl) ?_
  refine Sq.done ?_
  refine Ex'.next ?_
  refine Cd.case (p := r15Right xKey xValue xDeadline ≠ 0) (by kernel_rfl) (fun h4 => ?_) (fun h4 => ?_)
  ·
    refine Cd.seq ?_
    refine Cd.region rfl ?_
    refine Sq.vals [0, 1, 2, 3] (rest := []) [.slice la l.length lc, iV (r15Right xKey xValue xDeadline), .slice la l.length lc, iV (r15Right xKey xValue xDeadline)] (fun w => by kernel_rfl) ?_
    refine Sq.done ?_
    refine Ex'.next ?_
    refine Cd.ret ?_
    refine Ex'.thenRet ?_
    refine Ex'.ret Tryd.results17 (RVs.tmp (v := .slice la l.length lc) (by kernel_rfl) (RVs.tmp (v := iV (r15Right xKey xValue xDeadline)) (by kernel_rfl) (RVs.nil))) (fun w hw => ?_)
    have e : r15Put l xKey xValue xDeadline = (l, r15Right xKey xValue xDeadline) := by unfold r15Put; rw [if_pos h4]
    rw [e]
    exact ⟨_, ⟨(.slice la l.length lc), trivial, rfl, rfl⟩, hw.pickB [0] (by kernel_rfl) (by kernel_rfl) (by kernel_rfl)⟩
  ·
    refine Cd.skip ?_
    refine Ex'.next ?_
    refine Cd.seq ?_
    refine Cd.sub (subB_spec [0, 1, 3, 5, 7, 8, 6, 9, 10]) ?_
    refine Cd.plan [0, 0, 2, 7, 0, 16, 63, 127, 255] [(2, [(1, false, 0)]), (3, [(0, false, 0)]), (4, [(1, false, 0)]), (6, [(5, true, 4), (7, false, 6)])] [3, 5] [(3, fun _ => True), (5, fun _ => True), (6, fun _ => True)] [(5, 3, fun g => rowR 50 3 (.slice (addrOf (g 3)) ((del15 l xKey).length) (capOf (g 3))) ((del15 l xKey).length) ((del15 l xKey).flatMap it3)), (7, 5, fun g => blkR (slOf (g 5)) [sV xKey, sV xValue, iV xDeadline] 50), (5, 6, fun g => rowR 50 3 (g 6) ((del15 l xKey).length + 1) (((del15 l xKey) ++ [((xKey, xValue, xDeadline) : ByteArray × ByteArray × Int)]).flatMap it3))] [fun g => .slice la l.length lc, fun g => pV b3 0, fun g => sV xKey, fun g => .slice (addrOf (g 3)) ((del15 l xKey).length) (capOf (g 3)), fun g => .agg #[sV xKey, sV xValue, iV xDeadline], fun g => .slice (some ⟨(slOf (g 5)), 0, none⟩) 1 1, fun g => (g 6), fun g => (g 6), fun g => iV 0] (by kernel_rfl) (by kernel_rfl) rfl (⟨⟨⟨fun _ _ => rfl, ⟨fun _ _ => rfl, ⟨fun _ _ => rfl, ⟨trivial, ⟨fun _ _ => rfl, ⟨fun _ _ => rfl, ⟨trivial, ⟨trivial, ⟨trivial, trivial⟩⟩⟩⟩⟩⟩⟩⟩⟩, ⟨trivial, ⟨fun _ _ => rfl, ⟨trivial, trivial⟩⟩⟩⟩, ⟨⟨⟨fun _ _ => rfl, ⟨fun _ _ => rfl, ⟨fun _ _ => rfl, ⟨fun _ _ => rfl, ⟨fun _ _ => rfl, ⟨trivial, ⟨trivial, ⟨trivial, ⟨trivial, trivial⟩⟩⟩⟩⟩⟩⟩⟩⟩, ⟨fun _ _ => rfl, ⟨trivial, ⟨trivial, trivial⟩⟩⟩⟩, ⟨⟨⟨fun _ _ => rfl, ⟨fun _ _ => rfl, ⟨fun _ _ => rfl, ⟨fun _ _ => rfl, ⟨fun _ _ => rfl, ⟨fun _ _ => rfl, ⟨trivial, ⟨trivial, ⟨trivial, trivial⟩⟩⟩⟩⟩⟩⟩⟩⟩, ⟨fun _ _ => rfl, ⟨fun _ _ => rfl, ⟨trivial, trivial⟩⟩⟩⟩, trivial⟩⟩⟩) ?_ ?_
    · exact ⟨ob_val fun g w => by kernel_rfl, ob_val fun g w => by kernel_rfl, ob_s (l := fun g => [blkR b3 [sV xKey, sV xValue, iV xDeadline] 50]) (l' := fun g => [blkR b3 [sV xKey, sV xValue, iV xDeadline] 50]) (v := fun g => sV xKey) (fun g => o_load (i := 0) (v := sV xKey) (by kernel_rfl) (by kernel_rfl) (by kernel_rfl)) (fun g => by kernel_rfl), ob_d (ι := Option Addr × Nat) (l := fun g => [vewR 3 (.slice la l.length lc) l.length (l.flatMap it3)]) (L := fun g y => [vewR 3 (.slice la l.length lc) l.length (l.flatMap it3), rowR 50 3 (.slice y.1 ((del15 l xKey).length) y.2) ((del15 l xKey).length) ((del15 l xKey).flatMap it3)]) (fun y => .slice y.1 ((del15 l xKey).length) y.2) (fun g => o_call (by kernel_rfl) Tryd.call20 (Tri.rowA (L := [vewR 3 (.slice la l.length lc) l.length (l.flatMap it3)]) (t_Delete15 (l := l) (la := la) (lc := lc) (key := xKey) (by omega)))) (fun g => by kernel_rfl) (fun g y _ => ⟨trivial, by kernel_rfl, by kernel_rfl⟩), ob_s (l := fun g => [blkR b3 [sV xKey, sV xValue, iV xDeadline] 50]) (l' := fun g => [blkR b3 [sV xKey, sV xValue, iV xDeadline] 50]) (v := fun g => .agg #[sV xKey, sV xValue, iV xDeadline]) (fun g => o_loadN (i := 0) [sV xKey, sV xValue, iV xDeadline] (by kernel_rfl) (by kernel_rfl) (by kernel_rfl)) (fun g => by kernel_rfl), ob_d (ι := Nat) (l := fun g => []) (L := fun g y => [blkR y [sV xKey, sV xValue, iV xDeadline] 50]) (fun y => .slice (some ⟨y, 0, none⟩) 1 1) (fun g => o_lit (sz := 3) (.agg #[sV ⟨#[]⟩, sV ⟨#[]⟩, iV 0]) [sV xKey, sV xValue, iV xDeadline] Tryd.underlying47 (by kernel_rfl) (by kernel_rfl) (by kernel_rfl) (by kernel_rfl) (by kernel_rfl)) (fun g => by kernel_rfl) (fun g y _ => ⟨trivial, by kernel_rfl, by kernel_rfl⟩), ob_d (ι := Value) (l := fun g => [rowR 50 3 (.slice (addrOf (g 3)) ((del15 l xKey).length) (capOf (g 3))) ((del15 l xKey).length) ((del15 l xKey).flatMap it3), blkR (slOf (g 5)) [sV xKey, sV xValue, iV xDeadline] 50]) (L := fun g y => [rowR 50 3 y ((del15 l xKey).length + 1) (((del15 l xKey) ++ [((xKey, xValue, xDeadline) : ByteArray × ByteArray × Int)]).flatMap it3), blkR (slOf (g 5)) [sV xKey, sV xValue, iV xDeadline] 50]) (id) (fun g => o_push (n' := (del15 l xKey).length + 1) (xs' := ((del15 l xKey) ++ [((xKey, xValue, xDeadline) : ByteArray × ByteArray × Int)]).flatMap it3) (by kernel_rfl) (by kernel_rfl) sl_it15 (by decide) rfl (by kernel_rfl) (by unfold maxLen; first | omega | (simp only [List.length_nil]; omega)) (by first | omega | (simp only [List.length_nil]; omega)) (by simp) (by rw [List.flatMap_append]; rfl)) (fun g => by kernel_rfl) (fun g y _ => ⟨trivial, by kernel_rfl, by kernel_rfl⟩), ob_val fun g w => by kernel_rfl, ob_val fun g w => by kernel_rfl, trivial⟩
    intro g
    refine Ex'.sub (subB_spec [4, 5]) ?_
    refine Ex'.as [0, 1, 5, 7] (σ' := [(4, (g 6)), (5, iV 0)]) (Γ' := [vewR 3 (.slice la l.length lc) l.length (l.flatMap it3), blkR b3 [sV xKey, sV xValue, iV xDeadline] 50, rowR 50 3 (g 6) ((del15 l xKey).length + 1) (((del15 l xKey) ++ [((xKey, xValue, xDeadline) : ByteArray × ByteArray × Int)]).flatMap it3), blkR (slOf (g 5)) [sV xKey, sV xValue, iV xDeadline] 50]) (by kernel_rfl) rfl (by kernel_rfl) (by kernel_rfl) ?_
    generalize addrOf (g 3) = a9
    generalize capOf (g 3) = c10
    generalize slOf (g 5) = b11
    generalize g 6 = v12
    refine Ex'.fact (i := 2) (R := rowR 50 3 v12 ((del15 l xKey).length + 1) (((del15 l xKey) ++ [((xKey, xValue, xDeadline) : ByteArray × ByteArray × Int)]).flatMap it3)) (by kernel_rfl) row_slice ?_; rintro ⟨a13, c14, rfl, hc14, hc14'⟩
    have hc14'' : c14 ≤ 9223372036854775807 := hc14'
    refine Ex'.next ?_
    refine Cd.ret ?_
    refine Ex'.ret Tryd.results17 (RVs.tmp (v := .slice a13 ((del15 l xKey).length + 1) c14) (by kernel_rfl) (RVs.tmp (v := iV 0) (by kernel_rfl) (RVs.nil))) (fun w hw => ?_)
    have e : r15Put l xKey xValue xDeadline = ((del15 l xKey) ++ [((xKey, xValue, xDeadline) : ByteArray × ByteArray × Int)], 0) := by unfold r15Put; rw [if_neg h4]
    rw [e]
    exact ⟨_, ⟨(.slice a13 ((del15 l xKey).length + 1) c14), trivial, rfl, rfl⟩, (hw.conv 2 (R := rowR 50 3 (.slice a13 ((del15 l xKey).length + 1) c14) ((del15 l xKey).length + 1) (((del15 l xKey) ++ [((xKey, xValue, xDeadline) : ByteArray × ByteArray × Int)]).flatMap it3)) (R' := vewR 3 (.slice a13 ((del15 l xKey).length + 1) c14) (((del15 l xKey) ++ [((xKey, xValue, xDeadline) : ByteArray × ByteArray × Int)]).length) (((del15 l xKey) ++ [((xKey, xValue, xDeadline) : ByteArray × ByteArray × Int)]).flatMap it3)) (by kernel_rfl) (fun w S h => vew_len (by first | rfl | omega | (simp only [List.length_take, List.length_drop, List.length_append, List.length_cons, List.length_nil]; omega) | (simp; done) | (simp; omega)) w S (vew_of_row w S h))).pickB [2] (by kernel_rfl) (by kernel_rfl) (by kernel_rfl)⟩

theorem t_Put15_e {la : Option Addr} {lc : Nat} {l : List It} {xKey : ByteArray} {xValue : ByteArray} {xDeadline : Int} (hbd : l.length ≤ 1000000) : Tri Tryd.prog 17 #[.slice la l.length lc, .agg #[sV xKey, sV xValue, iV xDeadline]] [vewR 3 (.slice la l.length lc) l.length (l.flatMap it3)] (PostE (ι := Value) (fun _ => True) (fun v => .tuple #[v, iV (rightC xKey xValue xDeadline)]) fun v => [vewR 3 v ((if rightC xKey xValue xDeadline = 0 then del15 l xKey ++ [(xKey, xValue, xDeadline)] else l).length) ((if rightC xKey xValue xDeadline = 0 then del15 l xKey ++ [(xKey, xValue, xDeadline)] else l).flatMap it3)]) := by
  have h9 := t_Put15 (la := la) (lc := lc) (l := l) (xKey := xKey) (xValue := xValue) (xDeadline := xDeadline) hbd
  rw [r15Put_eq] at h9
  exact h9

set_option maxHeartbeats 8000000 in
set_option maxRecDepth 100000 in
theorem t_Get15 {la : Option Addr} {lc : Nat} {l : List It} {key : ByteArray} {n : Int} (hb : l.length ≤ 1000000) : Tri Tryd.prog 24 #[.slice la l.length lc, sV key, iV n] [vewR 3 (.slice la l.length lc) l.length (l.flatMap it3)] (Same [vewR 3 (.slice la l.length lc) l.length (l.flatMap it3)] (.tuple #[itV ((gt15 l key n).getD z15), iV (if (gt15 l key n).isSome = true then 0 else 5)])) := by
  refine Tri.enter (args := [.slice la l.length lc, sV key, iV n]) Tryd.func24 rfl rfl rfl (fun B wz => ?_)
  refine Cd.fact (i := 0) rfl vew_cap ?_; intro hcap0
  refine Cd.seq ?_
  refine Cd.region rfl ?_
  refine Sq.ex [] (l := []) (o_new [sV ⟨#[]⟩, sV ⟨#[]⟩, iV 0] (fun w => by kernel_rfl)) (by kernel_rfl) rfl (by kernel_rfl) (fun _ => Nat.zero_le _) ?_; intro b3 _
  refine Sq.vals [1] (rest := []) [iV 0] (fun w => by kernel_rfl) ?_
  refine Sq.done ?_
  refine Ex'.next ?_
  refine Cd.seq ?_
  refine Cd.seq ?_
  refine Cd.region rfl ?_
  refine Sq.vals [0] (rest := []) [iV 0] (fun w => by kernel_rfl) ?_
  refine Sq.done ?_
  refine Ex'.next ?_
  refine Cd.block ?_
  refine Cd.loop (ι := Nat) (fun k => k ≤ l.length ∧ ∀ y ∈ l.take k, ¬ (y.1 = key ∧ ¬ (0 < y.2.2 ∧ y.2.2 ≤ n))) (fun k => l.length - k) (fun k => [(0, .slice la l.length lc), (1, sV key), (2, iV n), (6, pV b3 0), (8, iV (k : Int))]) (fun k => [vewR 3 (.slice la l.length lc) l.length (l.flatMap it3), blkR b3 [sV ⟨#[]⟩, sV ⟨#[]⟩, iV 0] 50]) 0 (⟨Nat.zero_le _, by simp⟩) (subB_eq (l := [0, 1, 2, 6, 8]) (by kernel_rfl)) (fun w hw => hw.pickB [0, 1] (by kernel_rfl) (by kernel_rfl) (by kernel_rfl)) ?_
  rintro k hL4
  try dsimp only at hL4 ⊢
  obtain ⟨hk, hno⟩ := hL4
  refine Cd.seq ?_
  refine Cd.seq ?_
  refine Cd.region rfl ?_
  refine Sq.vals [0, 1, 2, 3] (rest := []) [iV (k : Int), .slice la l.length lc, iV (l.length : Int), bV (decide ((k : Int) < (l.length : Int)))] (fun w => by kernel_rfl) ?_
  refine Sq.done ?_
  refine Ex'.next ?_
  refine Cd.case (p := (k : Int) < (l.length : Int)) (by kernel_rfl) (fun h5 => ?_) (fun h5 => ?_)
  ·
    refine Cd.skip ?_
    refine Ex'.next ?_
    refine Cd.seq ?_
    refine Cd.block ?_
    refine Cd.seq ?_
    refine Cd.region rfl ?_
    refine Sq.vals [0, 1] (rest := [2, 3, 4, 5, 6, 7, 8, 9, 10, 11, 12, 13, 14, 15]) [.slice la l.length lc, iV (k : Int)] (fun w => by kernel_rfl) ?_
    refine Sq.fact (i := 0) (R := vewR 3 (.slice la l.length lc) l.length (l.flatMap it3)) (by kernel_rfl) (vew_addr (by omega)) ?_; rintro ⟨b6, off7, rfl⟩
    refine Sq.v (r := pV b6 (off7 + k * 3)) (o_idx (b := b6) (cap := lc) (e := 50) (off := off7) (n := l.length) (kd := .i64) (q := (k : Int)) (i := k) (size := 3) (j := off7 + k * 3) (by kernel_rfl) (by kernel_rfl) (by rfl) (by omega) Tryd.underlying47 (by kernel_rfl) (by omega)) rfl (by kernel_rfl) ?_
    refine Sq.vals [3] (rest := [4, 5, 6, 7, 8, 9, 10, 11, 12, 13, 14, 15]) [pV b6 (off7 + k * 3)] (fun w => by kernel_rfl) ?_
    refine Sq.same [0] (l := [vewR 3 (.slice (some ⟨b6, off7, none⟩) l.length lc) l.length (l.flatMap it3)]) (o_loadView (off := off7) (j := k * 3) (u := sV ((l.getD k ((⟨#[]⟩, ⟨#[]⟩, 0) : ByteArray × ByteArray × Int)).1)) (by kernel_rfl) (by omega) (by kernel_rfl) ((rec_get (f := it3) (k := 3) (z := ((⟨#[]⟩, ⟨#[]⟩, 0) : ByteArray × ByteArray × Int)) (l := l) (i := k) (j := 0) (fun _ => rfl) (by omega) (by decide)).trans rfl)) (by kernel_rfl) rfl (by kernel_rfl) rfl ?_
    refine Sq.vals [5] (rest := [6, 7, 8, 9, 10, 11, 12, 13, 14, 15]) [sV key] (fun w => by kernel_rfl) ?_
    refine Sq.v (r := bV (decide ((l.getD k ((⟨#[]⟩, ⟨#[]⟩, 0) : ByteArray × ByteArray × Int)).1 = key))) (o_eqS (a := (l.getD k ((⟨#[]⟩, ⟨#[]⟩, 0) : ByteArray × ByteArray × Int)).1) (b := key) (by kernel_rfl) (by kernel_rfl)) rfl (by kernel_rfl) ?_
    refine Sq.vals [7] (rest := [8, 9, 10, 11, 12, 13, 14, 15]) [bV (decide ((l.getD k ((⟨#[]⟩, ⟨#[]⟩, 0) : ByteArray × ByteArray × Int)).1 = key))] (fun w => by kernel_rfl) ?_
    refine Sq.case 22 (p := (l.getD k ((⟨#[]⟩, ⟨#[]⟩, 0) : ByteArray × ByteArray × Int)).1 = key) rfl (fun h8 => ?_) (fun h8 => ?_)
    ·
      refine Sq.vals [8, 9] (rest := [10, 11, 12, 13, 14, 15]) [.slice (some ⟨b6, off7, none⟩) l.length lc, iV (k : Int)] (fun w => by kernel_rfl) ?_
      refine Sq.v (r := pV b6 (off7 + k * 3)) (o_idx (b := b6) (cap := lc) (e := 50) (off := off7) (n := l.length) (kd := .i64) (q := (k : Int)) (i := k) (size := 3) (j := off7 + k * 3) (by kernel_rfl) (by kernel_rfl) (by rfl) (by omega) Tryd.underlying47 (by kernel_rfl) (by omega)) rfl (by kernel_rfl) ?_
      refine Sq.same [0] (l := [vewR 3 (.slice (some ⟨b6, off7, none⟩) l.length lc) l.length (l.flatMap it3)]) (o_loadViewN (off := off7) (j := k * 3) [sV ((l.getD k ((⟨#[]⟩, ⟨#[]⟩, 0) : ByteArray × ByteArray × Int)).1), sV ((l.getD k ((⟨#[]⟩, ⟨#[]⟩, 0) : ByteArray × ByteArray × Int)).2.1), iV ((l.getD k ((⟨#[]⟩, ⟨#[]⟩, 0) : ByteArray × ByteArray × Int)).2.2)] (by kernel_rfl) (by omega) (by kernel_rfl) (rec_gets (f := it3) (k := 3) (z := ((⟨#[]⟩, ⟨#[]⟩, 0) : ByteArray × ByteArray × Int)) (l := l) (i := k) (o := 0) (fun _ => rfl) (by omega) (Nat.le_of_ble_eq_true rfl) rfl)) (by kernel_rfl) rfl (by kernel_rfl) rfl ?_
      refine Sq.vals [12] (rest := [13, 14, 15]) [iV n] (fun w => by kernel_rfl) ?_
      refine Sq.same [] (l := []) (o_call (by kernel_rfl) Tryd.call42 (t_Over15 (k := (l.getD k ((⟨#[]⟩, ⟨#[]⟩, 0) : ByteArray × ByteArray × Int)).1) (v := (l.getD k ((⟨#[]⟩, ⟨#[]⟩, 0) : ByteArray × ByteArray × Int)).2.1) (d := (l.getD k ((⟨#[]⟩, ⟨#[]⟩, 0) : ByteArray × ByteArray × Int)).2.2) (n := n))) (by kernel_rfl) rfl (by kernel_rfl) rfl ?_
      refine Sq.v (r := bV (decide (¬ (0 < (l.getD k ((⟨#[]⟩, ⟨#[]⟩, 0) : ByteArray × ByteArray × Int)).2.2 ∧ (l.getD k ((⟨#[]⟩, ⟨#[]⟩, 0) : ByteArray × ByteArray × Int)).2.2 ≤ n)))) (o_not (by kernel_rfl)) rfl (by kernel_rfl) ?_
      refine Sq.vals [15] (rest := []) [bV (decide (¬ (0 < (l.getD k ((⟨#[]⟩, ⟨#[]⟩, 0) : ByteArray × ByteArray × Int)).2.2 ∧ (l.getD k ((⟨#[]⟩, ⟨#[]⟩, 0) : ByteArray × ByteArray × Int)).2.2 ≤ n)))] (fun w => by kernel_rfl) ?_
      refine Sq.done ?_
      refine Ex'.next ?_
      refine Cd.case (p := ¬ (0 < (l.getD k ((⟨#[]⟩, ⟨#[]⟩, 0) : ByteArray × ByteArray × Int)).2.2 ∧ (l.getD k ((⟨#[]⟩, ⟨#[]⟩, 0) : ByteArray × ByteArray × Int)).2.2 ≤ n)) (by kernel_rfl) (fun h9 => ?_) (fun h9 => ?_)
      ·
        refine Cd.seq ?_
        refine Cd.region rfl ?_
        refine Sq.vals [0, 1] (rest := [2, 3, 4, 5]) [.slice (some ⟨b6, off7, none⟩) l.length lc, iV (k : Int)] (fun w => by kernel_rfl) ?_
        refine Sq.v (r := pV b6 (off7 + k * 3)) (o_idx (b := b6) (cap := lc) (e := 50) (off := off7) (n := l.length) (kd := .i64) (q := (k : Int)) (i := k) (size := 3) (j := off7 + k * 3) (by kernel_rfl) (by kernel_rfl) (by rfl) (by omega) Tryd.underlying47 (by kernel_rfl) (by omega)) rfl (by kernel_rfl) ?_
        refine Sq.same [0] (l := [vewR 3 (.slice (some ⟨b6, off7, none⟩) l.length lc) l.length (l.flatMap it3)]) (o_loadViewN (off := off7) (j := k * 3) [sV ((l.getD k ((⟨#[]⟩, ⟨#[]⟩, 0) : ByteArray × ByteArray × Int)).1), sV ((l.getD k ((⟨#[]⟩, ⟨#[]⟩, 0) : ByteArray × ByteArray × Int)).2.1), iV ((l.getD k ((⟨#[]⟩, ⟨#[]⟩, 0) : ByteArray × ByteArray × Int)).2.2)] (by kernel_rfl) (by omega) (by kernel_rfl) (rec_gets (f := it3) (k := 3) (z := ((⟨#[]⟩, ⟨#[]⟩, 0) : ByteArray × ByteArray × Int)) (l := l) (i := k) (o := 0) (fun _ => rfl) (by omega) (Nat.le_of_ble_eq_true rfl) rfl)) (by kernel_rfl) rfl (by kernel_rfl) rfl ?_
        refine Sq.same [1] (l := [blkR b3 [sV ⟨#[]⟩, sV ⟨#[]⟩, iV 0] 50]) (o_store (i := 0) (v := .agg #[sV ((l.getD k ((⟨#[]⟩, ⟨#[]⟩, 0) : ByteArray × ByteArray × Int)).1), sV ((l.getD k ((⟨#[]⟩, ⟨#[]⟩, 0) : ByteArray × ByteArray × Int)).2.1), iV ((l.getD k ((⟨#[]⟩, ⟨#[]⟩, 0) : ByteArray × ByteArray × Int)).2.2)]) (by kernel_rfl) (by kernel_rfl) (by kernel_rfl) (by kernel_rfl) (by kernel_rfl)) (by kernel_rfl) rfl (by kernel_rfl) rfl ?_
        refine Sq.vals [5] (rest := []) [iV 0] (fun w => by kernel_rfl) ?_
        refine Sq.done ?_
        refine Ex'.next ?_
        refine Cd.ret ?_
        refine Ex'.blockRet ?_
        refine Ex'.thenRet ?_
        refine Ex'.thenRet ?_
        refine Ex'.blockRet ?_
        refine Ex'.thenRet ?_
        refine Ex'.ret Tryd.results24 (RVs.cellN (i := 0) (b := b3) (l := [sV ((l.getD k ((⟨#[]⟩, ⟨#[]⟩, 0) : ByteArray × ByteArray × Int)).1), sV ((l.getD k ((⟨#[]⟩, ⟨#[]⟩, 0) : ByteArray × ByteArray × Int)).2.1), iV ((l.getD k ((⟨#[]⟩, ⟨#[]⟩, 0) : ByteArray × ByteArray × Int)).2.2)]) (E := 50) [sV ((l.getD k ((⟨#[]⟩, ⟨#[]⟩, 0) : ByteArray × ByteArray × Int)).1), sV ((l.getD k ((⟨#[]⟩, ⟨#[]⟩, 0) : ByteArray × ByteArray × Int)).2.1), iV ((l.getD k ((⟨#[]⟩, ⟨#[]⟩, 0) : ByteArray × ByteArray × Int)).2.2)] 1 (by kernel_rfl) (by kernel_rfl) (by kernel_rfl) (by kernel_rfl) (RVs.tmp (v := iV 0) (by kernel_rfl) (RVs.nil))) (fun w hw => ?_)
        have e := gt15_hit hno (by omega) h8 h9
        rw [e]; exact ⟨_, ⟨rfl, rfl⟩, hw.pickB [0] (by kernel_rfl) (by kernel_rfl) (by kernel_rfl)⟩
      ·
        refine Cd.skip ?_
        refine Ex'.blockNormal ?_
        refine Ex'.next ?_
        refine Cd.region rfl ?_
        refine Sq.vals [0] (rest := [1, 2]) [iV (k : Int)] (fun w => by kernel_rfl) ?_
        refine Sq.v (r := iV ((k + 1 : Nat) : Int)) (o_add (k := .i64) (a := (k : Int)) (b := 1) (c := ((k + 1 : Nat) : Int)) (by kernel_rfl) (by kernel_rfl) (w64 (by omega) (by omega))) rfl (by kernel_rfl) ?_
        refine Sq.vals [2] (rest := []) [iV ((k + 1 : Nat) : Int)] (fun w => by kernel_rfl) ?_
        refine Sq.done ?_
        refine Ex'.round (g := k) (k + 1) ?_ ?_ (subB_eq (l := [0, 1, 2, 6, 8]) (by kernel_rfl)) (fun w hw => hw.pickB [0, 1] (by kernel_rfl) (by kernel_rfl) (by kernel_rfl))
        · (try dsimp only); exact ⟨by omega, gt15_step hno (by omega) (fun q => q.2 (Classical.not_not.1 h9))⟩
        · omega
    ·
      refine Sq.vals [8, 9, 10, 11, 12, 13, 14, 15] (rest := []) [undef, undef, undef, undef, undef, undef, undef, bV false] (fun w => by kernel_rfl) ?_
      refine Sq.done ?_
      refine Ex'.next ?_
      refine Cd.condF (by kernel_rfl) ?_
      refine Cd.skip ?_
      refine Ex'.blockNormal ?_
      refine Ex'.next ?_
      refine Cd.region rfl ?_
      refine Sq.vals [0] (rest := [1, 2]) [iV (k : Int)] (fun w => by kernel_rfl) ?_
      refine Sq.v (r := iV ((k + 1 : Nat) : Int)) (o_add (k := .i64) (a := (k : Int)) (b := 1) (c := ((k + 1 : Nat) : Int)) (by kernel_rfl) (by kernel_rfl) (w64 (by omega) (by omega))) rfl (by kernel_rfl) ?_
      refine Sq.vals [2] (rest := []) [iV ((k + 1 : Nat) : Int)] (fun w => by kernel_rfl) ?_
      refine Sq.done ?_
      refine Ex'.round (g := k) (k + 1) ?_ ?_ (subB_eq (l := [0, 1, 2, 6, 8]) (by kernel_rfl)) (fun w hw => hw.pickB [0, 1] (by kernel_rfl) (by kernel_rfl) (by kernel_rfl))
      · (try dsimp only); exact ⟨by omega, gt15_step hno (by omega) (fun q => h8 q.1)⟩
      · omega
  ·
    refine Cd.exit ?_
    refine Ex'.thenExit ?_
    refine Ex'.thenExit ?_
    refine Ex'.blockHit ?_
    refine Ex'.next ?_
    refine Cd.seq ?_
    refine Cd.region rfl ?_
    refine Sq.vals [0] (rest := [1, 2]) [.agg #[sV ⟨#[]⟩, sV ⟨#[]⟩, iV 0]] (fun w => by kernel_rfl) ?_
    refine Sq.same [1] (l := [blkR b3 [sV ⟨#[]⟩, sV ⟨#[]⟩, iV 0] 50]) (o_store (i := 0) (v := .agg #[sV ⟨#[]⟩, sV ⟨#[]⟩, iV 0]) (by kernel_rfl) (by kernel_rfl) (by kernel_rfl) (by kernel_rfl) (by kernel_rfl)) (by kernel_rfl) rfl (by kernel_rfl) rfl ?_
    refine Sq.vals [2] (rest := []) [iV 5] (fun w => by kernel_rfl) ?_
    refine Sq.done ?_
    refine Ex'.next ?_
    refine Cd.ret ?_
    refine Ex'.ret Tryd.results24 (RVs.cellN (i := 0) (b := b3) (l := [sV ⟨#[]⟩, sV ⟨#[]⟩, iV 0]) (E := 50) [sV ⟨#[]⟩, sV ⟨#[]⟩, iV 0] 1 (by kernel_rfl) (by kernel_rfl) (by kernel_rfl) (by kernel_rfl) (RVs.tmp (v := iV 5) (by kernel_rfl) (RVs.nil))) (fun w hw => ?_)
    have e := gt15_miss hno (by omega)
    rw [e]; exact ⟨_, ⟨rfl, rfl⟩, hw.pickB [0] (by kernel_rfl) (by kernel_rfl) (by kernel_rfl)⟩

def gk15 (l : List It) (n : Int) : List ByteArray := (gone15 l n).map (·.1)
theorem gk15_le (l : List It) (n : Int) : (gk15 l n).length ≤ l.length := by unfold gk15; rw [List.length_map]; exact gone15_le l n
def exp15 (l : List It) (n : Int) : List It × List ByteArray := (stay15 l n, gk15 l n)

theorem exp15_eq (l : List It) (n : Int) : exp15 l n = (stay15 l n, gk15 l n) := rfl

set_option maxHeartbeats 8000000 in
set_option maxRecDepth 100000 in
theorem t_Expire15 {la : Option Addr} {lc : Nat} {l : List It} {n : Int} (hbd : l.length ≤ 1000000) : Tri Tryd.prog 21 #[.slice la l.length lc, iV n] [vewR 3 (.slice la l.length lc) l.length (l.flatMap it3)] (PostE (ι := Value × Value) (fun _ => True) (fun v => .tuple #[v.1, v.2]) fun v => [vewR 3 (.slice la l.length lc) l.length (l.flatMap it3), vewR 3 v.1 (((exp15 l n).1).length) (((exp15 l n).1).flatMap it3), rowR 9 1 v.2 (((exp15 l n).2).length) (((exp15 l n).2).map Value.string)]) := by
  refine Tri.enter (args := [.slice la l.length lc, iV n]) Tryd.func21 rfl rfl rfl (fun B wz => ?_)
  refine Cd.fact (i := 0) rfl vew_cap ?_; intro hcap0
  refine Cd.seq ?_
  refine Cd.region rfl ?_
  refine Sq.vals [0, 1] (rest := []) [.slice none 0 0, .slice none 0 0] (fun w => by kernel_rfl) ?_
  refine Sq.done ?_
  refine Ex'.next ?_
  refine Cd.seq ?_
  refine Cd.region rfl ?_
  refine Sq.vals [0, 1] (rest := []) [.slice none 0 0, .slice none 0 0] (fun w => by kernel_rfl) ?_
  refine Sq.done ?_
  refine Ex'.next ?_
  refine Cd.seq ?_
  refine Cd.seq ?_
  refine Cd.region rfl ?_
  refine Sq.vals [0] (rest := []) [iV 0] (fun w => by kernel_rfl) ?_
  refine Sq.done ?_
  refine Ex'.next ?_
  refine Cd.block ?_
  refine Cd.nilRow 50 3 ?_
  refine Cd.nilRow 50 3 ?_
  refine Cd.loop (ι := Nat × Value × (List It) × Value × (List It)) (fun ⟨k, sv, S2, gv, G2⟩ => k ≤ l.length ∧ S2 = stay15 (l.take k) n ∧ G2 = gone15 (l.take k) n) (fun ⟨k, sv, S2, gv, G2⟩ => l.length - k) (fun ⟨k, sv, S2, gv, G2⟩ => [(0, .slice la l.length lc), (1, iV n), (4, .slice none 0 0), (5, .slice none 0 0), (8, iV (k : Int)), (6, sv), (7, gv)]) (fun ⟨k, sv, S2, gv, G2⟩ => [vewR 3 (.slice la l.length lc) l.length (l.flatMap it3), rowR 50 3 sv S2.length (S2.flatMap it3), rowR 50 3 gv G2.length (G2.flatMap it3)]) (0, .slice none 0 0, ([] : List It), .slice none 0 0, ([] : List It)) (⟨Nat.zero_le _, by simp [stay15], by simp [gone15, sort15]⟩) (subB_eq (l := [0, 1, 4, 5, 8, 6, 7]) (by kernel_rfl)) (fun w hw => hw.pickB [0, 1, 2] (by kernel_rfl) (by kernel_rfl) (by kernel_rfl)) ?_
  rintro ⟨k, sv, S2, gv, G2⟩ hL1
  try dsimp only at hL1 ⊢
  obtain ⟨hk, hs2, hg2⟩ := hL1
  have hsl : S2.length ≤ l.length := by rw [hs2]; exact Nat.le_trans (stay15_le _ _) (by rw [List.length_take]; omega)
  have hgl : G2.length ≤ l.length := by rw [hg2]; exact Nat.le_trans (gone15_le _ _) (by rw [List.length_take]; omega)
  have hgs : G2.Pairwise (fun x y => ¬ ltD y x = true) := by rw [hg2]; exact sort15_sd ordD _
  refine Cd.fact (i := 1) (R := rowR 50 3 sv S2.length (S2.flatMap it3)) (by kernel_rfl) row_slice ?_; rintro ⟨a2, c3, rfl, hc3, hc3'⟩
  have hc3'' : c3 ≤ 9223372036854775807 := hc3'
  refine Cd.fact (i := 2) (R := rowR 50 3 gv G2.length (G2.flatMap it3)) (by kernel_rfl) row_slice ?_; rintro ⟨a4, c5, rfl, hc5, hc5'⟩
  have hc5'' : c5 ≤ 9223372036854775807 := hc5'
  refine Cd.seq ?_
  refine Cd.seq ?_
  refine Cd.region rfl ?_
  refine Sq.vals [0, 1, 2, 3] (rest := []) [iV (k : Int), .slice la l.length lc, iV (l.length : Int), bV (decide ((k : Int) < (l.length : Int)))] (fun w => by kernel_rfl) ?_
  refine Sq.done ?_
  refine Ex'.next ?_
  refine Cd.case (p := (k : Int) < (l.length : Int)) (by kernel_rfl) (fun h6 => ?_) (fun h6 => ?_)
  ·
    refine Cd.skip ?_
    refine Ex'.next ?_
    refine Cd.seq ?_
    refine Cd.block ?_
    refine Cd.seq ?_
    refine Cd.seq ?_
    refine Cd.region rfl ?_
    refine Sq.vals [0, 1] (rest := [2, 3, 4, 5, 6]) [.slice la l.length lc, iV (k : Int)] (fun w => by kernel_rfl) ?_
    refine Sq.fact (i := 0) (R := vewR 3 (.slice la l.length lc) l.length (l.flatMap it3)) (by kernel_rfl) (vew_addr (by omega)) ?_; rintro ⟨b7, off8, rfl⟩
    refine Sq.v (r := pV b7 (off8 + k * 3)) (o_idx (b := b7) (cap := lc) (e := 50) (off := off8) (n := l.length) (kd := .i64) (q := (k : Int)) (i := k) (size := 3) (j := off8 + k * 3) (by kernel_rfl) (by kernel_rfl) (by rfl) (by omega) Tryd.underlying47 (by kernel_rfl) (by omega)) rfl (by kernel_rfl) ?_
    refine Sq.same [0] (l := [vewR 3 (.slice (some ⟨b7, off8, none⟩) l.length lc) l.length (l.flatMap it3)]) (o_loadViewN (off := off8) (j := k * 3) [sV ((l.getD k ((⟨#[]⟩, ⟨#[]⟩, 0) : ByteArray × ByteArray × Int)).1), sV ((l.getD k ((⟨#[]⟩, ⟨#[]⟩, 0) : ByteArray × ByteArray × Int)).2.1), iV ((l.getD k ((⟨#[]⟩, ⟨#[]⟩, 0) : ByteArray × ByteArray × Int)).2.2)] (by kernel_rfl) (by omega) (by kernel_rfl) (rec_gets (f := it3) (k := 3) (z := ((⟨#[]⟩, ⟨#[]⟩, 0) : ByteArray × ByteArray × Int)) (l := l) (i := k) (o := 0) (fun _ => rfl) (by omega) (Nat.le_of_ble_eq_true rfl) rfl)) (by kernel_rfl) rfl (by kernel_rfl) rfl ?_
    refine Sq.vals [4] (rest := [5, 6]) [iV n] (fun w => by kernel_rfl) ?_
    refine Sq.same [] (l := []) (o_call (by kernel_rfl) Tryd.call42 (t_Over15 (k := (l.getD k ((⟨#[]⟩, ⟨#[]⟩, 0) : ByteArray × ByteArray × Int)).1) (v := (l.getD k ((⟨#[]⟩, ⟨#[]⟩, 0) : ByteArray × ByteArray × Int)).2.1) (d := (l.getD k ((⟨#[]⟩, ⟨#[]⟩, 0) : ByteArray × ByteArray × Int)).2.2) (n := n))) (by kernel_rfl) rfl (by kernel_rfl) rfl ?_
    refine Sq.v (r := bV (decide (¬ (0 < (l.getD k ((⟨#[]⟩, ⟨#[]⟩, 0) : ByteArray × ByteArray × Int)).2.2 ∧ (l.getD k ((⟨#[]⟩, ⟨#[]⟩, 0) : ByteArray × ByteArray × Int)).2.2 ≤ n)))) (o_not (by kernel_rfl)) rfl (by kernel_rfl) ?_
    refine Sq.done ?_
    refine Ex'.next ?_
    refine Cd.case (p := ¬ (0 < (l.getD k ((⟨#[]⟩, ⟨#[]⟩, 0) : ByteArray × ByteArray × Int)).2.2 ∧ (l.getD k ((⟨#[]⟩, ⟨#[]⟩, 0) : ByteArray × ByteArray × Int)).2.2 ≤ n)) (by kernel_rfl) (fun h9 => ?_) (fun h9 => ?_)
    ·
      refine Cd.seq ?_
      refine Cd.region rfl ?_
      refine Sq.vals [0, 1, 2] (rest := [3, 4, 5, 6, 7]) [.slice a2 S2.length c3, .slice (some ⟨b7, off8, none⟩) l.length lc, iV (k : Int)] (fun w => by kernel_rfl) ?_
      refine Sq.v (r := pV b7 (off8 + k * 3)) (o_idx (b := b7) (cap := lc) (e := 50) (off := off8) (n := l.length) (kd := .i64) (q := (k : Int)) (i := k) (size := 3) (j := off8 + k * 3) (by kernel_rfl) (by kernel_rfl) (by rfl) (by omega) Tryd.underlying47 (by kernel_rfl) (by omega)) rfl (by kernel_rfl) ?_
      refine Sq.same [0] (l := [vewR 3 (.slice (some ⟨b7, off8, none⟩) l.length lc) l.length (l.flatMap it3)]) (o_loadViewN (off := off8) (j := k * 3) [sV ((l.getD k ((⟨#[]⟩, ⟨#[]⟩, 0) : ByteArray × ByteArray × Int)).1), sV ((l.getD k ((⟨#[]⟩, ⟨#[]⟩, 0) : ByteArray × ByteArray × Int)).2.1), iV ((l.getD k ((⟨#[]⟩, ⟨#[]⟩, 0) : ByteArray × ByteArray × Int)).2.2)] (by kernel_rfl) (by omega) (by kernel_rfl) (rec_gets (f := it3) (k := 3) (z := ((⟨#[]⟩, ⟨#[]⟩, 0) : ByteArray × ByteArray × Int)) (l := l) (i := k) (o := 0) (fun _ => rfl) (by omega) (Nat.le_of_ble_eq_true rfl) rfl)) (by kernel_rfl) rfl (by kernel_rfl) rfl ?_
      refine Sq.ex [] (l := []) (o_lit (sz := 3) (.agg #[sV ⟨#[]⟩, sV ⟨#[]⟩, iV 0]) [sV ((l.getD k ((⟨#[]⟩, ⟨#[]⟩, 0) : ByteArray × ByteArray × Int)).1), sV ((l.getD k ((⟨#[]⟩, ⟨#[]⟩, 0) : ByteArray × ByteArray × Int)).2.1), iV ((l.getD k ((⟨#[]⟩, ⟨#[]⟩, 0) : ByteArray × ByteArray × Int)).2.2)] Tryd.underlying47 (by kernel_rfl) (by kernel_rfl) (by kernel_rfl) (by kernel_rfl) (by kernel_rfl)) (by kernel_rfl) rfl (by kernel_rfl) (fun _ => Nat.zero_le _) ?_; intro b10 _
      refine Sq.ex [1, 3] (l := [rowR 50 3 (.slice a2 S2.length c3) S2.length (S2.flatMap it3), blkR b10 [sV ((l.getD k ((⟨#[]⟩, ⟨#[]⟩, 0) : ByteArray × ByteArray × Int)).1), sV ((l.getD k ((⟨#[]⟩, ⟨#[]⟩, 0) : ByteArray × ByteArray × Int)).2.1), iV ((l.getD k ((⟨#[]⟩, ⟨#[]⟩, 0) : ByteArray × ByteArray × Int)).2.2)] 50]) (o_push (n' := S2.length + 1) (xs' := (S2 ++ [(l.getD k ((⟨#[]⟩, ⟨#[]⟩, 0) : ByteArray × ByteArray × Int))]).flatMap it3) (by kernel_rfl) (by kernel_rfl) sl_it15 (by decide) rfl (by kernel_rfl) (by unfold maxLen; first | omega | (simp only [List.length_nil]; omega)) (by first | omega | (simp only [List.length_nil]; omega)) (by simp) (by rw [List.flatMap_append]; rfl)) (by kernel_rfl) rfl (by kernel_rfl) (fun _ => Nat.le_of_ble_eq_true (by kernel_rfl)) ?_; rintro v11 _
      refine Sq.fact (i := 1) (R := rowR 50 3 v11 (S2.length + 1) ((S2 ++ [(l.getD k ((⟨#[]⟩, ⟨#[]⟩, 0) : ByteArray × ByteArray × Int))]).flatMap it3)) (by kernel_rfl) row_slice ?_; rintro ⟨a12, c13, rfl, hc13, hc13'⟩
      have hc13'' : c13 ≤ 9223372036854775807 := hc13'
      refine Sq.fact (i := 1) (R := rowR 50 3 (.slice a12 (S2.length + 1) c13) (S2.length + 1) ((S2 ++ [(l.getD k ((⟨#[]⟩, ⟨#[]⟩, 0) : ByteArray × ByteArray × Int))]).flatMap it3)) (by kernel_rfl) (row_addr (by simp)) ?_; rintro ⟨b14, rfl⟩
      refine Sq.vals [7] (rest := []) [.slice (some ⟨b14, 0, none⟩) (S2.length + 1) c13] (fun w => by kernel_rfl) ?_
      refine Sq.done ?_
      refine Ex'.next ?_
      refine Cd.exit ?_
      refine Ex'.thenExit ?_
      refine Ex'.blockHit ?_
      refine Ex'.next ?_
      refine Cd.region rfl ?_
      refine Sq.vals [0] (rest := [1, 2]) [iV (k : Int)] (fun w => by kernel_rfl) ?_
      refine Sq.v (r := iV ((k + 1 : Nat) : Int)) (o_add (k := .i64) (a := (k : Int)) (b := 1) (c := ((k + 1 : Nat) : Int)) (by kernel_rfl) (by kernel_rfl) (w64 (by omega) (by omega))) rfl (by kernel_rfl) ?_
      refine Sq.vals [2] (rest := []) [iV ((k + 1 : Nat) : Int)] (fun w => by kernel_rfl) ?_
      refine Sq.done ?_
      refine Ex'.round (g := (k, .slice a2 S2.length c3, S2, .slice a4 G2.length c5, G2)) (k + 1, .slice (some ⟨b14, 0, none⟩) (S2.length + 1) c13, S2 ++ [(l.getD k ((⟨#[]⟩, ⟨#[]⟩, 0) : ByteArray × ByteArray × Int))], .slice a4 G2.length c5, G2) ?_ ?_ (subB_eq (l := [0, 1, 4, 5, 8, 6, 7]) (by kernel_rfl)) (fun w hw => (hw.conv 1 (R := rowR 50 3 (.slice (some ⟨b14, 0, none⟩) (S2.length + 1) c13) (S2.length + 1) ((S2 ++ [(l.getD k ((⟨#[]⟩, ⟨#[]⟩, 0) : ByteArray × ByteArray × Int))]).flatMap it3)) (R' := rowR 50 3 (.slice (some ⟨b14, 0, none⟩) (S2.length + 1) c13) (S2 ++ [(l.getD k ((⟨#[]⟩, ⟨#[]⟩, 0) : ByteArray × ByteArray × Int))]).length ((S2 ++ [(l.getD k ((⟨#[]⟩, ⟨#[]⟩, 0) : ByteArray × ByteArray × Int))]).flatMap it3)) (by kernel_rfl) (row_len (by first | rfl | omega | (simp only [List.length_take, List.length_drop, List.length_append, List.length_cons, List.length_nil]; omega) | (simp; done) | (simp; omega)))).pickB [0, 1, 2] (by kernel_rfl) (by kernel_rfl) (by kernel_rfl))
      · (try dsimp only); exact ⟨by omega, by rw [(under15_step (by omega) h9).1, hs2], by rw [(under15_step (by omega) h9).2, hg2]⟩
      · omega
    ·
      refine Cd.skip ?_
      refine Ex'.next ?_
      refine Cd.seq ?_
      refine Cd.region rfl ?_
      refine Sq.vals [0, 1, 2] (rest := []) [.slice a4 G2.length c5, iV (G2.length : Int), iV (G2.length : Int)] (fun w => by kernel_rfl) ?_
      refine Sq.done ?_
      refine Ex'.next ?_
      refine Cd.seq ?_
      refine Cd.block ?_
      refine Cd.loop (ι := Nat) (fun a => a ≤ G2.length ∧ ∀ y ∈ G2.drop a, ltD (l.getD k ((⟨#[]⟩, ⟨#[]⟩, 0) : ByteArray × ByteArray × Int)) y = true) (fun a => a) (fun a => [(0, .slice (some ⟨b7, off8, none⟩) l.length lc), (1, iV n), (4, .slice none 0 0), (5, .slice none 0 0), (8, iV (k : Int)), (6, .slice a2 S2.length c3), (7, .slice a4 G2.length c5), (9, iV (a : Int))]) (fun a => [vewR 3 (.slice (some ⟨b7, off8, none⟩) l.length lc) l.length (l.flatMap it3), rowR 50 3 (.slice a2 S2.length c3) S2.length (S2.flatMap it3), rowR 50 3 (.slice a4 G2.length c5) G2.length (G2.flatMap it3)]) G2.length (⟨Nat.le_refl _, by simp⟩) (subB_eq (l := [0, 1, 4, 5, 8, 6, 7, 9]) (by kernel_rfl)) (fun w hw => hw.pickB [0, 1, 2] (by kernel_rfl) (by kernel_rfl) (by kernel_rfl)) ?_
      rintro a hL15
      try dsimp only at hL15 ⊢
      obtain ⟨ha, hdr⟩ := hL15
      refine Cd.seq ?_
      refine Cd.seq ?_
      by_cases h16 : (a : Int) > 0
      ·
        refine Cd.fact (i := 2) (R := rowR 50 3 (.slice a4 G2.length c5) G2.length (G2.flatMap it3)) (by kernel_rfl) (row_addr (by omega)) ?_; rintro ⟨b17, rfl⟩
        refine Cd.plan [0, 1, 3, 7, 7, 23, 63, 127, 255, 7, 7, 1543, 3591, 7687, 16383, 32767] [(8, [(2, false, 0)]), (13, [(0, false, 0)])] [] [] [] [fun g => iV (a : Int), fun g => bV true, fun g => bV true, fun g => .slice (some ⟨b17, 0, none⟩) G2.length c5, fun g => iV (a : Int), fun g => iV ((a - 1 : Nat) : Int), fun g => pV b17 ((a - 1) * 3), fun g => pV b17 ((a - 1) * 3 + 2), fun g => iV ((G2.getD (a - 1) ((⟨#[]⟩, ⟨#[]⟩, 0) : ByteArray × ByteArray × Int)).2.2), fun g => .slice (some ⟨b7, off8, none⟩) l.length lc, fun g => iV (k : Int), fun g => pV b7 (off8 + k * 3), fun g => pV b7 (off8 + k * 3 + 2), fun g => iV ((l.getD k ((⟨#[]⟩, ⟨#[]⟩, 0) : ByteArray × ByteArray × Int)).2.2), fun g => bV (decide ((G2.getD (a - 1) ((⟨#[]⟩, ⟨#[]⟩, 0) : ByteArray × ByteArray × Int)).2.2 > (l.getD k ((⟨#[]⟩, ⟨#[]⟩, 0) : ByteArray × ByteArray × Int)).2.2)), fun g => bV (decide ((G2.getD (a - 1) ((⟨#[]⟩, ⟨#[]⟩, 0) : ByteArray × ByteArray × Int)).2.2 > (l.getD k ((⟨#[]⟩, ⟨#[]⟩, 0) : ByteArray × ByteArray × Int)).2.2))] (by kernel_rfl) (by kernel_rfl) rfl (trivial) ?_ ?_
        · exact ⟨ob_val fun g w => by kernel_rfl, ob_v (v := fun g => bV true) (fun g => OprV.re (pureV (v := bV (decide ((a : Int) > 0))) (by kernel_rfl) rfl fun w => by kernel_rfl) (vT h16)) (fun g => by kernel_rfl), ob_val fun g w => by kernel_rfl, ob_val fun g w => by kernel_rfl, ob_val fun g w => by kernel_rfl, ob_v (v := fun g => iV ((a - 1 : Nat) : Int)) (fun g => o_sub (k := .i64) (a := (a : Int)) (b := 1) (c := ((a - 1 : Nat) : Int)) (by kernel_rfl) (by kernel_rfl) (w64 (by omega) (by omega))) (fun g => by kernel_rfl), ob_v (v := fun g => pV b17 ((a - 1) * 3)) (fun g => o_idx (b := b17) (cap := c5) (e := 50) (off := 0) (n := G2.length) (kd := .i64) (q := ((a - 1 : Nat) : Int)) (i := (a - 1)) (size := 3) (j := (a - 1) * 3) (by kernel_rfl) (by kernel_rfl) (by rfl) (by omega) Tryd.underlying47 (by kernel_rfl) (by omega)) (fun g => by kernel_rfl), ob_val fun g w => by kernel_rfl, ob_s (l := fun g => [rowR 50 3 (.slice (some ⟨b17, 0, none⟩) G2.length c5) G2.length (G2.flatMap it3)]) (l' := fun g => [rowR 50 3 (.slice (some ⟨b17, 0, none⟩) G2.length c5) G2.length (G2.flatMap it3)]) (v := fun g => iV ((G2.getD (a - 1) ((⟨#[]⟩, ⟨#[]⟩, 0) : ByteArray × ByteArray × Int)).2.2)) (fun g => o_loadRow (i := (a - 1) * 3 + 2) (u := iV ((G2.getD (a - 1) ((⟨#[]⟩, ⟨#[]⟩, 0) : ByteArray × ByteArray × Int)).2.2)) (by kernel_rfl) (by omega) (by kernel_rfl) ((rec_get (f := it3) (k := 3) (z := ((⟨#[]⟩, ⟨#[]⟩, 0) : ByteArray × ByteArray × Int)) (l := G2) (i := (a - 1)) (j := 2) (fun _ => rfl) (by omega) (by decide)).trans rfl)) (fun g => by kernel_rfl), ob_val fun g w => by kernel_rfl, ob_val fun g w => by kernel_rfl, ob_v (v := fun g => pV b7 (off8 + k * 3)) (fun g => o_idx (b := b7) (cap := lc) (e := 50) (off := off8) (n := l.length) (kd := .i64) (q := (k : Int)) (i := k) (size := 3) (j := off8 + k * 3) (by kernel_rfl) (by kernel_rfl) (by rfl) (by omega) Tryd.underlying47 (by kernel_rfl) (by omega)) (fun g => by kernel_rfl), ob_val fun g w => by kernel_rfl, ob_s (l := fun g => [vewR 3 (.slice (some ⟨b7, off8, none⟩) l.length lc) l.length (l.flatMap it3)]) (l' := fun g => [vewR 3 (.slice (some ⟨b7, off8, none⟩) l.length lc) l.length (l.flatMap it3)]) (v := fun g => iV ((l.getD k ((⟨#[]⟩, ⟨#[]⟩, 0) : ByteArray × ByteArray × Int)).2.2)) (fun g => o_loadView (off := off8) (j := k * 3 + 2) (u := iV ((l.getD k ((⟨#[]⟩, ⟨#[]⟩, 0) : ByteArray × ByteArray × Int)).2.2)) (by kernel_rfl) (by omega) (by kernel_rfl) ((rec_get (f := it3) (k := 3) (z := ((⟨#[]⟩, ⟨#[]⟩, 0) : ByteArray × ByteArray × Int)) (l := l) (i := k) (j := 2) (fun _ => rfl) (by omega) (by decide)).trans rfl)) (fun g => by kernel_rfl), ob_val fun g w => by kernel_rfl, ob_val fun g w => by kernel_rfl, trivial⟩
        intro g
        refine Ex'.sub (subB_spec [0, 1, 4, 5, 8, 6, 7, 9, 49]) ?_
        refine Ex'.as [0, 1, 2] (σ' := [(0, .slice (some ⟨b7, off8, none⟩) l.length lc), (1, iV n), (4, .slice none 0 0), (5, .slice none 0 0), (8, iV (k : Int)), (6, .slice a2 S2.length c3), (7, .slice (some ⟨b17, 0, none⟩) G2.length c5), (9, iV (a : Int)), (49, bV (decide ((G2.getD (a - 1) ((⟨#[]⟩, ⟨#[]⟩, 0) : ByteArray × ByteArray × Int)).2.2 > (l.getD k ((⟨#[]⟩, ⟨#[]⟩, 0) : ByteArray × ByteArray × Int)).2.2)))]) (Γ' := [vewR 3 (.slice (some ⟨b7, off8, none⟩) l.length lc) l.length (l.flatMap it3), rowR 50 3 (.slice a2 S2.length c3) S2.length (S2.flatMap it3), rowR 50 3 (.slice (some ⟨b17, 0, none⟩) G2.length c5) G2.length (G2.flatMap it3)]) (by kernel_rfl) rfl (by kernel_rfl) (by kernel_rfl) ?_
        refine Ex'.next ?_
        refine Cd.case (p := (G2.getD (a - 1) ((⟨#[]⟩, ⟨#[]⟩, 0) : ByteArray × ByteArray × Int)).2.2 > (l.getD k ((⟨#[]⟩, ⟨#[]⟩, 0) : ByteArray × ByteArray × Int)).2.2) (by kernel_rfl) (fun h18 => ?_) (fun h18 => ?_)
        ·
          refine Cd.skip ?_
          refine Ex'.next ?_
          refine Cd.block ?_
          refine Cd.region rfl ?_
          refine Sq.vals [0] (rest := [1, 2]) [iV (a : Int)] (fun w => by kernel_rfl) ?_
          refine Sq.v (r := iV ((a - 1 : Nat) : Int)) (o_sub (k := .i64) (a := (a : Int)) (b := 1) (c := ((a - 1 : Nat) : Int)) (by kernel_rfl) (by kernel_rfl) (w64 (by omega) (by omega))) rfl (by kernel_rfl) ?_
          refine Sq.vals [2] (rest := []) [iV ((a - 1 : Nat) : Int)] (fun w => by kernel_rfl) ?_
          refine Sq.done ?_
          refine Ex'.blockNormal ?_
          refine Ex'.round (g := a) (a - 1) ?_ ?_ (subB_eq (l := [0, 1, 4, 5, 8, 6, 7, 9]) (by kernel_rfl)) (fun w hw => hw.pickB [0, 1, 2] (by kernel_rfl) (by kernel_rfl) (by kernel_rfl))
          · (try dsimp only); exact ⟨by omega, drop15_step (by omega) ha hdr (decide_eq_true (by have := h18; omega))⟩
          · omega
        ·
          have hin := ins15_at ordD (x := (l.getD k ((⟨#[]⟩, ⟨#[]⟩, 0) : ByteArray × ByteArray × Int))) hgs ha hdr (fun _ q => h18 (by have := of_decide_eq_true q; omega))
          refine Cd.exit ?_
          refine Ex'.thenExit ?_
          refine Ex'.thenExit ?_
          refine Ex'.blockHit ?_
          refine Ex'.next ?_
          refine Cd.plan [0, 0, 0, 6, 15, 0, 0, 96, 224, 480, 1023, 0, 0, 6144, 16383, 32767] [(4, [(3, true, 1), (2, false, 0)]), (8, [(0, false, 0)]), (10, [(3, true, 5), (12, false, 10)]), (14, [(3, true, 11), (2, false, 0)])] [0, 9] [(0, fun _ => True), (4, fun _ => True), (9, fun _ => True), (10, fun _ => True), (14, fun _ => True)] [(3, 0, fun g => rowR 50 3 (.slice (some ⟨(slOf (g 0)), 0, none⟩) 0 0) 0 (([] : List It).flatMap it3)), (3, 4, fun g => rowR 50 3 (g 4) a ((G2.take a).flatMap it3)), (12, 9, fun g => blkR (slOf (g 9)) [sV ((l.getD k ((⟨#[]⟩, ⟨#[]⟩, 0) : ByteArray × ByteArray × Int)).1), sV ((l.getD k ((⟨#[]⟩, ⟨#[]⟩, 0) : ByteArray × ByteArray × Int)).2.1), iV ((l.getD k ((⟨#[]⟩, ⟨#[]⟩, 0) : ByteArray × ByteArray × Int)).2.2)] 50), (3, 10, fun g => rowR 50 3 (g 10) (a + 1) (((G2.take a) ++ [(l.getD k ((⟨#[]⟩, ⟨#[]⟩, 0) : ByteArray × ByteArray × Int))]).flatMap it3)), (3, 14, fun g => rowR 50 3 (g 14) (a + 1 + (G2.length - a)) ((((G2.take a) ++ [(l.getD k ((⟨#[]⟩, ⟨#[]⟩, 0) : ByteArray × ByteArray × Int))]) ++ (G2.drop a)).flatMap it3))] [fun g => .slice (some ⟨(slOf (g 0)), 0, none⟩) 0 0, fun g => .slice (some ⟨b17, 0, none⟩) G2.length c5, fun g => iV (a : Int), fun g => .slice (some ⟨b17, 0, none⟩) a c5, fun g => (g 4), fun g => .slice (some ⟨b7, off8, none⟩) l.length lc, fun g => iV (k : Int), fun g => pV b7 (off8 + k * 3), fun g => .agg #[sV ((l.getD k ((⟨#[]⟩, ⟨#[]⟩, 0) : ByteArray × ByteArray × Int)).1), sV ((l.getD k ((⟨#[]⟩, ⟨#[]⟩, 0) : ByteArray × ByteArray × Int)).2.1), iV ((l.getD k ((⟨#[]⟩, ⟨#[]⟩, 0) : ByteArray × ByteArray × Int)).2.2)], fun g => .slice (some ⟨(slOf (g 9)), 0, none⟩) 1 1, fun g => (g 10), fun g => .slice (some ⟨b17, 0, none⟩) G2.length c5, fun g => iV (a : Int), fun g => .slice (if c5 = a then some ⟨b17, 0, none⟩ else Option.map (fun y : Addr => y.add (a * 3)) (some ⟨b17, 0, none⟩)) (G2.length - a) (c5 - a), fun g => (g 14), fun g => (g 14)] (by kernel_rfl) (by kernel_rfl) rfl (⟨⟨⟨trivial, ⟨fun _ _ => rfl, ⟨fun _ _ => rfl, ⟨fun _ _ => rfl, ⟨trivial, ⟨fun _ _ => rfl, ⟨fun _ _ => rfl, ⟨fun _ _ => rfl, ⟨fun _ _ => rfl, ⟨fun _ _ => rfl, ⟨trivial, ⟨fun _ _ => rfl, ⟨fun _ _ => rfl, ⟨fun _ _ => rfl, ⟨trivial, ⟨trivial, trivial⟩⟩⟩⟩⟩⟩⟩⟩⟩⟩⟩⟩⟩⟩⟩⟩, ⟨trivial, ⟨trivial, ⟨fun _ _ => rfl, ⟨trivial, ⟨trivial, trivial⟩⟩⟩⟩⟩⟩, ⟨⟨⟨fun _ _ => rfl, ⟨fun _ _ => rfl, ⟨fun _ _ => rfl, ⟨fun _ _ => rfl, ⟨trivial, ⟨fun _ _ => rfl, ⟨fun _ _ => rfl, ⟨fun _ _ => rfl, ⟨fun _ _ => rfl, ⟨fun _ _ => rfl, ⟨trivial, ⟨fun _ _ => rfl, ⟨fun _ _ => rfl, ⟨fun _ _ => rfl, ⟨trivial, ⟨trivial, trivial⟩⟩⟩⟩⟩⟩⟩⟩⟩⟩⟩⟩⟩⟩⟩⟩, ⟨fun _ _ => rfl, ⟨trivial, ⟨fun _ _ => rfl, ⟨trivial, ⟨trivial, trivial⟩⟩⟩⟩⟩⟩, ⟨⟨⟨fun _ _ => rfl, ⟨fun _ _ => rfl, ⟨fun _ _ => rfl, ⟨fun _ _ => rfl, ⟨fun _ _ => rfl, ⟨fun _ _ => rfl, ⟨fun _ _ => rfl, ⟨fun _ _ => rfl, ⟨fun _ _ => rfl, ⟨trivial, ⟨trivial, ⟨fun _ _ => rfl, ⟨fun _ _ => rfl, ⟨fun _ _ => rfl, ⟨trivial, ⟨trivial, trivial⟩⟩⟩⟩⟩⟩⟩⟩⟩⟩⟩⟩⟩⟩⟩⟩, ⟨fun _ _ => rfl, ⟨fun _ _ => rfl, ⟨trivial, ⟨trivial, ⟨trivial, trivial⟩⟩⟩⟩⟩⟩, ⟨⟨⟨fun _ _ => rfl, ⟨fun _ _ => rfl, ⟨fun _ _ => rfl, ⟨fun _ _ => rfl, ⟨fun _ _ => rfl, ⟨fun _ _ => rfl, ⟨fun _ _ => rfl, ⟨fun _ _ => rfl, ⟨fun _ _ => rfl, ⟨fun _ _ => rfl, ⟨trivial, ⟨fun _ _ => rfl, ⟨fun _ _ => rfl, ⟨fun _ _ => rfl, ⟨trivial, ⟨trivial, trivial⟩⟩⟩⟩⟩⟩⟩⟩⟩⟩⟩⟩⟩⟩⟩⟩, ⟨fun _ _ => rfl, ⟨fun _ _ => rfl, ⟨fun _ _ => rfl, ⟨trivial, ⟨trivial, trivial⟩⟩⟩⟩⟩⟩, ⟨⟨⟨fun _ _ => rfl, ⟨fun _ _ => rfl, ⟨fun _ _ => rfl, ⟨fun _ _ => rfl, ⟨fun _ _ => rfl, ⟨fun _ _ => rfl, ⟨fun _ _ => rfl, ⟨fun _ _ => rfl, ⟨fun _ _ => rfl, ⟨fun _ _ => rfl, ⟨fun _ _ => rfl, ⟨fun _ _ => rfl, ⟨fun _ _ => rfl, ⟨fun _ _ => rfl, ⟨trivial, ⟨trivial, trivial⟩⟩⟩⟩⟩⟩⟩⟩⟩⟩⟩⟩⟩⟩⟩⟩, ⟨fun _ _ => rfl, ⟨fun _ _ => rfl, ⟨fun _ _ => rfl, ⟨fun _ _ => rfl, ⟨trivial, trivial⟩⟩⟩⟩⟩⟩, trivial⟩⟩⟩⟩⟩) ?_ ?_
          · exact ⟨ob_d (ι := Nat) (l := fun g => []) (L := fun g y => [rowR 50 3 (.slice (some ⟨y, 0, none⟩) 0 0) 0 (([] : List It).flatMap it3)]) (fun y => .slice (some ⟨y, 0, none⟩) 0 0) (fun g => o_lit0 (size := 3) Tryd.underlying47 (by kernel_rfl)) (fun g => by kernel_rfl) (fun g y _ => ⟨trivial, by kernel_rfl, by kernel_rfl⟩), ob_val fun g w => by kernel_rfl, ob_val fun g w => by kernel_rfl, ob_v (v := fun g => .slice (some ⟨b17, 0, none⟩) a c5) (fun g => o_cutTo (kd := .i64) (q := (a : Int)) (h := a) (n := G2.length) (size := 3) (by kernel_rfl) (by kernel_rfl) (by rfl) (by omega) Tryd.underlying47 (by kernel_rfl)) (fun g => by kernel_rfl), ob_d (ι := Value) (l := fun g => [rowR 50 3 (.slice (some ⟨(slOf (g 0)), 0, none⟩) 0 0) 0 (([] : List It).flatMap it3), rowR 50 3 (.slice (some ⟨b17, 0, none⟩) G2.length c5) G2.length (G2.flatMap it3)]) (L := fun g y => [rowR 50 3 y a ((G2.take a).flatMap it3), rowR 50 3 (.slice (some ⟨b17, 0, none⟩) G2.length c5) G2.length (G2.flatMap it3)]) (id) (fun g => o_pushAll (n' := a) (xs' := (G2.take a).flatMap it3) (m := a) (news := (G2.take a).flatMap it3) (by kernel_rfl) (by kernel_rfl) (fun w S h => ⟨S, vw_take (f := it3) h (fun _ => rfl) (by omega)⟩) sl_it15 (by decide) (recs_one (f := it3) (fun _ => rfl) _) (by unfold maxLen; omega) (by omega) (by omega) (by first | rfl | (simp only [List.flatMap_append]; done) | (simp only [List.flatMap_append]; rfl))) (fun g => by kernel_rfl) (fun g y _ => ⟨trivial, by kernel_rfl, by kernel_rfl⟩), ob_val fun g w => by kernel_rfl, ob_val fun g w => by kernel_rfl, ob_v (v := fun g => pV b7 (off8 + k * 3)) (fun g => o_idx (b := b7) (cap := lc) (e := 50) (off := off8) (n := l.length) (kd := .i64) (q := (k : Int)) (i := k) (size := 3) (j := off8 + k * 3) (by kernel_rfl) (by kernel_rfl) (by rfl) (by omega) Tryd.underlying47 (by kernel_rfl) (by omega)) (fun g => by kernel_rfl), ob_s (l := fun g => [vewR 3 (.slice (some ⟨b7, off8, none⟩) l.length lc) l.length (l.flatMap it3)]) (l' := fun g => [vewR 3 (.slice (some ⟨b7, off8, none⟩) l.length lc) l.length (l.flatMap it3)]) (v := fun g => .agg #[sV ((l.getD k ((⟨#[]⟩, ⟨#[]⟩, 0) : ByteArray × ByteArray × Int)).1), sV ((l.getD k ((⟨#[]⟩, ⟨#[]⟩, 0) : ByteArray × ByteArray × Int)).2.1), iV ((l.getD k ((⟨#[]⟩, ⟨#[]⟩, 0) : ByteArray × ByteArray × Int)).2.2)]) (fun g => o_loadViewN (off := off8) (j := k * 3) [sV ((l.getD k ((⟨#[]⟩, ⟨#[]⟩, 0) : ByteArray × ByteArray × Int)).1), sV ((l.getD k ((⟨#[]⟩, ⟨#[]⟩, 0) : ByteArray × ByteArray × Int)).2.1), iV ((l.getD k ((⟨#[]⟩, ⟨#[]⟩, 0) : ByteArray × ByteArray × Int)).2.2)] (by kernel_rfl) (by omega) (by kernel_rfl) (rec_gets (f := it3) (k := 3) (z := ((⟨#[]⟩, ⟨#[]⟩, 0) : ByteArray × ByteArray × Int)) (l := l) (i := k) (o := 0) (fun _ => rfl) (by omega) (Nat.le_of_ble_eq_true rfl) rfl)) (fun g => by kernel_rfl), ob_d (ι := Nat) (l := fun g => []) (L := fun g y => [blkR y [sV ((l.getD k ((⟨#[]⟩, ⟨#[]⟩, 0) : ByteArray × ByteArray × Int)).1), sV ((l.getD k ((⟨#[]⟩, ⟨#[]⟩, 0) : ByteArray × ByteArray × Int)).2.1), iV ((l.getD k ((⟨#[]⟩, ⟨#[]⟩, 0) : ByteArray × ByteArray × Int)).2.2)] 50]) (fun y => .slice (some ⟨y, 0, none⟩) 1 1) (fun g => o_lit (sz := 3) (.agg #[sV ⟨#[]⟩, sV ⟨#[]⟩, iV 0]) [sV ((l.getD k ((⟨#[]⟩, ⟨#[]⟩, 0) : ByteArray × ByteArray × Int)).1), sV ((l.getD k ((⟨#[]⟩, ⟨#[]⟩, 0) : ByteArray × ByteArray × Int)).2.1), iV ((l.getD k ((⟨#[]⟩, ⟨#[]⟩, 0) : ByteArray × ByteArray × Int)).2.2)] Tryd.underlying47 (by kernel_rfl) (by kernel_rfl) (by kernel_rfl) (by kernel_rfl) (by kernel_rfl)) (fun g => by kernel_rfl) (fun g y _ => ⟨trivial, by kernel_rfl, by kernel_rfl⟩), ob_d (ι := Value) (l := fun g => [rowR 50 3 (g 4) a ((G2.take a).flatMap it3), blkR (slOf (g 9)) [sV ((l.getD k ((⟨#[]⟩, ⟨#[]⟩, 0) : ByteArray × ByteArray × Int)).1), sV ((l.getD k ((⟨#[]⟩, ⟨#[]⟩, 0) : ByteArray × ByteArray × Int)).2.1), iV ((l.getD k ((⟨#[]⟩, ⟨#[]⟩, 0) : ByteArray × ByteArray × Int)).2.2)] 50]) (L := fun g y => [rowR 50 3 y (a + 1) (((G2.take a) ++ [(l.getD k ((⟨#[]⟩, ⟨#[]⟩, 0) : ByteArray × ByteArray × Int))]).flatMap it3), blkR (slOf (g 9)) [sV ((l.getD k ((⟨#[]⟩, ⟨#[]⟩, 0) : ByteArray × ByteArray × Int)).1), sV ((l.getD k ((⟨#[]⟩, ⟨#[]⟩, 0) : ByteArray × ByteArray × Int)).2.1), iV ((l.getD k ((⟨#[]⟩, ⟨#[]⟩, 0) : ByteArray × ByteArray × Int)).2.2)] 50]) (id) (fun g => o_push (n' := a + 1) (xs' := ((G2.take a) ++ [(l.getD k ((⟨#[]⟩, ⟨#[]⟩, 0) : ByteArray × ByteArray × Int))]).flatMap it3) (by kernel_rfl) (by kernel_rfl) sl_it15 (by decide) rfl (by kernel_rfl) (by unfold maxLen; first | omega | (simp only [List.length_nil]; omega)) (by first | omega | (simp only [List.length_nil]; omega)) (by simp) (by rw [List.flatMap_append]; rfl)) (fun g => by kernel_rfl) (fun g y _ => ⟨trivial, by kernel_rfl, by kernel_rfl⟩), ob_val fun g w => by kernel_rfl, ob_val fun g w => by kernel_rfl, ob_v (v := fun g => .slice (if c5 = a then some ⟨b17, 0, none⟩ else Option.map (fun y : Addr => y.add (a * 3)) (some ⟨b17, 0, none⟩)) (G2.length - a) (c5 - a)) (fun g => o_cutFromK (size := 3) (kd := .i64) (q := (a : Int)) (l := a) (n := G2.length) (cap := c5) (a := some ⟨b17, 0, none⟩) (by kernel_rfl) (by kernel_rfl) (by rfl) (by omega) (by omega) Tryd.underlying47 (by kernel_rfl)) (fun g => by kernel_rfl), ob_d (ι := Value) (l := fun g => [rowR 50 3 (g 10) (a + 1) (((G2.take a) ++ [(l.getD k ((⟨#[]⟩, ⟨#[]⟩, 0) : ByteArray × ByteArray × Int))]).flatMap it3), rowR 50 3 (.slice (some ⟨b17, 0, none⟩) G2.length c5) G2.length (G2.flatMap it3)]) (L := fun g y => [rowR 50 3 y (a + 1 + (G2.length - a)) ((((G2.take a) ++ [(l.getD k ((⟨#[]⟩, ⟨#[]⟩, 0) : ByteArray × ByteArray × Int))]) ++ (G2.drop a)).flatMap it3), rowR 50 3 (.slice (some ⟨b17, 0, none⟩) G2.length c5) G2.length (G2.flatMap it3)]) (id) (fun g => o_pushAll (n' := a + 1 + (G2.length - a)) (xs' := (((G2.take a) ++ [(l.getD k ((⟨#[]⟩, ⟨#[]⟩, 0) : ByteArray × ByteArray × Int))]) ++ (G2.drop a)).flatMap it3) (m := G2.length - a) (news := (G2.drop a).flatMap it3) (by kernel_rfl) (by kernel_rfl) (fun w S h => ⟨S, vw_drop (f := it3) h (fun _ => rfl) (by omega)⟩) sl_it15 (by decide) (recs_one (f := it3) (fun _ => rfl) _) (by unfold maxLen; omega) (by omega) (by omega) (by first | rfl | (simp only [List.flatMap_append]; done) | (simp only [List.flatMap_append]; rfl))) (fun g => by kernel_rfl) (fun g y _ => ⟨trivial, by kernel_rfl, by kernel_rfl⟩), ob_val fun g w => by kernel_rfl, trivial⟩
          intro g
          refine Ex'.sub (subB_spec [0, 1, 4, 5, 8, 6, 7]) ?_
          refine Ex'.as [0, 1, 2, 3, 12] (σ' := [(0, .slice (some ⟨b7, off8, none⟩) l.length lc), (1, iV n), (4, .slice none 0 0), (5, .slice none 0 0), (8, iV (k : Int)), (6, .slice a2 S2.length c3), (7, (g 14))]) (Γ' := [vewR 3 (.slice (some ⟨b7, off8, none⟩) l.length lc) l.length (l.flatMap it3), rowR 50 3 (.slice a2 S2.length c3) S2.length (S2.flatMap it3), rowR 50 3 (.slice (some ⟨b17, 0, none⟩) G2.length c5) G2.length (G2.flatMap it3), rowR 50 3 (g 14) (a + 1 + (G2.length - a)) ((((G2.take a) ++ [(l.getD k ((⟨#[]⟩, ⟨#[]⟩, 0) : ByteArray × ByteArray × Int))]) ++ (G2.drop a)).flatMap it3), blkR (slOf (g 9)) [sV ((l.getD k ((⟨#[]⟩, ⟨#[]⟩, 0) : ByteArray × ByteArray × Int)).1), sV ((l.getD k ((⟨#[]⟩, ⟨#[]⟩, 0) : ByteArray × ByteArray × Int)).2.1), iV ((l.getD k ((⟨#[]⟩, ⟨#[]⟩, 0) : ByteArray × ByteArray × Int)).2.2)] 50]) (by kernel_rfl) rfl (by kernel_rfl) (by kernel_rfl) ?_
          generalize slOf (g 0) = b24
          generalize g 4 = v25
          generalize slOf (g 9) = b26
          generalize g 10 = v27
          generalize g 14 = v28
          refine Ex'.fact (i := 3) (R := rowR 50 3 v28 (a + 1 + (G2.length - a)) ((((G2.take a) ++ [(l.getD k ((⟨#[]⟩, ⟨#[]⟩, 0) : ByteArray × ByteArray × Int))]) ++ (G2.drop a)).flatMap it3)) (by kernel_rfl) row_slice ?_; rintro ⟨a29, c30, rfl, hc30, hc30'⟩
          have hc30'' : c30 ≤ 9223372036854775807 := hc30'
          refine Ex'.blockNormal ?_
          refine Ex'.next ?_
          refine Cd.region rfl ?_
          refine Sq.vals [0] (rest := [1, 2]) [iV (k : Int)] (fun w => by kernel_rfl) ?_
          refine Sq.v (r := iV ((k + 1 : Nat) : Int)) (o_add (k := .i64) (a := (k : Int)) (b := 1) (c := ((k + 1 : Nat) : Int)) (by kernel_rfl) (by kernel_rfl) (w64 (by omega) (by omega))) rfl (by kernel_rfl) ?_
          refine Sq.vals [2] (rest := []) [iV ((k + 1 : Nat) : Int)] (fun w => by kernel_rfl) ?_
          refine Sq.done ?_
          refine Ex'.round (g := (k, .slice a2 S2.length c3, S2, .slice (some ⟨b17, 0, none⟩) G2.length c5, G2)) (k + 1, .slice a2 S2.length c3, S2, .slice a29 (a + 1 + (G2.length - a)) c30, ((G2.take a) ++ [(l.getD k ((⟨#[]⟩, ⟨#[]⟩, 0) : ByteArray × ByteArray × Int))]) ++ (G2.drop a)) ?_ ?_ (subB_eq (l := [0, 1, 4, 5, 8, 6, 7]) (by kernel_rfl)) (fun w hw => (hw.conv 3 (R := rowR 50 3 (.slice a29 (a + 1 + (G2.length - a)) c30) (a + 1 + (G2.length - a)) ((((G2.take a) ++ [(l.getD k ((⟨#[]⟩, ⟨#[]⟩, 0) : ByteArray × ByteArray × Int))]) ++ (G2.drop a)).flatMap it3)) (R' := rowR 50 3 (.slice a29 (a + 1 + (G2.length - a)) c30) (((G2.take a) ++ [(l.getD k ((⟨#[]⟩, ⟨#[]⟩, 0) : ByteArray × ByteArray × Int))]) ++ (G2.drop a)).length ((((G2.take a) ++ [(l.getD k ((⟨#[]⟩, ⟨#[]⟩, 0) : ByteArray × ByteArray × Int))]) ++ (G2.drop a)).flatMap it3)) (by kernel_rfl) (row_len (by first | rfl | omega | (simp only [List.length_take, List.length_drop, List.length_append, List.length_cons, List.length_nil]; omega) | (simp; done) | (simp; omega)))).pickB [0, 1, 3] (by kernel_rfl) (by kernel_rfl) (by kernel_rfl))
          · (try dsimp only); exact ⟨by omega, by rw [(over15_step (by omega) (Classical.not_not.1 h9)).1, hs2], by rw [(over15_step (by omega) (Classical.not_not.1 h9)).2, ← hg2, ← hin]⟩
          · omega
      ·
        have hin := ins15_at ordD (x := (l.getD k ((⟨#[]⟩, ⟨#[]⟩, 0) : ByteArray × ByteArray × Int))) hgs ha hdr (fun q => absurd q (by omega))
        refine Cd.plan [0, 1, 3, 7, 7, 23, 63, 127, 255, 7, 7, 1543, 3591, 7687, 16383, 32767] [] [] [] [] [fun g => iV (a : Int), fun g => bV false, fun g => bV false, fun g => undef, fun g => undef, fun g => undef, fun g => undef, fun g => undef, fun g => undef, fun g => undef, fun g => undef, fun g => undef, fun g => undef, fun g => undef, fun g => undef, fun g => bV false] (by kernel_rfl) (by kernel_rfl) rfl (trivial) ?_ ?_
        · exact ⟨ob_val fun g w => by kernel_rfl, ob_v (v := fun g => bV false) (fun g => OprV.re (pureV (v := bV (decide ((a : Int) > 0))) (by kernel_rfl) rfl fun w => by kernel_rfl) (vF h16)) (fun g => by kernel_rfl), ob_val fun g w => by kernel_rfl, ob_val fun g w => by kernel_rfl, ob_val fun g w => by kernel_rfl, ob_val fun g w => by kernel_rfl, ob_val fun g w => by kernel_rfl, ob_val fun g w => by kernel_rfl, ob_val fun g w => by kernel_rfl, ob_val fun g w => by kernel_rfl, ob_val fun g w => by kernel_rfl, ob_val fun g w => by kernel_rfl, ob_val fun g w => by kernel_rfl, ob_val fun g w => by kernel_rfl, ob_val fun g w => by kernel_rfl, ob_val fun g w => by kernel_rfl, trivial⟩
        intro g
        refine Ex'.sub (subB_spec [0, 1, 4, 5, 8, 6, 7, 9, 49]) ?_
        refine Ex'.as [0, 1, 2] (σ' := [(0, .slice (some ⟨b7, off8, none⟩) l.length lc), (1, iV n), (4, .slice none 0 0), (5, .slice none 0 0), (8, iV (k : Int)), (6, .slice a2 S2.length c3), (7, .slice a4 G2.length c5), (9, iV (a : Int)), (49, bV false)]) (Γ' := [vewR 3 (.slice (some ⟨b7, off8, none⟩) l.length lc) l.length (l.flatMap it3), rowR 50 3 (.slice a2 S2.length c3) S2.length (S2.flatMap it3), rowR 50 3 (.slice a4 G2.length c5) G2.length (G2.flatMap it3)]) (by kernel_rfl) rfl (by kernel_rfl) (by kernel_rfl) ?_
        refine Ex'.next ?_
        refine Cd.condF (by kernel_rfl) ?_
        refine Cd.exit ?_
        refine Ex'.thenExit ?_
        refine Ex'.thenExit ?_
        refine Ex'.blockHit ?_
        refine Ex'.next ?_
        refine Cd.plan [0, 0, 0, 6, 15, 0, 0, 96, 224, 480, 1023, 0, 0, 6144, 16383, 32767] [(4, [(3, true, 1), (2, false, 0)]), (8, [(0, false, 0)]), (10, [(3, true, 5), (12, false, 10)]), (14, [(3, true, 11), (2, false, 0)])] [0, 9] [(0, fun _ => True), (4, fun _ => True), (9, fun _ => True), (10, fun _ => True), (14, fun _ => True)] [(3, 0, fun g => rowR 50 3 (.slice (some ⟨(slOf (g 0)), 0, none⟩) 0 0) 0 (([] : List It).flatMap it3)), (3, 4, fun g => rowR 50 3 (g 4) a ((G2.take a).flatMap it3)), (12, 9, fun g => blkR (slOf (g 9)) [sV ((l.getD k ((⟨#[]⟩, ⟨#[]⟩, 0) : ByteArray × ByteArray × Int)).1), sV ((l.getD k ((⟨#[]⟩, ⟨#[]⟩, 0) : ByteArray × ByteArray × Int)).2.1), iV ((l.getD k ((⟨#[]⟩, ⟨#[]⟩, 0) : ByteArray × ByteArray × Int)).2.2)] 50), (3, 10, fun g => rowR 50 3 (g 10) (a + 1) (((G2.take a) ++ [(l.getD k ((⟨#[]⟩, ⟨#[]⟩, 0) : ByteArray × ByteArray × Int))]).flatMap it3)), (3, 14, fun g => rowR 50 3 (g 14) (a + 1 + (G2.length - a)) ((((G2.take a) ++ [(l.getD k ((⟨#[]⟩, ⟨#[]⟩, 0) : ByteArray × ByteArray × Int))]) ++ (G2.drop a)).flatMap it3))] [fun g => .slice (some ⟨(slOf (g 0)), 0, none⟩) 0 0, fun g => .slice a4 G2.length c5, fun g => iV (a : Int), fun g => .slice a4 a c5, fun g => (g 4), fun g => .slice (some ⟨b7, off8, none⟩) l.length lc, fun g => iV (k : Int), fun g => pV b7 (off8 + k * 3), fun g => .agg #[sV ((l.getD k ((⟨#[]⟩, ⟨#[]⟩, 0) : ByteArray × ByteArray × Int)).1), sV ((l.getD k ((⟨#[]⟩, ⟨#[]⟩, 0) : ByteArray × ByteArray × Int)).2.1), iV ((l.getD k ((⟨#[]⟩, ⟨#[]⟩, 0) : ByteArray × ByteArray × Int)).2.2)], fun g => .slice (some ⟨(slOf (g 9)), 0, none⟩) 1 1, fun g => (g 10), fun g => .slice a4 G2.length c5, fun g => iV (a : Int), fun g => .slice (if c5 = a then a4 else Option.map (fun y : Addr => y.add (a * 3)) a4) (G2.length - a) (c5 - a), fun g => (g 14), fun g => (g 14)] (by kernel_rfl) (by kernel_rfl) rfl (⟨⟨⟨trivial, ⟨fun _ _ => rfl, ⟨fun _ _ => rfl, ⟨fun _ _ => rfl, ⟨trivial, ⟨fun _ _ => rfl, ⟨fun _ _ => rfl, ⟨fun _ _ => rfl, ⟨fun _ _ => rfl, ⟨fun _ _ => rfl, ⟨trivial, ⟨fun _ _ => rfl, ⟨fun _ _ => rfl, ⟨fun _ _ => rfl, ⟨trivial, ⟨trivial, trivial⟩⟩⟩⟩⟩⟩⟩⟩⟩⟩⟩⟩⟩⟩⟩⟩, ⟨trivial, ⟨trivial, ⟨fun _ _ => rfl, ⟨trivial, ⟨trivial, trivial⟩⟩⟩⟩⟩⟩, ⟨⟨⟨fun _ _ => rfl, ⟨fun _ _ => rfl, ⟨fun _ _ => rfl, ⟨fun _ _ => rfl, ⟨trivial, ⟨fun _ _ => rfl, ⟨fun _ _ => rfl, ⟨fun _ _ => rfl, ⟨fun _ _ => rfl, ⟨fun _ _ => rfl, ⟨trivial, ⟨fun _ _ => rfl, ⟨fun _ _ => rfl, ⟨fun _ _ => rfl, ⟨trivial, ⟨trivial, trivial⟩⟩⟩⟩⟩⟩⟩⟩⟩⟩⟩⟩⟩⟩⟩⟩, ⟨fun _ _ => rfl, ⟨trivial, ⟨fun _ _ => rfl, ⟨trivial, ⟨trivial, trivial⟩⟩⟩⟩⟩⟩, ⟨⟨⟨fun _ _ => rfl, ⟨fun _ _ => rfl, ⟨fun _ _ => rfl, ⟨fun _ _ => rfl, ⟨fun _ _ => rfl, ⟨fun _ _ => rfl, ⟨fun _ _ => rfl, ⟨fun _ _ => rfl, ⟨fun _ _ => rfl, ⟨trivial, ⟨trivial, ⟨fun _ _ => rfl, ⟨fun _ _ => rfl, ⟨fun _ _ => rfl, ⟨trivial, ⟨trivial, trivial⟩⟩⟩⟩⟩⟩⟩⟩⟩⟩⟩⟩⟩⟩⟩⟩, ⟨fun _ _ => rfl, ⟨fun _ _ => rfl, ⟨trivial, ⟨trivial, ⟨trivial, trivial⟩⟩⟩⟩⟩⟩, ⟨⟨⟨fun _ _ => rfl, ⟨fun _ _ => rfl, ⟨fun _ _ => rfl, ⟨fun _ _ => rfl, ⟨fun _ _ => rfl, ⟨fun _ _ => rfl, ⟨fun _ _ => rfl, ⟨fun _ _ => rfl, ⟨fun _ _ => rfl, ⟨fun _ _ => rfl, ⟨trivial, ⟨fun _ _ => rfl, ⟨fun _ _ => rfl, ⟨fun _ _ => rfl, ⟨trivial, ⟨trivial, trivial⟩⟩⟩⟩⟩⟩⟩⟩⟩⟩⟩⟩⟩⟩⟩⟩, ⟨fun _ _ => rfl, ⟨fun _ _ => rfl, ⟨fun _ _ => rfl, ⟨trivial, ⟨trivial, trivial⟩⟩⟩⟩⟩⟩, ⟨⟨⟨fun _ _ => rfl, ⟨fun _ _ => rfl, ⟨fun _ _ => rfl, ⟨fun _ _ => rfl, ⟨fun _ _ => rfl, ⟨fun _ _ => rfl, ⟨fun _ _ => rfl, ⟨fun _ _ => rfl, ⟨fun _ _ => rfl, ⟨fun _ _ => rfl, ⟨fun _ _ => rfl, ⟨fun _ _ => rfl, ⟨fun _ _ => rfl, ⟨fun _ _ => rfl, ⟨trivial, ⟨trivial, trivial⟩⟩⟩⟩⟩⟩⟩⟩⟩⟩⟩⟩⟩⟩⟩⟩, ⟨fun _ _ => rfl, ⟨fun _ _ => rfl, ⟨fun _ _ => rfl, ⟨fun _ _ => rfl, ⟨trivial, trivial⟩⟩⟩⟩⟩⟩, trivial⟩⟩⟩⟩⟩) ?_ ?_
        · exact ⟨ob_d (ι := Nat) (l := fun g => []) (L := fun g y => [rowR 50 3 (.slice (some ⟨y, 0, none⟩) 0 0) 0 (([] : List It).flatMap it3)]) (fun y => .slice (some ⟨y, 0, none⟩) 0 0) (fun g => o_lit0 (size := 3) Tryd.underlying47 (by kernel_rfl)) (fun g => by kernel_rfl) (fun g y _ => ⟨trivial, by kernel_rfl, by kernel_rfl⟩), ob_val fun g w => by kernel_rfl, ob_val fun g w => by kernel_rfl, ob_v (v := fun g => .slice a4 a c5) (fun g => o_cutToA (a := a4) (kd := .i64) (q := (a : Int)) (h := a) (n := G2.length) (cap := c5) (size := 3) (by kernel_rfl) (by kernel_rfl) (by rfl) (by omega) Tryd.underlying47 (by kernel_rfl)) (fun g => by kernel_rfl), ob_d (ι := Value) (l := fun g => [rowR 50 3 (.slice (some ⟨(slOf (g 0)), 0, none⟩) 0 0) 0 (([] : List It).flatMap it3), rowR 50 3 (.slice a4 G2.length c5) G2.length (G2.flatMap it3)]) (L := fun g y => [rowR 50 3 y a ((G2.take a).flatMap it3), rowR 50 3 (.slice a4 G2.length c5) G2.length (G2.flatMap it3)]) (id) (fun g => o_pushAll (n' := a) (xs' := (G2.take a).flatMap it3) (m := a) (news := (G2.take a).flatMap it3) (by kernel_rfl) (by kernel_rfl) (fun w S h => ⟨S, vw_take (f := it3) h (fun _ => rfl) (by omega)⟩) sl_it15 (by decide) (recs_one (f := it3) (fun _ => rfl) _) (by unfold maxLen; omega) (by omega) (by omega) (by first | rfl | (simp only [List.flatMap_append]; done) | (simp only [List.flatMap_append]; rfl))) (fun g => by kernel_rfl) (fun g y _ => ⟨trivial, by kernel_rfl, by kernel_rfl⟩), ob_val fun g w => by kernel_rfl, ob_val fun g w => by kernel_rfl, ob_v (v := fun g => pV b7 (off8 + k * 3)) (fun g => o_idx (b := b7) (cap := lc) (e := 50) (off := off8) (n := l.length) (kd := .i64) (q := (k : Int)) (i := k) (size := 3) (j := off8 + k * 3) (by kernel_rfl) (by kernel_rfl) (by rfl) (by omega) Tryd.underlying47 (by kernel_rfl) (by omega)) (fun g => by kernel_rfl), ob_s (l := fun g => [vewR 3 (.slice (some ⟨b7, off8, none⟩) l.length lc) l.length (l.flatMap it3)]) (l' := fun g => [vewR 3 (.slice (some ⟨b7, off8, none⟩) l.length lc) l.length (l.flatMap it3)]) (v := fun g => .agg #[sV ((l.getD k ((⟨#[]⟩, ⟨#[]⟩, 0) : ByteArray × ByteArray × Int)).1), sV ((l.getD k ((⟨#[]⟩, ⟨#[]⟩, 0) : ByteArray × ByteArray × Int)).2.1), iV ((l.getD k ((⟨#[]⟩, ⟨#[]⟩, 0) : ByteArray × ByteArray × Int)).2.2)]) (fun g => o_loadViewN (off := off8) (j := k * 3) [sV ((l.getD k ((⟨#[]⟩, ⟨#[]⟩, 0) : ByteArray × ByteArray × Int)).1), sV ((l.getD k ((⟨#[]⟩, ⟨#[]⟩, 0) : ByteArray × ByteArray × Int)).2.1), iV ((l.getD k ((⟨#[]⟩, ⟨#[]⟩, 0) : ByteArray × ByteArray × Int)).2.2)] (by kernel_rfl) (by omega) (by kernel_rfl) (rec_gets (f := it3) (k := 3) (z := ((⟨#[]⟩, ⟨#[]⟩, 0) : ByteArray × ByteArray × Int)) (l := l) (i := k) (o := 0) (fun _ => rfl) (by omega) (Nat.le_of_ble_eq_true rfl) rfl)) (fun g => by kernel_rfl), ob_d (ι := Nat) (l := fun g => []) (L := fun g y => [blkR y [sV ((l.getD k ((⟨#[]⟩, ⟨#[]⟩, 0) : ByteArray × ByteArray × Int)).1), sV ((l.getD k ((⟨#[]⟩, ⟨#[]⟩, 0) : ByteArray × ByteArray × Int)).2.1), iV ((l.getD k ((⟨#[]⟩, ⟨#[]⟩, 0) : ByteArray × ByteArray × Int)).2.2)] 50]) (fun y => .slice (some ⟨y, 0, none⟩) 1 1) (fun g => o_lit (sz := 3) (.agg #[sV ⟨#[]⟩, sV ⟨#[]⟩, iV 0]) [sV ((l.getD k ((⟨#[]⟩, ⟨#[]⟩, 0) : ByteArray × ByteArray × Int)).1), sV ((l.getD k ((⟨#[]⟩, ⟨#[]⟩, 0) : ByteArray × ByteArray × Int)).2.1), iV ((l.getD k ((⟨#[]⟩, ⟨#[]⟩, 0) : ByteArray × ByteArray × Int)).2.2)] Tryd.underlying47 (by kernel_rfl) (by kernel_rfl) (by kernel_rfl) (by kernel_rfl) (by kernel_rfl)) (fun g => by kernel_rfl) (fun g y _ => ⟨trivial, by kernel_rfl, by kernel_rfl⟩), ob_d (ι := Value) (l := fun g => [rowR 50 3 (g 4) a ((G2.take a).flatMap it3), blkR (slOf (g 9)) [sV ((l.getD k ((⟨#[]⟩, ⟨#[]⟩, 0) : ByteArray × ByteArray × Int)).1), sV ((l.getD k ((⟨#[]⟩, ⟨#[]⟩, 0) : ByteArray × ByteArray × Int)).2.1), iV ((l.getD k ((⟨#[]⟩, ⟨#[]⟩, 0) : ByteArray × ByteArray × Int)).2.2)] 50]) (L := fun g y => [rowR 50 3 y (a + 1) (((G2.take a) ++ [(l.getD k ((⟨#[]⟩, ⟨#[]⟩, 0) : ByteArray × ByteArray × Int))]).flatMap it3), blkR (slOf (g 9)) [sV ((l.getD k ((⟨#[]⟩, ⟨#[]⟩, 0) : ByteArray × ByteArray × Int)).1), sV ((l.getD k ((⟨#[]⟩, ⟨#[]⟩, 0) : ByteArray × ByteArray × Int)).2.1), iV ((l.getD k ((⟨#[]⟩, ⟨#[]⟩, 0) : ByteArray × ByteArray × Int)).2.2)] 50]) (id) (fun g => o_push (n' := a + 1) (xs' := ((G2.take a) ++ [(l.getD k ((⟨#[]⟩, ⟨#[]⟩, 0) : ByteArray × ByteArray × Int))]).flatMap it3) (by kernel_rfl) (by kernel_rfl) sl_it15 (by decide) rfl (by kernel_rfl) (by unfold maxLen; first | omega | (simp only [List.length_nil]; omega)) (by first | omega | (simp only [List.length_nil]; omega)) (by simp) (by rw [List.flatMap_append]; rfl)) (fun g => by kernel_rfl) (fun g y _ => ⟨trivial, by kernel_rfl, by kernel_rfl⟩), ob_val fun g w => by kernel_rfl, ob_val fun g w => by kernel_rfl, ob_v (v := fun g => .slice (if c5 = a then a4 else Option.map (fun y : Addr => y.add (a * 3)) a4) (G2.length - a) (c5 - a)) (fun g => o_cutFromK (size := 3) (kd := .i64) (q := (a : Int)) (l := a) (n := G2.length) (cap := c5) (a := a4) (by kernel_rfl) (by kernel_rfl) (by rfl) (by omega) (by omega) Tryd.underlying47 (by kernel_rfl)) (fun g => by kernel_rfl), ob_d (ι := Value) (l := fun g => [rowR 50 3 (g 10) (a + 1) (((G2.take a) ++ [(l.getD k ((⟨#[]⟩, ⟨#[]⟩, 0) : ByteArray × ByteArray × Int))]).flatMap it3), rowR 50 3 (.slice a4 G2.length c5) G2.length (G2.flatMap it3)]) (L := fun g y => [rowR 50 3 y (a + 1 + (G2.length - a)) ((((G2.take a) ++ [(l.getD k ((⟨#[]⟩, ⟨#[]⟩, 0) : ByteArray × ByteArray × Int))]) ++ (G2.drop a)).flatMap it3), rowR 50 3 (.slice a4 G2.length c5) G2.length (G2.flatMap it3)]) (id) (fun g => o_pushAll (n' := a + 1 + (G2.length - a)) (xs' := (((G2.take a) ++ [(l.getD k ((⟨#[]⟩, ⟨#[]⟩, 0) : ByteArray × ByteArray × Int))]) ++ (G2.drop a)).flatMap it3) (m := G2.length - a) (news := (G2.drop a).flatMap it3) (by kernel_rfl) (by kernel_rfl) (fun w S h => ⟨S, vw_drop (f := it3) h (fun _ => rfl) (by omega)⟩) sl_it15 (by decide) (recs_one (f := it3) (fun _ => rfl) _) (by unfold maxLen; omega) (by omega) (by omega) (by first | rfl | (simp only [List.flatMap_append]; done) | (simp only [List.flatMap_append]; rfl))) (fun g => by kernel_rfl) (fun g y _ => ⟨trivial, by kernel_rfl, by kernel_rfl⟩), ob_val fun g w => by kernel_rfl, trivial⟩
        intro g
        refine Ex'.sub (subB_spec [0, 1, 4, 5, 8, 6, 7]) ?_
        refine Ex'.as [0, 1, 2, 3, 12] (σ' := [(0, .slice (some ⟨b7, off8, none⟩) l.length lc), (1, iV n), (4, .slice none 0 0), (5, .slice none 0 0), (8, iV (k : Int)), (6, .slice a2 S2.length c3), (7, (g 14))]) (Γ' := [vewR 3 (.slice (some ⟨b7, off8, none⟩) l.length lc) l.length (l.flatMap it3), rowR 50 3 (.slice a2 S2.length c3) S2.length (S2.flatMap it3), rowR 50 3 (.slice a4 G2.length c5) G2.length (G2.flatMap it3), rowR 50 3 (g 14) (a + 1 + (G2.length - a)) ((((G2.take a) ++ [(l.getD k ((⟨#[]⟩, ⟨#[]⟩, 0) : ByteArray × ByteArray × Int))]) ++ (G2.drop a)).flatMap it3), blkR (slOf (g 9)) [sV ((l.getD k ((⟨#[]⟩, ⟨#[]⟩, 0) : ByteArray × ByteArray × Int)).1), sV ((l.getD k ((⟨#[]⟩, ⟨#[]⟩, 0) : ByteArray × ByteArray × Int)).2.1), iV ((l.getD k ((⟨#[]⟩, ⟨#[]⟩, 0) : ByteArray × ByteArray × Int)).2.2)] 50]) (by kernel_rfl) rfl (by kernel_rfl) (by kernel_rfl) ?_
        generalize slOf (g 0) = b36
        generalize g 4 = v37
        generalize slOf (g 9) = b38
        generalize g 10 = v39
        generalize g 14 = v40
        refine Ex'.fact (i := 3) (R := rowR 50 3 v40 (a + 1 + (G2.length - a)) ((((G2.take a) ++ [(l.getD k ((⟨#[]⟩, ⟨#[]⟩, 0) : ByteArray × ByteArray × Int))]) ++ (G2.drop a)).flatMap it3)) (by kernel_rfl) row_slice ?_; rintro ⟨a41, c42, rfl, hc42, hc42'⟩
        have hc42'' : c42 ≤ 9223372036854775807 := hc42'
        refine Ex'.blockNormal ?_
        refine Ex'.next ?_
        refine Cd.region rfl ?_
        refine Sq.vals [0] (rest := [1, 2]) [iV (k : Int)] (fun w => by kernel_rfl) ?_
        refine Sq.v (r := iV ((k + 1 : Nat) : Int)) (o_add (k := .i64) (a := (k : Int)) (b := 1) (c := ((k + 1 : Nat) : Int)) (by kernel_rfl) (by kernel_rfl) (w64 (by omega) (by omega))) rfl (by kernel_rfl) ?_
        refine Sq.vals [2] (rest := []) [iV ((k + 1 : Nat) : Int)] (fun w => by kernel_rfl) ?_
        refine Sq.done ?_
        refine Ex'.round (g := (k, .slice a2 S2.length c3, S2, .slice a4 G2.length c5, G2)) (k + 1, .slice a2 S2.length c3, S2, .slice a41 (a + 1 + (G2.length - a)) c42, ((G2.take a) ++ [(l.getD k ((⟨#[]⟩, ⟨#[]⟩, 0) : ByteArray × ByteArray × Int))]) ++ (G2.drop a)) ?_ ?_ (subB_eq (l := [0, 1, 4, 5, 8, 6, 7]) (by kernel_rfl)) (fun w hw => (hw.conv 3 (R := rowR 50 3 (.slice a41 (a + 1 + (G2.length - a)) c42) (a + 1 + (G2.length - a)) ((((G2.take a) ++ [(l.getD k ((⟨#[]⟩, ⟨#[]⟩, 0) : ByteArray × ByteArray × Int))]) ++ (G2.drop a)).flatMap it3)) (R' := rowR 50 3 (.slice a41 (a + 1 + (G2.length - a)) c42) (((G2.take a) ++ [(l.getD k ((⟨#[]⟩, ⟨#[]⟩, 0) : ByteArray × ByteArray × Int))]) ++ (G2.drop a)).length ((((G2.take a) ++ [(l.getD k ((⟨#[]⟩, ⟨#[]⟩, 0) : ByteArray × ByteArray × Int))]) ++ (G2.drop a)).flatMap it3)) (by kernel_rfl) (row_len (by first | rfl | omega | (simp only [List.length_take, List.length_drop, List.length_append, List.length_cons, List.length_nil]; omega) | (simp; done) | (simp; omega)))).pickB [0, 1, 3] (by kernel_rfl) (by kernel_rfl) (by kernel_rfl))
        · (try dsimp only); exact ⟨by omega, by rw [(over15_step (by omega) (Classical.not_not.1 h9)).1, hs2], by rw [(over15_step (by omega) (Classical.not_not.1 h9)).2, ← hg2, ← hin]⟩
        · omega
  ·
    refine Cd.exit ?_
    refine Ex'.thenExit ?_
    refine Ex'.thenExit ?_
    refine Ex'.blockHit ?_
    refine Ex'.next ?_
    refine Cd.seq ?_
    refine Cd.region rfl ?_
    refine Sq.vals [0] (rest := []) [.slice none 0 0] (fun w => by kernel_rfl) ?_
    refine Sq.done ?_
    refine Ex'.next ?_
    refine Cd.seq ?_
    refine Cd.seq ?_
    refine Cd.region rfl ?_
    refine Sq.vals [0] (rest := []) [iV 0] (fun w => by kernel_rfl) ?_
    refine Sq.done ?_
    refine Ex'.next ?_
    refine Cd.block ?_
    refine Cd.nilRow 9 1 ?_
    refine Cd.loop (ι := Nat × Value × (List ByteArray)) (fun ⟨j, kv, kl⟩ => j ≤ G2.length ∧ kl = (G2.take j).map (·.1)) (fun ⟨j, kv, kl⟩ => G2.length - j) (fun ⟨j, kv, kl⟩ => [(4, .slice none 0 0), (5, .slice none 0 0), (6, .slice a2 S2.length c3), (7, .slice a4 G2.length c5), (11, iV (j : Int)), (10, kv)]) (fun ⟨j, kv, kl⟩ => [vewR 3 (.slice la l.length lc) l.length (l.flatMap it3), rowR 50 3 (.slice a2 S2.length c3) S2.length (S2.flatMap it3), rowR 50 3 (.slice a4 G2.length c5) G2.length (G2.flatMap it3), rowR 9 1 kv kl.length (kl.map Value.string)]) (0, .slice none 0 0, ([] : List ByteArray)) (⟨Nat.zero_le _, by simp⟩) (subB_eq (l := [4, 5, 6, 7, 11, 10]) (by kernel_rfl)) (fun w hw => hw.pickB [0, 1, 2, 3] (by kernel_rfl) (by kernel_rfl) (by kernel_rfl)) ?_
    rintro ⟨j, kv, kl⟩ hL43
    try dsimp only at hL43 ⊢
    obtain ⟨hj, hkl⟩ := hL43
    have hkll : kl.length ≤ G2.length := by rw [hkl, List.length_map, List.length_take]; omega
    refine Cd.fact (i := 3) (R := rowR 9 1 kv kl.length (kl.map Value.string)) (by kernel_rfl) row_slice ?_; rintro ⟨a44, c45, rfl, hc45, hc45'⟩
    have hc45'' : c45 ≤ 9223372036854775807 := hc45'
    refine Cd.seq ?_
    refine Cd.seq ?_
    refine Cd.region rfl ?_
    refine Sq.vals [0, 1, 2, 3] (rest := []) [iV (j : Int), .slice a4 G2.length c5, iV (G2.length : Int), bV (decide ((j : Int) < (G2.length : Int)))] (fun w => by kernel_rfl) ?_
    refine Sq.done ?_
    refine Ex'.next ?_
    refine Cd.case (p := (j : Int) < (G2.length : Int)) (by kernel_rfl) (fun h46 => ?_) (fun h46 => ?_)
    ·
      refine Cd.skip ?_
      refine Ex'.next ?_
      refine Cd.seq ?_
      refine Cd.block ?_
      refine Cd.region rfl ?_
      refine Sq.vals [0, 1, 2] (rest := [3, 4, 5, 6, 7, 8]) [.slice a44 kl.length c45, .slice a4 G2.length c5, iV (j : Int)] (fun w => by kernel_rfl) ?_
      refine Sq.fact (i := 2) (R := rowR 50 3 (.slice a4 G2.length c5) G2.length (G2.flatMap it3)) (by kernel_rfl) (row_addr (by omega)) ?_; rintro ⟨b47, rfl⟩
      refine Sq.v (r := pV b47 (j * 3)) (o_idx (b := b47) (cap := c5) (e := 50) (off := 0) (n := G2.length) (kd := .i64) (q := (j : Int)) (i := j) (size := 3) (j := j * 3) (by kernel_rfl) (by kernel_rfl) (by rfl) (by omega) Tryd.underlying47 (by kernel_rfl) (by omega)) rfl (by kernel_rfl) ?_
      refine Sq.vals [4] (rest := [5, 6, 7, 8]) [pV b47 (j * 3)] (fun w => by kernel_rfl) ?_
      refine Sq.same [2] (l := [rowR 50 3 (.slice (some ⟨b47, 0, none⟩) G2.length c5) G2.length (G2.flatMap it3)]) (o_loadRow (i := j * 3) (u := sV ((G2.getD j ((⟨#[]⟩, ⟨#[]⟩, 0) : ByteArray × ByteArray × Int)).1)) (by kernel_rfl) (by omega) (by kernel_rfl) ((rec_get (f := it3) (k := 3) (z := ((⟨#[]⟩, ⟨#[]⟩, 0) : ByteArray × ByteArray × Int)) (l := G2) (i := j) (j := 0) (fun _ => rfl) (by omega) (by decide)).trans rfl)) (by kernel_rfl) rfl (by kernel_rfl) rfl ?_
      refine Sq.ex [] (l := []) (o_lit (sz := 1) (sV ⟨#[]⟩) [sV ((G2.getD j ((⟨#[]⟩, ⟨#[]⟩, 0) : ByteArray × ByteArray × Int)).1)] Tryd.underlying39 (by kernel_rfl) (by kernel_rfl) (by kernel_rfl) (by kernel_rfl) (by kernel_rfl)) (by kernel_rfl) rfl (by kernel_rfl) (fun _ => Nat.zero_le _) ?_; intro b48 _
      refine Sq.ex [3, 4] (l := [rowR 9 1 (.slice a44 kl.length c45) kl.length (kl.map Value.string), blkR b48 [sV ((G2.getD j ((⟨#[]⟩, ⟨#[]⟩, 0) : ByteArray × ByteArray × Int)).1)] 9]) (o_push (n' := (kl ++ [(G2.getD j ((⟨#[]⟩, ⟨#[]⟩, 0) : ByteArray × ByteArray × Int)).1]).length) (xs' := (kl ++ [(G2.getD j ((⟨#[]⟩, ⟨#[]⟩, 0) : ByteArray × ByteArray × Int)).1]).map Value.string) (by kernel_rfl) (by kernel_rfl) sl_str (by decide) rfl (by kernel_rfl) (by unfold maxLen; first | omega | (simp only [List.length_nil]; omega)) (by first | omega | (simp only [List.length_nil]; omega)) (by simp) (by simp)) (by kernel_rfl) rfl (by kernel_rfl) (fun _ => Nat.le_of_ble_eq_true (by kernel_rfl)) ?_; rintro v49 _
      refine Sq.fact (i := 3) (R := rowR 9 1 v49 ((kl ++ [(G2.getD j ((⟨#[]⟩, ⟨#[]⟩, 0) : ByteArray × ByteArray × Int)).1]).length) ((kl ++ [(G2.getD j ((⟨#[]⟩, ⟨#[]⟩, 0) : ByteArray × ByteArray × Int)).1]).map Value.string)) (by kernel_rfl) row_slice ?_; rintro ⟨a50, c51, rfl, hc51, hc51'⟩
      have hc51'' : c51 ≤ 9223372036854775807 := hc51'
      have hlen52 : (kl ++ [(G2.getD j ((⟨#[]⟩, ⟨#[]⟩, 0) : ByteArray × ByteArray × Int)).1]).length = kl.length + 1 := by simp
      refine Sq.fact (i := 3) (R := rowR 9 1 (.slice a50 ((kl ++ [(G2.getD j ((⟨#[]⟩, ⟨#[]⟩, 0) : ByteArray × ByteArray × Int)).1]).length) c51) ((kl ++ [(G2.getD j ((⟨#[]⟩, ⟨#[]⟩, 0) : ByteArray × ByteArray × Int)).1]).length) ((kl ++ [(G2.getD j ((⟨#[]⟩, ⟨#[]⟩, 0) : ByteArray × ByteArray × Int)).1]).map Value.string)) (by kernel_rfl) (row_addr (by simp)) ?_; rintro ⟨b53, rfl⟩
      refine Sq.vals [8] (rest := []) [.slice (some ⟨b53, 0, none⟩) ((kl ++ [(G2.getD j ((⟨#[]⟩, ⟨#[]⟩, 0) : ByteArray × ByteArray × Int)).1]).length) c51] (fun w => by kernel_rfl) ?_
      refine Sq.done ?_
      refine Ex'.blockNormal ?_
      refine Ex'.next ?_
      refine Cd.region rfl ?_
      refine Sq.vals [0] (rest := [1, 2]) [iV (j : Int)] (fun w => by kernel_rfl) ?_
      refine Sq.v (r := iV ((j + 1 : Nat) : Int)) (o_add (k := .i64) (a := (j : Int)) (b := 1) (c := ((j + 1 : Nat) : Int)) (by kernel_rfl) (by kernel_rfl) (w64 (by omega) (by omega))) rfl (by kernel_rfl) ?_
      refine Sq.vals [2] (rest := []) [iV ((j + 1 : Nat) : Int)] (fun w => by kernel_rfl) ?_
      refine Sq.done ?_
      refine Ex'.round (g := (j, .slice a44 kl.length c45, kl)) (j + 1, .slice (some ⟨b53, 0, none⟩) ((kl ++ [(G2.getD j ((⟨#[]⟩, ⟨#[]⟩, 0) : ByteArray × ByteArray × Int)).1]).length) c51, kl ++ [(G2.getD j ((⟨#[]⟩, ⟨#[]⟩, 0) : ByteArray × ByteArray × Int)).1]) ?_ ?_ (subB_eq (l := [4, 5, 6, 7, 11, 10]) (by kernel_rfl)) (fun w hw => hw.pickB [0, 1, 2, 3] (by kernel_rfl) (by kernel_rfl) (by kernel_rfl))
      · (try dsimp only); exact ⟨by omega, by rw [map15_step (by omega), hkl]⟩
      · omega
    ·
      refine Cd.exit ?_
      refine Ex'.thenExit ?_
      refine Ex'.thenExit ?_
      refine Ex'.blockHit ?_
      refine Ex'.next ?_
      refine Cd.seq ?_
      refine Cd.region rfl ?_
      refine Sq.vals [0, 1, 2, 3] (rest := []) [.slice a2 S2.length c3, .slice a44 kl.length c45, .slice a2 S2.length c3, .slice a44 kl.length c45] (fun w => by kernel_rfl) ?_
      refine Sq.done ?_
      refine Ex'.next ?_
      refine Cd.ret ?_
      refine Ex'.ret Tryd.results21 (RVs.tmp (v := .slice a2 S2.length c3) (by kernel_rfl) (RVs.tmp (v := .slice a44 kl.length c45) (by kernel_rfl) (RVs.nil))) (fun w hw => ?_)
      have e : exp15 l n = (S2, kl) := by unfold exp15 gk15; rw [hs2, hkl, hg2, List.take_of_length_le (show l.length ≤ k by omega), List.take_of_length_le (by have := congrArg List.length hg2; rw [List.take_of_length_le (show l.length ≤ k by omega)] at this; omega)]
      rw [e]
      exact ⟨_, ⟨(.slice a2 S2.length c3, .slice a44 kl.length c45), trivial, rfl, rfl⟩, (hw.conv 1 (R := rowR 50 3 (.slice a2 S2.length c3) S2.length (S2.flatMap it3)) (R' := vewR 3 (.slice a2 S2.length c3) S2.length (S2.flatMap it3)) (by kernel_rfl) (vew_of_row)).pickB [0, 1, 3] (by kernel_rfl) (by kernel_rfl) (by kernel_rfl)⟩

theorem t_Expire15_e {la : Option Addr} {lc : Nat} {l : List It} {n : Int} (hbd : l.length ≤ 1000000) : Tri Tryd.prog 21 #[.slice la l.length lc, iV n] [vewR 3 (.slice la l.length lc) l.length (l.flatMap it3)] (PostE (ι := Value × Value) (fun _ => True) (fun v => .tuple #[v.1, v.2]) fun v => [vewR 3 (.slice la l.length lc) l.length (l.flatMap it3), vewR 3 v.1 ((stay15 l n).length) ((stay15 l n).flatMap it3), rowR 9 1 v.2 ((gk15 l n).length) ((gk15 l n).map Value.string)]) := by
  have h9 := t_Expire15 (la := la) (lc := lc) (l := l) (n := n) hbd
  rw [exp15_eq] at h9
  exact h9

def byt15 (l : List It) : Int := sumI l

set_option maxHeartbeats 8000000 in
set_option maxRecDepth 100000 in
theorem t_Bytes15 {la : Option Addr} {lc : Nat} {l : List It} (hbd : l.length ≤ 1000000) (hsm : ∀ y ∈ l, (y.1.size : Int) ≤ 64 ∧ (y.2.1.size : Int) ≤ 256) : Tri Tryd.prog 26 #[.slice la l.length lc] [vewR 3 (.slice la l.length lc) l.length (l.flatMap it3)] (Same [vewR 3 (.slice la l.length lc) l.length (l.flatMap it3)] (iV (byt15 l))) := by
  refine Tri.enter (args := [.slice la l.length lc]) Tryd.func26 rfl rfl rfl (fun B wz => ?_)
  refine Cd.fact (i := 0) rfl vew_cap ?_; intro hcap0
  refine Cd.seq ?_
  refine Cd.region rfl ?_
  refine Sq.vals [0] (rest := []) [iV 0] (fun w => by kernel_rfl) ?_
  refine Sq.done ?_
  refine Ex'.next ?_
  refine Cd.seq ?_
  refine Cd.region rfl ?_
  refine Sq.vals [0] (rest := []) [iV 0] (fun w => by kernel_rfl) ?_
  refine Sq.done ?_
  refine Ex'.next ?_
  refine Cd.seq ?_
  refine Cd.seq ?_
  refine Cd.region rfl ?_
  refine Sq.vals [0] (rest := []) [iV 0] (fun w => by kernel_rfl) ?_
  refine Sq.done ?_
  refine Ex'.next ?_
  refine Cd.block ?_
  refine Cd.loop (ι := Nat × Int) (fun ⟨k, sm⟩ => k ≤ l.length ∧ sm = sumT l k ∧ 0 ≤ sm ∧ sm ≤ 320 * (k : Int)) (fun ⟨k, sm⟩ => l.length - k) (fun ⟨k, sm⟩ => [(0, .slice la l.length lc), (2, iV 0), (4, iV (k : Int)), (3, iV sm)]) (fun ⟨k, sm⟩ => [vewR 3 (.slice la l.length lc) l.length (l.flatMap it3)]) (0, 0) (⟨Nat.zero_le _, rfl, by omega, by omega⟩) (subB_eq (l := [0, 2, 4, 3]) (by kernel_rfl)) (fun w hw => hw.pickB [0] (by kernel_rfl) (by kernel_rfl) (by kernel_rfl)) ?_
  rintro ⟨k, sm⟩ hL1
  try dsimp only at hL1 ⊢
  obtain ⟨hk, hsm2, hsm3, hsm4⟩ := hL1
  refine Cd.seq ?_
  refine Cd.seq ?_
  refine Cd.region rfl ?_
  refine Sq.vals [0, 1, 2, 3] (rest := []) [iV (k : Int), .slice la l.length lc, iV (l.length : Int), bV (decide ((k : Int) < (l.length : Int)))] (fun w => by kernel_rfl) ?_
  refine Sq.done ?_
  refine Ex'.next ?_
  refine Cd.case (p := (k : Int) < (l.length : Int)) (by kernel_rfl) (fun h2 => ?_) (fun h2 => ?_)
  ·
    have hz1 : ((l.getD k ((⟨#[]⟩, ⟨#[]⟩, 0) : ByteArray × ByteArray × Int)).1.size : Int) ≤ 64 := (hsm _ (List.mem_of_getElem? (get15 (by omega)))).1; have hz2 : ((l.getD k ((⟨#[]⟩, ⟨#[]⟩, 0) : ByteArray × ByteArray × Int)).2.1.size : Int) ≤ 256 := (hsm _ (List.mem_of_getElem? (get15 (by omega)))).2
    refine Cd.skip ?_
    refine Ex'.next ?_
    refine Cd.seq ?_
    refine Cd.block ?_
    refine Cd.fact (i := 0) (R := vewR 3 (.slice la l.length lc) l.length (l.flatMap it3)) (by kernel_rfl) (vew_addr (by omega)) ?_; rintro ⟨b3, off4, rfl⟩
    refine Cd.plan [0, 0, 0, 6, 14, 30, 62, 127, 0, 0, 768, 1792, 3840, 7936, 16383, 32767] [(5, [(0, false, 0)]), (12, [(0, false, 0)])] [] [] [] [fun g => iV sm, fun g => .slice (some ⟨b3, off4, none⟩) l.length lc, fun g => iV (k : Int), fun g => pV b3 (off4 + k * 3), fun g => pV b3 (off4 + k * 3), fun g => sV ((l.getD k ((⟨#[]⟩, ⟨#[]⟩, 0) : ByteArray × ByteArray × Int)).1), fun g => iV (((l.getD k ((⟨#[]⟩, ⟨#[]⟩, 0) : ByteArray × ByteArray × Int)).1).size : Int), fun g => iV (sm + (((l.getD k ((⟨#[]⟩, ⟨#[]⟩, 0) : ByteArray × ByteArray × Int)).1).size : Int)), fun g => .slice (some ⟨b3, off4, none⟩) l.length lc, fun g => iV (k : Int), fun g => pV b3 (off4 + k * 3), fun g => pV b3 (off4 + k * 3 + 1), fun g => sV ((l.getD k ((⟨#[]⟩, ⟨#[]⟩, 0) : ByteArray × ByteArray × Int)).2.1), fun g => iV (((l.getD k ((⟨#[]⟩, ⟨#[]⟩, 0) : ByteArray × ByteArray × Int)).2.1).size : Int), fun g => iV (sm + (((l.getD k ((⟨#[]⟩, ⟨#[]⟩, 0) : ByteArray × ByteArray × Int)).1).size : Int) + (((l.getD k ((⟨#[]⟩, ⟨#[]⟩, 0) : ByteArray × ByteArray × Int)).2.1).size : Int)), fun g => iV (sm + (((l.getD k ((⟨#[]⟩, ⟨#[]⟩, 0) : ByteArray × ByteArray × Int)).1).size : Int) + (((l.getD k ((⟨#[]⟩, ⟨#[]⟩, 0) : ByteArray × ByteArray × Int)).2.1).size : Int))] (by kernel_rfl) (by kernel_rfl) rfl (trivial) ?_ ?_
    · exact ⟨ob_val fun g w => by kernel_rfl, ob_val fun g w => by kernel_rfl, ob_val fun g w => by kernel_rfl, ob_v (v := fun g => pV b3 (off4 + k * 3)) (fun g => o_idx (b := b3) (cap := lc) (e := 50) (off := off4) (n := l.length) (kd := .i64) (q := (k : Int)) (i := k) (size := 3) (j := off4 + k * 3) (by kernel_rfl) (by kernel_rfl) (by rfl) (by omega) Tryd.underlying47 (by kernel_rfl) (by omega)) (fun g => by kernel_rfl), ob_val fun g w => by kernel_rfl, ob_s (l := fun g => [vewR 3 (.slice (some ⟨b3, off4, none⟩) l.length lc) l.length (l.flatMap it3)]) (l' := fun g => [vewR 3 (.slice (some ⟨b3, off4, none⟩) l.length lc) l.length (l.flatMap it3)]) (v := fun g => sV ((l.getD k ((⟨#[]⟩, ⟨#[]⟩, 0) : ByteArray × ByteArray × Int)).1)) (fun g => o_loadView (off := off4) (j := k * 3) (u := sV ((l.getD k ((⟨#[]⟩, ⟨#[]⟩, 0) : ByteArray × ByteArray × Int)).1)) (by kernel_rfl) (by omega) (by kernel_rfl) ((rec_get (f := it3) (k := 3) (z := ((⟨#[]⟩, ⟨#[]⟩, 0) : ByteArray × ByteArray × Int)) (l := l) (i := k) (j := 0) (fun _ => rfl) (by omega) (by decide)).trans rfl)) (fun g => by kernel_rfl), ob_val fun g w => by kernel_rfl, ob_v (v := fun g => iV (sm + (((l.getD k ((⟨#[]⟩, ⟨#[]⟩, 0) : ByteArray × ByteArray × Int)).1).size : Int))) (fun g => o_add (k := .i64) (a := sm) (b := (((l.getD k ((⟨#[]⟩, ⟨#[]⟩, 0) : ByteArray × ByteArray × Int)).1).size : Int)) (c := sm + (((l.getD k ((⟨#[]⟩, ⟨#[]⟩, 0) : ByteArray × ByteArray × Int)).1).size : Int)) (by kernel_rfl) (by kernel_rfl) (w64 rfl (by omega))) (fun g => by kernel_rfl), ob_val fun g w => by kernel_rfl, ob_val fun g w => by kernel_rfl, ob_v (v := fun g => pV b3 (off4 + k * 3)) (fun g => o_idx (b := b3) (cap := lc) (e := 50) (off := off4) (n := l.length) (kd := .i64) (q := (k : Int)) (i := k) (size := 3) (j := off4 + k * 3) (by kernel_rfl) (by kernel_rfl) (by rfl) (by omega) Tryd.underlying47 (by kernel_rfl) (by omega)) (fun g => by kernel_rfl), ob_val fun g w => by kernel_rfl, ob_s (l := fun g => [vewR 3 (.slice (some ⟨b3, off4, none⟩) l.length lc) l.length (l.flatMap it3)]) (l' := fun g => [vewR 3 (.slice (some ⟨b3, off4, none⟩) l.length lc) l.length (l.flatMap it3)]) (v := fun g => sV ((l.getD k ((⟨#[]⟩, ⟨#[]⟩, 0) : ByteArray × ByteArray × Int)).2.1)) (fun g => o_loadView (off := off4) (j := k * 3 + 1) (u := sV ((l.getD k ((⟨#[]⟩, ⟨#[]⟩, 0) : ByteArray × ByteArray × Int)).2.1)) (by kernel_rfl) (by omega) (by kernel_rfl) ((rec_get (f := it3) (k := 3) (z := ((⟨#[]⟩, ⟨#[]⟩, 0) : ByteArray × ByteArray × Int)) (l := l) (i := k) (j := 1) (fun _ => rfl) (by omega) (by decide)).trans rfl)) (fun g => by kernel_rfl), ob_val fun g w => by kernel_rfl, ob_v (v := fun g => iV (sm + (((l.getD k ((⟨#[]⟩, ⟨#[]⟩, 0) : ByteArray × ByteArray × Int)).1).size : Int) + (((l.getD k ((⟨#[]⟩, ⟨#[]⟩, 0) : ByteArray × ByteArray × Int)).2.1).size : Int))) (fun g => o_add (k := .i64) (a := sm + (((l.getD k ((⟨#[]⟩, ⟨#[]⟩, 0) : ByteArray × ByteArray × Int)).1).size : Int)) (b := (((l.getD k ((⟨#[]⟩, ⟨#[]⟩, 0) : ByteArray × ByteArray × Int)).2.1).size : Int)) (c := sm + (((l.getD k ((⟨#[]⟩, ⟨#[]⟩, 0) : ByteArray × ByteArray × Int)).1).size : Int) + (((l.getD k ((⟨#[]⟩, ⟨#[]⟩, 0) : ByteArray × ByteArray × Int)).2.1).size : Int)) (by kernel_rfl) (by kernel_rfl) (w64 rfl (by omega))) (fun g => by kernel_rfl), ob_val fun g w => by kernel_rfl, trivial⟩
    intro g
    refine Ex'.sub (subB_spec [0, 2, 4, 3]) ?_
    refine Ex'.as [0] (σ' := [(0, .slice (some ⟨b3, off4, none⟩) l.length lc), (2, iV 0), (4, iV (k : Int)), (3, iV (sm + (((l.getD k ((⟨#[]⟩, ⟨#[]⟩, 0) : ByteArray × ByteArray × Int)).1).size : Int) + (((l.getD k ((⟨#[]⟩, ⟨#[]⟩, 0) : ByteArray × ByteArray × Int)).2.1).size : Int)))]) (Γ' := [vewR 3 (.slice (some ⟨b3, off4, none⟩) l.length lc) l.length (l.flatMap it3)]) (by kernel_rfl) rfl (by kernel_rfl) (by kernel_rfl) ?_
    refine Ex'.blockNormal ?_
    refine Ex'.next ?_
    refine Cd.region rfl ?_
    refine Sq.vals [0] (rest := [1, 2]) [iV (k : Int)] (fun w => by kernel_rfl) ?_
    refine Sq.v (r := iV ((k + 1 : Nat) : Int)) (o_add (k := .i64) (a := (k : Int)) (b := 1) (c := ((k + 1 : Nat) : Int)) (by kernel_rfl) (by kernel_rfl) (w64 (by omega) (by omega))) rfl (by kernel_rfl) ?_
    refine Sq.vals [2] (rest := []) [iV ((k + 1 : Nat) : Int)] (fun w => by kernel_rfl) ?_
    refine Sq.done ?_
    refine Ex'.round (g := (k, sm)) (k + 1, sm + (((l.getD k ((⟨#[]⟩, ⟨#[]⟩, 0) : ByteArray × ByteArray × Int)).1).size : Int) + (((l.getD k ((⟨#[]⟩, ⟨#[]⟩, 0) : ByteArray × ByteArray × Int)).2.1).size : Int)) ?_ ?_ (subB_eq (l := [0, 2, 4, 3]) (by kernel_rfl)) (fun w hw => hw.pickB [0] (by kernel_rfl) (by kernel_rfl) (by kernel_rfl))
    · (try dsimp only); exact ⟨by omega, by rw [sumT_succ (by omega), ← hsm2], by omega, by omega⟩
    · omega
  ·
    refine Cd.exit ?_
    refine Ex'.thenExit ?_
    refine Ex'.thenExit ?_
    refine Ex'.blockHit ?_
    refine Ex'.next ?_
    refine Cd.seq ?_
    refine Cd.region rfl ?_
    refine Sq.vals [0, 1] (rest := []) [iV sm, iV sm] (fun w => by kernel_rfl) ?_
    refine Sq.done ?_
    refine Ex'.next ?_
    refine Cd.ret ?_
    refine Ex'.ret Tryd.results26 (RVs.tmp (v := iV sm) (by kernel_rfl) (RVs.nil)) (fun w hw => ?_)
    have e : byt15 l = sm := by unfold byt15; rw [hsm2]; unfold sumT; rw [List.take_of_length_le (by omega)]
    rw [e]
    exact ⟨_, ⟨rfl, rfl⟩, hw.pickB [0] (by kernel_rfl) (by kernel_rfl) (by kernel_rfl)⟩

def srt15 (l : List It) : List It := sort15 ltK l

set_option maxHeartbeats 8000000 in
set_option maxRecDepth 100000 in
theorem t_Sorted15 {la : Option Addr} {lc : Nat} {l : List It} (hbd : l.length ≤ 1000000) : Tri Tryd.prog 28 #[.slice la l.length lc] [vewR 3 (.slice la l.length lc) l.length (l.flatMap it3)] (PostE (ι := Value) (fun _ => True) (fun v => v) fun v => [vewR 3 (.slice la l.length lc) l.length (l.flatMap it3), rowR 50 3 v ((srt15 l).length) ((srt15 l).flatMap it3)]) := by
  refine Tri.enter (args := [.slice la l.length lc]) Tryd.func28 rfl rfl rfl (fun B wz => ?_)
  refine Cd.fact (i := 0) rfl vew_cap ?_; intro hcap0
  refine Cd.seq ?_
  refine Cd.region rfl ?_
  refine Sq.vals [0] (rest := []) [.slice none 0 0] (fun w => by kernel_rfl) ?_
  refine Sq.done ?_
  refine Ex'.next ?_
  refine Cd.seq ?_
  refine Cd.region rfl ?_
  refine Sq.vals [0] (rest := []) [.slice none 0 0] (fun w => by kernel_rfl) ?_
  refine Sq.done ?_
  refine Ex'.next ?_
  refine Cd.seq ?_
  refine Cd.seq ?_
  refine Cd.region rfl ?_
  refine Sq.vals [0] (rest := []) [iV 0] (fun w => by kernel_rfl) ?_
  refine Sq.done ?_
  refine Ex'.next ?_
  refine Cd.block ?_
  refine Cd.nilRow 50 3 ?_
  refine Cd.loop (ι := Nat × Value × (List It)) (fun ⟨k, ov, O2⟩ => k ≤ l.length ∧ O2 = sort15 ltK (l.take k)) (fun ⟨k, ov, O2⟩ => l.length - k) (fun ⟨k, ov, O2⟩ => [(0, .slice la l.length lc), (2, .slice none 0 0), (4, iV (k : Int)), (3, ov)]) (fun ⟨k, ov, O2⟩ => [vewR 3 (.slice la l.length lc) l.length (l.flatMap it3), rowR 50 3 ov O2.length (O2.flatMap it3)]) (0, .slice none 0 0, ([] : List It)) (⟨Nat.zero_le _, by simp [sort15]⟩) (subB_eq (l := [0, 2, 4, 3]) (by kernel_rfl)) (fun w hw => hw.pickB [0, 1] (by kernel_rfl) (by kernel_rfl) (by kernel_rfl)) ?_
  rintro ⟨k, ov, O2⟩ hL1
  try dsimp only at hL1 ⊢
  obtain ⟨hk, ho2⟩ := hL1
  have hol : O2.length = k := by rw [ho2, sort15_len, List.length_take]; omega
  have hos : O2.Pairwise (fun x y => ¬ ltK y x = true) := by rw [ho2]; exact sort15_sd ordK _
  refine Cd.fact (i := 1) (R := rowR 50 3 ov O2.length (O2.flatMap it3)) (by kernel_rfl) row_slice ?_; rintro ⟨a2, c3, rfl, hc3, hc3'⟩
  have hc3'' : c3 ≤ 9223372036854775807 := hc3'
  refine Cd.seq ?_
  refine Cd.seq ?_
  refine Cd.region rfl ?_
  refine Sq.vals [0, 1, 2, 3] (rest := []) [iV (k : Int), .slice la l.length lc, iV (l.length : Int), bV (decide ((k : Int) < (l.length : Int)))] (fun w => by kernel_rfl) ?_
  refine Sq.done ?_
  refine Ex'.next ?_
  refine Cd.case (p := (k : Int) < (l.length : Int)) (by kernel_rfl) (fun h4 => ?_) (fun h4 => ?_)
  ·
    refine Cd.skip ?_
    refine Ex'.next ?_
    refine Cd.seq ?_
    refine Cd.block ?_
    refine Cd.seq ?_
    refine Cd.region rfl ?_
    refine Sq.vals [0, 1, 2] (rest := []) [.slice a2 O2.length c3, iV (O2.length : Int), iV (O2.length : Int)] (fun w => by kernel_rfl) ?_
    refine Sq.done ?_
    refine Ex'.next ?_
    refine Cd.seq ?_
    refine Cd.block ?_
    refine Cd.loop (ι := Nat) (fun a => a ≤ O2.length ∧ ∀ y ∈ O2.drop a, ltK (l.getD k ((⟨#[]⟩, ⟨#[]⟩, 0) : ByteArray × ByteArray × Int)) y = true) (fun a => a) (fun a => [(0, .slice la l.length lc), (2, .slice none 0 0), (4, iV (k : Int)), (3, .slice a2 O2.length c3), (5, iV (a : Int))]) (fun a => [vewR 3 (.slice la l.length lc) l.length (l.flatMap it3), rowR 50 3 (.slice a2 O2.length c3) O2.length (O2.flatMap it3)]) O2.length (⟨Nat.le_refl _, by simp⟩) (subB_eq (l := [0, 2, 4, 3, 5]) (by kernel_rfl)) (fun w hw => hw.pickB [0, 1] (by kernel_rfl) (by kernel_rfl) (by kernel_rfl)) ?_
    rintro a hL5
    try dsimp only at hL5 ⊢
    obtain ⟨ha, hdr⟩ := hL5
    refine Cd.seq ?_
    refine Cd.seq ?_
    by_cases h6 : (a : Int) > 0
    ·
      refine Cd.fact (i := 1) (R := rowR 50 3 (.slice a2 O2.length c3) O2.length (O2.flatMap it3)) (by kernel_rfl) (row_addr (by omega)) ?_; rintro ⟨b7, rfl⟩
      refine Cd.fact (i := 0) (R := vewR 3 (.slice la l.length lc) l.length (l.flatMap it3)) (by kernel_rfl) (vew_addr (by omega)) ?_; rintro ⟨b8, off9, rfl⟩
      refine Cd.plan [0, 1, 3, 7, 7, 23, 63, 127, 255, 7, 7, 1543, 3591, 7687, 16383, 32767] [(8, [(1, false, 0)]), (13, [(0, false, 0)])] [] [] [] [fun g => iV (a : Int), fun g => bV true, fun g => bV true, fun g => .slice (some ⟨b7, 0, none⟩) O2.length c3, fun g => iV (a : Int), fun g => iV ((a - 1 : Nat) : Int), fun g => pV b7 ((a - 1) * 3), fun g => pV b7 ((a - 1) * 3), fun g => sV ((O2.getD (a - 1) ((⟨#[]⟩, ⟨#[]⟩, 0) : ByteArray × ByteArray × Int)).1), fun g => .slice (some ⟨b8, off9, none⟩) l.length lc, fun g => iV (k : Int), fun g => pV b8 (off9 + k * 3), fun g => pV b8 (off9 + k * 3), fun g => sV ((l.getD k ((⟨#[]⟩, ⟨#[]⟩, 0) : ByteArray × ByteArray × Int)).1), fun g => bV (decide (((l.getD k ((⟨#[]⟩, ⟨#[]⟩, 0) : ByteArray × ByteArray × Int)).1).toList < ((O2.getD (a - 1) ((⟨#[]⟩, ⟨#[]⟩, 0) : ByteArray × ByteArray × Int)).1).toList)), fun g => bV (decide (((l.getD k ((⟨#[]⟩, ⟨#[]⟩, 0) : ByteArray × ByteArray × Int)).1).toList < ((O2.getD (a - 1) ((⟨#[]⟩, ⟨#[]⟩, 0) : ByteArray × ByteArray × Int)).1).toList))] (by kernel_rfl) (by kernel_rfl) rfl (trivial) ?_ ?_
      · exact ⟨ob_val fun g w => by kernel_rfl, ob_v (v := fun g => bV true) (fun g => OprV.re (pureV (v := bV (decide ((a : Int) > 0))) (by kernel_rfl) rfl fun w => by kernel_rfl) (vT h6)) (fun g => by kernel_rfl), ob_val fun g w => by kernel_rfl, ob_val fun g w => by kernel_rfl, ob_val fun g w => by kernel_rfl, ob_v (v := fun g => iV ((a - 1 : Nat) : Int)) (fun g => o_sub (k := .i64) (a := (a : Int)) (b := 1) (c := ((a - 1 : Nat) : Int)) (by kernel_rfl) (by kernel_rfl) (w64 (by omega) (by omega))) (fun g => by kernel_rfl), ob_v (v := fun g => pV b7 ((a - 1) * 3)) (fun g => o_idx (b := b7) (cap := c3) (e := 50) (off := 0) (n := O2.length) (kd := .i64) (q := ((a - 1 : Nat) : Int)) (i := (a - 1)) (size := 3) (j := (a - 1) * 3) (by kernel_rfl) (by kernel_rfl) (by rfl) (by omega) Tryd.underlying47 (by kernel_rfl) (by omega)) (fun g => by kernel_rfl), ob_val fun g w => by kernel_rfl, ob_s (l := fun g => [rowR 50 3 (.slice (some ⟨b7, 0, none⟩) O2.length c3) O2.length (O2.flatMap it3)]) (l' := fun g => [rowR 50 3 (.slice (some ⟨b7, 0, none⟩) O2.length c3) O2.length (O2.flatMap it3)]) (v := fun g => sV ((O2.getD (a - 1) ((⟨#[]⟩, ⟨#[]⟩, 0) : ByteArray × ByteArray × Int)).1)) (fun g => o_loadRow (i := (a - 1) * 3) (u := sV ((O2.getD (a - 1) ((⟨#[]⟩, ⟨#[]⟩, 0) : ByteArray × ByteArray × Int)).1)) (by kernel_rfl) (by omega) (by kernel_rfl) ((rec_get (f := it3) (k := 3) (z := ((⟨#[]⟩, ⟨#[]⟩, 0) : ByteArray × ByteArray × Int)) (l := O2) (i := (a - 1)) (j := 0) (fun _ => rfl) (by omega) (by decide)).trans rfl)) (fun g => by kernel_rfl), ob_val fun g w => by kernel_rfl, ob_val fun g w => by kernel_rfl, ob_v (v := fun g => pV b8 (off9 + k * 3)) (fun g => o_idx (b := b8) (cap := lc) (e := 50) (off := off9) (n := l.length) (kd := .i64) (q := (k : Int)) (i := k) (size := 3) (j := off9 + k * 3) (by kernel_rfl) (by kernel_rfl) (by rfl) (by omega) Tryd.underlying47 (by kernel_rfl) (by omega)) (fun g => by kernel_rfl), ob_val fun g w => by kernel_rfl, ob_s (l := fun g => [vewR 3 (.slice (some ⟨b8, off9, none⟩) l.length lc) l.length (l.flatMap it3)]) (l' := fun g => [vewR 3 (.slice (some ⟨b8, off9, none⟩) l.length lc) l.length (l.flatMap it3)]) (v := fun g => sV ((l.getD k ((⟨#[]⟩, ⟨#[]⟩, 0) : ByteArray × ByteArray × Int)).1)) (fun g => o_loadView (off := off9) (j := k * 3) (u := sV ((l.getD k ((⟨#[]⟩, ⟨#[]⟩, 0) : ByteArray × ByteArray × Int)).1)) (by kernel_rfl) (by omega) (by kernel_rfl) ((rec_get (f := it3) (k := 3) (z := ((⟨#[]⟩, ⟨#[]⟩, 0) : ByteArray × ByteArray × Int)) (l := l) (i := k) (j := 0) (fun _ => rfl) (by omega) (by decide)).trans rfl)) (fun g => by kernel_rfl), ob_v (v := fun g => bV (decide (((l.getD k ((⟨#[]⟩, ⟨#[]⟩, 0) : ByteArray × ByteArray × Int)).1).toList < ((O2.getD (a - 1) ((⟨#[]⟩, ⟨#[]⟩, 0) : ByteArray × ByteArray × Int)).1).toList))) (fun g => o_gtS (a := (O2.getD (a - 1) ((⟨#[]⟩, ⟨#[]⟩, 0) : ByteArray × ByteArray × Int)).1) (b := (l.getD k ((⟨#[]⟩, ⟨#[]⟩, 0) : ByteArray × ByteArray × Int)).1) (by kernel_rfl) (by kernel_rfl)) (fun g => by kernel_rfl), ob_val fun g w => by kernel_rfl, trivial⟩
      intro g
      refine Ex'.sub (subB_spec [0, 2, 4, 3, 5, 29]) ?_
      refine Ex'.as [0, 1] (σ' := [(0, .slice (some ⟨b8, off9, none⟩) l.length lc), (2, .slice none 0 0), (4, iV (k : Int)), (3, .slice (some ⟨b7, 0, none⟩) O2.length c3), (5, iV (a : Int)), (29, bV (decide (((l.getD k ((⟨#[]⟩, ⟨#[]⟩, 0) : ByteArray × ByteArray × Int)).1).toList < ((O2.getD (a - 1) ((⟨#[]⟩, ⟨#[]⟩, 0) : ByteArray × ByteArray × Int)).1).toList)))]) (Γ' := [vewR 3 (.slice (some ⟨b8, off9, none⟩) l.length lc) l.length (l.flatMap it3), rowR 50 3 (.slice (some ⟨b7, 0, none⟩) O2.length c3) O2.length (O2.flatMap it3)]) (by kernel_rfl) rfl (by kernel_rfl) (by kernel_rfl) ?_
      refine Ex'.next ?_
      refine Cd.case (p := ((l.getD k ((⟨#[]⟩, ⟨#[]⟩, 0) : ByteArray × ByteArray × Int)).1).toList < ((O2.getD (a - 1) ((⟨#[]⟩, ⟨#[]⟩, 0) : ByteArray × ByteArray × Int)).1).toList) (by kernel_rfl) (fun h10 => ?_) (fun h10 => ?_)
      ·
        refine Cd.skip ?_
        refine Ex'.next ?_
        refine Cd.block ?_
        refine Cd.region rfl ?_
        refine Sq.vals [0] (rest := [1, 2]) [iV (a : Int)] (fun w => by kernel_rfl) ?_
        refine Sq.v (r := iV ((a - 1 : Nat) : Int)) (o_sub (k := .i64) (a := (a : Int)) (b := 1) (c := ((a - 1 : Nat) : Int)) (by kernel_rfl) (by kernel_rfl) (w64 (by omega) (by omega))) rfl (by kernel_rfl) ?_
        refine Sq.vals [2] (rest := []) [iV ((a - 1 : Nat) : Int)] (fun w => by kernel_rfl) ?_
        refine Sq.done ?_
        refine Ex'.blockNormal ?_
        refine Ex'.round (g := a) (a - 1) ?_ ?_ (subB_eq (l := [0, 2, 4, 3, 5]) (by kernel_rfl)) (fun w hw => hw.pickB [0, 1] (by kernel_rfl) (by kernel_rfl) (by kernel_rfl))
        · (try dsimp only); exact ⟨by omega, drop15_step (by omega) ha hdr (decide_eq_true h10)⟩
        · omega
      ·
        have hin := ins15_at ordK (x := (l.getD k ((⟨#[]⟩, ⟨#[]⟩, 0) : ByteArray × ByteArray × Int))) hos ha hdr (fun _ q => h10 (of_decide_eq_true q))
        refine Cd.exit ?_
        refine Ex'.thenExit ?_
        refine Ex'.thenExit ?_
        refine Ex'.blockHit ?_
        refine Ex'.next ?_
        refine Cd.plan [0, 0, 0, 6, 15, 0, 0, 96, 224, 480, 1023, 0, 0, 6144, 16383, 32767] [(4, [(2, true, 1), (1, false, 0)]), (8, [(0, false, 0)]), (10, [(2, true, 5), (11, false, 10)]), (14, [(2, true, 11), (1, false, 0)])] [0, 9] [(0, fun _ => True), (4, fun _ => True), (9, fun _ => True), (10, fun _ => True), (14, fun _ => True)] [(2, 0, fun g => rowR 50 3 (.slice (some ⟨(slOf (g 0)), 0, none⟩) 0 0) 0 (([] : List It).flatMap it3)), (2, 4, fun g => rowR 50 3 (g 4) a ((O2.take a).flatMap it3)), (11, 9, fun g => blkR (slOf (g 9)) [sV ((l.getD k ((⟨#[]⟩, ⟨#[]⟩, 0) : ByteArray × ByteArray × Int)).1), sV ((l.getD k ((⟨#[]⟩, ⟨#[]⟩, 0) : ByteArray × ByteArray × Int)).2.1), iV ((l.getD k ((⟨#[]⟩, ⟨#[]⟩, 0) : ByteArray × ByteArray × Int)).2.2)] 50), (2, 10, fun g => rowR 50 3 (g 10) (a + 1) (((O2.take a) ++ [(l.getD k ((⟨#[]⟩, ⟨#[]⟩, 0) : ByteArray × ByteArray × Int))]).flatMap it3)), (2, 14, fun g => rowR 50 3 (g 14) (a + 1 + (O2.length - a)) ((((O2.take a) ++ [(l.getD k ((⟨#[]⟩, ⟨#[]⟩, 0) : ByteArray × ByteArray × Int))]) ++ (O2.drop a)).flatMap it3))] [fun g => .slice (some ⟨(slOf (g 0)), 0, none⟩) 0 0, fun g => .slice (some ⟨b7, 0, none⟩) O2.length c3, fun g => iV (a : Int), fun g => .slice (some ⟨b7, 0, none⟩) a c3, fun g => (g 4), fun g => .slice (some ⟨b8, off9, none⟩) l.length lc, fun g => iV (k : Int), fun g => pV b8 (off9 + k * 3), fun g => .agg #[sV ((l.getD k ((⟨#[]⟩, ⟨#[]⟩, 0) : ByteArray × ByteArray × Int)).1), sV ((l.getD k ((⟨#[]⟩, ⟨#[]⟩, 0) : ByteArray × ByteArray × Int)).2.1), iV ((l.getD k ((⟨#[]⟩, ⟨#[]⟩, 0) : ByteArray × ByteArray × Int)).2.2)], fun g => .slice (some ⟨(slOf (g 9)), 0, none⟩) 1 1, fun g => (g 10), fun g => .slice (some ⟨b7, 0, none⟩) O2.length c3, fun g => iV (a : Int), fun g => .slice (if c3 = a then some ⟨b7, 0, none⟩ else Option.map (fun y : Addr => y.add (a * 3)) (some ⟨b7, 0, none⟩)) (O2.length - a) (c3 - a), fun g => (g 14), fun g => (g 14)] (by kernel_rfl) (by kernel_rfl) rfl (⟨⟨⟨trivial, ⟨fun _ _ => rfl, ⟨fun _ _ => rfl, ⟨fun _ _ => rfl, ⟨trivial, ⟨fun _ _ => rfl, ⟨fun _ _ => rfl, ⟨fun _ _ => rfl, ⟨fun _ _ => rfl, ⟨fun _ _ => rfl, ⟨trivial, ⟨fun _ _ => rfl, ⟨fun _ _ => rfl, ⟨fun _ _ => rfl, ⟨trivial, ⟨trivial, trivial⟩⟩⟩⟩⟩⟩⟩⟩⟩⟩⟩⟩⟩⟩⟩⟩, ⟨trivial, ⟨trivial, ⟨fun _ _ => rfl, ⟨trivial, ⟨trivial, trivial⟩⟩⟩⟩⟩⟩, ⟨⟨⟨fun _ _ => rfl, ⟨fun _ _ => rfl, ⟨fun _ _ => rfl, ⟨fun _ _ => rfl, ⟨trivial, ⟨fun _ _ => rfl, ⟨fun _ _ => rfl, ⟨fun _ _ => rfl, ⟨fun _ _ => rfl, ⟨fun _ _ => rfl, ⟨trivial, ⟨fun _ _ => rfl, ⟨fun _ _ => rfl, ⟨fun _ _ => rfl, ⟨trivial, ⟨trivial, trivial⟩⟩⟩⟩⟩⟩⟩⟩⟩⟩⟩⟩⟩⟩⟩⟩, ⟨fun _ _ => rfl, ⟨trivial, ⟨fun _ _ => rfl, ⟨trivial, ⟨trivial, trivial⟩⟩⟩⟩⟩⟩, ⟨⟨⟨fun _ _ => rfl, ⟨fun _ _ => rfl, ⟨fun _ _ => rfl, ⟨fun _ _ => rfl, ⟨fun _ _ => rfl, ⟨fun _ _ => rfl, ⟨fun _ _ => rfl, ⟨fun _ _ => rfl, ⟨fun _ _ => rfl, ⟨trivial, ⟨trivial, ⟨fun _ _ => rfl, ⟨fun _ _ => rfl, ⟨fun _ _ => rfl, ⟨trivial, ⟨trivial, trivial⟩⟩⟩⟩⟩⟩⟩⟩⟩⟩⟩⟩⟩⟩⟩⟩, ⟨fun _ _ => rfl, ⟨fun _ _ => rfl, ⟨trivial, ⟨trivial, ⟨trivial, trivial⟩⟩⟩⟩⟩⟩, ⟨⟨⟨fun _ _ => rfl, ⟨fun _ _ => rfl, ⟨fun _ _ => rfl, ⟨fun _ _ => rfl, ⟨fun _ _ => rfl, ⟨fun _ _ => rfl, ⟨fun _ _ => rfl, ⟨fun _ _ => rfl, ⟨fun _ _ => rfl, ⟨fun _ _ => rfl, ⟨trivial, ⟨fun _ _ => rfl, ⟨fun _ _ => rfl, ⟨fun _ _ => rfl, ⟨trivial, ⟨trivial, trivial⟩⟩⟩⟩⟩⟩⟩⟩⟩⟩⟩⟩⟩⟩⟩⟩, ⟨fun _ _ => rfl, ⟨fun _ _ => rfl, ⟨fun _ _ => rfl, ⟨trivial, ⟨trivial, trivial⟩⟩⟩⟩⟩⟩, ⟨⟨⟨fun _ _ => rfl, ⟨fun _ _ => rfl, ⟨fun _ _ => rfl, ⟨fun _ _ => rfl, ⟨fun _ _ => rfl, ⟨fun _ _ => rfl, ⟨fun _ _ => rfl, ⟨fun _ _ => rfl, ⟨fun _ _ => rfl, ⟨fun _ _ => rfl, ⟨fun _ _ => rfl, ⟨fun _ _ => rfl, ⟨fun _ _ => rfl, ⟨fun _ _ => rfl, ⟨trivial, ⟨trivial, trivial⟩⟩⟩⟩⟩⟩⟩⟩⟩⟩⟩⟩⟩⟩⟩⟩, ⟨fun _ _ => rfl, ⟨fun _ _ => rfl, ⟨fun _ _ => rfl, ⟨fun _ _ => rfl, ⟨trivial, trivial⟩⟩⟩⟩⟩⟩, trivial⟩⟩⟩⟩⟩) ?_ ?_
        · exact ⟨ob_d (ι := Nat) (l := fun g => []) (L := fun g y => [rowR 50 3 (.slice (some ⟨y, 0, none⟩) 0 0) 0 (([] : List It).flatMap it3)]) (fun y => .slice (some ⟨y, 0, none⟩) 0 0) (fun g => o_lit0 (size := 3) Tryd.underlying47 (by kernel_rfl)) (fun g => by kernel_rfl) (fun g y _ => ⟨trivial, by kernel_rfl, by kernel_rfl⟩), ob_val fun g w => by kernel_rfl, ob_val fun g w => by kernel_rfl, ob_v (v := fun g => .slice (some ⟨b7, 0, none⟩) a c3) (fun g => o_cutTo (kd := .i64) (q := (a : Int)) (h := a) (n := O2.length) (size := 3) (by kernel_rfl) (by kernel_rfl) (by rfl) (by omega) Tryd.underlying47 (by kernel_rfl)) (fun g => by kernel_rfl), ob_d (ι := Value) (l := fun g => [rowR 50 3 (.slice (some ⟨(slOf (g 0)), 0, none⟩) 0 0) 0 (([] : List It).flatMap it3), rowR 50 3 (.slice (some ⟨b7, 0, none⟩) O2.length c3) O2.length (O2.flatMap it3)]) (L := fun g y => [rowR 50 3 y a ((O2.take a).flatMap it3), rowR 50 3 (.slice (some ⟨b7, 0, none⟩) O2.length c3) O2.length (O2.flatMap it3)]) (id) (fun g => o_pushAll (n' := a) (xs' := (O2.take a).flatMap it3) (m := a) (news := (O2.take a).flatMap it3) (by kernel_rfl) (by kernel_rfl) (fun w S h => ⟨S, vw_take (f := it3) h (fun _ => rfl) (by omega)⟩) sl_it15 (by decide) (recs_one (f := it3) (fun _ => rfl) _) (by unfold maxLen; omega) (by omega) (by omega) (by first | rfl | (simp only [List.flatMap_append]; done) | (simp only [List.flatMap_append]; rfl))) (fun g => by kernel_rfl) (fun g y _ => ⟨trivial, by kernel_rfl, by kernel_rfl⟩), ob_val fun g w => by kernel_rfl, ob_val fun g w => by kernel_rfl, ob_v (v := fun g => pV b8 (off9 + k * 3)) (fun g => o_idx (b := b8) (cap := lc) (e := 50) (off := off9) (n := l.length) (kd := .i64) (q := (k : Int)) (i := k) (size := 3) (j := off9 + k * 3) (by kernel_rfl) (by kernel_rfl) (by rfl) (by omega) Tryd.underlying47 (by kernel_rfl) (by omega)) (fun g => by kernel_rfl), ob_s (l := fun g => [vewR 3 (.slice (some ⟨b8, off9, none⟩) l.length lc) l.length (l.flatMap it3)]) (l' := fun g => [vewR 3 (.slice (some ⟨b8, off9, none⟩) l.length lc) l.length (l.flatMap it3)]) (v := fun g => .agg #[sV ((l.getD k ((⟨#[]⟩, ⟨#[]⟩, 0) : ByteArray × ByteArray × Int)).1), sV ((l.getD k ((⟨#[]⟩, ⟨#[]⟩, 0) : ByteArray × ByteArray × Int)).2.1), iV ((l.getD k ((⟨#[]⟩, ⟨#[]⟩, 0) : ByteArray × ByteArray × Int)).2.2)]) (fun g => o_loadViewN (off := off9) (j := k * 3) [sV ((l.getD k ((⟨#[]⟩, ⟨#[]⟩, 0) : ByteArray × ByteArray × Int)).1), sV ((l.getD k ((⟨#[]⟩, ⟨#[]⟩, 0) : ByteArray × ByteArray × Int)).2.1), iV ((l.getD k ((⟨#[]⟩, ⟨#[]⟩, 0) : ByteArray × ByteArray × Int)).2.2)] (by kernel_rfl) (by omega) (by kernel_rfl) (rec_gets (f := it3) (k := 3) (z := ((⟨#[]⟩, ⟨#[]⟩, 0) : ByteArray × ByteArray × Int)) (l := l) (i := k) (o := 0) (fun _ => rfl) (by omega) (Nat.le_of_ble_eq_true rfl) rfl)) (fun g => by kernel_rfl), ob_d (ι := Nat) (l := fun g => []) (L := fun g y => [blkR y [sV ((l.getD k ((⟨#[]⟩, ⟨#[]⟩, 0) : ByteArray × ByteArray × Int)).1), sV ((l.getD k ((⟨#[]⟩, ⟨#[]⟩, 0) : ByteArray × ByteArray × Int)).2.1), iV ((l.getD k ((⟨#[]⟩, ⟨#[]⟩, 0) : ByteArray × ByteArray × Int)).2.2)] 50]) (fun y => .slice (some ⟨y, 0, none⟩) 1 1) (fun g => o_lit (sz := 3) (.agg #[sV ⟨#[]⟩, sV ⟨#[]⟩, iV 0]) [sV ((l.getD k ((⟨#[]⟩, ⟨#[]⟩, 0) : ByteArray × ByteArray × Int)).1), sV ((l.getD k ((⟨#[]⟩, ⟨#[]⟩, 0) : ByteArray × ByteArray × Int)).2.1), iV ((l.getD k ((⟨#[]⟩, ⟨#[]⟩, 0) : ByteArray × ByteArray × Int)).2.2)] Tryd.underlying47 (by kernel_rfl) (by kernel_rfl) (by kernel_rfl) (by kernel_rfl) (by kernel_rfl)) (fun g => by kernel_rfl) (fun g y _ => ⟨trivial, by kernel_rfl, by kernel_rfl⟩), ob_d (ι := Value) (l := fun g => [rowR 50 3 (g 4) a ((O2.take a).flatMap it3), blkR (slOf (g 9)) [sV ((l.getD k ((⟨#[]⟩, ⟨#[]⟩, 0) : ByteArray × ByteArray × Int)).1), sV ((l.getD k ((⟨#[]⟩, ⟨#[]⟩, 0) : ByteArray × ByteArray × Int)).2.1), iV ((l.getD k ((⟨#[]⟩, ⟨#[]⟩, 0) : ByteArray × ByteArray × Int)).2.2)] 50]) (L := fun g y => [rowR 50 3 y (a + 1) (((O2.take a) ++ [(l.getD k ((⟨#[]⟩, ⟨#[]⟩, 0) : ByteArray × ByteArray × Int))]).flatMap it3), blkR (slOf (g 9)) [sV ((l.getD k ((⟨#[]⟩, ⟨#[]⟩, 0) : ByteArray × ByteArray × Int)).1), sV ((l.getD k ((⟨#[]⟩, ⟨#[]⟩, 0) : ByteArray × ByteArray × Int)).2.1), iV ((l.getD k ((⟨#[]⟩, ⟨#[]⟩, 0) : ByteArray × ByteArray × Int)).2.2)] 50]) (id) (fun g => o_push (n' := a + 1) (xs' := ((O2.take a) ++ [(l.getD k ((⟨#[]⟩, ⟨#[]⟩, 0) : ByteArray × ByteArray × Int))]).flatMap it3) (by kernel_rfl) (by kernel_rfl) sl_it15 (by decide) rfl (by kernel_rfl) (by unfold maxLen; first | omega | (simp only [List.length_nil]; omega)) (by first | omega | (simp only [List.length_nil]; omega)) (by simp) (by rw [List.flatMap_append]; rfl)) (fun g => by kernel_rfl) (fun g y _ => ⟨trivial, by kernel_rfl, by kernel_rfl⟩), ob_val fun g w => by kernel_rfl, ob_val fun g w => by kernel_rfl, ob_v (v := fun g => .slice (if c3 = a then some ⟨b7, 0, none⟩ else Option.map (fun y : Addr => y.add (a * 3)) (some ⟨b7, 0, none⟩)) (O2.length - a) (c3 - a)) (fun g => o_cutFromK (size := 3) (kd := .i64) (q := (a : Int)) (l := a) (n := O2.length) (cap := c3) (a := some ⟨b7, 0, none⟩) (by kernel_rfl) (by kernel_rfl) (by rfl) (by omega) (by omega) Tryd.underlying47 (by kernel_rfl)) (fun g => by kernel_rfl), ob_d (ι := Value) (l := fun g => [rowR 50 3 (g 10) (a + 1) (((O2.take a) ++ [(l.getD k ((⟨#[]⟩, ⟨#[]⟩, 0) : ByteArray × ByteArray × Int))]).flatMap it3), rowR 50 3 (.slice (some ⟨b7, 0, none⟩) O2.length c3) O2.length (O2.flatMap it3)]) (L := fun g y => [rowR 50 3 y (a + 1 + (O2.length - a)) ((((O2.take a) ++ [(l.getD k ((⟨#[]⟩, ⟨#[]⟩, 0) : ByteArray × ByteArray × Int))]) ++ (O2.drop a)).flatMap it3), rowR 50 3 (.slice (some ⟨b7, 0, none⟩) O2.length c3) O2.length (O2.flatMap it3)]) (id) (fun g => o_pushAll (n' := a + 1 + (O2.length - a)) (xs' := (((O2.take a) ++ [(l.getD k ((⟨#[]⟩, ⟨#[]⟩, 0) : ByteArray × ByteArray × Int))]) ++ (O2.drop a)).flatMap it3) (m := O2.length - a) (news := (O2.drop a).flatMap it3) (by kernel_rfl) (by kernel_rfl) (fun w S h => ⟨S, vw_drop (f := it3) h (fun _ => rfl) (by omega)⟩) sl_it15 (by decide) (recs_one (f := it3) (fun _ => rfl) _) (by unfold maxLen; omega) (by omega) (by omega) (by first | rfl | (simp only [List.flatMap_append]; done) | (simp only [List.flatMap_append]; rfl))) (fun g => by kernel_rfl) (fun g y _ => ⟨trivial, by kernel_rfl, by kernel_rfl⟩), ob_val fun g w => by kernel_rfl, trivial⟩
        intro g
        refine Ex'.sub (subB_spec [0, 2, 4, 3]) ?_
        refine Ex'.as [0, 1, 2, 11] (σ' := [(0, .slice (some ⟨b8, off9, none⟩) l.length lc), (2, .slice none 0 0), (4, iV (k : Int)), (3, (g 14))]) (Γ' := [vewR 3 (.slice (some ⟨b8, off9, none⟩) l.length lc) l.length (l.flatMap it3), rowR 50 3 (.slice (some ⟨b7, 0, none⟩) O2.length c3) O2.length (O2.flatMap it3), rowR 50 3 (g 14) (a + 1 + (O2.length - a)) ((((O2.take a) ++ [(l.getD k ((⟨#[]⟩, ⟨#[]⟩, 0) : ByteArray × ByteArray × Int))]) ++ (O2.drop a)).flatMap it3), blkR (slOf (g 9)) [sV ((l.getD k ((⟨#[]⟩, ⟨#[]⟩, 0) : ByteArray × ByteArray × Int)).1), sV ((l.getD k ((⟨#[]⟩, ⟨#[]⟩, 0) : ByteArray × ByteArray × Int)).2.1), iV ((l.getD k ((⟨#[]⟩, ⟨#[]⟩, 0) : ByteArray × ByteArray × Int)).2.2)] 50]) (by kernel_rfl) rfl (by kernel_rfl) (by kernel_rfl) ?_
        generalize slOf (g 0) = b16
        generalize g 4 = v17
        generalize slOf (g 9) = b18
        generalize g 10 = v19
        generalize g 14 = v20
        refine Ex'.fact (i := 2) (R := rowR 50 3 v20 (a + 1 + (O2.length - a)) ((((O2.take a) ++ [(l.getD k ((⟨#[]⟩, ⟨#[]⟩, 0) : ByteArray × ByteArray × Int))]) ++ (O2.drop a)).flatMap it3)) (by kernel_rfl) row_slice ?_; rintro ⟨a21, c22, rfl, hc22, hc22'⟩
        have hc22'' : c22 ≤ 9223372036854775807 := hc22'
        refine Ex'.blockNormal ?_
        refine Ex'.next ?_
        refine Cd.region rfl ?_
        refine Sq.vals [0] (rest := [1, 2]) [iV (k : Int)] (fun w => by kernel_rfl) ?_
        refine Sq.v (r := iV ((k + 1 : Nat) : Int)) (o_add (k := .i64) (a := (k : Int)) (b := 1) (c := ((k + 1 : Nat) : Int)) (by kernel_rfl) (by kernel_rfl) (w64 (by omega) (by omega))) rfl (by kernel_rfl) ?_
        refine Sq.vals [2] (rest := []) [iV ((k + 1 : Nat) : Int)] (fun w => by kernel_rfl) ?_
        refine Sq.done ?_
        refine Ex'.round (g := (k, .slice (some ⟨b7, 0, none⟩) O2.length c3, O2)) (k + 1, .slice a21 (a + 1 + (O2.length - a)) c22, ((O2.take a) ++ [(l.getD k ((⟨#[]⟩, ⟨#[]⟩, 0) : ByteArray × ByteArray × Int))]) ++ (O2.drop a)) ?_ ?_ (subB_eq (l := [0, 2, 4, 3]) (by kernel_rfl)) (fun w hw => (hw.conv 2 (R := rowR 50 3 (.slice a21 (a + 1 + (O2.length - a)) c22) (a + 1 + (O2.length - a)) ((((O2.take a) ++ [(l.getD k ((⟨#[]⟩, ⟨#[]⟩, 0) : ByteArray × ByteArray × Int))]) ++ (O2.drop a)).flatMap it3)) (R' := rowR 50 3 (.slice a21 (a + 1 + (O2.length - a)) c22) (((O2.take a) ++ [(l.getD k ((⟨#[]⟩, ⟨#[]⟩, 0) : ByteArray × ByteArray × Int))]) ++ (O2.drop a)).length ((((O2.take a) ++ [(l.getD k ((⟨#[]⟩, ⟨#[]⟩, 0) : ByteArray × ByteArray × Int))]) ++ (O2.drop a)).flatMap it3)) (by kernel_rfl) (row_len (by first | rfl | omega | (simp only [List.length_take, List.length_drop, List.length_append, List.length_cons, List.length_nil]; omega) | (simp; done) | (simp; omega)))).pickB [0, 2] (by kernel_rfl) (by kernel_rfl) (by kernel_rfl))
        · (try dsimp only); exact ⟨by omega, by rw [sort15_step (by omega), ← ho2, ← hin]⟩
        · omega
    ·
      have hin := ins15_at ordK (x := (l.getD k ((⟨#[]⟩, ⟨#[]⟩, 0) : ByteArray × ByteArray × Int))) hos ha hdr (fun q => absurd q (by omega))
      refine Cd.plan [0, 1, 3, 7, 7, 23, 63, 127, 255, 7, 7, 1543, 3591, 7687, 16383, 32767] [] [] [] [] [fun g => iV (a : Int), fun g => bV false, fun g => bV false, fun g => undef, fun g => undef, fun g => undef, fun g => undef, fun g => undef, fun g => undef, fun g => undef, fun g => undef, fun g => undef, fun g => undef, fun g => undef, fun g => undef, fun g => bV false] (by kernel_rfl) (by kernel_rfl) rfl (trivial) ?_ ?_
      · exact ⟨ob_val fun g w => by kernel_rfl, ob_v (v := fun g => bV false) (fun g => OprV.re (pureV (v := bV (decide ((a : Int) > 0))) (by kernel_rfl) rfl fun w => by kernel_rfl) (vF h6)) (fun g => by kernel_rfl), ob_val fun g w => by kernel_rfl, ob_val fun g w => by kernel_rfl, ob_val fun g w => by kernel_rfl, ob_val fun g w => by kernel_rfl, ob_val fun g w => by kernel_rfl, ob_val fun g w => by kernel_rfl, ob_val fun g w => by kernel_rfl, ob_val fun g w => by kernel_rfl, ob_val fun g w => by kernel_rfl, ob_val fun g w => by kernel_rfl, ob_val fun g w => by kernel_rfl, ob_val fun g w => by kernel_rfl, ob_val fun g w => by kernel_rfl, ob_val fun g w => by kernel_rfl, trivial⟩
      intro g
      refine Ex'.sub (subB_spec [0, 2, 4, 3, 5, 29]) ?_
      refine Ex'.as [0, 1] (σ' := [(0, .slice la l.length lc), (2, .slice none 0 0), (4, iV (k : Int)), (3, .slice a2 O2.length c3), (5, iV (a : Int)), (29, bV false)]) (Γ' := [vewR 3 (.slice la l.length lc) l.length (l.flatMap it3), rowR 50 3 (.slice a2 O2.length c3) O2.length (O2.flatMap it3)]) (by kernel_rfl) rfl (by kernel_rfl) (by kernel_rfl) ?_
      refine Ex'.next ?_
      refine Cd.condF (by kernel_rfl) ?_
      refine Cd.exit ?_
      refine Ex'.thenExit ?_
      refine Ex'.thenExit ?_
      refine Ex'.blockHit ?_
      refine Ex'.next ?_
      refine Cd.fact (i := 0) (R := vewR 3 (.slice la l.length lc) l.length (l.flatMap it3)) (by kernel_rfl) (vew_addr (by omega)) ?_; rintro ⟨b25, off26, rfl⟩
      refine Cd.plan [0, 0, 0, 6, 15, 0, 0, 96, 224, 480, 1023, 0, 0, 6144, 16383, 32767] [(4, [(2, true, 1), (1, false, 0)]), (8, [(0, false, 0)]), (10, [(2, true, 5), (11, false, 10)]), (14, [(2, true, 11), (1, false, 0)])] [0, 9] [(0, fun _ => True), (4, fun _ => True), (9, fun _ => True), (10, fun _ => True), (14, fun _ => True)] [(2, 0, fun g => rowR 50 3 (.slice (some ⟨(slOf (g 0)), 0, none⟩) 0 0) 0 (([] : List It).flatMap it3)), (2, 4, fun g => rowR 50 3 (g 4) a ((O2.take a).flatMap it3)), (11, 9, fun g => blkR (slOf (g 9)) [sV ((l.getD k ((⟨#[]⟩, ⟨#[]⟩, 0) : ByteArray × ByteArray × Int)).1), sV ((l.getD k ((⟨#[]⟩, ⟨#[]⟩, 0) : ByteArray × ByteArray × Int)).2.1), iV ((l.getD k ((⟨#[]⟩, ⟨#[]⟩, 0) : ByteArray × ByteArray × Int)).2.2)] 50), (2, 10, fun g => rowR 50 3 (g 10) (a + 1) (((O2.take a) ++ [(l.getD k ((⟨#[]⟩, ⟨#[]⟩, 0) : ByteArray × ByteArray × Int))]).flatMap it3)), (2, 14, fun g => rowR 50 3 (g 14) (a + 1 + (O2.length - a)) ((((O2.take a) ++ [(l.getD k ((⟨#[]⟩, ⟨#[]⟩, 0) : ByteArray × ByteArray × Int))]) ++ (O2.drop a)).flatMap it3))] [fun g => .slice (some ⟨(slOf (g 0)), 0, none⟩) 0 0, fun g => .slice a2 O2.length c3, fun g => iV (a : Int), fun g => .slice a2 a c3, fun g => (g 4), fun g => .slice (some ⟨b25, off26, none⟩) l.length lc, fun g => iV (k : Int), fun g => pV b25 (off26 + k * 3), fun g => .agg #[sV ((l.getD k ((⟨#[]⟩, ⟨#[]⟩, 0) : ByteArray × ByteArray × Int)).1), sV ((l.getD k ((⟨#[]⟩, ⟨#[]⟩, 0) : ByteArray × ByteArray × Int)).2.1), iV ((l.getD k ((⟨#[]⟩, ⟨#[]⟩, 0) : ByteArray × ByteArray × Int)).2.2)], fun g => .slice (some ⟨(slOf (g 9)), 0, none⟩) 1 1, fun g => (g 10), fun g => .slice a2 O2.length c3, fun g => iV (a : Int), fun g => .slice (if c3 = a then a2 else Option.map (fun y : Addr => y.add (a * 3)) a2) (O2.length - a) (c3 - a), fun g => (g 14), fun g => (g 14)] (by kernel_rfl) (by kernel_rfl) rfl (⟨⟨⟨trivial, ⟨fun _ _ => rfl, ⟨fun _ _ => rfl, ⟨fun _ _ => rfl, ⟨trivial, ⟨fun _ _ => rfl, ⟨fun _ _ => rfl, ⟨fun _ _ => rfl, ⟨fun _ _ => rfl, ⟨fun _ _ => rfl, ⟨trivial, ⟨fun _ _ => rfl, ⟨fun _ _ => rfl, ⟨fun _ _ => rfl, ⟨trivial, ⟨trivial, trivial⟩⟩⟩⟩⟩⟩⟩⟩⟩⟩⟩⟩⟩⟩⟩⟩, ⟨trivial, ⟨trivial, ⟨fun _ _ => rfl, ⟨trivial, ⟨trivial, trivial⟩⟩⟩⟩⟩⟩, ⟨⟨⟨fun _ _ => rfl, ⟨fun _ _ => rfl, ⟨fun _ _ => rfl, ⟨fun _ _ => rfl, ⟨trivial, ⟨fun _ _ => rfl, ⟨fun _ _ => rfl, ⟨fun _ _ => rfl, ⟨fun _ _ => rfl, ⟨fun _ _ => rfl, ⟨trivial, ⟨fun _ _ => rfl, ⟨fun _ _ => rfl, ⟨fun _ _ => rfl, ⟨trivial, ⟨trivial, trivial⟩⟩⟩⟩⟩⟩⟩⟩⟩⟩⟩⟩⟩⟩⟩⟩, ⟨fun _ _ => rfl, ⟨trivial, ⟨fun _ _ => rfl, ⟨trivial, ⟨trivial, trivial⟩⟩⟩⟩⟩⟩, ⟨⟨⟨fun _ _ => rfl, ⟨fun _ _ => rfl, ⟨fun _ _ => rfl, ⟨fun _ _ => rfl, ⟨fun _ _ => rfl, ⟨fun _ _ => rfl, ⟨fun _ _ => rfl, ⟨fun _ _ => rfl, ⟨fun _ _ => rfl, ⟨trivial, ⟨trivial, ⟨fun _ _ => rfl, ⟨fun _ _ => rfl, ⟨fun _ _ => rfl, ⟨trivial, ⟨trivial, trivial⟩⟩⟩⟩⟩⟩⟩⟩⟩⟩⟩⟩⟩⟩⟩⟩, ⟨fun _ _ => rfl, ⟨fun _ _ => rfl, ⟨trivial, ⟨trivial, ⟨trivial, trivial⟩⟩⟩⟩⟩⟩, ⟨⟨⟨fun _ _ => rfl, ⟨fun _ _ => rfl, ⟨fun _ _ => rfl, ⟨fun _ _ => rfl, ⟨fun _ _ => rfl, ⟨fun _ _ => rfl, ⟨fun _ _ => rfl, ⟨fun _ _ => rfl, ⟨fun _ _ => rfl, ⟨fun _ _ => rfl, ⟨trivial, ⟨fun _ _ => rfl, ⟨fun _ _ => rfl, ⟨fun _ _ => rfl, ⟨trivial, ⟨trivial, trivial⟩⟩⟩⟩⟩⟩⟩⟩⟩⟩⟩⟩⟩⟩⟩⟩, ⟨fun _ _ => rfl, ⟨fun _ _ => rfl, ⟨fun _ _ => rfl, ⟨trivial, ⟨trivial, trivial⟩⟩⟩⟩⟩⟩, ⟨⟨⟨fun _ _ => rfl, ⟨fun _ _ => rfl, ⟨fun _ _ => rfl, ⟨fun _ _ => rfl, ⟨fun _ _ => rfl, ⟨fun _ _ => rfl, ⟨fun _ _ => rfl, ⟨fun _ _ => rfl, ⟨fun _ _ => rfl, ⟨fun _ _ => rfl, ⟨fun _ _ => rfl, ⟨fun _ _ => rfl, ⟨fun _ _ => rfl, ⟨fun _ _ => rfl, ⟨trivial, ⟨trivial, trivial⟩⟩⟩⟩⟩⟩⟩⟩⟩⟩⟩⟩⟩⟩⟩⟩, ⟨fun _ _ => rfl, ⟨fun _ _ => rfl, ⟨fun _ _ => rfl, ⟨fun _ _ => rfl, ⟨trivial, trivial⟩⟩⟩⟩⟩⟩, trivial⟩⟩⟩⟩⟩) ?_ ?_
      · exact ⟨ob_d (ι := Nat) (l := fun g => []) (L := fun g y => [rowR 50 3 (.slice (some ⟨y, 0, none⟩) 0 0) 0 (([] : List It).flatMap it3)]) (fun y => .slice (some ⟨y, 0, none⟩) 0 0) (fun g => o_lit0 (size := 3) Tryd.underlying47 (by kernel_rfl)) (fun g => by kernel_rfl) (fun g y _ => ⟨trivial, by kernel_rfl, by kernel_rfl⟩), ob_val fun g w => by kernel_rfl, ob_val fun g w => by kernel_rfl, ob_v (v := fun g => .slice a2 a c3) (fun g => o_cutToA (a := a2) (kd := .i64) (q := (a : Int)) (h := a) (n := O2.length) (cap := c3) (size := 3) (by kernel_rfl) (by kernel_rfl) (by rfl) (by omega) Tryd.underlying47 (by kernel_rfl)) (fun g => by kernel_rfl), ob_d (ι := Value) (l := fun g => [rowR 50 3 (.slice (some ⟨(slOf (g 0)), 0, none⟩) 0 0) 0 (([] : List It).flatMap it3), rowR 50 3 (.slice a2 O2.length c3) O2.length (O2.flatMap it3)]) (L := fun g y => [rowR 50 3 y a ((O2.take a).flatMap it3), rowR 50 3 (.slice a2 O2.length c3) O2.length (O2.flatMap it3)]) (id) (fun g => o_pushAll (n' := a) (xs' := (O2.take a).flatMap it3) (m := a) (news := (O2.take a).flatMap it3) (by kernel_rfl) (by kernel_rfl) (fun w S h => ⟨S, vw_take (f := it3) h (fun _ => rfl) (by omega)⟩) sl_it15 (by decide) (recs_one (f := it3) (fun _ => rfl) _) (by unfold maxLen; omega) (by omega) (by omega) (by first | rfl | (simp only [List.flatMap_append]; done) | (simp only [List.flatMap_append]; rfl))) (fun g => by kernel_rfl) (fun g y _ => ⟨trivial, by kernel_rfl, by kernel_rfl⟩), ob_val fun g w => by kernel_rfl, ob_val fun g w => by kernel_rfl, ob_v (v := fun g => pV b25 (off26 + k * 3)) (fun g => o_idx (b := b25) (cap := lc) (e := 50) (off := off26) (n := l.length) (kd := .i64) (q := (k : Int)) (i := k) (size := 3) (j := off26 + k * 3) (by kernel_rfl) (by kernel_rfl) (by rfl) (by omega) Tryd.underlying47 (by kernel_rfl) (by omega)) (fun g => by kernel_rfl), ob_s (l := fun g => [vewR 3 (.slice (some ⟨b25, off26, none⟩) l.length lc) l.length (l.flatMap it3)]) (l' := fun g => [vewR 3 (.slice (some ⟨b25, off26, none⟩) l.length lc) l.length (l.flatMap it3)]) (v := fun g => .agg #[sV ((l.getD k ((⟨#[]⟩, ⟨#[]⟩, 0) : ByteArray × ByteArray × Int)).1), sV ((l.getD k ((⟨#[]⟩, ⟨#[]⟩, 0) : ByteArray × ByteArray × Int)).2.1), iV ((l.getD k ((⟨#[]⟩, ⟨#[]⟩, 0) : ByteArray × ByteArray × Int)).2.2)]) (fun g => o_loadViewN (off := off26) (j := k * 3) [sV ((l.getD k ((⟨#[]⟩, ⟨#[]⟩, 0) : ByteArray × ByteArray × Int)).1), sV ((l.getD k ((⟨#[]⟩, ⟨#[]⟩, 0) : ByteArray × ByteArray × Int)).2.1), iV ((l.getD k ((⟨#[]⟩, ⟨#[]⟩, 0) : ByteArray × ByteArray × Int)).2.2)] (by kernel_rfl) (by omega) (by kernel_rfl) (rec_gets (f := it3) (k := 3) (z := ((⟨#[]⟩, ⟨#[]⟩, 0) : ByteArray × ByteArray × Int)) (l := l) (i := k) (o := 0) (fun _ => rfl) (by omega) (Nat.le_of_ble_eq_true rfl) rfl)) (fun g => by kernel_rfl), ob_d (ι := Nat) (l := fun g => []) (L := fun g y => [blkR y [sV ((l.getD k ((⟨#[]⟩, ⟨#[]⟩, 0) : ByteArray × ByteArray × Int)).1), sV ((l.getD k ((⟨#[]⟩, ⟨#[]⟩, 0) : ByteArray × ByteArray × Int)).2.1), iV ((l.getD k ((⟨#[]⟩, ⟨#[]⟩, 0) : ByteArray × ByteArray × Int)).2.2)] 50]) (fun y => .slice (some ⟨y, 0, none⟩) 1 1) (fun g => o_lit (sz := 3) (.agg #[sV ⟨#[]⟩, sV ⟨#[]⟩, iV 0]) [sV ((l.getD k ((⟨#[]⟩, ⟨#[]⟩, 0) : ByteArray × ByteArray × Int)).1), sV ((l.getD k ((⟨#[]⟩, ⟨#[]⟩, 0) : ByteArray × ByteArray × Int)).2.1), iV ((l.getD k ((⟨#[]⟩, ⟨#[]⟩, 0) : ByteArray × ByteArray × Int)).2.2)] Tryd.underlying47 (by kernel_rfl) (by kernel_rfl) (by kernel_rfl) (by kernel_rfl) (by kernel_rfl)) (fun g => by kernel_rfl) (fun g y _ => ⟨trivial, by kernel_rfl, by kernel_rfl⟩), ob_d (ι := Value) (l := fun g => [rowR 50 3 (g 4) a ((O2.take a).flatMap it3), blkR (slOf (g 9)) [sV ((l.getD k ((⟨#[]⟩, ⟨#[]⟩, 0) : ByteArray × ByteArray × Int)).1), sV ((l.getD k ((⟨#[]⟩, ⟨#[]⟩, 0) : ByteArray × ByteArray × Int)).2.1), iV ((l.getD k ((⟨#[]⟩, ⟨#[]⟩, 0) : ByteArray × ByteArray × Int)).2.2)] 50]) (L := fun g y => [rowR 50 3 y (a + 1) (((O2.take a) ++ [(l.getD k ((⟨#[]⟩, ⟨#[]⟩, 0) : ByteArray × ByteArray × Int))]).flatMap it3), blkR (slOf (g 9)) [sV ((l.getD k ((⟨#[]⟩, ⟨#[]⟩, 0) : ByteArray × ByteArray × Int)).1), sV ((l.getD k ((⟨#[]⟩, ⟨#[]⟩, 0) : ByteArray × ByteArray × Int)).2.1), iV ((l.getD k ((⟨#[]⟩, ⟨#[]⟩, 0) : ByteArray × ByteArray × Int)).2.2)] 50]) (id) (fun g => o_push (n' := a + 1) (xs' := ((O2.take a) ++ [(l.getD k ((⟨#[]⟩, ⟨#[]⟩, 0) : ByteArray × ByteArray × Int))]).flatMap it3) (by kernel_rfl) (by kernel_rfl) sl_it15 (by decide) rfl (by kernel_rfl) (by unfold maxLen; first | omega | (simp only [List.length_nil]; omega)) (by first | omega | (simp only [List.length_nil]; omega)) (by simp) (by rw [List.flatMap_append]; rfl)) (fun g => by kernel_rfl) (fun g y _ => ⟨trivial, by kernel_rfl, by kernel_rfl⟩), ob_val fun g w => by kernel_rfl, ob_val fun g w => by kernel_rfl, ob_v (v := fun g => .slice (if c3 = a then a2 else Option.map (fun y : Addr => y.add (a * 3)) a2) (O2.length - a) (c3 - a)) (fun g => o_cutFromK (size := 3) (kd := .i64) (q := (a : Int)) (l := a) (n := O2.length) (cap := c3) (a := a2) (by kernel_rfl) (by kernel_rfl) (by rfl) (by omega) (by omega) Tryd.underlying47 (by kernel_rfl)) (fun g => by kernel_rfl), ob_d (ι := Value) (l := fun g => [rowR 50 3 (g 10) (a + 1) (((O2.take a) ++ [(l.getD k ((⟨#[]⟩, ⟨#[]⟩, 0) : ByteArray × ByteArray × Int))]).flatMap it3), rowR 50 3 (.slice a2 O2.length c3) O2.length (O2.flatMap it3)]) (L := fun g y => [rowR 50 3 y (a + 1 + (O2.length - a)) ((((O2.take a) ++ [(l.getD k ((⟨#[]⟩, ⟨#[]⟩, 0) : ByteArray × ByteArray × Int))]) ++ (O2.drop a)).flatMap it3), rowR 50 3 (.slice a2 O2.length c3) O2.length (O2.flatMap it3)]) (id) (fun g => o_pushAll (n' := a + 1 + (O2.length - a)) (xs' := (((O2.take a) ++ [(l.getD k ((⟨#[]⟩, ⟨#[]⟩, 0) : ByteArray × ByteArray × Int))]) ++ (O2.drop a)).flatMap it3) (m := O2.length - a) (news := (O2.drop a).flatMap it3) (by kernel_rfl) (by kernel_rfl) (fun w S h => ⟨S, vw_drop (f := it3) h (fun _ => rfl) (by omega)⟩) sl_it15 (by decide) (recs_one (f := it3) (fun _ => rfl) _) (by unfold maxLen; omega) (by omega) (by omega) (by first | rfl | (simp only [List.flatMap_append]; done) | (simp only [List.flatMap_append]; rfl))) (fun g => by kernel_rfl) (fun g y _ => ⟨trivial, by kernel_rfl, by kernel_rfl⟩), ob_val fun g w => by kernel_rfl, trivial⟩
      intro g
      refine Ex'.sub (subB_spec [0, 2, 4, 3]) ?_
      refine Ex'.as [0, 1, 2, 11] (σ' := [(0, .slice (some ⟨b25, off26, none⟩) l.length lc), (2, .slice none 0 0), (4, iV (k : Int)), (3, (g 14))]) (Γ' := [vewR 3 (.slice (some ⟨b25, off26, none⟩) l.length lc) l.length (l.flatMap it3), rowR 50 3 (.slice a2 O2.length c3) O2.length (O2.flatMap it3), rowR 50 3 (g 14) (a + 1 + (O2.length - a)) ((((O2.take a) ++ [(l.getD k ((⟨#[]⟩, ⟨#[]⟩, 0) : ByteArray × ByteArray × Int))]) ++ (O2.drop a)).flatMap it3), blkR (slOf (g 9)) [sV ((l.getD k ((⟨#[]⟩, ⟨#[]⟩, 0) : ByteArray × ByteArray × Int)).1), sV ((l.getD k ((⟨#[]⟩, ⟨#[]⟩, 0) : ByteArray × ByteArray × Int)).2.1), iV ((l.getD k ((⟨#[]⟩, ⟨#[]⟩, 0) : ByteArray × ByteArray × Int)).2.2)] 50]) (by kernel_rfl) rfl (by kernel_rfl) (by kernel_rfl) ?_
      generalize slOf (g 0) = b32
      generalize g 4 = v33
      generalize slOf (g 9) = b34
      generalize g 10 = v35
      generalize g 14 = v36
      refine Ex'.fact (i := 2) (R := rowR 50 3 v36 (a + 1 + (O2.length - a)) ((((O2.take a) ++ [(l.getD k ((⟨#[]⟩, ⟨#[]⟩, 0) : ByteArray × ByteArray × Int))]) ++ (O2.drop a)).flatMap it3)) (by kernel_rfl) row_slice ?_; rintro ⟨a37, c38, rfl, hc38, hc38'⟩
      have hc38'' : c38 ≤ 9223372036854775807 := hc38'
      refine Ex'.blockNormal ?_
      refine Ex'.next ?_
      refine Cd.region rfl ?_
      refine Sq.vals [0] (rest := [1, 2]) [iV (k : Int)] (fun w => by kernel_rfl) ?_
      refine Sq.v (r := iV ((k + 1 : Nat) : Int)) (o_add (k := .i64) (a := (k : Int)) (b := 1) (c := ((k + 1 : Nat) : Int)) (by kernel_rfl) (by kernel_rfl) (w64 (by omega) (by omega))) rfl (by kernel_rfl) ?_
      refine Sq.vals [2] (rest := []) [iV ((k + 1 : Nat) : Int)] (fun w => by kernel_rfl) ?_
      refine Sq.done ?_
      refine Ex'.round (g := (k, .slice a2 O2.length c3, O2)) (k + 1, .slice a37 (a + 1 + (O2.length - a)) c38, ((O2.take a) ++ [(l.getD k ((⟨#[]⟩, ⟨#[]⟩, 0) : ByteArray × ByteArray × Int))]) ++ (O2.drop a)) ?_ ?_ (subB_eq (l := [0, 2, 4, 3]) (by kernel_rfl)) (fun w hw => (hw.conv 2 (R := rowR 50 3 (.slice a37 (a + 1 + (O2.length - a)) c38) (a + 1 + (O2.length - a)) ((((O2.take a) ++ [(l.getD k ((⟨#[]⟩, ⟨#[]⟩, 0) : ByteArray × ByteArray × Int))]) ++ (O2.drop a)).flatMap it3)) (R' := rowR 50 3 (.slice a37 (a + 1 + (O2.length - a)) c38) (((O2.take a) ++ [(l.getD k ((⟨#[]⟩, ⟨#[]⟩, 0) : ByteArray × ByteArray × Int))]) ++ (O2.drop a)).length ((((O2.take a) ++ [(l.getD k ((⟨#[]⟩, ⟨#[]⟩, 0) : ByteArray × ByteArray × Int))]) ++ (O2.drop a)).flatMap it3)) (by kernel_rfl) (row_len (by first | rfl | omega | (simp only [List.length_take, List.length_drop, List.length_append, List.length_cons, List.length_nil]; omega) | (simp; done) | (simp; omega)))).pickB [0, 2] (by kernel_rfl) (by kernel_rfl) (by kernel_rfl))
      · (try dsimp only); exact ⟨by omega, by rw [sort15_step (by omega), ← ho2, ← hin]⟩
      · omega
  ·
    refine Cd.exit ?_
    refine Ex'.thenExit ?_
    refine Ex'.thenExit ?_
    refine Ex'.blockHit ?_
    refine Ex'.next ?_
    refine Cd.seq ?_
    refine Cd.region rfl ?_
    refine Sq.vals [0, 1] (rest := []) [.slice a2 O2.length c3, .slice a2 O2.length c3] (fun w => by kernel_rfl) ?_
    refine Sq.done ?_
    refine Ex'.next ?_
    refine Cd.ret ?_
    refine Ex'.ret Tryd.results28 (RVs.tmp (v := .slice a2 O2.length c3) (by kernel_rfl) (RVs.nil)) (fun w hw => ?_)
    have e : srt15 l = O2 := by unfold srt15; rw [ho2, List.take_of_length_le (by omega)]
    rw [e]
    exact ⟨_, ⟨(.slice a2 O2.length c3), trivial, rfl, rfl⟩, hw.pickB [0, 1] (by kernel_rfl) (by kernel_rfl) (by kernel_rfl)⟩

theorem o_eqItem15 {σ : List (Nat × Value)} {dst : Option Tmp} {ty yt : TypeId} {pos : String} {after : Array Edge} {g : Option (Nat × Bool)} {x y : Operand} (a0 b0 : ByteArray) (a1 b1 : ByteArray) (a2 b2 : Int) (hx : ev σ x = some (.agg #[sV a0, sV a1, iV a2])) (hy : ev σ y = some (.agg #[sV b0, sV b1, iV b2])) :
    OprV Tryd.prog σ ⟨dst, .binOp .eql 50 x y yt, ty, pos, after, g⟩ (.bool (decide (a0 = b0 ∧ a1 = b1 ∧ a2 = b2))) := oprV_of fun ρ hρ w => by
  have u3 := Tryd.underlying3
  have a3_ := Tryd.isAgg3
  have z3_ := Tryd.sizeOf3
  have u9 := Tryd.underlying9
  have a9_ := Tryd.isAgg9
  have z9_ := Tryd.sizeOf9
  have hS : Tryd.prog.underlying 50 = some (.struct (Tryd.prog.fieldsOf 50)) := by kernel_rfl
  have hp : Tryd.prog.stoodInHeld 50 = false := by kernel_rfl
  simp only [execOp, hρ x _ hx, hρ y _ hy, Sem.run_bind, run_eqGuard_agg (P := Tryd.prog) w .eql 50 _ _ _ _ (by kernel_rfl), Result.andThen_ok]
  rw [run_eql_struct, show (10000 : Nat) = 9999 + 1 from rfl, run_equalIn_agg w 9999 50 _ _ hS hp]
  simp only [Program.fieldsOf, Tryd.underlying50]
  go_simp
  by_cases h0 : a0 = b0 <;> by_cases h1 : a1 = b1 <;> by_cases h2 : a2 = b2 <;> simp [h0, h1, h2, tl_iff]
theorem o_eqItem15_ne {σ : List (Nat × Value)} {dst : Option Tmp} {ty yt : TypeId} {pos : String} {after : Array Edge} {g : Option (Nat × Bool)} {x y : Operand} (a0 b0 : ByteArray) (a1 b1 : ByteArray) (a2 b2 : Int) (hx : ev σ x = some (.agg #[sV a0, sV a1, iV a2])) (hy : ev σ y = some (.agg #[sV b0, sV b1, iV b2])) :
    OprV Tryd.prog σ ⟨dst, .binOp .neq 50 x y yt, ty, pos, after, g⟩ (.bool (decide (¬ (a0 = b0 ∧ a1 = b1 ∧ a2 = b2)))) := oprV_of fun ρ hρ w => by
  have u3 := Tryd.underlying3
  have a3_ := Tryd.isAgg3
  have z3_ := Tryd.sizeOf3
  have u9 := Tryd.underlying9
  have a9_ := Tryd.isAgg9
  have z9_ := Tryd.sizeOf9
  have hS : Tryd.prog.underlying 50 = some (.struct (Tryd.prog.fieldsOf 50)) := by kernel_rfl
  have hp : Tryd.prog.stoodInHeld 50 = false := by kernel_rfl
  simp only [execOp, hρ x _ hx, hρ y _ hy, Sem.run_bind, run_eqGuard_agg (P := Tryd.prog) w .neq 50 _ _ _ _ (by kernel_rfl), Result.andThen_ok]
  rw [run_neq_struct, show (10000 : Nat) = 9999 + 1 from rfl, run_equalIn_agg w 9999 50 _ _ hS hp]
  simp only [Program.fieldsOf, Tryd.underlying50]
  go_simp
  by_cases h0 : a0 = b0 <;> by_cases h1 : a1 = b1 <;> by_cases h2 : a2 = b2 <;> simp [h0, h1, h2, tl_iff]

set_option maxHeartbeats 8000000 in
set_option maxRecDepth 100000 in
theorem t_same15 {la ma : Option Addr} {lc mc : Nat} {l m : List It} (hb : l.length ≤ 1000000) (he : l = m) : Tri Tryd.prog 27 #[.slice la l.length lc, .slice ma m.length mc] [vewR 3 (.slice la l.length lc) l.length (l.flatMap it3), vewR 3 (.slice ma m.length mc) m.length (m.flatMap it3)] (Same [vewR 3 (.slice la l.length lc) l.length (l.flatMap it3), vewR 3 (.slice ma m.length mc) m.length (m.flatMap it3)] (bV true)) := by
  refine Tri.enter (args := [.slice la l.length lc, .slice ma m.length mc]) Tryd.func27 rfl rfl rfl (fun B wz => ?_)
  refine Cd.fact (i := 0) rfl vew_cap ?_; intro hcap0
  refine Cd.fact (i := 1) rfl vew_cap ?_; intro hcap1
  have hlm := congrArg List.length he
  refine Cd.seq ?_
  refine Cd.region rfl ?_
  refine Sq.vals [0] (rest := []) [bV false] (fun w => by kernel_rfl) ?_
  refine Sq.done ?_
  refine Ex'.next ?_
  refine Cd.seq ?_
  refine Cd.seq ?_
  refine Cd.region rfl ?_
  refine Sq.vals [0, 1, 2, 3] (rest := [4]) [.slice la l.length lc, iV (l.length : Int), .slice ma m.length mc, iV (m.length : Int)] (fun w => by kernel_rfl) ?_
  refine Sq.v (r := bV (decide ((l.length : Int) ≠ (m.length : Int)))) (o_neI (k := .i64) (a := (l.length : Int)) (b := (m.length : Int)) (by kernel_rfl) (by kernel_rfl)) rfl (by kernel_rfl) ?_
  refine Sq.re 10 rfl (vF (fun z => z (by rw [he]))) ?_
  refine Sq.done ?_
  refine Ex'.next ?_
  refine Cd.condF (by kernel_rfl) ?_
  refine Cd.skip ?_
  refine Ex'.next ?_
  refine Cd.seq ?_
  refine Cd.seq ?_
  refine Cd.region rfl ?_
  refine Sq.vals [0] (rest := []) [iV 0] (fun w => by kernel_rfl) ?_
  refine Sq.done ?_
  refine Ex'.next ?_
  refine Cd.block ?_
  refine Cd.loop (ι := Nat) (fun k => k ≤ l.length) (fun k => l.length - k) (fun k => [(0, .slice la l.length lc), (1, .slice ma m.length mc), (5, iV (k : Int))]) (fun k => [vewR 3 (.slice la l.length lc) l.length (l.flatMap it3), vewR 3 (.slice ma m.length mc) m.length (m.flatMap it3)]) 0 (Nat.zero_le _) (subB_eq (l := [0, 1, 5]) (by kernel_rfl)) (fun w hw => hw.pickB [0, 1] (by kernel_rfl) (by kernel_rfl) (by kernel_rfl)) ?_
  rintro k hL1
  try dsimp only at hL1 ⊢
  have hk := hL1
  refine Cd.seq ?_
  refine Cd.seq ?_
  refine Cd.region rfl ?_
  refine Sq.vals [0, 1, 2, 3] (rest := []) [iV (k : Int), .slice la l.length lc, iV (l.length : Int), bV (decide ((k : Int) < (l.length : Int)))] (fun w => by kernel_rfl) ?_
  refine Sq.done ?_
  refine Ex'.next ?_
  refine Cd.case (p := (k : Int) < (l.length : Int)) (by kernel_rfl) (fun h2 => ?_) (fun h2 => ?_)
  ·
    refine Cd.skip ?_
    refine Ex'.next ?_
    refine Cd.seq ?_
    refine Cd.block ?_
    refine Cd.seq ?_
    refine Cd.fact (i := 0) (R := vewR 3 (.slice la l.length lc) l.length (l.flatMap it3)) (by kernel_rfl) (vew_addr (by omega)) ?_; rintro ⟨b3, off4, rfl⟩
    refine Cd.fact (i := 1) (R := vewR 3 (.slice ma m.length mc) m.length (m.flatMap it3)) (by kernel_rfl) (vew_addr (by omega)) ?_; rintro ⟨b5, off6, rfl⟩
    refine Cd.plan [0, 0, 3, 7, 0, 0, 48, 112, 255] [(3, [(0, false, 0)]), (7, [(1, false, 0)])] [] [] [] [fun g => .slice (some ⟨b3, off4, none⟩) l.length lc, fun g => iV (k : Int), fun g => pV b3 (off4 + k * 3), fun g => .agg #[sV ((l.getD k ((⟨#[]⟩, ⟨#[]⟩, 0) : ByteArray × ByteArray × Int)).1), sV ((l.getD k ((⟨#[]⟩, ⟨#[]⟩, 0) : ByteArray × ByteArray × Int)).2.1), iV ((l.getD k ((⟨#[]⟩, ⟨#[]⟩, 0) : ByteArray × ByteArray × Int)).2.2)], fun g => .slice (some ⟨b5, off6, none⟩) m.length mc, fun g => iV (k : Int), fun g => pV b5 (off6 + k * 3), fun g => .agg #[sV ((m.getD k ((⟨#[]⟩, ⟨#[]⟩, 0) : ByteArray × ByteArray × Int)).1), sV ((m.getD k ((⟨#[]⟩, ⟨#[]⟩, 0) : ByteArray × ByteArray × Int)).2.1), iV ((m.getD k ((⟨#[]⟩, ⟨#[]⟩, 0) : ByteArray × ByteArray × Int)).2.2)], fun g => bV false] (by kernel_rfl) (by kernel_rfl) rfl (trivial) ?_ ?_
    · exact ⟨ob_val fun g w => by kernel_rfl, ob_val fun g w => by kernel_rfl, ob_v (v := fun g => pV b3 (off4 + k * 3)) (fun g => o_idx (b := b3) (cap := lc) (e := 24) (off := off4) (n := l.length) (kd := .i64) (q := (k : Int)) (i := k) (size := 3) (j := off4 + k * 3) (by kernel_rfl) (by kernel_rfl) (by rfl) (by omega) Tryd.underlying42 (by kernel_rfl) (by omega)) (fun g => by kernel_rfl), ob_s (l := fun g => [vewR 3 (.slice (some ⟨b3, off4, none⟩) l.length lc) l.length (l.flatMap it3)]) (l' := fun g => [vewR 3 (.slice (some ⟨b3, off4, none⟩) l.length lc) l.length (l.flatMap it3)]) (v := fun g => .agg #[sV ((l.getD k ((⟨#[]⟩, ⟨#[]⟩, 0) : ByteArray × ByteArray × Int)).1), sV ((l.getD k ((⟨#[]⟩, ⟨#[]⟩, 0) : ByteArray × ByteArray × Int)).2.1), iV ((l.getD k ((⟨#[]⟩, ⟨#[]⟩, 0) : ByteArray × ByteArray × Int)).2.2)]) (fun g => o_loadViewN (off := off4) (j := k * 3) [sV ((l.getD k ((⟨#[]⟩, ⟨#[]⟩, 0) : ByteArray × ByteArray × Int)).1), sV ((l.getD k ((⟨#[]⟩, ⟨#[]⟩, 0) : ByteArray × ByteArray × Int)).2.1), iV ((l.getD k ((⟨#[]⟩, ⟨#[]⟩, 0) : ByteArray × ByteArray × Int)).2.2)] (by kernel_rfl) (by omega) (by kernel_rfl) (rec_gets (f := it3) (k := 3) (z := ((⟨#[]⟩, ⟨#[]⟩, 0) : ByteArray × ByteArray × Int)) (l := l) (i := k) (o := 0) (fun _ => rfl) (by omega) (Nat.le_of_ble_eq_true rfl) rfl)) (fun g => by kernel_rfl), ob_val fun g w => by kernel_rfl, ob_val fun g w => by kernel_rfl, ob_v (v := fun g => pV b5 (off6 + k * 3)) (fun g => o_idx (b := b5) (cap := mc) (e := 50) (off := off6) (n := m.length) (kd := .i64) (q := (k : Int)) (i := k) (size := 3) (j := off6 + k * 3) (by kernel_rfl) (by kernel_rfl) (by rfl) (by omega) Tryd.underlying47 (by kernel_rfl) (by omega)) (fun g => by kernel_rfl), ob_s (l := fun g => [vewR 3 (.slice (some ⟨b5, off6, none⟩) m.length mc) m.length (m.flatMap it3)]) (l' := fun g => [vewR 3 (.slice (some ⟨b5, off6, none⟩) m.length mc) m.length (m.flatMap it3)]) (v := fun g => .agg #[sV ((m.getD k ((⟨#[]⟩, ⟨#[]⟩, 0) : ByteArray × ByteArray × Int)).1), sV ((m.getD k ((⟨#[]⟩, ⟨#[]⟩, 0) : ByteArray × ByteArray × Int)).2.1), iV ((m.getD k ((⟨#[]⟩, ⟨#[]⟩, 0) : ByteArray × ByteArray × Int)).2.2)]) (fun g => o_loadViewN (off := off6) (j := k * 3) [sV ((m.getD k ((⟨#[]⟩, ⟨#[]⟩, 0) : ByteArray × ByteArray × Int)).1), sV ((m.getD k ((⟨#[]⟩, ⟨#[]⟩, 0) : ByteArray × ByteArray × Int)).2.1), iV ((m.getD k ((⟨#[]⟩, ⟨#[]⟩, 0) : ByteArray × ByteArray × Int)).2.2)] (by kernel_rfl) (by omega) (by kernel_rfl) (rec_gets (f := it3) (k := 3) (z := ((⟨#[]⟩, ⟨#[]⟩, 0) : ByteArray × ByteArray × Int)) (l := m) (i := k) (o := 0) (fun _ => rfl) (by omega) (Nat.le_of_ble_eq_true rfl) rfl)) (fun g => by kernel_rfl), ob_v (v := fun g => bV false) (fun g => OprV.re (o_eqItem15_ne ((l.getD k ((⟨#[]⟩, ⟨#[]⟩, 0) : ByteArray × ByteArray × Int)).1) ((m.getD k ((⟨#[]⟩, ⟨#[]⟩, 0) : ByteArray × ByteArray × Int)).1) ((l.getD k ((⟨#[]⟩, ⟨#[]⟩, 0) : ByteArray × ByteArray × Int)).2.1) ((m.getD k ((⟨#[]⟩, ⟨#[]⟩, 0) : ByteArray × ByteArray × Int)).2.1) ((l.getD k ((⟨#[]⟩, ⟨#[]⟩, 0) : ByteArray × ByteArray × Int)).2.2) ((m.getD k ((⟨#[]⟩, ⟨#[]⟩, 0) : ByteArray × ByteArray × Int)).2.2) (by kernel_rfl) (by kernel_rfl)) (vF (show ¬ (¬ ((l.getD k ((⟨#[]⟩, ⟨#[]⟩, 0) : ByteArray × ByteArray × Int)).1 = (m.getD k ((⟨#[]⟩, ⟨#[]⟩, 0) : ByteArray × ByteArray × Int)).1 ∧ (l.getD k ((⟨#[]⟩, ⟨#[]⟩, 0) : ByteArray × ByteArray × Int)).2.1 = (m.getD k ((⟨#[]⟩, ⟨#[]⟩, 0) : ByteArray × ByteArray × Int)).2.1 ∧ (l.getD k ((⟨#[]⟩, ⟨#[]⟩, 0) : ByteArray × ByteArray × Int)).2.2 = (m.getD k ((⟨#[]⟩, ⟨#[]⟩, 0) : ByteArray × ByteArray × Int)).2.2)) from fun z => z (by rw [he]; exact ⟨rfl, rfl, rfl⟩)))) (fun g => by kernel_rfl), trivial⟩
    intro g
    refine Ex'.sub (subB_spec [0, 1, 5, 25]) ?_
    refine Ex'.as [0, 1] (σ' := [(0, .slice (some ⟨b3, off4, none⟩) l.length lc), (1, .slice (some ⟨b5, off6, none⟩) m.length mc), (5, iV (k : Int)), (25, bV false)]) (Γ' := [vewR 3 (.slice (some ⟨b3, off4, none⟩) l.length lc) l.length (l.flatMap it3), vewR 3 (.slice (some ⟨b5, off6, none⟩) m.length mc) m.length (m.flatMap it3)]) (by kernel_rfl) rfl (by kernel_rfl) (by kernel_rfl) ?_
    refine Ex'.next ?_
    refine Cd.condF (by kernel_rfl) ?_
    refine Cd.skip ?_
    refine Ex'.blockNormal ?_
    refine Ex'.next ?_
    refine Cd.region rfl ?_
    refine Sq.vals [0] (rest := [1, 2]) [iV (k : Int)] (fun w => by kernel_rfl) ?_
    refine Sq.v (r := iV ((k + 1 : Nat) : Int)) (o_add (k := .i64) (a := (k : Int)) (b := 1) (c := ((k + 1 : Nat) : Int)) (by kernel_rfl) (by kernel_rfl) (w64 (by omega) (by omega))) rfl (by kernel_rfl) ?_
    refine Sq.vals [2] (rest := []) [iV ((k + 1 : Nat) : Int)] (fun w => by kernel_rfl) ?_
    refine Sq.done ?_
    refine Ex'.round (g := k) (k + 1) ?_ ?_ (subB_eq (l := [0, 1, 5]) (by kernel_rfl)) (fun w hw => hw.pickB [0, 1] (by kernel_rfl) (by kernel_rfl) (by kernel_rfl))
    · (try dsimp only); exact (show k + 1 ≤ _ by omega)
    · omega
  ·
    refine Cd.exit ?_
    refine Ex'.thenExit ?_
    refine Ex'.thenExit ?_
    refine Ex'.blockHit ?_
    refine Ex'.next ?_
    refine Cd.seq ?_
    refine Cd.region rfl ?_
    refine Sq.vals [0] (rest := []) [bV true] (fun w => by kernel_rfl) ?_
    refine Sq.done ?_
    refine Ex'.next ?_
    refine Cd.ret ?_
    refine Ex'.ret Tryd.results27 (RVs.tmp (v := bV true) (by kernel_rfl) (RVs.nil)) (fun w hw => ?_)
    exact ⟨_, ⟨rfl, rfl⟩, hw.pickB [0, 1] (by kernel_rfl) (by kernel_rfl) (by kernel_rfl)⟩

end Go.Proofs.YtnijaeipkbpibaaDoor
