/- few. -/
import Derived.Test.YtjijjfdkghcjkaaSrlPureC
import Derived.Test.YtjijjfdkghcjkaaActs
set_option linter.unusedVariables false
namespace Go.Proofs.Ytjijjfdkghcjkaa
open Go.RowKit Go.MapKept
def few3 (xs : List Act3) : Prop := xs.length ≤ 200 ∧ ∀ x ∈ xs, x.2.1.size ≤ 200
theorem take_succ_all {α : Type} {xs : List α} {k : Nat} {y : α} {p : α → Prop} (h : xs[k]? = some y) (hall : ∀ x ∈ xs.take k, p x) (hy : p y) : ∀ x ∈ xs.take (k + 1), p x := by
  intro x hx
  rw [List.take_add_one, h] at hx
  rcases List.mem_append.1 hx with q | q
  · exact hall x q
  · simp at q; subst q; exact hy

set_option maxHeartbeats 8000000 in
set_option maxRecDepth 100000 in
theorem t_few {w0 : World} {a : Option Addr} {cap : Nat} {xs : List Act3} (hl : xs.length ≤ 9223372036854775807) (hs : ScriptIn w0 (.slice a xs.length cap) xs) : Tri Try.prog 25 #[.slice a xs.length cap] [oldR w0] (PostE (fun b : Bool => b = true → few3 xs) (fun b => .bool b) (fun _ => [oldR w0])) := by
  refine Tri.enter (args := [.slice a xs.length cap]) Try.func25 rfl rfl rfl (fun B wz => ?_)
  refine Cd.seq ?_
  refine Cd.region rfl ?_
  refine Sq.vals [0] (rest := []) [bV false] (fun w => by kernel_rfl) ?_
  refine Sq.done ?_
  refine Ex'.next ?_
  refine Cd.seq ?_
  refine Cd.seq ?_
  refine Cd.region rfl ?_
  refine Sq.vals [0] (rest := []) [iV 0] (fun w => by kernel_rfl) ?_
  refine Sq.done ?_
  refine Ex'.next ?_
  refine Cd.block ?_
  refine Cd.loop (ι := Nat) (fun k => k ≤ xs.length ∧ k ≤ 200 ∧ ∀ x ∈ xs.take k, x.2.1.size ≤ 200) (fun k => xs.length - k) (fun k => [(0, .slice a xs.length cap), (3, iV (k : Int))]) (fun k => [oldR w0]) 0 (⟨Nat.zero_le _, Nat.zero_le _, by simp⟩) (subB_eq (l := [0, 3]) (by kernel_rfl)) (fun w hw => hw.pickB [0] (by kernel_rfl) (by kernel_rfl) (by kernel_rfl)) ?_
  rintro k hL1
  try dsimp only at hL1 ⊢
  obtain ⟨hk, hk2, hall⟩ := hL1
  refine Cd.seq ?_
  refine Cd.seq ?_
  refine Cd.region rfl ?_
  refine Sq.vals [0, 1, 2, 3] (rest := []) [iV (k : Int), .slice a xs.length cap, iV (xs.length : Int), bV (decide ((k : Int) < (xs.length : Int)))] (fun w => by kernel_rfl) ?_
  refine Sq.done ?_
  refine Ex'.next ?_
  refine Cd.case (p := (k : Int) < (xs.length : Int)) (by kernel_rfl) (fun h2 => ?_) (fun h2 => ?_)
  ·
    obtain ⟨g3, off4, rfl⟩ := hs.addr (by omega)
    obtain ⟨kdk, kyk, nnk, hgk, hwk, hrk⟩ := hs.at (k := k) (by omega)
    refine Cd.skip ?_
    refine Ex'.next ?_
    refine Cd.seq ?_
    refine Cd.block ?_
    refine Cd.seq ?_
    refine Cd.region rfl ?_
    refine Sq.vals [0, 1, 2] (rest := [3, 4, 5, 6, 7, 8, 9, 10]) [iV (k : Int), bV (decide ((k : Int) ≥ 200)), bV (decide ((k : Int) ≥ 200))] (fun w => by kernel_rfl) ?_
    refine Sq.case 12 (p := (k : Int) ≥ 200) rfl (fun h5 => ?_) (fun h5 => ?_)
    ·
      refine Sq.vals [3, 4, 5, 6, 7, 8, 9, 10] (rest := []) [undef, undef, undef, undef, undef, undef, undef, bV true] (fun w => by kernel_rfl) ?_
      refine Sq.done ?_
      refine Ex'.next ?_
      refine Cd.condT (by kernel_rfl) ?_
      refine Cd.seq ?_
      refine Cd.region rfl ?_
      refine Sq.vals [0] (rest := []) [bV false] (fun w => by kernel_rfl) ?_
      refine Sq.done ?_
      refine Ex'.next ?_
      refine Cd.ret ?_
      refine Ex'.blockRet ?_
      refine Ex'.thenRet ?_
      refine Ex'.thenRet ?_
      refine Ex'.blockRet ?_
      refine Ex'.thenRet ?_
      refine Ex'.ret Try.results25 (RVs.tmp (v := bV false) (by kernel_rfl) (RVs.nil)) (fun w hw => ?_)
      exact ⟨_, ⟨false, (fun q => by cases q), rfl, rfl⟩, hw⟩
    ·
      refine Sq.vals [3, 4] (rest := [5, 6, 7, 8, 9, 10]) [.slice (some ⟨g3, off4, none⟩) xs.length cap, iV (k : Int)] (fun w => by kernel_rfl) ?_
      refine Sq.v (r := pV g3 (off4 + k * 3)) (o_idx (b := g3) (cap := cap) (e := 45) (off := off4) (n := xs.length) (kd := .i64) (q := (k : Int)) (i := k) (size := 3) (j := off4 + k * 3) (by kernel_rfl) (by kernel_rfl) (by rfl) (by omega) Try.underlying39 (by kernel_rfl) (by omega)) rfl (by kernel_rfl) ?_
      refine Sq.vals [6] (rest := [7, 8, 9, 10]) [pV g3 (off4 + k * 3 + 1)] (fun w => by kernel_rfl) ?_
      refine Sq.same [0] (l := [oldR w0]) (o_loadOld (b := g3) (j := off4 + k * 3 + 1) (u := sV kyk) (by kernel_rfl) (by kernel_rfl) (hrk 1 _ rfl)) (by kernel_rfl) rfl (by kernel_rfl) rfl ?_
      refine Sq.vals [8, 9, 10] (rest := []) [iV (kyk.size : Int), bV (decide ((kyk.size : Int) > 200)), bV (decide ((kyk.size : Int) > 200))] (fun w => by kernel_rfl) ?_
      refine Sq.done ?_
      refine Ex'.next ?_
      refine Cd.case (p := (kyk.size : Int) > 200) (by kernel_rfl) (fun h6 => ?_) (fun h6 => ?_)
      ·
        refine Cd.seq ?_
        refine Cd.region rfl ?_
        refine Sq.vals [0] (rest := []) [bV false] (fun w => by kernel_rfl) ?_
        refine Sq.done ?_
        refine Ex'.next ?_
        refine Cd.ret ?_
        refine Ex'.blockRet ?_
        refine Ex'.thenRet ?_
        refine Ex'.thenRet ?_
        refine Ex'.blockRet ?_
        refine Ex'.thenRet ?_
        refine Ex'.ret Try.results25 (RVs.tmp (v := bV false) (by kernel_rfl) (RVs.nil)) (fun w hw => ?_)
        exact ⟨_, ⟨false, (fun q => by cases q), rfl, rfl⟩, hw⟩
      ·
        refine Cd.skip ?_
        refine Ex'.blockNormal ?_
        refine Ex'.next ?_
        refine Cd.region rfl ?_
        refine Sq.vals [0] (rest := [1, 2]) [iV (k : Int)] (fun w => by kernel_rfl) ?_
        refine Sq.v (r := iV ((k : Int) + 1)) (o_add (k := .i64) (a := (k : Int)) (b := 1) (c := (k : Int) + 1) (by kernel_rfl) (by kernel_rfl) (w64 rfl (by omega))) rfl (by kernel_rfl) ?_
        refine Sq.vals [2] (rest := []) [iV ((k : Int) + 1)] (fun w => by kernel_rfl) ?_
        refine Sq.done ?_
        refine Ex'.round (g := k) (k + 1) ?_ ?_ (subB_eq (l := [0, 3]) (by kernel_rfl)) (fun w hw => hw.pickB [0] (by kernel_rfl) (by kernel_rfl) (by kernel_rfl))
        · (try dsimp only); exact ⟨by omega, by omega, take_succ_all hgk hall (by show kyk.size ≤ 200; omega)⟩
        · omega
  ·
    refine Cd.exit ?_
    refine Ex'.thenExit ?_
    refine Ex'.thenExit ?_
    refine Ex'.blockHit ?_
    refine Ex'.next ?_
    refine Cd.seq ?_
    refine Cd.region rfl ?_
    refine Sq.vals [0] (rest := []) [bV true] (fun w => by kernel_rfl) ?_
    refine Sq.done ?_
    refine Ex'.next ?_
    refine Cd.ret ?_
    refine Ex'.ret Try.results25 (RVs.tmp (v := bV true) (by kernel_rfl) (RVs.nil)) (fun w hw => ?_)
    exact ⟨_, ⟨true, fun _ => ⟨by omega, fun x hx => hall x (by rw [List.take_of_length_le (by omega)]; exact hx)⟩, rfl, rfl⟩, hw⟩

end Go.Proofs.Ytjijjfdkghcjkaa
