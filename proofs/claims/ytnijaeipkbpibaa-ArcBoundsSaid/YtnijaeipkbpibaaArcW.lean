/- The same, further. -/
import Derived.Test.YtnijaeipkbpibaaArcWP0
set_option linter.unusedVariables false
namespace Go.Proofs.Ytnijaeipkbpibaa
open Go.RowKit Go.MapKept

set_option maxHeartbeats 4000000 in
set_option maxRecDepth 100000 in
theorem arc_VictimC {b : Nat} {lt1 : Nat} {lt2 : Nat} {lb1 : Nat} {lb2 : Nat} {n : Nat} {most : Int} {p : Int} {t1 : List ByteArray} {t2 : List ByteArray} {b1 : List ByteArray} {b2 : List ByteArray}  (hb : n ≤ 1000000000) (h0 : ¬ ((t1.length : Int) ≥ most)) (h1 : ¬ ((t1.length : Int) > 0 ∧ ((t1.length : Int) > p ∨ (t2.length : Int) = 0))) : Tri Try.prog 34 #[pV b 0] (arcL b lt1 lt2 lb1 lb2 most p t1 t2 b1 b2 n) (Same (arcL b lt1 lt2 lb1 lb2 most p t1 t2 b1 b2 n) (.tuple #[sV (t2.getLast?.getD ⟨#[]⟩), bV (decide (0 < t2.length))])) := by
  refine Tri.enter (args := [pV b 0]) Try.func34 rfl rfl rfl (fun B wz => ?_)
  refine Cd.seq ?_
  refine Cd.region rfl ?_
  refine Sq.vals [0, 1] (rest := []) [sV ⟨#[]⟩, bV false] (fun w => by kernel_rfl) ?_
  refine Sq.done ?_
  refine Ex'.next ?_
  refine Cd.seq ?_
  refine Cd.seq ?_
  refine Cd.plan [0, 1, 3, 7, 15, 31, 0, 64, 192, 448, 1023] [(4, [(0, false, 0)]), (5, [(1, false, 0)]), (9, [(0, false, 0)])] [] [] [] [fun g => pV b 0, fun g => pV b 0, fun g => pV b 2, fun g => pV b 2, fun g => pV lt1 0, fun g => iV (t1.length : Int), fun g => pV b 0, fun g => pV b 0, fun g => pV b 0, fun g => iV most, fun g => bV false] (by kernel_rfl) (by kernel_rfl) rfl (trivial) ?_ ?_
  · exact ⟨ob_val fun g w => by kernel_rfl, ob_val fun g w => by kernel_rfl, ob_val fun g w => by kernel_rfl, ob_val fun g w => by kernel_rfl, ob_s (l := fun g => [arcB b lt1 lt2 lb1 lb2 most p]) (l' := fun g => [arcB b lt1 lt2 lb1 lb2 most p]) (v := fun g => pV lt1 0) (fun g => o_load (i := 2) (v := pV lt1 0) (by kernel_rfl) (by kernel_rfl) (by kernel_rfl)) (fun g => by kernel_rfl), ob_s (l := fun g => [llR lt1 t1 n]) (l' := fun g => [llR lt1 t1 n]) (v := fun g => iV (t1.length : Int)) (fun g => o_call (by kernel_rfl) Try.call26 (t_Len (ks := t1) (n := n))) (fun g => by kernel_rfl), ob_val fun g w => by kernel_rfl, ob_val fun g w => by kernel_rfl, ob_val fun g w => by kernel_rfl, ob_s (l := fun g => [arcB b lt1 lt2 lb1 lb2 most p]) (l' := fun g => [arcB b lt1 lt2 lb1 lb2 most p]) (v := fun g => iV most) (fun g => o_load (i := 0) (v := iV most) (by kernel_rfl) (by kernel_rfl) (by kernel_rfl)) (fun g => by kernel_rfl), ob_v (v := fun g => bV false) (fun g => OprV.re (pureV (v := bV (decide ((t1.length : Int) ≥ most))) (by kernel_rfl) rfl fun w => by kernel_rfl) (vF h0)) (fun g => by kernel_rfl), trivial⟩
  intro g
  refine Ex'.sub (subB_spec [0, 2, 3, 14]) ?_
  refine Ex'.as [0, 1, 2, 3, 4] (σ' := [(0, pV b 0), (2, sV ⟨#[]⟩), (3, bV false), (14, bV false)]) (Γ' := [arcB b lt1 lt2 lb1 lb2 most p, llR lt1 t1 n, llR lt2 t2 n, llR lb1 b1 n, llR lb2 b2 n]) (by kernel_rfl) rfl (by kernel_rfl) (by kernel_rfl) ?_
  refine Ex'.next ?_
  refine Cd.condF (by kernel_rfl) ?_
  refine Cd.skip ?_
  refine Ex'.next ?_
  refine Cd.seq ?_
  refine Cd.sub (subB_spec [0, 14]) ?_
  refine Cd.plan [0, 0, 2, 1, 9, 31, 63, 127, 255, 255, 1023, 2047] [(2, [(0, false, 0), (1, false, 0), (2, false, 0), (3, false, 0), (4, false, 0)]), (6, [(0, false, 0)]), (7, [(2, false, 0)])] [] [] [] [fun g => pV b 0, fun g => pV b 0, fun g => iV 1, fun g => pV b 0, fun g => pV b 2, fun g => pV b 3, fun g => pV lt2 0, fun g => .tuple #[sV (t2.getLast?.getD ⟨#[]⟩), bV (decide (0 < t2.length))], fun g => sV (t2.getLast?.getD ⟨#[]⟩), fun g => bV (decide (0 < t2.length)), fun g => sV (t2.getLast?.getD ⟨#[]⟩), fun g => bV (decide (0 < t2.length))] (by kernel_rfl) (by kernel_rfl) rfl (trivial) ?_ ?_
  · exact ⟨ob_val fun g w => by kernel_rfl, ob_val fun g w => by kernel_rfl, ob_s (l := fun g => [arcB b lt1 lt2 lb1 lb2 most p, llR lt1 t1 n, llR lt2 t2 n, llR lb1 b1 n, llR lb2 b2 n]) (l' := fun g => [arcB b lt1 lt2 lb1 lb2 most p, llR lt1 t1 n, llR lt2 t2 n, llR lb1 b1 n, llR lb2 b2 n]) (v := fun g => iV 1) (fun g => o_call (by kernel_rfl) Try.call44 (arc_fromF1 (n := n) (most := most) (p := p) (t1 := t1) (t2 := t2) (b1 := b1) (b2 := b2) (by omega) h1)) (fun g => by kernel_rfl), ob_val fun g w => by kernel_rfl, ob_val fun g w => by kernel_rfl, ob_val fun g w => by kernel_rfl, ob_s (l := fun g => [arcB b lt1 lt2 lb1 lb2 most p]) (l' := fun g => [arcB b lt1 lt2 lb1 lb2 most p]) (v := fun g => pV lt2 0) (fun g => o_load (i := 3) (v := pV lt2 0) (by kernel_rfl) (by kernel_rfl) (by kernel_rfl)) (fun g => by kernel_rfl), ob_s (l := fun g => [llR lt2 t2 n]) (l' := fun g => [llR lt2 t2 n]) (v := fun g => .tuple #[sV (t2.getLast?.getD ⟨#[]⟩), bV (decide (0 < t2.length))]) (fun g => o_call (by kernel_rfl) Try.call43 (t_Last (ks := t2) (n := n))) (fun g => by kernel_rfl), ob_val fun g w => by kernel_rfl, ob_val fun g w => by kernel_rfl, ob_val fun g w => by kernel_rfl, ob_val fun g w => by kernel_rfl, trivial⟩
  intro g
  refine Ex'.sub (subB_spec [2, 3]) ?_
  refine Ex'.as [0, 1, 2, 3, 4] (σ' := [(2, sV (t2.getLast?.getD ⟨#[]⟩)), (3, bV (decide (0 < t2.length)))]) (Γ' := [arcB b lt1 lt2 lb1 lb2 most p, llR lt1 t1 n, llR lt2 t2 n, llR lb1 b1 n, llR lb2 b2 n]) (by kernel_rfl) rfl (by kernel_rfl) (by kernel_rfl) ?_
  refine Ex'.next ?_
  refine Cd.ret ?_
  refine Ex'.ret Try.results34 (RVs.tmp (v := sV (t2.getLast?.getD ⟨#[]⟩)) (by kernel_rfl) (RVs.tmp (v := bV (decide (0 < t2.length))) (by kernel_rfl) (RVs.nil))) (fun w hw => ?_)
  exact ⟨_, ⟨rfl, rfl⟩, hw.pickB [0, 1, 2, 3, 4] (by kernel_rfl) (by kernel_rfl) (by kernel_rfl)⟩

def arcDrop (most : Int) (p : Int) (t1 : List ByteArray) (t2 : List ByteArray) (b1 : List ByteArray) (b2 : List ByteArray)  : List ByteArray × List ByteArray × ByteArray × Bool :=
  if (t1.length : Int) ≥ most then if 0 < t1.length then (rm t1 (t1.getLast?.getD ⟨#[]⟩), t2, t1.getLast?.getD ⟨#[]⟩, decide (0 < t1.length)) else (t1, t2, t1.getLast?.getD ⟨#[]⟩, decide (0 < t1.length)) else if (t1.length : Int) > 0 ∧ ((t1.length : Int) > p ∨ (t2.length : Int) = 0) then if 0 < t1.length then (rm t1 (t1.getLast?.getD ⟨#[]⟩), t2, t1.getLast?.getD ⟨#[]⟩, decide (0 < t1.length)) else (t1, t2, t1.getLast?.getD ⟨#[]⟩, decide (0 < t1.length)) else if 0 < t2.length then if t2.getLast?.getD ⟨#[]⟩ ∈ t1 then (rm t1 (t2.getLast?.getD ⟨#[]⟩), t2, t2.getLast?.getD ⟨#[]⟩, decide (0 < t2.length)) else (t1, rm t2 (t2.getLast?.getD ⟨#[]⟩), t2.getLast?.getD ⟨#[]⟩, decide (0 < t2.length)) else (t1, t2, t2.getLast?.getD ⟨#[]⟩, decide (0 < t2.length))

set_option maxHeartbeats 4000000 in
set_option maxRecDepth 100000 in
theorem arc_Drop {b : Nat} {lt1 : Nat} {lt2 : Nat} {lb1 : Nat} {lb2 : Nat} {n : Nat} {most : Int} {p : Int} {t1 : List ByteArray} {t2 : List ByteArray} {b1 : List ByteArray} {b2 : List ByteArray}  (hb : n ≤ 1000000000) : Tri Try.prog 21 #[pV b 0] (arcL b lt1 lt2 lb1 lb2 most p t1 t2 b1 b2 n) (Same (arcL b lt1 lt2 lb1 lb2 most p ((arcDrop most p t1 t2 b1 b2).1) ((arcDrop most p t1 t2 b1 b2).2.1) b1 b2 n) (.tuple #[sV ((arcDrop most p t1 t2 b1 b2).2.2.1), bV ((arcDrop most p t1 t2 b1 b2).2.2.2)])) := by
  refine Tri.enter (args := [pV b 0]) Try.func21 rfl rfl rfl (fun B wz => ?_)
  refine Cd.seq ?_
  refine Cd.region rfl ?_
  refine Sq.vals [0, 1] (rest := []) [sV ⟨#[]⟩, bV false] (fun w => by kernel_rfl) ?_
  refine Sq.done ?_
  refine Ex'.next ?_
  refine Cd.seq ?_
  refine Cd.region rfl ?_
  refine Sq.vals [0] (rest := [1, 2, 3, 4, 5, 6]) [pV b 0] (fun w => by kernel_rfl) ?_
  by_cases h1 : (t1.length : Int) ≥ most
  ·
    refine Sq.same [0, 1, 2, 3, 4] (l := arcL b lt1 lt2 lb1 lb2 most p t1 t2 b1 b2 n) (o_call (by kernel_rfl) Try.call34 (arc_VictimA (n := n) (most := most) (p := p) (t1 := t1) (t2 := t2) (b1 := b1) (b2 := b2) (by omega) h1)) (by kernel_rfl) rfl (by kernel_rfl) rfl ?_
    refine Sq.vals [2, 3, 4, 5, 6] (rest := []) [.tuple #[sV (t1.getLast?.getD ⟨#[]⟩), bV (decide (0 < t1.length))], sV (t1.getLast?.getD ⟨#[]⟩), bV (decide (0 < t1.length)), sV (t1.getLast?.getD ⟨#[]⟩), bV (decide (0 < t1.length))] (fun w => by kernel_rfl) ?_
    refine Sq.done ?_
    refine Ex'.next ?_
    refine Cd.seq ?_
    refine Cd.seq ?_
    refine Cd.region rfl ?_
    refine Sq.vals [0] (rest := []) [bV (decide (0 < t1.length))] (fun w => by kernel_rfl) ?_
    refine Sq.done ?_
    refine Ex'.next ?_
    refine Cd.case (p := 0 < t1.length) (by kernel_rfl) (fun h2 => ?_) (fun h2 => ?_)
    ·
      refine Cd.plan [0, 0, 0, 6, 1, 17, 63, 127, 0, 511] [(3, [(0, false, 0), (1, false, 0), (2, false, 0), (3, false, 0), (4, false, 0)]), (7, [(0, false, 0)]), (9, [(1, true, 0)])] [] [] [(1, 9, fun g => llR lt1 (rm t1 (t1.getLast?.getD ⟨#[]⟩)) n)] [fun g => pV b 0, fun g => pV b 0, fun g => sV (t1.getLast?.getD ⟨#[]⟩), fun g => iV 0, fun g => pV b 0, fun g => pV b 2, fun g => pV b 2, fun g => pV lt1 0, fun g => sV (t1.getLast?.getD ⟨#[]⟩), fun g => bV (decide (t1.getLast?.getD ⟨#[]⟩ ∈ t1))] (by kernel_rfl) (by kernel_rfl) rfl (trivial) ?_ ?_
      · exact ⟨ob_val fun g w => by kernel_rfl, ob_val fun g w => by kernel_rfl, ob_val fun g w => by kernel_rfl, ob_s (l := fun g => [arcB b lt1 lt2 lb1 lb2 most p, llR lt1 t1 n, llR lt2 t2 n, llR lb1 b1 n, llR lb2 b2 n]) (l' := fun g => [arcB b lt1 lt2 lb1 lb2 most p, llR lt1 t1 n, llR lt2 t2 n, llR lb1 b1 n, llR lb2 b2 n]) (v := fun g => iV 0) (fun g => o_call (by kernel_rfl) Try.call25 (arc_at0 (n := n) (most := most) (p := p) (t1 := t1) (t2 := t2) (b1 := b1) (b2 := b2) (t1.getLast?.getD ⟨#[]⟩) (by omega) (arc_last h2))) (fun g => by kernel_rfl), ob_val fun g w => by kernel_rfl, ob_val fun g w => by kernel_rfl, ob_val fun g w => by kernel_rfl, ob_s (l := fun g => [arcB b lt1 lt2 lb1 lb2 most p]) (l' := fun g => [arcB b lt1 lt2 lb1 lb2 most p]) (v := fun g => pV lt1 0) (fun g => o_load (i := 2) (v := pV lt1 0) (by kernel_rfl) (by kernel_rfl) (by kernel_rfl)) (fun g => by kernel_rfl), ob_val fun g w => by kernel_rfl, ob_s (l := fun g => [llR lt1 t1 n]) (l' := fun g => [llR lt1 (rm t1 (t1.getLast?.getD ⟨#[]⟩)) n]) (v := fun g => bV (decide (t1.getLast?.getD ⟨#[]⟩ ∈ t1))) (fun g => o_call (by kernel_rfl) Try.call29 (t_Remove (ks := t1) (n := n) (t1.getLast?.getD ⟨#[]⟩) (by omega))) (fun g => by kernel_rfl), trivial⟩
      intro g
      refine Ex'.sub (subB_spec [2, 3, 4, 5]) ?_
      refine Ex'.as [0, 1, 2, 3, 4] (σ' := [(2, sV ⟨#[]⟩), (3, bV false), (4, sV (t1.getLast?.getD ⟨#[]⟩)), (5, bV (decide (0 < t1.length)))]) (Γ' := [arcB b lt1 lt2 lb1 lb2 most p, llR lt1 (rm t1 (t1.getLast?.getD ⟨#[]⟩)) n, llR lt2 t2 n, llR lb1 b1 n, llR lb2 b2 n]) (by kernel_rfl) rfl (by kernel_rfl) (by kernel_rfl) ?_
      refine Ex'.next ?_
      refine Cd.seq ?_
      refine Cd.region rfl ?_
      refine Sq.vals [0, 1, 2, 3] (rest := []) [sV (t1.getLast?.getD ⟨#[]⟩), bV (decide (0 < t1.length)), sV (t1.getLast?.getD ⟨#[]⟩), bV (decide (0 < t1.length))] (fun w => by kernel_rfl) ?_
      refine Sq.done ?_
      refine Ex'.next ?_
      refine Cd.ret ?_
      refine Ex'.ret Try.results21 (RVs.tmp (v := sV (t1.getLast?.getD ⟨#[]⟩)) (by kernel_rfl) (RVs.tmp (v := bV (decide (0 < t1.length))) (by kernel_rfl) (RVs.nil))) (fun w hw => ?_)
      have e : arcDrop most p t1 t2 b1 b2 = (rm t1 (t1.getLast?.getD ⟨#[]⟩), t2, t1.getLast?.getD ⟨#[]⟩, decide (0 < t1.length)) := by unfold arcDrop; rw [if_pos h1, if_pos h2]
      rw [e]
      exact ⟨_, ⟨rfl, rfl⟩, hw.pickB [0, 1, 2, 3, 4] (by kernel_rfl) (by kernel_rfl) (by kernel_rfl)⟩
    ·
      refine Cd.skip ?_
      refine Ex'.next ?_
      refine Cd.seq ?_
      refine Cd.region rfl ?_
      refine Sq.vals [0, 1, 2, 3] (rest := []) [sV (t1.getLast?.getD ⟨#[]⟩), bV (decide (0 < t1.length)), sV (t1.getLast?.getD ⟨#[]⟩), bV (decide (0 < t1.length))] (fun w => by kernel_rfl) ?_
      refine Sq.done ?_
      refine Ex'.next ?_
      refine Cd.ret ?_
      refine Ex'.ret Try.results21 (RVs.tmp (v := sV (t1.getLast?.getD ⟨#[]⟩)) (by kernel_rfl) (RVs.tmp (v := bV (decide (0 < t1.length))) (by kernel_rfl) (RVs.nil))) (fun w hw => ?_)
      have e : arcDrop most p t1 t2 b1 b2 = (t1, t2, t1.getLast?.getD ⟨#[]⟩, decide (0 < t1.length)) := by unfold arcDrop; rw [if_pos h1, if_neg h2]
      rw [e]
      exact ⟨_, ⟨rfl, rfl⟩, hw.pickB [0, 1, 2, 3, 4] (by kernel_rfl) (by kernel_rfl) (by kernel_rfl)⟩
  ·
    by_cases h3 : (t1.length : Int) > 0 ∧ ((t1.length : Int) > p ∨ (t2.length : Int) = 0)
    ·
      refine Sq.same [0, 1, 2, 3, 4] (l := arcL b lt1 lt2 lb1 lb2 most p t1 t2 b1 b2 n) (o_call (by kernel_rfl) Try.call34 (arc_VictimB (n := n) (most := most) (p := p) (t1 := t1) (t2 := t2) (b1 := b1) (b2 := b2) (by omega) h1 h3)) (by kernel_rfl) rfl (by kernel_rfl) rfl ?_
      refine Sq.vals [2, 3, 4, 5, 6] (rest := []) [.tuple #[sV (t1.getLast?.getD ⟨#[]⟩), bV (decide (0 < t1.length))], sV (t1.getLast?.getD ⟨#[]⟩), bV (decide (0 < t1.length)), sV (t1.getLast?.getD ⟨#[]⟩), bV (decide (0 < t1.length))] (fun w => by kernel_rfl) ?_
      refine Sq.done ?_
      refine Ex'.next ?_
      refine Cd.seq ?_
      refine Cd.seq ?_
      refine Cd.region rfl ?_
      refine Sq.vals [0] (rest := []) [bV (decide (0 < t1.length))] (fun w => by kernel_rfl) ?_
      refine Sq.done ?_
      refine Ex'.next ?_
      refine Cd.case (p := 0 < t1.length) (by kernel_rfl) (fun h4 => ?_) (fun h4 => ?_)
      ·
        refine Cd.plan [0, 0, 0, 6, 1, 17, 63, 127, 0, 511] [(3, [(0, false, 0), (1, false, 0), (2, false, 0), (3, false, 0), (4, false, 0)]), (7, [(0, false, 0)]), (9, [(1, true, 0)])] [] [] [(1, 9, fun g => llR lt1 (rm t1 (t1.getLast?.getD ⟨#[]⟩)) n)] [fun g => pV b 0, fun g => pV b 0, fun g => sV (t1.getLast?.getD ⟨#[]⟩), fun g => iV 0, fun g => pV b 0, fun g => pV b 2, fun g => pV b 2, fun g => pV lt1 0, fun g => sV (t1.getLast?.getD ⟨#[]⟩), fun g => bV (decide (t1.getLast?.getD ⟨#[]⟩ ∈ t1))] (by kernel_rfl) (by kernel_rfl) rfl (trivial) ?_ ?_
        · exact ⟨ob_val fun g w => by kernel_rfl, ob_val fun g w => by kernel_rfl, ob_val fun g w => by kernel_rfl, ob_s (l := fun g => [arcB b lt1 lt2 lb1 lb2 most p, llR lt1 t1 n, llR lt2 t2 n, llR lb1 b1 n, llR lb2 b2 n]) (l' := fun g => [arcB b lt1 lt2 lb1 lb2 most p, llR lt1 t1 n, llR lt2 t2 n, llR lb1 b1 n, llR lb2 b2 n]) (v := fun g => iV 0) (fun g => o_call (by kernel_rfl) Try.call25 (arc_at0 (n := n) (most := most) (p := p) (t1 := t1) (t2 := t2) (b1 := b1) (b2 := b2) (t1.getLast?.getD ⟨#[]⟩) (by omega) (arc_last h4))) (fun g => by kernel_rfl), ob_val fun g w => by kernel_rfl, ob_val fun g w => by kernel_rfl, ob_val fun g w => by kernel_rfl, ob_s (l := fun g => [arcB b lt1 lt2 lb1 lb2 most p]) (l' := fun g => [arcB b lt1 lt2 lb1 lb2 most p]) (v := fun g => pV lt1 0) (fun g => o_load (i := 2) (v := pV lt1 0) (by kernel_rfl) (by kernel_rfl) (by kernel_rfl)) (fun g => by kernel_rfl), ob_val fun g w => by kernel_rfl, ob_s (l := fun g => [llR lt1 t1 n]) (l' := fun g => [llR lt1 (rm t1 (t1.getLast?.getD ⟨#[]⟩)) n]) (v := fun g => bV (decide (t1.getLast?.getD ⟨#[]⟩ ∈ t1))) (fun g => o_call (by kernel_rfl) Try.call29 (t_Remove (ks := t1) (n := n) (t1.getLast?.getD ⟨#[]⟩) (by omega))) (fun g => by kernel_rfl), trivial⟩
        intro g
        refine Ex'.sub (subB_spec [2, 3, 4, 5]) ?_
        refine Ex'.as [0, 1, 2, 3, 4] (σ' := [(2, sV ⟨#[]⟩), (3, bV false), (4, sV (t1.getLast?.getD ⟨#[]⟩)), (5, bV (decide (0 < t1.length)))]) (Γ' := [arcB b lt1 lt2 lb1 lb2 most p, llR lt1 (rm t1 (t1.getLast?.getD ⟨#[]⟩)) n, llR lt2 t2 n, llR lb1 b1 n, llR lb2 b2 n]) (by kernel_rfl) rfl (by kernel_rfl) (by kernel_rfl) ?_
        refine Ex'.next ?_
        refine Cd.seq ?_
        refine Cd.region rfl ?_
        refine Sq.vals [0, 1, 2, 3] (rest := []) [sV (t1.getLast?.getD ⟨#[]⟩), bV (decide (0 < t1.length)), sV (t1.getLast?.getD ⟨#[]⟩), bV (decide (0 < t1.length))] (fun w => by kernel_rfl) ?_
        refine Sq.done ?_
        refine Ex'.next ?_
        refine Cd.ret ?_
        refine Ex'.ret Try.results21 (RVs.tmp (v := sV (t1.getLast?.getD ⟨#[]⟩)) (by kernel_rfl) (RVs.tmp (v := bV (decide (0 < t1.length))) (by kernel_rfl) (RVs.nil))) (fun w hw => ?_)
        have e : arcDrop most p t1 t2 b1 b2 = (rm t1 (t1.getLast?.getD ⟨#[]⟩), t2, t1.getLast?.getD ⟨#[]⟩, decide (0 < t1.length)) := by unfold arcDrop; rw [if_neg h1, if_pos h3, if_pos h4]
        rw [e]
        exact ⟨_, ⟨rfl, rfl⟩, hw.pickB [0, 1, 2, 3, 4] (by kernel_rfl) (by kernel_rfl) (by kernel_rfl)⟩
      ·
        refine Cd.skip ?_
        refine Ex'.next ?_
        refine Cd.seq ?_
        refine Cd.region rfl ?_
        refine Sq.vals [0, 1, 2, 3] (rest := []) [sV (t1.getLast?.getD ⟨#[]⟩), bV (decide (0 < t1.length)), sV (t1.getLast?.getD ⟨#[]⟩), bV (decide (0 < t1.length))] (fun w => by kernel_rfl) ?_
        refine Sq.done ?_
        refine Ex'.next ?_
        refine Cd.ret ?_
        refine Ex'.ret Try.results21 (RVs.tmp (v := sV (t1.getLast?.getD ⟨#[]⟩)) (by kernel_rfl) (RVs.tmp (v := bV (decide (0 < t1.length))) (by kernel_rfl) (RVs.nil))) (fun w hw => ?_)
        have e : arcDrop most p t1 t2 b1 b2 = (t1, t2, t1.getLast?.getD ⟨#[]⟩, decide (0 < t1.length)) := by unfold arcDrop; rw [if_neg h1, if_pos h3, if_neg h4]
        rw [e]
        exact ⟨_, ⟨rfl, rfl⟩, hw.pickB [0, 1, 2, 3, 4] (by kernel_rfl) (by kernel_rfl) (by kernel_rfl)⟩
    ·
      refine Sq.same [0, 1, 2, 3, 4] (l := arcL b lt1 lt2 lb1 lb2 most p t1 t2 b1 b2 n) (o_call (by kernel_rfl) Try.call34 (arc_VictimC (n := n) (most := most) (p := p) (t1 := t1) (t2 := t2) (b1 := b1) (b2 := b2) (by omega) h1 h3)) (by kernel_rfl) rfl (by kernel_rfl) rfl ?_
      refine Sq.vals [2, 3, 4, 5, 6] (rest := []) [.tuple #[sV (t2.getLast?.getD ⟨#[]⟩), bV (decide (0 < t2.length))], sV (t2.getLast?.getD ⟨#[]⟩), bV (decide (0 < t2.length)), sV (t2.getLast?.getD ⟨#[]⟩), bV (decide (0 < t2.length))] (fun w => by kernel_rfl) ?_
      refine Sq.done ?_
      refine Ex'.next ?_
      refine Cd.seq ?_
      refine Cd.seq ?_
      refine Cd.region rfl ?_
      refine Sq.vals [0] (rest := []) [bV (decide (0 < t2.length))] (fun w => by kernel_rfl) ?_
      refine Sq.done ?_
      refine Ex'.next ?_
      refine Cd.case (p := 0 < t2.length) (by kernel_rfl) (fun h5 => ?_) (fun h5 => ?_)
      ·
        by_cases h6 : t2.getLast?.getD ⟨#[]⟩ ∈ t1
        ·
          refine Cd.plan [0, 0, 0, 6, 1, 17, 63, 127, 0, 511] [(3, [(0, false, 0), (1, false, 0), (2, false, 0), (3, false, 0), (4, false, 0)]), (7, [(0, false, 0)]), (9, [(1, true, 0)])] [] [] [(1, 9, fun g => llR lt1 (rm t1 (t2.getLast?.getD ⟨#[]⟩)) n)] [fun g => pV b 0, fun g => pV b 0, fun g => sV (t2.getLast?.getD ⟨#[]⟩), fun g => iV 0, fun g => pV b 0, fun g => pV b 2, fun g => pV b 2, fun g => pV lt1 0, fun g => sV (t2.getLast?.getD ⟨#[]⟩), fun g => bV (decide (t2.getLast?.getD ⟨#[]⟩ ∈ t1))] (by kernel_rfl) (by kernel_rfl) rfl (trivial) ?_ ?_
          · exact ⟨ob_val fun g w => by kernel_rfl, ob_val fun g w => by kernel_rfl, ob_val fun g w => by kernel_rfl, ob_s (l := fun g => [arcB b lt1 lt2 lb1 lb2 most p, llR lt1 t1 n, llR lt2 t2 n, llR lb1 b1 n, llR lb2 b2 n]) (l' := fun g => [arcB b lt1 lt2 lb1 lb2 most p, llR lt1 t1 n, llR lt2 t2 n, llR lb1 b1 n, llR lb2 b2 n]) (v := fun g => iV 0) (fun g => o_call (by kernel_rfl) Try.call25 (arc_at0 (n := n) (most := most) (p := p) (t1 := t1) (t2 := t2) (b1 := b1) (b2 := b2) (t2.getLast?.getD ⟨#[]⟩) (by omega) h6)) (fun g => by kernel_rfl), ob_val fun g w => by kernel_rfl, ob_val fun g w => by kernel_rfl, ob_val fun g w => by kernel_rfl, ob_s (l := fun g => [arcB b lt1 lt2 lb1 lb2 most p]) (l' := fun g => [arcB b lt1 lt2 lb1 lb2 most p]) (v := fun g => pV lt1 0) (fun g => o_load (i := 2) (v := pV lt1 0) (by kernel_rfl) (by kernel_rfl) (by kernel_rfl)) (fun g => by kernel_rfl), ob_val fun g w => by kernel_rfl, ob_s (l := fun g => [llR lt1 t1 n]) (l' := fun g => [llR lt1 (rm t1 (t2.getLast?.getD ⟨#[]⟩)) n]) (v := fun g => bV (decide (t2.getLast?.getD ⟨#[]⟩ ∈ t1))) (fun g => o_call (by kernel_rfl) Try.call29 (t_Remove (ks := t1) (n := n) (t2.getLast?.getD ⟨#[]⟩) (by omega))) (fun g => by kernel_rfl), trivial⟩
          intro g
          refine Ex'.sub (subB_spec [2, 3, 4, 5]) ?_
          refine Ex'.as [0, 1, 2, 3, 4] (σ' := [(2, sV ⟨#[]⟩), (3, bV false), (4, sV (t2.getLast?.getD ⟨#[]⟩)), (5, bV (decide (0 < t2.length)))]) (Γ' := [arcB b lt1 lt2 lb1 lb2 most p, llR lt1 (rm t1 (t2.getLast?.getD ⟨#[]⟩)) n, llR lt2 t2 n, llR lb1 b1 n, llR lb2 b2 n]) (by kernel_rfl) rfl (by kernel_rfl) (by kernel_rfl) ?_
          refine Ex'.next ?_
          refine Cd.seq ?_
          refine Cd.region rfl ?_
          refine Sq.vals [0, 1, 2, 3] (rest := []) [sV (t2.getLast?.getD ⟨#[]⟩), bV (decide (0 < t2.length)), sV (t2.getLast?.getD ⟨#[]⟩), bV (decide (0 < t2.length))] (fun w => by kernel_rfl) ?_
          refine Sq.done ?_
          refine Ex'.next ?_
          refine Cd.ret ?_
          refine Ex'.ret Try.results21 (RVs.tmp (v := sV (t2.getLast?.getD ⟨#[]⟩)) (by kernel_rfl) (RVs.tmp (v := bV (decide (0 < t2.length))) (by kernel_rfl) (RVs.nil))) (fun w hw => ?_)
          have e : arcDrop most p t1 t2 b1 b2 = (rm t1 (t2.getLast?.getD ⟨#[]⟩), t2, t2.getLast?.getD ⟨#[]⟩, decide (0 < t2.length)) := by unfold arcDrop; rw [if_neg h1, if_neg h3, if_pos h5, if_pos h6]
          rw [e]
          exact ⟨_, ⟨rfl, rfl⟩, hw.pickB [0, 1, 2, 3, 4] (by kernel_rfl) (by kernel_rfl) (by kernel_rfl)⟩
        ·
          refine Cd.plan [0, 0, 0, 6, 1, 17, 63, 127, 0, 511] [(3, [(0, false, 0), (1, false, 0), (2, false, 0), (3, false, 0), (4, false, 0)]), (7, [(0, false, 0)]), (9, [(2, true, 0)])] [] [] [(2, 9, fun g => llR lt2 (rm t2 (t2.getLast?.getD ⟨#[]⟩)) n)] [fun g => pV b 0, fun g => pV b 0, fun g => sV (t2.getLast?.getD ⟨#[]⟩), fun g => iV 1, fun g => pV b 0, fun g => pV b 2, fun g => pV b 3, fun g => pV lt2 0, fun g => sV (t2.getLast?.getD ⟨#[]⟩), fun g => bV (decide (t2.getLast?.getD ⟨#[]⟩ ∈ t2))] (by kernel_rfl) (by kernel_rfl) rfl (trivial) ?_ ?_
          · exact ⟨ob_val fun g w => by kernel_rfl, ob_val fun g w => by kernel_rfl, ob_val fun g w => by kernel_rfl, ob_s (l := fun g => [arcB b lt1 lt2 lb1 lb2 most p, llR lt1 t1 n, llR lt2 t2 n, llR lb1 b1 n, llR lb2 b2 n]) (l' := fun g => [arcB b lt1 lt2 lb1 lb2 most p, llR lt1 t1 n, llR lt2 t2 n, llR lb1 b1 n, llR lb2 b2 n]) (v := fun g => iV 1) (fun g => o_call (by kernel_rfl) Try.call25 (arc_at1 (n := n) (most := most) (p := p) (t1 := t1) (t2 := t2) (b1 := b1) (b2 := b2) (t2.getLast?.getD ⟨#[]⟩) (by omega) h6 (arc_last h5))) (fun g => by kernel_rfl), ob_val fun g w => by kernel_rfl, ob_val fun g w => by kernel_rfl, ob_val fun g w => by kernel_rfl, ob_s (l := fun g => [arcB b lt1 lt2 lb1 lb2 most p]) (l' := fun g => [arcB b lt1 lt2 lb1 lb2 most p]) (v := fun g => pV lt2 0) (fun g => o_load (i := 3) (v := pV lt2 0) (by kernel_rfl) (by kernel_rfl) (by kernel_rfl)) (fun g => by kernel_rfl), ob_val fun g w => by kernel_rfl, ob_s (l := fun g => [llR lt2 t2 n]) (l' := fun g => [llR lt2 (rm t2 (t2.getLast?.getD ⟨#[]⟩)) n]) (v := fun g => bV (decide (t2.getLast?.getD ⟨#[]⟩ ∈ t2))) (fun g => o_call (by kernel_rfl) Try.call29 (t_Remove (ks := t2) (n := n) (t2.getLast?.getD ⟨#[]⟩) (by omega))) (fun g => by kernel_rfl), trivial⟩
          intro g
          refine Ex'.sub (subB_spec [2, 3, 4, 5]) ?_
          refine Ex'.as [0, 1, 2, 3, 4] (σ' := [(2, sV ⟨#[]⟩), (3, bV false), (4, sV (t2.getLast?.getD ⟨#[]⟩)), (5, bV (decide (0 < t2.length)))]) (Γ' := [arcB b lt1 lt2 lb1 lb2 most p, llR lt1 t1 n, llR lt2 (rm t2 (t2.getLast?.getD ⟨#[]⟩)) n, llR lb1 b1 n, llR lb2 b2 n]) (by kernel_rfl) rfl (by kernel_rfl) (by kernel_rfl) ?_
          refine Ex'.next ?_
          refine Cd.seq ?_
          refine Cd.region rfl ?_
          refine Sq.vals [0, 1, 2, 3] (rest := []) [sV (t2.getLast?.getD ⟨#[]⟩), bV (decide (0 < t2.length)), sV (t2.getLast?.getD ⟨#[]⟩), bV (decide (0 < t2.length))] (fun w => by kernel_rfl) ?_
          refine Sq.done ?_
          refine Ex'.next ?_
          refine Cd.ret ?_
          refine Ex'.ret Try.results21 (RVs.tmp (v := sV (t2.getLast?.getD ⟨#[]⟩)) (by kernel_rfl) (RVs.tmp (v := bV (decide (0 < t2.length))) (by kernel_rfl) (RVs.nil))) (fun w hw => ?_)
          have e : arcDrop most p t1 t2 b1 b2 = (t1, rm t2 (t2.getLast?.getD ⟨#[]⟩), t2.getLast?.getD ⟨#[]⟩, decide (0 < t2.length)) := by unfold arcDrop; rw [if_neg h1, if_neg h3, if_pos h5, if_neg h6]
          rw [e]
          exact ⟨_, ⟨rfl, rfl⟩, hw.pickB [0, 1, 2, 3, 4] (by kernel_rfl) (by kernel_rfl) (by kernel_rfl)⟩
      ·
        refine Cd.skip ?_
        refine Ex'.next ?_
        refine Cd.seq ?_
        refine Cd.region rfl ?_
        refine Sq.vals [0, 1, 2, 3] (rest := []) [sV (t2.getLast?.getD ⟨#[]⟩), bV (decide (0 < t2.length)), sV (t2.getLast?.getD ⟨#[]⟩), bV (decide (0 < t2.length))] (fun w => by kernel_rfl) ?_
        refine Sq.done ?_
        refine Ex'.next ?_
        refine Cd.ret ?_
        refine Ex'.ret Try.results21 (RVs.tmp (v := sV (t2.getLast?.getD ⟨#[]⟩)) (by kernel_rfl) (RVs.tmp (v := bV (decide (0 < t2.length))) (by kernel_rfl) (RVs.nil))) (fun w hw => ?_)
        have e : arcDrop most p t1 t2 b1 b2 = (t1, t2, t2.getLast?.getD ⟨#[]⟩, decide (0 < t2.length)) := by unfold arcDrop; rw [if_neg h1, if_neg h3, if_neg h5]
        rw [e]
        exact ⟨_, ⟨rfl, rfl⟩, hw.pickB [0, 1, 2, 3, 4] (by kernel_rfl) (by kernel_rfl) (by kernel_rfl)⟩

def arcRemove (most : Int) (p : Int) (t1 : List ByteArray) (t2 : List ByteArray) (b1 : List ByteArray) (b2 : List ByteArray) (key : ByteArray) : List ByteArray × List ByteArray × List ByteArray × List ByteArray × Bool :=
  if key ∈ t1 then (rm t1 key, t2, b1, b2, true) else if key ∈ t2 then (t1, rm t2 key, b1, b2, true) else if key ∈ b1 then (t1, t2, rm b1 key, b2, false) else if key ∈ b2 then (t1, t2, b1, rm b2 key, false) else (t1, t2, b1, b2, false)

set_option maxHeartbeats 4000000 in
set_option maxRecDepth 100000 in
theorem arc_Remove {b : Nat} {lt1 : Nat} {lt2 : Nat} {lb1 : Nat} {lb2 : Nat} {n : Nat} {most : Int} {p : Int} {t1 : List ByteArray} {t2 : List ByteArray} {b1 : List ByteArray} {b2 : List ByteArray} (key : ByteArray) (hb : n ≤ 1000000000) : Tri Try.prog 19 #[pV b 0, sV key] (arcL b lt1 lt2 lb1 lb2 most p t1 t2 b1 b2 n) (Same (arcL b lt1 lt2 lb1 lb2 most p ((arcRemove most p t1 t2 b1 b2 key).1) ((arcRemove most p t1 t2 b1 b2 key).2.1) ((arcRemove most p t1 t2 b1 b2 key).2.2.1) ((arcRemove most p t1 t2 b1 b2 key).2.2.2.1) n) (bV ((arcRemove most p t1 t2 b1 b2 key).2.2.2.2))) := by
  refine Tri.enter (args := [pV b 0, sV key]) Try.func19 rfl rfl rfl (fun B wz => ?_)
  refine Cd.seq ?_
  refine Cd.region rfl ?_
  refine Sq.vals [0] (rest := []) [bV false] (fun w => by kernel_rfl) ?_
  refine Sq.done ?_
  refine Ex'.next ?_
  refine Cd.seq ?_
  refine Cd.region rfl ?_
  refine Sq.vals [0, 1] (rest := [2, 3]) [pV b 0, sV key] (fun w => by kernel_rfl) ?_
  by_cases h1 : key ∈ t1
  ·
    refine Sq.same [0, 1, 2, 3, 4] (l := arcL b lt1 lt2 lb1 lb2 most p t1 t2 b1 b2 n) (o_call (by kernel_rfl) Try.call25 (arc_at0 (n := n) (most := most) (p := p) (t1 := t1) (t2 := t2) (b1 := b1) (b2 := b2) key (by omega) h1)) (by kernel_rfl) rfl (by kernel_rfl) rfl ?_
    refine Sq.vals [3] (rest := []) [iV 0] (fun w => by kernel_rfl) ?_
    refine Sq.done ?_
    refine Ex'.next ?_
    refine Cd.seq ?_
    refine Cd.seq ?_
    refine Cd.region rfl ?_
    refine Sq.vals [0, 1] (rest := []) [iV 0, bV true] (fun w => by kernel_rfl) ?_
    refine Sq.done ?_
    refine Ex'.next ?_
    refine Cd.condT (by kernel_rfl) ?_
    refine Cd.region rfl ?_
    refine Sq.vals [0, 1, 2, 3, 4] (rest := [5, 6, 7]) [pV b 0, iV 0, pV b 0, pV b 2, pV b 2] (fun w => by kernel_rfl) ?_
    refine Sq.same [0] (l := [arcB b lt1 lt2 lb1 lb2 most p]) (o_load (i := 2) (v := pV lt1 0) (by kernel_rfl) (by kernel_rfl) (by kernel_rfl)) (by kernel_rfl) rfl (by kernel_rfl) rfl ?_
    refine Sq.vals [6] (rest := [7]) [sV key] (fun w => by kernel_rfl) ?_
    refine Sq.same [1] (l := [llR lt1 t1 n]) (o_call (by kernel_rfl) Try.call29 (t_Remove (ks := t1) (n := n) key (by omega))) (by kernel_rfl) rfl (by kernel_rfl) rfl ?_
    refine Sq.done ?_
    refine Ex'.next ?_
    refine Cd.seq ?_
    refine Cd.region rfl ?_
    refine Sq.vals [0, 1, 2] (rest := []) [iV 0, bV true, bV true] (fun w => by kernel_rfl) ?_
    refine Sq.done ?_
    refine Ex'.next ?_
    refine Cd.ret ?_
    refine Ex'.ret Try.results19 (RVs.tmp (v := bV true) (by kernel_rfl) (RVs.nil)) (fun w hw => ?_)
    have e : arcRemove most p t1 t2 b1 b2 key = (rm t1 key, t2, b1, b2, true) := by unfold arcRemove; rw [if_pos h1]
    rw [e]
    exact ⟨_, ⟨rfl, rfl⟩, hw.pickB [0, 1, 2, 3, 4] (by kernel_rfl) (by kernel_rfl) (by kernel_rfl)⟩
  ·
    by_cases h2 : key ∈ t2
    ·
      refine Sq.same [0, 1, 2, 3, 4] (l := arcL b lt1 lt2 lb1 lb2 most p t1 t2 b1 b2 n) (o_call (by kernel_rfl) Try.call25 (arc_at1 (n := n) (most := most) (p := p) (t1 := t1) (t2 := t2) (b1 := b1) (b2 := b2) key (by omega) h1 h2)) (by kernel_rfl) rfl (by kernel_rfl) rfl ?_
      refine Sq.vals [3] (rest := []) [iV 1] (fun w => by kernel_rfl) ?_
      refine Sq.done ?_
      refine Ex'.next ?_
      refine Cd.seq ?_
      refine Cd.seq ?_
      refine Cd.region rfl ?_
      refine Sq.vals [0, 1] (rest := []) [iV 1, bV true] (fun w => by kernel_rfl) ?_
      refine Sq.done ?_
      refine Ex'.next ?_
      refine Cd.condT (by kernel_rfl) ?_
      refine Cd.region rfl ?_
      refine Sq.vals [0, 1, 2, 3, 4] (rest := [5, 6, 7]) [pV b 0, iV 1, pV b 0, pV b 2, pV b 3] (fun w => by kernel_rfl) ?_
      refine Sq.same [0] (l := [arcB b lt1 lt2 lb1 lb2 most p]) (o_load (i := 3) (v := pV lt2 0) (by kernel_rfl) (by kernel_rfl) (by kernel_rfl)) (by kernel_rfl) rfl (by kernel_rfl) rfl ?_
      refine Sq.vals [6] (rest := [7]) [sV key] (fun w => by kernel_rfl) ?_
      refine Sq.same [2] (l := [llR lt2 t2 n]) (o_call (by kernel_rfl) Try.call29 (t_Remove (ks := t2) (n := n) key (by omega))) (by kernel_rfl) rfl (by kernel_rfl) rfl ?_
      refine Sq.done ?_
      refine Ex'.next ?_
      refine Cd.seq ?_
      refine Cd.region rfl ?_
      refine Sq.vals [0, 1, 2] (rest := []) [iV 1, bV true, bV true] (fun w => by kernel_rfl) ?_
      refine Sq.done ?_
      refine Ex'.next ?_
      refine Cd.ret ?_
      refine Ex'.ret Try.results19 (RVs.tmp (v := bV true) (by kernel_rfl) (RVs.nil)) (fun w hw => ?_)
      have e : arcRemove most p t1 t2 b1 b2 key = (t1, rm t2 key, b1, b2, true) := by unfold arcRemove; rw [if_neg h1, if_pos h2]
      rw [e]
      exact ⟨_, ⟨rfl, rfl⟩, hw.pickB [0, 1, 2, 3, 4] (by kernel_rfl) (by kernel_rfl) (by kernel_rfl)⟩
    ·
      by_cases h3 : key ∈ b1
      ·
        refine Sq.same [0, 1, 2, 3, 4] (l := arcL b lt1 lt2 lb1 lb2 most p t1 t2 b1 b2 n) (o_call (by kernel_rfl) Try.call25 (arc_at2 (n := n) (most := most) (p := p) (t1 := t1) (t2 := t2) (b1 := b1) (b2 := b2) key (by omega) h1 h2 h3)) (by kernel_rfl) rfl (by kernel_rfl) rfl ?_
        refine Sq.vals [3] (rest := []) [iV 2] (fun w => by kernel_rfl) ?_
        refine Sq.done ?_
        refine Ex'.next ?_
        refine Cd.seq ?_
        refine Cd.seq ?_
        refine Cd.region rfl ?_
        refine Sq.vals [0, 1] (rest := []) [iV 2, bV true] (fun w => by kernel_rfl) ?_
        refine Sq.done ?_
        refine Ex'.next ?_
        refine Cd.condT (by kernel_rfl) ?_
        refine Cd.region rfl ?_
        refine Sq.vals [0, 1, 2, 3, 4] (rest := [5, 6, 7]) [pV b 0, iV 2, pV b 0, pV b 2, pV b 4] (fun w => by kernel_rfl) ?_
        refine Sq.same [0] (l := [arcB b lt1 lt2 lb1 lb2 most p]) (o_load (i := 4) (v := pV lb1 0) (by kernel_rfl) (by kernel_rfl) (by kernel_rfl)) (by kernel_rfl) rfl (by kernel_rfl) rfl ?_
        refine Sq.vals [6] (rest := [7]) [sV key] (fun w => by kernel_rfl) ?_
        refine Sq.same [3] (l := [llR lb1 b1 n]) (o_call (by kernel_rfl) Try.call29 (t_Remove (ks := b1) (n := n) key (by omega))) (by kernel_rfl) rfl (by kernel_rfl) rfl ?_
        refine Sq.done ?_
        refine Ex'.next ?_
        refine Cd.seq ?_
        refine Cd.region rfl ?_
        refine Sq.vals [0, 1, 2] (rest := []) [iV 2, bV false, bV false] (fun w => by kernel_rfl) ?_
        refine Sq.done ?_
        refine Ex'.next ?_
        refine Cd.ret ?_
        refine Ex'.ret Try.results19 (RVs.tmp (v := bV false) (by kernel_rfl) (RVs.nil)) (fun w hw => ?_)
        have e : arcRemove most p t1 t2 b1 b2 key = (t1, t2, rm b1 key, b2, false) := by unfold arcRemove; rw [if_neg h1, if_neg h2, if_pos h3]
        rw [e]
        exact ⟨_, ⟨rfl, rfl⟩, hw.pickB [0, 1, 2, 3, 4] (by kernel_rfl) (by kernel_rfl) (by kernel_rfl)⟩
      ·
        by_cases h4 : key ∈ b2
        ·
          refine Sq.same [0, 1, 2, 3, 4] (l := arcL b lt1 lt2 lb1 lb2 most p t1 t2 b1 b2 n) (o_call (by kernel_rfl) Try.call25 (arc_at3 (n := n) (most := most) (p := p) (t1 := t1) (t2 := t2) (b1 := b1) (b2 := b2) key (by omega) h1 h2 h3 h4)) (by kernel_rfl) rfl (by kernel_rfl) rfl ?_
          refine Sq.vals [3] (rest := []) [iV 3] (fun w => by kernel_rfl) ?_
          refine Sq.done ?_
          refine Ex'.next ?_
          refine Cd.seq ?_
          refine Cd.seq ?_
          refine Cd.region rfl ?_
          refine Sq.vals [0, 1] (rest := []) [iV 3, bV true] (fun w => by kernel_rfl) ?_
          refine Sq.done ?_
          refine Ex'.next ?_
          refine Cd.condT (by kernel_rfl) ?_
          refine Cd.region rfl ?_
          refine Sq.vals [0, 1, 2, 3, 4] (rest := [5, 6, 7]) [pV b 0, iV 3, pV b 0, pV b 2, pV b 5] (fun w => by kernel_rfl) ?_
          refine Sq.same [0] (l := [arcB b lt1 lt2 lb1 lb2 most p]) (o_load (i := 5) (v := pV lb2 0) (by kernel_rfl) (by kernel_rfl) (by kernel_rfl)) (by kernel_rfl) rfl (by kernel_rfl) rfl ?_
          refine Sq.vals [6] (rest := [7]) [sV key] (fun w => by kernel_rfl) ?_
          refine Sq.same [4] (l := [llR lb2 b2 n]) (o_call (by kernel_rfl) Try.call29 (t_Remove (ks := b2) (n := n) key (by omega))) (by kernel_rfl) rfl (by kernel_rfl) rfl ?_
          refine Sq.done ?_
          refine Ex'.next ?_
          refine Cd.seq ?_
          refine Cd.region rfl ?_
          refine Sq.vals [0, 1, 2] (rest := []) [iV 3, bV false, bV false] (fun w => by kernel_rfl) ?_
          refine Sq.done ?_
          refine Ex'.next ?_
          refine Cd.ret ?_
          refine Ex'.ret Try.results19 (RVs.tmp (v := bV false) (by kernel_rfl) (RVs.nil)) (fun w hw => ?_)
          have e : arcRemove most p t1 t2 b1 b2 key = (t1, t2, b1, rm b2 key, false) := by unfold arcRemove; rw [if_neg h1, if_neg h2, if_neg h3, if_pos h4]
          rw [e]
          exact ⟨_, ⟨rfl, rfl⟩, hw.pickB [0, 1, 2, 3, 4] (by kernel_rfl) (by kernel_rfl) (by kernel_rfl)⟩
        ·
          refine Sq.same [0, 1, 2, 3, 4] (l := arcL b lt1 lt2 lb1 lb2 most p t1 t2 b1 b2 n) (o_call (by kernel_rfl) Try.call25 (arc_at4 (n := n) (most := most) (p := p) (t1 := t1) (t2 := t2) (b1 := b1) (b2 := b2) key (by omega) h1 h2 h3 h4)) (by kernel_rfl) rfl (by kernel_rfl) rfl ?_
          refine Sq.vals [3] (rest := []) [iV 4] (fun w => by kernel_rfl) ?_
          refine Sq.done ?_
          refine Ex'.next ?_
          refine Cd.seq ?_
          refine Cd.seq ?_
          refine Cd.region rfl ?_
          refine Sq.vals [0, 1] (rest := []) [iV 4, bV false] (fun w => by kernel_rfl) ?_
          refine Sq.done ?_
          refine Ex'.next ?_
          refine Cd.condF (by kernel_rfl) ?_
          refine Cd.skip ?_
          refine Ex'.next ?_
          refine Cd.seq ?_
          refine Cd.region rfl ?_
          refine Sq.vals [0, 1, 2] (rest := []) [iV 4, bV false, bV false] (fun w => by kernel_rfl) ?_
          refine Sq.done ?_
          refine Ex'.next ?_
          refine Cd.ret ?_
          refine Ex'.ret Try.results19 (RVs.tmp (v := bV false) (by kernel_rfl) (RVs.nil)) (fun w hw => ?_)
          have e : arcRemove most p t1 t2 b1 b2 key = (t1, t2, b1, b2, false) := by unfold arcRemove; rw [if_neg h1, if_neg h2, if_neg h3, if_neg h4]
          rw [e]
          exact ⟨_, ⟨rfl, rfl⟩, hw.pickB [0, 1, 2, 3, 4] (by kernel_rfl) (by kernel_rfl) (by kernel_rfl)⟩

def arcMany1 (most : Int) (p : Int) (t1 : List ByteArray) (t2 : List ByteArray) (b1 : List ByteArray) (b2 : List ByteArray)  : Bool :=
  decide (arcAll2 most p t1 t2 b1 b2 > most)

set_option maxHeartbeats 4000000 in
set_option maxRecDepth 100000 in
theorem arc_many1 {b : Nat} {lt1 : Nat} {lt2 : Nat} {lb1 : Nat} {lb2 : Nat} {n : Nat} {most : Int} {p : Int} {t1 : List ByteArray} {t2 : List ByteArray} {b1 : List ByteArray} {b2 : List ByteArray} {bx : Nat}  (hb : n ≤ 1000000000) : Tri Try.prog 41 #[pV bx 0] (arcL b lt1 lt2 lb1 lb2 most p t1 t2 b1 b2 n ++ [blkR bx [pV b 0] 24]) (Same (arcL b lt1 lt2 lb1 lb2 most p t1 t2 b1 b2 n ++ [blkR bx [pV b 0] 24]) (bV (arcMany1 most p t1 t2 b1 b2))) := by
  refine Tri.enter (args := [pV bx 0]) Try.func41 rfl rfl rfl (fun B wz => ?_)
  refine Cd.seq ?_
  refine Cd.region rfl ?_
  refine Sq.vals [0] (rest := []) [bV false] (fun w => by kernel_rfl) ?_
  refine Sq.done ?_
  refine Ex'.next ?_
  refine Cd.seq ?_
  refine Cd.sub (subB_spec [0]) ?_
  refine Cd.plan [0, 0, 3, 0, 8, 24, 56, 127, 255] [(0, [(5, false, 0)]), (2, [(0, false, 0), (1, false, 0), (2, false, 0), (3, false, 0), (4, false, 0), (7, false, 2)]), (3, [(5, false, 0)]), (6, [(0, false, 0)])] [1] [(1, fun _ => True)] [(7, 1, fun g => blkR (slOf (g 1)) [iV 0, iV 2] 3)] [fun g => pV b 0, fun g => .slice (some ⟨(slOf (g 1)), 0, none⟩) 2 2, fun g => iV (arcAll2 most p t1 t2 b1 b2), fun g => pV b 0, fun g => pV b 0, fun g => pV b 0, fun g => iV most, fun g => bV (decide (arcAll2 most p t1 t2 b1 b2 > most)), fun g => bV (decide (arcAll2 most p t1 t2 b1 b2 > most))] (by kernel_rfl) (by kernel_rfl) rfl (⟨⟨⟨fun _ _ => rfl, ⟨trivial, ⟨trivial, ⟨fun _ _ => rfl, ⟨fun _ _ => rfl, ⟨fun _ _ => rfl, ⟨fun _ _ => rfl, ⟨trivial, ⟨trivial, trivial⟩⟩⟩⟩⟩⟩⟩⟩⟩, ⟨trivial, trivial⟩⟩, trivial⟩) ?_ ?_
  · exact ⟨ob_s (l := fun g => [blkR bx [pV b 0] 24]) (l' := fun g => [blkR bx [pV b 0] 24]) (v := fun g => pV b 0) (fun g => o_load (i := 0) (v := pV b 0) (by kernel_rfl) (by kernel_rfl) (by kernel_rfl)) (fun g => by kernel_rfl), ob_d (ι := Nat) (l := fun g => []) (L := fun g y => [blkR y [iV 0, iV 2] 3]) (fun y => .slice (some ⟨y, 0, none⟩) 2 2) (fun g => o_lit (sz := 1) (iV 0) [iV 0, iV 2] Try.underlying59 (by kernel_rfl) (by kernel_rfl) (by kernel_rfl) (by kernel_rfl) (by kernel_rfl)) (fun g => by kernel_rfl) (fun g y _ => ⟨trivial, by kernel_rfl, by kernel_rfl⟩), ob_s (l := fun g => [arcB b lt1 lt2 lb1 lb2 most p, llR lt1 t1 n, llR lt2 t2 n, llR lb1 b1 n, llR lb2 b2 n, blkR (slOf (g 1)) [iV 0, iV 2] 3]) (l' := fun g => [arcB b lt1 lt2 lb1 lb2 most p, llR lt1 t1 n, llR lt2 t2 n, llR lb1 b1 n, llR lb2 b2 n, blkR (slOf (g 1)) [iV 0, iV 2] 3]) (v := fun g => iV (arcAll2 most p t1 t2 b1 b2)) (fun g => o_call (by kernel_rfl) Try.call37 (arc_all2 (n := n) (most := most) (p := p) (t1 := t1) (t2 := t2) (b1 := b1) (b2 := b2) (by omega))) (fun g => by kernel_rfl), ob_s (l := fun g => [blkR bx [pV b 0] 24]) (l' := fun g => [blkR bx [pV b 0] 24]) (v := fun g => pV b 0) (fun g => o_load (i := 0) (v := pV b 0) (by kernel_rfl) (by kernel_rfl) (by kernel_rfl)) (fun g => by kernel_rfl), ob_val fun g w => by kernel_rfl, ob_val fun g w => by kernel_rfl, ob_s (l := fun g => [arcB b lt1 lt2 lb1 lb2 most p]) (l' := fun g => [arcB b lt1 lt2 lb1 lb2 most p]) (v := fun g => iV most) (fun g => o_load (i := 0) (v := iV most) (by kernel_rfl) (by kernel_rfl) (by kernel_rfl)) (fun g => by kernel_rfl), ob_val fun g w => by kernel_rfl, ob_val fun g w => by kernel_rfl, trivial⟩
  intro g
  refine Ex'.sub (subB_spec [1]) ?_
  refine Ex'.as [0, 1, 2, 3, 4, 5, 7] (σ' := [(1, bV (decide (arcAll2 most p t1 t2 b1 b2 > most)))]) (Γ' := [arcB b lt1 lt2 lb1 lb2 most p, llR lt1 t1 n, llR lt2 t2 n, llR lb1 b1 n, llR lb2 b2 n, blkR bx [pV b 0] 24, blkR (slOf (g 1)) [iV 0, iV 2] 3]) (by kernel_rfl) rfl (by kernel_rfl) (by kernel_rfl) ?_
  generalize slOf (g 1) = b4
  refine Ex'.next ?_
  refine Cd.ret ?_
  refine Ex'.ret Try.results41 (RVs.tmp (v := bV (decide (arcAll2 most p t1 t2 b1 b2 > most))) (by kernel_rfl) (RVs.nil)) (fun w hw => ?_)
  have e : arcMany1 most p t1 t2 b1 b2 = decide (arcAll2 most p t1 t2 b1 b2 > most) := by unfold arcMany1; rfl
  rw [e]
  exact ⟨_, ⟨rfl, rfl⟩, hw.pickB [0, 1, 2, 3, 4, 5] (by kernel_rfl) (by kernel_rfl) (by kernel_rfl)⟩

def arcMany2 (most : Int) (p : Int) (t1 : List ByteArray) (t2 : List ByteArray) (b1 : List ByteArray) (b2 : List ByteArray)  : Bool :=
  decide ((arcAll4 most p t1 t2 b1 b2) - most > most)

set_option maxHeartbeats 4000000 in
set_option maxRecDepth 100000 in
theorem arc_many2 {b : Nat} {lt1 : Nat} {lt2 : Nat} {lb1 : Nat} {lb2 : Nat} {n : Nat} {most : Int} {p : Int} {t1 : List ByteArray} {t2 : List ByteArray} {b1 : List ByteArray} {b2 : List ByteArray} {bx : Nat}  (hb : n ≤ 1000000000) (h0 : 0 ≤ most ∧ most ≤ 4611686018427387904) : Tri Try.prog 42 #[pV bx 0] (arcL b lt1 lt2 lb1 lb2 most p t1 t2 b1 b2 n ++ [blkR bx [pV b 0] 24]) (Same (arcL b lt1 lt2 lb1 lb2 most p t1 t2 b1 b2 n ++ [blkR bx [pV b 0] 24]) (bV (arcMany2 most p t1 t2 b1 b2))) := by
  refine Tri.enter (args := [pV bx 0]) Try.func42 rfl rfl rfl (fun B wz => ?_)
  refine Cd.fact (i := 1) rfl llR.le ?_; rintro ⟨_, hl1⟩
  refine Cd.fact (i := 2) rfl llR.le ?_; rintro ⟨_, hl2⟩
  refine Cd.fact (i := 3) rfl llR.le ?_; rintro ⟨_, hl3⟩
  refine Cd.fact (i := 4) rfl llR.le ?_; rintro ⟨_, hl4⟩
  have hall2 := @arcAll2_eq most p t1 t2 b1 b2
  have hall4 := @arcAll4_eq most p t1 t2 b1 b2
  refine Cd.seq ?_
  refine Cd.region rfl ?_
  refine Sq.vals [0] (rest := []) [bV false] (fun w => by kernel_rfl) ?_
  refine Sq.done ?_
  refine Ex'.next ?_
  refine Cd.seq ?_
  refine Cd.sub (subB_spec [0]) ?_
  refine Cd.plan [0, 0, 3, 0, 8, 24, 56, 127, 0, 256, 768, 1792, 4095, 8191] [(0, [(5, false, 0)]), (2, [(0, false, 0), (1, false, 0), (2, false, 0), (3, false, 0), (4, false, 0), (7, false, 2)]), (3, [(5, false, 0)]), (6, [(0, false, 0)]), (8, [(5, false, 0)]), (11, [(0, false, 0)])] [1] [(1, fun _ => True)] [(7, 1, fun g => blkR (slOf (g 1)) [iV 0, iV 1, iV 2, iV 3] 3)] [fun g => pV b 0, fun g => .slice (some ⟨(slOf (g 1)), 0, none⟩) 4 4, fun g => iV (arcAll4 most p t1 t2 b1 b2), fun g => pV b 0, fun g => pV b 0, fun g => pV b 0, fun g => iV most, fun g => iV ((arcAll4 most p t1 t2 b1 b2) - most), fun g => pV b 0, fun g => pV b 0, fun g => pV b 0, fun g => iV most, fun g => bV (decide ((arcAll4 most p t1 t2 b1 b2) - most > most)), fun g => bV (decide ((arcAll4 most p t1 t2 b1 b2) - most > most))] (by kernel_rfl) (by kernel_rfl) rfl (⟨⟨⟨fun _ _ => rfl, ⟨trivial, ⟨trivial, ⟨fun _ _ => rfl, ⟨fun _ _ => rfl, ⟨fun _ _ => rfl, ⟨fun _ _ => rfl, ⟨trivial, ⟨fun _ _ => rfl, ⟨fun _ _ => rfl, ⟨fun _ _ => rfl, ⟨fun _ _ => rfl, ⟨trivial, ⟨trivial, trivial⟩⟩⟩⟩⟩⟩⟩⟩⟩⟩⟩⟩⟩⟩, ⟨trivial, trivial⟩⟩, trivial⟩) ?_ ?_
  · exact ⟨ob_s (l := fun g => [blkR bx [pV b 0] 24]) (l' := fun g => [blkR bx [pV b 0] 24]) (v := fun g => pV b 0) (fun g => o_load (i := 0) (v := pV b 0) (by kernel_rfl) (by kernel_rfl) (by kernel_rfl)) (fun g => by kernel_rfl), ob_d (ι := Nat) (l := fun g => []) (L := fun g y => [blkR y [iV 0, iV 1, iV 2, iV 3] 3]) (fun y => .slice (some ⟨y, 0, none⟩) 4 4) (fun g => o_lit (sz := 1) (iV 0) [iV 0, iV 1, iV 2, iV 3] Try.underlying59 (by kernel_rfl) (by kernel_rfl) (by kernel_rfl) (by kernel_rfl) (by kernel_rfl)) (fun g => by kernel_rfl) (fun g y _ => ⟨trivial, by kernel_rfl, by kernel_rfl⟩), ob_s (l := fun g => [arcB b lt1 lt2 lb1 lb2 most p, llR lt1 t1 n, llR lt2 t2 n, llR lb1 b1 n, llR lb2 b2 n, blkR (slOf (g 1)) [iV 0, iV 1, iV 2, iV 3] 3]) (l' := fun g => [arcB b lt1 lt2 lb1 lb2 most p, llR lt1 t1 n, llR lt2 t2 n, llR lb1 b1 n, llR lb2 b2 n, blkR (slOf (g 1)) [iV 0, iV 1, iV 2, iV 3] 3]) (v := fun g => iV (arcAll4 most p t1 t2 b1 b2)) (fun g => o_call (by kernel_rfl) Try.call37 (arc_all4 (n := n) (most := most) (p := p) (t1 := t1) (t2 := t2) (b1 := b1) (b2 := b2) (by omega))) (fun g => by kernel_rfl), ob_s (l := fun g => [blkR bx [pV b 0] 24]) (l' := fun g => [blkR bx [pV b 0] 24]) (v := fun g => pV b 0) (fun g => o_load (i := 0) (v := pV b 0) (by kernel_rfl) (by kernel_rfl) (by kernel_rfl)) (fun g => by kernel_rfl), ob_val fun g w => by kernel_rfl, ob_val fun g w => by kernel_rfl, ob_s (l := fun g => [arcB b lt1 lt2 lb1 lb2 most p]) (l' := fun g => [arcB b lt1 lt2 lb1 lb2 most p]) (v := fun g => iV most) (fun g => o_load (i := 0) (v := iV most) (by kernel_rfl) (by kernel_rfl) (by kernel_rfl)) (fun g => by kernel_rfl), ob_v (v := fun g => iV ((arcAll4 most p t1 t2 b1 b2) - most)) (fun g => o_sub (k := .i64) (a := arcAll4 most p t1 t2 b1 b2) (b := most) (c := (arcAll4 most p t1 t2 b1 b2) - most) (by kernel_rfl) (by kernel_rfl) (w64 rfl (by omega))) (fun g => by kernel_rfl), ob_s (l := fun g => [blkR bx [pV b 0] 24]) (l' := fun g => [blkR bx [pV b 0] 24]) (v := fun g => pV b 0) (fun g => o_load (i := 0) (v := pV b 0) (by kernel_rfl) (by kernel_rfl) (by kernel_rfl)) (fun g => by kernel_rfl), ob_val fun g w => by kernel_rfl, ob_val fun g w => by kernel_rfl, ob_s (l := fun g => [arcB b lt1 lt2 lb1 lb2 most p]) (l' := fun g => [arcB b lt1 lt2 lb1 lb2 most p]) (v := fun g => iV most) (fun g => o_load (i := 0) (v := iV most) (by kernel_rfl) (by kernel_rfl) (by kernel_rfl)) (fun g => by kernel_rfl), ob_val fun g w => by kernel_rfl, ob_val fun g w => by kernel_rfl, trivial⟩
  intro g
  refine Ex'.sub (subB_spec [1]) ?_
  refine Ex'.as [0, 1, 2, 3, 4, 5, 7] (σ' := [(1, bV (decide ((arcAll4 most p t1 t2 b1 b2) - most > most)))]) (Γ' := [arcB b lt1 lt2 lb1 lb2 most p, llR lt1 t1 n, llR lt2 t2 n, llR lb1 b1 n, llR lb2 b2 n, blkR bx [pV b 0] 24, blkR (slOf (g 1)) [iV 0, iV 1, iV 2, iV 3] 3]) (by kernel_rfl) rfl (by kernel_rfl) (by kernel_rfl) ?_
  generalize slOf (g 1) = b4
  refine Ex'.next ?_
  refine Cd.ret ?_
  refine Ex'.ret Try.results42 (RVs.tmp (v := bV (decide ((arcAll4 most p t1 t2 b1 b2) - most > most))) (by kernel_rfl) (RVs.nil)) (fun w hw => ?_)
  have e : arcMany2 most p t1 t2 b1 b2 = decide ((arcAll4 most p t1 t2 b1 b2) - most > most) := by unfold arcMany2; rfl
  rw [e]
  exact ⟨_, ⟨rfl, rfl⟩, hw.pickB [0, 1, 2, 3, 4, 5] (by kernel_rfl) (by kernel_rfl) (by kernel_rfl)⟩

def arcTrim1 (most p : Int) (t1 t2 b1 b2 : List ByteArray) : List ByteArray := b1.take (most - t1.length).toNat
def arcTrim2 (most p : Int) (t1 t2 b1 b2 : List ByteArray) : List ByteArray := b2.take (2 * most - t1.length - t2.length - b1.length).toNat
theorem take_dl {l : List ByteArray} {c : Nat} (h : c < l.length) : l.dropLast.take c = l.take c := by
  rw [List.dropLast_eq_take, List.take_take]; congr 1; omega

set_option maxHeartbeats 4000000 in
set_option maxRecDepth 100000 in
theorem arc_while1 {b : Nat} {lt1 : Nat} {lt2 : Nat} {lb1 : Nat} {lb2 : Nat} {n : Nat} {most : Int} {p : Int} {t1 : List ByteArray} {t2 : List ByteArray} {b1 : List ByteArray} {b2 : List ByteArray} {bx : Nat}  (hb : n ≤ 1000000000) (h0 : 0 ≤ most ∧ most ≤ 4611686018427387904) : Tri Try.prog 40 #[.func (.func 41) #[] #[pV bx 0], iV 2, pV bx 0] (arcL b lt1 lt2 lb1 lb2 most p t1 t2 b1 b2 n ++ [blkR bx [pV b 0] 24]) (Same (arcL b lt1 lt2 lb1 lb2 most p t1 t2 (arcTrim1 most p t1 t2 b1 b2) b2 n ++ [blkR bx [pV b 0] 24]) (.tuple #[])) := by
  refine Tri.enter (args := [.func (.func 41) #[] #[pV bx 0], iV 2, pV bx 0]) Try.func40 rfl rfl rfl (fun B wz => ?_)
  refine Cd.fact (i := 1) rfl llR.le ?_; rintro ⟨_, hl1⟩
  refine Cd.fact (i := 2) rfl llR.le ?_; rintro ⟨_, hl2⟩
  refine Cd.fact (i := 3) rfl llR.le ?_; rintro ⟨_, hl3⟩
  refine Cd.fact (i := 4) rfl llR.le ?_; rintro ⟨_, hl4⟩
  refine Cd.block ?_
  refine Cd.loop (ι := (List ByteArray)) (fun g => g.take (most - t1.length).toNat = b1.take (most - t1.length).toNat) (fun g => g.length) (fun g => [(0, .func (.func 41) #[] #[pV bx 0]), (1, iV 2), (2, pV bx 0)]) (fun g => [arcB b lt1 lt2 lb1 lb2 most p, llR lt1 t1 n, llR lt2 t2 n, llR lb1 g n, llR lb2 b2 n, blkR bx [pV b 0] 24]) b1 (rfl) (subB_eq (l := [0, 1, 2]) (by kernel_rfl)) (fun w hw => hw.pickB [0, 1, 2, 3, 4, 5] (by kernel_rfl) (by kernel_rfl) (by kernel_rfl)) ?_
  rintro g hL1
  try dsimp only at hL1 ⊢
  have hi := hL1
  refine Cd.seq ?_
  refine Cd.seq ?_
  refine Cd.region rfl ?_
  refine Sq.vals [0] (rest := [1, 2, 3, 4, 5, 6, 7, 8, 9, 10, 11]) [.func (.func 41) #[] #[pV bx 0]] (fun w => by kernel_rfl) ?_
  refine Sq.same [0, 1, 2, 3, 4, 5] (l := arcL b lt1 lt2 lb1 lb2 most p t1 t2 g b2 n ++ [blkR bx [pV b 0] 24]) (o_calld (first := []) (captured := [pV bx 0]) (args := []) (by kernel_rfl) (by kernel_rfl) rfl Try.call41 (arc_many1 (n := n) (most := most) (p := p) (t1 := t1) (t2 := t2) (b1 := g) (b2 := b2) (by omega))) (by kernel_rfl) rfl (by kernel_rfl) rfl ?_
  refine Sq.vals [2] (rest := [3, 4, 5, 6, 7, 8, 9, 10, 11]) [bV (arcMany1 most p t1 t2 g b2)] (fun w => by kernel_rfl) ?_
  refine Sq.caseB 7 (t := arcMany1 most p t1 t2 g b2) rfl (fun h2 => ?_) (fun h2 => ?_)
  ·
    have hm : arcAll2 most p t1 t2 g b2 > most := of_decide_eq_true h2
    rw [arcAll2_eq] at hm
    refine Sq.same [5] (l := [blkR bx [pV b 0] 24]) (o_load (i := 0) (v := pV b 0) (by kernel_rfl) (by kernel_rfl) (by kernel_rfl)) (by kernel_rfl) rfl (by kernel_rfl) rfl ?_
    refine Sq.vals [4, 5, 6, 7] (rest := [8, 9, 10, 11]) [iV 2, pV b 0, pV b 2, pV b 4] (fun w => by kernel_rfl) ?_
    refine Sq.same [0] (l := [arcB b lt1 lt2 lb1 lb2 most p]) (o_load (i := 4) (v := pV lb1 0) (by kernel_rfl) (by kernel_rfl) (by kernel_rfl)) (by kernel_rfl) rfl (by kernel_rfl) rfl ?_
    refine Sq.same [3] (l := [llR lb1 g n]) (o_call (by kernel_rfl) Try.call26 (t_Len (ks := g) (n := n))) (by kernel_rfl) rfl (by kernel_rfl) rfl ?_
    refine Sq.vals [10, 11] (rest := []) [bV (decide ((g.length : Int) > 0)), bV (decide ((g.length : Int) > 0))] (fun w => by kernel_rfl) ?_
    refine Sq.done ?_
    refine Ex'.next ?_
    refine Cd.case (p := (g.length : Int) > 0) (by kernel_rfl) (fun h3 => ?_) (fun h3 => ?_)
    ·
      refine Cd.skip ?_
      refine Ex'.next ?_
      refine Cd.block ?_
      refine Cd.region rfl ?_
      refine Sq.same [5] (l := [blkR bx [pV b 0] 24]) (o_load (i := 0) (v := pV b 0) (by kernel_rfl) (by kernel_rfl) (by kernel_rfl)) (by kernel_rfl) rfl (by kernel_rfl) rfl ?_
      refine Sq.vals [1, 2, 3, 4] (rest := [5, 6]) [iV 2, pV b 0, pV b 2, pV b 4] (fun w => by kernel_rfl) ?_
      refine Sq.same [0] (l := [arcB b lt1 lt2 lb1 lb2 most p]) (o_load (i := 4) (v := pV lb1 0) (by kernel_rfl) (by kernel_rfl) (by kernel_rfl)) (by kernel_rfl) rfl (by kernel_rfl) rfl ?_
      refine Sq.same [3] (l := [llR lb1 g n]) (o_call (by kernel_rfl) Try.call38 (t_Pop (ks := g) (n := n) (by omega))) (by kernel_rfl) rfl (by kernel_rfl) rfl ?_
      refine Sq.done ?_
      refine Ex'.blockNormal ?_
      refine Ex'.round (g := g) g.dropLast ?_ ?_ (subB_eq (l := [0, 1, 2]) (by kernel_rfl)) (fun w hw => hw.pickB [0, 1, 2, 3, 4, 5] (by kernel_rfl) (by kernel_rfl) (by kernel_rfl))
      · (try dsimp only); exact (take_dl (by omega)).trans hi
      · show g.dropLast.length < g.length; rw [List.length_dropLast]; omega
    ·
      refine Cd.exit ?_
      refine Ex'.thenExit ?_
      refine Ex'.thenExit ?_
      refine Ex'.blockHit ?_
      refine Ex'.fin Try.results40 (RVs.nil) (fun w hw => ?_)
      have e : arcTrim1 most p t1 t2 b1 b2 = g := by unfold arcTrim1; rw [← hi]; exact List.take_of_length_le (by omega)
      rw [e]
      exact ⟨_, ⟨rfl, rfl⟩, hw.pickB [0, 1, 2, 3, 4, 5] (by kernel_rfl) (by kernel_rfl) (by kernel_rfl)⟩
  ·
    have hm : ¬ (arcAll2 most p t1 t2 g b2 > most) := of_decide_eq_false h2
    rw [arcAll2_eq] at hm
    refine Sq.vals [3, 4, 5, 6, 7, 8, 9, 10, 11] (rest := []) [undef, undef, undef, undef, undef, undef, undef, undef, bV false] (fun w => by kernel_rfl) ?_
    refine Sq.done ?_
    refine Ex'.next ?_
    refine Cd.condF (by kernel_rfl) ?_
    refine Cd.exit ?_
    refine Ex'.thenExit ?_
    refine Ex'.thenExit ?_
    refine Ex'.blockHit ?_
    refine Ex'.fin Try.results40 (RVs.nil) (fun w hw => ?_)
    have e : arcTrim1 most p t1 t2 b1 b2 = g := by unfold arcTrim1; rw [← hi]; exact List.take_of_length_le (by omega)
    rw [e]
    exact ⟨_, ⟨rfl, rfl⟩, hw.pickB [0, 1, 2, 3, 4, 5] (by kernel_rfl) (by kernel_rfl) (by kernel_rfl)⟩

set_option maxHeartbeats 4000000 in
set_option maxRecDepth 100000 in
theorem arc_while2 {b : Nat} {lt1 : Nat} {lt2 : Nat} {lb1 : Nat} {lb2 : Nat} {n : Nat} {most : Int} {p : Int} {t1 : List ByteArray} {t2 : List ByteArray} {b1 : List ByteArray} {b2 : List ByteArray} {bx : Nat}  (hb : n ≤ 1000000000) (h0 : 0 ≤ most ∧ most ≤ 4611686018427387904) : Tri Try.prog 40 #[.func (.func 42) #[] #[pV bx 0], iV 3, pV bx 0] (arcL b lt1 lt2 lb1 lb2 most p t1 t2 b1 b2 n ++ [blkR bx [pV b 0] 24]) (Same (arcL b lt1 lt2 lb1 lb2 most p t1 t2 b1 (arcTrim2 most p t1 t2 b1 b2) n ++ [blkR bx [pV b 0] 24]) (.tuple #[])) := by
  refine Tri.enter (args := [.func (.func 42) #[] #[pV bx 0], iV 3, pV bx 0]) Try.func40 rfl rfl rfl (fun B wz => ?_)
  refine Cd.fact (i := 1) rfl llR.le ?_; rintro ⟨_, hl1⟩
  refine Cd.fact (i := 2) rfl llR.le ?_; rintro ⟨_, hl2⟩
  refine Cd.fact (i := 3) rfl llR.le ?_; rintro ⟨_, hl3⟩
  refine Cd.fact (i := 4) rfl llR.le ?_; rintro ⟨_, hl4⟩
  refine Cd.block ?_
  refine Cd.loop (ι := (List ByteArray)) (fun g => g.take (2 * most - t1.length - t2.length - b1.length).toNat = b2.take (2 * most - t1.length - t2.length - b1.length).toNat) (fun g => g.length) (fun g => [(0, .func (.func 42) #[] #[pV bx 0]), (1, iV 3), (2, pV bx 0)]) (fun g => [arcB b lt1 lt2 lb1 lb2 most p, llR lt1 t1 n, llR lt2 t2 n, llR lb1 b1 n, llR lb2 g n, blkR bx [pV b 0] 24]) b2 (rfl) (subB_eq (l := [0, 1, 2]) (by kernel_rfl)) (fun w hw => hw.pickB [0, 1, 2, 3, 4, 5] (by kernel_rfl) (by kernel_rfl) (by kernel_rfl)) ?_
  rintro g hL1
  try dsimp only at hL1 ⊢
  have hi := hL1
  refine Cd.seq ?_
  refine Cd.seq ?_
  refine Cd.region rfl ?_
  refine Sq.vals [0] (rest := [1, 2, 3, 4, 5, 6, 7, 8, 9, 10, 11]) [.func (.func 42) #[] #[pV bx 0]] (fun w => by kernel_rfl) ?_
  refine Sq.same [0, 1, 2, 3, 4, 5] (l := arcL b lt1 lt2 lb1 lb2 most p t1 t2 b1 g n ++ [blkR bx [pV b 0] 24]) (o_calld (first := []) (captured := [pV bx 0]) (args := []) (by kernel_rfl) (by kernel_rfl) rfl Try.call42 (arc_many2 (n := n) (most := most) (p := p) (t1 := t1) (t2 := t2) (b1 := b1) (b2 := g) (by omega) (by omega))) (by kernel_rfl) rfl (by kernel_rfl) rfl ?_
  refine Sq.vals [2] (rest := [3, 4, 5, 6, 7, 8, 9, 10, 11]) [bV (arcMany2 most p t1 t2 b1 g)] (fun w => by kernel_rfl) ?_
  refine Sq.caseB 7 (t := arcMany2 most p t1 t2 b1 g) rfl (fun h2 => ?_) (fun h2 => ?_)
  ·
    have hm : arcAll4 most p t1 t2 b1 g - most > most := of_decide_eq_true h2
    rw [arcAll4_eq] at hm
    refine Sq.same [5] (l := [blkR bx [pV b 0] 24]) (o_load (i := 0) (v := pV b 0) (by kernel_rfl) (by kernel_rfl) (by kernel_rfl)) (by kernel_rfl) rfl (by kernel_rfl) rfl ?_
    refine Sq.vals [4, 5, 6, 7] (rest := [8, 9, 10, 11]) [iV 3, pV b 0, pV b 2, pV b 5] (fun w => by kernel_rfl) ?_
    refine Sq.same [0] (l := [arcB b lt1 lt2 lb1 lb2 most p]) (o_load (i := 5) (v := pV lb2 0) (by kernel_rfl) (by kernel_rfl) (by kernel_rfl)) (by kernel_rfl) rfl (by kernel_rfl) rfl ?_
    refine Sq.same [4] (l := [llR lb2 g n]) (o_call (by kernel_rfl) Try.call26 (t_Len (ks := g) (n := n))) (by kernel_rfl) rfl (by kernel_rfl) rfl ?_
    refine Sq.vals [10, 11] (rest := []) [bV (decide ((g.length : Int) > 0)), bV (decide ((g.length : Int) > 0))] (fun w => by kernel_rfl) ?_
    refine Sq.done ?_
    refine Ex'.next ?_
    refine Cd.case (p := (g.length : Int) > 0) (by kernel_rfl) (fun h3 => ?_) (fun h3 => ?_)
    ·
      refine Cd.skip ?_
      refine Ex'.next ?_
      refine Cd.block ?_
      refine Cd.region rfl ?_
      refine Sq.same [5] (l := [blkR bx [pV b 0] 24]) (o_load (i := 0) (v := pV b 0) (by kernel_rfl) (by kernel_rfl) (by kernel_rfl)) (by kernel_rfl) rfl (by kernel_rfl) rfl ?_
      refine Sq.vals [1, 2, 3, 4] (rest := [5, 6]) [iV 3, pV b 0, pV b 2, pV b 5] (fun w => by kernel_rfl) ?_
      refine Sq.same [0] (l := [arcB b lt1 lt2 lb1 lb2 most p]) (o_load (i := 5) (v := pV lb2 0) (by kernel_rfl) (by kernel_rfl) (by kernel_rfl)) (by kernel_rfl) rfl (by kernel_rfl) rfl ?_
      refine Sq.same [4] (l := [llR lb2 g n]) (o_call (by kernel_rfl) Try.call38 (t_Pop (ks := g) (n := n) (by omega))) (by kernel_rfl) rfl (by kernel_rfl) rfl ?_
      refine Sq.done ?_
      refine Ex'.blockNormal ?_
      refine Ex'.round (g := g) g.dropLast ?_ ?_ (subB_eq (l := [0, 1, 2]) (by kernel_rfl)) (fun w hw => hw.pickB [0, 1, 2, 3, 4, 5] (by kernel_rfl) (by kernel_rfl) (by kernel_rfl))
      · (try dsimp only); exact (take_dl (by omega)).trans hi
      · show g.dropLast.length < g.length; rw [List.length_dropLast]; omega
    ·
      refine Cd.exit ?_
      refine Ex'.thenExit ?_
      refine Ex'.thenExit ?_
      refine Ex'.blockHit ?_
      refine Ex'.fin Try.results40 (RVs.nil) (fun w hw => ?_)
      have e : arcTrim2 most p t1 t2 b1 b2 = g := by unfold arcTrim2; rw [← hi]; exact List.take_of_length_le (by omega)
      rw [e]
      exact ⟨_, ⟨rfl, rfl⟩, hw.pickB [0, 1, 2, 3, 4, 5] (by kernel_rfl) (by kernel_rfl) (by kernel_rfl)⟩
  ·
    have hm : ¬ (arcAll4 most p t1 t2 b1 g - most > most) := of_decide_eq_false h2
    rw [arcAll4_eq] at hm
    refine Sq.vals [3, 4, 5, 6, 7, 8, 9, 10, 11] (rest := []) [undef, undef, undef, undef, undef, undef, undef, undef, bV false] (fun w => by kernel_rfl) ?_
    refine Sq.done ?_
    refine Ex'.next ?_
    refine Cd.condF (by kernel_rfl) ?_
    refine Cd.exit ?_
    refine Ex'.thenExit ?_
    refine Ex'.thenExit ?_
    refine Ex'.blockHit ?_
    refine Ex'.fin Try.results40 (RVs.nil) (fun w hw => ?_)
    have e : arcTrim2 most p t1 t2 b1 b2 = g := by unfold arcTrim2; rw [← hi]; exact List.take_of_length_le (by omega)
    rw [e]
    exact ⟨_, ⟨rfl, rfl⟩, hw.pickB [0, 1, 2, 3, 4, 5] (by kernel_rfl) (by kernel_rfl) (by kernel_rfl)⟩

def arcTrim (most : Int) (p : Int) (t1 : List ByteArray) (t2 : List ByteArray) (b1 : List ByteArray) (b2 : List ByteArray)  : List ByteArray × List ByteArray :=
  (arcTrim1 most p t1 t2 b1 b2, arcTrim2 most p t1 t2 (arcTrim1 most p t1 t2 b1 b2) b2)

set_option maxHeartbeats 4000000 in
set_option maxRecDepth 100000 in
theorem arc_trim {b : Nat} {lt1 : Nat} {lt2 : Nat} {lb1 : Nat} {lb2 : Nat} {n : Nat} {most : Int} {p : Int} {t1 : List ByteArray} {t2 : List ByteArray} {b1 : List ByteArray} {b2 : List ByteArray}  (hb : n ≤ 1000000000) (h0 : 0 ≤ most ∧ most ≤ 4611686018427387904) : Tri Try.prog 33 #[pV b 0] (arcL b lt1 lt2 lb1 lb2 most p t1 t2 b1 b2 n) (Same (arcL b lt1 lt2 lb1 lb2 most p t1 t2 ((arcTrim most p t1 t2 b1 b2).1) ((arcTrim most p t1 t2 b1 b2).2) n) (.tuple #[])) := by
  refine Tri.enter (args := [pV b 0]) Try.func33 rfl rfl rfl (fun B wz => ?_)
  refine Cd.fact (i := 1) rfl llR.le ?_; rintro ⟨_, hl1⟩
  refine Cd.fact (i := 2) rfl llR.le ?_; rintro ⟨_, hl2⟩
  refine Cd.fact (i := 3) rfl llR.le ?_; rintro ⟨_, hl3⟩
  refine Cd.fact (i := 4) rfl llR.le ?_; rintro ⟨_, hl4⟩
  refine Cd.seq ?_
  refine Cd.region rfl ?_
  refine Sq.ex [] (l := []) (o_newBox (v := pV b 0) [pV b 0] (by kernel_rfl) rfl) (by kernel_rfl) rfl (by kernel_rfl) (fun _ => Nat.zero_le _) ?_; intro b3 _
  refine Sq.done ?_
  refine Ex'.next ?_
  refine Cd.seq ?_
  refine Cd.region rfl ?_
  refine Sq.vals [0, 1] (rest := []) [.func (.func 40) #[] #[pV b3 0], .func (.func 40) #[] #[pV b3 0]] (fun w => by kernel_rfl) ?_
  refine Sq.done ?_
  refine Ex'.next ?_
  refine Cd.seq ?_
  refine Cd.region rfl ?_
  refine Sq.vals [0, 1] (rest := [2]) [.func (.func 40) #[] #[pV b3 0], .func (.func 41) #[] #[pV b3 0]] (fun w => by kernel_rfl) ?_
  refine Sq.same [0, 1, 2, 3, 4, 5] (l := arcL b lt1 lt2 lb1 lb2 most p t1 t2 b1 b2 n ++ [blkR b3 [pV b 0] 24]) (o_calld (first := []) (captured := [pV b3 0]) (args := [.func (.func 41) #[] #[pV b3 0], iV 2]) (by kernel_rfl) (by kernel_rfl) rfl Try.call40 (arc_while1 (n := n) (most := most) (p := p) (t1 := t1) (t2 := t2) (b1 := b1) (b2 := b2) (by omega) (by omega))) (by kernel_rfl) rfl (by kernel_rfl) rfl ?_
  refine Sq.done ?_
  refine Ex'.next ?_
  refine Cd.region rfl ?_
  refine Sq.vals [0, 1] (rest := [2]) [.func (.func 40) #[] #[pV b3 0], .func (.func 42) #[] #[pV b3 0]] (fun w => by kernel_rfl) ?_
  refine Sq.same [0, 1, 2, 3, 4, 5] (l := arcL b lt1 lt2 lb1 lb2 most p t1 t2 (arcTrim1 most p t1 t2 b1 b2) b2 n ++ [blkR b3 [pV b 0] 24]) (o_calld (first := []) (captured := [pV b3 0]) (args := [.func (.func 42) #[] #[pV b3 0], iV 3]) (by kernel_rfl) (by kernel_rfl) rfl Try.call40 (arc_while2 (n := n) (most := most) (p := p) (t1 := t1) (t2 := t2) (b1 := arcTrim1 most p t1 t2 b1 b2) (b2 := b2) (by omega) (by omega))) (by kernel_rfl) rfl (by kernel_rfl) rfl ?_
  refine Sq.done ?_
  refine Ex'.fin Try.results33 (RVs.nil) (fun w hw => ?_)
  have e : arcTrim most p t1 t2 b1 b2 = (arcTrim1 most p t1 t2 b1 b2, arcTrim2 most p t1 t2 (arcTrim1 most p t1 t2 b1 b2) b2) := by unfold arcTrim; rfl
  rw [e]
  exact ⟨_, ⟨rfl, rfl⟩, hw.pickB [0, 1, 2, 3, 4] (by kernel_rfl) (by kernel_rfl) (by kernel_rfl)⟩

def arcAdopt (most : Int) (p : Int) (t1 : List ByteArray) (t2 : List ByteArray) (b1 : List ByteArray) (b2 : List ByteArray) (key : ByteArray) : List ByteArray × List ByteArray × List ByteArray × List ByteArray × Bool :=
  if arcHas most p t1 t2 b1 b2 key = true then (t1, t2, b1, b2, false) else if arcLen most p t1 t2 b1 b2 ≥ most then (t1, t2, b1, b2, false) else (fr ((arcRemove most p t1 t2 b1 b2 key).1) key, (arcRemove most p t1 t2 b1 b2 key).2.1, (arcTrim most p (fr ((arcRemove most p t1 t2 b1 b2 key).1) key) ((arcRemove most p t1 t2 b1 b2 key).2.1) ((arcRemove most p t1 t2 b1 b2 key).2.2.1) ((arcRemove most p t1 t2 b1 b2 key).2.2.2.1)).1, (arcTrim most p (fr ((arcRemove most p t1 t2 b1 b2 key).1) key) ((arcRemove most p t1 t2 b1 b2 key).2.1) ((arcRemove most p t1 t2 b1 b2 key).2.2.1) ((arcRemove most p t1 t2 b1 b2 key).2.2.2.1)).2, true)

set_option maxHeartbeats 4000000 in
set_option maxRecDepth 100000 in
theorem arc_Adopt {b : Nat} {lt1 : Nat} {lt2 : Nat} {lb1 : Nat} {lb2 : Nat} {n : Nat} {most : Int} {p : Int} {t1 : List ByteArray} {t2 : List ByteArray} {b1 : List ByteArray} {b2 : List ByteArray} (key : ByteArray) {n' : Nat} (hb : n + 1 ≤ 1000000000) (hn : n + 1 ≤ n') (h0 : 0 ≤ most ∧ most ≤ 4611686018427387904) : Tri Try.prog 20 #[pV b 0, sV key] (arcL b lt1 lt2 lb1 lb2 most p t1 t2 b1 b2 n) (Same (arcL b lt1 lt2 lb1 lb2 most p ((arcAdopt most p t1 t2 b1 b2 key).1) ((arcAdopt most p t1 t2 b1 b2 key).2.1) ((arcAdopt most p t1 t2 b1 b2 key).2.2.1) ((arcAdopt most p t1 t2 b1 b2 key).2.2.2.1) n') (bV ((arcAdopt most p t1 t2 b1 b2 key).2.2.2.2))) := by
  refine Tri.enter (args := [pV b 0, sV key]) Try.func20 rfl rfl rfl (fun B wz => ?_)
  refine Cd.fact (i := 1) rfl llR.le ?_; rintro ⟨_, hl1⟩
  refine Cd.fact (i := 2) rfl llR.le ?_; rintro ⟨_, hl2⟩
  refine Cd.fact (i := 3) rfl llR.le ?_; rintro ⟨_, hl3⟩
  refine Cd.fact (i := 4) rfl llR.le ?_; rintro ⟨_, hl4⟩
  refine Cd.seq ?_
  refine Cd.region rfl ?_
  refine Sq.vals [0] (rest := []) [bV false] (fun w => by kernel_rfl) ?_
  refine Sq.done ?_
  refine Ex'.next ?_
  refine Cd.seq ?_
  refine Cd.seq ?_
  rcases Bool.eq_false_or_eq_true (arcHas most p t1 t2 b1 b2 key) with h1 | h1
  ·
    refine Cd.plan [0, 0, 3, 7, 15, 31, 15, 79, 207, 463, 1023, 2047] [(2, [(0, false, 0), (1, false, 0), (2, false, 0), (3, false, 0), (4, false, 0)])] [] [] [] [fun g => pV b 0, fun g => sV key, fun g => bV true, fun g => bV true, fun g => undef, fun g => undef, fun g => undef, fun g => undef, fun g => undef, fun g => undef, fun g => undef, fun g => bV true] (by kernel_rfl) (by kernel_rfl) rfl (trivial) ?_ ?_
    · exact ⟨ob_val fun g w => by kernel_rfl, ob_val fun g w => by kernel_rfl, ob_s (l := fun g => [arcB b lt1 lt2 lb1 lb2 most p, llR lt1 t1 n, llR lt2 t2 n, llR lb1 b1 n, llR lb2 b2 n]) (l' := fun g => [arcB b lt1 lt2 lb1 lb2 most p, llR lt1 t1 n, llR lt2 t2 n, llR lb1 b1 n, llR lb2 b2 n]) (v := fun g => bV true) (fun g => o_call (by kernel_rfl) Try.call16 ((arc_Has (n := n) (most := most) (p := p) (t1 := t1) (t2 := t2) (b1 := b1) (b2 := b2) key (by omega)).re (congrArg Value.bool (show arcHas most p t1 t2 b1 b2 key = true from h1)))) (fun g => by kernel_rfl), ob_val fun g w => by kernel_rfl, ob_val fun g w => by kernel_rfl, ob_val fun g w => by kernel_rfl, ob_val fun g w => by kernel_rfl, ob_val fun g w => by kernel_rfl, ob_val fun g w => by kernel_rfl, ob_val fun g w => by kernel_rfl, ob_val fun g w => by kernel_rfl, ob_val fun g w => by kernel_rfl, trivial⟩
    intro g
    refine Ex'.sub (subB_spec [0, 1, 4, 16]) ?_
    refine Ex'.as [0, 1, 2, 3, 4] (σ' := [(0, pV b 0), (1, sV key), (4, bV false), (16, bV true)]) (Γ' := [arcB b lt1 lt2 lb1 lb2 most p, llR lt1 t1 n, llR lt2 t2 n, llR lb1 b1 n, llR lb2 b2 n]) (by kernel_rfl) rfl (by kernel_rfl) (by kernel_rfl) ?_
    refine Ex'.next ?_
    refine Cd.condT (by kernel_rfl) ?_
    refine Cd.seq ?_
    refine Cd.region rfl ?_
    refine Sq.vals [0] (rest := []) [bV false] (fun w => by kernel_rfl) ?_
    refine Sq.done ?_
    refine Ex'.next ?_
    refine Cd.ret ?_
    refine Ex'.thenRet ?_
    refine Ex'.ret Try.results20 (RVs.tmp (v := bV false) (by kernel_rfl) (RVs.nil)) (fun w hw => ?_)
    have e : arcAdopt most p t1 t2 b1 b2 key = (t1, t2, b1, b2, false) := by unfold arcAdopt; rw [if_pos h1]
    rw [e]
    exact ⟨_, ⟨rfl, rfl⟩, ((((hw.conv 1 (R := llR lt1 t1 n) (R' := llR lt1 t1 n') (by kernel_rfl) (llR.up (by omega))).conv 2 (R := llR lt2 t2 n) (R' := llR lt2 t2 n') (by kernel_rfl) (llR.up (by omega))).conv 3 (R := llR lb1 b1 n) (R' := llR lb1 b1 n') (by kernel_rfl) (llR.up (by omega))).conv 4 (R := llR lb2 b2 n) (R' := llR lb2 b2 n') (by kernel_rfl) (llR.up (by omega))).pickB [0, 1, 2, 3, 4] (by kernel_rfl) (by kernel_rfl) (by kernel_rfl)⟩
  ·
    refine Cd.plan [0, 0, 3, 7, 15, 31, 15, 79, 207, 463, 1023, 2047] [(2, [(0, false, 0), (1, false, 0), (2, false, 0), (3, false, 0), (4, false, 0)]), (5, [(0, false, 0), (1, false, 0), (2, false, 0), (3, false, 0), (4, false, 0)]), (9, [(0, false, 0)])] [] [] [] [fun g => pV b 0, fun g => sV key, fun g => bV false, fun g => bV false, fun g => pV b 0, fun g => iV (arcLen most p t1 t2 b1 b2), fun g => pV b 0, fun g => pV b 0, fun g => pV b 0, fun g => iV most, fun g => bV (decide (arcLen most p t1 t2 b1 b2 ≥ most)), fun g => bV (decide (arcLen most p t1 t2 b1 b2 ≥ most))] (by kernel_rfl) (by kernel_rfl) rfl (trivial) ?_ ?_
    · exact ⟨ob_val fun g w => by kernel_rfl, ob_val fun g w => by kernel_rfl, ob_s (l := fun g => [arcB b lt1 lt2 lb1 lb2 most p, llR lt1 t1 n, llR lt2 t2 n, llR lb1 b1 n, llR lb2 b2 n]) (l' := fun g => [arcB b lt1 lt2 lb1 lb2 most p, llR lt1 t1 n, llR lt2 t2 n, llR lb1 b1 n, llR lb2 b2 n]) (v := fun g => bV false) (fun g => o_call (by kernel_rfl) Try.call16 ((arc_Has (n := n) (most := most) (p := p) (t1 := t1) (t2 := t2) (b1 := b1) (b2 := b2) key (by omega)).re (congrArg Value.bool (show arcHas most p t1 t2 b1 b2 key = false from h1)))) (fun g => by kernel_rfl), ob_val fun g w => by kernel_rfl, ob_val fun g w => by kernel_rfl, ob_s (l := fun g => [arcB b lt1 lt2 lb1 lb2 most p, llR lt1 t1 n, llR lt2 t2 n, llR lb1 b1 n, llR lb2 b2 n]) (l' := fun g => [arcB b lt1 lt2 lb1 lb2 most p, llR lt1 t1 n, llR lt2 t2 n, llR lb1 b1 n, llR lb2 b2 n]) (v := fun g => iV (arcLen most p t1 t2 b1 b2)) (fun g => o_call (by kernel_rfl) Try.call23 (arc_Len (n := n) (most := most) (p := p) (t1 := t1) (t2 := t2) (b1 := b1) (b2 := b2) (by omega))) (fun g => by kernel_rfl), ob_val fun g w => by kernel_rfl, ob_val fun g w => by kernel_rfl, ob_val fun g w => by kernel_rfl, ob_s (l := fun g => [arcB b lt1 lt2 lb1 lb2 most p]) (l' := fun g => [arcB b lt1 lt2 lb1 lb2 most p]) (v := fun g => iV most) (fun g => o_load (i := 0) (v := iV most) (by kernel_rfl) (by kernel_rfl) (by kernel_rfl)) (fun g => by kernel_rfl), ob_val fun g w => by kernel_rfl, ob_val fun g w => by kernel_rfl, trivial⟩
    intro g
    refine Ex'.sub (subB_spec [0, 1, 4, 16]) ?_
    refine Ex'.as [0, 1, 2, 3, 4] (σ' := [(0, pV b 0), (1, sV key), (4, bV false), (16, bV (decide (arcLen most p t1 t2 b1 b2 ≥ most)))]) (Γ' := [arcB b lt1 lt2 lb1 lb2 most p, llR lt1 t1 n, llR lt2 t2 n, llR lb1 b1 n, llR lb2 b2 n]) (by kernel_rfl) rfl (by kernel_rfl) (by kernel_rfl) ?_
    refine Ex'.next ?_
    refine Cd.case (p := arcLen most p t1 t2 b1 b2 ≥ most) (by kernel_rfl) (fun h2 => ?_) (fun h2 => ?_)
    ·
      refine Cd.seq ?_
      refine Cd.region rfl ?_
      refine Sq.vals [0] (rest := []) [bV false] (fun w => by kernel_rfl) ?_
      refine Sq.done ?_
      refine Ex'.next ?_
      refine Cd.ret ?_
      refine Ex'.thenRet ?_
      refine Ex'.ret Try.results20 (RVs.tmp (v := bV false) (by kernel_rfl) (RVs.nil)) (fun w hw => ?_)
      have e : arcAdopt most p t1 t2 b1 b2 key = (t1, t2, b1, b2, false) := by unfold arcAdopt; rw [if_neg (Bool.eq_false_iff.1 h1), if_pos h2]
      rw [e]
      exact ⟨_, ⟨rfl, rfl⟩, ((((hw.conv 1 (R := llR lt1 t1 n) (R' := llR lt1 t1 n') (by kernel_rfl) (llR.up (by omega))).conv 2 (R := llR lt2 t2 n) (R' := llR lt2 t2 n') (by kernel_rfl) (llR.up (by omega))).conv 3 (R := llR lb1 b1 n) (R' := llR lb1 b1 n') (by kernel_rfl) (llR.up (by omega))).conv 4 (R := llR lb2 b2 n) (R' := llR lb2 b2 n') (by kernel_rfl) (llR.up (by omega))).pickB [0, 1, 2, 3, 4] (by kernel_rfl) (by kernel_rfl) (by kernel_rfl)⟩
    ·
      refine Cd.skip ?_
      refine Ex'.next ?_
      refine Cd.seq ?_
      refine Cd.region rfl ?_
      refine Sq.vals [0, 1] (rest := [2]) [pV b 0, sV key] (fun w => by kernel_rfl) ?_
      refine Sq.same [0, 1, 2, 3, 4] (l := arcL b lt1 lt2 lb1 lb2 most p t1 t2 b1 b2 n) (o_call (by kernel_rfl) Try.call19 (arc_Remove (n := n) (most := most) (p := p) (t1 := t1) (t2 := t2) (b1 := b1) (b2 := b2) key (by omega))) (by kernel_rfl) rfl (by kernel_rfl) rfl ?_
      refine Sq.done ?_
      refine Ex'.next ?_
      refine Cd.seq ?_
      refine Cd.region rfl ?_
      refine Sq.vals [0, 1, 2, 3] (rest := [4, 5, 6]) [pV b 0, pV b 0, pV b 2, pV b 2] (fun w => by kernel_rfl) ?_
      refine Sq.same [0] (l := [arcB b lt1 lt2 lb1 lb2 most p]) (o_load (i := 2) (v := pV lt1 0) (by kernel_rfl) (by kernel_rfl) (by kernel_rfl)) (by kernel_rfl) rfl (by kernel_rfl) rfl ?_
      refine Sq.vals [5] (rest := [6]) [sV key] (fun w => by kernel_rfl) ?_
      refine Sq.same [1] (l := [llR lt1 ((arcRemove most p t1 t2 b1 b2 key).1) n]) (o_call (by kernel_rfl) Try.call30 (t_Front (ks := (arcRemove most p t1 t2 b1 b2 key).1) (n := n) key (by omega))) (by kernel_rfl) rfl (by kernel_rfl) rfl ?_
      refine Sq.done ?_
      refine Ex'.next ?_
      refine Cd.seq ?_
      refine Cd.region rfl ?_
      refine Sq.vals [0] (rest := [1]) [pV b 0] (fun w => by kernel_rfl) ?_
      refine Sq.res 2 (R := llR lt2 ((arcRemove most p t1 t2 b1 b2 key).2.1) n) (R' := llR lt2 ((arcRemove most p t1 t2 b1 b2 key).2.1) (n + 1)) (by kernel_rfl) (llR.up (by omega)) ?_
      refine Sq.res 3 (R := llR lb1 ((arcRemove most p t1 t2 b1 b2 key).2.2.1) n) (R' := llR lb1 ((arcRemove most p t1 t2 b1 b2 key).2.2.1) (n + 1)) (by kernel_rfl) (llR.up (by omega)) ?_
      refine Sq.res 4 (R := llR lb2 ((arcRemove most p t1 t2 b1 b2 key).2.2.2.1) n) (R' := llR lb2 ((arcRemove most p t1 t2 b1 b2 key).2.2.2.1) (n + 1)) (by kernel_rfl) (llR.up (by omega)) ?_
      refine Sq.same [0, 1, 2, 3, 4] (l := arcL b lt1 lt2 lb1 lb2 most p (fr ((arcRemove most p t1 t2 b1 b2 key).1) key) ((arcRemove most p t1 t2 b1 b2 key).2.1) ((arcRemove most p t1 t2 b1 b2 key).2.2.1) ((arcRemove most p t1 t2 b1 b2 key).2.2.2.1) (n + 1)) (o_call (by kernel_rfl) Try.call33 (arc_trim (n := n + 1) (most := most) (p := p) (t1 := fr ((arcRemove most p t1 t2 b1 b2 key).1) key) (t2 := (arcRemove most p t1 t2 b1 b2 key).2.1) (b1 := (arcRemove most p t1 t2 b1 b2 key).2.2.1) (b2 := (arcRemove most p t1 t2 b1 b2 key).2.2.2.1) (by omega) (by omega))) (by kernel_rfl) rfl (by kernel_rfl) rfl ?_
      refine Sq.done ?_
      refine Ex'.next ?_
      refine Cd.seq ?_
      refine Cd.region rfl ?_
      refine Sq.vals [0] (rest := []) [bV true] (fun w => by kernel_rfl) ?_
      refine Sq.done ?_
      refine Ex'.next ?_
      refine Cd.ret ?_
      refine Ex'.ret Try.results20 (RVs.tmp (v := bV true) (by kernel_rfl) (RVs.nil)) (fun w hw => ?_)
      have e : arcAdopt most p t1 t2 b1 b2 key = (fr ((arcRemove most p t1 t2 b1 b2 key).1) key, (arcRemove most p t1 t2 b1 b2 key).2.1, (arcTrim most p (fr ((arcRemove most p t1 t2 b1 b2 key).1) key) ((arcRemove most p t1 t2 b1 b2 key).2.1) ((arcRemove most p t1 t2 b1 b2 key).2.2.1) ((arcRemove most p t1 t2 b1 b2 key).2.2.2.1)).1, (arcTrim most p (fr ((arcRemove most p t1 t2 b1 b2 key).1) key) ((arcRemove most p t1 t2 b1 b2 key).2.1) ((arcRemove most p t1 t2 b1 b2 key).2.2.1) ((arcRemove most p t1 t2 b1 b2 key).2.2.2.1)).2, true) := by unfold arcAdopt; rw [if_neg (Bool.eq_false_iff.1 h1), if_neg h2]
      rw [e]
      exact ⟨_, ⟨rfl, rfl⟩, ((((hw.conv 1 (R := llR lt1 (fr ((arcRemove most p t1 t2 b1 b2 key).1) key) (n + 1)) (R' := llR lt1 (fr ((arcRemove most p t1 t2 b1 b2 key).1) key) n') (by kernel_rfl) (llR.up (by omega))).conv 2 (R := llR lt2 ((arcRemove most p t1 t2 b1 b2 key).2.1) (n + 1)) (R' := llR lt2 ((arcRemove most p t1 t2 b1 b2 key).2.1) n') (by kernel_rfl) (llR.up (by omega))).conv 3 (R := llR lb1 ((arcTrim most p (fr ((arcRemove most p t1 t2 b1 b2 key).1) key) ((arcRemove most p t1 t2 b1 b2 key).2.1) ((arcRemove most p t1 t2 b1 b2 key).2.2.1) ((arcRemove most p t1 t2 b1 b2 key).2.2.2.1)).1) (n + 1)) (R' := llR lb1 ((arcTrim most p (fr ((arcRemove most p t1 t2 b1 b2 key).1) key) ((arcRemove most p t1 t2 b1 b2 key).2.1) ((arcRemove most p t1 t2 b1 b2 key).2.2.1) ((arcRemove most p t1 t2 b1 b2 key).2.2.2.1)).1) n') (by kernel_rfl) (llR.up (by omega))).conv 4 (R := llR lb2 ((arcTrim most p (fr ((arcRemove most p t1 t2 b1 b2 key).1) key) ((arcRemove most p t1 t2 b1 b2 key).2.1) ((arcRemove most p t1 t2 b1 b2 key).2.2.1) ((arcRemove most p t1 t2 b1 b2 key).2.2.2.1)).2) (n + 1)) (R' := llR lb2 ((arcTrim most p (fr ((arcRemove most p t1 t2 b1 b2 key).1) key) ((arcRemove most p t1 t2 b1 b2 key).2.1) ((arcRemove most p t1 t2 b1 b2 key).2.2.1) ((arcRemove most p t1 t2 b1 b2 key).2.2.2.1)).2) n') (by kernel_rfl) (llR.up (by omega))).pickB [0, 1, 2, 3, 4] (by kernel_rfl) (by kernel_rfl) (by kernel_rfl)⟩

def arcResL (most p : Int) : Nat → List ByteArray → List ByteArray → List ByteArray → List ByteArray → List ByteArray → List ByteArray × List ByteArray × List ByteArray × List ByteArray × List ByteArray
  | 0, t1, t2, b1, b2, out => (t1, t2, b1, b2, out)
  | k + 1, t1, t2, b1, b2, out => if (t1.length : Int) + t2.length > most then arcResL most p k (arcYieldF most p t1 t2 b1 b2).1 (arcYieldF most p t1 t2 b1 b2).2.1 (arcYieldF most p t1 t2 b1 b2).2.2.1 (arcYieldF most p t1 t2 b1 b2).2.2.2.1 (out ++ [(arcYieldF most p t1 t2 b1 b2).2.2.2.2.1]) else (t1, t2, b1, b2, out)
theorem arcResL_stop {most p : Int} {t1 t2 b1 b2 out : List ByteArray} (h : ¬ (t1.length : Int) + t2.length > most) (k : Nat) : arcResL most p k t1 t2 b1 b2 out = (t1, t2, b1, b2, out) := by
  cases k with
  | zero => rfl
  | succ k => rw [arcResL, if_neg h]
theorem arcYieldF_len {most p : Int} {t1 t2 b1 b2 : List ByteArray} (h : 0 < t1.length + t2.length) : (arcYieldF most p t1 t2 b1 b2).1.length + (arcYieldF most p t1 t2 b1 b2).2.1.length + 1 = t1.length + t2.length := by
  unfold arcYieldF
  split
  · rename_i q
    rw [if_pos (by omega)]; simp only [List.length_dropLast]; omega
  · rename_i q
    rw [if_pos (by omega)]; simp only [List.length_dropLast]; omega
theorem arcResL_go {most p : Int} {t1 t2 b1 b2 out : List ByteArray} (h : (t1.length : Int) + t2.length > most) (h0 : 0 ≤ most) : arcResL most p (t1.length + t2.length) t1 t2 b1 b2 out = arcResL most p ((arcYieldF most p t1 t2 b1 b2).1.length + (arcYieldF most p t1 t2 b1 b2).2.1.length) (arcYieldF most p t1 t2 b1 b2).1 (arcYieldF most p t1 t2 b1 b2).2.1 (arcYieldF most p t1 t2 b1 b2).2.2.1 (arcYieldF most p t1 t2 b1 b2).2.2.2.1 (out ++ [(arcYieldF most p t1 t2 b1 b2).2.2.2.2.1]) := by
  have := arcYieldF_len (most := most) (p := p) (t1 := t1) (t2 := t2) (b1 := b1) (b2 := b2) (by omega)
  rw [← this, arcResL, if_pos h]
def arcResM (mo : Int) : Int := if (0 : Int) > mo then 0 else mo
def arcResP (mo p : Int) : Int := if arcResM mo < p then arcResM mo else p
def arcResize (most p : Int) (t1 t2 b1 b2 : List ByteArray) (mo : Int) : Int × Int × List ByteArray × List ByteArray × List ByteArray × List ByteArray × List ByteArray :=
  (arcResM mo, arcResP mo p, (arcResL (arcResM mo) (arcResP mo p) (t1.length + t2.length) t1 t2 b1 b2 []).1, (arcResL (arcResM mo) (arcResP mo p) (t1.length + t2.length) t1 t2 b1 b2 []).2.1,
    (arcTrim (arcResM mo) (arcResP mo p) (arcResL (arcResM mo) (arcResP mo p) (t1.length + t2.length) t1 t2 b1 b2 []).1 (arcResL (arcResM mo) (arcResP mo p) (t1.length + t2.length) t1 t2 b1 b2 []).2.1 (arcResL (arcResM mo) (arcResP mo p) (t1.length + t2.length) t1 t2 b1 b2 []).2.2.1 (arcResL (arcResM mo) (arcResP mo p) (t1.length + t2.length) t1 t2 b1 b2 []).2.2.2.1).1,
    (arcTrim (arcResM mo) (arcResP mo p) (arcResL (arcResM mo) (arcResP mo p) (t1.length + t2.length) t1 t2 b1 b2 []).1 (arcResL (arcResM mo) (arcResP mo p) (t1.length + t2.length) t1 t2 b1 b2 []).2.1 (arcResL (arcResM mo) (arcResP mo p) (t1.length + t2.length) t1 t2 b1 b2 []).2.2.1 (arcResL (arcResM mo) (arcResP mo p) (t1.length + t2.length) t1 t2 b1 b2 []).2.2.2.1).2,
    (arcResL (arcResM mo) (arcResP mo p) (t1.length + t2.length) t1 t2 b1 b2 []).2.2.2.2)

set_option maxHeartbeats 4000000 in
set_option maxRecDepth 100000 in
theorem arc_Resize {b : Nat} {lt1 : Nat} {lt2 : Nat} {lb1 : Nat} {lb2 : Nat} {n : Nat} {most : Int} {p : Int} {t1 : List ByteArray} {t2 : List ByteArray} {b1 : List ByteArray} {b2 : List ByteArray} (mo : Int) {n' : Nat} (hb : n + t1.length + t2.length ≤ 1000000000) (hn : n + t1.length + t2.length ≤ n') (hp : 0 ≤ p ∧ p ≤ 4611686018427387904) (hmo : -9223372036854775808 ≤ mo ∧ mo ≤ 4611686018427387904) : Tri Try.prog 22 #[pV b 0, iV mo] (arcL b lt1 lt2 lb1 lb2 most p t1 t2 b1 b2 n) (PostE (fun _ => True) id fun v => arcL b lt1 lt2 lb1 lb2 ((arcResize most p t1 t2 b1 b2 mo).1) ((arcResize most p t1 t2 b1 b2 mo).2.1) ((arcResize most p t1 t2 b1 b2 mo).2.2.1) ((arcResize most p t1 t2 b1 b2 mo).2.2.2.1) ((arcResize most p t1 t2 b1 b2 mo).2.2.2.2.1) ((arcResize most p t1 t2 b1 b2 mo).2.2.2.2.2.1) n' ++ [rowR 9 1 v ((arcResize most p t1 t2 b1 b2 mo).2.2.2.2.2.2).length (((arcResize most p t1 t2 b1 b2 mo).2.2.2.2.2.2).map Value.string)]) := by
  refine Tri.enter (args := [pV b 0, iV mo]) Try.func22 rfl rfl rfl (fun B wz => ?_)
  refine Cd.fact (i := 1) rfl llR.le ?_; rintro ⟨_, hl1⟩
  refine Cd.fact (i := 2) rfl llR.le ?_; rintro ⟨_, hl2⟩
  refine Cd.fact (i := 3) rfl llR.le ?_; rintro ⟨_, hl3⟩
  refine Cd.fact (i := 4) rfl llR.le ?_; rintro ⟨_, hl4⟩
  refine Cd.seq ?_
  refine Cd.region rfl ?_
  refine Sq.vals [0] (rest := []) [.slice none 0 0] (fun w => by kernel_rfl) ?_
  refine Sq.done ?_
  refine Ex'.next ?_
  refine Cd.seq ?_
  refine Cd.region rfl ?_
  refine Sq.vals [0, 1] (rest := [2, 3, 4, 5]) [pV b 0, iV mo] (fun w => by kernel_rfl) ?_
  by_cases h1 : (0 : Int) > mo
  ·
    refine Sq.v (r := iV (if (0 : Int) > mo then 0 else mo)) (pureV (by kernel_rfl) rfl fun w => by kernel_rfl) rfl (by kernel_rfl) ?_
    refine Sq.re 10 rfl (by rw [if_pos h1]) ?_
    refine Sq.vals [3, 4] (rest := [5]) [pV b 0, pV b 0] (fun w => by kernel_rfl) ?_
    refine Sq.same [0] (l := [arcB b lt1 lt2 lb1 lb2 most p]) (o_store (i := 0) (v := iV 0) (by kernel_rfl) (by kernel_rfl) (by kernel_rfl) (by kernel_rfl) (by kernel_rfl)) (by kernel_rfl) rfl (by kernel_rfl) rfl ?_
    refine Sq.done ?_
    refine Ex'.next ?_
    refine Cd.seq ?_
    by_cases h2 : (0 : Int) < p
    ·
      refine Cd.plan [0, 0, 2, 6, 14, 0, 32, 96, 224, 510, 1023, 2047, 4095] [(4, [(0, false, 0)]), (8, [(0, false, 0)]), (12, [(0, true, 0)])] [] [] [(0, 12, fun g => arcB b lt1 lt2 lb1 lb2 0 0)] [fun g => pV b 0, fun g => pV b 0, fun g => pV b 0, fun g => pV b 1, fun g => iV p, fun g => pV b 0, fun g => pV b 0, fun g => pV b 0, fun g => iV 0, fun g => iV 0, fun g => pV b 0, fun g => pV b 1, fun g => undef] (by kernel_rfl) (by kernel_rfl) rfl (trivial) ?_ ?_
      · exact ⟨ob_val fun g w => by kernel_rfl, ob_val fun g w => by kernel_rfl, ob_val fun g w => by kernel_rfl, ob_val fun g w => by kernel_rfl, ob_s (l := fun g => [arcB b lt1 lt2 lb1 lb2 0 p]) (l' := fun g => [arcB b lt1 lt2 lb1 lb2 0 p]) (v := fun g => iV p) (fun g => o_load (i := 1) (v := iV p) (by kernel_rfl) (by kernel_rfl) (by kernel_rfl)) (fun g => by kernel_rfl), ob_val fun g w => by kernel_rfl, ob_val fun g w => by kernel_rfl, ob_val fun g w => by kernel_rfl, ob_s (l := fun g => [arcB b lt1 lt2 lb1 lb2 0 p]) (l' := fun g => [arcB b lt1 lt2 lb1 lb2 0 p]) (v := fun g => iV 0) (fun g => o_load (i := 0) (v := iV 0) (by kernel_rfl) (by kernel_rfl) (by kernel_rfl)) (fun g => by kernel_rfl), ob_v (v := fun g => iV 0) (fun g => OprV.re (pureV (v := iV (if (0 : Int) < p then 0 else p)) (by kernel_rfl) rfl fun w => by kernel_rfl) (by rw [if_pos h2])) (fun g => by kernel_rfl), ob_val fun g w => by kernel_rfl, ob_val fun g w => by kernel_rfl, ob_s (l := fun g => [arcB b lt1 lt2 lb1 lb2 0 p]) (l' := fun g => [arcB b lt1 lt2 lb1 lb2 0 0]) (v := fun g => undef) (fun g => o_store (i := 1) (v := iV 0) (by kernel_rfl) (by kernel_rfl) (by kernel_rfl) (by kernel_rfl) (by kernel_rfl)) (fun g => by kernel_rfl), trivial⟩
      intro g
      refine Ex'.sub (subB_spec [0, 4]) ?_
      refine Ex'.as [0, 1, 2, 3, 4] (σ' := [(0, pV b 0), (4, .slice none 0 0)]) (Γ' := [arcB b lt1 lt2 lb1 lb2 0 0, llR lt1 t1 n, llR lt2 t2 n, llR lb1 b1 n, llR lb2 b2 n]) (by kernel_rfl) rfl (by kernel_rfl) (by kernel_rfl) ?_
      refine Ex'.next ?_
      refine Cd.seq ?_
      refine Cd.region rfl ?_
      refine Sq.vals [0] (rest := []) [.slice none 0 0] (fun w => by kernel_rfl) ?_
      refine Sq.done ?_
      refine Ex'.next ?_
      refine Cd.seq ?_
      refine Cd.block ?_
      refine Cd.nilRow 9 1 ?_
      refine Cd.loop (ι := (List ByteArray) × (List ByteArray) × (List ByteArray) × (List ByteArray) × Value × (List ByteArray) × Nat) (fun ⟨g1, g2, g3, g4, rv, rw, m2⟩ => arcResL 0 0 (g1.length + g2.length) g1 g2 g3 g4 rw = arcResL 0 0 (t1.length + t2.length) t1 t2 b1 b2 [] ∧ m2 + g1.length + g2.length ≤ n + t1.length + t2.length ∧ rw.length + g1.length + g2.length ≤ t1.length + t2.length) (fun ⟨g1, g2, g3, g4, rv, rw, m2⟩ => g1.length + g2.length) (fun ⟨g1, g2, g3, g4, rv, rw, m2⟩ => [(0, pV b 0), (4, .slice none 0 0), (5, rv)]) (fun ⟨g1, g2, g3, g4, rv, rw, m2⟩ => [arcB b lt1 lt2 lb1 lb2 0 0, llR lt1 g1 m2, llR lt2 g2 m2, llR lb1 g3 m2, llR lb2 g4 m2, rowR 9 1 rv rw.length (rw.map Value.string)]) (t1, t2, b1, b2, .slice none 0 0, ([] : List ByteArray), n) (⟨rfl, by omega, by simp⟩) (subB_eq (l := [0, 4, 5]) (by kernel_rfl)) (fun w hw => hw.pickB [0, 1, 2, 3, 4, 5] (by kernel_rfl) (by kernel_rfl) (by kernel_rfl)) ?_
      rintro ⟨g1, g2, g3, g4, rv, rw, m2⟩ hL3
      try dsimp only at hL3 ⊢
      obtain ⟨hi, hm2, hrw⟩ := hL3
      refine Cd.fact (i := 5) (R := rowR 9 1 rv rw.length (rw.map Value.string)) (by kernel_rfl) row_slice ?_; rintro ⟨a4, c5, rfl, hc5, hc5'⟩
      have hc5'' : c5 ≤ 9223372036854775807 := hc5'
      refine Cd.seq ?_
      refine Cd.seq ?_
      refine Cd.plan [0, 1, 0, 4, 12, 28, 63] [(1, [(0, false, 0), (1, false, 0), (2, false, 0), (3, false, 0), (4, false, 0)]), (5, [(0, false, 0)])] [] [] [] [fun g => pV b 0, fun g => iV ((g1.length : Int) + g2.length), fun g => pV b 0, fun g => pV b 0, fun g => pV b 0, fun g => iV 0, fun g => bV (decide ((g1.length : Int) + g2.length > 0))] (by kernel_rfl) (by kernel_rfl) rfl (trivial) ?_ ?_
      · exact ⟨ob_val fun g w => by kernel_rfl, ob_s (l := fun g => [arcB b lt1 lt2 lb1 lb2 0 0, llR lt1 g1 m2, llR lt2 g2 m2, llR lb1 g3 m2, llR lb2 g4 m2]) (l' := fun g => [arcB b lt1 lt2 lb1 lb2 0 0, llR lt1 g1 m2, llR lt2 g2 m2, llR lb1 g3 m2, llR lb2 g4 m2]) (v := fun g => iV ((g1.length : Int) + g2.length)) (fun g => o_call (by kernel_rfl) Try.call23 (Tri.eq (l2 := arcL b lt1 lt2 lb1 lb2 0 0 g1 g2 g3 g4 m2) (r' := iV ((g1.length : Int) + g2.length)) (arc_Len (n := m2) (most := 0) (p := 0) (t1 := g1) (t2 := g2) (b1 := g3) (b2 := g4) (by omega)) (rfl) (rfl))) (fun g => by kernel_rfl), ob_val fun g w => by kernel_rfl, ob_val fun g w => by kernel_rfl, ob_val fun g w => by kernel_rfl, ob_s (l := fun g => [arcB b lt1 lt2 lb1 lb2 0 0]) (l' := fun g => [arcB b lt1 lt2 lb1 lb2 0 0]) (v := fun g => iV 0) (fun g => o_load (i := 0) (v := iV 0) (by kernel_rfl) (by kernel_rfl) (by kernel_rfl)) (fun g => by kernel_rfl), ob_val fun g w => by kernel_rfl, trivial⟩
      intro g
      refine Ex'.sub (subB_spec [0, 4, 5, 31]) ?_
      refine Ex'.as [0, 1, 2, 3, 4, 5] (σ' := [(0, pV b 0), (4, .slice none 0 0), (5, .slice a4 rw.length c5), (31, bV (decide ((g1.length : Int) + g2.length > 0)))]) (Γ' := [arcB b lt1 lt2 lb1 lb2 0 0, llR lt1 g1 m2, llR lt2 g2 m2, llR lb1 g3 m2, llR lb2 g4 m2, rowR 9 1 (.slice a4 rw.length c5) rw.length (rw.map Value.string)]) (by kernel_rfl) rfl (by kernel_rfl) (by kernel_rfl) ?_
      refine Ex'.next ?_
      refine Cd.case (p := (g1.length : Int) + g2.length > 0) (by kernel_rfl) (fun h6 => ?_) (fun h6 => ?_)
      ·
        refine Cd.skip ?_
        refine Ex'.next ?_
        refine Cd.block ?_
        refine Cd.seq ?_
        refine Cd.region rfl ?_
        refine Sq.vals [0] (rest := [1, 2, 3, 4, 5, 6]) [pV b 0] (fun w => by kernel_rfl) ?_
        refine Sq.same [0, 1, 2, 3, 4] (l := arcL b lt1 lt2 lb1 lb2 0 0 g1 g2 g3 g4 m2) (o_call (by kernel_rfl) Try.call35 (arc_yieldF (n := m2) (n' := m2 + 1) (most := 0) (p := 0) (t1 := g1) (t2 := g2) (b1 := g3) (b2 := g4) (by omega) (by omega))) (by kernel_rfl) rfl (by kernel_rfl) rfl ?_
        refine Sq.vals [2, 3, 4, 5, 6] (rest := []) [.tuple #[sV ((arcYieldF 0 0 g1 g2 g3 g4).2.2.2.2.1), bV ((arcYieldF 0 0 g1 g2 g3 g4).2.2.2.2.2)], sV ((arcYieldF 0 0 g1 g2 g3 g4).2.2.2.2.1), bV ((arcYieldF 0 0 g1 g2 g3 g4).2.2.2.2.2), sV ((arcYieldF 0 0 g1 g2 g3 g4).2.2.2.2.1), bV ((arcYieldF 0 0 g1 g2 g3 g4).2.2.2.2.2)] (fun w => by kernel_rfl) ?_
        refine Sq.done ?_
        refine Ex'.next ?_
        refine Cd.region rfl ?_
        refine Sq.vals [0, 1] (rest := [2, 3, 4]) [.slice a4 rw.length c5, sV ((arcYieldF 0 0 g1 g2 g3 g4).2.2.2.2.1)] (fun w => by kernel_rfl) ?_
        refine Sq.ex [] (l := []) (o_lit (sz := 1) (sV ⟨#[]⟩) [sV ((arcYieldF 0 0 g1 g2 g3 g4).2.2.2.2.1)] Try.underlying22 (by kernel_rfl) (by kernel_rfl) (by kernel_rfl) (by kernel_rfl) (by kernel_rfl)) (by kernel_rfl) rfl (by kernel_rfl) (fun _ => Nat.zero_le _) ?_; intro b7 _
        refine Sq.ex [5, 6] (l := [rowR 9 1 (.slice a4 rw.length c5) rw.length (rw.map Value.string), blkR b7 [sV ((arcYieldF 0 0 g1 g2 g3 g4).2.2.2.2.1)] 9]) (o_push (n' := (rw ++ [(arcYieldF 0 0 g1 g2 g3 g4).2.2.2.2.1]).length) (xs' := (rw ++ [(arcYieldF 0 0 g1 g2 g3 g4).2.2.2.2.1]).map Value.string) (by kernel_rfl) (by kernel_rfl) sl_str (by decide) rfl (by kernel_rfl) (by unfold maxLen; omega) (by omega) (by simp) (by simp)) (by kernel_rfl) rfl (by kernel_rfl) (fun _ => Nat.le_of_ble_eq_true (by kernel_rfl)) ?_; rintro v8 _
        refine Sq.fact (i := 5) (R := rowR 9 1 v8 ((rw ++ [(arcYieldF 0 0 g1 g2 g3 g4).2.2.2.2.1]).length) ((rw ++ [(arcYieldF 0 0 g1 g2 g3 g4).2.2.2.2.1]).map Value.string)) (by kernel_rfl) row_slice ?_; rintro ⟨a9, c10, rfl, hc10, hc10'⟩
        have hc10'' : c10 ≤ 9223372036854775807 := hc10'
        have hlen11 : (rw ++ [(arcYieldF 0 0 g1 g2 g3 g4).2.2.2.2.1]).length = rw.length + 1 := by simp
        refine Sq.fact (i := 5) (R := rowR 9 1 (.slice a9 ((rw ++ [(arcYieldF 0 0 g1 g2 g3 g4).2.2.2.2.1]).length) c10) ((rw ++ [(arcYieldF 0 0 g1 g2 g3 g4).2.2.2.2.1]).length) ((rw ++ [(arcYieldF 0 0 g1 g2 g3 g4).2.2.2.2.1]).map Value.string)) (by kernel_rfl) (row_addr (by simp)) ?_; rintro ⟨b12, rfl⟩
        refine Sq.vals [4] (rest := []) [.slice (some ⟨b12, 0, none⟩) ((rw ++ [(arcYieldF 0 0 g1 g2 g3 g4).2.2.2.2.1]).length) c10] (fun w => by kernel_rfl) ?_
        refine Sq.done ?_
        refine Ex'.blockNormal ?_
        refine Ex'.round (g := (g1, g2, g3, g4, .slice a4 rw.length c5, rw, m2)) ((arcYieldF 0 0 g1 g2 g3 g4).1, (arcYieldF 0 0 g1 g2 g3 g4).2.1, (arcYieldF 0 0 g1 g2 g3 g4).2.2.1, (arcYieldF 0 0 g1 g2 g3 g4).2.2.2.1, .slice (some ⟨b12, 0, none⟩) ((rw ++ [(arcYieldF 0 0 g1 g2 g3 g4).2.2.2.2.1]).length) c10, rw ++ [(arcYieldF 0 0 g1 g2 g3 g4).2.2.2.2.1], m2 + 1) ?_ ?_ (subB_eq (l := [0, 4, 5]) (by kernel_rfl)) (fun w hw => hw.pickB [0, 1, 2, 3, 4, 5] (by kernel_rfl) (by kernel_rfl) (by kernel_rfl))
        · (try dsimp only); exact ⟨(arcResL_go h6 (by omega)).symm.trans hi, by have := arcYieldF_len (most := 0) (p := 0) (t1 := g1) (t2 := g2) (b1 := g3) (b2 := g4) (by omega); omega, by have := arcYieldF_len (most := 0) (p := 0) (t1 := g1) (t2 := g2) (b1 := g3) (b2 := g4) (by omega); simp only [List.length_append, List.length_singleton]; omega⟩
        · have := arcYieldF_len (most := 0) (p := 0) (t1 := g1) (t2 := g2) (b1 := g3) (b2 := g4) (by omega); dsimp only; omega
      ·
        refine Cd.exit ?_
        refine Ex'.thenExit ?_
        refine Ex'.thenExit ?_
        refine Ex'.blockHit ?_
        refine Ex'.next ?_
        refine Cd.seq ?_
        refine Cd.region rfl ?_
        refine Sq.vals [0] (rest := [1]) [pV b 0] (fun w => by kernel_rfl) ?_
        refine Sq.same [0, 1, 2, 3, 4] (l := arcL b lt1 lt2 lb1 lb2 0 0 g1 g2 g3 g4 m2) (o_call (by kernel_rfl) Try.call33 (arc_trim (n := m2) (most := 0) (p := 0) (t1 := g1) (t2 := g2) (b1 := g3) (b2 := g4) (by omega) (by omega))) (by kernel_rfl) rfl (by kernel_rfl) rfl ?_
        refine Sq.done ?_
        refine Ex'.next ?_
        refine Cd.seq ?_
        refine Cd.region rfl ?_
        refine Sq.vals [0, 1] (rest := []) [.slice a4 rw.length c5, .slice a4 rw.length c5] (fun w => by kernel_rfl) ?_
        refine Sq.done ?_
        refine Ex'.next ?_
        refine Cd.ret ?_
        refine Ex'.ret Try.results22 (RVs.tmp (v := .slice a4 rw.length c5) (by kernel_rfl) (RVs.nil)) (fun w hw => ?_)
        have e : arcResize most p t1 t2 b1 b2 mo = (0, 0, g1, g2, (arcTrim 0 0 g1 g2 g3 g4).1, (arcTrim 0 0 g1 g2 g3 g4).2, rw) := by (have eM : arcResM mo = 0 := (by unfold arcResM; rw [if_pos h1]); have eP : arcResP mo p = 0 := (by unfold arcResP; rw [eM, if_pos h2]); unfold arcResize; rw [eM, eP, ← hi, arcResL_stop h6])
        rw [e]
        exact ⟨_, ⟨_, trivial, rfl, rfl⟩, ((((hw.conv 1 (R := llR lt1 g1 m2) (R' := llR lt1 g1 n') (by kernel_rfl) (llR.up (by omega))).conv 2 (R := llR lt2 g2 m2) (R' := llR lt2 g2 n') (by kernel_rfl) (llR.up (by omega))).conv 3 (R := llR lb1 ((arcTrim 0 0 g1 g2 g3 g4).1) m2) (R' := llR lb1 ((arcTrim 0 0 g1 g2 g3 g4).1) n') (by kernel_rfl) (llR.up (by omega))).conv 4 (R := llR lb2 ((arcTrim 0 0 g1 g2 g3 g4).2) m2) (R' := llR lb2 ((arcTrim 0 0 g1 g2 g3 g4).2) n') (by kernel_rfl) (llR.up (by omega))).pickB [0, 1, 2, 3, 4, 5] (by kernel_rfl) (by kernel_rfl) (by kernel_rfl)⟩
    ·
      refine Cd.plan [0, 0, 2, 6, 14, 0, 32, 96, 224, 510, 1023, 2047, 4095] [(4, [(0, false, 0)]), (8, [(0, false, 0)]), (12, [(0, false, 0)])] [] [] [] [fun g => pV b 0, fun g => pV b 0, fun g => pV b 0, fun g => pV b 1, fun g => iV p, fun g => pV b 0, fun g => pV b 0, fun g => pV b 0, fun g => iV 0, fun g => iV p, fun g => pV b 0, fun g => pV b 1, fun g => undef] (by kernel_rfl) (by kernel_rfl) rfl (trivial) ?_ ?_
      · exact ⟨ob_val fun g w => by kernel_rfl, ob_val fun g w => by kernel_rfl, ob_val fun g w => by kernel_rfl, ob_val fun g w => by kernel_rfl, ob_s (l := fun g => [arcB b lt1 lt2 lb1 lb2 0 p]) (l' := fun g => [arcB b lt1 lt2 lb1 lb2 0 p]) (v := fun g => iV p) (fun g => o_load (i := 1) (v := iV p) (by kernel_rfl) (by kernel_rfl) (by kernel_rfl)) (fun g => by kernel_rfl), ob_val fun g w => by kernel_rfl, ob_val fun g w => by kernel_rfl, ob_val fun g w => by kernel_rfl, ob_s (l := fun g => [arcB b lt1 lt2 lb1 lb2 0 p]) (l' := fun g => [arcB b lt1 lt2 lb1 lb2 0 p]) (v := fun g => iV 0) (fun g => o_load (i := 0) (v := iV 0) (by kernel_rfl) (by kernel_rfl) (by kernel_rfl)) (fun g => by kernel_rfl), ob_v (v := fun g => iV p) (fun g => OprV.re (pureV (v := iV (if (0 : Int) < p then 0 else p)) (by kernel_rfl) rfl fun w => by kernel_rfl) (by rw [if_neg h2])) (fun g => by kernel_rfl), ob_val fun g w => by kernel_rfl, ob_val fun g w => by kernel_rfl, ob_s (l := fun g => [arcB b lt1 lt2 lb1 lb2 0 p]) (l' := fun g => [arcB b lt1 lt2 lb1 lb2 0 p]) (v := fun g => undef) (fun g => o_store (i := 1) (v := iV p) (by kernel_rfl) (by kernel_rfl) (by kernel_rfl) (by kernel_rfl) (by kernel_rfl)) (fun g => by kernel_rfl), trivial⟩
      intro g
      refine Ex'.sub (subB_spec [0, 4]) ?_
      refine Ex'.as [0, 1, 2, 3, 4] (σ' := [(0, pV b 0), (4, .slice none 0 0)]) (Γ' := [arcB b lt1 lt2 lb1 lb2 0 p, llR lt1 t1 n, llR lt2 t2 n, llR lb1 b1 n, llR lb2 b2 n]) (by kernel_rfl) rfl (by kernel_rfl) (by kernel_rfl) ?_
      refine Ex'.next ?_
      refine Cd.seq ?_
      refine Cd.region rfl ?_
      refine Sq.vals [0] (rest := []) [.slice none 0 0] (fun w => by kernel_rfl) ?_
      refine Sq.done ?_
      refine Ex'.next ?_
      refine Cd.seq ?_
      refine Cd.block ?_
      refine Cd.nilRow 9 1 ?_
      refine Cd.loop (ι := (List ByteArray) × (List ByteArray) × (List ByteArray) × (List ByteArray) × Value × (List ByteArray) × Nat) (fun ⟨g1, g2, g3, g4, rv, rw, m2⟩ => arcResL 0 p (g1.length + g2.length) g1 g2 g3 g4 rw = arcResL 0 p (t1.length + t2.length) t1 t2 b1 b2 [] ∧ m2 + g1.length + g2.length ≤ n + t1.length + t2.length ∧ rw.length + g1.length + g2.length ≤ t1.length + t2.length) (fun ⟨g1, g2, g3, g4, rv, rw, m2⟩ => g1.length + g2.length) (fun ⟨g1, g2, g3, g4, rv, rw, m2⟩ => [(0, pV b 0), (4, .slice none 0 0), (5, rv)]) (fun ⟨g1, g2, g3, g4, rv, rw, m2⟩ => [arcB b lt1 lt2 lb1 lb2 0 p, llR lt1 g1 m2, llR lt2 g2 m2, llR lb1 g3 m2, llR lb2 g4 m2, rowR 9 1 rv rw.length (rw.map Value.string)]) (t1, t2, b1, b2, .slice none 0 0, ([] : List ByteArray), n) (⟨rfl, by omega, by simp⟩) (subB_eq (l := [0, 4, 5]) (by kernel_rfl)) (fun w hw => hw.pickB [0, 1, 2, 3, 4, 5] (by kernel_rfl) (by kernel_rfl) (by kernel_rfl)) ?_
      rintro ⟨g1, g2, g3, g4, rv, rw, m2⟩ hL13
      try dsimp only at hL13 ⊢
      obtain ⟨hi, hm2, hrw⟩ := hL13
      refine Cd.fact (i := 5) (R := rowR 9 1 rv rw.length (rw.map Value.string)) (by kernel_rfl) row_slice ?_; rintro ⟨a14, c15, rfl, hc15, hc15'⟩
      have hc15'' : c15 ≤ 9223372036854775807 := hc15'
      refine Cd.seq ?_
      refine Cd.seq ?_
      refine Cd.plan [0, 1, 0, 4, 12, 28, 63] [(1, [(0, false, 0), (1, false, 0), (2, false, 0), (3, false, 0), (4, false, 0)]), (5, [(0, false, 0)])] [] [] [] [fun g => pV b 0, fun g => iV ((g1.length : Int) + g2.length), fun g => pV b 0, fun g => pV b 0, fun g => pV b 0, fun g => iV 0, fun g => bV (decide ((g1.length : Int) + g2.length > 0))] (by kernel_rfl) (by kernel_rfl) rfl (trivial) ?_ ?_
      · exact ⟨ob_val fun g w => by kernel_rfl, ob_s (l := fun g => [arcB b lt1 lt2 lb1 lb2 0 p, llR lt1 g1 m2, llR lt2 g2 m2, llR lb1 g3 m2, llR lb2 g4 m2]) (l' := fun g => [arcB b lt1 lt2 lb1 lb2 0 p, llR lt1 g1 m2, llR lt2 g2 m2, llR lb1 g3 m2, llR lb2 g4 m2]) (v := fun g => iV ((g1.length : Int) + g2.length)) (fun g => o_call (by kernel_rfl) Try.call23 (Tri.eq (l2 := arcL b lt1 lt2 lb1 lb2 0 p g1 g2 g3 g4 m2) (r' := iV ((g1.length : Int) + g2.length)) (arc_Len (n := m2) (most := 0) (p := p) (t1 := g1) (t2 := g2) (b1 := g3) (b2 := g4) (by omega)) (rfl) (rfl))) (fun g => by kernel_rfl), ob_val fun g w => by kernel_rfl, ob_val fun g w => by kernel_rfl, ob_val fun g w => by kernel_rfl, ob_s (l := fun g => [arcB b lt1 lt2 lb1 lb2 0 p]) (l' := fun g => [arcB b lt1 lt2 lb1 lb2 0 p]) (v := fun g => iV 0) (fun g => o_load (i := 0) (v := iV 0) (by kernel_rfl) (by kernel_rfl) (by kernel_rfl)) (fun g => by kernel_rfl), ob_val fun g w => by kernel_rfl, trivial⟩
      intro g
      refine Ex'.sub (subB_spec [0, 4, 5, 31]) ?_
      refine Ex'.as [0, 1, 2, 3, 4, 5] (σ' := [(0, pV b 0), (4, .slice none 0 0), (5, .slice a14 rw.length c15), (31, bV (decide ((g1.length : Int) + g2.length > 0)))]) (Γ' := [arcB b lt1 lt2 lb1 lb2 0 p, llR lt1 g1 m2, llR lt2 g2 m2, llR lb1 g3 m2, llR lb2 g4 m2, rowR 9 1 (.slice a14 rw.length c15) rw.length (rw.map Value.string)]) (by kernel_rfl) rfl (by kernel_rfl) (by kernel_rfl) ?_
      refine Ex'.next ?_
      refine Cd.case (p := (g1.length : Int) + g2.length > 0) (by kernel_rfl) (fun h16 => ?_) (fun h16 => ?_)
      ·
        refine Cd.skip ?_
        refine Ex'.next ?_
        refine Cd.block ?_
        refine Cd.seq ?_
        refine Cd.region rfl ?_
        refine Sq.vals [0] (rest := [1, 2, 3, 4, 5, 6]) [pV b 0] (fun w => by kernel_rfl) ?_
        refine Sq.same [0, 1, 2, 3, 4] (l := arcL b lt1 lt2 lb1 lb2 0 p g1 g2 g3 g4 m2) (o_call (by kernel_rfl) Try.call35 (arc_yieldF (n := m2) (n' := m2 + 1) (most := 0) (p := p) (t1 := g1) (t2 := g2) (b1 := g3) (b2 := g4) (by omega) (by omega))) (by kernel_rfl) rfl (by kernel_rfl) rfl ?_
        refine Sq.vals [2, 3, 4, 5, 6] (rest := []) [.tuple #[sV ((arcYieldF 0 p g1 g2 g3 g4).2.2.2.2.1), bV ((arcYieldF 0 p g1 g2 g3 g4).2.2.2.2.2)], sV ((arcYieldF 0 p g1 g2 g3 g4).2.2.2.2.1), bV ((arcYieldF 0 p g1 g2 g3 g4).2.2.2.2.2), sV ((arcYieldF 0 p g1 g2 g3 g4).2.2.2.2.1), bV ((arcYieldF 0 p g1 g2 g3 g4).2.2.2.2.2)] (fun w => by kernel_rfl) ?_
        refine Sq.done ?_
        refine Ex'.next ?_
        refine Cd.region rfl ?_
        refine Sq.vals [0, 1] (rest := [2, 3, 4]) [.slice a14 rw.length c15, sV ((arcYieldF 0 p g1 g2 g3 g4).2.2.2.2.1)] (fun w => by kernel_rfl) ?_
        refine Sq.ex [] (l := []) (o_lit (sz := 1) (sV ⟨#[]⟩) [sV ((arcYieldF 0 p g1 g2 g3 g4).2.2.2.2.1)] Try.underlying22 (by kernel_rfl) (by kernel_rfl) (by kernel_rfl) (by kernel_rfl) (by kernel_rfl)) (by kernel_rfl) rfl (by kernel_rfl) (fun _ => Nat.zero_le _) ?_; intro b17 _
        refine Sq.ex [5, 6] (l := [rowR 9 1 (.slice a14 rw.length c15) rw.length (rw.map Value.string), blkR b17 [sV ((arcYieldF 0 p g1 g2 g3 g4).2.2.2.2.1)] 9]) (o_push (n' := (rw ++ [(arcYieldF 0 p g1 g2 g3 g4).2.2.2.2.1]).length) (xs' := (rw ++ [(arcYieldF 0 p g1 g2 g3 g4).2.2.2.2.1]).map Value.string) (by kernel_rfl) (by kernel_rfl) sl_str (by decide) rfl (by kernel_rfl) (by unfold maxLen; omega) (by omega) (by simp) (by simp)) (by kernel_rfl) rfl (by kernel_rfl) (fun _ => Nat.le_of_ble_eq_true (by kernel_rfl)) ?_; rintro v18 _
        refine Sq.fact (i := 5) (R := rowR 9 1 v18 ((rw ++ [(arcYieldF 0 p g1 g2 g3 g4).2.2.2.2.1]).length) ((rw ++ [(arcYieldF 0 p g1 g2 g3 g4).2.2.2.2.1]).map Value.string)) (by kernel_rfl) row_slice ?_; rintro ⟨a19, c20, rfl, hc20, hc20'⟩
        have hc20'' : c20 ≤ 9223372036854775807 := hc20'
        have hlen21 : (rw ++ [(arcYieldF 0 p g1 g2 g3 g4).2.2.2.2.1]).length = rw.length + 1 := by simp
        refine Sq.fact (i := 5) (R := rowR 9 1 (.slice a19 ((rw ++ [(arcYieldF 0 p g1 g2 g3 g4).2.2.2.2.1]).length) c20) ((rw ++ [(arcYieldF 0 p g1 g2 g3 g4).2.2.2.2.1]).length) ((rw ++ [(arcYieldF 0 p g1 g2 g3 g4).2.2.2.2.1]).map Value.string)) (by kernel_rfl) (row_addr (by simp)) ?_; rintro ⟨b22, rfl⟩
        refine Sq.vals [4] (rest := []) [.slice (some ⟨b22, 0, none⟩) ((rw ++ [(arcYieldF 0 p g1 g2 g3 g4).2.2.2.2.1]).length) c20] (fun w => by kernel_rfl) ?_
        refine Sq.done ?_
        refine Ex'.blockNormal ?_
        refine Ex'.round (g := (g1, g2, g3, g4, .slice a14 rw.length c15, rw, m2)) ((arcYieldF 0 p g1 g2 g3 g4).1, (arcYieldF 0 p g1 g2 g3 g4).2.1, (arcYieldF 0 p g1 g2 g3 g4).2.2.1, (arcYieldF 0 p g1 g2 g3 g4).2.2.2.1, .slice (some ⟨b22, 0, none⟩) ((rw ++ [(arcYieldF 0 p g1 g2 g3 g4).2.2.2.2.1]).length) c20, rw ++ [(arcYieldF 0 p g1 g2 g3 g4).2.2.2.2.1], m2 + 1) ?_ ?_ (subB_eq (l := [0, 4, 5]) (by kernel_rfl)) (fun w hw => hw.pickB [0, 1, 2, 3, 4, 5] (by kernel_rfl) (by kernel_rfl) (by kernel_rfl))
        · (try dsimp only); exact ⟨(arcResL_go h16 (by omega)).symm.trans hi, by have := arcYieldF_len (most := 0) (p := p) (t1 := g1) (t2 := g2) (b1 := g3) (b2 := g4) (by omega); omega, by have := arcYieldF_len (most := 0) (p := p) (t1 := g1) (t2 := g2) (b1 := g3) (b2 := g4) (by omega); simp only [List.length_append, List.length_singleton]; omega⟩
        · have := arcYieldF_len (most := 0) (p := p) (t1 := g1) (t2 := g2) (b1 := g3) (b2 := g4) (by omega); dsimp only; omega
      ·
        refine Cd.exit ?_
        refine Ex'.thenExit ?_
        refine Ex'.thenExit ?_
        refine Ex'.blockHit ?_
        refine Ex'.next ?_
        refine Cd.seq ?_
        refine Cd.region rfl ?_
        refine Sq.vals [0] (rest := [1]) [pV b 0] (fun w => by kernel_rfl) ?_
        refine Sq.same [0, 1, 2, 3, 4] (l := arcL b lt1 lt2 lb1 lb2 0 p g1 g2 g3 g4 m2) (o_call (by kernel_rfl) Try.call33 (arc_trim (n := m2) (most := 0) (p := p) (t1 := g1) (t2 := g2) (b1 := g3) (b2 := g4) (by omega) (by omega))) (by kernel_rfl) rfl (by kernel_rfl) rfl ?_
        refine Sq.done ?_
        refine Ex'.next ?_
        refine Cd.seq ?_
        refine Cd.region rfl ?_
        refine Sq.vals [0, 1] (rest := []) [.slice a14 rw.length c15, .slice a14 rw.length c15] (fun w => by kernel_rfl) ?_
        refine Sq.done ?_
        refine Ex'.next ?_
        refine Cd.ret ?_
        refine Ex'.ret Try.results22 (RVs.tmp (v := .slice a14 rw.length c15) (by kernel_rfl) (RVs.nil)) (fun w hw => ?_)
        have e : arcResize most p t1 t2 b1 b2 mo = (0, p, g1, g2, (arcTrim 0 p g1 g2 g3 g4).1, (arcTrim 0 p g1 g2 g3 g4).2, rw) := by (have eM : arcResM mo = 0 := (by unfold arcResM; rw [if_pos h1]); have eP : arcResP mo p = p := (by unfold arcResP; rw [eM, if_neg h2]); unfold arcResize; rw [eM, eP, ← hi, arcResL_stop h16])
        rw [e]
        exact ⟨_, ⟨_, trivial, rfl, rfl⟩, ((((hw.conv 1 (R := llR lt1 g1 m2) (R' := llR lt1 g1 n') (by kernel_rfl) (llR.up (by omega))).conv 2 (R := llR lt2 g2 m2) (R' := llR lt2 g2 n') (by kernel_rfl) (llR.up (by omega))).conv 3 (R := llR lb1 ((arcTrim 0 p g1 g2 g3 g4).1) m2) (R' := llR lb1 ((arcTrim 0 p g1 g2 g3 g4).1) n') (by kernel_rfl) (llR.up (by omega))).conv 4 (R := llR lb2 ((arcTrim 0 p g1 g2 g3 g4).2) m2) (R' := llR lb2 ((arcTrim 0 p g1 g2 g3 g4).2) n') (by kernel_rfl) (llR.up (by omega))).pickB [0, 1, 2, 3, 4, 5] (by kernel_rfl) (by kernel_rfl) (by kernel_rfl)⟩
  ·
    refine Sq.v (r := iV (if (0 : Int) > mo then 0 else mo)) (pureV (by kernel_rfl) rfl fun w => by kernel_rfl) rfl (by kernel_rfl) ?_
    refine Sq.re 10 rfl (by rw [if_neg h1]) ?_
    refine Sq.vals [3, 4] (rest := [5]) [pV b 0, pV b 0] (fun w => by kernel_rfl) ?_
    refine Sq.same [0] (l := [arcB b lt1 lt2 lb1 lb2 most p]) (o_store (i := 0) (v := iV mo) (by kernel_rfl) (by kernel_rfl) (by kernel_rfl) (by kernel_rfl) (by kernel_rfl)) (by kernel_rfl) rfl (by kernel_rfl) rfl ?_
    refine Sq.done ?_
    refine Ex'.next ?_
    refine Cd.seq ?_
    by_cases h23 : mo < p
    ·
      refine Cd.plan [0, 0, 2, 6, 14, 0, 32, 96, 224, 510, 1023, 2047, 4095] [(4, [(0, false, 0)]), (8, [(0, false, 0)]), (12, [(0, true, 0)])] [] [] [(0, 12, fun g => arcB b lt1 lt2 lb1 lb2 mo mo)] [fun g => pV b 0, fun g => pV b 0, fun g => pV b 0, fun g => pV b 1, fun g => iV p, fun g => pV b 0, fun g => pV b 0, fun g => pV b 0, fun g => iV mo, fun g => iV mo, fun g => pV b 0, fun g => pV b 1, fun g => undef] (by kernel_rfl) (by kernel_rfl) rfl (trivial) ?_ ?_
      · exact ⟨ob_val fun g w => by kernel_rfl, ob_val fun g w => by kernel_rfl, ob_val fun g w => by kernel_rfl, ob_val fun g w => by kernel_rfl, ob_s (l := fun g => [arcB b lt1 lt2 lb1 lb2 mo p]) (l' := fun g => [arcB b lt1 lt2 lb1 lb2 mo p]) (v := fun g => iV p) (fun g => o_load (i := 1) (v := iV p) (by kernel_rfl) (by kernel_rfl) (by kernel_rfl)) (fun g => by kernel_rfl), ob_val fun g w => by kernel_rfl, ob_val fun g w => by kernel_rfl, ob_val fun g w => by kernel_rfl, ob_s (l := fun g => [arcB b lt1 lt2 lb1 lb2 mo p]) (l' := fun g => [arcB b lt1 lt2 lb1 lb2 mo p]) (v := fun g => iV mo) (fun g => o_load (i := 0) (v := iV mo) (by kernel_rfl) (by kernel_rfl) (by kernel_rfl)) (fun g => by kernel_rfl), ob_v (v := fun g => iV mo) (fun g => OprV.re (pureV (v := iV (if mo < p then mo else p)) (by kernel_rfl) rfl fun w => by kernel_rfl) (by rw [if_pos h23])) (fun g => by kernel_rfl), ob_val fun g w => by kernel_rfl, ob_val fun g w => by kernel_rfl, ob_s (l := fun g => [arcB b lt1 lt2 lb1 lb2 mo p]) (l' := fun g => [arcB b lt1 lt2 lb1 lb2 mo mo]) (v := fun g => undef) (fun g => o_store (i := 1) (v := iV mo) (by kernel_rfl) (by kernel_rfl) (by kernel_rfl) (by kernel_rfl) (by kernel_rfl)) (fun g => by kernel_rfl), trivial⟩
      intro g
      refine Ex'.sub (subB_spec [0, 4]) ?_
      refine Ex'.as [0, 1, 2, 3, 4] (σ' := [(0, pV b 0), (4, .slice none 0 0)]) (Γ' := [arcB b lt1 lt2 lb1 lb2 mo mo, llR lt1 t1 n, llR lt2 t2 n, llR lb1 b1 n, llR lb2 b2 n]) (by kernel_rfl) rfl (by kernel_rfl) (by kernel_rfl) ?_
      refine Ex'.next ?_
      refine Cd.seq ?_
      refine Cd.region rfl ?_
      refine Sq.vals [0] (rest := []) [.slice none 0 0] (fun w => by kernel_rfl) ?_
      refine Sq.done ?_
      refine Ex'.next ?_
      refine Cd.seq ?_
      refine Cd.block ?_
      refine Cd.nilRow 9 1 ?_
      refine Cd.loop (ι := (List ByteArray) × (List ByteArray) × (List ByteArray) × (List ByteArray) × Value × (List ByteArray) × Nat) (fun ⟨g1, g2, g3, g4, rv, rw, m2⟩ => arcResL mo mo (g1.length + g2.length) g1 g2 g3 g4 rw = arcResL mo mo (t1.length + t2.length) t1 t2 b1 b2 [] ∧ m2 + g1.length + g2.length ≤ n + t1.length + t2.length ∧ rw.length + g1.length + g2.length ≤ t1.length + t2.length) (fun ⟨g1, g2, g3, g4, rv, rw, m2⟩ => g1.length + g2.length) (fun ⟨g1, g2, g3, g4, rv, rw, m2⟩ => [(0, pV b 0), (4, .slice none 0 0), (5, rv)]) (fun ⟨g1, g2, g3, g4, rv, rw, m2⟩ => [arcB b lt1 lt2 lb1 lb2 mo mo, llR lt1 g1 m2, llR lt2 g2 m2, llR lb1 g3 m2, llR lb2 g4 m2, rowR 9 1 rv rw.length (rw.map Value.string)]) (t1, t2, b1, b2, .slice none 0 0, ([] : List ByteArray), n) (⟨rfl, by omega, by simp⟩) (subB_eq (l := [0, 4, 5]) (by kernel_rfl)) (fun w hw => hw.pickB [0, 1, 2, 3, 4, 5] (by kernel_rfl) (by kernel_rfl) (by kernel_rfl)) ?_
      rintro ⟨g1, g2, g3, g4, rv, rw, m2⟩ hL24
      try dsimp only at hL24 ⊢
      obtain ⟨hi, hm2, hrw⟩ := hL24
      refine Cd.fact (i := 5) (R := rowR 9 1 rv rw.length (rw.map Value.string)) (by kernel_rfl) row_slice ?_; rintro ⟨a25, c26, rfl, hc26, hc26'⟩
      have hc26'' : c26 ≤ 9223372036854775807 := hc26'
      refine Cd.seq ?_
      refine Cd.seq ?_
      refine Cd.plan [0, 1, 0, 4, 12, 28, 63] [(1, [(0, false, 0), (1, false, 0), (2, false, 0), (3, false, 0), (4, false, 0)]), (5, [(0, false, 0)])] [] [] [] [fun g => pV b 0, fun g => iV ((g1.length : Int) + g2.length), fun g => pV b 0, fun g => pV b 0, fun g => pV b 0, fun g => iV mo, fun g => bV (decide ((g1.length : Int) + g2.length > mo))] (by kernel_rfl) (by kernel_rfl) rfl (trivial) ?_ ?_
      · exact ⟨ob_val fun g w => by kernel_rfl, ob_s (l := fun g => [arcB b lt1 lt2 lb1 lb2 mo mo, llR lt1 g1 m2, llR lt2 g2 m2, llR lb1 g3 m2, llR lb2 g4 m2]) (l' := fun g => [arcB b lt1 lt2 lb1 lb2 mo mo, llR lt1 g1 m2, llR lt2 g2 m2, llR lb1 g3 m2, llR lb2 g4 m2]) (v := fun g => iV ((g1.length : Int) + g2.length)) (fun g => o_call (by kernel_rfl) Try.call23 (Tri.eq (l2 := arcL b lt1 lt2 lb1 lb2 mo mo g1 g2 g3 g4 m2) (r' := iV ((g1.length : Int) + g2.length)) (arc_Len (n := m2) (most := mo) (p := mo) (t1 := g1) (t2 := g2) (b1 := g3) (b2 := g4) (by omega)) (rfl) (rfl))) (fun g => by kernel_rfl), ob_val fun g w => by kernel_rfl, ob_val fun g w => by kernel_rfl, ob_val fun g w => by kernel_rfl, ob_s (l := fun g => [arcB b lt1 lt2 lb1 lb2 mo mo]) (l' := fun g => [arcB b lt1 lt2 lb1 lb2 mo mo]) (v := fun g => iV mo) (fun g => o_load (i := 0) (v := iV mo) (by kernel_rfl) (by kernel_rfl) (by kernel_rfl)) (fun g => by kernel_rfl), ob_val fun g w => by kernel_rfl, trivial⟩
      intro g
      refine Ex'.sub (subB_spec [0, 4, 5, 31]) ?_
      refine Ex'.as [0, 1, 2, 3, 4, 5] (σ' := [(0, pV b 0), (4, .slice none 0 0), (5, .slice a25 rw.length c26), (31, bV (decide ((g1.length : Int) + g2.length > mo)))]) (Γ' := [arcB b lt1 lt2 lb1 lb2 mo mo, llR lt1 g1 m2, llR lt2 g2 m2, llR lb1 g3 m2, llR lb2 g4 m2, rowR 9 1 (.slice a25 rw.length c26) rw.length (rw.map Value.string)]) (by kernel_rfl) rfl (by kernel_rfl) (by kernel_rfl) ?_
      refine Ex'.next ?_
      refine Cd.case (p := (g1.length : Int) + g2.length > mo) (by kernel_rfl) (fun h27 => ?_) (fun h27 => ?_)
      ·
        refine Cd.skip ?_
        refine Ex'.next ?_
        refine Cd.block ?_
        refine Cd.seq ?_
        refine Cd.region rfl ?_
        refine Sq.vals [0] (rest := [1, 2, 3, 4, 5, 6]) [pV b 0] (fun w => by kernel_rfl) ?_
        refine Sq.same [0, 1, 2, 3, 4] (l := arcL b lt1 lt2 lb1 lb2 mo mo g1 g2 g3 g4 m2) (o_call (by kernel_rfl) Try.call35 (arc_yieldF (n := m2) (n' := m2 + 1) (most := mo) (p := mo) (t1 := g1) (t2 := g2) (b1 := g3) (b2 := g4) (by omega) (by omega))) (by kernel_rfl) rfl (by kernel_rfl) rfl ?_
        refine Sq.vals [2, 3, 4, 5, 6] (rest := []) [.tuple #[sV ((arcYieldF mo mo g1 g2 g3 g4).2.2.2.2.1), bV ((arcYieldF mo mo g1 g2 g3 g4).2.2.2.2.2)], sV ((arcYieldF mo mo g1 g2 g3 g4).2.2.2.2.1), bV ((arcYieldF mo mo g1 g2 g3 g4).2.2.2.2.2), sV ((arcYieldF mo mo g1 g2 g3 g4).2.2.2.2.1), bV ((arcYieldF mo mo g1 g2 g3 g4).2.2.2.2.2)] (fun w => by kernel_rfl) ?_
        refine Sq.done ?_
        refine Ex'.next ?_
        refine Cd.region rfl ?_
        refine Sq.vals [0, 1] (rest := [2, 3, 4]) [.slice a25 rw.length c26, sV ((arcYieldF mo mo g1 g2 g3 g4).2.2.2.2.1)] (fun w => by kernel_rfl) ?_
        refine Sq.ex [] (l := []) (o_lit (sz := 1) (sV ⟨#[]⟩) [sV ((arcYieldF mo mo g1 g2 g3 g4).2.2.2.2.1)] Try.underlying22 (by kernel_rfl) (by kernel_rfl) (by kernel_rfl) (by kernel_rfl) (by kernel_rfl)) (by kernel_rfl) rfl (by kernel_rfl) (fun _ => Nat.zero_le _) ?_; intro b28 _
        refine Sq.ex [5, 6] (l := [rowR 9 1 (.slice a25 rw.length c26) rw.length (rw.map Value.string), blkR b28 [sV ((arcYieldF mo mo g1 g2 g3 g4).2.2.2.2.1)] 9]) (o_push (n' := (rw ++ [(arcYieldF mo mo g1 g2 g3 g4).2.2.2.2.1]).length) (xs' := (rw ++ [(arcYieldF mo mo g1 g2 g3 g4).2.2.2.2.1]).map Value.string) (by kernel_rfl) (by kernel_rfl) sl_str (by decide) rfl (by kernel_rfl) (by unfold maxLen; omega) (by omega) (by simp) (by simp)) (by kernel_rfl) rfl (by kernel_rfl) (fun _ => Nat.le_of_ble_eq_true (by kernel_rfl)) ?_; rintro v29 _
        refine Sq.fact (i := 5) (R := rowR 9 1 v29 ((rw ++ [(arcYieldF mo mo g1 g2 g3 g4).2.2.2.2.1]).length) ((rw ++ [(arcYieldF mo mo g1 g2 g3 g4).2.2.2.2.1]).map Value.string)) (by kernel_rfl) row_slice ?_; rintro ⟨a30, c31, rfl, hc31, hc31'⟩
        have hc31'' : c31 ≤ 9223372036854775807 := hc31'
        have hlen32 : (rw ++ [(arcYieldF mo mo g1 g2 g3 g4).2.2.2.2.1]).length = rw.length + 1 := by simp
        refine Sq.fact (i := 5) (R := rowR 9 1 (.slice a30 ((rw ++ [(arcYieldF mo mo g1 g2 g3 g4).2.2.2.2.1]).length) c31) ((rw ++ [(arcYieldF mo mo g1 g2 g3 g4).2.2.2.2.1]).length) ((rw ++ [(arcYieldF mo mo g1 g2 g3 g4).2.2.2.2.1]).map Value.string)) (by kernel_rfl) (row_addr (by simp)) ?_; rintro ⟨b33, rfl⟩
        refine Sq.vals [4] (rest := []) [.slice (some ⟨b33, 0, none⟩) ((rw ++ [(arcYieldF mo mo g1 g2 g3 g4).2.2.2.2.1]).length) c31] (fun w => by kernel_rfl) ?_
        refine Sq.done ?_
        refine Ex'.blockNormal ?_
        refine Ex'.round (g := (g1, g2, g3, g4, .slice a25 rw.length c26, rw, m2)) ((arcYieldF mo mo g1 g2 g3 g4).1, (arcYieldF mo mo g1 g2 g3 g4).2.1, (arcYieldF mo mo g1 g2 g3 g4).2.2.1, (arcYieldF mo mo g1 g2 g3 g4).2.2.2.1, .slice (some ⟨b33, 0, none⟩) ((rw ++ [(arcYieldF mo mo g1 g2 g3 g4).2.2.2.2.1]).length) c31, rw ++ [(arcYieldF mo mo g1 g2 g3 g4).2.2.2.2.1], m2 + 1) ?_ ?_ (subB_eq (l := [0, 4, 5]) (by kernel_rfl)) (fun w hw => hw.pickB [0, 1, 2, 3, 4, 5] (by kernel_rfl) (by kernel_rfl) (by kernel_rfl))
        · (try dsimp only); exact ⟨(arcResL_go h27 (by omega)).symm.trans hi, by have := arcYieldF_len (most := mo) (p := mo) (t1 := g1) (t2 := g2) (b1 := g3) (b2 := g4) (by omega); omega, by have := arcYieldF_len (most := mo) (p := mo) (t1 := g1) (t2 := g2) (b1 := g3) (b2 := g4) (by omega); simp only [List.length_append, List.length_singleton]; omega⟩
        · have := arcYieldF_len (most := mo) (p := mo) (t1 := g1) (t2 := g2) (b1 := g3) (b2 := g4) (by omega); dsimp only; omega
      ·
        refine Cd.exit ?_
        refine Ex'.thenExit ?_
        refine Ex'.thenExit ?_
        refine Ex'.blockHit ?_
        refine Ex'.next ?_
        refine Cd.seq ?_
        refine Cd.region rfl ?_
        refine Sq.vals [0] (rest := [1]) [pV b 0] (fun w => by kernel_rfl) ?_
        refine Sq.same [0, 1, 2, 3, 4] (l := arcL b lt1 lt2 lb1 lb2 mo mo g1 g2 g3 g4 m2) (o_call (by kernel_rfl) Try.call33 (arc_trim (n := m2) (most := mo) (p := mo) (t1 := g1) (t2 := g2) (b1 := g3) (b2 := g4) (by omega) (by omega))) (by kernel_rfl) rfl (by kernel_rfl) rfl ?_
        refine Sq.done ?_
        refine Ex'.next ?_
        refine Cd.seq ?_
        refine Cd.region rfl ?_
        refine Sq.vals [0, 1] (rest := []) [.slice a25 rw.length c26, .slice a25 rw.length c26] (fun w => by kernel_rfl) ?_
        refine Sq.done ?_
        refine Ex'.next ?_
        refine Cd.ret ?_
        refine Ex'.ret Try.results22 (RVs.tmp (v := .slice a25 rw.length c26) (by kernel_rfl) (RVs.nil)) (fun w hw => ?_)
        have e : arcResize most p t1 t2 b1 b2 mo = (mo, mo, g1, g2, (arcTrim mo mo g1 g2 g3 g4).1, (arcTrim mo mo g1 g2 g3 g4).2, rw) := by (have eM : arcResM mo = mo := (by unfold arcResM; rw [if_neg h1]); have eP : arcResP mo p = mo := (by unfold arcResP; rw [eM, if_pos h23]); unfold arcResize; rw [eM, eP, ← hi, arcResL_stop h27])
        rw [e]
        exact ⟨_, ⟨_, trivial, rfl, rfl⟩, ((((hw.conv 1 (R := llR lt1 g1 m2) (R' := llR lt1 g1 n') (by kernel_rfl) (llR.up (by omega))).conv 2 (R := llR lt2 g2 m2) (R' := llR lt2 g2 n') (by kernel_rfl) (llR.up (by omega))).conv 3 (R := llR lb1 ((arcTrim mo mo g1 g2 g3 g4).1) m2) (R' := llR lb1 ((arcTrim mo mo g1 g2 g3 g4).1) n') (by kernel_rfl) (llR.up (by omega))).conv 4 (R := llR lb2 ((arcTrim mo mo g1 g2 g3 g4).2) m2) (R' := llR lb2 ((arcTrim mo mo g1 g2 g3 g4).2) n') (by kernel_rfl) (llR.up (by omega))).pickB [0, 1, 2, 3, 4, 5] (by kernel_rfl) (by kernel_rfl) (by kernel_rfl)⟩
    ·
      refine Cd.plan [0, 0, 2, 6, 14, 0, 32, 96, 224, 510, 1023, 2047, 4095] [(4, [(0, false, 0)]), (8, [(0, false, 0)]), (12, [(0, false, 0)])] [] [] [] [fun g => pV b 0, fun g => pV b 0, fun g => pV b 0, fun g => pV b 1, fun g => iV p, fun g => pV b 0, fun g => pV b 0, fun g => pV b 0, fun g => iV mo, fun g => iV p, fun g => pV b 0, fun g => pV b 1, fun g => undef] (by kernel_rfl) (by kernel_rfl) rfl (trivial) ?_ ?_
      · exact ⟨ob_val fun g w => by kernel_rfl, ob_val fun g w => by kernel_rfl, ob_val fun g w => by kernel_rfl, ob_val fun g w => by kernel_rfl, ob_s (l := fun g => [arcB b lt1 lt2 lb1 lb2 mo p]) (l' := fun g => [arcB b lt1 lt2 lb1 lb2 mo p]) (v := fun g => iV p) (fun g => o_load (i := 1) (v := iV p) (by kernel_rfl) (by kernel_rfl) (by kernel_rfl)) (fun g => by kernel_rfl), ob_val fun g w => by kernel_rfl, ob_val fun g w => by kernel_rfl, ob_val fun g w => by kernel_rfl, ob_s (l := fun g => [arcB b lt1 lt2 lb1 lb2 mo p]) (l' := fun g => [arcB b lt1 lt2 lb1 lb2 mo p]) (v := fun g => iV mo) (fun g => o_load (i := 0) (v := iV mo) (by kernel_rfl) (by kernel_rfl) (by kernel_rfl)) (fun g => by kernel_rfl), ob_v (v := fun g => iV p) (fun g => OprV.re (pureV (v := iV (if mo < p then mo else p)) (by kernel_rfl) rfl fun w => by kernel_rfl) (by rw [if_neg h23])) (fun g => by kernel_rfl), ob_val fun g w => by kernel_rfl, ob_val fun g w => by kernel_rfl, ob_s (l := fun g => [arcB b lt1 lt2 lb1 lb2 mo p]) (l' := fun g => [arcB b lt1 lt2 lb1 lb2 mo p]) (v := fun g => undef) (fun g => o_store (i := 1) (v := iV p) (by kernel_rfl) (by kernel_rfl) (by kernel_rfl) (by kernel_rfl) (by kernel_rfl)) (fun g => by kernel_rfl), trivial⟩
      intro g
      refine Ex'.sub (subB_spec [0, 4]) ?_
      refine Ex'.as [0, 1, 2, 3, 4] (σ' := [(0, pV b 0), (4, .slice none 0 0)]) (Γ' := [arcB b lt1 lt2 lb1 lb2 mo p, llR lt1 t1 n, llR lt2 t2 n, llR lb1 b1 n, llR lb2 b2 n]) (by kernel_rfl) rfl (by kernel_rfl) (by kernel_rfl) ?_
      refine Ex'.next ?_
      refine Cd.seq ?_
      refine Cd.region rfl ?_
      refine Sq.vals [0] (rest := []) [.slice none 0 0] (fun w => by kernel_rfl) ?_
      refine Sq.done ?_
      refine Ex'.next ?_
      refine Cd.seq ?_
      refine Cd.block ?_
      refine Cd.nilRow 9 1 ?_
      refine Cd.loop (ι := (List ByteArray) × (List ByteArray) × (List ByteArray) × (List ByteArray) × Value × (List ByteArray) × Nat) (fun ⟨g1, g2, g3, g4, rv, rw, m2⟩ => arcResL mo p (g1.length + g2.length) g1 g2 g3 g4 rw = arcResL mo p (t1.length + t2.length) t1 t2 b1 b2 [] ∧ m2 + g1.length + g2.length ≤ n + t1.length + t2.length ∧ rw.length + g1.length + g2.length ≤ t1.length + t2.length) (fun ⟨g1, g2, g3, g4, rv, rw, m2⟩ => g1.length + g2.length) (fun ⟨g1, g2, g3, g4, rv, rw, m2⟩ => [(0, pV b 0), (4, .slice none 0 0), (5, rv)]) (fun ⟨g1, g2, g3, g4, rv, rw, m2⟩ => [arcB b lt1 lt2 lb1 lb2 mo p, llR lt1 g1 m2, llR lt2 g2 m2, llR lb1 g3 m2, llR lb2 g4 m2, rowR 9 1 rv rw.length (rw.map Value.string)]) (t1, t2, b1, b2, .slice none 0 0, ([] : List ByteArray), n) (⟨rfl, by omega, by simp⟩) (subB_eq (l := [0, 4, 5]) (by kernel_rfl)) (fun w hw => hw.pickB [0, 1, 2, 3, 4, 5] (by kernel_rfl) (by kernel_rfl) (by kernel_rfl)) ?_
      rintro ⟨g1, g2, g3, g4, rv, rw, m2⟩ hL34
      try dsimp only at hL34 ⊢
      obtain ⟨hi, hm2, hrw⟩ := hL34
      refine Cd.fact (i := 5) (R := rowR 9 1 rv rw.length (rw.map Value.string)) (by kernel_rfl) row_slice ?_; rintro ⟨a35, c36, rfl, hc36, hc36'⟩
      have hc36'' : c36 ≤ 9223372036854775807 := hc36'
      refine Cd.seq ?_
      refine Cd.seq ?_
      refine Cd.plan [0, 1, 0, 4, 12, 28, 63] [(1, [(0, false, 0), (1, false, 0), (2, false, 0), (3, false, 0), (4, false, 0)]), (5, [(0, false, 0)])] [] [] [] [fun g => pV b 0, fun g => iV ((g1.length : Int) + g2.length), fun g => pV b 0, fun g => pV b 0, fun g => pV b 0, fun g => iV mo, fun g => bV (decide ((g1.length : Int) + g2.length > mo))] (by kernel_rfl) (by kernel_rfl) rfl (trivial) ?_ ?_
      · exact ⟨ob_val fun g w => by kernel_rfl, ob_s (l := fun g => [arcB b lt1 lt2 lb1 lb2 mo p, llR lt1 g1 m2, llR lt2 g2 m2, llR lb1 g3 m2, llR lb2 g4 m2]) (l' := fun g => [arcB b lt1 lt2 lb1 lb2 mo p, llR lt1 g1 m2, llR lt2 g2 m2, llR lb1 g3 m2, llR lb2 g4 m2]) (v := fun g => iV ((g1.length : Int) + g2.length)) (fun g => o_call (by kernel_rfl) Try.call23 (Tri.eq (l2 := arcL b lt1 lt2 lb1 lb2 mo p g1 g2 g3 g4 m2) (r' := iV ((g1.length : Int) + g2.length)) (arc_Len (n := m2) (most := mo) (p := p) (t1 := g1) (t2 := g2) (b1 := g3) (b2 := g4) (by omega)) (rfl) (rfl))) (fun g => by kernel_rfl), ob_val fun g w => by kernel_rfl, ob_val fun g w => by kernel_rfl, ob_val fun g w => by kernel_rfl, ob_s (l := fun g => [arcB b lt1 lt2 lb1 lb2 mo p]) (l' := fun g => [arcB b lt1 lt2 lb1 lb2 mo p]) (v := fun g => iV mo) (fun g => o_load (i := 0) (v := iV mo) (by kernel_rfl) (by kernel_rfl) (by kernel_rfl)) (fun g => by kernel_rfl), ob_val fun g w => by kernel_rfl, trivial⟩
      intro g
      refine Ex'.sub (subB_spec [0, 4, 5, 31]) ?_
      refine Ex'.as [0, 1, 2, 3, 4, 5] (σ' := [(0, pV b 0), (4, .slice none 0 0), (5, .slice a35 rw.length c36), (31, bV (decide ((g1.length : Int) + g2.length > mo)))]) (Γ' := [arcB b lt1 lt2 lb1 lb2 mo p, llR lt1 g1 m2, llR lt2 g2 m2, llR lb1 g3 m2, llR lb2 g4 m2, rowR 9 1 (.slice a35 rw.length c36) rw.length (rw.map Value.string)]) (by kernel_rfl) rfl (by kernel_rfl) (by kernel_rfl) ?_
      refine Ex'.next ?_
      refine Cd.case (p := (g1.length : Int) + g2.length > mo) (by kernel_rfl) (fun h37 => ?_) (fun h37 => ?_)
      ·
        refine Cd.skip ?_
        refine Ex'.next ?_
        refine Cd.block ?_
        refine Cd.seq ?_
        refine Cd.region rfl ?_
        refine Sq.vals [0] (rest := [1, 2, 3, 4, 5, 6]) [pV b 0] (fun w => by kernel_rfl) ?_
        refine Sq.same [0, 1, 2, 3, 4] (l := arcL b lt1 lt2 lb1 lb2 mo p g1 g2 g3 g4 m2) (o_call (by kernel_rfl) Try.call35 (arc_yieldF (n := m2) (n' := m2 + 1) (most := mo) (p := p) (t1 := g1) (t2 := g2) (b1 := g3) (b2 := g4) (by omega) (by omega))) (by kernel_rfl) rfl (by kernel_rfl) rfl ?_
        refine Sq.vals [2, 3, 4, 5, 6] (rest := []) [.tuple #[sV ((arcYieldF mo p g1 g2 g3 g4).2.2.2.2.1), bV ((arcYieldF mo p g1 g2 g3 g4).2.2.2.2.2)], sV ((arcYieldF mo p g1 g2 g3 g4).2.2.2.2.1), bV ((arcYieldF mo p g1 g2 g3 g4).2.2.2.2.2), sV ((arcYieldF mo p g1 g2 g3 g4).2.2.2.2.1), bV ((arcYieldF mo p g1 g2 g3 g4).2.2.2.2.2)] (fun w => by kernel_rfl) ?_
        refine Sq.done ?_
        refine Ex'.next ?_
        refine Cd.region rfl ?_
        refine Sq.vals [0, 1] (rest := [2, 3, 4]) [.slice a35 rw.length c36, sV ((arcYieldF mo p g1 g2 g3 g4).2.2.2.2.1)] (fun w => by kernel_rfl) ?_
        refine Sq.ex [] (l := []) (o_lit (sz := 1) (sV ⟨#[]⟩) [sV ((arcYieldF mo p g1 g2 g3 g4).2.2.2.2.1)] Try.underlying22 (by kernel_rfl) (by kernel_rfl) (by kernel_rfl) (by kernel_rfl) (by kernel_rfl)) (by kernel_rfl) rfl (by kernel_rfl) (fun _ => Nat.zero_le _) ?_; intro b38 _
        refine Sq.ex [5, 6] (l := [rowR 9 1 (.slice a35 rw.length c36) rw.length (rw.map Value.string), blkR b38 [sV ((arcYieldF mo p g1 g2 g3 g4).2.2.2.2.1)] 9]) (o_push (n' := (rw ++ [(arcYieldF mo p g1 g2 g3 g4).2.2.2.2.1]).length) (xs' := (rw ++ [(arcYieldF mo p g1 g2 g3 g4).2.2.2.2.1]).map Value.string) (by kernel_rfl) (by kernel_rfl) sl_str (by decide) rfl (by kernel_rfl) (by unfold maxLen; omega) (by omega) (by simp) (by simp)) (by kernel_rfl) rfl (by kernel_rfl) (fun _ => Nat.le_of_ble_eq_true (by kernel_rfl)) ?_; rintro v39 _
        refine Sq.fact (i := 5) (R := rowR 9 1 v39 ((rw ++ [(arcYieldF mo p g1 g2 g3 g4).2.2.2.2.1]).length) ((rw ++ [(arcYieldF mo p g1 g2 g3 g4).2.2.2.2.1]).map Value.string)) (by kernel_rfl) row_slice ?_; rintro ⟨a40, c41, rfl, hc41, hc41'⟩
        have hc41'' : c41 ≤ 9223372036854775807 := hc41'
        have hlen42 : (rw ++ [(arcYieldF mo p g1 g2 g3 g4).2.2.2.2.1]).length = rw.length + 1 := by simp
        refine Sq.fact (i := 5) (R := rowR 9 1 (.slice a40 ((rw ++ [(arcYieldF mo p g1 g2 g3 g4).2.2.2.2.1]).length) c41) ((rw ++ [(arcYieldF mo p g1 g2 g3 g4).2.2.2.2.1]).length) ((rw ++ [(arcYieldF mo p g1 g2 g3 g4).2.2.2.2.1]).map Value.string)) (by kernel_rfl) (row_addr (by simp)) ?_; rintro ⟨b43, rfl⟩
        refine Sq.vals [4] (rest := []) [.slice (some ⟨b43, 0, none⟩) ((rw ++ [(arcYieldF mo p g1 g2 g3 g4).2.2.2.2.1]).length) c41] (fun w => by kernel_rfl) ?_
        refine Sq.done ?_
        refine Ex'.blockNormal ?_
        refine Ex'.round (g := (g1, g2, g3, g4, .slice a35 rw.length c36, rw, m2)) ((arcYieldF mo p g1 g2 g3 g4).1, (arcYieldF mo p g1 g2 g3 g4).2.1, (arcYieldF mo p g1 g2 g3 g4).2.2.1, (arcYieldF mo p g1 g2 g3 g4).2.2.2.1, .slice (some ⟨b43, 0, none⟩) ((rw ++ [(arcYieldF mo p g1 g2 g3 g4).2.2.2.2.1]).length) c41, rw ++ [(arcYieldF mo p g1 g2 g3 g4).2.2.2.2.1], m2 + 1) ?_ ?_ (subB_eq (l := [0, 4, 5]) (by kernel_rfl)) (fun w hw => hw.pickB [0, 1, 2, 3, 4, 5] (by kernel_rfl) (by kernel_rfl) (by kernel_rfl))
        · (try dsimp only); exact ⟨(arcResL_go h37 (by omega)).symm.trans hi, by have := arcYieldF_len (most := mo) (p := p) (t1 := g1) (t2 := g2) (b1 := g3) (b2 := g4) (by omega); omega, by have := arcYieldF_len (most := mo) (p := p) (t1 := g1) (t2 := g2) (b1 := g3) (b2 := g4) (by omega); simp only [List.length_append, List.length_singleton]; omega⟩
        · have := arcYieldF_len (most := mo) (p := p) (t1 := g1) (t2 := g2) (b1 := g3) (b2 := g4) (by omega); dsimp only; omega
      ·
        refine Cd.exit ?_
        refine Ex'.thenExit ?_
        refine Ex'.thenExit ?_
        refine Ex'.blockHit ?_
        refine Ex'.next ?_
        refine Cd.seq ?_
        refine Cd.region rfl ?_
        refine Sq.vals [0] (rest := [1]) [pV b 0] (fun w => by kernel_rfl) ?_
        refine Sq.same [0, 1, 2, 3, 4] (l := arcL b lt1 lt2 lb1 lb2 mo p g1 g2 g3 g4 m2) (o_call (by kernel_rfl) Try.call33 (arc_trim (n := m2) (most := mo) (p := p) (t1 := g1) (t2 := g2) (b1 := g3) (b2 := g4) (by omega) (by omega))) (by kernel_rfl) rfl (by kernel_rfl) rfl ?_
        refine Sq.done ?_
        refine Ex'.next ?_
        refine Cd.seq ?_
        refine Cd.region rfl ?_
        refine Sq.vals [0, 1] (rest := []) [.slice a35 rw.length c36, .slice a35 rw.length c36] (fun w => by kernel_rfl) ?_
        refine Sq.done ?_
        refine Ex'.next ?_
        refine Cd.ret ?_
        refine Ex'.ret Try.results22 (RVs.tmp (v := .slice a35 rw.length c36) (by kernel_rfl) (RVs.nil)) (fun w hw => ?_)
        have e : arcResize most p t1 t2 b1 b2 mo = (mo, p, g1, g2, (arcTrim mo p g1 g2 g3 g4).1, (arcTrim mo p g1 g2 g3 g4).2, rw) := by (have eM : arcResM mo = mo := (by unfold arcResM; rw [if_neg h1]); have eP : arcResP mo p = p := (by unfold arcResP; rw [eM, if_neg h23]); unfold arcResize; rw [eM, eP, ← hi, arcResL_stop h37])
        rw [e]
        exact ⟨_, ⟨_, trivial, rfl, rfl⟩, ((((hw.conv 1 (R := llR lt1 g1 m2) (R' := llR lt1 g1 n') (by kernel_rfl) (llR.up (by omega))).conv 2 (R := llR lt2 g2 m2) (R' := llR lt2 g2 n') (by kernel_rfl) (llR.up (by omega))).conv 3 (R := llR lb1 ((arcTrim mo p g1 g2 g3 g4).1) m2) (R' := llR lb1 ((arcTrim mo p g1 g2 g3 g4).1) n') (by kernel_rfl) (llR.up (by omega))).conv 4 (R := llR lb2 ((arcTrim mo p g1 g2 g3 g4).2) m2) (R' := llR lb2 ((arcTrim mo p g1 g2 g3 g4).2) n') (by kernel_rfl) (llR.up (by omega))).pickB [0, 1, 2, 3, 4, 5] (by kernel_rfl) (by kernel_rfl) (by kernel_rfl)⟩

def arcKeys (most : Int) (p : Int) (t1 : List ByteArray) (t2 : List ByteArray) (b1 : List ByteArray) (b2 : List ByteArray)  : List ByteArray :=
  t1.reverse ++ t2.reverse

set_option maxHeartbeats 4000000 in
set_option maxRecDepth 100000 in
theorem arc_Keys {b : Nat} {lt1 : Nat} {lt2 : Nat} {lb1 : Nat} {lb2 : Nat} {n : Nat} {most : Int} {p : Int} {t1 : List ByteArray} {t2 : List ByteArray} {b1 : List ByteArray} {b2 : List ByteArray}  (hb : n ≤ 1000000000) : Tri Try.prog 15 #[pV b 0] (arcL b lt1 lt2 lb1 lb2 most p t1 t2 b1 b2 n) (PostE (fun _ => True) id fun v => arcL b lt1 lt2 lb1 lb2 most p t1 t2 b1 b2 n ++ [rowR 9 1 v (arcKeys most p t1 t2 b1 b2).length ((arcKeys most p t1 t2 b1 b2).map Value.string)]) := by
  refine Tri.enter (args := [pV b 0]) Try.func15 rfl rfl rfl (fun B wz => ?_)
  refine Cd.fact (i := 1) rfl llR.le ?_; rintro ⟨_, hl1⟩
  refine Cd.fact (i := 2) rfl llR.le ?_; rintro ⟨_, hl2⟩
  refine Cd.fact (i := 3) rfl llR.le ?_; rintro ⟨_, hl3⟩
  refine Cd.fact (i := 4) rfl llR.le ?_; rintro ⟨_, hl4⟩
  refine Cd.seq ?_
  refine Cd.region rfl ?_
  refine Sq.vals [0] (rest := []) [.slice none 0 0] (fun w => by kernel_rfl) ?_
  refine Sq.done ?_
  refine Ex'.next ?_
  refine Cd.seq ?_
  refine Cd.plan [0, 1, 3, 7, 15, 31, 0, 64, 192, 448, 960, 2047, 4095, 8191] [(4, [(0, false, 0)]), (5, [(1, false, 0)]), (10, [(0, false, 0)]), (11, [(2, false, 0)])] [5, 11] [(5, fun _ => True), (11, fun _ => True)] [(10, 5, fun g => rowR 9 1 (.slice (addrOf (g 5)) t1.length (capOf (g 5))) t1.length (t1.map Value.string)), (16, 11, fun g => rowR 9 1 (.slice (addrOf (g 11)) t2.length (capOf (g 11))) t2.length (t2.map Value.string))] [fun g => pV b 0, fun g => pV b 0, fun g => pV b 2, fun g => pV b 2, fun g => pV lt1 0, fun g => .slice (addrOf (g 5)) t1.length (capOf (g 5)), fun g => pV b 0, fun g => pV b 0, fun g => pV b 2, fun g => pV b 3, fun g => pV lt2 0, fun g => .slice (addrOf (g 11)) t2.length (capOf (g 11)), fun g => .slice (addrOf (g 5)) t1.length (capOf (g 5)), fun g => .slice (addrOf (g 11)) t2.length (capOf (g 11))] (by kernel_rfl) (by kernel_rfl) rfl (⟨⟨⟨fun _ _ => rfl, ⟨fun _ _ => rfl, ⟨fun _ _ => rfl, ⟨fun _ _ => rfl, ⟨fun _ _ => rfl, ⟨trivial, ⟨fun _ _ => rfl, ⟨fun _ _ => rfl, ⟨fun _ _ => rfl, ⟨fun _ _ => rfl, ⟨fun _ _ => rfl, ⟨trivial, ⟨trivial, ⟨trivial, trivial⟩⟩⟩⟩⟩⟩⟩⟩⟩⟩⟩⟩⟩⟩, ⟨trivial, ⟨trivial, trivial⟩⟩⟩, ⟨⟨⟨fun _ _ => rfl, ⟨fun _ _ => rfl, ⟨fun _ _ => rfl, ⟨fun _ _ => rfl, ⟨fun _ _ => rfl, ⟨fun _ _ => rfl, ⟨fun _ _ => rfl, ⟨fun _ _ => rfl, ⟨fun _ _ => rfl, ⟨fun _ _ => rfl, ⟨fun _ _ => rfl, ⟨trivial, ⟨trivial, ⟨trivial, trivial⟩⟩⟩⟩⟩⟩⟩⟩⟩⟩⟩⟩⟩⟩, ⟨fun _ _ => rfl, ⟨trivial, trivial⟩⟩⟩, trivial⟩⟩) ?_ ?_
  · exact ⟨ob_val fun g w => by kernel_rfl, ob_val fun g w => by kernel_rfl, ob_val fun g w => by kernel_rfl, ob_val fun g w => by kernel_rfl, ob_s (l := fun g => [arcB b lt1 lt2 lb1 lb2 most p]) (l' := fun g => [arcB b lt1 lt2 lb1 lb2 most p]) (v := fun g => pV lt1 0) (fun g => o_load (i := 2) (v := pV lt1 0) (by kernel_rfl) (by kernel_rfl) (by kernel_rfl)) (fun g => by kernel_rfl), ob_d (ι := Option Addr × Nat) (l := fun g => [llR lt1 t1 n]) (L := fun g y => [llR lt1 t1 n, rowR 9 1 (.slice y.1 t1.length y.2) t1.length (t1.map Value.string)]) (fun y => .slice y.1 t1.length y.2) (fun g => o_call (by kernel_rfl) Try.call31 (Tri.rowA (t_Keys (ks := t1) (n := n) (by omega)))) (fun g => by kernel_rfl) (fun g y _ => ⟨trivial, by kernel_rfl, by kernel_rfl⟩), ob_val fun g w => by kernel_rfl, ob_val fun g w => by kernel_rfl, ob_val fun g w => by kernel_rfl, ob_val fun g w => by kernel_rfl, ob_s (l := fun g => [arcB b lt1 lt2 lb1 lb2 most p]) (l' := fun g => [arcB b lt1 lt2 lb1 lb2 most p]) (v := fun g => pV lt2 0) (fun g => o_load (i := 3) (v := pV lt2 0) (by kernel_rfl) (by kernel_rfl) (by kernel_rfl)) (fun g => by kernel_rfl), ob_d (ι := Option Addr × Nat) (l := fun g => [llR lt2 t2 n]) (L := fun g y => [llR lt2 t2 n, rowR 9 1 (.slice y.1 t2.length y.2) t2.length (t2.map Value.string)]) (fun y => .slice y.1 t2.length y.2) (fun g => o_call (by kernel_rfl) Try.call31 (Tri.rowA (t_Keys (ks := t2) (n := n) (by omega)))) (fun g => by kernel_rfl) (fun g y _ => ⟨trivial, by kernel_rfl, by kernel_rfl⟩), ob_val fun g w => by kernel_rfl, ob_val fun g w => by kernel_rfl, trivial⟩
  intro g
  refine Ex'.sub (subB_spec [2, 3, 4]) ?_
  refine Ex'.as [0, 1, 2, 3, 4, 10, 16] (σ' := [(2, .slice none 0 0), (3, .slice (addrOf (g 5)) t1.length (capOf (g 5))), (4, .slice (addrOf (g 11)) t2.length (capOf (g 11)))]) (Γ' := [arcB b lt1 lt2 lb1 lb2 most p, llR lt1 t1 n, llR lt2 t2 n, llR lb1 b1 n, llR lb2 b2 n, rowR 9 1 (.slice (addrOf (g 5)) t1.length (capOf (g 5))) t1.length (t1.map Value.string), rowR 9 1 (.slice (addrOf (g 11)) t2.length (capOf (g 11))) t2.length (t2.map Value.string)]) (by kernel_rfl) rfl (by kernel_rfl) (by kernel_rfl) ?_
  generalize addrOf (g 5) = a3
  generalize capOf (g 5) = c4
  generalize addrOf (g 11) = a5
  generalize capOf (g 11) = c6
  refine Ex'.next ?_
  refine Cd.seq ?_
  refine Cd.region rfl ?_
  refine Sq.vals [0] (rest := [1]) [.slice a3 t1.length c4] (fun w => by kernel_rfl) ?_
  refine Sq.same [5] (l := [rowR 9 1 (.slice a3 t1.length c4) t1.length (t1.map Value.string)]) (o_call (by kernel_rfl) Try.call32 (t_Reverse (ks := t1) (by omega))) (by kernel_rfl) rfl (by kernel_rfl) rfl ?_
  refine Sq.done ?_
  refine Ex'.next ?_
  refine Cd.seq ?_
  refine Cd.region rfl ?_
  refine Sq.vals [0] (rest := [1]) [.slice a5 t2.length c6] (fun w => by kernel_rfl) ?_
  refine Sq.same [6] (l := [rowR 9 1 (.slice a5 t2.length c6) t2.length (t2.map Value.string)]) (o_call (by kernel_rfl) Try.call32 (t_Reverse (ks := t2) (by omega))) (by kernel_rfl) rfl (by kernel_rfl) rfl ?_
  refine Sq.done ?_
  refine Ex'.next ?_
  refine Cd.seq ?_
  refine Cd.region rfl ?_
  refine Sq.vals [0, 1] (rest := [2, 3]) [.slice a3 t1.length c4, .slice a5 t2.length c6] (fun w => by kernel_rfl) ?_
  refine Sq.ex [5, 6] (l := [rowR 9 1 (.slice a3 t1.length c4) t1.length (t1.reverse.map Value.string), rowR 9 1 (.slice a5 t2.length c6) t2.length (t2.reverse.map Value.string)]) (o_pushAll (n' := (t1.reverse ++ t2.reverse).length) (xs' := (t1.reverse ++ t2.reverse).map Value.string) (m := t2.length) (news := t2.reverse.map Value.string) (by kernel_rfl) (by kernel_rfl) (fun w S h => ⟨S, Row.cells h⟩) sl_str (by decide) (ones _) (by unfold maxLen; omega) (by omega) (by simp) (by simp)) (by kernel_rfl) rfl (by kernel_rfl) (fun _ => Nat.le_of_ble_eq_true (by kernel_rfl)) ?_; rintro v7 _
  refine Sq.fact (i := 5) (R := rowR 9 1 v7 ((t1.reverse ++ t2.reverse).length) ((t1.reverse ++ t2.reverse).map Value.string)) (by kernel_rfl) row_slice ?_; rintro ⟨a8, c9, rfl, hc9, hc9'⟩
  have hc9'' : c9 ≤ 9223372036854775807 := hc9'
  refine Sq.vals [3] (rest := []) [.slice a8 ((t1.reverse ++ t2.reverse).length) c9] (fun w => by kernel_rfl) ?_
  refine Sq.done ?_
  refine Ex'.next ?_
  refine Cd.ret ?_
  refine Ex'.ret Try.results15 (RVs.tmp (v := .slice a8 ((t1.reverse ++ t2.reverse).length) c9) (by kernel_rfl) (RVs.nil)) (fun w hw => ?_)
  have e : arcKeys most p t1 t2 b1 b2 = t1.reverse ++ t2.reverse := by unfold arcKeys; rfl
  rw [e]
  exact ⟨_, ⟨_, trivial, rfl, rfl⟩, hw.pickB [0, 1, 2, 3, 4, 5] (by kernel_rfl) (by kernel_rfl) (by kernel_rfl)⟩

def arcGhosts (most : Int) (p : Int) (t1 : List ByteArray) (t2 : List ByteArray) (b1 : List ByteArray) (b2 : List ByteArray)  : List ByteArray :=
  b1 ++ b2

set_option maxHeartbeats 4000000 in
set_option maxRecDepth 100000 in
theorem arc_Ghosts {b : Nat} {lt1 : Nat} {lt2 : Nat} {lb1 : Nat} {lb2 : Nat} {n : Nat} {most : Int} {p : Int} {t1 : List ByteArray} {t2 : List ByteArray} {b1 : List ByteArray} {b2 : List ByteArray}  (hb : n ≤ 1000000000) : Tri Try.prog 13 #[pV b 0] (arcL b lt1 lt2 lb1 lb2 most p t1 t2 b1 b2 n) (PostE (fun _ => True) id fun v => arcL b lt1 lt2 lb1 lb2 most p t1 t2 b1 b2 n ++ [rowR 9 1 v (arcGhosts most p t1 t2 b1 b2).length ((arcGhosts most p t1 t2 b1 b2).map Value.string)]) := by
  refine Tri.enter (args := [pV b 0]) Try.func13 rfl rfl rfl (fun B wz => ?_)
  refine Cd.fact (i := 1) rfl llR.le ?_; rintro ⟨_, hl1⟩
  refine Cd.fact (i := 2) rfl llR.le ?_; rintro ⟨_, hl2⟩
  refine Cd.fact (i := 3) rfl llR.le ?_; rintro ⟨_, hl3⟩
  refine Cd.fact (i := 4) rfl llR.le ?_; rintro ⟨_, hl4⟩
  refine Cd.seq ?_
  refine Cd.region rfl ?_
  refine Sq.vals [0] (rest := []) [.slice none 0 0] (fun w => by kernel_rfl) ?_
  refine Sq.done ?_
  refine Ex'.next ?_
  refine Cd.seq ?_
  refine Cd.sub (subB_spec [0]) ?_
  refine Cd.plan [0, 1, 3, 7, 15, 31, 0, 64, 192, 448, 960, 2047, 4095, 8191] [(4, [(0, false, 0)]), (5, [(3, false, 0)]), (10, [(0, false, 0)]), (11, [(4, false, 0)]), (12, [(10, true, 6), (16, false, 12)])] [5, 11] [(5, fun _ => True), (11, fun _ => True), (12, fun _ => True)] [(10, 5, fun g => rowR 9 1 (.slice (addrOf (g 5)) b1.length (capOf (g 5))) b1.length (b1.map Value.string)), (16, 11, fun g => rowR 9 1 (.slice (addrOf (g 11)) b2.length (capOf (g 11))) b2.length (b2.map Value.string)), (10, 12, fun g => rowR 9 1 (g 12) ((b1 ++ b2).length) ((b1 ++ b2).map Value.string))] [fun g => pV b 0, fun g => pV b 0, fun g => pV b 2, fun g => pV b 4, fun g => pV lb1 0, fun g => .slice (addrOf (g 5)) b1.length (capOf (g 5)), fun g => pV b 0, fun g => pV b 0, fun g => pV b 2, fun g => pV b 5, fun g => pV lb2 0, fun g => .slice (addrOf (g 11)) b2.length (capOf (g 11)), fun g => (g 12), fun g => (g 12)] (by kernel_rfl) (by kernel_rfl) rfl (⟨⟨⟨fun _ _ => rfl, ⟨fun _ _ => rfl, ⟨fun _ _ => rfl, ⟨fun _ _ => rfl, ⟨fun _ _ => rfl, ⟨trivial, ⟨fun _ _ => rfl, ⟨fun _ _ => rfl, ⟨fun _ _ => rfl, ⟨fun _ _ => rfl, ⟨fun _ _ => rfl, ⟨trivial, ⟨trivial, ⟨trivial, trivial⟩⟩⟩⟩⟩⟩⟩⟩⟩⟩⟩⟩⟩⟩, ⟨trivial, ⟨trivial, ⟨trivial, trivial⟩⟩⟩⟩, ⟨⟨⟨fun _ _ => rfl, ⟨fun _ _ => rfl, ⟨fun _ _ => rfl, ⟨fun _ _ => rfl, ⟨fun _ _ => rfl, ⟨fun _ _ => rfl, ⟨fun _ _ => rfl, ⟨fun _ _ => rfl, ⟨fun _ _ => rfl, ⟨fun _ _ => rfl, ⟨fun _ _ => rfl, ⟨trivial, ⟨trivial, ⟨trivial, trivial⟩⟩⟩⟩⟩⟩⟩⟩⟩⟩⟩⟩⟩⟩, ⟨fun _ _ => rfl, ⟨trivial, ⟨trivial, trivial⟩⟩⟩⟩, ⟨⟨⟨fun _ _ => rfl, ⟨fun _ _ => rfl, ⟨fun _ _ => rfl, ⟨fun _ _ => rfl, ⟨fun _ _ => rfl, ⟨fun _ _ => rfl, ⟨fun _ _ => rfl, ⟨fun _ _ => rfl, ⟨fun _ _ => rfl, ⟨fun _ _ => rfl, ⟨fun _ _ => rfl, ⟨fun _ _ => rfl, ⟨trivial, ⟨trivial, trivial⟩⟩⟩⟩⟩⟩⟩⟩⟩⟩⟩⟩⟩⟩, ⟨fun _ _ => rfl, ⟨fun _ _ => rfl, ⟨trivial, trivial⟩⟩⟩⟩, trivial⟩⟩⟩) ?_ ?_
  · exact ⟨ob_val fun g w => by kernel_rfl, ob_val fun g w => by kernel_rfl, ob_val fun g w => by kernel_rfl, ob_val fun g w => by kernel_rfl, ob_s (l := fun g => [arcB b lt1 lt2 lb1 lb2 most p]) (l' := fun g => [arcB b lt1 lt2 lb1 lb2 most p]) (v := fun g => pV lb1 0) (fun g => o_load (i := 4) (v := pV lb1 0) (by kernel_rfl) (by kernel_rfl) (by kernel_rfl)) (fun g => by kernel_rfl), ob_d (ι := Option Addr × Nat) (l := fun g => [llR lb1 b1 n]) (L := fun g y => [llR lb1 b1 n, rowR 9 1 (.slice y.1 b1.length y.2) b1.length (b1.map Value.string)]) (fun y => .slice y.1 b1.length y.2) (fun g => o_call (by kernel_rfl) Try.call31 (Tri.rowA (t_Keys (ks := b1) (n := n) (by omega)))) (fun g => by kernel_rfl) (fun g y _ => ⟨trivial, by kernel_rfl, by kernel_rfl⟩), ob_val fun g w => by kernel_rfl, ob_val fun g w => by kernel_rfl, ob_val fun g w => by kernel_rfl, ob_val fun g w => by kernel_rfl, ob_s (l := fun g => [arcB b lt1 lt2 lb1 lb2 most p]) (l' := fun g => [arcB b lt1 lt2 lb1 lb2 most p]) (v := fun g => pV lb2 0) (fun g => o_load (i := 5) (v := pV lb2 0) (by kernel_rfl) (by kernel_rfl) (by kernel_rfl)) (fun g => by kernel_rfl), ob_d (ι := Option Addr × Nat) (l := fun g => [llR lb2 b2 n]) (L := fun g y => [llR lb2 b2 n, rowR 9 1 (.slice y.1 b2.length y.2) b2.length (b2.map Value.string)]) (fun y => .slice y.1 b2.length y.2) (fun g => o_call (by kernel_rfl) Try.call31 (Tri.rowA (t_Keys (ks := b2) (n := n) (by omega)))) (fun g => by kernel_rfl) (fun g y _ => ⟨trivial, by kernel_rfl, by kernel_rfl⟩), ob_d (ι := Value) (l := fun g => [rowR 9 1 (.slice (addrOf (g 5)) b1.length (capOf (g 5))) b1.length (b1.map Value.string), rowR 9 1 (.slice (addrOf (g 11)) b2.length (capOf (g 11))) b2.length (b2.map Value.string)]) (L := fun g y => [rowR 9 1 y ((b1 ++ b2).length) ((b1 ++ b2).map Value.string), rowR 9 1 (.slice (addrOf (g 11)) b2.length (capOf (g 11))) b2.length (b2.map Value.string)]) (id) (fun g => o_pushAll (n' := (b1 ++ b2).length) (xs' := (b1 ++ b2).map Value.string) (m := b2.length) (news := b2.map Value.string) (by kernel_rfl) (by kernel_rfl) (fun w S h => ⟨S, Row.cells h⟩) sl_str (by decide) (ones _) (by unfold maxLen; omega) (by omega) (by simp) (by simp)) (fun g => by kernel_rfl) (fun g y _ => ⟨trivial, by kernel_rfl, by kernel_rfl⟩), ob_val fun g w => by kernel_rfl, trivial⟩
  intro g
  refine Ex'.sub (subB_spec [2]) ?_
  refine Ex'.as [0, 1, 2, 3, 4, 10, 16] (σ' := [(2, (g 12))]) (Γ' := [arcB b lt1 lt2 lb1 lb2 most p, llR lt1 t1 n, llR lt2 t2 n, llR lb1 b1 n, llR lb2 b2 n, rowR 9 1 (g 12) ((b1 ++ b2).length) ((b1 ++ b2).map Value.string), rowR 9 1 (.slice (addrOf (g 11)) b2.length (capOf (g 11))) b2.length (b2.map Value.string)]) (by kernel_rfl) rfl (by kernel_rfl) (by kernel_rfl) ?_
  generalize addrOf (g 5) = a4
  generalize capOf (g 5) = c5
  generalize addrOf (g 11) = a6
  generalize capOf (g 11) = c7
  generalize g 12 = v8
  refine Ex'.fact (i := 5) (R := rowR 9 1 v8 ((b1 ++ b2).length) ((b1 ++ b2).map Value.string)) (by kernel_rfl) row_slice ?_; rintro ⟨a9, c10, rfl, hc10, hc10'⟩
  have hc10'' : c10 ≤ 9223372036854775807 := hc10'
  refine Ex'.next ?_
  refine Cd.ret ?_
  refine Ex'.ret Try.results13 (RVs.tmp (v := .slice a9 ((b1 ++ b2).length) c10) (by kernel_rfl) (RVs.nil)) (fun w hw => ?_)
  have e : arcGhosts most p t1 t2 b1 b2 = b1 ++ b2 := by unfold arcGhosts; rfl
  rw [e]
  exact ⟨_, ⟨_, trivial, rfl, rfl⟩, hw.pickB [0, 1, 2, 3, 4, 5] (by kernel_rfl) (by kernel_rfl) (by kernel_rfl)⟩

def arcNew (most0 : Int) : Int × Int × List ByteArray × List ByteArray × List ByteArray × List ByteArray :=
  if (0 : Int) > most0 then (0, 0, [], [], [], []) else (most0, 0, [], [], [], [])

set_option maxHeartbeats 4000000 in
set_option maxRecDepth 100000 in
theorem arc_New (most0 : Int) (hmost0 : -9223372036854775808 ≤ most0 ∧ most0 ≤ 9223372036854775807) : Tri Try.prog 8 #[iV most0] [] (PostE (ι := Nat × Nat × Nat × Nat × Nat) (fun _ => True) (fun x => pV x.1 0) fun x => arcL x.1 x.2.1 x.2.2.1 x.2.2.2.1 x.2.2.2.2 ((arcNew most0).1) ((arcNew most0).2.1) ((arcNew most0).2.2.1) ((arcNew most0).2.2.2.1) ((arcNew most0).2.2.2.2.1) ((arcNew most0).2.2.2.2.2) 0) := by
  refine Tri.enter (args := [iV most0]) Try.func8 rfl rfl rfl (fun B wz => ?_)
  refine Cd.seq ?_
  refine Cd.region rfl ?_
  refine Sq.vals [0] (rest := []) [.pointer none] (fun w => by kernel_rfl) ?_
  refine Sq.done ?_
  refine Ex'.next ?_
  refine Cd.seq ?_
  refine Cd.region rfl ?_
  refine Sq.vals [0] (rest := [1, 2, 3, 4, 5, 6, 7, 8, 9]) [iV most0] (fun w => by kernel_rfl) ?_
  by_cases h1 : (0 : Int) > most0
  ·
    refine Sq.v (r := iV (if (0 : Int) > most0 then 0 else most0)) (pureV (by kernel_rfl) rfl fun w => by kernel_rfl) rfl (by kernel_rfl) ?_
    refine Sq.re 4 rfl (by rw [if_pos h1]) ?_
    refine Sq.ex [] (l := []) (o_call (by kernel_rfl) Try.call24 (t_New)) (by kernel_rfl) rfl (by kernel_rfl) (fun _ => Nat.le_of_ble_eq_true (by kernel_rfl)) ?_; rintro b3 _
    refine Sq.ex [] (l := []) (o_call (by kernel_rfl) Try.call24 (t_New)) (by kernel_rfl) rfl (by kernel_rfl) (fun _ => Nat.le_of_ble_eq_true (by kernel_rfl)) ?_; rintro b4 _
    refine Sq.ex [] (l := []) (o_call (by kernel_rfl) Try.call24 (t_New)) (by kernel_rfl) rfl (by kernel_rfl) (fun _ => Nat.le_of_ble_eq_true (by kernel_rfl)) ?_; rintro b5 _
    refine Sq.ex [] (l := []) (o_call (by kernel_rfl) Try.call24 (t_New)) (by kernel_rfl) rfl (by kernel_rfl) (fun _ => Nat.le_of_ble_eq_true (by kernel_rfl)) ?_; rintro b6 _
    refine Sq.vals [6, 7] (rest := [8, 9]) [.agg #[pV b3 0, pV b4 0, pV b5 0, pV b6 0], .agg #[iV 0, iV 0, pV b3 0, pV b4 0, pV b5 0, pV b6 0]] (fun w => by kernel_rfl) ?_
    refine Sq.ex [] (l := []) (o_newBox (v := .agg #[iV 0, iV 0, pV b3 0, pV b4 0, pV b5 0, pV b6 0]) [iV 0, iV 0, pV b3 0, pV b4 0, pV b5 0, pV b6 0] (by kernel_rfl) rfl) (by kernel_rfl) rfl (by kernel_rfl) (fun _ => Nat.zero_le _) ?_; intro b7 _
    refine Sq.vals [9] (rest := []) [pV b7 0] (fun w => by kernel_rfl) ?_
    refine Sq.done ?_
    refine Ex'.next ?_
    refine Cd.ret ?_
    refine Ex'.ret Try.results8 (RVs.tmp (v := pV b7 0) (by kernel_rfl) (RVs.nil)) (fun w hw => ?_)
    have e : arcNew most0 = (0, 0, [], [], [], []) := by unfold arcNew; rw [if_pos h1]
    rw [e]
    exact ⟨_, ⟨(b7, b3, b4, b5, b6), trivial, rfl, rfl⟩, hw.pickB [4, 0, 1, 2, 3] (by kernel_rfl) (by kernel_rfl) (by kernel_rfl)⟩
  ·
    refine Sq.v (r := iV (if (0 : Int) > most0 then 0 else most0)) (pureV (by kernel_rfl) rfl fun w => by kernel_rfl) rfl (by kernel_rfl) ?_
    refine Sq.re 4 rfl (by rw [if_neg h1]) ?_
    refine Sq.ex [] (l := []) (o_call (by kernel_rfl) Try.call24 (t_New)) (by kernel_rfl) rfl (by kernel_rfl) (fun _ => Nat.le_of_ble_eq_true (by kernel_rfl)) ?_; rintro b8 _
    refine Sq.ex [] (l := []) (o_call (by kernel_rfl) Try.call24 (t_New)) (by kernel_rfl) rfl (by kernel_rfl) (fun _ => Nat.le_of_ble_eq_true (by kernel_rfl)) ?_; rintro b9 _
    refine Sq.ex [] (l := []) (o_call (by kernel_rfl) Try.call24 (t_New)) (by kernel_rfl) rfl (by kernel_rfl) (fun _ => Nat.le_of_ble_eq_true (by kernel_rfl)) ?_; rintro b10 _
    refine Sq.ex [] (l := []) (o_call (by kernel_rfl) Try.call24 (t_New)) (by kernel_rfl) rfl (by kernel_rfl) (fun _ => Nat.le_of_ble_eq_true (by kernel_rfl)) ?_; rintro b11 _
    refine Sq.vals [6, 7] (rest := [8, 9]) [.agg #[pV b8 0, pV b9 0, pV b10 0, pV b11 0], .agg #[iV most0, iV 0, pV b8 0, pV b9 0, pV b10 0, pV b11 0]] (fun w => by kernel_rfl) ?_
    refine Sq.ex [] (l := []) (o_newBox (v := .agg #[iV most0, iV 0, pV b8 0, pV b9 0, pV b10 0, pV b11 0]) [iV most0, iV 0, pV b8 0, pV b9 0, pV b10 0, pV b11 0] (by kernel_rfl) rfl) (by kernel_rfl) rfl (by kernel_rfl) (fun _ => Nat.zero_le _) ?_; intro b12 _
    refine Sq.vals [9] (rest := []) [pV b12 0] (fun w => by kernel_rfl) ?_
    refine Sq.done ?_
    refine Ex'.next ?_
    refine Cd.ret ?_
    refine Ex'.ret Try.results8 (RVs.tmp (v := pV b12 0) (by kernel_rfl) (RVs.nil)) (fun w hw => ?_)
    have e : arcNew most0 = (most0, 0, [], [], [], []) := by unfold arcNew; rw [if_neg h1]
    rw [e]
    exact ⟨_, ⟨(b12, b8, b9, b10, b11), trivial, rfl, rfl⟩, hw.pickB [4, 0, 1, 2, 3] (by kernel_rfl) (by kernel_rfl) (by kernel_rfl)⟩

end Go.Proofs.Ytnijaeipkbpibaa
