/- ArcW -/
import Derived.Test.YtholinnmjoelkaaGreatDoorM20
set_option linter.unusedVariables false
set_option linter.unusedSimpArgs false
namespace Go.Proofs.YtholinnmjoelkaaGreatDoor
set_option maxHeartbeats 8000000
set_option maxRecDepth 100000
open Go.RowKit Go.MapKept
theorem arc_Drop {b lt1 lt2 lb1 lb2 n : Nat} {most p : Int} {t1 t2 b1 b2 : List ByteArray}  (hb : n ≤ 1000000000) : Tri Tryz.prog 85 #[pV b 0] (arcL b lt1 lt2 lb1 lb2 most p t1 t2 b1 b2 n) (Same (arcL b lt1 lt2 lb1 lb2 most p ((arcDrop most p t1 t2 b1 b2).1) ((arcDrop most p t1 t2 b1 b2).2.1) b1 b2 n) (.tuple #[sV ((arcDrop most p t1 t2 b1 b2).2.2.1), bV ((arcDrop most p t1 t2 b1 b2).2.2.2)])) := by
  refine Tri.en (args := [pV b 0]) Tryz.func85 (fun B wz => ?_)
  refine Cd.s1 (Sq.vl [0, 1] [sV ⟨#[]⟩, bV false] (Sq.d1 (Sq.vl [0] [pV b 0] ?_)))
  by_cases h1 : (t1.length : Int) ≥ most
  ·
    refine Sq.sm [0, 1, 2, 3, 4] (l := arcL b lt1 lt2 lb1 lb2 most p t1 t2 b1 b2 n) (o_cl Tryz.call84 (arc_VictimA (n := n) (most := most) (p := p) (t1 := t1) (t2 := t2) (b1 := b1) (b2 := b2) (by omega) h1)) rfl ?_
    refine Sq.vl [2, 3, 4, 5, 6] [.tuple #[sV (t1.getLast?.getD ⟨#[]⟩), bV (decide (0 < t1.length))], sV (t1.getLast?.getD ⟨#[]⟩), bV (decide (0 < t1.length)), sV (t1.getLast?.getD ⟨#[]⟩), bV (decide (0 < t1.length))] ?_
    refine Sq.d4 (Cd.seq (Cd.s1 (Sq.vl [0] [bV (decide (0 < t1.length))] (Sq.d4 ?_))))
    refine Cd.case (p := 0 < t1.length) (by kernel_rfl) (fun h2 => ?_) (fun h2 => ?_)
    ·
      refine Cd.plan [0, 0, 0, 6, 1, 17, 63, 127, 0, 511] [(3, [(0, false, 0), (1, false, 0), (2, false, 0), (3, false, 0), (4, false, 0)]), (7, [(0, false, 0)]), (9, [(1, true, 0)])] [] [] [(1, 9, fun g => llR lt1 (rm t1 (t1.getLast?.getD ⟨#[]⟩)) n)] [fun g => pV b 0, fun g => pV b 0, fun g => sV (t1.getLast?.getD ⟨#[]⟩), fun g => iV 0, fun g => pV b 0, fun g => pV b 2, fun g => pV b 2, fun g => pV lt1 0, fun g => sV (t1.getLast?.getD ⟨#[]⟩), fun g => bV (decide (t1.getLast?.getD ⟨#[]⟩ ∈ t1))] (by kernel_rfl) (by kernel_rfl) rfl (trivial) ?_ ?_
      · exact ⟨ob_k, ob_k, ob_k, ob_r (l := fun g => [arcB b lt1 lt2 lb1 lb2 most p, llR lt1 t1 n, llR lt2 t2 n, llR lb1 b1 n, llR lb2 b2 n]) (l' := fun g => [arcB b lt1 lt2 lb1 lb2 most p, llR lt1 t1 n, llR lt2 t2 n, llR lb1 b1 n, llR lb2 b2 n]) (v := fun g => iV 0) (fun g => o_cl Tryz.call149 (arc_at0 (n := n) (most := most) (p := p) (t1 := t1) (t2 := t2) (b1 := b1) (b2 := b2) (t1.getLast?.getD ⟨#[]⟩) (by omega) (arc_last h2))), ob_k, ob_k, ob_k, ob_r (l := fun g => [arcB b lt1 lt2 lb1 lb2 most p]) (l' := fun g => [arcB b lt1 lt2 lb1 lb2 most p]) (v := fun g => pV lt1 0) (fun g => o_ld (i := 2) (v := pV lt1 0)), ob_k, ob_r (l := fun g => [llR lt1 t1 n]) (l' := fun g => [llR lt1 (rm t1 (t1.getLast?.getD ⟨#[]⟩)) n]) (v := fun g => bV (decide (t1.getLast?.getD ⟨#[]⟩ ∈ t1))) (fun g => o_cl Tryz.call131 (t_Remove (ks := t1) (n := n) (t1.getLast?.getD ⟨#[]⟩) (by omega))), trivial⟩
      intro g
      refine Ex'.sub (subB_spec [2, 3, 4, 5]) ?_
      refine Ex'.a1 [0, 1, 2, 3, 4] (σ' := [(2, sV ⟨#[]⟩), (3, bV false), (4, sV (t1.getLast?.getD ⟨#[]⟩)), (5, bV (decide (0 < t1.length)))]) (Γ' := [arcB b lt1 lt2 lb1 lb2 most p, llR lt1 (rm t1 (t1.getLast?.getD ⟨#[]⟩)) n, llR lt2 t2 n, llR lb1 b1 n, llR lb2 b2 n]) ?_
      refine Ex'.next (Cd.s1 ?_)
      refine Sq.vl [0, 1, 2, 3] [sV (t1.getLast?.getD ⟨#[]⟩), bV (decide (0 < t1.length)), sV (t1.getLast?.getD ⟨#[]⟩), bV (decide (0 < t1.length))] ?_
      refine Sq.d4 (Cd.ret ?_)
      refine Ex'.ret Tryz.results85 (RVs.tm (v := sV (t1.getLast?.getD ⟨#[]⟩)) (RVs.tmp (v := bV (decide (0 < t1.length))) (by kernel_rfl) RVs.nil)) (fun w hw => ?_)
      have e : arcDrop most p t1 t2 b1 b2 = (rm t1 (t1.getLast?.getD ⟨#[]⟩), t2, t1.getLast?.getD ⟨#[]⟩, decide (0 < t1.length)) := by unfold arcDrop; rw [if_pos h1, if_pos h2]
      rw [e]
      exact ⟨_, ⟨rfl, rfl⟩, hw.pk [0, 1, 2, 3, 4]⟩
    ·
      refine Cd.skip (Ex'.next (Cd.s1 ?_))
      refine Sq.vl [0, 1, 2, 3] [sV (t1.getLast?.getD ⟨#[]⟩), bV (decide (0 < t1.length)), sV (t1.getLast?.getD ⟨#[]⟩), bV (decide (0 < t1.length))] ?_
      refine Sq.d4 (Cd.ret ?_)
      refine Ex'.ret Tryz.results85 (RVs.tm (v := sV (t1.getLast?.getD ⟨#[]⟩)) (RVs.tmp (v := bV (decide (0 < t1.length))) (by kernel_rfl) RVs.nil)) (fun w hw => ?_)
      have e : arcDrop most p t1 t2 b1 b2 = (t1, t2, t1.getLast?.getD ⟨#[]⟩, decide (0 < t1.length)) := by unfold arcDrop; rw [if_pos h1, if_neg h2]
      rw [e]
      exact ⟨_, ⟨rfl, rfl⟩, hw.pk [0, 1, 2, 3, 4]⟩
  ·
    by_cases h3 : (t1.length : Int) > 0 ∧ ((t1.length : Int) > p ∨ (t2.length : Int) = 0)
    ·
      refine Sq.sm [0, 1, 2, 3, 4] (l := arcL b lt1 lt2 lb1 lb2 most p t1 t2 b1 b2 n) (o_cl Tryz.call84 (arc_VictimB (n := n) (most := most) (p := p) (t1 := t1) (t2 := t2) (b1 := b1) (b2 := b2) (by omega) h1 h3)) rfl ?_
      refine Sq.vl [2, 3, 4, 5, 6] [.tuple #[sV (t1.getLast?.getD ⟨#[]⟩), bV (decide (0 < t1.length))], sV (t1.getLast?.getD ⟨#[]⟩), bV (decide (0 < t1.length)), sV (t1.getLast?.getD ⟨#[]⟩), bV (decide (0 < t1.length))] ?_
      refine Sq.d4 (Cd.seq (Cd.s1 (Sq.vl [0] [bV (decide (0 < t1.length))] (Sq.d4 ?_))))
      refine Cd.case (p := 0 < t1.length) (by kernel_rfl) (fun h4 => ?_) (fun h4 => ?_)
      ·
        refine Cd.plan [0, 0, 0, 6, 1, 17, 63, 127, 0, 511] [(3, [(0, false, 0), (1, false, 0), (2, false, 0), (3, false, 0), (4, false, 0)]), (7, [(0, false, 0)]), (9, [(1, true, 0)])] [] [] [(1, 9, fun g => llR lt1 (rm t1 (t1.getLast?.getD ⟨#[]⟩)) n)] [fun g => pV b 0, fun g => pV b 0, fun g => sV (t1.getLast?.getD ⟨#[]⟩), fun g => iV 0, fun g => pV b 0, fun g => pV b 2, fun g => pV b 2, fun g => pV lt1 0, fun g => sV (t1.getLast?.getD ⟨#[]⟩), fun g => bV (decide (t1.getLast?.getD ⟨#[]⟩ ∈ t1))] (by kernel_rfl) (by kernel_rfl) rfl (trivial) ?_ ?_
        · exact ⟨ob_k, ob_k, ob_k, ob_r (l := fun g => [arcB b lt1 lt2 lb1 lb2 most p, llR lt1 t1 n, llR lt2 t2 n, llR lb1 b1 n, llR lb2 b2 n]) (l' := fun g => [arcB b lt1 lt2 lb1 lb2 most p, llR lt1 t1 n, llR lt2 t2 n, llR lb1 b1 n, llR lb2 b2 n]) (v := fun g => iV 0) (fun g => o_cl Tryz.call149 (arc_at0 (n := n) (most := most) (p := p) (t1 := t1) (t2 := t2) (b1 := b1) (b2 := b2) (t1.getLast?.getD ⟨#[]⟩) (by omega) (arc_last h4))), ob_k, ob_k, ob_k, ob_r (l := fun g => [arcB b lt1 lt2 lb1 lb2 most p]) (l' := fun g => [arcB b lt1 lt2 lb1 lb2 most p]) (v := fun g => pV lt1 0) (fun g => o_ld (i := 2) (v := pV lt1 0)), ob_k, ob_r (l := fun g => [llR lt1 t1 n]) (l' := fun g => [llR lt1 (rm t1 (t1.getLast?.getD ⟨#[]⟩)) n]) (v := fun g => bV (decide (t1.getLast?.getD ⟨#[]⟩ ∈ t1))) (fun g => o_cl Tryz.call131 (t_Remove (ks := t1) (n := n) (t1.getLast?.getD ⟨#[]⟩) (by omega))), trivial⟩
        intro g
        refine Ex'.sub (subB_spec [2, 3, 4, 5]) ?_
        refine Ex'.a1 [0, 1, 2, 3, 4] (σ' := [(2, sV ⟨#[]⟩), (3, bV false), (4, sV (t1.getLast?.getD ⟨#[]⟩)), (5, bV (decide (0 < t1.length)))]) (Γ' := [arcB b lt1 lt2 lb1 lb2 most p, llR lt1 (rm t1 (t1.getLast?.getD ⟨#[]⟩)) n, llR lt2 t2 n, llR lb1 b1 n, llR lb2 b2 n]) ?_
        refine Ex'.next (Cd.s1 ?_)
        refine Sq.vl [0, 1, 2, 3] [sV (t1.getLast?.getD ⟨#[]⟩), bV (decide (0 < t1.length)), sV (t1.getLast?.getD ⟨#[]⟩), bV (decide (0 < t1.length))] ?_
        refine Sq.d4 (Cd.ret ?_)
        refine Ex'.ret Tryz.results85 (RVs.tm (v := sV (t1.getLast?.getD ⟨#[]⟩)) (RVs.tmp (v := bV (decide (0 < t1.length))) (by kernel_rfl) RVs.nil)) (fun w hw => ?_)
        have e : arcDrop most p t1 t2 b1 b2 = (rm t1 (t1.getLast?.getD ⟨#[]⟩), t2, t1.getLast?.getD ⟨#[]⟩, decide (0 < t1.length)) := by unfold arcDrop; rw [if_neg h1, if_pos h3, if_pos h4]
        rw [e]
        exact ⟨_, ⟨rfl, rfl⟩, hw.pk [0, 1, 2, 3, 4]⟩
      ·
        refine Cd.skip (Ex'.next (Cd.s1 ?_))
        refine Sq.vl [0, 1, 2, 3] [sV (t1.getLast?.getD ⟨#[]⟩), bV (decide (0 < t1.length)), sV (t1.getLast?.getD ⟨#[]⟩), bV (decide (0 < t1.length))] ?_
        refine Sq.d4 (Cd.ret ?_)
        refine Ex'.ret Tryz.results85 (RVs.tm (v := sV (t1.getLast?.getD ⟨#[]⟩)) (RVs.tmp (v := bV (decide (0 < t1.length))) (by kernel_rfl) RVs.nil)) (fun w hw => ?_)
        have e : arcDrop most p t1 t2 b1 b2 = (t1, t2, t1.getLast?.getD ⟨#[]⟩, decide (0 < t1.length)) := by unfold arcDrop; rw [if_neg h1, if_pos h3, if_neg h4]
        rw [e]
        exact ⟨_, ⟨rfl, rfl⟩, hw.pk [0, 1, 2, 3, 4]⟩
    ·
      refine Sq.sm [0, 1, 2, 3, 4] (l := arcL b lt1 lt2 lb1 lb2 most p t1 t2 b1 b2 n) (o_cl Tryz.call84 (arc_VictimC (n := n) (most := most) (p := p) (t1 := t1) (t2 := t2) (b1 := b1) (b2 := b2) (by omega) h1 h3)) rfl ?_
      refine Sq.vl [2, 3, 4, 5, 6] [.tuple #[sV (t2.getLast?.getD ⟨#[]⟩), bV (decide (0 < t2.length))], sV (t2.getLast?.getD ⟨#[]⟩), bV (decide (0 < t2.length)), sV (t2.getLast?.getD ⟨#[]⟩), bV (decide (0 < t2.length))] ?_
      refine Sq.d4 (Cd.seq (Cd.s1 (Sq.vl [0] [bV (decide (0 < t2.length))] (Sq.d4 ?_))))
      refine Cd.case (p := 0 < t2.length) (by kernel_rfl) (fun h5 => ?_) (fun h5 => ?_)
      ·
        by_cases h6 : t2.getLast?.getD ⟨#[]⟩ ∈ t1
        ·
          refine Cd.plan [0, 0, 0, 6, 1, 17, 63, 127, 0, 511] [(3, [(0, false, 0), (1, false, 0), (2, false, 0), (3, false, 0), (4, false, 0)]), (7, [(0, false, 0)]), (9, [(1, true, 0)])] [] [] [(1, 9, fun g => llR lt1 (rm t1 (t2.getLast?.getD ⟨#[]⟩)) n)] [fun g => pV b 0, fun g => pV b 0, fun g => sV (t2.getLast?.getD ⟨#[]⟩), fun g => iV 0, fun g => pV b 0, fun g => pV b 2, fun g => pV b 2, fun g => pV lt1 0, fun g => sV (t2.getLast?.getD ⟨#[]⟩), fun g => bV (decide (t2.getLast?.getD ⟨#[]⟩ ∈ t1))] (by kernel_rfl) (by kernel_rfl) rfl (trivial) ?_ ?_
          · exact ⟨ob_k, ob_k, ob_k, ob_r (l := fun g => [arcB b lt1 lt2 lb1 lb2 most p, llR lt1 t1 n, llR lt2 t2 n, llR lb1 b1 n, llR lb2 b2 n]) (l' := fun g => [arcB b lt1 lt2 lb1 lb2 most p, llR lt1 t1 n, llR lt2 t2 n, llR lb1 b1 n, llR lb2 b2 n]) (v := fun g => iV 0) (fun g => o_cl Tryz.call149 (arc_at0 (n := n) (most := most) (p := p) (t1 := t1) (t2 := t2) (b1 := b1) (b2 := b2) (t2.getLast?.getD ⟨#[]⟩) (by omega) h6)), ob_k, ob_k, ob_k, ob_r (l := fun g => [arcB b lt1 lt2 lb1 lb2 most p]) (l' := fun g => [arcB b lt1 lt2 lb1 lb2 most p]) (v := fun g => pV lt1 0) (fun g => o_ld (i := 2) (v := pV lt1 0)), ob_k, ob_r (l := fun g => [llR lt1 t1 n]) (l' := fun g => [llR lt1 (rm t1 (t2.getLast?.getD ⟨#[]⟩)) n]) (v := fun g => bV (decide (t2.getLast?.getD ⟨#[]⟩ ∈ t1))) (fun g => o_cl Tryz.call131 (t_Remove (ks := t1) (n := n) (t2.getLast?.getD ⟨#[]⟩) (by omega))), trivial⟩
          intro g
          refine Ex'.sub (subB_spec [2, 3, 4, 5]) ?_
          refine Ex'.a1 [0, 1, 2, 3, 4] (σ' := [(2, sV ⟨#[]⟩), (3, bV false), (4, sV (t2.getLast?.getD ⟨#[]⟩)), (5, bV (decide (0 < t2.length)))]) (Γ' := [arcB b lt1 lt2 lb1 lb2 most p, llR lt1 (rm t1 (t2.getLast?.getD ⟨#[]⟩)) n, llR lt2 t2 n, llR lb1 b1 n, llR lb2 b2 n]) ?_
          refine Ex'.next (Cd.s1 ?_)
          refine Sq.vl [0, 1, 2, 3] [sV (t2.getLast?.getD ⟨#[]⟩), bV (decide (0 < t2.length)), sV (t2.getLast?.getD ⟨#[]⟩), bV (decide (0 < t2.length))] ?_
          refine Sq.d4 (Cd.ret ?_)
          refine Ex'.ret Tryz.results85 (RVs.tm (v := sV (t2.getLast?.getD ⟨#[]⟩)) (RVs.tmp (v := bV (decide (0 < t2.length))) (by kernel_rfl) RVs.nil)) (fun w hw => ?_)
          have e : arcDrop most p t1 t2 b1 b2 = (rm t1 (t2.getLast?.getD ⟨#[]⟩), t2, t2.getLast?.getD ⟨#[]⟩, decide (0 < t2.length)) := by unfold arcDrop; rw [if_neg h1, if_neg h3, if_pos h5, if_pos h6]
          rw [e]
          exact ⟨_, ⟨rfl, rfl⟩, hw.pk [0, 1, 2, 3, 4]⟩
        ·
          refine Cd.plan [0, 0, 0, 6, 1, 17, 63, 127, 0, 511] [(3, [(0, false, 0), (1, false, 0), (2, false, 0), (3, false, 0), (4, false, 0)]), (7, [(0, false, 0)]), (9, [(2, true, 0)])] [] [] [(2, 9, fun g => llR lt2 (rm t2 (t2.getLast?.getD ⟨#[]⟩)) n)] [fun g => pV b 0, fun g => pV b 0, fun g => sV (t2.getLast?.getD ⟨#[]⟩), fun g => iV 1, fun g => pV b 0, fun g => pV b 2, fun g => pV b 3, fun g => pV lt2 0, fun g => sV (t2.getLast?.getD ⟨#[]⟩), fun g => bV (decide (t2.getLast?.getD ⟨#[]⟩ ∈ t2))] (by kernel_rfl) (by kernel_rfl) rfl (trivial) ?_ ?_
          · exact ⟨ob_k, ob_k, ob_k, ob_r (l := fun g => [arcB b lt1 lt2 lb1 lb2 most p, llR lt1 t1 n, llR lt2 t2 n, llR lb1 b1 n, llR lb2 b2 n]) (l' := fun g => [arcB b lt1 lt2 lb1 lb2 most p, llR lt1 t1 n, llR lt2 t2 n, llR lb1 b1 n, llR lb2 b2 n]) (v := fun g => iV 1) (fun g => o_cl Tryz.call149 (arc_at1 (n := n) (most := most) (p := p) (t1 := t1) (t2 := t2) (b1 := b1) (b2 := b2) (t2.getLast?.getD ⟨#[]⟩) (by omega) h6 (arc_last h5))), ob_k, ob_k, ob_k, ob_r (l := fun g => [arcB b lt1 lt2 lb1 lb2 most p]) (l' := fun g => [arcB b lt1 lt2 lb1 lb2 most p]) (v := fun g => pV lt2 0) (fun g => o_ld (i := 3) (v := pV lt2 0)), ob_k, ob_r (l := fun g => [llR lt2 t2 n]) (l' := fun g => [llR lt2 (rm t2 (t2.getLast?.getD ⟨#[]⟩)) n]) (v := fun g => bV (decide (t2.getLast?.getD ⟨#[]⟩ ∈ t2))) (fun g => o_cl Tryz.call131 (t_Remove (ks := t2) (n := n) (t2.getLast?.getD ⟨#[]⟩) (by omega))), trivial⟩
          intro g
          refine Ex'.sub (subB_spec [2, 3, 4, 5]) ?_
          refine Ex'.a1 [0, 1, 2, 3, 4] (σ' := [(2, sV ⟨#[]⟩), (3, bV false), (4, sV (t2.getLast?.getD ⟨#[]⟩)), (5, bV (decide (0 < t2.length)))]) (Γ' := [arcB b lt1 lt2 lb1 lb2 most p, llR lt1 t1 n, llR lt2 (rm t2 (t2.getLast?.getD ⟨#[]⟩)) n, llR lb1 b1 n, llR lb2 b2 n]) ?_
          refine Ex'.next (Cd.s1 ?_)
          refine Sq.vl [0, 1, 2, 3] [sV (t2.getLast?.getD ⟨#[]⟩), bV (decide (0 < t2.length)), sV (t2.getLast?.getD ⟨#[]⟩), bV (decide (0 < t2.length))] ?_
          refine Sq.d4 (Cd.ret ?_)
          refine Ex'.ret Tryz.results85 (RVs.tm (v := sV (t2.getLast?.getD ⟨#[]⟩)) (RVs.tmp (v := bV (decide (0 < t2.length))) (by kernel_rfl) RVs.nil)) (fun w hw => ?_)
          have e : arcDrop most p t1 t2 b1 b2 = (t1, rm t2 (t2.getLast?.getD ⟨#[]⟩), t2.getLast?.getD ⟨#[]⟩, decide (0 < t2.length)) := by unfold arcDrop; rw [if_neg h1, if_neg h3, if_pos h5, if_neg h6]
          rw [e]
          exact ⟨_, ⟨rfl, rfl⟩, hw.pk [0, 1, 2, 3, 4]⟩
      ·
        refine Cd.skip (Ex'.next (Cd.s1 ?_))
        refine Sq.vl [0, 1, 2, 3] [sV (t2.getLast?.getD ⟨#[]⟩), bV (decide (0 < t2.length)), sV (t2.getLast?.getD ⟨#[]⟩), bV (decide (0 < t2.length))] ?_
        refine Sq.d4 (Cd.ret ?_)
        refine Ex'.ret Tryz.results85 (RVs.tm (v := sV (t2.getLast?.getD ⟨#[]⟩)) (RVs.tmp (v := bV (decide (0 < t2.length))) (by kernel_rfl) RVs.nil)) (fun w hw => ?_)
        have e : arcDrop most p t1 t2 b1 b2 = (t1, t2, t2.getLast?.getD ⟨#[]⟩, decide (0 < t2.length)) := by unfold arcDrop; rw [if_neg h1, if_neg h3, if_neg h5]
        rw [e]
        exact ⟨_, ⟨rfl, rfl⟩, hw.pk [0, 1, 2, 3, 4]⟩
def arcRemove (most p : Int) (t1 t2 b1 b2 : List ByteArray) (key : ByteArray) : List ByteArray × List ByteArray × List ByteArray × List ByteArray × Bool :=
  if key ∈ t1 then (rm t1 key, t2, b1, b2, true) else if key ∈ t2 then (t1, rm t2 key, b1, b2, true) else if key ∈ b1 then (t1, t2, rm b1 key, b2, false) else if key ∈ b2 then (t1, t2, b1, rm b2 key, false) else (t1, t2, b1, b2, false)
theorem arc_Remove {b lt1 lt2 lb1 lb2 n : Nat} {most p : Int} {t1 t2 b1 b2 : List ByteArray} (key : ByteArray) (hb : n ≤ 1000000000) : Tri Tryz.prog 82 #[pV b 0, sV key] (arcL b lt1 lt2 lb1 lb2 most p t1 t2 b1 b2 n) (Same (arcL b lt1 lt2 lb1 lb2 most p ((arcRemove most p t1 t2 b1 b2 key).1) ((arcRemove most p t1 t2 b1 b2 key).2.1) ((arcRemove most p t1 t2 b1 b2 key).2.2.1) ((arcRemove most p t1 t2 b1 b2 key).2.2.2.1) n) (bV ((arcRemove most p t1 t2 b1 b2 key).2.2.2.2))) := by
  refine Tri.en (args := [pV b 0, sV key]) Tryz.func82 (fun B wz => ?_)
  refine Cd.s1 (Sq.vl [0] [bV false] (Sq.d1 (Sq.vl [0, 1] [pV b 0, sV key] ?_)))
  by_cases h1 : key ∈ t1
  ·
    refine Sq.sm [0, 1, 2, 3, 4] (l := arcL b lt1 lt2 lb1 lb2 most p t1 t2 b1 b2 n) (o_cl Tryz.call149 (arc_at0 (n := n) (most := most) (p := p) (t1 := t1) (t2 := t2) (b1 := b1) (b2 := b2) key (by omega) h1)) rfl (Sq.vl [3] [iV 0] (Sq.d4 (Cd.seq (Cd.s1 (Sq.vl [0, 1] [iV 0, bV true] (Sq.d4 (Cd.cT (Cd.s0 (Sq.vl [0, 1, 2, 3, 4] [pV b 0, iV 0, pV b 0, pV b 2, pV b 2] ?_)))))))))
    refine Sq.sm [0] (l := [arcB b lt1 lt2 lb1 lb2 most p]) (o_ld (i := 2) (v := pV lt1 0)) rfl (Sq.vl [6] [sV key] (Sq.sm [1] (l := [llR lt1 t1 n]) (o_cl Tryz.call131 (t_Remove (ks := t1) (n := n) key (by omega))) rfl (Sq.d1 (Sq.vl [0, 1, 2] [iV 0, bV true, bV true] (Sq.d4 (Cd.ret (Ex'.ret Tryz.results82 (RVs.tm (v := bV true) RVs.nil) (fun w hw => ?_))))))))
    have e : arcRemove most p t1 t2 b1 b2 key = (rm t1 key, t2, b1, b2, true) := by unfold arcRemove; rw [if_pos h1]
    rw [e]
    exact ⟨_, ⟨rfl, rfl⟩, hw.pk [0, 1, 2, 3, 4]⟩
  ·
    by_cases h2 : key ∈ t2
    ·
      refine Sq.sm [0, 1, 2, 3, 4] (l := arcL b lt1 lt2 lb1 lb2 most p t1 t2 b1 b2 n) (o_cl Tryz.call149 (arc_at1 (n := n) (most := most) (p := p) (t1 := t1) (t2 := t2) (b1 := b1) (b2 := b2) key (by omega) h1 h2)) rfl (Sq.vl [3] [iV 1] (Sq.d4 (Cd.seq (Cd.s1 (Sq.vl [0, 1] [iV 1, bV true] (Sq.d4 (Cd.cT (Cd.s0 (Sq.vl [0, 1, 2, 3, 4] [pV b 0, iV 1, pV b 0, pV b 2, pV b 3] ?_)))))))))
      refine Sq.sm [0] (l := [arcB b lt1 lt2 lb1 lb2 most p]) (o_ld (i := 3) (v := pV lt2 0)) rfl (Sq.vl [6] [sV key] (Sq.sm [2] (l := [llR lt2 t2 n]) (o_cl Tryz.call131 (t_Remove (ks := t2) (n := n) key (by omega))) rfl (Sq.d1 (Sq.vl [0, 1, 2] [iV 1, bV true, bV true] (Sq.d4 (Cd.ret (Ex'.ret Tryz.results82 (RVs.tm (v := bV true) RVs.nil) (fun w hw => ?_))))))))
      have e : arcRemove most p t1 t2 b1 b2 key = (t1, rm t2 key, b1, b2, true) := by unfold arcRemove; rw [if_neg h1, if_pos h2]
      rw [e]
      exact ⟨_, ⟨rfl, rfl⟩, hw.pk [0, 1, 2, 3, 4]⟩
    ·
      by_cases h3 : key ∈ b1
      ·
        refine Sq.sm [0, 1, 2, 3, 4] (l := arcL b lt1 lt2 lb1 lb2 most p t1 t2 b1 b2 n) (o_cl Tryz.call149 (arc_at2 (n := n) (most := most) (p := p) (t1 := t1) (t2 := t2) (b1 := b1) (b2 := b2) key (by omega) h1 h2 h3)) rfl (Sq.vl [3] [iV 2] (Sq.d4 (Cd.seq (Cd.s1 (Sq.vl [0, 1] [iV 2, bV true] (Sq.d4 (Cd.cT (Cd.s0 (Sq.vl [0, 1, 2, 3, 4] [pV b 0, iV 2, pV b 0, pV b 2, pV b 4] ?_)))))))))
        refine Sq.sm [0] (l := [arcB b lt1 lt2 lb1 lb2 most p]) (o_ld (i := 4) (v := pV lb1 0)) rfl (Sq.vl [6] [sV key] (Sq.sm [3] (l := [llR lb1 b1 n]) (o_cl Tryz.call131 (t_Remove (ks := b1) (n := n) key (by omega))) rfl (Sq.d1 (Sq.vl [0, 1, 2] [iV 2, bV false, bV false] (Sq.d4 (Cd.ret (Ex'.ret Tryz.results82 (RVs.tm (v := bV false) RVs.nil) (fun w hw => ?_))))))))
        have e : arcRemove most p t1 t2 b1 b2 key = (t1, t2, rm b1 key, b2, false) := by unfold arcRemove; rw [if_neg h1, if_neg h2, if_pos h3]
        rw [e]
        exact ⟨_, ⟨rfl, rfl⟩, hw.pk [0, 1, 2, 3, 4]⟩
      ·
        by_cases h4 : key ∈ b2
        ·
          refine Sq.sm [0, 1, 2, 3, 4] (l := arcL b lt1 lt2 lb1 lb2 most p t1 t2 b1 b2 n) (o_cl Tryz.call149 (arc_at3 (n := n) (most := most) (p := p) (t1 := t1) (t2 := t2) (b1 := b1) (b2 := b2) key (by omega) h1 h2 h3 h4)) rfl (Sq.vl [3] [iV 3] (Sq.d4 (Cd.seq (Cd.s1 (Sq.vl [0, 1] [iV 3, bV true] (Sq.d4 (Cd.cT (Cd.s0 (Sq.vl [0, 1, 2, 3, 4] [pV b 0, iV 3, pV b 0, pV b 2, pV b 5] ?_)))))))))
          refine Sq.sm [0] (l := [arcB b lt1 lt2 lb1 lb2 most p]) (o_ld (i := 5) (v := pV lb2 0)) rfl (Sq.vl [6] [sV key] (Sq.sm [4] (l := [llR lb2 b2 n]) (o_cl Tryz.call131 (t_Remove (ks := b2) (n := n) key (by omega))) rfl (Sq.d1 (Sq.vl [0, 1, 2] [iV 3, bV false, bV false] (Sq.d4 (Cd.ret (Ex'.ret Tryz.results82 (RVs.tm (v := bV false) RVs.nil) (fun w hw => ?_))))))))
          have e : arcRemove most p t1 t2 b1 b2 key = (t1, t2, b1, rm b2 key, false) := by unfold arcRemove; rw [if_neg h1, if_neg h2, if_neg h3, if_pos h4]
          rw [e]
          exact ⟨_, ⟨rfl, rfl⟩, hw.pk [0, 1, 2, 3, 4]⟩
        ·
          refine Sq.sm [0, 1, 2, 3, 4] (l := arcL b lt1 lt2 lb1 lb2 most p t1 t2 b1 b2 n) (o_cl Tryz.call149 (arc_at4 (n := n) (most := most) (p := p) (t1 := t1) (t2 := t2) (b1 := b1) (b2 := b2) key (by omega) h1 h2 h3 h4)) rfl (Sq.vl [3] [iV 4] (Sq.d4 (Cd.seq (Cd.s1 (Sq.vl [0, 1] [iV 4, bV false] (Sq.d4 (Cd.cF (Cd.skip (Ex'.next (Cd.s1 (Sq.vl [0, 1, 2] [iV 4, bV false, bV false] ?_)))))))))))
          refine Sq.d4 (Cd.ret (Ex'.ret Tryz.results82 (RVs.tm (v := bV false) RVs.nil) (fun w hw => ?_)))
          have e : arcRemove most p t1 t2 b1 b2 key = (t1, t2, b1, b2, false) := by unfold arcRemove; rw [if_neg h1, if_neg h2, if_neg h3, if_neg h4]
          rw [e]
          exact ⟨_, ⟨rfl, rfl⟩, hw.pk [0, 1, 2, 3, 4]⟩
def arcMany1 (most p : Int) (t1 t2 b1 b2 : List ByteArray)  : Bool :=
  decide (arcAll2 most p t1 t2 b1 b2 > most)
theorem arc_many1 {b lt1 lt2 lb1 lb2 n : Nat} {most p : Int} {t1 t2 b1 b2 : List ByteArray} {bx : Nat}  (hb : n ≤ 1000000000) : Tri Tryz.prog 190 #[pV bx 0] (arcL b lt1 lt2 lb1 lb2 most p t1 t2 b1 b2 n ++ [blkR bx [pV b 0] 100]) (Same (arcL b lt1 lt2 lb1 lb2 most p t1 t2 b1 b2 n ++ [blkR bx [pV b 0] 100]) (bV (arcMany1 most p t1 t2 b1 b2))) := by
  refine Tri.en (args := [pV bx 0]) Tryz.func190 (fun B wz => ?_)
  refine Cd.s1 (Sq.vl [0] [bV false] (Sq.d4 (Cd.seq (Cd.sub (subB_spec [0]) ?_))))
  refine Cd.plan [0, 0, 3, 0, 8, 24, 56, 127, 255] [(0, [(5, false, 0)]), (2, [(0, false, 0), (1, false, 0), (2, false, 0), (3, false, 0), (4, false, 0), (7, false, 2)]), (3, [(5, false, 0)]), (6, [(0, false, 0)])] [1] [(1, fun _ => True)] [(7, 1, fun g => blkR (slOf (g 1)) [iV 0, iV 2] 3)] [fun g => pV b 0, fun g => .slice (some ⟨(slOf (g 1)), 0, none⟩) 2 2, fun g => iV (arcAll2 most p t1 t2 b1 b2), fun g => pV b 0, fun g => pV b 0, fun g => pV b 0, fun g => iV most, fun g => bV (decide (arcAll2 most p t1 t2 b1 b2 > most)), fun g => bV (decide (arcAll2 most p t1 t2 b1 b2 > most))] (by kernel_rfl) (by kernel_rfl) rfl (⟨⟨⟨fun _ _ => rfl, ⟨trivial, ⟨trivial, ⟨fun _ _ => rfl, ⟨fun _ _ => rfl, ⟨fun _ _ => rfl, ⟨fun _ _ => rfl, ⟨trivial, ⟨trivial, trivial⟩⟩⟩⟩⟩⟩⟩⟩⟩, ⟨trivial, trivial⟩⟩, trivial⟩) ?_ ?_
  · exact ⟨ob_r (l := fun g => [blkR bx [pV b 0] 100]) (l' := fun g => [blkR bx [pV b 0] 100]) (v := fun g => pV b 0) (fun g => o_ld (i := 0) (v := pV b 0)), ob_d (ι := Nat) (l := fun g => []) (L := fun g y => [blkR y [iV 0, iV 2] 3]) (fun y => .slice (some ⟨y, 0, none⟩) 2 2) (fun g => o_lit (sz := 1) (iV 0) [iV 0, iV 2] Tryz.underlying226 (by kernel_rfl) (by kernel_rfl) (by kernel_rfl) (by kernel_rfl) (by kernel_rfl)) (fun g => by kernel_rfl) (fun g y _ => ⟨trivial, by kernel_rfl, by kernel_rfl⟩), ob_r (l := fun g => [arcB b lt1 lt2 lb1 lb2 most p, llR lt1 t1 n, llR lt2 t2 n, llR lb1 b1 n, llR lb2 b2 n, blkR (slOf (g 1)) [iV 0, iV 2] 3]) (l' := fun g => [arcB b lt1 lt2 lb1 lb2 most p, llR lt1 t1 n, llR lt2 t2 n, llR lb1 b1 n, llR lb2 b2 n, blkR (slOf (g 1)) [iV 0, iV 2] 3]) (v := fun g => iV (arcAll2 most p t1 t2 b1 b2)) (fun g => o_cl Tryz.call188 (arc_all2 (n := n) (most := most) (p := p) (t1 := t1) (t2 := t2) (b1 := b1) (b2 := b2) (by omega))), ob_r (l := fun g => [blkR bx [pV b 0] 100]) (l' := fun g => [blkR bx [pV b 0] 100]) (v := fun g => pV b 0) (fun g => o_ld (i := 0) (v := pV b 0)), ob_k, ob_k, ob_r (l := fun g => [arcB b lt1 lt2 lb1 lb2 most p]) (l' := fun g => [arcB b lt1 lt2 lb1 lb2 most p]) (v := fun g => iV most) (fun g => o_ld (i := 0) (v := iV most)), ob_k, ob_k, trivial⟩
  intro g
  refine Ex'.sub (subB_spec [1]) (Ex'.a1 [0, 1, 2, 3, 4, 5, 7] (σ' := [(1, bV (decide (arcAll2 most p t1 t2 b1 b2 > most)))]) (Γ' := [arcB b lt1 lt2 lb1 lb2 most p, llR lt1 t1 n, llR lt2 t2 n, llR lb1 b1 n, llR lb2 b2 n, blkR bx [pV b 0] 100, blkR (slOf (g 1)) [iV 0, iV 2] 3]) ?_)
  generalize slOf (g 1) = b4
  refine Ex'.next (Cd.ret (Ex'.ret Tryz.results190 (RVs.tm (v := bV (decide (arcAll2 most p t1 t2 b1 b2 > most))) RVs.nil) (fun w hw => ?_)))
  have e : arcMany1 most p t1 t2 b1 b2 = decide (arcAll2 most p t1 t2 b1 b2 > most) := by unfold arcMany1; rfl
  rw [e]
  exact ⟨_, ⟨rfl, rfl⟩, hw.pk [0, 1, 2, 3, 4, 5]⟩
def arcMany2 (most p : Int) (t1 t2 b1 b2 : List ByteArray)  : Bool :=
  decide ((arcAll4 most p t1 t2 b1 b2) - most > most)
theorem arc_many2 {b lt1 lt2 lb1 lb2 n : Nat} {most p : Int} {t1 t2 b1 b2 : List ByteArray} {bx : Nat}  (hb : n ≤ 1000000000) (h0 : 0 ≤ most ∧ most ≤ 4611686018427387904) : Tri Tryz.prog 191 #[pV bx 0] (arcL b lt1 lt2 lb1 lb2 most p t1 t2 b1 b2 n ++ [blkR bx [pV b 0] 100]) (Same (arcL b lt1 lt2 lb1 lb2 most p t1 t2 b1 b2 n ++ [blkR bx [pV b 0] 100]) (bV (arcMany2 most p t1 t2 b1 b2))) := by
  refine Tri.en (args := [pV bx 0]) Tryz.func191 (fun B wz => ?_)
  refine Cd.fact (i := 1) rfl llR.le ?_; rintro ⟨_, hl1⟩
  refine Cd.fact (i := 2) rfl llR.le ?_; rintro ⟨_, hl2⟩
  refine Cd.fact (i := 3) rfl llR.le ?_; rintro ⟨_, hl3⟩
  refine Cd.fact (i := 4) rfl llR.le ?_; rintro ⟨_, hl4⟩
  have hall2 := @arcAll2_eq most p t1 t2 b1 b2
  have hall4 := @arcAll4_eq most p t1 t2 b1 b2
  refine Cd.s1 (Sq.vl [0] [bV false] (Sq.d4 (Cd.seq (Cd.sub (subB_spec [0]) ?_))))
  refine Cd.plan [0, 0, 3, 0, 8, 24, 56, 127, 0, 256, 768, 1792, 4095, 8191] [(0, [(5, false, 0)]), (2, [(0, false, 0), (1, false, 0), (2, false, 0), (3, false, 0), (4, false, 0), (7, false, 2)]), (3, [(5, false, 0)]), (6, [(0, false, 0)]), (8, [(5, false, 0)]), (11, [(0, false, 0)])] [1] [(1, fun _ => True)] [(7, 1, fun g => blkR (slOf (g 1)) [iV 0, iV 1, iV 2, iV 3] 3)] [fun g => pV b 0, fun g => .slice (some ⟨(slOf (g 1)), 0, none⟩) 4 4, fun g => iV (arcAll4 most p t1 t2 b1 b2), fun g => pV b 0, fun g => pV b 0, fun g => pV b 0, fun g => iV most, fun g => iV ((arcAll4 most p t1 t2 b1 b2) - most), fun g => pV b 0, fun g => pV b 0, fun g => pV b 0, fun g => iV most, fun g => bV (decide ((arcAll4 most p t1 t2 b1 b2) - most > most)), fun g => bV (decide ((arcAll4 most p t1 t2 b1 b2) - most > most))] (by kernel_rfl) (by kernel_rfl) rfl (⟨⟨⟨fun _ _ => rfl, ⟨trivial, ⟨trivial, ⟨fun _ _ => rfl, ⟨fun _ _ => rfl, ⟨fun _ _ => rfl, ⟨fun _ _ => rfl, ⟨trivial, ⟨fun _ _ => rfl, ⟨fun _ _ => rfl, ⟨fun _ _ => rfl, ⟨fun _ _ => rfl, ⟨trivial, ⟨trivial, trivial⟩⟩⟩⟩⟩⟩⟩⟩⟩⟩⟩⟩⟩⟩, ⟨trivial, trivial⟩⟩, trivial⟩) ?_ ?_
  · exact ⟨ob_r (l := fun g => [blkR bx [pV b 0] 100]) (l' := fun g => [blkR bx [pV b 0] 100]) (v := fun g => pV b 0) (fun g => o_ld (i := 0) (v := pV b 0)), ob_d (ι := Nat) (l := fun g => []) (L := fun g y => [blkR y [iV 0, iV 1, iV 2, iV 3] 3]) (fun y => .slice (some ⟨y, 0, none⟩) 4 4) (fun g => o_lit (sz := 1) (iV 0) [iV 0, iV 1, iV 2, iV 3] Tryz.underlying226 (by kernel_rfl) (by kernel_rfl) (by kernel_rfl) (by kernel_rfl) (by kernel_rfl)) (fun g => by kernel_rfl) (fun g y _ => ⟨trivial, by kernel_rfl, by kernel_rfl⟩), ob_r (l := fun g => [arcB b lt1 lt2 lb1 lb2 most p, llR lt1 t1 n, llR lt2 t2 n, llR lb1 b1 n, llR lb2 b2 n, blkR (slOf (g 1)) [iV 0, iV 1, iV 2, iV 3] 3]) (l' := fun g => [arcB b lt1 lt2 lb1 lb2 most p, llR lt1 t1 n, llR lt2 t2 n, llR lb1 b1 n, llR lb2 b2 n, blkR (slOf (g 1)) [iV 0, iV 1, iV 2, iV 3] 3]) (v := fun g => iV (arcAll4 most p t1 t2 b1 b2)) (fun g => o_cl Tryz.call188 (arc_all4 (n := n) (most := most) (p := p) (t1 := t1) (t2 := t2) (b1 := b1) (b2 := b2) (by omega))), ob_r (l := fun g => [blkR bx [pV b 0] 100]) (l' := fun g => [blkR bx [pV b 0] 100]) (v := fun g => pV b 0) (fun g => o_ld (i := 0) (v := pV b 0)), ob_k, ob_k, ob_r (l := fun g => [arcB b lt1 lt2 lb1 lb2 most p]) (l' := fun g => [arcB b lt1 lt2 lb1 lb2 most p]) (v := fun g => iV most) (fun g => o_ld (i := 0) (v := iV most)), ob_w (v := fun g => iV ((arcAll4 most p t1 t2 b1 b2) - most)) (fun g => o_sub (k := .i64) (a := arcAll4 most p t1 t2 b1 b2) (b := most) (c := (arcAll4 most p t1 t2 b1 b2) - most) (by kernel_rfl) (by kernel_rfl) (w64 rfl (by omega))), ob_r (l := fun g => [blkR bx [pV b 0] 100]) (l' := fun g => [blkR bx [pV b 0] 100]) (v := fun g => pV b 0) (fun g => o_ld (i := 0) (v := pV b 0)), ob_k, ob_k, ob_r (l := fun g => [arcB b lt1 lt2 lb1 lb2 most p]) (l' := fun g => [arcB b lt1 lt2 lb1 lb2 most p]) (v := fun g => iV most) (fun g => o_ld (i := 0) (v := iV most)), ob_k, ob_k, trivial⟩
  intro g
  refine Ex'.sub (subB_spec [1]) (Ex'.a1 [0, 1, 2, 3, 4, 5, 7] (σ' := [(1, bV (decide ((arcAll4 most p t1 t2 b1 b2) - most > most)))]) (Γ' := [arcB b lt1 lt2 lb1 lb2 most p, llR lt1 t1 n, llR lt2 t2 n, llR lb1 b1 n, llR lb2 b2 n, blkR bx [pV b 0] 100, blkR (slOf (g 1)) [iV 0, iV 1, iV 2, iV 3] 3]) ?_)
  generalize slOf (g 1) = b4
  refine Ex'.next (Cd.ret (Ex'.ret Tryz.results191 (RVs.tm (v := bV (decide ((arcAll4 most p t1 t2 b1 b2) - most > most))) RVs.nil) (fun w hw => ?_)))
  have e : arcMany2 most p t1 t2 b1 b2 = decide ((arcAll4 most p t1 t2 b1 b2) - most > most) := by unfold arcMany2; rfl
  rw [e]
  exact ⟨_, ⟨rfl, rfl⟩, hw.pk [0, 1, 2, 3, 4, 5]⟩
def arcTrim1 (most p : Int) (t1 t2 b1 b2 : List ByteArray) : List ByteArray := b1.take (most - t1.length).toNat
def arcTrim2 (most p : Int) (t1 t2 b1 b2 : List ByteArray) : List ByteArray := b2.take (2 * most - t1.length - t2.length - b1.length).toNat
theorem take_dl {l : List ByteArray} {c : Nat} (h : c < l.length) : l.dropLast.take c = l.take c := by
  rw [List.dropLast_eq_take, List.take_take]; congr 1; omega
theorem arc_while1 {b lt1 lt2 lb1 lb2 n : Nat} {most p : Int} {t1 t2 b1 b2 : List ByteArray} {bx : Nat}  (hb : n ≤ 1000000000) (h0 : 0 ≤ most ∧ most ≤ 4611686018427387904) : Tri Tryz.prog 189 #[.func (.func 190) #[] #[pV bx 0], iV 2, pV bx 0] (arcL b lt1 lt2 lb1 lb2 most p t1 t2 b1 b2 n ++ [blkR bx [pV b 0] 100]) (Same (arcL b lt1 lt2 lb1 lb2 most p t1 t2 (arcTrim1 most p t1 t2 b1 b2) b2 n ++ [blkR bx [pV b 0] 100]) (.tuple #[])) := by
  refine Tri.en (args := [.func (.func 190) #[] #[pV bx 0], iV 2, pV bx 0]) Tryz.func189 (fun B wz => ?_)
  refine Cd.fact (i := 1) rfl llR.le ?_; rintro ⟨_, hl1⟩
  refine Cd.fact (i := 2) rfl llR.le ?_; rintro ⟨_, hl2⟩
  refine Cd.fact (i := 3) rfl llR.le ?_; rintro ⟨_, hl3⟩
  refine Cd.fact (i := 4) rfl llR.le ?_; rintro ⟨_, hl4⟩
  refine Cd.block (Cd.loop (ι := (List ByteArray)) (fun g => g.take (most - t1.length).toNat = b1.take (most - t1.length).toNat) (fun g => g.length) (fun g => [(0, .func (.func 190) #[] #[pV bx 0]), (1, iV 2), (2, pV bx 0)]) (fun g => [arcB b lt1 lt2 lb1 lb2 most p, llR lt1 t1 n, llR lt2 t2 n, llR lb1 g n, llR lb2 b2 n, blkR bx [pV b 0] 100]) b1 (rfl) (subB_eq (l := [0, 1, 2]) (by kernel_rfl)) (fun w hw => hw.pk [0, 1, 2, 3, 4, 5]) ?_)
  rintro g hL1
  try dsimp only at hL1 ⊢
  have hi := hL1
  refine Cd.seq (Cd.s1 (Sq.vl [0] [.func (.func 190) #[] #[pV bx 0]] (Sq.sm [0, 1, 2, 3, 4, 5] (l := arcL b lt1 lt2 lb1 lb2 most p t1 t2 g b2 n ++ [blkR bx [pV b 0] 100]) (o_calld (first := []) (captured := [pV bx 0]) (args := []) (by kernel_rfl) (by kernel_rfl) rfl Tryz.call190 (arc_many1 (n := n) (most := most) (p := p) (t1 := t1) (t2 := t2) (b1 := g) (b2 := b2) (by omega))) rfl (Sq.vl [2] [bV (arcMany1 most p t1 t2 g b2)] ?_))))
  refine Sq.caseB 7 (t := arcMany1 most p t1 t2 g b2) rfl (fun h2 => ?_) (fun h2 => ?_)
  ·
    have hm : arcAll2 most p t1 t2 g b2 > most := of_decide_eq_true h2
    rw [arcAll2_eq] at hm
    refine Sq.sm [5] (l := [blkR bx [pV b 0] 100]) (o_ld (i := 0) (v := pV b 0)) rfl (Sq.vl [4, 5, 6, 7] [iV 2, pV b 0, pV b 2, pV b 4] (Sq.sm [0] (l := [arcB b lt1 lt2 lb1 lb2 most p]) (o_ld (i := 4) (v := pV lb1 0)) rfl (Sq.sm [3] (l := [llR lb1 g n]) (o_cl Tryz.call128 (t_Len (ks := g) (n := n))) rfl (Sq.vl [10, 11] [bV (decide ((g.length : Int) > 0)), bV (decide ((g.length : Int) > 0))] (Sq.d4 ?_)))))
    refine Cd.case (p := (g.length : Int) > 0) (by kernel_rfl) (fun h3 => ?_) (fun h3 => ?_)
    ·
      refine Cd.skip (Ex'.next (Cd.block (Cd.s0 (Sq.sm [5] (l := [blkR bx [pV b 0] 100]) (o_ld (i := 0) (v := pV b 0)) rfl (Sq.vl [1, 2, 3, 4] [iV 2, pV b 0, pV b 2, pV b 4] (Sq.sm [0] (l := [arcB b lt1 lt2 lb1 lb2 most p]) (o_ld (i := 4) (v := pV lb1 0)) rfl (Sq.sm [3] (l := [llR lb1 g n]) (o_cl Tryz.call129 (t_Pop (ks := g) (n := n) (by omega))) rfl (Sq.done (Ex'.blockNormal ?_)))))))))
      refine Ex'.round (g := g) g.dropLast ?_ ?_ (subB_eq (l := [0, 1, 2]) (by kernel_rfl)) (fun w hw => hw.pk [0, 1, 2, 3, 4, 5])
      · (try dsimp only); exact (take_dl (by omega)).trans hi
      · show g.dropLast.length < g.length; rw [List.length_dropLast]; omega
    ·
      refine Cd.exit (Ex'.thenExit (Ex'.thenExit (Ex'.blockHit (Ex'.fin Tryz.results189 (RVs.nil) (fun w hw => ?_)))))
      have e : arcTrim1 most p t1 t2 b1 b2 = g := by unfold arcTrim1; rw [← hi]; exact List.take_of_length_le (by omega)
      rw [e]
      exact ⟨_, ⟨rfl, rfl⟩, hw.pk [0, 1, 2, 3, 4, 5]⟩
  ·
    have hm : ¬ (arcAll2 most p t1 t2 g b2 > most) := of_decide_eq_false h2
    rw [arcAll2_eq] at hm
    refine Sq.vl [3, 4, 5, 6, 7, 8, 9, 10, 11] [undef, undef, undef, undef, undef, undef, undef, undef, bV false] (Sq.d4 (Cd.cF (Cd.exit (Ex'.thenExit (Ex'.thenExit (Ex'.blockHit (Ex'.fin Tryz.results189 (RVs.nil) (fun w hw => ?_))))))))
    have e : arcTrim1 most p t1 t2 b1 b2 = g := by unfold arcTrim1; rw [← hi]; exact List.take_of_length_le (by omega)
    rw [e]
    exact ⟨_, ⟨rfl, rfl⟩, hw.pk [0, 1, 2, 3, 4, 5]⟩
theorem arc_while2 {b lt1 lt2 lb1 lb2 n : Nat} {most p : Int} {t1 t2 b1 b2 : List ByteArray} {bx : Nat}  (hb : n ≤ 1000000000) (h0 : 0 ≤ most ∧ most ≤ 4611686018427387904) : Tri Tryz.prog 189 #[.func (.func 191) #[] #[pV bx 0], iV 3, pV bx 0] (arcL b lt1 lt2 lb1 lb2 most p t1 t2 b1 b2 n ++ [blkR bx [pV b 0] 100]) (Same (arcL b lt1 lt2 lb1 lb2 most p t1 t2 b1 (arcTrim2 most p t1 t2 b1 b2) n ++ [blkR bx [pV b 0] 100]) (.tuple #[])) := by
  refine Tri.en (args := [.func (.func 191) #[] #[pV bx 0], iV 3, pV bx 0]) Tryz.func189 (fun B wz => ?_)
  refine Cd.fact (i := 1) rfl llR.le ?_; rintro ⟨_, hl1⟩
  refine Cd.fact (i := 2) rfl llR.le ?_; rintro ⟨_, hl2⟩
  refine Cd.fact (i := 3) rfl llR.le ?_; rintro ⟨_, hl3⟩
  refine Cd.fact (i := 4) rfl llR.le ?_; rintro ⟨_, hl4⟩
  refine Cd.block (Cd.loop (ι := (List ByteArray)) (fun g => g.take (2 * most - t1.length - t2.length - b1.length).toNat = b2.take (2 * most - t1.length - t2.length - b1.length).toNat) (fun g => g.length) (fun g => [(0, .func (.func 191) #[] #[pV bx 0]), (1, iV 3), (2, pV bx 0)]) (fun g => [arcB b lt1 lt2 lb1 lb2 most p, llR lt1 t1 n, llR lt2 t2 n, llR lb1 b1 n, llR lb2 g n, blkR bx [pV b 0] 100]) b2 (rfl) (subB_eq (l := [0, 1, 2]) (by kernel_rfl)) (fun w hw => hw.pk [0, 1, 2, 3, 4, 5]) ?_)
  rintro g hL1
  try dsimp only at hL1 ⊢
  have hi := hL1
  refine Cd.seq (Cd.s1 (Sq.vl [0] [.func (.func 191) #[] #[pV bx 0]] (Sq.sm [0, 1, 2, 3, 4, 5] (l := arcL b lt1 lt2 lb1 lb2 most p t1 t2 b1 g n ++ [blkR bx [pV b 0] 100]) (o_calld (first := []) (captured := [pV bx 0]) (args := []) (by kernel_rfl) (by kernel_rfl) rfl Tryz.call191 (arc_many2 (n := n) (most := most) (p := p) (t1 := t1) (t2 := t2) (b1 := b1) (b2 := g) (by omega) (by omega))) rfl (Sq.vl [2] [bV (arcMany2 most p t1 t2 b1 g)] ?_))))
  refine Sq.caseB 7 (t := arcMany2 most p t1 t2 b1 g) rfl (fun h2 => ?_) (fun h2 => ?_)
  ·
    have hm : arcAll4 most p t1 t2 b1 g - most > most := of_decide_eq_true h2
    rw [arcAll4_eq] at hm
    refine Sq.sm [5] (l := [blkR bx [pV b 0] 100]) (o_ld (i := 0) (v := pV b 0)) rfl (Sq.vl [4, 5, 6, 7] [iV 3, pV b 0, pV b 2, pV b 5] (Sq.sm [0] (l := [arcB b lt1 lt2 lb1 lb2 most p]) (o_ld (i := 5) (v := pV lb2 0)) rfl (Sq.sm [4] (l := [llR lb2 g n]) (o_cl Tryz.call128 (t_Len (ks := g) (n := n))) rfl (Sq.vl [10, 11] [bV (decide ((g.length : Int) > 0)), bV (decide ((g.length : Int) > 0))] (Sq.d4 ?_)))))
    refine Cd.case (p := (g.length : Int) > 0) (by kernel_rfl) (fun h3 => ?_) (fun h3 => ?_)
    ·
      refine Cd.skip (Ex'.next (Cd.block (Cd.s0 (Sq.sm [5] (l := [blkR bx [pV b 0] 100]) (o_ld (i := 0) (v := pV b 0)) rfl (Sq.vl [1, 2, 3, 4] [iV 3, pV b 0, pV b 2, pV b 5] (Sq.sm [0] (l := [arcB b lt1 lt2 lb1 lb2 most p]) (o_ld (i := 5) (v := pV lb2 0)) rfl (Sq.sm [4] (l := [llR lb2 g n]) (o_cl Tryz.call129 (t_Pop (ks := g) (n := n) (by omega))) rfl (Sq.done (Ex'.blockNormal ?_)))))))))
      refine Ex'.round (g := g) g.dropLast ?_ ?_ (subB_eq (l := [0, 1, 2]) (by kernel_rfl)) (fun w hw => hw.pk [0, 1, 2, 3, 4, 5])
      · (try dsimp only); exact (take_dl (by omega)).trans hi
      · show g.dropLast.length < g.length; rw [List.length_dropLast]; omega
    ·
      refine Cd.exit (Ex'.thenExit (Ex'.thenExit (Ex'.blockHit (Ex'.fin Tryz.results189 (RVs.nil) (fun w hw => ?_)))))
      have e : arcTrim2 most p t1 t2 b1 b2 = g := by unfold arcTrim2; rw [← hi]; exact List.take_of_length_le (by omega)
      rw [e]
      exact ⟨_, ⟨rfl, rfl⟩, hw.pk [0, 1, 2, 3, 4, 5]⟩
  ·
    have hm : ¬ (arcAll4 most p t1 t2 b1 g - most > most) := of_decide_eq_false h2
    rw [arcAll4_eq] at hm
    refine Sq.vl [3, 4, 5, 6, 7, 8, 9, 10, 11] [undef, undef, undef, undef, undef, undef, undef, undef, bV false] (Sq.d4 (Cd.cF (Cd.exit (Ex'.thenExit (Ex'.thenExit (Ex'.blockHit (Ex'.fin Tryz.results189 (RVs.nil) (fun w hw => ?_))))))))
    have e : arcTrim2 most p t1 t2 b1 b2 = g := by unfold arcTrim2; rw [← hi]; exact List.take_of_length_le (by omega)
    rw [e]
    exact ⟨_, ⟨rfl, rfl⟩, hw.pk [0, 1, 2, 3, 4, 5]⟩
def arcTrim (most p : Int) (t1 t2 b1 b2 : List ByteArray)  : List ByteArray × List ByteArray :=
  (arcTrim1 most p t1 t2 b1 b2, arcTrim2 most p t1 t2 (arcTrim1 most p t1 t2 b1 b2) b2)
theorem arc_trim {b lt1 lt2 lb1 lb2 n : Nat} {most p : Int} {t1 t2 b1 b2 : List ByteArray}  (hb : n ≤ 1000000000) (h0 : 0 ≤ most ∧ most ≤ 4611686018427387904) : Tri Tryz.prog 152 #[pV b 0] (arcL b lt1 lt2 lb1 lb2 most p t1 t2 b1 b2 n) (Same (arcL b lt1 lt2 lb1 lb2 most p t1 t2 ((arcTrim most p t1 t2 b1 b2).1) ((arcTrim most p t1 t2 b1 b2).2) n) (.tuple #[])) := by
  refine Tri.en (args := [pV b 0]) Tryz.func152 (fun B wz => ?_)
  refine Cd.fact (i := 1) rfl llR.le ?_; rintro ⟨_, hl1⟩
  refine Cd.fact (i := 2) rfl llR.le ?_; rintro ⟨_, hl2⟩
  refine Cd.fact (i := 3) rfl llR.le ?_; rintro ⟨_, hl3⟩
  refine Cd.fact (i := 4) rfl llR.le ?_; rintro ⟨_, hl4⟩
  refine Cd.s1 ?_
  refine Sq.e0 [] (l := []) (o_newBox (v := pV b 0) [pV b 0] (by kernel_rfl) rfl) rfl ?_; intro b3 _
  refine Sq.d1 (Sq.vl [0, 1] [.func (.func 189) #[] #[pV b3 0], .func (.func 189) #[] #[pV b3 0]] (Sq.d1 (Sq.vl [0, 1] [.func (.func 189) #[] #[pV b3 0], .func (.func 190) #[] #[pV b3 0]] (Sq.sm [0, 1, 2, 3, 4, 5] (l := arcL b lt1 lt2 lb1 lb2 most p t1 t2 b1 b2 n ++ [blkR b3 [pV b 0] 100]) (o_calld (first := []) (captured := [pV b3 0]) (args := [.func (.func 190) #[] #[pV b3 0], iV 2]) (by kernel_rfl) (by kernel_rfl) rfl Tryz.call189 (arc_while1 (n := n) (most := most) (p := p) (t1 := t1) (t2 := t2) (b1 := b1) (b2 := b2) (by omega) (by omega))) rfl (Sq.d4 (Cd.s0 (Sq.vl [0, 1] [.func (.func 189) #[] #[pV b3 0], .func (.func 191) #[] #[pV b3 0]] (Sq.sm [0, 1, 2, 3, 4, 5] (l := arcL b lt1 lt2 lb1 lb2 most p t1 t2 (arcTrim1 most p t1 t2 b1 b2) b2 n ++ [blkR b3 [pV b 0] 100]) (o_calld (first := []) (captured := [pV b3 0]) (args := [.func (.func 191) #[] #[pV b3 0], iV 3]) (by kernel_rfl) (by kernel_rfl) rfl Tryz.call189 (arc_while2 (n := n) (most := most) (p := p) (t1 := t1) (t2 := t2) (b1 := arcTrim1 most p t1 t2 b1 b2) (b2 := b2) (by omega) (by omega))) rfl ?_))))))))
  refine Sq.done (Ex'.fin Tryz.results152 (RVs.nil) (fun w hw => ?_))
  have e : arcTrim most p t1 t2 b1 b2 = (arcTrim1 most p t1 t2 b1 b2, arcTrim2 most p t1 t2 (arcTrim1 most p t1 t2 b1 b2) b2) := by unfold arcTrim; rfl
  rw [e]
  exact ⟨_, ⟨rfl, rfl⟩, hw.pk [0, 1, 2, 3, 4]⟩
def arcAdopt (most p : Int) (t1 t2 b1 b2 : List ByteArray) (key : ByteArray) : List ByteArray × List ByteArray × List ByteArray × List ByteArray × Bool :=
  if arcHas most p t1 t2 b1 b2 key = true then (t1, t2, b1, b2, false) else if arcLen most p t1 t2 b1 b2 ≥ most then (t1, t2, b1, b2, false) else (fr ((arcRemove most p t1 t2 b1 b2 key).1) key, (arcRemove most p t1 t2 b1 b2 key).2.1, (arcTrim most p (fr ((arcRemove most p t1 t2 b1 b2 key).1) key) ((arcRemove most p t1 t2 b1 b2 key).2.1) ((arcRemove most p t1 t2 b1 b2 key).2.2.1) ((arcRemove most p t1 t2 b1 b2 key).2.2.2.1)).1, (arcTrim most p (fr ((arcRemove most p t1 t2 b1 b2 key).1) key) ((arcRemove most p t1 t2 b1 b2 key).2.1) ((arcRemove most p t1 t2 b1 b2 key).2.2.1) ((arcRemove most p t1 t2 b1 b2 key).2.2.2.1)).2, true)
theorem arc_Adopt {b lt1 lt2 lb1 lb2 n : Nat} {most p : Int} {t1 t2 b1 b2 : List ByteArray} (key : ByteArray) {n' : Nat} (hb : n + 1 ≤ 1000000000) (hn : n + 1 ≤ n') (h0 : 0 ≤ most ∧ most ≤ 4611686018427387904) : Tri Tryz.prog 83 #[pV b 0, sV key] (arcL b lt1 lt2 lb1 lb2 most p t1 t2 b1 b2 n) (Same (arcL b lt1 lt2 lb1 lb2 most p ((arcAdopt most p t1 t2 b1 b2 key).1) ((arcAdopt most p t1 t2 b1 b2 key).2.1) ((arcAdopt most p t1 t2 b1 b2 key).2.2.1) ((arcAdopt most p t1 t2 b1 b2 key).2.2.2.1) n') (bV ((arcAdopt most p t1 t2 b1 b2 key).2.2.2.2))) := by
  refine Tri.en (args := [pV b 0, sV key]) Tryz.func83 (fun B wz => ?_)
  refine Cd.fact (i := 1) rfl llR.le ?_; rintro ⟨_, hl1⟩
  refine Cd.fact (i := 2) rfl llR.le ?_; rintro ⟨_, hl2⟩
  refine Cd.fact (i := 3) rfl llR.le ?_; rintro ⟨_, hl3⟩
  refine Cd.fact (i := 4) rfl llR.le ?_; rintro ⟨_, hl4⟩
  refine Cd.s1 (Sq.vl [0] [bV false] (Sq.d4 (Cd.seq (Cd.seq ?_))))
  rcases Bool.eq_false_or_eq_true (arcHas most p t1 t2 b1 b2 key) with h1 | h1
  ·
    refine Cd.plan [0, 0, 3, 7, 15, 31, 15, 79, 207, 463, 1023, 2047] [(2, [(0, false, 0), (1, false, 0), (2, false, 0), (3, false, 0), (4, false, 0)])] [] [] [] [fun g => pV b 0, fun g => sV key, fun g => bV true, fun g => bV true, fun g => undef, fun g => undef, fun g => undef, fun g => undef, fun g => undef, fun g => undef, fun g => undef, fun g => bV true] (by kernel_rfl) (by kernel_rfl) rfl (trivial) ?_ ?_
    · exact ⟨ob_k, ob_k, ob_r (l := fun g => [arcB b lt1 lt2 lb1 lb2 most p, llR lt1 t1 n, llR lt2 t2 n, llR lb1 b1 n, llR lb2 b2 n]) (l' := fun g => [arcB b lt1 lt2 lb1 lb2 most p, llR lt1 t1 n, llR lt2 t2 n, llR lb1 b1 n, llR lb2 b2 n]) (v := fun g => bV true) (fun g => o_cl Tryz.call79 ((arc_Has (n := n) (most := most) (p := p) (t1 := t1) (t2 := t2) (b1 := b1) (b2 := b2) key (by omega)).re (congrArg Value.bool (show arcHas most p t1 t2 b1 b2 key = true from h1)))), ob_k, ob_k, ob_k, ob_k, ob_k, ob_k, ob_k, ob_k, ob_k, trivial⟩
    intro g
    refine Ex'.sub (subB_spec [0, 1, 4, 16]) (Ex'.a1 [0, 1, 2, 3, 4] (σ' := [(0, pV b 0), (1, sV key), (4, bV false), (16, bV true)]) (Γ' := [arcB b lt1 lt2 lb1 lb2 most p, llR lt1 t1 n, llR lt2 t2 n, llR lb1 b1 n, llR lb2 b2 n]) (Ex'.next (Cd.cT (Cd.s1 (Sq.vl [0] [bV false] (Sq.d4 (Cd.ret (Ex'.thenRet (Ex'.ret Tryz.results83 (RVs.tm (v := bV false) RVs.nil) (fun w hw => ?_))))))))))
    have e : arcAdopt most p t1 t2 b1 b2 key = (t1, t2, b1, b2, false) := by unfold arcAdopt; rw [if_pos h1]
    rw [e]
    exact ⟨_, ⟨rfl, rfl⟩, ((((hw.cv 1 (R := llR lt1 t1 n) (R' := llR lt1 t1 n') (llR.up (by omega))).cv 2 (R := llR lt2 t2 n) (R' := llR lt2 t2 n') (llR.up (by omega))).cv 3 (R := llR lb1 b1 n) (R' := llR lb1 b1 n') (llR.up (by omega))).cv 4 (R := llR lb2 b2 n) (R' := llR lb2 b2 n') (llR.up (by omega))).pk [0, 1, 2, 3, 4]⟩
  ·
    refine Cd.plan [0, 0, 3, 7, 15, 31, 15, 79, 207, 463, 1023, 2047] [(2, [(0, false, 0), (1, false, 0), (2, false, 0), (3, false, 0), (4, false, 0)]), (5, [(0, false, 0), (1, false, 0), (2, false, 0), (3, false, 0), (4, false, 0)]), (9, [(0, false, 0)])] [] [] [] [fun g => pV b 0, fun g => sV key, fun g => bV false, fun g => bV false, fun g => pV b 0, fun g => iV (arcLen most p t1 t2 b1 b2), fun g => pV b 0, fun g => pV b 0, fun g => pV b 0, fun g => iV most, fun g => bV (decide (arcLen most p t1 t2 b1 b2 ≥ most)), fun g => bV (decide (arcLen most p t1 t2 b1 b2 ≥ most))] (by kernel_rfl) (by kernel_rfl) rfl (trivial) ?_ ?_
    · exact ⟨ob_k, ob_k, ob_r (l := fun g => [arcB b lt1 lt2 lb1 lb2 most p, llR lt1 t1 n, llR lt2 t2 n, llR lb1 b1 n, llR lb2 b2 n]) (l' := fun g => [arcB b lt1 lt2 lb1 lb2 most p, llR lt1 t1 n, llR lt2 t2 n, llR lb1 b1 n, llR lb2 b2 n]) (v := fun g => bV false) (fun g => o_cl Tryz.call79 ((arc_Has (n := n) (most := most) (p := p) (t1 := t1) (t2 := t2) (b1 := b1) (b2 := b2) key (by omega)).re (congrArg Value.bool (show arcHas most p t1 t2 b1 b2 key = false from h1)))), ob_k, ob_k, ob_r (l := fun g => [arcB b lt1 lt2 lb1 lb2 most p, llR lt1 t1 n, llR lt2 t2 n, llR lb1 b1 n, llR lb2 b2 n]) (l' := fun g => [arcB b lt1 lt2 lb1 lb2 most p, llR lt1 t1 n, llR lt2 t2 n, llR lb1 b1 n, llR lb2 b2 n]) (v := fun g => iV (arcLen most p t1 t2 b1 b2)) (fun g => o_cl Tryz.call80 (arc_Len (n := n) (most := most) (p := p) (t1 := t1) (t2 := t2) (b1 := b1) (b2 := b2) (by omega))), ob_k, ob_k, ob_k, ob_r (l := fun g => [arcB b lt1 lt2 lb1 lb2 most p]) (l' := fun g => [arcB b lt1 lt2 lb1 lb2 most p]) (v := fun g => iV most) (fun g => o_ld (i := 0) (v := iV most)), ob_k, ob_k, trivial⟩
    intro g
    refine Ex'.sub (subB_spec [0, 1, 4, 16]) (Ex'.a1 [0, 1, 2, 3, 4] (σ' := [(0, pV b 0), (1, sV key), (4, bV false), (16, bV (decide (arcLen most p t1 t2 b1 b2 ≥ most)))]) (Γ' := [arcB b lt1 lt2 lb1 lb2 most p, llR lt1 t1 n, llR lt2 t2 n, llR lb1 b1 n, llR lb2 b2 n]) (Ex'.next ?_))
    refine Cd.case (p := arcLen most p t1 t2 b1 b2 ≥ most) (by kernel_rfl) (fun h2 => ?_) (fun h2 => ?_)
    ·
      refine Cd.s1 (Sq.vl [0] [bV false] (Sq.d4 (Cd.ret (Ex'.thenRet (Ex'.ret Tryz.results83 (RVs.tm (v := bV false) RVs.nil) (fun w hw => ?_))))))
      have e : arcAdopt most p t1 t2 b1 b2 key = (t1, t2, b1, b2, false) := by unfold arcAdopt; rw [if_neg (Bool.eq_false_iff.1 h1), if_pos h2]
      rw [e]
      exact ⟨_, ⟨rfl, rfl⟩, ((((hw.cv 1 (R := llR lt1 t1 n) (R' := llR lt1 t1 n') (llR.up (by omega))).cv 2 (R := llR lt2 t2 n) (R' := llR lt2 t2 n') (llR.up (by omega))).cv 3 (R := llR lb1 b1 n) (R' := llR lb1 b1 n') (llR.up (by omega))).cv 4 (R := llR lb2 b2 n) (R' := llR lb2 b2 n') (llR.up (by omega))).pk [0, 1, 2, 3, 4]⟩
    ·
      refine Cd.skip (Ex'.next (Cd.s1 (Sq.vl [0, 1] [pV b 0, sV key] (Sq.sm [0, 1, 2, 3, 4] (l := arcL b lt1 lt2 lb1 lb2 most p t1 t2 b1 b2 n) (o_cl Tryz.call82 (arc_Remove (n := n) (most := most) (p := p) (t1 := t1) (t2 := t2) (b1 := b1) (b2 := b2) key (by omega))) rfl (Sq.d1 (Sq.vl [0, 1, 2, 3] [pV b 0, pV b 0, pV b 2, pV b 2] (Sq.sm [0] (l := [arcB b lt1 lt2 lb1 lb2 most p]) (o_ld (i := 2) (v := pV lt1 0)) rfl (Sq.vl [5] [sV key] (Sq.sm [1] (l := [llR lt1 ((arcRemove most p t1 t2 b1 b2 key).1) n]) (o_cl Tryz.call130 (t_Front (ks := (arcRemove most p t1 t2 b1 b2 key).1) (n := n) key (by omega))) rfl ?_)))))))))
      refine Sq.d1 (Sq.vl [0] [pV b 0] (Sq.res 2 (R := llR lt2 ((arcRemove most p t1 t2 b1 b2 key).2.1) n) (R' := llR lt2 ((arcRemove most p t1 t2 b1 b2 key).2.1) (n + 1)) (by kernel_rfl) (llR.up (by omega)) (Sq.res 3 (R := llR lb1 ((arcRemove most p t1 t2 b1 b2 key).2.2.1) n) (R' := llR lb1 ((arcRemove most p t1 t2 b1 b2 key).2.2.1) (n + 1)) (by kernel_rfl) (llR.up (by omega)) (Sq.res 4 (R := llR lb2 ((arcRemove most p t1 t2 b1 b2 key).2.2.2.1) n) (R' := llR lb2 ((arcRemove most p t1 t2 b1 b2 key).2.2.2.1) (n + 1)) (by kernel_rfl) (llR.up (by omega)) (Sq.sm [0, 1, 2, 3, 4] (l := arcL b lt1 lt2 lb1 lb2 most p (fr ((arcRemove most p t1 t2 b1 b2 key).1) key) ((arcRemove most p t1 t2 b1 b2 key).2.1) ((arcRemove most p t1 t2 b1 b2 key).2.2.1) ((arcRemove most p t1 t2 b1 b2 key).2.2.2.1) (n + 1)) (o_cl Tryz.call152 (arc_trim (n := n + 1) (most := most) (p := p) (t1 := fr ((arcRemove most p t1 t2 b1 b2 key).1) key) (t2 := (arcRemove most p t1 t2 b1 b2 key).2.1) (b1 := (arcRemove most p t1 t2 b1 b2 key).2.2.1) (b2 := (arcRemove most p t1 t2 b1 b2 key).2.2.2.1) (by omega) (by omega))) rfl (Sq.d1 (Sq.vl [0] [bV true] ?_)))))))
      refine Sq.d4 (Cd.ret (Ex'.ret Tryz.results83 (RVs.tm (v := bV true) RVs.nil) (fun w hw => ?_)))
      have e : arcAdopt most p t1 t2 b1 b2 key = (fr ((arcRemove most p t1 t2 b1 b2 key).1) key, (arcRemove most p t1 t2 b1 b2 key).2.1, (arcTrim most p (fr ((arcRemove most p t1 t2 b1 b2 key).1) key) ((arcRemove most p t1 t2 b1 b2 key).2.1) ((arcRemove most p t1 t2 b1 b2 key).2.2.1) ((arcRemove most p t1 t2 b1 b2 key).2.2.2.1)).1, (arcTrim most p (fr ((arcRemove most p t1 t2 b1 b2 key).1) key) ((arcRemove most p t1 t2 b1 b2 key).2.1) ((arcRemove most p t1 t2 b1 b2 key).2.2.1) ((arcRemove most p t1 t2 b1 b2 key).2.2.2.1)).2, true) := by unfold arcAdopt; rw [if_neg (Bool.eq_false_iff.1 h1), if_neg h2]
      rw [e]
      exact ⟨_, ⟨rfl, rfl⟩, ((((hw.cv 1 (R := llR lt1 (fr ((arcRemove most p t1 t2 b1 b2 key).1) key) (n + 1)) (R' := llR lt1 (fr ((arcRemove most p t1 t2 b1 b2 key).1) key) n') (llR.up (by omega))).cv 2 (R := llR lt2 ((arcRemove most p t1 t2 b1 b2 key).2.1) (n + 1)) (R' := llR lt2 ((arcRemove most p t1 t2 b1 b2 key).2.1) n') (llR.up (by omega))).cv 3 (R := llR lb1 ((arcTrim most p (fr ((arcRemove most p t1 t2 b1 b2 key).1) key) ((arcRemove most p t1 t2 b1 b2 key).2.1) ((arcRemove most p t1 t2 b1 b2 key).2.2.1) ((arcRemove most p t1 t2 b1 b2 key).2.2.2.1)).1) (n + 1)) (R' := llR lb1 ((arcTrim most p (fr ((arcRemove most p t1 t2 b1 b2 key).1) key) ((arcRemove most p t1 t2 b1 b2 key).2.1) ((arcRemove most p t1 t2 b1 b2 key).2.2.1) ((arcRemove most p t1 t2 b1 b2 key).2.2.2.1)).1) n') (llR.up (by omega))).cv 4 (R := llR lb2 ((arcTrim most p (fr ((arcRemove most p t1 t2 b1 b2 key).1) key) ((arcRemove most p t1 t2 b1 b2 key).2.1) ((arcRemove most p t1 t2 b1 b2 key).2.2.1) ((arcRemove most p t1 t2 b1 b2 key).2.2.2.1)).2) (n + 1)) (R' := llR lb2 ((arcTrim most p (fr ((arcRemove most p t1 t2 b1 b2 key).1) key) ((arcRemove most p t1 t2 b1 b2 key).2.1) ((arcRemove most p t1 t2 b1 b2 key).2.2.1) ((arcRemove most p t1 t2 b1 b2 key).2.2.2.1)).2) n') (llR.up (by omega))).pk [0, 1, 2, 3, 4]⟩
def arcResL (most p : Int) : Nat → List ByteArray → List ByteArray → List ByteArray → List ByteArray → List ByteArray → List ByteArray × List ByteArray × List ByteArray × List ByteArray × List ByteArray
  | 0, t1, t2, b1, b2, out => (t1, t2, b1, b2, out)
  | k + 1, t1, t2, b1, b2, out => if (t1.length : Int) + t2.length > most then arcResL most p k (arcYieldF most p t1 t2 b1 b2).1 (arcYieldF most p t1 t2 b1 b2).2.1 (arcYieldF most p t1 t2 b1 b2).2.2.1 (arcYieldF most p t1 t2 b1 b2).2.2.2.1 (out ++ [(arcYieldF most p t1 t2 b1 b2).2.2.2.2.1]) else (t1, t2, b1, b2, out)
theorem arcResL_stop {most p : Int} {t1 t2 b1 b2 out : List ByteArray} (h : ¬ (t1.length : Int) + t2.length > most) (k : Nat) : arcResL most p k t1 t2 b1 b2 out = (t1, t2, b1, b2, out) := by
  cases k with
  | zero => rfl
  | succ k => rw [arcResL, if_neg h]
theorem arcYieldF_len {most p : Int} {t1 t2 b1 b2 : List ByteArray} (h : 0 < t1.length + t2.length) : (arcYieldF most p t1 t2 b1 b2).1.length + (arcYieldF most p t1 t2 b1 b2).2.1.length + 1 = t1.length + t2.length := by
  unfold arcYieldF
  split
  · rename_i q
    rw [if_pos (by omega)]; simp only [List.length_dropLast]; omega
  · rename_i q
    rw [if_pos (by omega)]; simp only [List.length_dropLast]; omega
theorem arcResL_go {most p : Int} {t1 t2 b1 b2 out : List ByteArray} (h : (t1.length : Int) + t2.length > most) (h0 : 0 ≤ most) : arcResL most p (t1.length + t2.length) t1 t2 b1 b2 out = arcResL most p ((arcYieldF most p t1 t2 b1 b2).1.length + (arcYieldF most p t1 t2 b1 b2).2.1.length) (arcYieldF most p t1 t2 b1 b2).1 (arcYieldF most p t1 t2 b1 b2).2.1 (arcYieldF most p t1 t2 b1 b2).2.2.1 (arcYieldF most p t1 t2 b1 b2).2.2.2.1 (out ++ [(arcYieldF most p t1 t2 b1 b2).2.2.2.2.1]) := by
  have := arcYieldF_len (most := most) (p := p) (t1 := t1) (t2 := t2) (b1 := b1) (b2 := b2) (by omega)
  rw [← this, arcResL, if_pos h]
def arcResM (mo : Int) : Int := if (0 : Int) > mo then 0 else mo
def arcResP (mo p : Int) : Int := if arcResM mo < p then arcResM mo else p
def arcResize (most p : Int) (t1 t2 b1 b2 : List ByteArray) (mo : Int) : Int × Int × List ByteArray × List ByteArray × List ByteArray × List ByteArray × List ByteArray :=
  (arcResM mo, arcResP mo p, (arcResL (arcResM mo) (arcResP mo p) (t1.length + t2.length) t1 t2 b1 b2 []).1, (arcResL (arcResM mo) (arcResP mo p) (t1.length + t2.length) t1 t2 b1 b2 []).2.1,
    (arcTrim (arcResM mo) (arcResP mo p) (arcResL (arcResM mo) (arcResP mo p) (t1.length + t2.length) t1 t2 b1 b2 []).1 (arcResL (arcResM mo) (arcResP mo p) (t1.length + t2.length) t1 t2 b1 b2 []).2.1 (arcResL (arcResM mo) (arcResP mo p) (t1.length + t2.length) t1 t2 b1 b2 []).2.2.1 (arcResL (arcResM mo) (arcResP mo p) (t1.length + t2.length) t1 t2 b1 b2 []).2.2.2.1).1,
    (arcTrim (arcResM mo) (arcResP mo p) (arcResL (arcResM mo) (arcResP mo p) (t1.length + t2.length) t1 t2 b1 b2 []).1 (arcResL (arcResM mo) (arcResP mo p) (t1.length + t2.length) t1 t2 b1 b2 []).2.1 (arcResL (arcResM mo) (arcResP mo p) (t1.length + t2.length) t1 t2 b1 b2 []).2.2.1 (arcResL (arcResM mo) (arcResP mo p) (t1.length + t2.length) t1 t2 b1 b2 []).2.2.2.1).2,
    (arcResL (arcResM mo) (arcResP mo p) (t1.length + t2.length) t1 t2 b1 b2 []).2.2.2.2)
theorem arc_Resize {b lt1 lt2 lb1 lb2 n : Nat} {most p : Int} {t1 t2 b1 b2 : List ByteArray} (mo : Int) {n' : Nat} (hb : n + t1.length + t2.length ≤ 1000000000) (hn : n + t1.length + t2.length ≤ n') (hp : 0 ≤ p ∧ p ≤ 4611686018427387904) (hmo : -9223372036854775808 ≤ mo ∧ mo ≤ 4611686018427387904) : Tri Tryz.prog 86 #[pV b 0, iV mo] (arcL b lt1 lt2 lb1 lb2 most p t1 t2 b1 b2 n) (PostE (fun _ => True) id fun v => arcL b lt1 lt2 lb1 lb2 ((arcResize most p t1 t2 b1 b2 mo).1) ((arcResize most p t1 t2 b1 b2 mo).2.1) ((arcResize most p t1 t2 b1 b2 mo).2.2.1) ((arcResize most p t1 t2 b1 b2 mo).2.2.2.1) ((arcResize most p t1 t2 b1 b2 mo).2.2.2.2.1) ((arcResize most p t1 t2 b1 b2 mo).2.2.2.2.2.1) n' ++ [rowR 9 1 v ((arcResize most p t1 t2 b1 b2 mo).2.2.2.2.2.2).length (((arcResize most p t1 t2 b1 b2 mo).2.2.2.2.2.2).map Value.string)]) := by
  refine Tri.en (args := [pV b 0, iV mo]) Tryz.func86 (fun B wz => ?_)
  refine Cd.fact (i := 1) rfl llR.le ?_; rintro ⟨_, hl1⟩
  refine Cd.fact (i := 2) rfl llR.le ?_; rintro ⟨_, hl2⟩
  refine Cd.fact (i := 3) rfl llR.le ?_; rintro ⟨_, hl3⟩
  refine Cd.fact (i := 4) rfl llR.le ?_; rintro ⟨_, hl4⟩
  refine Cd.s1 (Sq.vl [0] [.slice none 0 0] (Sq.d1 (Sq.vl [0, 1] [pV b 0, iV mo] ?_)))
  by_cases h1 : (0 : Int) > mo
  ·
    refine Sq.v (r := iV (if (0 : Int) > mo then 0 else mo)) (pureV (by kernel_rfl) rfl fun w => by kernel_rfl) rfl (by kernel_rfl) (Sq.re 10 rfl (by rw [if_pos h1]) (Sq.vl [3, 4] [pV b 0, pV b 0] (Sq.sm [0] (l := [arcB b lt1 lt2 lb1 lb2 most p]) (o_st (i := 0) (v := iV 0)) rfl (Sq.d4 (Cd.seq ?_)))))
    by_cases h2 : (0 : Int) < p
    ·
      refine Cd.plan [0, 0, 2, 6, 14, 0, 32, 96, 224, 510, 1023, 2047, 4095] [(4, [(0, false, 0)]), (8, [(0, false, 0)]), (12, [(0, true, 0)])] [] [] [(0, 12, fun g => arcB b lt1 lt2 lb1 lb2 0 0)] [fun g => pV b 0, fun g => pV b 0, fun g => pV b 0, fun g => pV b 1, fun g => iV p, fun g => pV b 0, fun g => pV b 0, fun g => pV b 0, fun g => iV 0, fun g => iV 0, fun g => pV b 0, fun g => pV b 1, fun g => undef] (by kernel_rfl) (by kernel_rfl) rfl (trivial) ?_ ?_
      · exact ⟨ob_k, ob_k, ob_k, ob_k, ob_r (l := fun g => [arcB b lt1 lt2 lb1 lb2 0 p]) (l' := fun g => [arcB b lt1 lt2 lb1 lb2 0 p]) (v := fun g => iV p) (fun g => o_ld (i := 1) (v := iV p)), ob_k, ob_k, ob_k, ob_r (l := fun g => [arcB b lt1 lt2 lb1 lb2 0 p]) (l' := fun g => [arcB b lt1 lt2 lb1 lb2 0 p]) (v := fun g => iV 0) (fun g => o_ld (i := 0) (v := iV 0)), ob_w (v := fun g => iV 0) (fun g => OprV.re (pureV (v := iV (if (0 : Int) < p then 0 else p)) (by kernel_rfl) rfl fun w => by kernel_rfl) (by rw [if_pos h2])), ob_k, ob_k, ob_r (l := fun g => [arcB b lt1 lt2 lb1 lb2 0 p]) (l' := fun g => [arcB b lt1 lt2 lb1 lb2 0 0]) (v := fun g => undef) (fun g => o_st (i := 1) (v := iV 0)), trivial⟩
      intro g
      refine Ex'.sub (subB_spec [0, 4]) (Ex'.a1 [0, 1, 2, 3, 4] (σ' := [(0, pV b 0), (4, .slice none 0 0)]) (Γ' := [arcB b lt1 lt2 lb1 lb2 0 0, llR lt1 t1 n, llR lt2 t2 n, llR lb1 b1 n, llR lb2 b2 n]) (Ex'.next (Cd.s1 (Sq.vl [0] [.slice none 0 0] (Sq.d4 (Cd.seq (Cd.block (Cd.nilRow 9 1 (Cd.loop (ι := (List ByteArray) × (List ByteArray) × (List ByteArray) × (List ByteArray) × Value × (List ByteArray) × Nat) (fun ⟨g1, g2, g3, g4, rv, rw, m2⟩ => arcResL 0 0 (g1.length + g2.length) g1 g2 g3 g4 rw = arcResL 0 0 (t1.length + t2.length) t1 t2 b1 b2 [] ∧ m2 + g1.length + g2.length ≤ n + t1.length + t2.length ∧ rw.length + g1.length + g2.length ≤ t1.length + t2.length) (fun ⟨g1, g2, g3, g4, rv, rw, m2⟩ => g1.length + g2.length) (fun ⟨g1, g2, g3, g4, rv, rw, m2⟩ => [(0, pV b 0), (4, .slice none 0 0), (5, rv)]) (fun ⟨g1, g2, g3, g4, rv, rw, m2⟩ => [arcB b lt1 lt2 lb1 lb2 0 0, llR lt1 g1 m2, llR lt2 g2 m2, llR lb1 g3 m2, llR lb2 g4 m2, rowR 9 1 rv rw.length (rw.map Value.string)]) (t1, t2, b1, b2, .slice none 0 0, ([] : List ByteArray), n) (⟨rfl, by omega, by simp⟩) (subB_eq (l := [0, 4, 5]) (by kernel_rfl)) (fun w hw => hw.pk [0, 1, 2, 3, 4, 5]) ?_)))))))))
      rintro ⟨g1, g2, g3, g4, rv, rw, m2⟩ hL3
      try dsimp only at hL3 ⊢
      obtain ⟨hi, hm2, hrw⟩ := hL3
      refine Cd.fact (i := 5) (R := rowR 9 1 rv rw.length (rw.map Value.string)) (by kernel_rfl) row_slice ?_; rintro ⟨a4, c5, rfl, hc5, hc5'⟩
      have hc5'' : c5 ≤ 9223372036854775807 := hc5'
      refine Cd.seq (Cd.seq ?_)
      refine Cd.plan [0, 1, 0, 4, 12, 28, 63] [(1, [(0, false, 0), (1, false, 0), (2, false, 0), (3, false, 0), (4, false, 0)]), (5, [(0, false, 0)])] [] [] [] [fun g => pV b 0, fun g => iV ((g1.length : Int) + g2.length), fun g => pV b 0, fun g => pV b 0, fun g => pV b 0, fun g => iV 0, fun g => bV (decide ((g1.length : Int) + g2.length > 0))] (by kernel_rfl) (by kernel_rfl) rfl (trivial) ?_ ?_
      · exact ⟨ob_k, ob_r (l := fun g => [arcB b lt1 lt2 lb1 lb2 0 0, llR lt1 g1 m2, llR lt2 g2 m2, llR lb1 g3 m2, llR lb2 g4 m2]) (l' := fun g => [arcB b lt1 lt2 lb1 lb2 0 0, llR lt1 g1 m2, llR lt2 g2 m2, llR lb1 g3 m2, llR lb2 g4 m2]) (v := fun g => iV ((g1.length : Int) + g2.length)) (fun g => o_cl Tryz.call80 (Tri.eq (l2 := arcL b lt1 lt2 lb1 lb2 0 0 g1 g2 g3 g4 m2) (r' := iV ((g1.length : Int) + g2.length)) (arc_Len (n := m2) (most := 0) (p := 0) (t1 := g1) (t2 := g2) (b1 := g3) (b2 := g4) (by omega)) (rfl) (rfl))), ob_k, ob_k, ob_k, ob_r (l := fun g => [arcB b lt1 lt2 lb1 lb2 0 0]) (l' := fun g => [arcB b lt1 lt2 lb1 lb2 0 0]) (v := fun g => iV 0) (fun g => o_ld (i := 0) (v := iV 0)), ob_k, trivial⟩
      intro g
      refine Ex'.sub (subB_spec [0, 4, 5, 31]) (Ex'.a1 [0, 1, 2, 3, 4, 5] (σ' := [(0, pV b 0), (4, .slice none 0 0), (5, .slice a4 rw.length c5), (31, bV (decide ((g1.length : Int) + g2.length > 0)))]) (Γ' := [arcB b lt1 lt2 lb1 lb2 0 0, llR lt1 g1 m2, llR lt2 g2 m2, llR lb1 g3 m2, llR lb2 g4 m2, rowR 9 1 (.slice a4 rw.length c5) rw.length (rw.map Value.string)]) (Ex'.next ?_))
      refine Cd.case (p := (g1.length : Int) + g2.length > 0) (by kernel_rfl) (fun h6 => ?_) (fun h6 => ?_)
      ·
        refine Cd.skip (Ex'.next (Cd.block (Cd.s1 (Sq.vl [0] [pV b 0] (Sq.sm [0, 1, 2, 3, 4] (l := arcL b lt1 lt2 lb1 lb2 0 0 g1 g2 g3 g4 m2) (o_cl Tryz.call154 (arc_yieldF (n := m2) (n' := m2 + 1) (most := 0) (p := 0) (t1 := g1) (t2 := g2) (b1 := g3) (b2 := g4) (by omega) (by omega))) rfl (Sq.vl [2, 3, 4, 5, 6] [.tuple #[sV ((arcYieldF 0 0 g1 g2 g3 g4).2.2.2.2.1), bV ((arcYieldF 0 0 g1 g2 g3 g4).2.2.2.2.2)], sV ((arcYieldF 0 0 g1 g2 g3 g4).2.2.2.2.1), bV ((arcYieldF 0 0 g1 g2 g3 g4).2.2.2.2.2), sV ((arcYieldF 0 0 g1 g2 g3 g4).2.2.2.2.1), bV ((arcYieldF 0 0 g1 g2 g3 g4).2.2.2.2.2)] (Sq.d4 (Cd.s0 (Sq.vl [0, 1] [.slice a4 rw.length c5, sV ((arcYieldF 0 0 g1 g2 g3 g4).2.2.2.2.1)] ?_)))))))))
        refine Sq.e0 [] (l := []) (o_lit (sz := 1) (sV ⟨#[]⟩) [sV ((arcYieldF 0 0 g1 g2 g3 g4).2.2.2.2.1)] Tryz.underlying31 (by kernel_rfl) (by kernel_rfl) (by kernel_rfl) (by kernel_rfl) (by kernel_rfl)) rfl ?_; intro b7 _
        refine Sq.e1 [5, 6] (l := [rowR 9 1 (.slice a4 rw.length c5) rw.length (rw.map Value.string), blkR b7 [sV ((arcYieldF 0 0 g1 g2 g3 g4).2.2.2.2.1)] 9]) (o_push (n' := (rw ++ [(arcYieldF 0 0 g1 g2 g3 g4).2.2.2.2.1]).length) (xs' := (rw ++ [(arcYieldF 0 0 g1 g2 g3 g4).2.2.2.2.1]).map Value.string) (by kernel_rfl) (by kernel_rfl) sl_str (by decide) rfl (by kernel_rfl) (by unfold maxLen; first | omega | (simp only [List.length_nil]; omega)) (by first | omega | (simp only [List.length_nil]; omega)) (by simp) (by simp)) rfl ?_; rintro v8 _
        refine Sq.fact (i := 5) (R := rowR 9 1 v8 ((rw ++ [(arcYieldF 0 0 g1 g2 g3 g4).2.2.2.2.1]).length) ((rw ++ [(arcYieldF 0 0 g1 g2 g3 g4).2.2.2.2.1]).map Value.string)) (by kernel_rfl) row_slice ?_; rintro ⟨a9, c10, rfl, hc10, hc10'⟩
        have hc10'' : c10 ≤ 9223372036854775807 := hc10'
        have hlen11 : (rw ++ [(arcYieldF 0 0 g1 g2 g3 g4).2.2.2.2.1]).length = rw.length + 1 := by simp
        refine Sq.fact (i := 5) (R := rowR 9 1 (.slice a9 ((rw ++ [(arcYieldF 0 0 g1 g2 g3 g4).2.2.2.2.1]).length) c10) ((rw ++ [(arcYieldF 0 0 g1 g2 g3 g4).2.2.2.2.1]).length) ((rw ++ [(arcYieldF 0 0 g1 g2 g3 g4).2.2.2.2.1]).map Value.string)) (by kernel_rfl) (row_addr (by simp)) ?_; rintro ⟨b12, rfl⟩
        refine Sq.vl [4] [.slice (some ⟨b12, 0, none⟩) ((rw ++ [(arcYieldF 0 0 g1 g2 g3 g4).2.2.2.2.1]).length) c10] (Sq.done (Ex'.blockNormal ?_))
        refine Ex'.round (g := (g1, g2, g3, g4, .slice a4 rw.length c5, rw, m2)) ((arcYieldF 0 0 g1 g2 g3 g4).1, (arcYieldF 0 0 g1 g2 g3 g4).2.1, (arcYieldF 0 0 g1 g2 g3 g4).2.2.1, (arcYieldF 0 0 g1 g2 g3 g4).2.2.2.1, .slice (some ⟨b12, 0, none⟩) ((rw ++ [(arcYieldF 0 0 g1 g2 g3 g4).2.2.2.2.1]).length) c10, rw ++ [(arcYieldF 0 0 g1 g2 g3 g4).2.2.2.2.1], m2 + 1) ?_ ?_ (subB_eq (l := [0, 4, 5]) (by kernel_rfl)) (fun w hw => hw.pk [0, 1, 2, 3, 4, 5])
        · (try dsimp only); exact ⟨(arcResL_go h6 (by omega)).symm.trans hi, by have := arcYieldF_len (most := 0) (p := 0) (t1 := g1) (t2 := g2) (b1 := g3) (b2 := g4) (by omega); omega, by have := arcYieldF_len (most := 0) (p := 0) (t1 := g1) (t2 := g2) (b1 := g3) (b2 := g4) (by omega); simp only [List.length_append, List.length_singleton]; omega⟩
        · have := arcYieldF_len (most := 0) (p := 0) (t1 := g1) (t2 := g2) (b1 := g3) (b2 := g4) (by omega); dsimp only; omega
      ·
        refine Cd.exit (Ex'.thenExit (Ex'.thenExit (Ex'.blockHit (Ex'.next (Cd.s1 (Sq.vl [0] [pV b 0] (Sq.sm [0, 1, 2, 3, 4] (l := arcL b lt1 lt2 lb1 lb2 0 0 g1 g2 g3 g4 m2) (o_cl Tryz.call152 (arc_trim (n := m2) (most := 0) (p := 0) (t1 := g1) (t2 := g2) (b1 := g3) (b2 := g4) (by omega) (by omega))) rfl (Sq.d1 (Sq.vl [0, 1] [.slice a4 rw.length c5, .slice a4 rw.length c5] (Sq.d4 (Cd.ret (Ex'.ret Tryz.results86 (RVs.tm (v := .slice a4 rw.length c5) RVs.nil) (fun w hw => ?_)))))))))))))
        have e : arcResize most p t1 t2 b1 b2 mo = (0, 0, g1, g2, (arcTrim 0 0 g1 g2 g3 g4).1, (arcTrim 0 0 g1 g2 g3 g4).2, rw) := by (have eM : arcResM mo = 0 := (by unfold arcResM; rw [if_pos h1]); have eP : arcResP mo p = 0 := (by unfold arcResP; rw [eM, if_pos h2]); unfold arcResize; rw [eM, eP, ← hi, arcResL_stop h6])
        rw [e]
        exact ⟨_, ⟨_, trivial, rfl, rfl⟩, ((((hw.cv 1 (R := llR lt1 g1 m2) (R' := llR lt1 g1 n') (llR.up (by omega))).cv 2 (R := llR lt2 g2 m2) (R' := llR lt2 g2 n') (llR.up (by omega))).cv 3 (R := llR lb1 ((arcTrim 0 0 g1 g2 g3 g4).1) m2) (R' := llR lb1 ((arcTrim 0 0 g1 g2 g3 g4).1) n') (llR.up (by omega))).cv 4 (R := llR lb2 ((arcTrim 0 0 g1 g2 g3 g4).2) m2) (R' := llR lb2 ((arcTrim 0 0 g1 g2 g3 g4).2) n') (llR.up (by omega))).pk [0, 1, 2, 3, 4, 5]⟩
    ·
      refine Cd.plan [0, 0, 2, 6, 14, 0, 32, 96, 224, 510, 1023, 2047, 4095] [(4, [(0, false, 0)]), (8, [(0, false, 0)]), (12, [(0, false, 0)])] [] [] [] [fun g => pV b 0, fun g => pV b 0, fun g => pV b 0, fun g => pV b 1, fun g => iV p, fun g => pV b 0, fun g => pV b 0, fun g => pV b 0, fun g => iV 0, fun g => iV p, fun g => pV b 0, fun g => pV b 1, fun g => undef] (by kernel_rfl) (by kernel_rfl) rfl (trivial) ?_ ?_
      · exact ⟨ob_k, ob_k, ob_k, ob_k, ob_r (l := fun g => [arcB b lt1 lt2 lb1 lb2 0 p]) (l' := fun g => [arcB b lt1 lt2 lb1 lb2 0 p]) (v := fun g => iV p) (fun g => o_ld (i := 1) (v := iV p)), ob_k, ob_k, ob_k, ob_r (l := fun g => [arcB b lt1 lt2 lb1 lb2 0 p]) (l' := fun g => [arcB b lt1 lt2 lb1 lb2 0 p]) (v := fun g => iV 0) (fun g => o_ld (i := 0) (v := iV 0)), ob_w (v := fun g => iV p) (fun g => OprV.re (pureV (v := iV (if (0 : Int) < p then 0 else p)) (by kernel_rfl) rfl fun w => by kernel_rfl) (by rw [if_neg h2])), ob_k, ob_k, ob_r (l := fun g => [arcB b lt1 lt2 lb1 lb2 0 p]) (l' := fun g => [arcB b lt1 lt2 lb1 lb2 0 p]) (v := fun g => undef) (fun g => o_st (i := 1) (v := iV p)), trivial⟩
      intro g
      refine Ex'.sub (subB_spec [0, 4]) (Ex'.a1 [0, 1, 2, 3, 4] (σ' := [(0, pV b 0), (4, .slice none 0 0)]) (Γ' := [arcB b lt1 lt2 lb1 lb2 0 p, llR lt1 t1 n, llR lt2 t2 n, llR lb1 b1 n, llR lb2 b2 n]) (Ex'.next (Cd.s1 (Sq.vl [0] [.slice none 0 0] (Sq.d4 (Cd.seq (Cd.block (Cd.nilRow 9 1 (Cd.loop (ι := (List ByteArray) × (List ByteArray) × (List ByteArray) × (List ByteArray) × Value × (List ByteArray) × Nat) (fun ⟨g1, g2, g3, g4, rv, rw, m2⟩ => arcResL 0 p (g1.length + g2.length) g1 g2 g3 g4 rw = arcResL 0 p (t1.length + t2.length) t1 t2 b1 b2 [] ∧ m2 + g1.length + g2.length ≤ n + t1.length + t2.length ∧ rw.length + g1.length + g2.length ≤ t1.length + t2.length) (fun ⟨g1, g2, g3, g4, rv, rw, m2⟩ => g1.length + g2.length) (fun ⟨g1, g2, g3, g4, rv, rw, m2⟩ => [(0, pV b 0), (4, .slice none 0 0), (5, rv)]) (fun ⟨g1, g2, g3, g4, rv, rw, m2⟩ => [arcB b lt1 lt2 lb1 lb2 0 p, llR lt1 g1 m2, llR lt2 g2 m2, llR lb1 g3 m2, llR lb2 g4 m2, rowR 9 1 rv rw.length (rw.map Value.string)]) (t1, t2, b1, b2, .slice none 0 0, ([] : List ByteArray), n) (⟨rfl, by omega, by simp⟩) (subB_eq (l := [0, 4, 5]) (by kernel_rfl)) (fun w hw => hw.pk [0, 1, 2, 3, 4, 5]) ?_)))))))))
      rintro ⟨g1, g2, g3, g4, rv, rw, m2⟩ hL13
      try dsimp only at hL13 ⊢
      obtain ⟨hi, hm2, hrw⟩ := hL13
      refine Cd.fact (i := 5) (R := rowR 9 1 rv rw.length (rw.map Value.string)) (by kernel_rfl) row_slice ?_; rintro ⟨a14, c15, rfl, hc15, hc15'⟩
      have hc15'' : c15 ≤ 9223372036854775807 := hc15'
      refine Cd.seq (Cd.seq ?_)
      refine Cd.plan [0, 1, 0, 4, 12, 28, 63] [(1, [(0, false, 0), (1, false, 0), (2, false, 0), (3, false, 0), (4, false, 0)]), (5, [(0, false, 0)])] [] [] [] [fun g => pV b 0, fun g => iV ((g1.length : Int) + g2.length), fun g => pV b 0, fun g => pV b 0, fun g => pV b 0, fun g => iV 0, fun g => bV (decide ((g1.length : Int) + g2.length > 0))] (by kernel_rfl) (by kernel_rfl) rfl (trivial) ?_ ?_
      · exact ⟨ob_k, ob_r (l := fun g => [arcB b lt1 lt2 lb1 lb2 0 p, llR lt1 g1 m2, llR lt2 g2 m2, llR lb1 g3 m2, llR lb2 g4 m2]) (l' := fun g => [arcB b lt1 lt2 lb1 lb2 0 p, llR lt1 g1 m2, llR lt2 g2 m2, llR lb1 g3 m2, llR lb2 g4 m2]) (v := fun g => iV ((g1.length : Int) + g2.length)) (fun g => o_cl Tryz.call80 (Tri.eq (l2 := arcL b lt1 lt2 lb1 lb2 0 p g1 g2 g3 g4 m2) (r' := iV ((g1.length : Int) + g2.length)) (arc_Len (n := m2) (most := 0) (p := p) (t1 := g1) (t2 := g2) (b1 := g3) (b2 := g4) (by omega)) (rfl) (rfl))), ob_k, ob_k, ob_k, ob_r (l := fun g => [arcB b lt1 lt2 lb1 lb2 0 p]) (l' := fun g => [arcB b lt1 lt2 lb1 lb2 0 p]) (v := fun g => iV 0) (fun g => o_ld (i := 0) (v := iV 0)), ob_k, trivial⟩
      intro g
      refine Ex'.sub (subB_spec [0, 4, 5, 31]) (Ex'.a1 [0, 1, 2, 3, 4, 5] (σ' := [(0, pV b 0), (4, .slice none 0 0), (5, .slice a14 rw.length c15), (31, bV (decide ((g1.length : Int) + g2.length > 0)))]) (Γ' := [arcB b lt1 lt2 lb1 lb2 0 p, llR lt1 g1 m2, llR lt2 g2 m2, llR lb1 g3 m2, llR lb2 g4 m2, rowR 9 1 (.slice a14 rw.length c15) rw.length (rw.map Value.string)]) (Ex'.next ?_))
      refine Cd.case (p := (g1.length : Int) + g2.length > 0) (by kernel_rfl) (fun h16 => ?_) (fun h16 => ?_)
      ·
        refine Cd.skip (Ex'.next (Cd.block (Cd.s1 (Sq.vl [0] [pV b 0] (Sq.sm [0, 1, 2, 3, 4] (l := arcL b lt1 lt2 lb1 lb2 0 p g1 g2 g3 g4 m2) (o_cl Tryz.call154 (arc_yieldF (n := m2) (n' := m2 + 1) (most := 0) (p := p) (t1 := g1) (t2 := g2) (b1 := g3) (b2 := g4) (by omega) (by omega))) rfl (Sq.vl [2, 3, 4, 5, 6] [.tuple #[sV ((arcYieldF 0 p g1 g2 g3 g4).2.2.2.2.1), bV ((arcYieldF 0 p g1 g2 g3 g4).2.2.2.2.2)], sV ((arcYieldF 0 p g1 g2 g3 g4).2.2.2.2.1), bV ((arcYieldF 0 p g1 g2 g3 g4).2.2.2.2.2), sV ((arcYieldF 0 p g1 g2 g3 g4).2.2.2.2.1), bV ((arcYieldF 0 p g1 g2 g3 g4).2.2.2.2.2)] (Sq.d4 (Cd.s0 (Sq.vl [0, 1] [.slice a14 rw.length c15, sV ((arcYieldF 0 p g1 g2 g3 g4).2.2.2.2.1)] ?_)))))))))
        refine Sq.e0 [] (l := []) (o_lit (sz := 1) (sV ⟨#[]⟩) [sV ((arcYieldF 0 p g1 g2 g3 g4).2.2.2.2.1)] Tryz.underlying31 (by kernel_rfl) (by kernel_rfl) (by kernel_rfl) (by kernel_rfl) (by kernel_rfl)) rfl ?_; intro b17 _
        refine Sq.e1 [5, 6] (l := [rowR 9 1 (.slice a14 rw.length c15) rw.length (rw.map Value.string), blkR b17 [sV ((arcYieldF 0 p g1 g2 g3 g4).2.2.2.2.1)] 9]) (o_push (n' := (rw ++ [(arcYieldF 0 p g1 g2 g3 g4).2.2.2.2.1]).length) (xs' := (rw ++ [(arcYieldF 0 p g1 g2 g3 g4).2.2.2.2.1]).map Value.string) (by kernel_rfl) (by kernel_rfl) sl_str (by decide) rfl (by kernel_rfl) (by unfold maxLen; first | omega | (simp only [List.length_nil]; omega)) (by first | omega | (simp only [List.length_nil]; omega)) (by simp) (by simp)) rfl ?_; rintro v18 _
        refine Sq.fact (i := 5) (R := rowR 9 1 v18 ((rw ++ [(arcYieldF 0 p g1 g2 g3 g4).2.2.2.2.1]).length) ((rw ++ [(arcYieldF 0 p g1 g2 g3 g4).2.2.2.2.1]).map Value.string)) (by kernel_rfl) row_slice ?_; rintro ⟨a19, c20, rfl, hc20, hc20'⟩
        have hc20'' : c20 ≤ 9223372036854775807 := hc20'
        have hlen21 : (rw ++ [(arcYieldF 0 p g1 g2 g3 g4).2.2.2.2.1]).length = rw.length + 1 := by simp
        refine Sq.fact (i := 5) (R := rowR 9 1 (.slice a19 ((rw ++ [(arcYieldF 0 p g1 g2 g3 g4).2.2.2.2.1]).length) c20) ((rw ++ [(arcYieldF 0 p g1 g2 g3 g4).2.2.2.2.1]).length) ((rw ++ [(arcYieldF 0 p g1 g2 g3 g4).2.2.2.2.1]).map Value.string)) (by kernel_rfl) (row_addr (by simp)) ?_; rintro ⟨b22, rfl⟩
        refine Sq.vl [4] [.slice (some ⟨b22, 0, none⟩) ((rw ++ [(arcYieldF 0 p g1 g2 g3 g4).2.2.2.2.1]).length) c20] (Sq.done (Ex'.blockNormal ?_))
        refine Ex'.round (g := (g1, g2, g3, g4, .slice a14 rw.length c15, rw, m2)) ((arcYieldF 0 p g1 g2 g3 g4).1, (arcYieldF 0 p g1 g2 g3 g4).2.1, (arcYieldF 0 p g1 g2 g3 g4).2.2.1, (arcYieldF 0 p g1 g2 g3 g4).2.2.2.1, .slice (some ⟨b22, 0, none⟩) ((rw ++ [(arcYieldF 0 p g1 g2 g3 g4).2.2.2.2.1]).length) c20, rw ++ [(arcYieldF 0 p g1 g2 g3 g4).2.2.2.2.1], m2 + 1) ?_ ?_ (subB_eq (l := [0, 4, 5]) (by kernel_rfl)) (fun w hw => hw.pk [0, 1, 2, 3, 4, 5])
        · (try dsimp only); exact ⟨(arcResL_go h16 (by omega)).symm.trans hi, by have := arcYieldF_len (most := 0) (p := p) (t1 := g1) (t2 := g2) (b1 := g3) (b2 := g4) (by omega); omega, by have := arcYieldF_len (most := 0) (p := p) (t1 := g1) (t2 := g2) (b1 := g3) (b2 := g4) (by omega); simp only [List.length_append, List.length_singleton]; omega⟩
        · have := arcYieldF_len (most := 0) (p := p) (t1 := g1) (t2 := g2) (b1 := g3) (b2 := g4) (by omega); dsimp only; omega
      ·
        refine Cd.exit (Ex'.thenExit (Ex'.thenExit (Ex'.blockHit (Ex'.next (Cd.s1 (Sq.vl [0] [pV b 0] (Sq.sm [0, 1, 2, 3, 4] (l := arcL b lt1 lt2 lb1 lb2 0 p g1 g2 g3 g4 m2) (o_cl Tryz.call152 (arc_trim (n := m2) (most := 0) (p := p) (t1 := g1) (t2 := g2) (b1 := g3) (b2 := g4) (by omega) (by omega))) rfl (Sq.d1 (Sq.vl [0, 1] [.slice a14 rw.length c15, .slice a14 rw.length c15] (Sq.d4 (Cd.ret (Ex'.ret Tryz.results86 (RVs.tm (v := .slice a14 rw.length c15) RVs.nil) (fun w hw => ?_)))))))))))))
        have e : arcResize most p t1 t2 b1 b2 mo = (0, p, g1, g2, (arcTrim 0 p g1 g2 g3 g4).1, (arcTrim 0 p g1 g2 g3 g4).2, rw) := by (have eM : arcResM mo = 0 := (by unfold arcResM; rw [if_pos h1]); have eP : arcResP mo p = p := (by unfold arcResP; rw [eM, if_neg h2]); unfold arcResize; rw [eM, eP, ← hi, arcResL_stop h16])
        rw [e]
        exact ⟨_, ⟨_, trivial, rfl, rfl⟩, ((((hw.cv 1 (R := llR lt1 g1 m2) (R' := llR lt1 g1 n') (llR.up (by omega))).cv 2 (R := llR lt2 g2 m2) (R' := llR lt2 g2 n') (llR.up (by omega))).cv 3 (R := llR lb1 ((arcTrim 0 p g1 g2 g3 g4).1) m2) (R' := llR lb1 ((arcTrim 0 p g1 g2 g3 g4).1) n') (llR.up (by omega))).cv 4 (R := llR lb2 ((arcTrim 0 p g1 g2 g3 g4).2) m2) (R' := llR lb2 ((arcTrim 0 p g1 g2 g3 g4).2) n') (llR.up (by omega))).pk [0, 1, 2, 3, 4, 5]⟩
  ·
    refine Sq.v (r := iV (if (0 : Int) > mo then 0 else mo)) (pureV (by kernel_rfl) rfl fun w => by kernel_rfl) rfl (by kernel_rfl) (Sq.re 10 rfl (by rw [if_neg h1]) (Sq.vl [3, 4] [pV b 0, pV b 0] (Sq.sm [0] (l := [arcB b lt1 lt2 lb1 lb2 most p]) (o_st (i := 0) (v := iV mo)) rfl (Sq.d4 (Cd.seq ?_)))))
    by_cases h23 : mo < p
    ·
      refine Cd.plan [0, 0, 2, 6, 14, 0, 32, 96, 224, 510, 1023, 2047, 4095] [(4, [(0, false, 0)]), (8, [(0, false, 0)]), (12, [(0, true, 0)])] [] [] [(0, 12, fun g => arcB b lt1 lt2 lb1 lb2 mo mo)] [fun g => pV b 0, fun g => pV b 0, fun g => pV b 0, fun g => pV b 1, fun g => iV p, fun g => pV b 0, fun g => pV b 0, fun g => pV b 0, fun g => iV mo, fun g => iV mo, fun g => pV b 0, fun g => pV b 1, fun g => undef] (by kernel_rfl) (by kernel_rfl) rfl (trivial) ?_ ?_
      · exact ⟨ob_k, ob_k, ob_k, ob_k, ob_r (l := fun g => [arcB b lt1 lt2 lb1 lb2 mo p]) (l' := fun g => [arcB b lt1 lt2 lb1 lb2 mo p]) (v := fun g => iV p) (fun g => o_ld (i := 1) (v := iV p)), ob_k, ob_k, ob_k, ob_r (l := fun g => [arcB b lt1 lt2 lb1 lb2 mo p]) (l' := fun g => [arcB b lt1 lt2 lb1 lb2 mo p]) (v := fun g => iV mo) (fun g => o_ld (i := 0) (v := iV mo)), ob_w (v := fun g => iV mo) (fun g => OprV.re (pureV (v := iV (if mo < p then mo else p)) (by kernel_rfl) rfl fun w => by kernel_rfl) (by rw [if_pos h23])), ob_k, ob_k, ob_r (l := fun g => [arcB b lt1 lt2 lb1 lb2 mo p]) (l' := fun g => [arcB b lt1 lt2 lb1 lb2 mo mo]) (v := fun g => undef) (fun g => o_st (i := 1) (v := iV mo)), trivial⟩
      intro g
      refine Ex'.sub (subB_spec [0, 4]) (Ex'.a1 [0, 1, 2, 3, 4] (σ' := [(0, pV b 0), (4, .slice none 0 0)]) (Γ' := [arcB b lt1 lt2 lb1 lb2 mo mo, llR lt1 t1 n, llR lt2 t2 n, llR lb1 b1 n, llR lb2 b2 n]) (Ex'.next (Cd.s1 (Sq.vl [0] [.slice none 0 0] (Sq.d4 (Cd.seq (Cd.block (Cd.nilRow 9 1 (Cd.loop (ι := (List ByteArray) × (List ByteArray) × (List ByteArray) × (List ByteArray) × Value × (List ByteArray) × Nat) (fun ⟨g1, g2, g3, g4, rv, rw, m2⟩ => arcResL mo mo (g1.length + g2.length) g1 g2 g3 g4 rw = arcResL mo mo (t1.length + t2.length) t1 t2 b1 b2 [] ∧ m2 + g1.length + g2.length ≤ n + t1.length + t2.length ∧ rw.length + g1.length + g2.length ≤ t1.length + t2.length) (fun ⟨g1, g2, g3, g4, rv, rw, m2⟩ => g1.length + g2.length) (fun ⟨g1, g2, g3, g4, rv, rw, m2⟩ => [(0, pV b 0), (4, .slice none 0 0), (5, rv)]) (fun ⟨g1, g2, g3, g4, rv, rw, m2⟩ => [arcB b lt1 lt2 lb1 lb2 mo mo, llR lt1 g1 m2, llR lt2 g2 m2, llR lb1 g3 m2, llR lb2 g4 m2, rowR 9 1 rv rw.length (rw.map Value.string)]) (t1, t2, b1, b2, .slice none 0 0, ([] : List ByteArray), n) (⟨rfl, by omega, by simp⟩) (subB_eq (l := [0, 4, 5]) (by kernel_rfl)) (fun w hw => hw.pk [0, 1, 2, 3, 4, 5]) ?_)))))))))
      rintro ⟨g1, g2, g3, g4, rv, rw, m2⟩ hL24
      try dsimp only at hL24 ⊢
      obtain ⟨hi, hm2, hrw⟩ := hL24
      refine Cd.fact (i := 5) (R := rowR 9 1 rv rw.length (rw.map Value.string)) (by kernel_rfl) row_slice ?_; rintro ⟨a25, c26, rfl, hc26, hc26'⟩
      have hc26'' : c26 ≤ 9223372036854775807 := hc26'
      refine Cd.seq (Cd.seq ?_)
      refine Cd.plan [0, 1, 0, 4, 12, 28, 63] [(1, [(0, false, 0), (1, false, 0), (2, false, 0), (3, false, 0), (4, false, 0)]), (5, [(0, false, 0)])] [] [] [] [fun g => pV b 0, fun g => iV ((g1.length : Int) + g2.length), fun g => pV b 0, fun g => pV b 0, fun g => pV b 0, fun g => iV mo, fun g => bV (decide ((g1.length : Int) + g2.length > mo))] (by kernel_rfl) (by kernel_rfl) rfl (trivial) ?_ ?_
      · exact ⟨ob_k, ob_r (l := fun g => [arcB b lt1 lt2 lb1 lb2 mo mo, llR lt1 g1 m2, llR lt2 g2 m2, llR lb1 g3 m2, llR lb2 g4 m2]) (l' := fun g => [arcB b lt1 lt2 lb1 lb2 mo mo, llR lt1 g1 m2, llR lt2 g2 m2, llR lb1 g3 m2, llR lb2 g4 m2]) (v := fun g => iV ((g1.length : Int) + g2.length)) (fun g => o_cl Tryz.call80 (Tri.eq (l2 := arcL b lt1 lt2 lb1 lb2 mo mo g1 g2 g3 g4 m2) (r' := iV ((g1.length : Int) + g2.length)) (arc_Len (n := m2) (most := mo) (p := mo) (t1 := g1) (t2 := g2) (b1 := g3) (b2 := g4) (by omega)) (rfl) (rfl))), ob_k, ob_k, ob_k, ob_r (l := fun g => [arcB b lt1 lt2 lb1 lb2 mo mo]) (l' := fun g => [arcB b lt1 lt2 lb1 lb2 mo mo]) (v := fun g => iV mo) (fun g => o_ld (i := 0) (v := iV mo)), ob_k, trivial⟩
      intro g
      refine Ex'.sub (subB_spec [0, 4, 5, 31]) (Ex'.a1 [0, 1, 2, 3, 4, 5] (σ' := [(0, pV b 0), (4, .slice none 0 0), (5, .slice a25 rw.length c26), (31, bV (decide ((g1.length : Int) + g2.length > mo)))]) (Γ' := [arcB b lt1 lt2 lb1 lb2 mo mo, llR lt1 g1 m2, llR lt2 g2 m2, llR lb1 g3 m2, llR lb2 g4 m2, rowR 9 1 (.slice a25 rw.length c26) rw.length (rw.map Value.string)]) (Ex'.next ?_))
      refine Cd.case (p := (g1.length : Int) + g2.length > mo) (by kernel_rfl) (fun h27 => ?_) (fun h27 => ?_)
      ·
        refine Cd.skip (Ex'.next (Cd.block (Cd.s1 (Sq.vl [0] [pV b 0] (Sq.sm [0, 1, 2, 3, 4] (l := arcL b lt1 lt2 lb1 lb2 mo mo g1 g2 g3 g4 m2) (o_cl Tryz.call154 (arc_yieldF (n := m2) (n' := m2 + 1) (most := mo) (p := mo) (t1 := g1) (t2 := g2) (b1 := g3) (b2 := g4) (by omega) (by omega))) rfl (Sq.vl [2, 3, 4, 5, 6] [.tuple #[sV ((arcYieldF mo mo g1 g2 g3 g4).2.2.2.2.1), bV ((arcYieldF mo mo g1 g2 g3 g4).2.2.2.2.2)], sV ((arcYieldF mo mo g1 g2 g3 g4).2.2.2.2.1), bV ((arcYieldF mo mo g1 g2 g3 g4).2.2.2.2.2), sV ((arcYieldF mo mo g1 g2 g3 g4).2.2.2.2.1), bV ((arcYieldF mo mo g1 g2 g3 g4).2.2.2.2.2)] (Sq.d4 (Cd.s0 (Sq.vl [0, 1] [.slice a25 rw.length c26, sV ((arcYieldF mo mo g1 g2 g3 g4).2.2.2.2.1)] ?_)))))))))
        refine Sq.e0 [] (l := []) (o_lit (sz := 1) (sV ⟨#[]⟩) [sV ((arcYieldF mo mo g1 g2 g3 g4).2.2.2.2.1)] Tryz.underlying31 (by kernel_rfl) (by kernel_rfl) (by kernel_rfl) (by kernel_rfl) (by kernel_rfl)) rfl ?_; intro b28 _
        refine Sq.e1 [5, 6] (l := [rowR 9 1 (.slice a25 rw.length c26) rw.length (rw.map Value.string), blkR b28 [sV ((arcYieldF mo mo g1 g2 g3 g4).2.2.2.2.1)] 9]) (o_push (n' := (rw ++ [(arcYieldF mo mo g1 g2 g3 g4).2.2.2.2.1]).length) (xs' := (rw ++ [(arcYieldF mo mo g1 g2 g3 g4).2.2.2.2.1]).map Value.string) (by kernel_rfl) (by kernel_rfl) sl_str (by decide) rfl (by kernel_rfl) (by unfold maxLen; first | omega | (simp only [List.length_nil]; omega)) (by first | omega | (simp only [List.length_nil]; omega)) (by simp) (by simp)) rfl ?_; rintro v29 _
        refine Sq.fact (i := 5) (R := rowR 9 1 v29 ((rw ++ [(arcYieldF mo mo g1 g2 g3 g4).2.2.2.2.1]).length) ((rw ++ [(arcYieldF mo mo g1 g2 g3 g4).2.2.2.2.1]).map Value.string)) (by kernel_rfl) row_slice ?_; rintro ⟨a30, c31, rfl, hc31, hc31'⟩
        have hc31'' : c31 ≤ 9223372036854775807 := hc31'
        have hlen32 : (rw ++ [(arcYieldF mo mo g1 g2 g3 g4).2.2.2.2.1]).length = rw.length + 1 := by simp
        refine Sq.fact (i := 5) (R := rowR 9 1 (.slice a30 ((rw ++ [(arcYieldF mo mo g1 g2 g3 g4).2.2.2.2.1]).length) c31) ((rw ++ [(arcYieldF mo mo g1 g2 g3 g4).2.2.2.2.1]).length) ((rw ++ [(arcYieldF mo mo g1 g2 g3 g4).2.2.2.2.1]).map Value.string)) (by kernel_rfl) (row_addr (by simp)) ?_; rintro ⟨b33, rfl⟩
        refine Sq.vl [4] [.slice (some ⟨b33, 0, none⟩) ((rw ++ [(arcYieldF mo mo g1 g2 g3 g4).2.2.2.2.1]).length) c31] (Sq.done (Ex'.blockNormal ?_))
        refine Ex'.round (g := (g1, g2, g3, g4, .slice a25 rw.length c26, rw, m2)) ((arcYieldF mo mo g1 g2 g3 g4).1, (arcYieldF mo mo g1 g2 g3 g4).2.1, (arcYieldF mo mo g1 g2 g3 g4).2.2.1, (arcYieldF mo mo g1 g2 g3 g4).2.2.2.1, .slice (some ⟨b33, 0, none⟩) ((rw ++ [(arcYieldF mo mo g1 g2 g3 g4).2.2.2.2.1]).length) c31, rw ++ [(arcYieldF mo mo g1 g2 g3 g4).2.2.2.2.1], m2 + 1) ?_ ?_ (subB_eq (l := [0, 4, 5]) (by kernel_rfl)) (fun w hw => hw.pk [0, 1, 2, 3, 4, 5])
        · (try dsimp only); exact ⟨(arcResL_go h27 (by omega)).symm.trans hi, by have := arcYieldF_len (most := mo) (p := mo) (t1 := g1) (t2 := g2) (b1 := g3) (b2 := g4) (by omega); omega, by have := arcYieldF_len (most := mo) (p := mo) (t1 := g1) (t2 := g2) (b1 := g3) (b2 := g4) (by omega); simp only [List.length_append, List.length_singleton]; omega⟩
        · have := arcYieldF_len (most := mo) (p := mo) (t1 := g1) (t2 := g2) (b1 := g3) (b2 := g4) (by omega); dsimp only; omega
      ·
        refine Cd.exit (Ex'.thenExit (Ex'.thenExit (Ex'.blockHit (Ex'.next (Cd.s1 (Sq.vl [0] [pV b 0] (Sq.sm [0, 1, 2, 3, 4] (l := arcL b lt1 lt2 lb1 lb2 mo mo g1 g2 g3 g4 m2) (o_cl Tryz.call152 (arc_trim (n := m2) (most := mo) (p := mo) (t1 := g1) (t2 := g2) (b1 := g3) (b2 := g4) (by omega) (by omega))) rfl (Sq.d1 (Sq.vl [0, 1] [.slice a25 rw.length c26, .slice a25 rw.length c26] (Sq.d4 (Cd.ret (Ex'.ret Tryz.results86 (RVs.tm (v := .slice a25 rw.length c26) RVs.nil) (fun w hw => ?_)))))))))))))
        have e : arcResize most p t1 t2 b1 b2 mo = (mo, mo, g1, g2, (arcTrim mo mo g1 g2 g3 g4).1, (arcTrim mo mo g1 g2 g3 g4).2, rw) := by (have eM : arcResM mo = mo := (by unfold arcResM; rw [if_neg h1]); have eP : arcResP mo p = mo := (by unfold arcResP; rw [eM, if_pos h23]); unfold arcResize; rw [eM, eP, ← hi, arcResL_stop h27])
        rw [e]
        exact ⟨_, ⟨_, trivial, rfl, rfl⟩, ((((hw.cv 1 (R := llR lt1 g1 m2) (R' := llR lt1 g1 n') (llR.up (by omega))).cv 2 (R := llR lt2 g2 m2) (R' := llR lt2 g2 n') (llR.up (by omega))).cv 3 (R := llR lb1 ((arcTrim mo mo g1 g2 g3 g4).1) m2) (R' := llR lb1 ((arcTrim mo mo g1 g2 g3 g4).1) n') (llR.up (by omega))).cv 4 (R := llR lb2 ((arcTrim mo mo g1 g2 g3 g4).2) m2) (R' := llR lb2 ((arcTrim mo mo g1 g2 g3 g4).2) n') (llR.up (by omega))).pk [0, 1, 2, 3, 4, 5]⟩
    ·
      refine Cd.plan [0, 0, 2, 6, 14, 0, 32, 96, 224, 510, 1023, 2047, 4095] [(4, [(0, false, 0)]), (8, [(0, false, 0)]), (12, [(0, false, 0)])] [] [] [] [fun g => pV b 0, fun g => pV b 0, fun g => pV b 0, fun g => pV b 1, fun g => iV p, fun g => pV b 0, fun g => pV b 0, fun g => pV b 0, fun g => iV mo, fun g => iV p, fun g => pV b 0, fun g => pV b 1, fun g => undef] (by kernel_rfl) (by kernel_rfl) rfl (trivial) ?_ ?_
      · exact ⟨ob_k, ob_k, ob_k, ob_k, ob_r (l := fun g => [arcB b lt1 lt2 lb1 lb2 mo p]) (l' := fun g => [arcB b lt1 lt2 lb1 lb2 mo p]) (v := fun g => iV p) (fun g => o_ld (i := 1) (v := iV p)), ob_k, ob_k, ob_k, ob_r (l := fun g => [arcB b lt1 lt2 lb1 lb2 mo p]) (l' := fun g => [arcB b lt1 lt2 lb1 lb2 mo p]) (v := fun g => iV mo) (fun g => o_ld (i := 0) (v := iV mo)), ob_w (v := fun g => iV p) (fun g => OprV.re (pureV (v := iV (if mo < p then mo else p)) (by kernel_rfl) rfl fun w => by kernel_rfl) (by rw [if_neg h23])), ob_k, ob_k, ob_r (l := fun g => [arcB b lt1 lt2 lb1 lb2 mo p]) (l' := fun g => [arcB b lt1 lt2 lb1 lb2 mo p]) (v := fun g => undef) (fun g => o_st (i := 1) (v := iV p)), trivial⟩
      intro g
      refine Ex'.sub (subB_spec [0, 4]) (Ex'.a1 [0, 1, 2, 3, 4] (σ' := [(0, pV b 0), (4, .slice none 0 0)]) (Γ' := [arcB b lt1 lt2 lb1 lb2 mo p, llR lt1 t1 n, llR lt2 t2 n, llR lb1 b1 n, llR lb2 b2 n]) (Ex'.next (Cd.s1 (Sq.vl [0] [.slice none 0 0] (Sq.d4 (Cd.seq (Cd.block (Cd.nilRow 9 1 (Cd.loop (ι := (List ByteArray) × (List ByteArray) × (List ByteArray) × (List ByteArray) × Value × (List ByteArray) × Nat) (fun ⟨g1, g2, g3, g4, rv, rw, m2⟩ => arcResL mo p (g1.length + g2.length) g1 g2 g3 g4 rw = arcResL mo p (t1.length + t2.length) t1 t2 b1 b2 [] ∧ m2 + g1.length + g2.length ≤ n + t1.length + t2.length ∧ rw.length + g1.length + g2.length ≤ t1.length + t2.length) (fun ⟨g1, g2, g3, g4, rv, rw, m2⟩ => g1.length + g2.length) (fun ⟨g1, g2, g3, g4, rv, rw, m2⟩ => [(0, pV b 0), (4, .slice none 0 0), (5, rv)]) (fun ⟨g1, g2, g3, g4, rv, rw, m2⟩ => [arcB b lt1 lt2 lb1 lb2 mo p, llR lt1 g1 m2, llR lt2 g2 m2, llR lb1 g3 m2, llR lb2 g4 m2, rowR 9 1 rv rw.length (rw.map Value.string)]) (t1, t2, b1, b2, .slice none 0 0, ([] : List ByteArray), n) (⟨rfl, by omega, by simp⟩) (subB_eq (l := [0, 4, 5]) (by kernel_rfl)) (fun w hw => hw.pk [0, 1, 2, 3, 4, 5]) ?_)))))))))
      rintro ⟨g1, g2, g3, g4, rv, rw, m2⟩ hL34
      try dsimp only at hL34 ⊢
      obtain ⟨hi, hm2, hrw⟩ := hL34
      refine Cd.fact (i := 5) (R := rowR 9 1 rv rw.length (rw.map Value.string)) (by kernel_rfl) row_slice ?_; rintro ⟨a35, c36, rfl, hc36, hc36'⟩
      have hc36'' : c36 ≤ 9223372036854775807 := hc36'
      refine Cd.seq (Cd.seq ?_)
      refine Cd.plan [0, 1, 0, 4, 12, 28, 63] [(1, [(0, false, 0), (1, false, 0), (2, false, 0), (3, false, 0), (4, false, 0)]), (5, [(0, false, 0)])] [] [] [] [fun g => pV b 0, fun g => iV ((g1.length : Int) + g2.length), fun g => pV b 0, fun g => pV b 0, fun g => pV b 0, fun g => iV mo, fun g => bV (decide ((g1.length : Int) + g2.length > mo))] (by kernel_rfl) (by kernel_rfl) rfl (trivial) ?_ ?_
      · exact ⟨ob_k, ob_r (l := fun g => [arcB b lt1 lt2 lb1 lb2 mo p, llR lt1 g1 m2, llR lt2 g2 m2, llR lb1 g3 m2, llR lb2 g4 m2]) (l' := fun g => [arcB b lt1 lt2 lb1 lb2 mo p, llR lt1 g1 m2, llR lt2 g2 m2, llR lb1 g3 m2, llR lb2 g4 m2]) (v := fun g => iV ((g1.length : Int) + g2.length)) (fun g => o_cl Tryz.call80 (Tri.eq (l2 := arcL b lt1 lt2 lb1 lb2 mo p g1 g2 g3 g4 m2) (r' := iV ((g1.length : Int) + g2.length)) (arc_Len (n := m2) (most := mo) (p := p) (t1 := g1) (t2 := g2) (b1 := g3) (b2 := g4) (by omega)) (rfl) (rfl))), ob_k, ob_k, ob_k, ob_r (l := fun g => [arcB b lt1 lt2 lb1 lb2 mo p]) (l' := fun g => [arcB b lt1 lt2 lb1 lb2 mo p]) (v := fun g => iV mo) (fun g => o_ld (i := 0) (v := iV mo)), ob_k, trivial⟩
      intro g
      refine Ex'.sub (subB_spec [0, 4, 5, 31]) (Ex'.a1 [0, 1, 2, 3, 4, 5] (σ' := [(0, pV b 0), (4, .slice none 0 0), (5, .slice a35 rw.length c36), (31, bV (decide ((g1.length : Int) + g2.length > mo)))]) (Γ' := [arcB b lt1 lt2 lb1 lb2 mo p, llR lt1 g1 m2, llR lt2 g2 m2, llR lb1 g3 m2, llR lb2 g4 m2, rowR 9 1 (.slice a35 rw.length c36) rw.length (rw.map Value.string)]) (Ex'.next ?_))
      refine Cd.case (p := (g1.length : Int) + g2.length > mo) (by kernel_rfl) (fun h37 => ?_) (fun h37 => ?_)
      ·
        refine Cd.skip (Ex'.next (Cd.block (Cd.s1 (Sq.vl [0] [pV b 0] (Sq.sm [0, 1, 2, 3, 4] (l := arcL b lt1 lt2 lb1 lb2 mo p g1 g2 g3 g4 m2) (o_cl Tryz.call154 (arc_yieldF (n := m2) (n' := m2 + 1) (most := mo) (p := p) (t1 := g1) (t2 := g2) (b1 := g3) (b2 := g4) (by omega) (by omega))) rfl (Sq.vl [2, 3, 4, 5, 6] [.tuple #[sV ((arcYieldF mo p g1 g2 g3 g4).2.2.2.2.1), bV ((arcYieldF mo p g1 g2 g3 g4).2.2.2.2.2)], sV ((arcYieldF mo p g1 g2 g3 g4).2.2.2.2.1), bV ((arcYieldF mo p g1 g2 g3 g4).2.2.2.2.2), sV ((arcYieldF mo p g1 g2 g3 g4).2.2.2.2.1), bV ((arcYieldF mo p g1 g2 g3 g4).2.2.2.2.2)] (Sq.d4 (Cd.s0 (Sq.vl [0, 1] [.slice a35 rw.length c36, sV ((arcYieldF mo p g1 g2 g3 g4).2.2.2.2.1)] ?_)))))))))
        refine Sq.e0 [] (l := []) (o_lit (sz := 1) (sV ⟨#[]⟩) [sV ((arcYieldF mo p g1 g2 g3 g4).2.2.2.2.1)] Tryz.underlying31 (by kernel_rfl) (by kernel_rfl) (by kernel_rfl) (by kernel_rfl) (by kernel_rfl)) rfl ?_; intro b38 _
        refine Sq.e1 [5, 6] (l := [rowR 9 1 (.slice a35 rw.length c36) rw.length (rw.map Value.string), blkR b38 [sV ((arcYieldF mo p g1 g2 g3 g4).2.2.2.2.1)] 9]) (o_push (n' := (rw ++ [(arcYieldF mo p g1 g2 g3 g4).2.2.2.2.1]).length) (xs' := (rw ++ [(arcYieldF mo p g1 g2 g3 g4).2.2.2.2.1]).map Value.string) (by kernel_rfl) (by kernel_rfl) sl_str (by decide) rfl (by kernel_rfl) (by unfold maxLen; first | omega | (simp only [List.length_nil]; omega)) (by first | omega | (simp only [List.length_nil]; omega)) (by simp) (by simp)) rfl ?_; rintro v39 _
        refine Sq.fact (i := 5) (R := rowR 9 1 v39 ((rw ++ [(arcYieldF mo p g1 g2 g3 g4).2.2.2.2.1]).length) ((rw ++ [(arcYieldF mo p g1 g2 g3 g4).2.2.2.2.1]).map Value.string)) (by kernel_rfl) row_slice ?_; rintro ⟨a40, c41, rfl, hc41, hc41'⟩
        have hc41'' : c41 ≤ 9223372036854775807 := hc41'
        have hlen42 : (rw ++ [(arcYieldF mo p g1 g2 g3 g4).2.2.2.2.1]).length = rw.length + 1 := by simp
        refine Sq.fact (i := 5) (R := rowR 9 1 (.slice a40 ((rw ++ [(arcYieldF mo p g1 g2 g3 g4).2.2.2.2.1]).length) c41) ((rw ++ [(arcYieldF mo p g1 g2 g3 g4).2.2.2.2.1]).length) ((rw ++ [(arcYieldF mo p g1 g2 g3 g4).2.2.2.2.1]).map Value.string)) (by kernel_rfl) (row_addr (by simp)) ?_; rintro ⟨b43, rfl⟩
        refine Sq.vl [4] [.slice (some ⟨b43, 0, none⟩) ((rw ++ [(arcYieldF mo p g1 g2 g3 g4).2.2.2.2.1]).length) c41] (Sq.done (Ex'.blockNormal ?_))
        refine Ex'.round (g := (g1, g2, g3, g4, .slice a35 rw.length c36, rw, m2)) ((arcYieldF mo p g1 g2 g3 g4).1, (arcYieldF mo p g1 g2 g3 g4).2.1, (arcYieldF mo p g1 g2 g3 g4).2.2.1, (arcYieldF mo p g1 g2 g3 g4).2.2.2.1, .slice (some ⟨b43, 0, none⟩) ((rw ++ [(arcYieldF mo p g1 g2 g3 g4).2.2.2.2.1]).length) c41, rw ++ [(arcYieldF mo p g1 g2 g3 g4).2.2.2.2.1], m2 + 1) ?_ ?_ (subB_eq (l := [0, 4, 5]) (by kernel_rfl)) (fun w hw => hw.pk [0, 1, 2, 3, 4, 5])
        · (try dsimp only); exact ⟨(arcResL_go h37 (by omega)).symm.trans hi, by have := arcYieldF_len (most := mo) (p := p) (t1 := g1) (t2 := g2) (b1 := g3) (b2 := g4) (by omega); omega, by have := arcYieldF_len (most := mo) (p := p) (t1 := g1) (t2 := g2) (b1 := g3) (b2 := g4) (by omega); simp only [List.length_append, List.length_singleton]; omega⟩
        · have := arcYieldF_len (most := mo) (p := p) (t1 := g1) (t2 := g2) (b1 := g3) (b2 := g4) (by omega); dsimp only; omega
      ·
        refine Cd.exit (Ex'.thenExit (Ex'.thenExit (Ex'.blockHit (Ex'.next (Cd.s1 (Sq.vl [0] [pV b 0] (Sq.sm [0, 1, 2, 3, 4] (l := arcL b lt1 lt2 lb1 lb2 mo p g1 g2 g3 g4 m2) (o_cl Tryz.call152 (arc_trim (n := m2) (most := mo) (p := p) (t1 := g1) (t2 := g2) (b1 := g3) (b2 := g4) (by omega) (by omega))) rfl (Sq.d1 (Sq.vl [0, 1] [.slice a35 rw.length c36, .slice a35 rw.length c36] (Sq.d4 (Cd.ret (Ex'.ret Tryz.results86 (RVs.tm (v := .slice a35 rw.length c36) RVs.nil) (fun w hw => ?_)))))))))))))
        have e : arcResize most p t1 t2 b1 b2 mo = (mo, p, g1, g2, (arcTrim mo p g1 g2 g3 g4).1, (arcTrim mo p g1 g2 g3 g4).2, rw) := by (have eM : arcResM mo = mo := (by unfold arcResM; rw [if_neg h1]); have eP : arcResP mo p = p := (by unfold arcResP; rw [eM, if_neg h23]); unfold arcResize; rw [eM, eP, ← hi, arcResL_stop h37])
        rw [e]
        exact ⟨_, ⟨_, trivial, rfl, rfl⟩, ((((hw.cv 1 (R := llR lt1 g1 m2) (R' := llR lt1 g1 n') (llR.up (by omega))).cv 2 (R := llR lt2 g2 m2) (R' := llR lt2 g2 n') (llR.up (by omega))).cv 3 (R := llR lb1 ((arcTrim mo p g1 g2 g3 g4).1) m2) (R' := llR lb1 ((arcTrim mo p g1 g2 g3 g4).1) n') (llR.up (by omega))).cv 4 (R := llR lb2 ((arcTrim mo p g1 g2 g3 g4).2) m2) (R' := llR lb2 ((arcTrim mo p g1 g2 g3 g4).2) n') (llR.up (by omega))).pk [0, 1, 2, 3, 4, 5]⟩
def arcKeys (most p : Int) (t1 t2 b1 b2 : List ByteArray)  : List ByteArray :=
  t1.reverse ++ t2.reverse
theorem arc_Keys {b lt1 lt2 lb1 lb2 n : Nat} {most p : Int} {t1 t2 b1 b2 : List ByteArray}  (hb : n ≤ 1000000000) : Tri Tryz.prog 87 #[pV b 0] (arcL b lt1 lt2 lb1 lb2 most p t1 t2 b1 b2 n) (PostE (fun _ => True) id fun v => arcL b lt1 lt2 lb1 lb2 most p t1 t2 b1 b2 n ++ [rowR 9 1 v (arcKeys most p t1 t2 b1 b2).length ((arcKeys most p t1 t2 b1 b2).map Value.string)]) := by
  refine Tri.en (args := [pV b 0]) Tryz.func87 (fun B wz => ?_)
  refine Cd.fact (i := 1) rfl llR.le ?_; rintro ⟨_, hl1⟩
  refine Cd.fact (i := 2) rfl llR.le ?_; rintro ⟨_, hl2⟩
  refine Cd.fact (i := 3) rfl llR.le ?_; rintro ⟨_, hl3⟩
  refine Cd.fact (i := 4) rfl llR.le ?_; rintro ⟨_, hl4⟩
  refine Cd.s1 (Sq.vl [0] [.slice none 0 0] (Sq.d4 (Cd.seq ?_)))
  refine Cd.plan [0, 1, 3, 7, 15, 31, 0, 64, 192, 448, 960, 2047, 4095, 8191] [(4, [(0, false, 0)]), (5, [(1, false, 0)]), (10, [(0, false, 0)]), (11, [(2, false, 0)])] [5, 11] [(5, fun _ => True), (11, fun _ => True)] [(10, 5, fun g => rowR 9 1 (.slice (addrOf (g 5)) t1.length (capOf (g 5))) t1.length (t1.map Value.string)), (16, 11, fun g => rowR 9 1 (.slice (addrOf (g 11)) t2.length (capOf (g 11))) t2.length (t2.map Value.string))] [fun g => pV b 0, fun g => pV b 0, fun g => pV b 2, fun g => pV b 2, fun g => pV lt1 0, fun g => .slice (addrOf (g 5)) t1.length (capOf (g 5)), fun g => pV b 0, fun g => pV b 0, fun g => pV b 2, fun g => pV b 3, fun g => pV lt2 0, fun g => .slice (addrOf (g 11)) t2.length (capOf (g 11)), fun g => .slice (addrOf (g 5)) t1.length (capOf (g 5)), fun g => .slice (addrOf (g 11)) t2.length (capOf (g 11))] (by kernel_rfl) (by kernel_rfl) rfl (⟨⟨⟨fun _ _ => rfl, ⟨fun _ _ => rfl, ⟨fun _ _ => rfl, ⟨fun _ _ => rfl, ⟨fun _ _ => rfl, ⟨trivial, ⟨fun _ _ => rfl, ⟨fun _ _ => rfl, ⟨fun _ _ => rfl, ⟨fun _ _ => rfl, ⟨fun _ _ => rfl, ⟨trivial, ⟨trivial, ⟨trivial, trivial⟩⟩⟩⟩⟩⟩⟩⟩⟩⟩⟩⟩⟩⟩, ⟨trivial, ⟨trivial, trivial⟩⟩⟩, ⟨⟨⟨fun _ _ => rfl, ⟨fun _ _ => rfl, ⟨fun _ _ => rfl, ⟨fun _ _ => rfl, ⟨fun _ _ => rfl, ⟨fun _ _ => rfl, ⟨fun _ _ => rfl, ⟨fun _ _ => rfl, ⟨fun _ _ => rfl, ⟨fun _ _ => rfl, ⟨fun _ _ => rfl, ⟨trivial, ⟨trivial, ⟨trivial, trivial⟩⟩⟩⟩⟩⟩⟩⟩⟩⟩⟩⟩⟩⟩, ⟨fun _ _ => rfl, ⟨trivial, trivial⟩⟩⟩, trivial⟩⟩) ?_ ?_
  · exact ⟨ob_k, ob_k, ob_k, ob_k, ob_r (l := fun g => [arcB b lt1 lt2 lb1 lb2 most p]) (l' := fun g => [arcB b lt1 lt2 lb1 lb2 most p]) (v := fun g => pV lt1 0) (fun g => o_ld (i := 2) (v := pV lt1 0)), ob_d (ι := Option Addr × Nat) (l := fun g => [llR lt1 t1 n]) (L := fun g y => [llR lt1 t1 n, rowR 9 1 (.slice y.1 t1.length y.2) t1.length (t1.map Value.string)]) (fun y => .slice y.1 t1.length y.2) (fun g => o_cl Tryz.call134 (Tri.rowA (t_Keys (ks := t1) (n := n) (by omega)))) (fun g => by kernel_rfl) (fun g y _ => ⟨trivial, by kernel_rfl, by kernel_rfl⟩), ob_k, ob_k, ob_k, ob_k, ob_r (l := fun g => [arcB b lt1 lt2 lb1 lb2 most p]) (l' := fun g => [arcB b lt1 lt2 lb1 lb2 most p]) (v := fun g => pV lt2 0) (fun g => o_ld (i := 3) (v := pV lt2 0)), ob_d (ι := Option Addr × Nat) (l := fun g => [llR lt2 t2 n]) (L := fun g y => [llR lt2 t2 n, rowR 9 1 (.slice y.1 t2.length y.2) t2.length (t2.map Value.string)]) (fun y => .slice y.1 t2.length y.2) (fun g => o_cl Tryz.call134 (Tri.rowA (t_Keys (ks := t2) (n := n) (by omega)))) (fun g => by kernel_rfl) (fun g y _ => ⟨trivial, by kernel_rfl, by kernel_rfl⟩), ob_k, ob_k, trivial⟩
  intro g
  refine Ex'.sub (subB_spec [2, 3, 4]) (Ex'.a1 [0, 1, 2, 3, 4, 10, 16] (σ' := [(2, .slice none 0 0), (3, .slice (addrOf (g 5)) t1.length (capOf (g 5))), (4, .slice (addrOf (g 11)) t2.length (capOf (g 11)))]) (Γ' := [arcB b lt1 lt2 lb1 lb2 most p, llR lt1 t1 n, llR lt2 t2 n, llR lb1 b1 n, llR lb2 b2 n, rowR 9 1 (.slice (addrOf (g 5)) t1.length (capOf (g 5))) t1.length (t1.map Value.string), rowR 9 1 (.slice (addrOf (g 11)) t2.length (capOf (g 11))) t2.length (t2.map Value.string)]) ?_)
  generalize addrOf (g 5) = a3
  generalize capOf (g 5) = c4
  generalize addrOf (g 11) = a5
  generalize capOf (g 11) = c6
  refine Ex'.next (Cd.s1 (Sq.vl [0] [.slice a3 t1.length c4] (Sq.sm [5] (l := [rowR 9 1 (.slice a3 t1.length c4) t1.length (t1.map Value.string)]) (o_cl Tryz.call135 (t_Reverse (ks := t1) (by omega))) rfl (Sq.d1 (Sq.vl [0] [.slice a5 t2.length c6] (Sq.sm [6] (l := [rowR 9 1 (.slice a5 t2.length c6) t2.length (t2.map Value.string)]) (o_cl Tryz.call135 (t_Reverse (ks := t2) (by omega))) rfl (Sq.d1 (Sq.vl [0, 1] [.slice a3 t1.length c4, .slice a5 t2.length c6] ?_))))))))
  refine Sq.e1 [5, 6] (l := [rowR 9 1 (.slice a3 t1.length c4) t1.length (t1.reverse.map Value.string), rowR 9 1 (.slice a5 t2.length c6) t2.length (t2.reverse.map Value.string)]) (o_pushAll (n' := (t1.reverse ++ t2.reverse).length) (xs' := (t1.reverse ++ t2.reverse).map Value.string) (m := t2.length) (news := t2.reverse.map Value.string) (by kernel_rfl) (by kernel_rfl) (fun w S h => ⟨S, Row.cells h⟩) sl_str (by decide) (ones _) (by unfold maxLen; omega) (by omega) (by first | exact List.length_append.symm | simp) (by simp)) rfl ?_; rintro v7 _
  refine Sq.fact (i := 5) (R := rowR 9 1 v7 ((t1.reverse ++ t2.reverse).length) ((t1.reverse ++ t2.reverse).map Value.string)) (by kernel_rfl) row_slice ?_; rintro ⟨a8, c9, rfl, hc9, hc9'⟩
  have hc9'' : c9 ≤ 9223372036854775807 := hc9'
  refine Sq.vl [3] [.slice a8 ((t1.reverse ++ t2.reverse).length) c9] (Sq.d4 (Cd.ret (Ex'.ret Tryz.results87 (RVs.tm (v := .slice a8 ((t1.reverse ++ t2.reverse).length) c9) RVs.nil) (fun w hw => ?_))))
  have e : arcKeys most p t1 t2 b1 b2 = t1.reverse ++ t2.reverse := by unfold arcKeys; rfl
  rw [e]
  exact ⟨_, ⟨_, trivial, rfl, rfl⟩, hw.pk [0, 1, 2, 3, 4, 5]⟩
def arcGhosts (most p : Int) (t1 t2 b1 b2 : List ByteArray)  : List ByteArray :=
  b1 ++ b2
theorem arc_Ghosts {b lt1 lt2 lb1 lb2 n : Nat} {most p : Int} {t1 t2 b1 b2 : List ByteArray}  (hb : n ≤ 1000000000) : Tri Tryz.prog 88 #[pV b 0] (arcL b lt1 lt2 lb1 lb2 most p t1 t2 b1 b2 n) (PostE (fun _ => True) id fun v => arcL b lt1 lt2 lb1 lb2 most p t1 t2 b1 b2 n ++ [rowR 9 1 v (arcGhosts most p t1 t2 b1 b2).length ((arcGhosts most p t1 t2 b1 b2).map Value.string)]) := by
  refine Tri.en (args := [pV b 0]) Tryz.func88 (fun B wz => ?_)
  refine Cd.fact (i := 1) rfl llR.le ?_; rintro ⟨_, hl1⟩
  refine Cd.fact (i := 2) rfl llR.le ?_; rintro ⟨_, hl2⟩
  refine Cd.fact (i := 3) rfl llR.le ?_; rintro ⟨_, hl3⟩
  refine Cd.fact (i := 4) rfl llR.le ?_; rintro ⟨_, hl4⟩
  refine Cd.s1 (Sq.vl [0] [.slice none 0 0] (Sq.d4 (Cd.seq (Cd.sub (subB_spec [0]) ?_))))
  refine Cd.plan [0, 1, 3, 7, 15, 31, 0, 64, 192, 448, 960, 2047, 4095, 8191] [(4, [(0, false, 0)]), (5, [(3, false, 0)]), (10, [(0, false, 0)]), (11, [(4, false, 0)]), (12, [(10, true, 6), (16, false, 12)])] [5, 11] [(5, fun _ => True), (11, fun _ => True), (12, fun _ => True)] [(10, 5, fun g => rowR 9 1 (.slice (addrOf (g 5)) b1.length (capOf (g 5))) b1.length (b1.map Value.string)), (16, 11, fun g => rowR 9 1 (.slice (addrOf (g 11)) b2.length (capOf (g 11))) b2.length (b2.map Value.string)), (10, 12, fun g => rowR 9 1 (g 12) ((b1 ++ b2).length) ((b1 ++ b2).map Value.string))] [fun g => pV b 0, fun g => pV b 0, fun g => pV b 2, fun g => pV b 4, fun g => pV lb1 0, fun g => .slice (addrOf (g 5)) b1.length (capOf (g 5)), fun g => pV b 0, fun g => pV b 0, fun g => pV b 2, fun g => pV b 5, fun g => pV lb2 0, fun g => .slice (addrOf (g 11)) b2.length (capOf (g 11)), fun g => (g 12), fun g => (g 12)] (by kernel_rfl) (by kernel_rfl) rfl (⟨⟨⟨fun _ _ => rfl, ⟨fun _ _ => rfl, ⟨fun _ _ => rfl, ⟨fun _ _ => rfl, ⟨fun _ _ => rfl, ⟨trivial, ⟨fun _ _ => rfl, ⟨fun _ _ => rfl, ⟨fun _ _ => rfl, ⟨fun _ _ => rfl, ⟨fun _ _ => rfl, ⟨trivial, ⟨trivial, ⟨trivial, trivial⟩⟩⟩⟩⟩⟩⟩⟩⟩⟩⟩⟩⟩⟩, ⟨trivial, ⟨trivial, ⟨trivial, trivial⟩⟩⟩⟩, ⟨⟨⟨fun _ _ => rfl, ⟨fun _ _ => rfl, ⟨fun _ _ => rfl, ⟨fun _ _ => rfl, ⟨fun _ _ => rfl, ⟨fun _ _ => rfl, ⟨fun _ _ => rfl, ⟨fun _ _ => rfl, ⟨fun _ _ => rfl, ⟨fun _ _ => rfl, ⟨fun _ _ => rfl, ⟨trivial, ⟨trivial, ⟨trivial, trivial⟩⟩⟩⟩⟩⟩⟩⟩⟩⟩⟩⟩⟩⟩, ⟨fun _ _ => rfl, ⟨trivial, ⟨trivial, trivial⟩⟩⟩⟩, ⟨⟨⟨fun _ _ => rfl, ⟨fun _ _ => rfl, ⟨fun _ _ => rfl, ⟨fun _ _ => rfl, ⟨fun _ _ => rfl, ⟨fun _ _ => rfl, ⟨fun _ _ => rfl, ⟨fun _ _ => rfl, ⟨fun _ _ => rfl, ⟨fun _ _ => rfl, ⟨fun _ _ => rfl, ⟨fun _ _ => rfl, ⟨trivial, ⟨trivial, trivial⟩⟩⟩⟩⟩⟩⟩⟩⟩⟩⟩⟩⟩⟩, ⟨fun _ _ => rfl, ⟨fun _ _ => rfl, ⟨trivial, trivial⟩⟩⟩⟩, trivial⟩⟩⟩) ?_ ?_
  · exact ⟨ob_k, ob_k, ob_k, ob_k, ob_r (l := fun g => [arcB b lt1 lt2 lb1 lb2 most p]) (l' := fun g => [arcB b lt1 lt2 lb1 lb2 most p]) (v := fun g => pV lb1 0) (fun g => o_ld (i := 4) (v := pV lb1 0)), ob_d (ι := Option Addr × Nat) (l := fun g => [llR lb1 b1 n]) (L := fun g y => [llR lb1 b1 n, rowR 9 1 (.slice y.1 b1.length y.2) b1.length (b1.map Value.string)]) (fun y => .slice y.1 b1.length y.2) (fun g => o_cl Tryz.call134 (Tri.rowA (t_Keys (ks := b1) (n := n) (by omega)))) (fun g => by kernel_rfl) (fun g y _ => ⟨trivial, by kernel_rfl, by kernel_rfl⟩), ob_k, ob_k, ob_k, ob_k, ob_r (l := fun g => [arcB b lt1 lt2 lb1 lb2 most p]) (l' := fun g => [arcB b lt1 lt2 lb1 lb2 most p]) (v := fun g => pV lb2 0) (fun g => o_ld (i := 5) (v := pV lb2 0)), ob_d (ι := Option Addr × Nat) (l := fun g => [llR lb2 b2 n]) (L := fun g y => [llR lb2 b2 n, rowR 9 1 (.slice y.1 b2.length y.2) b2.length (b2.map Value.string)]) (fun y => .slice y.1 b2.length y.2) (fun g => o_cl Tryz.call134 (Tri.rowA (t_Keys (ks := b2) (n := n) (by omega)))) (fun g => by kernel_rfl) (fun g y _ => ⟨trivial, by kernel_rfl, by kernel_rfl⟩), ob_d (ι := Value) (l := fun g => [rowR 9 1 (.slice (addrOf (g 5)) b1.length (capOf (g 5))) b1.length (b1.map Value.string), rowR 9 1 (.slice (addrOf (g 11)) b2.length (capOf (g 11))) b2.length (b2.map Value.string)]) (L := fun g y => [rowR 9 1 y ((b1 ++ b2).length) ((b1 ++ b2).map Value.string), rowR 9 1 (.slice (addrOf (g 11)) b2.length (capOf (g 11))) b2.length (b2.map Value.string)]) (id) (fun g => o_pushAll (n' := (b1 ++ b2).length) (xs' := (b1 ++ b2).map Value.string) (m := b2.length) (news := b2.map Value.string) (by kernel_rfl) (by kernel_rfl) (fun w S h => ⟨S, Row.cells h⟩) sl_str (by decide) (ones _) (by unfold maxLen; omega) (by omega) (by first | exact List.length_append.symm | simp) (by simp)) (fun g => by kernel_rfl) (fun g y _ => ⟨trivial, by kernel_rfl, by kernel_rfl⟩), ob_k, trivial⟩
  intro g
  refine Ex'.sub (subB_spec [2]) (Ex'.a1 [0, 1, 2, 3, 4, 10, 16] (σ' := [(2, (g 12))]) (Γ' := [arcB b lt1 lt2 lb1 lb2 most p, llR lt1 t1 n, llR lt2 t2 n, llR lb1 b1 n, llR lb2 b2 n, rowR 9 1 (g 12) ((b1 ++ b2).length) ((b1 ++ b2).map Value.string), rowR 9 1 (.slice (addrOf (g 11)) b2.length (capOf (g 11))) b2.length (b2.map Value.string)]) ?_)
  generalize addrOf (g 5) = a4
  generalize capOf (g 5) = c5
  generalize addrOf (g 11) = a6
  generalize capOf (g 11) = c7
  generalize g 12 = v8
  refine Ex'.fact (i := 5) (R := rowR 9 1 v8 ((b1 ++ b2).length) ((b1 ++ b2).map Value.string)) (by kernel_rfl) row_slice ?_; rintro ⟨a9, c10, rfl, hc10, hc10'⟩
  have hc10'' : c10 ≤ 9223372036854775807 := hc10'
  refine Ex'.next (Cd.ret (Ex'.ret Tryz.results88 (RVs.tm (v := .slice a9 ((b1 ++ b2).length) c10) RVs.nil) (fun w hw => ?_)))
  have e : arcGhosts most p t1 t2 b1 b2 = b1 ++ b2 := by unfold arcGhosts; rfl
  rw [e]
  exact ⟨_, ⟨_, trivial, rfl, rfl⟩, hw.pk [0, 1, 2, 3, 4, 5]⟩
def arcNew (most0 : Int) : Int × Int × List ByteArray × List ByteArray × List ByteArray × List ByteArray :=
  if (0 : Int) > most0 then (0, 0, [], [], [], []) else (most0, 0, [], [], [], [])
theorem arc_New (most0 : Int) (hmost0 : -9223372036854775808 ≤ most0 ∧ most0 ≤ 9223372036854775807) : Tri Tryz.prog 78 #[iV most0] [] (PostE (ι := Nat × Nat × Nat × Nat × Nat) (fun _ => True) (fun x => pV x.1 0) fun x => arcL x.1 x.2.1 x.2.2.1 x.2.2.2.1 x.2.2.2.2 ((arcNew most0).1) ((arcNew most0).2.1) ((arcNew most0).2.2.1) ((arcNew most0).2.2.2.1) ((arcNew most0).2.2.2.2.1) ((arcNew most0).2.2.2.2.2) 0) := by
  refine Tri.en (args := [iV most0]) Tryz.func78 (fun B wz => ?_)
  refine Cd.s1 (Sq.vl [0] [.pointer none] (Sq.d1 (Sq.vl [0] [iV most0] ?_)))
  by_cases h1 : (0 : Int) > most0
  ·
    refine Sq.v (r := iV (if (0 : Int) > most0 then 0 else most0)) (pureV (by kernel_rfl) rfl fun w => by kernel_rfl) rfl (by kernel_rfl) (Sq.re 4 rfl (by rw [if_pos h1]) ?_)
    refine Sq.e1 [] (l := []) (o_cl Tryz.call126 (t_New)) rfl ?_; rintro b3 _
    refine Sq.e1 [] (l := []) (o_cl Tryz.call126 (t_New)) rfl ?_; rintro b4 _
    refine Sq.e1 [] (l := []) (o_cl Tryz.call126 (t_New)) rfl ?_; rintro b5 _
    refine Sq.e1 [] (l := []) (o_cl Tryz.call126 (t_New)) rfl ?_; rintro b6 _
    refine Sq.vl [6, 7] [.agg #[pV b3 0, pV b4 0, pV b5 0, pV b6 0], .agg #[iV 0, iV 0, pV b3 0, pV b4 0, pV b5 0, pV b6 0]] ?_
    refine Sq.e0 [] (l := []) (o_newBox (v := .agg #[iV 0, iV 0, pV b3 0, pV b4 0, pV b5 0, pV b6 0]) [iV 0, iV 0, pV b3 0, pV b4 0, pV b5 0, pV b6 0] (by kernel_rfl) rfl) rfl ?_; intro b7 _
    refine Sq.vl [9] [pV b7 0] (Sq.d4 (Cd.ret (Ex'.ret Tryz.results78 (RVs.tm (v := pV b7 0) RVs.nil) (fun w hw => ?_))))
    have e : arcNew most0 = (0, 0, [], [], [], []) := by unfold arcNew; rw [if_pos h1]
    rw [e]
    exact ⟨_, ⟨(b7, b3, b4, b5, b6), trivial, rfl, rfl⟩, hw.pk [4, 0, 1, 2, 3]⟩
  ·
    refine Sq.v (r := iV (if (0 : Int) > most0 then 0 else most0)) (pureV (by kernel_rfl) rfl fun w => by kernel_rfl) rfl (by kernel_rfl) (Sq.re 4 rfl (by rw [if_neg h1]) ?_)
    refine Sq.e1 [] (l := []) (o_cl Tryz.call126 (t_New)) rfl ?_; rintro b8 _
    refine Sq.e1 [] (l := []) (o_cl Tryz.call126 (t_New)) rfl ?_; rintro b9 _
    refine Sq.e1 [] (l := []) (o_cl Tryz.call126 (t_New)) rfl ?_; rintro b10 _
    refine Sq.e1 [] (l := []) (o_cl Tryz.call126 (t_New)) rfl ?_; rintro b11 _
    refine Sq.vl [6, 7] [.agg #[pV b8 0, pV b9 0, pV b10 0, pV b11 0], .agg #[iV most0, iV 0, pV b8 0, pV b9 0, pV b10 0, pV b11 0]] ?_
    refine Sq.e0 [] (l := []) (o_newBox (v := .agg #[iV most0, iV 0, pV b8 0, pV b9 0, pV b10 0, pV b11 0]) [iV most0, iV 0, pV b8 0, pV b9 0, pV b10 0, pV b11 0] (by kernel_rfl) rfl) rfl ?_; intro b12 _
    refine Sq.vl [9] [pV b12 0] (Sq.d4 (Cd.ret (Ex'.ret Tryz.results78 (RVs.tm (v := pV b12 0) RVs.nil) (fun w hw => ?_))))
    have e : arcNew most0 = (most0, 0, [], [], [], []) := by unfold arcNew; rw [if_neg h1]
    rw [e]
    exact ⟨_, ⟨(b12, b8, b9, b10, b11), trivial, rfl, rfl⟩, hw.pk [4, 0, 1, 2, 3]⟩
end Go.Proofs.YtholinnmjoelkaaGreatDoor
