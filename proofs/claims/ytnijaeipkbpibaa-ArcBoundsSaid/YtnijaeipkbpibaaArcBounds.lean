/- ArcBounds: its walk. -/
import Derived.Test.YtnijaeipkbpibaaArcPureE
import Derived.Test.YtnijaeipkbpibaaArcAwake
import Derived.Test.YtnijaeipkbpibaaActs
import Derived.Test.YtnijaeipkbpibaaSepJ
import Derived.Test.YtnijaeipkbpibaaSepH
import Derived.Test.YtnijaeipkbpibaaFew
set_option linter.unusedVariables false
namespace Go.Proofs.Ytnijaeipkbpibaa
open Go.RowKit Go.MapKept

set_option maxHeartbeats 8000000 in
set_option maxRecDepth 100000 in
theorem arcBounds_tri {w0 : World} {m : Int} {a : Option Addr} {cap : Nat} {xs : List Act3} (hm : -9223372036854775808 ≤ m ∧ m ≤ 9223372036854775807) (hl : xs.length ≤ 9223372036854775807) (hs : ScriptIn w0 (.slice a xs.length cap) xs) : Tri Try.prog 6 #[iV m, .slice a xs.length cap] [oldR w0] (LawP w0) := by
  refine Tri.enter (args := [iV m, .slice a xs.length cap]) Try.func6 rfl rfl rfl (fun B wz => ?_)
  refine Cd.seq ?_
  refine Cd.region rfl ?_
  refine Sq.vals [0] (rest := []) [bV false] (fun w => by kernel_rfl) ?_
  refine Sq.done ?_
  refine Ex'.next ?_
  refine Cd.seq ?_
  refine Cd.seq ?_
  refine Cd.region rfl ?_
  refine Sq.same [] (l := []) (o_call (by kernel_rfl) Try.call7 (arc_awake)) (by kernel_rfl) rfl (by kernel_rfl) rfl ?_
  refine Sq.vals [1] (rest := []) [bV false] (fun w => by kernel_rfl) ?_
  refine Sq.done ?_
  refine Ex'.next ?_
  refine Cd.condF (by kernel_rfl) ?_
  refine Cd.skip ?_
  refine Ex'.next ?_
  refine Cd.seq ?_
  refine Cd.seq ?_
  refine Cd.region rfl ?_
  refine Sq.vals [0] (rest := [1, 2, 3, 4, 5, 6, 7, 8, 9, 10]) [.slice a xs.length cap] (fun w => by kernel_rfl) ?_
  refine Sq.ex [0] (l := [oldR w0]) (o_call (by kernel_rfl) Try.call18 (t_few hl hs)) (by kernel_rfl) rfl (by kernel_rfl) (fun _ => Nat.le_of_ble_eq_true (by kernel_rfl)) ?_; rintro fb1 hfew
  refine Sq.vals [2, 3] (rest := [4, 5, 6, 7, 8, 9, 10]) [bV (!fb1), bV (!fb1)] (fun w => by kernel_rfl) ?_
  refine Sq.caseB 17 (t := (!fb1)) rfl (fun h2 => ?_) (fun h2 => ?_)
  ·
    refine Sq.vals [4, 5, 6, 7, 8, 9, 10] (rest := []) [undef, undef, bV true, bV true, undef, undef, bV true] (fun w => by kernel_rfl) ?_
    refine Sq.done ?_
    refine Ex'.next ?_
    refine Cd.condT (by kernel_rfl) ?_
    refine Cd.seq ?_
    refine Cd.region rfl ?_
    refine Sq.vals [0] (rest := []) [bV true] (fun w => by kernel_rfl) ?_
    refine Sq.done ?_
    refine Ex'.next ?_
    refine Cd.ret ?_
    refine Ex'.thenRet ?_
    refine Ex'.ret Try.results6 (RVs.tmp (v := bV true) (by kernel_rfl) (RVs.nil)) (fun w hw => ?_)
    exact ⟨_, ⟨rfl, by kernel_rfl⟩, hw⟩
  ·
    obtain ⟨hf1, hf2⟩ := hfew (by simpa using h2)
    refine Sq.vals [4, 5, 6, 7] (rest := [8, 9, 10]) [iV m, bV (decide (m < 0)), bV (decide (m < 0)), bV (decide (m < 0))] (fun w => by kernel_rfl) ?_
    refine Sq.case 21 (p := m < 0) rfl (fun h3 => ?_) (fun h3 => ?_)
    ·
      refine Sq.vals [8, 9, 10] (rest := []) [undef, undef, bV true] (fun w => by kernel_rfl) ?_
      refine Sq.done ?_
      refine Ex'.next ?_
      refine Cd.condT (by kernel_rfl) ?_
      refine Cd.seq ?_
      refine Cd.region rfl ?_
      refine Sq.vals [0] (rest := []) [bV true] (fun w => by kernel_rfl) ?_
      refine Sq.done ?_
      refine Ex'.next ?_
      refine Cd.ret ?_
      refine Ex'.thenRet ?_
      refine Ex'.ret Try.results6 (RVs.tmp (v := bV true) (by kernel_rfl) (RVs.nil)) (fun w hw => ?_)
      exact ⟨_, ⟨rfl, by kernel_rfl⟩, hw⟩
    ·
      refine Sq.vals [8, 9, 10] (rest := []) [iV m, bV (decide (m > 1000)), bV (decide (m > 1000))] (fun w => by kernel_rfl) ?_
      refine Sq.done ?_
      refine Ex'.next ?_
      refine Cd.case (p := m > 1000) (by kernel_rfl) (fun h4 => ?_) (fun h4 => ?_)
      ·
        refine Cd.seq ?_
        refine Cd.region rfl ?_
        refine Sq.vals [0] (rest := []) [bV true] (fun w => by kernel_rfl) ?_
        refine Sq.done ?_
        refine Ex'.next ?_
        refine Cd.ret ?_
        refine Ex'.thenRet ?_
        refine Ex'.ret Try.results6 (RVs.tmp (v := bV true) (by kernel_rfl) (RVs.nil)) (fun w hw => ?_)
        exact ⟨_, ⟨rfl, by kernel_rfl⟩, hw⟩
      ·
        refine Cd.skip ?_
        refine Ex'.next ?_
        refine Cd.seq ?_
        refine Cd.region rfl ?_
        refine Sq.vals [0] (rest := [1, 2]) [iV m] (fun w => by kernel_rfl) ?_
        refine Sq.ex [] (l := []) (o_call (by kernel_rfl) Try.call8 (Tri.ex (L' := fun x => arcL x.1 x.2.1 x.2.2.1 x.2.2.2.1 x.2.2.2.2 m 0 [] [] [] [] 0) (arc_New m (by omega)) (fun x => by simp only [arcNew_nn (show 0 ≤ m by omega)]))) (by kernel_rfl) rfl (by kernel_rfl) (fun _ => Nat.le_of_ble_eq_true (by kernel_rfl)) ?_; rintro ⟨b5, lt16, lt27, lb18, lb29⟩ _
        refine Sq.vals [2] (rest := []) [pV b5 0] (fun w => by kernel_rfl) ?_
        refine Sq.done ?_
        refine Ex'.next ?_
        refine Cd.seq ?_
        refine Cd.seq ?_
        refine Cd.region rfl ?_
        refine Sq.vals [0, 1] (rest := []) [pV b5 0, bV false] (fun w => by kernel_rfl) ?_
        refine Sq.done ?_
        refine Ex'.next ?_
        refine Cd.condF (by kernel_rfl) ?_
        refine Cd.skip ?_
        refine Ex'.next ?_
        refine Cd.seq ?_
        refine Cd.seq ?_
        refine Cd.region rfl ?_
        refine Sq.vals [0] (rest := []) [iV 0] (fun w => by kernel_rfl) ?_
        refine Sq.done ?_
        refine Ex'.next ?_
        refine Cd.block ?_
        refine Cd.loop (ι := Nat × Int × Int × (List ByteArray) × (List ByteArray) × (List ByteArray) × (List ByteArray) × Nat) (fun ⟨k, mz0, p0, t1x0, t2x0, b1x0, b2x0, n0⟩ => k ≤ xs.length ∧ ArcI mz0 p0 t1x0 t2x0 b1x0 b2x0 ∧ mz0 ≤ 1000 ∧ n0 ≤ k * 2000) (fun ⟨k, mz0, p0, t1x0, t2x0, b1x0, b2x0, n0⟩ => xs.length - k) (fun ⟨k, mz0, p0, t1x0, t2x0, b1x0, b2x0, n0⟩ => [(1, .slice a xs.length cap), (5, pV b5 0), (6, iV (k : Int)), (0, iV mz0)]) (fun ⟨k, mz0, p0, t1x0, t2x0, b1x0, b2x0, n0⟩ => [oldR w0, arcB b5 lt16 lt27 lb18 lb29 mz0 p0, llR lt16 t1x0 n0, llR lt27 t2x0 n0, llR lb18 b1x0 n0, llR lb29 b2x0 n0]) (0, m, 0, [], [], [], [], 0) (⟨Nat.zero_le _, ArcI.new (by omega), by omega, Nat.le_refl _⟩) (subB_eq (l := [1, 5, 6, 0]) (by kernel_rfl)) (fun w hw => hw.pickB [0, 1, 2, 3, 4, 5] (by kernel_rfl) (by kernel_rfl) (by kernel_rfl)) ?_
        rintro ⟨k, mz0, p0, t1x0, t2x0, b1x0, b2x0, n0⟩ hL10
        try dsimp only at hL10 ⊢
        obtain ⟨hk, hI, hmz, hn⟩ := hL10
        have hI0 := hI.p0; have hIm := hI.pm; have hIh := hI.h0; have hIl := hI.len
        refine Cd.seq ?_
        refine Cd.seq ?_
        refine Cd.region rfl ?_
        refine Sq.vals [0, 1, 2, 3] (rest := []) [iV (k : Int), .slice a xs.length cap, iV (xs.length : Int), bV (decide ((k : Int) < (xs.length : Int)))] (fun w => by kernel_rfl) ?_
        refine Sq.done ?_
        refine Ex'.next ?_
        refine Cd.case (p := (k : Int) < (xs.length : Int)) (by kernel_rfl) (fun h11 => ?_) (fun h11 => ?_)
        ·
          obtain ⟨g12, off13, rfl⟩ := hs.addr (by omega)
          obtain ⟨kdk, kyk, nnk, hgk, hwk, hrk⟩ := hs.at (k := k) (by omega)
          refine Cd.skip ?_
          refine Ex'.next ?_
          refine Cd.seq ?_
          refine Cd.block ?_
          refine Cd.seq ?_
          refine Cd.region rfl ?_
          refine Sq.vals [0, 1] (rest := [2, 3, 4, 5]) [.slice (some ⟨g12, off13, none⟩) xs.length cap, iV (k : Int)] (fun w => by kernel_rfl) ?_
          refine Sq.v (r := pV g12 (off13 + k * 3)) (o_idx (b := g12) (cap := cap) (e := 42) (off := off13) (n := xs.length) (kd := .i64) (q := (k : Int)) (i := k) (size := 3) (j := off13 + k * 3) (by kernel_rfl) (by kernel_rfl) (by rfl) (by omega) Try.underlying39 (by kernel_rfl) (by omega)) rfl (by kernel_rfl) ?_
          refine Sq.same [0] (l := [oldR w0]) (o_loadOldN (b := g12) (j := off13 + k * 3) [iV kdk, sV kyk, iV nnk] (by kernel_rfl) (by kernel_rfl) hrk) (by kernel_rfl) rfl (by kernel_rfl) rfl ?_
          refine Sq.ex [] (l := []) (o_new [iV 0, sV ⟨#[]⟩, iV 0] (fun w => by kernel_rfl)) (by kernel_rfl) rfl (by kernel_rfl) (fun _ => Nat.zero_le _) ?_; intro b14 _
          refine Sq.same [6] (l := [blkR b14 [iV 0, sV ⟨#[]⟩, iV 0] 42]) (o_store (i := 0) (v := .agg #[iV kdk, sV kyk, iV nnk]) (by kernel_rfl) (by kernel_rfl) (by kernel_rfl) (by kernel_rfl) (by kernel_rfl)) (by kernel_rfl) rfl (by kernel_rfl) rfl ?_
          refine Sq.done ?_
          refine Ex'.next ?_
          refine Cd.join (ι := Int × Int × (List ByteArray) × (List ByteArray) × (List ByteArray) × (List ByteArray) × Nat) (fun ⟨mz1, p1, t1x1, t2x1, b1x1, b2x1, n1⟩ => ArcI mz1 p1 t1x1 t2x1 b1x1 b2x1 ∧ mz1 ≤ 1000 ∧ n1 ≤ (k + 1) * 2000) (fun ⟨mz1, p1, t1x1, t2x1, b1x1, b2x1, n1⟩ => [(1, .slice (some ⟨g12, off13, none⟩) xs.length cap), (5, pV b5 0), (6, iV (k : Int)), (0, iV mz1)]) (fun ⟨mz1, p1, t1x1, t2x1, b1x1, b2x1, n1⟩ => [oldR w0, arcB b5 lt16 lt27 lb18 lb29 mz1 p1, llR lt16 t1x1 n1, llR lt27 t2x1 n1, llR lb18 b1x1 n1, llR lb29 b2x1 n1]) ?_ ?_
          ·
            refine Cd.seq ?_
            refine Cd.region rfl ?_
            refine Sq.vals [0] (rest := [1]) [pV b14 0] (fun w => by kernel_rfl) ?_
            refine Sq.same [6] (l := [blkR b14 [iV kdk, sV kyk, iV nnk] 42]) (o_load (i := 0) (v := iV kdk) (by kernel_rfl) (by kernel_rfl) (by kernel_rfl)) (by kernel_rfl) rfl (by kernel_rfl) rfl ?_
            refine Sq.done ?_
            refine Ex'.next ?_
            refine Cd.block ?_
            refine Cd.seq ?_
            refine Cd.region rfl ?_
            refine Sq.v (r := bV (decide (kdk = 0))) (o_eqI (k := .i64) (a := kdk) (b := 0) (by kernel_rfl) (by kernel_rfl)) rfl (by kernel_rfl) ?_
            refine Sq.vals [1] (rest := []) [bV (decide (kdk = 0))] (fun w => by kernel_rfl) ?_
            refine Sq.done ?_
            refine Ex'.next ?_
            refine Cd.case (p := kdk = 0) (by kernel_rfl) (fun h15 => ?_) (fun h15 => ?_)
            ·
              refine Cd.seq ?_
              refine Cd.region rfl ?_
              refine Sq.vals [0, 1] (rest := [2, 3, 4, 5]) [pV b5 0, pV b14 1] (fun w => by kernel_rfl) ?_
              refine Sq.same [6] (l := [blkR b14 [iV kdk, sV kyk, iV nnk] 42]) (o_load (i := 1) (v := sV kyk) (by kernel_rfl) (by kernel_rfl) (by kernel_rfl)) (by kernel_rfl) rfl (by kernel_rfl) rfl ?_
              refine Sq.same [1, 2, 3, 4, 5] (l := arcL b5 lt16 lt27 lb18 lb29 mz0 p0 t1x0 t2x0 b1x0 b2x0 n0) (o_call (by kernel_rfl) Try.call10 (arc_Request (n := n0) (n' := n0 + 2) (most := mz0) (p := p0) (t1 := t1x0) (t2 := t2x0) (b1 := b1x0) (b2 := b2x0) kyk (by omega) (by omega) (by omega) (by omega))) (by kernel_rfl) rfl (by kernel_rfl) rfl ?_
              generalize hxx16 : arcReq mz0 p0 t1x0 t2x0 b1x0 b2x0 kyk = x16
              have hR := ArcI.req hI kyk hxx16
              refine Sq.ex [] (l := []) (o_new [bV false, sV ⟨#[]⟩, bV false] (fun w => by kernel_rfl)) (by kernel_rfl) rfl (by kernel_rfl) (fun _ => Nat.zero_le _) ?_; intro b17 _
              refine Sq.same [7] (l := [blkR b17 [bV false, sV ⟨#[]⟩, bV false] 28]) (o_store (i := 0) (v := .agg #[bV x16.2.2.2.2.2.1, sV x16.2.2.2.2.2.2.1, bV x16.2.2.2.2.2.2.2]) (by kernel_rfl) (by kernel_rfl) (by kernel_rfl) (by kernel_rfl) (by kernel_rfl)) (by kernel_rfl) rfl (by kernel_rfl) rfl ?_
              refine Sq.done ?_
              refine Ex'.next ?_
              refine Cd.seq ?_
              refine Cd.region rfl ?_
              refine Sq.vals [0] (rest := [1, 2, 3, 4, 5, 6, 7, 8, 9, 10, 11, 12, 13, 14, 15, 16, 17, 18, 19, 20, 21, 22, 23, 24, 25, 26]) [pV b17 2] (fun w => by kernel_rfl) ?_
              refine Sq.same [7] (l := [blkR b17 [bV x16.2.2.2.2.2.1, sV x16.2.2.2.2.2.2.1, bV x16.2.2.2.2.2.2.2] 28]) (o_load (i := 2) (v := bV x16.2.2.2.2.2.2.2) (by kernel_rfl) (by kernel_rfl) (by kernel_rfl)) (by kernel_rfl) rfl (by kernel_rfl) rfl ?_
              refine Sq.vals [2] (rest := [3, 4, 5, 6, 7, 8, 9, 10, 11, 12, 13, 14, 15, 16, 17, 18, 19, 20, 21, 22, 23, 24, 25, 26]) [bV x16.2.2.2.2.2.2.2] (fun w => by kernel_rfl) ?_
              refine Sq.caseB 49 (t := x16.2.2.2.2.2.2.2) rfl (fun h18 => ?_) (fun h18 => ?_)
              ·
                obtain ⟨ho1, ho2⟩ := hR.out h18
                refine Sq.vals [3, 4] (rest := [5, 6, 7, 8, 9, 10, 11, 12, 13, 14, 15, 16, 17, 18, 19, 20, 21, 22, 23, 24, 25, 26]) [pV b5 0, pV b17 1] (fun w => by kernel_rfl) ?_
                refine Sq.same [7] (l := [blkR b17 [bV x16.2.2.2.2.2.1, sV x16.2.2.2.2.2.2.1, bV x16.2.2.2.2.2.2.2] 28]) (o_load (i := 1) (v := sV x16.2.2.2.2.2.2.1) (by kernel_rfl) (by kernel_rfl) (by kernel_rfl)) (by kernel_rfl) rfl (by kernel_rfl) rfl ?_
                refine Sq.same [1, 2, 3, 4, 5] (l := arcL b5 lt16 lt27 lb18 lb29 mz0 x16.1 x16.2.1 x16.2.2.1 x16.2.2.2.1 x16.2.2.2.2.1 (n0 + 2)) (o_call (by kernel_rfl) Try.call16 ((Tri.eq (l2 := arcL b5 lt16 lt27 lb18 lb29 mz0 x16.1 x16.2.1 x16.2.2.1 x16.2.2.2.1 x16.2.2.2.2.1 (n0 + 2)) (r' := bV (decide (x16.2.2.2.2.2.2.1 ∈ x16.2.1 ∨ x16.2.2.2.2.2.2.1 ∈ x16.2.2.1))) (arc_Has (n := n0 + 2) (most := mz0) (p := x16.1) (t1 := x16.2.1) (t2 := x16.2.2.1) (b1 := x16.2.2.2.1) (b2 := x16.2.2.2.2.1) x16.2.2.2.2.2.2.1 (by omega)) (by first | simp only [arcHas_eq] | rfl) (by first | simp only [arcHas_eq] | rfl)).re (vF (fun q => q.elim ho1 ho2)))) (by kernel_rfl) rfl (by kernel_rfl) rfl ?_
                refine Sq.vals [7, 8, 9, 10, 11] (rest := [12, 13, 14, 15, 16, 17, 18, 19, 20, 21, 22, 23, 24, 25, 26]) [bV false, bV false, iV mz0, bV (decide (mz0 > 0)), bV (decide (mz0 > 0))] (fun w => by kernel_rfl) ?_
                refine Sq.case 58 (p := mz0 > 0) rfl (fun h19 => ?_) (fun h19 => ?_)
                ·
                  have hhere := hR.here h19
                  refine Sq.vals [12, 13] (rest := [14, 15, 16, 17, 18, 19, 20, 21, 22, 23, 24, 25, 26]) [pV b5 0, pV b14 1] (fun w => by kernel_rfl) ?_
                  refine Sq.same [6] (l := [blkR b14 [iV kdk, sV kyk, iV nnk] 42]) (o_load (i := 1) (v := sV kyk) (by kernel_rfl) (by kernel_rfl) (by kernel_rfl)) (by kernel_rfl) rfl (by kernel_rfl) rfl ?_
                  refine Sq.same [1, 2, 3, 4, 5] (l := arcL b5 lt16 lt27 lb18 lb29 mz0 x16.1 x16.2.1 x16.2.2.1 x16.2.2.2.1 x16.2.2.2.2.1 (n0 + 2)) (o_call (by kernel_rfl) Try.call16 ((Tri.eq (l2 := arcL b5 lt16 lt27 lb18 lb29 mz0 x16.1 x16.2.1 x16.2.2.1 x16.2.2.2.1 x16.2.2.2.2.1 (n0 + 2)) (r' := bV (decide (kyk ∈ x16.2.1 ∨ kyk ∈ x16.2.2.1))) (arc_Has (n := n0 + 2) (most := mz0) (p := x16.1) (t1 := x16.2.1) (t2 := x16.2.2.1) (b1 := x16.2.2.2.1) (b2 := x16.2.2.2.2.1) kyk (by omega)) (by first | simp only [arcHas_eq] | rfl) (by first | simp only [arcHas_eq] | rfl)).re (vT hhere))) (by kernel_rfl) rfl (by kernel_rfl) rfl ?_
                  refine Sq.vals [16, 17, 18, 19, 20] (rest := [21, 22, 23, 24, 25, 26]) [bV false, bV false, bV false, bV false, pV b17 0] (fun w => by kernel_rfl) ?_
                  refine Sq.same [7] (l := [blkR b17 [bV x16.2.2.2.2.2.1, sV x16.2.2.2.2.2.2.1, bV x16.2.2.2.2.2.2.2] 28]) (o_load (i := 0) (v := bV x16.2.2.2.2.2.1) (by kernel_rfl) (by kernel_rfl) (by kernel_rfl)) (by kernel_rfl) rfl (by kernel_rfl) rfl ?_
                  refine Sq.vals [22] (rest := [23, 24, 25, 26]) [bV x16.2.2.2.2.2.1] (fun w => by kernel_rfl) ?_
                  refine Sq.caseB 69 (t := x16.2.2.2.2.2.1) rfl (fun h20 => ?_) (fun h20 => ?_)
                  ·
                    have hno := hR.no (of_decide_eq_true (hR.hit.symm.trans h20))
                    rw [h18] at hno; cases hno
                  ·
                    refine Sq.vals [23, 24, 25, 26] (rest := []) [undef, undef, bV false, bV false] (fun w => by kernel_rfl) ?_
                    refine Sq.done ?_
                    refine Ex'.next ?_
                    refine Cd.condF (by kernel_rfl) ?_
                    refine Cd.skip ?_
                    refine Ex'.blockNormal ?_
                    refine Ex'.meet (mz0, x16.1, x16.2.1, x16.2.2.1, x16.2.2.2.1, x16.2.2.2.2.1, n0 + 2) ?_ (subB_eq (l := [1, 5, 6, 0]) (by kernel_rfl)) (fun w hw => hw.pickB [0, 1, 2, 3, 4, 5] (by kernel_rfl) (by kernel_rfl) (by kernel_rfl))
                    · exact ⟨hR.i, by omega, by omega⟩
                ·
                  refine Sq.vals [12, 13, 14, 15, 16, 17, 18, 19, 20] (rest := [21, 22, 23, 24, 25, 26]) [undef, undef, undef, undef, undef, bV false, bV false, bV false, pV b17 0] (fun w => by kernel_rfl) ?_
                  refine Sq.same [7] (l := [blkR b17 [bV x16.2.2.2.2.2.1, sV x16.2.2.2.2.2.2.1, bV x16.2.2.2.2.2.2.2] 28]) (o_load (i := 0) (v := bV x16.2.2.2.2.2.1) (by kernel_rfl) (by kernel_rfl) (by kernel_rfl)) (by kernel_rfl) rfl (by kernel_rfl) rfl ?_
                  refine Sq.vals [22] (rest := [23, 24, 25, 26]) [bV x16.2.2.2.2.2.1] (fun w => by kernel_rfl) ?_
                  refine Sq.caseB 69 (t := x16.2.2.2.2.2.1) rfl (fun h21 => ?_) (fun h21 => ?_)
                  ·
                    have hno := hR.no (of_decide_eq_true (hR.hit.symm.trans h21))
                    rw [h18] at hno; cases hno
                  ·
                    refine Sq.vals [23, 24, 25, 26] (rest := []) [undef, undef, bV false, bV false] (fun w => by kernel_rfl) ?_
                    refine Sq.done ?_
                    refine Ex'.next ?_
                    refine Cd.condF (by kernel_rfl) ?_
                    refine Cd.skip ?_
                    refine Ex'.blockNormal ?_
                    refine Ex'.meet (mz0, x16.1, x16.2.1, x16.2.2.1, x16.2.2.2.1, x16.2.2.2.2.1, n0 + 2) ?_ (subB_eq (l := [1, 5, 6, 0]) (by kernel_rfl)) (fun w hw => hw.pickB [0, 1, 2, 3, 4, 5] (by kernel_rfl) (by kernel_rfl) (by kernel_rfl))
                    · exact ⟨hR.i, by omega, by omega⟩
              ·
                refine Sq.vals [3, 4, 5, 6, 7, 8, 9, 10, 11] (rest := [12, 13, 14, 15, 16, 17, 18, 19, 20, 21, 22, 23, 24, 25, 26]) [undef, undef, undef, undef, bV false, bV false, iV mz0, bV (decide (mz0 > 0)), bV (decide (mz0 > 0))] (fun w => by kernel_rfl) ?_
                refine Sq.case 58 (p := mz0 > 0) rfl (fun h22 => ?_) (fun h22 => ?_)
                ·
                  have hhere := hR.here h22
                  refine Sq.vals [12, 13] (rest := [14, 15, 16, 17, 18, 19, 20, 21, 22, 23, 24, 25, 26]) [pV b5 0, pV b14 1] (fun w => by kernel_rfl) ?_
                  refine Sq.same [6] (l := [blkR b14 [iV kdk, sV kyk, iV nnk] 42]) (o_load (i := 1) (v := sV kyk) (by kernel_rfl) (by kernel_rfl) (by kernel_rfl)) (by kernel_rfl) rfl (by kernel_rfl) rfl ?_
                  refine Sq.same [1, 2, 3, 4, 5] (l := arcL b5 lt16 lt27 lb18 lb29 mz0 x16.1 x16.2.1 x16.2.2.1 x16.2.2.2.1 x16.2.2.2.2.1 (n0 + 2)) (o_call (by kernel_rfl) Try.call16 ((Tri.eq (l2 := arcL b5 lt16 lt27 lb18 lb29 mz0 x16.1 x16.2.1 x16.2.2.1 x16.2.2.2.1 x16.2.2.2.2.1 (n0 + 2)) (r' := bV (decide (kyk ∈ x16.2.1 ∨ kyk ∈ x16.2.2.1))) (arc_Has (n := n0 + 2) (most := mz0) (p := x16.1) (t1 := x16.2.1) (t2 := x16.2.2.1) (b1 := x16.2.2.2.1) (b2 := x16.2.2.2.2.1) kyk (by omega)) (by first | simp only [arcHas_eq] | rfl) (by first | simp only [arcHas_eq] | rfl)).re (vT hhere))) (by kernel_rfl) rfl (by kernel_rfl) rfl ?_
                  refine Sq.vals [16, 17, 18, 19, 20] (rest := [21, 22, 23, 24, 25, 26]) [bV false, bV false, bV false, bV false, pV b17 0] (fun w => by kernel_rfl) ?_
                  refine Sq.same [7] (l := [blkR b17 [bV x16.2.2.2.2.2.1, sV x16.2.2.2.2.2.2.1, bV x16.2.2.2.2.2.2.2] 28]) (o_load (i := 0) (v := bV x16.2.2.2.2.2.1) (by kernel_rfl) (by kernel_rfl) (by kernel_rfl)) (by kernel_rfl) rfl (by kernel_rfl) rfl ?_
                  refine Sq.vals [22] (rest := [23, 24, 25, 26]) [bV x16.2.2.2.2.2.1] (fun w => by kernel_rfl) ?_
                  refine Sq.caseB 69 (t := x16.2.2.2.2.2.1) rfl (fun h23 => ?_) (fun h23 => ?_)
                  ·
                    refine Sq.vals [23] (rest := [24, 25, 26]) [pV b17 2] (fun w => by kernel_rfl) ?_
                    refine Sq.same [7] (l := [blkR b17 [bV x16.2.2.2.2.2.1, sV x16.2.2.2.2.2.2.1, bV x16.2.2.2.2.2.2.2] 28]) (o_load (i := 2) (v := bV x16.2.2.2.2.2.2.2) (by kernel_rfl) (by kernel_rfl) (by kernel_rfl)) (by kernel_rfl) rfl (by kernel_rfl) rfl ?_
                    refine Sq.vals [25, 26] (rest := []) [bV x16.2.2.2.2.2.2.2, bV x16.2.2.2.2.2.2.2] (fun w => by kernel_rfl) ?_
                    refine Sq.done ?_
                    refine Ex'.next ?_
                    refine Cd.condF (by rw [show ev _ _ = some (.bool (x16.2.2.2.2.2.2.2)) from by kernel_rfl, show x16.2.2.2.2.2.2.2 = false from h18]) ?_
                    refine Cd.skip ?_
                    refine Ex'.blockNormal ?_
                    refine Ex'.meet (mz0, x16.1, x16.2.1, x16.2.2.1, x16.2.2.2.1, x16.2.2.2.2.1, n0 + 2) ?_ (subB_eq (l := [1, 5, 6, 0]) (by kernel_rfl)) (fun w hw => hw.pickB [0, 1, 2, 3, 4, 5] (by kernel_rfl) (by kernel_rfl) (by kernel_rfl))
                    · exact ⟨hR.i, by omega, by omega⟩
                  ·
                    refine Sq.vals [23, 24, 25, 26] (rest := []) [undef, undef, bV false, bV false] (fun w => by kernel_rfl) ?_
                    refine Sq.done ?_
                    refine Ex'.next ?_
                    refine Cd.condF (by kernel_rfl) ?_
                    refine Cd.skip ?_
                    refine Ex'.blockNormal ?_
                    refine Ex'.meet (mz0, x16.1, x16.2.1, x16.2.2.1, x16.2.2.2.1, x16.2.2.2.2.1, n0 + 2) ?_ (subB_eq (l := [1, 5, 6, 0]) (by kernel_rfl)) (fun w hw => hw.pickB [0, 1, 2, 3, 4, 5] (by kernel_rfl) (by kernel_rfl) (by kernel_rfl))
                    · exact ⟨hR.i, by omega, by omega⟩
                ·
                  refine Sq.vals [12, 13, 14, 15, 16, 17, 18, 19, 20] (rest := [21, 22, 23, 24, 25, 26]) [undef, undef, undef, undef, undef, bV false, bV false, bV false, pV b17 0] (fun w => by kernel_rfl) ?_
                  refine Sq.same [7] (l := [blkR b17 [bV x16.2.2.2.2.2.1, sV x16.2.2.2.2.2.2.1, bV x16.2.2.2.2.2.2.2] 28]) (o_load (i := 0) (v := bV x16.2.2.2.2.2.1) (by kernel_rfl) (by kernel_rfl) (by kernel_rfl)) (by kernel_rfl) rfl (by kernel_rfl) rfl ?_
                  refine Sq.vals [22] (rest := [23, 24, 25, 26]) [bV x16.2.2.2.2.2.1] (fun w => by kernel_rfl) ?_
                  refine Sq.caseB 69 (t := x16.2.2.2.2.2.1) rfl (fun h25 => ?_) (fun h25 => ?_)
                  ·
                    refine Sq.vals [23] (rest := [24, 25, 26]) [pV b17 2] (fun w => by kernel_rfl) ?_
                    refine Sq.same [7] (l := [blkR b17 [bV x16.2.2.2.2.2.1, sV x16.2.2.2.2.2.2.1, bV x16.2.2.2.2.2.2.2] 28]) (o_load (i := 2) (v := bV x16.2.2.2.2.2.2.2) (by kernel_rfl) (by kernel_rfl) (by kernel_rfl)) (by kernel_rfl) rfl (by kernel_rfl) rfl ?_
                    refine Sq.vals [25, 26] (rest := []) [bV x16.2.2.2.2.2.2.2, bV x16.2.2.2.2.2.2.2] (fun w => by kernel_rfl) ?_
                    refine Sq.done ?_
                    refine Ex'.next ?_
                    refine Cd.condF (by rw [show ev _ _ = some (.bool (x16.2.2.2.2.2.2.2)) from by kernel_rfl, show x16.2.2.2.2.2.2.2 = false from h18]) ?_
                    refine Cd.skip ?_
                    refine Ex'.blockNormal ?_
                    refine Ex'.meet (mz0, x16.1, x16.2.1, x16.2.2.1, x16.2.2.2.1, x16.2.2.2.2.1, n0 + 2) ?_ (subB_eq (l := [1, 5, 6, 0]) (by kernel_rfl)) (fun w hw => hw.pickB [0, 1, 2, 3, 4, 5] (by kernel_rfl) (by kernel_rfl) (by kernel_rfl))
                    · exact ⟨hR.i, by omega, by omega⟩
                  ·
                    refine Sq.vals [23, 24, 25, 26] (rest := []) [undef, undef, bV false, bV false] (fun w => by kernel_rfl) ?_
                    refine Sq.done ?_
                    refine Ex'.next ?_
                    refine Cd.condF (by kernel_rfl) ?_
                    refine Cd.skip ?_
                    refine Ex'.blockNormal ?_
                    refine Ex'.meet (mz0, x16.1, x16.2.1, x16.2.2.1, x16.2.2.2.1, x16.2.2.2.2.1, n0 + 2) ?_ (subB_eq (l := [1, 5, 6, 0]) (by kernel_rfl)) (fun w hw => hw.pickB [0, 1, 2, 3, 4, 5] (by kernel_rfl) (by kernel_rfl) (by kernel_rfl))
                    · exact ⟨hR.i, by omega, by omega⟩
            ·
              refine Cd.seq ?_
              refine Cd.region rfl ?_
              refine Sq.v (r := bV (decide (kdk = 1))) (o_eqI (k := .i64) (a := kdk) (b := 1) (by kernel_rfl) (by kernel_rfl)) rfl (by kernel_rfl) ?_
              refine Sq.vals [1] (rest := []) [bV (decide (kdk = 1))] (fun w => by kernel_rfl) ?_
              refine Sq.done ?_
              refine Ex'.next ?_
              refine Cd.case (p := kdk = 1) (by kernel_rfl) (fun h27 => ?_) (fun h27 => ?_)
              ·
                refine Cd.seq ?_
                refine Cd.region rfl ?_
                refine Sq.vals [0, 1] (rest := [2, 3]) [pV b5 0, pV b14 1] (fun w => by kernel_rfl) ?_
                refine Sq.same [6] (l := [blkR b14 [iV kdk, sV kyk, iV nnk] 42]) (o_load (i := 1) (v := sV kyk) (by kernel_rfl) (by kernel_rfl) (by kernel_rfl)) (by kernel_rfl) rfl (by kernel_rfl) rfl ?_
                refine Sq.same [1, 2, 3, 4, 5] (l := arcL b5 lt16 lt27 lb18 lb29 mz0 p0 t1x0 t2x0 b1x0 b2x0 n0) (o_call (by kernel_rfl) Try.call19 (arc_Remove (n := n0) (most := mz0) (p := p0) (t1 := t1x0) (t2 := t2x0) (b1 := b1x0) (b2 := b2x0) kyk (by omega))) (by kernel_rfl) rfl (by kernel_rfl) rfl ?_
                generalize hxx28 : arcRemove mz0 p0 t1x0 t2x0 b1x0 b2x0 kyk = x28
                obtain ⟨hM, hMx⟩ := ArcI.remove hI kyk hxx28
                refine Sq.done ?_
                refine Ex'.next ?_
                refine Cd.seq ?_
                refine Cd.region rfl ?_
                refine Sq.vals [0, 1] (rest := [2, 3]) [pV b5 0, pV b14 1] (fun w => by kernel_rfl) ?_
                refine Sq.same [6] (l := [blkR b14 [iV kdk, sV kyk, iV nnk] 42]) (o_load (i := 1) (v := sV kyk) (by kernel_rfl) (by kernel_rfl) (by kernel_rfl)) (by kernel_rfl) rfl (by kernel_rfl) rfl ?_
                refine Sq.same [1, 2, 3, 4, 5] (l := arcL b5 lt16 lt27 lb18 lb29 mz0 p0 x28.1 x28.2.1 x28.2.2.1 x28.2.2.2.1 n0) (o_call (by kernel_rfl) Try.call16 ((Tri.eq (l2 := arcL b5 lt16 lt27 lb18 lb29 mz0 p0 x28.1 x28.2.1 x28.2.2.1 x28.2.2.2.1 n0) (r' := bV (decide (kyk ∈ x28.1 ∨ kyk ∈ x28.2.1))) (arc_Has (n := n0) (most := mz0) (p := p0) (t1 := x28.1) (t2 := x28.2.1) (b1 := x28.2.2.1) (b2 := x28.2.2.2.1) kyk (by omega)) (by first | simp only [arcHas_eq] | rfl) (by first | simp only [arcHas_eq] | rfl)).re (vF (fun q => by rw [hMx] at q; rcases q with q | q <;> exact (mem_rm.1 q).2 rfl)))) (by kernel_rfl) rfl (by kernel_rfl) rfl ?_
                refine Sq.done ?_
                refine Ex'.next ?_
                refine Cd.condF (by kernel_rfl) ?_
                refine Cd.skip ?_
                refine Ex'.blockNormal ?_
                refine Ex'.meet (mz0, p0, x28.1, x28.2.1, x28.2.2.1, x28.2.2.2.1, n0) ?_ (subB_eq (l := [1, 5, 6, 0]) (by kernel_rfl)) (fun w hw => hw.pickB [0, 1, 2, 3, 4, 5] (by kernel_rfl) (by kernel_rfl) (by kernel_rfl))
                · exact ⟨hM, by omega, by omega⟩
              ·
                refine Cd.seq ?_
                refine Cd.region rfl ?_
                refine Sq.v (r := bV (decide (kdk = 2))) (o_eqI (k := .i64) (a := kdk) (b := 2) (by kernel_rfl) (by kernel_rfl)) rfl (by kernel_rfl) ?_
                refine Sq.vals [1] (rest := []) [bV (decide (kdk = 2))] (fun w => by kernel_rfl) ?_
                refine Sq.done ?_
                refine Ex'.next ?_
                refine Cd.case (p := kdk = 2) (by kernel_rfl) (fun h29 => ?_) (fun h29 => ?_)
                ·
                  refine Cd.region rfl ?_
                  refine Sq.vals [0, 1] (rest := [2, 3]) [pV b5 0, pV b14 1] (fun w => by kernel_rfl) ?_
                  refine Sq.same [6] (l := [blkR b14 [iV kdk, sV kyk, iV nnk] 42]) (o_load (i := 1) (v := sV kyk) (by kernel_rfl) (by kernel_rfl) (by kernel_rfl)) (by kernel_rfl) rfl (by kernel_rfl) rfl ?_
                  refine Sq.same [1, 2, 3, 4, 5] (l := arcL b5 lt16 lt27 lb18 lb29 mz0 p0 t1x0 t2x0 b1x0 b2x0 n0) (o_call (by kernel_rfl) Try.call20 (arc_Adopt (n := n0) (n' := n0 + 1) (most := mz0) (p := p0) (t1 := t1x0) (t2 := t2x0) (b1 := b1x0) (b2 := b2x0) kyk (by omega) (by omega) (by omega))) (by kernel_rfl) rfl (by kernel_rfl) rfl ?_
                  generalize hxx30 : arcAdopt mz0 p0 t1x0 t2x0 b1x0 b2x0 kyk = x30
                  have hM := ArcI.adopt hI kyk hxx30
                  refine Sq.done ?_
                  refine Ex'.blockNormal ?_
                  refine Ex'.meet (mz0, p0, x30.1, x30.2.1, x30.2.2.1, x30.2.2.2.1, n0 + 1) ?_ (subB_eq (l := [1, 5, 6, 0]) (by kernel_rfl)) (fun w hw => hw.pickB [0, 1, 2, 3, 4, 5] (by kernel_rfl) (by kernel_rfl) (by kernel_rfl))
                  · exact ⟨hM, by omega, by omega⟩
                ·
                  refine Cd.seq ?_
                  refine Cd.region rfl ?_
                  refine Sq.v (r := bV (decide (kdk = 3))) (o_eqI (k := .i64) (a := kdk) (b := 3) (by kernel_rfl) (by kernel_rfl)) rfl (by kernel_rfl) ?_
                  refine Sq.vals [1] (rest := []) [bV (decide (kdk = 3))] (fun w => by kernel_rfl) ?_
                  refine Sq.done ?_
                  refine Ex'.next ?_
                  refine Cd.case (p := kdk = 3) (by kernel_rfl) (fun h31 => ?_) (fun h31 => ?_)
                  ·
                    refine Cd.region rfl ?_
                    refine Sq.vals [0] (rest := [1]) [pV b5 0] (fun w => by kernel_rfl) ?_
                    refine Sq.same [1, 2, 3, 4, 5] (l := arcL b5 lt16 lt27 lb18 lb29 mz0 p0 t1x0 t2x0 b1x0 b2x0 n0) (o_call (by kernel_rfl) Try.call21 (arc_Drop (n := n0) (most := mz0) (p := p0) (t1 := t1x0) (t2 := t2x0) (b1 := b1x0) (b2 := b2x0) (by omega))) (by kernel_rfl) rfl (by kernel_rfl) rfl ?_
                    generalize hxx32 : arcDrop mz0 p0 t1x0 t2x0 b1x0 b2x0 = x32
                    have hM := ArcI.drop hI hxx32
                    refine Sq.done ?_
                    refine Ex'.blockNormal ?_
                    refine Ex'.meet (mz0, p0, x32.1, x32.2.1, b1x0, b2x0, n0) ?_ (subB_eq (l := [1, 5, 6, 0]) (by kernel_rfl)) (fun w hw => hw.pickB [0, 1, 2, 3, 4, 5] (by kernel_rfl) (by kernel_rfl) (by kernel_rfl))
                    · exact ⟨hM, by omega, by omega⟩
                  ·
                    refine Cd.seq ?_
                    refine Cd.region rfl ?_
                    refine Sq.v (r := bV (decide (kdk = 4))) (o_eqI (k := .i64) (a := kdk) (b := 4) (by kernel_rfl) (by kernel_rfl)) rfl (by kernel_rfl) ?_
                    refine Sq.vals [1] (rest := []) [bV (decide (kdk = 4))] (fun w => by kernel_rfl) ?_
                    refine Sq.done ?_
                    refine Ex'.next ?_
                    refine Cd.case (p := kdk = 4) (by kernel_rfl) (fun h33 => ?_) (fun h33 => ?_)
                    ·
                      refine Cd.seq ?_
                      refine Cd.seq ?_
                      refine Cd.region rfl ?_
                      refine Sq.vals [0] (rest := [1, 2, 3, 4, 5, 6, 7]) [pV b14 2] (fun w => by kernel_rfl) ?_
                      refine Sq.same [6] (l := [blkR b14 [iV kdk, sV kyk, iV nnk] 42]) (o_load (i := 2) (v := iV nnk) (by kernel_rfl) (by kernel_rfl) (by kernel_rfl)) (by kernel_rfl) rfl (by kernel_rfl) rfl ?_
                      refine Sq.vals [2, 3] (rest := [4, 5, 6, 7]) [bV (decide (nnk < 0)), bV (decide (nnk < 0))] (fun w => by kernel_rfl) ?_
                      refine Sq.case 99 (p := nnk < 0) rfl (fun h34 => ?_) (fun h34 => ?_)
                      ·
                        refine Sq.vals [4, 5, 6, 7] (rest := []) [undef, undef, undef, bV true] (fun w => by kernel_rfl) ?_
                        refine Sq.done ?_
                        refine Ex'.next ?_
                        refine Cd.condT (by kernel_rfl) ?_
                        refine Cd.exit ?_
                        refine Ex'.thenExit ?_
                        refine Ex'.blockMiss rfl ?_
                        refine Ex'.thenExit ?_
                        refine Ex'.blockHit ?_
                        refine Ex'.next ?_
                        refine Cd.region rfl ?_
                        refine Sq.vals [0] (rest := [1, 2]) [iV (k : Int)] (fun w => by kernel_rfl) ?_
                        refine Sq.v (r := iV ((k : Int) + 1)) (o_add (k := .i64) (a := (k : Int)) (b := 1) (c := (k : Int) + 1) (by kernel_rfl) (by kernel_rfl) (w64 rfl (by omega))) rfl (by kernel_rfl) ?_
                        refine Sq.vals [2] (rest := []) [iV ((k : Int) + 1)] (fun w => by kernel_rfl) ?_
                        refine Sq.done ?_
                        refine Ex'.round (g := (k, mz0, p0, t1x0, t2x0, b1x0, b2x0, n0)) (k + 1, mz0, p0, t1x0, t2x0, b1x0, b2x0, n0) ?_ ?_ (subB_eq (l := [1, 5, 6, 0]) (by kernel_rfl)) (fun w hw => hw.pickB [0, 1, 2, 3, 4, 5] (by kernel_rfl) (by kernel_rfl) (by kernel_rfl))
                        · (try dsimp only); exact ⟨by omega, hI, hmz, by omega⟩
                        · omega
                      ·
                        refine Sq.vals [4] (rest := [5, 6, 7]) [pV b14 2] (fun w => by kernel_rfl) ?_
                        refine Sq.same [6] (l := [blkR b14 [iV kdk, sV kyk, iV nnk] 42]) (o_load (i := 2) (v := iV nnk) (by kernel_rfl) (by kernel_rfl) (by kernel_rfl)) (by kernel_rfl) rfl (by kernel_rfl) rfl ?_
                        refine Sq.vals [6, 7] (rest := []) [bV (decide (nnk > 1000)), bV (decide (nnk > 1000))] (fun w => by kernel_rfl) ?_
                        refine Sq.done ?_
                        refine Ex'.next ?_
                        refine Cd.case (p := nnk > 1000) (by kernel_rfl) (fun h35 => ?_) (fun h35 => ?_)
                        ·
                          refine Cd.exit ?_
                          refine Ex'.thenExit ?_
                          refine Ex'.blockMiss rfl ?_
                          refine Ex'.thenExit ?_
                          refine Ex'.blockHit ?_
                          refine Ex'.next ?_
                          refine Cd.region rfl ?_
                          refine Sq.vals [0] (rest := [1, 2]) [iV (k : Int)] (fun w => by kernel_rfl) ?_
                          refine Sq.v (r := iV ((k : Int) + 1)) (o_add (k := .i64) (a := (k : Int)) (b := 1) (c := (k : Int) + 1) (by kernel_rfl) (by kernel_rfl) (w64 rfl (by omega))) rfl (by kernel_rfl) ?_
                          refine Sq.vals [2] (rest := []) [iV ((k : Int) + 1)] (fun w => by kernel_rfl) ?_
                          refine Sq.done ?_
                          refine Ex'.round (g := (k, mz0, p0, t1x0, t2x0, b1x0, b2x0, n0)) (k + 1, mz0, p0, t1x0, t2x0, b1x0, b2x0, n0) ?_ ?_ (subB_eq (l := [1, 5, 6, 0]) (by kernel_rfl)) (fun w hw => hw.pickB [0, 1, 2, 3, 4, 5] (by kernel_rfl) (by kernel_rfl) (by kernel_rfl))
                          · (try dsimp only); exact ⟨by omega, hI, hmz, by omega⟩
                          · omega
                        ·
                          refine Cd.skip ?_
                          refine Ex'.next ?_
                          refine Cd.seq ?_
                          refine Cd.region rfl ?_
                          refine Sq.vals [0] (rest := [1, 2]) [pV b14 2] (fun w => by kernel_rfl) ?_
                          refine Sq.same [6] (l := [blkR b14 [iV kdk, sV kyk, iV nnk] 42]) (o_load (i := 2) (v := iV nnk) (by kernel_rfl) (by kernel_rfl) (by kernel_rfl)) (by kernel_rfl) rfl (by kernel_rfl) rfl ?_
                          refine Sq.vals [2] (rest := []) [iV nnk] (fun w => by kernel_rfl) ?_
                          refine Sq.done ?_
                          refine Ex'.next ?_
                          refine Cd.region rfl ?_
                          refine Sq.vals [0, 1] (rest := [2]) [pV b5 0, iV nnk] (fun w => by kernel_rfl) ?_
                          refine Sq.ex [1, 2, 3, 4, 5] (l := arcL b5 lt16 lt27 lb18 lb29 mz0 p0 t1x0 t2x0 b1x0 b2x0 n0) (o_call (by kernel_rfl) Try.call22 (arc_Resize (n := n0) (n' := n0 + t1x0.length + t2x0.length) (most := mz0) (p := p0) (t1 := t1x0) (t2 := t2x0) (b1 := b1x0) (b2 := b2x0) nnk (by omega) (by omega) (by omega) (by omega))) (by kernel_rfl) rfl (by kernel_rfl) (fun _ => Nat.le_of_ble_eq_true (by kernel_rfl)) ?_; rintro v36 _
                          generalize hxx37 : arcResize mz0 p0 t1x0 t2x0 b1x0 b2x0 nnk = x37
                          obtain ⟨hM, hx1⟩ := ArcI.resize hI (by omega) hxx37
                          refine Sq.fact (i := 7) (R := rowR 9 1 v36 ((x37.2.2.2.2.2.2).length) ((x37.2.2.2.2.2.2).map Value.string)) (by kernel_rfl) row_slice ?_; rintro ⟨a38, c39, rfl, hc39, hc39'⟩
                          have hc39'' : c39 ≤ 9223372036854775807 := hc39'
                          refine Sq.done ?_
                          refine Ex'.blockNormal ?_
                          refine Ex'.meet (nnk, x37.2.1, x37.2.2.1, x37.2.2.2.1, x37.2.2.2.2.1, x37.2.2.2.2.2.1, n0 + t1x0.length + t2x0.length) ?_ (subB_eq (l := [1, 5, 6, 0]) (by kernel_rfl)) (fun w hw => (hw.conv 1 (R := arcB b5 lt16 lt27 lb18 lb29 x37.1 x37.2.1) (R' := arcB b5 lt16 lt27 lb18 lb29 nnk x37.2.1) (by kernel_rfl) (fun w T q => by rw [← hx1]; exact q)).pickB [0, 1, 2, 3, 4, 5] (by kernel_rfl) (by kernel_rfl) (by kernel_rfl))
                          · exact ⟨hM, by omega, by omega⟩
                    ·
                      refine Cd.skip ?_
                      refine Ex'.blockNormal ?_
                      refine Ex'.meet (mz0, p0, t1x0, t2x0, b1x0, b2x0, n0) ?_ (subB_eq (l := [1, 5, 6, 0]) (by kernel_rfl)) (fun w hw => hw.pickB [0, 1, 2, 3, 4, 5] (by kernel_rfl) (by kernel_rfl) (by kernel_rfl))
                      · exact ⟨hI, by omega, by omega⟩
          rintro ⟨mz1, p1, t1x1, t2x1, b1x1, b2x1, n1⟩ hL40
          try dsimp only at hL40 ⊢
          obtain ⟨hJ, hmz1, hn1⟩ := hL40
          have hJ0 := hJ.p0; have hJm := hJ.pm; have hJh := hJ.h0; have hJl := hJ.len; have hJa := hJ.all
          have hq1 : (t1x1.reverse ++ t2x1.reverse).length = t1x1.length + t2x1.length := by rw [List.length_append, List.length_reverse, List.length_reverse]
          have hq2 : (b1x1 ++ b2x1).length = b1x1.length + b2x1.length := List.length_append
          refine Cd.seq ?_
          refine Cd.region rfl ?_
          refine Sq.vals [0] (rest := [1, 2, 3, 4, 5]) [pV b5 0] (fun w => by kernel_rfl) ?_
          refine Sq.ex [1, 2, 3, 4, 5] (l := arcL b5 lt16 lt27 lb18 lb29 mz1 p1 t1x1 t2x1 b1x1 b2x1 n1) (o_call (by kernel_rfl) Try.call15 (Tri.ex (L' := fun v => arcL b5 lt16 lt27 lb18 lb29 mz1 p1 t1x1 t2x1 b1x1 b2x1 n1 ++ [rowR 9 1 v (t1x1.reverse ++ t2x1.reverse).length ((t1x1.reverse ++ t2x1.reverse).map Value.string)]) (arc_Keys (n := n1) (most := mz1) (p := p1) (t1 := t1x1) (t2 := t2x1) (b1 := b1x1) (b2 := b2x1) (by omega)) (fun v => rfl))) (by kernel_rfl) rfl (by kernel_rfl) (fun _ => Nat.le_of_ble_eq_true (by kernel_rfl)) ?_; rintro v41 _
          refine Sq.fact (i := 6) (R := rowR 9 1 v41 ((t1x1.reverse ++ t2x1.reverse).length) ((t1x1.reverse ++ t2x1.reverse).map Value.string)) (by kernel_rfl) row_slice ?_; rintro ⟨a42, c43, rfl, hc43, hc43'⟩
          have hc43'' : c43 ≤ 9223372036854775807 := hc43'
          refine Sq.vals [2] (rest := [3, 4, 5]) [pV b5 0] (fun w => by kernel_rfl) ?_
          refine Sq.ex [1, 2, 3, 4, 5] (l := arcL b5 lt16 lt27 lb18 lb29 mz1 p1 t1x1 t2x1 b1x1 b2x1 n1) (o_call (by kernel_rfl) Try.call13 (Tri.ex (L' := fun v => arcL b5 lt16 lt27 lb18 lb29 mz1 p1 t1x1 t2x1 b1x1 b2x1 n1 ++ [rowR 9 1 v (b1x1 ++ b2x1).length ((b1x1 ++ b2x1).map Value.string)]) (arc_Ghosts (n := n1) (most := mz1) (p := p1) (t1 := t1x1) (t2 := t2x1) (b1 := b1x1) (b2 := b2x1) (by omega)) (fun v => rfl))) (by kernel_rfl) rfl (by kernel_rfl) (fun _ => Nat.le_of_ble_eq_true (by kernel_rfl)) ?_; rintro v44 _
          refine Sq.fact (i := 7) (R := rowR 9 1 v44 ((b1x1 ++ b2x1).length) ((b1x1 ++ b2x1).map Value.string)) (by kernel_rfl) row_slice ?_; rintro ⟨a45, c46, rfl, hc46, hc46'⟩
          have hc46'' : c46 ≤ 9223372036854775807 := hc46'
          refine Sq.ex [6, 7] (l := [rowR 9 1 (.slice a42 ((t1x1.reverse ++ t2x1.reverse).length) c43) ((t1x1.reverse ++ t2x1.reverse).length) ((t1x1.reverse ++ t2x1.reverse).map Value.string), rowR 9 1 (.slice a45 ((b1x1 ++ b2x1).length) c46) ((b1x1 ++ b2x1).length) ((b1x1 ++ b2x1).map Value.string)]) (o_pushAll (n' := ((t1x1.reverse ++ t2x1.reverse) ++ (b1x1 ++ b2x1)).length) (xs' := ((t1x1.reverse ++ t2x1.reverse) ++ (b1x1 ++ b2x1)).map Value.string) (m := (b1x1 ++ b2x1).length) (news := (b1x1 ++ b2x1).map Value.string) (by kernel_rfl) (by kernel_rfl) (fun w S h => ⟨S, Row.cells h⟩) sl_str (by decide) (ones _) (by unfold maxLen; omega) (by omega) (by first | exact List.length_append.symm | simp) (by simp)) (by kernel_rfl) rfl (by kernel_rfl) (fun _ => Nat.le_of_ble_eq_true (by kernel_rfl)) ?_; rintro v47 _
          refine Sq.fact (i := 6) (R := rowR 9 1 v47 (((t1x1.reverse ++ t2x1.reverse) ++ (b1x1 ++ b2x1)).length) (((t1x1.reverse ++ t2x1.reverse) ++ (b1x1 ++ b2x1)).map Value.string)) (by kernel_rfl) row_slice ?_; rintro ⟨a48, c49, rfl, hc49, hc49'⟩
          have hc49'' : c49 ≤ 9223372036854775807 := hc49'
          refine Sq.vals [5] (rest := []) [.slice a48 (((t1x1.reverse ++ t2x1.reverse) ++ (b1x1 ++ b2x1)).length) c49] (fun w => by kernel_rfl) ?_
          refine Sq.done ?_
          refine Ex'.next ?_
          refine Cd.seq ?_
          refine Cd.region rfl ?_
          refine Sq.ex [] (l := []) (o_newMap Value.string Value.bool) (by kernel_rfl) rfl (by kernel_rfl) (fun _ => Nat.zero_le _) ?_; intro b50 _
          refine Sq.vals [1] (rest := []) [.map (some b50)] (fun w => by kernel_rfl) ?_
          refine Sq.done ?_
          refine Ex'.next ?_
          refine Cd.seq ?_
          refine Cd.seq ?_
          refine Cd.region rfl ?_
          refine Sq.vals [0] (rest := []) [iV 0] (fun w => by kernel_rfl) ?_
          refine Sq.done ?_
          refine Ex'.next ?_
          refine Cd.block ?_
          refine Cd.loop (ι := Nat × (List (ByteArray × Bool))) (fun ⟨j, sn⟩ => SeenI ((t1x1.reverse ++ t2x1.reverse) ++ (b1x1 ++ b2x1)) sn j) (fun ⟨j, sn⟩ => ((t1x1.reverse ++ t2x1.reverse) ++ (b1x1 ++ b2x1)).length - j) (fun ⟨j, sn⟩ => [(1, .slice (some ⟨g12, off13, none⟩) xs.length cap), (5, pV b5 0), (6, iV (k : Int)), (0, iV mz1), (9, .slice a48 (((t1x1.reverse ++ t2x1.reverse) ++ (b1x1 ++ b2x1)).length) c49), (10, .map (some b50)), (11, iV (j : Int))]) (fun ⟨j, sn⟩ => [oldR w0, arcB b5 lt16 lt27 lb18 lb29 mz1 p1, llR lt16 t1x1 n1, llR lt27 t2x1 n1, llR lb18 b1x1 n1, llR lb29 b2x1 n1, rowR 9 1 (.slice a48 (((t1x1.reverse ++ t2x1.reverse) ++ (b1x1 ++ b2x1)).length) c49) (((t1x1.reverse ++ t2x1.reverse) ++ (b1x1 ++ b2x1)).length) (((t1x1.reverse ++ t2x1.reverse) ++ (b1x1 ++ b2x1)).map Value.string), rowR 9 1 (.slice a45 ((b1x1 ++ b2x1).length) c46) ((b1x1 ++ b2x1).length) ((b1x1 ++ b2x1).map Value.string), mapR Value.string Value.bool b50 sn]) (0, []) (SeenI.new) (subB_eq (l := [1, 5, 6, 0, 9, 10, 11]) (by kernel_rfl)) (fun w hw => hw.pickB [0, 1, 2, 3, 4, 5, 6, 7, 8] (by kernel_rfl) (by kernel_rfl) (by kernel_rfl)) ?_
          rintro ⟨j, sn⟩ hL51
          try dsimp only at hL51 ⊢
          have hS := hL51
          have hj := hS.le
          refine Cd.seq ?_
          refine Cd.seq ?_
          refine Cd.region rfl ?_
          refine Sq.vals [0, 1, 2, 3] (rest := []) [iV (j : Int), .slice a48 (((t1x1.reverse ++ t2x1.reverse) ++ (b1x1 ++ b2x1)).length) c49, iV (((t1x1.reverse ++ t2x1.reverse) ++ (b1x1 ++ b2x1)).length : Int), bV (decide ((j : Int) < (((t1x1.reverse ++ t2x1.reverse) ++ (b1x1 ++ b2x1)).length : Int)))] (fun w => by kernel_rfl) ?_
          refine Sq.done ?_
          refine Ex'.next ?_
          refine Cd.case (p := (j : Int) < (((t1x1.reverse ++ t2x1.reverse) ++ (b1x1 ++ b2x1)).length : Int)) (by kernel_rfl) (fun h52 => ?_) (fun h52 => ?_)
          ·
            have hfr := hS.fresh hJ.n.nodup (by omega)
            have hPQ : decide (((t1x1.reverse ++ t2x1.reverse) ++ (b1x1 ++ b2x1)).getD j ⟨#[]⟩ ∈ t1x1 ∨ ((t1x1.reverse ++ t2x1.reverse) ++ (b1x1 ++ b2x1)).getD j ⟨#[]⟩ ∈ t2x1) = decide ((j : Int) < (t1x1.length : Int) + t2x1.length) := by rw [decide_eq_decide]; exact (hJ.n.here (by omega)).trans (by omega)
            refine Cd.fact (i := 6) (R := rowR 9 1 (.slice a48 (((t1x1.reverse ++ t2x1.reverse) ++ (b1x1 ++ b2x1)).length) c49) (((t1x1.reverse ++ t2x1.reverse) ++ (b1x1 ++ b2x1)).length) (((t1x1.reverse ++ t2x1.reverse) ++ (b1x1 ++ b2x1)).map Value.string)) (by kernel_rfl) (row_addr (by omega)) ?_; rintro ⟨b53, rfl⟩
            refine Cd.skip ?_
            refine Ex'.next ?_
            refine Cd.seq ?_
            refine Cd.block ?_
            refine Cd.seq ?_
            refine Cd.seq ?_
            refine Cd.region rfl ?_
            refine Sq.vals [0, 1, 2] (rest := [3, 4, 5, 6, 7, 8, 9, 10, 11, 12, 13, 14, 15, 16, 17, 18]) [.map (some b50), .slice (some ⟨b53, 0, none⟩) (((t1x1.reverse ++ t2x1.reverse) ++ (b1x1 ++ b2x1)).length) c49, iV (j : Int)] (fun w => by kernel_rfl) ?_
            refine Sq.v (r := pV b53 j) (o_idx (b := b53) (cap := c49) (e := 9) (off := 0) (n := ((t1x1.reverse ++ t2x1.reverse) ++ (b1x1 ++ b2x1)).length) (kd := .i64) (q := (j : Int)) (i := j) (size := 1) (j := j) (by kernel_rfl) (by kernel_rfl) (by rfl) (by omega) Try.underlying22 (by kernel_rfl) (by omega)) rfl (by kernel_rfl) ?_
            refine Sq.same [6] (l := [rowR 9 1 (.slice (some ⟨b53, 0, none⟩) (((t1x1.reverse ++ t2x1.reverse) ++ (b1x1 ++ b2x1)).length) c49) (((t1x1.reverse ++ t2x1.reverse) ++ (b1x1 ++ b2x1)).length) (((t1x1.reverse ++ t2x1.reverse) ++ (b1x1 ++ b2x1)).map Value.string)]) (o_loadRow (i := j) (u := sV (((t1x1.reverse ++ t2x1.reverse) ++ (b1x1 ++ b2x1)).getD j ⟨#[]⟩)) (by kernel_rfl) (by omega) (by kernel_rfl) (get_map (by omega))) (by kernel_rfl) rfl (by kernel_rfl) rfl ?_
            refine Sq.same [8] (l := [mapR Value.string Value.bool b50 sn]) (o_look (fv := Value.bool) (l := sn) false (((t1x1.reverse ++ t2x1.reverse) ++ (b1x1 ++ b2x1)).getD j ⟨#[]⟩) (by kernel_rfl) (by kernel_rfl) (strKey Try.underlying9) Try.underlying46 (fun w => by kernel_rfl)) (by kernel_rfl) rfl (by kernel_rfl) rfl ?_
            refine Sq.vals [6] (rest := [7, 8, 9, 10, 11, 12, 13, 14, 15, 16, 17, 18]) [bV ((lk sn (((t1x1.reverse ++ t2x1.reverse) ++ (b1x1 ++ b2x1)).getD j ⟨#[]⟩)).getD false)] (fun w => by kernel_rfl) ?_
            refine Sq.re 127 rfl (congrArg Value.bool (show ((lk sn (((t1x1.reverse ++ t2x1.reverse) ++ (b1x1 ++ b2x1)).getD j ⟨#[]⟩)).getD false) = false from hfr)) ?_
            refine Sq.vals [7, 8, 9] (rest := [10, 11, 12, 13, 14, 15, 16, 17, 18]) [pV b5 0, .slice (some ⟨b53, 0, none⟩) (((t1x1.reverse ++ t2x1.reverse) ++ (b1x1 ++ b2x1)).length) c49, iV (j : Int)] (fun w => by kernel_rfl) ?_
            refine Sq.v (r := pV b53 j) (o_idx (b := b53) (cap := c49) (e := 9) (off := 0) (n := ((t1x1.reverse ++ t2x1.reverse) ++ (b1x1 ++ b2x1)).length) (kd := .i64) (q := (j : Int)) (i := j) (size := 1) (j := j) (by kernel_rfl) (by kernel_rfl) (by rfl) (by omega) Try.underlying22 (by kernel_rfl) (by omega)) rfl (by kernel_rfl) ?_
            refine Sq.same [6] (l := [rowR 9 1 (.slice (some ⟨b53, 0, none⟩) (((t1x1.reverse ++ t2x1.reverse) ++ (b1x1 ++ b2x1)).length) c49) (((t1x1.reverse ++ t2x1.reverse) ++ (b1x1 ++ b2x1)).length) (((t1x1.reverse ++ t2x1.reverse) ++ (b1x1 ++ b2x1)).map Value.string)]) (o_loadRow (i := j) (u := sV (((t1x1.reverse ++ t2x1.reverse) ++ (b1x1 ++ b2x1)).getD j ⟨#[]⟩)) (by kernel_rfl) (by omega) (by kernel_rfl) (get_map (by omega))) (by kernel_rfl) rfl (by kernel_rfl) rfl ?_
            refine Sq.same [1, 2, 3, 4, 5] (l := arcL b5 lt16 lt27 lb18 lb29 mz1 p1 t1x1 t2x1 b1x1 b2x1 n1) (o_call (by kernel_rfl) Try.call16 (Tri.eq (l2 := arcL b5 lt16 lt27 lb18 lb29 mz1 p1 t1x1 t2x1 b1x1 b2x1 n1) (r' := bV (decide (((t1x1.reverse ++ t2x1.reverse) ++ (b1x1 ++ b2x1)).getD j ⟨#[]⟩ ∈ t1x1 ∨ ((t1x1.reverse ++ t2x1.reverse) ++ (b1x1 ++ b2x1)).getD j ⟨#[]⟩ ∈ t2x1))) (arc_Has (n := n1) (most := mz1) (p := p1) (t1 := t1x1) (t2 := t2x1) (b1 := b1x1) (b2 := b2x1) (((t1x1.reverse ++ t2x1.reverse) ++ (b1x1 ++ b2x1)).getD j ⟨#[]⟩) (by omega)) (by first | simp only [arcHas_eq] | rfl) (by first | simp only [arcHas_eq] | rfl))) (by kernel_rfl) rfl (by kernel_rfl) rfl ?_
            refine Sq.vals [13, 14] (rest := [15, 16, 17, 18]) [iV (j : Int), pV b5 0] (fun w => by kernel_rfl) ?_
            refine Sq.same [1, 2, 3, 4, 5] (l := arcL b5 lt16 lt27 lb18 lb29 mz1 p1 t1x1 t2x1 b1x1 b2x1 n1) (o_call (by kernel_rfl) Try.call23 (Tri.eq (l2 := arcL b5 lt16 lt27 lb18 lb29 mz1 p1 t1x1 t2x1 b1x1 b2x1 n1) (r' := iV ((t1x1.length : Int) + t2x1.length)) (arc_Len (n := n1) (most := mz1) (p := p1) (t1 := t1x1) (t2 := t2x1) (b1 := b1x1) (b2 := b2x1) (by omega)) (rfl) (rfl))) (by kernel_rfl) rfl (by kernel_rfl) rfl ?_
            refine Sq.vals [16, 17, 18] (rest := []) [bV (decide ((j : Int) < (t1x1.length : Int) + t2x1.length)), bV (!((decide (((t1x1.reverse ++ t2x1.reverse) ++ (b1x1 ++ b2x1)).getD j ⟨#[]⟩ ∈ t1x1 ∨ ((t1x1.reverse ++ t2x1.reverse) ++ (b1x1 ++ b2x1)).getD j ⟨#[]⟩ ∈ t2x1)) == (decide ((j : Int) < (t1x1.length : Int) + t2x1.length)))), bV (!((decide (((t1x1.reverse ++ t2x1.reverse) ++ (b1x1 ++ b2x1)).getD j ⟨#[]⟩ ∈ t1x1 ∨ ((t1x1.reverse ++ t2x1.reverse) ++ (b1x1 ++ b2x1)).getD j ⟨#[]⟩ ∈ t2x1)) == (decide ((j : Int) < (t1x1.length : Int) + t2x1.length))))] (fun w => by kernel_rfl) ?_
            refine Sq.done ?_
            refine Ex'.next ?_
            refine Cd.condF (by rw [show ev _ _ = some (.bool ((!((decide (((t1x1.reverse ++ t2x1.reverse) ++ (b1x1 ++ b2x1)).getD j ⟨#[]⟩ ∈ t1x1 ∨ ((t1x1.reverse ++ t2x1.reverse) ++ (b1x1 ++ b2x1)).getD j ⟨#[]⟩ ∈ t2x1)) == (decide ((j : Int) < (t1x1.length : Int) + t2x1.length)))))) from by kernel_rfl, show (!((decide (((t1x1.reverse ++ t2x1.reverse) ++ (b1x1 ++ b2x1)).getD j ⟨#[]⟩ ∈ t1x1 ∨ ((t1x1.reverse ++ t2x1.reverse) ++ (b1x1 ++ b2x1)).getD j ⟨#[]⟩ ∈ t2x1)) == (decide ((j : Int) < (t1x1.length : Int) + t2x1.length)))) = false from (by rw [hPQ]; simp)]) ?_
            refine Cd.skip ?_
            refine Ex'.next ?_
            refine Cd.region rfl ?_
            refine Sq.vals [0, 1, 2] (rest := [3, 4, 5]) [.map (some b50), .slice (some ⟨b53, 0, none⟩) (((t1x1.reverse ++ t2x1.reverse) ++ (b1x1 ++ b2x1)).length) c49, iV (j : Int)] (fun w => by kernel_rfl) ?_
            refine Sq.v (r := pV b53 j) (o_idx (b := b53) (cap := c49) (e := 9) (off := 0) (n := ((t1x1.reverse ++ t2x1.reverse) ++ (b1x1 ++ b2x1)).length) (kd := .i64) (q := (j : Int)) (i := j) (size := 1) (j := j) (by kernel_rfl) (by kernel_rfl) (by rfl) (by omega) Try.underlying22 (by kernel_rfl) (by omega)) rfl (by kernel_rfl) ?_
            refine Sq.same [6] (l := [rowR 9 1 (.slice (some ⟨b53, 0, none⟩) (((t1x1.reverse ++ t2x1.reverse) ++ (b1x1 ++ b2x1)).length) c49) (((t1x1.reverse ++ t2x1.reverse) ++ (b1x1 ++ b2x1)).length) (((t1x1.reverse ++ t2x1.reverse) ++ (b1x1 ++ b2x1)).map Value.string)]) (o_loadRow (i := j) (u := sV (((t1x1.reverse ++ t2x1.reverse) ++ (b1x1 ++ b2x1)).getD j ⟨#[]⟩)) (by kernel_rfl) (by omega) (by kernel_rfl) (get_map (by omega))) (by kernel_rfl) rfl (by kernel_rfl) rfl ?_
            refine Sq.same [8] (l := [mapR Value.string Value.bool b50 sn]) (o_mapUpdate (((t1x1.reverse ++ t2x1.reverse) ++ (b1x1 ++ b2x1)).getD j ⟨#[]⟩) true (by kernel_rfl) (by kernel_rfl) (by kernel_rfl) (strKey Try.underlying9) Try.underlying46) (by kernel_rfl) rfl (by kernel_rfl) rfl ?_
            refine Sq.done ?_
            refine Ex'.blockNormal ?_
            refine Ex'.next ?_
            refine Cd.region rfl ?_
            refine Sq.vals [0] (rest := [1, 2]) [iV (j : Int)] (fun w => by kernel_rfl) ?_
            refine Sq.v (r := iV ((j : Int) + 1)) (o_add (k := .i64) (a := (j : Int)) (b := 1) (c := (j : Int) + 1) (by kernel_rfl) (by kernel_rfl) (w64 rfl (by omega))) rfl (by kernel_rfl) ?_
            refine Sq.vals [2] (rest := []) [iV ((j : Int) + 1)] (fun w => by kernel_rfl) ?_
            refine Sq.done ?_
            refine Ex'.round (g := (j, sn)) (j + 1, put sn (((t1x1.reverse ++ t2x1.reverse) ++ (b1x1 ++ b2x1)).getD j ⟨#[]⟩) true) ?_ ?_ (subB_eq (l := [1, 5, 6, 0, 9, 10, 11]) (by kernel_rfl)) (fun w hw => hw.pickB [0, 1, 2, 3, 4, 5, 6, 7, 8] (by kernel_rfl) (by kernel_rfl) (by kernel_rfl))
            · (try dsimp only); exact hS.step (by omega)
            · omega
          ·
            refine Cd.exit ?_
            refine Ex'.thenExit ?_
            refine Ex'.thenExit ?_
            refine Ex'.blockHit ?_
            refine Ex'.next ?_
            refine Cd.seq ?_
            refine Cd.region rfl ?_
            refine Sq.vals [0] (rest := [1, 2, 3, 4, 5, 6, 7, 8, 9, 10, 11, 12, 13, 14, 15, 16, 17, 18, 19, 20, 21, 22]) [pV b5 0] (fun w => by kernel_rfl) ?_
            refine Sq.same [1, 2, 3, 4, 5] (l := arcL b5 lt16 lt27 lb18 lb29 mz1 p1 t1x1 t2x1 b1x1 b2x1 n1) (o_call (by kernel_rfl) Try.call23 (Tri.eq (l2 := arcL b5 lt16 lt27 lb18 lb29 mz1 p1 t1x1 t2x1 b1x1 b2x1 n1) (r' := iV ((t1x1.length : Int) + t2x1.length)) (arc_Len (n := n1) (most := mz1) (p := p1) (t1 := t1x1) (t2 := t2x1) (b1 := b1x1) (b2 := b2x1) (by omega)) (rfl) (rfl))) (by kernel_rfl) rfl (by kernel_rfl) rfl ?_
            refine Sq.vals [2] (rest := [3, 4, 5, 6, 7, 8, 9, 10, 11, 12, 13, 14, 15, 16, 17, 18, 19, 20, 21, 22]) [iV mz1] (fun w => by kernel_rfl) ?_
            refine Sq.v (r := bV (decide ((t1x1.length : Int) + t2x1.length > mz1))) (pureV (by kernel_rfl) rfl fun w => by kernel_rfl) rfl (by kernel_rfl) ?_
            refine Sq.re 148 rfl (vF (by omega)) ?_
            refine Sq.vals [4, 5] (rest := [6, 7, 8, 9, 10, 11, 12, 13, 14, 15, 16, 17, 18, 19, 20, 21, 22]) [bV false, pV b5 0] (fun w => by kernel_rfl) ?_
            refine Sq.ex [1, 2, 3, 4, 5] (l := arcL b5 lt16 lt27 lb18 lb29 mz1 p1 t1x1 t2x1 b1x1 b2x1 n1) (o_call (by kernel_rfl) Try.call13 (Tri.ex (L' := fun v => arcL b5 lt16 lt27 lb18 lb29 mz1 p1 t1x1 t2x1 b1x1 b2x1 n1 ++ [rowR 9 1 v (b1x1 ++ b2x1).length ((b1x1 ++ b2x1).map Value.string)]) (arc_Ghosts (n := n1) (most := mz1) (p := p1) (t1 := t1x1) (t2 := t2x1) (b1 := b1x1) (b2 := b2x1) (by omega)) (fun v => rfl))) (by kernel_rfl) rfl (by kernel_rfl) (fun _ => Nat.le_of_ble_eq_true (by kernel_rfl)) ?_; rintro v56 _
            refine Sq.fact (i := 9) (R := rowR 9 1 v56 ((b1x1 ++ b2x1).length) ((b1x1 ++ b2x1).map Value.string)) (by kernel_rfl) row_slice ?_; rintro ⟨a57, c58, rfl, hc58, hc58'⟩
            have hc58'' : c58 ≤ 9223372036854775807 := hc58'
            refine Sq.vals [7, 8] (rest := [9, 10, 11, 12, 13, 14, 15, 16, 17, 18, 19, 20, 21, 22]) [iV ((b1x1 ++ b2x1).length : Int), iV mz1] (fun w => by kernel_rfl) ?_
            refine Sq.v (r := iV (2 * mz1)) (o_mul (k := .i64) (a := 2) (b := mz1) (c := 2 * mz1) (by kernel_rfl) (by kernel_rfl) (w64 rfl (by omega))) rfl (by kernel_rfl) ?_
            refine Sq.v (r := bV (decide (((b1x1 ++ b2x1).length : Int) > 2 * mz1))) (pureV (by kernel_rfl) rfl fun w => by kernel_rfl) rfl (by kernel_rfl) ?_
            refine Sq.re 155 rfl (vF (by omega)) ?_
            refine Sq.vals [11, 12, 13] (rest := [14, 15, 16, 17, 18, 19, 20, 21, 22]) [bV false, bV false, pV b5 0] (fun w => by kernel_rfl) ?_
            refine Sq.same [1, 2, 3, 4, 5] (l := arcL b5 lt16 lt27 lb18 lb29 mz1 p1 t1x1 t2x1 b1x1 b2x1 n1) (o_call (by kernel_rfl) Try.call11 (Tri.eq (l2 := arcL b5 lt16 lt27 lb18 lb29 mz1 p1 t1x1 t2x1 b1x1 b2x1 n1) (r' := iV p1) (arc_Share (n := n1) (most := mz1) (p := p1) (t1 := t1x1) (t2 := t2x1) (b1 := b1x1) (b2 := b2x1) (by omega)) (rfl) (rfl))) (by kernel_rfl) rfl (by kernel_rfl) rfl ?_
            refine Sq.v (r := bV (decide (p1 < 0))) (pureV (by kernel_rfl) rfl fun w => by kernel_rfl) rfl (by kernel_rfl) ?_
            refine Sq.re 160 rfl (vF (by omega)) ?_
            refine Sq.vals [16, 17, 18] (rest := [19, 20, 21, 22]) [bV false, bV false, pV b5 0] (fun w => by kernel_rfl) ?_
            refine Sq.same [1, 2, 3, 4, 5] (l := arcL b5 lt16 lt27 lb18 lb29 mz1 p1 t1x1 t2x1 b1x1 b2x1 n1) (o_call (by kernel_rfl) Try.call11 (Tri.eq (l2 := arcL b5 lt16 lt27 lb18 lb29 mz1 p1 t1x1 t2x1 b1x1 b2x1 n1) (r' := iV p1) (arc_Share (n := n1) (most := mz1) (p := p1) (t1 := t1x1) (t2 := t2x1) (b1 := b1x1) (b2 := b2x1) (by omega)) (rfl) (rfl))) (by kernel_rfl) rfl (by kernel_rfl) rfl ?_
            refine Sq.vals [20] (rest := [21, 22]) [iV mz1] (fun w => by kernel_rfl) ?_
            refine Sq.v (r := bV (decide (p1 > mz1))) (pureV (by kernel_rfl) rfl fun w => by kernel_rfl) rfl (by kernel_rfl) ?_
            refine Sq.re 166 rfl (vF (by omega)) ?_
            refine Sq.vals [22] (rest := []) [bV false] (fun w => by kernel_rfl) ?_
            refine Sq.done ?_
            refine Ex'.next ?_
            refine Cd.condF (by kernel_rfl) ?_
            refine Cd.skip ?_
            refine Ex'.blockNormal ?_
            refine Ex'.next ?_
            refine Cd.region rfl ?_
            refine Sq.vals [0] (rest := [1, 2]) [iV (k : Int)] (fun w => by kernel_rfl) ?_
            refine Sq.v (r := iV ((k : Int) + 1)) (o_add (k := .i64) (a := (k : Int)) (b := 1) (c := (k : Int) + 1) (by kernel_rfl) (by kernel_rfl) (w64 rfl (by omega))) rfl (by kernel_rfl) ?_
            refine Sq.vals [2] (rest := []) [iV ((k : Int) + 1)] (fun w => by kernel_rfl) ?_
            refine Sq.done ?_
            refine Ex'.round (g := (k, mz0, p0, t1x0, t2x0, b1x0, b2x0, n0)) (k + 1, mz1, p1, t1x1, t2x1, b1x1, b2x1, n1) ?_ ?_ (subB_eq (l := [1, 5, 6, 0]) (by kernel_rfl)) (fun w hw => hw.pickB [0, 1, 2, 3, 4, 5] (by kernel_rfl) (by kernel_rfl) (by kernel_rfl))
            · (try dsimp only); exact ⟨by omega, hJ, hmz1, by omega⟩
            · omega
        ·
          refine Cd.exit ?_
          refine Ex'.thenExit ?_
          refine Ex'.thenExit ?_
          refine Ex'.blockHit ?_
          refine Ex'.next ?_
          refine Cd.seq ?_
          refine Cd.region rfl ?_
          refine Sq.vals [0] (rest := []) [bV true] (fun w => by kernel_rfl) ?_
          refine Sq.done ?_
          refine Ex'.next ?_
          refine Cd.ret ?_
          refine Ex'.ret Try.results6 (RVs.tmp (v := bV true) (by kernel_rfl) (RVs.nil)) (fun w hw => ?_)
          exact ⟨_, ⟨rfl, by kernel_rfl⟩, hw⟩

theorem arcBounds_walk (m : Int) (v : Value) (xs : List SAct) (w : World) (hm : (Lit.int .i64 m).wf = true) (h : Cells w (fun k => k < w.heap.size) v xs.length 3 (xs.flatMap SAct.cells)) :
    Calls Try.prog 6 #[.int .i64 m, v] w fun e w' => e = .returned (.bool true) ∧ Below w.heap.size w w' := by
  obtain ⟨a, cap, rfl, hl, hs⟩ := script_of h
  exact law_of (arcBounds_tri (range64 hm) hl hs)

end Go.Proofs.Ytnijaeipkbpibaa
