/- ArcComesBack: its walk. -/
import Derived.Test.YtnijaeipkbpibaaArcPureD
import Derived.Test.YtnijaeipkbpibaaArcAwake
import Derived.Test.YtnijaeipkbpibaaActs
import Derived.Test.YtnijaeipkbpibaaSepJ
import Derived.Test.YtnijaeipkbpibaaSepH
set_option linter.unusedVariables false
namespace Go.Proofs.Ytnijaeipkbpibaa
open Go.RowKit Go.MapKept

set_option maxHeartbeats 8000000 in
set_option maxRecDepth 100000 in
theorem arcComesBack_tri {w0 : World} {m wh : Int} {a : Option Addr} {cap : Nat} {xs : List ByteArray} (hm : -9223372036854775808 ≤ m ∧ m ≤ 9223372036854775807) (hwh : -9223372036854775808 ≤ wh ∧ wh ≤ 9223372036854775807) (hl : xs.length ≤ cap ∧ cap ≤ 9223372036854775807) (hs : KeysIn w0 (.slice a xs.length cap) xs) : Tri Try.prog 4 #[iV m, .slice a xs.length cap, iV wh] [oldR w0] (LawP w0) := by
  refine Tri.enter (args := [iV m, .slice a xs.length cap, iV wh]) Try.func4 rfl rfl rfl (fun B wz => ?_)
  refine Cd.seq ?_
  refine Cd.region rfl ?_
  refine Sq.vals [0] (rest := []) [bV false] (fun w => by kernel_rfl) ?_
  refine Sq.done ?_
  refine Ex'.next ?_
  refine Cd.seq ?_
  refine Cd.seq ?_
  refine Cd.region rfl ?_
  refine Sq.same [] (l := []) (o_call (by kernel_rfl) Try.call7 (arc_awake)) (by kernel_rfl) rfl (by kernel_rfl) rfl ?_
  refine Sq.vals [1] (rest := []) [bV false] (fun w => by kernel_rfl) ?_
  refine Sq.done ?_
  refine Ex'.next ?_
  refine Cd.condF (by kernel_rfl) ?_
  refine Cd.skip ?_
  refine Ex'.next ?_
  refine Cd.seq ?_
  refine Cd.seq ?_
  refine Cd.region rfl ?_
  refine Sq.vals [0, 1, 2, 3] (rest := [4, 5, 6, 7, 8, 9, 10, 11, 12, 13, 14]) [.slice a xs.length cap, iV (xs.length : Int), bV (decide ((xs.length : Int) > 200)), bV (decide ((xs.length : Int) > 200))] (fun w => by kernel_rfl) ?_
  refine Sq.case 19 (p := (xs.length : Int) > 200) rfl (fun h1 => ?_) (fun h1 => ?_)
  ·
    refine Sq.vals [4, 5, 6, 7, 8, 9, 10, 11, 12, 13, 14] (rest := []) [undef, undef, bV true, bV true, undef, undef, bV true, bV true, undef, undef, bV true] (fun w => by kernel_rfl) ?_
    refine Sq.done ?_
    refine Ex'.next ?_
    refine Cd.condT (by kernel_rfl) ?_
    refine Cd.seq ?_
    refine Cd.region rfl ?_
    refine Sq.vals [0] (rest := []) [bV true] (fun w => by kernel_rfl) ?_
    refine Sq.done ?_
    refine Ex'.next ?_
    refine Cd.ret ?_
    refine Ex'.thenRet ?_
    refine Ex'.ret Try.results4 (RVs.tmp (v := bV true) (by kernel_rfl) (RVs.nil)) (fun w hw => ?_)
    exact ⟨_, ⟨rfl, by kernel_rfl⟩, hw⟩
  ·
    refine Sq.vals [4, 5, 6, 7] (rest := [8, 9, 10, 11, 12, 13, 14]) [iV m, bV (decide (m < 1)), bV (decide (m < 1)), bV (decide (m < 1))] (fun w => by kernel_rfl) ?_
    refine Sq.case 23 (p := m < 1) rfl (fun h2 => ?_) (fun h2 => ?_)
    ·
      refine Sq.vals [8, 9, 10, 11, 12, 13, 14] (rest := []) [undef, undef, bV true, bV true, undef, undef, bV true] (fun w => by kernel_rfl) ?_
      refine Sq.done ?_
      refine Ex'.next ?_
      refine Cd.condT (by kernel_rfl) ?_
      refine Cd.seq ?_
      refine Cd.region rfl ?_
      refine Sq.vals [0] (rest := []) [bV true] (fun w => by kernel_rfl) ?_
      refine Sq.done ?_
      refine Ex'.next ?_
      refine Cd.ret ?_
      refine Ex'.thenRet ?_
      refine Ex'.ret Try.results4 (RVs.tmp (v := bV true) (by kernel_rfl) (RVs.nil)) (fun w hw => ?_)
      exact ⟨_, ⟨rfl, by kernel_rfl⟩, hw⟩
    ·
      refine Sq.vals [8, 9, 10, 11] (rest := [12, 13, 14]) [iV m, bV (decide (m > 1000)), bV (decide (m > 1000)), bV (decide (m > 1000))] (fun w => by kernel_rfl) ?_
      refine Sq.case 27 (p := m > 1000) rfl (fun h3 => ?_) (fun h3 => ?_)
      ·
        refine Sq.vals [12, 13, 14] (rest := []) [undef, undef, bV true] (fun w => by kernel_rfl) ?_
        refine Sq.done ?_
        refine Ex'.next ?_
        refine Cd.condT (by kernel_rfl) ?_
        refine Cd.seq ?_
        refine Cd.region rfl ?_
        refine Sq.vals [0] (rest := []) [bV true] (fun w => by kernel_rfl) ?_
        refine Sq.done ?_
        refine Ex'.next ?_
        refine Cd.ret ?_
        refine Ex'.thenRet ?_
        refine Ex'.ret Try.results4 (RVs.tmp (v := bV true) (by kernel_rfl) (RVs.nil)) (fun w hw => ?_)
        exact ⟨_, ⟨rfl, by kernel_rfl⟩, hw⟩
      ·
        refine Sq.vals [12, 13, 14] (rest := []) [iV wh, bV (decide (wh < 0)), bV (decide (wh < 0))] (fun w => by kernel_rfl) ?_
        refine Sq.done ?_
        refine Ex'.next ?_
        refine Cd.case (p := wh < 0) (by kernel_rfl) (fun h4 => ?_) (fun h4 => ?_)
        ·
          refine Cd.seq ?_
          refine Cd.region rfl ?_
          refine Sq.vals [0] (rest := []) [bV true] (fun w => by kernel_rfl) ?_
          refine Sq.done ?_
          refine Ex'.next ?_
          refine Cd.ret ?_
          refine Ex'.thenRet ?_
          refine Ex'.ret Try.results4 (RVs.tmp (v := bV true) (by kernel_rfl) (RVs.nil)) (fun w hw => ?_)
          exact ⟨_, ⟨rfl, by kernel_rfl⟩, hw⟩
        ·
          refine Cd.skip ?_
          refine Ex'.next ?_
          refine Cd.seq ?_
          refine Cd.region rfl ?_
          refine Sq.vals [0] (rest := [1, 2]) [iV m] (fun w => by kernel_rfl) ?_
          refine Sq.ex [] (l := []) (o_call (by kernel_rfl) Try.call8 (Tri.ex (L' := fun x => arcL x.1 x.2.1 x.2.2.1 x.2.2.2.1 x.2.2.2.2 m 0 [] [] [] [] 0) (arc_New m (by omega)) (fun x => by simp only [arcNew_nn (show 0 ≤ m by omega)]))) (by kernel_rfl) rfl (by kernel_rfl) (fun _ => Nat.le_of_ble_eq_true (by kernel_rfl)) ?_; rintro ⟨b5, lt16, lt27, lb18, lb29⟩ _
          refine Sq.vals [2] (rest := []) [pV b5 0] (fun w => by kernel_rfl) ?_
          refine Sq.done ?_
          refine Ex'.next ?_
          refine Cd.seq ?_
          refine Cd.seq ?_
          refine Cd.region rfl ?_
          refine Sq.vals [0, 1] (rest := []) [pV b5 0, bV false] (fun w => by kernel_rfl) ?_
          refine Sq.done ?_
          refine Ex'.next ?_
          refine Cd.condF (by kernel_rfl) ?_
          refine Cd.skip ?_
          refine Ex'.next ?_
          refine Cd.seq ?_
          refine Cd.seq ?_
          refine Cd.region rfl ?_
          refine Sq.vals [0] (rest := []) [iV 0] (fun w => by kernel_rfl) ?_
          refine Sq.done ?_
          refine Ex'.next ?_
          refine Cd.block ?_
          refine Cd.loop (ι := Nat × Int × (List ByteArray) × (List ByteArray) × (List ByteArray) × (List ByteArray) × Nat) (fun ⟨k, p0, t1x0, t2x0, b1x0, b2x0, n0⟩ => k ≤ xs.length ∧ ArcI m p0 t1x0 t2x0 b1x0 b2x0 ∧ n0 ≤ k * 2 ∧ (0 < k → 0 < t1x0.length + t2x0.length)) (fun ⟨k, p0, t1x0, t2x0, b1x0, b2x0, n0⟩ => xs.length - k) (fun ⟨k, p0, t1x0, t2x0, b1x0, b2x0, n0⟩ => [(0, iV m), (1, .slice a xs.length cap), (2, iV wh), (7, pV b5 0), (8, iV (k : Int))]) (fun ⟨k, p0, t1x0, t2x0, b1x0, b2x0, n0⟩ => [oldR w0, arcB b5 lt16 lt27 lb18 lb29 m p0, llR lt16 t1x0 n0, llR lt27 t2x0 n0, llR lb18 b1x0 n0, llR lb29 b2x0 n0]) (0, 0, [], [], [], [], 0) (⟨Nat.zero_le _, ArcI.new (by omega), Nat.le_refl _, fun q => absurd q (Nat.lt_irrefl 0)⟩) (subB_eq (l := [0, 1, 2, 7, 8]) (by kernel_rfl)) (fun w hw => hw.pickB [0, 1, 2, 3, 4, 5] (by kernel_rfl) (by kernel_rfl) (by kernel_rfl)) ?_
          rintro ⟨k, p0, t1x0, t2x0, b1x0, b2x0, n0⟩ hL10
          try dsimp only at hL10 ⊢
          obtain ⟨hk, hI, hn, hso⟩ := hL10
          have hI0 := hI.p0; have hIm := hI.pm
          refine Cd.seq ?_
          refine Cd.seq ?_
          refine Cd.region rfl ?_
          refine Sq.vals [0, 1, 2, 3] (rest := []) [iV (k : Int), .slice a xs.length cap, iV (xs.length : Int), bV (decide ((k : Int) < (xs.length : Int)))] (fun w => by kernel_rfl) ?_
          refine Sq.done ?_
          refine Ex'.next ?_
          refine Cd.case (p := (k : Int) < (xs.length : Int)) (by kernel_rfl) (fun h11 => ?_) (fun h11 => ?_)
          ·
            obtain ⟨g12, off13, rfl⟩ := hs.addr (by omega)
            obtain ⟨kyk, hgk, hwk, hrk⟩ := hs.at (k := k) (by omega)
            refine Cd.skip ?_
            refine Ex'.next ?_
            refine Cd.seq ?_
            refine Cd.block ?_
            refine Cd.seq ?_
            refine Cd.seq ?_
            refine Cd.region rfl ?_
            refine Sq.vals [0, 1] (rest := [2, 3, 4, 5]) [.slice (some ⟨g12, off13, none⟩) xs.length cap, iV (k : Int)] (fun w => by kernel_rfl) ?_
            refine Sq.v (r := pV g12 (off13 + k)) (o_idx (b := g12) (cap := cap) (e := 9) (off := off13) (n := xs.length) (kd := .i64) (q := (k : Int)) (i := k) (size := 1) (j := off13 + k) (by kernel_rfl) (by kernel_rfl) (by rfl) (by omega) Try.underlying22 (by kernel_rfl) (by omega)) rfl (by kernel_rfl) ?_
            refine Sq.same [0] (l := [oldR w0]) (o_loadOld (b := g12) (j := off13 + k) (u := sV kyk) (by kernel_rfl) (by kernel_rfl) (hrk 0 _ rfl)) (by kernel_rfl) rfl (by kernel_rfl) rfl ?_
            refine Sq.vals [4, 5] (rest := []) [iV (kyk.size : Int), bV (decide ((kyk.size : Int) > 200))] (fun w => by kernel_rfl) ?_
            refine Sq.done ?_
            refine Ex'.next ?_
            refine Cd.case (p := (kyk.size : Int) > 200) (by kernel_rfl) (fun h14 => ?_) (fun h14 => ?_)
            ·
              refine Cd.seq ?_
              refine Cd.region rfl ?_
              refine Sq.vals [0] (rest := []) [bV true] (fun w => by kernel_rfl) ?_
              refine Sq.done ?_
              refine Ex'.next ?_
              refine Cd.ret ?_
              refine Ex'.thenRet ?_
              refine Ex'.blockRet ?_
              refine Ex'.thenRet ?_
              refine Ex'.thenRet ?_
              refine Ex'.blockRet ?_
              refine Ex'.thenRet ?_
              refine Ex'.ret Try.results4 (RVs.tmp (v := bV true) (by kernel_rfl) (RVs.nil)) (fun w hw => ?_)
              exact ⟨_, ⟨rfl, by kernel_rfl⟩, hw⟩
            ·
              refine Cd.skip ?_
              refine Ex'.next ?_
              refine Cd.region rfl ?_
              refine Sq.vals [0, 1, 2] (rest := [3, 4, 5]) [pV b5 0, .slice (some ⟨g12, off13, none⟩) xs.length cap, iV (k : Int)] (fun w => by kernel_rfl) ?_
              refine Sq.v (r := pV g12 (off13 + k)) (o_idx (b := g12) (cap := cap) (e := 9) (off := off13) (n := xs.length) (kd := .i64) (q := (k : Int)) (i := k) (size := 1) (j := off13 + k) (by kernel_rfl) (by kernel_rfl) (by rfl) (by omega) Try.underlying22 (by kernel_rfl) (by omega)) rfl (by kernel_rfl) ?_
              refine Sq.same [0] (l := [oldR w0]) (o_loadOld (b := g12) (j := off13 + k) (u := sV kyk) (by kernel_rfl) (by kernel_rfl) (hrk 0 _ rfl)) (by kernel_rfl) rfl (by kernel_rfl) rfl ?_
              refine Sq.same [1, 2, 3, 4, 5] (l := arcL b5 lt16 lt27 lb18 lb29 m p0 t1x0 t2x0 b1x0 b2x0 n0) (o_call (by kernel_rfl) Try.call10 (arc_Request (n := n0) (n' := n0 + 2) (most := m) (p := p0) (t1 := t1x0) (t2 := t2x0) (b1 := b1x0) (b2 := b2x0) kyk (by omega) (by omega) (by omega) (by omega))) (by kernel_rfl) rfl (by kernel_rfl) rfl ?_
              generalize hxx15 : arcReq m p0 t1x0 t2x0 b1x0 b2x0 kyk = x15
              have hR := ArcI.req hI kyk hxx15
              refine Sq.done ?_
              refine Ex'.blockNormal ?_
              refine Ex'.next ?_
              refine Cd.region rfl ?_
              refine Sq.vals [0] (rest := [1, 2]) [iV (k : Int)] (fun w => by kernel_rfl) ?_
              refine Sq.v (r := iV ((k : Int) + 1)) (o_add (k := .i64) (a := (k : Int)) (b := 1) (c := (k : Int) + 1) (by kernel_rfl) (by kernel_rfl) (w64 rfl (by omega))) rfl (by kernel_rfl) ?_
              refine Sq.vals [2] (rest := []) [iV ((k : Int) + 1)] (fun w => by kernel_rfl) ?_
              refine Sq.done ?_
              refine Ex'.round (g := (k, p0, t1x0, t2x0, b1x0, b2x0, n0)) (k + 1, x15.1, x15.2.1, x15.2.2.1, x15.2.2.2.1, x15.2.2.2.2.1, n0 + 2) ?_ ?_ (subB_eq (l := [0, 1, 2, 7, 8]) (by kernel_rfl)) (fun w hw => hw.pickB [0, 1, 2, 3, 4, 5] (by kernel_rfl) (by kernel_rfl) (by kernel_rfl))
              · (try dsimp only); exact ⟨by omega, hR.i, by first | omega | (dsimp only; omega), fun _ => hR.some (by omega)⟩
              · omega
          ·
            refine Cd.exit ?_
            refine Ex'.thenExit ?_
            refine Ex'.thenExit ?_
            refine Ex'.blockHit ?_
            refine Ex'.next ?_
            refine Cd.seq ?_
            refine Cd.region rfl ?_
            refine Sq.vals [0] (rest := [1, 2]) [pV b5 0] (fun w => by kernel_rfl) ?_
            refine Sq.ex [1, 2, 3, 4, 5] (l := arcL b5 lt16 lt27 lb18 lb29 m p0 t1x0 t2x0 b1x0 b2x0 n0) (o_call (by kernel_rfl) Try.call13 (Tri.ex (L' := fun v => arcL b5 lt16 lt27 lb18 lb29 m p0 t1x0 t2x0 b1x0 b2x0 n0 ++ [rowR 9 1 v (b1x0 ++ b2x0).length ((b1x0 ++ b2x0).map Value.string)]) (arc_Ghosts (n := n0) (most := m) (p := p0) (t1 := t1x0) (t2 := t2x0) (b1 := b1x0) (b2 := b2x0) (by omega)) (fun v => rfl))) (by kernel_rfl) rfl (by kernel_rfl) (fun _ => Nat.le_of_ble_eq_true (by kernel_rfl)) ?_; rintro v16 _
            refine Sq.fact (i := 6) (R := rowR 9 1 v16 ((b1x0 ++ b2x0).length) ((b1x0 ++ b2x0).map Value.string)) (by kernel_rfl) row_slice ?_; rintro ⟨a17, c18, rfl, hc18, hc18'⟩
            have hc18'' : c18 ≤ 9223372036854775807 := hc18'
            refine Sq.vals [2] (rest := []) [.slice a17 ((b1x0 ++ b2x0).length) c18] (fun w => by kernel_rfl) ?_
            refine Sq.done ?_
            refine Ex'.next ?_
            refine Cd.seq ?_
            refine Cd.seq ?_
            refine Cd.region rfl ?_
            refine Sq.vals [0, 1] (rest := [2]) [.slice a17 ((b1x0 ++ b2x0).length) c18, iV ((b1x0 ++ b2x0).length : Int)] (fun w => by kernel_rfl) ?_
            refine Sq.v (r := bV (decide (((b1x0 ++ b2x0).length : Int) = 0))) (o_eqI (k := .i64) (a := ((b1x0 ++ b2x0).length : Int)) (b := 0) (by kernel_rfl) (by kernel_rfl)) rfl (by kernel_rfl) ?_
            refine Sq.done ?_
            refine Ex'.next ?_
            refine Cd.case (p := ((b1x0 ++ b2x0).length : Int) = 0) (by kernel_rfl) (fun h19 => ?_) (fun h19 => ?_)
            ·
              refine Cd.seq ?_
              refine Cd.region rfl ?_
              refine Sq.vals [0] (rest := []) [bV true] (fun w => by kernel_rfl) ?_
              refine Sq.done ?_
              refine Ex'.next ?_
              refine Cd.ret ?_
              refine Ex'.thenRet ?_
              refine Ex'.ret Try.results4 (RVs.tmp (v := bV true) (by kernel_rfl) (RVs.nil)) (fun w hw => ?_)
              exact ⟨_, ⟨rfl, by kernel_rfl⟩, hw⟩
            ·
              have hL0 : 0 < (b1x0 ++ b2x0).length := by omega
              obtain ⟨i, hi1, hi2⟩ := rem_at (a := wh) (n := (b1x0 ++ b2x0).length) (by omega) hL0
              refine Cd.fact (i := 6) (R := rowR 9 1 (.slice a17 ((b1x0 ++ b2x0).length) c18) ((b1x0 ++ b2x0).length) ((b1x0 ++ b2x0).map Value.string)) (by kernel_rfl) (row_addr (hL0)) ?_; rintro ⟨b20, rfl⟩
              refine Cd.skip ?_
              refine Ex'.next ?_
              refine Cd.seq ?_
              refine Cd.region rfl ?_
              refine Sq.vals [0, 1, 2] (rest := [3, 4]) [iV wh, .slice (some ⟨b20, 0, none⟩) ((b1x0 ++ b2x0).length) c18, iV ((b1x0 ++ b2x0).length : Int)] (fun w => by kernel_rfl) ?_
              refine Sq.v (r := iV (i : Int)) (o_rem (k := .i64) (a := wh) (b := ((b1x0 ++ b2x0).length : Int)) (c := (i : Int)) (by kernel_rfl) (by kernel_rfl) (by omega) (hi1)) rfl (by kernel_rfl) ?_
              refine Sq.vals [4] (rest := []) [iV (i : Int)] (fun w => by kernel_rfl) ?_
              refine Sq.done ?_
              refine Ex'.next ?_
              refine Cd.seq ?_
              refine Cd.region rfl ?_
              refine Sq.vals [0] (rest := [1, 2, 3]) [pV b5 0] (fun w => by kernel_rfl) ?_
              refine Sq.same [1, 2, 3, 4, 5] (l := arcL b5 lt16 lt27 lb18 lb29 m p0 t1x0 t2x0 b1x0 b2x0 n0) (o_call (by kernel_rfl) Try.call12 (Tri.eq (l2 := arcL b5 lt16 lt27 lb18 lb29 m p0 t1x0 t2x0 b1x0 b2x0 n0) (r' := .agg #[iV (t1x0.length : Int), iV (t2x0.length : Int), iV (b1x0.length : Int), iV (b2x0.length : Int)]) (arc_Sizes (n := n0) (most := m) (p := p0) (t1 := t1x0) (t2 := t2x0) (b1 := b1x0) (b2 := b2x0) (by omega)) (rfl) (rfl))) (by kernel_rfl) rfl (by kernel_rfl) rfl ?_
              refine Sq.ex [] (l := []) (o_new [iV 0, iV 0, iV 0, iV 0] (fun w => by kernel_rfl)) (by kernel_rfl) rfl (by kernel_rfl) (fun _ => Nat.zero_le _) ?_; intro b21 _
              refine Sq.same [7] (l := [blkR b21 [iV 0, iV 0, iV 0, iV 0] 31]) (o_store (i := 0) (v := .agg #[iV (t1x0.length : Int), iV (t2x0.length : Int), iV (b1x0.length : Int), iV (b2x0.length : Int)]) (by kernel_rfl) (by kernel_rfl) (by kernel_rfl) (by kernel_rfl) (by kernel_rfl)) (by kernel_rfl) rfl (by kernel_rfl) rfl ?_
              refine Sq.done ?_
              refine Ex'.next ?_
              refine Cd.seq ?_
              refine Cd.region rfl ?_
              refine Sq.vals [0] (rest := [1, 2]) [pV b5 0] (fun w => by kernel_rfl) ?_
              refine Sq.same [1, 2, 3, 4, 5] (l := arcL b5 lt16 lt27 lb18 lb29 m p0 t1x0 t2x0 b1x0 b2x0 n0) (o_call (by kernel_rfl) Try.call11 (Tri.eq (l2 := arcL b5 lt16 lt27 lb18 lb29 m p0 t1x0 t2x0 b1x0 b2x0 n0) (r' := iV p0) (arc_Share (n := n0) (most := m) (p := p0) (t1 := t1x0) (t2 := t2x0) (b1 := b1x0) (b2 := b2x0) (by omega)) (rfl) (rfl))) (by kernel_rfl) rfl (by kernel_rfl) rfl ?_
              refine Sq.vals [2] (rest := []) [iV p0] (fun w => by kernel_rfl) ?_
              refine Sq.done ?_
              refine Ex'.next ?_
              refine Cd.seq ?_
              refine Cd.region rfl ?_
              refine Sq.vals [0, 1, 2] (rest := [3, 4, 5, 6, 7]) [pV b5 0, .slice (some ⟨b20, 0, none⟩) ((b1x0 ++ b2x0).length) c18, iV (i : Int)] (fun w => by kernel_rfl) ?_
              refine Sq.v (r := pV b20 i) (o_idx (b := b20) (cap := c18) (e := 9) (off := 0) (n := (b1x0 ++ b2x0).length) (kd := .i64) (q := (i : Int)) (i := i) (size := 1) (j := i) (by kernel_rfl) (by kernel_rfl) (by rfl) (by omega) Try.underlying22 (by kernel_rfl) (by omega)) rfl (by kernel_rfl) ?_
              refine Sq.same [6] (l := [rowR 9 1 (.slice (some ⟨b20, 0, none⟩) ((b1x0 ++ b2x0).length) c18) ((b1x0 ++ b2x0).length) ((b1x0 ++ b2x0).map Value.string)]) (o_loadRow (i := i) (u := sV ((b1x0 ++ b2x0).getD i ⟨#[]⟩)) (by kernel_rfl) (by omega) (by kernel_rfl) (get_map (by omega))) (by kernel_rfl) rfl (by kernel_rfl) rfl ?_
              refine Sq.same [1, 2, 3, 4, 5] (l := arcL b5 lt16 lt27 lb18 lb29 m p0 t1x0 t2x0 b1x0 b2x0 n0) (o_call (by kernel_rfl) Try.call10 (arc_Request (n := n0) (n' := n0 + 2) (most := m) (p := p0) (t1 := t1x0) (t2 := t2x0) (b1 := b1x0) (b2 := b2x0) ((b1x0 ++ b2x0).getD i ⟨#[]⟩) (by omega) (by omega) (by omega) (by omega))) (by kernel_rfl) rfl (by kernel_rfl) rfl ?_
              generalize hxx22 : arcReq m p0 t1x0 t2x0 b1x0 b2x0 ((b1x0 ++ b2x0).getD i ⟨#[]⟩) = x22
              have hB := ArcI.back hI (by omega) (getD_memB hi2) hxx22
              have hR := ArcI.req hI ((b1x0 ++ b2x0).getD i ⟨#[]⟩) hxx22
              have hb1 := hB.hit
              obtain ⟨R0, hR0⟩ := hB.last
              obtain ⟨hl1, hl2⟩ := last_getD hR0
              refine Sq.ex [] (l := []) (o_new [bV false, sV ⟨#[]⟩, bV false] (fun w => by kernel_rfl)) (by kernel_rfl) rfl (by kernel_rfl) (fun _ => Nat.zero_le _) ?_; intro b23 _
              refine Sq.same [8] (l := [blkR b23 [bV false, sV ⟨#[]⟩, bV false] 28]) (o_store (i := 0) (v := .agg #[bV x22.2.2.2.2.2.1, sV x22.2.2.2.2.2.2.1, bV x22.2.2.2.2.2.2.2]) (by kernel_rfl) (by kernel_rfl) (by kernel_rfl) (by kernel_rfl) (by kernel_rfl)) (by kernel_rfl) rfl (by kernel_rfl) rfl ?_
              refine Sq.done ?_
              refine Ex'.next ?_
              refine Cd.seq ?_
              refine Cd.region rfl ?_
              refine Sq.vals [0] (rest := [1, 2]) [pV b5 0] (fun w => by kernel_rfl) ?_
              refine Sq.ex [1, 2, 3, 4, 5] (l := arcL b5 lt16 lt27 lb18 lb29 m x22.1 x22.2.1 x22.2.2.1 x22.2.2.2.1 x22.2.2.2.2.1 (n0 + 2)) (o_call (by kernel_rfl) Try.call15 (Tri.ex (L' := fun v => arcL b5 lt16 lt27 lb18 lb29 m x22.1 x22.2.1 x22.2.2.1 x22.2.2.2.1 x22.2.2.2.2.1 (n0 + 2) ++ [rowR 9 1 v (x22.2.1.reverse ++ x22.2.2.1.reverse).length ((x22.2.1.reverse ++ x22.2.2.1.reverse).map Value.string)]) (arc_Keys (n := n0 + 2) (most := m) (p := x22.1) (t1 := x22.2.1) (t2 := x22.2.2.1) (b1 := x22.2.2.2.1) (b2 := x22.2.2.2.2.1) (by omega)) (fun v => rfl))) (by kernel_rfl) rfl (by kernel_rfl) (fun _ => Nat.le_of_ble_eq_true (by kernel_rfl)) ?_; rintro v24 _
              refine Sq.fact (i := 9) (R := rowR 9 1 v24 ((x22.2.1.reverse ++ x22.2.2.1.reverse).length) ((x22.2.1.reverse ++ x22.2.2.1.reverse).map Value.string)) (by kernel_rfl) row_slice ?_; rintro ⟨a25, c26, rfl, hc26, hc26'⟩
              have hc26'' : c26 ≤ 9223372036854775807 := hc26'
              refine Sq.fact (i := 9) (R := rowR 9 1 (.slice a25 ((x22.2.1.reverse ++ x22.2.2.1.reverse).length) c26) ((x22.2.1.reverse ++ x22.2.2.1.reverse).length) ((x22.2.1.reverse ++ x22.2.2.1.reverse).map Value.string)) (by kernel_rfl) (row_addr (hl2)) ?_; rintro ⟨b27, rfl⟩
              refine Sq.vals [2] (rest := []) [.slice (some ⟨b27, 0, none⟩) ((x22.2.1.reverse ++ x22.2.2.1.reverse).length) c26] (fun w => by kernel_rfl) ?_
              refine Sq.done ?_
              refine Ex'.next ?_
              refine Cd.seq ?_
              refine Cd.seq ?_
              refine Cd.plan (0 :: 1 :: 3 :: 7 :: 7 :: 7 :: 55 :: 119 :: 255 :: 511 :: 1023 :: 2047 :: 4095 :: 8191 :: 4095 :: 4095 :: 53247 :: 118783 :: 262143 :: 524287 :: 1048575 :: 2097151 :: 2097151 :: 6291455 :: 14680063 :: 33554431 :: 67108863 :: 2097151 :: 2097151 :: 404750335 :: 941621247 :: 2147483647 :: 4294967295 :: []) [(1, [(8, false, 0)]), (7, [(6, false, 0)]), (8, [(1, false, 0), (2, false, 0), (3, false, 0), (4, false, 0), (5, false, 0)]), (13, [(1, false, 0), (2, false, 0), (3, false, 0), (4, false, 0), (5, false, 0)]), (17, [(6, false, 0)]), (18, [(23, false, 14)]), (26, [(9, false, 0)]), (30, [(6, false, 0)])] [13] [(13, fun _ => True)] [(23, 13, fun g => rowR 9 1 (.slice (addrOf (g 13)) ((x22.2.2.2.1 ++ x22.2.2.2.2.1).length) (capOf (g 13))) ((x22.2.2.2.1 ++ x22.2.2.2.2.1).length) ((x22.2.2.2.1 ++ x22.2.2.2.2.1).map Value.string))] ((fun g => pV b23 0) :: (fun g => bV x22.2.2.2.2.2.1) :: (fun g => bV false) :: (fun g => pV b5 0) :: (fun g => .slice (some ⟨b20, 0, none⟩) ((b1x0 ++ b2x0).length) c18) :: (fun g => iV (i : Int)) :: (fun g => pV b20 i) :: (fun g => sV ((b1x0 ++ b2x0).getD i ⟨#[]⟩)) :: (fun g => bV true) :: (fun g => bV false) :: (fun g => bV false) :: (fun g => bV false) :: (fun g => pV b5 0) :: (fun g => .slice (addrOf (g 13)) ((x22.2.2.2.1 ++ x22.2.2.2.2.1).length) (capOf (g 13))) :: (fun g => .slice (some ⟨b20, 0, none⟩) ((b1x0 ++ b2x0).length) c18) :: (fun g => iV (i : Int)) :: (fun g => pV b20 i) :: (fun g => sV ((b1x0 ++ b2x0).getD i ⟨#[]⟩)) :: (fun g => bV false) :: (fun g => bV false) :: (fun g => bV false) :: (fun g => .slice (some ⟨b27, 0, none⟩) ((x22.2.1.reverse ++ x22.2.2.1.reverse).length) c26) :: (fun g => .slice (some ⟨b27, 0, none⟩) ((x22.2.1.reverse ++ x22.2.2.1.reverse).length) c26) :: (fun g => iV ((x22.2.1.reverse ++ x22.2.2.1.reverse).length : Int)) :: (fun g => iV (((x22.2.1.reverse ++ x22.2.2.1.reverse).length : Int) - 1)) :: (fun g => pV b27 ((x22.2.1.reverse ++ x22.2.2.1.reverse).length - 1)) :: (fun g => sV ((x22.2.1.reverse ++ x22.2.2.1.reverse).getD ((x22.2.1.reverse ++ x22.2.2.1.reverse).length - 1) ⟨#[]⟩)) :: (fun g => .slice (some ⟨b20, 0, none⟩) ((b1x0 ++ b2x0).length) c18) :: (fun g => iV (i : Int)) :: (fun g => pV b20 i) :: (fun g => sV ((b1x0 ++ b2x0).getD i ⟨#[]⟩)) :: (fun g => bV false) :: (fun g => bV false) :: []) (by kernel_rfl) (by kernel_rfl) rfl (⟨⟨⟨fun _ _ => rfl, ⟨fun _ _ => rfl, ⟨fun _ _ => rfl, ⟨fun _ _ => rfl, ⟨fun _ _ => rfl, ⟨fun _ _ => rfl, ⟨fun _ _ => rfl, ⟨fun _ _ => rfl, ⟨fun _ _ => rfl, ⟨fun _ _ => rfl, ⟨fun _ _ => rfl, ⟨fun _ _ => rfl, ⟨fun _ _ => rfl, ⟨trivial, ⟨fun _ _ => rfl, ⟨fun _ _ => rfl, ⟨fun _ _ => rfl, ⟨fun _ _ => rfl, ⟨trivial, ⟨trivial, ⟨trivial, ⟨trivial, ⟨trivial, ⟨trivial, ⟨trivial, ⟨trivial, ⟨trivial, ⟨trivial, ⟨trivial, ⟨trivial, ⟨trivial, ⟨trivial, ⟨trivial, trivial⟩⟩⟩⟩⟩⟩⟩⟩⟩⟩⟩⟩⟩⟩⟩⟩⟩⟩⟩⟩⟩⟩⟩⟩⟩⟩⟩⟩⟩⟩⟩⟩⟩, ⟨trivial, trivial⟩⟩, trivial⟩) ?_ ?_
              · exact ⟨ob_val fun g w => by kernel_rfl, ob_s (l := fun g => [blkR b23 [bV x22.2.2.2.2.2.1, sV x22.2.2.2.2.2.2.1, bV x22.2.2.2.2.2.2.2] 28]) (l' := fun g => [blkR b23 [bV x22.2.2.2.2.2.1, sV x22.2.2.2.2.2.2.1, bV x22.2.2.2.2.2.2.2] 28]) (v := fun g => bV x22.2.2.2.2.2.1) (fun g => o_load (i := 0) (v := bV x22.2.2.2.2.2.1) (by kernel_rfl) (by kernel_rfl) (by kernel_rfl)) (fun g => by kernel_rfl), ob_v (v := fun g => bV false) (fun g => OprV.re (pureV (v := bV x22.2.2.2.2.2.1) (by kernel_rfl) rfl fun w => by kernel_rfl) (congrArg Value.bool (show x22.2.2.2.2.2.1 = false from hb1))) (fun g => by kernel_rfl), ob_val fun g w => by kernel_rfl, ob_val fun g w => by kernel_rfl, ob_val fun g w => by kernel_rfl, ob_v (v := fun g => pV b20 i) (fun g => o_idx (b := b20) (cap := c18) (e := 9) (off := 0) (n := (b1x0 ++ b2x0).length) (kd := .i64) (q := (i : Int)) (i := i) (size := 1) (j := i) (by kernel_rfl) (by kernel_rfl) (by rfl) (by omega) Try.underlying22 (by kernel_rfl) (by omega)) (fun g => by kernel_rfl), ob_s (l := fun g => [rowR 9 1 (.slice (some ⟨b20, 0, none⟩) ((b1x0 ++ b2x0).length) c18) ((b1x0 ++ b2x0).length) ((b1x0 ++ b2x0).map Value.string)]) (l' := fun g => [rowR 9 1 (.slice (some ⟨b20, 0, none⟩) ((b1x0 ++ b2x0).length) c18) ((b1x0 ++ b2x0).length) ((b1x0 ++ b2x0).map Value.string)]) (v := fun g => sV ((b1x0 ++ b2x0).getD i ⟨#[]⟩)) (fun g => o_loadRow (i := i) (u := sV ((b1x0 ++ b2x0).getD i ⟨#[]⟩)) (by kernel_rfl) (by omega) (by kernel_rfl) (get_map (by omega))) (fun g => by kernel_rfl), ob_s (l := fun g => [arcB b5 lt16 lt27 lb18 lb29 m x22.1, llR lt16 x22.2.1 (n0 + 2), llR lt27 x22.2.2.1 (n0 + 2), llR lb18 x22.2.2.2.1 (n0 + 2), llR lb29 x22.2.2.2.2.1 (n0 + 2)]) (l' := fun g => [arcB b5 lt16 lt27 lb18 lb29 m x22.1, llR lt16 x22.2.1 (n0 + 2), llR lt27 x22.2.2.1 (n0 + 2), llR lb18 x22.2.2.2.1 (n0 + 2), llR lb29 x22.2.2.2.2.1 (n0 + 2)]) (v := fun g => bV true) (fun g => o_call (by kernel_rfl) Try.call16 ((Tri.eq (l2 := arcL b5 lt16 lt27 lb18 lb29 m x22.1 x22.2.1 x22.2.2.1 x22.2.2.2.1 x22.2.2.2.2.1 (n0 + 2)) (r' := bV (decide ((b1x0 ++ b2x0).getD i ⟨#[]⟩ ∈ x22.2.1 ∨ (b1x0 ++ b2x0).getD i ⟨#[]⟩ ∈ x22.2.2.1))) (arc_Has (n := n0 + 2) (most := m) (p := x22.1) (t1 := x22.2.1) (t2 := x22.2.2.1) (b1 := x22.2.2.2.1) (b2 := x22.2.2.2.2.1) ((b1x0 ++ b2x0).getD i ⟨#[]⟩) (by omega)) (by first | simp only [arcHas_eq] | rfl) (by first | simp only [arcHas_eq] | rfl)).re (vT (.inr hB.here)))) (fun g => by kernel_rfl), ob_val fun g w => by kernel_rfl, ob_val fun g w => by kernel_rfl, ob_val fun g w => by kernel_rfl, ob_val fun g w => by kernel_rfl, ob_d (ι := Option Addr × Nat) (l := fun g => [arcB b5 lt16 lt27 lb18 lb29 m x22.1, llR lt16 x22.2.1 (n0 + 2), llR lt27 x22.2.2.1 (n0 + 2), llR lb18 x22.2.2.2.1 (n0 + 2), llR lb29 x22.2.2.2.2.1 (n0 + 2)]) (L := fun g y => [arcB b5 lt16 lt27 lb18 lb29 m x22.1, llR lt16 x22.2.1 (n0 + 2), llR lt27 x22.2.2.1 (n0 + 2), llR lb18 x22.2.2.2.1 (n0 + 2), llR lb29 x22.2.2.2.2.1 (n0 + 2), rowR 9 1 (.slice y.1 ((x22.2.2.2.1 ++ x22.2.2.2.2.1).length) y.2) ((x22.2.2.2.1 ++ x22.2.2.2.2.1).length) ((x22.2.2.2.1 ++ x22.2.2.2.2.1).map Value.string)]) (fun y => .slice y.1 ((x22.2.2.2.1 ++ x22.2.2.2.2.1).length) y.2) (fun g => o_call (by kernel_rfl) Try.call13 (Tri.rowA (Tri.ex (L' := fun v => arcL b5 lt16 lt27 lb18 lb29 m x22.1 x22.2.1 x22.2.2.1 x22.2.2.2.1 x22.2.2.2.2.1 (n0 + 2) ++ [rowR 9 1 v (x22.2.2.2.1 ++ x22.2.2.2.2.1).length ((x22.2.2.2.1 ++ x22.2.2.2.2.1).map Value.string)]) (arc_Ghosts (n := n0 + 2) (most := m) (p := x22.1) (t1 := x22.2.1) (t2 := x22.2.2.1) (b1 := x22.2.2.2.1) (b2 := x22.2.2.2.2.1) (by omega)) (fun v => rfl)))) (fun g => by kernel_rfl) (fun g y _ => ⟨trivial, by kernel_rfl, by kernel_rfl⟩), ob_val fun g w => by kernel_rfl, ob_val fun g w => by kernel_rfl, ob_v (v := fun g => pV b20 i) (fun g => o_idx (b := b20) (cap := c18) (e := 9) (off := 0) (n := (b1x0 ++ b2x0).length) (kd := .i64) (q := (i : Int)) (i := i) (size := 1) (j := i) (by kernel_rfl) (by kernel_rfl) (by rfl) (by omega) Try.underlying22 (by kernel_rfl) (by omega)) (fun g => by kernel_rfl), ob_s (l := fun g => [rowR 9 1 (.slice (some ⟨b20, 0, none⟩) ((b1x0 ++ b2x0).length) c18) ((b1x0 ++ b2x0).length) ((b1x0 ++ b2x0).map Value.string)]) (l' := fun g => [rowR 9 1 (.slice (some ⟨b20, 0, none⟩) ((b1x0 ++ b2x0).length) c18) ((b1x0 ++ b2x0).length) ((b1x0 ++ b2x0).map Value.string)]) (v := fun g => sV ((b1x0 ++ b2x0).getD i ⟨#[]⟩)) (fun g => o_loadRow (i := i) (u := sV ((b1x0 ++ b2x0).getD i ⟨#[]⟩)) (by kernel_rfl) (by omega) (by kernel_rfl) (get_map (by omega))) (fun g => by kernel_rfl), ob_s (l := fun g => [rowR 9 1 (.slice (addrOf (g 13)) ((x22.2.2.2.1 ++ x22.2.2.2.2.1).length) (capOf (g 13))) ((x22.2.2.2.1 ++ x22.2.2.2.2.1).length) ((x22.2.2.2.1 ++ x22.2.2.2.2.1).map Value.string)]) (l' := fun g => [rowR 9 1 (.slice (addrOf (g 13)) ((x22.2.2.2.1 ++ x22.2.2.2.2.1).length) (capOf (g 13))) ((x22.2.2.2.1 ++ x22.2.2.2.2.1).length) ((x22.2.2.2.1 ++ x22.2.2.2.2.1).map Value.string)]) (v := fun g => bV false) (fun g => o_call (by kernel_rfl) Try.call9 ((t_has03 (l := [rowR 9 1 (.slice (addrOf (g 13)) ((x22.2.2.2.1 ++ x22.2.2.2.2.1).length) (capOf (g 13))) ((x22.2.2.2.1 ++ x22.2.2.2.2.1).length) ((x22.2.2.2.1 ++ x22.2.2.2.2.1).map Value.string)]) (xs := x22.2.2.2.1 ++ x22.2.2.2.2.1) ((b1x0 ++ b2x0).getD i ⟨#[]⟩) (fun w own hH => ⟨_, Row.strs (hH 0 _ rfl)⟩)).re (vF hB.gone))) (fun g => by kernel_rfl), ob_val fun g w => by kernel_rfl, ob_val fun g w => by kernel_rfl, ob_val fun g w => by kernel_rfl, ob_val fun g w => by kernel_rfl, ob_val fun g w => by kernel_rfl, ob_v (v := fun g => iV (((x22.2.1.reverse ++ x22.2.2.1.reverse).length : Int) - 1)) (fun g => o_sub (k := .i64) (a := ((x22.2.1.reverse ++ x22.2.2.1.reverse).length : Int)) (b := 1) (c := ((x22.2.1.reverse ++ x22.2.2.1.reverse).length : Int) - 1) (by kernel_rfl) (by kernel_rfl) (w64 rfl (by omega))) (fun g => by kernel_rfl), ob_v (v := fun g => pV b27 ((x22.2.1.reverse ++ x22.2.2.1.reverse).length - 1)) (fun g => o_idx (b := b27) (cap := c26) (e := 9) (off := 0) (n := (x22.2.1.reverse ++ x22.2.2.1.reverse).length) (kd := .i64) (q := ((x22.2.1.reverse ++ x22.2.2.1.reverse).length : Int) - 1) (i := (x22.2.1.reverse ++ x22.2.2.1.reverse).length - 1) (size := 1) (j := (x22.2.1.reverse ++ x22.2.2.1.reverse).length - 1) (by kernel_rfl) (by kernel_rfl) (by omega) (by omega) Try.underlying22 (by kernel_rfl) (by omega)) (fun g => by kernel_rfl), ob_s (l := fun g => [rowR 9 1 (.slice (some ⟨b27, 0, none⟩) ((x22.2.1.reverse ++ x22.2.2.1.reverse).length) c26) ((x22.2.1.reverse ++ x22.2.2.1.reverse).length) ((x22.2.1.reverse ++ x22.2.2.1.reverse).map Value.string)]) (l' := fun g => [rowR 9 1 (.slice (some ⟨b27, 0, none⟩) ((x22.2.1.reverse ++ x22.2.2.1.reverse).length) c26) ((x22.2.1.reverse ++ x22.2.2.1.reverse).length) ((x22.2.1.reverse ++ x22.2.2.1.reverse).map Value.string)]) (v := fun g => sV ((x22.2.1.reverse ++ x22.2.2.1.reverse).getD ((x22.2.1.reverse ++ x22.2.2.1.reverse).length - 1) ⟨#[]⟩)) (fun g => o_loadRow (i := (x22.2.1.reverse ++ x22.2.2.1.reverse).length - 1) (u := sV ((x22.2.1.reverse ++ x22.2.2.1.reverse).getD ((x22.2.1.reverse ++ x22.2.2.1.reverse).length - 1) ⟨#[]⟩)) (by kernel_rfl) (by omega) (by kernel_rfl) (get_map (by omega))) (fun g => by kernel_rfl), ob_val fun g w => by kernel_rfl, ob_val fun g w => by kernel_rfl, ob_v (v := fun g => pV b20 i) (fun g => o_idx (b := b20) (cap := c18) (e := 9) (off := 0) (n := (b1x0 ++ b2x0).length) (kd := .i64) (q := (i : Int)) (i := i) (size := 1) (j := i) (by kernel_rfl) (by kernel_rfl) (by rfl) (by omega) Try.underlying22 (by kernel_rfl) (by omega)) (fun g => by kernel_rfl), ob_s (l := fun g => [rowR 9 1 (.slice (some ⟨b20, 0, none⟩) ((b1x0 ++ b2x0).length) c18) ((b1x0 ++ b2x0).length) ((b1x0 ++ b2x0).map Value.string)]) (l' := fun g => [rowR 9 1 (.slice (some ⟨b20, 0, none⟩) ((b1x0 ++ b2x0).length) c18) ((b1x0 ++ b2x0).length) ((b1x0 ++ b2x0).map Value.string)]) (v := fun g => sV ((b1x0 ++ b2x0).getD i ⟨#[]⟩)) (fun g => o_loadRow (i := i) (u := sV ((b1x0 ++ b2x0).getD i ⟨#[]⟩)) (by kernel_rfl) (by omega) (by kernel_rfl) (get_map (by omega))) (fun g => by kernel_rfl), ob_v (v := fun g => bV false) (fun g => OprV.re (o_neS (a := (x22.2.1.reverse ++ x22.2.2.1.reverse).getD ((x22.2.1.reverse ++ x22.2.2.1.reverse).length - 1) ⟨#[]⟩) (b := (b1x0 ++ b2x0).getD i ⟨#[]⟩) (by kernel_rfl) (by kernel_rfl)) (vF (fun z => z hl1))) (fun g => by kernel_rfl), ob_val fun g w => by kernel_rfl, trivial⟩
              intro g
              refine Ex'.sub (subB_spec [0, 2, 7, 10, 11, 12, 106]) ?_
              refine Ex'.as [0, 1, 2, 3, 4, 5, 6, 7, 8, 9, 23] (σ' := [(0, iV m), (2, iV (i : Int)), (7, pV b5 0), (10, pV b21 0), (11, iV p0), (12, pV b23 0), (106, bV false)]) (Γ' := [oldR w0, arcB b5 lt16 lt27 lb18 lb29 m x22.1, llR lt16 x22.2.1 (n0 + 2), llR lt27 x22.2.2.1 (n0 + 2), llR lb18 x22.2.2.2.1 (n0 + 2), llR lb29 x22.2.2.2.2.1 (n0 + 2), rowR 9 1 (.slice (some ⟨b20, 0, none⟩) ((b1x0 ++ b2x0).length) c18) ((b1x0 ++ b2x0).length) ((b1x0 ++ b2x0).map Value.string), blkR b21 [iV (t1x0.length : Int), iV (t2x0.length : Int), iV (b1x0.length : Int), iV (b2x0.length : Int)] 31, blkR b23 [bV x22.2.2.2.2.2.1, sV x22.2.2.2.2.2.2.1, bV x22.2.2.2.2.2.2.2] 28, rowR 9 1 (.slice (some ⟨b27, 0, none⟩) ((x22.2.1.reverse ++ x22.2.2.1.reverse).length) c26) ((x22.2.1.reverse ++ x22.2.2.1.reverse).length) ((x22.2.1.reverse ++ x22.2.2.1.reverse).map Value.string), rowR 9 1 (.slice (addrOf (g 13)) ((x22.2.2.2.1 ++ x22.2.2.2.2.1).length) (capOf (g 13))) ((x22.2.2.2.1 ++ x22.2.2.2.2.1).length) ((x22.2.2.2.1 ++ x22.2.2.2.2.1).map Value.string)]) (by kernel_rfl) rfl (by kernel_rfl) (by kernel_rfl) ?_
              generalize addrOf (g 13) = a29
              generalize capOf (g 13) = c30
              refine Ex'.next ?_
              refine Cd.condF (by kernel_rfl) ?_
              refine Cd.skip ?_
              refine Ex'.next ?_
              refine Cd.seq ?_
              refine Cd.seq ?_
              rcases Bool.eq_false_or_eq_true (x22.2.2.2.2.2.2.2) with h31 | h31
              ·
                have hout := hB.out h31
                refine Cd.plan [0, 1, 3, 7, 15, 7, 39, 127, 255, 511] [(1, [(8, false, 0)]), (4, [(1, false, 0), (2, false, 0), (3, false, 0), (4, false, 0), (5, false, 0)]), (6, [(8, false, 0)]), (7, [(15, false, 5)])] [4] [(4, fun _ => True)] [(15, 4, fun g => rowR 9 1 (.slice (addrOf (g 4)) ((x22.2.2.2.1 ++ x22.2.2.2.2.1).length) (capOf (g 4))) ((x22.2.2.2.1 ++ x22.2.2.2.2.1).length) ((x22.2.2.2.1 ++ x22.2.2.2.2.1).map Value.string))] [fun g => pV b23 2, fun g => bV x22.2.2.2.2.2.2.2, fun g => bV true, fun g => pV b5 0, fun g => .slice (addrOf (g 4)) ((x22.2.2.2.1 ++ x22.2.2.2.2.1).length) (capOf (g 4)), fun g => pV b23 1, fun g => sV x22.2.2.2.2.2.2.1, fun g => bV true, fun g => bV false, fun g => bV false] (by kernel_rfl) (by kernel_rfl) rfl (⟨⟨⟨fun _ _ => rfl, ⟨fun _ _ => rfl, ⟨fun _ _ => rfl, ⟨fun _ _ => rfl, ⟨trivial, ⟨fun _ _ => rfl, ⟨fun _ _ => rfl, ⟨trivial, ⟨trivial, ⟨trivial, trivial⟩⟩⟩⟩⟩⟩⟩⟩⟩⟩, ⟨trivial, trivial⟩⟩, trivial⟩) ?_ ?_
                · exact ⟨ob_val fun g w => by kernel_rfl, ob_s (l := fun g => [blkR b23 [bV x22.2.2.2.2.2.1, sV x22.2.2.2.2.2.2.1, bV x22.2.2.2.2.2.2.2] 28]) (l' := fun g => [blkR b23 [bV x22.2.2.2.2.2.1, sV x22.2.2.2.2.2.2.1, bV x22.2.2.2.2.2.2.2] 28]) (v := fun g => bV x22.2.2.2.2.2.2.2) (fun g => o_load (i := 2) (v := bV x22.2.2.2.2.2.2.2) (by kernel_rfl) (by kernel_rfl) (by kernel_rfl)) (fun g => by kernel_rfl), ob_v (v := fun g => bV true) (fun g => OprV.re (pureV (v := bV x22.2.2.2.2.2.2.2) (by kernel_rfl) rfl fun w => by kernel_rfl) (congrArg Value.bool (show x22.2.2.2.2.2.2.2 = true from h31))) (fun g => by kernel_rfl), ob_val fun g w => by kernel_rfl, ob_d (ι := Option Addr × Nat) (l := fun g => [arcB b5 lt16 lt27 lb18 lb29 m x22.1, llR lt16 x22.2.1 (n0 + 2), llR lt27 x22.2.2.1 (n0 + 2), llR lb18 x22.2.2.2.1 (n0 + 2), llR lb29 x22.2.2.2.2.1 (n0 + 2)]) (L := fun g y => [arcB b5 lt16 lt27 lb18 lb29 m x22.1, llR lt16 x22.2.1 (n0 + 2), llR lt27 x22.2.2.1 (n0 + 2), llR lb18 x22.2.2.2.1 (n0 + 2), llR lb29 x22.2.2.2.2.1 (n0 + 2), rowR 9 1 (.slice y.1 ((x22.2.2.2.1 ++ x22.2.2.2.2.1).length) y.2) ((x22.2.2.2.1 ++ x22.2.2.2.2.1).length) ((x22.2.2.2.1 ++ x22.2.2.2.2.1).map Value.string)]) (fun y => .slice y.1 ((x22.2.2.2.1 ++ x22.2.2.2.2.1).length) y.2) (fun g => o_call (by kernel_rfl) Try.call13 (Tri.rowA (Tri.ex (L' := fun v => arcL b5 lt16 lt27 lb18 lb29 m x22.1 x22.2.1 x22.2.2.1 x22.2.2.2.1 x22.2.2.2.2.1 (n0 + 2) ++ [rowR 9 1 v (x22.2.2.2.1 ++ x22.2.2.2.2.1).length ((x22.2.2.2.1 ++ x22.2.2.2.2.1).map Value.string)]) (arc_Ghosts (n := n0 + 2) (most := m) (p := x22.1) (t1 := x22.2.1) (t2 := x22.2.2.1) (b1 := x22.2.2.2.1) (b2 := x22.2.2.2.2.1) (by omega)) (fun v => rfl)))) (fun g => by kernel_rfl) (fun g y _ => ⟨trivial, by kernel_rfl, by kernel_rfl⟩), ob_val fun g w => by kernel_rfl, ob_s (l := fun g => [blkR b23 [bV x22.2.2.2.2.2.1, sV x22.2.2.2.2.2.2.1, bV x22.2.2.2.2.2.2.2] 28]) (l' := fun g => [blkR b23 [bV x22.2.2.2.2.2.1, sV x22.2.2.2.2.2.2.1, bV x22.2.2.2.2.2.2.2] 28]) (v := fun g => sV x22.2.2.2.2.2.2.1) (fun g => o_load (i := 1) (v := sV x22.2.2.2.2.2.2.1) (by kernel_rfl) (by kernel_rfl) (by kernel_rfl)) (fun g => by kernel_rfl), ob_s (l := fun g => [rowR 9 1 (.slice (addrOf (g 4)) ((x22.2.2.2.1 ++ x22.2.2.2.2.1).length) (capOf (g 4))) ((x22.2.2.2.1 ++ x22.2.2.2.2.1).length) ((x22.2.2.2.1 ++ x22.2.2.2.2.1).map Value.string)]) (l' := fun g => [rowR 9 1 (.slice (addrOf (g 4)) ((x22.2.2.2.1 ++ x22.2.2.2.2.1).length) (capOf (g 4))) ((x22.2.2.2.1 ++ x22.2.2.2.2.1).length) ((x22.2.2.2.1 ++ x22.2.2.2.2.1).map Value.string)]) (v := fun g => bV true) (fun g => o_call (by kernel_rfl) Try.call9 ((t_has03 (l := [rowR 9 1 (.slice (addrOf (g 4)) ((x22.2.2.2.1 ++ x22.2.2.2.2.1).length) (capOf (g 4))) ((x22.2.2.2.1 ++ x22.2.2.2.2.1).length) ((x22.2.2.2.1 ++ x22.2.2.2.2.1).map Value.string)]) (xs := x22.2.2.2.1 ++ x22.2.2.2.2.1) x22.2.2.2.2.2.2.1 (fun w own hH => ⟨_, Row.strs (hH 0 _ rfl)⟩)).re (vT hout))) (fun g => by kernel_rfl), ob_val fun g w => by kernel_rfl, ob_val fun g w => by kernel_rfl, trivial⟩
                intro g
                refine Ex'.sub (subB_spec [0, 2, 7, 10, 11, 116]) ?_
                refine Ex'.as [0, 1, 2, 3, 4, 5, 6, 7, 8, 9, 10, 15] (σ' := [(0, iV m), (2, iV (i : Int)), (7, pV b5 0), (10, pV b21 0), (11, iV p0), (116, bV false)]) (Γ' := [oldR w0, arcB b5 lt16 lt27 lb18 lb29 m x22.1, llR lt16 x22.2.1 (n0 + 2), llR lt27 x22.2.2.1 (n0 + 2), llR lb18 x22.2.2.2.1 (n0 + 2), llR lb29 x22.2.2.2.2.1 (n0 + 2), rowR 9 1 (.slice (some ⟨b20, 0, none⟩) ((b1x0 ++ b2x0).length) c18) ((b1x0 ++ b2x0).length) ((b1x0 ++ b2x0).map Value.string), blkR b21 [iV (t1x0.length : Int), iV (t2x0.length : Int), iV (b1x0.length : Int), iV (b2x0.length : Int)] 31, blkR b23 [bV x22.2.2.2.2.2.1, sV x22.2.2.2.2.2.2.1, bV x22.2.2.2.2.2.2.2] 28, rowR 9 1 (.slice (some ⟨b27, 0, none⟩) ((x22.2.1.reverse ++ x22.2.2.1.reverse).length) c26) ((x22.2.1.reverse ++ x22.2.2.1.reverse).length) ((x22.2.1.reverse ++ x22.2.2.1.reverse).map Value.string), rowR 9 1 (.slice a29 ((x22.2.2.2.1 ++ x22.2.2.2.2.1).length) c30) ((x22.2.2.2.1 ++ x22.2.2.2.2.1).length) ((x22.2.2.2.1 ++ x22.2.2.2.2.1).map Value.string), rowR 9 1 (.slice (addrOf (g 4)) ((x22.2.2.2.1 ++ x22.2.2.2.2.1).length) (capOf (g 4))) ((x22.2.2.2.1 ++ x22.2.2.2.2.1).length) ((x22.2.2.2.1 ++ x22.2.2.2.2.1).map Value.string)]) (by kernel_rfl) rfl (by kernel_rfl) (by kernel_rfl) ?_
                generalize addrOf (g 4) = a33
                generalize capOf (g 4) = c34
                refine Ex'.next ?_
                refine Cd.condF (by kernel_rfl) ?_
                refine Cd.skip ?_
                refine Ex'.next ?_
                refine Cd.seq ?_
                refine Cd.seq ?_
                refine Cd.region rfl ?_
                refine Sq.vals [0, 1] (rest := [2, 3]) [iV (i : Int), pV b21 2] (fun w => by kernel_rfl) ?_
                refine Sq.same [7] (l := [blkR b21 [iV (t1x0.length : Int), iV (t2x0.length : Int), iV (b1x0.length : Int), iV (b2x0.length : Int)] 31]) (o_load (i := 2) (v := iV (b1x0.length : Int)) (by kernel_rfl) (by kernel_rfl) (by kernel_rfl)) (by kernel_rfl) rfl (by kernel_rfl) rfl ?_
                refine Sq.vals [3] (rest := []) [bV (decide ((i : Int) < (b1x0.length : Int)))] (fun w => by kernel_rfl) ?_
                refine Sq.done ?_
                refine Ex'.next ?_
                refine Cd.case (p := (i : Int) < (b1x0.length : Int)) (by kernel_rfl) (fun h35 => ?_) (fun h35 => ?_)
                ·
                  have hin : (b1x0 ++ b2x0).getD i ⟨#[]⟩ ∈ b1x0 := getD_appL (by omega)
                  obtain ⟨hu1, hu2⟩ := hB.up hin
                  refine Cd.seq ?_
                  refine Cd.region rfl ?_
                  refine Sq.vals [0] (rest := [1, 2, 3, 4, 5, 6, 7, 8, 9, 10, 11, 12, 13, 14, 15]) [pV b5 0] (fun w => by kernel_rfl) ?_
                  refine Sq.same [1, 2, 3, 4, 5] (l := arcL b5 lt16 lt27 lb18 lb29 m x22.1 x22.2.1 x22.2.2.1 x22.2.2.2.1 x22.2.2.2.2.1 (n0 + 2)) (o_call (by kernel_rfl) Try.call11 (Tri.eq (l2 := arcL b5 lt16 lt27 lb18 lb29 m x22.1 x22.2.1 x22.2.2.1 x22.2.2.2.1 x22.2.2.2.2.1 (n0 + 2)) (r' := iV x22.1) (arc_Share (n := n0 + 2) (most := m) (p := x22.1) (t1 := x22.2.1) (t2 := x22.2.2.1) (b1 := x22.2.2.2.1) (b2 := x22.2.2.2.2.1) (by omega)) (rfl) (rfl))) (by kernel_rfl) rfl (by kernel_rfl) rfl ?_
                  refine Sq.vals [2] (rest := [3, 4, 5, 6, 7, 8, 9, 10, 11, 12, 13, 14, 15]) [iV p0] (fun w => by kernel_rfl) ?_
                  refine Sq.v (r := bV (decide (x22.1 ≥ p0))) (pureV (by kernel_rfl) rfl fun w => by kernel_rfl) rfl (by kernel_rfl) ?_
                  refine Sq.re 124 rfl (vT (by omega)) ?_
                  refine Sq.vals [4, 5] (rest := [6, 7, 8, 9, 10, 11, 12, 13, 14, 15]) [bV true, pV b5 0] (fun w => by kernel_rfl) ?_
                  refine Sq.same [1, 2, 3, 4, 5] (l := arcL b5 lt16 lt27 lb18 lb29 m x22.1 x22.2.1 x22.2.2.1 x22.2.2.2.1 x22.2.2.2.2.1 (n0 + 2)) (o_call (by kernel_rfl) Try.call11 (Tri.eq (l2 := arcL b5 lt16 lt27 lb18 lb29 m x22.1 x22.2.1 x22.2.2.1 x22.2.2.2.1 x22.2.2.2.2.1 (n0 + 2)) (r' := iV x22.1) (arc_Share (n := n0 + 2) (most := m) (p := x22.1) (t1 := x22.2.1) (t2 := x22.2.2.1) (b1 := x22.2.2.2.1) (b2 := x22.2.2.2.2.1) (by omega)) (rfl) (rfl))) (by kernel_rfl) rfl (by kernel_rfl) rfl ?_
                  refine Sq.vals [7, 8, 9] (rest := [10, 11, 12, 13, 14, 15]) [iV p0, bV (decide (x22.1 > p0)), bV (decide (x22.1 > p0))] (fun w => by kernel_rfl) ?_
                  refine Sq.case 130 (p := x22.1 > p0) rfl (fun h36 => ?_) (fun h36 => ?_)
                  ·
                    refine Sq.vals [10, 11, 12, 13, 14, 15] (rest := []) [undef, undef, undef, bV true, bV true, bV true] (fun w => by kernel_rfl) ?_
                    refine Sq.done ?_
                    refine Ex'.next ?_
                    refine Cd.ret ?_
                    refine Ex'.thenRet ?_
                    refine Ex'.ret Try.results4 (RVs.tmp (v := bV true) (by kernel_rfl) (RVs.nil)) (fun w hw => ?_)
                    exact ⟨_, ⟨rfl, by kernel_rfl⟩, hw⟩
                  ·
                    refine Sq.vals [10, 11] (rest := [12, 13, 14, 15]) [iV p0, iV m] (fun w => by kernel_rfl) ?_
                    refine Sq.v (r := bV (decide (p0 = m))) (o_eqI (k := .i64) (a := p0) (b := m) (by kernel_rfl) (by kernel_rfl)) rfl (by kernel_rfl) ?_
                    refine Sq.vals [13, 14, 15] (rest := []) [bV (decide (p0 = m)), bV (decide (p0 = m)), bV (decide (p0 = m))] (fun w => by kernel_rfl) ?_
                    refine Sq.done ?_
                    refine Ex'.next ?_
                    refine Cd.ret ?_
                    refine Ex'.thenRet ?_
                    refine Ex'.ret Try.results4 (RVs.tmp (v := bV (decide (p0 = m))) (by kernel_rfl) (RVs.nil)) (fun w hw => ?_)
                    exact ⟨_, ⟨(vT (by omega)), by kernel_rfl⟩, hw⟩
                ·
                  have hin : (b1x0 ++ b2x0).getD i ⟨#[]⟩ ∈ b2x0 := getD_appR (by omega) hi2
                  have hni : (b1x0 ++ b2x0).getD i ⟨#[]⟩ ∉ b1x0 := fun q => by have a1 := hI.n ((b1x0 ++ b2x0).getD i ⟨#[]⟩); have a2 := cn_mem.1 q; have a3 := cn_mem.1 hin; omega
                  obtain ⟨hu1, hu2⟩ := hB.dn hni
                  refine Cd.skip ?_
                  refine Ex'.next ?_
                  refine Cd.seq ?_
                  refine Cd.region rfl ?_
                  refine Sq.vals [0] (rest := [1, 2, 3, 4, 5, 6, 7, 8, 9, 10, 11, 12, 13, 14]) [pV b5 0] (fun w => by kernel_rfl) ?_
                  refine Sq.same [1, 2, 3, 4, 5] (l := arcL b5 lt16 lt27 lb18 lb29 m x22.1 x22.2.1 x22.2.2.1 x22.2.2.2.1 x22.2.2.2.2.1 (n0 + 2)) (o_call (by kernel_rfl) Try.call11 (Tri.eq (l2 := arcL b5 lt16 lt27 lb18 lb29 m x22.1 x22.2.1 x22.2.2.1 x22.2.2.2.1 x22.2.2.2.2.1 (n0 + 2)) (r' := iV x22.1) (arc_Share (n := n0 + 2) (most := m) (p := x22.1) (t1 := x22.2.1) (t2 := x22.2.2.1) (b1 := x22.2.2.2.1) (b2 := x22.2.2.2.2.1) (by omega)) (rfl) (rfl))) (by kernel_rfl) rfl (by kernel_rfl) rfl ?_
                  refine Sq.vals [2] (rest := [3, 4, 5, 6, 7, 8, 9, 10, 11, 12, 13, 14]) [iV p0] (fun w => by kernel_rfl) ?_
                  refine Sq.v (r := bV (decide (x22.1 ≤ p0))) (pureV (by kernel_rfl) rfl fun w => by kernel_rfl) rfl (by kernel_rfl) ?_
                  refine Sq.re 139 rfl (vT (by omega)) ?_
                  refine Sq.vals [4, 5] (rest := [6, 7, 8, 9, 10, 11, 12, 13, 14]) [bV true, pV b5 0] (fun w => by kernel_rfl) ?_
                  refine Sq.same [1, 2, 3, 4, 5] (l := arcL b5 lt16 lt27 lb18 lb29 m x22.1 x22.2.1 x22.2.2.1 x22.2.2.2.1 x22.2.2.2.2.1 (n0 + 2)) (o_call (by kernel_rfl) Try.call11 (Tri.eq (l2 := arcL b5 lt16 lt27 lb18 lb29 m x22.1 x22.2.1 x22.2.2.1 x22.2.2.2.1 x22.2.2.2.2.1 (n0 + 2)) (r' := iV x22.1) (arc_Share (n := n0 + 2) (most := m) (p := x22.1) (t1 := x22.2.1) (t2 := x22.2.2.1) (b1 := x22.2.2.2.1) (b2 := x22.2.2.2.2.1) (by omega)) (rfl) (rfl))) (by kernel_rfl) rfl (by kernel_rfl) rfl ?_
                  refine Sq.vals [7, 8, 9] (rest := [10, 11, 12, 13, 14]) [iV p0, bV (decide (x22.1 < p0)), bV (decide (x22.1 < p0))] (fun w => by kernel_rfl) ?_
                  refine Sq.case 145 (p := x22.1 < p0) rfl (fun h37 => ?_) (fun h37 => ?_)
                  ·
                    refine Sq.vals [10, 11, 12, 13, 14] (rest := []) [undef, undef, bV true, bV true, bV true] (fun w => by kernel_rfl) ?_
                    refine Sq.done ?_
                    refine Ex'.next ?_
                    refine Cd.ret ?_
                    refine Ex'.ret Try.results4 (RVs.tmp (v := bV true) (by kernel_rfl) (RVs.nil)) (fun w hw => ?_)
                    exact ⟨_, ⟨rfl, by kernel_rfl⟩, hw⟩
                  ·
                    refine Sq.vals [10] (rest := [11, 12, 13, 14]) [iV p0] (fun w => by kernel_rfl) ?_
                    refine Sq.v (r := bV (decide (p0 = 0))) (o_eqI (k := .i64) (a := p0) (b := 0) (by kernel_rfl) (by kernel_rfl)) rfl (by kernel_rfl) ?_
                    refine Sq.vals [12, 13, 14] (rest := []) [bV (decide (p0 = 0)), bV (decide (p0 = 0)), bV (decide (p0 = 0))] (fun w => by kernel_rfl) ?_
                    refine Sq.done ?_
                    refine Ex'.next ?_
                    refine Cd.ret ?_
                    refine Ex'.ret Try.results4 (RVs.tmp (v := bV (decide (p0 = 0))) (by kernel_rfl) (RVs.nil)) (fun w hw => ?_)
                    exact ⟨_, ⟨(vT (by omega)), by kernel_rfl⟩, hw⟩
              ·
                refine Cd.plan [0, 1, 3, 7, 15, 7, 39, 127, 255, 511] [(1, [(8, false, 0)])] [] [] [] [fun g => pV b23 2, fun g => bV x22.2.2.2.2.2.2.2, fun g => bV false, fun g => undef, fun g => undef, fun g => undef, fun g => undef, fun g => undef, fun g => undef, fun g => bV false] (by kernel_rfl) (by kernel_rfl) rfl (trivial) ?_ ?_
                · exact ⟨ob_val fun g w => by kernel_rfl, ob_s (l := fun g => [blkR b23 [bV x22.2.2.2.2.2.1, sV x22.2.2.2.2.2.2.1, bV x22.2.2.2.2.2.2.2] 28]) (l' := fun g => [blkR b23 [bV x22.2.2.2.2.2.1, sV x22.2.2.2.2.2.2.1, bV x22.2.2.2.2.2.2.2] 28]) (v := fun g => bV x22.2.2.2.2.2.2.2) (fun g => o_load (i := 2) (v := bV x22.2.2.2.2.2.2.2) (by kernel_rfl) (by kernel_rfl) (by kernel_rfl)) (fun g => by kernel_rfl), ob_v (v := fun g => bV false) (fun g => OprV.re (pureV (v := bV x22.2.2.2.2.2.2.2) (by kernel_rfl) rfl fun w => by kernel_rfl) (congrArg Value.bool (show x22.2.2.2.2.2.2.2 = false from h31))) (fun g => by kernel_rfl), ob_val fun g w => by kernel_rfl, ob_val fun g w => by kernel_rfl, ob_val fun g w => by kernel_rfl, ob_val fun g w => by kernel_rfl, ob_val fun g w => by kernel_rfl, ob_val fun g w => by kernel_rfl, ob_val fun g w => by kernel_rfl, trivial⟩
                intro g
                refine Ex'.sub (subB_spec [0, 2, 7, 10, 11, 116]) ?_
                refine Ex'.as [0, 1, 2, 3, 4, 5, 6, 7, 8, 9, 10] (σ' := [(0, iV m), (2, iV (i : Int)), (7, pV b5 0), (10, pV b21 0), (11, iV p0), (116, bV false)]) (Γ' := [oldR w0, arcB b5 lt16 lt27 lb18 lb29 m x22.1, llR lt16 x22.2.1 (n0 + 2), llR lt27 x22.2.2.1 (n0 + 2), llR lb18 x22.2.2.2.1 (n0 + 2), llR lb29 x22.2.2.2.2.1 (n0 + 2), rowR 9 1 (.slice (some ⟨b20, 0, none⟩) ((b1x0 ++ b2x0).length) c18) ((b1x0 ++ b2x0).length) ((b1x0 ++ b2x0).map Value.string), blkR b21 [iV (t1x0.length : Int), iV (t2x0.length : Int), iV (b1x0.length : Int), iV (b2x0.length : Int)] 31, blkR b23 [bV x22.2.2.2.2.2.1, sV x22.2.2.2.2.2.2.1, bV x22.2.2.2.2.2.2.2] 28, rowR 9 1 (.slice (some ⟨b27, 0, none⟩) ((x22.2.1.reverse ++ x22.2.2.1.reverse).length) c26) ((x22.2.1.reverse ++ x22.2.2.1.reverse).length) ((x22.2.1.reverse ++ x22.2.2.1.reverse).map Value.string), rowR 9 1 (.slice a29 ((x22.2.2.2.1 ++ x22.2.2.2.2.1).length) c30) ((x22.2.2.2.1 ++ x22.2.2.2.2.1).length) ((x22.2.2.2.1 ++ x22.2.2.2.2.1).map Value.string)]) (by kernel_rfl) rfl (by kernel_rfl) (by kernel_rfl) ?_
                refine Ex'.next ?_
                refine Cd.condF (by kernel_rfl) ?_
                refine Cd.skip ?_
                refine Ex'.next ?_
                refine Cd.seq ?_
                refine Cd.seq ?_
                refine Cd.region rfl ?_
                refine Sq.vals [0, 1] (rest := [2, 3]) [iV (i : Int), pV b21 2] (fun w => by kernel_rfl) ?_
                refine Sq.same [7] (l := [blkR b21 [iV (t1x0.length : Int), iV (t2x0.length : Int), iV (b1x0.length : Int), iV (b2x0.length : Int)] 31]) (o_load (i := 2) (v := iV (b1x0.length : Int)) (by kernel_rfl) (by kernel_rfl) (by kernel_rfl)) (by kernel_rfl) rfl (by kernel_rfl) rfl ?_
                refine Sq.vals [3] (rest := []) [bV (decide ((i : Int) < (b1x0.length : Int)))] (fun w => by kernel_rfl) ?_
                refine Sq.done ?_
                refine Ex'.next ?_
                refine Cd.case (p := (i : Int) < (b1x0.length : Int)) (by kernel_rfl) (fun h38 => ?_) (fun h38 => ?_)
                ·
                  have hin : (b1x0 ++ b2x0).getD i ⟨#[]⟩ ∈ b1x0 := getD_appL (by omega)
                  obtain ⟨hu1, hu2⟩ := hB.up hin
                  refine Cd.seq ?_
                  refine Cd.region rfl ?_
                  refine Sq.vals [0] (rest := [1, 2, 3, 4, 5, 6, 7, 8, 9, 10, 11, 12, 13, 14, 15]) [pV b5 0] (fun w => by kernel_rfl) ?_
                  refine Sq.same [1, 2, 3, 4, 5] (l := arcL b5 lt16 lt27 lb18 lb29 m x22.1 x22.2.1 x22.2.2.1 x22.2.2.2.1 x22.2.2.2.2.1 (n0 + 2)) (o_call (by kernel_rfl) Try.call11 (Tri.eq (l2 := arcL b5 lt16 lt27 lb18 lb29 m x22.1 x22.2.1 x22.2.2.1 x22.2.2.2.1 x22.2.2.2.2.1 (n0 + 2)) (r' := iV x22.1) (arc_Share (n := n0 + 2) (most := m) (p := x22.1) (t1 := x22.2.1) (t2 := x22.2.2.1) (b1 := x22.2.2.2.1) (b2 := x22.2.2.2.2.1) (by omega)) (rfl) (rfl))) (by kernel_rfl) rfl (by kernel_rfl) rfl ?_
                  refine Sq.vals [2] (rest := [3, 4, 5, 6, 7, 8, 9, 10, 11, 12, 13, 14, 15]) [iV p0] (fun w => by kernel_rfl) ?_
                  refine Sq.v (r := bV (decide (x22.1 ≥ p0))) (pureV (by kernel_rfl) rfl fun w => by kernel_rfl) rfl (by kernel_rfl) ?_
                  refine Sq.re 124 rfl (vT (by omega)) ?_
                  refine Sq.vals [4, 5] (rest := [6, 7, 8, 9, 10, 11, 12, 13, 14, 15]) [bV true, pV b5 0] (fun w => by kernel_rfl) ?_
                  refine Sq.same [1, 2, 3, 4, 5] (l := arcL b5 lt16 lt27 lb18 lb29 m x22.1 x22.2.1 x22.2.2.1 x22.2.2.2.1 x22.2.2.2.2.1 (n0 + 2)) (o_call (by kernel_rfl) Try.call11 (Tri.eq (l2 := arcL b5 lt16 lt27 lb18 lb29 m x22.1 x22.2.1 x22.2.2.1 x22.2.2.2.1 x22.2.2.2.2.1 (n0 + 2)) (r' := iV x22.1) (arc_Share (n := n0 + 2) (most := m) (p := x22.1) (t1 := x22.2.1) (t2 := x22.2.2.1) (b1 := x22.2.2.2.1) (b2 := x22.2.2.2.2.1) (by omega)) (rfl) (rfl))) (by kernel_rfl) rfl (by kernel_rfl) rfl ?_
                  refine Sq.vals [7, 8, 9] (rest := [10, 11, 12, 13, 14, 15]) [iV p0, bV (decide (x22.1 > p0)), bV (decide (x22.1 > p0))] (fun w => by kernel_rfl) ?_
                  refine Sq.case 130 (p := x22.1 > p0) rfl (fun h39 => ?_) (fun h39 => ?_)
                  ·
                    refine Sq.vals [10, 11, 12, 13, 14, 15] (rest := []) [undef, undef, undef, bV true, bV true, bV true] (fun w => by kernel_rfl) ?_
                    refine Sq.done ?_
                    refine Ex'.next ?_
                    refine Cd.ret ?_
                    refine Ex'.thenRet ?_
                    refine Ex'.ret Try.results4 (RVs.tmp (v := bV true) (by kernel_rfl) (RVs.nil)) (fun w hw => ?_)
                    exact ⟨_, ⟨rfl, by kernel_rfl⟩, hw⟩
                  ·
                    refine Sq.vals [10, 11] (rest := [12, 13, 14, 15]) [iV p0, iV m] (fun w => by kernel_rfl) ?_
                    refine Sq.v (r := bV (decide (p0 = m))) (o_eqI (k := .i64) (a := p0) (b := m) (by kernel_rfl) (by kernel_rfl)) rfl (by kernel_rfl) ?_
                    refine Sq.vals [13, 14, 15] (rest := []) [bV (decide (p0 = m)), bV (decide (p0 = m)), bV (decide (p0 = m))] (fun w => by kernel_rfl) ?_
                    refine Sq.done ?_
                    refine Ex'.next ?_
                    refine Cd.ret ?_
                    refine Ex'.thenRet ?_
                    refine Ex'.ret Try.results4 (RVs.tmp (v := bV (decide (p0 = m))) (by kernel_rfl) (RVs.nil)) (fun w hw => ?_)
                    exact ⟨_, ⟨(vT (by omega)), by kernel_rfl⟩, hw⟩
                ·
                  have hin : (b1x0 ++ b2x0).getD i ⟨#[]⟩ ∈ b2x0 := getD_appR (by omega) hi2
                  have hni : (b1x0 ++ b2x0).getD i ⟨#[]⟩ ∉ b1x0 := fun q => by have a1 := hI.n ((b1x0 ++ b2x0).getD i ⟨#[]⟩); have a2 := cn_mem.1 q; have a3 := cn_mem.1 hin; omega
                  obtain ⟨hu1, hu2⟩ := hB.dn hni
                  refine Cd.skip ?_
                  refine Ex'.next ?_
                  refine Cd.seq ?_
                  refine Cd.region rfl ?_
                  refine Sq.vals [0] (rest := [1, 2, 3, 4, 5, 6, 7, 8, 9, 10, 11, 12, 13, 14]) [pV b5 0] (fun w => by kernel_rfl) ?_
                  refine Sq.same [1, 2, 3, 4, 5] (l := arcL b5 lt16 lt27 lb18 lb29 m x22.1 x22.2.1 x22.2.2.1 x22.2.2.2.1 x22.2.2.2.2.1 (n0 + 2)) (o_call (by kernel_rfl) Try.call11 (Tri.eq (l2 := arcL b5 lt16 lt27 lb18 lb29 m x22.1 x22.2.1 x22.2.2.1 x22.2.2.2.1 x22.2.2.2.2.1 (n0 + 2)) (r' := iV x22.1) (arc_Share (n := n0 + 2) (most := m) (p := x22.1) (t1 := x22.2.1) (t2 := x22.2.2.1) (b1 := x22.2.2.2.1) (b2 := x22.2.2.2.2.1) (by omega)) (rfl) (rfl))) (by kernel_rfl) rfl (by kernel_rfl) rfl ?_
                  refine Sq.vals [2] (rest := [3, 4, 5, 6, 7, 8, 9, 10, 11, 12, 13, 14]) [iV p0] (fun w => by kernel_rfl) ?_
                  refine Sq.v (r := bV (decide (x22.1 ≤ p0))) (pureV (by kernel_rfl) rfl fun w => by kernel_rfl) rfl (by kernel_rfl) ?_
                  refine Sq.re 139 rfl (vT (by omega)) ?_
                  refine Sq.vals [4, 5] (rest := [6, 7, 8, 9, 10, 11, 12, 13, 14]) [bV true, pV b5 0] (fun w => by kernel_rfl) ?_
                  refine Sq.same [1, 2, 3, 4, 5] (l := arcL b5 lt16 lt27 lb18 lb29 m x22.1 x22.2.1 x22.2.2.1 x22.2.2.2.1 x22.2.2.2.2.1 (n0 + 2)) (o_call (by kernel_rfl) Try.call11 (Tri.eq (l2 := arcL b5 lt16 lt27 lb18 lb29 m x22.1 x22.2.1 x22.2.2.1 x22.2.2.2.1 x22.2.2.2.2.1 (n0 + 2)) (r' := iV x22.1) (arc_Share (n := n0 + 2) (most := m) (p := x22.1) (t1 := x22.2.1) (t2 := x22.2.2.1) (b1 := x22.2.2.2.1) (b2 := x22.2.2.2.2.1) (by omega)) (rfl) (rfl))) (by kernel_rfl) rfl (by kernel_rfl) rfl ?_
                  refine Sq.vals [7, 8, 9] (rest := [10, 11, 12, 13, 14]) [iV p0, bV (decide (x22.1 < p0)), bV (decide (x22.1 < p0))] (fun w => by kernel_rfl) ?_
                  refine Sq.case 145 (p := x22.1 < p0) rfl (fun h40 => ?_) (fun h40 => ?_)
                  ·
                    refine Sq.vals [10, 11, 12, 13, 14] (rest := []) [undef, undef, bV true, bV true, bV true] (fun w => by kernel_rfl) ?_
                    refine Sq.done ?_
                    refine Ex'.next ?_
                    refine Cd.ret ?_
                    refine Ex'.ret Try.results4 (RVs.tmp (v := bV true) (by kernel_rfl) (RVs.nil)) (fun w hw => ?_)
                    exact ⟨_, ⟨rfl, by kernel_rfl⟩, hw⟩
                  ·
                    refine Sq.vals [10] (rest := [11, 12, 13, 14]) [iV p0] (fun w => by kernel_rfl) ?_
                    refine Sq.v (r := bV (decide (p0 = 0))) (o_eqI (k := .i64) (a := p0) (b := 0) (by kernel_rfl) (by kernel_rfl)) rfl (by kernel_rfl) ?_
                    refine Sq.vals [12, 13, 14] (rest := []) [bV (decide (p0 = 0)), bV (decide (p0 = 0)), bV (decide (p0 = 0))] (fun w => by kernel_rfl) ?_
                    refine Sq.done ?_
                    refine Ex'.next ?_
                    refine Cd.ret ?_
                    refine Ex'.ret Try.results4 (RVs.tmp (v := bV (decide (p0 = 0))) (by kernel_rfl) (RVs.nil)) (fun w hw => ?_)
                    exact ⟨_, ⟨(vT (by omega)), by kernel_rfl⟩, hw⟩

theorem arcComesBack_walk (m : Int) (v : Value) (xs : List ByteArray) (wh : Int) (w : World) (hm : (Lit.int .i64 m).wf = true) (h : Strs w (fun k => k < w.heap.size) v xs) (hz : ∀ k ∈ xs, k.size ≤ maxLen) (hw : (Lit.int .i64 wh).wf = true) :
    Calls Try.prog 4 #[.int .i64 m, v, .int .i64 wh] w fun e w' => e = .returned (.bool true) ∧ Below w.heap.size w w' := by
  obtain ⟨a, cap, rfl, hl⟩ := KeysIn.shape ⟨h, hz⟩
  exact law_of (arcComesBack_tri (range64 hm) (range64 hw) hl ⟨h, hz⟩)

end Go.Proofs.Ytnijaeipkbpibaa
