/- ArcHits: its walk. -/
import Derived.Test.YtnijaeipkbpibaaArcPureD
import Derived.Test.YtnijaeipkbpibaaArcAwake
import Derived.Test.YtnijaeipkbpibaaActs
import Derived.Test.YtnijaeipkbpibaaSepJ
import Derived.Test.YtnijaeipkbpibaaSepH
import Derived.Test.YtnijaeipkbpibaaStepEq
set_option linter.unusedVariables false
namespace Go.Proofs.Ytnijaeipkbpibaa
open Go.RowKit Go.MapKept

set_option maxHeartbeats 8000000 in
set_option maxRecDepth 100000 in
theorem arcHits_tri {w0 : World} {m wh : Int} {a : Option Addr} {cap : Nat} {xs : List ByteArray} (hm : -9223372036854775808 ≤ m ∧ m ≤ 9223372036854775807) (hwh : -9223372036854775808 ≤ wh ∧ wh ≤ 9223372036854775807) (hl : xs.length ≤ cap ∧ cap ≤ 9223372036854775807) (hs : KeysIn w0 (.slice a xs.length cap) xs) : Tri Try.prog 5 #[iV m, .slice a xs.length cap, iV wh] [oldR w0] (LawP w0) := by
  refine Tri.enter (args := [iV m, .slice a xs.length cap, iV wh]) Try.func5 rfl rfl rfl (fun B wz => ?_)
  refine Cd.seq ?_
  refine Cd.region rfl ?_
  refine Sq.vals [0] (rest := []) [bV false] (fun w => by kernel_rfl) ?_
  refine Sq.done ?_
  refine Ex'.next ?_
  refine Cd.seq ?_
  refine Cd.seq ?_
  refine Cd.region rfl ?_
  refine Sq.same [] (l := []) (o_call (by kernel_rfl) Try.call7 (arc_awake)) (by kernel_rfl) rfl (by kernel_rfl) rfl ?_
  refine Sq.vals [1] (rest := []) [bV false] (fun w => by kernel_rfl) ?_
  refine Sq.done ?_
  refine Ex'.next ?_
  refine Cd.condF (by kernel_rfl) ?_
  refine Cd.skip ?_
  refine Ex'.next ?_
  refine Cd.seq ?_
  refine Cd.seq ?_
  refine Cd.region rfl ?_
  refine Sq.vals [0, 1, 2, 3] (rest := [4, 5, 6, 7, 8, 9, 10, 11, 12, 13, 14]) [.slice a xs.length cap, iV (xs.length : Int), bV (decide ((xs.length : Int) > 200)), bV (decide ((xs.length : Int) > 200))] (fun w => by kernel_rfl) ?_
  refine Sq.case 22 (p := (xs.length : Int) > 200) rfl (fun h1 => ?_) (fun h1 => ?_)
  ·
    refine Sq.vals [4, 5, 6, 7, 8, 9, 10, 11, 12, 13, 14] (rest := []) [undef, undef, bV true, bV true, undef, undef, bV true, bV true, undef, undef, bV true] (fun w => by kernel_rfl) ?_
    refine Sq.done ?_
    refine Ex'.next ?_
    refine Cd.condT (by kernel_rfl) ?_
    refine Cd.seq ?_
    refine Cd.region rfl ?_
    refine Sq.vals [0] (rest := []) [bV true] (fun w => by kernel_rfl) ?_
    refine Sq.done ?_
    refine Ex'.next ?_
    refine Cd.ret ?_
    refine Ex'.thenRet ?_
    refine Ex'.ret Try.results5 (RVs.tmp (v := bV true) (by kernel_rfl) (RVs.nil)) (fun w hw => ?_)
    exact ⟨_, ⟨rfl, by kernel_rfl⟩, hw⟩
  ·
    refine Sq.vals [4, 5, 6, 7] (rest := [8, 9, 10, 11, 12, 13, 14]) [iV m, bV (decide (m < 1)), bV (decide (m < 1)), bV (decide (m < 1))] (fun w => by kernel_rfl) ?_
    refine Sq.case 26 (p := m < 1) rfl (fun h2 => ?_) (fun h2 => ?_)
    ·
      refine Sq.vals [8, 9, 10, 11, 12, 13, 14] (rest := []) [undef, undef, bV true, bV true, undef, undef, bV true] (fun w => by kernel_rfl) ?_
      refine Sq.done ?_
      refine Ex'.next ?_
      refine Cd.condT (by kernel_rfl) ?_
      refine Cd.seq ?_
      refine Cd.region rfl ?_
      refine Sq.vals [0] (rest := []) [bV true] (fun w => by kernel_rfl) ?_
      refine Sq.done ?_
      refine Ex'.next ?_
      refine Cd.ret ?_
      refine Ex'.thenRet ?_
      refine Ex'.ret Try.results5 (RVs.tmp (v := bV true) (by kernel_rfl) (RVs.nil)) (fun w hw => ?_)
      exact ⟨_, ⟨rfl, by kernel_rfl⟩, hw⟩
    ·
      refine Sq.vals [8, 9, 10, 11] (rest := [12, 13, 14]) [iV m, bV (decide (m > 1000)), bV (decide (m > 1000)), bV (decide (m > 1000))] (fun w => by kernel_rfl) ?_
      refine Sq.case 30 (p := m > 1000) rfl (fun h3 => ?_) (fun h3 => ?_)
      ·
        refine Sq.vals [12, 13, 14] (rest := []) [undef, undef, bV true] (fun w => by kernel_rfl) ?_
        refine Sq.done ?_
        refine Ex'.next ?_
        refine Cd.condT (by kernel_rfl) ?_
        refine Cd.seq ?_
        refine Cd.region rfl ?_
        refine Sq.vals [0] (rest := []) [bV true] (fun w => by kernel_rfl) ?_
        refine Sq.done ?_
        refine Ex'.next ?_
        refine Cd.ret ?_
        refine Ex'.thenRet ?_
        refine Ex'.ret Try.results5 (RVs.tmp (v := bV true) (by kernel_rfl) (RVs.nil)) (fun w hw => ?_)
        exact ⟨_, ⟨rfl, by kernel_rfl⟩, hw⟩
      ·
        refine Sq.vals [12, 13, 14] (rest := []) [iV wh, bV (decide (wh < 0)), bV (decide (wh < 0))] (fun w => by kernel_rfl) ?_
        refine Sq.done ?_
        refine Ex'.next ?_
        refine Cd.case (p := wh < 0) (by kernel_rfl) (fun h4 => ?_) (fun h4 => ?_)
        ·
          refine Cd.seq ?_
          refine Cd.region rfl ?_
          refine Sq.vals [0] (rest := []) [bV true] (fun w => by kernel_rfl) ?_
          refine Sq.done ?_
          refine Ex'.next ?_
          refine Cd.ret ?_
          refine Ex'.thenRet ?_
          refine Ex'.ret Try.results5 (RVs.tmp (v := bV true) (by kernel_rfl) (RVs.nil)) (fun w hw => ?_)
          exact ⟨_, ⟨rfl, by kernel_rfl⟩, hw⟩
        ·
          refine Cd.skip ?_
          refine Ex'.next ?_
          refine Cd.seq ?_
          refine Cd.region rfl ?_
          refine Sq.vals [0] (rest := [1, 2]) [iV m] (fun w => by kernel_rfl) ?_
          refine Sq.ex [] (l := []) (o_call (by kernel_rfl) Try.call8 (Tri.ex (L' := fun x => arcL x.1 x.2.1 x.2.2.1 x.2.2.2.1 x.2.2.2.2 m 0 [] [] [] [] 0) (arc_New m (by omega)) (fun x => by simp only [arcNew_nn (show 0 ≤ m by omega)]))) (by kernel_rfl) rfl (by kernel_rfl) (fun _ => Nat.le_of_ble_eq_true (by kernel_rfl)) ?_; rintro ⟨b5, lt16, lt27, lb18, lb29⟩ _
          refine Sq.vals [2] (rest := []) [pV b5 0] (fun w => by kernel_rfl) ?_
          refine Sq.done ?_
          refine Ex'.next ?_
          refine Cd.seq ?_
          refine Cd.seq ?_
          refine Cd.region rfl ?_
          refine Sq.vals [0, 1] (rest := []) [pV b5 0, bV false] (fun w => by kernel_rfl) ?_
          refine Sq.done ?_
          refine Ex'.next ?_
          refine Cd.condF (by kernel_rfl) ?_
          refine Cd.skip ?_
          refine Ex'.next ?_
          refine Cd.seq ?_
          refine Cd.seq ?_
          refine Cd.region rfl ?_
          refine Sq.vals [0] (rest := []) [iV 0] (fun w => by kernel_rfl) ?_
          refine Sq.done ?_
          refine Ex'.next ?_
          refine Cd.block ?_
          refine Cd.loop (ι := Nat × Int × (List ByteArray) × (List ByteArray) × (List ByteArray) × (List ByteArray) × Nat) (fun ⟨k, p0, t1x0, t2x0, b1x0, b2x0, n0⟩ => k ≤ xs.length ∧ ArcI m p0 t1x0 t2x0 b1x0 b2x0 ∧ n0 ≤ k * 2 ∧ (0 < k → 0 < t1x0.length + t2x0.length)) (fun ⟨k, p0, t1x0, t2x0, b1x0, b2x0, n0⟩ => xs.length - k) (fun ⟨k, p0, t1x0, t2x0, b1x0, b2x0, n0⟩ => [(1, .slice a xs.length cap), (2, iV wh), (7, pV b5 0), (8, iV (k : Int))]) (fun ⟨k, p0, t1x0, t2x0, b1x0, b2x0, n0⟩ => [oldR w0, arcB b5 lt16 lt27 lb18 lb29 m p0, llR lt16 t1x0 n0, llR lt27 t2x0 n0, llR lb18 b1x0 n0, llR lb29 b2x0 n0]) (0, 0, [], [], [], [], 0) (⟨Nat.zero_le _, ArcI.new (by omega), Nat.le_refl _, fun q => absurd q (Nat.lt_irrefl 0)⟩) (subB_eq (l := [1, 2, 7, 8]) (by kernel_rfl)) (fun w hw => hw.pickB [0, 1, 2, 3, 4, 5] (by kernel_rfl) (by kernel_rfl) (by kernel_rfl)) ?_
          rintro ⟨k, p0, t1x0, t2x0, b1x0, b2x0, n0⟩ hL10
          try dsimp only at hL10 ⊢
          obtain ⟨hk, hI, hn, hso⟩ := hL10
          have hI0 := hI.p0; have hIm := hI.pm
          refine Cd.seq ?_
          refine Cd.seq ?_
          refine Cd.region rfl ?_
          refine Sq.vals [0, 1, 2, 3] (rest := []) [iV (k : Int), .slice a xs.length cap, iV (xs.length : Int), bV (decide ((k : Int) < (xs.length : Int)))] (fun w => by kernel_rfl) ?_
          refine Sq.done ?_
          refine Ex'.next ?_
          refine Cd.case (p := (k : Int) < (xs.length : Int)) (by kernel_rfl) (fun h11 => ?_) (fun h11 => ?_)
          ·
            obtain ⟨g12, off13, rfl⟩ := hs.addr (by omega)
            obtain ⟨kyk, hgk, hwk, hrk⟩ := hs.at (k := k) (by omega)
            refine Cd.skip ?_
            refine Ex'.next ?_
            refine Cd.seq ?_
            refine Cd.block ?_
            refine Cd.seq ?_
            refine Cd.seq ?_
            refine Cd.region rfl ?_
            refine Sq.vals [0, 1] (rest := [2, 3, 4, 5]) [.slice (some ⟨g12, off13, none⟩) xs.length cap, iV (k : Int)] (fun w => by kernel_rfl) ?_
            refine Sq.v (r := pV g12 (off13 + k)) (o_idx (b := g12) (cap := cap) (e := 9) (off := off13) (n := xs.length) (kd := .i64) (q := (k : Int)) (i := k) (size := 1) (j := off13 + k) (by kernel_rfl) (by kernel_rfl) (by rfl) (by omega) Try.underlying22 (by kernel_rfl) (by omega)) rfl (by kernel_rfl) ?_
            refine Sq.same [0] (l := [oldR w0]) (o_loadOld (b := g12) (j := off13 + k) (u := sV kyk) (by kernel_rfl) (by kernel_rfl) (hrk 0 _ rfl)) (by kernel_rfl) rfl (by kernel_rfl) rfl ?_
            refine Sq.vals [4, 5] (rest := []) [iV (kyk.size : Int), bV (decide ((kyk.size : Int) > 200))] (fun w => by kernel_rfl) ?_
            refine Sq.done ?_
            refine Ex'.next ?_
            refine Cd.case (p := (kyk.size : Int) > 200) (by kernel_rfl) (fun h14 => ?_) (fun h14 => ?_)
            ·
              refine Cd.seq ?_
              refine Cd.region rfl ?_
              refine Sq.vals [0] (rest := []) [bV true] (fun w => by kernel_rfl) ?_
              refine Sq.done ?_
              refine Ex'.next ?_
              refine Cd.ret ?_
              refine Ex'.thenRet ?_
              refine Ex'.blockRet ?_
              refine Ex'.thenRet ?_
              refine Ex'.thenRet ?_
              refine Ex'.blockRet ?_
              refine Ex'.thenRet ?_
              refine Ex'.ret Try.results5 (RVs.tmp (v := bV true) (by kernel_rfl) (RVs.nil)) (fun w hw => ?_)
              exact ⟨_, ⟨rfl, by kernel_rfl⟩, hw⟩
            ·
              refine Cd.skip ?_
              refine Ex'.next ?_
              refine Cd.region rfl ?_
              refine Sq.vals [0, 1, 2] (rest := [3, 4, 5]) [pV b5 0, .slice (some ⟨g12, off13, none⟩) xs.length cap, iV (k : Int)] (fun w => by kernel_rfl) ?_
              refine Sq.v (r := pV g12 (off13 + k)) (o_idx (b := g12) (cap := cap) (e := 9) (off := off13) (n := xs.length) (kd := .i64) (q := (k : Int)) (i := k) (size := 1) (j := off13 + k) (by kernel_rfl) (by kernel_rfl) (by rfl) (by omega) Try.underlying22 (by kernel_rfl) (by omega)) rfl (by kernel_rfl) ?_
              refine Sq.same [0] (l := [oldR w0]) (o_loadOld (b := g12) (j := off13 + k) (u := sV kyk) (by kernel_rfl) (by kernel_rfl) (hrk 0 _ rfl)) (by kernel_rfl) rfl (by kernel_rfl) rfl ?_
              refine Sq.same [1, 2, 3, 4, 5] (l := arcL b5 lt16 lt27 lb18 lb29 m p0 t1x0 t2x0 b1x0 b2x0 n0) (o_call (by kernel_rfl) Try.call10 (arc_Request (n := n0) (n' := n0 + 2) (most := m) (p := p0) (t1 := t1x0) (t2 := t2x0) (b1 := b1x0) (b2 := b2x0) kyk (by omega) (by omega) (by omega) (by omega))) (by kernel_rfl) rfl (by kernel_rfl) rfl ?_
              generalize hxx15 : arcReq m p0 t1x0 t2x0 b1x0 b2x0 kyk = x15
              have hR := ArcI.req hI kyk hxx15
              refine Sq.done ?_
              refine Ex'.blockNormal ?_
              refine Ex'.next ?_
              refine Cd.region rfl ?_
              refine Sq.vals [0] (rest := [1, 2]) [iV (k : Int)] (fun w => by kernel_rfl) ?_
              refine Sq.v (r := iV ((k : Int) + 1)) (o_add (k := .i64) (a := (k : Int)) (b := 1) (c := (k : Int) + 1) (by kernel_rfl) (by kernel_rfl) (w64 rfl (by omega))) rfl (by kernel_rfl) ?_
              refine Sq.vals [2] (rest := []) [iV ((k : Int) + 1)] (fun w => by kernel_rfl) ?_
              refine Sq.done ?_
              refine Ex'.round (g := (k, p0, t1x0, t2x0, b1x0, b2x0, n0)) (k + 1, x15.1, x15.2.1, x15.2.2.1, x15.2.2.2.1, x15.2.2.2.2.1, n0 + 2) ?_ ?_ (subB_eq (l := [1, 2, 7, 8]) (by kernel_rfl)) (fun w hw => hw.pickB [0, 1, 2, 3, 4, 5] (by kernel_rfl) (by kernel_rfl) (by kernel_rfl))
              · (try dsimp only); exact ⟨by omega, hR.i, by first | omega | (dsimp only; omega), fun _ => hR.some (by omega)⟩
              · omega
          ·
            refine Cd.exit ?_
            refine Ex'.thenExit ?_
            refine Ex'.thenExit ?_
            refine Ex'.blockHit ?_
            refine Ex'.next ?_
            refine Cd.seq ?_
            refine Cd.region rfl ?_
            refine Sq.vals [0] (rest := [1, 2]) [pV b5 0] (fun w => by kernel_rfl) ?_
            refine Sq.ex [1, 2, 3, 4, 5] (l := arcL b5 lt16 lt27 lb18 lb29 m p0 t1x0 t2x0 b1x0 b2x0 n0) (o_call (by kernel_rfl) Try.call15 (Tri.ex (L' := fun v => arcL b5 lt16 lt27 lb18 lb29 m p0 t1x0 t2x0 b1x0 b2x0 n0 ++ [rowR 9 1 v (t1x0.reverse ++ t2x0.reverse).length ((t1x0.reverse ++ t2x0.reverse).map Value.string)]) (arc_Keys (n := n0) (most := m) (p := p0) (t1 := t1x0) (t2 := t2x0) (b1 := b1x0) (b2 := b2x0) (by omega)) (fun v => rfl))) (by kernel_rfl) rfl (by kernel_rfl) (fun _ => Nat.le_of_ble_eq_true (by kernel_rfl)) ?_; rintro v16 _
            refine Sq.fact (i := 6) (R := rowR 9 1 v16 ((t1x0.reverse ++ t2x0.reverse).length) ((t1x0.reverse ++ t2x0.reverse).map Value.string)) (by kernel_rfl) row_slice ?_; rintro ⟨a17, c18, rfl, hc18, hc18'⟩
            have hc18'' : c18 ≤ 9223372036854775807 := hc18'
            refine Sq.vals [2] (rest := []) [.slice a17 ((t1x0.reverse ++ t2x0.reverse).length) c18] (fun w => by kernel_rfl) ?_
            refine Sq.done ?_
            refine Ex'.next ?_
            refine Cd.seq ?_
            refine Cd.seq ?_
            refine Cd.region rfl ?_
            refine Sq.vals [0, 1] (rest := [2]) [.slice a17 ((t1x0.reverse ++ t2x0.reverse).length) c18, iV ((t1x0.reverse ++ t2x0.reverse).length : Int)] (fun w => by kernel_rfl) ?_
            refine Sq.v (r := bV (decide (((t1x0.reverse ++ t2x0.reverse).length : Int) = 0))) (o_eqI (k := .i64) (a := ((t1x0.reverse ++ t2x0.reverse).length : Int)) (b := 0) (by kernel_rfl) (by kernel_rfl)) rfl (by kernel_rfl) ?_
            refine Sq.done ?_
            refine Ex'.next ?_
            refine Cd.case (p := ((t1x0.reverse ++ t2x0.reverse).length : Int) = 0) (by kernel_rfl) (fun h19 => ?_) (fun h19 => ?_)
            ·
              refine Cd.seq ?_
              refine Cd.region rfl ?_
              refine Sq.vals [0, 1] (rest := [2, 3]) [.slice a xs.length cap, iV (xs.length : Int)] (fun w => by kernel_rfl) ?_
              refine Sq.v (r := bV (decide ((xs.length : Int) = 0))) (o_eqI (k := .i64) (a := (xs.length : Int)) (b := 0) (by kernel_rfl) (by kernel_rfl)) rfl (by kernel_rfl) ?_
              refine Sq.vals [3] (rest := []) [bV (decide ((xs.length : Int) = 0))] (fun w => by kernel_rfl) ?_
              refine Sq.done ?_
              refine Ex'.next ?_
              refine Cd.ret ?_
              refine Ex'.thenRet ?_
              refine Ex'.ret Try.results5 (RVs.tmp (v := bV (decide ((xs.length : Int) = 0))) (by kernel_rfl) (RVs.nil)) (fun w hw => ?_)
              have hz0 : t1x0.length + t2x0.length = 0 := by have h9 := h19; simp only [List.length_append, List.length_reverse] at h9; omega
              have hk0 : k = 0 := by rcases Nat.eq_zero_or_pos k with q | q; exact q; exact absurd (hso q) (by omega)
              exact ⟨_, ⟨(vT (by omega)), by kernel_rfl⟩, hw⟩
            ·
              have hL0 : 0 < (t1x0.reverse ++ t2x0.reverse).length := by omega
              obtain ⟨i, hi1, hi2⟩ := rem_at (a := wh) (n := (t1x0.reverse ++ t2x0.reverse).length) (by omega) hL0
              refine Cd.fact (i := 6) (R := rowR 9 1 (.slice a17 ((t1x0.reverse ++ t2x0.reverse).length) c18) ((t1x0.reverse ++ t2x0.reverse).length) ((t1x0.reverse ++ t2x0.reverse).map Value.string)) (by kernel_rfl) (row_addr (hL0)) ?_; rintro ⟨b20, rfl⟩
              refine Cd.skip ?_
              refine Ex'.next ?_
              refine Cd.seq ?_
              refine Cd.region rfl ?_
              refine Sq.vals [0, 1, 2, 3] (rest := [4, 5, 6, 7]) [.slice (some ⟨b20, 0, none⟩) ((t1x0.reverse ++ t2x0.reverse).length) c18, iV wh, .slice (some ⟨b20, 0, none⟩) ((t1x0.reverse ++ t2x0.reverse).length) c18, iV ((t1x0.reverse ++ t2x0.reverse).length : Int)] (fun w => by kernel_rfl) ?_
              refine Sq.v (r := iV (i : Int)) (o_rem (k := .i64) (a := wh) (b := ((t1x0.reverse ++ t2x0.reverse).length : Int)) (c := (i : Int)) (by kernel_rfl) (by kernel_rfl) (by omega) (hi1)) rfl (by kernel_rfl) ?_
              refine Sq.v (r := pV b20 i) (o_idx (b := b20) (cap := c18) (e := 9) (off := 0) (n := (t1x0.reverse ++ t2x0.reverse).length) (kd := .i64) (q := (i : Int)) (i := i) (size := 1) (j := i) (by kernel_rfl) (by kernel_rfl) (by rfl) (by omega) Try.underlying22 (by kernel_rfl) (by omega)) rfl (by kernel_rfl) ?_
              refine Sq.same [6] (l := [rowR 9 1 (.slice (some ⟨b20, 0, none⟩) ((t1x0.reverse ++ t2x0.reverse).length) c18) ((t1x0.reverse ++ t2x0.reverse).length) ((t1x0.reverse ++ t2x0.reverse).map Value.string)]) (o_loadRow (i := i) (u := sV ((t1x0.reverse ++ t2x0.reverse).getD i ⟨#[]⟩)) (by kernel_rfl) (by omega) (by kernel_rfl) (get_map (by omega))) (by kernel_rfl) rfl (by kernel_rfl) rfl ?_
              refine Sq.vals [7] (rest := []) [sV ((t1x0.reverse ++ t2x0.reverse).getD i ⟨#[]⟩)] (fun w => by kernel_rfl) ?_
              refine Sq.done ?_
              refine Ex'.next ?_
              refine Cd.seq ?_
              refine Cd.region rfl ?_
              refine Sq.vals [0] (rest := [1, 2]) [pV b5 0] (fun w => by kernel_rfl) ?_
              refine Sq.ex [1, 2, 3, 4, 5] (l := arcL b5 lt16 lt27 lb18 lb29 m p0 t1x0 t2x0 b1x0 b2x0 n0) (o_call (by kernel_rfl) Try.call13 (Tri.ex (L' := fun v => arcL b5 lt16 lt27 lb18 lb29 m p0 t1x0 t2x0 b1x0 b2x0 n0 ++ [rowR 9 1 v (b1x0 ++ b2x0).length ((b1x0 ++ b2x0).map Value.string)]) (arc_Ghosts (n := n0) (most := m) (p := p0) (t1 := t1x0) (t2 := t2x0) (b1 := b1x0) (b2 := b2x0) (by omega)) (fun v => rfl))) (by kernel_rfl) rfl (by kernel_rfl) (fun _ => Nat.le_of_ble_eq_true (by kernel_rfl)) ?_; rintro v21 _
              refine Sq.fact (i := 7) (R := rowR 9 1 v21 ((b1x0 ++ b2x0).length) ((b1x0 ++ b2x0).map Value.string)) (by kernel_rfl) row_slice ?_; rintro ⟨a22, c23, rfl, hc23, hc23'⟩
              have hc23'' : c23 ≤ 9223372036854775807 := hc23'
              refine Sq.vals [2] (rest := []) [.slice a22 ((b1x0 ++ b2x0).length) c23] (fun w => by kernel_rfl) ?_
              refine Sq.done ?_
              refine Ex'.next ?_
              refine Cd.seq ?_
              refine Cd.region rfl ?_
              refine Sq.vals [0] (rest := [1, 2]) [pV b5 0] (fun w => by kernel_rfl) ?_
              refine Sq.same [1, 2, 3, 4, 5] (l := arcL b5 lt16 lt27 lb18 lb29 m p0 t1x0 t2x0 b1x0 b2x0 n0) (o_call (by kernel_rfl) Try.call11 (Tri.eq (l2 := arcL b5 lt16 lt27 lb18 lb29 m p0 t1x0 t2x0 b1x0 b2x0 n0) (r' := iV p0) (arc_Share (n := n0) (most := m) (p := p0) (t1 := t1x0) (t2 := t2x0) (b1 := b1x0) (b2 := b2x0) (by omega)) (rfl) (rfl))) (by kernel_rfl) rfl (by kernel_rfl) rfl ?_
              refine Sq.vals [2] (rest := []) [iV p0] (fun w => by kernel_rfl) ?_
              refine Sq.done ?_
              refine Ex'.next ?_
              refine Cd.seq ?_
              refine Cd.region rfl ?_
              refine Sq.vals [0] (rest := [1, 2, 3]) [pV b5 0] (fun w => by kernel_rfl) ?_
              refine Sq.same [1, 2, 3, 4, 5] (l := arcL b5 lt16 lt27 lb18 lb29 m p0 t1x0 t2x0 b1x0 b2x0 n0) (o_call (by kernel_rfl) Try.call12 (Tri.eq (l2 := arcL b5 lt16 lt27 lb18 lb29 m p0 t1x0 t2x0 b1x0 b2x0 n0) (r' := .agg #[iV (t1x0.length : Int), iV (t2x0.length : Int), iV (b1x0.length : Int), iV (b2x0.length : Int)]) (arc_Sizes (n := n0) (most := m) (p := p0) (t1 := t1x0) (t2 := t2x0) (b1 := b1x0) (b2 := b2x0) (by omega)) (rfl) (rfl))) (by kernel_rfl) rfl (by kernel_rfl) rfl ?_
              refine Sq.ex [] (l := []) (o_new [iV 0, iV 0, iV 0, iV 0] (fun w => by kernel_rfl)) (by kernel_rfl) rfl (by kernel_rfl) (fun _ => Nat.zero_le _) ?_; intro b24 _
              refine Sq.same [8] (l := [blkR b24 [iV 0, iV 0, iV 0, iV 0] 31]) (o_store (i := 0) (v := .agg #[iV (t1x0.length : Int), iV (t2x0.length : Int), iV (b1x0.length : Int), iV (b2x0.length : Int)]) (by kernel_rfl) (by kernel_rfl) (by kernel_rfl) (by kernel_rfl) (by kernel_rfl)) (by kernel_rfl) rfl (by kernel_rfl) rfl ?_
              refine Sq.done ?_
              refine Ex'.next ?_
              refine Cd.seq ?_
              refine Cd.region rfl ?_
              refine Sq.vals [0, 1] (rest := [2, 3, 4]) [pV b5 0, sV ((t1x0.reverse ++ t2x0.reverse).getD i ⟨#[]⟩)] (fun w => by kernel_rfl) ?_
              refine Sq.same [1, 2, 3, 4, 5] (l := arcL b5 lt16 lt27 lb18 lb29 m p0 t1x0 t2x0 b1x0 b2x0 n0) (o_call (by kernel_rfl) Try.call10 (arc_Request (n := n0) (n' := n0 + 2) (most := m) (p := p0) (t1 := t1x0) (t2 := t2x0) (b1 := b1x0) (b2 := b2x0) ((t1x0.reverse ++ t2x0.reverse).getD i ⟨#[]⟩) (by omega) (by omega) (by omega) (by omega))) (by kernel_rfl) rfl (by kernel_rfl) rfl ?_
              generalize hxx25 : arcReq m p0 t1x0 t2x0 b1x0 b2x0 ((t1x0.reverse ++ t2x0.reverse).getD i ⟨#[]⟩) = x25
              have hH := ArcI.hit hI (by omega) (getD_memB hi2) hxx25
              obtain ⟨hs1, hs2, hs3⟩ : x25.2.2.2.2.2.1 = true ∧ x25.2.2.2.2.2.2.1 = ⟨#[]⟩ ∧ x25.2.2.2.2.2.2.2 = false := by rw [hH.step]; exact ⟨rfl, rfl, rfl⟩
              obtain ⟨R0, hR0⟩ := hH.last
              obtain ⟨hl1, hl2⟩ := last_getD hR0
              have hH7 := hH.len; have hH8 := hH.le; have hI1 := hI.len
              have hH9 : (x25.2.1.reverse ++ x25.2.2.1.reverse).length = x25.2.1.length + x25.2.2.1.length := by rw [List.length_append, List.length_reverse, List.length_reverse]
              have hH10 : (t1x0.reverse ++ t2x0.reverse).length = t1x0.length + t2x0.length := by rw [List.length_append, List.length_reverse, List.length_reverse]
              refine Sq.ex [] (l := []) (o_new [bV false, sV ⟨#[]⟩, bV false] (fun w => by kernel_rfl)) (by kernel_rfl) rfl (by kernel_rfl) (fun _ => Nat.zero_le _) ?_; intro b26 _
              refine Sq.same [9] (l := [blkR b26 [bV false, sV ⟨#[]⟩, bV false] 28]) (o_store (i := 0) (v := .agg #[bV x25.2.2.2.2.2.1, sV x25.2.2.2.2.2.2.1, bV x25.2.2.2.2.2.2.2]) (by kernel_rfl) (by kernel_rfl) (by kernel_rfl) (by kernel_rfl) (by kernel_rfl)) (by kernel_rfl) rfl (by kernel_rfl) rfl ?_
              refine Sq.done ?_
              refine Ex'.next ?_
              refine Cd.seq ?_
              refine Cd.region rfl ?_
              refine Sq.vals [0] (rest := [1, 2]) [pV b5 0] (fun w => by kernel_rfl) ?_
              refine Sq.ex [1, 2, 3, 4, 5] (l := arcL b5 lt16 lt27 lb18 lb29 m x25.1 x25.2.1 x25.2.2.1 x25.2.2.2.1 x25.2.2.2.2.1 (n0 + 2)) (o_call (by kernel_rfl) Try.call15 (Tri.ex (L' := fun v => arcL b5 lt16 lt27 lb18 lb29 m x25.1 x25.2.1 x25.2.2.1 x25.2.2.2.1 x25.2.2.2.2.1 (n0 + 2) ++ [rowR 9 1 v (x25.2.1.reverse ++ x25.2.2.1.reverse).length ((x25.2.1.reverse ++ x25.2.2.1.reverse).map Value.string)]) (arc_Keys (n := n0 + 2) (most := m) (p := x25.1) (t1 := x25.2.1) (t2 := x25.2.2.1) (b1 := x25.2.2.2.1) (b2 := x25.2.2.2.2.1) (by omega)) (fun v => rfl))) (by kernel_rfl) rfl (by kernel_rfl) (fun _ => Nat.le_of_ble_eq_true (by kernel_rfl)) ?_; rintro v27 _
              refine Sq.fact (i := 10) (R := rowR 9 1 v27 ((x25.2.1.reverse ++ x25.2.2.1.reverse).length) ((x25.2.1.reverse ++ x25.2.2.1.reverse).map Value.string)) (by kernel_rfl) row_slice ?_; rintro ⟨a28, c29, rfl, hc29, hc29'⟩
              have hc29'' : c29 ≤ 9223372036854775807 := hc29'
              refine Sq.fact (i := 10) (R := rowR 9 1 (.slice a28 ((x25.2.1.reverse ++ x25.2.2.1.reverse).length) c29) ((x25.2.1.reverse ++ x25.2.2.1.reverse).length) ((x25.2.1.reverse ++ x25.2.2.1.reverse).map Value.string)) (by kernel_rfl) (row_addr (hl2)) ?_; rintro ⟨b30, rfl⟩
              refine Sq.vals [2] (rest := []) [.slice (some ⟨b30, 0, none⟩) ((x25.2.1.reverse ++ x25.2.2.1.reverse).length) c29] (fun w => by kernel_rfl) ?_
              refine Sq.done ?_
              refine Ex'.next ?_
              refine Cd.seq ?_
              refine Cd.region rfl ?_
              refine Sq.vals [0] (rest := [1, 2, 3]) [pV b5 0] (fun w => by kernel_rfl) ?_
              refine Sq.same [1, 2, 3, 4, 5] (l := arcL b5 lt16 lt27 lb18 lb29 m x25.1 x25.2.1 x25.2.2.1 x25.2.2.2.1 x25.2.2.2.2.1 (n0 + 2)) (o_call (by kernel_rfl) Try.call12 (Tri.eq (l2 := arcL b5 lt16 lt27 lb18 lb29 m x25.1 x25.2.1 x25.2.2.1 x25.2.2.2.1 x25.2.2.2.2.1 (n0 + 2)) (r' := .agg #[iV (x25.2.1.length : Int), iV (x25.2.2.1.length : Int), iV (x25.2.2.2.1.length : Int), iV (x25.2.2.2.2.1.length : Int)]) (arc_Sizes (n := n0 + 2) (most := m) (p := x25.1) (t1 := x25.2.1) (t2 := x25.2.2.1) (b1 := x25.2.2.2.1) (b2 := x25.2.2.2.2.1) (by omega)) (rfl) (rfl))) (by kernel_rfl) rfl (by kernel_rfl) rfl ?_
              refine Sq.ex [] (l := []) (o_new [iV 0, iV 0, iV 0, iV 0] (fun w => by kernel_rfl)) (by kernel_rfl) rfl (by kernel_rfl) (fun _ => Nat.zero_le _) ?_; intro b31 _
              refine Sq.same [11] (l := [blkR b31 [iV 0, iV 0, iV 0, iV 0] 31]) (o_store (i := 0) (v := .agg #[iV (x25.2.1.length : Int), iV (x25.2.2.1.length : Int), iV (x25.2.2.2.1.length : Int), iV (x25.2.2.2.2.1.length : Int)]) (by kernel_rfl) (by kernel_rfl) (by kernel_rfl) (by kernel_rfl) (by kernel_rfl)) (by kernel_rfl) rfl (by kernel_rfl) rfl ?_
              refine Sq.done ?_
              refine Ex'.next ?_
              refine Cd.seq ?_
              refine Cd.region rfl ?_
              refine Sq.same [9] (l := [blkR b26 [bV x25.2.2.2.2.2.1, sV x25.2.2.2.2.2.2.1, bV x25.2.2.2.2.2.2.2] 28]) (o_loadN (i := 0) [bV x25.2.2.2.2.2.1, sV x25.2.2.2.2.2.2.1, bV x25.2.2.2.2.2.2.2] (by kernel_rfl) (by kernel_rfl) (by kernel_rfl)) (by kernel_rfl) rfl (by kernel_rfl) rfl ?_
              refine Sq.vals [1] (rest := [2, 3, 4, 5, 6, 7, 8, 9, 10, 11, 12, 13, 14, 15, 16, 17, 18, 19, 20, 21, 22, 23, 24, 25, 26, 27, 28, 29, 30, 31, 32, 33, 34, 35, 36, 37, 38, 39, 40, 41, 42, 43, 44, 45, 46, 47, 48, 49, 50, 51, 52, 53, 54]) [.agg #[bV true, sV ⟨#[]⟩, bV false]] (fun w => by kernel_rfl) ?_
              refine Sq.v (r := bV (decide (x25.2.2.2.2.2.1 = true ∧ x25.2.2.2.2.2.2.1 = ⟨#[]⟩ ∧ x25.2.2.2.2.2.2.2 = false))) (o_eqStep x25.2.2.2.2.2.1 true x25.2.2.2.2.2.2.1 ⟨#[]⟩ x25.2.2.2.2.2.2.2 false (by kernel_rfl) (by kernel_rfl)) rfl (by kernel_rfl) ?_
              refine Sq.re 86 rfl (vT ⟨hs1, hs2, hs3⟩) ?_
              refine Sq.vals [3, 4, 5, 6] (rest := [7, 8, 9, 10, 11, 12, 13, 14, 15, 16, 17, 18, 19, 20, 21, 22, 23, 24, 25, 26, 27, 28, 29, 30, 31, 32, 33, 34, 35, 36, 37, 38, 39, 40, 41, 42, 43, 44, 45, 46, 47, 48, 49, 50, 51, 52, 53, 54]) [bV true, .slice (some ⟨b30, 0, none⟩) ((x25.2.1.reverse ++ x25.2.2.1.reverse).length) c29, .slice (some ⟨b30, 0, none⟩) ((x25.2.1.reverse ++ x25.2.2.1.reverse).length) c29, iV ((x25.2.1.reverse ++ x25.2.2.1.reverse).length : Int)] (fun w => by kernel_rfl) ?_
              refine Sq.v (r := iV (((x25.2.1.reverse ++ x25.2.2.1.reverse).length : Int) - 1)) (o_sub (k := .i64) (a := ((x25.2.1.reverse ++ x25.2.2.1.reverse).length : Int)) (b := 1) (c := ((x25.2.1.reverse ++ x25.2.2.1.reverse).length : Int) - 1) (by kernel_rfl) (by kernel_rfl) (w64 rfl (by omega))) rfl (by kernel_rfl) ?_
              refine Sq.v (r := pV b30 ((x25.2.1.reverse ++ x25.2.2.1.reverse).length - 1)) (o_idx (b := b30) (cap := c29) (e := 9) (off := 0) (n := (x25.2.1.reverse ++ x25.2.2.1.reverse).length) (kd := .i64) (q := ((x25.2.1.reverse ++ x25.2.2.1.reverse).length : Int) - 1) (i := (x25.2.1.reverse ++ x25.2.2.1.reverse).length - 1) (size := 1) (j := (x25.2.1.reverse ++ x25.2.2.1.reverse).length - 1) (by kernel_rfl) (by kernel_rfl) (by omega) (by omega) Try.underlying22 (by kernel_rfl) (by omega)) rfl (by kernel_rfl) ?_
              refine Sq.same [10] (l := [rowR 9 1 (.slice (some ⟨b30, 0, none⟩) ((x25.2.1.reverse ++ x25.2.2.1.reverse).length) c29) ((x25.2.1.reverse ++ x25.2.2.1.reverse).length) ((x25.2.1.reverse ++ x25.2.2.1.reverse).map Value.string)]) (o_loadRow (i := (x25.2.1.reverse ++ x25.2.2.1.reverse).length - 1) (u := sV ((x25.2.1.reverse ++ x25.2.2.1.reverse).getD ((x25.2.1.reverse ++ x25.2.2.1.reverse).length - 1) ⟨#[]⟩)) (by kernel_rfl) (by omega) (by kernel_rfl) (get_map (by omega))) (by kernel_rfl) rfl (by kernel_rfl) rfl ?_
              refine Sq.vals [10] (rest := [11, 12, 13, 14, 15, 16, 17, 18, 19, 20, 21, 22, 23, 24, 25, 26, 27, 28, 29, 30, 31, 32, 33, 34, 35, 36, 37, 38, 39, 40, 41, 42, 43, 44, 45, 46, 47, 48, 49, 50, 51, 52, 53, 54]) [sV ((t1x0.reverse ++ t2x0.reverse).getD i ⟨#[]⟩)] (fun w => by kernel_rfl) ?_
              refine Sq.v (r := bV (decide ((x25.2.1.reverse ++ x25.2.2.1.reverse).getD ((x25.2.1.reverse ++ x25.2.2.1.reverse).length - 1) ⟨#[]⟩ = (t1x0.reverse ++ t2x0.reverse).getD i ⟨#[]⟩))) (o_eqS (a := (x25.2.1.reverse ++ x25.2.2.1.reverse).getD ((x25.2.1.reverse ++ x25.2.2.1.reverse).length - 1) ⟨#[]⟩) (b := (t1x0.reverse ++ t2x0.reverse).getD i ⟨#[]⟩) (by kernel_rfl) (by kernel_rfl)) rfl (by kernel_rfl) ?_
              refine Sq.re 95 rfl (vT hl1) ?_
              refine Sq.vals [12, 13, 14, 15] (rest := [16, 17, 18, 19, 20, 21, 22, 23, 24, 25, 26, 27, 28, 29, 30, 31, 32, 33, 34, 35, 36, 37, 38, 39, 40, 41, 42, 43, 44, 45, 46, 47, 48, 49, 50, 51, 52, 53, 54]) [bV true, bV true, .slice (some ⟨b30, 0, none⟩) ((x25.2.1.reverse ++ x25.2.2.1.reverse).length) c29, sV ((t1x0.reverse ++ t2x0.reverse).getD i ⟨#[]⟩)] (fun w => by kernel_rfl) ?_
              refine Sq.ex [10] (l := [rowR 9 1 (.slice (some ⟨b30, 0, none⟩) ((x25.2.1.reverse ++ x25.2.2.1.reverse).length) c29) ((x25.2.1.reverse ++ x25.2.2.1.reverse).length) ((x25.2.1.reverse ++ x25.2.2.1.reverse).map Value.string)]) (o_call (by kernel_rfl) Try.call17 (t_remove03 (l := [rowR 9 1 (.slice (some ⟨b30, 0, none⟩) ((x25.2.1.reverse ++ x25.2.2.1.reverse).length) c29) ((x25.2.1.reverse ++ x25.2.2.1.reverse).length) ((x25.2.1.reverse ++ x25.2.2.1.reverse).map Value.string)]) (xs := x25.2.1.reverse ++ x25.2.2.1.reverse) ((t1x0.reverse ++ t2x0.reverse).getD i ⟨#[]⟩) (fun w own hH => ⟨_, Row.strs (hH 0 _ rfl)⟩) (by omega))) (by kernel_rfl) rfl (by kernel_rfl) (fun _ => Nat.le_of_ble_eq_true (by kernel_rfl)) ?_; rintro v32 _
              refine Sq.fact (i := 12) (R := rowR 9 1 v32 ((rm (x25.2.1.reverse ++ x25.2.2.1.reverse) ((t1x0.reverse ++ t2x0.reverse).getD i ⟨#[]⟩)).length) ((rm (x25.2.1.reverse ++ x25.2.2.1.reverse) ((t1x0.reverse ++ t2x0.reverse).getD i ⟨#[]⟩)).map Value.string)) (by kernel_rfl) row_slice ?_; rintro ⟨a33, c34, rfl, hc34, hc34'⟩
              have hc34'' : c34 ≤ 9223372036854775807 := hc34'
              refine Sq.vals [17, 18] (rest := [19, 20, 21, 22, 23, 24, 25, 26, 27, 28, 29, 30, 31, 32, 33, 34, 35, 36, 37, 38, 39, 40, 41, 42, 43, 44, 45, 46, 47, 48, 49, 50, 51, 52, 53, 54]) [.slice (some ⟨b20, 0, none⟩) ((t1x0.reverse ++ t2x0.reverse).length) c18, sV ((t1x0.reverse ++ t2x0.reverse).getD i ⟨#[]⟩)] (fun w => by kernel_rfl) ?_
              refine Sq.ex [6] (l := [rowR 9 1 (.slice (some ⟨b20, 0, none⟩) ((t1x0.reverse ++ t2x0.reverse).length) c18) ((t1x0.reverse ++ t2x0.reverse).length) ((t1x0.reverse ++ t2x0.reverse).map Value.string)]) (o_call (by kernel_rfl) Try.call17 (t_remove03 (l := [rowR 9 1 (.slice (some ⟨b20, 0, none⟩) ((t1x0.reverse ++ t2x0.reverse).length) c18) ((t1x0.reverse ++ t2x0.reverse).length) ((t1x0.reverse ++ t2x0.reverse).map Value.string)]) (xs := t1x0.reverse ++ t2x0.reverse) ((t1x0.reverse ++ t2x0.reverse).getD i ⟨#[]⟩) (fun w own hH => ⟨_, Row.strs (hH 0 _ rfl)⟩) (by omega))) (by kernel_rfl) rfl (by kernel_rfl) (fun _ => Nat.le_of_ble_eq_true (by kernel_rfl)) ?_; rintro v35 _
              refine Sq.fact (i := 13) (R := rowR 9 1 v35 ((rm (t1x0.reverse ++ t2x0.reverse) ((t1x0.reverse ++ t2x0.reverse).getD i ⟨#[]⟩)).length) ((rm (t1x0.reverse ++ t2x0.reverse) ((t1x0.reverse ++ t2x0.reverse).getD i ⟨#[]⟩)).map Value.string)) (by kernel_rfl) row_slice ?_; rintro ⟨a36, c37, rfl, hc37, hc37'⟩
              have hc37'' : c37 ≤ 9223372036854775807 := hc37'
              refine Sq.same [12, 13] (l := [rowR 9 1 (.slice a33 ((rm (x25.2.1.reverse ++ x25.2.2.1.reverse) ((t1x0.reverse ++ t2x0.reverse).getD i ⟨#[]⟩)).length) c34) ((rm (x25.2.1.reverse ++ x25.2.2.1.reverse) ((t1x0.reverse ++ t2x0.reverse).getD i ⟨#[]⟩)).length) ((rm (x25.2.1.reverse ++ x25.2.2.1.reverse) ((t1x0.reverse ++ t2x0.reverse).getD i ⟨#[]⟩)).map Value.string), rowR 9 1 (.slice a36 ((rm (t1x0.reverse ++ t2x0.reverse) ((t1x0.reverse ++ t2x0.reverse).getD i ⟨#[]⟩)).length) c37) ((rm (t1x0.reverse ++ t2x0.reverse) ((t1x0.reverse ++ t2x0.reverse).getD i ⟨#[]⟩)).length) ((rm (t1x0.reverse ++ t2x0.reverse) ((t1x0.reverse ++ t2x0.reverse).getD i ⟨#[]⟩)).map Value.string)]) (o_call (by kernel_rfl) Try.call14 ((t_same03 (l := [rowR 9 1 (.slice a33 ((rm (x25.2.1.reverse ++ x25.2.2.1.reverse) ((t1x0.reverse ++ t2x0.reverse).getD i ⟨#[]⟩)).length) c34) ((rm (x25.2.1.reverse ++ x25.2.2.1.reverse) ((t1x0.reverse ++ t2x0.reverse).getD i ⟨#[]⟩)).length) ((rm (x25.2.1.reverse ++ x25.2.2.1.reverse) ((t1x0.reverse ++ t2x0.reverse).getD i ⟨#[]⟩)).map Value.string), rowR 9 1 (.slice a36 ((rm (t1x0.reverse ++ t2x0.reverse) ((t1x0.reverse ++ t2x0.reverse).getD i ⟨#[]⟩)).length) c37) ((rm (t1x0.reverse ++ t2x0.reverse) ((t1x0.reverse ++ t2x0.reverse).getD i ⟨#[]⟩)).length) ((rm (t1x0.reverse ++ t2x0.reverse) ((t1x0.reverse ++ t2x0.reverse).getD i ⟨#[]⟩)).map Value.string)]) (xs := rm (x25.2.1.reverse ++ x25.2.2.1.reverse) ((t1x0.reverse ++ t2x0.reverse).getD i ⟨#[]⟩)) (ys := rm (t1x0.reverse ++ t2x0.reverse) ((t1x0.reverse ++ t2x0.reverse).getD i ⟨#[]⟩)) (fun w own hH => ⟨⟨_, Row.strs (hH 0 _ rfl)⟩, ⟨_, Row.strs (hH 1 _ rfl)⟩⟩)).re (vT hH.rest))) (by kernel_rfl) rfl (by kernel_rfl) rfl ?_
              refine Sq.vals [21, 22, 23] (rest := [24, 25, 26, 27, 28, 29, 30, 31, 32, 33, 34, 35, 36, 37, 38, 39, 40, 41, 42, 43, 44, 45, 46, 47, 48, 49, 50, 51, 52, 53, 54]) [bV true, bV true, pV b5 0] (fun w => by kernel_rfl) ?_
              refine Sq.ex [1, 2, 3, 4, 5] (l := arcL b5 lt16 lt27 lb18 lb29 m x25.1 x25.2.1 x25.2.2.1 x25.2.2.2.1 x25.2.2.2.2.1 (n0 + 2)) (o_call (by kernel_rfl) Try.call13 (Tri.ex (L' := fun v => arcL b5 lt16 lt27 lb18 lb29 m x25.1 x25.2.1 x25.2.2.1 x25.2.2.2.1 x25.2.2.2.2.1 (n0 + 2) ++ [rowR 9 1 v (x25.2.2.2.1 ++ x25.2.2.2.2.1).length ((x25.2.2.2.1 ++ x25.2.2.2.2.1).map Value.string)]) (arc_Ghosts (n := n0 + 2) (most := m) (p := x25.1) (t1 := x25.2.1) (t2 := x25.2.2.1) (b1 := x25.2.2.2.1) (b2 := x25.2.2.2.2.1) (by omega)) (fun v => rfl))) (by kernel_rfl) rfl (by kernel_rfl) (fun _ => Nat.le_of_ble_eq_true (by kernel_rfl)) ?_; rintro v38 _
              refine Sq.fact (i := 14) (R := rowR 9 1 v38 ((x25.2.2.2.1 ++ x25.2.2.2.2.1).length) ((x25.2.2.2.1 ++ x25.2.2.2.2.1).map Value.string)) (by kernel_rfl) row_slice ?_; rintro ⟨a39, c40, rfl, hc40, hc40'⟩
              have hc40'' : c40 ≤ 9223372036854775807 := hc40'
              refine Sq.vals [25] (rest := [26, 27, 28, 29, 30, 31, 32, 33, 34, 35, 36, 37, 38, 39, 40, 41, 42, 43, 44, 45, 46, 47, 48, 49, 50, 51, 52, 53, 54]) [.slice a22 ((b1x0 ++ b2x0).length) c23] (fun w => by kernel_rfl) ?_
              refine Sq.same [14, 7] (l := [rowR 9 1 (.slice a39 ((x25.2.2.2.1 ++ x25.2.2.2.2.1).length) c40) ((x25.2.2.2.1 ++ x25.2.2.2.2.1).length) ((x25.2.2.2.1 ++ x25.2.2.2.2.1).map Value.string), rowR 9 1 (.slice a22 ((b1x0 ++ b2x0).length) c23) ((b1x0 ++ b2x0).length) ((b1x0 ++ b2x0).map Value.string)]) (o_call (by kernel_rfl) Try.call14 ((t_same03 (l := [rowR 9 1 (.slice a39 ((x25.2.2.2.1 ++ x25.2.2.2.2.1).length) c40) ((x25.2.2.2.1 ++ x25.2.2.2.2.1).length) ((x25.2.2.2.1 ++ x25.2.2.2.2.1).map Value.string), rowR 9 1 (.slice a22 ((b1x0 ++ b2x0).length) c23) ((b1x0 ++ b2x0).length) ((b1x0 ++ b2x0).map Value.string)]) (xs := x25.2.2.2.1 ++ x25.2.2.2.2.1) (ys := b1x0 ++ b2x0) (fun w own hH => ⟨⟨_, Row.strs (hH 0 _ rfl)⟩, ⟨_, Row.strs (hH 1 _ rfl)⟩⟩)).re (vT (by rw [hH.g1, hH.g2])))) (by kernel_rfl) rfl (by kernel_rfl) rfl ?_
              refine Sq.vals [27, 28, 29] (rest := [30, 31, 32, 33, 34, 35, 36, 37, 38, 39, 40, 41, 42, 43, 44, 45, 46, 47, 48, 49, 50, 51, 52, 53, 54]) [bV true, bV true, pV b5 0] (fun w => by kernel_rfl) ?_
              refine Sq.same [1, 2, 3, 4, 5] (l := arcL b5 lt16 lt27 lb18 lb29 m x25.1 x25.2.1 x25.2.2.1 x25.2.2.2.1 x25.2.2.2.2.1 (n0 + 2)) (o_call (by kernel_rfl) Try.call11 (Tri.eq (l2 := arcL b5 lt16 lt27 lb18 lb29 m x25.1 x25.2.1 x25.2.2.1 x25.2.2.2.1 x25.2.2.2.2.1 (n0 + 2)) (r' := iV x25.1) (arc_Share (n := n0 + 2) (most := m) (p := x25.1) (t1 := x25.2.1) (t2 := x25.2.2.1) (b1 := x25.2.2.2.1) (b2 := x25.2.2.2.2.1) (by omega)) (rfl) (rfl))) (by kernel_rfl) rfl (by kernel_rfl) rfl ?_
              refine Sq.vals [31] (rest := [32, 33, 34, 35, 36, 37, 38, 39, 40, 41, 42, 43, 44, 45, 46, 47, 48, 49, 50, 51, 52, 53, 54]) [iV p0] (fun w => by kernel_rfl) ?_
              refine Sq.v (r := bV (decide (x25.1 = p0))) (o_eqI (k := .i64) (a := x25.1) (b := p0) (by kernel_rfl) (by kernel_rfl)) rfl (by kernel_rfl) ?_
              refine Sq.re 116 rfl (vT hH.share) ?_
              refine Sq.vals [33, 34, 35] (rest := [36, 37, 38, 39, 40, 41, 42, 43, 44, 45, 46, 47, 48, 49, 50, 51, 52, 53, 54]) [bV true, bV true, pV b31 0] (fun w => by kernel_rfl) ?_
              refine Sq.same [11] (l := [blkR b31 [iV (x25.2.1.length : Int), iV (x25.2.2.1.length : Int), iV (x25.2.2.2.1.length : Int), iV (x25.2.2.2.2.1.length : Int)] 31]) (o_load (i := 0) (v := iV (x25.2.1.length : Int)) (by kernel_rfl) (by kernel_rfl) (by kernel_rfl)) (by kernel_rfl) rfl (by kernel_rfl) rfl ?_
              refine Sq.vals [37] (rest := [38, 39, 40, 41, 42, 43, 44, 45, 46, 47, 48, 49, 50, 51, 52, 53, 54]) [pV b31 1] (fun w => by kernel_rfl) ?_
              refine Sq.same [11] (l := [blkR b31 [iV (x25.2.1.length : Int), iV (x25.2.2.1.length : Int), iV (x25.2.2.2.1.length : Int), iV (x25.2.2.2.2.1.length : Int)] 31]) (o_load (i := 1) (v := iV (x25.2.2.1.length : Int)) (by kernel_rfl) (by kernel_rfl) (by kernel_rfl)) (by kernel_rfl) rfl (by kernel_rfl) rfl ?_
              refine Sq.v (r := iV ((x25.2.1.length : Int) + (x25.2.2.1.length : Int))) (o_add (k := .i64) (a := (x25.2.1.length : Int)) (b := (x25.2.2.1.length : Int)) (c := (x25.2.1.length : Int) + (x25.2.2.1.length : Int)) (by kernel_rfl) (by kernel_rfl) (w64 rfl (by omega))) rfl (by kernel_rfl) ?_
              refine Sq.vals [40] (rest := [41, 42, 43, 44, 45, 46, 47, 48, 49, 50, 51, 52, 53, 54]) [pV b24 0] (fun w => by kernel_rfl) ?_
              refine Sq.same [8] (l := [blkR b24 [iV (t1x0.length : Int), iV (t2x0.length : Int), iV (b1x0.length : Int), iV (b2x0.length : Int)] 31]) (o_load (i := 0) (v := iV (t1x0.length : Int)) (by kernel_rfl) (by kernel_rfl) (by kernel_rfl)) (by kernel_rfl) rfl (by kernel_rfl) rfl ?_
              refine Sq.vals [42] (rest := [43, 44, 45, 46, 47, 48, 49, 50, 51, 52, 53, 54]) [pV b24 1] (fun w => by kernel_rfl) ?_
              refine Sq.same [8] (l := [blkR b24 [iV (t1x0.length : Int), iV (t2x0.length : Int), iV (b1x0.length : Int), iV (b2x0.length : Int)] 31]) (o_load (i := 1) (v := iV (t2x0.length : Int)) (by kernel_rfl) (by kernel_rfl) (by kernel_rfl)) (by kernel_rfl) rfl (by kernel_rfl) rfl ?_
              refine Sq.v (r := iV ((t1x0.length : Int) + (t2x0.length : Int))) (o_add (k := .i64) (a := (t1x0.length : Int)) (b := (t2x0.length : Int)) (c := (t1x0.length : Int) + (t2x0.length : Int)) (by kernel_rfl) (by kernel_rfl) (w64 rfl (by omega))) rfl (by kernel_rfl) ?_
              refine Sq.v (r := bV (decide ((x25.2.1.length : Int) + (x25.2.2.1.length : Int) = (t1x0.length : Int) + (t2x0.length : Int)))) (o_eqI (k := .i64) (a := (x25.2.1.length : Int) + (x25.2.2.1.length : Int)) (b := (t1x0.length : Int) + (t2x0.length : Int)) (by kernel_rfl) (by kernel_rfl)) rfl (by kernel_rfl) ?_
              refine Sq.re 129 rfl (vT (by omega)) ?_
              refine Sq.vals [46, 47, 48] (rest := [49, 50, 51, 52, 53, 54]) [bV true, bV true, pV b31 0] (fun w => by kernel_rfl) ?_
              refine Sq.same [11] (l := [blkR b31 [iV (x25.2.1.length : Int), iV (x25.2.2.1.length : Int), iV (x25.2.2.2.1.length : Int), iV (x25.2.2.2.2.1.length : Int)] 31]) (o_load (i := 0) (v := iV (x25.2.1.length : Int)) (by kernel_rfl) (by kernel_rfl) (by kernel_rfl)) (by kernel_rfl) rfl (by kernel_rfl) rfl ?_
              refine Sq.vals [50] (rest := [51, 52, 53, 54]) [pV b24 0] (fun w => by kernel_rfl) ?_
              refine Sq.same [8] (l := [blkR b24 [iV (t1x0.length : Int), iV (t2x0.length : Int), iV (b1x0.length : Int), iV (b2x0.length : Int)] 31]) (o_load (i := 0) (v := iV (t1x0.length : Int)) (by kernel_rfl) (by kernel_rfl) (by kernel_rfl)) (by kernel_rfl) rfl (by kernel_rfl) rfl ?_
              refine Sq.v (r := bV (decide ((x25.2.1.length : Int) ≤ (t1x0.length : Int)))) (pureV (by kernel_rfl) rfl fun w => by kernel_rfl) rfl (by kernel_rfl) ?_
              refine Sq.re 136 rfl (vT (by omega)) ?_
              refine Sq.vals [53, 54] (rest := []) [bV true, bV true] (fun w => by kernel_rfl) ?_
              refine Sq.done ?_
              refine Ex'.next ?_
              refine Cd.ret ?_
              refine Ex'.ret Try.results5 (RVs.tmp (v := bV true) (by kernel_rfl) (RVs.nil)) (fun w hw => ?_)
              exact ⟨_, ⟨rfl, by kernel_rfl⟩, hw⟩

theorem arcHits_walk (m : Int) (v : Value) (xs : List ByteArray) (wh : Int) (w : World) (hm : (Lit.int .i64 m).wf = true) (h : Strs w (fun k => k < w.heap.size) v xs) (hz : ∀ k ∈ xs, k.size ≤ maxLen) (hw : (Lit.int .i64 wh).wf = true) :
    Calls Try.prog 5 #[.int .i64 m, v, .int .i64 wh] w fun e w' => e = .returned (.bool true) ∧ Below w.heap.size w w' := by
  obtain ⟨a, cap, rfl, hl⟩ := KeysIn.shape ⟨h, hz⟩
  exact law_of (arcHits_tri (range64 hm) (range64 hw) hl ⟨h, hz⟩)

end Go.Proofs.Ytnijaeipkbpibaa
