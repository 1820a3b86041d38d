/- HeapKinds: its walk. -/
import Derived.Test.YtnnjccfcalgokaaHpX
import Derived.Test.YtnnjccfcalgokaaHpO
import Derived.Test.YtnnjccfcalgokaaActsH
import Derived.Test.YtnnjccfcalgokaaHpAwake
import Derived.Test.YtnnjccfcalgokaaHeapPureC
set_option linter.unusedVariables false
namespace Go.Proofs.Ytnnjccfcalgokaa
open Go.RowKit Go.MapKept

set_option maxHeartbeats 8000000 in
set_option maxRecDepth 100000 in
theorem heapKinds_tri {w0 : World} {a : Option Addr} {cap : Nat} {xs : List Rk} (hl : xs.length ≤ cap ∧ cap ≤ 9223372036854775807) (hs : RkIn w0 (.slice a xs.length cap) xs) : Tri Try.prog 7 #[.slice a xs.length cap] [oldR w0] (LawP w0) := by
  refine Tri.enter (args := [.slice a xs.length cap]) Try.func7 rfl rfl rfl (fun B wz => ?_)
  refine Cd.seq ?_
  refine Cd.region rfl ?_
  refine Sq.vals [0] (rest := []) [bV false] (fun w => by kernel_rfl) ?_
  refine Sq.done ?_
  refine Ex'.next ?_
  refine Cd.seq ?_
  refine Cd.seq ?_
  refine Cd.region rfl ?_
  refine Sq.same [] (l := []) (o_call (by kernel_rfl) Try.call13 (heap_awake)) (by kernel_rfl) rfl (by kernel_rfl) rfl ?_
  refine Sq.vals [1] (rest := []) [bV false] (fun w => by kernel_rfl) ?_
  refine Sq.done ?_
  refine Ex'.next ?_
  refine Cd.condF (by kernel_rfl) ?_
  refine Cd.skip ?_
  refine Ex'.next ?_
  refine Cd.seq ?_
  refine Cd.seq ?_
  refine Cd.region rfl ?_
  refine Sq.vals [0, 1, 2] (rest := []) [.slice a xs.length cap, iV (xs.length : Int), bV (decide ((xs.length : Int) > 60))] (fun w => by kernel_rfl) ?_
  refine Sq.done ?_
  refine Ex'.next ?_
  refine Cd.case (p := (xs.length : Int) > 60) (by kernel_rfl) (fun h1 => ?_) (fun h1 => ?_)
  ·
    refine Cd.seq ?_
    refine Cd.region rfl ?_
    refine Sq.vals [0] (rest := []) [bV true] (fun w => by kernel_rfl) ?_
    refine Sq.done ?_
    refine Ex'.next ?_
    refine Cd.ret ?_
    refine Ex'.thenRet ?_
    refine Ex'.ret Try.results7 (RVs.tmp (v := bV true) (by kernel_rfl) (RVs.nil)) (fun w hw => ?_)
    exact ⟨_, ⟨rfl, by kernel_rfl⟩, hw⟩
  ·
    refine Cd.skip ?_
    refine Ex'.next ?_
    refine Cd.seq ?_
    refine Cd.region rfl ?_
    refine Sq.ex [] (l := []) (o_call (by kernel_rfl) Try.call14 (hp_NewS)) (by kernel_rfl) rfl (by kernel_rfl) (fun _ => Nat.le_of_ble_eq_true (by kernel_rfl)) ?_; rintro b2 _
    refine Sq.ex [] (l := []) (o_call (by kernel_rfl) Try.call26 (hp_NewI)) (by kernel_rfl) rfl (by kernel_rfl) (fun _ => Nat.le_of_ble_eq_true (by kernel_rfl)) ?_; rintro b3 _
    refine Sq.vals [2, 3] (rest := []) [pV b2 0, pV b3 0] (fun w => by kernel_rfl) ?_
    refine Sq.done ?_
    refine Ex'.next ?_
    refine Cd.seq ?_
    refine Cd.seq ?_
    refine Cd.region rfl ?_
    refine Sq.vals [0, 1, 2, 3, 4, 5] (rest := []) [pV b2 0, bV false, bV false, pV b3 0, bV false, bV false] (fun w => by kernel_rfl) ?_
    refine Sq.done ?_
    refine Ex'.next ?_
    refine Cd.condF (by kernel_rfl) ?_
    refine Cd.skip ?_
    refine Ex'.next ?_
    refine Cd.seq ?_
    refine Cd.seq ?_
    refine Cd.region rfl ?_
    refine Sq.vals [0] (rest := []) [iV 0] (fun w => by kernel_rfl) ?_
    refine Sq.done ?_
    refine Ex'.next ?_
    refine Cd.block ?_
    refine Cd.loop (ι := Nat × (List (KR ByteArray)) × (List (KR Int)) × Nat) (fun ⟨k, TA, TB, n0⟩ => k ≤ xs.length ∧ KindI TA TB k ∧ n0 ≤ k) (fun ⟨k, TA, TB, n0⟩ => xs.length - k) (fun ⟨k, TA, TB, n0⟩ => [(0, .slice a xs.length cap), (2, bV false), (3, pV b2 0), (4, pV b3 0), (5, iV (k : Int))]) (fun ⟨k, TA, TB, n0⟩ => [oldR w0, hpS b2 TA n0, hpI b3 TB n0]) (0, [], [], 0) (⟨Nat.zero_le _, KindI.new, Nat.le_refl _⟩) (subB_eq (l := [0, 2, 3, 4, 5]) (by kernel_rfl)) (fun w hw => hw.pickB [0, 1, 2] (by kernel_rfl) (by kernel_rfl) (by kernel_rfl)) ?_
    rintro ⟨k, TA, TB, n0⟩ hL4
    try dsimp only at hL4 ⊢
    obtain ⟨hk, hK, hn⟩ := hL4
    refine Cd.seq ?_
    refine Cd.seq ?_
    refine Cd.region rfl ?_
    refine Sq.vals [0, 1, 2, 3] (rest := []) [iV (k : Int), .slice a xs.length cap, iV (xs.length : Int), bV (decide ((k : Int) < (xs.length : Int)))] (fun w => by kernel_rfl) ?_
    refine Sq.done ?_
    refine Ex'.next ?_
    refine Cd.case (p := (k : Int) < (xs.length : Int)) (by kernel_rfl) (fun h5 => ?_) (fun h5 => ?_)
    ·
      obtain ⟨g6, off7, rfl⟩ := hs.addr (by omega)
      obtain ⟨rok, rtk, hgk, hwk, hrk⟩ := hs.at (k := k) (by omega)
      refine Cd.skip ?_
      refine Ex'.next ?_
      refine Cd.seq ?_
      refine Cd.block ?_
      refine Cd.seq ?_
      refine Cd.plan [0, 0, 2, 6, 14, 0, 0, 96, 224, 511] [(4, [(6, false, 4)]), (8, [(0, false, 0)]), (9, [(1, true, 0)])] [3] [(3, fun _ => True)] [(6, 3, fun g => blkR (slOf (g 3)) [.int .u8 (k : Int)] 5), (1, 9, fun g => hpS b2 (hset TA (strOf [(k : Int)], rok, rtk)) (n0 + 1))] [fun g => pV b2 0, fun g => iV (k : Int), fun g => .int .u8 (k : Int), fun g => .slice (some ⟨(slOf (g 3)), 0, none⟩) 1 1, fun g => sV (strOf [(k : Int)]), fun g => .slice (some ⟨g6, off7, none⟩) xs.length cap, fun g => iV (k : Int), fun g => pV g6 (off7 + k * 2), fun g => .agg #[iV rok, iV rtk], fun g => .tuple #[]] (by kernel_rfl) (by kernel_rfl) rfl (⟨⟨⟨fun _ _ => rfl, ⟨fun _ _ => rfl, ⟨fun _ _ => rfl, ⟨trivial, ⟨trivial, ⟨fun _ _ => rfl, ⟨fun _ _ => rfl, ⟨fun _ _ => rfl, ⟨fun _ _ => rfl, ⟨trivial, trivial⟩⟩⟩⟩⟩⟩⟩⟩⟩⟩, ⟨trivial, ⟨trivial, trivial⟩⟩⟩, trivial⟩) ?_ ?_
      · exact ⟨ob_val fun g w => by kernel_rfl, ob_val fun g w => by kernel_rfl, ob_v (v := fun g => .int .u8 (k : Int)) (fun g => o_convI (k := .i64) (k' := .u8) (a := (k : Int)) (c := (k : Int)) (by kernel_rfl) (by kernel_rfl) Try.underlying5 (wr_u8 (by omega))) (fun g => by kernel_rfl), ob_d (ι := Nat) (l := fun g => []) (L := fun g y => [blkR y [.int .u8 (k : Int)] 5]) (fun y => .slice (some ⟨y, 0, none⟩) 1 1) (fun g => o_lit (sz := 1) (.int .u8 0) [.int .u8 (k : Int)] Try.underlying58 (by kernel_rfl) (by kernel_rfl) (by kernel_rfl) (by kernel_rfl) (by kernel_rfl)) (fun g => by kernel_rfl) (fun g y _ => ⟨trivial, by kernel_rfl, by kernel_rfl⟩), ob_s (l := fun g => [blkR (slOf (g 3)) [.int .u8 (k : Int)] 5]) (l' := fun g => [blkR (slOf (g 3)) [.int .u8 (k : Int)] 5]) (v := fun g => sV (strOf [(k : Int)])) (fun g => o_bytesStr (n := 1) (cap := 1) (s := strOf [(k : Int)]) [(k : Int)] (by kernel_rfl) Try.underlying58 Try.underlying5 Try.underlying9 (by kernel_rfl) (by kernel_rfl) (rfl)) (fun g => by kernel_rfl), ob_val fun g w => by kernel_rfl, ob_val fun g w => by kernel_rfl, ob_v (v := fun g => pV g6 (off7 + k * 2)) (fun g => o_idx (b := g6) (cap := cap) (e := 28) (off := off7) (n := xs.length) (kd := .i64) (q := (k : Int)) (i := k) (size := 2) (j := off7 + k * 2) (by kernel_rfl) (by kernel_rfl) (by rfl) (by omega) Try.underlying55 (by kernel_rfl) (by omega)) (fun g => by kernel_rfl), ob_s (l := fun g => [oldR w0]) (l' := fun g => [oldR w0]) (v := fun g => .agg #[iV rok, iV rtk]) (fun g => o_loadOldN (b := g6) (j := off7 + k * 2) [iV rok, iV rtk] (by kernel_rfl) (by kernel_rfl) hrk) (fun g => by kernel_rfl), ob_s (l := fun g => [hpS b2 TA n0]) (l' := fun g => [hpS b2 (hset TA (strOf [(k : Int)], rok, rtk)) (n0 + 1)]) (v := fun g => .tuple #[]) (fun g => o_call (by kernel_rfl) Try.call16 (hp_SetS (S := TA) (n := n0) (strOf [(k : Int)]) rok rtk (by omega))) (fun g => by kernel_rfl), trivial⟩
      intro g
      refine Ex'.sub (subB_spec [0, 2, 3, 4, 5]) ?_
      refine Ex'.as [0, 1, 2, 6] (σ' := [(0, .slice (some ⟨g6, off7, none⟩) xs.length cap), (2, bV false), (3, pV b2 0), (4, pV b3 0), (5, iV (k : Int))]) (Γ' := [oldR w0, hpS b2 (hset TA (strOf [(k : Int)], rok, rtk)) (n0 + 1), hpI b3 TB n0, blkR (slOf (g 3)) [.int .u8 (k : Int)] 5]) (by kernel_rfl) rfl (by kernel_rfl) (by kernel_rfl) ?_
      generalize slOf (g 3) = b9
      refine Ex'.next ?_
      refine Cd.region rfl ?_
      refine Sq.vals [0, 1, 2, 3] (rest := [4, 5, 6]) [pV b3 0, iV (k : Int), .slice (some ⟨g6, off7, none⟩) xs.length cap, iV (k : Int)] (fun w => by kernel_rfl) ?_
      refine Sq.v (r := pV g6 (off7 + k * 2)) (o_idx (b := g6) (cap := cap) (e := 28) (off := off7) (n := xs.length) (kd := .i64) (q := (k : Int)) (i := k) (size := 2) (j := off7 + k * 2) (by kernel_rfl) (by kernel_rfl) (by rfl) (by omega) Try.underlying55 (by kernel_rfl) (by omega)) rfl (by kernel_rfl) ?_
      refine Sq.same [0] (l := [oldR w0]) (o_loadOldN (b := g6) (j := off7 + k * 2) [iV rok, iV rtk] (by kernel_rfl) (by kernel_rfl) hrk) (by kernel_rfl) rfl (by kernel_rfl) rfl ?_
      refine Sq.same [2] (l := [hpI b3 TB n0]) (o_call (by kernel_rfl) Try.call27 (hp_SetI (S := TB) (n := n0) (k : Int) rok rtk (by omega))) (by kernel_rfl) rfl (by kernel_rfl) rfl ?_
      refine Sq.done ?_
      refine Ex'.blockNormal ?_
      refine Ex'.next ?_
      refine Cd.region rfl ?_
      refine Sq.vals [0] (rest := [1, 2]) [iV (k : Int)] (fun w => by kernel_rfl) ?_
      refine Sq.v (r := iV ((k : Int) + 1)) (o_add (k := .i64) (a := (k : Int)) (b := 1) (c := (k : Int) + 1) (by kernel_rfl) (by kernel_rfl) (w64 rfl (by omega))) rfl (by kernel_rfl) ?_
      refine Sq.vals [2] (rest := []) [iV ((k : Int) + 1)] (fun w => by kernel_rfl) ?_
      refine Sq.done ?_
      refine Ex'.round (g := (k, TA, TB, n0)) (k + 1, hset TA (strOf [(k : Int)], rok, rtk), hset TB ((k : Int), rok, rtk), n0 + 1) ?_ ?_ (subB_eq (l := [0, 2, 3, 4, 5]) (by kernel_rfl)) (fun w hw => hw.pickB [0, 1, 2] (by kernel_rfl) (by kernel_rfl) (by kernel_rfl))
      · (try dsimp only); exact ⟨by omega, hK.step (by omega) _ _, by omega⟩
      · omega
    ·
      obtain ⟨hK1, hK2⟩ := hK.lens
      have hkx : k = xs.length := by omega
      refine Cd.exit ?_
      refine Ex'.thenExit ?_
      refine Ex'.thenExit ?_
      refine Ex'.blockHit ?_
      refine Ex'.next ?_
      refine Cd.seq ?_
      refine Cd.region rfl ?_
      refine Sq.vals [0] (rest := [1, 2, 3, 4, 5]) [pV b2 0] (fun w => by kernel_rfl) ?_
      refine Sq.ex [1] (l := [hpS b2 TA n0]) (o_call (by kernel_rfl) Try.call24 (hp_OrderS (S := TA) (n := n0) (by omega))) (by kernel_rfl) rfl (by kernel_rfl) (fun _ => Nat.le_of_ble_eq_true (by kernel_rfl)) ?_; rintro v10 _
      refine Sq.fact (i := 3) (R := rowR 9 1 v10 ((TA.map (·.1)).length) ((TA.map (·.1)).map Value.string)) (by kernel_rfl) row_slice ?_; rintro ⟨a11, c12, rfl, hc12, hc12'⟩
      have hc12'' : c12 ≤ 9223372036854775807 := hc12'
      refine Sq.vals [2] (rest := [3, 4, 5]) [pV b3 0] (fun w => by kernel_rfl) ?_
      refine Sq.ex [2] (l := [hpI b3 TB n0]) (o_call (by kernel_rfl) Try.call28 (hp_OrderI (S := TB) (n := n0) (by omega))) (by kernel_rfl) rfl (by kernel_rfl) (fun _ => Nat.le_of_ble_eq_true (by kernel_rfl)) ?_; rintro v13 _
      refine Sq.fact (i := 4) (R := rowR 3 1 v13 ((TB.map (·.1)).length) ((TB.map (·.1)).flatMap hcI1)) (by kernel_rfl) row_slice ?_; rintro ⟨a14, c15, rfl, hc15, hc15'⟩
      have hc15'' : c15 ≤ 9223372036854775807 := hc15'
      refine Sq.vals [4, 5] (rest := []) [.slice a11 ((TA.map (·.1)).length) c12, .slice a14 ((TB.map (·.1)).length) c15] (fun w => by kernel_rfl) ?_
      refine Sq.done ?_
      refine Ex'.next ?_
      refine Cd.seq ?_
      refine Cd.seq ?_
      refine Cd.region rfl ?_
      refine Sq.vals [0, 1, 2, 3] (rest := [4, 5, 6, 7, 8, 9, 10, 11]) [.slice a11 ((TA.map (·.1)).length) c12, iV ((TA.map (·.1)).length : Int), .slice a xs.length cap, iV (xs.length : Int)] (fun w => by kernel_rfl) ?_
      refine Sq.v (r := bV (decide (((TA.map (·.1)).length : Int) ≠ (xs.length : Int)))) (o_neI (k := .i64) (a := ((TA.map (·.1)).length : Int)) (b := (xs.length : Int)) (by kernel_rfl) (by kernel_rfl)) rfl (by kernel_rfl) ?_
      refine Sq.re 53 rfl (vF (by omega)) ?_
      refine Sq.vals [5, 6, 7, 8, 9] (rest := [10, 11]) [bV false, .slice a14 ((TB.map (·.1)).length) c15, iV ((TB.map (·.1)).length : Int), .slice a xs.length cap, iV (xs.length : Int)] (fun w => by kernel_rfl) ?_
      refine Sq.v (r := bV (decide (((TB.map (·.1)).length : Int) ≠ (xs.length : Int)))) (o_neI (k := .i64) (a := ((TB.map (·.1)).length : Int)) (b := (xs.length : Int)) (by kernel_rfl) (by kernel_rfl)) rfl (by kernel_rfl) ?_
      refine Sq.re 59 rfl (vF (by omega)) ?_
      refine Sq.vals [11] (rest := []) [bV false] (fun w => by kernel_rfl) ?_
      refine Sq.done ?_
      refine Ex'.next ?_
      refine Cd.condF (by kernel_rfl) ?_
      refine Cd.skip ?_
      refine Ex'.next ?_
      refine Cd.seq ?_
      refine Cd.seq ?_
      refine Cd.region rfl ?_
      refine Sq.vals [0] (rest := []) [iV 0] (fun w => by kernel_rfl) ?_
      refine Sq.done ?_
      refine Ex'.next ?_
      refine Cd.block ?_
      refine Cd.loop (ι := Nat) (fun j => j ≤ (TA.map (·.1)).length) (fun j => (TA.map (·.1)).length - j) (fun j => [(6, .slice a11 ((TA.map (·.1)).length) c12), (7, .slice a14 ((TB.map (·.1)).length) c15), (8, iV (j : Int))]) (fun j => [oldR w0, hpS b2 TA n0, hpI b3 TB n0, rowR 9 1 (.slice a11 ((TA.map (·.1)).length) c12) ((TA.map (·.1)).length) ((TA.map (·.1)).map Value.string), rowR 3 1 (.slice a14 ((TB.map (·.1)).length) c15) ((TB.map (·.1)).length) ((TB.map (·.1)).flatMap hcI1)]) 0 (Nat.zero_le _) (subB_eq (l := [6, 7, 8]) (by kernel_rfl)) (fun w hw => hw.pickB [0, 1, 2, 3, 4] (by kernel_rfl) (by kernel_rfl) (by kernel_rfl)) ?_
      rintro j hL16
      try dsimp only at hL16 ⊢
      have hj := hL16
      refine Cd.seq ?_
      refine Cd.seq ?_
      refine Cd.region rfl ?_
      refine Sq.vals [0, 1, 2, 3] (rest := []) [iV (j : Int), .slice a11 ((TA.map (·.1)).length) c12, iV ((TA.map (·.1)).length : Int), bV (decide ((j : Int) < ((TA.map (·.1)).length : Int)))] (fun w => by kernel_rfl) ?_
      refine Sq.done ?_
      refine Ex'.next ?_
      refine Cd.case (p := (j : Int) < ((TA.map (·.1)).length : Int)) (by kernel_rfl) (fun h17 => ?_) (fun h17 => ?_)
      ·
        obtain ⟨hA1, hA2, hA3⟩ := hK.at (j := j) (by omega)
        refine Cd.fact (i := 3) (R := rowR 9 1 (.slice a11 ((TA.map (·.1)).length) c12) ((TA.map (·.1)).length) ((TA.map (·.1)).map Value.string)) (by kernel_rfl) (row_addr (by omega)) ?_; rintro ⟨b18, rfl⟩
        refine Cd.fact (i := 4) (R := rowR 3 1 (.slice a14 ((TB.map (·.1)).length) c15) ((TB.map (·.1)).length) ((TB.map (·.1)).flatMap hcI1)) (by kernel_rfl) (row_addr (by omega)) ?_; rintro ⟨b19, rfl⟩
        refine Cd.skip ?_
        refine Ex'.next ?_
        refine Cd.seq ?_
        refine Cd.block ?_
        refine Cd.seq ?_
        refine Cd.plan [0, 0, 3, 7, 0, 0, 48, 112, 240, 496, 1008, 2047] [(3, [(3, false, 0)]), (7, [(4, false, 0)]), (10, [(14, false, 10)])] [9] [(9, fun _ => True)] [(14, 9, fun g => blkR (slOf (g 9)) [.int .u8 ((TB.map (·.1)).getD j (0 : Int))] 5)] [fun g => .slice (some ⟨b18, 0, none⟩) ((TA.map (·.1)).length) c12, fun g => iV (j : Int), fun g => pV b18 j, fun g => sV ((TA.map (·.1)).getD j ⟨#[]⟩), fun g => .slice (some ⟨b19, 0, none⟩) ((TB.map (·.1)).length) c15, fun g => iV (j : Int), fun g => pV b19 j, fun g => iV ((TB.map (·.1)).getD j (0 : Int)), fun g => .int .u8 ((TB.map (·.1)).getD j (0 : Int)), fun g => .slice (some ⟨(slOf (g 9)), 0, none⟩) 1 1, fun g => sV (strOf [((TB.map (·.1)).getD j (0 : Int))]), fun g => bV false] (by kernel_rfl) (by kernel_rfl) rfl (⟨⟨⟨fun _ _ => rfl, ⟨fun _ _ => rfl, ⟨fun _ _ => rfl, ⟨fun _ _ => rfl, ⟨fun _ _ => rfl, ⟨fun _ _ => rfl, ⟨fun _ _ => rfl, ⟨fun _ _ => rfl, ⟨fun _ _ => rfl, ⟨trivial, ⟨trivial, ⟨trivial, trivial⟩⟩⟩⟩⟩⟩⟩⟩⟩⟩⟩⟩, ⟨trivial, trivial⟩⟩, trivial⟩) ?_ ?_
        · exact ⟨ob_val fun g w => by kernel_rfl, ob_val fun g w => by kernel_rfl, ob_v (v := fun g => pV b18 j) (fun g => o_idx (b := b18) (cap := c12) (e := 9) (off := 0) (n := (TA.map (·.1)).length) (kd := .i64) (q := (j : Int)) (i := j) (size := 1) (j := j) (by kernel_rfl) (by kernel_rfl) (by rfl) (by omega) Try.underlying47 (by kernel_rfl) (by omega)) (fun g => by kernel_rfl), ob_s (l := fun g => [rowR 9 1 (.slice (some ⟨b18, 0, none⟩) ((TA.map (·.1)).length) c12) ((TA.map (·.1)).length) ((TA.map (·.1)).map Value.string)]) (l' := fun g => [rowR 9 1 (.slice (some ⟨b18, 0, none⟩) ((TA.map (·.1)).length) c12) ((TA.map (·.1)).length) ((TA.map (·.1)).map Value.string)]) (v := fun g => sV ((TA.map (·.1)).getD j ⟨#[]⟩)) (fun g => o_loadRow (i := j) (u := sV ((TA.map (·.1)).getD j ⟨#[]⟩)) (by kernel_rfl) (by omega) (by kernel_rfl) (get_map (by omega))) (fun g => by kernel_rfl), ob_val fun g w => by kernel_rfl, ob_val fun g w => by kernel_rfl, ob_v (v := fun g => pV b19 j) (fun g => o_idx (b := b19) (cap := c15) (e := 3) (off := 0) (n := (TB.map (·.1)).length) (kd := .i64) (q := (j : Int)) (i := j) (size := 1) (j := j) (by kernel_rfl) (by kernel_rfl) (by rfl) (by omega) Try.underlying60 (by kernel_rfl) (by omega)) (fun g => by kernel_rfl), ob_s (l := fun g => [rowR 3 1 (.slice (some ⟨b19, 0, none⟩) ((TB.map (·.1)).length) c15) ((TB.map (·.1)).length) ((TB.map (·.1)).flatMap hcI1)]) (l' := fun g => [rowR 3 1 (.slice (some ⟨b19, 0, none⟩) ((TB.map (·.1)).length) c15) ((TB.map (·.1)).length) ((TB.map (·.1)).flatMap hcI1)]) (v := fun g => iV ((TB.map (·.1)).getD j (0 : Int))) (fun g => o_loadRow (i := j) (u := iV ((TB.map (·.1)).getD j (0 : Int))) (by kernel_rfl) (by first | omega | (simp only [List.length_set, List.length_append, List.length_take, List.length_singleton] <;> omega)) (by kernel_rfl) ((rec_get1 (f := hcI1) (k := 1) (z := (0 : Int)) (l := TB.map (·.1)) (i := j) (j := 0) (fun _ => rfl) (by first | omega | (simp only [List.length_set, List.length_append, List.length_take, List.length_singleton] <;> omega)) (by decide)).trans rfl)) (fun g => by kernel_rfl), ob_v (v := fun g => .int .u8 ((TB.map (·.1)).getD j (0 : Int))) (fun g => o_convI (k := .i64) (k' := .u8) (a := ((TB.map (·.1)).getD j (0 : Int))) (c := ((TB.map (·.1)).getD j (0 : Int))) (by kernel_rfl) (by kernel_rfl) Try.underlying5 (wr_u8 (by omega))) (fun g => by kernel_rfl), ob_d (ι := Nat) (l := fun g => []) (L := fun g y => [blkR y [.int .u8 ((TB.map (·.1)).getD j (0 : Int))] 5]) (fun y => .slice (some ⟨y, 0, none⟩) 1 1) (fun g => o_lit (sz := 1) (.int .u8 0) [.int .u8 ((TB.map (·.1)).getD j (0 : Int))] Try.underlying58 (by kernel_rfl) (by kernel_rfl) (by kernel_rfl) (by kernel_rfl) (by kernel_rfl)) (fun g => by kernel_rfl) (fun g y _ => ⟨trivial, by kernel_rfl, by kernel_rfl⟩), ob_s (l := fun g => [blkR (slOf (g 9)) [.int .u8 ((TB.map (·.1)).getD j (0 : Int))] 5]) (l' := fun g => [blkR (slOf (g 9)) [.int .u8 ((TB.map (·.1)).getD j (0 : Int))] 5]) (v := fun g => sV (strOf [((TB.map (·.1)).getD j (0 : Int))])) (fun g => o_bytesStr (n := 1) (cap := 1) (s := strOf [((TB.map (·.1)).getD j (0 : Int))]) [((TB.map (·.1)).getD j (0 : Int))] (by kernel_rfl) Try.underlying58 Try.underlying5 Try.underlying9 (by kernel_rfl) (by kernel_rfl) (rfl)) (fun g => by kernel_rfl), ob_v (v := fun g => bV false) (fun g => OprV.re (o_neS (a := (TA.map (·.1)).getD j ⟨#[]⟩) (b := strOf [((TB.map (·.1)).getD j (0 : Int))]) (by kernel_rfl) (by kernel_rfl)) (vF (fun z => z hA1))) (fun g => by kernel_rfl), trivial⟩
        intro g
        refine Ex'.sub (subB_spec [6, 7, 8, 78]) ?_
        refine Ex'.as [0, 1, 2, 3, 4, 14] (σ' := [(6, .slice (some ⟨b18, 0, none⟩) ((TA.map (·.1)).length) c12), (7, .slice (some ⟨b19, 0, none⟩) ((TB.map (·.1)).length) c15), (8, iV (j : Int)), (78, bV false)]) (Γ' := [oldR w0, hpS b2 TA n0, hpI b3 TB n0, rowR 9 1 (.slice (some ⟨b18, 0, none⟩) ((TA.map (·.1)).length) c12) ((TA.map (·.1)).length) ((TA.map (·.1)).map Value.string), rowR 3 1 (.slice (some ⟨b19, 0, none⟩) ((TB.map (·.1)).length) c15) ((TB.map (·.1)).length) ((TB.map (·.1)).flatMap hcI1), blkR (slOf (g 9)) [.int .u8 ((TB.map (·.1)).getD j (0 : Int))] 5]) (by kernel_rfl) rfl (by kernel_rfl) (by kernel_rfl) ?_
        generalize slOf (g 9) = b21
        refine Ex'.next ?_
        refine Cd.condF (by kernel_rfl) ?_
        refine Cd.skip ?_
        refine Ex'.blockNormal ?_
        refine Ex'.next ?_
        refine Cd.region rfl ?_
        refine Sq.vals [0] (rest := [1, 2]) [iV (j : Int)] (fun w => by kernel_rfl) ?_
        refine Sq.v (r := iV ((j : Int) + 1)) (o_add (k := .i64) (a := (j : Int)) (b := 1) (c := (j : Int) + 1) (by kernel_rfl) (by kernel_rfl) (w64 rfl (by omega))) rfl (by kernel_rfl) ?_
        refine Sq.vals [2] (rest := []) [iV ((j : Int) + 1)] (fun w => by kernel_rfl) ?_
        refine Sq.done ?_
        refine Ex'.round (g := j) (j + 1) ?_ ?_ (subB_eq (l := [6, 7, 8]) (by kernel_rfl)) (fun w hw => hw.pickB [0, 1, 2, 3, 4] (by kernel_rfl) (by kernel_rfl) (by kernel_rfl))
        · (try dsimp only); exact (by omega : j + 1 ≤ (TA.map (·.1)).length)
        · omega
      ·
        refine Cd.exit ?_
        refine Ex'.thenExit ?_
        refine Ex'.thenExit ?_
        refine Ex'.blockHit ?_
        refine Ex'.next ?_
        refine Cd.seq ?_
        refine Cd.region rfl ?_
        refine Sq.vals [0] (rest := []) [bV true] (fun w => by kernel_rfl) ?_
        refine Sq.done ?_
        refine Ex'.next ?_
        refine Cd.ret ?_
        refine Ex'.ret Try.results7 (RVs.tmp (v := bV true) (by kernel_rfl) (RVs.nil)) (fun w hw => ?_)
        exact ⟨_, ⟨rfl, by kernel_rfl⟩, hw⟩

theorem heapKinds_walk (v : Value) (ys : List HRk) (w : World) (h : Cells w (fun k => k < w.heap.size) v ys.length 2 (ys.flatMap HRk.cells)) :
    Calls Try.prog 7 #[v] w fun e w' => e = .returned (.bool true) ∧ Below w.heap.size w w' := by
  obtain ⟨a, cap, rfl, hl⟩ := RecsIn.shape (rks_of h)
  exact law_of (heapKinds_tri hl (rks_of h))

end Go.Proofs.Ytnnjccfcalgokaa
