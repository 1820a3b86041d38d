/- HeapRemoves: its walk. -/
import Derived.Test.YtnnjccfcalgokaaHpX
import Derived.Test.YtnnjccfcalgokaaHpO
import Derived.Test.YtnnjccfcalgokaaActsH
import Derived.Test.YtnnjccfcalgokaaHpAwake
import Derived.Test.YtnnjccfcalgokaaHeapPureC
set_option linter.unusedVariables false
namespace Go.Proofs.Ytnnjccfcalgokaa
open Go.RowKit Go.MapKept

set_option maxHeartbeats 8000000 in
set_option maxRecDepth 100000 in
theorem heapRemoves_tri {w0 : World} {a : Option Addr} {cap : Nat} {xs : List Act4} {key : ByteArray} (hl : xs.length ≤ cap ∧ cap ≤ 9223372036854775807) (hs : HScr w0 (.slice a xs.length cap) xs) : Tri Try.prog 6 #[.slice a xs.length cap, sV key] [oldR w0] (LawP w0) := by
  refine Tri.enter (args := [.slice a xs.length cap, sV key]) Try.func6 rfl rfl rfl (fun B wz => ?_)
  refine Cd.seq ?_
  refine Cd.region rfl ?_
  refine Sq.vals [0] (rest := []) [bV false] (fun w => by kernel_rfl) ?_
  refine Sq.done ?_
  refine Ex'.next ?_
  refine Cd.seq ?_
  refine Cd.seq ?_
  refine Cd.region rfl ?_
  refine Sq.same [] (l := []) (o_call (by kernel_rfl) Try.call13 (heap_awake)) (by kernel_rfl) rfl (by kernel_rfl) rfl ?_
  refine Sq.vals [1] (rest := []) [bV false] (fun w => by kernel_rfl) ?_
  refine Sq.done ?_
  refine Ex'.next ?_
  refine Cd.condF (by kernel_rfl) ?_
  refine Cd.skip ?_
  refine Ex'.next ?_
  refine Cd.seq ?_
  refine Cd.seq ?_
  refine Cd.region rfl ?_
  refine Sq.vals [0, 1, 2] (rest := []) [.slice a xs.length cap, iV (xs.length : Int), bV (decide ((xs.length : Int) > 200))] (fun w => by kernel_rfl) ?_
  refine Sq.done ?_
  refine Ex'.next ?_
  refine Cd.case (p := (xs.length : Int) > 200) (by kernel_rfl) (fun h1 => ?_) (fun h1 => ?_)
  ·
    refine Cd.seq ?_
    refine Cd.region rfl ?_
    refine Sq.vals [0] (rest := []) [bV true] (fun w => by kernel_rfl) ?_
    refine Sq.done ?_
    refine Ex'.next ?_
    refine Cd.ret ?_
    refine Ex'.thenRet ?_
    refine Ex'.ret Try.results6 (RVs.tmp (v := bV true) (by kernel_rfl) (RVs.nil)) (fun w hw => ?_)
    exact ⟨_, ⟨rfl, by kernel_rfl⟩, hw⟩
  ·
    refine Cd.skip ?_
    refine Ex'.next ?_
    refine Cd.seq ?_
    refine Cd.region rfl ?_
    refine Sq.ex [] (l := []) (o_call (by kernel_rfl) Try.call14 (hp_NewS)) (by kernel_rfl) rfl (by kernel_rfl) (fun _ => Nat.le_of_ble_eq_true (by kernel_rfl)) ?_; rintro b2 _
    refine Sq.vals [1] (rest := []) [pV b2 0] (fun w => by kernel_rfl) ?_
    refine Sq.done ?_
    refine Ex'.next ?_
    refine Cd.seq ?_
    refine Cd.seq ?_
    refine Cd.region rfl ?_
    refine Sq.vals [0, 1] (rest := []) [pV b2 0, bV false] (fun w => by kernel_rfl) ?_
    refine Sq.done ?_
    refine Ex'.next ?_
    refine Cd.condF (by kernel_rfl) ?_
    refine Cd.skip ?_
    refine Ex'.next ?_
    refine Cd.seq ?_
    refine Cd.seq ?_
    refine Cd.region rfl ?_
    refine Sq.vals [0] (rest := []) [iV 0] (fun w => by kernel_rfl) ?_
    refine Sq.done ?_
    refine Ex'.next ?_
    refine Cd.block ?_
    refine Cd.loop (ι := Nat × (List (KR ByteArray)) × Nat) (fun ⟨k, T0, n0⟩ => k ≤ xs.length ∧ n0 ≤ k) (fun ⟨k, T0, n0⟩ => xs.length - k) (fun ⟨k, T0, n0⟩ => [(0, .slice a xs.length cap), (1, sV key), (4, bV false), (5, pV b2 0), (6, iV (k : Int))]) (fun ⟨k, T0, n0⟩ => [oldR w0, hpS b2 T0 n0]) (0, [], 0) (⟨Nat.zero_le _, Nat.le_refl _⟩) (subB_eq (l := [0, 1, 4, 5, 6]) (by kernel_rfl)) (fun w hw => hw.pickB [0, 1] (by kernel_rfl) (by kernel_rfl) (by kernel_rfl)) ?_
    rintro ⟨k, T0, n0⟩ hL3
    try dsimp only at hL3 ⊢
    obtain ⟨hk, hn⟩ := hL3
    refine Cd.seq ?_
    refine Cd.seq ?_
    refine Cd.region rfl ?_
    refine Sq.vals [0, 1, 2, 3] (rest := []) [iV (k : Int), .slice a xs.length cap, iV (xs.length : Int), bV (decide ((k : Int) < (xs.length : Int)))] (fun w => by kernel_rfl) ?_
    refine Sq.done ?_
    refine Ex'.next ?_
    refine Cd.case (p := (k : Int) < (xs.length : Int)) (by kernel_rfl) (fun h4 => ?_) (fun h4 => ?_)
    ·
      obtain ⟨g5, off6, rfl⟩ := hs.addr (by omega)
      obtain ⟨kdk, kyk, rok, rtk, hgk, hwk, hrk⟩ := hs.at (k := k) (by omega)
      refine Cd.skip ?_
      refine Ex'.next ?_
      refine Cd.seq ?_
      refine Cd.block ?_
      refine Cd.plan [0, 0, 0, 6, 14, 30, 0, 0, 192, 448, 960, 2047] [(5, [(0, false, 0)]), (10, [(0, false, 0)]), (11, [(1, true, 0)])] [] [] [(1, 11, fun g => hpS b2 (hset T0 (kyk, rok, rtk)) (n0 + 1))] [fun g => pV b2 0, fun g => .slice (some ⟨g5, off6, none⟩) xs.length cap, fun g => iV (k : Int), fun g => pV g5 (off6 + k * 4), fun g => pV g5 (off6 + k * 4 + 1), fun g => sV kyk, fun g => .slice (some ⟨g5, off6, none⟩) xs.length cap, fun g => iV (k : Int), fun g => pV g5 (off6 + k * 4), fun g => pV g5 (off6 + k * 4 + 2), fun g => .agg #[iV rok, iV rtk], fun g => .tuple #[]] (by kernel_rfl) (by kernel_rfl) rfl (trivial) ?_ ?_
      · exact ⟨ob_val fun g w => by kernel_rfl, ob_val fun g w => by kernel_rfl, ob_val fun g w => by kernel_rfl, ob_v (v := fun g => pV g5 (off6 + k * 4)) (fun g => o_idx (b := g5) (cap := cap) (e := 30) (off := off6) (n := xs.length) (kd := .i64) (q := (k : Int)) (i := k) (size := 4) (j := off6 + k * 4) (by kernel_rfl) (by kernel_rfl) (by rfl) (by omega) Try.underlying22 (by kernel_rfl) (by omega)) (fun g => by kernel_rfl), ob_val fun g w => by kernel_rfl, ob_s (l := fun g => [oldR w0]) (l' := fun g => [oldR w0]) (v := fun g => sV kyk) (fun g => o_loadOld (b := g5) (j := off6 + k * 4 + 1) (u := sV kyk) (by kernel_rfl) (by kernel_rfl) (hrk 1 _ rfl)) (fun g => by kernel_rfl), ob_val fun g w => by kernel_rfl, ob_val fun g w => by kernel_rfl, ob_v (v := fun g => pV g5 (off6 + k * 4)) (fun g => o_idx (b := g5) (cap := cap) (e := 30) (off := off6) (n := xs.length) (kd := .i64) (q := (k : Int)) (i := k) (size := 4) (j := off6 + k * 4) (by kernel_rfl) (by kernel_rfl) (by rfl) (by omega) Try.underlying22 (by kernel_rfl) (by omega)) (fun g => by kernel_rfl), ob_val fun g w => by kernel_rfl, ob_s (l := fun g => [oldR w0]) (l' := fun g => [oldR w0]) (v := fun g => .agg #[iV rok, iV rtk]) (fun g => o_loadOldN (b := g5) (j := off6 + k * 4 + 2) [iV rok, iV rtk] (by kernel_rfl) (by kernel_rfl) (range_sub hrk 2 2)) (fun g => by kernel_rfl), ob_s (l := fun g => [hpS b2 T0 n0]) (l' := fun g => [hpS b2 (hset T0 (kyk, rok, rtk)) (n0 + 1)]) (v := fun g => .tuple #[]) (fun g => o_call (by kernel_rfl) Try.call16 (hp_SetS (S := T0) (n := n0) kyk rok rtk (by omega))) (fun g => by kernel_rfl), trivial⟩
      intro g
      refine Ex'.sub (subB_spec [0, 1, 4, 5, 6]) ?_
      refine Ex'.as [0, 1] (σ' := [(0, .slice (some ⟨g5, off6, none⟩) xs.length cap), (1, sV key), (4, bV false), (5, pV b2 0), (6, iV (k : Int))]) (Γ' := [oldR w0, hpS b2 (hset T0 (kyk, rok, rtk)) (n0 + 1)]) (by kernel_rfl) rfl (by kernel_rfl) (by kernel_rfl) ?_
      refine Ex'.blockNormal ?_
      refine Ex'.next ?_
      refine Cd.region rfl ?_
      refine Sq.vals [0] (rest := [1, 2]) [iV (k : Int)] (fun w => by kernel_rfl) ?_
      refine Sq.v (r := iV ((k : Int) + 1)) (o_add (k := .i64) (a := (k : Int)) (b := 1) (c := (k : Int) + 1) (by kernel_rfl) (by kernel_rfl) (w64 rfl (by omega))) rfl (by kernel_rfl) ?_
      refine Sq.vals [2] (rest := []) [iV ((k : Int) + 1)] (fun w => by kernel_rfl) ?_
      refine Sq.done ?_
      refine Ex'.round (g := (k, T0, n0)) (k + 1, hset T0 (kyk, rok, rtk), n0 + 1) ?_ ?_ (subB_eq (l := [0, 1, 4, 5, 6]) (by kernel_rfl)) (fun w hw => hw.pickB [0, 1] (by kernel_rfl) (by kernel_rfl) (by kernel_rfl))
      · (try dsimp only); exact ⟨by omega, by omega⟩
      · omega
    ·
      refine Cd.fact (i := 1) rfl hpS.srt ?_; rintro ⟨hnd, hle, hsd⟩
      have hrk : (hrem T0 key).map (·.1) = (T0.map (·.1)).filter (fun q => q ≠ key) := hrem_keys T0 key
      have hrl := congrArg List.length hrk
      refine Cd.exit ?_
      refine Ex'.thenExit ?_
      refine Ex'.thenExit ?_
      refine Ex'.blockHit ?_
      refine Ex'.next ?_
      refine Cd.seq ?_
      refine Cd.region rfl ?_
      refine Sq.vals [0] (rest := [1, 2]) [pV b2 0] (fun w => by kernel_rfl) ?_
      refine Sq.ex [1] (l := [hpS b2 T0 n0]) (o_call (by kernel_rfl) Try.call24 (hp_OrderS (S := T0) (n := n0) (by omega))) (by kernel_rfl) rfl (by kernel_rfl) (fun _ => Nat.le_of_ble_eq_true (by kernel_rfl)) ?_; rintro v7 _
      refine Sq.fact (i := 2) (R := rowR 9 1 v7 ((T0.map (·.1)).length) ((T0.map (·.1)).map Value.string)) (by kernel_rfl) row_slice ?_; rintro ⟨a8, c9, rfl, hc9, hc9'⟩
      have hc9'' : c9 ≤ 9223372036854775807 := hc9'
      refine Sq.vals [2] (rest := []) [.slice a8 ((T0.map (·.1)).length) c9] (fun w => by kernel_rfl) ?_
      refine Sq.done ?_
      refine Ex'.next ?_
      refine Cd.seq ?_
      refine Cd.region rfl ?_
      refine Sq.vals [0, 1] (rest := [2, 3, 4, 5, 6, 7, 8]) [pV b2 0, sV key] (fun w => by kernel_rfl) ?_
      refine Sq.same [1] (l := [hpS b2 T0 n0]) (o_call (by kernel_rfl) Try.call21 (hp_RankS (S := T0) (n := n0) key (by omega))) (by kernel_rfl) rfl (by kernel_rfl) rfl ?_
      refine Sq.vals [3, 4, 5] (rest := [6, 7, 8]) [.tuple #[.agg #[iV (((lk T0 key).getD (0, 0)).1), iV (((lk T0 key).getD (0, 0)).2)], bV ((lk T0 key).isSome)], .agg #[iV (((lk T0 key).getD (0, 0)).1), iV (((lk T0 key).getD (0, 0)).2)], bV ((lk T0 key).isSome)] (fun w => by kernel_rfl) ?_
      refine Sq.ex [] (l := []) (o_new [iV 0, iV 0] (fun w => by kernel_rfl)) (by kernel_rfl) rfl (by kernel_rfl) (fun _ => Nat.zero_le _) ?_; intro b10 _
      refine Sq.same [3] (l := [blkR b10 [iV 0, iV 0] 28]) (o_store (i := 0) (v := .agg #[iV (((lk T0 key).getD (0, 0)).1), iV (((lk T0 key).getD (0, 0)).2)]) (by kernel_rfl) (by kernel_rfl) (by kernel_rfl) (by kernel_rfl) (by kernel_rfl)) (by kernel_rfl) rfl (by kernel_rfl) rfl ?_
      refine Sq.vals [8] (rest := []) [bV ((lk T0 key).isSome)] (fun w => by kernel_rfl) ?_
      refine Sq.done ?_
      refine Ex'.next ?_
      refine Cd.seq ?_
      refine Cd.seq ?_
      refine Cd.region rfl ?_
      refine Sq.vals [0, 1] (rest := [2, 3, 4, 5, 6, 7, 8, 9]) [pV b2 0, sV key] (fun w => by kernel_rfl) ?_
      refine Sq.same [1] (l := [hpS b2 T0 n0]) (o_call (by kernel_rfl) Try.call18 (hp_RemoveS (S := T0) (n := n0) key (by omega))) (by kernel_rfl) rfl (by kernel_rfl) rfl ?_
      refine Sq.vals [3] (rest := [4, 5, 6, 7, 8, 9]) [bV ((lk T0 key).isSome)] (fun w => by kernel_rfl) ?_
      refine Sq.v (r := bV (!(((lk T0 key).isSome) == ((lk T0 key).isSome)))) (pureV (by kernel_rfl) rfl fun w => by kernel_rfl) rfl (by kernel_rfl) ?_
      refine Sq.re 51 rfl (show Value.bool (!(((lk T0 key).isSome) == ((lk T0 key).isSome))) = .bool false from by simp) ?_
      refine Sq.vals [5, 6, 7] (rest := [8, 9]) [bV false, pV b2 0, sV key] (fun w => by kernel_rfl) ?_
      refine Sq.same [1] (l := [hpS b2 (hrem T0 key) n0]) (o_call (by kernel_rfl) Try.call18 (Tri.eq (l2 := [hpS b2 (hrem T0 key) n0]) (r' := bV ((lk (hrem T0 key) key).isSome)) (hp_RemoveS (S := hrem T0 key) (n := n0) key (by omega)) (by rw [hrem_idem]) rfl)) (by kernel_rfl) rfl (by kernel_rfl) rfl ?_
      refine Sq.vals [9] (rest := []) [bV ((lk (hrem T0 key) key).isSome)] (fun w => by kernel_rfl) ?_
      refine Sq.done ?_
      refine Ex'.next ?_
      refine Cd.condF (by rw [show ev _ _ = some (.bool ((lk (hrem T0 key) key).isSome)) from by kernel_rfl, show (lk (hrem T0 key) key).isSome = false from (by rw [lk_hrem hnd]; rfl)]) ?_
      refine Cd.skip ?_
      refine Ex'.next ?_
      refine Cd.seq ?_
      refine Cd.region rfl ?_
      refine Sq.vals [0] (rest := [1, 2]) [pV b2 0] (fun w => by kernel_rfl) ?_
      refine Sq.ex [1] (l := [hpS b2 (hrem T0 key) n0]) (o_call (by kernel_rfl) Try.call24 (hp_OrderS (S := hrem T0 key) (n := n0) (by omega))) (by kernel_rfl) rfl (by kernel_rfl) (fun _ => Nat.le_of_ble_eq_true (by kernel_rfl)) ?_; rintro v12 _
      refine Sq.fact (i := 4) (R := rowR 9 1 v12 (((hrem T0 key).map (·.1)).length) (((hrem T0 key).map (·.1)).map Value.string)) (by kernel_rfl) row_slice ?_; rintro ⟨a13, c14, rfl, hc14, hc14'⟩
      have hc14'' : c14 ≤ 9223372036854775807 := hc14'
      refine Sq.vals [2] (rest := []) [.slice a13 (((hrem T0 key).map (·.1)).length) c14] (fun w => by kernel_rfl) ?_
      refine Sq.done ?_
      refine Ex'.next ?_
      refine Cd.seq ?_
      refine Cd.region rfl ?_
      refine Sq.vals [0] (rest := []) [iV 0] (fun w => by kernel_rfl) ?_
      refine Sq.done ?_
      refine Ex'.next ?_
      refine Cd.seq ?_
      refine Cd.seq ?_
      refine Cd.region rfl ?_
      refine Sq.vals [0] (rest := []) [iV 0] (fun w => by kernel_rfl) ?_
      refine Sq.done ?_
      refine Ex'.next ?_
      refine Cd.block ?_
      refine Cd.loop (ι := Nat × Nat) (fun ⟨j, q⟩ => j ≤ (T0.map (·.1)).length ∧ q = (((T0.map (·.1)).take j).filter fun z => z ≠ key).length) (fun ⟨j, q⟩ => (T0.map (·.1)).length - j) (fun ⟨j, q⟩ => [(1, sV key), (5, pV b2 0), (7, .slice a8 ((T0.map (·.1)).length) c9), (10, .slice a13 (((hrem T0 key).map (·.1)).length) c14), (12, iV (j : Int)), (11, iV (q : Int))]) (fun ⟨j, q⟩ => [oldR w0, hpS b2 (hrem T0 key) n0, rowR 9 1 (.slice a8 ((T0.map (·.1)).length) c9) ((T0.map (·.1)).length) ((T0.map (·.1)).map Value.string), blkR b10 [iV (((lk T0 key).getD (0, 0)).1), iV (((lk T0 key).getD (0, 0)).2)] 28, rowR 9 1 (.slice a13 (((hrem T0 key).map (·.1)).length) c14) (((hrem T0 key).map (·.1)).length) (((hrem T0 key).map (·.1)).map Value.string)]) (0, 0) (⟨Nat.zero_le _, by simp⟩) (subB_eq (l := [1, 5, 7, 10, 12, 11]) (by kernel_rfl)) (fun w hw => hw.pickB [0, 1, 2, 3, 4] (by kernel_rfl) (by kernel_rfl) (by kernel_rfl)) ?_
      rintro ⟨j, q⟩ hL15
      try dsimp only at hL15 ⊢
      obtain ⟨hj, hqj⟩ := hL15
      refine Cd.seq ?_
      refine Cd.seq ?_
      refine Cd.region rfl ?_
      refine Sq.vals [0, 1, 2, 3] (rest := []) [iV (j : Int), .slice a8 ((T0.map (·.1)).length) c9, iV ((T0.map (·.1)).length : Int), bV (decide ((j : Int) < ((T0.map (·.1)).length : Int)))] (fun w => by kernel_rfl) ?_
      refine Sq.done ?_
      refine Ex'.next ?_
      refine Cd.case (p := (j : Int) < ((T0.map (·.1)).length : Int)) (by kernel_rfl) (fun h16 => ?_) (fun h16 => ?_)
      ·
        refine Cd.fact (i := 2) (R := rowR 9 1 (.slice a8 ((T0.map (·.1)).length) c9) ((T0.map (·.1)).length) ((T0.map (·.1)).map Value.string)) (by kernel_rfl) (row_addr (by omega)) ?_; rintro ⟨b17, rfl⟩
        refine Cd.skip ?_
        refine Ex'.next ?_
        refine Cd.seq ?_
        refine Cd.block ?_
        refine Cd.seq ?_
        refine Cd.seq ?_
        refine Cd.region rfl ?_
        refine Sq.vals [0, 1] (rest := [2, 3, 4, 5]) [.slice (some ⟨b17, 0, none⟩) ((T0.map (·.1)).length) c9, iV (j : Int)] (fun w => by kernel_rfl) ?_
        refine Sq.v (r := pV b17 j) (o_idx (b := b17) (cap := c9) (e := 9) (off := 0) (n := (T0.map (·.1)).length) (kd := .i64) (q := (j : Int)) (i := j) (size := 1) (j := j) (by kernel_rfl) (by kernel_rfl) (by rfl) (by omega) Try.underlying47 (by kernel_rfl) (by omega)) rfl (by kernel_rfl) ?_
        refine Sq.same [2] (l := [rowR 9 1 (.slice (some ⟨b17, 0, none⟩) ((T0.map (·.1)).length) c9) ((T0.map (·.1)).length) ((T0.map (·.1)).map Value.string)]) (o_loadRow (i := j) (u := sV ((T0.map (·.1)).getD j ⟨#[]⟩)) (by kernel_rfl) (by omega) (by kernel_rfl) (get_map (by omega))) (by kernel_rfl) rfl (by kernel_rfl) rfl ?_
        refine Sq.vals [4] (rest := [5]) [sV key] (fun w => by kernel_rfl) ?_
        refine Sq.v (r := bV (decide ((T0.map (·.1)).getD j ⟨#[]⟩ = key))) (o_eqS (a := (T0.map (·.1)).getD j ⟨#[]⟩) (b := key) (by kernel_rfl) (by kernel_rfl)) rfl (by kernel_rfl) ?_
        refine Sq.done ?_
        refine Ex'.next ?_
        refine Cd.case (p := (T0.map (·.1)).getD j ⟨#[]⟩ = key) (by kernel_rfl) (fun h18 => ?_) (fun h18 => ?_)
        ·
          refine Cd.exit ?_
          refine Ex'.thenExit ?_
          refine Ex'.blockHit ?_
          refine Ex'.next ?_
          refine Cd.region rfl ?_
          refine Sq.vals [0] (rest := [1, 2]) [iV (j : Int)] (fun w => by kernel_rfl) ?_
          refine Sq.v (r := iV ((j : Int) + 1)) (o_add (k := .i64) (a := (j : Int)) (b := 1) (c := (j : Int) + 1) (by kernel_rfl) (by kernel_rfl) (w64 rfl (by omega))) rfl (by kernel_rfl) ?_
          refine Sq.vals [2] (rest := []) [iV ((j : Int) + 1)] (fun w => by kernel_rfl) ?_
          refine Sq.done ?_
          refine Ex'.round (g := (j, q)) (j + 1, q) ?_ ?_ (subB_eq (l := [1, 5, 7, 10, 12, 11]) (by kernel_rfl)) (fun w hw => hw.pickB [0, 1, 2, 3, 4] (by kernel_rfl) (by kernel_rfl) (by kernel_rfl))
          · (try dsimp only); exact ⟨by omega, by rw [hqj]; exact (filt_eq (by omega) h18).symm⟩
          · omega
        ·
          obtain ⟨hq1, hq2, hq3⟩ := filt_at (by omega) h18 hqj
          rw [← hrk] at hq1 hq2
          refine Cd.fact (i := 4) (R := rowR 9 1 (.slice a13 (((hrem T0 key).map (·.1)).length) c14) (((hrem T0 key).map (·.1)).length) (((hrem T0 key).map (·.1)).map Value.string)) (by kernel_rfl) (row_addr (by omega)) ?_; rintro ⟨b19, rfl⟩
          refine Cd.skip ?_
          refine Ex'.next ?_
          refine Cd.seq ?_
          refine Cd.seq ?_
          refine Cd.plan [0, 0, 2, 7, 15, 31, 31, 127, 255, 31, 31, 1567, 3615, 8191, 16383] [(8, [(4, false, 0)]), (12, [(2, false, 0)])] [] [] [] [fun g => iV (q : Int), fun g => .slice (some ⟨b19, 0, none⟩) (((hrem T0 key).map (·.1)).length) c14, fun g => iV (((hrem T0 key).map (·.1)).length : Int), fun g => bV false, fun g => bV false, fun g => .slice (some ⟨b19, 0, none⟩) (((hrem T0 key).map (·.1)).length) c14, fun g => iV (q : Int), fun g => pV b19 q, fun g => sV (((hrem T0 key).map (·.1)).getD q ⟨#[]⟩), fun g => .slice (some ⟨b17, 0, none⟩) ((T0.map (·.1)).length) c9, fun g => iV (j : Int), fun g => pV b17 j, fun g => sV ((T0.map (·.1)).getD j ⟨#[]⟩), fun g => bV false, fun g => bV false] (by kernel_rfl) (by kernel_rfl) rfl (trivial) ?_ ?_
          · exact ⟨ob_val fun g w => by kernel_rfl, ob_val fun g w => by kernel_rfl, ob_val fun g w => by kernel_rfl, ob_v (v := fun g => bV false) (fun g => OprV.re (pureV (v := bV (decide ((q : Int) ≥ (((hrem T0 key).map (·.1)).length : Int)))) (by kernel_rfl) rfl fun w => by kernel_rfl) (vF (by omega))) (fun g => by kernel_rfl), ob_val fun g w => by kernel_rfl, ob_val fun g w => by kernel_rfl, ob_val fun g w => by kernel_rfl, ob_v (v := fun g => pV b19 q) (fun g => o_idx (b := b19) (cap := c14) (e := 9) (off := 0) (n := ((hrem T0 key).map (·.1)).length) (kd := .i64) (q := (q : Int)) (i := q) (size := 1) (j := q) (by kernel_rfl) (by kernel_rfl) (by rfl) (by omega) Try.underlying47 (by kernel_rfl) (by omega)) (fun g => by kernel_rfl), ob_s (l := fun g => [rowR 9 1 (.slice (some ⟨b19, 0, none⟩) (((hrem T0 key).map (·.1)).length) c14) (((hrem T0 key).map (·.1)).length) (((hrem T0 key).map (·.1)).map Value.string)]) (l' := fun g => [rowR 9 1 (.slice (some ⟨b19, 0, none⟩) (((hrem T0 key).map (·.1)).length) c14) (((hrem T0 key).map (·.1)).length) (((hrem T0 key).map (·.1)).map Value.string)]) (v := fun g => sV (((hrem T0 key).map (·.1)).getD q ⟨#[]⟩)) (fun g => o_loadRow (i := q) (u := sV (((hrem T0 key).map (·.1)).getD q ⟨#[]⟩)) (by kernel_rfl) (by omega) (by kernel_rfl) (get_map (by omega))) (fun g => by kernel_rfl), ob_val fun g w => by kernel_rfl, ob_val fun g w => by kernel_rfl, ob_v (v := fun g => pV b17 j) (fun g => o_idx (b := b17) (cap := c9) (e := 9) (off := 0) (n := (T0.map (·.1)).length) (kd := .i64) (q := (j : Int)) (i := j) (size := 1) (j := j) (by kernel_rfl) (by kernel_rfl) (by rfl) (by omega) Try.underlying47 (by kernel_rfl) (by omega)) (fun g => by kernel_rfl), ob_s (l := fun g => [rowR 9 1 (.slice (some ⟨b17, 0, none⟩) ((T0.map (·.1)).length) c9) ((T0.map (·.1)).length) ((T0.map (·.1)).map Value.string)]) (l' := fun g => [rowR 9 1 (.slice (some ⟨b17, 0, none⟩) ((T0.map (·.1)).length) c9) ((T0.map (·.1)).length) ((T0.map (·.1)).map Value.string)]) (v := fun g => sV ((T0.map (·.1)).getD j ⟨#[]⟩)) (fun g => o_loadRow (i := j) (u := sV ((T0.map (·.1)).getD j ⟨#[]⟩)) (by kernel_rfl) (by omega) (by kernel_rfl) (get_map (by omega))) (fun g => by kernel_rfl), ob_v (v := fun g => bV false) (fun g => OprV.re (o_neS (a := ((hrem T0 key).map (·.1)).getD q ⟨#[]⟩) (b := (T0.map (·.1)).getD j ⟨#[]⟩) (by kernel_rfl) (by kernel_rfl)) (vF (fun z => z hq2))) (fun g => by kernel_rfl), ob_val fun g w => by kernel_rfl, trivial⟩
          intro g
          refine Ex'.sub (subB_spec [1, 5, 7, 10, 12, 11, 85]) ?_
          refine Ex'.as [0, 1, 2, 3, 4] (σ' := [(1, sV key), (5, pV b2 0), (7, .slice (some ⟨b17, 0, none⟩) ((T0.map (·.1)).length) c9), (10, .slice (some ⟨b19, 0, none⟩) (((hrem T0 key).map (·.1)).length) c14), (12, iV (j : Int)), (11, iV (q : Int)), (85, bV false)]) (Γ' := [oldR w0, hpS b2 (hrem T0 key) n0, rowR 9 1 (.slice (some ⟨b17, 0, none⟩) ((T0.map (·.1)).length) c9) ((T0.map (·.1)).length) ((T0.map (·.1)).map Value.string), blkR b10 [iV (((lk T0 key).getD (0, 0)).1), iV (((lk T0 key).getD (0, 0)).2)] 28, rowR 9 1 (.slice (some ⟨b19, 0, none⟩) (((hrem T0 key).map (·.1)).length) c14) (((hrem T0 key).map (·.1)).length) (((hrem T0 key).map (·.1)).map Value.string)]) (by kernel_rfl) rfl (by kernel_rfl) (by kernel_rfl) ?_
          refine Ex'.next ?_
          refine Cd.condF (by kernel_rfl) ?_
          refine Cd.skip ?_
          refine Ex'.next ?_
          refine Cd.region rfl ?_
          refine Sq.vals [0] (rest := [1, 2]) [iV (q : Int)] (fun w => by kernel_rfl) ?_
          refine Sq.v (r := iV ((q : Int) + 1)) (o_add (k := .i64) (a := (q : Int)) (b := 1) (c := (q : Int) + 1) (by kernel_rfl) (by kernel_rfl) (w64 rfl (by omega))) rfl (by kernel_rfl) ?_
          refine Sq.vals [2] (rest := []) [iV ((q : Int) + 1)] (fun w => by kernel_rfl) ?_
          refine Sq.done ?_
          refine Ex'.blockNormal ?_
          refine Ex'.next ?_
          refine Cd.region rfl ?_
          refine Sq.vals [0] (rest := [1, 2]) [iV (j : Int)] (fun w => by kernel_rfl) ?_
          refine Sq.v (r := iV ((j : Int) + 1)) (o_add (k := .i64) (a := (j : Int)) (b := 1) (c := (j : Int) + 1) (by kernel_rfl) (by kernel_rfl) (w64 rfl (by omega))) rfl (by kernel_rfl) ?_
          refine Sq.vals [2] (rest := []) [iV ((j : Int) + 1)] (fun w => by kernel_rfl) ?_
          refine Sq.done ?_
          refine Ex'.round (g := (j, q)) (j + 1, q + 1) ?_ ?_ (subB_eq (l := [1, 5, 7, 10, 12, 11]) (by kernel_rfl)) (fun w hw => hw.pickB [0, 1, 2, 3, 4] (by kernel_rfl) (by kernel_rfl) (by kernel_rfl))
          · (try dsimp only); exact ⟨by omega, hq3⟩
          · omega
      ·
        have hqf : q = ((hrem T0 key).map (·.1)).length := by rw [hrk, hqj, List.take_of_length_le (by omega)]
        have hqg : (hrem T0 key).length = q := by rw [hqf, List.length_map]
        refine Cd.exit ?_
        refine Ex'.thenExit ?_
        refine Ex'.thenExit ?_
        refine Ex'.blockHit ?_
        refine Ex'.next ?_
        refine Cd.seq ?_
        refine Cd.region rfl ?_
        refine Sq.vals [0, 1, 2] (rest := [3, 4, 5, 6, 7, 8, 9, 10]) [iV (q : Int), .slice a13 (((hrem T0 key).map (·.1)).length) c14, iV (((hrem T0 key).map (·.1)).length : Int)] (fun w => by kernel_rfl) ?_
        refine Sq.v (r := bV (decide ((q : Int) = (((hrem T0 key).map (·.1)).length : Int)))) (o_eqI (k := .i64) (a := (q : Int)) (b := (((hrem T0 key).map (·.1)).length : Int)) (by kernel_rfl) (by kernel_rfl)) rfl (by kernel_rfl) ?_
        refine Sq.re 91 rfl (vT (by omega)) ?_
        refine Sq.vals [4, 5] (rest := [6, 7, 8, 9, 10]) [bV true, pV b2 0] (fun w => by kernel_rfl) ?_
        refine Sq.same [1] (l := [hpS b2 (hrem T0 key) n0]) (o_call (by kernel_rfl) Try.call23 (hp_LenS (S := hrem T0 key) (n := n0) (by omega))) (by kernel_rfl) rfl (by kernel_rfl) rfl ?_
        refine Sq.vals [7] (rest := [8, 9, 10]) [iV (q : Int)] (fun w => by kernel_rfl) ?_
        refine Sq.v (r := bV (decide (((hrem T0 key).length : Int) = (q : Int)))) (o_eqI (k := .i64) (a := ((hrem T0 key).length : Int)) (b := (q : Int)) (by kernel_rfl) (by kernel_rfl)) rfl (by kernel_rfl) ?_
        refine Sq.re 96 rfl (vT (by omega)) ?_
        refine Sq.vals [9, 10] (rest := []) [bV true, bV true] (fun w => by kernel_rfl) ?_
        refine Sq.done ?_
        refine Ex'.next ?_
        refine Cd.ret ?_
        refine Ex'.ret Try.results6 (RVs.tmp (v := bV true) (by kernel_rfl) (RVs.nil)) (fun w hw => ?_)
        exact ⟨_, ⟨rfl, by kernel_rfl⟩, hw⟩

theorem heapRemoves_walk (v : Value) (ys : List HAct) (key : ByteArray) (w : World) (h : Cells w (fun k => k < w.heap.size) v ys.length 4 (ys.flatMap HAct.cells)) (hk : key.size ≤ maxLen) :
    Calls Try.prog 6 #[v, .string key] w fun e w' => e = .returned (.bool true) ∧ Below w.heap.size w w' := by
  obtain ⟨a, cap, rfl, hl⟩ := RecsIn.shape (hscr_of h)
  exact law_of (heapRemoves_tri hl (hscr_of h))

end Go.Proofs.Ytnnjccfcalgokaa
