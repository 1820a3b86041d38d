/- HeapTies: its walk. -/
import Derived.Test.YtnnjccfcalgokaaHpX
import Derived.Test.YtnnjccfcalgokaaHpO
import Derived.Test.YtnnjccfcalgokaaActsH
import Derived.Test.YtnnjccfcalgokaaHpAwake
set_option linter.unusedVariables false
namespace Go.Proofs.Ytnnjccfcalgokaa
open Go.RowKit Go.MapKept

set_option maxHeartbeats 8000000 in
set_option maxRecDepth 100000 in
theorem heapTies_tri {w0 : World} {a : Option Addr} {cap : Nat} {xs : List ByteArray} {again : ByteArray} {r1 r2 : Int} (hl : xs.length ≤ cap ∧ cap ≤ 9223372036854775807) (hs : KeysIn w0 (.slice a xs.length cap) xs) : Tri Try.prog 5 #[.slice a xs.length cap, sV again, .agg #[iV r1, iV r2]] [oldR w0] (LawP w0) := by
  refine Tri.enter (args := [.slice a xs.length cap, sV again, .agg #[iV r1, iV r2]]) Try.func5 rfl rfl rfl (fun B wz => ?_)
  refine Cd.seq ?_
  refine Cd.region rfl ?_
  refine Sq.ex [] (l := []) (o_newBox (v := .agg #[iV r1, iV r2]) [iV r1, iV r2] (by kernel_rfl) rfl) (by kernel_rfl) rfl (by kernel_rfl) (fun _ => Nat.zero_le _) ?_; intro b1 _
  refine Sq.vals [1] (rest := []) [bV false] (fun w => by kernel_rfl) ?_
  refine Sq.done ?_
  refine Ex'.next ?_
  refine Cd.seq ?_
  refine Cd.seq ?_
  refine Cd.region rfl ?_
  refine Sq.same [] (l := []) (o_call (by kernel_rfl) Try.call13 (heap_awake)) (by kernel_rfl) rfl (by kernel_rfl) rfl ?_
  refine Sq.vals [1] (rest := []) [bV false] (fun w => by kernel_rfl) ?_
  refine Sq.done ?_
  refine Ex'.next ?_
  refine Cd.condF (by kernel_rfl) ?_
  refine Cd.skip ?_
  refine Ex'.next ?_
  refine Cd.seq ?_
  refine Cd.seq ?_
  refine Cd.region rfl ?_
  refine Sq.vals [0, 1, 2] (rest := []) [.slice a xs.length cap, iV (xs.length : Int), bV (decide ((xs.length : Int) > 100))] (fun w => by kernel_rfl) ?_
  refine Sq.done ?_
  refine Ex'.next ?_
  refine Cd.case (p := (xs.length : Int) > 100) (by kernel_rfl) (fun h2 => ?_) (fun h2 => ?_)
  ·
    refine Cd.seq ?_
    refine Cd.region rfl ?_
    refine Sq.vals [0] (rest := []) [bV true] (fun w => by kernel_rfl) ?_
    refine Sq.done ?_
    refine Ex'.next ?_
    refine Cd.ret ?_
    refine Ex'.thenRet ?_
    refine Ex'.ret Try.results5 (RVs.tmp (v := bV true) (by kernel_rfl) (RVs.nil)) (fun w hw => ?_)
    exact ⟨_, ⟨rfl, by kernel_rfl⟩, hw⟩
  ·
    refine Cd.skip ?_
    refine Ex'.next ?_
    refine Cd.seq ?_
    refine Cd.region rfl ?_
    refine Sq.ex [] (l := []) (o_call (by kernel_rfl) Try.call14 (hp_NewS)) (by kernel_rfl) rfl (by kernel_rfl) (fun _ => Nat.le_of_ble_eq_true (by kernel_rfl)) ?_; rintro b3 _
    refine Sq.vals [1] (rest := []) [pV b3 0] (fun w => by kernel_rfl) ?_
    refine Sq.done ?_
    refine Ex'.next ?_
    refine Cd.seq ?_
    refine Cd.seq ?_
    refine Cd.region rfl ?_
    refine Sq.vals [0, 1] (rest := []) [pV b3 0, bV false] (fun w => by kernel_rfl) ?_
    refine Sq.done ?_
    refine Ex'.next ?_
    refine Cd.condF (by kernel_rfl) ?_
    refine Cd.skip ?_
    refine Ex'.next ?_
    refine Cd.seq ?_
    refine Cd.region rfl ?_
    refine Sq.vals [0] (rest := []) [.slice none 0 0] (fun w => by kernel_rfl) ?_
    refine Sq.done ?_
    refine Ex'.next ?_
    refine Cd.seq ?_
    refine Cd.region rfl ?_
    refine Sq.ex [] (l := []) (o_newMap Value.string Value.bool) (by kernel_rfl) rfl (by kernel_rfl) (fun _ => Nat.zero_le _) ?_; intro b4 _
    refine Sq.vals [1] (rest := []) [.map (some b4)] (fun w => by kernel_rfl) ?_
    refine Sq.done ?_
    refine Ex'.next ?_
    refine Cd.seq ?_
    refine Cd.seq ?_
    refine Cd.region rfl ?_
    refine Sq.vals [0] (rest := []) [iV 0] (fun w => by kernel_rfl) ?_
    refine Sq.done ?_
    refine Ex'.next ?_
    refine Cd.block ?_
    refine Cd.nilRow 9 1 ?_
    refine Cd.loop (ι := Nat × (List (KR ByteArray)) × Nat × (List (ByteArray × Bool)) × Value × (List ByteArray)) (fun ⟨k, T0, n0, sn, rv, wt⟩ => k ≤ xs.length ∧ Tied (r1, r2) again T0 wt sn ∧ n0 ≤ k * 2 ∧ wt.length ≤ k) (fun ⟨k, T0, n0, sn, rv, wt⟩ => xs.length - k) (fun ⟨k, T0, n0, sn, rv, wt⟩ => [(0, .slice a xs.length cap), (1, sV again), (5, pV b1 0), (6, bV false), (7, pV b3 0), (9, .map (some b4)), (10, iV (k : Int)), (8, rv)]) (fun ⟨k, T0, n0, sn, rv, wt⟩ => [oldR w0, blkR b1 [iV r1, iV r2] 28, hpS b3 T0 n0, mapR Value.string Value.bool b4 sn, rowR 9 1 rv wt.length (wt.map Value.string)]) (0, [], 0, [], .slice none 0 0, ([] : List ByteArray)) (⟨Nat.zero_le _, Tied.new, Nat.le_refl _, Nat.le_refl _⟩) (subB_eq (l := [0, 1, 5, 6, 7, 9, 10, 8]) (by kernel_rfl)) (fun w hw => hw.pickB [0, 1, 2, 3, 4] (by kernel_rfl) (by kernel_rfl) (by kernel_rfl)) ?_
    rintro ⟨k, T0, n0, sn, rv, wt⟩ hL5
    try dsimp only at hL5 ⊢
    obtain ⟨hk, hT, hn, hwl⟩ := hL5
    refine Cd.fact (i := 4) (R := rowR 9 1 rv wt.length (wt.map Value.string)) (by kernel_rfl) row_slice ?_; rintro ⟨a6, c7, rfl, hc7, hc7'⟩
    have hc7'' : c7 ≤ 9223372036854775807 := hc7'
    refine Cd.seq ?_
    refine Cd.seq ?_
    refine Cd.region rfl ?_
    refine Sq.vals [0, 1, 2, 3] (rest := []) [iV (k : Int), .slice a xs.length cap, iV (xs.length : Int), bV (decide ((k : Int) < (xs.length : Int)))] (fun w => by kernel_rfl) ?_
    refine Sq.done ?_
    refine Ex'.next ?_
    refine Cd.case (p := (k : Int) < (xs.length : Int)) (by kernel_rfl) (fun h8 => ?_) (fun h8 => ?_)
    ·
      obtain ⟨g9, off10, rfl⟩ := hs.addr (by omega)
      obtain ⟨kyk, hgk, hwk, hrk⟩ := hs.at (k := k) (by omega)
      refine Cd.skip ?_
      refine Ex'.next ?_
      refine Cd.seq ?_
      refine Cd.block ?_
      refine Cd.seq ?_
      refine Cd.seq ?_
      refine Cd.region rfl ?_
      refine Sq.vals [0, 1, 2] (rest := [3, 4, 5, 6, 7, 8, 9, 10, 11, 12, 13, 14]) [.map (some b4), .slice (some ⟨g9, off10, none⟩) xs.length cap, iV (k : Int)] (fun w => by kernel_rfl) ?_
      refine Sq.v (r := pV g9 (off10 + k)) (o_idx (b := g9) (cap := cap) (e := 9) (off := off10) (n := xs.length) (kd := .i64) (q := (k : Int)) (i := k) (size := 1) (j := off10 + k) (by kernel_rfl) (by kernel_rfl) (by rfl) (by omega) Try.underlying47 (by kernel_rfl) (by omega)) rfl (by kernel_rfl) ?_
      refine Sq.same [0] (l := [oldR w0]) (o_loadOld (b := g9) (j := off10 + k) (u := sV kyk) (by kernel_rfl) (by kernel_rfl) (hrk 0 _ rfl)) (by kernel_rfl) rfl (by kernel_rfl) rfl ?_
      refine Sq.same [3] (l := [mapR Value.string Value.bool b4 sn]) (o_look (fv := Value.bool) (l := sn) false kyk (by kernel_rfl) (by kernel_rfl) (strKey Try.underlying9) Try.underlying51 (fun w => by kernel_rfl)) (by kernel_rfl) rfl (by kernel_rfl) rfl ?_
      refine Sq.vals [6, 7] (rest := [8, 9, 10, 11, 12, 13, 14]) [bV (!((lk sn kyk).getD false)), bV (!((lk sn kyk).getD false))] (fun w => by kernel_rfl) ?_
      refine Sq.caseB 35 (t := (!((lk sn kyk).getD false))) rfl (fun h11 => ?_) (fun h11 => ?_)
      ·
        refine Sq.vals [8, 9] (rest := [10, 11, 12, 13, 14]) [.slice (some ⟨g9, off10, none⟩) xs.length cap, iV (k : Int)] (fun w => by kernel_rfl) ?_
        refine Sq.v (r := pV g9 (off10 + k)) (o_idx (b := g9) (cap := cap) (e := 9) (off := off10) (n := xs.length) (kd := .i64) (q := (k : Int)) (i := k) (size := 1) (j := off10 + k) (by kernel_rfl) (by kernel_rfl) (by rfl) (by omega) Try.underlying47 (by kernel_rfl) (by omega)) rfl (by kernel_rfl) ?_
        refine Sq.same [0] (l := [oldR w0]) (o_loadOld (b := g9) (j := off10 + k) (u := sV kyk) (by kernel_rfl) (by kernel_rfl) (hrk 0 _ rfl)) (by kernel_rfl) rfl (by kernel_rfl) rfl ?_
        refine Sq.vals [12] (rest := [13, 14]) [sV again] (fun w => by kernel_rfl) ?_
        refine Sq.v (r := bV (decide (kyk ≠ again))) (o_neS (a := kyk) (b := again) (by kernel_rfl) (by kernel_rfl)) rfl (by kernel_rfl) ?_
        refine Sq.vals [14] (rest := []) [bV (decide (kyk ≠ again))] (fun w => by kernel_rfl) ?_
        refine Sq.done ?_
        refine Ex'.next ?_
        refine Cd.case (p := kyk ≠ again) (by kernel_rfl) (fun h12 => ?_) (fun h12 => ?_)
        ·
          refine Cd.seq ?_
          refine Cd.plan [0, 0, 0, 6, 14, 0, 63] [(4, [(0, false, 0)]), (5, [(1, false, 0)]), (6, [(2, true, 0)])] [] [] [(2, 6, fun g => hpS b3 (hset T0 (kyk, r1, r2)) (n0 + 1))] [fun g => pV b3 0, fun g => .slice (some ⟨g9, off10, none⟩) xs.length cap, fun g => iV (k : Int), fun g => pV g9 (off10 + k), fun g => sV kyk, fun g => .agg #[iV r1, iV r2], fun g => .tuple #[]] (by kernel_rfl) (by kernel_rfl) rfl (trivial) ?_ ?_
          · exact ⟨ob_val fun g w => by kernel_rfl, ob_val fun g w => by kernel_rfl, ob_val fun g w => by kernel_rfl, ob_v (v := fun g => pV g9 (off10 + k)) (fun g => o_idx (b := g9) (cap := cap) (e := 9) (off := off10) (n := xs.length) (kd := .i64) (q := (k : Int)) (i := k) (size := 1) (j := off10 + k) (by kernel_rfl) (by kernel_rfl) (by rfl) (by omega) Try.underlying47 (by kernel_rfl) (by omega)) (fun g => by kernel_rfl), ob_s (l := fun g => [oldR w0]) (l' := fun g => [oldR w0]) (v := fun g => sV kyk) (fun g => o_loadOld (b := g9) (j := off10 + k) (u := sV kyk) (by kernel_rfl) (by kernel_rfl) (hrk 0 _ rfl)) (fun g => by kernel_rfl), ob_s (l := fun g => [blkR b1 [iV r1, iV r2] 28]) (l' := fun g => [blkR b1 [iV r1, iV r2] 28]) (v := fun g => .agg #[iV r1, iV r2]) (fun g => o_loadN (i := 0) [iV r1, iV r2] (by kernel_rfl) (by kernel_rfl) (by kernel_rfl)) (fun g => by kernel_rfl), ob_s (l := fun g => [hpS b3 T0 n0]) (l' := fun g => [hpS b3 (hset T0 (kyk, r1, r2)) (n0 + 1)]) (v := fun g => .tuple #[]) (fun g => o_call (by kernel_rfl) Try.call16 (hp_SetS (S := T0) (n := n0) kyk r1 r2 (by omega))) (fun g => by kernel_rfl), trivial⟩
          intro g
          refine Ex'.sub (subB_spec [0, 1, 5, 6, 7, 9, 10, 8]) ?_
          refine Ex'.as [0, 1, 2, 3, 4] (σ' := [(0, .slice (some ⟨g9, off10, none⟩) xs.length cap), (1, sV again), (5, pV b1 0), (6, bV false), (7, pV b3 0), (9, .map (some b4)), (10, iV (k : Int)), (8, .slice a6 wt.length c7)]) (Γ' := [oldR w0, blkR b1 [iV r1, iV r2] 28, hpS b3 (hset T0 (kyk, r1, r2)) (n0 + 1), mapR Value.string Value.bool b4 sn, rowR 9 1 (.slice a6 wt.length c7) wt.length (wt.map Value.string)]) (by kernel_rfl) rfl (by kernel_rfl) (by kernel_rfl) ?_
          refine Ex'.next ?_
          refine Cd.seq ?_
          refine Cd.region rfl ?_
          refine Sq.vals [0, 1, 2] (rest := [3, 4, 5, 6, 7]) [.slice a6 wt.length c7, .slice (some ⟨g9, off10, none⟩) xs.length cap, iV (k : Int)] (fun w => by kernel_rfl) ?_
          refine Sq.v (r := pV g9 (off10 + k)) (o_idx (b := g9) (cap := cap) (e := 9) (off := off10) (n := xs.length) (kd := .i64) (q := (k : Int)) (i := k) (size := 1) (j := off10 + k) (by kernel_rfl) (by kernel_rfl) (by rfl) (by omega) Try.underlying47 (by kernel_rfl) (by omega)) rfl (by kernel_rfl) ?_
          refine Sq.same [0] (l := [oldR w0]) (o_loadOld (b := g9) (j := off10 + k) (u := sV kyk) (by kernel_rfl) (by kernel_rfl) (hrk 0 _ rfl)) (by kernel_rfl) rfl (by kernel_rfl) rfl ?_
          refine Sq.ex [] (l := []) (o_lit (sz := 1) (sV ⟨#[]⟩) [sV kyk] Try.underlying47 (by kernel_rfl) (by kernel_rfl) (by kernel_rfl) (by kernel_rfl) (by kernel_rfl)) (by kernel_rfl) rfl (by kernel_rfl) (fun _ => Nat.zero_le _) ?_; intro b13 _
          refine Sq.ex [4, 5] (l := [rowR 9 1 (.slice a6 wt.length c7) wt.length (wt.map Value.string), blkR b13 [sV kyk] 9]) (o_push (n' := (wt ++ [kyk]).length) (xs' := (wt ++ [kyk]).map Value.string) (by kernel_rfl) (by kernel_rfl) sl_str (by decide) rfl (by kernel_rfl) (by unfold maxLen; omega) (by omega) (by simp) (by simp)) (by kernel_rfl) rfl (by kernel_rfl) (fun _ => Nat.le_of_ble_eq_true (by kernel_rfl)) ?_; rintro v14 _
          refine Sq.fact (i := 4) (R := rowR 9 1 v14 ((wt ++ [kyk]).length) ((wt ++ [kyk]).map Value.string)) (by kernel_rfl) row_slice ?_; rintro ⟨a15, c16, rfl, hc16, hc16'⟩
          have hc16'' : c16 ≤ 9223372036854775807 := hc16'
          have hlen17 : (wt ++ [kyk]).length = wt.length + 1 := by simp
          refine Sq.fact (i := 4) (R := rowR 9 1 (.slice a15 ((wt ++ [kyk]).length) c16) ((wt ++ [kyk]).length) ((wt ++ [kyk]).map Value.string)) (by kernel_rfl) (row_addr (by simp)) ?_; rintro ⟨b18, rfl⟩
          refine Sq.vals [7] (rest := []) [.slice (some ⟨b18, 0, none⟩) ((wt ++ [kyk]).length) c16] (fun w => by kernel_rfl) ?_
          refine Sq.done ?_
          refine Ex'.next ?_
          refine Cd.region rfl ?_
          refine Sq.vals [0, 1, 2] (rest := [3, 4, 5]) [.map (some b4), .slice (some ⟨g9, off10, none⟩) xs.length cap, iV (k : Int)] (fun w => by kernel_rfl) ?_
          refine Sq.v (r := pV g9 (off10 + k)) (o_idx (b := g9) (cap := cap) (e := 9) (off := off10) (n := xs.length) (kd := .i64) (q := (k : Int)) (i := k) (size := 1) (j := off10 + k) (by kernel_rfl) (by kernel_rfl) (by rfl) (by omega) Try.underlying47 (by kernel_rfl) (by omega)) rfl (by kernel_rfl) ?_
          refine Sq.same [0] (l := [oldR w0]) (o_loadOld (b := g9) (j := off10 + k) (u := sV kyk) (by kernel_rfl) (by kernel_rfl) (hrk 0 _ rfl)) (by kernel_rfl) rfl (by kernel_rfl) rfl ?_
          refine Sq.same [3] (l := [mapR Value.string Value.bool b4 sn]) (o_mapUpdate kyk true (by kernel_rfl) (by kernel_rfl) (by kernel_rfl) (strKey Try.underlying9) Try.underlying51) (by kernel_rfl) rfl (by kernel_rfl) rfl ?_
          refine Sq.done ?_
          refine Ex'.next ?_
          refine Cd.seq ?_
          refine Cd.region rfl ?_
          refine Sq.vals [0] (rest := [1]) [iV (k : Int)] (fun w => by kernel_rfl) ?_
          refine Sq.v (r := bV (decide ((k : Int) = 0))) (o_eqI (k := .i64) (a := (k : Int)) (b := 0) (by kernel_rfl) (by kernel_rfl)) rfl (by kernel_rfl) ?_
          refine Sq.done ?_
          refine Ex'.next ?_
          refine Cd.case (p := (k : Int) = 0) (by kernel_rfl) (fun h19 => ?_) (fun h19 => ?_)
          ·
            refine Cd.region rfl ?_
            refine Sq.vals [0, 1] (rest := [2, 3]) [pV b3 0, sV again] (fun w => by kernel_rfl) ?_
            refine Sq.same [1] (l := [blkR b1 [iV r1, iV r2] 28]) (o_loadN (i := 0) [iV r1, iV r2] (by kernel_rfl) (by kernel_rfl) (by kernel_rfl)) (by kernel_rfl) rfl (by kernel_rfl) rfl ?_
            refine Sq.same [2] (l := [hpS b3 (hset T0 (kyk, r1, r2)) (n0 + 1)]) (o_call (by kernel_rfl) Try.call16 (hp_SetS (S := hset T0 (kyk, r1, r2)) (n := n0 + 1) again r1 r2 (by omega))) (by kernel_rfl) rfl (by kernel_rfl) rfl ?_
            refine Sq.done ?_
            refine Ex'.blockNormal ?_
            refine Ex'.next ?_
            refine Cd.region rfl ?_
            refine Sq.vals [0] (rest := [1, 2]) [iV (k : Int)] (fun w => by kernel_rfl) ?_
            refine Sq.v (r := iV ((k : Int) + 1)) (o_add (k := .i64) (a := (k : Int)) (b := 1) (c := (k : Int) + 1) (by kernel_rfl) (by kernel_rfl) (w64 rfl (by omega))) rfl (by kernel_rfl) ?_
            refine Sq.vals [2] (rest := []) [iV ((k : Int) + 1)] (fun w => by kernel_rfl) ?_
            refine Sq.done ?_
            refine Ex'.round (g := (k, T0, n0, sn, .slice a6 wt.length c7, wt)) (k + 1, hset (hset T0 (kyk, r1, r2)) (again, r1, r2), n0 + 2, put sn kyk true, .slice (some ⟨b18, 0, none⟩) ((wt ++ [kyk]).length) c16, wt ++ [kyk]) ?_ ?_ (subB_eq (l := [0, 1, 5, 6, 7, 9, 10, 8]) (by kernel_rfl)) (fun w hw => hw.pickB [0, 1, 2, 3, 4] (by kernel_rfl) (by kernel_rfl) (by kernel_rfl))
            · (try dsimp only); exact ⟨by omega, ((hT.step (by simpa using h11) h12).again), by omega, by first | omega | (simp only [List.length_append, List.length_singleton]; omega)⟩
            · omega
          ·
            refine Cd.skip ?_
            refine Ex'.blockNormal ?_
            refine Ex'.next ?_
            refine Cd.region rfl ?_
            refine Sq.vals [0] (rest := [1, 2]) [iV (k : Int)] (fun w => by kernel_rfl) ?_
            refine Sq.v (r := iV ((k : Int) + 1)) (o_add (k := .i64) (a := (k : Int)) (b := 1) (c := (k : Int) + 1) (by kernel_rfl) (by kernel_rfl) (w64 rfl (by omega))) rfl (by kernel_rfl) ?_
            refine Sq.vals [2] (rest := []) [iV ((k : Int) + 1)] (fun w => by kernel_rfl) ?_
            refine Sq.done ?_
            refine Ex'.round (g := (k, T0, n0, sn, .slice a6 wt.length c7, wt)) (k + 1, hset T0 (kyk, r1, r2), n0 + 1, put sn kyk true, .slice (some ⟨b18, 0, none⟩) ((wt ++ [kyk]).length) c16, wt ++ [kyk]) ?_ ?_ (subB_eq (l := [0, 1, 5, 6, 7, 9, 10, 8]) (by kernel_rfl)) (fun w hw => hw.pickB [0, 1, 2, 3, 4] (by kernel_rfl) (by kernel_rfl) (by kernel_rfl))
            · (try dsimp only); exact ⟨by omega, (hT.step (by simpa using h11) h12), by omega, by first | omega | (simp only [List.length_append, List.length_singleton]; omega)⟩
            · omega
        ·
          refine Cd.skip ?_
          refine Ex'.next ?_
          refine Cd.seq ?_
          refine Cd.region rfl ?_
          refine Sq.vals [0] (rest := [1]) [iV (k : Int)] (fun w => by kernel_rfl) ?_
          refine Sq.v (r := bV (decide ((k : Int) = 0))) (o_eqI (k := .i64) (a := (k : Int)) (b := 0) (by kernel_rfl) (by kernel_rfl)) rfl (by kernel_rfl) ?_
          refine Sq.done ?_
          refine Ex'.next ?_
          refine Cd.case (p := (k : Int) = 0) (by kernel_rfl) (fun h20 => ?_) (fun h20 => ?_)
          ·
            refine Cd.region rfl ?_
            refine Sq.vals [0, 1] (rest := [2, 3]) [pV b3 0, sV again] (fun w => by kernel_rfl) ?_
            refine Sq.same [1] (l := [blkR b1 [iV r1, iV r2] 28]) (o_loadN (i := 0) [iV r1, iV r2] (by kernel_rfl) (by kernel_rfl) (by kernel_rfl)) (by kernel_rfl) rfl (by kernel_rfl) rfl ?_
            refine Sq.same [2] (l := [hpS b3 T0 n0]) (o_call (by kernel_rfl) Try.call16 (hp_SetS (S := T0) (n := n0) again r1 r2 (by omega))) (by kernel_rfl) rfl (by kernel_rfl) rfl ?_
            refine Sq.done ?_
            refine Ex'.blockNormal ?_
            refine Ex'.next ?_
            refine Cd.region rfl ?_
            refine Sq.vals [0] (rest := [1, 2]) [iV (k : Int)] (fun w => by kernel_rfl) ?_
            refine Sq.v (r := iV ((k : Int) + 1)) (o_add (k := .i64) (a := (k : Int)) (b := 1) (c := (k : Int) + 1) (by kernel_rfl) (by kernel_rfl) (w64 rfl (by omega))) rfl (by kernel_rfl) ?_
            refine Sq.vals [2] (rest := []) [iV ((k : Int) + 1)] (fun w => by kernel_rfl) ?_
            refine Sq.done ?_
            refine Ex'.round (g := (k, T0, n0, sn, .slice a6 wt.length c7, wt)) (k + 1, hset T0 (again, r1, r2), n0 + 1, sn, .slice a6 wt.length c7, wt) ?_ ?_ (subB_eq (l := [0, 1, 5, 6, 7, 9, 10, 8]) (by kernel_rfl)) (fun w hw => hw.pickB [0, 1, 2, 3, 4] (by kernel_rfl) (by kernel_rfl) (by kernel_rfl))
            · (try dsimp only); exact ⟨by omega, (hT.again), by omega, by first | omega | (simp only [List.length_append, List.length_singleton]; omega)⟩
            · omega
          ·
            refine Cd.skip ?_
            refine Ex'.blockNormal ?_
            refine Ex'.next ?_
            refine Cd.region rfl ?_
            refine Sq.vals [0] (rest := [1, 2]) [iV (k : Int)] (fun w => by kernel_rfl) ?_
            refine Sq.v (r := iV ((k : Int) + 1)) (o_add (k := .i64) (a := (k : Int)) (b := 1) (c := (k : Int) + 1) (by kernel_rfl) (by kernel_rfl) (w64 rfl (by omega))) rfl (by kernel_rfl) ?_
            refine Sq.vals [2] (rest := []) [iV ((k : Int) + 1)] (fun w => by kernel_rfl) ?_
            refine Sq.done ?_
            refine Ex'.round (g := (k, T0, n0, sn, .slice a6 wt.length c7, wt)) (k + 1, T0, n0, sn, .slice a6 wt.length c7, wt) ?_ ?_ (subB_eq (l := [0, 1, 5, 6, 7, 9, 10, 8]) (by kernel_rfl)) (fun w hw => hw.pickB [0, 1, 2, 3, 4] (by kernel_rfl) (by kernel_rfl) (by kernel_rfl))
            · (try dsimp only); exact ⟨by omega, hT, by omega, by first | omega | (simp only [List.length_append, List.length_singleton]; omega)⟩
            · omega
      ·
        refine Sq.vals [8, 9, 10, 11, 12, 13, 14] (rest := []) [undef, undef, undef, undef, undef, undef, bV false] (fun w => by kernel_rfl) ?_
        refine Sq.done ?_
        refine Ex'.next ?_
        refine Cd.condF (by kernel_rfl) ?_
        refine Cd.skip ?_
        refine Ex'.next ?_
        refine Cd.seq ?_
        refine Cd.region rfl ?_
        refine Sq.vals [0] (rest := [1]) [iV (k : Int)] (fun w => by kernel_rfl) ?_
        refine Sq.v (r := bV (decide ((k : Int) = 0))) (o_eqI (k := .i64) (a := (k : Int)) (b := 0) (by kernel_rfl) (by kernel_rfl)) rfl (by kernel_rfl) ?_
        refine Sq.done ?_
        refine Ex'.next ?_
        refine Cd.case (p := (k : Int) = 0) (by kernel_rfl) (fun h21 => ?_) (fun h21 => ?_)
        ·
          refine Cd.region rfl ?_
          refine Sq.vals [0, 1] (rest := [2, 3]) [pV b3 0, sV again] (fun w => by kernel_rfl) ?_
          refine Sq.same [1] (l := [blkR b1 [iV r1, iV r2] 28]) (o_loadN (i := 0) [iV r1, iV r2] (by kernel_rfl) (by kernel_rfl) (by kernel_rfl)) (by kernel_rfl) rfl (by kernel_rfl) rfl ?_
          refine Sq.same [2] (l := [hpS b3 T0 n0]) (o_call (by kernel_rfl) Try.call16 (hp_SetS (S := T0) (n := n0) again r1 r2 (by omega))) (by kernel_rfl) rfl (by kernel_rfl) rfl ?_
          refine Sq.done ?_
          refine Ex'.blockNormal ?_
          refine Ex'.next ?_
          refine Cd.region rfl ?_
          refine Sq.vals [0] (rest := [1, 2]) [iV (k : Int)] (fun w => by kernel_rfl) ?_
          refine Sq.v (r := iV ((k : Int) + 1)) (o_add (k := .i64) (a := (k : Int)) (b := 1) (c := (k : Int) + 1) (by kernel_rfl) (by kernel_rfl) (w64 rfl (by omega))) rfl (by kernel_rfl) ?_
          refine Sq.vals [2] (rest := []) [iV ((k : Int) + 1)] (fun w => by kernel_rfl) ?_
          refine Sq.done ?_
          refine Ex'.round (g := (k, T0, n0, sn, .slice a6 wt.length c7, wt)) (k + 1, hset T0 (again, r1, r2), n0 + 1, sn, .slice a6 wt.length c7, wt) ?_ ?_ (subB_eq (l := [0, 1, 5, 6, 7, 9, 10, 8]) (by kernel_rfl)) (fun w hw => hw.pickB [0, 1, 2, 3, 4] (by kernel_rfl) (by kernel_rfl) (by kernel_rfl))
          · (try dsimp only); exact ⟨by omega, (hT.again), by omega, by first | omega | (simp only [List.length_append, List.length_singleton]; omega)⟩
          · omega
        ·
          refine Cd.skip ?_
          refine Ex'.blockNormal ?_
          refine Ex'.next ?_
          refine Cd.region rfl ?_
          refine Sq.vals [0] (rest := [1, 2]) [iV (k : Int)] (fun w => by kernel_rfl) ?_
          refine Sq.v (r := iV ((k : Int) + 1)) (o_add (k := .i64) (a := (k : Int)) (b := 1) (c := (k : Int) + 1) (by kernel_rfl) (by kernel_rfl) (w64 rfl (by omega))) rfl (by kernel_rfl) ?_
          refine Sq.vals [2] (rest := []) [iV ((k : Int) + 1)] (fun w => by kernel_rfl) ?_
          refine Sq.done ?_
          refine Ex'.round (g := (k, T0, n0, sn, .slice a6 wt.length c7, wt)) (k + 1, T0, n0, sn, .slice a6 wt.length c7, wt) ?_ ?_ (subB_eq (l := [0, 1, 5, 6, 7, 9, 10, 8]) (by kernel_rfl)) (fun w hw => hw.pickB [0, 1, 2, 3, 4] (by kernel_rfl) (by kernel_rfl) (by kernel_rfl))
          · (try dsimp only); exact ⟨by omega, hT, by omega, by first | omega | (simp only [List.length_append, List.length_singleton]; omega)⟩
          · omega
    ·
      have hfin : (hset T0 (again, r1, r2)).map (·.1) = wt ++ [again] := hT.fin
      have hq := congrArg List.length hfin
      refine Cd.exit ?_
      refine Ex'.thenExit ?_
      refine Ex'.thenExit ?_
      refine Ex'.blockHit ?_
      refine Ex'.next ?_
      refine Cd.seq ?_
      refine Cd.region rfl ?_
      refine Sq.vals [0, 1] (rest := [2, 3]) [pV b3 0, sV again] (fun w => by kernel_rfl) ?_
      refine Sq.same [1] (l := [blkR b1 [iV r1, iV r2] 28]) (o_loadN (i := 0) [iV r1, iV r2] (by kernel_rfl) (by kernel_rfl) (by kernel_rfl)) (by kernel_rfl) rfl (by kernel_rfl) rfl ?_
      refine Sq.same [2] (l := [hpS b3 T0 n0]) (o_call (by kernel_rfl) Try.call16 (hp_SetS (S := T0) (n := n0) again r1 r2 (by omega))) (by kernel_rfl) rfl (by kernel_rfl) rfl ?_
      refine Sq.done ?_
      refine Ex'.next ?_
      refine Cd.seq ?_
      refine Cd.region rfl ?_
      refine Sq.vals [0, 1] (rest := [2, 3, 4]) [.slice a6 wt.length c7, sV again] (fun w => by kernel_rfl) ?_
      refine Sq.ex [] (l := []) (o_lit (sz := 1) (sV ⟨#[]⟩) [sV again] Try.underlying47 (by kernel_rfl) (by kernel_rfl) (by kernel_rfl) (by kernel_rfl) (by kernel_rfl)) (by kernel_rfl) rfl (by kernel_rfl) (fun _ => Nat.zero_le _) ?_; intro b22 _
      refine Sq.ex [4, 5] (l := [rowR 9 1 (.slice a6 wt.length c7) wt.length (wt.map Value.string), blkR b22 [sV again] 9]) (o_push (n' := (wt ++ [again]).length) (xs' := (wt ++ [again]).map Value.string) (by kernel_rfl) (by kernel_rfl) sl_str (by decide) rfl (by kernel_rfl) (by unfold maxLen; omega) (by omega) (by simp) (by simp)) (by kernel_rfl) rfl (by kernel_rfl) (fun _ => Nat.le_of_ble_eq_true (by kernel_rfl)) ?_; rintro v23 _
      refine Sq.fact (i := 4) (R := rowR 9 1 v23 ((wt ++ [again]).length) ((wt ++ [again]).map Value.string)) (by kernel_rfl) row_slice ?_; rintro ⟨a24, c25, rfl, hc25, hc25'⟩
      have hc25'' : c25 ≤ 9223372036854775807 := hc25'
      have hlen26 : (wt ++ [again]).length = wt.length + 1 := by simp
      refine Sq.fact (i := 4) (R := rowR 9 1 (.slice a24 ((wt ++ [again]).length) c25) ((wt ++ [again]).length) ((wt ++ [again]).map Value.string)) (by kernel_rfl) (row_addr (by simp)) ?_; rintro ⟨b27, rfl⟩
      refine Sq.vals [4] (rest := []) [.slice (some ⟨b27, 0, none⟩) ((wt ++ [again]).length) c25] (fun w => by kernel_rfl) ?_
      refine Sq.done ?_
      refine Ex'.next ?_
      refine Cd.seq ?_
      refine Cd.region rfl ?_
      refine Sq.vals [0] (rest := [1, 2]) [pV b3 0] (fun w => by kernel_rfl) ?_
      refine Sq.ex [2] (l := [hpS b3 (hset T0 (again, r1, r2)) (n0 + 1)]) (o_call (by kernel_rfl) Try.call24 (hp_OrderS (S := hset T0 (again, r1, r2)) (n := n0 + 1) (by omega))) (by kernel_rfl) rfl (by kernel_rfl) (fun _ => Nat.le_of_ble_eq_true (by kernel_rfl)) ?_; rintro v28 _
      refine Sq.fact (i := 6) (R := rowR 9 1 v28 (((hset T0 (again, r1, r2)).map (·.1)).length) (((hset T0 (again, r1, r2)).map (·.1)).map Value.string)) (by kernel_rfl) row_slice ?_; rintro ⟨a29, c30, rfl, hc30, hc30'⟩
      have hc30'' : c30 ≤ 9223372036854775807 := hc30'
      refine Sq.vals [2] (rest := []) [.slice a29 (((hset T0 (again, r1, r2)).map (·.1)).length) c30] (fun w => by kernel_rfl) ?_
      refine Sq.done ?_
      refine Ex'.next ?_
      refine Cd.seq ?_
      refine Cd.seq ?_
      refine Cd.region rfl ?_
      refine Sq.vals [0, 1, 2, 3] (rest := [4]) [.slice a29 (((hset T0 (again, r1, r2)).map (·.1)).length) c30, iV (((hset T0 (again, r1, r2)).map (·.1)).length : Int), .slice (some ⟨b27, 0, none⟩) ((wt ++ [again]).length) c25, iV ((wt ++ [again]).length : Int)] (fun w => by kernel_rfl) ?_
      refine Sq.v (r := bV (decide ((((hset T0 (again, r1, r2)).map (·.1)).length : Int) ≠ ((wt ++ [again]).length : Int)))) (o_neI (k := .i64) (a := (((hset T0 (again, r1, r2)).map (·.1)).length : Int)) (b := ((wt ++ [again]).length : Int)) (by kernel_rfl) (by kernel_rfl)) rfl (by kernel_rfl) ?_
      refine Sq.re 82 rfl (vF (by omega)) ?_
      refine Sq.done ?_
      refine Ex'.next ?_
      refine Cd.condF (by kernel_rfl) ?_
      refine Cd.skip ?_
      refine Ex'.next ?_
      refine Cd.seq ?_
      refine Cd.seq ?_
      refine Cd.region rfl ?_
      refine Sq.vals [0] (rest := []) [iV 0] (fun w => by kernel_rfl) ?_
      refine Sq.done ?_
      refine Ex'.next ?_
      refine Cd.block ?_
      refine Cd.loop (ι := Nat) (fun j => j ≤ (wt ++ [again]).length) (fun j => (wt ++ [again]).length - j) (fun j => [(8, .slice (some ⟨b27, 0, none⟩) ((wt ++ [again]).length) c25), (11, .slice a29 (((hset T0 (again, r1, r2)).map (·.1)).length) c30), (12, iV (j : Int))]) (fun j => [oldR w0, blkR b1 [iV r1, iV r2] 28, hpS b3 (hset T0 (again, r1, r2)) (n0 + 1), mapR Value.string Value.bool b4 sn, rowR 9 1 (.slice (some ⟨b27, 0, none⟩) ((wt ++ [again]).length) c25) ((wt ++ [again]).length) ((wt ++ [again]).map Value.string), blkR b22 [sV again] 9, rowR 9 1 (.slice a29 (((hset T0 (again, r1, r2)).map (·.1)).length) c30) (((hset T0 (again, r1, r2)).map (·.1)).length) (((hset T0 (again, r1, r2)).map (·.1)).map Value.string)]) 0 (Nat.zero_le _) (subB_eq (l := [8, 11, 12]) (by kernel_rfl)) (fun w hw => hw.pickB [0, 1, 2, 3, 4, 5, 6] (by kernel_rfl) (by kernel_rfl) (by kernel_rfl)) ?_
      rintro j hL31
      try dsimp only at hL31 ⊢
      have hj := hL31
      refine Cd.seq ?_
      refine Cd.seq ?_
      refine Cd.region rfl ?_
      refine Sq.vals [0, 1, 2, 3] (rest := []) [iV (j : Int), .slice a29 (((hset T0 (again, r1, r2)).map (·.1)).length) c30, iV (((hset T0 (again, r1, r2)).map (·.1)).length : Int), bV (decide ((j : Int) < (((hset T0 (again, r1, r2)).map (·.1)).length : Int)))] (fun w => by kernel_rfl) ?_
      refine Sq.done ?_
      refine Ex'.next ?_
      refine Cd.case (p := (j : Int) < (((hset T0 (again, r1, r2)).map (·.1)).length : Int)) (by kernel_rfl) (fun h32 => ?_) (fun h32 => ?_)
      ·
        refine Cd.fact (i := 6) (R := rowR 9 1 (.slice a29 (((hset T0 (again, r1, r2)).map (·.1)).length) c30) (((hset T0 (again, r1, r2)).map (·.1)).length) (((hset T0 (again, r1, r2)).map (·.1)).map Value.string)) (by kernel_rfl) (row_addr (by omega)) ?_; rintro ⟨b33, rfl⟩
        refine Cd.skip ?_
        refine Ex'.next ?_
        refine Cd.seq ?_
        refine Cd.block ?_
        refine Cd.seq ?_
        refine Cd.plan [0, 0, 3, 7, 0, 0, 48, 112, 255] [(3, [(6, false, 0)]), (7, [(4, false, 0)])] [] [] [] [fun g => .slice (some ⟨b33, 0, none⟩) (((hset T0 (again, r1, r2)).map (·.1)).length) c30, fun g => iV (j : Int), fun g => pV b33 j, fun g => sV (((hset T0 (again, r1, r2)).map (·.1)).getD j ⟨#[]⟩), fun g => .slice (some ⟨b27, 0, none⟩) ((wt ++ [again]).length) c25, fun g => iV (j : Int), fun g => pV b27 j, fun g => sV ((wt ++ [again]).getD j ⟨#[]⟩), fun g => bV false] (by kernel_rfl) (by kernel_rfl) rfl (trivial) ?_ ?_
        · exact ⟨ob_val fun g w => by kernel_rfl, ob_val fun g w => by kernel_rfl, ob_v (v := fun g => pV b33 j) (fun g => o_idx (b := b33) (cap := c30) (e := 9) (off := 0) (n := ((hset T0 (again, r1, r2)).map (·.1)).length) (kd := .i64) (q := (j : Int)) (i := j) (size := 1) (j := j) (by kernel_rfl) (by kernel_rfl) (by rfl) (by omega) Try.underlying47 (by kernel_rfl) (by omega)) (fun g => by kernel_rfl), ob_s (l := fun g => [rowR 9 1 (.slice (some ⟨b33, 0, none⟩) (((hset T0 (again, r1, r2)).map (·.1)).length) c30) (((hset T0 (again, r1, r2)).map (·.1)).length) (((hset T0 (again, r1, r2)).map (·.1)).map Value.string)]) (l' := fun g => [rowR 9 1 (.slice (some ⟨b33, 0, none⟩) (((hset T0 (again, r1, r2)).map (·.1)).length) c30) (((hset T0 (again, r1, r2)).map (·.1)).length) (((hset T0 (again, r1, r2)).map (·.1)).map Value.string)]) (v := fun g => sV (((hset T0 (again, r1, r2)).map (·.1)).getD j ⟨#[]⟩)) (fun g => o_loadRow (i := j) (u := sV (((hset T0 (again, r1, r2)).map (·.1)).getD j ⟨#[]⟩)) (by kernel_rfl) (by omega) (by kernel_rfl) (get_map (by omega))) (fun g => by kernel_rfl), ob_val fun g w => by kernel_rfl, ob_val fun g w => by kernel_rfl, ob_v (v := fun g => pV b27 j) (fun g => o_idx (b := b27) (cap := c25) (e := 9) (off := 0) (n := (wt ++ [again]).length) (kd := .i64) (q := (j : Int)) (i := j) (size := 1) (j := j) (by kernel_rfl) (by kernel_rfl) (by rfl) (by omega) Try.underlying47 (by kernel_rfl) (by omega)) (fun g => by kernel_rfl), ob_s (l := fun g => [rowR 9 1 (.slice (some ⟨b27, 0, none⟩) ((wt ++ [again]).length) c25) ((wt ++ [again]).length) ((wt ++ [again]).map Value.string)]) (l' := fun g => [rowR 9 1 (.slice (some ⟨b27, 0, none⟩) ((wt ++ [again]).length) c25) ((wt ++ [again]).length) ((wt ++ [again]).map Value.string)]) (v := fun g => sV ((wt ++ [again]).getD j ⟨#[]⟩)) (fun g => o_loadRow (i := j) (u := sV ((wt ++ [again]).getD j ⟨#[]⟩)) (by kernel_rfl) (by omega) (by kernel_rfl) (get_map (by omega))) (fun g => by kernel_rfl), ob_v (v := fun g => bV false) (fun g => OprV.re (o_neS (a := ((hset T0 (again, r1, r2)).map (·.1)).getD j ⟨#[]⟩) (b := (wt ++ [again]).getD j ⟨#[]⟩) (by kernel_rfl) (by kernel_rfl)) (vF (fun z => z (by rw [hfin])))) (fun g => by kernel_rfl), trivial⟩
        intro g
        refine Ex'.sub (subB_spec [8, 11, 12, 97]) ?_
        refine Ex'.as [0, 1, 2, 3, 4, 5, 6] (σ' := [(8, .slice (some ⟨b27, 0, none⟩) ((wt ++ [again]).length) c25), (11, .slice (some ⟨b33, 0, none⟩) (((hset T0 (again, r1, r2)).map (·.1)).length) c30), (12, iV (j : Int)), (97, bV false)]) (Γ' := [oldR w0, blkR b1 [iV r1, iV r2] 28, hpS b3 (hset T0 (again, r1, r2)) (n0 + 1), mapR Value.string Value.bool b4 sn, rowR 9 1 (.slice (some ⟨b27, 0, none⟩) ((wt ++ [again]).length) c25) ((wt ++ [again]).length) ((wt ++ [again]).map Value.string), blkR b22 [sV again] 9, rowR 9 1 (.slice (some ⟨b33, 0, none⟩) (((hset T0 (again, r1, r2)).map (·.1)).length) c30) (((hset T0 (again, r1, r2)).map (·.1)).length) (((hset T0 (again, r1, r2)).map (·.1)).map Value.string)]) (by kernel_rfl) rfl (by kernel_rfl) (by kernel_rfl) ?_
        refine Ex'.next ?_
        refine Cd.condF (by kernel_rfl) ?_
        refine Cd.skip ?_
        refine Ex'.blockNormal ?_
        refine Ex'.next ?_
        refine Cd.region rfl ?_
        refine Sq.vals [0] (rest := [1, 2]) [iV (j : Int)] (fun w => by kernel_rfl) ?_
        refine Sq.v (r := iV ((j : Int) + 1)) (o_add (k := .i64) (a := (j : Int)) (b := 1) (c := (j : Int) + 1) (by kernel_rfl) (by kernel_rfl) (w64 rfl (by omega))) rfl (by kernel_rfl) ?_
        refine Sq.vals [2] (rest := []) [iV ((j : Int) + 1)] (fun w => by kernel_rfl) ?_
        refine Sq.done ?_
        refine Ex'.round (g := j) (j + 1) ?_ ?_ (subB_eq (l := [8, 11, 12]) (by kernel_rfl)) (fun w hw => hw.pickB [0, 1, 2, 3, 4, 5, 6] (by kernel_rfl) (by kernel_rfl) (by kernel_rfl))
        · (try dsimp only); exact (by omega : j + 1 ≤ (wt ++ [again]).length)
        · omega
      ·
        refine Cd.exit ?_
        refine Ex'.thenExit ?_
        refine Ex'.thenExit ?_
        refine Ex'.blockHit ?_
        refine Ex'.next ?_
        refine Cd.seq ?_
        refine Cd.region rfl ?_
        refine Sq.vals [0] (rest := []) [bV true] (fun w => by kernel_rfl) ?_
        refine Sq.done ?_
        refine Ex'.next ?_
        refine Cd.ret ?_
        refine Ex'.ret Try.results5 (RVs.tmp (v := bV true) (by kernel_rfl) (RVs.nil)) (fun w hw => ?_)
        exact ⟨_, ⟨rfl, by kernel_rfl⟩, hw⟩

theorem heapTies_walk (v : Value) (xs : List ByteArray) (again : ByteArray) (r1 r2 : Int) (w : World) (h : Strs w (fun k => k < w.heap.size) v xs) (hz : ∀ k ∈ xs, k.size ≤ maxLen) (hk : again.size ≤ maxLen) (h1 : (Lit.int .i64 r1).wf = true) (h2 : (Lit.int .i64 r2).wf = true) :
    Calls Try.prog 5 #[v, .string again, .agg #[.int .i64 r1, .int .i64 r2]] w fun e w' => e = .returned (.bool true) ∧ Below w.heap.size w w' := by
  obtain ⟨a, cap, rfl, hl⟩ := KeysIn.shape ⟨h, hz⟩
  exact law_of (heapTies_tri hl ⟨h, hz⟩)

end Go.Proofs.Ytnnjccfcalgokaa
