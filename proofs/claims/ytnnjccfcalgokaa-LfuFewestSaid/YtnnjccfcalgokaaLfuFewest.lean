/- LfuFewest: its walk. -/
import Derived.Test.YtnnjccfcalgokaaLfuPure
import Derived.Test.YtnnjccfcalgokaaActs
import Derived.Test.YtnnjccfcalgokaaSepH
import Derived.Test.YtnnjccfcalgokaaLfuAwake
set_option linter.unusedVariables false
namespace Go.Proofs.Ytnnjccfcalgokaa
open Go.RowKit Go.MapKept

set_option maxHeartbeats 8000000 in
set_option maxRecDepth 100000 in
theorem lfuFewest_tri {w0 : World} {m : Int} {ch : Bool} {a : Option Addr} {cap : Nat} {xs : List ByteArray} (hm : -9223372036854775808 ≤ m ∧ m ≤ 9223372036854775807) (hl : xs.length ≤ cap ∧ cap ≤ 9223372036854775807) (hs : KeysIn w0 (.slice a xs.length cap) xs) : Tri Try.prog 8 #[iV m, bV ch, .slice a xs.length cap] [oldR w0] (LawP w0) := by
  refine Tri.enter (args := [iV m, bV ch, .slice a xs.length cap]) Try.func8 rfl rfl rfl (fun B wz => ?_)
  refine Cd.seq ?_
  refine Cd.region rfl ?_
  refine Sq.vals [0] (rest := []) [bV false] (fun w => by kernel_rfl) ?_
  refine Sq.done ?_
  refine Ex'.next ?_
  refine Cd.seq ?_
  refine Cd.seq ?_
  refine Cd.region rfl ?_
  refine Sq.same [] (l := []) (o_call (by kernel_rfl) Try.call29 (lfu_awake)) (by kernel_rfl) rfl (by kernel_rfl) rfl ?_
  refine Sq.vals [1] (rest := []) [bV false] (fun w => by kernel_rfl) ?_
  refine Sq.done ?_
  refine Ex'.next ?_
  refine Cd.condF (by kernel_rfl) ?_
  refine Cd.skip ?_
  refine Ex'.next ?_
  refine Cd.seq ?_
  refine Cd.seq ?_
  refine Cd.region rfl ?_
  refine Sq.vals [0, 1, 2, 3] (rest := [4, 5, 6]) [.slice a xs.length cap, iV (xs.length : Int), bV (decide ((xs.length : Int) > 200)), bV (decide ((xs.length : Int) > 200))] (fun w => by kernel_rfl) ?_
  refine Sq.case 19 (p := (xs.length : Int) > 200) rfl (fun h1 => ?_) (fun h1 => ?_)
  ·
    refine Sq.vals [4, 5, 6] (rest := []) [undef, undef, bV true] (fun w => by kernel_rfl) ?_
    refine Sq.done ?_
    refine Ex'.next ?_
    refine Cd.condT (by kernel_rfl) ?_
    refine Cd.seq ?_
    refine Cd.region rfl ?_
    refine Sq.vals [0] (rest := []) [bV true] (fun w => by kernel_rfl) ?_
    refine Sq.done ?_
    refine Ex'.next ?_
    refine Cd.ret ?_
    refine Ex'.thenRet ?_
    refine Ex'.ret Try.results8 (RVs.tmp (v := bV true) (by kernel_rfl) (RVs.nil)) (fun w hw => ?_)
    exact ⟨_, ⟨rfl, by kernel_rfl⟩, hw⟩
  ·
    refine Sq.vals [4, 5, 6] (rest := []) [iV m, bV (decide (m < 1)), bV (decide (m < 1))] (fun w => by kernel_rfl) ?_
    refine Sq.done ?_
    refine Ex'.next ?_
    refine Cd.case (p := m < 1) (by kernel_rfl) (fun h2 => ?_) (fun h2 => ?_)
    ·
      refine Cd.seq ?_
      refine Cd.region rfl ?_
      refine Sq.vals [0] (rest := []) [bV true] (fun w => by kernel_rfl) ?_
      refine Sq.done ?_
      refine Ex'.next ?_
      refine Cd.ret ?_
      refine Ex'.thenRet ?_
      refine Ex'.ret Try.results8 (RVs.tmp (v := bV true) (by kernel_rfl) (RVs.nil)) (fun w hw => ?_)
      exact ⟨_, ⟨rfl, by kernel_rfl⟩, hw⟩
    ·
      refine Cd.skip ?_
      refine Ex'.next ?_
      refine Cd.seq ?_
      refine Cd.region rfl ?_
      refine Sq.vals [0, 1] (rest := [2, 3]) [iV m, bV ch] (fun w => by kernel_rfl) ?_
      refine Sq.ex [] (l := []) (o_call (by kernel_rfl) Try.call30 (Tri.ex (L' := fun x => lfuL x.1 x.2 m 0 ch [] 0) (lfu_New m ch (by omega)) (fun x => by unfold lfuNew; rw [if_neg (show ¬ (0 : Int) > m by omega)]))) (by kernel_rfl) rfl (by kernel_rfl) (fun _ => Nat.le_of_ble_eq_true (by kernel_rfl)) ?_; rintro ⟨b3, qb4⟩ _
      refine Sq.vals [3] (rest := []) [pV b3 0] (fun w => by kernel_rfl) ?_
      refine Sq.done ?_
      refine Ex'.next ?_
      refine Cd.seq ?_
      refine Cd.seq ?_
      refine Cd.region rfl ?_
      refine Sq.vals [0, 1] (rest := []) [pV b3 0, bV false] (fun w => by kernel_rfl) ?_
      refine Sq.done ?_
      refine Ex'.next ?_
      refine Cd.condF (by kernel_rfl) ?_
      refine Cd.skip ?_
      refine Ex'.next ?_
      refine Cd.seq ?_
      refine Cd.seq ?_
      refine Cd.region rfl ?_
      refine Sq.vals [0] (rest := []) [iV 0] (fun w => by kernel_rfl) ?_
      refine Sq.done ?_
      refine Ex'.next ?_
      refine Cd.block ?_
      refine Cd.loop (ι := Nat × Int × (List (KR ByteArray)) × Nat) (fun ⟨k, now0, T0, n0⟩ => k ≤ xs.length ∧ LfuI m now0 T0 ∧ now0 = k ∧ n0 ≤ k) (fun ⟨k, now0, T0, n0⟩ => xs.length - k) (fun ⟨k, now0, T0, n0⟩ => [(0, iV m), (2, .slice a xs.length cap), (7, pV b3 0), (8, iV (k : Int))]) (fun ⟨k, now0, T0, n0⟩ => [oldR w0, lfuB b3 qb4 m now0 ch, hpS qb4 T0 n0]) (0, 0, [], 0) (⟨Nat.zero_le _, LfuI.new (by omega), rfl, Nat.le_refl _⟩) (subB_eq (l := [0, 2, 7, 8]) (by kernel_rfl)) (fun w hw => hw.pickB [0, 1, 2] (by kernel_rfl) (by kernel_rfl) (by kernel_rfl)) ?_
      rintro ⟨k, now0, T0, n0⟩ hL5
      try dsimp only at hL5 ⊢
      obtain ⟨hk, hI, hnw, hn⟩ := hL5
      have htb := hI.tmb (by omega); have hI0 := hI.n0
      refine Cd.seq ?_
      refine Cd.seq ?_
      refine Cd.region rfl ?_
      refine Sq.vals [0, 1, 2, 3] (rest := []) [iV (k : Int), .slice a xs.length cap, iV (xs.length : Int), bV (decide ((k : Int) < (xs.length : Int)))] (fun w => by kernel_rfl) ?_
      refine Sq.done ?_
      refine Ex'.next ?_
      refine Cd.case (p := (k : Int) < (xs.length : Int)) (by kernel_rfl) (fun h6 => ?_) (fun h6 => ?_)
      ·
        obtain ⟨g7, off8, rfl⟩ := hs.addr (by omega)
        obtain ⟨kyk, hgk, hwk, hrk⟩ := hs.at (k := k) (by omega)
        refine Cd.skip ?_
        refine Ex'.next ?_
        refine Cd.seq ?_
        refine Cd.block ?_
        refine Cd.seq ?_
        refine Cd.seq ?_
        refine Cd.region rfl ?_
        refine Sq.vals [0, 1] (rest := [2, 3, 4, 5]) [.slice (some ⟨g7, off8, none⟩) xs.length cap, iV (k : Int)] (fun w => by kernel_rfl) ?_
        refine Sq.v (r := pV g7 (off8 + k)) (o_idx (b := g7) (cap := cap) (e := 9) (off := off8) (n := xs.length) (kd := .i64) (q := (k : Int)) (i := k) (size := 1) (j := off8 + k) (by kernel_rfl) (by kernel_rfl) (by rfl) (by omega) Try.underlying47 (by kernel_rfl) (by omega)) rfl (by kernel_rfl) ?_
        refine Sq.same [0] (l := [oldR w0]) (o_loadOld (b := g7) (j := off8 + k) (u := sV kyk) (by kernel_rfl) (by kernel_rfl) (hrk 0 _ rfl)) (by kernel_rfl) rfl (by kernel_rfl) rfl ?_
        refine Sq.vals [4, 5] (rest := []) [iV (kyk.size : Int), bV (decide ((kyk.size : Int) > 200))] (fun w => by kernel_rfl) ?_
        refine Sq.done ?_
        refine Ex'.next ?_
        refine Cd.case (p := (kyk.size : Int) > 200) (by kernel_rfl) (fun h9 => ?_) (fun h9 => ?_)
        ·
          refine Cd.seq ?_
          refine Cd.region rfl ?_
          refine Sq.vals [0] (rest := []) [bV true] (fun w => by kernel_rfl) ?_
          refine Sq.done ?_
          refine Ex'.next ?_
          refine Cd.ret ?_
          refine Ex'.thenRet ?_
          refine Ex'.blockRet ?_
          refine Ex'.thenRet ?_
          refine Ex'.thenRet ?_
          refine Ex'.blockRet ?_
          refine Ex'.thenRet ?_
          refine Ex'.ret Try.results8 (RVs.tmp (v := bV true) (by kernel_rfl) (RVs.nil)) (fun w hw => ?_)
          exact ⟨_, ⟨rfl, by kernel_rfl⟩, hw⟩
        ·
          refine Cd.skip ?_
          refine Ex'.next ?_
          refine Cd.seq ?_
          refine Cd.region rfl ?_
          refine Sq.ex [] (l := []) (o_newMap Value.string (Value.int .i64)) (by kernel_rfl) rfl (by kernel_rfl) (fun _ => Nat.zero_le _) ?_; intro b10 _
          refine Sq.vals [1] (rest := []) [.map (some b10)] (fun w => by kernel_rfl) ?_
          refine Sq.done ?_
          refine Ex'.next ?_
          refine Cd.seq ?_
          refine Cd.region rfl ?_
          refine Sq.vals [0] (rest := [1, 2]) [pV b3 0] (fun w => by kernel_rfl) ?_
          refine Sq.ex [1, 2] (l := lfuL b3 qb4 m now0 ch T0 n0) (o_call (by kernel_rfl) Try.call31 (Tri.ex (L' := fun v => lfuL b3 qb4 m now0 ch T0 n0 ++ [rowR 9 1 v (T0.map (·.1)).length ((T0.map (·.1)).map Value.string)]) (lfu_Keys (n := n0) (most := m) (now := now0) (churn := ch) (S := T0) (by omega)) (fun v => rfl))) (by kernel_rfl) rfl (by kernel_rfl) (fun _ => Nat.le_of_ble_eq_true (by kernel_rfl)) ?_; rintro v11 _
          refine Sq.fact (i := 4) (R := rowR 9 1 v11 ((T0.map (·.1)).length) ((T0.map (·.1)).map Value.string)) (by kernel_rfl) row_slice ?_; rintro ⟨a12, c13, rfl, hc13, hc13'⟩
          have hc13'' : c13 ≤ 9223372036854775807 := hc13'
          refine Sq.vals [2] (rest := []) [.slice a12 ((T0.map (·.1)).length) c13] (fun w => by kernel_rfl) ?_
          refine Sq.done ?_
          refine Ex'.next ?_
          refine Cd.seq ?_
          refine Cd.seq ?_
          refine Cd.region rfl ?_
          refine Sq.vals [0] (rest := []) [iV 0] (fun w => by kernel_rfl) ?_
          refine Sq.done ?_
          refine Ex'.next ?_
          refine Cd.block ?_
          refine Cd.loop (ι := Nat × (List (ByteArray × Int))) (fun ⟨j, ah⟩ => AhI T0 ah j) (fun ⟨j, ah⟩ => (T0.map (·.1)).length - j) (fun ⟨j, ah⟩ => [(0, iV m), (2, .slice (some ⟨g7, off8, none⟩) xs.length cap), (7, pV b3 0), (8, iV (k : Int)), (9, .map (some b10)), (10, .slice a12 ((T0.map (·.1)).length) c13), (11, iV (j : Int))]) (fun ⟨j, ah⟩ => [oldR w0, lfuB b3 qb4 m now0 ch, hpS qb4 T0 n0, mapR Value.string (Value.int .i64) b10 ah, rowR 9 1 (.slice a12 ((T0.map (·.1)).length) c13) ((T0.map (·.1)).length) ((T0.map (·.1)).map Value.string)]) (0, []) (AhI.new) (subB_eq (l := [0, 2, 7, 8, 9, 10, 11]) (by kernel_rfl)) (fun w hw => hw.pickB [0, 1, 2, 3, 4] (by kernel_rfl) (by kernel_rfl) (by kernel_rfl)) ?_
          rintro ⟨j, ah⟩ hL14
          try dsimp only at hL14 ⊢
          have hA := hL14
          have hj := hA.le
          refine Cd.seq ?_
          refine Cd.seq ?_
          refine Cd.region rfl ?_
          refine Sq.vals [0, 1, 2, 3] (rest := []) [iV (j : Int), .slice a12 ((T0.map (·.1)).length) c13, iV ((T0.map (·.1)).length : Int), bV (decide ((j : Int) < ((T0.map (·.1)).length : Int)))] (fun w => by kernel_rfl) ?_
          refine Sq.done ?_
          refine Ex'.next ?_
          refine Cd.case (p := (j : Int) < ((T0.map (·.1)).length : Int)) (by kernel_rfl) (fun h15 => ?_) (fun h15 => ?_)
          ·
            refine Cd.fact (i := 4) (R := rowR 9 1 (.slice a12 ((T0.map (·.1)).length) c13) ((T0.map (·.1)).length) ((T0.map (·.1)).map Value.string)) (by kernel_rfl) (row_addr (by omega)) ?_; rintro ⟨b16, rfl⟩
            refine Cd.skip ?_
            refine Ex'.next ?_
            refine Cd.seq ?_
            refine Cd.block ?_
            refine Cd.plan [0, 0, 0, 6, 14, 0, 0, 0, 192, 448, 992, 2047] [(4, [(4, false, 0)]), (9, [(4, false, 0)]), (10, [(1, false, 0), (2, false, 0)]), (11, [(3, true, 0)])] [] [] [(3, 11, fun g => mapR Value.string (Value.int .i64) b10 (put ah ((T0.map (·.1)).getD j ⟨#[]⟩) (tms T0 ((T0.map (·.1)).getD j ⟨#[]⟩))))] [fun g => .map (some b10), fun g => .slice (some ⟨b16, 0, none⟩) ((T0.map (·.1)).length) c13, fun g => iV (j : Int), fun g => pV b16 j, fun g => sV ((T0.map (·.1)).getD j ⟨#[]⟩), fun g => pV b3 0, fun g => .slice (some ⟨b16, 0, none⟩) ((T0.map (·.1)).length) c13, fun g => iV (j : Int), fun g => pV b16 j, fun g => sV ((T0.map (·.1)).getD j ⟨#[]⟩), fun g => iV (tms T0 ((T0.map (·.1)).getD j ⟨#[]⟩)), fun g => undef] (by kernel_rfl) (by kernel_rfl) rfl (trivial) ?_ ?_
            · exact ⟨ob_val fun g w => by kernel_rfl, ob_val fun g w => by kernel_rfl, ob_val fun g w => by kernel_rfl, ob_v (v := fun g => pV b16 j) (fun g => o_idx (b := b16) (cap := c13) (e := 9) (off := 0) (n := (T0.map (·.1)).length) (kd := .i64) (q := (j : Int)) (i := j) (size := 1) (j := j) (by kernel_rfl) (by kernel_rfl) (by rfl) (by omega) Try.underlying47 (by kernel_rfl) (by omega)) (fun g => by kernel_rfl), ob_s (l := fun g => [rowR 9 1 (.slice (some ⟨b16, 0, none⟩) ((T0.map (·.1)).length) c13) ((T0.map (·.1)).length) ((T0.map (·.1)).map Value.string)]) (l' := fun g => [rowR 9 1 (.slice (some ⟨b16, 0, none⟩) ((T0.map (·.1)).length) c13) ((T0.map (·.1)).length) ((T0.map (·.1)).map Value.string)]) (v := fun g => sV ((T0.map (·.1)).getD j ⟨#[]⟩)) (fun g => o_loadRow (i := j) (u := sV ((T0.map (·.1)).getD j ⟨#[]⟩)) (by kernel_rfl) (by omega) (by kernel_rfl) (get_map (by omega))) (fun g => by kernel_rfl), ob_val fun g w => by kernel_rfl, ob_val fun g w => by kernel_rfl, ob_val fun g w => by kernel_rfl, ob_v (v := fun g => pV b16 j) (fun g => o_idx (b := b16) (cap := c13) (e := 9) (off := 0) (n := (T0.map (·.1)).length) (kd := .i64) (q := (j : Int)) (i := j) (size := 1) (j := j) (by kernel_rfl) (by kernel_rfl) (by rfl) (by omega) Try.underlying47 (by kernel_rfl) (by omega)) (fun g => by kernel_rfl), ob_s (l := fun g => [rowR 9 1 (.slice (some ⟨b16, 0, none⟩) ((T0.map (·.1)).length) c13) ((T0.map (·.1)).length) ((T0.map (·.1)).map Value.string)]) (l' := fun g => [rowR 9 1 (.slice (some ⟨b16, 0, none⟩) ((T0.map (·.1)).length) c13) ((T0.map (·.1)).length) ((T0.map (·.1)).map Value.string)]) (v := fun g => sV ((T0.map (·.1)).getD j ⟨#[]⟩)) (fun g => o_loadRow (i := j) (u := sV ((T0.map (·.1)).getD j ⟨#[]⟩)) (by kernel_rfl) (by omega) (by kernel_rfl) (get_map (by omega))) (fun g => by kernel_rfl), ob_s (l := fun g => [lfuB b3 qb4 m now0 ch, hpS qb4 T0 n0]) (l' := fun g => [lfuB b3 qb4 m now0 ch, hpS qb4 T0 n0]) (v := fun g => iV (tms T0 ((T0.map (·.1)).getD j ⟨#[]⟩))) (fun g => o_call (by kernel_rfl) Try.call32 (Tri.eq (l2 := lfuL b3 qb4 m now0 ch T0 n0) (r' := iV (tms T0 ((T0.map (·.1)).getD j ⟨#[]⟩))) (lfu_Times (n := n0) (most := m) (now := now0) (churn := ch) (S := T0) ((T0.map (·.1)).getD j ⟨#[]⟩) (by omega)) (rfl) (rfl))) (fun g => by kernel_rfl), ob_s (l := fun g => [mapR Value.string (Value.int .i64) b10 ah]) (l' := fun g => [mapR Value.string (Value.int .i64) b10 (put ah ((T0.map (·.1)).getD j ⟨#[]⟩) (tms T0 ((T0.map (·.1)).getD j ⟨#[]⟩)))]) (v := fun g => undef) (fun g => o_mapUpdate ((T0.map (·.1)).getD j ⟨#[]⟩) (tms T0 ((T0.map (·.1)).getD j ⟨#[]⟩)) (by kernel_rfl) (by kernel_rfl) (by kernel_rfl) (strKey Try.underlying9) Try.underlying65) (fun g => by kernel_rfl), trivial⟩
            intro g
            refine Ex'.sub (subB_spec [0, 2, 7, 8, 9, 10, 11]) ?_
            refine Ex'.as [0, 1, 2, 3, 4] (σ' := [(0, iV m), (2, .slice (some ⟨g7, off8, none⟩) xs.length cap), (7, pV b3 0), (8, iV (k : Int)), (9, .map (some b10)), (10, .slice (some ⟨b16, 0, none⟩) ((T0.map (·.1)).length) c13), (11, iV (j : Int))]) (Γ' := [oldR w0, lfuB b3 qb4 m now0 ch, hpS qb4 T0 n0, mapR Value.string (Value.int .i64) b10 (put ah ((T0.map (·.1)).getD j ⟨#[]⟩) (tms T0 ((T0.map (·.1)).getD j ⟨#[]⟩))), rowR 9 1 (.slice (some ⟨b16, 0, none⟩) ((T0.map (·.1)).length) c13) ((T0.map (·.1)).length) ((T0.map (·.1)).map Value.string)]) (by kernel_rfl) rfl (by kernel_rfl) (by kernel_rfl) ?_
            refine Ex'.blockNormal ?_
            refine Ex'.next ?_
            refine Cd.region rfl ?_
            refine Sq.vals [0] (rest := [1, 2]) [iV (j : Int)] (fun w => by kernel_rfl) ?_
            refine Sq.v (r := iV ((j : Int) + 1)) (o_add (k := .i64) (a := (j : Int)) (b := 1) (c := (j : Int) + 1) (by kernel_rfl) (by kernel_rfl) (w64 rfl (by omega))) rfl (by kernel_rfl) ?_
            refine Sq.vals [2] (rest := []) [iV ((j : Int) + 1)] (fun w => by kernel_rfl) ?_
            refine Sq.done ?_
            refine Ex'.round (g := (j, ah)) (j + 1, put ah ((T0.map (·.1)).getD j ⟨#[]⟩) (tms T0 ((T0.map (·.1)).getD j ⟨#[]⟩))) ?_ ?_ (subB_eq (l := [0, 2, 7, 8, 9, 10, 11]) (by kernel_rfl)) (fun w hw => hw.pickB [0, 1, 2, 3, 4] (by kernel_rfl) (by kernel_rfl) (by kernel_rfl))
            · (try dsimp only); exact hA.step (by omega)
            · omega
          ·
            have hF := hA.fin (by omega)
            have hFk := hF kyk
            have hTk := hI.le kyk
            have hTl : (T0.map (·.1)).length = T0.length := List.length_map _
            refine Cd.exit ?_
            refine Ex'.thenExit ?_
            refine Ex'.thenExit ?_
            refine Ex'.blockHit ?_
            refine Ex'.next ?_
            refine Cd.seq ?_
            refine Cd.region rfl ?_
            refine Sq.vals [0, 1, 2] (rest := [3, 4, 5, 6, 7]) [pV b3 0, .slice (some ⟨g7, off8, none⟩) xs.length cap, iV (k : Int)] (fun w => by kernel_rfl) ?_
            refine Sq.v (r := pV g7 (off8 + k)) (o_idx (b := g7) (cap := cap) (e := 9) (off := off8) (n := xs.length) (kd := .i64) (q := (k : Int)) (i := k) (size := 1) (j := off8 + k) (by kernel_rfl) (by kernel_rfl) (by rfl) (by omega) Try.underlying47 (by kernel_rfl) (by omega)) rfl (by kernel_rfl) ?_
            refine Sq.same [0] (l := [oldR w0]) (o_loadOld (b := g7) (j := off8 + k) (u := sV kyk) (by kernel_rfl) (by kernel_rfl) (hrk 0 _ rfl)) (by kernel_rfl) rfl (by kernel_rfl) rfl ?_
            refine Sq.same [1, 2] (l := lfuL b3 qb4 m now0 ch T0 n0) (o_call (by kernel_rfl) Try.call33 (lfu_Request (n := n0) (n' := n0 + 1) (most := m) (now := now0) (churn := ch) (S := T0) kyk (by omega) (by omega) (by omega) (by first | assumption | (unfold TmB; decide)))) (by kernel_rfl) rfl (by kernel_rfl) rfl ?_
            generalize hxx17 : lfuReq m now0 ch T0 kyk = x17
            have hR := LfuI.req hI (by omega) kyk hxx17
            have hRn := hR.n; have hRt := hR.tm; have hRl := hR.i.len
            have hRh : x17.2.2.1 = decide (0 < tms T0 kyk) := hR.hit
            have hRo : x17.2.2.2.2 = decide (¬ 0 < tms T0 kyk ∧ (T0.length : Int) = m) := hR.out
            refine Sq.ex [] (l := []) (o_new [bV false, sV ⟨#[]⟩, bV false] (fun w => by kernel_rfl)) (by kernel_rfl) rfl (by kernel_rfl) (fun _ => Nat.zero_le _) ?_; intro b18 _
            refine Sq.same [5] (l := [blkR b18 [bV false, sV ⟨#[]⟩, bV false] 68]) (o_store (i := 0) (v := .agg #[bV x17.2.2.1, sV x17.2.2.2.1, bV x17.2.2.2.2]) (by kernel_rfl) (by kernel_rfl) (by kernel_rfl) (by kernel_rfl) (by kernel_rfl)) (by kernel_rfl) rfl (by kernel_rfl) rfl ?_
            refine Sq.done ?_
            refine Ex'.next ?_
            refine Cd.seq ?_
            refine Cd.seq ?_
            rcases Bool.eq_false_or_eq_true (x17.2.2.2.2) with h19 | h19
            ·
              have hno : ¬ 0 < tms T0 kyk ∧ (T0.length : Int) = m := of_decide_eq_true (hRo.symm.trans h19)
              rcases Bool.eq_false_or_eq_true (x17.2.2.1) with h20 | h20
              ·
                exact absurd (of_decide_eq_true (hRh.symm.trans h20)) hno.1
              ·
                have hnh : ¬ 0 < tms T0 kyk := of_decide_eq_false (hRh.symm.trans h20)
                rcases Bool.eq_false_or_eq_true ((!x17.2.2.1)) with h21 | h21
                ·
                  have hnh : ¬ 0 < tms T0 kyk := by rw [hRh] at h21; simpa using h21
                  refine Cd.plan (0 :: 1 :: 0 :: 0 :: 0 :: 24 :: 56 :: 124 :: 252 :: 511 :: 1023 :: 2047 :: 2047 :: 2047 :: 14335 :: 30719 :: 65535 :: 2047 :: 2047 :: 2047 :: 788479 :: 1837055 :: 4065279 :: 8259583 :: 16777215 :: 33554431 :: 67108863 :: 134217727 :: 268435455 :: 536870911 :: 1073741823 :: 2147483647 :: 4294967295 :: 8589934591 :: 17179869183 :: 34359738367 :: 68719476735 :: 34359738367 :: 274877906943 :: 549755813887 :: 1099511627775 :: 2199023255551 :: 4398046511103 :: 2199023255551 :: 10995116277759 :: 28587302322175 :: 63771674411007 :: 134140418588671 :: 274877906943999 :: 134140418588671 :: 1119302837075967 :: 2245202743918591 :: 4503599627370495 :: 9007199254740991 :: []) [(1, [(5, false, 0)]), (6, [(0, false, 0)]), (7, [(3, false, 0)]), (15, [(0, false, 0)]), (16, [(1, false, 0), (2, false, 0)]), (21, [(0, false, 0)]), (22, [(3, false, 0)]), (28, [(5, false, 0)]), (31, [(5, false, 0)]), (36, [(1, false, 0), (2, false, 0)]), (42, [(5, false, 0)]), (44, [(5, false, 0)])] [] [] [] ((fun g => pV b18 0) :: (fun g => bV x17.2.2.1) :: (fun g => .map (some b10)) :: (fun g => .slice (some ⟨g7, off8, none⟩) xs.length cap) :: (fun g => iV (k : Int)) :: (fun g => pV g7 (off8 + k)) :: (fun g => sV kyk) :: (fun g => iV ((lk ah kyk).getD (0 : Int))) :: (fun g => bV (decide (((lk ah kyk).getD (0 : Int)) > 0))) :: (fun g => bV false) :: (fun g => bV false) :: (fun g => pV b3 0) :: (fun g => .slice (some ⟨g7, off8, none⟩) xs.length cap) :: (fun g => iV (k : Int)) :: (fun g => pV g7 (off8 + k)) :: (fun g => sV kyk) :: (fun g => iV (tms x17.2.1 kyk)) :: (fun g => .map (some b10)) :: (fun g => .slice (some ⟨g7, off8, none⟩) xs.length cap) :: (fun g => iV (k : Int)) :: (fun g => pV g7 (off8 + k)) :: (fun g => sV kyk) :: (fun g => iV ((lk ah kyk).getD (0 : Int))) :: (fun g => iV (((lk ah kyk).getD (0 : Int)) + 1)) :: (fun g => bV false) :: (fun g => bV false) :: (fun g => bV false) :: (fun g => pV b18 2) :: (fun g => bV x17.2.2.2.2) :: (fun g => bV true) :: (fun g => pV b18 0) :: (fun g => bV x17.2.2.1) :: (fun g => bV false) :: (fun g => bV false) :: (fun g => bV false) :: (fun g => pV b3 0) :: (fun g => iV (x17.2.1.length : Int)) :: (fun g => iV m) :: (fun g => bV false) :: (fun g => bV false) :: (fun g => bV false) :: (fun g => pV b18 2) :: (fun g => bV x17.2.2.2.2) :: (fun g => pV b18 0) :: (fun g => bV x17.2.2.1) :: (fun g => bV true) :: (fun g => bV true) :: (fun g => .slice a12 ((T0.map (·.1)).length) c13) :: (fun g => iV ((T0.map (·.1)).length : Int)) :: (fun g => iV m) :: (fun g => bV (decide (((T0.map (·.1)).length : Int) = m))) :: (fun g => bV (decide (((T0.map (·.1)).length : Int) = m))) :: (fun g => bV false) :: (fun g => bV false) :: []) (by kernel_rfl) (by kernel_rfl) rfl (trivial) ?_ ?_
                  · exact ⟨ob_val fun g w => by kernel_rfl, ob_s (l := fun g => [blkR b18 [bV x17.2.2.1, sV x17.2.2.2.1, bV x17.2.2.2.2] 68]) (l' := fun g => [blkR b18 [bV x17.2.2.1, sV x17.2.2.2.1, bV x17.2.2.2.2] 68]) (v := fun g => bV x17.2.2.1) (fun g => o_load (i := 0) (v := bV x17.2.2.1) (by kernel_rfl) (by kernel_rfl) (by kernel_rfl)) (fun g => by kernel_rfl), ob_val fun g w => by kernel_rfl, ob_val fun g w => by kernel_rfl, ob_val fun g w => by kernel_rfl, ob_v (v := fun g => pV g7 (off8 + k)) (fun g => o_idx (b := g7) (cap := cap) (e := 9) (off := off8) (n := xs.length) (kd := .i64) (q := (k : Int)) (i := k) (size := 1) (j := off8 + k) (by kernel_rfl) (by kernel_rfl) (by rfl) (by omega) Try.underlying47 (by kernel_rfl) (by omega)) (fun g => by kernel_rfl), ob_s (l := fun g => [oldR w0]) (l' := fun g => [oldR w0]) (v := fun g => sV kyk) (fun g => o_loadOld (b := g7) (j := off8 + k) (u := sV kyk) (by kernel_rfl) (by kernel_rfl) (hrk 0 _ rfl)) (fun g => by kernel_rfl), ob_s (l := fun g => [mapR Value.string (Value.int .i64) b10 ah]) (l' := fun g => [mapR Value.string (Value.int .i64) b10 ah]) (v := fun g => iV ((lk ah kyk).getD (0 : Int))) (fun g => o_look (fv := (Value.int .i64)) (l := ah) (0 : Int) kyk (by kernel_rfl) (by kernel_rfl) (strKey Try.underlying9) Try.underlying65 (fun w => by kernel_rfl)) (fun g => by kernel_rfl), ob_val fun g w => by kernel_rfl, ob_v (v := fun g => bV false) (fun g => OprV.re (pureV (v := bV (!(x17.2.2.1 == (decide (((lk ah kyk).getD (0 : Int)) > 0))))) (by kernel_rfl) rfl fun w => by kernel_rfl) (congrArg Value.bool (show (!(x17.2.2.1 == (decide (((lk ah kyk).getD (0 : Int)) > 0)))) = false from (by rw [hFk, hRh]; simp)))) (fun g => by kernel_rfl), ob_val fun g w => by kernel_rfl, ob_val fun g w => by kernel_rfl, ob_val fun g w => by kernel_rfl, ob_val fun g w => by kernel_rfl, ob_v (v := fun g => pV g7 (off8 + k)) (fun g => o_idx (b := g7) (cap := cap) (e := 9) (off := off8) (n := xs.length) (kd := .i64) (q := (k : Int)) (i := k) (size := 1) (j := off8 + k) (by kernel_rfl) (by kernel_rfl) (by rfl) (by omega) Try.underlying47 (by kernel_rfl) (by omega)) (fun g => by kernel_rfl), ob_s (l := fun g => [oldR w0]) (l' := fun g => [oldR w0]) (v := fun g => sV kyk) (fun g => o_loadOld (b := g7) (j := off8 + k) (u := sV kyk) (by kernel_rfl) (by kernel_rfl) (hrk 0 _ rfl)) (fun g => by kernel_rfl), ob_s (l := fun g => [lfuB b3 qb4 m x17.1 ch, hpS qb4 x17.2.1 (n0 + 1)]) (l' := fun g => [lfuB b3 qb4 m x17.1 ch, hpS qb4 x17.2.1 (n0 + 1)]) (v := fun g => iV (tms x17.2.1 kyk)) (fun g => o_call (by kernel_rfl) Try.call32 (Tri.eq (l2 := lfuL b3 qb4 m x17.1 ch x17.2.1 (n0 + 1)) (r' := iV (tms x17.2.1 kyk)) (lfu_Times (n := n0 + 1) (most := m) (now := x17.1) (churn := ch) (S := x17.2.1) kyk (by omega)) (rfl) (rfl))) (fun g => by kernel_rfl), ob_val fun g w => by kernel_rfl, ob_val fun g w => by kernel_rfl, ob_val fun g w => by kernel_rfl, ob_v (v := fun g => pV g7 (off8 + k)) (fun g => o_idx (b := g7) (cap := cap) (e := 9) (off := off8) (n := xs.length) (kd := .i64) (q := (k : Int)) (i := k) (size := 1) (j := off8 + k) (by kernel_rfl) (by kernel_rfl) (by rfl) (by omega) Try.underlying47 (by kernel_rfl) (by omega)) (fun g => by kernel_rfl), ob_s (l := fun g => [oldR w0]) (l' := fun g => [oldR w0]) (v := fun g => sV kyk) (fun g => o_loadOld (b := g7) (j := off8 + k) (u := sV kyk) (by kernel_rfl) (by kernel_rfl) (hrk 0 _ rfl)) (fun g => by kernel_rfl), ob_s (l := fun g => [mapR Value.string (Value.int .i64) b10 ah]) (l' := fun g => [mapR Value.string (Value.int .i64) b10 ah]) (v := fun g => iV ((lk ah kyk).getD (0 : Int))) (fun g => o_look (fv := (Value.int .i64)) (l := ah) (0 : Int) kyk (by kernel_rfl) (by kernel_rfl) (strKey Try.underlying9) Try.underlying65 (fun w => by kernel_rfl)) (fun g => by kernel_rfl), ob_v (v := fun g => iV (((lk ah kyk).getD (0 : Int)) + 1)) (fun g => o_add (k := .i64) (a := ((lk ah kyk).getD (0 : Int))) (b := 1) (c := ((lk ah kyk).getD (0 : Int)) + 1) (by kernel_rfl) (by kernel_rfl) (w64 rfl (by omega))) (fun g => by kernel_rfl), ob_v (v := fun g => bV false) (fun g => OprV.re (o_neI (k := .i64) (a := tms x17.2.1 kyk) (b := ((lk ah kyk).getD (0 : Int)) + 1) (by kernel_rfl) (by kernel_rfl)) (vF (by rw [hFk]; omega))) (fun g => by kernel_rfl), ob_val fun g w => by kernel_rfl, ob_val fun g w => by kernel_rfl, ob_val fun g w => by kernel_rfl, ob_s (l := fun g => [blkR b18 [bV x17.2.2.1, sV x17.2.2.2.1, bV x17.2.2.2.2] 68]) (l' := fun g => [blkR b18 [bV x17.2.2.1, sV x17.2.2.2.1, bV x17.2.2.2.2] 68]) (v := fun g => bV x17.2.2.2.2) (fun g => o_load (i := 2) (v := bV x17.2.2.2.2) (by kernel_rfl) (by kernel_rfl) (by kernel_rfl)) (fun g => by kernel_rfl), ob_v (v := fun g => bV true) (fun g => OprV.re (pureV (v := bV x17.2.2.2.2) (by kernel_rfl) rfl fun w => by kernel_rfl) (congrArg Value.bool (show x17.2.2.2.2 = true from h19))) (fun g => by kernel_rfl), ob_val fun g w => by kernel_rfl, ob_s (l := fun g => [blkR b18 [bV x17.2.2.1, sV x17.2.2.2.1, bV x17.2.2.2.2] 68]) (l' := fun g => [blkR b18 [bV x17.2.2.1, sV x17.2.2.2.1, bV x17.2.2.2.2] 68]) (v := fun g => bV x17.2.2.1) (fun g => o_load (i := 0) (v := bV x17.2.2.1) (by kernel_rfl) (by kernel_rfl) (by kernel_rfl)) (fun g => by kernel_rfl), ob_v (v := fun g => bV false) (fun g => OprV.re (pureV (v := bV x17.2.2.1) (by kernel_rfl) rfl fun w => by kernel_rfl) (congrArg Value.bool (show x17.2.2.1 = false from h20))) (fun g => by kernel_rfl), ob_val fun g w => by kernel_rfl, ob_val fun g w => by kernel_rfl, ob_val fun g w => by kernel_rfl, ob_s (l := fun g => [lfuB b3 qb4 m x17.1 ch, hpS qb4 x17.2.1 (n0 + 1)]) (l' := fun g => [lfuB b3 qb4 m x17.1 ch, hpS qb4 x17.2.1 (n0 + 1)]) (v := fun g => iV (x17.2.1.length : Int)) (fun g => o_call (by kernel_rfl) Try.call34 (Tri.eq (l2 := lfuL b3 qb4 m x17.1 ch x17.2.1 (n0 + 1)) (r' := iV (x17.2.1.length : Int)) (lfu_Len (n := n0 + 1) (most := m) (now := x17.1) (churn := ch) (S := x17.2.1) (by omega)) (rfl) (rfl))) (fun g => by kernel_rfl), ob_val fun g w => by kernel_rfl, ob_v (v := fun g => bV false) (fun g => OprV.re (pureV (v := bV (decide ((x17.2.1.length : Int) > m))) (by kernel_rfl) rfl fun w => by kernel_rfl) (vF (by omega))) (fun g => by kernel_rfl), ob_val fun g w => by kernel_rfl, ob_val fun g w => by kernel_rfl, ob_val fun g w => by kernel_rfl, ob_s (l := fun g => [blkR b18 [bV x17.2.2.1, sV x17.2.2.2.1, bV x17.2.2.2.2] 68]) (l' := fun g => [blkR b18 [bV x17.2.2.1, sV x17.2.2.2.1, bV x17.2.2.2.2] 68]) (v := fun g => bV x17.2.2.2.2) (fun g => o_load (i := 2) (v := bV x17.2.2.2.2) (by kernel_rfl) (by kernel_rfl) (by kernel_rfl)) (fun g => by kernel_rfl), ob_val fun g w => by kernel_rfl, ob_s (l := fun g => [blkR b18 [bV x17.2.2.1, sV x17.2.2.2.1, bV x17.2.2.2.2] 68]) (l' := fun g => [blkR b18 [bV x17.2.2.1, sV x17.2.2.2.1, bV x17.2.2.2.2] 68]) (v := fun g => bV x17.2.2.1) (fun g => o_load (i := 0) (v := bV x17.2.2.1) (by kernel_rfl) (by kernel_rfl) (by kernel_rfl)) (fun g => by kernel_rfl), ob_v (v := fun g => bV true) (fun g => OprV.re (pureV (v := bV (!x17.2.2.1)) (by kernel_rfl) rfl fun w => by kernel_rfl) (congrArg Value.bool (show (!x17.2.2.1) = true from h21))) (fun g => by kernel_rfl), ob_val fun g w => by kernel_rfl, ob_val fun g w => by kernel_rfl, ob_val fun g w => by kernel_rfl, ob_val fun g w => by kernel_rfl, ob_v (v := fun g => bV (decide (((T0.map (·.1)).length : Int) = m))) (fun g => o_eqI (k := .i64) (a := ((T0.map (·.1)).length : Int)) (b := m) (by kernel_rfl) (by kernel_rfl)) (fun g => by kernel_rfl), ob_val fun g w => by kernel_rfl, ob_v (v := fun g => bV false) (fun g => OprV.re (pureV (v := bV (!(x17.2.2.2.2 == (decide (((T0.map (·.1)).length : Int) = m))))) (by kernel_rfl) rfl fun w => by kernel_rfl) (congrArg Value.bool (show (!(x17.2.2.2.2 == (decide (((T0.map (·.1)).length : Int) = m)))) = false from (by rw [hRo]; first | (simp; done) | (simp; omega) | (simp; intros; omega))))) (fun g => by kernel_rfl), ob_val fun g w => by kernel_rfl, trivial⟩
                  intro g
                  refine Ex'.sub (subB_spec [0, 2, 7, 8, 9, 10, 12, 119]) ?_
                  refine Ex'.as [0, 1, 2, 3, 4, 5] (σ' := [(0, iV m), (2, .slice (some ⟨g7, off8, none⟩) xs.length cap), (7, pV b3 0), (8, iV (k : Int)), (9, .map (some b10)), (10, .slice a12 ((T0.map (·.1)).length) c13), (12, pV b18 0), (119, bV false)]) (Γ' := [oldR w0, lfuB b3 qb4 m x17.1 ch, hpS qb4 x17.2.1 (n0 + 1), mapR Value.string (Value.int .i64) b10 ah, rowR 9 1 (.slice a12 ((T0.map (·.1)).length) c13) ((T0.map (·.1)).length) ((T0.map (·.1)).map Value.string), blkR b18 [bV x17.2.2.1, sV x17.2.2.2.1, bV x17.2.2.2.2] 68]) (by kernel_rfl) rfl (by kernel_rfl) (by kernel_rfl) ?_
                  refine Ex'.next ?_
                  refine Cd.condF (by kernel_rfl) ?_
                  refine Cd.skip ?_
                  refine Ex'.next ?_
                  refine Cd.seq ?_
                  refine Cd.region rfl ?_
                  refine Sq.vals [0] (rest := []) [iV 0] (fun w => by kernel_rfl) ?_
                  refine Sq.done ?_
                  refine Ex'.next ?_
                  refine Cd.block ?_
                  refine Cd.loop (ι := Nat) (fun q => q ≤ (T0.map (·.1)).length) (fun q => (T0.map (·.1)).length - q) (fun q => [(0, iV m), (2, .slice (some ⟨g7, off8, none⟩) xs.length cap), (7, pV b3 0), (8, iV (k : Int)), (9, .map (some b10)), (10, .slice a12 ((T0.map (·.1)).length) c13), (12, pV b18 0), (13, iV (q : Int))]) (fun q => [oldR w0, lfuB b3 qb4 m x17.1 ch, hpS qb4 x17.2.1 (n0 + 1), mapR Value.string (Value.int .i64) b10 ah, rowR 9 1 (.slice a12 ((T0.map (·.1)).length) c13) ((T0.map (·.1)).length) ((T0.map (·.1)).map Value.string), blkR b18 [bV x17.2.2.1, sV x17.2.2.2.1, bV x17.2.2.2.2] 68]) 0 (Nat.zero_le _) (subB_eq (l := [0, 2, 7, 8, 9, 10, 12, 13]) (by kernel_rfl)) (fun w hw => hw.pickB [0, 1, 2, 3, 4, 5] (by kernel_rfl) (by kernel_rfl) (by kernel_rfl)) ?_
                  rintro q hL22
                  try dsimp only at hL22 ⊢
                  have hq := hL22
                  refine Cd.seq ?_
                  refine Cd.seq ?_
                  refine Cd.region rfl ?_
                  refine Sq.vals [0, 1, 2, 3, 4] (rest := [5, 6, 7]) [iV (q : Int), .slice a12 ((T0.map (·.1)).length) c13, iV ((T0.map (·.1)).length : Int), bV (decide ((q : Int) < ((T0.map (·.1)).length : Int))), bV (decide ((q : Int) < ((T0.map (·.1)).length : Int)))] (fun w => by kernel_rfl) ?_
                  refine Sq.case 124 (p := (q : Int) < ((T0.map (·.1)).length : Int)) rfl (fun h23 => ?_) (fun h23 => ?_)
                  ·
                    obtain ⟨vv, TT, hv1, hv2⟩ := hR.vic h19
                    obtain ⟨hw1, hw2⟩ := hI.fewest hv1 (j := q) (by omega)
                    rw [← hv2] at hw1 hw2
                    have hFv := hF x17.2.2.2.1; have hFq := hF ((T0.map (·.1)).getD q ⟨#[]⟩)
                    refine Sq.fact (i := 4) (R := rowR 9 1 (.slice a12 ((T0.map (·.1)).length) c13) ((T0.map (·.1)).length) ((T0.map (·.1)).map Value.string)) (by kernel_rfl) (row_addr (by omega)) ?_; rintro ⟨b24, rfl⟩
                    refine Sq.vals [5] (rest := [6, 7]) [pV b18 2] (fun w => by kernel_rfl) ?_
                    refine Sq.same [5] (l := [blkR b18 [bV x17.2.2.1, sV x17.2.2.2.1, bV x17.2.2.2.2] 68]) (o_load (i := 2) (v := bV x17.2.2.2.2) (by kernel_rfl) (by kernel_rfl) (by kernel_rfl)) (by kernel_rfl) rfl (by kernel_rfl) rfl ?_
                    refine Sq.vals [7] (rest := []) [bV x17.2.2.2.2] (fun w => by kernel_rfl) ?_
                    refine Sq.done ?_
                    refine Ex'.next ?_
                    refine Cd.condT (by rw [show ev _ _ = some (.bool (x17.2.2.2.2)) from by kernel_rfl, show x17.2.2.2.2 = true from h19]) ?_
                    refine Cd.skip ?_
                    refine Ex'.next ?_
                    refine Cd.seq ?_
                    refine Cd.block ?_
                    refine Cd.seq ?_
                    refine Cd.plan [0, 0, 2, 7, 0, 0, 0, 96, 224, 496, 1023, 2047, 4095, 4095, 12287, 32767, 65535, 131071] [(2, [(5, false, 0)]), (3, [(3, false, 0)]), (8, [(4, false, 0)]), (9, [(3, false, 0)]), (14, [(5, false, 0)]), (15, [(3, false, 0)])] [] [] [] [fun g => .map (some b10), fun g => pV b18 1, fun g => sV x17.2.2.2.1, fun g => iV ((lk ah x17.2.2.2.1).getD (0 : Int)), fun g => .map (some b10), fun g => .slice (some ⟨b24, 0, none⟩) ((T0.map (·.1)).length) c13, fun g => iV (q : Int), fun g => pV b24 q, fun g => sV ((T0.map (·.1)).getD q ⟨#[]⟩), fun g => iV ((lk ah ((T0.map (·.1)).getD q ⟨#[]⟩)).getD (0 : Int)), fun g => bV false, fun g => bV false, fun g => .map (some b10), fun g => pV b18 1, fun g => sV x17.2.2.2.1, fun g => iV ((lk ah x17.2.2.2.1).getD (0 : Int)), fun g => bV false, fun g => bV false] (by kernel_rfl) (by kernel_rfl) rfl (trivial) ?_ ?_
                    · exact ⟨ob_val fun g w => by kernel_rfl, ob_val fun g w => by kernel_rfl, ob_s (l := fun g => [blkR b18 [bV x17.2.2.1, sV x17.2.2.2.1, bV x17.2.2.2.2] 68]) (l' := fun g => [blkR b18 [bV x17.2.2.1, sV x17.2.2.2.1, bV x17.2.2.2.2] 68]) (v := fun g => sV x17.2.2.2.1) (fun g => o_load (i := 1) (v := sV x17.2.2.2.1) (by kernel_rfl) (by kernel_rfl) (by kernel_rfl)) (fun g => by kernel_rfl), ob_s (l := fun g => [mapR Value.string (Value.int .i64) b10 ah]) (l' := fun g => [mapR Value.string (Value.int .i64) b10 ah]) (v := fun g => iV ((lk ah x17.2.2.2.1).getD (0 : Int))) (fun g => o_look (fv := (Value.int .i64)) (l := ah) (0 : Int) x17.2.2.2.1 (by kernel_rfl) (by kernel_rfl) (strKey Try.underlying9) Try.underlying65 (fun w => by kernel_rfl)) (fun g => by kernel_rfl), ob_val fun g w => by kernel_rfl, ob_val fun g w => by kernel_rfl, ob_val fun g w => by kernel_rfl, ob_v (v := fun g => pV b24 q) (fun g => o_idx (b := b24) (cap := c13) (e := 9) (off := 0) (n := (T0.map (·.1)).length) (kd := .i64) (q := (q : Int)) (i := q) (size := 1) (j := q) (by kernel_rfl) (by kernel_rfl) (by rfl) (by omega) Try.underlying47 (by kernel_rfl) (by omega)) (fun g => by kernel_rfl), ob_s (l := fun g => [rowR 9 1 (.slice (some ⟨b24, 0, none⟩) ((T0.map (·.1)).length) c13) ((T0.map (·.1)).length) ((T0.map (·.1)).map Value.string)]) (l' := fun g => [rowR 9 1 (.slice (some ⟨b24, 0, none⟩) ((T0.map (·.1)).length) c13) ((T0.map (·.1)).length) ((T0.map (·.1)).map Value.string)]) (v := fun g => sV ((T0.map (·.1)).getD q ⟨#[]⟩)) (fun g => o_loadRow (i := q) (u := sV ((T0.map (·.1)).getD q ⟨#[]⟩)) (by kernel_rfl) (by omega) (by kernel_rfl) (get_map (by omega))) (fun g => by kernel_rfl), ob_s (l := fun g => [mapR Value.string (Value.int .i64) b10 ah]) (l' := fun g => [mapR Value.string (Value.int .i64) b10 ah]) (v := fun g => iV ((lk ah ((T0.map (·.1)).getD q ⟨#[]⟩)).getD (0 : Int))) (fun g => o_look (fv := (Value.int .i64)) (l := ah) (0 : Int) ((T0.map (·.1)).getD q ⟨#[]⟩) (by kernel_rfl) (by kernel_rfl) (strKey Try.underlying9) Try.underlying65 (fun w => by kernel_rfl)) (fun g => by kernel_rfl), ob_v (v := fun g => bV false) (fun g => OprV.re (pureV (v := bV (decide (((lk ah x17.2.2.2.1).getD (0 : Int)) > ((lk ah ((T0.map (·.1)).getD q ⟨#[]⟩)).getD (0 : Int))))) (by kernel_rfl) rfl fun w => by kernel_rfl) (vF (by rw [hFv, hFq]; omega))) (fun g => by kernel_rfl), ob_val fun g w => by kernel_rfl, ob_val fun g w => by kernel_rfl, ob_val fun g w => by kernel_rfl, ob_s (l := fun g => [blkR b18 [bV x17.2.2.1, sV x17.2.2.2.1, bV x17.2.2.2.2] 68]) (l' := fun g => [blkR b18 [bV x17.2.2.1, sV x17.2.2.2.1, bV x17.2.2.2.2] 68]) (v := fun g => sV x17.2.2.2.1) (fun g => o_load (i := 1) (v := sV x17.2.2.2.1) (by kernel_rfl) (by kernel_rfl) (by kernel_rfl)) (fun g => by kernel_rfl), ob_s (l := fun g => [mapR Value.string (Value.int .i64) b10 ah]) (l' := fun g => [mapR Value.string (Value.int .i64) b10 ah]) (v := fun g => iV ((lk ah x17.2.2.2.1).getD (0 : Int))) (fun g => o_look (fv := (Value.int .i64)) (l := ah) (0 : Int) x17.2.2.2.1 (by kernel_rfl) (by kernel_rfl) (strKey Try.underlying9) Try.underlying65 (fun w => by kernel_rfl)) (fun g => by kernel_rfl), ob_v (v := fun g => bV false) (fun g => OprV.re (o_eqI (k := .i64) (a := ((lk ah x17.2.2.2.1).getD (0 : Int))) (b := 0) (by kernel_rfl) (by kernel_rfl)) (vF (by rw [hFv]; omega))) (fun g => by kernel_rfl), ob_val fun g w => by kernel_rfl, trivial⟩
                    intro g
                    refine Ex'.sub (subB_spec [0, 2, 7, 8, 9, 10, 12, 13, 147]) ?_
                    refine Ex'.as [0, 1, 2, 3, 4, 5] (σ' := [(0, iV m), (2, .slice (some ⟨g7, off8, none⟩) xs.length cap), (7, pV b3 0), (8, iV (k : Int)), (9, .map (some b10)), (10, .slice (some ⟨b24, 0, none⟩) ((T0.map (·.1)).length) c13), (12, pV b18 0), (13, iV (q : Int)), (147, bV false)]) (Γ' := [oldR w0, lfuB b3 qb4 m x17.1 ch, hpS qb4 x17.2.1 (n0 + 1), mapR Value.string (Value.int .i64) b10 ah, rowR 9 1 (.slice (some ⟨b24, 0, none⟩) ((T0.map (·.1)).length) c13) ((T0.map (·.1)).length) ((T0.map (·.1)).map Value.string), blkR b18 [bV x17.2.2.1, sV x17.2.2.2.1, bV x17.2.2.2.2] 68]) (by kernel_rfl) rfl (by kernel_rfl) (by kernel_rfl) ?_
                    refine Ex'.next ?_
                    refine Cd.condF (by kernel_rfl) ?_
                    refine Cd.skip ?_
                    refine Ex'.blockNormal ?_
                    refine Ex'.next ?_
                    refine Cd.region rfl ?_
                    refine Sq.vals [0] (rest := [1, 2]) [iV (q : Int)] (fun w => by kernel_rfl) ?_
                    refine Sq.v (r := iV ((q : Int) + 1)) (o_add (k := .i64) (a := (q : Int)) (b := 1) (c := (q : Int) + 1) (by kernel_rfl) (by kernel_rfl) (w64 rfl (by omega))) rfl (by kernel_rfl) ?_
                    refine Sq.vals [2] (rest := []) [iV ((q : Int) + 1)] (fun w => by kernel_rfl) ?_
                    refine Sq.done ?_
                    refine Ex'.round (g := q) (q + 1) ?_ ?_ (subB_eq (l := [0, 2, 7, 8, 9, 10, 12, 13]) (by kernel_rfl)) (fun w hw => hw.pickB [0, 1, 2, 3, 4, 5] (by kernel_rfl) (by kernel_rfl) (by kernel_rfl))
                    · (try dsimp only); exact (by omega : q + 1 ≤ (T0.map (·.1)).length)
                    · omega
                  ·
                    refine Sq.vals [5, 6, 7] (rest := []) [undef, undef, bV false] (fun w => by kernel_rfl) ?_
                    refine Sq.done ?_
                    refine Ex'.next ?_
                    refine Cd.condF (by kernel_rfl) ?_
                    refine Cd.exit ?_
                    refine Ex'.thenExit ?_
                    refine Ex'.thenExit ?_
                    refine Ex'.blockHit ?_
                    refine Ex'.blockNormal ?_
                    refine Ex'.next ?_
                    refine Cd.region rfl ?_
                    refine Sq.vals [0] (rest := [1, 2]) [iV (k : Int)] (fun w => by kernel_rfl) ?_
                    refine Sq.v (r := iV ((k : Int) + 1)) (o_add (k := .i64) (a := (k : Int)) (b := 1) (c := (k : Int) + 1) (by kernel_rfl) (by kernel_rfl) (w64 rfl (by omega))) rfl (by kernel_rfl) ?_
                    refine Sq.vals [2] (rest := []) [iV ((k : Int) + 1)] (fun w => by kernel_rfl) ?_
                    refine Sq.done ?_
                    refine Ex'.round (g := (k, now0, T0, n0)) (k + 1, x17.1, x17.2.1, n0 + 1) ?_ ?_ (subB_eq (l := [0, 2, 7, 8]) (by kernel_rfl)) (fun w hw => hw.pickB [0, 1, 2] (by kernel_rfl) (by kernel_rfl) (by kernel_rfl))
                    · (try dsimp only); exact ⟨by omega, hR.i, by omega, by omega⟩
                    · omega
                ·
                  have hyh : 0 < tms T0 kyk := by rw [hRh] at h21; simpa using h21
                  refine Cd.plan (0 :: 1 :: 0 :: 0 :: 0 :: 24 :: 56 :: 124 :: 252 :: 511 :: 1023 :: 2047 :: 2047 :: 2047 :: 14335 :: 30719 :: 65535 :: 2047 :: 2047 :: 2047 :: 788479 :: 1837055 :: 4065279 :: 8259583 :: 16777215 :: 33554431 :: 67108863 :: 134217727 :: 268435455 :: 536870911 :: 1073741823 :: 2147483647 :: 4294967295 :: 8589934591 :: 17179869183 :: 34359738367 :: 68719476735 :: 34359738367 :: 274877906943 :: 549755813887 :: 1099511627775 :: 2199023255551 :: 4398046511103 :: 2199023255551 :: 10995116277759 :: 28587302322175 :: 63771674411007 :: 134140418588671 :: 274877906943999 :: 134140418588671 :: 1119302837075967 :: 2245202743918591 :: 4503599627370495 :: 9007199254740991 :: []) [(1, [(5, false, 0)]), (6, [(0, false, 0)]), (7, [(3, false, 0)]), (15, [(0, false, 0)]), (16, [(1, false, 0), (2, false, 0)]), (21, [(0, false, 0)]), (22, [(3, false, 0)]), (28, [(5, false, 0)]), (31, [(5, false, 0)]), (36, [(1, false, 0), (2, false, 0)]), (42, [(5, false, 0)]), (44, [(5, false, 0)])] [] [] [] ((fun g => pV b18 0) :: (fun g => bV x17.2.2.1) :: (fun g => .map (some b10)) :: (fun g => .slice (some ⟨g7, off8, none⟩) xs.length cap) :: (fun g => iV (k : Int)) :: (fun g => pV g7 (off8 + k)) :: (fun g => sV kyk) :: (fun g => iV ((lk ah kyk).getD (0 : Int))) :: (fun g => bV (decide (((lk ah kyk).getD (0 : Int)) > 0))) :: (fun g => bV false) :: (fun g => bV false) :: (fun g => pV b3 0) :: (fun g => .slice (some ⟨g7, off8, none⟩) xs.length cap) :: (fun g => iV (k : Int)) :: (fun g => pV g7 (off8 + k)) :: (fun g => sV kyk) :: (fun g => iV (tms x17.2.1 kyk)) :: (fun g => .map (some b10)) :: (fun g => .slice (some ⟨g7, off8, none⟩) xs.length cap) :: (fun g => iV (k : Int)) :: (fun g => pV g7 (off8 + k)) :: (fun g => sV kyk) :: (fun g => iV ((lk ah kyk).getD (0 : Int))) :: (fun g => iV (((lk ah kyk).getD (0 : Int)) + 1)) :: (fun g => bV false) :: (fun g => bV false) :: (fun g => bV false) :: (fun g => pV b18 2) :: (fun g => bV x17.2.2.2.2) :: (fun g => bV true) :: (fun g => pV b18 0) :: (fun g => bV x17.2.2.1) :: (fun g => bV false) :: (fun g => bV false) :: (fun g => bV false) :: (fun g => pV b3 0) :: (fun g => iV (x17.2.1.length : Int)) :: (fun g => iV m) :: (fun g => bV false) :: (fun g => bV false) :: (fun g => bV false) :: (fun g => pV b18 2) :: (fun g => bV x17.2.2.2.2) :: (fun g => pV b18 0) :: (fun g => bV x17.2.2.1) :: (fun g => bV false) :: (fun g => bV false) :: (fun g => undef) :: (fun g => undef) :: (fun g => undef) :: (fun g => undef) :: (fun g => bV false) :: (fun g => bV false) :: (fun g => bV false) :: []) (by kernel_rfl) (by kernel_rfl) rfl (trivial) ?_ ?_
                  · exact ⟨ob_val fun g w => by kernel_rfl, ob_s (l := fun g => [blkR b18 [bV x17.2.2.1, sV x17.2.2.2.1, bV x17.2.2.2.2] 68]) (l' := fun g => [blkR b18 [bV x17.2.2.1, sV x17.2.2.2.1, bV x17.2.2.2.2] 68]) (v := fun g => bV x17.2.2.1) (fun g => o_load (i := 0) (v := bV x17.2.2.1) (by kernel_rfl) (by kernel_rfl) (by kernel_rfl)) (fun g => by kernel_rfl), ob_val fun g w => by kernel_rfl, ob_val fun g w => by kernel_rfl, ob_val fun g w => by kernel_rfl, ob_v (v := fun g => pV g7 (off8 + k)) (fun g => o_idx (b := g7) (cap := cap) (e := 9) (off := off8) (n := xs.length) (kd := .i64) (q := (k : Int)) (i := k) (size := 1) (j := off8 + k) (by kernel_rfl) (by kernel_rfl) (by rfl) (by omega) Try.underlying47 (by kernel_rfl) (by omega)) (fun g => by kernel_rfl), ob_s (l := fun g => [oldR w0]) (l' := fun g => [oldR w0]) (v := fun g => sV kyk) (fun g => o_loadOld (b := g7) (j := off8 + k) (u := sV kyk) (by kernel_rfl) (by kernel_rfl) (hrk 0 _ rfl)) (fun g => by kernel_rfl), ob_s (l := fun g => [mapR Value.string (Value.int .i64) b10 ah]) (l' := fun g => [mapR Value.string (Value.int .i64) b10 ah]) (v := fun g => iV ((lk ah kyk).getD (0 : Int))) (fun g => o_look (fv := (Value.int .i64)) (l := ah) (0 : Int) kyk (by kernel_rfl) (by kernel_rfl) (strKey Try.underlying9) Try.underlying65 (fun w => by kernel_rfl)) (fun g => by kernel_rfl), ob_val fun g w => by kernel_rfl, ob_v (v := fun g => bV false) (fun g => OprV.re (pureV (v := bV (!(x17.2.2.1 == (decide (((lk ah kyk).getD (0 : Int)) > 0))))) (by kernel_rfl) rfl fun w => by kernel_rfl) (congrArg Value.bool (show (!(x17.2.2.1 == (decide (((lk ah kyk).getD (0 : Int)) > 0)))) = false from (by rw [hFk, hRh]; simp)))) (fun g => by kernel_rfl), ob_val fun g w => by kernel_rfl, ob_val fun g w => by kernel_rfl, ob_val fun g w => by kernel_rfl, ob_val fun g w => by kernel_rfl, ob_v (v := fun g => pV g7 (off8 + k)) (fun g => o_idx (b := g7) (cap := cap) (e := 9) (off := off8) (n := xs.length) (kd := .i64) (q := (k : Int)) (i := k) (size := 1) (j := off8 + k) (by kernel_rfl) (by kernel_rfl) (by rfl) (by omega) Try.underlying47 (by kernel_rfl) (by omega)) (fun g => by kernel_rfl), ob_s (l := fun g => [oldR w0]) (l' := fun g => [oldR w0]) (v := fun g => sV kyk) (fun g => o_loadOld (b := g7) (j := off8 + k) (u := sV kyk) (by kernel_rfl) (by kernel_rfl) (hrk 0 _ rfl)) (fun g => by kernel_rfl), ob_s (l := fun g => [lfuB b3 qb4 m x17.1 ch, hpS qb4 x17.2.1 (n0 + 1)]) (l' := fun g => [lfuB b3 qb4 m x17.1 ch, hpS qb4 x17.2.1 (n0 + 1)]) (v := fun g => iV (tms x17.2.1 kyk)) (fun g => o_call (by kernel_rfl) Try.call32 (Tri.eq (l2 := lfuL b3 qb4 m x17.1 ch x17.2.1 (n0 + 1)) (r' := iV (tms x17.2.1 kyk)) (lfu_Times (n := n0 + 1) (most := m) (now := x17.1) (churn := ch) (S := x17.2.1) kyk (by omega)) (rfl) (rfl))) (fun g => by kernel_rfl), ob_val fun g w => by kernel_rfl, ob_val fun g w => by kernel_rfl, ob_val fun g w => by kernel_rfl, ob_v (v := fun g => pV g7 (off8 + k)) (fun g => o_idx (b := g7) (cap := cap) (e := 9) (off := off8) (n := xs.length) (kd := .i64) (q := (k : Int)) (i := k) (size := 1) (j := off8 + k) (by kernel_rfl) (by kernel_rfl) (by rfl) (by omega) Try.underlying47 (by kernel_rfl) (by omega)) (fun g => by kernel_rfl), ob_s (l := fun g => [oldR w0]) (l' := fun g => [oldR w0]) (v := fun g => sV kyk) (fun g => o_loadOld (b := g7) (j := off8 + k) (u := sV kyk) (by kernel_rfl) (by kernel_rfl) (hrk 0 _ rfl)) (fun g => by kernel_rfl), ob_s (l := fun g => [mapR Value.string (Value.int .i64) b10 ah]) (l' := fun g => [mapR Value.string (Value.int .i64) b10 ah]) (v := fun g => iV ((lk ah kyk).getD (0 : Int))) (fun g => o_look (fv := (Value.int .i64)) (l := ah) (0 : Int) kyk (by kernel_rfl) (by kernel_rfl) (strKey Try.underlying9) Try.underlying65 (fun w => by kernel_rfl)) (fun g => by kernel_rfl), ob_v (v := fun g => iV (((lk ah kyk).getD (0 : Int)) + 1)) (fun g => o_add (k := .i64) (a := ((lk ah kyk).getD (0 : Int))) (b := 1) (c := ((lk ah kyk).getD (0 : Int)) + 1) (by kernel_rfl) (by kernel_rfl) (w64 rfl (by omega))) (fun g => by kernel_rfl), ob_v (v := fun g => bV false) (fun g => OprV.re (o_neI (k := .i64) (a := tms x17.2.1 kyk) (b := ((lk ah kyk).getD (0 : Int)) + 1) (by kernel_rfl) (by kernel_rfl)) (vF (by rw [hFk]; omega))) (fun g => by kernel_rfl), ob_val fun g w => by kernel_rfl, ob_val fun g w => by kernel_rfl, ob_val fun g w => by kernel_rfl, ob_s (l := fun g => [blkR b18 [bV x17.2.2.1, sV x17.2.2.2.1, bV x17.2.2.2.2] 68]) (l' := fun g => [blkR b18 [bV x17.2.2.1, sV x17.2.2.2.1, bV x17.2.2.2.2] 68]) (v := fun g => bV x17.2.2.2.2) (fun g => o_load (i := 2) (v := bV x17.2.2.2.2) (by kernel_rfl) (by kernel_rfl) (by kernel_rfl)) (fun g => by kernel_rfl), ob_v (v := fun g => bV true) (fun g => OprV.re (pureV (v := bV x17.2.2.2.2) (by kernel_rfl) rfl fun w => by kernel_rfl) (congrArg Value.bool (show x17.2.2.2.2 = true from h19))) (fun g => by kernel_rfl), ob_val fun g w => by kernel_rfl, ob_s (l := fun g => [blkR b18 [bV x17.2.2.1, sV x17.2.2.2.1, bV x17.2.2.2.2] 68]) (l' := fun g => [blkR b18 [bV x17.2.2.1, sV x17.2.2.2.1, bV x17.2.2.2.2] 68]) (v := fun g => bV x17.2.2.1) (fun g => o_load (i := 0) (v := bV x17.2.2.1) (by kernel_rfl) (by kernel_rfl) (by kernel_rfl)) (fun g => by kernel_rfl), ob_v (v := fun g => bV false) (fun g => OprV.re (pureV (v := bV x17.2.2.1) (by kernel_rfl) rfl fun w => by kernel_rfl) (congrArg Value.bool (show x17.2.2.1 = false from h20))) (fun g => by kernel_rfl), ob_val fun g w => by kernel_rfl, ob_val fun g w => by kernel_rfl, ob_val fun g w => by kernel_rfl, ob_s (l := fun g => [lfuB b3 qb4 m x17.1 ch, hpS qb4 x17.2.1 (n0 + 1)]) (l' := fun g => [lfuB b3 qb4 m x17.1 ch, hpS qb4 x17.2.1 (n0 + 1)]) (v := fun g => iV (x17.2.1.length : Int)) (fun g => o_call (by kernel_rfl) Try.call34 (Tri.eq (l2 := lfuL b3 qb4 m x17.1 ch x17.2.1 (n0 + 1)) (r' := iV (x17.2.1.length : Int)) (lfu_Len (n := n0 + 1) (most := m) (now := x17.1) (churn := ch) (S := x17.2.1) (by omega)) (rfl) (rfl))) (fun g => by kernel_rfl), ob_val fun g w => by kernel_rfl, ob_v (v := fun g => bV false) (fun g => OprV.re (pureV (v := bV (decide ((x17.2.1.length : Int) > m))) (by kernel_rfl) rfl fun w => by kernel_rfl) (vF (by omega))) (fun g => by kernel_rfl), ob_val fun g w => by kernel_rfl, ob_val fun g w => by kernel_rfl, ob_val fun g w => by kernel_rfl, ob_s (l := fun g => [blkR b18 [bV x17.2.2.1, sV x17.2.2.2.1, bV x17.2.2.2.2] 68]) (l' := fun g => [blkR b18 [bV x17.2.2.1, sV x17.2.2.2.1, bV x17.2.2.2.2] 68]) (v := fun g => bV x17.2.2.2.2) (fun g => o_load (i := 2) (v := bV x17.2.2.2.2) (by kernel_rfl) (by kernel_rfl) (by kernel_rfl)) (fun g => by kernel_rfl), ob_val fun g w => by kernel_rfl, ob_s (l := fun g => [blkR b18 [bV x17.2.2.1, sV x17.2.2.2.1, bV x17.2.2.2.2] 68]) (l' := fun g => [blkR b18 [bV x17.2.2.1, sV x17.2.2.2.1, bV x17.2.2.2.2] 68]) (v := fun g => bV x17.2.2.1) (fun g => o_load (i := 0) (v := bV x17.2.2.1) (by kernel_rfl) (by kernel_rfl) (by kernel_rfl)) (fun g => by kernel_rfl), ob_v (v := fun g => bV false) (fun g => OprV.re (pureV (v := bV (!x17.2.2.1)) (by kernel_rfl) rfl fun w => by kernel_rfl) (congrArg Value.bool (show (!x17.2.2.1) = false from h21))) (fun g => by kernel_rfl), ob_val fun g w => by kernel_rfl, ob_val fun g w => by kernel_rfl, ob_val fun g w => by kernel_rfl, ob_val fun g w => by kernel_rfl, ob_val fun g w => by kernel_rfl, ob_val fun g w => by kernel_rfl, ob_v (v := fun g => bV false) (fun g => OprV.re (pureV (v := bV (!(x17.2.2.2.2 == false))) (by kernel_rfl) rfl fun w => by kernel_rfl) (congrArg Value.bool (show (!(x17.2.2.2.2 == false)) = false from (by rw [hRo]; first | (simp; done) | (simp; omega) | (simp; intros; omega))))) (fun g => by kernel_rfl), ob_val fun g w => by kernel_rfl, trivial⟩
                  intro g
                  refine Ex'.sub (subB_spec [0, 2, 7, 8, 9, 10, 12, 119]) ?_
                  refine Ex'.as [0, 1, 2, 3, 4, 5] (σ' := [(0, iV m), (2, .slice (some ⟨g7, off8, none⟩) xs.length cap), (7, pV b3 0), (8, iV (k : Int)), (9, .map (some b10)), (10, .slice a12 ((T0.map (·.1)).length) c13), (12, pV b18 0), (119, bV false)]) (Γ' := [oldR w0, lfuB b3 qb4 m x17.1 ch, hpS qb4 x17.2.1 (n0 + 1), mapR Value.string (Value.int .i64) b10 ah, rowR 9 1 (.slice a12 ((T0.map (·.1)).length) c13) ((T0.map (·.1)).length) ((T0.map (·.1)).map Value.string), blkR b18 [bV x17.2.2.1, sV x17.2.2.2.1, bV x17.2.2.2.2] 68]) (by kernel_rfl) rfl (by kernel_rfl) (by kernel_rfl) ?_
                  refine Ex'.next ?_
                  refine Cd.condF (by kernel_rfl) ?_
                  refine Cd.skip ?_
                  refine Ex'.next ?_
                  refine Cd.seq ?_
                  refine Cd.region rfl ?_
                  refine Sq.vals [0] (rest := []) [iV 0] (fun w => by kernel_rfl) ?_
                  refine Sq.done ?_
                  refine Ex'.next ?_
                  refine Cd.block ?_
                  refine Cd.loop (ι := Nat) (fun q => q ≤ (T0.map (·.1)).length) (fun q => (T0.map (·.1)).length - q) (fun q => [(0, iV m), (2, .slice (some ⟨g7, off8, none⟩) xs.length cap), (7, pV b3 0), (8, iV (k : Int)), (9, .map (some b10)), (10, .slice a12 ((T0.map (·.1)).length) c13), (12, pV b18 0), (13, iV (q : Int))]) (fun q => [oldR w0, lfuB b3 qb4 m x17.1 ch, hpS qb4 x17.2.1 (n0 + 1), mapR Value.string (Value.int .i64) b10 ah, rowR 9 1 (.slice a12 ((T0.map (·.1)).length) c13) ((T0.map (·.1)).length) ((T0.map (·.1)).map Value.string), blkR b18 [bV x17.2.2.1, sV x17.2.2.2.1, bV x17.2.2.2.2] 68]) 0 (Nat.zero_le _) (subB_eq (l := [0, 2, 7, 8, 9, 10, 12, 13]) (by kernel_rfl)) (fun w hw => hw.pickB [0, 1, 2, 3, 4, 5] (by kernel_rfl) (by kernel_rfl) (by kernel_rfl)) ?_
                  rintro q hL26
                  try dsimp only at hL26 ⊢
                  have hq := hL26
                  refine Cd.seq ?_
                  refine Cd.seq ?_
                  refine Cd.region rfl ?_
                  refine Sq.vals [0, 1, 2, 3, 4] (rest := [5, 6, 7]) [iV (q : Int), .slice a12 ((T0.map (·.1)).length) c13, iV ((T0.map (·.1)).length : Int), bV (decide ((q : Int) < ((T0.map (·.1)).length : Int))), bV (decide ((q : Int) < ((T0.map (·.1)).length : Int)))] (fun w => by kernel_rfl) ?_
                  refine Sq.case 124 (p := (q : Int) < ((T0.map (·.1)).length : Int)) rfl (fun h27 => ?_) (fun h27 => ?_)
                  ·
                    obtain ⟨vv, TT, hv1, hv2⟩ := hR.vic h19
                    obtain ⟨hw1, hw2⟩ := hI.fewest hv1 (j := q) (by omega)
                    rw [← hv2] at hw1 hw2
                    have hFv := hF x17.2.2.2.1; have hFq := hF ((T0.map (·.1)).getD q ⟨#[]⟩)
                    refine Sq.fact (i := 4) (R := rowR 9 1 (.slice a12 ((T0.map (·.1)).length) c13) ((T0.map (·.1)).length) ((T0.map (·.1)).map Value.string)) (by kernel_rfl) (row_addr (by omega)) ?_; rintro ⟨b28, rfl⟩
                    refine Sq.vals [5] (rest := [6, 7]) [pV b18 2] (fun w => by kernel_rfl) ?_
                    refine Sq.same [5] (l := [blkR b18 [bV x17.2.2.1, sV x17.2.2.2.1, bV x17.2.2.2.2] 68]) (o_load (i := 2) (v := bV x17.2.2.2.2) (by kernel_rfl) (by kernel_rfl) (by kernel_rfl)) (by kernel_rfl) rfl (by kernel_rfl) rfl ?_
                    refine Sq.vals [7] (rest := []) [bV x17.2.2.2.2] (fun w => by kernel_rfl) ?_
                    refine Sq.done ?_
                    refine Ex'.next ?_
                    refine Cd.condT (by rw [show ev _ _ = some (.bool (x17.2.2.2.2)) from by kernel_rfl, show x17.2.2.2.2 = true from h19]) ?_
                    refine Cd.skip ?_
                    refine Ex'.next ?_
                    refine Cd.seq ?_
                    refine Cd.block ?_
                    refine Cd.seq ?_
                    refine Cd.plan [0, 0, 2, 7, 0, 0, 0, 96, 224, 496, 1023, 2047, 4095, 4095, 12287, 32767, 65535, 131071] [(2, [(5, false, 0)]), (3, [(3, false, 0)]), (8, [(4, false, 0)]), (9, [(3, false, 0)]), (14, [(5, false, 0)]), (15, [(3, false, 0)])] [] [] [] [fun g => .map (some b10), fun g => pV b18 1, fun g => sV x17.2.2.2.1, fun g => iV ((lk ah x17.2.2.2.1).getD (0 : Int)), fun g => .map (some b10), fun g => .slice (some ⟨b28, 0, none⟩) ((T0.map (·.1)).length) c13, fun g => iV (q : Int), fun g => pV b28 q, fun g => sV ((T0.map (·.1)).getD q ⟨#[]⟩), fun g => iV ((lk ah ((T0.map (·.1)).getD q ⟨#[]⟩)).getD (0 : Int)), fun g => bV false, fun g => bV false, fun g => .map (some b10), fun g => pV b18 1, fun g => sV x17.2.2.2.1, fun g => iV ((lk ah x17.2.2.2.1).getD (0 : Int)), fun g => bV false, fun g => bV false] (by kernel_rfl) (by kernel_rfl) rfl (trivial) ?_ ?_
                    · exact ⟨ob_val fun g w => by kernel_rfl, ob_val fun g w => by kernel_rfl, ob_s (l := fun g => [blkR b18 [bV x17.2.2.1, sV x17.2.2.2.1, bV x17.2.2.2.2] 68]) (l' := fun g => [blkR b18 [bV x17.2.2.1, sV x17.2.2.2.1, bV x17.2.2.2.2] 68]) (v := fun g => sV x17.2.2.2.1) (fun g => o_load (i := 1) (v := sV x17.2.2.2.1) (by kernel_rfl) (by kernel_rfl) (by kernel_rfl)) (fun g => by kernel_rfl), ob_s (l := fun g => [mapR Value.string (Value.int .i64) b10 ah]) (l' := fun g => [mapR Value.string (Value.int .i64) b10 ah]) (v := fun g => iV ((lk ah x17.2.2.2.1).getD (0 : Int))) (fun g => o_look (fv := (Value.int .i64)) (l := ah) (0 : Int) x17.2.2.2.1 (by kernel_rfl) (by kernel_rfl) (strKey Try.underlying9) Try.underlying65 (fun w => by kernel_rfl)) (fun g => by kernel_rfl), ob_val fun g w => by kernel_rfl, ob_val fun g w => by kernel_rfl, ob_val fun g w => by kernel_rfl, ob_v (v := fun g => pV b28 q) (fun g => o_idx (b := b28) (cap := c13) (e := 9) (off := 0) (n := (T0.map (·.1)).length) (kd := .i64) (q := (q : Int)) (i := q) (size := 1) (j := q) (by kernel_rfl) (by kernel_rfl) (by rfl) (by omega) Try.underlying47 (by kernel_rfl) (by omega)) (fun g => by kernel_rfl), ob_s (l := fun g => [rowR 9 1 (.slice (some ⟨b28, 0, none⟩) ((T0.map (·.1)).length) c13) ((T0.map (·.1)).length) ((T0.map (·.1)).map Value.string)]) (l' := fun g => [rowR 9 1 (.slice (some ⟨b28, 0, none⟩) ((T0.map (·.1)).length) c13) ((T0.map (·.1)).length) ((T0.map (·.1)).map Value.string)]) (v := fun g => sV ((T0.map (·.1)).getD q ⟨#[]⟩)) (fun g => o_loadRow (i := q) (u := sV ((T0.map (·.1)).getD q ⟨#[]⟩)) (by kernel_rfl) (by omega) (by kernel_rfl) (get_map (by omega))) (fun g => by kernel_rfl), ob_s (l := fun g => [mapR Value.string (Value.int .i64) b10 ah]) (l' := fun g => [mapR Value.string (Value.int .i64) b10 ah]) (v := fun g => iV ((lk ah ((T0.map (·.1)).getD q ⟨#[]⟩)).getD (0 : Int))) (fun g => o_look (fv := (Value.int .i64)) (l := ah) (0 : Int) ((T0.map (·.1)).getD q ⟨#[]⟩) (by kernel_rfl) (by kernel_rfl) (strKey Try.underlying9) Try.underlying65 (fun w => by kernel_rfl)) (fun g => by kernel_rfl), ob_v (v := fun g => bV false) (fun g => OprV.re (pureV (v := bV (decide (((lk ah x17.2.2.2.1).getD (0 : Int)) > ((lk ah ((T0.map (·.1)).getD q ⟨#[]⟩)).getD (0 : Int))))) (by kernel_rfl) rfl fun w => by kernel_rfl) (vF (by rw [hFv, hFq]; omega))) (fun g => by kernel_rfl), ob_val fun g w => by kernel_rfl, ob_val fun g w => by kernel_rfl, ob_val fun g w => by kernel_rfl, ob_s (l := fun g => [blkR b18 [bV x17.2.2.1, sV x17.2.2.2.1, bV x17.2.2.2.2] 68]) (l' := fun g => [blkR b18 [bV x17.2.2.1, sV x17.2.2.2.1, bV x17.2.2.2.2] 68]) (v := fun g => sV x17.2.2.2.1) (fun g => o_load (i := 1) (v := sV x17.2.2.2.1) (by kernel_rfl) (by kernel_rfl) (by kernel_rfl)) (fun g => by kernel_rfl), ob_s (l := fun g => [mapR Value.string (Value.int .i64) b10 ah]) (l' := fun g => [mapR Value.string (Value.int .i64) b10 ah]) (v := fun g => iV ((lk ah x17.2.2.2.1).getD (0 : Int))) (fun g => o_look (fv := (Value.int .i64)) (l := ah) (0 : Int) x17.2.2.2.1 (by kernel_rfl) (by kernel_rfl) (strKey Try.underlying9) Try.underlying65 (fun w => by kernel_rfl)) (fun g => by kernel_rfl), ob_v (v := fun g => bV false) (fun g => OprV.re (o_eqI (k := .i64) (a := ((lk ah x17.2.2.2.1).getD (0 : Int))) (b := 0) (by kernel_rfl) (by kernel_rfl)) (vF (by rw [hFv]; omega))) (fun g => by kernel_rfl), ob_val fun g w => by kernel_rfl, trivial⟩
                    intro g
                    refine Ex'.sub (subB_spec [0, 2, 7, 8, 9, 10, 12, 13, 147]) ?_
                    refine Ex'.as [0, 1, 2, 3, 4, 5] (σ' := [(0, iV m), (2, .slice (some ⟨g7, off8, none⟩) xs.length cap), (7, pV b3 0), (8, iV (k : Int)), (9, .map (some b10)), (10, .slice (some ⟨b28, 0, none⟩) ((T0.map (·.1)).length) c13), (12, pV b18 0), (13, iV (q : Int)), (147, bV false)]) (Γ' := [oldR w0, lfuB b3 qb4 m x17.1 ch, hpS qb4 x17.2.1 (n0 + 1), mapR Value.string (Value.int .i64) b10 ah, rowR 9 1 (.slice (some ⟨b28, 0, none⟩) ((T0.map (·.1)).length) c13) ((T0.map (·.1)).length) ((T0.map (·.1)).map Value.string), blkR b18 [bV x17.2.2.1, sV x17.2.2.2.1, bV x17.2.2.2.2] 68]) (by kernel_rfl) rfl (by kernel_rfl) (by kernel_rfl) ?_
                    refine Ex'.next ?_
                    refine Cd.condF (by kernel_rfl) ?_
                    refine Cd.skip ?_
                    refine Ex'.blockNormal ?_
                    refine Ex'.next ?_
                    refine Cd.region rfl ?_
                    refine Sq.vals [0] (rest := [1, 2]) [iV (q : Int)] (fun w => by kernel_rfl) ?_
                    refine Sq.v (r := iV ((q : Int) + 1)) (o_add (k := .i64) (a := (q : Int)) (b := 1) (c := (q : Int) + 1) (by kernel_rfl) (by kernel_rfl) (w64 rfl (by omega))) rfl (by kernel_rfl) ?_
                    refine Sq.vals [2] (rest := []) [iV ((q : Int) + 1)] (fun w => by kernel_rfl) ?_
                    refine Sq.done ?_
                    refine Ex'.round (g := q) (q + 1) ?_ ?_ (subB_eq (l := [0, 2, 7, 8, 9, 10, 12, 13]) (by kernel_rfl)) (fun w hw => hw.pickB [0, 1, 2, 3, 4, 5] (by kernel_rfl) (by kernel_rfl) (by kernel_rfl))
                    · (try dsimp only); exact (by omega : q + 1 ≤ (T0.map (·.1)).length)
                    · omega
                  ·
                    refine Sq.vals [5, 6, 7] (rest := []) [undef, undef, bV false] (fun w => by kernel_rfl) ?_
                    refine Sq.done ?_
                    refine Ex'.next ?_
                    refine Cd.condF (by kernel_rfl) ?_
                    refine Cd.exit ?_
                    refine Ex'.thenExit ?_
                    refine Ex'.thenExit ?_
                    refine Ex'.blockHit ?_
                    refine Ex'.blockNormal ?_
                    refine Ex'.next ?_
                    refine Cd.region rfl ?_
                    refine Sq.vals [0] (rest := [1, 2]) [iV (k : Int)] (fun w => by kernel_rfl) ?_
                    refine Sq.v (r := iV ((k : Int) + 1)) (o_add (k := .i64) (a := (k : Int)) (b := 1) (c := (k : Int) + 1) (by kernel_rfl) (by kernel_rfl) (w64 rfl (by omega))) rfl (by kernel_rfl) ?_
                    refine Sq.vals [2] (rest := []) [iV ((k : Int) + 1)] (fun w => by kernel_rfl) ?_
                    refine Sq.done ?_
                    refine Ex'.round (g := (k, now0, T0, n0)) (k + 1, x17.1, x17.2.1, n0 + 1) ?_ ?_ (subB_eq (l := [0, 2, 7, 8]) (by kernel_rfl)) (fun w hw => hw.pickB [0, 1, 2] (by kernel_rfl) (by kernel_rfl) (by kernel_rfl))
                    · (try dsimp only); exact ⟨by omega, hR.i, by omega, by omega⟩
                    · omega
            ·
              rcases Bool.eq_false_or_eq_true ((!x17.2.2.1)) with h30 | h30
              ·
                have hnh : ¬ 0 < tms T0 kyk := by rw [hRh] at h30; simpa using h30
                refine Cd.plan (0 :: 1 :: 0 :: 0 :: 0 :: 24 :: 56 :: 124 :: 252 :: 511 :: 1023 :: 2047 :: 2047 :: 2047 :: 14335 :: 30719 :: 65535 :: 2047 :: 2047 :: 2047 :: 788479 :: 1837055 :: 4065279 :: 8259583 :: 16777215 :: 33554431 :: 67108863 :: 134217727 :: 268435455 :: 536870911 :: 1073741823 :: 2147483647 :: 4294967295 :: 8589934591 :: 17179869183 :: 34359738367 :: 68719476735 :: 34359738367 :: 274877906943 :: 549755813887 :: 1099511627775 :: 2199023255551 :: 4398046511103 :: 2199023255551 :: 10995116277759 :: 28587302322175 :: 63771674411007 :: 134140418588671 :: 274877906943999 :: 134140418588671 :: 1119302837075967 :: 2245202743918591 :: 4503599627370495 :: 9007199254740991 :: []) [(1, [(5, false, 0)]), (6, [(0, false, 0)]), (7, [(3, false, 0)]), (15, [(0, false, 0)]), (16, [(1, false, 0), (2, false, 0)]), (21, [(0, false, 0)]), (22, [(3, false, 0)]), (28, [(5, false, 0)]), (36, [(1, false, 0), (2, false, 0)]), (42, [(5, false, 0)]), (44, [(5, false, 0)])] [] [] [] ((fun g => pV b18 0) :: (fun g => bV x17.2.2.1) :: (fun g => .map (some b10)) :: (fun g => .slice (some ⟨g7, off8, none⟩) xs.length cap) :: (fun g => iV (k : Int)) :: (fun g => pV g7 (off8 + k)) :: (fun g => sV kyk) :: (fun g => iV ((lk ah kyk).getD (0 : Int))) :: (fun g => bV (decide (((lk ah kyk).getD (0 : Int)) > 0))) :: (fun g => bV false) :: (fun g => bV false) :: (fun g => pV b3 0) :: (fun g => .slice (some ⟨g7, off8, none⟩) xs.length cap) :: (fun g => iV (k : Int)) :: (fun g => pV g7 (off8 + k)) :: (fun g => sV kyk) :: (fun g => iV (tms x17.2.1 kyk)) :: (fun g => .map (some b10)) :: (fun g => .slice (some ⟨g7, off8, none⟩) xs.length cap) :: (fun g => iV (k : Int)) :: (fun g => pV g7 (off8 + k)) :: (fun g => sV kyk) :: (fun g => iV ((lk ah kyk).getD (0 : Int))) :: (fun g => iV (((lk ah kyk).getD (0 : Int)) + 1)) :: (fun g => bV false) :: (fun g => bV false) :: (fun g => bV false) :: (fun g => pV b18 2) :: (fun g => bV x17.2.2.2.2) :: (fun g => bV false) :: (fun g => undef) :: (fun g => undef) :: (fun g => bV false) :: (fun g => bV false) :: (fun g => bV false) :: (fun g => pV b3 0) :: (fun g => iV (x17.2.1.length : Int)) :: (fun g => iV m) :: (fun g => bV false) :: (fun g => bV false) :: (fun g => bV false) :: (fun g => pV b18 2) :: (fun g => bV x17.2.2.2.2) :: (fun g => pV b18 0) :: (fun g => bV x17.2.2.1) :: (fun g => bV true) :: (fun g => bV true) :: (fun g => .slice a12 ((T0.map (·.1)).length) c13) :: (fun g => iV ((T0.map (·.1)).length : Int)) :: (fun g => iV m) :: (fun g => bV (decide (((T0.map (·.1)).length : Int) = m))) :: (fun g => bV (decide (((T0.map (·.1)).length : Int) = m))) :: (fun g => bV false) :: (fun g => bV false) :: []) (by kernel_rfl) (by kernel_rfl) rfl (trivial) ?_ ?_
                · exact ⟨ob_val fun g w => by kernel_rfl, ob_s (l := fun g => [blkR b18 [bV x17.2.2.1, sV x17.2.2.2.1, bV x17.2.2.2.2] 68]) (l' := fun g => [blkR b18 [bV x17.2.2.1, sV x17.2.2.2.1, bV x17.2.2.2.2] 68]) (v := fun g => bV x17.2.2.1) (fun g => o_load (i := 0) (v := bV x17.2.2.1) (by kernel_rfl) (by kernel_rfl) (by kernel_rfl)) (fun g => by kernel_rfl), ob_val fun g w => by kernel_rfl, ob_val fun g w => by kernel_rfl, ob_val fun g w => by kernel_rfl, ob_v (v := fun g => pV g7 (off8 + k)) (fun g => o_idx (b := g7) (cap := cap) (e := 9) (off := off8) (n := xs.length) (kd := .i64) (q := (k : Int)) (i := k) (size := 1) (j := off8 + k) (by kernel_rfl) (by kernel_rfl) (by rfl) (by omega) Try.underlying47 (by kernel_rfl) (by omega)) (fun g => by kernel_rfl), ob_s (l := fun g => [oldR w0]) (l' := fun g => [oldR w0]) (v := fun g => sV kyk) (fun g => o_loadOld (b := g7) (j := off8 + k) (u := sV kyk) (by kernel_rfl) (by kernel_rfl) (hrk 0 _ rfl)) (fun g => by kernel_rfl), ob_s (l := fun g => [mapR Value.string (Value.int .i64) b10 ah]) (l' := fun g => [mapR Value.string (Value.int .i64) b10 ah]) (v := fun g => iV ((lk ah kyk).getD (0 : Int))) (fun g => o_look (fv := (Value.int .i64)) (l := ah) (0 : Int) kyk (by kernel_rfl) (by kernel_rfl) (strKey Try.underlying9) Try.underlying65 (fun w => by kernel_rfl)) (fun g => by kernel_rfl), ob_val fun g w => by kernel_rfl, ob_v (v := fun g => bV false) (fun g => OprV.re (pureV (v := bV (!(x17.2.2.1 == (decide (((lk ah kyk).getD (0 : Int)) > 0))))) (by kernel_rfl) rfl fun w => by kernel_rfl) (congrArg Value.bool (show (!(x17.2.2.1 == (decide (((lk ah kyk).getD (0 : Int)) > 0)))) = false from (by rw [hFk, hRh]; simp)))) (fun g => by kernel_rfl), ob_val fun g w => by kernel_rfl, ob_val fun g w => by kernel_rfl, ob_val fun g w => by kernel_rfl, ob_val fun g w => by kernel_rfl, ob_v (v := fun g => pV g7 (off8 + k)) (fun g => o_idx (b := g7) (cap := cap) (e := 9) (off := off8) (n := xs.length) (kd := .i64) (q := (k : Int)) (i := k) (size := 1) (j := off8 + k) (by kernel_rfl) (by kernel_rfl) (by rfl) (by omega) Try.underlying47 (by kernel_rfl) (by omega)) (fun g => by kernel_rfl), ob_s (l := fun g => [oldR w0]) (l' := fun g => [oldR w0]) (v := fun g => sV kyk) (fun g => o_loadOld (b := g7) (j := off8 + k) (u := sV kyk) (by kernel_rfl) (by kernel_rfl) (hrk 0 _ rfl)) (fun g => by kernel_rfl), ob_s (l := fun g => [lfuB b3 qb4 m x17.1 ch, hpS qb4 x17.2.1 (n0 + 1)]) (l' := fun g => [lfuB b3 qb4 m x17.1 ch, hpS qb4 x17.2.1 (n0 + 1)]) (v := fun g => iV (tms x17.2.1 kyk)) (fun g => o_call (by kernel_rfl) Try.call32 (Tri.eq (l2 := lfuL b3 qb4 m x17.1 ch x17.2.1 (n0 + 1)) (r' := iV (tms x17.2.1 kyk)) (lfu_Times (n := n0 + 1) (most := m) (now := x17.1) (churn := ch) (S := x17.2.1) kyk (by omega)) (rfl) (rfl))) (fun g => by kernel_rfl), ob_val fun g w => by kernel_rfl, ob_val fun g w => by kernel_rfl, ob_val fun g w => by kernel_rfl, ob_v (v := fun g => pV g7 (off8 + k)) (fun g => o_idx (b := g7) (cap := cap) (e := 9) (off := off8) (n := xs.length) (kd := .i64) (q := (k : Int)) (i := k) (size := 1) (j := off8 + k) (by kernel_rfl) (by kernel_rfl) (by rfl) (by omega) Try.underlying47 (by kernel_rfl) (by omega)) (fun g => by kernel_rfl), ob_s (l := fun g => [oldR w0]) (l' := fun g => [oldR w0]) (v := fun g => sV kyk) (fun g => o_loadOld (b := g7) (j := off8 + k) (u := sV kyk) (by kernel_rfl) (by kernel_rfl) (hrk 0 _ rfl)) (fun g => by kernel_rfl), ob_s (l := fun g => [mapR Value.string (Value.int .i64) b10 ah]) (l' := fun g => [mapR Value.string (Value.int .i64) b10 ah]) (v := fun g => iV ((lk ah kyk).getD (0 : Int))) (fun g => o_look (fv := (Value.int .i64)) (l := ah) (0 : Int) kyk (by kernel_rfl) (by kernel_rfl) (strKey Try.underlying9) Try.underlying65 (fun w => by kernel_rfl)) (fun g => by kernel_rfl), ob_v (v := fun g => iV (((lk ah kyk).getD (0 : Int)) + 1)) (fun g => o_add (k := .i64) (a := ((lk ah kyk).getD (0 : Int))) (b := 1) (c := ((lk ah kyk).getD (0 : Int)) + 1) (by kernel_rfl) (by kernel_rfl) (w64 rfl (by omega))) (fun g => by kernel_rfl), ob_v (v := fun g => bV false) (fun g => OprV.re (o_neI (k := .i64) (a := tms x17.2.1 kyk) (b := ((lk ah kyk).getD (0 : Int)) + 1) (by kernel_rfl) (by kernel_rfl)) (vF (by rw [hFk]; omega))) (fun g => by kernel_rfl), ob_val fun g w => by kernel_rfl, ob_val fun g w => by kernel_rfl, ob_val fun g w => by kernel_rfl, ob_s (l := fun g => [blkR b18 [bV x17.2.2.1, sV x17.2.2.2.1, bV x17.2.2.2.2] 68]) (l' := fun g => [blkR b18 [bV x17.2.2.1, sV x17.2.2.2.1, bV x17.2.2.2.2] 68]) (v := fun g => bV x17.2.2.2.2) (fun g => o_load (i := 2) (v := bV x17.2.2.2.2) (by kernel_rfl) (by kernel_rfl) (by kernel_rfl)) (fun g => by kernel_rfl), ob_v (v := fun g => bV false) (fun g => OprV.re (pureV (v := bV x17.2.2.2.2) (by kernel_rfl) rfl fun w => by kernel_rfl) (congrArg Value.bool (show x17.2.2.2.2 = false from h19))) (fun g => by kernel_rfl), ob_val fun g w => by kernel_rfl, ob_val fun g w => by kernel_rfl, ob_val fun g w => by kernel_rfl, ob_val fun g w => by kernel_rfl, ob_val fun g w => by kernel_rfl, ob_val fun g w => by kernel_rfl, ob_s (l := fun g => [lfuB b3 qb4 m x17.1 ch, hpS qb4 x17.2.1 (n0 + 1)]) (l' := fun g => [lfuB b3 qb4 m x17.1 ch, hpS qb4 x17.2.1 (n0 + 1)]) (v := fun g => iV (x17.2.1.length : Int)) (fun g => o_call (by kernel_rfl) Try.call34 (Tri.eq (l2 := lfuL b3 qb4 m x17.1 ch x17.2.1 (n0 + 1)) (r' := iV (x17.2.1.length : Int)) (lfu_Len (n := n0 + 1) (most := m) (now := x17.1) (churn := ch) (S := x17.2.1) (by omega)) (rfl) (rfl))) (fun g => by kernel_rfl), ob_val fun g w => by kernel_rfl, ob_v (v := fun g => bV false) (fun g => OprV.re (pureV (v := bV (decide ((x17.2.1.length : Int) > m))) (by kernel_rfl) rfl fun w => by kernel_rfl) (vF (by omega))) (fun g => by kernel_rfl), ob_val fun g w => by kernel_rfl, ob_val fun g w => by kernel_rfl, ob_val fun g w => by kernel_rfl, ob_s (l := fun g => [blkR b18 [bV x17.2.2.1, sV x17.2.2.2.1, bV x17.2.2.2.2] 68]) (l' := fun g => [blkR b18 [bV x17.2.2.1, sV x17.2.2.2.1, bV x17.2.2.2.2] 68]) (v := fun g => bV x17.2.2.2.2) (fun g => o_load (i := 2) (v := bV x17.2.2.2.2) (by kernel_rfl) (by kernel_rfl) (by kernel_rfl)) (fun g => by kernel_rfl), ob_val fun g w => by kernel_rfl, ob_s (l := fun g => [blkR b18 [bV x17.2.2.1, sV x17.2.2.2.1, bV x17.2.2.2.2] 68]) (l' := fun g => [blkR b18 [bV x17.2.2.1, sV x17.2.2.2.1, bV x17.2.2.2.2] 68]) (v := fun g => bV x17.2.2.1) (fun g => o_load (i := 0) (v := bV x17.2.2.1) (by kernel_rfl) (by kernel_rfl) (by kernel_rfl)) (fun g => by kernel_rfl), ob_v (v := fun g => bV true) (fun g => OprV.re (pureV (v := bV (!x17.2.2.1)) (by kernel_rfl) rfl fun w => by kernel_rfl) (congrArg Value.bool (show (!x17.2.2.1) = true from h30))) (fun g => by kernel_rfl), ob_val fun g w => by kernel_rfl, ob_val fun g w => by kernel_rfl, ob_val fun g w => by kernel_rfl, ob_val fun g w => by kernel_rfl, ob_v (v := fun g => bV (decide (((T0.map (·.1)).length : Int) = m))) (fun g => o_eqI (k := .i64) (a := ((T0.map (·.1)).length : Int)) (b := m) (by kernel_rfl) (by kernel_rfl)) (fun g => by kernel_rfl), ob_val fun g w => by kernel_rfl, ob_v (v := fun g => bV false) (fun g => OprV.re (pureV (v := bV (!(x17.2.2.2.2 == (decide (((T0.map (·.1)).length : Int) = m))))) (by kernel_rfl) rfl fun w => by kernel_rfl) (congrArg Value.bool (show (!(x17.2.2.2.2 == (decide (((T0.map (·.1)).length : Int) = m)))) = false from (by rw [hRo]; first | (simp; done) | (simp; omega) | (simp; intros; omega))))) (fun g => by kernel_rfl), ob_val fun g w => by kernel_rfl, trivial⟩
                intro g
                refine Ex'.sub (subB_spec [0, 2, 7, 8, 9, 10, 12, 119]) ?_
                refine Ex'.as [0, 1, 2, 3, 4, 5] (σ' := [(0, iV m), (2, .slice (some ⟨g7, off8, none⟩) xs.length cap), (7, pV b3 0), (8, iV (k : Int)), (9, .map (some b10)), (10, .slice a12 ((T0.map (·.1)).length) c13), (12, pV b18 0), (119, bV false)]) (Γ' := [oldR w0, lfuB b3 qb4 m x17.1 ch, hpS qb4 x17.2.1 (n0 + 1), mapR Value.string (Value.int .i64) b10 ah, rowR 9 1 (.slice a12 ((T0.map (·.1)).length) c13) ((T0.map (·.1)).length) ((T0.map (·.1)).map Value.string), blkR b18 [bV x17.2.2.1, sV x17.2.2.2.1, bV x17.2.2.2.2] 68]) (by kernel_rfl) rfl (by kernel_rfl) (by kernel_rfl) ?_
                refine Ex'.next ?_
                refine Cd.condF (by kernel_rfl) ?_
                refine Cd.skip ?_
                refine Ex'.next ?_
                refine Cd.seq ?_
                refine Cd.region rfl ?_
                refine Sq.vals [0] (rest := []) [iV 0] (fun w => by kernel_rfl) ?_
                refine Sq.done ?_
                refine Ex'.next ?_
                refine Cd.block ?_
                refine Cd.loop (ι := Nat) (fun q => q ≤ (T0.map (·.1)).length) (fun q => (T0.map (·.1)).length - q) (fun q => [(0, iV m), (2, .slice (some ⟨g7, off8, none⟩) xs.length cap), (7, pV b3 0), (8, iV (k : Int)), (9, .map (some b10)), (10, .slice a12 ((T0.map (·.1)).length) c13), (12, pV b18 0), (13, iV (q : Int))]) (fun q => [oldR w0, lfuB b3 qb4 m x17.1 ch, hpS qb4 x17.2.1 (n0 + 1), mapR Value.string (Value.int .i64) b10 ah, rowR 9 1 (.slice a12 ((T0.map (·.1)).length) c13) ((T0.map (·.1)).length) ((T0.map (·.1)).map Value.string), blkR b18 [bV x17.2.2.1, sV x17.2.2.2.1, bV x17.2.2.2.2] 68]) 0 (Nat.zero_le _) (subB_eq (l := [0, 2, 7, 8, 9, 10, 12, 13]) (by kernel_rfl)) (fun w hw => hw.pickB [0, 1, 2, 3, 4, 5] (by kernel_rfl) (by kernel_rfl) (by kernel_rfl)) ?_
                rintro q hL31
                try dsimp only at hL31 ⊢
                have hq := hL31
                refine Cd.seq ?_
                refine Cd.seq ?_
                refine Cd.region rfl ?_
                refine Sq.vals [0, 1, 2, 3, 4] (rest := [5, 6, 7]) [iV (q : Int), .slice a12 ((T0.map (·.1)).length) c13, iV ((T0.map (·.1)).length : Int), bV (decide ((q : Int) < ((T0.map (·.1)).length : Int))), bV (decide ((q : Int) < ((T0.map (·.1)).length : Int)))] (fun w => by kernel_rfl) ?_
                refine Sq.case 124 (p := (q : Int) < ((T0.map (·.1)).length : Int)) rfl (fun h32 => ?_) (fun h32 => ?_)
                ·
                  refine Sq.vals [5] (rest := [6, 7]) [pV b18 2] (fun w => by kernel_rfl) ?_
                  refine Sq.same [5] (l := [blkR b18 [bV x17.2.2.1, sV x17.2.2.2.1, bV x17.2.2.2.2] 68]) (o_load (i := 2) (v := bV x17.2.2.2.2) (by kernel_rfl) (by kernel_rfl) (by kernel_rfl)) (by kernel_rfl) rfl (by kernel_rfl) rfl ?_
                  refine Sq.vals [7] (rest := []) [bV x17.2.2.2.2] (fun w => by kernel_rfl) ?_
                  refine Sq.done ?_
                  refine Ex'.next ?_
                  refine Cd.condF (by rw [show ev _ _ = some (.bool (x17.2.2.2.2)) from by kernel_rfl, show x17.2.2.2.2 = false from h19]) ?_
                  refine Cd.exit ?_
                  refine Ex'.thenExit ?_
                  refine Ex'.thenExit ?_
                  refine Ex'.blockHit ?_
                  refine Ex'.blockNormal ?_
                  refine Ex'.next ?_
                  refine Cd.region rfl ?_
                  refine Sq.vals [0] (rest := [1, 2]) [iV (k : Int)] (fun w => by kernel_rfl) ?_
                  refine Sq.v (r := iV ((k : Int) + 1)) (o_add (k := .i64) (a := (k : Int)) (b := 1) (c := (k : Int) + 1) (by kernel_rfl) (by kernel_rfl) (w64 rfl (by omega))) rfl (by kernel_rfl) ?_
                  refine Sq.vals [2] (rest := []) [iV ((k : Int) + 1)] (fun w => by kernel_rfl) ?_
                  refine Sq.done ?_
                  refine Ex'.round (g := (k, now0, T0, n0)) (k + 1, x17.1, x17.2.1, n0 + 1) ?_ ?_ (subB_eq (l := [0, 2, 7, 8]) (by kernel_rfl)) (fun w hw => hw.pickB [0, 1, 2] (by kernel_rfl) (by kernel_rfl) (by kernel_rfl))
                  · (try dsimp only); exact ⟨by omega, hR.i, by omega, by omega⟩
                  · omega
                ·
                  refine Sq.vals [5, 6, 7] (rest := []) [undef, undef, bV false] (fun w => by kernel_rfl) ?_
                  refine Sq.done ?_
                  refine Ex'.next ?_
                  refine Cd.condF (by kernel_rfl) ?_
                  refine Cd.exit ?_
                  refine Ex'.thenExit ?_
                  refine Ex'.thenExit ?_
                  refine Ex'.blockHit ?_
                  refine Ex'.blockNormal ?_
                  refine Ex'.next ?_
                  refine Cd.region rfl ?_
                  refine Sq.vals [0] (rest := [1, 2]) [iV (k : Int)] (fun w => by kernel_rfl) ?_
                  refine Sq.v (r := iV ((k : Int) + 1)) (o_add (k := .i64) (a := (k : Int)) (b := 1) (c := (k : Int) + 1) (by kernel_rfl) (by kernel_rfl) (w64 rfl (by omega))) rfl (by kernel_rfl) ?_
                  refine Sq.vals [2] (rest := []) [iV ((k : Int) + 1)] (fun w => by kernel_rfl) ?_
                  refine Sq.done ?_
                  refine Ex'.round (g := (k, now0, T0, n0)) (k + 1, x17.1, x17.2.1, n0 + 1) ?_ ?_ (subB_eq (l := [0, 2, 7, 8]) (by kernel_rfl)) (fun w hw => hw.pickB [0, 1, 2] (by kernel_rfl) (by kernel_rfl) (by kernel_rfl))
                  · (try dsimp only); exact ⟨by omega, hR.i, by omega, by omega⟩
                  · omega
              ·
                have hyh : 0 < tms T0 kyk := by rw [hRh] at h30; simpa using h30
                refine Cd.plan (0 :: 1 :: 0 :: 0 :: 0 :: 24 :: 56 :: 124 :: 252 :: 511 :: 1023 :: 2047 :: 2047 :: 2047 :: 14335 :: 30719 :: 65535 :: 2047 :: 2047 :: 2047 :: 788479 :: 1837055 :: 4065279 :: 8259583 :: 16777215 :: 33554431 :: 67108863 :: 134217727 :: 268435455 :: 536870911 :: 1073741823 :: 2147483647 :: 4294967295 :: 8589934591 :: 17179869183 :: 34359738367 :: 68719476735 :: 34359738367 :: 274877906943 :: 549755813887 :: 1099511627775 :: 2199023255551 :: 4398046511103 :: 2199023255551 :: 10995116277759 :: 28587302322175 :: 63771674411007 :: 134140418588671 :: 274877906943999 :: 134140418588671 :: 1119302837075967 :: 2245202743918591 :: 4503599627370495 :: 9007199254740991 :: []) [(1, [(5, false, 0)]), (6, [(0, false, 0)]), (7, [(3, false, 0)]), (15, [(0, false, 0)]), (16, [(1, false, 0), (2, false, 0)]), (21, [(0, false, 0)]), (22, [(3, false, 0)]), (28, [(5, false, 0)]), (36, [(1, false, 0), (2, false, 0)]), (42, [(5, false, 0)]), (44, [(5, false, 0)])] [] [] [] ((fun g => pV b18 0) :: (fun g => bV x17.2.2.1) :: (fun g => .map (some b10)) :: (fun g => .slice (some ⟨g7, off8, none⟩) xs.length cap) :: (fun g => iV (k : Int)) :: (fun g => pV g7 (off8 + k)) :: (fun g => sV kyk) :: (fun g => iV ((lk ah kyk).getD (0 : Int))) :: (fun g => bV (decide (((lk ah kyk).getD (0 : Int)) > 0))) :: (fun g => bV false) :: (fun g => bV false) :: (fun g => pV b3 0) :: (fun g => .slice (some ⟨g7, off8, none⟩) xs.length cap) :: (fun g => iV (k : Int)) :: (fun g => pV g7 (off8 + k)) :: (fun g => sV kyk) :: (fun g => iV (tms x17.2.1 kyk)) :: (fun g => .map (some b10)) :: (fun g => .slice (some ⟨g7, off8, none⟩) xs.length cap) :: (fun g => iV (k : Int)) :: (fun g => pV g7 (off8 + k)) :: (fun g => sV kyk) :: (fun g => iV ((lk ah kyk).getD (0 : Int))) :: (fun g => iV (((lk ah kyk).getD (0 : Int)) + 1)) :: (fun g => bV false) :: (fun g => bV false) :: (fun g => bV false) :: (fun g => pV b18 2) :: (fun g => bV x17.2.2.2.2) :: (fun g => bV false) :: (fun g => undef) :: (fun g => undef) :: (fun g => bV false) :: (fun g => bV false) :: (fun g => bV false) :: (fun g => pV b3 0) :: (fun g => iV (x17.2.1.length : Int)) :: (fun g => iV m) :: (fun g => bV false) :: (fun g => bV false) :: (fun g => bV false) :: (fun g => pV b18 2) :: (fun g => bV x17.2.2.2.2) :: (fun g => pV b18 0) :: (fun g => bV x17.2.2.1) :: (fun g => bV false) :: (fun g => bV false) :: (fun g => undef) :: (fun g => undef) :: (fun g => undef) :: (fun g => undef) :: (fun g => bV false) :: (fun g => bV false) :: (fun g => bV false) :: []) (by kernel_rfl) (by kernel_rfl) rfl (trivial) ?_ ?_
                · exact ⟨ob_val fun g w => by kernel_rfl, ob_s (l := fun g => [blkR b18 [bV x17.2.2.1, sV x17.2.2.2.1, bV x17.2.2.2.2] 68]) (l' := fun g => [blkR b18 [bV x17.2.2.1, sV x17.2.2.2.1, bV x17.2.2.2.2] 68]) (v := fun g => bV x17.2.2.1) (fun g => o_load (i := 0) (v := bV x17.2.2.1) (by kernel_rfl) (by kernel_rfl) (by kernel_rfl)) (fun g => by kernel_rfl), ob_val fun g w => by kernel_rfl, ob_val fun g w => by kernel_rfl, ob_val fun g w => by kernel_rfl, ob_v (v := fun g => pV g7 (off8 + k)) (fun g => o_idx (b := g7) (cap := cap) (e := 9) (off := off8) (n := xs.length) (kd := .i64) (q := (k : Int)) (i := k) (size := 1) (j := off8 + k) (by kernel_rfl) (by kernel_rfl) (by rfl) (by omega) Try.underlying47 (by kernel_rfl) (by omega)) (fun g => by kernel_rfl), ob_s (l := fun g => [oldR w0]) (l' := fun g => [oldR w0]) (v := fun g => sV kyk) (fun g => o_loadOld (b := g7) (j := off8 + k) (u := sV kyk) (by kernel_rfl) (by kernel_rfl) (hrk 0 _ rfl)) (fun g => by kernel_rfl), ob_s (l := fun g => [mapR Value.string (Value.int .i64) b10 ah]) (l' := fun g => [mapR Value.string (Value.int .i64) b10 ah]) (v := fun g => iV ((lk ah kyk).getD (0 : Int))) (fun g => o_look (fv := (Value.int .i64)) (l := ah) (0 : Int) kyk (by kernel_rfl) (by kernel_rfl) (strKey Try.underlying9) Try.underlying65 (fun w => by kernel_rfl)) (fun g => by kernel_rfl), ob_val fun g w => by kernel_rfl, ob_v (v := fun g => bV false) (fun g => OprV.re (pureV (v := bV (!(x17.2.2.1 == (decide (((lk ah kyk).getD (0 : Int)) > 0))))) (by kernel_rfl) rfl fun w => by kernel_rfl) (congrArg Value.bool (show (!(x17.2.2.1 == (decide (((lk ah kyk).getD (0 : Int)) > 0)))) = false from (by rw [hFk, hRh]; simp)))) (fun g => by kernel_rfl), ob_val fun g w => by kernel_rfl, ob_val fun g w => by kernel_rfl, ob_val fun g w => by kernel_rfl, ob_val fun g w => by kernel_rfl, ob_v (v := fun g => pV g7 (off8 + k)) (fun g => o_idx (b := g7) (cap := cap) (e := 9) (off := off8) (n := xs.length) (kd := .i64) (q := (k : Int)) (i := k) (size := 1) (j := off8 + k) (by kernel_rfl) (by kernel_rfl) (by rfl) (by omega) Try.underlying47 (by kernel_rfl) (by omega)) (fun g => by kernel_rfl), ob_s (l := fun g => [oldR w0]) (l' := fun g => [oldR w0]) (v := fun g => sV kyk) (fun g => o_loadOld (b := g7) (j := off8 + k) (u := sV kyk) (by kernel_rfl) (by kernel_rfl) (hrk 0 _ rfl)) (fun g => by kernel_rfl), ob_s (l := fun g => [lfuB b3 qb4 m x17.1 ch, hpS qb4 x17.2.1 (n0 + 1)]) (l' := fun g => [lfuB b3 qb4 m x17.1 ch, hpS qb4 x17.2.1 (n0 + 1)]) (v := fun g => iV (tms x17.2.1 kyk)) (fun g => o_call (by kernel_rfl) Try.call32 (Tri.eq (l2 := lfuL b3 qb4 m x17.1 ch x17.2.1 (n0 + 1)) (r' := iV (tms x17.2.1 kyk)) (lfu_Times (n := n0 + 1) (most := m) (now := x17.1) (churn := ch) (S := x17.2.1) kyk (by omega)) (rfl) (rfl))) (fun g => by kernel_rfl), ob_val fun g w => by kernel_rfl, ob_val fun g w => by kernel_rfl, ob_val fun g w => by kernel_rfl, ob_v (v := fun g => pV g7 (off8 + k)) (fun g => o_idx (b := g7) (cap := cap) (e := 9) (off := off8) (n := xs.length) (kd := .i64) (q := (k : Int)) (i := k) (size := 1) (j := off8 + k) (by kernel_rfl) (by kernel_rfl) (by rfl) (by omega) Try.underlying47 (by kernel_rfl) (by omega)) (fun g => by kernel_rfl), ob_s (l := fun g => [oldR w0]) (l' := fun g => [oldR w0]) (v := fun g => sV kyk) (fun g => o_loadOld (b := g7) (j := off8 + k) (u := sV kyk) (by kernel_rfl) (by kernel_rfl) (hrk 0 _ rfl)) (fun g => by kernel_rfl), ob_s (l := fun g => [mapR Value.string (Value.int .i64) b10 ah]) (l' := fun g => [mapR Value.string (Value.int .i64) b10 ah]) (v := fun g => iV ((lk ah kyk).getD (0 : Int))) (fun g => o_look (fv := (Value.int .i64)) (l := ah) (0 : Int) kyk (by kernel_rfl) (by kernel_rfl) (strKey Try.underlying9) Try.underlying65 (fun w => by kernel_rfl)) (fun g => by kernel_rfl), ob_v (v := fun g => iV (((lk ah kyk).getD (0 : Int)) + 1)) (fun g => o_add (k := .i64) (a := ((lk ah kyk).getD (0 : Int))) (b := 1) (c := ((lk ah kyk).getD (0 : Int)) + 1) (by kernel_rfl) (by kernel_rfl) (w64 rfl (by omega))) (fun g => by kernel_rfl), ob_v (v := fun g => bV false) (fun g => OprV.re (o_neI (k := .i64) (a := tms x17.2.1 kyk) (b := ((lk ah kyk).getD (0 : Int)) + 1) (by kernel_rfl) (by kernel_rfl)) (vF (by rw [hFk]; omega))) (fun g => by kernel_rfl), ob_val fun g w => by kernel_rfl, ob_val fun g w => by kernel_rfl, ob_val fun g w => by kernel_rfl, ob_s (l := fun g => [blkR b18 [bV x17.2.2.1, sV x17.2.2.2.1, bV x17.2.2.2.2] 68]) (l' := fun g => [blkR b18 [bV x17.2.2.1, sV x17.2.2.2.1, bV x17.2.2.2.2] 68]) (v := fun g => bV x17.2.2.2.2) (fun g => o_load (i := 2) (v := bV x17.2.2.2.2) (by kernel_rfl) (by kernel_rfl) (by kernel_rfl)) (fun g => by kernel_rfl), ob_v (v := fun g => bV false) (fun g => OprV.re (pureV (v := bV x17.2.2.2.2) (by kernel_rfl) rfl fun w => by kernel_rfl) (congrArg Value.bool (show x17.2.2.2.2 = false from h19))) (fun g => by kernel_rfl), ob_val fun g w => by kernel_rfl, ob_val fun g w => by kernel_rfl, ob_val fun g w => by kernel_rfl, ob_val fun g w => by kernel_rfl, ob_val fun g w => by kernel_rfl, ob_val fun g w => by kernel_rfl, ob_s (l := fun g => [lfuB b3 qb4 m x17.1 ch, hpS qb4 x17.2.1 (n0 + 1)]) (l' := fun g => [lfuB b3 qb4 m x17.1 ch, hpS qb4 x17.2.1 (n0 + 1)]) (v := fun g => iV (x17.2.1.length : Int)) (fun g => o_call (by kernel_rfl) Try.call34 (Tri.eq (l2 := lfuL b3 qb4 m x17.1 ch x17.2.1 (n0 + 1)) (r' := iV (x17.2.1.length : Int)) (lfu_Len (n := n0 + 1) (most := m) (now := x17.1) (churn := ch) (S := x17.2.1) (by omega)) (rfl) (rfl))) (fun g => by kernel_rfl), ob_val fun g w => by kernel_rfl, ob_v (v := fun g => bV false) (fun g => OprV.re (pureV (v := bV (decide ((x17.2.1.length : Int) > m))) (by kernel_rfl) rfl fun w => by kernel_rfl) (vF (by omega))) (fun g => by kernel_rfl), ob_val fun g w => by kernel_rfl, ob_val fun g w => by kernel_rfl, ob_val fun g w => by kernel_rfl, ob_s (l := fun g => [blkR b18 [bV x17.2.2.1, sV x17.2.2.2.1, bV x17.2.2.2.2] 68]) (l' := fun g => [blkR b18 [bV x17.2.2.1, sV x17.2.2.2.1, bV x17.2.2.2.2] 68]) (v := fun g => bV x17.2.2.2.2) (fun g => o_load (i := 2) (v := bV x17.2.2.2.2) (by kernel_rfl) (by kernel_rfl) (by kernel_rfl)) (fun g => by kernel_rfl), ob_val fun g w => by kernel_rfl, ob_s (l := fun g => [blkR b18 [bV x17.2.2.1, sV x17.2.2.2.1, bV x17.2.2.2.2] 68]) (l' := fun g => [blkR b18 [bV x17.2.2.1, sV x17.2.2.2.1, bV x17.2.2.2.2] 68]) (v := fun g => bV x17.2.2.1) (fun g => o_load (i := 0) (v := bV x17.2.2.1) (by kernel_rfl) (by kernel_rfl) (by kernel_rfl)) (fun g => by kernel_rfl), ob_v (v := fun g => bV false) (fun g => OprV.re (pureV (v := bV (!x17.2.2.1)) (by kernel_rfl) rfl fun w => by kernel_rfl) (congrArg Value.bool (show (!x17.2.2.1) = false from h30))) (fun g => by kernel_rfl), ob_val fun g w => by kernel_rfl, ob_val fun g w => by kernel_rfl, ob_val fun g w => by kernel_rfl, ob_val fun g w => by kernel_rfl, ob_val fun g w => by kernel_rfl, ob_val fun g w => by kernel_rfl, ob_v (v := fun g => bV false) (fun g => OprV.re (pureV (v := bV (!(x17.2.2.2.2 == false))) (by kernel_rfl) rfl fun w => by kernel_rfl) (congrArg Value.bool (show (!(x17.2.2.2.2 == false)) = false from (by rw [hRo]; first | (simp; done) | (simp; omega) | (simp; intros; omega))))) (fun g => by kernel_rfl), ob_val fun g w => by kernel_rfl, trivial⟩
                intro g
                refine Ex'.sub (subB_spec [0, 2, 7, 8, 9, 10, 12, 119]) ?_
                refine Ex'.as [0, 1, 2, 3, 4, 5] (σ' := [(0, iV m), (2, .slice (some ⟨g7, off8, none⟩) xs.length cap), (7, pV b3 0), (8, iV (k : Int)), (9, .map (some b10)), (10, .slice a12 ((T0.map (·.1)).length) c13), (12, pV b18 0), (119, bV false)]) (Γ' := [oldR w0, lfuB b3 qb4 m x17.1 ch, hpS qb4 x17.2.1 (n0 + 1), mapR Value.string (Value.int .i64) b10 ah, rowR 9 1 (.slice a12 ((T0.map (·.1)).length) c13) ((T0.map (·.1)).length) ((T0.map (·.1)).map Value.string), blkR b18 [bV x17.2.2.1, sV x17.2.2.2.1, bV x17.2.2.2.2] 68]) (by kernel_rfl) rfl (by kernel_rfl) (by kernel_rfl) ?_
                refine Ex'.next ?_
                refine Cd.condF (by kernel_rfl) ?_
                refine Cd.skip ?_
                refine Ex'.next ?_
                refine Cd.seq ?_
                refine Cd.region rfl ?_
                refine Sq.vals [0] (rest := []) [iV 0] (fun w => by kernel_rfl) ?_
                refine Sq.done ?_
                refine Ex'.next ?_
                refine Cd.block ?_
                refine Cd.loop (ι := Nat) (fun q => q ≤ (T0.map (·.1)).length) (fun q => (T0.map (·.1)).length - q) (fun q => [(0, iV m), (2, .slice (some ⟨g7, off8, none⟩) xs.length cap), (7, pV b3 0), (8, iV (k : Int)), (9, .map (some b10)), (10, .slice a12 ((T0.map (·.1)).length) c13), (12, pV b18 0), (13, iV (q : Int))]) (fun q => [oldR w0, lfuB b3 qb4 m x17.1 ch, hpS qb4 x17.2.1 (n0 + 1), mapR Value.string (Value.int .i64) b10 ah, rowR 9 1 (.slice a12 ((T0.map (·.1)).length) c13) ((T0.map (·.1)).length) ((T0.map (·.1)).map Value.string), blkR b18 [bV x17.2.2.1, sV x17.2.2.2.1, bV x17.2.2.2.2] 68]) 0 (Nat.zero_le _) (subB_eq (l := [0, 2, 7, 8, 9, 10, 12, 13]) (by kernel_rfl)) (fun w hw => hw.pickB [0, 1, 2, 3, 4, 5] (by kernel_rfl) (by kernel_rfl) (by kernel_rfl)) ?_
                rintro q hL34
                try dsimp only at hL34 ⊢
                have hq := hL34
                refine Cd.seq ?_
                refine Cd.seq ?_
                refine Cd.region rfl ?_
                refine Sq.vals [0, 1, 2, 3, 4] (rest := [5, 6, 7]) [iV (q : Int), .slice a12 ((T0.map (·.1)).length) c13, iV ((T0.map (·.1)).length : Int), bV (decide ((q : Int) < ((T0.map (·.1)).length : Int))), bV (decide ((q : Int) < ((T0.map (·.1)).length : Int)))] (fun w => by kernel_rfl) ?_
                refine Sq.case 124 (p := (q : Int) < ((T0.map (·.1)).length : Int)) rfl (fun h35 => ?_) (fun h35 => ?_)
                ·
                  refine Sq.vals [5] (rest := [6, 7]) [pV b18 2] (fun w => by kernel_rfl) ?_
                  refine Sq.same [5] (l := [blkR b18 [bV x17.2.2.1, sV x17.2.2.2.1, bV x17.2.2.2.2] 68]) (o_load (i := 2) (v := bV x17.2.2.2.2) (by kernel_rfl) (by kernel_rfl) (by kernel_rfl)) (by kernel_rfl) rfl (by kernel_rfl) rfl ?_
                  refine Sq.vals [7] (rest := []) [bV x17.2.2.2.2] (fun w => by kernel_rfl) ?_
                  refine Sq.done ?_
                  refine Ex'.next ?_
                  refine Cd.condF (by rw [show ev _ _ = some (.bool (x17.2.2.2.2)) from by kernel_rfl, show x17.2.2.2.2 = false from h19]) ?_
                  refine Cd.exit ?_
                  refine Ex'.thenExit ?_
                  refine Ex'.thenExit ?_
                  refine Ex'.blockHit ?_
                  refine Ex'.blockNormal ?_
                  refine Ex'.next ?_
                  refine Cd.region rfl ?_
                  refine Sq.vals [0] (rest := [1, 2]) [iV (k : Int)] (fun w => by kernel_rfl) ?_
                  refine Sq.v (r := iV ((k : Int) + 1)) (o_add (k := .i64) (a := (k : Int)) (b := 1) (c := (k : Int) + 1) (by kernel_rfl) (by kernel_rfl) (w64 rfl (by omega))) rfl (by kernel_rfl) ?_
                  refine Sq.vals [2] (rest := []) [iV ((k : Int) + 1)] (fun w => by kernel_rfl) ?_
                  refine Sq.done ?_
                  refine Ex'.round (g := (k, now0, T0, n0)) (k + 1, x17.1, x17.2.1, n0 + 1) ?_ ?_ (subB_eq (l := [0, 2, 7, 8]) (by kernel_rfl)) (fun w hw => hw.pickB [0, 1, 2] (by kernel_rfl) (by kernel_rfl) (by kernel_rfl))
                  · (try dsimp only); exact ⟨by omega, hR.i, by omega, by omega⟩
                  · omega
                ·
                  refine Sq.vals [5, 6, 7] (rest := []) [undef, undef, bV false] (fun w => by kernel_rfl) ?_
                  refine Sq.done ?_
                  refine Ex'.next ?_
                  refine Cd.condF (by kernel_rfl) ?_
                  refine Cd.exit ?_
                  refine Ex'.thenExit ?_
                  refine Ex'.thenExit ?_
                  refine Ex'.blockHit ?_
                  refine Ex'.blockNormal ?_
                  refine Ex'.next ?_
                  refine Cd.region rfl ?_
                  refine Sq.vals [0] (rest := [1, 2]) [iV (k : Int)] (fun w => by kernel_rfl) ?_
                  refine Sq.v (r := iV ((k : Int) + 1)) (o_add (k := .i64) (a := (k : Int)) (b := 1) (c := (k : Int) + 1) (by kernel_rfl) (by kernel_rfl) (w64 rfl (by omega))) rfl (by kernel_rfl) ?_
                  refine Sq.vals [2] (rest := []) [iV ((k : Int) + 1)] (fun w => by kernel_rfl) ?_
                  refine Sq.done ?_
                  refine Ex'.round (g := (k, now0, T0, n0)) (k + 1, x17.1, x17.2.1, n0 + 1) ?_ ?_ (subB_eq (l := [0, 2, 7, 8]) (by kernel_rfl)) (fun w hw => hw.pickB [0, 1, 2] (by kernel_rfl) (by kernel_rfl) (by kernel_rfl))
                  · (try dsimp only); exact ⟨by omega, hR.i, by omega, by omega⟩
                  · omega
      ·
        refine Cd.exit ?_
        refine Ex'.thenExit ?_
        refine Ex'.thenExit ?_
        refine Ex'.blockHit ?_
        refine Ex'.next ?_
        refine Cd.seq ?_
        refine Cd.region rfl ?_
        refine Sq.vals [0] (rest := []) [bV true] (fun w => by kernel_rfl) ?_
        refine Sq.done ?_
        refine Ex'.next ?_
        refine Cd.ret ?_
        refine Ex'.ret Try.results8 (RVs.tmp (v := bV true) (by kernel_rfl) (RVs.nil)) (fun w hw => ?_)
        exact ⟨_, ⟨rfl, by kernel_rfl⟩, hw⟩

theorem lfuFewest_walk (m : Int) (ch : Bool) (v : Value) (xs : List ByteArray) (w : World) (hm : (Lit.int .i64 m).wf = true) (h : Strs w (fun k => k < w.heap.size) v xs) (hz : ∀ k ∈ xs, k.size ≤ maxLen) :
    Calls Try.prog 8 #[.int .i64 m, .bool ch, v] w fun e w' => e = .returned (.bool true) ∧ Below w.heap.size w w' := by
  obtain ⟨a, cap, rfl, hl⟩ := KeysIn.shape ⟨h, hz⟩
  exact law_of (lfuFewest_tri (range64 hm) hl ⟨h, hz⟩)

end Go.Proofs.Ytnnjccfcalgokaa
