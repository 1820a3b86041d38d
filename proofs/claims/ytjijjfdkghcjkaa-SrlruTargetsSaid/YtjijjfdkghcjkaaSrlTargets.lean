/- SrlruTargets: its walk. -/
import Derived.Test.YtjijjfdkghcjkaaSrlFew
import Derived.Test.YtjijjfdkghcjkaaSrlLaw
import Derived.Test.YtjijjfdkghcjkaaSepH
set_option linter.unusedVariables false
namespace Go.Proofs.Ytjijjfdkghcjkaa
open Go.RowKit Go.MapKept

set_option maxHeartbeats 8000000 in
set_option maxRecDepth 100000 in
theorem srlruTargets_tri {w0 : World} {m : Int} {a : Option Addr} {cap : Nat} {xs : List Act3} (hm : -9223372036854775808 ≤ m ∧ m ≤ 9223372036854775807) (hl : xs.length ≤ 9223372036854775807) (hs : ScriptIn w0 (.slice a xs.length cap) xs) : Tri Try.prog 11 #[iV m, .slice a xs.length cap] [oldR w0] (LawP w0) := by
  refine Tri.enter (args := [iV m, .slice a xs.length cap]) Try.func11 rfl rfl rfl (fun B wz => ?_)
  refine Cd.seq ?_
  refine Cd.region rfl ?_
  refine Sq.vals [0] (rest := []) [bV false] (fun w => by kernel_rfl) ?_
  refine Sq.done ?_
  refine Ex'.next ?_
  refine Cd.seq ?_
  refine Cd.seq ?_
  refine Cd.region rfl ?_
  refine Sq.same [] (l := []) (o_call (by kernel_rfl) Try.call35 (srl_awake)) (by kernel_rfl) rfl (by kernel_rfl) rfl ?_
  refine Sq.vals [1] (rest := []) [bV false] (fun w => by kernel_rfl) ?_
  refine Sq.done ?_
  refine Ex'.next ?_
  refine Cd.condF (by kernel_rfl) ?_
  refine Cd.skip ?_
  refine Ex'.next ?_
  refine Cd.seq ?_
  refine Cd.seq ?_
  refine Cd.region rfl ?_
  refine Sq.vals [0] (rest := [1, 2, 3, 4, 5, 6, 7, 8, 9, 10]) [.slice a xs.length cap] (fun w => by kernel_rfl) ?_
  refine Sq.ex [0] (l := [oldR w0]) (o_call (by kernel_rfl) Try.call25 (t_few hl hs)) (by kernel_rfl) rfl (by kernel_rfl) (fun _ => Nat.le_of_ble_eq_true (by kernel_rfl)) ?_; rintro fb1 hfew
  refine Sq.vals [2, 3] (rest := [4, 5, 6, 7, 8, 9, 10]) [bV (!fb1), bV (!fb1)] (fun w => by kernel_rfl) ?_
  refine Sq.caseB 16 (t := (!fb1)) rfl (fun h2 => ?_) (fun h2 => ?_)
  ·
    refine Sq.vals [4, 5, 6, 7, 8, 9, 10] (rest := []) [undef, undef, bV true, bV true, undef, undef, bV true] (fun w => by kernel_rfl) ?_
    refine Sq.done ?_
    refine Ex'.next ?_
    refine Cd.condT (by kernel_rfl) ?_
    refine Cd.seq ?_
    refine Cd.region rfl ?_
    refine Sq.vals [0] (rest := []) [bV true] (fun w => by kernel_rfl) ?_
    refine Sq.done ?_
    refine Ex'.next ?_
    refine Cd.ret ?_
    refine Ex'.thenRet ?_
    refine Ex'.ret Try.results11 (RVs.tmp (v := bV true) (by kernel_rfl) (RVs.nil)) (fun w hw => ?_)
    exact ⟨_, ⟨rfl, by kernel_rfl⟩, hw⟩
  ·
    obtain ⟨hf1, hf2⟩ := hfew (by simpa using h2)
    refine Sq.vals [4, 5, 6, 7] (rest := [8, 9, 10]) [iV m, bV (decide (m < 0)), bV (decide (m < 0)), bV (decide (m < 0))] (fun w => by kernel_rfl) ?_
    refine Sq.case 20 (p := m < 0) rfl (fun h3 => ?_) (fun h3 => ?_)
    ·
      refine Sq.vals [8, 9, 10] (rest := []) [undef, undef, bV true] (fun w => by kernel_rfl) ?_
      refine Sq.done ?_
      refine Ex'.next ?_
      refine Cd.condT (by kernel_rfl) ?_
      refine Cd.seq ?_
      refine Cd.region rfl ?_
      refine Sq.vals [0] (rest := []) [bV true] (fun w => by kernel_rfl) ?_
      refine Sq.done ?_
      refine Ex'.next ?_
      refine Cd.ret ?_
      refine Ex'.thenRet ?_
      refine Ex'.ret Try.results11 (RVs.tmp (v := bV true) (by kernel_rfl) (RVs.nil)) (fun w hw => ?_)
      exact ⟨_, ⟨rfl, by kernel_rfl⟩, hw⟩
    ·
      refine Sq.vals [8, 9, 10] (rest := []) [iV m, bV (decide (m > 1000)), bV (decide (m > 1000))] (fun w => by kernel_rfl) ?_
      refine Sq.done ?_
      refine Ex'.next ?_
      refine Cd.case (p := m > 1000) (by kernel_rfl) (fun h4 => ?_) (fun h4 => ?_)
      ·
        refine Cd.seq ?_
        refine Cd.region rfl ?_
        refine Sq.vals [0] (rest := []) [bV true] (fun w => by kernel_rfl) ?_
        refine Sq.done ?_
        refine Ex'.next ?_
        refine Cd.ret ?_
        refine Ex'.thenRet ?_
        refine Ex'.ret Try.results11 (RVs.tmp (v := bV true) (by kernel_rfl) (RVs.nil)) (fun w hw => ?_)
        exact ⟨_, ⟨rfl, by kernel_rfl⟩, hw⟩
      ·
        refine Cd.skip ?_
        refine Ex'.next ?_
        refine Cd.seq ?_
        refine Cd.region rfl ?_
        refine Sq.vals [0] (rest := [1, 2]) [iV m] (fun w => by kernel_rfl) ?_
        refine Sq.ex [] (l := []) (o_call (by kernel_rfl) Try.call36 (Tri.ex (L' := fun x => srlL x.1 x.2.1 x.2.2.1 x.2.2.2.1 x.2.2.2.2 m (m / 2) [] [] [] [] 0) (srl_New m (by omega)) (fun x => by simp only [srlNew_nn (show 0 ≤ m by omega)]))) (by kernel_rfl) rfl (by kernel_rfl) (fun _ => Nat.le_of_ble_eq_true (by kernel_rfl)) ?_; rintro ⟨b5, nb6, ab7, gb8, mb9⟩ _
        refine Sq.vals [2] (rest := []) [pV b5 0] (fun w => by kernel_rfl) ?_
        refine Sq.done ?_
        refine Ex'.next ?_
        refine Cd.seq ?_
        refine Cd.seq ?_
        refine Cd.region rfl ?_
        refine Sq.vals [0, 1] (rest := []) [pV b5 0, bV false] (fun w => by kernel_rfl) ?_
        refine Sq.done ?_
        refine Ex'.next ?_
        refine Cd.condF (by kernel_rfl) ?_
        refine Cd.skip ?_
        refine Ex'.next ?_
        refine Cd.seq ?_
        refine Cd.seq ?_
        refine Cd.region rfl ?_
        refine Sq.vals [0] (rest := []) [iV 0] (fun w => by kernel_rfl) ?_
        refine Sq.done ?_
        refine Ex'.next ?_
        refine Cd.block ?_
        refine Cd.loop (ι := Nat × Int × (List ByteArray) × (List ByteArray) × (List ByteArray) × (List (ByteArray × (Bool × Bool))) × Nat) (fun ⟨k, t0, ns0, cs0, gs0, ms0, n0⟩ => k ≤ xs.length ∧ SrlI m t0 ns0 cs0 gs0 ms0 ∧ n0 ≤ k * 2000) (fun ⟨k, t0, ns0, cs0, gs0, ms0, n0⟩ => xs.length - k) (fun ⟨k, t0, ns0, cs0, gs0, ms0, n0⟩ => [(0, iV m), (1, .slice a xs.length cap), (5, pV b5 0), (6, iV (k : Int))]) (fun ⟨k, t0, ns0, cs0, gs0, ms0, n0⟩ => [oldR w0, srlB b5 nb6 ab7 gb8 mb9 m t0, llR nb6 ns0 n0, llR ab7 cs0 n0, llR gb8 gs0 n0, mapR Value.string markV mb9 ms0]) (0, m / 2, [], [], [], [], 0) (⟨Nat.zero_le _, SrlI.new (by omega), Nat.le_refl _⟩) (subB_eq (l := [0, 1, 5, 6]) (by kernel_rfl)) (fun w hw => hw.pickB [0, 1, 2, 3, 4, 5] (by kernel_rfl) (by kernel_rfl) (by kernel_rfl)) ?_
        rintro ⟨k, t0, ns0, cs0, gs0, ms0, n0⟩ hL10
        try dsimp only at hL10 ⊢
        obtain ⟨hk, hI, hn⟩ := hL10
        have hIn := hI.nums
        refine Cd.seq ?_
        refine Cd.seq ?_
        refine Cd.region rfl ?_
        refine Sq.vals [0, 1, 2, 3] (rest := []) [iV (k : Int), .slice a xs.length cap, iV (xs.length : Int), bV (decide ((k : Int) < (xs.length : Int)))] (fun w => by kernel_rfl) ?_
        refine Sq.done ?_
        refine Ex'.next ?_
        refine Cd.case (p := (k : Int) < (xs.length : Int)) (by kernel_rfl) (fun h11 => ?_) (fun h11 => ?_)
        ·
          obtain ⟨g12, off13, rfl⟩ := hs.addr (by omega)
          obtain ⟨kdk, kyk, nnk, hgk, hwk, hrk⟩ := hs.at (k := k) (by omega)
          refine Cd.skip ?_
          refine Ex'.next ?_
          refine Cd.seq ?_
          refine Cd.block ?_
          refine Cd.seq ?_
          refine Cd.region rfl ?_
          refine Sq.vals [0, 1] (rest := [2, 3, 4, 5]) [.slice (some ⟨g12, off13, none⟩) xs.length cap, iV (k : Int)] (fun w => by kernel_rfl) ?_
          refine Sq.v (r := pV g12 (off13 + k * 3)) (o_idx (b := g12) (cap := cap) (e := 45) (off := off13) (n := xs.length) (kd := .i64) (q := (k : Int)) (i := k) (size := 3) (j := off13 + k * 3) (by kernel_rfl) (by kernel_rfl) (by rfl) (by omega) Try.underlying39 (by kernel_rfl) (by omega)) rfl (by kernel_rfl) ?_
          refine Sq.same [0] (l := [oldR w0]) (o_loadOldN (b := g12) (j := off13 + k * 3) [iV kdk, sV kyk, iV nnk] (by kernel_rfl) (by kernel_rfl) hrk) (by kernel_rfl) rfl (by kernel_rfl) rfl ?_
          refine Sq.ex [] (l := []) (o_new [iV 0, sV ⟨#[]⟩, iV 0] (fun w => by kernel_rfl)) (by kernel_rfl) rfl (by kernel_rfl) (fun _ => Nat.zero_le _) ?_; intro b14 _
          refine Sq.same [6] (l := [blkR b14 [iV 0, sV ⟨#[]⟩, iV 0] 45]) (o_store (i := 0) (v := .agg #[iV kdk, sV kyk, iV nnk]) (by kernel_rfl) (by kernel_rfl) (by kernel_rfl) (by kernel_rfl) (by kernel_rfl)) (by kernel_rfl) rfl (by kernel_rfl) rfl ?_
          refine Sq.done ?_
          refine Ex'.next ?_
          refine Cd.join (ι := Int × (List ByteArray) × (List ByteArray) × (List ByteArray) × (List (ByteArray × (Bool × Bool))) × Nat) (fun ⟨t1, ns1, cs1, gs1, ms1, n1⟩ => SrlI m t1 ns1 cs1 gs1 ms1 ∧ n1 ≤ (k + 1) * 2000) (fun ⟨t1, ns1, cs1, gs1, ms1, n1⟩ => [(0, iV m), (1, .slice (some ⟨g12, off13, none⟩) xs.length cap), (5, pV b5 0), (6, iV (k : Int))]) (fun ⟨t1, ns1, cs1, gs1, ms1, n1⟩ => [oldR w0, srlB b5 nb6 ab7 gb8 mb9 m t1, llR nb6 ns1 n1, llR ab7 cs1 n1, llR gb8 gs1 n1, mapR Value.string markV mb9 ms1]) ?_ ?_
          ·
            refine Cd.seq ?_
            refine Cd.region rfl ?_
            refine Sq.vals [0] (rest := [1]) [pV b14 0] (fun w => by kernel_rfl) ?_
            refine Sq.same [6] (l := [blkR b14 [iV kdk, sV kyk, iV nnk] 45]) (o_load (i := 0) (v := iV kdk) (by kernel_rfl) (by kernel_rfl) (by kernel_rfl)) (by kernel_rfl) rfl (by kernel_rfl) rfl ?_
            refine Sq.done ?_
            refine Ex'.next ?_
            refine Cd.block ?_
            refine Cd.seq ?_
            refine Cd.region rfl ?_
            refine Sq.v (r := bV (decide (kdk = 0))) (o_eqI (k := .i64) (a := kdk) (b := 0) (by kernel_rfl) (by kernel_rfl)) rfl (by kernel_rfl) ?_
            refine Sq.vals [1] (rest := []) [bV (decide (kdk = 0))] (fun w => by kernel_rfl) ?_
            refine Sq.done ?_
            refine Ex'.next ?_
            refine Cd.case (p := kdk = 0) (by kernel_rfl) (fun h15 => ?_) (fun h15 => ?_)
            ·
              refine Cd.seq ?_
              refine Cd.region rfl ?_
              refine Sq.vals [0, 1] (rest := [2, 3, 4, 5]) [pV b5 0, pV b14 1] (fun w => by kernel_rfl) ?_
              refine Sq.same [6] (l := [blkR b14 [iV kdk, sV kyk, iV nnk] 45]) (o_load (i := 1) (v := sV kyk) (by kernel_rfl) (by kernel_rfl) (by kernel_rfl)) (by kernel_rfl) rfl (by kernel_rfl) rfl ?_
              refine Sq.same [1, 2, 3, 4, 5] (l := srlL b5 nb6 ab7 gb8 mb9 m t0 ns0 cs0 gs0 ms0 n0) (o_call (by kernel_rfl) Try.call37 (srl_Request (n := n0) (n' := n0 + cs0.length + 3) (most := m) (target := t0) (ns := ns0) (cs := cs0) (gs := gs0) (ms := ms0) kyk (by omega) (by omega) (by omega) (by omega))) (by kernel_rfl) rfl (by kernel_rfl) rfl ?_
              generalize hxx16 : srlReq m t0 ns0 cs0 gs0 ms0 kyk = x16
              obtain ⟨q17, q17hit, q17no, q17in, q17out⟩ := SrlI.req hI kyk hxx16
              have q17n := q17.nums
              refine Sq.ex [] (l := []) (o_new [bV false, sV ⟨#[]⟩, bV false] (fun w => by kernel_rfl)) (by kernel_rfl) rfl (by kernel_rfl) (fun _ => Nat.zero_le _) ?_; intro b18 _
              refine Sq.same [7] (l := [blkR b18 [bV false, sV ⟨#[]⟩, bV false] 27]) (o_store (i := 0) (v := .agg #[bV x16.2.2.2.2.2.1, sV x16.2.2.2.2.2.2.1, bV x16.2.2.2.2.2.2.2]) (by kernel_rfl) (by kernel_rfl) (by kernel_rfl) (by kernel_rfl) (by kernel_rfl)) (by kernel_rfl) rfl (by kernel_rfl) rfl ?_
              refine Sq.done ?_
              refine Ex'.next ?_
              refine Cd.seq ?_
              rcases Bool.eq_false_or_eq_true (x16.2.2.2.2.2.1) with h19 | h19
              ·
                by_cases h20 : m > 0
                ·
                  refine Cd.plan (0 :: 1 :: 3 :: 7 :: 15 :: 31 :: 63 :: 127 :: 255 :: 511 :: 1023 :: 1023 :: 3071 :: 8191 :: 16383 :: 32767 :: 65535 :: 131071 :: 262143 :: 524287 :: 1048575 :: 2097151 :: 2097151 :: 6291455 :: 16777215 :: 33554431 :: 67108863 :: 134217727 :: 268435455 :: 536870911 :: 1073741823 :: 2147483647 :: 4294967295 :: 8589934591 :: 17179869183 :: 34359738367 :: 4294967295 :: 73014444031 :: 274877906943 :: 549755813887 :: 1099511627775 :: 2199023255551 :: []) [(1, [(7, false, 0)]), (4, [(7, false, 0)]), (12, [(6, false, 0)]), (13, [(1, false, 0), (2, false, 0), (3, false, 0), (4, false, 0), (5, false, 0)]), (19, [(7, false, 0)])] [] [] [] ((fun g => pV b18 0) :: (fun g => bV x16.2.2.2.2.2.1) :: (fun g => bV true) :: (fun g => pV b18 2) :: (fun g => bV x16.2.2.2.2.2.2.2) :: (fun g => bV false) :: (fun g => bV false) :: (fun g => iV m) :: (fun g => bV true) :: (fun g => bV true) :: (fun g => pV b5 0) :: (fun g => pV b14 1) :: (fun g => sV kyk) :: (fun g => bV true) :: (fun g => bV false) :: (fun g => bV false) :: (fun g => bV false) :: (fun g => bV false) :: (fun g => pV b18 2) :: (fun g => bV x16.2.2.2.2.2.2.2) :: (fun g => bV false) :: (fun g => undef) :: (fun g => undef) :: (fun g => undef) :: (fun g => undef) :: (fun g => undef) :: (fun g => undef) :: (fun g => undef) :: (fun g => undef) :: (fun g => undef) :: (fun g => undef) :: (fun g => undef) :: (fun g => undef) :: (fun g => undef) :: (fun g => undef) :: (fun g => undef) :: (fun g => undef) :: (fun g => undef) :: (fun g => undef) :: (fun g => undef) :: (fun g => bV false) :: (fun g => bV false) :: []) (by kernel_rfl) (by kernel_rfl) rfl (trivial) ?_ ?_
                  · exact ⟨ob_val fun g w => by kernel_rfl, ob_s (l := fun g => [blkR b18 [bV x16.2.2.2.2.2.1, sV x16.2.2.2.2.2.2.1, bV x16.2.2.2.2.2.2.2] 27]) (l' := fun g => [blkR b18 [bV x16.2.2.2.2.2.1, sV x16.2.2.2.2.2.2.1, bV x16.2.2.2.2.2.2.2] 27]) (v := fun g => bV x16.2.2.2.2.2.1) (fun g => o_load (i := 0) (v := bV x16.2.2.2.2.2.1) (by kernel_rfl) (by kernel_rfl) (by kernel_rfl)) (fun g => by kernel_rfl), ob_v (v := fun g => bV true) (fun g => OprV.re (pureV (v := bV x16.2.2.2.2.2.1) (by kernel_rfl) rfl fun w => by kernel_rfl) (congrArg Value.bool h19)) (fun g => by kernel_rfl), ob_val fun g w => by kernel_rfl, ob_s (l := fun g => [blkR b18 [bV x16.2.2.2.2.2.1, sV x16.2.2.2.2.2.2.1, bV x16.2.2.2.2.2.2.2] 27]) (l' := fun g => [blkR b18 [bV x16.2.2.2.2.2.1, sV x16.2.2.2.2.2.2.1, bV x16.2.2.2.2.2.2.2] 27]) (v := fun g => bV x16.2.2.2.2.2.2.2) (fun g => o_load (i := 2) (v := bV x16.2.2.2.2.2.2.2) (by kernel_rfl) (by kernel_rfl) (by kernel_rfl)) (fun g => by kernel_rfl), ob_v (v := fun g => bV false) (fun g => OprV.re (pureV (v := bV x16.2.2.2.2.2.2.2) (by kernel_rfl) rfl fun w => by kernel_rfl) (congrArg Value.bool (q17no (of_decide_eq_true (q17hit.symm.trans h19))))) (fun g => by kernel_rfl), ob_val fun g w => by kernel_rfl, ob_val fun g w => by kernel_rfl, ob_v (v := fun g => bV true) (fun g => OprV.re (pureV (v := bV (decide (m > 0))) (by kernel_rfl) rfl fun w => by kernel_rfl) (vT h20)) (fun g => by kernel_rfl), ob_val fun g w => by kernel_rfl, ob_val fun g w => by kernel_rfl, ob_val fun g w => by kernel_rfl, ob_s (l := fun g => [blkR b14 [iV kdk, sV kyk, iV nnk] 45]) (l' := fun g => [blkR b14 [iV kdk, sV kyk, iV nnk] 45]) (v := fun g => sV kyk) (fun g => o_load (i := 1) (v := sV kyk) (by kernel_rfl) (by kernel_rfl) (by kernel_rfl)) (fun g => by kernel_rfl), ob_s (l := fun g => [srlB b5 nb6 ab7 gb8 mb9 m x16.1, llR nb6 x16.2.1 (n0 + cs0.length + 3), llR ab7 x16.2.2.1 (n0 + cs0.length + 3), llR gb8 x16.2.2.2.1 (n0 + cs0.length + 3), mapR Value.string markV mb9 x16.2.2.2.2.1]) (l' := fun g => [srlB b5 nb6 ab7 gb8 mb9 m x16.1, llR nb6 x16.2.1 (n0 + cs0.length + 3), llR ab7 x16.2.2.1 (n0 + cs0.length + 3), llR gb8 x16.2.2.2.1 (n0 + cs0.length + 3), mapR Value.string markV mb9 x16.2.2.2.2.1]) (v := fun g => bV true) (fun g => o_call (by kernel_rfl) Try.call42 ((Tri.eq (l2 := srlL b5 nb6 ab7 gb8 mb9 m x16.1 x16.2.1 x16.2.2.1 x16.2.2.2.1 x16.2.2.2.2.1 (n0 + cs0.length + 3)) (r' := bV (decide (kyk ∈ x16.2.2.1 ++ x16.2.1))) (srl_Has (n := n0 + cs0.length + 3) (most := m) (target := x16.1) (ns := x16.2.1) (cs := x16.2.2.1) (gs := x16.2.2.2.1) (ms := x16.2.2.2.2.1) kyk (by omega)) (by first | simp only [srlHas_eq] | rfl) (by first | simp only [srlHas_eq] | rfl)).re (vT (q17in h20)))) (fun g => by kernel_rfl), ob_val fun g w => by kernel_rfl, ob_val fun g w => by kernel_rfl, ob_val fun g w => by kernel_rfl, ob_val fun g w => by kernel_rfl, ob_val fun g w => by kernel_rfl, ob_s (l := fun g => [blkR b18 [bV x16.2.2.2.2.2.1, sV x16.2.2.2.2.2.2.1, bV x16.2.2.2.2.2.2.2] 27]) (l' := fun g => [blkR b18 [bV x16.2.2.2.2.2.1, sV x16.2.2.2.2.2.2.1, bV x16.2.2.2.2.2.2.2] 27]) (v := fun g => bV x16.2.2.2.2.2.2.2) (fun g => o_load (i := 2) (v := bV x16.2.2.2.2.2.2.2) (by kernel_rfl) (by kernel_rfl) (by kernel_rfl)) (fun g => by kernel_rfl), ob_v (v := fun g => bV false) (fun g => OprV.re (pureV (v := bV x16.2.2.2.2.2.2.2) (by kernel_rfl) rfl fun w => by kernel_rfl) (congrArg Value.bool (q17no (of_decide_eq_true (q17hit.symm.trans h19))))) (fun g => by kernel_rfl), ob_val fun g w => by kernel_rfl, ob_val fun g w => by kernel_rfl, ob_val fun g w => by kernel_rfl, ob_val fun g w => by kernel_rfl, ob_val fun g w => by kernel_rfl, ob_val fun g w => by kernel_rfl, ob_val fun g w => by kernel_rfl, ob_val fun g w => by kernel_rfl, ob_val fun g w => by kernel_rfl, ob_val fun g w => by kernel_rfl, ob_val fun g w => by kernel_rfl, ob_val fun g w => by kernel_rfl, ob_val fun g w => by kernel_rfl, ob_val fun g w => by kernel_rfl, ob_val fun g w => by kernel_rfl, ob_val fun g w => by kernel_rfl, ob_val fun g w => by kernel_rfl, ob_val fun g w => by kernel_rfl, ob_val fun g w => by kernel_rfl, ob_val fun g w => by kernel_rfl, ob_val fun g w => by kernel_rfl, trivial⟩
                  intro g
                  refine Ex'.sub (subB_spec [0, 1, 5, 6, 87]) ?_
                  refine Ex'.as [0, 1, 2, 3, 4, 5, 6, 7] (σ' := [(0, iV m), (1, .slice (some ⟨g12, off13, none⟩) xs.length cap), (5, pV b5 0), (6, iV (k : Int)), (87, bV false)]) (Γ' := [oldR w0, srlB b5 nb6 ab7 gb8 mb9 m x16.1, llR nb6 x16.2.1 (n0 + cs0.length + 3), llR ab7 x16.2.2.1 (n0 + cs0.length + 3), llR gb8 x16.2.2.2.1 (n0 + cs0.length + 3), mapR Value.string markV mb9 x16.2.2.2.2.1, blkR b14 [iV kdk, sV kyk, iV nnk] 45, blkR b18 [bV x16.2.2.2.2.2.1, sV x16.2.2.2.2.2.2.1, bV x16.2.2.2.2.2.2.2] 27]) (by kernel_rfl) rfl (by kernel_rfl) (by kernel_rfl) ?_
                  refine Ex'.next ?_
                  refine Cd.condF (by kernel_rfl) ?_
                  refine Cd.skip ?_
                  refine Ex'.blockNormal ?_
                  refine Ex'.meet (x16.1, x16.2.1, x16.2.2.1, x16.2.2.2.1, x16.2.2.2.2.1, n0 + cs0.length + 3) ?_ (subB_eq (l := [0, 1, 5, 6]) (by kernel_rfl)) (fun w hw => hw.pickB [0, 1, 2, 3, 4, 5] (by kernel_rfl) (by kernel_rfl) (by kernel_rfl))
                  · exact ⟨q17, by omega⟩
                ·
                  refine Cd.plan (0 :: 1 :: 3 :: 7 :: 15 :: 31 :: 63 :: 127 :: 255 :: 511 :: 1023 :: 1023 :: 3071 :: 8191 :: 16383 :: 32767 :: 65535 :: 131071 :: 262143 :: 524287 :: 1048575 :: 2097151 :: 2097151 :: 6291455 :: 16777215 :: 33554431 :: 67108863 :: 134217727 :: 268435455 :: 536870911 :: 1073741823 :: 2147483647 :: 4294967295 :: 8589934591 :: 17179869183 :: 34359738367 :: 4294967295 :: 73014444031 :: 274877906943 :: 549755813887 :: 1099511627775 :: 2199023255551 :: []) [(1, [(7, false, 0)]), (4, [(7, false, 0)]), (19, [(7, false, 0)])] [] [] [] ((fun g => pV b18 0) :: (fun g => bV x16.2.2.2.2.2.1) :: (fun g => bV true) :: (fun g => pV b18 2) :: (fun g => bV x16.2.2.2.2.2.2.2) :: (fun g => bV false) :: (fun g => bV false) :: (fun g => iV m) :: (fun g => bV false) :: (fun g => bV false) :: (fun g => undef) :: (fun g => undef) :: (fun g => undef) :: (fun g => undef) :: (fun g => undef) :: (fun g => bV false) :: (fun g => bV false) :: (fun g => bV false) :: (fun g => pV b18 2) :: (fun g => bV x16.2.2.2.2.2.2.2) :: (fun g => bV false) :: (fun g => undef) :: (fun g => undef) :: (fun g => undef) :: (fun g => undef) :: (fun g => undef) :: (fun g => undef) :: (fun g => undef) :: (fun g => undef) :: (fun g => undef) :: (fun g => undef) :: (fun g => undef) :: (fun g => undef) :: (fun g => undef) :: (fun g => undef) :: (fun g => undef) :: (fun g => undef) :: (fun g => undef) :: (fun g => undef) :: (fun g => undef) :: (fun g => bV false) :: (fun g => bV false) :: []) (by kernel_rfl) (by kernel_rfl) rfl (trivial) ?_ ?_
                  · exact ⟨ob_val fun g w => by kernel_rfl, ob_s (l := fun g => [blkR b18 [bV x16.2.2.2.2.2.1, sV x16.2.2.2.2.2.2.1, bV x16.2.2.2.2.2.2.2] 27]) (l' := fun g => [blkR b18 [bV x16.2.2.2.2.2.1, sV x16.2.2.2.2.2.2.1, bV x16.2.2.2.2.2.2.2] 27]) (v := fun g => bV x16.2.2.2.2.2.1) (fun g => o_load (i := 0) (v := bV x16.2.2.2.2.2.1) (by kernel_rfl) (by kernel_rfl) (by kernel_rfl)) (fun g => by kernel_rfl), ob_v (v := fun g => bV true) (fun g => OprV.re (pureV (v := bV x16.2.2.2.2.2.1) (by kernel_rfl) rfl fun w => by kernel_rfl) (congrArg Value.bool h19)) (fun g => by kernel_rfl), ob_val fun g w => by kernel_rfl, ob_s (l := fun g => [blkR b18 [bV x16.2.2.2.2.2.1, sV x16.2.2.2.2.2.2.1, bV x16.2.2.2.2.2.2.2] 27]) (l' := fun g => [blkR b18 [bV x16.2.2.2.2.2.1, sV x16.2.2.2.2.2.2.1, bV x16.2.2.2.2.2.2.2] 27]) (v := fun g => bV x16.2.2.2.2.2.2.2) (fun g => o_load (i := 2) (v := bV x16.2.2.2.2.2.2.2) (by kernel_rfl) (by kernel_rfl) (by kernel_rfl)) (fun g => by kernel_rfl), ob_v (v := fun g => bV false) (fun g => OprV.re (pureV (v := bV x16.2.2.2.2.2.2.2) (by kernel_rfl) rfl fun w => by kernel_rfl) (congrArg Value.bool (q17no (of_decide_eq_true (q17hit.symm.trans h19))))) (fun g => by kernel_rfl), ob_val fun g w => by kernel_rfl, ob_val fun g w => by kernel_rfl, ob_v (v := fun g => bV false) (fun g => OprV.re (pureV (v := bV (decide (m > 0))) (by kernel_rfl) rfl fun w => by kernel_rfl) (vF h20)) (fun g => by kernel_rfl), ob_val fun g w => by kernel_rfl, ob_val fun g w => by kernel_rfl, ob_val fun g w => by kernel_rfl, ob_val fun g w => by kernel_rfl, ob_val fun g w => by kernel_rfl, ob_val fun g w => by kernel_rfl, ob_val fun g w => by kernel_rfl, ob_val fun g w => by kernel_rfl, ob_val fun g w => by kernel_rfl, ob_val fun g w => by kernel_rfl, ob_s (l := fun g => [blkR b18 [bV x16.2.2.2.2.2.1, sV x16.2.2.2.2.2.2.1, bV x16.2.2.2.2.2.2.2] 27]) (l' := fun g => [blkR b18 [bV x16.2.2.2.2.2.1, sV x16.2.2.2.2.2.2.1, bV x16.2.2.2.2.2.2.2] 27]) (v := fun g => bV x16.2.2.2.2.2.2.2) (fun g => o_load (i := 2) (v := bV x16.2.2.2.2.2.2.2) (by kernel_rfl) (by kernel_rfl) (by kernel_rfl)) (fun g => by kernel_rfl), ob_v (v := fun g => bV false) (fun g => OprV.re (pureV (v := bV x16.2.2.2.2.2.2.2) (by kernel_rfl) rfl fun w => by kernel_rfl) (congrArg Value.bool (q17no (of_decide_eq_true (q17hit.symm.trans h19))))) (fun g => by kernel_rfl), ob_val fun g w => by kernel_rfl, ob_val fun g w => by kernel_rfl, ob_val fun g w => by kernel_rfl, ob_val fun g w => by kernel_rfl, ob_val fun g w => by kernel_rfl, ob_val fun g w => by kernel_rfl, ob_val fun g w => by kernel_rfl, ob_val fun g w => by kernel_rfl, ob_val fun g w => by kernel_rfl, ob_val fun g w => by kernel_rfl, ob_val fun g w => by kernel_rfl, ob_val fun g w => by kernel_rfl, ob_val fun g w => by kernel_rfl, ob_val fun g w => by kernel_rfl, ob_val fun g w => by kernel_rfl, ob_val fun g w => by kernel_rfl, ob_val fun g w => by kernel_rfl, ob_val fun g w => by kernel_rfl, ob_val fun g w => by kernel_rfl, ob_val fun g w => by kernel_rfl, ob_val fun g w => by kernel_rfl, trivial⟩
                  intro g
                  refine Ex'.sub (subB_spec [0, 1, 5, 6, 87]) ?_
                  refine Ex'.as [0, 1, 2, 3, 4, 5, 6, 7] (σ' := [(0, iV m), (1, .slice (some ⟨g12, off13, none⟩) xs.length cap), (5, pV b5 0), (6, iV (k : Int)), (87, bV false)]) (Γ' := [oldR w0, srlB b5 nb6 ab7 gb8 mb9 m x16.1, llR nb6 x16.2.1 (n0 + cs0.length + 3), llR ab7 x16.2.2.1 (n0 + cs0.length + 3), llR gb8 x16.2.2.2.1 (n0 + cs0.length + 3), mapR Value.string markV mb9 x16.2.2.2.2.1, blkR b14 [iV kdk, sV kyk, iV nnk] 45, blkR b18 [bV x16.2.2.2.2.2.1, sV x16.2.2.2.2.2.2.1, bV x16.2.2.2.2.2.2.2] 27]) (by kernel_rfl) rfl (by kernel_rfl) (by kernel_rfl) ?_
                  refine Ex'.next ?_
                  refine Cd.condF (by kernel_rfl) ?_
                  refine Cd.skip ?_
                  refine Ex'.blockNormal ?_
                  refine Ex'.meet (x16.1, x16.2.1, x16.2.2.1, x16.2.2.2.1, x16.2.2.2.2.1, n0 + cs0.length + 3) ?_ (subB_eq (l := [0, 1, 5, 6]) (by kernel_rfl)) (fun w hw => hw.pickB [0, 1, 2, 3, 4, 5] (by kernel_rfl) (by kernel_rfl) (by kernel_rfl))
                  · exact ⟨q17, by omega⟩
              ·
                by_cases h21 : m > 0
                ·
                  rcases Bool.eq_false_or_eq_true (x16.2.2.2.2.2.2.2) with h22 | h22
                  ·
                    have hpos := (q17out h22).2.1
                    refine Cd.plan (0 :: 1 :: 3 :: 7 :: 15 :: 31 :: 63 :: 127 :: 255 :: 511 :: 1023 :: 1023 :: 3071 :: 8191 :: 16383 :: 32767 :: 65535 :: 131071 :: 262143 :: 524287 :: 1048575 :: 2097151 :: 2097151 :: 6291455 :: 16777215 :: 33554431 :: 67108863 :: 134217727 :: 268435455 :: 536870911 :: 1073741823 :: 2147483647 :: 4294967295 :: 8589934591 :: 17179869183 :: 34359738367 :: 4294967295 :: 73014444031 :: 274877906943 :: 549755813887 :: 1099511627775 :: 2199023255551 :: []) [(1, [(7, false, 0)]), (12, [(6, false, 0)]), (13, [(1, false, 0), (2, false, 0), (3, false, 0), (4, false, 0), (5, false, 0)]), (19, [(7, false, 0)]), (23, [(7, false, 0)]), (24, [(1, false, 0), (2, false, 0), (3, false, 0), (4, false, 0), (5, false, 0)]), (27, [(1, false, 0), (2, false, 0), (3, false, 0), (4, false, 0), (5, false, 0)]), (33, [(1, false, 0), (2, false, 0), (3, false, 0), (4, false, 0), (5, false, 0)]), (35, [(41, false, 34)]), (37, [(7, false, 0)])] [27, 33] [(27, fun _ => True), (33, fun _ => True)] [(35, 27, fun g => rowR 9 1 (.slice (some ⟨(slOf (g 27)), 0, none⟩) x16.2.2.2.1.length (capOf (g 27))) x16.2.2.2.1.length (x16.2.2.2.1.map Value.string)), (41, 33, fun g => rowR 9 1 (.slice (some ⟨(slOf (g 33)), 0, none⟩) x16.2.2.2.1.length (capOf (g 33))) x16.2.2.2.1.length (x16.2.2.2.1.map Value.string))] ((fun g => pV b18 0) :: (fun g => bV x16.2.2.2.2.2.1) :: (fun g => bV false) :: (fun g => undef) :: (fun g => undef) :: (fun g => bV false) :: (fun g => bV false) :: (fun g => iV m) :: (fun g => bV true) :: (fun g => bV true) :: (fun g => pV b5 0) :: (fun g => pV b14 1) :: (fun g => sV kyk) :: (fun g => bV true) :: (fun g => bV false) :: (fun g => bV false) :: (fun g => bV false) :: (fun g => bV false) :: (fun g => pV b18 2) :: (fun g => bV x16.2.2.2.2.2.2.2) :: (fun g => bV true) :: (fun g => pV b5 0) :: (fun g => pV b18 1) :: (fun g => sV x16.2.2.2.2.2.2.1) :: (fun g => bV false) :: (fun g => bV false) :: (fun g => pV b5 0) :: (fun g => .slice (some ⟨(slOf (g 27)), 0, none⟩) x16.2.2.2.1.length (capOf (g 27))) :: (fun g => iV (x16.2.2.2.1.length : Int)) :: (fun g => bV false) :: (fun g => bV false) :: (fun g => bV false) :: (fun g => pV b5 0) :: (fun g => .slice (some ⟨(slOf (g 33)), 0, none⟩) x16.2.2.2.1.length (capOf (g 33))) :: (fun g => pV (slOf (g 33)) 0) :: (fun g => sV (x16.2.2.2.1.getD 0 ⟨#[]⟩)) :: (fun g => pV b18 1) :: (fun g => sV x16.2.2.2.2.2.2.1) :: (fun g => bV false) :: (fun g => bV false) :: (fun g => bV false) :: (fun g => bV false) :: []) (by kernel_rfl) (by kernel_rfl) rfl (⟨⟨⟨fun _ _ => rfl, ⟨fun _ _ => rfl, ⟨fun _ _ => rfl, ⟨fun _ _ => rfl, ⟨fun _ _ => rfl, ⟨fun _ _ => rfl, ⟨fun _ _ => rfl, ⟨fun _ _ => rfl, ⟨fun _ _ => rfl, ⟨fun _ _ => rfl, ⟨fun _ _ => rfl, ⟨fun _ _ => rfl, ⟨fun _ _ => rfl, ⟨fun _ _ => rfl, ⟨fun _ _ => rfl, ⟨fun _ _ => rfl, ⟨fun _ _ => rfl, ⟨fun _ _ => rfl, ⟨fun _ _ => rfl, ⟨fun _ _ => rfl, ⟨fun _ _ => rfl, ⟨fun _ _ => rfl, ⟨fun _ _ => rfl, ⟨fun _ _ => rfl, ⟨fun _ _ => rfl, ⟨fun _ _ => rfl, ⟨fun _ _ => rfl, ⟨trivial, ⟨trivial, ⟨trivial, ⟨trivial, ⟨trivial, ⟨trivial, ⟨trivial, ⟨trivial, ⟨trivial, ⟨trivial, ⟨trivial, ⟨trivial, ⟨trivial, ⟨trivial, ⟨trivial, trivial⟩⟩⟩⟩⟩⟩⟩⟩⟩⟩⟩⟩⟩⟩⟩⟩⟩⟩⟩⟩⟩⟩⟩⟩⟩⟩⟩⟩⟩⟩⟩⟩⟩⟩⟩⟩⟩⟩⟩⟩⟩⟩, ⟨trivial, ⟨trivial, trivial⟩⟩⟩, ⟨⟨⟨fun _ _ => rfl, ⟨fun _ _ => rfl, ⟨fun _ _ => rfl, ⟨fun _ _ => rfl, ⟨fun _ _ => rfl, ⟨fun _ _ => rfl, ⟨fun _ _ => rfl, ⟨fun _ _ => rfl, ⟨fun _ _ => rfl, ⟨fun _ _ => rfl, ⟨fun _ _ => rfl, ⟨fun _ _ => rfl, ⟨fun _ _ => rfl, ⟨fun _ _ => rfl, ⟨fun _ _ => rfl, ⟨fun _ _ => rfl, ⟨fun _ _ => rfl, ⟨fun _ _ => rfl, ⟨fun _ _ => rfl, ⟨fun _ _ => rfl, ⟨fun _ _ => rfl, ⟨fun _ _ => rfl, ⟨fun _ _ => rfl, ⟨fun _ _ => rfl, ⟨fun _ _ => rfl, ⟨fun _ _ => rfl, ⟨fun _ _ => rfl, ⟨fun _ _ => rfl, ⟨fun _ _ => rfl, ⟨fun _ _ => rfl, ⟨fun _ _ => rfl, ⟨fun _ _ => rfl, ⟨fun _ _ => rfl, ⟨trivial, ⟨trivial, ⟨trivial, ⟨fun _ _ => rfl, ⟨fun _ _ => rfl, ⟨trivial, ⟨trivial, ⟨trivial, ⟨trivial, trivial⟩⟩⟩⟩⟩⟩⟩⟩⟩⟩⟩⟩⟩⟩⟩⟩⟩⟩⟩⟩⟩⟩⟩⟩⟩⟩⟩⟩⟩⟩⟩⟩⟩⟩⟩⟩⟩⟩⟩⟩⟩⟩, ⟨fun _ _ => rfl, ⟨trivial, trivial⟩⟩⟩, trivial⟩⟩) ?_ ?_
                    · exact ⟨ob_val fun g w => by kernel_rfl, ob_s (l := fun g => [blkR b18 [bV x16.2.2.2.2.2.1, sV x16.2.2.2.2.2.2.1, bV x16.2.2.2.2.2.2.2] 27]) (l' := fun g => [blkR b18 [bV x16.2.2.2.2.2.1, sV x16.2.2.2.2.2.2.1, bV x16.2.2.2.2.2.2.2] 27]) (v := fun g => bV x16.2.2.2.2.2.1) (fun g => o_load (i := 0) (v := bV x16.2.2.2.2.2.1) (by kernel_rfl) (by kernel_rfl) (by kernel_rfl)) (fun g => by kernel_rfl), ob_v (v := fun g => bV false) (fun g => OprV.re (pureV (v := bV x16.2.2.2.2.2.1) (by kernel_rfl) rfl fun w => by kernel_rfl) (congrArg Value.bool h19)) (fun g => by kernel_rfl), ob_val fun g w => by kernel_rfl, ob_val fun g w => by kernel_rfl, ob_val fun g w => by kernel_rfl, ob_val fun g w => by kernel_rfl, ob_val fun g w => by kernel_rfl, ob_v (v := fun g => bV true) (fun g => OprV.re (pureV (v := bV (decide (m > 0))) (by kernel_rfl) rfl fun w => by kernel_rfl) (vT h21)) (fun g => by kernel_rfl), ob_val fun g w => by kernel_rfl, ob_val fun g w => by kernel_rfl, ob_val fun g w => by kernel_rfl, ob_s (l := fun g => [blkR b14 [iV kdk, sV kyk, iV nnk] 45]) (l' := fun g => [blkR b14 [iV kdk, sV kyk, iV nnk] 45]) (v := fun g => sV kyk) (fun g => o_load (i := 1) (v := sV kyk) (by kernel_rfl) (by kernel_rfl) (by kernel_rfl)) (fun g => by kernel_rfl), ob_s (l := fun g => [srlB b5 nb6 ab7 gb8 mb9 m x16.1, llR nb6 x16.2.1 (n0 + cs0.length + 3), llR ab7 x16.2.2.1 (n0 + cs0.length + 3), llR gb8 x16.2.2.2.1 (n0 + cs0.length + 3), mapR Value.string markV mb9 x16.2.2.2.2.1]) (l' := fun g => [srlB b5 nb6 ab7 gb8 mb9 m x16.1, llR nb6 x16.2.1 (n0 + cs0.length + 3), llR ab7 x16.2.2.1 (n0 + cs0.length + 3), llR gb8 x16.2.2.2.1 (n0 + cs0.length + 3), mapR Value.string markV mb9 x16.2.2.2.2.1]) (v := fun g => bV true) (fun g => o_call (by kernel_rfl) Try.call42 ((Tri.eq (l2 := srlL b5 nb6 ab7 gb8 mb9 m x16.1 x16.2.1 x16.2.2.1 x16.2.2.2.1 x16.2.2.2.2.1 (n0 + cs0.length + 3)) (r' := bV (decide (kyk ∈ x16.2.2.1 ++ x16.2.1))) (srl_Has (n := n0 + cs0.length + 3) (most := m) (target := x16.1) (ns := x16.2.1) (cs := x16.2.2.1) (gs := x16.2.2.2.1) (ms := x16.2.2.2.2.1) kyk (by omega)) (by first | simp only [srlHas_eq] | rfl) (by first | simp only [srlHas_eq] | rfl)).re (vT (q17in h21)))) (fun g => by kernel_rfl), ob_val fun g w => by kernel_rfl, ob_val fun g w => by kernel_rfl, ob_val fun g w => by kernel_rfl, ob_val fun g w => by kernel_rfl, ob_val fun g w => by kernel_rfl, ob_s (l := fun g => [blkR b18 [bV x16.2.2.2.2.2.1, sV x16.2.2.2.2.2.2.1, bV x16.2.2.2.2.2.2.2] 27]) (l' := fun g => [blkR b18 [bV x16.2.2.2.2.2.1, sV x16.2.2.2.2.2.2.1, bV x16.2.2.2.2.2.2.2] 27]) (v := fun g => bV x16.2.2.2.2.2.2.2) (fun g => o_load (i := 2) (v := bV x16.2.2.2.2.2.2.2) (by kernel_rfl) (by kernel_rfl) (by kernel_rfl)) (fun g => by kernel_rfl), ob_v (v := fun g => bV true) (fun g => OprV.re (pureV (v := bV x16.2.2.2.2.2.2.2) (by kernel_rfl) rfl fun w => by kernel_rfl) (congrArg Value.bool h22)) (fun g => by kernel_rfl), ob_val fun g w => by kernel_rfl, ob_val fun g w => by kernel_rfl, ob_s (l := fun g => [blkR b18 [bV x16.2.2.2.2.2.1, sV x16.2.2.2.2.2.2.1, bV x16.2.2.2.2.2.2.2] 27]) (l' := fun g => [blkR b18 [bV x16.2.2.2.2.2.1, sV x16.2.2.2.2.2.2.1, bV x16.2.2.2.2.2.2.2] 27]) (v := fun g => sV x16.2.2.2.2.2.2.1) (fun g => o_load (i := 1) (v := sV x16.2.2.2.2.2.2.1) (by kernel_rfl) (by kernel_rfl) (by kernel_rfl)) (fun g => by kernel_rfl), ob_s (l := fun g => [srlB b5 nb6 ab7 gb8 mb9 m x16.1, llR nb6 x16.2.1 (n0 + cs0.length + 3), llR ab7 x16.2.2.1 (n0 + cs0.length + 3), llR gb8 x16.2.2.2.1 (n0 + cs0.length + 3), mapR Value.string markV mb9 x16.2.2.2.2.1]) (l' := fun g => [srlB b5 nb6 ab7 gb8 mb9 m x16.1, llR nb6 x16.2.1 (n0 + cs0.length + 3), llR ab7 x16.2.2.1 (n0 + cs0.length + 3), llR gb8 x16.2.2.2.1 (n0 + cs0.length + 3), mapR Value.string markV mb9 x16.2.2.2.2.1]) (v := fun g => bV false) (fun g => o_call (by kernel_rfl) Try.call42 ((Tri.eq (l2 := srlL b5 nb6 ab7 gb8 mb9 m x16.1 x16.2.1 x16.2.2.1 x16.2.2.2.1 x16.2.2.2.2.1 (n0 + cs0.length + 3)) (r' := bV (decide (x16.2.2.2.2.2.2.1 ∈ x16.2.2.1 ++ x16.2.1))) (srl_Has (n := n0 + cs0.length + 3) (most := m) (target := x16.1) (ns := x16.2.1) (cs := x16.2.2.1) (gs := x16.2.2.2.1) (ms := x16.2.2.2.2.1) x16.2.2.2.2.2.2.1 (by omega)) (by first | simp only [srlHas_eq] | rfl) (by first | simp only [srlHas_eq] | rfl)).re (vF ((q17out h22).1)))) (fun g => by kernel_rfl), ob_val fun g w => by kernel_rfl, ob_val fun g w => by kernel_rfl, ob_d (ι := Nat × Nat) (l := fun g => [srlB b5 nb6 ab7 gb8 mb9 m x16.1, llR nb6 x16.2.1 (n0 + cs0.length + 3), llR ab7 x16.2.2.1 (n0 + cs0.length + 3), llR gb8 x16.2.2.2.1 (n0 + cs0.length + 3), mapR Value.string markV mb9 x16.2.2.2.2.1]) (L := fun g y => [srlB b5 nb6 ab7 gb8 mb9 m x16.1, llR nb6 x16.2.1 (n0 + cs0.length + 3), llR ab7 x16.2.2.1 (n0 + cs0.length + 3), llR gb8 x16.2.2.2.1 (n0 + cs0.length + 3), mapR Value.string markV mb9 x16.2.2.2.2.1, rowR 9 1 (.slice (some ⟨y.1, 0, none⟩) x16.2.2.2.1.length y.2) x16.2.2.2.1.length (x16.2.2.2.1.map Value.string)]) (fun y => .slice (some ⟨y.1, 0, none⟩) x16.2.2.2.1.length y.2) (fun g => o_call (by kernel_rfl) Try.call41 (Tri.row (n := x16.2.2.2.1.length) ((q17out h22).2.1) (Tri.ex (L' := fun v => srlL b5 nb6 ab7 gb8 mb9 m x16.1 x16.2.1 x16.2.2.1 x16.2.2.2.1 x16.2.2.2.2.1 (n0 + cs0.length + 3) ++ [rowR 9 1 v (x16.2.2.2.1).length ((x16.2.2.2.1).map Value.string)]) (srl_Ghosts (n := n0 + cs0.length + 3) (most := m) (target := x16.1) (ns := x16.2.1) (cs := x16.2.2.1) (gs := x16.2.2.2.1) (ms := x16.2.2.2.2.1) (by omega)) (fun v => rfl)))) (fun g => by kernel_rfl) (fun g y _ => ⟨trivial, by kernel_rfl, by kernel_rfl⟩), ob_val fun g w => by kernel_rfl, ob_v (v := fun g => bV false) (fun g => OprV.re (o_eqI (k := .i64) (a := (x16.2.2.2.1.length : Int)) (b := 0) (by kernel_rfl) (by kernel_rfl)) (vF (by have := (q17out h22).2.1; omega))) (fun g => by kernel_rfl), ob_val fun g w => by kernel_rfl, ob_val fun g w => by kernel_rfl, ob_val fun g w => by kernel_rfl, ob_d (ι := Nat × Nat) (l := fun g => [srlB b5 nb6 ab7 gb8 mb9 m x16.1, llR nb6 x16.2.1 (n0 + cs0.length + 3), llR ab7 x16.2.2.1 (n0 + cs0.length + 3), llR gb8 x16.2.2.2.1 (n0 + cs0.length + 3), mapR Value.string markV mb9 x16.2.2.2.2.1]) (L := fun g y => [srlB b5 nb6 ab7 gb8 mb9 m x16.1, llR nb6 x16.2.1 (n0 + cs0.length + 3), llR ab7 x16.2.2.1 (n0 + cs0.length + 3), llR gb8 x16.2.2.2.1 (n0 + cs0.length + 3), mapR Value.string markV mb9 x16.2.2.2.2.1, rowR 9 1 (.slice (some ⟨y.1, 0, none⟩) x16.2.2.2.1.length y.2) x16.2.2.2.1.length (x16.2.2.2.1.map Value.string)]) (fun y => .slice (some ⟨y.1, 0, none⟩) x16.2.2.2.1.length y.2) (fun g => o_call (by kernel_rfl) Try.call41 (Tri.row (n := x16.2.2.2.1.length) ((q17out h22).2.1) (Tri.ex (L' := fun v => srlL b5 nb6 ab7 gb8 mb9 m x16.1 x16.2.1 x16.2.2.1 x16.2.2.2.1 x16.2.2.2.2.1 (n0 + cs0.length + 3) ++ [rowR 9 1 v (x16.2.2.2.1).length ((x16.2.2.2.1).map Value.string)]) (srl_Ghosts (n := n0 + cs0.length + 3) (most := m) (target := x16.1) (ns := x16.2.1) (cs := x16.2.2.1) (gs := x16.2.2.2.1) (ms := x16.2.2.2.2.1) (by omega)) (fun v => rfl)))) (fun g => by kernel_rfl) (fun g y _ => ⟨trivial, by kernel_rfl, by kernel_rfl⟩), ob_v (v := fun g => pV (slOf (g 33)) 0) (fun g => o_idx (b := (slOf (g 33))) (cap := (capOf (g 33))) (e := 9) (off := 0) (n := x16.2.2.2.1.length) (kd := .i64) (q := 0) (i := 0) (size := 1) (j := 0) (by kernel_rfl) (by kernel_rfl) (by rfl) (by omega) Try.underlying22 (by kernel_rfl) (by omega)) (fun g => by kernel_rfl), ob_s (l := fun g => [rowR 9 1 (.slice (some ⟨(slOf (g 33)), 0, none⟩) x16.2.2.2.1.length (capOf (g 33))) x16.2.2.2.1.length (x16.2.2.2.1.map Value.string)]) (l' := fun g => [rowR 9 1 (.slice (some ⟨(slOf (g 33)), 0, none⟩) x16.2.2.2.1.length (capOf (g 33))) x16.2.2.2.1.length (x16.2.2.2.1.map Value.string)]) (v := fun g => sV (x16.2.2.2.1.getD 0 ⟨#[]⟩)) (fun g => o_loadRow (i := 0) (u := sV (x16.2.2.2.1.getD 0 ⟨#[]⟩)) (by kernel_rfl) (by omega) (by kernel_rfl) (get_map (by omega))) (fun g => by kernel_rfl), ob_val fun g w => by kernel_rfl, ob_s (l := fun g => [blkR b18 [bV x16.2.2.2.2.2.1, sV x16.2.2.2.2.2.2.1, bV x16.2.2.2.2.2.2.2] 27]) (l' := fun g => [blkR b18 [bV x16.2.2.2.2.2.1, sV x16.2.2.2.2.2.2.1, bV x16.2.2.2.2.2.2.2] 27]) (v := fun g => sV x16.2.2.2.2.2.2.1) (fun g => o_load (i := 1) (v := sV x16.2.2.2.2.2.2.1) (by kernel_rfl) (by kernel_rfl) (by kernel_rfl)) (fun g => by kernel_rfl), ob_v (v := fun g => bV false) (fun g => OprV.re (o_neS (a := x16.2.2.2.1.getD 0 ⟨#[]⟩) (b := x16.2.2.2.2.2.2.1) (by kernel_rfl) (by kernel_rfl)) (vF (fun z => z (q17out h22).2.2))) (fun g => by kernel_rfl), ob_val fun g w => by kernel_rfl, ob_val fun g w => by kernel_rfl, ob_val fun g w => by kernel_rfl, trivial⟩
                    intro g
                    refine Ex'.sub (subB_spec [0, 1, 5, 6, 87]) ?_
                    refine Ex'.as [0, 1, 2, 3, 4, 5, 6, 7, 35, 41] (σ' := [(0, iV m), (1, .slice (some ⟨g12, off13, none⟩) xs.length cap), (5, pV b5 0), (6, iV (k : Int)), (87, bV false)]) (Γ' := [oldR w0, srlB b5 nb6 ab7 gb8 mb9 m x16.1, llR nb6 x16.2.1 (n0 + cs0.length + 3), llR ab7 x16.2.2.1 (n0 + cs0.length + 3), llR gb8 x16.2.2.2.1 (n0 + cs0.length + 3), mapR Value.string markV mb9 x16.2.2.2.2.1, blkR b14 [iV kdk, sV kyk, iV nnk] 45, blkR b18 [bV x16.2.2.2.2.2.1, sV x16.2.2.2.2.2.2.1, bV x16.2.2.2.2.2.2.2] 27, rowR 9 1 (.slice (some ⟨(slOf (g 27)), 0, none⟩) x16.2.2.2.1.length (capOf (g 27))) x16.2.2.2.1.length (x16.2.2.2.1.map Value.string), rowR 9 1 (.slice (some ⟨(slOf (g 33)), 0, none⟩) x16.2.2.2.1.length (capOf (g 33))) x16.2.2.2.1.length (x16.2.2.2.1.map Value.string)]) (by kernel_rfl) rfl (by kernel_rfl) (by kernel_rfl) ?_
                    generalize slOf (g 27) = b25
                    generalize capOf (g 27) = c26
                    generalize slOf (g 33) = b27
                    generalize capOf (g 33) = c28
                    refine Ex'.next ?_
                    refine Cd.condF (by kernel_rfl) ?_
                    refine Cd.skip ?_
                    refine Ex'.blockNormal ?_
                    refine Ex'.meet (x16.1, x16.2.1, x16.2.2.1, x16.2.2.2.1, x16.2.2.2.2.1, n0 + cs0.length + 3) ?_ (subB_eq (l := [0, 1, 5, 6]) (by kernel_rfl)) (fun w hw => hw.pickB [0, 1, 2, 3, 4, 5] (by kernel_rfl) (by kernel_rfl) (by kernel_rfl))
                    · exact ⟨q17, by omega⟩
                  ·
                    refine Cd.plan (0 :: 1 :: 3 :: 7 :: 15 :: 31 :: 63 :: 127 :: 255 :: 511 :: 1023 :: 1023 :: 3071 :: 8191 :: 16383 :: 32767 :: 65535 :: 131071 :: 262143 :: 524287 :: 1048575 :: 2097151 :: 2097151 :: 6291455 :: 16777215 :: 33554431 :: 67108863 :: 134217727 :: 268435455 :: 536870911 :: 1073741823 :: 2147483647 :: 4294967295 :: 8589934591 :: 17179869183 :: 34359738367 :: 4294967295 :: 73014444031 :: 274877906943 :: 549755813887 :: 1099511627775 :: 2199023255551 :: []) [(1, [(7, false, 0)]), (12, [(6, false, 0)]), (13, [(1, false, 0), (2, false, 0), (3, false, 0), (4, false, 0), (5, false, 0)]), (19, [(7, false, 0)])] [] [] [] ((fun g => pV b18 0) :: (fun g => bV x16.2.2.2.2.2.1) :: (fun g => bV false) :: (fun g => undef) :: (fun g => undef) :: (fun g => bV false) :: (fun g => bV false) :: (fun g => iV m) :: (fun g => bV true) :: (fun g => bV true) :: (fun g => pV b5 0) :: (fun g => pV b14 1) :: (fun g => sV kyk) :: (fun g => bV true) :: (fun g => bV false) :: (fun g => bV false) :: (fun g => bV false) :: (fun g => bV false) :: (fun g => pV b18 2) :: (fun g => bV x16.2.2.2.2.2.2.2) :: (fun g => bV false) :: (fun g => undef) :: (fun g => undef) :: (fun g => undef) :: (fun g => undef) :: (fun g => undef) :: (fun g => undef) :: (fun g => undef) :: (fun g => undef) :: (fun g => undef) :: (fun g => undef) :: (fun g => undef) :: (fun g => undef) :: (fun g => undef) :: (fun g => undef) :: (fun g => undef) :: (fun g => undef) :: (fun g => undef) :: (fun g => undef) :: (fun g => undef) :: (fun g => bV false) :: (fun g => bV false) :: []) (by kernel_rfl) (by kernel_rfl) rfl (trivial) ?_ ?_
                    · exact ⟨ob_val fun g w => by kernel_rfl, ob_s (l := fun g => [blkR b18 [bV x16.2.2.2.2.2.1, sV x16.2.2.2.2.2.2.1, bV x16.2.2.2.2.2.2.2] 27]) (l' := fun g => [blkR b18 [bV x16.2.2.2.2.2.1, sV x16.2.2.2.2.2.2.1, bV x16.2.2.2.2.2.2.2] 27]) (v := fun g => bV x16.2.2.2.2.2.1) (fun g => o_load (i := 0) (v := bV x16.2.2.2.2.2.1) (by kernel_rfl) (by kernel_rfl) (by kernel_rfl)) (fun g => by kernel_rfl), ob_v (v := fun g => bV false) (fun g => OprV.re (pureV (v := bV x16.2.2.2.2.2.1) (by kernel_rfl) rfl fun w => by kernel_rfl) (congrArg Value.bool h19)) (fun g => by kernel_rfl), ob_val fun g w => by kernel_rfl, ob_val fun g w => by kernel_rfl, ob_val fun g w => by kernel_rfl, ob_val fun g w => by kernel_rfl, ob_val fun g w => by kernel_rfl, ob_v (v := fun g => bV true) (fun g => OprV.re (pureV (v := bV (decide (m > 0))) (by kernel_rfl) rfl fun w => by kernel_rfl) (vT h21)) (fun g => by kernel_rfl), ob_val fun g w => by kernel_rfl, ob_val fun g w => by kernel_rfl, ob_val fun g w => by kernel_rfl, ob_s (l := fun g => [blkR b14 [iV kdk, sV kyk, iV nnk] 45]) (l' := fun g => [blkR b14 [iV kdk, sV kyk, iV nnk] 45]) (v := fun g => sV kyk) (fun g => o_load (i := 1) (v := sV kyk) (by kernel_rfl) (by kernel_rfl) (by kernel_rfl)) (fun g => by kernel_rfl), ob_s (l := fun g => [srlB b5 nb6 ab7 gb8 mb9 m x16.1, llR nb6 x16.2.1 (n0 + cs0.length + 3), llR ab7 x16.2.2.1 (n0 + cs0.length + 3), llR gb8 x16.2.2.2.1 (n0 + cs0.length + 3), mapR Value.string markV mb9 x16.2.2.2.2.1]) (l' := fun g => [srlB b5 nb6 ab7 gb8 mb9 m x16.1, llR nb6 x16.2.1 (n0 + cs0.length + 3), llR ab7 x16.2.2.1 (n0 + cs0.length + 3), llR gb8 x16.2.2.2.1 (n0 + cs0.length + 3), mapR Value.string markV mb9 x16.2.2.2.2.1]) (v := fun g => bV true) (fun g => o_call (by kernel_rfl) Try.call42 ((Tri.eq (l2 := srlL b5 nb6 ab7 gb8 mb9 m x16.1 x16.2.1 x16.2.2.1 x16.2.2.2.1 x16.2.2.2.2.1 (n0 + cs0.length + 3)) (r' := bV (decide (kyk ∈ x16.2.2.1 ++ x16.2.1))) (srl_Has (n := n0 + cs0.length + 3) (most := m) (target := x16.1) (ns := x16.2.1) (cs := x16.2.2.1) (gs := x16.2.2.2.1) (ms := x16.2.2.2.2.1) kyk (by omega)) (by first | simp only [srlHas_eq] | rfl) (by first | simp only [srlHas_eq] | rfl)).re (vT (q17in h21)))) (fun g => by kernel_rfl), ob_val fun g w => by kernel_rfl, ob_val fun g w => by kernel_rfl, ob_val fun g w => by kernel_rfl, ob_val fun g w => by kernel_rfl, ob_val fun g w => by kernel_rfl, ob_s (l := fun g => [blkR b18 [bV x16.2.2.2.2.2.1, sV x16.2.2.2.2.2.2.1, bV x16.2.2.2.2.2.2.2] 27]) (l' := fun g => [blkR b18 [bV x16.2.2.2.2.2.1, sV x16.2.2.2.2.2.2.1, bV x16.2.2.2.2.2.2.2] 27]) (v := fun g => bV x16.2.2.2.2.2.2.2) (fun g => o_load (i := 2) (v := bV x16.2.2.2.2.2.2.2) (by kernel_rfl) (by kernel_rfl) (by kernel_rfl)) (fun g => by kernel_rfl), ob_v (v := fun g => bV false) (fun g => OprV.re (pureV (v := bV x16.2.2.2.2.2.2.2) (by kernel_rfl) rfl fun w => by kernel_rfl) (congrArg Value.bool h22)) (fun g => by kernel_rfl), ob_val fun g w => by kernel_rfl, ob_val fun g w => by kernel_rfl, ob_val fun g w => by kernel_rfl, ob_val fun g w => by kernel_rfl, ob_val fun g w => by kernel_rfl, ob_val fun g w => by kernel_rfl, ob_val fun g w => by kernel_rfl, ob_val fun g w => by kernel_rfl, ob_val fun g w => by kernel_rfl, ob_val fun g w => by kernel_rfl, ob_val fun g w => by kernel_rfl, ob_val fun g w => by kernel_rfl, ob_val fun g w => by kernel_rfl, ob_val fun g w => by kernel_rfl, ob_val fun g w => by kernel_rfl, ob_val fun g w => by kernel_rfl, ob_val fun g w => by kernel_rfl, ob_val fun g w => by kernel_rfl, ob_val fun g w => by kernel_rfl, ob_val fun g w => by kernel_rfl, ob_val fun g w => by kernel_rfl, trivial⟩
                    intro g
                    refine Ex'.sub (subB_spec [0, 1, 5, 6, 87]) ?_
                    refine Ex'.as [0, 1, 2, 3, 4, 5, 6, 7] (σ' := [(0, iV m), (1, .slice (some ⟨g12, off13, none⟩) xs.length cap), (5, pV b5 0), (6, iV (k : Int)), (87, bV false)]) (Γ' := [oldR w0, srlB b5 nb6 ab7 gb8 mb9 m x16.1, llR nb6 x16.2.1 (n0 + cs0.length + 3), llR ab7 x16.2.2.1 (n0 + cs0.length + 3), llR gb8 x16.2.2.2.1 (n0 + cs0.length + 3), mapR Value.string markV mb9 x16.2.2.2.2.1, blkR b14 [iV kdk, sV kyk, iV nnk] 45, blkR b18 [bV x16.2.2.2.2.2.1, sV x16.2.2.2.2.2.2.1, bV x16.2.2.2.2.2.2.2] 27]) (by kernel_rfl) rfl (by kernel_rfl) (by kernel_rfl) ?_
                    refine Ex'.next ?_
                    refine Cd.condF (by kernel_rfl) ?_
                    refine Cd.skip ?_
                    refine Ex'.blockNormal ?_
                    refine Ex'.meet (x16.1, x16.2.1, x16.2.2.1, x16.2.2.2.1, x16.2.2.2.2.1, n0 + cs0.length + 3) ?_ (subB_eq (l := [0, 1, 5, 6]) (by kernel_rfl)) (fun w hw => hw.pickB [0, 1, 2, 3, 4, 5] (by kernel_rfl) (by kernel_rfl) (by kernel_rfl))
                    · exact ⟨q17, by omega⟩
                ·
                  rcases Bool.eq_false_or_eq_true (x16.2.2.2.2.2.2.2) with h29 | h29
                  ·
                    have hpos := (q17out h29).2.1
                    refine Cd.plan (0 :: 1 :: 3 :: 7 :: 15 :: 31 :: 63 :: 127 :: 255 :: 511 :: 1023 :: 1023 :: 3071 :: 8191 :: 16383 :: 32767 :: 65535 :: 131071 :: 262143 :: 524287 :: 1048575 :: 2097151 :: 2097151 :: 6291455 :: 16777215 :: 33554431 :: 67108863 :: 134217727 :: 268435455 :: 536870911 :: 1073741823 :: 2147483647 :: 4294967295 :: 8589934591 :: 17179869183 :: 34359738367 :: 4294967295 :: 73014444031 :: 274877906943 :: 549755813887 :: 1099511627775 :: 2199023255551 :: []) [(1, [(7, false, 0)]), (19, [(7, false, 0)]), (23, [(7, false, 0)]), (24, [(1, false, 0), (2, false, 0), (3, false, 0), (4, false, 0), (5, false, 0)]), (27, [(1, false, 0), (2, false, 0), (3, false, 0), (4, false, 0), (5, false, 0)]), (33, [(1, false, 0), (2, false, 0), (3, false, 0), (4, false, 0), (5, false, 0)]), (35, [(41, false, 34)]), (37, [(7, false, 0)])] [27, 33] [(27, fun _ => True), (33, fun _ => True)] [(35, 27, fun g => rowR 9 1 (.slice (some ⟨(slOf (g 27)), 0, none⟩) x16.2.2.2.1.length (capOf (g 27))) x16.2.2.2.1.length (x16.2.2.2.1.map Value.string)), (41, 33, fun g => rowR 9 1 (.slice (some ⟨(slOf (g 33)), 0, none⟩) x16.2.2.2.1.length (capOf (g 33))) x16.2.2.2.1.length (x16.2.2.2.1.map Value.string))] ((fun g => pV b18 0) :: (fun g => bV x16.2.2.2.2.2.1) :: (fun g => bV false) :: (fun g => undef) :: (fun g => undef) :: (fun g => bV false) :: (fun g => bV false) :: (fun g => iV m) :: (fun g => bV false) :: (fun g => bV false) :: (fun g => undef) :: (fun g => undef) :: (fun g => undef) :: (fun g => undef) :: (fun g => undef) :: (fun g => bV false) :: (fun g => bV false) :: (fun g => bV false) :: (fun g => pV b18 2) :: (fun g => bV x16.2.2.2.2.2.2.2) :: (fun g => bV true) :: (fun g => pV b5 0) :: (fun g => pV b18 1) :: (fun g => sV x16.2.2.2.2.2.2.1) :: (fun g => bV false) :: (fun g => bV false) :: (fun g => pV b5 0) :: (fun g => .slice (some ⟨(slOf (g 27)), 0, none⟩) x16.2.2.2.1.length (capOf (g 27))) :: (fun g => iV (x16.2.2.2.1.length : Int)) :: (fun g => bV false) :: (fun g => bV false) :: (fun g => bV false) :: (fun g => pV b5 0) :: (fun g => .slice (some ⟨(slOf (g 33)), 0, none⟩) x16.2.2.2.1.length (capOf (g 33))) :: (fun g => pV (slOf (g 33)) 0) :: (fun g => sV (x16.2.2.2.1.getD 0 ⟨#[]⟩)) :: (fun g => pV b18 1) :: (fun g => sV x16.2.2.2.2.2.2.1) :: (fun g => bV false) :: (fun g => bV false) :: (fun g => bV false) :: (fun g => bV false) :: []) (by kernel_rfl) (by kernel_rfl) rfl (⟨⟨⟨fun _ _ => rfl, ⟨fun _ _ => rfl, ⟨fun _ _ => rfl, ⟨fun _ _ => rfl, ⟨fun _ _ => rfl, ⟨fun _ _ => rfl, ⟨fun _ _ => rfl, ⟨fun _ _ => rfl, ⟨fun _ _ => rfl, ⟨fun _ _ => rfl, ⟨fun _ _ => rfl, ⟨fun _ _ => rfl, ⟨fun _ _ => rfl, ⟨fun _ _ => rfl, ⟨fun _ _ => rfl, ⟨fun _ _ => rfl, ⟨fun _ _ => rfl, ⟨fun _ _ => rfl, ⟨fun _ _ => rfl, ⟨fun _ _ => rfl, ⟨fun _ _ => rfl, ⟨fun _ _ => rfl, ⟨fun _ _ => rfl, ⟨fun _ _ => rfl, ⟨fun _ _ => rfl, ⟨fun _ _ => rfl, ⟨fun _ _ => rfl, ⟨trivial, ⟨trivial, ⟨trivial, ⟨trivial, ⟨trivial, ⟨trivial, ⟨trivial, ⟨trivial, ⟨trivial, ⟨trivial, ⟨trivial, ⟨trivial, ⟨trivial, ⟨trivial, ⟨trivial, trivial⟩⟩⟩⟩⟩⟩⟩⟩⟩⟩⟩⟩⟩⟩⟩⟩⟩⟩⟩⟩⟩⟩⟩⟩⟩⟩⟩⟩⟩⟩⟩⟩⟩⟩⟩⟩⟩⟩⟩⟩⟩⟩, ⟨trivial, ⟨trivial, trivial⟩⟩⟩, ⟨⟨⟨fun _ _ => rfl, ⟨fun _ _ => rfl, ⟨fun _ _ => rfl, ⟨fun _ _ => rfl, ⟨fun _ _ => rfl, ⟨fun _ _ => rfl, ⟨fun _ _ => rfl, ⟨fun _ _ => rfl, ⟨fun _ _ => rfl, ⟨fun _ _ => rfl, ⟨fun _ _ => rfl, ⟨fun _ _ => rfl, ⟨fun _ _ => rfl, ⟨fun _ _ => rfl, ⟨fun _ _ => rfl, ⟨fun _ _ => rfl, ⟨fun _ _ => rfl, ⟨fun _ _ => rfl, ⟨fun _ _ => rfl, ⟨fun _ _ => rfl, ⟨fun _ _ => rfl, ⟨fun _ _ => rfl, ⟨fun _ _ => rfl, ⟨fun _ _ => rfl, ⟨fun _ _ => rfl, ⟨fun _ _ => rfl, ⟨fun _ _ => rfl, ⟨fun _ _ => rfl, ⟨fun _ _ => rfl, ⟨fun _ _ => rfl, ⟨fun _ _ => rfl, ⟨fun _ _ => rfl, ⟨fun _ _ => rfl, ⟨trivial, ⟨trivial, ⟨trivial, ⟨fun _ _ => rfl, ⟨fun _ _ => rfl, ⟨trivial, ⟨trivial, ⟨trivial, ⟨trivial, trivial⟩⟩⟩⟩⟩⟩⟩⟩⟩⟩⟩⟩⟩⟩⟩⟩⟩⟩⟩⟩⟩⟩⟩⟩⟩⟩⟩⟩⟩⟩⟩⟩⟩⟩⟩⟩⟩⟩⟩⟩⟩⟩, ⟨fun _ _ => rfl, ⟨trivial, trivial⟩⟩⟩, trivial⟩⟩) ?_ ?_
                    · exact ⟨ob_val fun g w => by kernel_rfl, ob_s (l := fun g => [blkR b18 [bV x16.2.2.2.2.2.1, sV x16.2.2.2.2.2.2.1, bV x16.2.2.2.2.2.2.2] 27]) (l' := fun g => [blkR b18 [bV x16.2.2.2.2.2.1, sV x16.2.2.2.2.2.2.1, bV x16.2.2.2.2.2.2.2] 27]) (v := fun g => bV x16.2.2.2.2.2.1) (fun g => o_load (i := 0) (v := bV x16.2.2.2.2.2.1) (by kernel_rfl) (by kernel_rfl) (by kernel_rfl)) (fun g => by kernel_rfl), ob_v (v := fun g => bV false) (fun g => OprV.re (pureV (v := bV x16.2.2.2.2.2.1) (by kernel_rfl) rfl fun w => by kernel_rfl) (congrArg Value.bool h19)) (fun g => by kernel_rfl), ob_val fun g w => by kernel_rfl, ob_val fun g w => by kernel_rfl, ob_val fun g w => by kernel_rfl, ob_val fun g w => by kernel_rfl, ob_val fun g w => by kernel_rfl, ob_v (v := fun g => bV false) (fun g => OprV.re (pureV (v := bV (decide (m > 0))) (by kernel_rfl) rfl fun w => by kernel_rfl) (vF h21)) (fun g => by kernel_rfl), ob_val fun g w => by kernel_rfl, ob_val fun g w => by kernel_rfl, ob_val fun g w => by kernel_rfl, ob_val fun g w => by kernel_rfl, ob_val fun g w => by kernel_rfl, ob_val fun g w => by kernel_rfl, ob_val fun g w => by kernel_rfl, ob_val fun g w => by kernel_rfl, ob_val fun g w => by kernel_rfl, ob_val fun g w => by kernel_rfl, ob_s (l := fun g => [blkR b18 [bV x16.2.2.2.2.2.1, sV x16.2.2.2.2.2.2.1, bV x16.2.2.2.2.2.2.2] 27]) (l' := fun g => [blkR b18 [bV x16.2.2.2.2.2.1, sV x16.2.2.2.2.2.2.1, bV x16.2.2.2.2.2.2.2] 27]) (v := fun g => bV x16.2.2.2.2.2.2.2) (fun g => o_load (i := 2) (v := bV x16.2.2.2.2.2.2.2) (by kernel_rfl) (by kernel_rfl) (by kernel_rfl)) (fun g => by kernel_rfl), ob_v (v := fun g => bV true) (fun g => OprV.re (pureV (v := bV x16.2.2.2.2.2.2.2) (by kernel_rfl) rfl fun w => by kernel_rfl) (congrArg Value.bool h29)) (fun g => by kernel_rfl), ob_val fun g w => by kernel_rfl, ob_val fun g w => by kernel_rfl, ob_s (l := fun g => [blkR b18 [bV x16.2.2.2.2.2.1, sV x16.2.2.2.2.2.2.1, bV x16.2.2.2.2.2.2.2] 27]) (l' := fun g => [blkR b18 [bV x16.2.2.2.2.2.1, sV x16.2.2.2.2.2.2.1, bV x16.2.2.2.2.2.2.2] 27]) (v := fun g => sV x16.2.2.2.2.2.2.1) (fun g => o_load (i := 1) (v := sV x16.2.2.2.2.2.2.1) (by kernel_rfl) (by kernel_rfl) (by kernel_rfl)) (fun g => by kernel_rfl), ob_s (l := fun g => [srlB b5 nb6 ab7 gb8 mb9 m x16.1, llR nb6 x16.2.1 (n0 + cs0.length + 3), llR ab7 x16.2.2.1 (n0 + cs0.length + 3), llR gb8 x16.2.2.2.1 (n0 + cs0.length + 3), mapR Value.string markV mb9 x16.2.2.2.2.1]) (l' := fun g => [srlB b5 nb6 ab7 gb8 mb9 m x16.1, llR nb6 x16.2.1 (n0 + cs0.length + 3), llR ab7 x16.2.2.1 (n0 + cs0.length + 3), llR gb8 x16.2.2.2.1 (n0 + cs0.length + 3), mapR Value.string markV mb9 x16.2.2.2.2.1]) (v := fun g => bV false) (fun g => o_call (by kernel_rfl) Try.call42 ((Tri.eq (l2 := srlL b5 nb6 ab7 gb8 mb9 m x16.1 x16.2.1 x16.2.2.1 x16.2.2.2.1 x16.2.2.2.2.1 (n0 + cs0.length + 3)) (r' := bV (decide (x16.2.2.2.2.2.2.1 ∈ x16.2.2.1 ++ x16.2.1))) (srl_Has (n := n0 + cs0.length + 3) (most := m) (target := x16.1) (ns := x16.2.1) (cs := x16.2.2.1) (gs := x16.2.2.2.1) (ms := x16.2.2.2.2.1) x16.2.2.2.2.2.2.1 (by omega)) (by first | simp only [srlHas_eq] | rfl) (by first | simp only [srlHas_eq] | rfl)).re (vF ((q17out h29).1)))) (fun g => by kernel_rfl), ob_val fun g w => by kernel_rfl, ob_val fun g w => by kernel_rfl, ob_d (ι := Nat × Nat) (l := fun g => [srlB b5 nb6 ab7 gb8 mb9 m x16.1, llR nb6 x16.2.1 (n0 + cs0.length + 3), llR ab7 x16.2.2.1 (n0 + cs0.length + 3), llR gb8 x16.2.2.2.1 (n0 + cs0.length + 3), mapR Value.string markV mb9 x16.2.2.2.2.1]) (L := fun g y => [srlB b5 nb6 ab7 gb8 mb9 m x16.1, llR nb6 x16.2.1 (n0 + cs0.length + 3), llR ab7 x16.2.2.1 (n0 + cs0.length + 3), llR gb8 x16.2.2.2.1 (n0 + cs0.length + 3), mapR Value.string markV mb9 x16.2.2.2.2.1, rowR 9 1 (.slice (some ⟨y.1, 0, none⟩) x16.2.2.2.1.length y.2) x16.2.2.2.1.length (x16.2.2.2.1.map Value.string)]) (fun y => .slice (some ⟨y.1, 0, none⟩) x16.2.2.2.1.length y.2) (fun g => o_call (by kernel_rfl) Try.call41 (Tri.row (n := x16.2.2.2.1.length) ((q17out h29).2.1) (Tri.ex (L' := fun v => srlL b5 nb6 ab7 gb8 mb9 m x16.1 x16.2.1 x16.2.2.1 x16.2.2.2.1 x16.2.2.2.2.1 (n0 + cs0.length + 3) ++ [rowR 9 1 v (x16.2.2.2.1).length ((x16.2.2.2.1).map Value.string)]) (srl_Ghosts (n := n0 + cs0.length + 3) (most := m) (target := x16.1) (ns := x16.2.1) (cs := x16.2.2.1) (gs := x16.2.2.2.1) (ms := x16.2.2.2.2.1) (by omega)) (fun v => rfl)))) (fun g => by kernel_rfl) (fun g y _ => ⟨trivial, by kernel_rfl, by kernel_rfl⟩), ob_val fun g w => by kernel_rfl, ob_v (v := fun g => bV false) (fun g => OprV.re (o_eqI (k := .i64) (a := (x16.2.2.2.1.length : Int)) (b := 0) (by kernel_rfl) (by kernel_rfl)) (vF (by have := (q17out h29).2.1; omega))) (fun g => by kernel_rfl), ob_val fun g w => by kernel_rfl, ob_val fun g w => by kernel_rfl, ob_val fun g w => by kernel_rfl, ob_d (ι := Nat × Nat) (l := fun g => [srlB b5 nb6 ab7 gb8 mb9 m x16.1, llR nb6 x16.2.1 (n0 + cs0.length + 3), llR ab7 x16.2.2.1 (n0 + cs0.length + 3), llR gb8 x16.2.2.2.1 (n0 + cs0.length + 3), mapR Value.string markV mb9 x16.2.2.2.2.1]) (L := fun g y => [srlB b5 nb6 ab7 gb8 mb9 m x16.1, llR nb6 x16.2.1 (n0 + cs0.length + 3), llR ab7 x16.2.2.1 (n0 + cs0.length + 3), llR gb8 x16.2.2.2.1 (n0 + cs0.length + 3), mapR Value.string markV mb9 x16.2.2.2.2.1, rowR 9 1 (.slice (some ⟨y.1, 0, none⟩) x16.2.2.2.1.length y.2) x16.2.2.2.1.length (x16.2.2.2.1.map Value.string)]) (fun y => .slice (some ⟨y.1, 0, none⟩) x16.2.2.2.1.length y.2) (fun g => o_call (by kernel_rfl) Try.call41 (Tri.row (n := x16.2.2.2.1.length) ((q17out h29).2.1) (Tri.ex (L' := fun v => srlL b5 nb6 ab7 gb8 mb9 m x16.1 x16.2.1 x16.2.2.1 x16.2.2.2.1 x16.2.2.2.2.1 (n0 + cs0.length + 3) ++ [rowR 9 1 v (x16.2.2.2.1).length ((x16.2.2.2.1).map Value.string)]) (srl_Ghosts (n := n0 + cs0.length + 3) (most := m) (target := x16.1) (ns := x16.2.1) (cs := x16.2.2.1) (gs := x16.2.2.2.1) (ms := x16.2.2.2.2.1) (by omega)) (fun v => rfl)))) (fun g => by kernel_rfl) (fun g y _ => ⟨trivial, by kernel_rfl, by kernel_rfl⟩), ob_v (v := fun g => pV (slOf (g 33)) 0) (fun g => o_idx (b := (slOf (g 33))) (cap := (capOf (g 33))) (e := 9) (off := 0) (n := x16.2.2.2.1.length) (kd := .i64) (q := 0) (i := 0) (size := 1) (j := 0) (by kernel_rfl) (by kernel_rfl) (by rfl) (by omega) Try.underlying22 (by kernel_rfl) (by omega)) (fun g => by kernel_rfl), ob_s (l := fun g => [rowR 9 1 (.slice (some ⟨(slOf (g 33)), 0, none⟩) x16.2.2.2.1.length (capOf (g 33))) x16.2.2.2.1.length (x16.2.2.2.1.map Value.string)]) (l' := fun g => [rowR 9 1 (.slice (some ⟨(slOf (g 33)), 0, none⟩) x16.2.2.2.1.length (capOf (g 33))) x16.2.2.2.1.length (x16.2.2.2.1.map Value.string)]) (v := fun g => sV (x16.2.2.2.1.getD 0 ⟨#[]⟩)) (fun g => o_loadRow (i := 0) (u := sV (x16.2.2.2.1.getD 0 ⟨#[]⟩)) (by kernel_rfl) (by omega) (by kernel_rfl) (get_map (by omega))) (fun g => by kernel_rfl), ob_val fun g w => by kernel_rfl, ob_s (l := fun g => [blkR b18 [bV x16.2.2.2.2.2.1, sV x16.2.2.2.2.2.2.1, bV x16.2.2.2.2.2.2.2] 27]) (l' := fun g => [blkR b18 [bV x16.2.2.2.2.2.1, sV x16.2.2.2.2.2.2.1, bV x16.2.2.2.2.2.2.2] 27]) (v := fun g => sV x16.2.2.2.2.2.2.1) (fun g => o_load (i := 1) (v := sV x16.2.2.2.2.2.2.1) (by kernel_rfl) (by kernel_rfl) (by kernel_rfl)) (fun g => by kernel_rfl), ob_v (v := fun g => bV false) (fun g => OprV.re (o_neS (a := x16.2.2.2.1.getD 0 ⟨#[]⟩) (b := x16.2.2.2.2.2.2.1) (by kernel_rfl) (by kernel_rfl)) (vF (fun z => z (q17out h29).2.2))) (fun g => by kernel_rfl), ob_val fun g w => by kernel_rfl, ob_val fun g w => by kernel_rfl, ob_val fun g w => by kernel_rfl, trivial⟩
                    intro g
                    refine Ex'.sub (subB_spec [0, 1, 5, 6, 87]) ?_
                    refine Ex'.as [0, 1, 2, 3, 4, 5, 6, 7, 35, 41] (σ' := [(0, iV m), (1, .slice (some ⟨g12, off13, none⟩) xs.length cap), (5, pV b5 0), (6, iV (k : Int)), (87, bV false)]) (Γ' := [oldR w0, srlB b5 nb6 ab7 gb8 mb9 m x16.1, llR nb6 x16.2.1 (n0 + cs0.length + 3), llR ab7 x16.2.2.1 (n0 + cs0.length + 3), llR gb8 x16.2.2.2.1 (n0 + cs0.length + 3), mapR Value.string markV mb9 x16.2.2.2.2.1, blkR b14 [iV kdk, sV kyk, iV nnk] 45, blkR b18 [bV x16.2.2.2.2.2.1, sV x16.2.2.2.2.2.2.1, bV x16.2.2.2.2.2.2.2] 27, rowR 9 1 (.slice (some ⟨(slOf (g 27)), 0, none⟩) x16.2.2.2.1.length (capOf (g 27))) x16.2.2.2.1.length (x16.2.2.2.1.map Value.string), rowR 9 1 (.slice (some ⟨(slOf (g 33)), 0, none⟩) x16.2.2.2.1.length (capOf (g 33))) x16.2.2.2.1.length (x16.2.2.2.1.map Value.string)]) (by kernel_rfl) rfl (by kernel_rfl) (by kernel_rfl) ?_
                    generalize slOf (g 27) = b32
                    generalize capOf (g 27) = c33
                    generalize slOf (g 33) = b34
                    generalize capOf (g 33) = c35
                    refine Ex'.next ?_
                    refine Cd.condF (by kernel_rfl) ?_
                    refine Cd.skip ?_
                    refine Ex'.blockNormal ?_
                    refine Ex'.meet (x16.1, x16.2.1, x16.2.2.1, x16.2.2.2.1, x16.2.2.2.2.1, n0 + cs0.length + 3) ?_ (subB_eq (l := [0, 1, 5, 6]) (by kernel_rfl)) (fun w hw => hw.pickB [0, 1, 2, 3, 4, 5] (by kernel_rfl) (by kernel_rfl) (by kernel_rfl))
                    · exact ⟨q17, by omega⟩
                  ·
                    refine Cd.plan (0 :: 1 :: 3 :: 7 :: 15 :: 31 :: 63 :: 127 :: 255 :: 511 :: 1023 :: 1023 :: 3071 :: 8191 :: 16383 :: 32767 :: 65535 :: 131071 :: 262143 :: 524287 :: 1048575 :: 2097151 :: 2097151 :: 6291455 :: 16777215 :: 33554431 :: 67108863 :: 134217727 :: 268435455 :: 536870911 :: 1073741823 :: 2147483647 :: 4294967295 :: 8589934591 :: 17179869183 :: 34359738367 :: 4294967295 :: 73014444031 :: 274877906943 :: 549755813887 :: 1099511627775 :: 2199023255551 :: []) [(1, [(7, false, 0)]), (19, [(7, false, 0)])] [] [] [] ((fun g => pV b18 0) :: (fun g => bV x16.2.2.2.2.2.1) :: (fun g => bV false) :: (fun g => undef) :: (fun g => undef) :: (fun g => bV false) :: (fun g => bV false) :: (fun g => iV m) :: (fun g => bV false) :: (fun g => bV false) :: (fun g => undef) :: (fun g => undef) :: (fun g => undef) :: (fun g => undef) :: (fun g => undef) :: (fun g => bV false) :: (fun g => bV false) :: (fun g => bV false) :: (fun g => pV b18 2) :: (fun g => bV x16.2.2.2.2.2.2.2) :: (fun g => bV false) :: (fun g => undef) :: (fun g => undef) :: (fun g => undef) :: (fun g => undef) :: (fun g => undef) :: (fun g => undef) :: (fun g => undef) :: (fun g => undef) :: (fun g => undef) :: (fun g => undef) :: (fun g => undef) :: (fun g => undef) :: (fun g => undef) :: (fun g => undef) :: (fun g => undef) :: (fun g => undef) :: (fun g => undef) :: (fun g => undef) :: (fun g => undef) :: (fun g => bV false) :: (fun g => bV false) :: []) (by kernel_rfl) (by kernel_rfl) rfl (trivial) ?_ ?_
                    · exact ⟨ob_val fun g w => by kernel_rfl, ob_s (l := fun g => [blkR b18 [bV x16.2.2.2.2.2.1, sV x16.2.2.2.2.2.2.1, bV x16.2.2.2.2.2.2.2] 27]) (l' := fun g => [blkR b18 [bV x16.2.2.2.2.2.1, sV x16.2.2.2.2.2.2.1, bV x16.2.2.2.2.2.2.2] 27]) (v := fun g => bV x16.2.2.2.2.2.1) (fun g => o_load (i := 0) (v := bV x16.2.2.2.2.2.1) (by kernel_rfl) (by kernel_rfl) (by kernel_rfl)) (fun g => by kernel_rfl), ob_v (v := fun g => bV false) (fun g => OprV.re (pureV (v := bV x16.2.2.2.2.2.1) (by kernel_rfl) rfl fun w => by kernel_rfl) (congrArg Value.bool h19)) (fun g => by kernel_rfl), ob_val fun g w => by kernel_rfl, ob_val fun g w => by kernel_rfl, ob_val fun g w => by kernel_rfl, ob_val fun g w => by kernel_rfl, ob_val fun g w => by kernel_rfl, ob_v (v := fun g => bV false) (fun g => OprV.re (pureV (v := bV (decide (m > 0))) (by kernel_rfl) rfl fun w => by kernel_rfl) (vF h21)) (fun g => by kernel_rfl), ob_val fun g w => by kernel_rfl, ob_val fun g w => by kernel_rfl, ob_val fun g w => by kernel_rfl, ob_val fun g w => by kernel_rfl, ob_val fun g w => by kernel_rfl, ob_val fun g w => by kernel_rfl, ob_val fun g w => by kernel_rfl, ob_val fun g w => by kernel_rfl, ob_val fun g w => by kernel_rfl, ob_val fun g w => by kernel_rfl, ob_s (l := fun g => [blkR b18 [bV x16.2.2.2.2.2.1, sV x16.2.2.2.2.2.2.1, bV x16.2.2.2.2.2.2.2] 27]) (l' := fun g => [blkR b18 [bV x16.2.2.2.2.2.1, sV x16.2.2.2.2.2.2.1, bV x16.2.2.2.2.2.2.2] 27]) (v := fun g => bV x16.2.2.2.2.2.2.2) (fun g => o_load (i := 2) (v := bV x16.2.2.2.2.2.2.2) (by kernel_rfl) (by kernel_rfl) (by kernel_rfl)) (fun g => by kernel_rfl), ob_v (v := fun g => bV false) (fun g => OprV.re (pureV (v := bV x16.2.2.2.2.2.2.2) (by kernel_rfl) rfl fun w => by kernel_rfl) (congrArg Value.bool h29)) (fun g => by kernel_rfl), ob_val fun g w => by kernel_rfl, ob_val fun g w => by kernel_rfl, ob_val fun g w => by kernel_rfl, ob_val fun g w => by kernel_rfl, ob_val fun g w => by kernel_rfl, ob_val fun g w => by kernel_rfl, ob_val fun g w => by kernel_rfl, ob_val fun g w => by kernel_rfl, ob_val fun g w => by kernel_rfl, ob_val fun g w => by kernel_rfl, ob_val fun g w => by kernel_rfl, ob_val fun g w => by kernel_rfl, ob_val fun g w => by kernel_rfl, ob_val fun g w => by kernel_rfl, ob_val fun g w => by kernel_rfl, ob_val fun g w => by kernel_rfl, ob_val fun g w => by kernel_rfl, ob_val fun g w => by kernel_rfl, ob_val fun g w => by kernel_rfl, ob_val fun g w => by kernel_rfl, ob_val fun g w => by kernel_rfl, trivial⟩
                    intro g
                    refine Ex'.sub (subB_spec [0, 1, 5, 6, 87]) ?_
                    refine Ex'.as [0, 1, 2, 3, 4, 5, 6, 7] (σ' := [(0, iV m), (1, .slice (some ⟨g12, off13, none⟩) xs.length cap), (5, pV b5 0), (6, iV (k : Int)), (87, bV false)]) (Γ' := [oldR w0, srlB b5 nb6 ab7 gb8 mb9 m x16.1, llR nb6 x16.2.1 (n0 + cs0.length + 3), llR ab7 x16.2.2.1 (n0 + cs0.length + 3), llR gb8 x16.2.2.2.1 (n0 + cs0.length + 3), mapR Value.string markV mb9 x16.2.2.2.2.1, blkR b14 [iV kdk, sV kyk, iV nnk] 45, blkR b18 [bV x16.2.2.2.2.2.1, sV x16.2.2.2.2.2.2.1, bV x16.2.2.2.2.2.2.2] 27]) (by kernel_rfl) rfl (by kernel_rfl) (by kernel_rfl) ?_
                    refine Ex'.next ?_
                    refine Cd.condF (by kernel_rfl) ?_
                    refine Cd.skip ?_
                    refine Ex'.blockNormal ?_
                    refine Ex'.meet (x16.1, x16.2.1, x16.2.2.1, x16.2.2.2.1, x16.2.2.2.2.1, n0 + cs0.length + 3) ?_ (subB_eq (l := [0, 1, 5, 6]) (by kernel_rfl)) (fun w hw => hw.pickB [0, 1, 2, 3, 4, 5] (by kernel_rfl) (by kernel_rfl) (by kernel_rfl))
                    · exact ⟨q17, by omega⟩
            ·
              refine Cd.seq ?_
              refine Cd.region rfl ?_
              refine Sq.v (r := bV (decide (kdk = 1))) (o_eqI (k := .i64) (a := kdk) (b := 1) (by kernel_rfl) (by kernel_rfl)) rfl (by kernel_rfl) ?_
              refine Sq.vals [1] (rest := []) [bV (decide (kdk = 1))] (fun w => by kernel_rfl) ?_
              refine Sq.done ?_
              refine Ex'.next ?_
              refine Cd.case (p := kdk = 1) (by kernel_rfl) (fun h36 => ?_) (fun h36 => ?_)
              ·
                refine Cd.seq ?_
                refine Cd.region rfl ?_
                refine Sq.vals [0, 1] (rest := [2, 3]) [pV b5 0, pV b14 1] (fun w => by kernel_rfl) ?_
                refine Sq.same [6] (l := [blkR b14 [iV kdk, sV kyk, iV nnk] 45]) (o_load (i := 1) (v := sV kyk) (by kernel_rfl) (by kernel_rfl) (by kernel_rfl)) (by kernel_rfl) rfl (by kernel_rfl) rfl ?_
                refine Sq.same [1, 2, 3, 4, 5] (l := srlL b5 nb6 ab7 gb8 mb9 m t0 ns0 cs0 gs0 ms0 n0) (o_call (by kernel_rfl) Try.call44 (srl_Remove (n := n0) (most := m) (target := t0) (ns := ns0) (cs := cs0) (gs := gs0) (ms := ms0) kyk (by omega))) (by kernel_rfl) rfl (by kernel_rfl) rfl ?_
                generalize hxx37 : srlRemove m t0 ns0 cs0 gs0 ms0 kyk = x37
                obtain ⟨q38, q38r⟩ := SrlI.remove hI kyk hxx37
                have q38n := q38.nums
                refine Sq.done ?_
                refine Ex'.next ?_
                refine Cd.seq ?_
                refine Cd.plan [0, 0, 2, 7, 15, 31, 63, 31, 159, 511, 1023] [(2, [(6, false, 0)]), (3, [(1, false, 0), (2, false, 0), (3, false, 0), (4, false, 0), (5, false, 0)]), (6, [(1, false, 0), (2, false, 0), (3, false, 0), (4, false, 0), (5, false, 0)]), (8, [(6, false, 0)]), (9, [(13, false, 7)])] [6] [(6, fun _ => True)] [(13, 6, fun g => rowR 9 1 (g 6) x37.2.2.1.length (x37.2.2.1.map Value.string))] [fun g => pV b5 0, fun g => pV b14 1, fun g => sV kyk, fun g => bV false, fun g => bV false, fun g => pV b5 0, fun g => (g 6), fun g => pV b14 1, fun g => sV kyk, fun g => bV false, fun g => bV false] (by kernel_rfl) (by kernel_rfl) rfl (⟨⟨⟨fun _ _ => rfl, ⟨fun _ _ => rfl, ⟨fun _ _ => rfl, ⟨fun _ _ => rfl, ⟨fun _ _ => rfl, ⟨fun _ _ => rfl, ⟨trivial, ⟨fun _ _ => rfl, ⟨fun _ _ => rfl, ⟨trivial, ⟨trivial, trivial⟩⟩⟩⟩⟩⟩⟩⟩⟩⟩⟩, ⟨trivial, trivial⟩⟩, trivial⟩) ?_ ?_
                · exact ⟨ob_val fun g w => by kernel_rfl, ob_val fun g w => by kernel_rfl, ob_s (l := fun g => [blkR b14 [iV kdk, sV kyk, iV nnk] 45]) (l' := fun g => [blkR b14 [iV kdk, sV kyk, iV nnk] 45]) (v := fun g => sV kyk) (fun g => o_load (i := 1) (v := sV kyk) (by kernel_rfl) (by kernel_rfl) (by kernel_rfl)) (fun g => by kernel_rfl), ob_s (l := fun g => [srlB b5 nb6 ab7 gb8 mb9 m t0, llR nb6 x37.1 n0, llR ab7 x37.2.1 n0, llR gb8 x37.2.2.1 n0, mapR Value.string markV mb9 x37.2.2.2.1]) (l' := fun g => [srlB b5 nb6 ab7 gb8 mb9 m t0, llR nb6 x37.1 n0, llR ab7 x37.2.1 n0, llR gb8 x37.2.2.1 n0, mapR Value.string markV mb9 x37.2.2.2.1]) (v := fun g => bV false) (fun g => o_call (by kernel_rfl) Try.call42 ((Tri.eq (l2 := srlL b5 nb6 ab7 gb8 mb9 m t0 x37.1 x37.2.1 x37.2.2.1 x37.2.2.2.1 n0) (r' := bV (decide (kyk ∈ x37.2.1 ++ x37.1))) (srl_Has (n := n0) (most := m) (target := t0) (ns := x37.1) (cs := x37.2.1) (gs := x37.2.2.1) (ms := x37.2.2.2.1) kyk (by omega)) (by first | simp only [srlHas_eq] | rfl) (by first | simp only [srlHas_eq] | rfl)).re (vF (fun z => (mem_rm.1 (q38r.1 ▸ z)).2 rfl)))) (fun g => by kernel_rfl), ob_val fun g w => by kernel_rfl, ob_val fun g w => by kernel_rfl, ob_d (ι := Value) (l := fun g => [srlB b5 nb6 ab7 gb8 mb9 m t0, llR nb6 x37.1 n0, llR ab7 x37.2.1 n0, llR gb8 x37.2.2.1 n0, mapR Value.string markV mb9 x37.2.2.2.1]) (L := fun g y => [srlB b5 nb6 ab7 gb8 mb9 m t0, llR nb6 x37.1 n0, llR ab7 x37.2.1 n0, llR gb8 x37.2.2.1 n0, mapR Value.string markV mb9 x37.2.2.2.1, rowR 9 1 y x37.2.2.1.length (x37.2.2.1.map Value.string)]) (id) (fun g => o_call (by kernel_rfl) Try.call41 (Tri.ex (L' := fun v => srlL b5 nb6 ab7 gb8 mb9 m t0 x37.1 x37.2.1 x37.2.2.1 x37.2.2.2.1 n0 ++ [rowR 9 1 v (x37.2.2.1).length ((x37.2.2.1).map Value.string)]) (srl_Ghosts (n := n0) (most := m) (target := t0) (ns := x37.1) (cs := x37.2.1) (gs := x37.2.2.1) (ms := x37.2.2.2.1) (by omega)) (fun v => rfl))) (fun g => by kernel_rfl) (fun g y _ => ⟨trivial, by kernel_rfl, by kernel_rfl⟩), ob_val fun g w => by kernel_rfl, ob_s (l := fun g => [blkR b14 [iV kdk, sV kyk, iV nnk] 45]) (l' := fun g => [blkR b14 [iV kdk, sV kyk, iV nnk] 45]) (v := fun g => sV kyk) (fun g => o_load (i := 1) (v := sV kyk) (by kernel_rfl) (by kernel_rfl) (by kernel_rfl)) (fun g => by kernel_rfl), ob_s (l := fun g => [rowR 9 1 (g 6) x37.2.2.1.length (x37.2.2.1.map Value.string)]) (l' := fun g => [rowR 9 1 (g 6) x37.2.2.1.length (x37.2.2.1.map Value.string)]) (v := fun g => bV false) (fun g => o_call (by kernel_rfl) Try.call20 ((t_has03 (l := [rowR 9 1 (g 6) x37.2.2.1.length (x37.2.2.1.map Value.string)]) (xs := x37.2.2.1) kyk (fun w own hH => ⟨_, Row.strs (hH 0 _ rfl)⟩)).re (vF (fun z => (mem_rm.1 (q38r.2.1 ▸ z)).2 rfl)))) (fun g => by kernel_rfl), ob_val fun g w => by kernel_rfl, trivial⟩
                intro g
                refine Ex'.sub (subB_spec [0, 1, 5, 6, 104]) ?_
                refine Ex'.as [0, 1, 2, 3, 4, 5, 6, 13] (σ' := [(0, iV m), (1, .slice (some ⟨g12, off13, none⟩) xs.length cap), (5, pV b5 0), (6, iV (k : Int)), (104, bV false)]) (Γ' := [oldR w0, srlB b5 nb6 ab7 gb8 mb9 m t0, llR nb6 x37.1 n0, llR ab7 x37.2.1 n0, llR gb8 x37.2.2.1 n0, mapR Value.string markV mb9 x37.2.2.2.1, blkR b14 [iV kdk, sV kyk, iV nnk] 45, rowR 9 1 (g 6) x37.2.2.1.length (x37.2.2.1.map Value.string)]) (by kernel_rfl) rfl (by kernel_rfl) (by kernel_rfl) ?_
                generalize g 6 = v40
                refine Ex'.fact (i := 7) (R := rowR 9 1 v40 x37.2.2.1.length (x37.2.2.1.map Value.string)) (by kernel_rfl) row_slice ?_; rintro ⟨a41, c42, rfl, hc42, hc42'⟩
                refine Ex'.next ?_
                refine Cd.condF (by kernel_rfl) ?_
                refine Cd.skip ?_
                refine Ex'.blockNormal ?_
                refine Ex'.meet (t0, x37.1, x37.2.1, x37.2.2.1, x37.2.2.2.1, n0) ?_ (subB_eq (l := [0, 1, 5, 6]) (by kernel_rfl)) (fun w hw => hw.pickB [0, 1, 2, 3, 4, 5] (by kernel_rfl) (by kernel_rfl) (by kernel_rfl))
                · exact ⟨q38, by omega⟩
              ·
                refine Cd.seq ?_
                refine Cd.region rfl ?_
                refine Sq.v (r := bV (decide (kdk = 2))) (o_eqI (k := .i64) (a := kdk) (b := 2) (by kernel_rfl) (by kernel_rfl)) rfl (by kernel_rfl) ?_
                refine Sq.vals [1] (rest := []) [bV (decide (kdk = 2))] (fun w => by kernel_rfl) ?_
                refine Sq.done ?_
                refine Ex'.next ?_
                refine Cd.case (p := kdk = 2) (by kernel_rfl) (fun h43 => ?_) (fun h43 => ?_)
                ·
                  refine Cd.region rfl ?_
                  refine Sq.vals [0, 1] (rest := [2, 3]) [pV b5 0, pV b14 1] (fun w => by kernel_rfl) ?_
                  refine Sq.same [6] (l := [blkR b14 [iV kdk, sV kyk, iV nnk] 45]) (o_load (i := 1) (v := sV kyk) (by kernel_rfl) (by kernel_rfl) (by kernel_rfl)) (by kernel_rfl) rfl (by kernel_rfl) rfl ?_
                  refine Sq.same [1, 2, 3, 4, 5] (l := srlL b5 nb6 ab7 gb8 mb9 m t0 ns0 cs0 gs0 ms0 n0) (o_call (by kernel_rfl) Try.call45 (srl_Adopt (n := n0) (n' := n0 + 1) (most := m) (target := t0) (ns := ns0) (cs := cs0) (gs := gs0) (ms := ms0) kyk (by omega) (by omega))) (by kernel_rfl) rfl (by kernel_rfl) rfl ?_
                  generalize hxx44 : srlAdopt m t0 ns0 cs0 gs0 ms0 kyk = x44
                  obtain ⟨q45, q45r⟩ := SrlI.adopt hI kyk hxx44
                  have q45n := q45.nums
                  refine Sq.done ?_
                  refine Ex'.blockNormal ?_
                  refine Ex'.meet (t0, x44.1, cs0, x44.2.1, x44.2.2.1, n0 + 1) ?_ (subB_eq (l := [0, 1, 5, 6]) (by kernel_rfl)) (fun w hw => hw.pickB [0, 1, 2, 3, 4, 5] (by kernel_rfl) (by kernel_rfl) (by kernel_rfl))
                  · exact ⟨q45, by omega⟩
                ·
                  refine Cd.seq ?_
                  refine Cd.region rfl ?_
                  refine Sq.v (r := bV (decide (kdk = 3))) (o_eqI (k := .i64) (a := kdk) (b := 3) (by kernel_rfl) (by kernel_rfl)) rfl (by kernel_rfl) ?_
                  refine Sq.vals [1] (rest := []) [bV (decide (kdk = 3))] (fun w => by kernel_rfl) ?_
                  refine Sq.done ?_
                  refine Ex'.next ?_
                  refine Cd.case (p := kdk = 3) (by kernel_rfl) (fun h46 => ?_) (fun h46 => ?_)
                  ·
                    refine Cd.region rfl ?_
                    refine Sq.vals [0] (rest := [1]) [pV b5 0] (fun w => by kernel_rfl) ?_
                    refine Sq.same [1, 2, 3, 4, 5] (l := srlL b5 nb6 ab7 gb8 mb9 m t0 ns0 cs0 gs0 ms0 n0) (o_call (by kernel_rfl) Try.call46 (srl_Drop (n := n0) (most := m) (target := t0) (ns := ns0) (cs := cs0) (gs := gs0) (ms := ms0) (by omega))) (by kernel_rfl) rfl (by kernel_rfl) rfl ?_
                    generalize hxx47 : srlDrop m t0 ns0 cs0 gs0 ms0 = x47
                    obtain ⟨q48, q48r⟩ := SrlI.drop hI  hxx47
                    have q48n := q48.nums
                    refine Sq.done ?_
                    refine Ex'.blockNormal ?_
                    refine Ex'.meet (t0, x47.1, x47.2.1, gs0, x47.2.2.1, n0) ?_ (subB_eq (l := [0, 1, 5, 6]) (by kernel_rfl)) (fun w hw => hw.pickB [0, 1, 2, 3, 4, 5] (by kernel_rfl) (by kernel_rfl) (by kernel_rfl))
                    · exact ⟨q48, by omega⟩
                  ·
                    refine Cd.skip ?_
                    refine Ex'.blockNormal ?_
                    refine Ex'.meet (t0, ns0, cs0, gs0, ms0, n0) ?_ (subB_eq (l := [0, 1, 5, 6]) (by kernel_rfl)) (fun w hw => hw.pickB [0, 1, 2, 3, 4, 5] (by kernel_rfl) (by kernel_rfl) (by kernel_rfl))
                    · exact ⟨hI, by omega⟩
          rintro ⟨t1, ns1, cs1, gs1, ms1, n1⟩ hL49
          try dsimp only at hL49 ⊢
          obtain ⟨hJ, hn1⟩ := hL49
          have hJn := hJ.nums
          refine Cd.seq ?_
          refine Cd.region rfl ?_
          refine Sq.vals [0] (rest := [1, 2]) [pV b5 0] (fun w => by kernel_rfl) ?_
          refine Sq.ex [1, 2, 3, 4, 5] (l := srlL b5 nb6 ab7 gb8 mb9 m t1 ns1 cs1 gs1 ms1 n1) (o_call (by kernel_rfl) Try.call41 (Tri.ex (L' := fun v => srlL b5 nb6 ab7 gb8 mb9 m t1 ns1 cs1 gs1 ms1 n1 ++ [rowR 9 1 v (gs1).length ((gs1).map Value.string)]) (srl_Ghosts (n := n1) (most := m) (target := t1) (ns := ns1) (cs := cs1) (gs := gs1) (ms := ms1) (by omega)) (fun v => rfl))) (by kernel_rfl) rfl (by kernel_rfl) (fun _ => Nat.le_of_ble_eq_true (by kernel_rfl)) ?_; rintro v50 _
          refine Sq.fact (i := 6) (R := rowR 9 1 v50 gs1.length (gs1.map Value.string)) (by kernel_rfl) row_slice ?_; rintro ⟨a51, c52, rfl, hc52, hc52'⟩
          refine Sq.vals [2] (rest := []) [.slice a51 gs1.length c52] (fun w => by kernel_rfl) ?_
          refine Sq.done ?_
          refine Ex'.next ?_
          refine Cd.seq ?_
          refine Cd.seq ?_
          refine Cd.region rfl ?_
          refine Sq.vals [0] (rest := [1, 2, 3, 4, 5, 6, 7, 8, 9, 10, 11, 12, 13, 14, 15, 16, 17, 18, 19, 20, 21, 22, 23, 24, 25, 26, 27, 28, 29, 30, 31, 32, 33, 34, 35, 36, 37, 38, 39, 40, 41, 42, 43, 44, 45]) [pV b5 0] (fun w => by kernel_rfl) ?_
          refine Sq.same [1, 2, 3, 4, 5] (l := srlL b5 nb6 ab7 gb8 mb9 m t1 ns1 cs1 gs1 ms1 n1) (o_call (by kernel_rfl) Try.call43 (Tri.eq (l2 := srlL b5 nb6 ab7 gb8 mb9 m t1 ns1 cs1 gs1 ms1 n1) (r' := iV t1) (srl_Target (n := n1) (most := m) (target := t1) (ns := ns1) (cs := cs1) (gs := gs1) (ms := ms1) (by omega)) (rfl) (rfl))) (by kernel_rfl) rfl (by kernel_rfl) rfl ?_
          refine Sq.v (r := bV (decide (t1 < 0))) (pureV (by kernel_rfl) rfl fun w => by kernel_rfl) rfl (by kernel_rfl) ?_
          refine Sq.re 119 rfl (vF (by omega)) ?_
          refine Sq.vals [3, 4] (rest := [5, 6, 7, 8, 9, 10, 11, 12, 13, 14, 15, 16, 17, 18, 19, 20, 21, 22, 23, 24, 25, 26, 27, 28, 29, 30, 31, 32, 33, 34, 35, 36, 37, 38, 39, 40, 41, 42, 43, 44, 45]) [bV false, pV b5 0] (fun w => by kernel_rfl) ?_
          refine Sq.same [1, 2, 3, 4, 5] (l := srlL b5 nb6 ab7 gb8 mb9 m t1 ns1 cs1 gs1 ms1 n1) (o_call (by kernel_rfl) Try.call43 (Tri.eq (l2 := srlL b5 nb6 ab7 gb8 mb9 m t1 ns1 cs1 gs1 ms1 n1) (r' := iV t1) (srl_Target (n := n1) (most := m) (target := t1) (ns := ns1) (cs := cs1) (gs := gs1) (ms := ms1) (by omega)) (rfl) (rfl))) (by kernel_rfl) rfl (by kernel_rfl) rfl ?_
          refine Sq.vals [6] (rest := [7, 8, 9, 10, 11, 12, 13, 14, 15, 16, 17, 18, 19, 20, 21, 22, 23, 24, 25, 26, 27, 28, 29, 30, 31, 32, 33, 34, 35, 36, 37, 38, 39, 40, 41, 42, 43, 44, 45]) [iV m] (fun w => by kernel_rfl) ?_
          refine Sq.v (r := bV (decide (t1 > m))) (pureV (by kernel_rfl) rfl fun w => by kernel_rfl) rfl (by kernel_rfl) ?_
          refine Sq.re 124 rfl (vF (by omega)) ?_
          refine Sq.vals [8, 9, 10, 11, 12] (rest := [13, 14, 15, 16, 17, 18, 19, 20, 21, 22, 23, 24, 25, 26, 27, 28, 29, 30, 31, 32, 33, 34, 35, 36, 37, 38, 39, 40, 41, 42, 43, 44, 45]) [bV false, bV false, iV m, bV (decide (m ≥ 2)), bV (decide (m ≥ 2))] (fun w => by kernel_rfl) ?_
          refine Sq.case 129 (p := m ≥ 2) rfl (fun h53 => ?_) (fun h53 => ?_)
          ·
            refine Sq.vals [13] (rest := [14, 15, 16, 17, 18, 19, 20, 21, 22, 23, 24, 25, 26, 27, 28, 29, 30, 31, 32, 33, 34, 35, 36, 37, 38, 39, 40, 41, 42, 43, 44, 45]) [pV b5 0] (fun w => by kernel_rfl) ?_
            refine Sq.same [1, 2, 3, 4, 5] (l := srlL b5 nb6 ab7 gb8 mb9 m t1 ns1 cs1 gs1 ms1 n1) (o_call (by kernel_rfl) Try.call43 (Tri.eq (l2 := srlL b5 nb6 ab7 gb8 mb9 m t1 ns1 cs1 gs1 ms1 n1) (r' := iV t1) (srl_Target (n := n1) (most := m) (target := t1) (ns := ns1) (cs := cs1) (gs := gs1) (ms := ms1) (by omega)) (rfl) (rfl))) (by kernel_rfl) rfl (by kernel_rfl) rfl ?_
            refine Sq.v (r := bV (decide (t1 < 1))) (pureV (by kernel_rfl) rfl fun w => by kernel_rfl) rfl (by kernel_rfl) ?_
            refine Sq.re 132 rfl (vF (by omega)) ?_
            refine Sq.vals [16, 17, 18, 19] (rest := [20, 21, 22, 23, 24, 25, 26, 27, 28, 29, 30, 31, 32, 33, 34, 35, 36, 37, 38, 39, 40, 41, 42, 43, 44, 45]) [bV false, bV false, bV false, pV b5 0] (fun w => by kernel_rfl) ?_
            refine Sq.same [1, 2, 3, 4, 5] (l := srlL b5 nb6 ab7 gb8 mb9 m t1 ns1 cs1 gs1 ms1 n1) (o_call (by kernel_rfl) Try.call39 (Tri.eq (l2 := srlL b5 nb6 ab7 gb8 mb9 m t1 ns1 cs1 gs1 ms1 n1) (r' := iV (cs1.length : Int)) (srl_Again (n := n1) (most := m) (target := t1) (ns := ns1) (cs := cs1) (gs := gs1) (ms := ms1) (by omega)) (rfl) (rfl))) (by kernel_rfl) rfl (by kernel_rfl) rfl ?_
            refine Sq.vals [21] (rest := [22, 23, 24, 25, 26, 27, 28, 29, 30, 31, 32, 33, 34, 35, 36, 37, 38, 39, 40, 41, 42, 43, 44, 45]) [pV b5 0] (fun w => by kernel_rfl) ?_
            refine Sq.same [1, 2, 3, 4, 5] (l := srlL b5 nb6 ab7 gb8 mb9 m t1 ns1 cs1 gs1 ms1 n1) (o_call (by kernel_rfl) Try.call43 (Tri.eq (l2 := srlL b5 nb6 ab7 gb8 mb9 m t1 ns1 cs1 gs1 ms1 n1) (r' := iV t1) (srl_Target (n := n1) (most := m) (target := t1) (ns := ns1) (cs := cs1) (gs := gs1) (ms := ms1) (by omega)) (rfl) (rfl))) (by kernel_rfl) rfl (by kernel_rfl) rfl ?_
            refine Sq.vals [23] (rest := [24, 25, 26, 27, 28, 29, 30, 31, 32, 33, 34, 35, 36, 37, 38, 39, 40, 41, 42, 43, 44, 45]) [iV (if t1 > 1 then t1 else 1)] (fun w => by kernel_rfl) ?_
            refine Sq.v (r := bV (decide ((cs1.length : Int) > (if t1 > 1 then t1 else 1)))) (pureV (by kernel_rfl) rfl fun w => by kernel_rfl) rfl (by kernel_rfl) ?_
            refine Sq.re 141 rfl (vF (by omega)) ?_
            refine Sq.vals [25, 26, 27] (rest := [28, 29, 30, 31, 32, 33, 34, 35, 36, 37, 38, 39, 40, 41, 42, 43, 44, 45]) [bV false, bV false, pV b5 0] (fun w => by kernel_rfl) ?_
            refine Sq.same [1, 2, 3, 4, 5] (l := srlL b5 nb6 ab7 gb8 mb9 m t1 ns1 cs1 gs1 ms1 n1) (o_call (by kernel_rfl) Try.call40 (Tri.eq (l2 := srlL b5 nb6 ab7 gb8 mb9 m t1 ns1 cs1 gs1 ms1 n1) (r' := iV ((cs1.length : Int) + ns1.length)) (srl_Len (n := n1) (most := m) (target := t1) (ns := ns1) (cs := cs1) (gs := gs1) (ms := ms1) (by omega)) (by first | simp only [srlLen_sum] | rfl) (by first | simp only [srlLen_sum] | rfl))) (by kernel_rfl) rfl (by kernel_rfl) rfl ?_
            refine Sq.vals [29] (rest := [30, 31, 32, 33, 34, 35, 36, 37, 38, 39, 40, 41, 42, 43, 44, 45]) [iV m] (fun w => by kernel_rfl) ?_
            refine Sq.v (r := bV (decide ((cs1.length : Int) + ns1.length > m))) (pureV (by kernel_rfl) rfl fun w => by kernel_rfl) rfl (by kernel_rfl) ?_
            refine Sq.re 147 rfl (vF (by omega)) ?_
            refine Sq.vals [31, 32, 33, 34, 35] (rest := [36, 37, 38, 39, 40, 41, 42, 43, 44, 45]) [bV false, bV false, .slice a51 gs1.length c52, iV (gs1.length : Int), iV m] (fun w => by kernel_rfl) ?_
            refine Sq.v (r := bV (decide ((gs1.length : Int) > m))) (pureV (by kernel_rfl) rfl fun w => by kernel_rfl) rfl (by kernel_rfl) ?_
            refine Sq.re 153 rfl (vF (by omega)) ?_
            refine Sq.vals [37, 38, 39] (rest := [40, 41, 42, 43, 44, 45]) [bV false, bV false, pV b5 0] (fun w => by kernel_rfl) ?_
            refine Sq.ex [1, 2, 3, 4, 5] (l := srlL b5 nb6 ab7 gb8 mb9 m t1 ns1 cs1 gs1 ms1 n1) (o_call (by kernel_rfl) Try.call38 (Tri.ex (L' := fun v => srlL b5 nb6 ab7 gb8 mb9 m t1 ns1 cs1 gs1 ms1 n1 ++ [rowR 9 1 v ((cs1 ++ ns1).reverse).length (((cs1 ++ ns1).reverse).map Value.string)]) (srl_Keys (n := n1) (most := m) (target := t1) (ns := ns1) (cs := cs1) (gs := gs1) (ms := ms1) (by omega)) (fun v => by simp only [srlKeys_eq]))) (by kernel_rfl) rfl (by kernel_rfl) (fun _ => Nat.le_of_ble_eq_true (by kernel_rfl)) ?_; rintro v54 _
            refine Sq.fact (i := 7) (R := rowR 9 1 v54 (((cs1 ++ ns1).reverse).length) (((cs1 ++ ns1).reverse).map Value.string)) (by kernel_rfl) row_slice ?_; rintro ⟨a55, c56, rfl, hc56, hc56'⟩
            refine Sq.vals [41, 42] (rest := [43, 44, 45]) [iV (((cs1 ++ ns1).reverse).length : Int), pV b5 0] (fun w => by kernel_rfl) ?_
            refine Sq.same [1, 2, 3, 4, 5] (l := srlL b5 nb6 ab7 gb8 mb9 m t1 ns1 cs1 gs1 ms1 n1) (o_call (by kernel_rfl) Try.call40 (Tri.eq (l2 := srlL b5 nb6 ab7 gb8 mb9 m t1 ns1 cs1 gs1 ms1 n1) (r' := iV ((cs1.length : Int) + ns1.length)) (srl_Len (n := n1) (most := m) (target := t1) (ns := ns1) (cs := cs1) (gs := gs1) (ms := ms1) (by omega)) (by first | simp only [srlLen_sum] | rfl) (by first | simp only [srlLen_sum] | rfl))) (by kernel_rfl) rfl (by kernel_rfl) rfl ?_
            refine Sq.v (r := bV (decide ((((cs1 ++ ns1).reverse).length : Int) ≠ (cs1.length : Int) + ns1.length))) (o_neI (k := .i64) (a := (((cs1 ++ ns1).reverse).length : Int)) (b := (cs1.length : Int) + ns1.length) (by kernel_rfl) (by kernel_rfl)) rfl (by kernel_rfl) ?_
            refine Sq.re 161 rfl (vF (by simp; omega)) ?_
            refine Sq.vals [45] (rest := []) [bV false] (fun w => by kernel_rfl) ?_
            refine Sq.done ?_
            refine Ex'.next ?_
            refine Cd.condF (by kernel_rfl) ?_
            refine Cd.skip ?_
            refine Ex'.next ?_
            refine Cd.seq ?_
            refine Cd.region rfl ?_
            refine Sq.vals [0] (rest := []) [iV 0] (fun w => by kernel_rfl) ?_
            refine Sq.done ?_
            refine Ex'.next ?_
            refine Cd.block ?_
            refine Cd.loop (ι := Nat) (fun j => j ≤ gs1.length) (fun j => gs1.length - j) (fun j => [(0, iV m), (1, .slice (some ⟨g12, off13, none⟩) xs.length cap), (5, pV b5 0), (6, iV (k : Int)), (9, .slice a51 gs1.length c52), (10, iV (j : Int))]) (fun j => [oldR w0, srlB b5 nb6 ab7 gb8 mb9 m t1, llR nb6 ns1 n1, llR ab7 cs1 n1, llR gb8 gs1 n1, mapR Value.string markV mb9 ms1, rowR 9 1 (.slice a51 gs1.length c52) gs1.length (gs1.map Value.string), rowR 9 1 (.slice a55 (((cs1 ++ ns1).reverse).length) c56) (((cs1 ++ ns1).reverse).length) (((cs1 ++ ns1).reverse).map Value.string)]) 0 (Nat.zero_le _) (subB_eq (l := [0, 1, 5, 6, 9, 10]) (by kernel_rfl)) (fun w hw => hw.pickB [0, 1, 2, 3, 4, 5, 6, 7] (by kernel_rfl) (by kernel_rfl) (by kernel_rfl)) ?_
            rintro j hL57
            try dsimp only at hL57 ⊢
            have hj := hL57
            refine Cd.seq ?_
            refine Cd.seq ?_
            refine Cd.region rfl ?_
            refine Sq.vals [0, 1, 2, 3] (rest := []) [iV (j : Int), .slice a51 gs1.length c52, iV (gs1.length : Int), bV (decide ((j : Int) < (gs1.length : Int)))] (fun w => by kernel_rfl) ?_
            refine Sq.done ?_
            refine Ex'.next ?_
            refine Cd.case (p := (j : Int) < (gs1.length : Int)) (by kernel_rfl) (fun h58 => ?_) (fun h58 => ?_)
            ·
              refine Cd.fact (i := 6) (R := rowR 9 1 (.slice a51 gs1.length c52) gs1.length (gs1.map Value.string)) (by kernel_rfl) (row_addr (by omega)) ?_; rintro ⟨b59, rfl⟩
              refine Cd.skip ?_
              refine Ex'.next ?_
              refine Cd.seq ?_
              refine Cd.block ?_
              refine Cd.seq ?_
              refine Cd.region rfl ?_
              refine Sq.vals [0, 1, 2] (rest := [3, 4, 5]) [pV b5 0, .slice (some ⟨b59, 0, none⟩) gs1.length c52, iV (j : Int)] (fun w => by kernel_rfl) ?_
              refine Sq.v (r := pV b59 j) (o_idx (b := b59) (cap := c52) (e := 9) (off := 0) (n := gs1.length) (kd := .i64) (q := (j : Int)) (i := j) (size := 1) (j := j) (by kernel_rfl) (by kernel_rfl) (by rfl) (by omega) Try.underlying22 (by kernel_rfl) (by omega)) rfl (by kernel_rfl) ?_
              refine Sq.same [6] (l := [rowR 9 1 (.slice (some ⟨b59, 0, none⟩) gs1.length c52) gs1.length (gs1.map Value.string)]) (o_loadRow (i := j) (u := sV (gs1.getD j ⟨#[]⟩)) (by kernel_rfl) (by omega) (by kernel_rfl) (get_map (by omega))) (by kernel_rfl) rfl (by kernel_rfl) rfl ?_
              refine Sq.same [1, 2, 3, 4, 5] (l := srlL b5 nb6 ab7 gb8 mb9 m t1 ns1 cs1 gs1 ms1 n1) (o_call (by kernel_rfl) Try.call42 ((Tri.eq (l2 := srlL b5 nb6 ab7 gb8 mb9 m t1 ns1 cs1 gs1 ms1 n1) (r' := bV (decide (gs1.getD j ⟨#[]⟩ ∈ cs1 ++ ns1))) (srl_Has (n := n1) (most := m) (target := t1) (ns := ns1) (cs := cs1) (gs := gs1) (ms := ms1) (gs1.getD j ⟨#[]⟩) (by omega)) (by first | simp only [srlHas_eq] | rfl) (by first | simp only [srlHas_eq] | rfl)).re (vF (fun z => hJ.b.apart _ z (getD_mem (by omega)))))) (by kernel_rfl) rfl (by kernel_rfl) rfl ?_
              refine Sq.done ?_
              refine Ex'.next ?_
              refine Cd.condF (by kernel_rfl) ?_
              refine Cd.skip ?_
              refine Ex'.blockNormal ?_
              refine Ex'.next ?_
              refine Cd.region rfl ?_
              refine Sq.vals [0] (rest := [1, 2]) [iV (j : Int)] (fun w => by kernel_rfl) ?_
              refine Sq.v (r := iV ((j : Int) + 1)) (o_add (k := .i64) (a := (j : Int)) (b := 1) (c := (j : Int) + 1) (by kernel_rfl) (by kernel_rfl) (w64 rfl (by omega))) rfl (by kernel_rfl) ?_
              refine Sq.vals [2] (rest := []) [iV ((j : Int) + 1)] (fun w => by kernel_rfl) ?_
              refine Sq.done ?_
              refine Ex'.round (g := j) (j + 1) ?_ ?_ (subB_eq (l := [0, 1, 5, 6, 9, 10]) (by kernel_rfl)) (fun w hw => hw.pickB [0, 1, 2, 3, 4, 5, 6, 7] (by kernel_rfl) (by kernel_rfl) (by kernel_rfl))
              · exact (by omega : j + 1 ≤ gs1.length)
              · omega
            ·
              refine Cd.exit ?_
              refine Ex'.thenExit ?_
              refine Ex'.thenExit ?_
              refine Ex'.blockHit ?_
              refine Ex'.blockNormal ?_
              refine Ex'.next ?_
              refine Cd.region rfl ?_
              refine Sq.vals [0] (rest := [1, 2]) [iV (k : Int)] (fun w => by kernel_rfl) ?_
              refine Sq.v (r := iV ((k : Int) + 1)) (o_add (k := .i64) (a := (k : Int)) (b := 1) (c := (k : Int) + 1) (by kernel_rfl) (by kernel_rfl) (w64 rfl (by omega))) rfl (by kernel_rfl) ?_
              refine Sq.vals [2] (rest := []) [iV ((k : Int) + 1)] (fun w => by kernel_rfl) ?_
              refine Sq.done ?_
              refine Ex'.round (g := (k, t0, ns0, cs0, gs0, ms0, n0)) (k + 1, t1, ns1, cs1, gs1, ms1, n1) ?_ ?_ (subB_eq (l := [0, 1, 5, 6]) (by kernel_rfl)) (fun w hw => hw.pickB [0, 1, 2, 3, 4, 5] (by kernel_rfl) (by kernel_rfl) (by kernel_rfl))
              · exact ⟨by omega, hJ, by omega⟩
              · omega
          ·
            refine Sq.vals [13, 14, 15, 16, 17, 18, 19] (rest := [20, 21, 22, 23, 24, 25, 26, 27, 28, 29, 30, 31, 32, 33, 34, 35, 36, 37, 38, 39, 40, 41, 42, 43, 44, 45]) [undef, undef, undef, bV false, bV false, bV false, pV b5 0] (fun w => by kernel_rfl) ?_
            refine Sq.same [1, 2, 3, 4, 5] (l := srlL b5 nb6 ab7 gb8 mb9 m t1 ns1 cs1 gs1 ms1 n1) (o_call (by kernel_rfl) Try.call39 (Tri.eq (l2 := srlL b5 nb6 ab7 gb8 mb9 m t1 ns1 cs1 gs1 ms1 n1) (r' := iV (cs1.length : Int)) (srl_Again (n := n1) (most := m) (target := t1) (ns := ns1) (cs := cs1) (gs := gs1) (ms := ms1) (by omega)) (rfl) (rfl))) (by kernel_rfl) rfl (by kernel_rfl) rfl ?_
            refine Sq.vals [21] (rest := [22, 23, 24, 25, 26, 27, 28, 29, 30, 31, 32, 33, 34, 35, 36, 37, 38, 39, 40, 41, 42, 43, 44, 45]) [pV b5 0] (fun w => by kernel_rfl) ?_
            refine Sq.same [1, 2, 3, 4, 5] (l := srlL b5 nb6 ab7 gb8 mb9 m t1 ns1 cs1 gs1 ms1 n1) (o_call (by kernel_rfl) Try.call43 (Tri.eq (l2 := srlL b5 nb6 ab7 gb8 mb9 m t1 ns1 cs1 gs1 ms1 n1) (r' := iV t1) (srl_Target (n := n1) (most := m) (target := t1) (ns := ns1) (cs := cs1) (gs := gs1) (ms := ms1) (by omega)) (rfl) (rfl))) (by kernel_rfl) rfl (by kernel_rfl) rfl ?_
            refine Sq.vals [23] (rest := [24, 25, 26, 27, 28, 29, 30, 31, 32, 33, 34, 35, 36, 37, 38, 39, 40, 41, 42, 43, 44, 45]) [iV (if t1 > 1 then t1 else 1)] (fun w => by kernel_rfl) ?_
            refine Sq.v (r := bV (decide ((cs1.length : Int) > (if t1 > 1 then t1 else 1)))) (pureV (by kernel_rfl) rfl fun w => by kernel_rfl) rfl (by kernel_rfl) ?_
            refine Sq.re 141 rfl (vF (by omega)) ?_
            refine Sq.vals [25, 26, 27] (rest := [28, 29, 30, 31, 32, 33, 34, 35, 36, 37, 38, 39, 40, 41, 42, 43, 44, 45]) [bV false, bV false, pV b5 0] (fun w => by kernel_rfl) ?_
            refine Sq.same [1, 2, 3, 4, 5] (l := srlL b5 nb6 ab7 gb8 mb9 m t1 ns1 cs1 gs1 ms1 n1) (o_call (by kernel_rfl) Try.call40 (Tri.eq (l2 := srlL b5 nb6 ab7 gb8 mb9 m t1 ns1 cs1 gs1 ms1 n1) (r' := iV ((cs1.length : Int) + ns1.length)) (srl_Len (n := n1) (most := m) (target := t1) (ns := ns1) (cs := cs1) (gs := gs1) (ms := ms1) (by omega)) (by first | simp only [srlLen_sum] | rfl) (by first | simp only [srlLen_sum] | rfl))) (by kernel_rfl) rfl (by kernel_rfl) rfl ?_
            refine Sq.vals [29] (rest := [30, 31, 32, 33, 34, 35, 36, 37, 38, 39, 40, 41, 42, 43, 44, 45]) [iV m] (fun w => by kernel_rfl) ?_
            refine Sq.v (r := bV (decide ((cs1.length : Int) + ns1.length > m))) (pureV (by kernel_rfl) rfl fun w => by kernel_rfl) rfl (by kernel_rfl) ?_
            refine Sq.re 147 rfl (vF (by omega)) ?_
            refine Sq.vals [31, 32, 33, 34, 35] (rest := [36, 37, 38, 39, 40, 41, 42, 43, 44, 45]) [bV false, bV false, .slice a51 gs1.length c52, iV (gs1.length : Int), iV m] (fun w => by kernel_rfl) ?_
            refine Sq.v (r := bV (decide ((gs1.length : Int) > m))) (pureV (by kernel_rfl) rfl fun w => by kernel_rfl) rfl (by kernel_rfl) ?_
            refine Sq.re 153 rfl (vF (by omega)) ?_
            refine Sq.vals [37, 38, 39] (rest := [40, 41, 42, 43, 44, 45]) [bV false, bV false, pV b5 0] (fun w => by kernel_rfl) ?_
            refine Sq.ex [1, 2, 3, 4, 5] (l := srlL b5 nb6 ab7 gb8 mb9 m t1 ns1 cs1 gs1 ms1 n1) (o_call (by kernel_rfl) Try.call38 (Tri.ex (L' := fun v => srlL b5 nb6 ab7 gb8 mb9 m t1 ns1 cs1 gs1 ms1 n1 ++ [rowR 9 1 v ((cs1 ++ ns1).reverse).length (((cs1 ++ ns1).reverse).map Value.string)]) (srl_Keys (n := n1) (most := m) (target := t1) (ns := ns1) (cs := cs1) (gs := gs1) (ms := ms1) (by omega)) (fun v => by simp only [srlKeys_eq]))) (by kernel_rfl) rfl (by kernel_rfl) (fun _ => Nat.le_of_ble_eq_true (by kernel_rfl)) ?_; rintro v60 _
            refine Sq.fact (i := 7) (R := rowR 9 1 v60 (((cs1 ++ ns1).reverse).length) (((cs1 ++ ns1).reverse).map Value.string)) (by kernel_rfl) row_slice ?_; rintro ⟨a61, c62, rfl, hc62, hc62'⟩
            refine Sq.vals [41, 42] (rest := [43, 44, 45]) [iV (((cs1 ++ ns1).reverse).length : Int), pV b5 0] (fun w => by kernel_rfl) ?_
            refine Sq.same [1, 2, 3, 4, 5] (l := srlL b5 nb6 ab7 gb8 mb9 m t1 ns1 cs1 gs1 ms1 n1) (o_call (by kernel_rfl) Try.call40 (Tri.eq (l2 := srlL b5 nb6 ab7 gb8 mb9 m t1 ns1 cs1 gs1 ms1 n1) (r' := iV ((cs1.length : Int) + ns1.length)) (srl_Len (n := n1) (most := m) (target := t1) (ns := ns1) (cs := cs1) (gs := gs1) (ms := ms1) (by omega)) (by first | simp only [srlLen_sum] | rfl) (by first | simp only [srlLen_sum] | rfl))) (by kernel_rfl) rfl (by kernel_rfl) rfl ?_
            refine Sq.v (r := bV (decide ((((cs1 ++ ns1).reverse).length : Int) ≠ (cs1.length : Int) + ns1.length))) (o_neI (k := .i64) (a := (((cs1 ++ ns1).reverse).length : Int)) (b := (cs1.length : Int) + ns1.length) (by kernel_rfl) (by kernel_rfl)) rfl (by kernel_rfl) ?_
            refine Sq.re 161 rfl (vF (by simp; omega)) ?_
            refine Sq.vals [45] (rest := []) [bV false] (fun w => by kernel_rfl) ?_
            refine Sq.done ?_
            refine Ex'.next ?_
            refine Cd.condF (by kernel_rfl) ?_
            refine Cd.skip ?_
            refine Ex'.next ?_
            refine Cd.seq ?_
            refine Cd.region rfl ?_
            refine Sq.vals [0] (rest := []) [iV 0] (fun w => by kernel_rfl) ?_
            refine Sq.done ?_
            refine Ex'.next ?_
            refine Cd.block ?_
            refine Cd.loop (ι := Nat) (fun j => j ≤ gs1.length) (fun j => gs1.length - j) (fun j => [(0, iV m), (1, .slice (some ⟨g12, off13, none⟩) xs.length cap), (5, pV b5 0), (6, iV (k : Int)), (9, .slice a51 gs1.length c52), (10, iV (j : Int))]) (fun j => [oldR w0, srlB b5 nb6 ab7 gb8 mb9 m t1, llR nb6 ns1 n1, llR ab7 cs1 n1, llR gb8 gs1 n1, mapR Value.string markV mb9 ms1, rowR 9 1 (.slice a51 gs1.length c52) gs1.length (gs1.map Value.string), rowR 9 1 (.slice a61 (((cs1 ++ ns1).reverse).length) c62) (((cs1 ++ ns1).reverse).length) (((cs1 ++ ns1).reverse).map Value.string)]) 0 (Nat.zero_le _) (subB_eq (l := [0, 1, 5, 6, 9, 10]) (by kernel_rfl)) (fun w hw => hw.pickB [0, 1, 2, 3, 4, 5, 6, 7] (by kernel_rfl) (by kernel_rfl) (by kernel_rfl)) ?_
            rintro j hL63
            try dsimp only at hL63 ⊢
            have hj := hL63
            refine Cd.seq ?_
            refine Cd.seq ?_
            refine Cd.region rfl ?_
            refine Sq.vals [0, 1, 2, 3] (rest := []) [iV (j : Int), .slice a51 gs1.length c52, iV (gs1.length : Int), bV (decide ((j : Int) < (gs1.length : Int)))] (fun w => by kernel_rfl) ?_
            refine Sq.done ?_
            refine Ex'.next ?_
            refine Cd.case (p := (j : Int) < (gs1.length : Int)) (by kernel_rfl) (fun h64 => ?_) (fun h64 => ?_)
            ·
              refine Cd.fact (i := 6) (R := rowR 9 1 (.slice a51 gs1.length c52) gs1.length (gs1.map Value.string)) (by kernel_rfl) (row_addr (by omega)) ?_; rintro ⟨b65, rfl⟩
              refine Cd.skip ?_
              refine Ex'.next ?_
              refine Cd.seq ?_
              refine Cd.block ?_
              refine Cd.seq ?_
              refine Cd.region rfl ?_
              refine Sq.vals [0, 1, 2] (rest := [3, 4, 5]) [pV b5 0, .slice (some ⟨b65, 0, none⟩) gs1.length c52, iV (j : Int)] (fun w => by kernel_rfl) ?_
              refine Sq.v (r := pV b65 j) (o_idx (b := b65) (cap := c52) (e := 9) (off := 0) (n := gs1.length) (kd := .i64) (q := (j : Int)) (i := j) (size := 1) (j := j) (by kernel_rfl) (by kernel_rfl) (by rfl) (by omega) Try.underlying22 (by kernel_rfl) (by omega)) rfl (by kernel_rfl) ?_
              refine Sq.same [6] (l := [rowR 9 1 (.slice (some ⟨b65, 0, none⟩) gs1.length c52) gs1.length (gs1.map Value.string)]) (o_loadRow (i := j) (u := sV (gs1.getD j ⟨#[]⟩)) (by kernel_rfl) (by omega) (by kernel_rfl) (get_map (by omega))) (by kernel_rfl) rfl (by kernel_rfl) rfl ?_
              refine Sq.same [1, 2, 3, 4, 5] (l := srlL b5 nb6 ab7 gb8 mb9 m t1 ns1 cs1 gs1 ms1 n1) (o_call (by kernel_rfl) Try.call42 ((Tri.eq (l2 := srlL b5 nb6 ab7 gb8 mb9 m t1 ns1 cs1 gs1 ms1 n1) (r' := bV (decide (gs1.getD j ⟨#[]⟩ ∈ cs1 ++ ns1))) (srl_Has (n := n1) (most := m) (target := t1) (ns := ns1) (cs := cs1) (gs := gs1) (ms := ms1) (gs1.getD j ⟨#[]⟩) (by omega)) (by first | simp only [srlHas_eq] | rfl) (by first | simp only [srlHas_eq] | rfl)).re (vF (fun z => hJ.b.apart _ z (getD_mem (by omega)))))) (by kernel_rfl) rfl (by kernel_rfl) rfl ?_
              refine Sq.done ?_
              refine Ex'.next ?_
              refine Cd.condF (by kernel_rfl) ?_
              refine Cd.skip ?_
              refine Ex'.blockNormal ?_
              refine Ex'.next ?_
              refine Cd.region rfl ?_
              refine Sq.vals [0] (rest := [1, 2]) [iV (j : Int)] (fun w => by kernel_rfl) ?_
              refine Sq.v (r := iV ((j : Int) + 1)) (o_add (k := .i64) (a := (j : Int)) (b := 1) (c := (j : Int) + 1) (by kernel_rfl) (by kernel_rfl) (w64 rfl (by omega))) rfl (by kernel_rfl) ?_
              refine Sq.vals [2] (rest := []) [iV ((j : Int) + 1)] (fun w => by kernel_rfl) ?_
              refine Sq.done ?_
              refine Ex'.round (g := j) (j + 1) ?_ ?_ (subB_eq (l := [0, 1, 5, 6, 9, 10]) (by kernel_rfl)) (fun w hw => hw.pickB [0, 1, 2, 3, 4, 5, 6, 7] (by kernel_rfl) (by kernel_rfl) (by kernel_rfl))
              · exact (by omega : j + 1 ≤ gs1.length)
              · omega
            ·
              refine Cd.exit ?_
              refine Ex'.thenExit ?_
              refine Ex'.thenExit ?_
              refine Ex'.blockHit ?_
              refine Ex'.blockNormal ?_
              refine Ex'.next ?_
              refine Cd.region rfl ?_
              refine Sq.vals [0] (rest := [1, 2]) [iV (k : Int)] (fun w => by kernel_rfl) ?_
              refine Sq.v (r := iV ((k : Int) + 1)) (o_add (k := .i64) (a := (k : Int)) (b := 1) (c := (k : Int) + 1) (by kernel_rfl) (by kernel_rfl) (w64 rfl (by omega))) rfl (by kernel_rfl) ?_
              refine Sq.vals [2] (rest := []) [iV ((k : Int) + 1)] (fun w => by kernel_rfl) ?_
              refine Sq.done ?_
              refine Ex'.round (g := (k, t0, ns0, cs0, gs0, ms0, n0)) (k + 1, t1, ns1, cs1, gs1, ms1, n1) ?_ ?_ (subB_eq (l := [0, 1, 5, 6]) (by kernel_rfl)) (fun w hw => hw.pickB [0, 1, 2, 3, 4, 5] (by kernel_rfl) (by kernel_rfl) (by kernel_rfl))
              · exact ⟨by omega, hJ, by omega⟩
              · omega
        ·
          refine Cd.exit ?_
          refine Ex'.thenExit ?_
          refine Ex'.thenExit ?_
          refine Ex'.blockHit ?_
          refine Ex'.next ?_
          refine Cd.seq ?_
          refine Cd.region rfl ?_
          refine Sq.vals [0] (rest := []) [bV true] (fun w => by kernel_rfl) ?_
          refine Sq.done ?_
          refine Ex'.next ?_
          refine Cd.ret ?_
          refine Ex'.ret Try.results11 (RVs.tmp (v := bV true) (by kernel_rfl) (RVs.nil)) (fun w hw => ?_)
          exact ⟨_, ⟨rfl, by kernel_rfl⟩, hw⟩

theorem srlruTargets_walk (m : Int) (v : Value) (xs : List SAct) (w : World) (hm : (Lit.int .i64 m).wf = true) (h : Cells w (fun k => k < w.heap.size) v xs.length 3 (xs.flatMap SAct.cells)) :
    Calls Try.prog 11 #[.int .i64 m, v] w fun e w' => e = .returned (.bool true) ∧ Below w.heap.size w w' := by
  obtain ⟨a, cap, rfl, hl, hs⟩ := script_of h
  exact law_of (srlruTargets_tri (range64 hm) hl hs)

end Go.Proofs.Ytjijjfdkghcjkaa
