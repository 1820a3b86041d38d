/- ValuePlays: its walk. -/
import Derived.Test.YtnijaeipkbpibaaDoorValW
import Derived.Test.YtnijaeipkbpibaaDoorErrsW
import Derived.Test.YtnijaeipkbpibaaDoorRefS
import Derived.Test.YtnijaeipkbpibaaDoorSepH
import Derived.Test.YtnijaeipkbpibaaDoorValPureF
import Derived.Test.YtnijaeipkbpibaaDoorValAwake
import Derived.Test.YtnijaeipkbpibaaDoorActsV
import Derived.Test.YtnijaeipkbpibaaDoorValEq
import Derived.Test.YtnijaeipkbpibaaDoorItemsW
import Derived.Test.YtnijaeipkbpibaaDoorValClear
set_option linter.unusedVariables false
namespace Go.Proofs.YtnijaeipkbpibaaDoor
open Go.RowKit Go.MapKept

set_option maxHeartbeats 8000000 in
set_option maxRecDepth 100000 in
theorem valuePlays_tri {w0 : World} {a : Option Addr} {cap : Nat} {xs : List Act5} (hg : errT w0) (hl : xs.length ≤ 9223372036854775807) (hs : VScr w0 (.slice a xs.length cap) xs) : Tri Tryd.prog 6 #[.slice a xs.length cap] [oldR w0] (LawP w0) := by
  refine Tri.enter (args := [.slice a xs.length cap]) Tryd.func6 rfl rfl rfl (fun B wz => ?_)
  refine Cd.seq ?_
  refine Cd.region rfl ?_
  refine Sq.vals [0] (rest := []) [bV false] (fun w => by kernel_rfl) ?_
  refine Sq.done ?_
  refine Ex'.next ?_
  refine Cd.seq ?_
  refine Cd.seq ?_
  refine Cd.region rfl ?_
  refine Sq.same [0] (l := [oldR w0]) (o_call (by kernel_rfl) Tryd.call8 (val_awake hg)) (by kernel_rfl) rfl (by kernel_rfl) rfl ?_
  refine Sq.vals [1] (rest := []) [bV false] (fun w => by kernel_rfl) ?_
  refine Sq.done ?_
  refine Ex'.next ?_
  refine Cd.condF (by kernel_rfl) ?_
  refine Cd.skip ?_
  refine Ex'.next ?_
  refine Cd.seq ?_
  refine Cd.seq ?_
  refine Cd.region rfl ?_
  refine Sq.vals [0] (rest := [1, 2]) [.slice a xs.length cap] (fun w => by kernel_rfl) ?_
  refine Sq.ex [0] (l := [oldR w0]) (o_call (by kernel_rfl) Tryd.call9 (t_few hl hs)) (by kernel_rfl) rfl (by kernel_rfl) (fun _ => Nat.le_of_ble_eq_true (by kernel_rfl)) ?_; rintro fb1 hfew
  refine Sq.vals [2] (rest := []) [bV (!fb1)] (fun w => by kernel_rfl) ?_
  refine Sq.done ?_
  refine Ex'.next ?_
  refine Cd.cond (t := (!fb1)) (by kernel_rfl) (fun h2 => ?_) (fun h2 => ?_)
  ·
    refine Cd.seq ?_
    refine Cd.region rfl ?_
    refine Sq.vals [0] (rest := []) [bV true] (fun w => by kernel_rfl) ?_
    refine Sq.done ?_
    refine Ex'.next ?_
    refine Cd.ret ?_
    refine Ex'.thenRet ?_
    refine Ex'.ret Tryd.results6 (RVs.tmp (v := bV true) (by kernel_rfl) (RVs.nil)) (fun w hw => ?_)
    exact ⟨_, ⟨rfl, by kernel_rfl⟩, hw⟩
  ·
    have hf1 : xs.length ≤ 150 := hfew (by simpa using h2)
    refine Cd.skip ?_
    refine Ex'.next ?_
    refine Cd.seq ?_
    refine Cd.region rfl ?_
    refine Sq.ex [] (l := []) (o_call (by kernel_rfl) Tryd.call10 (Tri.ex (L' := fun x => valL x.1 x.2.1 x.2.2 ([] : List (ByteArray × ByteArray × ByteArray × Int)) ([] : List (KR ByteArray)) 0 0) (val_New) (fun x => rfl))) (by kernel_rfl) rfl (by kernel_rfl) (fun _ => Nat.le_of_ble_eq_true (by kernel_rfl)) ?_; rintro ⟨b3, mb4, qb5⟩ _
    refine Sq.vals [1] (rest := []) [pV b3 0] (fun w => by kernel_rfl) ?_
    refine Sq.done ?_
    refine Ex'.next ?_
    refine Cd.seq ?_
    refine Cd.seq ?_
    refine Cd.region rfl ?_
    refine Sq.vals [0, 1] (rest := []) [pV b3 0, bV false] (fun w => by kernel_rfl) ?_
    refine Sq.done ?_
    refine Ex'.next ?_
    refine Cd.condF (by kernel_rfl) ?_
    refine Cd.skip ?_
    refine Ex'.next ?_
    refine Cd.seq ?_
    refine Cd.region rfl ?_
    refine Sq.vals [0] (rest := []) [.slice none 0 0] (fun w => by kernel_rfl) ?_
    refine Sq.done ?_
    refine Ex'.next ?_
    refine Cd.seq ?_
    refine Cd.seq ?_
    refine Cd.region rfl ?_
    refine Sq.vals [0] (rest := []) [iV 0] (fun w => by kernel_rfl) ?_
    refine Sq.done ?_
    refine Ex'.next ?_
    refine Cd.block ?_
    refine Cd.loop (ι := Nat × (List (ByteArray × ByteArray × ByteArray × Int)) × (List (KR ByteArray)) × Int × Nat × Nat × Value × (List It)) (fun ⟨k, M0, S0, bys0, n0, q0, mv0, m0⟩ => k ≤ xs.length ∧ VP M0 S0 bys0 m0 ∧ M0.length ≤ k ∧ n0 ≤ k) (fun ⟨k, M0, S0, bys0, n0, q0, mv0, m0⟩ => xs.length - k) (fun ⟨k, M0, S0, bys0, n0, q0, mv0, m0⟩ => [(0, .slice a xs.length cap), (3, pV b3 0), (5, iV (k : Int)), (4, mv0)]) (fun ⟨k, M0, S0, bys0, n0, q0, mv0, m0⟩ => [oldR w0, valB b3 mb4 q0 bys0, mapR Value.string itV mb4 M0, hpS q0 S0 n0, vewR 3 mv0 m0.length (m0.flatMap it3)]) (0, ([] : List (ByteArray × ByteArray × ByteArray × Int)), ([] : List (KR ByteArray)), 0, 0, qb5, .slice none 0 0, ([] : List It)) (⟨Nat.zero_le _, VP.new, Nat.le_refl _, Nat.le_refl _⟩) (subB_eq (l := [0, 3, 5, 4]) (by kernel_rfl)) (fun w hw => (hw.nilVew 3).pickB [0, 1, 2, 3, 4] (by kernel_rfl) (by kernel_rfl) (by kernel_rfl)) ?_
    rintro ⟨k, M0, S0, bys0, n0, q0, mv0, m0⟩ hL6
    try dsimp only at hL6 ⊢
    obtain ⟨hk, hP, hML, hn⟩ := hL6
    have hV := hP.vx; have hVi := hV.it; have hV0 := hV.b0; have hV1 := hV.b1; have hVe := hV.ends; have hml := hP.len
    refine Cd.fact (i := 4) (R := vewR 3 mv0 m0.length (m0.flatMap it3)) (by kernel_rfl) vew_slice ?_; rintro ⟨a7, c8, rfl, hc8, hc8'⟩
    have hc8'' : c8 ≤ 9223372036854775807 := hc8'
    refine Cd.seq ?_
    refine Cd.seq ?_
    refine Cd.region rfl ?_
    refine Sq.vals [0, 1, 2, 3] (rest := []) [iV (k : Int), .slice a xs.length cap, iV (xs.length : Int), bV (decide ((k : Int) < (xs.length : Int)))] (fun w => by kernel_rfl) ?_
    refine Sq.done ?_
    refine Ex'.next ?_
    refine Cd.case (p := (k : Int) < (xs.length : Int)) (by kernel_rfl) (fun h9 => ?_) (fun h9 => ?_)
    ·
      obtain ⟨g10, off11, rfl⟩ := hs.addr (by omega)
      obtain ⟨kdk, kyk, txk, dlk, nwk, hgk, hwk, hrk⟩ := hs.at (k := k) (by omega)
      refine Cd.skip ?_
      refine Ex'.next ?_
      refine Cd.seq ?_
      refine Cd.block ?_
      refine Cd.seq ?_
      refine Cd.region rfl ?_
      refine Sq.vals [0, 1] (rest := [2, 3, 4, 5]) [.slice (some ⟨g10, off11, none⟩) xs.length cap, iV (k : Int)] (fun w => by kernel_rfl) ?_
      refine Sq.v (r := pV g10 (off11 + k * 5)) (o_idx (b := g10) (cap := cap) (e := 33) (off := off11) (n := xs.length) (kd := .i64) (q := (k : Int)) (i := k) (size := 5) (j := off11 + k * 5) (by kernel_rfl) (by kernel_rfl) (by rfl) (by omega) Tryd.underlying22 (by kernel_rfl) (by omega)) rfl (by kernel_rfl) ?_
      refine Sq.same [0] (l := [oldR w0]) (o_loadOldN (b := g10) (j := off11 + k * 5) [iV kdk, sV kyk, sV txk, iV dlk, iV nwk] (by kernel_rfl) (by kernel_rfl) hrk) (by kernel_rfl) rfl (by kernel_rfl) rfl ?_
      refine Sq.ex [] (l := []) (o_new [iV 0, sV ⟨#[]⟩, sV ⟨#[]⟩, iV 0, iV 0] (fun w => by kernel_rfl)) (by kernel_rfl) rfl (by kernel_rfl) (fun _ => Nat.zero_le _) ?_; intro b12 _
      refine Sq.same [5] (l := [blkR b12 [iV 0, sV ⟨#[]⟩, sV ⟨#[]⟩, iV 0, iV 0] 33]) (o_store (i := 0) (v := .agg #[iV kdk, sV kyk, sV txk, iV dlk, iV nwk]) (by kernel_rfl) (by kernel_rfl) (by kernel_rfl) (by kernel_rfl) (by kernel_rfl)) (by kernel_rfl) rfl (by kernel_rfl) rfl ?_
      refine Sq.done ?_
      refine Ex'.next ?_
      refine Cd.join (ι := (List (ByteArray × ByteArray × ByteArray × Int)) × (List (KR ByteArray)) × Int × Nat × Nat × Value × (List It)) (fun ⟨M1, S1, bys1, n1, q1, mv1, m1⟩ => VP M1 S1 bys1 m1 ∧ M1.length ≤ k + 1 ∧ n1 ≤ k + 1) (fun ⟨M1, S1, bys1, n1, q1, mv1, m1⟩ => [(0, .slice (some ⟨g10, off11, none⟩) xs.length cap), (3, pV b3 0), (5, iV (k : Int)), (6, pV b12 0), (4, mv1)]) (fun ⟨M1, S1, bys1, n1, q1, mv1, m1⟩ => [oldR w0, valB b3 mb4 q1 bys1, mapR Value.string itV mb4 M1, hpS q1 S1 n1, blkR b12 [iV kdk, sV kyk, sV txk, iV dlk, iV nwk] 33, vewR 3 mv1 m1.length (m1.flatMap it3)]) ?_ ?_
      ·
        refine Cd.seq ?_
        refine Cd.region rfl ?_
        refine Sq.vals [0] (rest := [1]) [pV b12 0] (fun w => by kernel_rfl) ?_
        refine Sq.same [5] (l := [blkR b12 [iV kdk, sV kyk, sV txk, iV dlk, iV nwk] 33]) (o_load (i := 0) (v := iV kdk) (by kernel_rfl) (by kernel_rfl) (by kernel_rfl)) (by kernel_rfl) rfl (by kernel_rfl) rfl ?_
        refine Sq.done ?_
        refine Ex'.next ?_
        refine Cd.block ?_
        refine Cd.seq ?_
        refine Cd.region rfl ?_
        refine Sq.v (r := bV (decide (kdk = 0))) (o_eqI (k := .i64) (a := kdk) (b := 0) (by kernel_rfl) (by kernel_rfl)) rfl (by kernel_rfl) ?_
        refine Sq.vals [1] (rest := []) [bV (decide (kdk = 0))] (fun w => by kernel_rfl) ?_
        refine Sq.done ?_
        refine Ex'.next ?_
        refine Cd.case (p := kdk = 0) (by kernel_rfl) (fun h13 => ?_) (fun h13 => ?_)
        ·
          refine Cd.seq ?_
          refine Cd.region rfl ?_
          refine Sq.vals [0, 1] (rest := [2, 3, 4, 5, 6, 7, 8]) [.slice a7 m0.length c8, pV b12 1] (fun w => by kernel_rfl) ?_
          refine Sq.same [5] (l := [blkR b12 [iV kdk, sV kyk, sV txk, iV dlk, iV nwk] 33]) (o_loadN (i := 1) [sV kyk, sV txk, iV dlk] (by kernel_rfl) (by kernel_rfl) (by kernel_rfl)) (by kernel_rfl) rfl (by kernel_rfl) rfl ?_
          refine Sq.ex [4] (l := [vewR 3 (.slice a7 m0.length c8) m0.length (m0.flatMap it3)]) (o_call (by kernel_rfl) Tryd.call17 (t_Put15_e (l := m0) (la := a7) (lc := c8) (xKey := kyk) (xValue := txk) (xDeadline := dlk) (by omega))) (by kernel_rfl) rfl (by kernel_rfl) (fun _ => Nat.le_of_ble_eq_true (by kernel_rfl)) ?_; rintro v14 _
          refine Sq.fact (i := 4) (R := vewR 3 v14 ((if rightC kyk txk dlk = 0 then del15 m0 kyk ++ [(kyk, txk, dlk)] else m0).length) ((if rightC kyk txk dlk = 0 then del15 m0 kyk ++ [(kyk, txk, dlk)] else m0).flatMap it3)) (by kernel_rfl) vew_slice ?_; rintro ⟨a15, c16, rfl, hc16, hc16'⟩
          have hc16'' : c16 ≤ 9223372036854775807 := hc16'
          refine Sq.vals [4, 5, 6, 7, 8] (rest := []) [.tuple #[.slice a15 ((if rightC kyk txk dlk = 0 then del15 m0 kyk ++ [(kyk, txk, dlk)] else m0).length) c16, iV (rightC kyk txk dlk)], .slice a15 ((if rightC kyk txk dlk = 0 then del15 m0 kyk ++ [(kyk, txk, dlk)] else m0).length) c16, iV (rightC kyk txk dlk), .slice a15 ((if rightC kyk txk dlk = 0 then del15 m0 kyk ++ [(kyk, txk, dlk)] else m0).length) c16, iV (rightC kyk txk dlk)] (fun w => by kernel_rfl) ?_
          refine Sq.done ?_
          refine Ex'.next ?_
          refine Cd.seq ?_
          refine Cd.region rfl ?_
          refine Sq.vals [0, 1] (rest := []) [.slice a15 ((if rightC kyk txk dlk = 0 then del15 m0 kyk ++ [(kyk, txk, dlk)] else m0).length) c16, .slice a15 ((if rightC kyk txk dlk = 0 then del15 m0 kyk ++ [(kyk, txk, dlk)] else m0).length) c16] (fun w => by kernel_rfl) ?_
          refine Sq.done ?_
          refine Ex'.next ?_
          refine Cd.seq ?_
          by_cases h17 : rightC kyk txk dlk = 0
          ·
            refine Cd.plan (0 :: 0 :: 2 :: 7 :: 0 :: 16 :: 48 :: 0 :: 255 :: 511 :: 1023 :: 2047 :: 4095 :: 8191 :: 2047 :: 18431 :: 51199 :: 2047 :: 262143 :: 524287 :: 1048575 :: []) [(2, [(5, false, 0)]), (3, [(1, true, 0), (2, true, 0), (3, true, 0)]), (6, [(5, false, 0)]), (8, []), (12, [(5, false, 0)]), (13, []), (16, [(5, false, 0)]), (18, [])] [] [] [(1, 3, fun g => valB b3 mb4 q0 ((valPut M0 S0 bys0 kyk txk dlk).2.2)), (2, 3, fun g => mapR Value.string itV mb4 ((valPut M0 S0 bys0 kyk txk dlk).1)), (3, 3, fun g => hpS q0 ((valPut M0 S0 bys0 kyk txk dlk).2.1) (n0 + 1))] ((fun g => pV b3 0) :: (fun g => pV b12 1) :: (fun g => .agg #[sV kyk, sV txk, iV dlk]) :: (fun g => .nilIface) :: (fun g => pV b12 1) :: (fun g => pV b12 1) :: (fun g => sV kyk) :: (fun g => iV (rightC kyk txk dlk)) :: (fun g => bV true) :: (fun g => bV false) :: (fun g => bV false) :: (fun g => pV b12 1) :: (fun g => .agg #[sV kyk, sV txk, iV dlk]) :: (fun g => .nilIface) :: (fun g => pV b12 1) :: (fun g => pV b12 1) :: (fun g => sV kyk) :: (fun g => iV (rightC kyk txk dlk)) :: (fun g => bV true) :: (fun g => bV false) :: (fun g => bV false) :: []) (by kernel_rfl) (by kernel_rfl) rfl (trivial) ?_ ?_
            · exact ⟨ob_val fun g w => by kernel_rfl, ob_val fun g w => by kernel_rfl, ob_s (l := fun g => [blkR b12 [iV kdk, sV kyk, sV txk, iV dlk, iV nwk] 33]) (l' := fun g => [blkR b12 [iV kdk, sV kyk, sV txk, iV dlk, iV nwk] 33]) (v := fun g => .agg #[sV kyk, sV txk, iV dlk]) (fun g => o_loadN (i := 1) [sV kyk, sV txk, iV dlk] (by kernel_rfl) (by kernel_rfl) (by kernel_rfl)) (fun g => by kernel_rfl), ob_s (l := fun g => [valB b3 mb4 q0 bys0, mapR Value.string itV mb4 M0, hpS q0 S0 n0]) (l' := fun g => [valB b3 mb4 q0 ((valPut M0 S0 bys0 kyk txk dlk).2.2), mapR Value.string itV mb4 ((valPut M0 S0 bys0 kyk txk dlk).1), hpS q0 ((valPut M0 S0 bys0 kyk txk dlk).2.1) (n0 + 1)]) (v := fun g => .nilIface) (fun g => o_call (by kernel_rfl) Tryd.call11 (val_PutOk (n := n0) (n' := n0 + 1) (M := M0) (S := S0) (bys := bys0) kyk txk dlk (by omega) (by omega) (by omega) (by exact hV.it) (by exact h17))) (fun g => by kernel_rfl), ob_val fun g w => by kernel_rfl, ob_val fun g w => by kernel_rfl, ob_s (l := fun g => [blkR b12 [iV kdk, sV kyk, sV txk, iV dlk, iV nwk] 33]) (l' := fun g => [blkR b12 [iV kdk, sV kyk, sV txk, iV dlk, iV nwk] 33]) (v := fun g => sV kyk) (fun g => o_load (i := 1) (v := sV kyk) (by kernel_rfl) (by kernel_rfl) (by kernel_rfl)) (fun g => by kernel_rfl), ob_val fun g w => by kernel_rfl, ob_s (l := fun g => []) (l' := fun g => []) (v := fun g => bV true) (fun g => o_call (by kernel_rfl) Tryd.call18 ((wraps_nil (op := ⟨#[105, 116, 101, 109]⟩) (key := kyk) (d := rightC kyk txk dlk)).re (vT h17))) (fun g => by kernel_rfl), ob_val fun g w => by kernel_rfl, ob_val fun g w => by kernel_rfl, ob_val fun g w => by kernel_rfl, ob_s (l := fun g => [blkR b12 [iV kdk, sV kyk, sV txk, iV dlk, iV nwk] 33]) (l' := fun g => [blkR b12 [iV kdk, sV kyk, sV txk, iV dlk, iV nwk] 33]) (v := fun g => .agg #[sV kyk, sV txk, iV dlk]) (fun g => o_loadN (i := 1) [sV kyk, sV txk, iV dlk] (by kernel_rfl) (by kernel_rfl) (by kernel_rfl)) (fun g => by kernel_rfl), ob_s (l := fun g => []) (l' := fun g => []) (v := fun g => .nilIface) (fun g => o_call (by kernel_rfl) Tryd.call19 (val_RightOk (k := kyk) (v := txk) (d := dlk) h17)) (fun g => by kernel_rfl), ob_val fun g w => by kernel_rfl, ob_val fun g w => by kernel_rfl, ob_s (l := fun g => [blkR b12 [iV kdk, sV kyk, sV txk, iV dlk, iV nwk] 33]) (l' := fun g => [blkR b12 [iV kdk, sV kyk, sV txk, iV dlk, iV nwk] 33]) (v := fun g => sV kyk) (fun g => o_load (i := 1) (v := sV kyk) (by kernel_rfl) (by kernel_rfl) (by kernel_rfl)) (fun g => by kernel_rfl), ob_val fun g w => by kernel_rfl, ob_s (l := fun g => []) (l' := fun g => []) (v := fun g => bV true) (fun g => o_call (by kernel_rfl) Tryd.call18 ((wraps_nil (op := ⟨#[105, 116, 101, 109]⟩) (key := kyk) (d := rightC kyk txk dlk)).re (vT h17))) (fun g => by kernel_rfl), ob_val fun g w => by kernel_rfl, ob_val fun g w => by kernel_rfl, trivial⟩
            intro g
            refine Ex'.sub (subB_spec [0, 3, 5, 4, 6, 66]) ?_
            refine Ex'.as [0, 1, 2, 3, 4, 5] (σ' := [(0, .slice (some ⟨g10, off11, none⟩) xs.length cap), (3, pV b3 0), (5, iV (k : Int)), (4, .slice a15 ((if rightC kyk txk dlk = 0 then del15 m0 kyk ++ [(kyk, txk, dlk)] else m0).length) c16), (6, pV b12 0), (66, bV false)]) (Γ' := [oldR w0, valB b3 mb4 q0 ((valPut M0 S0 bys0 kyk txk dlk).2.2), mapR Value.string itV mb4 ((valPut M0 S0 bys0 kyk txk dlk).1), hpS q0 ((valPut M0 S0 bys0 kyk txk dlk).2.1) (n0 + 1), vewR 3 (.slice a15 ((if rightC kyk txk dlk = 0 then del15 m0 kyk ++ [(kyk, txk, dlk)] else m0).length) c16) ((if rightC kyk txk dlk = 0 then del15 m0 kyk ++ [(kyk, txk, dlk)] else m0).length) ((if rightC kyk txk dlk = 0 then del15 m0 kyk ++ [(kyk, txk, dlk)] else m0).flatMap it3), blkR b12 [iV kdk, sV kyk, sV txk, iV dlk, iV nwk] 33]) (by kernel_rfl) rfl (by kernel_rfl) (by kernel_rfl) ?_
            generalize hxx18 : valPut M0 S0 bys0 kyk txk dlk = x18
            have hP2 : VP x18.1 x18.2.1 x18.2.2 (if rightC kyk txk dlk = 0 then del15 m0 kyk ++ [(kyk, txk, dlk)] else m0) := by rw [← hxx18, if_pos h17]; exact hP.put h17
            have hL2 : x18.1.length ≤ k + 1 := by have := valPut_len (M := M0) (S := S0) (bys := bys0) (k := kyk) (v := txk) (d := dlk); rw [hxx18] at this; omega
            refine Ex'.next ?_
            refine Cd.condF (by kernel_rfl) ?_
            refine Cd.skip ?_
            refine Ex'.blockNormal ?_
            refine Ex'.meet (x18.1, x18.2.1, x18.2.2, n0 + 1, q0, .slice a15 ((if rightC kyk txk dlk = 0 then del15 m0 kyk ++ [(kyk, txk, dlk)] else m0).length) c16, (if rightC kyk txk dlk = 0 then del15 m0 kyk ++ [(kyk, txk, dlk)] else m0)) ?_ (subB_eq (l := [0, 3, 5, 6, 4]) (by kernel_rfl)) (fun w hw => hw.pickB [0, 1, 2, 3, 5, 4] (by kernel_rfl) (by kernel_rfl) (by kernel_rfl))
            exact ⟨hP2, by first | omega | exact Nat.zero_le _, by first | omega | exact Nat.zero_le _⟩
          ·
            refine Cd.plan (0 :: 0 :: 2 :: 7 :: 0 :: 16 :: 48 :: 0 :: 255 :: 511 :: 1023 :: 2047 :: 4095 :: 8191 :: 2047 :: 18431 :: 51199 :: 2047 :: 262143 :: 524287 :: 1048575 :: []) [(2, [(5, false, 0)]), (3, [(1, false, 0), (2, false, 0), (3, false, 0)]), (6, [(5, false, 0)]), (8, [(0, false, 0), (9, false, 4)]), (12, [(5, false, 0)]), (16, [(5, false, 0)]), (18, [(0, false, 0), (19, false, 14)])] [3, 13] [(3, fun _ => True), (13, fun _ => True)] [(9, 3, fun g => blkR (blkOf (g 3)) [sV ⟨#[105, 116, 101, 109]⟩, sV kyk, .iface 71 (iV (rightC kyk txk dlk))] 87), (19, 13, fun g => blkR (blkOf (g 13)) [sV ⟨#[105, 116, 101, 109]⟩, sV kyk, .iface 71 (iV (rightC kyk txk dlk))] 87)] ((fun g => pV b3 0) :: (fun g => pV b12 1) :: (fun g => .agg #[sV kyk, sV txk, iV dlk]) :: (fun g => .iface 83 (pV (blkOf (g 3)) 0)) :: (fun g => pV b12 1) :: (fun g => pV b12 1) :: (fun g => sV kyk) :: (fun g => iV (rightC kyk txk dlk)) :: (fun g => bV true) :: (fun g => bV false) :: (fun g => bV false) :: (fun g => pV b12 1) :: (fun g => .agg #[sV kyk, sV txk, iV dlk]) :: (fun g => .iface 83 (pV (blkOf (g 13)) 0)) :: (fun g => pV b12 1) :: (fun g => pV b12 1) :: (fun g => sV kyk) :: (fun g => iV (rightC kyk txk dlk)) :: (fun g => bV true) :: (fun g => bV false) :: (fun g => bV false) :: []) (by kernel_rfl) (by kernel_rfl) rfl (⟨⟨⟨fun _ _ => rfl, ⟨fun _ _ => rfl, ⟨fun _ _ => rfl, ⟨trivial, ⟨fun _ _ => rfl, ⟨fun _ _ => rfl, ⟨fun _ _ => rfl, ⟨fun _ _ => rfl, ⟨trivial, ⟨trivial, ⟨trivial, ⟨trivial, ⟨trivial, ⟨trivial, ⟨trivial, ⟨trivial, ⟨trivial, ⟨trivial, ⟨trivial, ⟨trivial, ⟨trivial, trivial⟩⟩⟩⟩⟩⟩⟩⟩⟩⟩⟩⟩⟩⟩⟩⟩⟩⟩⟩⟩⟩, ⟨trivial, ⟨trivial, trivial⟩⟩⟩, ⟨⟨⟨fun _ _ => rfl, ⟨fun _ _ => rfl, ⟨fun _ _ => rfl, ⟨fun _ _ => rfl, ⟨fun _ _ => rfl, ⟨fun _ _ => rfl, ⟨fun _ _ => rfl, ⟨fun _ _ => rfl, ⟨fun _ _ => rfl, ⟨fun _ _ => rfl, ⟨fun _ _ => rfl, ⟨fun _ _ => rfl, ⟨fun _ _ => rfl, ⟨trivial, ⟨fun _ _ => rfl, ⟨fun _ _ => rfl, ⟨fun _ _ => rfl, ⟨fun _ _ => rfl, ⟨trivial, ⟨trivial, ⟨trivial, trivial⟩⟩⟩⟩⟩⟩⟩⟩⟩⟩⟩⟩⟩⟩⟩⟩⟩⟩⟩⟩⟩, ⟨fun _ _ => rfl, ⟨trivial, trivial⟩⟩⟩, trivial⟩⟩) ?_ ?_
            · exact ⟨ob_val fun g w => by kernel_rfl, ob_val fun g w => by kernel_rfl, ob_s (l := fun g => [blkR b12 [iV kdk, sV kyk, sV txk, iV dlk, iV nwk] 33]) (l' := fun g => [blkR b12 [iV kdk, sV kyk, sV txk, iV dlk, iV nwk] 33]) (v := fun g => .agg #[sV kyk, sV txk, iV dlk]) (fun g => o_loadN (i := 1) [sV kyk, sV txk, iV dlk] (by kernel_rfl) (by kernel_rfl) (by kernel_rfl)) (fun g => by kernel_rfl), ob_d (ι := Nat) (l := fun g => [valB b3 mb4 q0 bys0, mapR Value.string itV mb4 M0, hpS q0 S0 n0]) (L := fun g y => [valB b3 mb4 q0 bys0, mapR Value.string itV mb4 M0, hpS q0 S0 n0, blkR y [sV ⟨#[105, 116, 101, 109]⟩, sV kyk, .iface 71 (iV (rightC kyk txk dlk))] 87]) (fun y => pV y 0) (fun g => o_call (by kernel_rfl) Tryd.call11 (val_PutBad (n := n0) (M := M0) (S := S0) (bys := bys0) kyk txk dlk h17)) (fun g => by kernel_rfl) (fun g y _ => ⟨trivial, by kernel_rfl, by kernel_rfl⟩), ob_val fun g w => by kernel_rfl, ob_val fun g w => by kernel_rfl, ob_s (l := fun g => [blkR b12 [iV kdk, sV kyk, sV txk, iV dlk, iV nwk] 33]) (l' := fun g => [blkR b12 [iV kdk, sV kyk, sV txk, iV dlk, iV nwk] 33]) (v := fun g => sV kyk) (fun g => o_load (i := 1) (v := sV kyk) (by kernel_rfl) (by kernel_rfl) (by kernel_rfl)) (fun g => by kernel_rfl), ob_val fun g w => by kernel_rfl, ob_s (l := fun g => [oldR w0, blkR (blkOf (g 3)) [sV ⟨#[105, 116, 101, 109]⟩, sV kyk, .iface 71 (iV (rightC kyk txk dlk))] 87]) (l' := fun g => [oldR w0, blkR (blkOf (g 3)) [sV ⟨#[105, 116, 101, 109]⟩, sV kyk, .iface 71 (iV (rightC kyk txk dlk))] 87]) (v := fun g => bV true) (fun g => o_call (by kernel_rfl) Tryd.call18 ((wraps_fault hg (op := ⟨#[105, 116, 101, 109]⟩) (key := kyk) (d := rightC kyk txk dlk) (x := ⟨#[105, 116, 101, 109]⟩) (y := kyk) (c := rightC kyk txk dlk)).re (vT ⟨h17, rfl, rfl, rfl⟩))) (fun g => by kernel_rfl), ob_val fun g w => by kernel_rfl, ob_val fun g w => by kernel_rfl, ob_val fun g w => by kernel_rfl, ob_s (l := fun g => [blkR b12 [iV kdk, sV kyk, sV txk, iV dlk, iV nwk] 33]) (l' := fun g => [blkR b12 [iV kdk, sV kyk, sV txk, iV dlk, iV nwk] 33]) (v := fun g => .agg #[sV kyk, sV txk, iV dlk]) (fun g => o_loadN (i := 1) [sV kyk, sV txk, iV dlk] (by kernel_rfl) (by kernel_rfl) (by kernel_rfl)) (fun g => by kernel_rfl), ob_d (ι := Nat) (l := fun g => []) (L := fun g y => [blkR y [sV ⟨#[105, 116, 101, 109]⟩, sV kyk, .iface 71 (iV (rightC kyk txk dlk))] 87]) (fun y => pV y 0) (fun g => o_call (by kernel_rfl) Tryd.call19 (val_RightBad (k := kyk) (v := txk) (d := dlk) h17)) (fun g => by kernel_rfl) (fun g y _ => ⟨trivial, by kernel_rfl, by kernel_rfl⟩), ob_val fun g w => by kernel_rfl, ob_val fun g w => by kernel_rfl, ob_s (l := fun g => [blkR b12 [iV kdk, sV kyk, sV txk, iV dlk, iV nwk] 33]) (l' := fun g => [blkR b12 [iV kdk, sV kyk, sV txk, iV dlk, iV nwk] 33]) (v := fun g => sV kyk) (fun g => o_load (i := 1) (v := sV kyk) (by kernel_rfl) (by kernel_rfl) (by kernel_rfl)) (fun g => by kernel_rfl), ob_val fun g w => by kernel_rfl, ob_s (l := fun g => [oldR w0, blkR (blkOf (g 13)) [sV ⟨#[105, 116, 101, 109]⟩, sV kyk, .iface 71 (iV (rightC kyk txk dlk))] 87]) (l' := fun g => [oldR w0, blkR (blkOf (g 13)) [sV ⟨#[105, 116, 101, 109]⟩, sV kyk, .iface 71 (iV (rightC kyk txk dlk))] 87]) (v := fun g => bV true) (fun g => o_call (by kernel_rfl) Tryd.call18 ((wraps_fault hg (op := ⟨#[105, 116, 101, 109]⟩) (key := kyk) (d := rightC kyk txk dlk) (x := ⟨#[105, 116, 101, 109]⟩) (y := kyk) (c := rightC kyk txk dlk)).re (vT ⟨h17, rfl, rfl, rfl⟩))) (fun g => by kernel_rfl), ob_val fun g w => by kernel_rfl, ob_val fun g w => by kernel_rfl, trivial⟩
            intro g
            refine Ex'.sub (subB_spec [0, 3, 5, 4, 6, 66]) ?_
            refine Ex'.as [0, 1, 2, 3, 4, 5, 9, 19] (σ' := [(0, .slice (some ⟨g10, off11, none⟩) xs.length cap), (3, pV b3 0), (5, iV (k : Int)), (4, .slice a15 ((if rightC kyk txk dlk = 0 then del15 m0 kyk ++ [(kyk, txk, dlk)] else m0).length) c16), (6, pV b12 0), (66, bV false)]) (Γ' := [oldR w0, valB b3 mb4 q0 bys0, mapR Value.string itV mb4 M0, hpS q0 S0 n0, vewR 3 (.slice a15 ((if rightC kyk txk dlk = 0 then del15 m0 kyk ++ [(kyk, txk, dlk)] else m0).length) c16) ((if rightC kyk txk dlk = 0 then del15 m0 kyk ++ [(kyk, txk, dlk)] else m0).length) ((if rightC kyk txk dlk = 0 then del15 m0 kyk ++ [(kyk, txk, dlk)] else m0).flatMap it3), blkR b12 [iV kdk, sV kyk, sV txk, iV dlk, iV nwk] 33, blkR (blkOf (g 3)) [sV ⟨#[105, 116, 101, 109]⟩, sV kyk, .iface 71 (iV (rightC kyk txk dlk))] 87, blkR (blkOf (g 13)) [sV ⟨#[105, 116, 101, 109]⟩, sV kyk, .iface 71 (iV (rightC kyk txk dlk))] 87]) (by kernel_rfl) rfl (by kernel_rfl) (by kernel_rfl) ?_
            generalize blkOf (g 3) = b21
            generalize blkOf (g 13) = b22
            refine Ex'.next ?_
            refine Cd.condF (by kernel_rfl) ?_
            refine Cd.skip ?_
            refine Ex'.blockNormal ?_
            refine Ex'.meet (M0, S0, bys0, n0, q0, .slice a15 ((if rightC kyk txk dlk = 0 then del15 m0 kyk ++ [(kyk, txk, dlk)] else m0).length) c16, (if rightC kyk txk dlk = 0 then del15 m0 kyk ++ [(kyk, txk, dlk)] else m0)) ?_ (subB_eq (l := [0, 3, 5, 6, 4]) (by kernel_rfl)) (fun w hw => hw.pickB [0, 1, 2, 3, 5, 4] (by kernel_rfl) (by kernel_rfl) (by kernel_rfl))
            exact ⟨(show VP M0 S0 bys0 (if rightC kyk txk dlk = 0 then del15 m0 kyk ++ [(kyk, txk, dlk)] else m0) by rw [if_neg h17]; exact hP), by first | omega | exact Nat.zero_le _, by first | omega | exact Nat.zero_le _⟩
        ·
          refine Cd.seq ?_
          refine Cd.region rfl ?_
          refine Sq.v (r := bV (decide (kdk = 2))) (o_eqI (k := .i64) (a := kdk) (b := 2) (by kernel_rfl) (by kernel_rfl)) rfl (by kernel_rfl) ?_
          refine Sq.vals [1] (rest := []) [bV (decide (kdk = 2))] (fun w => by kernel_rfl) ?_
          refine Sq.done ?_
          refine Ex'.next ?_
          refine Cd.case (p := kdk = 2) (by kernel_rfl) (fun h23 => ?_) (fun h23 => ?_)
          ·
            refine Cd.seq ?_
            refine Cd.region rfl ?_
            refine Sq.vals [0, 1, 2] (rest := []) [.slice a7 m0.length c8, iV (m0.length : Int), iV (m0.length : Int)] (fun w => by kernel_rfl) ?_
            refine Sq.done ?_
            refine Ex'.next ?_
            refine Cd.seq ?_
            refine Cd.region rfl ?_
            refine Sq.vals [0, 1, 2] (rest := [3, 4, 5]) [.slice a7 m0.length c8, pV b12 1, pV b12 1] (fun w => by kernel_rfl) ?_
            refine Sq.same [5] (l := [blkR b12 [iV kdk, sV kyk, sV txk, iV dlk, iV nwk] 33]) (o_load (i := 1) (v := sV kyk) (by kernel_rfl) (by kernel_rfl) (by kernel_rfl)) (by kernel_rfl) rfl (by kernel_rfl) rfl ?_
            refine Sq.ex [4] (l := [vewR 3 (.slice a7 m0.length c8) m0.length (m0.flatMap it3)]) (o_call (by kernel_rfl) Tryd.call20 (t_Delete15 (l := m0) (la := a7) (lc := c8) (key := kyk) (by omega))) (by kernel_rfl) rfl (by kernel_rfl) (fun _ => Nat.le_of_ble_eq_true (by kernel_rfl)) ?_; rintro v25 _
            have q24 := del15_le m0 kyk
            refine Sq.fact (i := 6) (R := rowR 50 3 v25 ((del15 m0 kyk).length) ((del15 m0 kyk).flatMap it3)) (by kernel_rfl) row_slice ?_; rintro ⟨a26, c27, rfl, hc27, hc27'⟩
            have hc27'' : c27 ≤ 9223372036854775807 := hc27'
            refine Sq.vals [5] (rest := []) [.slice a26 ((del15 m0 kyk).length) c27] (fun w => by kernel_rfl) ?_
            refine Sq.done ?_
            refine Ex'.next ?_
            refine Cd.seq ?_
            refine Cd.region rfl ?_
            refine Sq.vals [0, 1, 2] (rest := [3, 4, 5, 6, 7, 8, 9]) [pV b3 0, pV b12 1, pV b12 1] (fun w => by kernel_rfl) ?_
            refine Sq.same [5] (l := [blkR b12 [iV kdk, sV kyk, sV txk, iV dlk, iV nwk] 33]) (o_load (i := 1) (v := sV kyk) (by kernel_rfl) (by kernel_rfl) (by kernel_rfl)) (by kernel_rfl) rfl (by kernel_rfl) rfl ?_
            refine Sq.same [1, 2, 3] (l := valL b3 mb4 q0 M0 S0 bys0 n0) (o_call (by kernel_rfl) Tryd.call14 (val_Delete (n := n0) (M := M0) (S := S0) (bys := bys0) kyk (by omega) (by omega) (by exact hV.it))) (by kernel_rfl) rfl (by kernel_rfl) rfl ?_
            generalize hxx28 : valDel M0 S0 bys0 kyk = x28
            have hP2 : VP x28.1 x28.2.1 x28.2.2.1 (del15 m0 kyk) := by rw [← hxx28]; exact hP.del _
            have hL2 : x28.1.length ≤ k + 1 := by rw [← hxx28]; exact Nat.le_trans valDel_len (by omega)
            have hD2 : x28.2.2.2 = decide (((del15 m0 kyk).length : Int) < (m0.length : Int)) := by rw [← hxx28]; exact hP.hit kyk
            refine Sq.vals [5, 6, 7, 8, 9] (rest := []) [.slice a26 ((del15 m0 kyk).length) c27, iV ((del15 m0 kyk).length : Int), iV (m0.length : Int), bV (decide (((del15 m0 kyk).length : Int) < (m0.length : Int))), bV (!(x28.2.2.2 == (decide (((del15 m0 kyk).length : Int) < (m0.length : Int)))))] (fun w => by kernel_rfl) ?_
            refine Sq.done ?_
            refine Ex'.next ?_
            refine Cd.condF (by rw [show ev _ _ = some (.bool ((!(x28.2.2.2 == (decide (((del15 m0 kyk).length : Int) < (m0.length : Int))))))) from by kernel_rfl, show (!(x28.2.2.2 == (decide (((del15 m0 kyk).length : Int) < (m0.length : Int))))) = false from (by rw [hD2]; simp)]) ?_
            refine Cd.skip ?_
            refine Ex'.blockNormal ?_
            refine Ex'.meet (x28.1, x28.2.1, x28.2.2.1, n0, q0, .slice a26 ((del15 m0 kyk).length) c27, del15 m0 kyk) ?_ (subB_eq (l := [0, 3, 5, 6, 4]) (by kernel_rfl)) (fun w hw => (hw.conv 6 (R := rowR 50 3 (.slice a26 ((del15 m0 kyk).length) c27) ((del15 m0 kyk).length) ((del15 m0 kyk).flatMap it3)) (R' := vewR 3 (.slice a26 ((del15 m0 kyk).length) c27) (del15 m0 kyk).length ((del15 m0 kyk).flatMap it3)) (by kernel_rfl) (vew_of_row)).pickB [0, 1, 2, 3, 5, 6] (by kernel_rfl) (by kernel_rfl) (by kernel_rfl))
            exact ⟨hP2, by first | omega | exact Nat.zero_le _, by first | omega | exact Nat.zero_le _⟩
          ·
            refine Cd.seq ?_
            refine Cd.region rfl ?_
            refine Sq.v (r := bV (decide (kdk = 3))) (o_eqI (k := .i64) (a := kdk) (b := 3) (by kernel_rfl) (by kernel_rfl)) rfl (by kernel_rfl) ?_
            refine Sq.vals [1] (rest := []) [bV (decide (kdk = 3))] (fun w => by kernel_rfl) ?_
            refine Sq.done ?_
            refine Ex'.next ?_
            refine Cd.case (p := kdk = 3) (by kernel_rfl) (fun h30 => ?_) (fun h30 => ?_)
            ·
              refine Cd.seq ?_
              refine Cd.region rfl ?_
              refine Sq.vals [0, 1] (rest := [2, 3, 4, 5, 6, 7, 8]) [.slice a7 m0.length c8, pV b12 4] (fun w => by kernel_rfl) ?_
              refine Sq.same [5] (l := [blkR b12 [iV kdk, sV kyk, sV txk, iV dlk, iV nwk] 33]) (o_load (i := 4) (v := iV nwk) (by kernel_rfl) (by kernel_rfl) (by kernel_rfl)) (by kernel_rfl) rfl (by kernel_rfl) rfl ?_
              refine Sq.ex [4] (l := [vewR 3 (.slice a7 m0.length c8) m0.length (m0.flatMap it3)]) (o_call (by kernel_rfl) Tryd.call21 (t_Expire15_e (l := m0) (la := a7) (lc := c8) (n := nwk) (by omega))) (by kernel_rfl) rfl (by kernel_rfl) (fun _ => Nat.le_of_ble_eq_true (by kernel_rfl)) ?_; rintro ⟨v33, v34⟩ _
              have q31 := stay15_le m0 nwk; have q32 := gk15_le m0 nwk
              refine Sq.fact (i := 6) (R := vewR 3 v33 ((stay15 m0 nwk).length) ((stay15 m0 nwk).flatMap it3)) (by kernel_rfl) vew_slice ?_; rintro ⟨a35, c36, rfl, hc36, hc36'⟩
              have hc36'' : c36 ≤ 9223372036854775807 := hc36'
              refine Sq.fact (i := 7) (R := rowR 9 1 v34 ((gk15 m0 nwk).length) ((gk15 m0 nwk).map Value.string)) (by kernel_rfl) row_slice ?_; rintro ⟨a37, c38, rfl, hc38, hc38'⟩
              have hc38'' : c38 ≤ 9223372036854775807 := hc38'
              refine Sq.vals [4, 5, 6, 7, 8] (rest := []) [.tuple #[.slice a35 ((stay15 m0 nwk).length) c36, .slice a37 ((gk15 m0 nwk).length) c38], .slice a35 ((stay15 m0 nwk).length) c36, .slice a37 ((gk15 m0 nwk).length) c38, .slice a35 ((stay15 m0 nwk).length) c36, .slice a37 ((gk15 m0 nwk).length) c38] (fun w => by kernel_rfl) ?_
              refine Sq.done ?_
              refine Ex'.next ?_
              refine Cd.seq ?_
              refine Cd.region rfl ?_
              refine Sq.vals [0, 1] (rest := []) [.slice a35 ((stay15 m0 nwk).length) c36, .slice a35 ((stay15 m0 nwk).length) c36] (fun w => by kernel_rfl) ?_
              refine Sq.done ?_
              refine Ex'.next ?_
              refine Cd.seq ?_
              refine Cd.region rfl ?_
              refine Sq.vals [0, 1] (rest := [2, 3, 4, 5, 6]) [pV b3 0, pV b12 4] (fun w => by kernel_rfl) ?_
              refine Sq.same [5] (l := [blkR b12 [iV kdk, sV kyk, sV txk, iV dlk, iV nwk] 33]) (o_load (i := 4) (v := iV nwk) (by kernel_rfl) (by kernel_rfl) (by kernel_rfl)) (by kernel_rfl) rfl (by kernel_rfl) rfl ?_
              refine Sq.ex [1, 2, 3] (l := [valB b3 mb4 q0 bys0, mapR Value.string itV mb4 M0, hpS q0 S0 n0]) (o_call (by kernel_rfl) Tryd.call15 (val_Expire (n := n0) (M := M0) (S := S0) (bys := bys0) nwk (by omega) (by first | omega | (constructor <;> decide)) (by exact hV.it) (by exact hV.ends))) (by kernel_rfl) rfl (by kernel_rfl) (fun _ => Nat.le_of_ble_eq_true (by kernel_rfl)) ?_; rintro v39 _
              generalize hxx40 : valExp M0 S0 bys0 nwk = x40
              obtain ⟨hP2, hK2⟩ : VP x40.1 x40.2.1 x40.2.2.1 (stay15 m0 nwk) ∧ x40.2.2.2 = gk15 m0 nwk := by rw [← hxx40]; exact hP.exp _
              have hL2 : x40.1.length ≤ k + 1 := by have := hP2.len; have := stay15_le m0 nwk; omega
              refine Sq.fact (i := 8) (R := rowR 9 1 v39 ((x40.2.2.2).length) ((x40.2.2.2).map Value.string)) (by kernel_rfl) row_slice ?_; rintro ⟨a41, c42, rfl, hc42, hc42'⟩
              have hc42'' : c42 ≤ 9223372036854775807 := hc42'
              refine Sq.vals [4] (rest := [5, 6]) [.slice a37 ((gk15 m0 nwk).length) c38] (fun w => by kernel_rfl) ?_
              refine Sq.same [8, 7] (l := [rowR 9 1 (.slice a41 ((x40.2.2.2).length) c42) ((x40.2.2.2).length) ((x40.2.2.2).map Value.string), rowR 9 1 (.slice a37 ((gk15 m0 nwk).length) c38) ((gk15 m0 nwk).length) ((gk15 m0 nwk).map Value.string)]) (o_call (by kernel_rfl) Tryd.call22 (t_same03 (l := [rowR 9 1 (.slice a41 ((x40.2.2.2).length) c42) ((x40.2.2.2).length) ((x40.2.2.2).map Value.string), rowR 9 1 (.slice a37 ((gk15 m0 nwk).length) c38) ((gk15 m0 nwk).length) ((gk15 m0 nwk).map Value.string)]) (xs := x40.2.2.2) (ys := gk15 m0 nwk) (fun w own hH => ⟨⟨_, Row.strs (hH 0 _ rfl)⟩, ⟨_, Row.strs (hH 1 _ rfl)⟩⟩))) (by kernel_rfl) rfl (by kernel_rfl) rfl ?_
              refine Sq.v (r := bV (decide (¬ (x40.2.2.2 = gk15 m0 nwk)))) (o_not (by kernel_rfl)) rfl (by kernel_rfl) ?_
              refine Sq.done ?_
              refine Ex'.next ?_
              refine Cd.condF (by rw [show ev _ _ = some (.bool (decide (¬ (x40.2.2.2 = gk15 m0 nwk)))) from by kernel_rfl, decide_eq_false (fun z => z hK2)]) ?_
              refine Cd.skip ?_
              refine Ex'.blockNormal ?_
              refine Ex'.meet (x40.1, x40.2.1, x40.2.2.1, n0, q0, .slice a35 ((stay15 m0 nwk).length) c36, stay15 m0 nwk) ?_ (subB_eq (l := [0, 3, 5, 6, 4]) (by kernel_rfl)) (fun w hw => hw.pickB [0, 1, 2, 3, 5, 6] (by kernel_rfl) (by kernel_rfl) (by kernel_rfl))
              exact ⟨hP2, by first | omega | exact Nat.zero_le _, by first | omega | exact Nat.zero_le _⟩
            ·
              refine Cd.seq ?_
              refine Cd.region rfl ?_
              refine Sq.v (r := bV (decide (kdk = 4))) (o_eqI (k := .i64) (a := kdk) (b := 4) (by kernel_rfl) (by kernel_rfl)) rfl (by kernel_rfl) ?_
              refine Sq.vals [1] (rest := []) [bV (decide (kdk = 4))] (fun w => by kernel_rfl) ?_
              refine Sq.done ?_
              refine Ex'.next ?_
              refine Cd.case (p := kdk = 4) (by kernel_rfl) (fun h44 => ?_) (fun h44 => ?_)
              ·
                refine Cd.seq ?_
                refine Cd.region rfl ?_
                refine Sq.vals [0] (rest := [1]) [pV b3 0] (fun w => by kernel_rfl) ?_
                refine Sq.ex [1, 2, 3] (l := [valB b3 mb4 q0 bys0, mapR Value.string itV mb4 M0, hpS q0 S0 n0]) (o_call (by kernel_rfl) Tryd.call23 (val_Clear (n := n0) (M := M0) (S := S0) (bys := bys0))) (by kernel_rfl) rfl (by kernel_rfl) (fun _ => Nat.le_of_ble_eq_true (by kernel_rfl)) ?_; rintro q45 _
                refine Sq.done ?_
                refine Ex'.next ?_
                refine Cd.region rfl ?_
                refine Sq.vals [0] (rest := []) [.slice none 0 0] (fun w => by kernel_rfl) ?_
                refine Sq.done ?_
                refine Ex'.blockNormal ?_
                refine Ex'.meet (([] : List (ByteArray × ByteArray × ByteArray × Int)), ([] : List (KR ByteArray)), 0, 0, q45, .slice none 0 0, ([] : List It)) ?_ (subB_eq (l := [0, 3, 5, 6, 4]) (by kernel_rfl)) (fun w hw => (hw.nilVew 3).pickB [0, 1, 2, 3, 5, 6] (by kernel_rfl) (by kernel_rfl) (by kernel_rfl))
                exact ⟨VP.new, by first | omega | exact Nat.zero_le _, by first | omega | exact Nat.zero_le _⟩
              ·
                refine Cd.skip ?_
                refine Ex'.blockNormal ?_
                refine Ex'.meet (M0, S0, bys0, n0, q0, .slice a7 m0.length c8, m0) ?_ (subB_eq (l := [0, 3, 5, 6, 4]) (by kernel_rfl)) (fun w hw => hw.pickB [0, 1, 2, 3, 5, 4] (by kernel_rfl) (by kernel_rfl) (by kernel_rfl))
                exact ⟨hP, by first | omega | exact Nat.zero_le _, by first | omega | exact Nat.zero_le _⟩
      rintro ⟨M1, S1, bys1, n1, q1, mv1, m1⟩ hL46
      try dsimp only at hL46 ⊢
      obtain ⟨hP1, hM1, hn1⟩ := hL46
      have hV1x := hP1.vx; have hb1 := hV1x.b1; have hb0 := hV1x.b0; have hml1 := hP1.len
      refine Cd.fact (i := 5) (R := vewR 3 mv1 m1.length (m1.flatMap it3)) (by kernel_rfl) vew_slice ?_; rintro ⟨a47, c48, rfl, hc48, hc48'⟩
      have hc48'' : c48 ≤ 9223372036854775807 := hc48'
      refine Cd.seq ?_
      refine Cd.region rfl ?_
      refine Sq.vals [0, 1, 2] (rest := [3, 4, 5, 6, 7, 8, 9, 10, 11, 12]) [pV b3 0, pV b12 1, pV b12 1] (fun w => by kernel_rfl) ?_
      refine Sq.same [4] (l := [blkR b12 [iV kdk, sV kyk, sV txk, iV dlk, iV nwk] 33]) (o_load (i := 1) (v := sV kyk) (by kernel_rfl) (by kernel_rfl) (by kernel_rfl)) (by kernel_rfl) rfl (by kernel_rfl) rfl ?_
      refine Sq.vals [4] (rest := [5, 6, 7, 8, 9, 10, 11, 12]) [pV b12 4] (fun w => by kernel_rfl) ?_
      refine Sq.same [4] (l := [blkR b12 [iV kdk, sV kyk, sV txk, iV dlk, iV nwk] 33]) (o_load (i := 4) (v := iV nwk) (by kernel_rfl) (by kernel_rfl) (by kernel_rfl)) (by kernel_rfl) rfl (by kernel_rfl) rfl ?_
      by_cases h49 : getOk M1 kyk nwk
      ·
        refine Sq.same [1, 2, 3] (l := [valB b3 mb4 q1 bys1, mapR Value.string itV mb4 M1, hpS q1 S1 n1]) (o_call (by kernel_rfl) Tryd.call12 (val_GetOk (n := n1) (M := M1) (S := S1) (bys := bys1) kyk nwk h49)) (by kernel_rfl) rfl (by kernel_rfl) rfl ?_
        refine Sq.vals [7, 8, 9] (rest := [10, 11, 12]) [.tuple #[.agg #[sV (((lk M1 kyk).getD ((⟨#[]⟩, ⟨#[]⟩, 0) : ByteArray × ByteArray × Int)).1), sV (((lk M1 kyk).getD ((⟨#[]⟩, ⟨#[]⟩, 0) : ByteArray × ByteArray × Int)).2.1), iV (((lk M1 kyk).getD ((⟨#[]⟩, ⟨#[]⟩, 0) : ByteArray × ByteArray × Int)).2.2)], .nilIface], .agg #[sV (((lk M1 kyk).getD ((⟨#[]⟩, ⟨#[]⟩, 0) : ByteArray × ByteArray × Int)).1), sV (((lk M1 kyk).getD ((⟨#[]⟩, ⟨#[]⟩, 0) : ByteArray × ByteArray × Int)).2.1), iV (((lk M1 kyk).getD ((⟨#[]⟩, ⟨#[]⟩, 0) : ByteArray × ByteArray × Int)).2.2)], .nilIface] (fun w => by kernel_rfl) ?_
        refine Sq.ex [] (l := []) (o_new [sV ⟨#[]⟩, sV ⟨#[]⟩, iV 0] (fun w => by kernel_rfl)) (by kernel_rfl) rfl (by kernel_rfl) (fun _ => Nat.zero_le _) ?_; intro b50 _
        refine Sq.same [6] (l := [blkR b50 [sV ⟨#[]⟩, sV ⟨#[]⟩, iV 0] 24]) (o_store (i := 0) (v := .agg #[sV (((lk M1 kyk).getD ((⟨#[]⟩, ⟨#[]⟩, 0) : ByteArray × ByteArray × Int)).1), sV (((lk M1 kyk).getD ((⟨#[]⟩, ⟨#[]⟩, 0) : ByteArray × ByteArray × Int)).2.1), iV (((lk M1 kyk).getD ((⟨#[]⟩, ⟨#[]⟩, 0) : ByteArray × ByteArray × Int)).2.2)]) (by kernel_rfl) (by kernel_rfl) (by kernel_rfl) (by kernel_rfl) (by kernel_rfl)) (by kernel_rfl) rfl (by kernel_rfl) rfl ?_
        refine Sq.vals [12] (rest := []) [.nilIface] (fun w => by kernel_rfl) ?_
        refine Sq.done ?_
        refine Ex'.next ?_
        refine Cd.seq ?_
        refine Cd.region rfl ?_
        refine Sq.vals [0, 1, 2] (rest := [3, 4, 5, 6, 7, 8, 9, 10, 11, 12]) [.slice a47 m1.length c48, pV b12 1, pV b12 1] (fun w => by kernel_rfl) ?_
        refine Sq.same [4] (l := [blkR b12 [iV kdk, sV kyk, sV txk, iV dlk, iV nwk] 33]) (o_load (i := 1) (v := sV kyk) (by kernel_rfl) (by kernel_rfl) (by kernel_rfl)) (by kernel_rfl) rfl (by kernel_rfl) rfl ?_
        refine Sq.vals [4] (rest := [5, 6, 7, 8, 9, 10, 11, 12]) [pV b12 4] (fun w => by kernel_rfl) ?_
        refine Sq.same [4] (l := [blkR b12 [iV kdk, sV kyk, sV txk, iV dlk, iV nwk] 33]) (o_load (i := 4) (v := iV nwk) (by kernel_rfl) (by kernel_rfl) (by kernel_rfl)) (by kernel_rfl) rfl (by kernel_rfl) rfl ?_
        refine Sq.same [5] (l := [vewR 3 (.slice a47 m1.length c48) m1.length (m1.flatMap it3)]) (o_call (by kernel_rfl) Tryd.call24 ((t_Get15 (l := m1) (la := a47) (lc := c48) (key := kyk) (n := nwk) (by omega)).re (by rw [hP1.get kyk nwk, if_pos h49]; try rfl))) (by kernel_rfl) rfl (by kernel_rfl) rfl ?_
        refine Sq.vals [7, 8, 9] (rest := [10, 11, 12]) [.tuple #[.agg #[sV (((lk M1 kyk).getD ((⟨#[]⟩, ⟨#[]⟩, 0) : ByteArray × ByteArray × Int)).1), sV (((lk M1 kyk).getD ((⟨#[]⟩, ⟨#[]⟩, 0) : ByteArray × ByteArray × Int)).2.1), iV (((lk M1 kyk).getD ((⟨#[]⟩, ⟨#[]⟩, 0) : ByteArray × ByteArray × Int)).2.2)], iV 0], .agg #[sV (((lk M1 kyk).getD ((⟨#[]⟩, ⟨#[]⟩, 0) : ByteArray × ByteArray × Int)).1), sV (((lk M1 kyk).getD ((⟨#[]⟩, ⟨#[]⟩, 0) : ByteArray × ByteArray × Int)).2.1), iV (((lk M1 kyk).getD ((⟨#[]⟩, ⟨#[]⟩, 0) : ByteArray × ByteArray × Int)).2.2)], iV 0] (fun w => by kernel_rfl) ?_
        refine Sq.ex [] (l := []) (o_new [sV ⟨#[]⟩, sV ⟨#[]⟩, iV 0] (fun w => by kernel_rfl)) (by kernel_rfl) rfl (by kernel_rfl) (fun _ => Nat.zero_le _) ?_; intro b51 _
        refine Sq.same [7] (l := [blkR b51 [sV ⟨#[]⟩, sV ⟨#[]⟩, iV 0] 50]) (o_store (i := 0) (v := .agg #[sV (((lk M1 kyk).getD ((⟨#[]⟩, ⟨#[]⟩, 0) : ByteArray × ByteArray × Int)).1), sV (((lk M1 kyk).getD ((⟨#[]⟩, ⟨#[]⟩, 0) : ByteArray × ByteArray × Int)).2.1), iV (((lk M1 kyk).getD ((⟨#[]⟩, ⟨#[]⟩, 0) : ByteArray × ByteArray × Int)).2.2)]) (by kernel_rfl) (by kernel_rfl) (by kernel_rfl) (by kernel_rfl) (by kernel_rfl)) (by kernel_rfl) rfl (by kernel_rfl) rfl ?_
        refine Sq.vals [12] (rest := []) [iV 0] (fun w => by kernel_rfl) ?_
        refine Sq.done ?_
        refine Ex'.next ?_
        refine Cd.seq ?_
        refine Cd.region rfl ?_
        refine Sq.same [6] (l := [blkR b50 [sV (((lk M1 kyk).getD ((⟨#[]⟩, ⟨#[]⟩, 0) : ByteArray × ByteArray × Int)).1), sV (((lk M1 kyk).getD ((⟨#[]⟩, ⟨#[]⟩, 0) : ByteArray × ByteArray × Int)).2.1), iV (((lk M1 kyk).getD ((⟨#[]⟩, ⟨#[]⟩, 0) : ByteArray × ByteArray × Int)).2.2)] 24]) (o_loadN (i := 0) [sV (((lk M1 kyk).getD ((⟨#[]⟩, ⟨#[]⟩, 0) : ByteArray × ByteArray × Int)).1), sV (((lk M1 kyk).getD ((⟨#[]⟩, ⟨#[]⟩, 0) : ByteArray × ByteArray × Int)).2.1), iV (((lk M1 kyk).getD ((⟨#[]⟩, ⟨#[]⟩, 0) : ByteArray × ByteArray × Int)).2.2)] (by kernel_rfl) (by kernel_rfl) (by kernel_rfl)) (by kernel_rfl) rfl (by kernel_rfl) rfl ?_
        refine Sq.same [7] (l := [blkR b51 [sV (((lk M1 kyk).getD ((⟨#[]⟩, ⟨#[]⟩, 0) : ByteArray × ByteArray × Int)).1), sV (((lk M1 kyk).getD ((⟨#[]⟩, ⟨#[]⟩, 0) : ByteArray × ByteArray × Int)).2.1), iV (((lk M1 kyk).getD ((⟨#[]⟩, ⟨#[]⟩, 0) : ByteArray × ByteArray × Int)).2.2)] 50]) (o_loadN (i := 0) [sV (((lk M1 kyk).getD ((⟨#[]⟩, ⟨#[]⟩, 0) : ByteArray × ByteArray × Int)).1), sV (((lk M1 kyk).getD ((⟨#[]⟩, ⟨#[]⟩, 0) : ByteArray × ByteArray × Int)).2.1), iV (((lk M1 kyk).getD ((⟨#[]⟩, ⟨#[]⟩, 0) : ByteArray × ByteArray × Int)).2.2)] (by kernel_rfl) (by kernel_rfl) (by kernel_rfl)) (by kernel_rfl) rfl (by kernel_rfl) rfl ?_
        refine Sq.v (r := bV (decide (¬ (((lk M1 kyk).getD ((⟨#[]⟩, ⟨#[]⟩, 0) : ByteArray × ByteArray × Int)).1 = ((lk M1 kyk).getD ((⟨#[]⟩, ⟨#[]⟩, 0) : ByteArray × ByteArray × Int)).1 ∧ ((lk M1 kyk).getD ((⟨#[]⟩, ⟨#[]⟩, 0) : ByteArray × ByteArray × Int)).2.1 = ((lk M1 kyk).getD ((⟨#[]⟩, ⟨#[]⟩, 0) : ByteArray × ByteArray × Int)).2.1 ∧ ((lk M1 kyk).getD ((⟨#[]⟩, ⟨#[]⟩, 0) : ByteArray × ByteArray × Int)).2.2 = ((lk M1 kyk).getD ((⟨#[]⟩, ⟨#[]⟩, 0) : ByteArray × ByteArray × Int)).2.2)))) (o_eqItem15_ne (((lk M1 kyk).getD ((⟨#[]⟩, ⟨#[]⟩, 0) : ByteArray × ByteArray × Int)).1) (((lk M1 kyk).getD ((⟨#[]⟩, ⟨#[]⟩, 0) : ByteArray × ByteArray × Int)).1) (((lk M1 kyk).getD ((⟨#[]⟩, ⟨#[]⟩, 0) : ByteArray × ByteArray × Int)).2.1) (((lk M1 kyk).getD ((⟨#[]⟩, ⟨#[]⟩, 0) : ByteArray × ByteArray × Int)).2.1) (((lk M1 kyk).getD ((⟨#[]⟩, ⟨#[]⟩, 0) : ByteArray × ByteArray × Int)).2.2) (((lk M1 kyk).getD ((⟨#[]⟩, ⟨#[]⟩, 0) : ByteArray × ByteArray × Int)).2.2) (by kernel_rfl) (by kernel_rfl)) rfl (by kernel_rfl) ?_
        refine Sq.re 129 rfl (vF (show ¬ (¬ (((lk M1 kyk).getD ((⟨#[]⟩, ⟨#[]⟩, 0) : ByteArray × ByteArray × Int)).1 = ((lk M1 kyk).getD ((⟨#[]⟩, ⟨#[]⟩, 0) : ByteArray × ByteArray × Int)).1 ∧ ((lk M1 kyk).getD ((⟨#[]⟩, ⟨#[]⟩, 0) : ByteArray × ByteArray × Int)).2.1 = ((lk M1 kyk).getD ((⟨#[]⟩, ⟨#[]⟩, 0) : ByteArray × ByteArray × Int)).2.1 ∧ ((lk M1 kyk).getD ((⟨#[]⟩, ⟨#[]⟩, 0) : ByteArray × ByteArray × Int)).2.2 = ((lk M1 kyk).getD ((⟨#[]⟩, ⟨#[]⟩, 0) : ByteArray × ByteArray × Int)).2.2)) from fun z => z ⟨rfl, rfl, rfl⟩)) ?_
        refine Sq.vals [3, 4, 5, 6] (rest := [7, 8, 9, 10, 11, 12, 13, 14, 15, 16, 17, 18, 19, 20, 21, 22, 23, 24, 25, 26, 27, 28, 29, 30, 31, 32, 33]) [bV false, .nilIface, pV b12 1, pV b12 1] (fun w => by kernel_rfl) ?_
        refine Sq.same [4] (l := [blkR b12 [iV kdk, sV kyk, sV txk, iV dlk, iV nwk] 33]) (o_load (i := 1) (v := sV kyk) (by kernel_rfl) (by kernel_rfl) (by kernel_rfl)) (by kernel_rfl) rfl (by kernel_rfl) rfl ?_
        refine Sq.vals [8] (rest := [9, 10, 11, 12, 13, 14, 15, 16, 17, 18, 19, 20, 21, 22, 23, 24, 25, 26, 27, 28, 29, 30, 31, 32, 33]) [iV 0] (fun w => by kernel_rfl) ?_
        refine Sq.same [] (l := []) (o_call (by kernel_rfl) Tryd.call18 ((wraps_nil (op := ⟨#[103, 101, 116]⟩) (key := kyk) (d := 0)).re (vT (by decide)))) (by kernel_rfl) rfl (by kernel_rfl) rfl ?_
        refine Sq.vals [10, 11, 12, 13] (rest := [14, 15, 16, 17, 18, 19, 20, 21, 22, 23, 24, 25, 26, 27, 28, 29, 30, 31, 32, 33]) [bV false, bV false, bV false, pV b3 0] (fun w => by kernel_rfl) ?_
        refine Sq.same [1, 2, 3] (l := valL b3 mb4 q1 M1 S1 bys1 n1) (o_call (by kernel_rfl) Tryd.call13 (val_Len (n := n1) (M := M1) (S := S1) (bys := bys1) (by omega))) (by kernel_rfl) rfl (by kernel_rfl) rfl ?_
        refine Sq.vals [15, 16] (rest := [17, 18, 19, 20, 21, 22, 23, 24, 25, 26, 27, 28, 29, 30, 31, 32, 33]) [.slice a47 m1.length c48, iV (m1.length : Int)] (fun w => by kernel_rfl) ?_
        refine Sq.v (r := bV (decide (valLen M1 S1 bys1 ≠ (m1.length : Int)))) (o_neI (k := .i64) (a := valLen M1 S1 bys1) (b := (m1.length : Int)) (by kernel_rfl) (by kernel_rfl)) rfl (by kernel_rfl) ?_
        refine Sq.re 144 rfl (vF (fun z => z (by show ((M1.length : Nat) : Int) = _; omega))) ?_
        refine Sq.vals [18, 19, 20] (rest := [21, 22, 23, 24, 25, 26, 27, 28, 29, 30, 31, 32, 33]) [bV false, bV false, pV b3 0] (fun w => by kernel_rfl) ?_
        refine Sq.same [1, 2, 3] (l := valL b3 mb4 q1 M1 S1 bys1 n1) (o_call (by kernel_rfl) Tryd.call25 (val_Bytes (n := n1) (M := M1) (S := S1) (bys := bys1) (by omega))) (by kernel_rfl) rfl (by kernel_rfl) rfl ?_
        refine Sq.vals [22] (rest := [23, 24, 25, 26, 27, 28, 29, 30, 31, 32, 33]) [.slice a47 m1.length c48] (fun w => by kernel_rfl) ?_
        refine Sq.same [5] (l := [vewR 3 (.slice a47 m1.length c48) m1.length (m1.flatMap it3)]) (o_call (by kernel_rfl) Tryd.call26 (t_Bytes15 (l := m1) (la := a47) (lc := c48) (by omega) (by exact hP1.small))) (by kernel_rfl) rfl (by kernel_rfl) rfl ?_
        refine Sq.v (r := bV (decide (valBytes M1 S1 bys1 ≠ byt15 m1))) (o_neI (k := .i64) (a := valBytes M1 S1 bys1) (b := byt15 m1) (by kernel_rfl) (by kernel_rfl)) rfl (by kernel_rfl) ?_
        refine Sq.re 151 rfl (vF (fun z => z hP1.bytes.symm)) ?_
        refine Sq.vals [25, 26, 27] (rest := [28, 29, 30, 31, 32, 33]) [bV false, bV false, pV b3 0] (fun w => by kernel_rfl) ?_
        refine Sq.ex [1, 2, 3] (l := [valB b3 mb4 q1 bys1, mapR Value.string itV mb4 M1, hpS q1 S1 n1]) (o_call (by kernel_rfl) Tryd.call16 (val_Items (n := n1) (M := M1) (S := S1) (bys := bys1) (by omega))) (by kernel_rfl) rfl (by kernel_rfl) (fun _ => Nat.le_of_ble_eq_true (by kernel_rfl)) ?_; rintro ⟨wv, wl⟩ ⟨hpw, hqw⟩
        dsimp only at hpw hqw; have hlw := hpw.length_eq; rw [List.length_map] at hlw
        refine Sq.fact (i := 8) (R := rowR 24 3 wv wl.length (wl.flatMap it3)) (by kernel_rfl) row_slice ?_; rintro ⟨a52, c53, rfl, hc53, hc53'⟩
        have hc53'' : c53 ≤ 9223372036854775807 := hc53'
        refine Sq.vals [29] (rest := [30, 31, 32, 33]) [.slice a47 m1.length c48] (fun w => by kernel_rfl) ?_
        refine Sq.ex [5] (l := [vewR 3 (.slice a47 m1.length c48) m1.length (m1.flatMap it3)]) (o_call (by kernel_rfl) Tryd.call28 (t_Sorted15 (l := m1) (la := a47) (lc := c48) (by omega))) (by kernel_rfl) rfl (by kernel_rfl) (fun _ => Nat.le_of_ble_eq_true (by kernel_rfl)) ?_; rintro v55 _
        have q54 := sort15_len (lt := ltK) m1
        refine Sq.fact (i := 9) (R := rowR 50 3 v55 ((srt15 m1).length) ((srt15 m1).flatMap it3)) (by kernel_rfl) row_slice ?_; rintro ⟨a56, c57, rfl, hc57, hc57'⟩
        have hc57'' : c57 ≤ 9223372036854775807 := hc57'
        refine Sq.res 8 (R := rowR 24 3 (.slice a52 wl.length c53) wl.length (wl.flatMap it3)) (R' := vewR 3 (.slice a52 wl.length c53) wl.length (wl.flatMap it3)) (by kernel_rfl) (vew_of_row) ?_
        refine Sq.res 9 (R := rowR 50 3 (.slice a56 ((srt15 m1).length) c57) ((srt15 m1).length) ((srt15 m1).flatMap it3)) (R' := vewR 3 (.slice a56 ((srt15 m1).length) c57) ((srt15 m1).length) ((srt15 m1).flatMap it3)) (by kernel_rfl) (vew_of_row) ?_
        refine Sq.same [8, 9] (l := [vewR 3 (.slice a52 wl.length c53) wl.length (wl.flatMap it3), vewR 3 (.slice a56 ((srt15 m1).length) c57) ((srt15 m1).length) ((srt15 m1).flatMap it3)]) (o_call (by kernel_rfl) Tryd.call27 (t_same15 (l := wl) (m := srt15 m1) (la := a52) (ma := a56) (lc := c53) (mc := c57) (by omega) (hP1.sorted hpw hqw))) (by kernel_rfl) rfl (by kernel_rfl) rfl ?_
        refine Sq.vals [32, 33] (rest := []) [bV false, bV false] (fun w => by kernel_rfl) ?_
        refine Sq.done ?_
        refine Ex'.next ?_
        refine Cd.condF (by kernel_rfl) ?_
        refine Cd.skip ?_
        refine Ex'.blockNormal ?_
        refine Ex'.next ?_
        refine Cd.region rfl ?_
        refine Sq.vals [0] (rest := [1, 2]) [iV (k : Int)] (fun w => by kernel_rfl) ?_
        refine Sq.v (r := iV ((k + 1 : Nat) : Int)) (o_add (k := .i64) (a := (k : Int)) (b := 1) (c := ((k + 1 : Nat) : Int)) (by kernel_rfl) (by kernel_rfl) (w64 (by omega) (by omega))) rfl (by kernel_rfl) ?_
        refine Sq.vals [2] (rest := []) [iV ((k + 1 : Nat) : Int)] (fun w => by kernel_rfl) ?_
        refine Sq.done ?_
        refine Ex'.round (g := (k, M0, S0, bys0, n0, q0, .slice a7 m0.length c8, m0)) (k + 1, M1, S1, bys1, n1, q1, .slice a47 m1.length c48, m1) ?_ ?_ (subB_eq (l := [0, 3, 5, 4]) (by kernel_rfl)) (fun w hw => hw.pickB [0, 1, 2, 3, 5] (by kernel_rfl) (by kernel_rfl) (by kernel_rfl))
        · (try dsimp only); exact ⟨by omega, hP1, by omega, by omega⟩
        · omega
      ·
        refine Sq.ex [1, 2, 3] (l := [valB b3 mb4 q1 bys1, mapR Value.string itV mb4 M1, hpS q1 S1 n1]) (o_call (by kernel_rfl) Tryd.call12 (val_GetBad (n := n1) (M := M1) (S := S1) (bys := bys1) kyk nwk h49)) (by kernel_rfl) rfl (by kernel_rfl) (fun _ => Nat.le_of_ble_eq_true (by kernel_rfl)) ?_; rintro b58 _
        refine Sq.vals [7, 8, 9] (rest := [10, 11, 12]) [.tuple #[.agg #[sV ⟨#[]⟩, sV ⟨#[]⟩, iV 0], .iface 83 (pV b58 0)], .agg #[sV ⟨#[]⟩, sV ⟨#[]⟩, iV 0], .iface 83 (pV b58 0)] (fun w => by kernel_rfl) ?_
        refine Sq.ex [] (l := []) (o_new [sV ⟨#[]⟩, sV ⟨#[]⟩, iV 0] (fun w => by kernel_rfl)) (by kernel_rfl) rfl (by kernel_rfl) (fun _ => Nat.zero_le _) ?_; intro b59 _
        refine Sq.same [7] (l := [blkR b59 [sV ⟨#[]⟩, sV ⟨#[]⟩, iV 0] 24]) (o_store (i := 0) (v := .agg #[sV ⟨#[]⟩, sV ⟨#[]⟩, iV 0]) (by kernel_rfl) (by kernel_rfl) (by kernel_rfl) (by kernel_rfl) (by kernel_rfl)) (by kernel_rfl) rfl (by kernel_rfl) rfl ?_
        refine Sq.vals [12] (rest := []) [.iface 83 (pV b58 0)] (fun w => by kernel_rfl) ?_
        refine Sq.done ?_
        refine Ex'.next ?_
        refine Cd.seq ?_
        refine Cd.region rfl ?_
        refine Sq.vals [0, 1, 2] (rest := [3, 4, 5, 6, 7, 8, 9, 10, 11, 12]) [.slice a47 m1.length c48, pV b12 1, pV b12 1] (fun w => by kernel_rfl) ?_
        refine Sq.same [4] (l := [blkR b12 [iV kdk, sV kyk, sV txk, iV dlk, iV nwk] 33]) (o_load (i := 1) (v := sV kyk) (by kernel_rfl) (by kernel_rfl) (by kernel_rfl)) (by kernel_rfl) rfl (by kernel_rfl) rfl ?_
        refine Sq.vals [4] (rest := [5, 6, 7, 8, 9, 10, 11, 12]) [pV b12 4] (fun w => by kernel_rfl) ?_
        refine Sq.same [4] (l := [blkR b12 [iV kdk, sV kyk, sV txk, iV dlk, iV nwk] 33]) (o_load (i := 4) (v := iV nwk) (by kernel_rfl) (by kernel_rfl) (by kernel_rfl)) (by kernel_rfl) rfl (by kernel_rfl) rfl ?_
        refine Sq.same [5] (l := [vewR 3 (.slice a47 m1.length c48) m1.length (m1.flatMap it3)]) (o_call (by kernel_rfl) Tryd.call24 ((t_Get15 (l := m1) (la := a47) (lc := c48) (key := kyk) (n := nwk) (by omega)).re (by rw [hP1.get kyk nwk, if_neg h49]; try rfl))) (by kernel_rfl) rfl (by kernel_rfl) rfl ?_
        refine Sq.vals [7, 8, 9] (rest := [10, 11, 12]) [.tuple #[.agg #[sV ⟨#[]⟩, sV ⟨#[]⟩, iV 0], iV 5], .agg #[sV ⟨#[]⟩, sV ⟨#[]⟩, iV 0], iV 5] (fun w => by kernel_rfl) ?_
        refine Sq.ex [] (l := []) (o_new [sV ⟨#[]⟩, sV ⟨#[]⟩, iV 0] (fun w => by kernel_rfl)) (by kernel_rfl) rfl (by kernel_rfl) (fun _ => Nat.zero_le _) ?_; intro b60 _
        refine Sq.same [8] (l := [blkR b60 [sV ⟨#[]⟩, sV ⟨#[]⟩, iV 0] 50]) (o_store (i := 0) (v := .agg #[sV ⟨#[]⟩, sV ⟨#[]⟩, iV 0]) (by kernel_rfl) (by kernel_rfl) (by kernel_rfl) (by kernel_rfl) (by kernel_rfl)) (by kernel_rfl) rfl (by kernel_rfl) rfl ?_
        refine Sq.vals [12] (rest := []) [iV 5] (fun w => by kernel_rfl) ?_
        refine Sq.done ?_
        refine Ex'.next ?_
        refine Cd.seq ?_
        refine Cd.region rfl ?_
        refine Sq.same [7] (l := [blkR b59 [sV ⟨#[]⟩, sV ⟨#[]⟩, iV 0] 24]) (o_loadN (i := 0) [sV ⟨#[]⟩, sV ⟨#[]⟩, iV 0] (by kernel_rfl) (by kernel_rfl) (by kernel_rfl)) (by kernel_rfl) rfl (by kernel_rfl) rfl ?_
        refine Sq.same [8] (l := [blkR b60 [sV ⟨#[]⟩, sV ⟨#[]⟩, iV 0] 50]) (o_loadN (i := 0) [sV ⟨#[]⟩, sV ⟨#[]⟩, iV 0] (by kernel_rfl) (by kernel_rfl) (by kernel_rfl)) (by kernel_rfl) rfl (by kernel_rfl) rfl ?_
        refine Sq.vals [2, 3, 4, 5, 6] (rest := [7, 8, 9, 10, 11, 12, 13, 14, 15, 16, 17, 18, 19, 20, 21, 22, 23, 24, 25, 26, 27, 28, 29, 30, 31, 32, 33]) [bV false, bV false, .iface 83 (pV b58 0), pV b12 1, pV b12 1] (fun w => by kernel_rfl) ?_
        refine Sq.same [4] (l := [blkR b12 [iV kdk, sV kyk, sV txk, iV dlk, iV nwk] 33]) (o_load (i := 1) (v := sV kyk) (by kernel_rfl) (by kernel_rfl) (by kernel_rfl)) (by kernel_rfl) rfl (by kernel_rfl) rfl ?_
        refine Sq.vals [8] (rest := [9, 10, 11, 12, 13, 14, 15, 16, 17, 18, 19, 20, 21, 22, 23, 24, 25, 26, 27, 28, 29, 30, 31, 32, 33]) [iV 5] (fun w => by kernel_rfl) ?_
        refine Sq.same [0, 6] (l := [oldR w0, blkR b58 [sV ⟨#[103, 101, 116]⟩, sV kyk, .iface 71 (iV 5)] 87]) (o_call (by kernel_rfl) Tryd.call18 ((wraps_fault hg (op := ⟨#[103, 101, 116]⟩) (key := kyk) (d := 5) (x := ⟨#[103, 101, 116]⟩) (y := kyk) (c := 5)).re (vT ⟨by decide, rfl, rfl, rfl⟩))) (by kernel_rfl) rfl (by kernel_rfl) rfl ?_
        refine Sq.vals [10, 11, 12, 13] (rest := [14, 15, 16, 17, 18, 19, 20, 21, 22, 23, 24, 25, 26, 27, 28, 29, 30, 31, 32, 33]) [bV false, bV false, bV false, pV b3 0] (fun w => by kernel_rfl) ?_
        refine Sq.same [1, 2, 3] (l := valL b3 mb4 q1 M1 S1 bys1 n1) (o_call (by kernel_rfl) Tryd.call13 (val_Len (n := n1) (M := M1) (S := S1) (bys := bys1) (by omega))) (by kernel_rfl) rfl (by kernel_rfl) rfl ?_
        refine Sq.vals [15, 16] (rest := [17, 18, 19, 20, 21, 22, 23, 24, 25, 26, 27, 28, 29, 30, 31, 32, 33]) [.slice a47 m1.length c48, iV (m1.length : Int)] (fun w => by kernel_rfl) ?_
        refine Sq.v (r := bV (decide (valLen M1 S1 bys1 ≠ (m1.length : Int)))) (o_neI (k := .i64) (a := valLen M1 S1 bys1) (b := (m1.length : Int)) (by kernel_rfl) (by kernel_rfl)) rfl (by kernel_rfl) ?_
        refine Sq.re 144 rfl (vF (fun z => z (by show ((M1.length : Nat) : Int) = _; omega))) ?_
        refine Sq.vals [18, 19, 20] (rest := [21, 22, 23, 24, 25, 26, 27, 28, 29, 30, 31, 32, 33]) [bV false, bV false, pV b3 0] (fun w => by kernel_rfl) ?_
        refine Sq.same [1, 2, 3] (l := valL b3 mb4 q1 M1 S1 bys1 n1) (o_call (by kernel_rfl) Tryd.call25 (val_Bytes (n := n1) (M := M1) (S := S1) (bys := bys1) (by omega))) (by kernel_rfl) rfl (by kernel_rfl) rfl ?_
        refine Sq.vals [22] (rest := [23, 24, 25, 26, 27, 28, 29, 30, 31, 32, 33]) [.slice a47 m1.length c48] (fun w => by kernel_rfl) ?_
        refine Sq.same [5] (l := [vewR 3 (.slice a47 m1.length c48) m1.length (m1.flatMap it3)]) (o_call (by kernel_rfl) Tryd.call26 (t_Bytes15 (l := m1) (la := a47) (lc := c48) (by omega) (by exact hP1.small))) (by kernel_rfl) rfl (by kernel_rfl) rfl ?_
        refine Sq.v (r := bV (decide (valBytes M1 S1 bys1 ≠ byt15 m1))) (o_neI (k := .i64) (a := valBytes M1 S1 bys1) (b := byt15 m1) (by kernel_rfl) (by kernel_rfl)) rfl (by kernel_rfl) ?_
        refine Sq.re 151 rfl (vF (fun z => z hP1.bytes.symm)) ?_
        refine Sq.vals [25, 26, 27] (rest := [28, 29, 30, 31, 32, 33]) [bV false, bV false, pV b3 0] (fun w => by kernel_rfl) ?_
        refine Sq.ex [1, 2, 3] (l := [valB b3 mb4 q1 bys1, mapR Value.string itV mb4 M1, hpS q1 S1 n1]) (o_call (by kernel_rfl) Tryd.call16 (val_Items (n := n1) (M := M1) (S := S1) (bys := bys1) (by omega))) (by kernel_rfl) rfl (by kernel_rfl) (fun _ => Nat.le_of_ble_eq_true (by kernel_rfl)) ?_; rintro ⟨wv, wl⟩ ⟨hpw, hqw⟩
        dsimp only at hpw hqw; have hlw := hpw.length_eq; rw [List.length_map] at hlw
        refine Sq.fact (i := 9) (R := rowR 24 3 wv wl.length (wl.flatMap it3)) (by kernel_rfl) row_slice ?_; rintro ⟨a61, c62, rfl, hc62, hc62'⟩
        have hc62'' : c62 ≤ 9223372036854775807 := hc62'
        refine Sq.vals [29] (rest := [30, 31, 32, 33]) [.slice a47 m1.length c48] (fun w => by kernel_rfl) ?_
        refine Sq.ex [5] (l := [vewR 3 (.slice a47 m1.length c48) m1.length (m1.flatMap it3)]) (o_call (by kernel_rfl) Tryd.call28 (t_Sorted15 (l := m1) (la := a47) (lc := c48) (by omega))) (by kernel_rfl) rfl (by kernel_rfl) (fun _ => Nat.le_of_ble_eq_true (by kernel_rfl)) ?_; rintro v64 _
        have q63 := sort15_len (lt := ltK) m1
        refine Sq.fact (i := 10) (R := rowR 50 3 v64 ((srt15 m1).length) ((srt15 m1).flatMap it3)) (by kernel_rfl) row_slice ?_; rintro ⟨a65, c66, rfl, hc66, hc66'⟩
        have hc66'' : c66 ≤ 9223372036854775807 := hc66'
        refine Sq.res 9 (R := rowR 24 3 (.slice a61 wl.length c62) wl.length (wl.flatMap it3)) (R' := vewR 3 (.slice a61 wl.length c62) wl.length (wl.flatMap it3)) (by kernel_rfl) (vew_of_row) ?_
        refine Sq.res 10 (R := rowR 50 3 (.slice a65 ((srt15 m1).length) c66) ((srt15 m1).length) ((srt15 m1).flatMap it3)) (R' := vewR 3 (.slice a65 ((srt15 m1).length) c66) ((srt15 m1).length) ((srt15 m1).flatMap it3)) (by kernel_rfl) (vew_of_row) ?_
        refine Sq.same [9, 10] (l := [vewR 3 (.slice a61 wl.length c62) wl.length (wl.flatMap it3), vewR 3 (.slice a65 ((srt15 m1).length) c66) ((srt15 m1).length) ((srt15 m1).flatMap it3)]) (o_call (by kernel_rfl) Tryd.call27 (t_same15 (l := wl) (m := srt15 m1) (la := a61) (ma := a65) (lc := c62) (mc := c66) (by omega) (hP1.sorted hpw hqw))) (by kernel_rfl) rfl (by kernel_rfl) rfl ?_
        refine Sq.vals [32, 33] (rest := []) [bV false, bV false] (fun w => by kernel_rfl) ?_
        refine Sq.done ?_
        refine Ex'.next ?_
        refine Cd.condF (by kernel_rfl) ?_
        refine Cd.skip ?_
        refine Ex'.blockNormal ?_
        refine Ex'.next ?_
        refine Cd.region rfl ?_
        refine Sq.vals [0] (rest := [1, 2]) [iV (k : Int)] (fun w => by kernel_rfl) ?_
        refine Sq.v (r := iV ((k + 1 : Nat) : Int)) (o_add (k := .i64) (a := (k : Int)) (b := 1) (c := ((k + 1 : Nat) : Int)) (by kernel_rfl) (by kernel_rfl) (w64 (by omega) (by omega))) rfl (by kernel_rfl) ?_
        refine Sq.vals [2] (rest := []) [iV ((k + 1 : Nat) : Int)] (fun w => by kernel_rfl) ?_
        refine Sq.done ?_
        refine Ex'.round (g := (k, M0, S0, bys0, n0, q0, .slice a7 m0.length c8, m0)) (k + 1, M1, S1, bys1, n1, q1, .slice a47 m1.length c48, m1) ?_ ?_ (subB_eq (l := [0, 3, 5, 4]) (by kernel_rfl)) (fun w hw => hw.pickB [0, 1, 2, 3, 5] (by kernel_rfl) (by kernel_rfl) (by kernel_rfl))
        · (try dsimp only); exact ⟨by omega, hP1, by omega, by omega⟩
        · omega
    ·
      refine Cd.exit ?_
      refine Ex'.thenExit ?_
      refine Ex'.thenExit ?_
      refine Ex'.blockHit ?_
      refine Ex'.next ?_
      refine Cd.seq ?_
      refine Cd.region rfl ?_
      refine Sq.vals [0] (rest := []) [bV true] (fun w => by kernel_rfl) ?_
      refine Sq.done ?_
      refine Ex'.next ?_
      refine Cd.ret ?_
      refine Ex'.ret Tryd.results6 (RVs.tmp (v := bV true) (by kernel_rfl) (RVs.nil)) (fun w hw => ?_)
      exact ⟨_, ⟨rfl, by kernel_rfl⟩, hw⟩

theorem valuePlays_walk (v : Value) (ys : List VAct) (w : World) (h : Cells w (fun k => k < w.heap.size) v ys.length 5 (ys.flatMap VAct.cells)) (hg : errT w) :
    Calls Tryd.prog 6 #[v] w fun e w' => e = .returned (.bool true) ∧ Below w.heap.size w w' := by
  obtain ⟨a, cap, rfl, hl⟩ := RecsIn.shape (vscr_of h)
  exact law_of (valuePlays_tri hg (by omega) (vscr_of h))

end Go.Proofs.YtnijaeipkbpibaaDoor
