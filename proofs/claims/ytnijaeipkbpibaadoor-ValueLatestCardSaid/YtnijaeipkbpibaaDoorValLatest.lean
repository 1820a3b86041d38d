/- ValueLatest: its walk. -/
import Derived.Test.YtnijaeipkbpibaaDoorValW
import Derived.Test.YtnijaeipkbpibaaDoorErrsW
import Derived.Test.YtnijaeipkbpibaaDoorRefS
import Derived.Test.YtnijaeipkbpibaaDoorSepH
import Derived.Test.YtnijaeipkbpibaaDoorValPureB
import Derived.Test.YtnijaeipkbpibaaDoorValAwake
import Derived.Test.YtnijaeipkbpibaaDoorActsV
import Derived.Test.YtnijaeipkbpibaaDoorValEq
set_option linter.unusedVariables false
namespace Go.Proofs.YtnijaeipkbpibaaDoor
open Go.RowKit Go.MapKept

set_option maxHeartbeats 8000000 in
set_option maxRecDepth 100000 in
theorem valueLatest_tri {w0 : World} {a : Option Addr} {cap : Nat} {xs : List Act5} {xk xv ot : ByteArray} {xd nw : Int} (hg : errT w0) (hxd : -9223372036854775808 ≤ xd ∧ xd ≤ 9223372036854775807) (hnw0 : -9223372036854775808 ≤ nw ∧ nw ≤ 9223372036854775807) (hl : xs.length ≤ 9223372036854775807) (hs : VScr w0 (.slice a xs.length cap) xs) : Tri Tryd.prog 3 #[.slice a xs.length cap, .agg #[sV xk, sV xv, iV xd], sV ot, iV nw] [oldR w0] (LawP w0) := by
  refine Tri.enter (args := [.slice a xs.length cap, .agg #[sV xk, sV xv, iV xd], sV ot, iV nw]) Tryd.func3 rfl rfl rfl (fun B wz => ?_)
  refine Cd.seq ?_
  refine Cd.region rfl ?_
  refine Sq.ex [] (l := []) (o_newBox (v := .agg #[sV xk, sV xv, iV xd]) [sV xk, sV xv, iV xd] (by kernel_rfl) rfl) (by kernel_rfl) rfl (by kernel_rfl) (fun _ => Nat.zero_le _) ?_; intro b3 _
  refine Sq.vals [1] (rest := []) [bV false] (fun w => by kernel_rfl) ?_
  refine Sq.done ?_
  refine Ex'.next ?_
  refine Cd.seq ?_
  refine Cd.seq ?_
  refine Cd.region rfl ?_
  refine Sq.same [0] (l := [oldR w0]) (o_call (by kernel_rfl) Tryd.call8 (val_awake hg)) (by kernel_rfl) rfl (by kernel_rfl) rfl ?_
  refine Sq.vals [1] (rest := []) [bV false] (fun w => by kernel_rfl) ?_
  refine Sq.done ?_
  refine Ex'.next ?_
  refine Cd.condF (by kernel_rfl) ?_
  refine Cd.skip ?_
  refine Ex'.next ?_
  refine Cd.seq ?_
  refine Cd.seq ?_
  refine Cd.region rfl ?_
  refine Sq.vals [0] (rest := [1, 2, 3, 4, 5, 6, 7, 8, 9, 10, 11, 12, 13, 14, 15, 16, 17, 18, 19, 20, 21, 22, 23, 24, 25]) [.slice a xs.length cap] (fun w => by kernel_rfl) ?_
  refine Sq.ex [0] (l := [oldR w0]) (o_call (by kernel_rfl) Tryd.call9 (t_few hl hs)) (by kernel_rfl) rfl (by kernel_rfl) (fun _ => Nat.le_of_ble_eq_true (by kernel_rfl)) ?_; rintro fb4 hfew
  refine Sq.vals [2, 3] (rest := [4, 5, 6, 7, 8, 9, 10, 11, 12, 13, 14, 15, 16, 17, 18, 19, 20, 21, 22, 23, 24, 25]) [bV (!fb4), bV (!fb4)] (fun w => by kernel_rfl) ?_
  refine Sq.caseB 31 (t := (!fb4)) rfl (fun h5 => ?_) (fun h5 => ?_)
  ·
    refine Sq.vals [4, 5, 6, 7, 8, 9, 10, 11, 12, 13, 14, 15, 16, 17, 18, 19, 20, 21, 22, 23, 24, 25] (rest := []) [undef, undef, undef, undef, bV true, bV true, undef, undef, undef, undef, bV true, bV true, undef, undef, undef, bV true, bV true, undef, undef, undef, undef, bV true] (fun w => by kernel_rfl) ?_
    refine Sq.done ?_
    refine Ex'.next ?_
    refine Cd.condT (by kernel_rfl) ?_
    refine Cd.seq ?_
    refine Cd.region rfl ?_
    refine Sq.vals [0] (rest := []) [bV true] (fun w => by kernel_rfl) ?_
    refine Sq.done ?_
    refine Ex'.next ?_
    refine Cd.ret ?_
    refine Ex'.thenRet ?_
    refine Ex'.ret Tryd.results3 (RVs.tmp (v := bV true) (by kernel_rfl) (RVs.nil)) (fun w hw => ?_)
    exact ⟨_, ⟨rfl, by kernel_rfl⟩, hw⟩
  ·
    have hf1 : xs.length ≤ 150 := hfew (by simpa using h5)
    refine Sq.vals [4] (rest := [5, 6, 7, 8, 9, 10, 11, 12, 13, 14, 15, 16, 17, 18, 19, 20, 21, 22, 23, 24, 25]) [pV b3 0] (fun w => by kernel_rfl) ?_
    refine Sq.same [1] (l := [blkR b3 [sV xk, sV xv, iV xd] 24]) (o_load (i := 0) (v := sV xk) (by kernel_rfl) (by kernel_rfl) (by kernel_rfl)) (by kernel_rfl) rfl (by kernel_rfl) rfl ?_
    refine Sq.vals [6, 7, 8, 9] (rest := [10, 11, 12, 13, 14, 15, 16, 17, 18, 19, 20, 21, 22, 23, 24, 25]) [iV (xk.size : Int), bV (decide ((xk.size : Int) > 300)), bV (decide ((xk.size : Int) > 300)), bV (decide ((xk.size : Int) > 300))] (fun w => by kernel_rfl) ?_
    refine Sq.case 37 (p := (xk.size : Int) > 300) rfl (fun h6 => ?_) (fun h6 => ?_)
    ·
      refine Sq.vals [10, 11, 12, 13, 14, 15, 16, 17, 18, 19, 20, 21, 22, 23, 24, 25] (rest := []) [undef, undef, undef, undef, bV true, bV true, undef, undef, undef, bV true, bV true, undef, undef, undef, undef, bV true] (fun w => by kernel_rfl) ?_
      refine Sq.done ?_
      refine Ex'.next ?_
      refine Cd.condT (by kernel_rfl) ?_
      refine Cd.seq ?_
      refine Cd.region rfl ?_
      refine Sq.vals [0] (rest := []) [bV true] (fun w => by kernel_rfl) ?_
      refine Sq.done ?_
      refine Ex'.next ?_
      refine Cd.ret ?_
      refine Ex'.thenRet ?_
      refine Ex'.ret Tryd.results3 (RVs.tmp (v := bV true) (by kernel_rfl) (RVs.nil)) (fun w hw => ?_)
      exact ⟨_, ⟨rfl, by kernel_rfl⟩, hw⟩
    ·
      refine Sq.vals [10] (rest := [11, 12, 13, 14, 15, 16, 17, 18, 19, 20, 21, 22, 23, 24, 25]) [pV b3 1] (fun w => by kernel_rfl) ?_
      refine Sq.same [1] (l := [blkR b3 [sV xk, sV xv, iV xd] 24]) (o_load (i := 1) (v := sV xv) (by kernel_rfl) (by kernel_rfl) (by kernel_rfl)) (by kernel_rfl) rfl (by kernel_rfl) rfl ?_
      refine Sq.vals [12, 13, 14, 15] (rest := [16, 17, 18, 19, 20, 21, 22, 23, 24, 25]) [iV (xv.size : Int), bV (decide ((xv.size : Int) > 600)), bV (decide ((xv.size : Int) > 600)), bV (decide ((xv.size : Int) > 600))] (fun w => by kernel_rfl) ?_
      refine Sq.case 43 (p := (xv.size : Int) > 600) rfl (fun h7 => ?_) (fun h7 => ?_)
      ·
        refine Sq.vals [16, 17, 18, 19, 20, 21, 22, 23, 24, 25] (rest := []) [undef, undef, undef, bV true, bV true, undef, undef, undef, undef, bV true] (fun w => by kernel_rfl) ?_
        refine Sq.done ?_
        refine Ex'.next ?_
        refine Cd.condT (by kernel_rfl) ?_
        refine Cd.seq ?_
        refine Cd.region rfl ?_
        refine Sq.vals [0] (rest := []) [bV true] (fun w => by kernel_rfl) ?_
        refine Sq.done ?_
        refine Ex'.next ?_
        refine Cd.ret ?_
        refine Ex'.thenRet ?_
        refine Ex'.ret Tryd.results3 (RVs.tmp (v := bV true) (by kernel_rfl) (RVs.nil)) (fun w hw => ?_)
        exact ⟨_, ⟨rfl, by kernel_rfl⟩, hw⟩
      ·
        refine Sq.vals [16, 17, 18, 19, 20] (rest := [21, 22, 23, 24, 25]) [sV ot, iV (ot.size : Int), bV (decide ((ot.size : Int) > 300)), bV (decide ((ot.size : Int) > 300)), bV (decide ((ot.size : Int) > 300))] (fun w => by kernel_rfl) ?_
        refine Sq.case 48 (p := (ot.size : Int) > 300) rfl (fun h8 => ?_) (fun h8 => ?_)
        ·
          refine Sq.vals [21, 22, 23, 24, 25] (rest := []) [undef, undef, undef, undef, bV true] (fun w => by kernel_rfl) ?_
          refine Sq.done ?_
          refine Ex'.next ?_
          refine Cd.condT (by kernel_rfl) ?_
          refine Cd.seq ?_
          refine Cd.region rfl ?_
          refine Sq.vals [0] (rest := []) [bV true] (fun w => by kernel_rfl) ?_
          refine Sq.done ?_
          refine Ex'.next ?_
          refine Cd.ret ?_
          refine Ex'.thenRet ?_
          refine Ex'.ret Tryd.results3 (RVs.tmp (v := bV true) (by kernel_rfl) (RVs.nil)) (fun w hw => ?_)
          exact ⟨_, ⟨rfl, by kernel_rfl⟩, hw⟩
        ·
          refine Sq.vals [21, 22] (rest := [23, 24, 25]) [sV ot, pV b3 0] (fun w => by kernel_rfl) ?_
          refine Sq.same [1] (l := [blkR b3 [sV xk, sV xv, iV xd] 24]) (o_load (i := 0) (v := sV xk) (by kernel_rfl) (by kernel_rfl) (by kernel_rfl)) (by kernel_rfl) rfl (by kernel_rfl) rfl ?_
          refine Sq.v (r := bV (decide (ot = xk))) (o_eqS (a := ot) (b := xk) (by kernel_rfl) (by kernel_rfl)) rfl (by kernel_rfl) ?_
          refine Sq.vals [25] (rest := []) [bV (decide (ot = xk))] (fun w => by kernel_rfl) ?_
          refine Sq.done ?_
          refine Ex'.next ?_
          refine Cd.case (p := ot = xk) (by kernel_rfl) (fun h9 => ?_) (fun h9 => ?_)
          ·
            refine Cd.seq ?_
            refine Cd.region rfl ?_
            refine Sq.vals [0] (rest := []) [bV true] (fun w => by kernel_rfl) ?_
            refine Sq.done ?_
            refine Ex'.next ?_
            refine Cd.ret ?_
            refine Ex'.thenRet ?_
            refine Ex'.ret Tryd.results3 (RVs.tmp (v := bV true) (by kernel_rfl) (RVs.nil)) (fun w hw => ?_)
            exact ⟨_, ⟨rfl, by kernel_rfl⟩, hw⟩
          ·
            have hne : ot ≠ xk := h9
            refine Cd.skip ?_
            refine Ex'.next ?_
            refine Cd.seq ?_
            refine Cd.region rfl ?_
            refine Sq.ex [] (l := []) (o_call (by kernel_rfl) Tryd.call10 (Tri.ex (L' := fun x => valL x.1 x.2.1 x.2.2 ([] : List (ByteArray × ByteArray × ByteArray × Int)) ([] : List (KR ByteArray)) 0 0) (val_New) (fun x => rfl))) (by kernel_rfl) rfl (by kernel_rfl) (fun _ => Nat.le_of_ble_eq_true (by kernel_rfl)) ?_; rintro ⟨b10, mb11, qb12⟩ _
            refine Sq.vals [1] (rest := []) [pV b10 0] (fun w => by kernel_rfl) ?_
            refine Sq.done ?_
            refine Ex'.next ?_
            refine Cd.seq ?_
            refine Cd.seq ?_
            refine Cd.region rfl ?_
            refine Sq.vals [0, 1] (rest := []) [pV b10 0, bV false] (fun w => by kernel_rfl) ?_
            refine Sq.done ?_
            refine Ex'.next ?_
            refine Cd.condF (by kernel_rfl) ?_
            refine Cd.skip ?_
            refine Ex'.next ?_
            refine Cd.seq ?_
            refine Cd.seq ?_
            refine Cd.region rfl ?_
            refine Sq.vals [0] (rest := []) [iV 0] (fun w => by kernel_rfl) ?_
            refine Sq.done ?_
            refine Ex'.next ?_
            refine Cd.block ?_
            refine Cd.loop (ι := Nat × (List (ByteArray × ByteArray × ByteArray × Int)) × (List (KR ByteArray)) × Int × Nat) (fun ⟨k, M0, S0, bys0, n0⟩ => k ≤ xs.length ∧ VL M0 bys0 k ∧ n0 ≤ k) (fun ⟨k, M0, S0, bys0, n0⟩ => xs.length - k) (fun ⟨k, M0, S0, bys0, n0⟩ => [(0, .slice a xs.length cap), (2, sV ot), (3, iV nw), (5, pV b3 0), (8, bV false), (9, pV b10 0), (10, iV (k : Int))]) (fun ⟨k, M0, S0, bys0, n0⟩ => [oldR w0, blkR b3 [sV xk, sV xv, iV xd] 24, valB b10 mb11 qb12 bys0, mapR Value.string itV mb11 M0, hpS qb12 S0 n0]) (0, ([] : List (ByteArray × ByteArray × ByteArray × Int)), ([] : List (KR ByteArray)), 0, 0) (⟨Nat.zero_le _, VL.new, Nat.le_refl _⟩) (subB_eq (l := [0, 2, 3, 5, 8, 9, 10]) (by kernel_rfl)) (fun w hw => hw.pickB [0, 1, 2, 3, 4] (by kernel_rfl) (by kernel_rfl) (by kernel_rfl)) ?_
            rintro ⟨k, M0, S0, bys0, n0⟩ hL13
            try dsimp only at hL13 ⊢
            obtain ⟨hk, hV, hn⟩ := hL13
            have hVi := hV.it; have hV0 := hV.b0; have hV1 := hV.b1
            refine Cd.seq ?_
            refine Cd.seq ?_
            refine Cd.region rfl ?_
            refine Sq.vals [0, 1, 2, 3] (rest := []) [iV (k : Int), .slice a xs.length cap, iV (xs.length : Int), bV (decide ((k : Int) < (xs.length : Int)))] (fun w => by kernel_rfl) ?_
            refine Sq.done ?_
            refine Ex'.next ?_
            refine Cd.case (p := (k : Int) < (xs.length : Int)) (by kernel_rfl) (fun h14 => ?_) (fun h14 => ?_)
            ·
              obtain ⟨g15, off16, rfl⟩ := hs.addr (by omega)
              obtain ⟨kdk, kyk, txk, dlk, nwk, hgk, hwk, hrk⟩ := hs.at (k := k) (by omega)
              refine Cd.skip ?_
              refine Ex'.next ?_
              refine Cd.seq ?_
              refine Cd.block ?_
              refine Cd.region rfl ?_
              refine Sq.vals [0, 1, 2] (rest := [3, 4, 5, 6]) [pV b10 0, .slice (some ⟨g15, off16, none⟩) xs.length cap, iV (k : Int)] (fun w => by kernel_rfl) ?_
              refine Sq.v (r := pV g15 (off16 + k * 5)) (o_idx (b := g15) (cap := cap) (e := 33) (off := off16) (n := xs.length) (kd := .i64) (q := (k : Int)) (i := k) (size := 5) (j := off16 + k * 5) (by kernel_rfl) (by kernel_rfl) (by rfl) (by omega) Tryd.underlying22 (by kernel_rfl) (by omega)) rfl (by kernel_rfl) ?_
              refine Sq.vals [4] (rest := [5, 6]) [pV g15 (off16 + k * 5 + 1)] (fun w => by kernel_rfl) ?_
              refine Sq.same [0] (l := [oldR w0]) (o_loadOldN (b := g15) (j := off16 + k * 5 + 1) [sV kyk, sV txk, iV dlk] (by kernel_rfl) (by kernel_rfl) (range_sub hrk 1 3)) (by kernel_rfl) rfl (by kernel_rfl) rfl ?_
              by_cases h17 : rightC kyk txk dlk = 0
              ·
                refine Sq.same [2, 3, 4] (l := valL b10 mb11 qb12 M0 S0 bys0 n0) (o_call (by kernel_rfl) Tryd.call11 (val_PutOk (n := n0) (n' := n0 + 1) (M := M0) (S := S0) (bys := bys0) kyk txk dlk (by omega) (by omega) (by omega) (by first | assumption | exact hi.del _ | (unfold ItB; decide)) (by exact h17))) (by kernel_rfl) rfl (by kernel_rfl) rfl ?_
                generalize hxx18 : valPut M0 S0 bys0 kyk txk dlk = x18
                have hV2 : VL x18.1 x18.2.2 (k + 1) := by rw [← hxx18]; exact hV.put h17
                refine Sq.done ?_
                refine Ex'.blockNormal ?_
                refine Ex'.next ?_
                refine Cd.region rfl ?_
                refine Sq.vals [0] (rest := [1, 2]) [iV (k : Int)] (fun w => by kernel_rfl) ?_
                refine Sq.v (r := iV ((k : Int) + 1)) (o_add (k := .i64) (a := (k : Int)) (b := 1) (c := (k : Int) + 1) (by kernel_rfl) (by kernel_rfl) (w64 rfl (by omega))) rfl (by kernel_rfl) ?_
                refine Sq.vals [2] (rest := []) [iV ((k : Int) + 1)] (fun w => by kernel_rfl) ?_
                refine Sq.done ?_
                refine Ex'.round (g := (k, M0, S0, bys0, n0)) (k + 1, x18.1, x18.2.1, x18.2.2, n0 + 1) ?_ ?_ (subB_eq (l := [0, 2, 3, 5, 8, 9, 10]) (by kernel_rfl)) (fun w hw => hw.pickB [0, 1, 2, 3, 4] (by kernel_rfl) (by kernel_rfl) (by kernel_rfl))
                · (try dsimp only); exact ⟨by omega, hV2, by omega⟩
                · omega
              ·
                refine Sq.ex [2, 3, 4] (l := [valB b10 mb11 qb12 bys0, mapR Value.string itV mb11 M0, hpS qb12 S0 n0]) (o_call (by kernel_rfl) Tryd.call11 (val_PutBad (n := n0) (M := M0) (S := S0) (bys := bys0) kyk txk dlk h17)) (by kernel_rfl) rfl (by kernel_rfl) (fun _ => Nat.le_of_ble_eq_true (by kernel_rfl)) ?_; rintro b19 _
                refine Sq.done ?_
                refine Ex'.blockNormal ?_
                refine Ex'.next ?_
                refine Cd.region rfl ?_
                refine Sq.vals [0] (rest := [1, 2]) [iV (k : Int)] (fun w => by kernel_rfl) ?_
                refine Sq.v (r := iV ((k : Int) + 1)) (o_add (k := .i64) (a := (k : Int)) (b := 1) (c := (k : Int) + 1) (by kernel_rfl) (by kernel_rfl) (w64 rfl (by omega))) rfl (by kernel_rfl) ?_
                refine Sq.vals [2] (rest := []) [iV ((k : Int) + 1)] (fun w => by kernel_rfl) ?_
                refine Sq.done ?_
                refine Ex'.round (g := (k, M0, S0, bys0, n0)) (k + 1, M0, S0, bys0, n0) ?_ ?_ (subB_eq (l := [0, 2, 3, 5, 8, 9, 10]) (by kernel_rfl)) (fun w hw => hw.pickB [0, 1, 2, 3, 4] (by kernel_rfl) (by kernel_rfl) (by kernel_rfl))
                · (try dsimp only); exact ⟨by omega, hV.up, by omega⟩
                · omega
            ·
              refine Cd.exit ?_
              refine Ex'.thenExit ?_
              refine Ex'.thenExit ?_
              refine Ex'.blockHit ?_
              refine Ex'.next ?_
              refine Cd.seq ?_
              refine Cd.region rfl ?_
              refine Sq.vals [0, 1, 2] (rest := [3, 4, 5, 6, 7, 8, 9]) [pV b10 0, sV ot, iV nw] (fun w => by kernel_rfl) ?_
              by_cases h20 : getOk M0 ot nw
              ·
                refine Sq.same [2, 3, 4] (l := [valB b10 mb11 qb12 bys0, mapR Value.string itV mb11 M0, hpS qb12 S0 n0]) (o_call (by kernel_rfl) Tryd.call12 (val_GetOk (n := n0) (M := M0) (S := S0) (bys := bys0) ot nw h20)) (by kernel_rfl) rfl (by kernel_rfl) rfl ?_
                refine Sq.vals [4, 5, 6] (rest := [7, 8, 9]) [.tuple #[.agg #[sV (((lk M0 ot).getD ((⟨#[]⟩, ⟨#[]⟩, 0) : ByteArray × ByteArray × Int)).1), sV (((lk M0 ot).getD ((⟨#[]⟩, ⟨#[]⟩, 0) : ByteArray × ByteArray × Int)).2.1), iV (((lk M0 ot).getD ((⟨#[]⟩, ⟨#[]⟩, 0) : ByteArray × ByteArray × Int)).2.2)], .nilIface], .agg #[sV (((lk M0 ot).getD ((⟨#[]⟩, ⟨#[]⟩, 0) : ByteArray × ByteArray × Int)).1), sV (((lk M0 ot).getD ((⟨#[]⟩, ⟨#[]⟩, 0) : ByteArray × ByteArray × Int)).2.1), iV (((lk M0 ot).getD ((⟨#[]⟩, ⟨#[]⟩, 0) : ByteArray × ByteArray × Int)).2.2)], .nilIface] (fun w => by kernel_rfl) ?_
                refine Sq.ex [] (l := []) (o_new [sV ⟨#[]⟩, sV ⟨#[]⟩, iV 0] (fun w => by kernel_rfl)) (by kernel_rfl) rfl (by kernel_rfl) (fun _ => Nat.zero_le _) ?_; intro b21 _
                refine Sq.same [5] (l := [blkR b21 [sV ⟨#[]⟩, sV ⟨#[]⟩, iV 0] 24]) (o_store (i := 0) (v := .agg #[sV (((lk M0 ot).getD ((⟨#[]⟩, ⟨#[]⟩, 0) : ByteArray × ByteArray × Int)).1), sV (((lk M0 ot).getD ((⟨#[]⟩, ⟨#[]⟩, 0) : ByteArray × ByteArray × Int)).2.1), iV (((lk M0 ot).getD ((⟨#[]⟩, ⟨#[]⟩, 0) : ByteArray × ByteArray × Int)).2.2)]) (by kernel_rfl) (by kernel_rfl) (by kernel_rfl) (by kernel_rfl) (by kernel_rfl)) (by kernel_rfl) rfl (by kernel_rfl) rfl ?_
                refine Sq.vals [9] (rest := []) [.nilIface] (fun w => by kernel_rfl) ?_
                refine Sq.done ?_
                refine Ex'.next ?_
                refine Cd.seq ?_
                refine Cd.region rfl ?_
                refine Sq.vals [0] (rest := [1, 2]) [pV b10 0] (fun w => by kernel_rfl) ?_
                refine Sq.same [2, 3, 4] (l := valL b10 mb11 qb12 M0 S0 bys0 n0) (o_call (by kernel_rfl) Tryd.call13 (val_Len (n := n0) (M := M0) (S := S0) (bys := bys0) (by omega))) (by kernel_rfl) rfl (by kernel_rfl) rfl ?_
                refine Sq.vals [2] (rest := []) [iV (valLen M0 S0 bys0)] (fun w => by kernel_rfl) ?_
                refine Sq.done ?_
                refine Ex'.next ?_
                refine Cd.seq ?_
                refine Cd.seq ?_
                refine Cd.region rfl ?_
                refine Sq.vals [0] (rest := [1, 2, 3]) [pV b10 0] (fun w => by kernel_rfl) ?_
                refine Sq.same [1] (l := [blkR b3 [sV xk, sV xv, iV xd] 24]) (o_loadN (i := 0) [sV xk, sV xv, iV xd] (by kernel_rfl) (by kernel_rfl) (by kernel_rfl)) (by kernel_rfl) rfl (by kernel_rfl) rfl ?_
                by_cases h22 : rightC xk xv xd = 0
                ·
                  refine Sq.same [2, 3, 4] (l := valL b10 mb11 qb12 M0 S0 bys0 n0) (o_call (by kernel_rfl) Tryd.call11 (val_PutOk (n := n0) (n' := n0 + 1) (M := M0) (S := S0) (bys := bys0) xk xv xd (by omega) (by omega) (by omega) (by first | assumption | exact hi.del _ | (unfold ItB; decide)) (by exact h22))) (by kernel_rfl) rfl (by kernel_rfl) rfl ?_
                  generalize hxx23 : valPut M0 S0 bys0 xk xv xd = x23
                  have hP : VL x23.1 x23.2.2 (k + 1) := by rw [← hxx23]; exact hV.put h22
                  have hlk : lk x23.1 xk = some (xk, xv, xd) := by rw [← hxx23]; exact valPut_lk
                  have hot : lk x23.1 ot = lk M0 ot := by rw [← hxx23]; exact valPut_ne hne
                  have hPi := hP.it; have hP0 := hP.b0; have hP1 := hP.b1
                  have hot2 : lk (del x23.1 xk) ot = lk M0 ot := by rw [lk_del_ne hne]; exact hot
                  have hin : (lk x23.1 xk).isSome = true := by rw [hlk]; rfl
                  refine Sq.vals [3] (rest := []) [bV false] (fun w => by kernel_rfl) ?_
                  refine Sq.done ?_
                  refine Ex'.next ?_
                  refine Cd.condF (by kernel_rfl) ?_
                  refine Cd.skip ?_
                  refine Ex'.next ?_
                  refine Cd.seq ?_
                  refine Cd.region rfl ?_
                  refine Sq.vals [0, 1] (rest := [2, 3, 4, 5, 6, 7, 8, 9, 10]) [pV b10 0, pV b3 0] (fun w => by kernel_rfl) ?_
                  refine Sq.same [1] (l := [blkR b3 [sV xk, sV xv, iV xd] 24]) (o_load (i := 0) (v := sV xk) (by kernel_rfl) (by kernel_rfl) (by kernel_rfl)) (by kernel_rfl) rfl (by kernel_rfl) rfl ?_
                  refine Sq.vals [3] (rest := [4, 5, 6, 7, 8, 9, 10]) [iV nw] (fun w => by kernel_rfl) ?_
                  by_cases h24 : getOk x23.1 xk nw
                  ·
                    have hgx : xd ≤ 0 ∨ nw < xd := (getOk_of hlk).1 h24
                    refine Sq.same [2, 3, 4] (l := [valB b10 mb11 qb12 x23.2.2, mapR Value.string itV mb11 x23.1, hpS qb12 x23.2.1 (n0 + 1)]) (o_call (by kernel_rfl) Tryd.call12 (val_GetOk (n := n0 + 1) (M := x23.1) (S := x23.2.1) (bys := x23.2.2) xk nw h24)) (by kernel_rfl) rfl (by kernel_rfl) rfl ?_
                    refine Sq.vals [5, 6, 7] (rest := [8, 9, 10]) [.tuple #[.agg #[sV (((lk x23.1 xk).getD ((⟨#[]⟩, ⟨#[]⟩, 0) : ByteArray × ByteArray × Int)).1), sV (((lk x23.1 xk).getD ((⟨#[]⟩, ⟨#[]⟩, 0) : ByteArray × ByteArray × Int)).2.1), iV (((lk x23.1 xk).getD ((⟨#[]⟩, ⟨#[]⟩, 0) : ByteArray × ByteArray × Int)).2.2)], .nilIface], .agg #[sV (((lk x23.1 xk).getD ((⟨#[]⟩, ⟨#[]⟩, 0) : ByteArray × ByteArray × Int)).1), sV (((lk x23.1 xk).getD ((⟨#[]⟩, ⟨#[]⟩, 0) : ByteArray × ByteArray × Int)).2.1), iV (((lk x23.1 xk).getD ((⟨#[]⟩, ⟨#[]⟩, 0) : ByteArray × ByteArray × Int)).2.2)], .nilIface] (fun w => by kernel_rfl) ?_
                    refine Sq.ex [] (l := []) (o_new [sV ⟨#[]⟩, sV ⟨#[]⟩, iV 0] (fun w => by kernel_rfl)) (by kernel_rfl) rfl (by kernel_rfl) (fun _ => Nat.zero_le _) ?_; intro b25 _
                    refine Sq.same [6] (l := [blkR b25 [sV ⟨#[]⟩, sV ⟨#[]⟩, iV 0] 24]) (o_store (i := 0) (v := .agg #[sV (((lk x23.1 xk).getD ((⟨#[]⟩, ⟨#[]⟩, 0) : ByteArray × ByteArray × Int)).1), sV (((lk x23.1 xk).getD ((⟨#[]⟩, ⟨#[]⟩, 0) : ByteArray × ByteArray × Int)).2.1), iV (((lk x23.1 xk).getD ((⟨#[]⟩, ⟨#[]⟩, 0) : ByteArray × ByteArray × Int)).2.2)]) (by kernel_rfl) (by kernel_rfl) (by kernel_rfl) (by kernel_rfl) (by kernel_rfl)) (by kernel_rfl) rfl (by kernel_rfl) rfl ?_
                    refine Sq.vals [10] (rest := []) [.nilIface] (fun w => by kernel_rfl) ?_
                    refine Sq.done ?_
                    refine Ex'.next ?_
                    refine Cd.seq ?_
                    refine Cd.region rfl ?_
                    refine Sq.vals [0] (rest := [1, 2, 3, 4, 5, 6, 7, 8, 9]) [pV b3 2] (fun w => by kernel_rfl) ?_
                    refine Sq.same [1] (l := [blkR b3 [sV xk, sV xv, iV xd] 24]) (o_load (i := 2) (v := iV xd) (by kernel_rfl) (by kernel_rfl) (by kernel_rfl)) (by kernel_rfl) rfl (by kernel_rfl) rfl ?_
                    refine Sq.vals [2, 3] (rest := [4, 5, 6, 7, 8, 9]) [bV (decide (xd > 0)), bV (decide (xd > 0))] (fun w => by kernel_rfl) ?_
                    refine Sq.case 116 (p := xd > 0) rfl (fun h26 => ?_) (fun h26 => ?_)
                    ·
                      refine Sq.vals [4] (rest := [5, 6, 7, 8, 9]) [pV b3 2] (fun w => by kernel_rfl) ?_
                      refine Sq.same [1] (l := [blkR b3 [sV xk, sV xv, iV xd] 24]) (o_load (i := 2) (v := iV xd) (by kernel_rfl) (by kernel_rfl) (by kernel_rfl)) (by kernel_rfl) rfl (by kernel_rfl) rfl ?_
                      refine Sq.vals [6] (rest := [7, 8, 9]) [iV nw] (fun w => by kernel_rfl) ?_
                      refine Sq.v (r := bV (decide (xd ≤ nw))) (pureV (by kernel_rfl) rfl fun w => by kernel_rfl) rfl (by kernel_rfl) ?_
                      refine Sq.re 120 rfl (vF (by omega)) ?_
                      refine Sq.vals [8, 9] (rest := []) [bV false, bV false] (fun w => by kernel_rfl) ?_
                      refine Sq.done ?_
                      refine Ex'.next ?_
                      refine Cd.seq ?_
                      refine Cd.seq ?_
                      refine Cd.region rfl ?_
                      refine Sq.vals [0, 1, 2, 3, 4, 5, 6, 7] (rest := [8, 9, 10, 11, 12]) [.nilIface, bV false, bV false, bV false, bV false, bV false, bV true, bV true] (fun w => by kernel_rfl) ?_
                      refine Sq.same [6] (l := [blkR b25 [sV (((lk x23.1 xk).getD ((⟨#[]⟩, ⟨#[]⟩, 0) : ByteArray × ByteArray × Int)).1), sV (((lk x23.1 xk).getD ((⟨#[]⟩, ⟨#[]⟩, 0) : ByteArray × ByteArray × Int)).2.1), iV (((lk x23.1 xk).getD ((⟨#[]⟩, ⟨#[]⟩, 0) : ByteArray × ByteArray × Int)).2.2)] 24]) (o_loadN (i := 0) [sV (((lk x23.1 xk).getD ((⟨#[]⟩, ⟨#[]⟩, 0) : ByteArray × ByteArray × Int)).1), sV (((lk x23.1 xk).getD ((⟨#[]⟩, ⟨#[]⟩, 0) : ByteArray × ByteArray × Int)).2.1), iV (((lk x23.1 xk).getD ((⟨#[]⟩, ⟨#[]⟩, 0) : ByteArray × ByteArray × Int)).2.2)] (by kernel_rfl) (by kernel_rfl) (by kernel_rfl)) (by kernel_rfl) rfl (by kernel_rfl) rfl ?_
                      refine Sq.same [1] (l := [blkR b3 [sV xk, sV xv, iV xd] 24]) (o_loadN (i := 0) [sV xk, sV xv, iV xd] (by kernel_rfl) (by kernel_rfl) (by kernel_rfl)) (by kernel_rfl) rfl (by kernel_rfl) rfl ?_
                      refine Sq.v (r := bV (decide (¬ (((lk x23.1 xk).getD ((⟨#[]⟩, ⟨#[]⟩, 0) : ByteArray × ByteArray × Int)).1 = xk ∧ ((lk x23.1 xk).getD ((⟨#[]⟩, ⟨#[]⟩, 0) : ByteArray × ByteArray × Int)).2.1 = xv ∧ ((lk x23.1 xk).getD ((⟨#[]⟩, ⟨#[]⟩, 0) : ByteArray × ByteArray × Int)).2.2 = xd)))) (o_eqItem_ne (((lk x23.1 xk).getD ((⟨#[]⟩, ⟨#[]⟩, 0) : ByteArray × ByteArray × Int)).1) xk (((lk x23.1 xk).getD ((⟨#[]⟩, ⟨#[]⟩, 0) : ByteArray × ByteArray × Int)).2.1) xv (((lk x23.1 xk).getD ((⟨#[]⟩, ⟨#[]⟩, 0) : ByteArray × ByteArray × Int)).2.2) xd (by kernel_rfl) (by kernel_rfl)) rfl (by kernel_rfl) ?_
                      refine Sq.re 132 rfl (vF (show ¬ (¬ (((lk x23.1 xk).getD ((⟨#[]⟩, ⟨#[]⟩, 0) : ByteArray × ByteArray × Int)).1 = xk ∧ ((lk x23.1 xk).getD ((⟨#[]⟩, ⟨#[]⟩, 0) : ByteArray × ByteArray × Int)).2.1 = xv ∧ ((lk x23.1 xk).getD ((⟨#[]⟩, ⟨#[]⟩, 0) : ByteArray × ByteArray × Int)).2.2 = xd)) from fun z => z (by rw [hlk]; exact ⟨rfl, rfl, rfl⟩))) ?_
                      refine Sq.vals [11, 12] (rest := []) [bV false, bV false] (fun w => by kernel_rfl) ?_
                      refine Sq.done ?_
                      refine Ex'.next ?_
                      refine Cd.condF (by kernel_rfl) ?_
                      refine Cd.skip ?_
                      refine Ex'.next ?_
                      refine Cd.seq ?_
                      refine Cd.region rfl ?_
                      refine Sq.vals [0, 1, 2] (rest := [3, 4, 5, 6, 7, 8, 9]) [pV b10 0, sV ot, iV nw] (fun w => by kernel_rfl) ?_
                      refine Sq.same [2, 3, 4] (l := [valB b10 mb11 qb12 x23.2.2, mapR Value.string itV mb11 x23.1, hpS qb12 x23.2.1 (n0 + 1)]) (o_call (by kernel_rfl) Tryd.call12 (val_GetOk (n := n0 + 1) (M := x23.1) (S := x23.2.1) (bys := x23.2.2) ot nw ((getOk_congr hot).2 h20))) (by kernel_rfl) rfl (by kernel_rfl) rfl ?_
                      refine Sq.vals [4, 5, 6] (rest := [7, 8, 9]) [.tuple #[.agg #[sV (((lk x23.1 ot).getD ((⟨#[]⟩, ⟨#[]⟩, 0) : ByteArray × ByteArray × Int)).1), sV (((lk x23.1 ot).getD ((⟨#[]⟩, ⟨#[]⟩, 0) : ByteArray × ByteArray × Int)).2.1), iV (((lk x23.1 ot).getD ((⟨#[]⟩, ⟨#[]⟩, 0) : ByteArray × ByteArray × Int)).2.2)], .nilIface], .agg #[sV (((lk x23.1 ot).getD ((⟨#[]⟩, ⟨#[]⟩, 0) : ByteArray × ByteArray × Int)).1), sV (((lk x23.1 ot).getD ((⟨#[]⟩, ⟨#[]⟩, 0) : ByteArray × ByteArray × Int)).2.1), iV (((lk x23.1 ot).getD ((⟨#[]⟩, ⟨#[]⟩, 0) : ByteArray × ByteArray × Int)).2.2)], .nilIface] (fun w => by kernel_rfl) ?_
                      refine Sq.ex [] (l := []) (o_new [sV ⟨#[]⟩, sV ⟨#[]⟩, iV 0] (fun w => by kernel_rfl)) (by kernel_rfl) rfl (by kernel_rfl) (fun _ => Nat.zero_le _) ?_; intro b27 _
                      refine Sq.same [7] (l := [blkR b27 [sV ⟨#[]⟩, sV ⟨#[]⟩, iV 0] 24]) (o_store (i := 0) (v := .agg #[sV (((lk x23.1 ot).getD ((⟨#[]⟩, ⟨#[]⟩, 0) : ByteArray × ByteArray × Int)).1), sV (((lk x23.1 ot).getD ((⟨#[]⟩, ⟨#[]⟩, 0) : ByteArray × ByteArray × Int)).2.1), iV (((lk x23.1 ot).getD ((⟨#[]⟩, ⟨#[]⟩, 0) : ByteArray × ByteArray × Int)).2.2)]) (by kernel_rfl) (by kernel_rfl) (by kernel_rfl) (by kernel_rfl) (by kernel_rfl)) (by kernel_rfl) rfl (by kernel_rfl) rfl ?_
                      refine Sq.vals [9] (rest := []) [.nilIface] (fun w => by kernel_rfl) ?_
                      refine Sq.done ?_
                      refine Ex'.next ?_
                      refine Cd.seq ?_
                      refine Cd.seq ?_
                      refine Cd.plan [0, 0, 3, 7, 15, 31, 15, 79, 255, 511] [(0, [(7, false, 0)]), (1, [(5, false, 0)])] [] [] [] [fun g => .agg #[sV (((lk x23.1 ot).getD ((⟨#[]⟩, ⟨#[]⟩, 0) : ByteArray × ByteArray × Int)).1), sV (((lk x23.1 ot).getD ((⟨#[]⟩, ⟨#[]⟩, 0) : ByteArray × ByteArray × Int)).2.1), iV (((lk x23.1 ot).getD ((⟨#[]⟩, ⟨#[]⟩, 0) : ByteArray × ByteArray × Int)).2.2)], fun g => .agg #[sV (((lk M0 ot).getD ((⟨#[]⟩, ⟨#[]⟩, 0) : ByteArray × ByteArray × Int)).1), sV (((lk M0 ot).getD ((⟨#[]⟩, ⟨#[]⟩, 0) : ByteArray × ByteArray × Int)).2.1), iV (((lk M0 ot).getD ((⟨#[]⟩, ⟨#[]⟩, 0) : ByteArray × ByteArray × Int)).2.2)], fun g => bV false, fun g => bV false, fun g => .nilIface, fun g => bV true, fun g => .nilIface, fun g => bV true, fun g => bV false, fun g => bV false] (by kernel_rfl) (by kernel_rfl) rfl (trivial) ?_ ?_
                      · exact ⟨ob_s (l := fun g => [blkR b27 [sV (((lk x23.1 ot).getD ((⟨#[]⟩, ⟨#[]⟩, 0) : ByteArray × ByteArray × Int)).1), sV (((lk x23.1 ot).getD ((⟨#[]⟩, ⟨#[]⟩, 0) : ByteArray × ByteArray × Int)).2.1), iV (((lk x23.1 ot).getD ((⟨#[]⟩, ⟨#[]⟩, 0) : ByteArray × ByteArray × Int)).2.2)] 24]) (l' := fun g => [blkR b27 [sV (((lk x23.1 ot).getD ((⟨#[]⟩, ⟨#[]⟩, 0) : ByteArray × ByteArray × Int)).1), sV (((lk x23.1 ot).getD ((⟨#[]⟩, ⟨#[]⟩, 0) : ByteArray × ByteArray × Int)).2.1), iV (((lk x23.1 ot).getD ((⟨#[]⟩, ⟨#[]⟩, 0) : ByteArray × ByteArray × Int)).2.2)] 24]) (v := fun g => .agg #[sV (((lk x23.1 ot).getD ((⟨#[]⟩, ⟨#[]⟩, 0) : ByteArray × ByteArray × Int)).1), sV (((lk x23.1 ot).getD ((⟨#[]⟩, ⟨#[]⟩, 0) : ByteArray × ByteArray × Int)).2.1), iV (((lk x23.1 ot).getD ((⟨#[]⟩, ⟨#[]⟩, 0) : ByteArray × ByteArray × Int)).2.2)]) (fun g => o_loadN (i := 0) [sV (((lk x23.1 ot).getD ((⟨#[]⟩, ⟨#[]⟩, 0) : ByteArray × ByteArray × Int)).1), sV (((lk x23.1 ot).getD ((⟨#[]⟩, ⟨#[]⟩, 0) : ByteArray × ByteArray × Int)).2.1), iV (((lk x23.1 ot).getD ((⟨#[]⟩, ⟨#[]⟩, 0) : ByteArray × ByteArray × Int)).2.2)] (by kernel_rfl) (by kernel_rfl) (by kernel_rfl)) (fun g => by kernel_rfl), ob_s (l := fun g => [blkR b21 [sV (((lk M0 ot).getD ((⟨#[]⟩, ⟨#[]⟩, 0) : ByteArray × ByteArray × Int)).1), sV (((lk M0 ot).getD ((⟨#[]⟩, ⟨#[]⟩, 0) : ByteArray × ByteArray × Int)).2.1), iV (((lk M0 ot).getD ((⟨#[]⟩, ⟨#[]⟩, 0) : ByteArray × ByteArray × Int)).2.2)] 24]) (l' := fun g => [blkR b21 [sV (((lk M0 ot).getD ((⟨#[]⟩, ⟨#[]⟩, 0) : ByteArray × ByteArray × Int)).1), sV (((lk M0 ot).getD ((⟨#[]⟩, ⟨#[]⟩, 0) : ByteArray × ByteArray × Int)).2.1), iV (((lk M0 ot).getD ((⟨#[]⟩, ⟨#[]⟩, 0) : ByteArray × ByteArray × Int)).2.2)] 24]) (v := fun g => .agg #[sV (((lk M0 ot).getD ((⟨#[]⟩, ⟨#[]⟩, 0) : ByteArray × ByteArray × Int)).1), sV (((lk M0 ot).getD ((⟨#[]⟩, ⟨#[]⟩, 0) : ByteArray × ByteArray × Int)).2.1), iV (((lk M0 ot).getD ((⟨#[]⟩, ⟨#[]⟩, 0) : ByteArray × ByteArray × Int)).2.2)]) (fun g => o_loadN (i := 0) [sV (((lk M0 ot).getD ((⟨#[]⟩, ⟨#[]⟩, 0) : ByteArray × ByteArray × Int)).1), sV (((lk M0 ot).getD ((⟨#[]⟩, ⟨#[]⟩, 0) : ByteArray × ByteArray × Int)).2.1), iV (((lk M0 ot).getD ((⟨#[]⟩, ⟨#[]⟩, 0) : ByteArray × ByteArray × Int)).2.2)] (by kernel_rfl) (by kernel_rfl) (by kernel_rfl)) (fun g => by kernel_rfl), ob_v (v := fun g => bV false) (fun g => OprV.re (o_eqItem_ne (((lk x23.1 ot).getD ((⟨#[]⟩, ⟨#[]⟩, 0) : ByteArray × ByteArray × Int)).1) (((lk M0 ot).getD ((⟨#[]⟩, ⟨#[]⟩, 0) : ByteArray × ByteArray × Int)).1) (((lk x23.1 ot).getD ((⟨#[]⟩, ⟨#[]⟩, 0) : ByteArray × ByteArray × Int)).2.1) (((lk M0 ot).getD ((⟨#[]⟩, ⟨#[]⟩, 0) : ByteArray × ByteArray × Int)).2.1) (((lk x23.1 ot).getD ((⟨#[]⟩, ⟨#[]⟩, 0) : ByteArray × ByteArray × Int)).2.2) (((lk M0 ot).getD ((⟨#[]⟩, ⟨#[]⟩, 0) : ByteArray × ByteArray × Int)).2.2) (by kernel_rfl) (by kernel_rfl)) (vF (show ¬ (¬ (((lk x23.1 ot).getD ((⟨#[]⟩, ⟨#[]⟩, 0) : ByteArray × ByteArray × Int)).1 = ((lk M0 ot).getD ((⟨#[]⟩, ⟨#[]⟩, 0) : ByteArray × ByteArray × Int)).1 ∧ ((lk x23.1 ot).getD ((⟨#[]⟩, ⟨#[]⟩, 0) : ByteArray × ByteArray × Int)).2.1 = ((lk M0 ot).getD ((⟨#[]⟩, ⟨#[]⟩, 0) : ByteArray × ByteArray × Int)).2.1 ∧ ((lk x23.1 ot).getD ((⟨#[]⟩, ⟨#[]⟩, 0) : ByteArray × ByteArray × Int)).2.2 = ((lk M0 ot).getD ((⟨#[]⟩, ⟨#[]⟩, 0) : ByteArray × ByteArray × Int)).2.2)) from fun z => z (by rw [hot]; exact ⟨rfl, rfl, rfl⟩)))) (fun g => by kernel_rfl), ob_val fun g w => by kernel_rfl, ob_val fun g w => by kernel_rfl, ob_val fun g w => by kernel_rfl, ob_val fun g w => by kernel_rfl, ob_val fun g w => by kernel_rfl, ob_val fun g w => by kernel_rfl, ob_val fun g w => by kernel_rfl, trivial⟩
                      intro g
                      refine Ex'.sub (subB_spec [2, 3, 5, 8, 9, 11, 12, 151]) ?_
                      refine Ex'.as [0, 1, 2, 3, 4, 5, 6, 7] (σ' := [(2, sV ot), (3, iV nw), (5, pV b3 0), (8, bV false), (9, pV b10 0), (11, pV b21 0), (12, .nilIface), (151, bV false)]) (Γ' := [oldR w0, blkR b3 [sV xk, sV xv, iV xd] 24, valB b10 mb11 qb12 x23.2.2, mapR Value.string itV mb11 x23.1, hpS qb12 x23.2.1 (n0 + 1), blkR b21 [sV (((lk M0 ot).getD ((⟨#[]⟩, ⟨#[]⟩, 0) : ByteArray × ByteArray × Int)).1), sV (((lk M0 ot).getD ((⟨#[]⟩, ⟨#[]⟩, 0) : ByteArray × ByteArray × Int)).2.1), iV (((lk M0 ot).getD ((⟨#[]⟩, ⟨#[]⟩, 0) : ByteArray × ByteArray × Int)).2.2)] 24, blkR b25 [sV (((lk x23.1 xk).getD ((⟨#[]⟩, ⟨#[]⟩, 0) : ByteArray × ByteArray × Int)).1), sV (((lk x23.1 xk).getD ((⟨#[]⟩, ⟨#[]⟩, 0) : ByteArray × ByteArray × Int)).2.1), iV (((lk x23.1 xk).getD ((⟨#[]⟩, ⟨#[]⟩, 0) : ByteArray × ByteArray × Int)).2.2)] 24, blkR b27 [sV (((lk x23.1 ot).getD ((⟨#[]⟩, ⟨#[]⟩, 0) : ByteArray × ByteArray × Int)).1), sV (((lk x23.1 ot).getD ((⟨#[]⟩, ⟨#[]⟩, 0) : ByteArray × ByteArray × Int)).2.1), iV (((lk x23.1 ot).getD ((⟨#[]⟩, ⟨#[]⟩, 0) : ByteArray × ByteArray × Int)).2.2)] 24]) (by kernel_rfl) rfl (by kernel_rfl) (by kernel_rfl) ?_
                      refine Ex'.next ?_
                      refine Cd.condF (by kernel_rfl) ?_
                      refine Cd.skip ?_
                      refine Ex'.next ?_
                      refine Cd.seq ?_
                      refine Cd.region rfl ?_
                      refine Sq.vals [0, 1] (rest := [2, 3, 4]) [pV b10 0, pV b3 0] (fun w => by kernel_rfl) ?_
                      refine Sq.same [1] (l := [blkR b3 [sV xk, sV xv, iV xd] 24]) (o_load (i := 0) (v := sV xk) (by kernel_rfl) (by kernel_rfl) (by kernel_rfl)) (by kernel_rfl) rfl (by kernel_rfl) rfl ?_
                      refine Sq.same [2, 3, 4] (l := valL b10 mb11 qb12 x23.1 x23.2.1 x23.2.2 (n0 + 1)) (o_call (by kernel_rfl) Tryd.call14 (Tri.eq (l2 := valL b10 mb11 qb12 (del x23.1 xk) (hrem x23.2.1 xk) ((valDel x23.1 x23.2.1 x23.2.2 xk).2.2.1) (n0 + 1)) (r' := bV true) (val_Delete (n := n0 + 1) (M := x23.1) (S := x23.2.1) (bys := x23.2.2) xk (by omega) (by omega) (by first | assumption | exact hi.del _ | (unfold ItB; decide))) (by first | rw [valDel_in hin] | rfl) (by first | rw [valDel_in hin] | rfl))) (by kernel_rfl) rfl (by kernel_rfl) rfl ?_
                      refine Sq.vals [4] (rest := []) [bV true] (fun w => by kernel_rfl) ?_
                      refine Sq.done ?_
                      refine Ex'.next ?_
                      refine Cd.seq ?_
                      refine Cd.region rfl ?_
                      refine Sq.vals [0, 1] (rest := [2, 3, 4, 5, 6, 7, 8, 9, 10]) [pV b10 0, pV b3 0] (fun w => by kernel_rfl) ?_
                      refine Sq.same [1] (l := [blkR b3 [sV xk, sV xv, iV xd] 24]) (o_load (i := 0) (v := sV xk) (by kernel_rfl) (by kernel_rfl) (by kernel_rfl)) (by kernel_rfl) rfl (by kernel_rfl) rfl ?_
                      refine Sq.vals [3] (rest := [4, 5, 6, 7, 8, 9, 10]) [iV nw] (fun w => by kernel_rfl) ?_
                      refine Sq.ex [2, 3, 4] (l := [valB b10 mb11 qb12 ((valDel x23.1 x23.2.1 x23.2.2 xk).2.2.1), mapR Value.string itV mb11 (del x23.1 xk), hpS qb12 (hrem x23.2.1 xk) (n0 + 1)]) (o_call (by kernel_rfl) Tryd.call12 (val_GetBad (n := n0 + 1) (M := del x23.1 xk) (S := hrem x23.2.1 xk) (bys := (valDel x23.1 x23.2.1 x23.2.2 xk).2.2.1) xk nw (getOk_del hP.nd))) (by kernel_rfl) rfl (by kernel_rfl) (fun _ => Nat.le_of_ble_eq_true (by kernel_rfl)) ?_; rintro b28 _
                      refine Sq.vals [5, 6, 7] (rest := [8, 9, 10]) [.tuple #[.agg #[sV ⟨#[]⟩, sV ⟨#[]⟩, iV 0], .iface 83 (pV b28 0)], .agg #[sV ⟨#[]⟩, sV ⟨#[]⟩, iV 0], .iface 83 (pV b28 0)] (fun w => by kernel_rfl) ?_
                      refine Sq.ex [] (l := []) (o_new [sV ⟨#[]⟩, sV ⟨#[]⟩, iV 0] (fun w => by kernel_rfl)) (by kernel_rfl) rfl (by kernel_rfl) (fun _ => Nat.zero_le _) ?_; intro b29 _
                      refine Sq.same [9] (l := [blkR b29 [sV ⟨#[]⟩, sV ⟨#[]⟩, iV 0] 24]) (o_store (i := 0) (v := .agg #[sV ⟨#[]⟩, sV ⟨#[]⟩, iV 0]) (by kernel_rfl) (by kernel_rfl) (by kernel_rfl) (by kernel_rfl) (by kernel_rfl)) (by kernel_rfl) rfl (by kernel_rfl) rfl ?_
                      refine Sq.vals [10] (rest := []) [.iface 83 (pV b28 0)] (fun w => by kernel_rfl) ?_
                      refine Sq.done ?_
                      refine Ex'.next ?_
                      refine Cd.seq ?_
                      refine Cd.region rfl ?_
                      refine Sq.vals [0, 1, 2] (rest := [3, 4, 5, 6, 7, 8, 9]) [pV b10 0, sV ot, iV nw] (fun w => by kernel_rfl) ?_
                      refine Sq.same [2, 3, 4] (l := [valB b10 mb11 qb12 ((valDel x23.1 x23.2.1 x23.2.2 xk).2.2.1), mapR Value.string itV mb11 (del x23.1 xk), hpS qb12 (hrem x23.2.1 xk) (n0 + 1)]) (o_call (by kernel_rfl) Tryd.call12 (val_GetOk (n := n0 + 1) (M := del x23.1 xk) (S := hrem x23.2.1 xk) (bys := (valDel x23.1 x23.2.1 x23.2.2 xk).2.2.1) ot nw ((getOk_congr hot2).2 h20))) (by kernel_rfl) rfl (by kernel_rfl) rfl ?_
                      refine Sq.vals [4, 5, 6] (rest := [7, 8, 9]) [.tuple #[.agg #[sV (((lk (del x23.1 xk) ot).getD ((⟨#[]⟩, ⟨#[]⟩, 0) : ByteArray × ByteArray × Int)).1), sV (((lk (del x23.1 xk) ot).getD ((⟨#[]⟩, ⟨#[]⟩, 0) : ByteArray × ByteArray × Int)).2.1), iV (((lk (del x23.1 xk) ot).getD ((⟨#[]⟩, ⟨#[]⟩, 0) : ByteArray × ByteArray × Int)).2.2)], .nilIface], .agg #[sV (((lk (del x23.1 xk) ot).getD ((⟨#[]⟩, ⟨#[]⟩, 0) : ByteArray × ByteArray × Int)).1), sV (((lk (del x23.1 xk) ot).getD ((⟨#[]⟩, ⟨#[]⟩, 0) : ByteArray × ByteArray × Int)).2.1), iV (((lk (del x23.1 xk) ot).getD ((⟨#[]⟩, ⟨#[]⟩, 0) : ByteArray × ByteArray × Int)).2.2)], .nilIface] (fun w => by kernel_rfl) ?_
                      refine Sq.ex [] (l := []) (o_new [sV ⟨#[]⟩, sV ⟨#[]⟩, iV 0] (fun w => by kernel_rfl)) (by kernel_rfl) rfl (by kernel_rfl) (fun _ => Nat.zero_le _) ?_; intro b30 _
                      refine Sq.same [10] (l := [blkR b30 [sV ⟨#[]⟩, sV ⟨#[]⟩, iV 0] 24]) (o_store (i := 0) (v := .agg #[sV (((lk (del x23.1 xk) ot).getD ((⟨#[]⟩, ⟨#[]⟩, 0) : ByteArray × ByteArray × Int)).1), sV (((lk (del x23.1 xk) ot).getD ((⟨#[]⟩, ⟨#[]⟩, 0) : ByteArray × ByteArray × Int)).2.1), iV (((lk (del x23.1 xk) ot).getD ((⟨#[]⟩, ⟨#[]⟩, 0) : ByteArray × ByteArray × Int)).2.2)]) (by kernel_rfl) (by kernel_rfl) (by kernel_rfl) (by kernel_rfl) (by kernel_rfl)) (by kernel_rfl) rfl (by kernel_rfl) rfl ?_
                      refine Sq.vals [9] (rest := []) [.nilIface] (fun w => by kernel_rfl) ?_
                      refine Sq.done ?_
                      refine Ex'.next ?_
                      refine Cd.seq ?_
                      refine Cd.sub (subB_spec [2, 3, 5, 9, 11, 12, 151, 152, 153, 154, 155, 21, 157, 158, 159, 160, 161, 156, 162, 163, 22, 23, 165, 166, 167, 168, 164, 169, 170, 24, 25]) ?_
                      refine Cd.plan [0, 1, 3, 7, 15, 31, 63, 63, 255, 511, 1023, 2047, 4095, 2047, 10239, 32767, 65535, 131071] [(6, [(10, false, 0)]), (7, [(5, false, 0)])] [] [] [] [fun g => bV true, fun g => bV true, fun g => .iface 83 (pV b28 0), fun g => bV true, fun g => bV true, fun g => bV true, fun g => .agg #[sV (((lk (del x23.1 xk) ot).getD ((⟨#[]⟩, ⟨#[]⟩, 0) : ByteArray × ByteArray × Int)).1), sV (((lk (del x23.1 xk) ot).getD ((⟨#[]⟩, ⟨#[]⟩, 0) : ByteArray × ByteArray × Int)).2.1), iV (((lk (del x23.1 xk) ot).getD ((⟨#[]⟩, ⟨#[]⟩, 0) : ByteArray × ByteArray × Int)).2.2)], fun g => .agg #[sV (((lk M0 ot).getD ((⟨#[]⟩, ⟨#[]⟩, 0) : ByteArray × ByteArray × Int)).1), sV (((lk M0 ot).getD ((⟨#[]⟩, ⟨#[]⟩, 0) : ByteArray × ByteArray × Int)).2.1), iV (((lk M0 ot).getD ((⟨#[]⟩, ⟨#[]⟩, 0) : ByteArray × ByteArray × Int)).2.2)], fun g => bV true, fun g => bV true, fun g => bV true, fun g => .nilIface, fun g => bV true, fun g => .nilIface, fun g => bV true, fun g => bV true, fun g => bV true, fun g => bV true] (by kernel_rfl) (by kernel_rfl) rfl (trivial) ?_ ?_
                      · exact ⟨ob_val fun g w => by kernel_rfl, ob_val fun g w => by kernel_rfl, ob_val fun g w => by kernel_rfl, ob_val fun g w => by kernel_rfl, ob_val fun g w => by kernel_rfl, ob_val fun g w => by kernel_rfl, ob_s (l := fun g => [blkR b30 [sV (((lk (del x23.1 xk) ot).getD ((⟨#[]⟩, ⟨#[]⟩, 0) : ByteArray × ByteArray × Int)).1), sV (((lk (del x23.1 xk) ot).getD ((⟨#[]⟩, ⟨#[]⟩, 0) : ByteArray × ByteArray × Int)).2.1), iV (((lk (del x23.1 xk) ot).getD ((⟨#[]⟩, ⟨#[]⟩, 0) : ByteArray × ByteArray × Int)).2.2)] 24]) (l' := fun g => [blkR b30 [sV (((lk (del x23.1 xk) ot).getD ((⟨#[]⟩, ⟨#[]⟩, 0) : ByteArray × ByteArray × Int)).1), sV (((lk (del x23.1 xk) ot).getD ((⟨#[]⟩, ⟨#[]⟩, 0) : ByteArray × ByteArray × Int)).2.1), iV (((lk (del x23.1 xk) ot).getD ((⟨#[]⟩, ⟨#[]⟩, 0) : ByteArray × ByteArray × Int)).2.2)] 24]) (v := fun g => .agg #[sV (((lk (del x23.1 xk) ot).getD ((⟨#[]⟩, ⟨#[]⟩, 0) : ByteArray × ByteArray × Int)).1), sV (((lk (del x23.1 xk) ot).getD ((⟨#[]⟩, ⟨#[]⟩, 0) : ByteArray × ByteArray × Int)).2.1), iV (((lk (del x23.1 xk) ot).getD ((⟨#[]⟩, ⟨#[]⟩, 0) : ByteArray × ByteArray × Int)).2.2)]) (fun g => o_loadN (i := 0) [sV (((lk (del x23.1 xk) ot).getD ((⟨#[]⟩, ⟨#[]⟩, 0) : ByteArray × ByteArray × Int)).1), sV (((lk (del x23.1 xk) ot).getD ((⟨#[]⟩, ⟨#[]⟩, 0) : ByteArray × ByteArray × Int)).2.1), iV (((lk (del x23.1 xk) ot).getD ((⟨#[]⟩, ⟨#[]⟩, 0) : ByteArray × ByteArray × Int)).2.2)] (by kernel_rfl) (by kernel_rfl) (by kernel_rfl)) (fun g => by kernel_rfl), ob_s (l := fun g => [blkR b21 [sV (((lk M0 ot).getD ((⟨#[]⟩, ⟨#[]⟩, 0) : ByteArray × ByteArray × Int)).1), sV (((lk M0 ot).getD ((⟨#[]⟩, ⟨#[]⟩, 0) : ByteArray × ByteArray × Int)).2.1), iV (((lk M0 ot).getD ((⟨#[]⟩, ⟨#[]⟩, 0) : ByteArray × ByteArray × Int)).2.2)] 24]) (l' := fun g => [blkR b21 [sV (((lk M0 ot).getD ((⟨#[]⟩, ⟨#[]⟩, 0) : ByteArray × ByteArray × Int)).1), sV (((lk M0 ot).getD ((⟨#[]⟩, ⟨#[]⟩, 0) : ByteArray × ByteArray × Int)).2.1), iV (((lk M0 ot).getD ((⟨#[]⟩, ⟨#[]⟩, 0) : ByteArray × ByteArray × Int)).2.2)] 24]) (v := fun g => .agg #[sV (((lk M0 ot).getD ((⟨#[]⟩, ⟨#[]⟩, 0) : ByteArray × ByteArray × Int)).1), sV (((lk M0 ot).getD ((⟨#[]⟩, ⟨#[]⟩, 0) : ByteArray × ByteArray × Int)).2.1), iV (((lk M0 ot).getD ((⟨#[]⟩, ⟨#[]⟩, 0) : ByteArray × ByteArray × Int)).2.2)]) (fun g => o_loadN (i := 0) [sV (((lk M0 ot).getD ((⟨#[]⟩, ⟨#[]⟩, 0) : ByteArray × ByteArray × Int)).1), sV (((lk M0 ot).getD ((⟨#[]⟩, ⟨#[]⟩, 0) : ByteArray × ByteArray × Int)).2.1), iV (((lk M0 ot).getD ((⟨#[]⟩, ⟨#[]⟩, 0) : ByteArray × ByteArray × Int)).2.2)] (by kernel_rfl) (by kernel_rfl) (by kernel_rfl)) (fun g => by kernel_rfl), ob_v (v := fun g => bV true) (fun g => OprV.re (o_eqItem (((lk (del x23.1 xk) ot).getD ((⟨#[]⟩, ⟨#[]⟩, 0) : ByteArray × ByteArray × Int)).1) (((lk M0 ot).getD ((⟨#[]⟩, ⟨#[]⟩, 0) : ByteArray × ByteArray × Int)).1) (((lk (del x23.1 xk) ot).getD ((⟨#[]⟩, ⟨#[]⟩, 0) : ByteArray × ByteArray × Int)).2.1) (((lk M0 ot).getD ((⟨#[]⟩, ⟨#[]⟩, 0) : ByteArray × ByteArray × Int)).2.1) (((lk (del x23.1 xk) ot).getD ((⟨#[]⟩, ⟨#[]⟩, 0) : ByteArray × ByteArray × Int)).2.2) (((lk M0 ot).getD ((⟨#[]⟩, ⟨#[]⟩, 0) : ByteArray × ByteArray × Int)).2.2) (by kernel_rfl) (by kernel_rfl)) (vT (show ((lk (del x23.1 xk) ot).getD ((⟨#[]⟩, ⟨#[]⟩, 0) : ByteArray × ByteArray × Int)).1 = ((lk M0 ot).getD ((⟨#[]⟩, ⟨#[]⟩, 0) : ByteArray × ByteArray × Int)).1 ∧ ((lk (del x23.1 xk) ot).getD ((⟨#[]⟩, ⟨#[]⟩, 0) : ByteArray × ByteArray × Int)).2.1 = ((lk M0 ot).getD ((⟨#[]⟩, ⟨#[]⟩, 0) : ByteArray × ByteArray × Int)).2.1 ∧ ((lk (del x23.1 xk) ot).getD ((⟨#[]⟩, ⟨#[]⟩, 0) : ByteArray × ByteArray × Int)).2.2 = ((lk M0 ot).getD ((⟨#[]⟩, ⟨#[]⟩, 0) : ByteArray × ByteArray × Int)).2.2 from by rw [hot2]; exact ⟨rfl, rfl, rfl⟩))) (fun g => by kernel_rfl), ob_val fun g w => by kernel_rfl, ob_val fun g w => by kernel_rfl, ob_val fun g w => by kernel_rfl, ob_val fun g w => by kernel_rfl, ob_val fun g w => by kernel_rfl, ob_val fun g w => by kernel_rfl, ob_val fun g w => by kernel_rfl, ob_val fun g w => by kernel_rfl, ob_val fun g w => by kernel_rfl, trivial⟩
                      intro g
                      refine Ex'.sub (subB_spec [8]) ?_
                      refine Ex'.as [0, 1, 2, 3, 4, 5, 6, 7, 8, 9, 10] (σ' := [(8, bV true)]) (Γ' := [oldR w0, blkR b3 [sV xk, sV xv, iV xd] 24, valB b10 mb11 qb12 ((valDel x23.1 x23.2.1 x23.2.2 xk).2.2.1), mapR Value.string itV mb11 (del x23.1 xk), hpS qb12 (hrem x23.2.1 xk) (n0 + 1), blkR b21 [sV (((lk M0 ot).getD ((⟨#[]⟩, ⟨#[]⟩, 0) : ByteArray × ByteArray × Int)).1), sV (((lk M0 ot).getD ((⟨#[]⟩, ⟨#[]⟩, 0) : ByteArray × ByteArray × Int)).2.1), iV (((lk M0 ot).getD ((⟨#[]⟩, ⟨#[]⟩, 0) : ByteArray × ByteArray × Int)).2.2)] 24, blkR b25 [sV (((lk x23.1 xk).getD ((⟨#[]⟩, ⟨#[]⟩, 0) : ByteArray × ByteArray × Int)).1), sV (((lk x23.1 xk).getD ((⟨#[]⟩, ⟨#[]⟩, 0) : ByteArray × ByteArray × Int)).2.1), iV (((lk x23.1 xk).getD ((⟨#[]⟩, ⟨#[]⟩, 0) : ByteArray × ByteArray × Int)).2.2)] 24, blkR b27 [sV (((lk x23.1 ot).getD ((⟨#[]⟩, ⟨#[]⟩, 0) : ByteArray × ByteArray × Int)).1), sV (((lk x23.1 ot).getD ((⟨#[]⟩, ⟨#[]⟩, 0) : ByteArray × ByteArray × Int)).2.1), iV (((lk x23.1 ot).getD ((⟨#[]⟩, ⟨#[]⟩, 0) : ByteArray × ByteArray × Int)).2.2)] 24, blkR b28 [sV ⟨#[103, 101, 116]⟩, sV xk, .iface 71 (iV 5)] 87, blkR b29 [sV ⟨#[]⟩, sV ⟨#[]⟩, iV 0] 24, blkR b30 [sV (((lk (del x23.1 xk) ot).getD ((⟨#[]⟩, ⟨#[]⟩, 0) : ByteArray × ByteArray × Int)).1), sV (((lk (del x23.1 xk) ot).getD ((⟨#[]⟩, ⟨#[]⟩, 0) : ByteArray × ByteArray × Int)).2.1), iV (((lk (del x23.1 xk) ot).getD ((⟨#[]⟩, ⟨#[]⟩, 0) : ByteArray × ByteArray × Int)).2.2)] 24]) (by kernel_rfl) rfl (by kernel_rfl) (by kernel_rfl) ?_
                      refine Ex'.next ?_
                      refine Cd.ret ?_
                      refine Ex'.ret Tryd.results3 (RVs.tmp (v := bV true) (by kernel_rfl) (RVs.nil)) (fun w hw => ?_)
                      exact ⟨_, ⟨rfl, by kernel_rfl⟩, hw⟩
                    ·
                      refine Sq.vals [4, 5, 6, 7, 8, 9] (rest := []) [undef, undef, undef, undef, bV false, bV false] (fun w => by kernel_rfl) ?_
                      refine Sq.done ?_
                      refine Ex'.next ?_
                      refine Cd.seq ?_
                      refine Cd.seq ?_
                      refine Cd.region rfl ?_
                      refine Sq.vals [0, 1, 2, 3, 4, 5, 6, 7] (rest := [8, 9, 10, 11, 12]) [.nilIface, bV false, bV false, bV false, bV false, bV false, bV true, bV true] (fun w => by kernel_rfl) ?_
                      refine Sq.same [6] (l := [blkR b25 [sV (((lk x23.1 xk).getD ((⟨#[]⟩, ⟨#[]⟩, 0) : ByteArray × ByteArray × Int)).1), sV (((lk x23.1 xk).getD ((⟨#[]⟩, ⟨#[]⟩, 0) : ByteArray × ByteArray × Int)).2.1), iV (((lk x23.1 xk).getD ((⟨#[]⟩, ⟨#[]⟩, 0) : ByteArray × ByteArray × Int)).2.2)] 24]) (o_loadN (i := 0) [sV (((lk x23.1 xk).getD ((⟨#[]⟩, ⟨#[]⟩, 0) : ByteArray × ByteArray × Int)).1), sV (((lk x23.1 xk).getD ((⟨#[]⟩, ⟨#[]⟩, 0) : ByteArray × ByteArray × Int)).2.1), iV (((lk x23.1 xk).getD ((⟨#[]⟩, ⟨#[]⟩, 0) : ByteArray × ByteArray × Int)).2.2)] (by kernel_rfl) (by kernel_rfl) (by kernel_rfl)) (by kernel_rfl) rfl (by kernel_rfl) rfl ?_
                      refine Sq.same [1] (l := [blkR b3 [sV xk, sV xv, iV xd] 24]) (o_loadN (i := 0) [sV xk, sV xv, iV xd] (by kernel_rfl) (by kernel_rfl) (by kernel_rfl)) (by kernel_rfl) rfl (by kernel_rfl) rfl ?_
                      refine Sq.v (r := bV (decide (¬ (((lk x23.1 xk).getD ((⟨#[]⟩, ⟨#[]⟩, 0) : ByteArray × ByteArray × Int)).1 = xk ∧ ((lk x23.1 xk).getD ((⟨#[]⟩, ⟨#[]⟩, 0) : ByteArray × ByteArray × Int)).2.1 = xv ∧ ((lk x23.1 xk).getD ((⟨#[]⟩, ⟨#[]⟩, 0) : ByteArray × ByteArray × Int)).2.2 = xd)))) (o_eqItem_ne (((lk x23.1 xk).getD ((⟨#[]⟩, ⟨#[]⟩, 0) : ByteArray × ByteArray × Int)).1) xk (((lk x23.1 xk).getD ((⟨#[]⟩, ⟨#[]⟩, 0) : ByteArray × ByteArray × Int)).2.1) xv (((lk x23.1 xk).getD ((⟨#[]⟩, ⟨#[]⟩, 0) : ByteArray × ByteArray × Int)).2.2) xd (by kernel_rfl) (by kernel_rfl)) rfl (by kernel_rfl) ?_
                      refine Sq.re 132 rfl (vF (show ¬ (¬ (((lk x23.1 xk).getD ((⟨#[]⟩, ⟨#[]⟩, 0) : ByteArray × ByteArray × Int)).1 = xk ∧ ((lk x23.1 xk).getD ((⟨#[]⟩, ⟨#[]⟩, 0) : ByteArray × ByteArray × Int)).2.1 = xv ∧ ((lk x23.1 xk).getD ((⟨#[]⟩, ⟨#[]⟩, 0) : ByteArray × ByteArray × Int)).2.2 = xd)) from fun z => z (by rw [hlk]; exact ⟨rfl, rfl, rfl⟩))) ?_
                      refine Sq.vals [11, 12] (rest := []) [bV false, bV false] (fun w => by kernel_rfl) ?_
                      refine Sq.done ?_
                      refine Ex'.next ?_
                      refine Cd.condF (by kernel_rfl) ?_
                      refine Cd.skip ?_
                      refine Ex'.next ?_
                      refine Cd.seq ?_
                      refine Cd.region rfl ?_
                      refine Sq.vals [0, 1, 2] (rest := [3, 4, 5, 6, 7, 8, 9]) [pV b10 0, sV ot, iV nw] (fun w => by kernel_rfl) ?_
                      refine Sq.same [2, 3, 4] (l := [valB b10 mb11 qb12 x23.2.2, mapR Value.string itV mb11 x23.1, hpS qb12 x23.2.1 (n0 + 1)]) (o_call (by kernel_rfl) Tryd.call12 (val_GetOk (n := n0 + 1) (M := x23.1) (S := x23.2.1) (bys := x23.2.2) ot nw ((getOk_congr hot).2 h20))) (by kernel_rfl) rfl (by kernel_rfl) rfl ?_
                      refine Sq.vals [4, 5, 6] (rest := [7, 8, 9]) [.tuple #[.agg #[sV (((lk x23.1 ot).getD ((⟨#[]⟩, ⟨#[]⟩, 0) : ByteArray × ByteArray × Int)).1), sV (((lk x23.1 ot).getD ((⟨#[]⟩, ⟨#[]⟩, 0) : ByteArray × ByteArray × Int)).2.1), iV (((lk x23.1 ot).getD ((⟨#[]⟩, ⟨#[]⟩, 0) : ByteArray × ByteArray × Int)).2.2)], .nilIface], .agg #[sV (((lk x23.1 ot).getD ((⟨#[]⟩, ⟨#[]⟩, 0) : ByteArray × ByteArray × Int)).1), sV (((lk x23.1 ot).getD ((⟨#[]⟩, ⟨#[]⟩, 0) : ByteArray × ByteArray × Int)).2.1), iV (((lk x23.1 ot).getD ((⟨#[]⟩, ⟨#[]⟩, 0) : ByteArray × ByteArray × Int)).2.2)], .nilIface] (fun w => by kernel_rfl) ?_
                      refine Sq.ex [] (l := []) (o_new [sV ⟨#[]⟩, sV ⟨#[]⟩, iV 0] (fun w => by kernel_rfl)) (by kernel_rfl) rfl (by kernel_rfl) (fun _ => Nat.zero_le _) ?_; intro b31 _
                      refine Sq.same [7] (l := [blkR b31 [sV ⟨#[]⟩, sV ⟨#[]⟩, iV 0] 24]) (o_store (i := 0) (v := .agg #[sV (((lk x23.1 ot).getD ((⟨#[]⟩, ⟨#[]⟩, 0) : ByteArray × ByteArray × Int)).1), sV (((lk x23.1 ot).getD ((⟨#[]⟩, ⟨#[]⟩, 0) : ByteArray × ByteArray × Int)).2.1), iV (((lk x23.1 ot).getD ((⟨#[]⟩, ⟨#[]⟩, 0) : ByteArray × ByteArray × Int)).2.2)]) (by kernel_rfl) (by kernel_rfl) (by kernel_rfl) (by kernel_rfl) (by kernel_rfl)) (by kernel_rfl) rfl (by kernel_rfl) rfl ?_
                      refine Sq.vals [9] (rest := []) [.nilIface] (fun w => by kernel_rfl) ?_
                      refine Sq.done ?_
                      refine Ex'.next ?_
                      refine Cd.seq ?_
                      refine Cd.seq ?_
                      refine Cd.plan [0, 0, 3, 7, 15, 31, 15, 79, 255, 511] [(0, [(7, false, 0)]), (1, [(5, false, 0)])] [] [] [] [fun g => .agg #[sV (((lk x23.1 ot).getD ((⟨#[]⟩, ⟨#[]⟩, 0) : ByteArray × ByteArray × Int)).1), sV (((lk x23.1 ot).getD ((⟨#[]⟩, ⟨#[]⟩, 0) : ByteArray × ByteArray × Int)).2.1), iV (((lk x23.1 ot).getD ((⟨#[]⟩, ⟨#[]⟩, 0) : ByteArray × ByteArray × Int)).2.2)], fun g => .agg #[sV (((lk M0 ot).getD ((⟨#[]⟩, ⟨#[]⟩, 0) : ByteArray × ByteArray × Int)).1), sV (((lk M0 ot).getD ((⟨#[]⟩, ⟨#[]⟩, 0) : ByteArray × ByteArray × Int)).2.1), iV (((lk M0 ot).getD ((⟨#[]⟩, ⟨#[]⟩, 0) : ByteArray × ByteArray × Int)).2.2)], fun g => bV false, fun g => bV false, fun g => .nilIface, fun g => bV true, fun g => .nilIface, fun g => bV true, fun g => bV false, fun g => bV false] (by kernel_rfl) (by kernel_rfl) rfl (trivial) ?_ ?_
                      · exact ⟨ob_s (l := fun g => [blkR b31 [sV (((lk x23.1 ot).getD ((⟨#[]⟩, ⟨#[]⟩, 0) : ByteArray × ByteArray × Int)).1), sV (((lk x23.1 ot).getD ((⟨#[]⟩, ⟨#[]⟩, 0) : ByteArray × ByteArray × Int)).2.1), iV (((lk x23.1 ot).getD ((⟨#[]⟩, ⟨#[]⟩, 0) : ByteArray × ByteArray × Int)).2.2)] 24]) (l' := fun g => [blkR b31 [sV (((lk x23.1 ot).getD ((⟨#[]⟩, ⟨#[]⟩, 0) : ByteArray × ByteArray × Int)).1), sV (((lk x23.1 ot).getD ((⟨#[]⟩, ⟨#[]⟩, 0) : ByteArray × ByteArray × Int)).2.1), iV (((lk x23.1 ot).getD ((⟨#[]⟩, ⟨#[]⟩, 0) : ByteArray × ByteArray × Int)).2.2)] 24]) (v := fun g => .agg #[sV (((lk x23.1 ot).getD ((⟨#[]⟩, ⟨#[]⟩, 0) : ByteArray × ByteArray × Int)).1), sV (((lk x23.1 ot).getD ((⟨#[]⟩, ⟨#[]⟩, 0) : ByteArray × ByteArray × Int)).2.1), iV (((lk x23.1 ot).getD ((⟨#[]⟩, ⟨#[]⟩, 0) : ByteArray × ByteArray × Int)).2.2)]) (fun g => o_loadN (i := 0) [sV (((lk x23.1 ot).getD ((⟨#[]⟩, ⟨#[]⟩, 0) : ByteArray × ByteArray × Int)).1), sV (((lk x23.1 ot).getD ((⟨#[]⟩, ⟨#[]⟩, 0) : ByteArray × ByteArray × Int)).2.1), iV (((lk x23.1 ot).getD ((⟨#[]⟩, ⟨#[]⟩, 0) : ByteArray × ByteArray × Int)).2.2)] (by kernel_rfl) (by kernel_rfl) (by kernel_rfl)) (fun g => by kernel_rfl), ob_s (l := fun g => [blkR b21 [sV (((lk M0 ot).getD ((⟨#[]⟩, ⟨#[]⟩, 0) : ByteArray × ByteArray × Int)).1), sV (((lk M0 ot).getD ((⟨#[]⟩, ⟨#[]⟩, 0) : ByteArray × ByteArray × Int)).2.1), iV (((lk M0 ot).getD ((⟨#[]⟩, ⟨#[]⟩, 0) : ByteArray × ByteArray × Int)).2.2)] 24]) (l' := fun g => [blkR b21 [sV (((lk M0 ot).getD ((⟨#[]⟩, ⟨#[]⟩, 0) : ByteArray × ByteArray × Int)).1), sV (((lk M0 ot).getD ((⟨#[]⟩, ⟨#[]⟩, 0) : ByteArray × ByteArray × Int)).2.1), iV (((lk M0 ot).getD ((⟨#[]⟩, ⟨#[]⟩, 0) : ByteArray × ByteArray × Int)).2.2)] 24]) (v := fun g => .agg #[sV (((lk M0 ot).getD ((⟨#[]⟩, ⟨#[]⟩, 0) : ByteArray × ByteArray × Int)).1), sV (((lk M0 ot).getD ((⟨#[]⟩, ⟨#[]⟩, 0) : ByteArray × ByteArray × Int)).2.1), iV (((lk M0 ot).getD ((⟨#[]⟩, ⟨#[]⟩, 0) : ByteArray × ByteArray × Int)).2.2)]) (fun g => o_loadN (i := 0) [sV (((lk M0 ot).getD ((⟨#[]⟩, ⟨#[]⟩, 0) : ByteArray × ByteArray × Int)).1), sV (((lk M0 ot).getD ((⟨#[]⟩, ⟨#[]⟩, 0) : ByteArray × ByteArray × Int)).2.1), iV (((lk M0 ot).getD ((⟨#[]⟩, ⟨#[]⟩, 0) : ByteArray × ByteArray × Int)).2.2)] (by kernel_rfl) (by kernel_rfl) (by kernel_rfl)) (fun g => by kernel_rfl), ob_v (v := fun g => bV false) (fun g => OprV.re (o_eqItem_ne (((lk x23.1 ot).getD ((⟨#[]⟩, ⟨#[]⟩, 0) : ByteArray × ByteArray × Int)).1) (((lk M0 ot).getD ((⟨#[]⟩, ⟨#[]⟩, 0) : ByteArray × ByteArray × Int)).1) (((lk x23.1 ot).getD ((⟨#[]⟩, ⟨#[]⟩, 0) : ByteArray × ByteArray × Int)).2.1) (((lk M0 ot).getD ((⟨#[]⟩, ⟨#[]⟩, 0) : ByteArray × ByteArray × Int)).2.1) (((lk x23.1 ot).getD ((⟨#[]⟩, ⟨#[]⟩, 0) : ByteArray × ByteArray × Int)).2.2) (((lk M0 ot).getD ((⟨#[]⟩, ⟨#[]⟩, 0) : ByteArray × ByteArray × Int)).2.2) (by kernel_rfl) (by kernel_rfl)) (vF (show ¬ (¬ (((lk x23.1 ot).getD ((⟨#[]⟩, ⟨#[]⟩, 0) : ByteArray × ByteArray × Int)).1 = ((lk M0 ot).getD ((⟨#[]⟩, ⟨#[]⟩, 0) : ByteArray × ByteArray × Int)).1 ∧ ((lk x23.1 ot).getD ((⟨#[]⟩, ⟨#[]⟩, 0) : ByteArray × ByteArray × Int)).2.1 = ((lk M0 ot).getD ((⟨#[]⟩, ⟨#[]⟩, 0) : ByteArray × ByteArray × Int)).2.1 ∧ ((lk x23.1 ot).getD ((⟨#[]⟩, ⟨#[]⟩, 0) : ByteArray × ByteArray × Int)).2.2 = ((lk M0 ot).getD ((⟨#[]⟩, ⟨#[]⟩, 0) : ByteArray × ByteArray × Int)).2.2)) from fun z => z (by rw [hot]; exact ⟨rfl, rfl, rfl⟩)))) (fun g => by kernel_rfl), ob_val fun g w => by kernel_rfl, ob_val fun g w => by kernel_rfl, ob_val fun g w => by kernel_rfl, ob_val fun g w => by kernel_rfl, ob_val fun g w => by kernel_rfl, ob_val fun g w => by kernel_rfl, ob_val fun g w => by kernel_rfl, trivial⟩
                      intro g
                      refine Ex'.sub (subB_spec [2, 3, 5, 8, 9, 11, 12, 151]) ?_
                      refine Ex'.as [0, 1, 2, 3, 4, 5, 6, 7] (σ' := [(2, sV ot), (3, iV nw), (5, pV b3 0), (8, bV false), (9, pV b10 0), (11, pV b21 0), (12, .nilIface), (151, bV false)]) (Γ' := [oldR w0, blkR b3 [sV xk, sV xv, iV xd] 24, valB b10 mb11 qb12 x23.2.2, mapR Value.string itV mb11 x23.1, hpS qb12 x23.2.1 (n0 + 1), blkR b21 [sV (((lk M0 ot).getD ((⟨#[]⟩, ⟨#[]⟩, 0) : ByteArray × ByteArray × Int)).1), sV (((lk M0 ot).getD ((⟨#[]⟩, ⟨#[]⟩, 0) : ByteArray × ByteArray × Int)).2.1), iV (((lk M0 ot).getD ((⟨#[]⟩, ⟨#[]⟩, 0) : ByteArray × ByteArray × Int)).2.2)] 24, blkR b25 [sV (((lk x23.1 xk).getD ((⟨#[]⟩, ⟨#[]⟩, 0) : ByteArray × ByteArray × Int)).1), sV (((lk x23.1 xk).getD ((⟨#[]⟩, ⟨#[]⟩, 0) : ByteArray × ByteArray × Int)).2.1), iV (((lk x23.1 xk).getD ((⟨#[]⟩, ⟨#[]⟩, 0) : ByteArray × ByteArray × Int)).2.2)] 24, blkR b31 [sV (((lk x23.1 ot).getD ((⟨#[]⟩, ⟨#[]⟩, 0) : ByteArray × ByteArray × Int)).1), sV (((lk x23.1 ot).getD ((⟨#[]⟩, ⟨#[]⟩, 0) : ByteArray × ByteArray × Int)).2.1), iV (((lk x23.1 ot).getD ((⟨#[]⟩, ⟨#[]⟩, 0) : ByteArray × ByteArray × Int)).2.2)] 24]) (by kernel_rfl) rfl (by kernel_rfl) (by kernel_rfl) ?_
                      refine Ex'.next ?_
                      refine Cd.condF (by kernel_rfl) ?_
                      refine Cd.skip ?_
                      refine Ex'.next ?_
                      refine Cd.seq ?_
                      refine Cd.region rfl ?_
                      refine Sq.vals [0, 1] (rest := [2, 3, 4]) [pV b10 0, pV b3 0] (fun w => by kernel_rfl) ?_
                      refine Sq.same [1] (l := [blkR b3 [sV xk, sV xv, iV xd] 24]) (o_load (i := 0) (v := sV xk) (by kernel_rfl) (by kernel_rfl) (by kernel_rfl)) (by kernel_rfl) rfl (by kernel_rfl) rfl ?_
                      refine Sq.same [2, 3, 4] (l := valL b10 mb11 qb12 x23.1 x23.2.1 x23.2.2 (n0 + 1)) (o_call (by kernel_rfl) Tryd.call14 (Tri.eq (l2 := valL b10 mb11 qb12 (del x23.1 xk) (hrem x23.2.1 xk) ((valDel x23.1 x23.2.1 x23.2.2 xk).2.2.1) (n0 + 1)) (r' := bV true) (val_Delete (n := n0 + 1) (M := x23.1) (S := x23.2.1) (bys := x23.2.2) xk (by omega) (by omega) (by first | assumption | exact hi.del _ | (unfold ItB; decide))) (by first | rw [valDel_in hin] | rfl) (by first | rw [valDel_in hin] | rfl))) (by kernel_rfl) rfl (by kernel_rfl) rfl ?_
                      refine Sq.vals [4] (rest := []) [bV true] (fun w => by kernel_rfl) ?_
                      refine Sq.done ?_
                      refine Ex'.next ?_
                      refine Cd.seq ?_
                      refine Cd.region rfl ?_
                      refine Sq.vals [0, 1] (rest := [2, 3, 4, 5, 6, 7, 8, 9, 10]) [pV b10 0, pV b3 0] (fun w => by kernel_rfl) ?_
                      refine Sq.same [1] (l := [blkR b3 [sV xk, sV xv, iV xd] 24]) (o_load (i := 0) (v := sV xk) (by kernel_rfl) (by kernel_rfl) (by kernel_rfl)) (by kernel_rfl) rfl (by kernel_rfl) rfl ?_
                      refine Sq.vals [3] (rest := [4, 5, 6, 7, 8, 9, 10]) [iV nw] (fun w => by kernel_rfl) ?_
                      refine Sq.ex [2, 3, 4] (l := [valB b10 mb11 qb12 ((valDel x23.1 x23.2.1 x23.2.2 xk).2.2.1), mapR Value.string itV mb11 (del x23.1 xk), hpS qb12 (hrem x23.2.1 xk) (n0 + 1)]) (o_call (by kernel_rfl) Tryd.call12 (val_GetBad (n := n0 + 1) (M := del x23.1 xk) (S := hrem x23.2.1 xk) (bys := (valDel x23.1 x23.2.1 x23.2.2 xk).2.2.1) xk nw (getOk_del hP.nd))) (by kernel_rfl) rfl (by kernel_rfl) (fun _ => Nat.le_of_ble_eq_true (by kernel_rfl)) ?_; rintro b32 _
                      refine Sq.vals [5, 6, 7] (rest := [8, 9, 10]) [.tuple #[.agg #[sV ⟨#[]⟩, sV ⟨#[]⟩, iV 0], .iface 83 (pV b32 0)], .agg #[sV ⟨#[]⟩, sV ⟨#[]⟩, iV 0], .iface 83 (pV b32 0)] (fun w => by kernel_rfl) ?_
                      refine Sq.ex [] (l := []) (o_new [sV ⟨#[]⟩, sV ⟨#[]⟩, iV 0] (fun w => by kernel_rfl)) (by kernel_rfl) rfl (by kernel_rfl) (fun _ => Nat.zero_le _) ?_; intro b33 _
                      refine Sq.same [9] (l := [blkR b33 [sV ⟨#[]⟩, sV ⟨#[]⟩, iV 0] 24]) (o_store (i := 0) (v := .agg #[sV ⟨#[]⟩, sV ⟨#[]⟩, iV 0]) (by kernel_rfl) (by kernel_rfl) (by kernel_rfl) (by kernel_rfl) (by kernel_rfl)) (by kernel_rfl) rfl (by kernel_rfl) rfl ?_
                      refine Sq.vals [10] (rest := []) [.iface 83 (pV b32 0)] (fun w => by kernel_rfl) ?_
                      refine Sq.done ?_
                      refine Ex'.next ?_
                      refine Cd.seq ?_
                      refine Cd.region rfl ?_
                      refine Sq.vals [0, 1, 2] (rest := [3, 4, 5, 6, 7, 8, 9]) [pV b10 0, sV ot, iV nw] (fun w => by kernel_rfl) ?_
                      refine Sq.same [2, 3, 4] (l := [valB b10 mb11 qb12 ((valDel x23.1 x23.2.1 x23.2.2 xk).2.2.1), mapR Value.string itV mb11 (del x23.1 xk), hpS qb12 (hrem x23.2.1 xk) (n0 + 1)]) (o_call (by kernel_rfl) Tryd.call12 (val_GetOk (n := n0 + 1) (M := del x23.1 xk) (S := hrem x23.2.1 xk) (bys := (valDel x23.1 x23.2.1 x23.2.2 xk).2.2.1) ot nw ((getOk_congr hot2).2 h20))) (by kernel_rfl) rfl (by kernel_rfl) rfl ?_
                      refine Sq.vals [4, 5, 6] (rest := [7, 8, 9]) [.tuple #[.agg #[sV (((lk (del x23.1 xk) ot).getD ((⟨#[]⟩, ⟨#[]⟩, 0) : ByteArray × ByteArray × Int)).1), sV (((lk (del x23.1 xk) ot).getD ((⟨#[]⟩, ⟨#[]⟩, 0) : ByteArray × ByteArray × Int)).2.1), iV (((lk (del x23.1 xk) ot).getD ((⟨#[]⟩, ⟨#[]⟩, 0) : ByteArray × ByteArray × Int)).2.2)], .nilIface], .agg #[sV (((lk (del x23.1 xk) ot).getD ((⟨#[]⟩, ⟨#[]⟩, 0) : ByteArray × ByteArray × Int)).1), sV (((lk (del x23.1 xk) ot).getD ((⟨#[]⟩, ⟨#[]⟩, 0) : ByteArray × ByteArray × Int)).2.1), iV (((lk (del x23.1 xk) ot).getD ((⟨#[]⟩, ⟨#[]⟩, 0) : ByteArray × ByteArray × Int)).2.2)], .nilIface] (fun w => by kernel_rfl) ?_
                      refine Sq.ex [] (l := []) (o_new [sV ⟨#[]⟩, sV ⟨#[]⟩, iV 0] (fun w => by kernel_rfl)) (by kernel_rfl) rfl (by kernel_rfl) (fun _ => Nat.zero_le _) ?_; intro b34 _
                      refine Sq.same [10] (l := [blkR b34 [sV ⟨#[]⟩, sV ⟨#[]⟩, iV 0] 24]) (o_store (i := 0) (v := .agg #[sV (((lk (del x23.1 xk) ot).getD ((⟨#[]⟩, ⟨#[]⟩, 0) : ByteArray × ByteArray × Int)).1), sV (((lk (del x23.1 xk) ot).getD ((⟨#[]⟩, ⟨#[]⟩, 0) : ByteArray × ByteArray × Int)).2.1), iV (((lk (del x23.1 xk) ot).getD ((⟨#[]⟩, ⟨#[]⟩, 0) : ByteArray × ByteArray × Int)).2.2)]) (by kernel_rfl) (by kernel_rfl) (by kernel_rfl) (by kernel_rfl) (by kernel_rfl)) (by kernel_rfl) rfl (by kernel_rfl) rfl ?_
                      refine Sq.vals [9] (rest := []) [.nilIface] (fun w => by kernel_rfl) ?_
                      refine Sq.done ?_
                      refine Ex'.next ?_
                      refine Cd.seq ?_
                      refine Cd.sub (subB_spec [2, 3, 5, 9, 11, 12, 151, 152, 153, 154, 155, 21, 157, 158, 159, 160, 161, 156, 162, 163, 22, 23, 165, 166, 167, 168, 164, 169, 170, 24, 25]) ?_
                      refine Cd.plan [0, 1, 3, 7, 15, 31, 63, 63, 255, 511, 1023, 2047, 4095, 2047, 10239, 32767, 65535, 131071] [(6, [(10, false, 0)]), (7, [(5, false, 0)])] [] [] [] [fun g => bV true, fun g => bV true, fun g => .iface 83 (pV b32 0), fun g => bV true, fun g => bV true, fun g => bV true, fun g => .agg #[sV (((lk (del x23.1 xk) ot).getD ((⟨#[]⟩, ⟨#[]⟩, 0) : ByteArray × ByteArray × Int)).1), sV (((lk (del x23.1 xk) ot).getD ((⟨#[]⟩, ⟨#[]⟩, 0) : ByteArray × ByteArray × Int)).2.1), iV (((lk (del x23.1 xk) ot).getD ((⟨#[]⟩, ⟨#[]⟩, 0) : ByteArray × ByteArray × Int)).2.2)], fun g => .agg #[sV (((lk M0 ot).getD ((⟨#[]⟩, ⟨#[]⟩, 0) : ByteArray × ByteArray × Int)).1), sV (((lk M0 ot).getD ((⟨#[]⟩, ⟨#[]⟩, 0) : ByteArray × ByteArray × Int)).2.1), iV (((lk M0 ot).getD ((⟨#[]⟩, ⟨#[]⟩, 0) : ByteArray × ByteArray × Int)).2.2)], fun g => bV true, fun g => bV true, fun g => bV true, fun g => .nilIface, fun g => bV true, fun g => .nilIface, fun g => bV true, fun g => bV true, fun g => bV true, fun g => bV true] (by kernel_rfl) (by kernel_rfl) rfl (trivial) ?_ ?_
                      · exact ⟨ob_val fun g w => by kernel_rfl, ob_val fun g w => by kernel_rfl, ob_val fun g w => by kernel_rfl, ob_val fun g w => by kernel_rfl, ob_val fun g w => by kernel_rfl, ob_val fun g w => by kernel_rfl, ob_s (l := fun g => [blkR b34 [sV (((lk (del x23.1 xk) ot).getD ((⟨#[]⟩, ⟨#[]⟩, 0) : ByteArray × ByteArray × Int)).1), sV (((lk (del x23.1 xk) ot).getD ((⟨#[]⟩, ⟨#[]⟩, 0) : ByteArray × ByteArray × Int)).2.1), iV (((lk (del x23.1 xk) ot).getD ((⟨#[]⟩, ⟨#[]⟩, 0) : ByteArray × ByteArray × Int)).2.2)] 24]) (l' := fun g => [blkR b34 [sV (((lk (del x23.1 xk) ot).getD ((⟨#[]⟩, ⟨#[]⟩, 0) : ByteArray × ByteArray × Int)).1), sV (((lk (del x23.1 xk) ot).getD ((⟨#[]⟩, ⟨#[]⟩, 0) : ByteArray × ByteArray × Int)).2.1), iV (((lk (del x23.1 xk) ot).getD ((⟨#[]⟩, ⟨#[]⟩, 0) : ByteArray × ByteArray × Int)).2.2)] 24]) (v := fun g => .agg #[sV (((lk (del x23.1 xk) ot).getD ((⟨#[]⟩, ⟨#[]⟩, 0) : ByteArray × ByteArray × Int)).1), sV (((lk (del x23.1 xk) ot).getD ((⟨#[]⟩, ⟨#[]⟩, 0) : ByteArray × ByteArray × Int)).2.1), iV (((lk (del x23.1 xk) ot).getD ((⟨#[]⟩, ⟨#[]⟩, 0) : ByteArray × ByteArray × Int)).2.2)]) (fun g => o_loadN (i := 0) [sV (((lk (del x23.1 xk) ot).getD ((⟨#[]⟩, ⟨#[]⟩, 0) : ByteArray × ByteArray × Int)).1), sV (((lk (del x23.1 xk) ot).getD ((⟨#[]⟩, ⟨#[]⟩, 0) : ByteArray × ByteArray × Int)).2.1), iV (((lk (del x23.1 xk) ot).getD ((⟨#[]⟩, ⟨#[]⟩, 0) : ByteArray × ByteArray × Int)).2.2)] (by kernel_rfl) (by kernel_rfl) (by kernel_rfl)) (fun g => by kernel_rfl), ob_s (l := fun g => [blkR b21 [sV (((lk M0 ot).getD ((⟨#[]⟩, ⟨#[]⟩, 0) : ByteArray × ByteArray × Int)).1), sV (((lk M0 ot).getD ((⟨#[]⟩, ⟨#[]⟩, 0) : ByteArray × ByteArray × Int)).2.1), iV (((lk M0 ot).getD ((⟨#[]⟩, ⟨#[]⟩, 0) : ByteArray × ByteArray × Int)).2.2)] 24]) (l' := fun g => [blkR b21 [sV (((lk M0 ot).getD ((⟨#[]⟩, ⟨#[]⟩, 0) : ByteArray × ByteArray × Int)).1), sV (((lk M0 ot).getD ((⟨#[]⟩, ⟨#[]⟩, 0) : ByteArray × ByteArray × Int)).2.1), iV (((lk M0 ot).getD ((⟨#[]⟩, ⟨#[]⟩, 0) : ByteArray × ByteArray × Int)).2.2)] 24]) (v := fun g => .agg #[sV (((lk M0 ot).getD ((⟨#[]⟩, ⟨#[]⟩, 0) : ByteArray × ByteArray × Int)).1), sV (((lk M0 ot).getD ((⟨#[]⟩, ⟨#[]⟩, 0) : ByteArray × ByteArray × Int)).2.1), iV (((lk M0 ot).getD ((⟨#[]⟩, ⟨#[]⟩, 0) : ByteArray × ByteArray × Int)).2.2)]) (fun g => o_loadN (i := 0) [sV (((lk M0 ot).getD ((⟨#[]⟩, ⟨#[]⟩, 0) : ByteArray × ByteArray × Int)).1), sV (((lk M0 ot).getD ((⟨#[]⟩, ⟨#[]⟩, 0) : ByteArray × ByteArray × Int)).2.1), iV (((lk M0 ot).getD ((⟨#[]⟩, ⟨#[]⟩, 0) : ByteArray × ByteArray × Int)).2.2)] (by kernel_rfl) (by kernel_rfl) (by kernel_rfl)) (fun g => by kernel_rfl), ob_v (v := fun g => bV true) (fun g => OprV.re (o_eqItem (((lk (del x23.1 xk) ot).getD ((⟨#[]⟩, ⟨#[]⟩, 0) : ByteArray × ByteArray × Int)).1) (((lk M0 ot).getD ((⟨#[]⟩, ⟨#[]⟩, 0) : ByteArray × ByteArray × Int)).1) (((lk (del x23.1 xk) ot).getD ((⟨#[]⟩, ⟨#[]⟩, 0) : ByteArray × ByteArray × Int)).2.1) (((lk M0 ot).getD ((⟨#[]⟩, ⟨#[]⟩, 0) : ByteArray × ByteArray × Int)).2.1) (((lk (del x23.1 xk) ot).getD ((⟨#[]⟩, ⟨#[]⟩, 0) : ByteArray × ByteArray × Int)).2.2) (((lk M0 ot).getD ((⟨#[]⟩, ⟨#[]⟩, 0) : ByteArray × ByteArray × Int)).2.2) (by kernel_rfl) (by kernel_rfl)) (vT (show ((lk (del x23.1 xk) ot).getD ((⟨#[]⟩, ⟨#[]⟩, 0) : ByteArray × ByteArray × Int)).1 = ((lk M0 ot).getD ((⟨#[]⟩, ⟨#[]⟩, 0) : ByteArray × ByteArray × Int)).1 ∧ ((lk (del x23.1 xk) ot).getD ((⟨#[]⟩, ⟨#[]⟩, 0) : ByteArray × ByteArray × Int)).2.1 = ((lk M0 ot).getD ((⟨#[]⟩, ⟨#[]⟩, 0) : ByteArray × ByteArray × Int)).2.1 ∧ ((lk (del x23.1 xk) ot).getD ((⟨#[]⟩, ⟨#[]⟩, 0) : ByteArray × ByteArray × Int)).2.2 = ((lk M0 ot).getD ((⟨#[]⟩, ⟨#[]⟩, 0) : ByteArray × ByteArray × Int)).2.2 from by rw [hot2]; exact ⟨rfl, rfl, rfl⟩))) (fun g => by kernel_rfl), ob_val fun g w => by kernel_rfl, ob_val fun g w => by kernel_rfl, ob_val fun g w => by kernel_rfl, ob_val fun g w => by kernel_rfl, ob_val fun g w => by kernel_rfl, ob_val fun g w => by kernel_rfl, ob_val fun g w => by kernel_rfl, ob_val fun g w => by kernel_rfl, ob_val fun g w => by kernel_rfl, trivial⟩
                      intro g
                      refine Ex'.sub (subB_spec [8]) ?_
                      refine Ex'.as [0, 1, 2, 3, 4, 5, 6, 7, 8, 9, 10] (σ' := [(8, bV true)]) (Γ' := [oldR w0, blkR b3 [sV xk, sV xv, iV xd] 24, valB b10 mb11 qb12 ((valDel x23.1 x23.2.1 x23.2.2 xk).2.2.1), mapR Value.string itV mb11 (del x23.1 xk), hpS qb12 (hrem x23.2.1 xk) (n0 + 1), blkR b21 [sV (((lk M0 ot).getD ((⟨#[]⟩, ⟨#[]⟩, 0) : ByteArray × ByteArray × Int)).1), sV (((lk M0 ot).getD ((⟨#[]⟩, ⟨#[]⟩, 0) : ByteArray × ByteArray × Int)).2.1), iV (((lk M0 ot).getD ((⟨#[]⟩, ⟨#[]⟩, 0) : ByteArray × ByteArray × Int)).2.2)] 24, blkR b25 [sV (((lk x23.1 xk).getD ((⟨#[]⟩, ⟨#[]⟩, 0) : ByteArray × ByteArray × Int)).1), sV (((lk x23.1 xk).getD ((⟨#[]⟩, ⟨#[]⟩, 0) : ByteArray × ByteArray × Int)).2.1), iV (((lk x23.1 xk).getD ((⟨#[]⟩, ⟨#[]⟩, 0) : ByteArray × ByteArray × Int)).2.2)] 24, blkR b31 [sV (((lk x23.1 ot).getD ((⟨#[]⟩, ⟨#[]⟩, 0) : ByteArray × ByteArray × Int)).1), sV (((lk x23.1 ot).getD ((⟨#[]⟩, ⟨#[]⟩, 0) : ByteArray × ByteArray × Int)).2.1), iV (((lk x23.1 ot).getD ((⟨#[]⟩, ⟨#[]⟩, 0) : ByteArray × ByteArray × Int)).2.2)] 24, blkR b32 [sV ⟨#[103, 101, 116]⟩, sV xk, .iface 71 (iV 5)] 87, blkR b33 [sV ⟨#[]⟩, sV ⟨#[]⟩, iV 0] 24, blkR b34 [sV (((lk (del x23.1 xk) ot).getD ((⟨#[]⟩, ⟨#[]⟩, 0) : ByteArray × ByteArray × Int)).1), sV (((lk (del x23.1 xk) ot).getD ((⟨#[]⟩, ⟨#[]⟩, 0) : ByteArray × ByteArray × Int)).2.1), iV (((lk (del x23.1 xk) ot).getD ((⟨#[]⟩, ⟨#[]⟩, 0) : ByteArray × ByteArray × Int)).2.2)] 24]) (by kernel_rfl) rfl (by kernel_rfl) (by kernel_rfl) ?_
                      refine Ex'.next ?_
                      refine Cd.ret ?_
                      refine Ex'.ret Tryd.results3 (RVs.tmp (v := bV true) (by kernel_rfl) (RVs.nil)) (fun w hw => ?_)
                      exact ⟨_, ⟨rfl, by kernel_rfl⟩, hw⟩
                  ·
                    have hgx : ¬ (xd ≤ 0 ∨ nw < xd) := fun q => h24 ((getOk_of hlk).2 q)
                    refine Sq.ex [2, 3, 4] (l := [valB b10 mb11 qb12 x23.2.2, mapR Value.string itV mb11 x23.1, hpS qb12 x23.2.1 (n0 + 1)]) (o_call (by kernel_rfl) Tryd.call12 (val_GetBad (n := n0 + 1) (M := x23.1) (S := x23.2.1) (bys := x23.2.2) xk nw h24)) (by kernel_rfl) rfl (by kernel_rfl) (fun _ => Nat.le_of_ble_eq_true (by kernel_rfl)) ?_; rintro b35 _
                    refine Sq.vals [5, 6, 7] (rest := [8, 9, 10]) [.tuple #[.agg #[sV ⟨#[]⟩, sV ⟨#[]⟩, iV 0], .iface 83 (pV b35 0)], .agg #[sV ⟨#[]⟩, sV ⟨#[]⟩, iV 0], .iface 83 (pV b35 0)] (fun w => by kernel_rfl) ?_
                    refine Sq.ex [] (l := []) (o_new [sV ⟨#[]⟩, sV ⟨#[]⟩, iV 0] (fun w => by kernel_rfl)) (by kernel_rfl) rfl (by kernel_rfl) (fun _ => Nat.zero_le _) ?_; intro b36 _
                    refine Sq.same [7] (l := [blkR b36 [sV ⟨#[]⟩, sV ⟨#[]⟩, iV 0] 24]) (o_store (i := 0) (v := .agg #[sV ⟨#[]⟩, sV ⟨#[]⟩, iV 0]) (by kernel_rfl) (by kernel_rfl) (by kernel_rfl) (by kernel_rfl) (by kernel_rfl)) (by kernel_rfl) rfl (by kernel_rfl) rfl ?_
                    refine Sq.vals [10] (rest := []) [.iface 83 (pV b35 0)] (fun w => by kernel_rfl) ?_
                    refine Sq.done ?_
                    refine Ex'.next ?_
                    refine Cd.seq ?_
                    refine Cd.region rfl ?_
                    refine Sq.vals [0] (rest := [1, 2, 3, 4, 5, 6, 7, 8, 9]) [pV b3 2] (fun w => by kernel_rfl) ?_
                    refine Sq.same [1] (l := [blkR b3 [sV xk, sV xv, iV xd] 24]) (o_load (i := 2) (v := iV xd) (by kernel_rfl) (by kernel_rfl) (by kernel_rfl)) (by kernel_rfl) rfl (by kernel_rfl) rfl ?_
                    refine Sq.v (r := bV (decide (xd > 0))) (pureV (by kernel_rfl) rfl fun w => by kernel_rfl) rfl (by kernel_rfl) ?_
                    refine Sq.re 115 rfl (vT (by omega)) ?_
                    refine Sq.vals [3, 4] (rest := [5, 6, 7, 8, 9]) [bV true, pV b3 2] (fun w => by kernel_rfl) ?_
                    refine Sq.same [1] (l := [blkR b3 [sV xk, sV xv, iV xd] 24]) (o_load (i := 2) (v := iV xd) (by kernel_rfl) (by kernel_rfl) (by kernel_rfl)) (by kernel_rfl) rfl (by kernel_rfl) rfl ?_
                    refine Sq.vals [6] (rest := [7, 8, 9]) [iV nw] (fun w => by kernel_rfl) ?_
                    refine Sq.v (r := bV (decide (xd ≤ nw))) (pureV (by kernel_rfl) rfl fun w => by kernel_rfl) rfl (by kernel_rfl) ?_
                    refine Sq.re 120 rfl (vT (by omega)) ?_
                    refine Sq.vals [8, 9] (rest := []) [bV true, bV true] (fun w => by kernel_rfl) ?_
                    refine Sq.done ?_
                    refine Ex'.next ?_
                    refine Cd.seq ?_
                    refine Cd.seq ?_
                    refine Cd.region rfl ?_
                    refine Sq.vals [0, 1, 2, 3, 4, 5, 6, 7, 8, 9, 10, 11, 12] (rest := []) [.iface 83 (pV b35 0), bV true, bV true, bV false, bV false, bV true, bV false, bV false, undef, undef, undef, bV false, bV false] (fun w => by kernel_rfl) ?_
                    refine Sq.done ?_
                    refine Ex'.next ?_
                    refine Cd.condF (by kernel_rfl) ?_
                    refine Cd.skip ?_
                    refine Ex'.next ?_
                    refine Cd.seq ?_
                    refine Cd.region rfl ?_
                    refine Sq.vals [0, 1, 2] (rest := [3, 4, 5, 6, 7, 8, 9]) [pV b10 0, sV ot, iV nw] (fun w => by kernel_rfl) ?_
                    refine Sq.same [2, 3, 4] (l := [valB b10 mb11 qb12 x23.2.2, mapR Value.string itV mb11 x23.1, hpS qb12 x23.2.1 (n0 + 1)]) (o_call (by kernel_rfl) Tryd.call12 (val_GetOk (n := n0 + 1) (M := x23.1) (S := x23.2.1) (bys := x23.2.2) ot nw ((getOk_congr hot).2 h20))) (by kernel_rfl) rfl (by kernel_rfl) rfl ?_
                    refine Sq.vals [4, 5, 6] (rest := [7, 8, 9]) [.tuple #[.agg #[sV (((lk x23.1 ot).getD ((⟨#[]⟩, ⟨#[]⟩, 0) : ByteArray × ByteArray × Int)).1), sV (((lk x23.1 ot).getD ((⟨#[]⟩, ⟨#[]⟩, 0) : ByteArray × ByteArray × Int)).2.1), iV (((lk x23.1 ot).getD ((⟨#[]⟩, ⟨#[]⟩, 0) : ByteArray × ByteArray × Int)).2.2)], .nilIface], .agg #[sV (((lk x23.1 ot).getD ((⟨#[]⟩, ⟨#[]⟩, 0) : ByteArray × ByteArray × Int)).1), sV (((lk x23.1 ot).getD ((⟨#[]⟩, ⟨#[]⟩, 0) : ByteArray × ByteArray × Int)).2.1), iV (((lk x23.1 ot).getD ((⟨#[]⟩, ⟨#[]⟩, 0) : ByteArray × ByteArray × Int)).2.2)], .nilIface] (fun w => by kernel_rfl) ?_
                    refine Sq.ex [] (l := []) (o_new [sV ⟨#[]⟩, sV ⟨#[]⟩, iV 0] (fun w => by kernel_rfl)) (by kernel_rfl) rfl (by kernel_rfl) (fun _ => Nat.zero_le _) ?_; intro b37 _
                    refine Sq.same [8] (l := [blkR b37 [sV ⟨#[]⟩, sV ⟨#[]⟩, iV 0] 24]) (o_store (i := 0) (v := .agg #[sV (((lk x23.1 ot).getD ((⟨#[]⟩, ⟨#[]⟩, 0) : ByteArray × ByteArray × Int)).1), sV (((lk x23.1 ot).getD ((⟨#[]⟩, ⟨#[]⟩, 0) : ByteArray × ByteArray × Int)).2.1), iV (((lk x23.1 ot).getD ((⟨#[]⟩, ⟨#[]⟩, 0) : ByteArray × ByteArray × Int)).2.2)]) (by kernel_rfl) (by kernel_rfl) (by kernel_rfl) (by kernel_rfl) (by kernel_rfl)) (by kernel_rfl) rfl (by kernel_rfl) rfl ?_
                    refine Sq.vals [9] (rest := []) [.nilIface] (fun w => by kernel_rfl) ?_
                    refine Sq.done ?_
                    refine Ex'.next ?_
                    refine Cd.seq ?_
                    refine Cd.seq ?_
                    refine Cd.plan [0, 0, 3, 7, 15, 31, 15, 79, 255, 511] [(0, [(8, false, 0)]), (1, [(5, false, 0)])] [] [] [] [fun g => .agg #[sV (((lk x23.1 ot).getD ((⟨#[]⟩, ⟨#[]⟩, 0) : ByteArray × ByteArray × Int)).1), sV (((lk x23.1 ot).getD ((⟨#[]⟩, ⟨#[]⟩, 0) : ByteArray × ByteArray × Int)).2.1), iV (((lk x23.1 ot).getD ((⟨#[]⟩, ⟨#[]⟩, 0) : ByteArray × ByteArray × Int)).2.2)], fun g => .agg #[sV (((lk M0 ot).getD ((⟨#[]⟩, ⟨#[]⟩, 0) : ByteArray × ByteArray × Int)).1), sV (((lk M0 ot).getD ((⟨#[]⟩, ⟨#[]⟩, 0) : ByteArray × ByteArray × Int)).2.1), iV (((lk M0 ot).getD ((⟨#[]⟩, ⟨#[]⟩, 0) : ByteArray × ByteArray × Int)).2.2)], fun g => bV false, fun g => bV false, fun g => .nilIface, fun g => bV true, fun g => .nilIface, fun g => bV true, fun g => bV false, fun g => bV false] (by kernel_rfl) (by kernel_rfl) rfl (trivial) ?_ ?_
                    · exact ⟨ob_s (l := fun g => [blkR b37 [sV (((lk x23.1 ot).getD ((⟨#[]⟩, ⟨#[]⟩, 0) : ByteArray × ByteArray × Int)).1), sV (((lk x23.1 ot).getD ((⟨#[]⟩, ⟨#[]⟩, 0) : ByteArray × ByteArray × Int)).2.1), iV (((lk x23.1 ot).getD ((⟨#[]⟩, ⟨#[]⟩, 0) : ByteArray × ByteArray × Int)).2.2)] 24]) (l' := fun g => [blkR b37 [sV (((lk x23.1 ot).getD ((⟨#[]⟩, ⟨#[]⟩, 0) : ByteArray × ByteArray × Int)).1), sV (((lk x23.1 ot).getD ((⟨#[]⟩, ⟨#[]⟩, 0) : ByteArray × ByteArray × Int)).2.1), iV (((lk x23.1 ot).getD ((⟨#[]⟩, ⟨#[]⟩, 0) : ByteArray × ByteArray × Int)).2.2)] 24]) (v := fun g => .agg #[sV (((lk x23.1 ot).getD ((⟨#[]⟩, ⟨#[]⟩, 0) : ByteArray × ByteArray × Int)).1), sV (((lk x23.1 ot).getD ((⟨#[]⟩, ⟨#[]⟩, 0) : ByteArray × ByteArray × Int)).2.1), iV (((lk x23.1 ot).getD ((⟨#[]⟩, ⟨#[]⟩, 0) : ByteArray × ByteArray × Int)).2.2)]) (fun g => o_loadN (i := 0) [sV (((lk x23.1 ot).getD ((⟨#[]⟩, ⟨#[]⟩, 0) : ByteArray × ByteArray × Int)).1), sV (((lk x23.1 ot).getD ((⟨#[]⟩, ⟨#[]⟩, 0) : ByteArray × ByteArray × Int)).2.1), iV (((lk x23.1 ot).getD ((⟨#[]⟩, ⟨#[]⟩, 0) : ByteArray × ByteArray × Int)).2.2)] (by kernel_rfl) (by kernel_rfl) (by kernel_rfl)) (fun g => by kernel_rfl), ob_s (l := fun g => [blkR b21 [sV (((lk M0 ot).getD ((⟨#[]⟩, ⟨#[]⟩, 0) : ByteArray × ByteArray × Int)).1), sV (((lk M0 ot).getD ((⟨#[]⟩, ⟨#[]⟩, 0) : ByteArray × ByteArray × Int)).2.1), iV (((lk M0 ot).getD ((⟨#[]⟩, ⟨#[]⟩, 0) : ByteArray × ByteArray × Int)).2.2)] 24]) (l' := fun g => [blkR b21 [sV (((lk M0 ot).getD ((⟨#[]⟩, ⟨#[]⟩, 0) : ByteArray × ByteArray × Int)).1), sV (((lk M0 ot).getD ((⟨#[]⟩, ⟨#[]⟩, 0) : ByteArray × ByteArray × Int)).2.1), iV (((lk M0 ot).getD ((⟨#[]⟩, ⟨#[]⟩, 0) : ByteArray × ByteArray × Int)).2.2)] 24]) (v := fun g => .agg #[sV (((lk M0 ot).getD ((⟨#[]⟩, ⟨#[]⟩, 0) : ByteArray × ByteArray × Int)).1), sV (((lk M0 ot).getD ((⟨#[]⟩, ⟨#[]⟩, 0) : ByteArray × ByteArray × Int)).2.1), iV (((lk M0 ot).getD ((⟨#[]⟩, ⟨#[]⟩, 0) : ByteArray × ByteArray × Int)).2.2)]) (fun g => o_loadN (i := 0) [sV (((lk M0 ot).getD ((⟨#[]⟩, ⟨#[]⟩, 0) : ByteArray × ByteArray × Int)).1), sV (((lk M0 ot).getD ((⟨#[]⟩, ⟨#[]⟩, 0) : ByteArray × ByteArray × Int)).2.1), iV (((lk M0 ot).getD ((⟨#[]⟩, ⟨#[]⟩, 0) : ByteArray × ByteArray × Int)).2.2)] (by kernel_rfl) (by kernel_rfl) (by kernel_rfl)) (fun g => by kernel_rfl), ob_v (v := fun g => bV false) (fun g => OprV.re (o_eqItem_ne (((lk x23.1 ot).getD ((⟨#[]⟩, ⟨#[]⟩, 0) : ByteArray × ByteArray × Int)).1) (((lk M0 ot).getD ((⟨#[]⟩, ⟨#[]⟩, 0) : ByteArray × ByteArray × Int)).1) (((lk x23.1 ot).getD ((⟨#[]⟩, ⟨#[]⟩, 0) : ByteArray × ByteArray × Int)).2.1) (((lk M0 ot).getD ((⟨#[]⟩, ⟨#[]⟩, 0) : ByteArray × ByteArray × Int)).2.1) (((lk x23.1 ot).getD ((⟨#[]⟩, ⟨#[]⟩, 0) : ByteArray × ByteArray × Int)).2.2) (((lk M0 ot).getD ((⟨#[]⟩, ⟨#[]⟩, 0) : ByteArray × ByteArray × Int)).2.2) (by kernel_rfl) (by kernel_rfl)) (vF (show ¬ (¬ (((lk x23.1 ot).getD ((⟨#[]⟩, ⟨#[]⟩, 0) : ByteArray × ByteArray × Int)).1 = ((lk M0 ot).getD ((⟨#[]⟩, ⟨#[]⟩, 0) : ByteArray × ByteArray × Int)).1 ∧ ((lk x23.1 ot).getD ((⟨#[]⟩, ⟨#[]⟩, 0) : ByteArray × ByteArray × Int)).2.1 = ((lk M0 ot).getD ((⟨#[]⟩, ⟨#[]⟩, 0) : ByteArray × ByteArray × Int)).2.1 ∧ ((lk x23.1 ot).getD ((⟨#[]⟩, ⟨#[]⟩, 0) : ByteArray × ByteArray × Int)).2.2 = ((lk M0 ot).getD ((⟨#[]⟩, ⟨#[]⟩, 0) : ByteArray × ByteArray × Int)).2.2)) from fun z => z (by rw [hot]; exact ⟨rfl, rfl, rfl⟩)))) (fun g => by kernel_rfl), ob_val fun g w => by kernel_rfl, ob_val fun g w => by kernel_rfl, ob_val fun g w => by kernel_rfl, ob_val fun g w => by kernel_rfl, ob_val fun g w => by kernel_rfl, ob_val fun g w => by kernel_rfl, ob_val fun g w => by kernel_rfl, trivial⟩
                    intro g
                    refine Ex'.sub (subB_spec [2, 3, 5, 8, 9, 11, 12, 151]) ?_
                    refine Ex'.as [0, 1, 2, 3, 4, 5, 6, 7, 8] (σ' := [(2, sV ot), (3, iV nw), (5, pV b3 0), (8, bV false), (9, pV b10 0), (11, pV b21 0), (12, .nilIface), (151, bV false)]) (Γ' := [oldR w0, blkR b3 [sV xk, sV xv, iV xd] 24, valB b10 mb11 qb12 x23.2.2, mapR Value.string itV mb11 x23.1, hpS qb12 x23.2.1 (n0 + 1), blkR b21 [sV (((lk M0 ot).getD ((⟨#[]⟩, ⟨#[]⟩, 0) : ByteArray × ByteArray × Int)).1), sV (((lk M0 ot).getD ((⟨#[]⟩, ⟨#[]⟩, 0) : ByteArray × ByteArray × Int)).2.1), iV (((lk M0 ot).getD ((⟨#[]⟩, ⟨#[]⟩, 0) : ByteArray × ByteArray × Int)).2.2)] 24, blkR b35 [sV ⟨#[103, 101, 116]⟩, sV xk, .iface 71 (iV 5)] 87, blkR b36 [sV ⟨#[]⟩, sV ⟨#[]⟩, iV 0] 24, blkR b37 [sV (((lk x23.1 ot).getD ((⟨#[]⟩, ⟨#[]⟩, 0) : ByteArray × ByteArray × Int)).1), sV (((lk x23.1 ot).getD ((⟨#[]⟩, ⟨#[]⟩, 0) : ByteArray × ByteArray × Int)).2.1), iV (((lk x23.1 ot).getD ((⟨#[]⟩, ⟨#[]⟩, 0) : ByteArray × ByteArray × Int)).2.2)] 24]) (by kernel_rfl) rfl (by kernel_rfl) (by kernel_rfl) ?_
                    refine Ex'.next ?_
                    refine Cd.condF (by kernel_rfl) ?_
                    refine Cd.skip ?_
                    refine Ex'.next ?_
                    refine Cd.seq ?_
                    refine Cd.region rfl ?_
                    refine Sq.vals [0, 1] (rest := [2, 3, 4]) [pV b10 0, pV b3 0] (fun w => by kernel_rfl) ?_
                    refine Sq.same [1] (l := [blkR b3 [sV xk, sV xv, iV xd] 24]) (o_load (i := 0) (v := sV xk) (by kernel_rfl) (by kernel_rfl) (by kernel_rfl)) (by kernel_rfl) rfl (by kernel_rfl) rfl ?_
                    refine Sq.same [2, 3, 4] (l := valL b10 mb11 qb12 x23.1 x23.2.1 x23.2.2 (n0 + 1)) (o_call (by kernel_rfl) Tryd.call14 (Tri.eq (l2 := valL b10 mb11 qb12 (del x23.1 xk) (hrem x23.2.1 xk) ((valDel x23.1 x23.2.1 x23.2.2 xk).2.2.1) (n0 + 1)) (r' := bV true) (val_Delete (n := n0 + 1) (M := x23.1) (S := x23.2.1) (bys := x23.2.2) xk (by omega) (by omega) (by first | assumption | exact hi.del _ | (unfold ItB; decide))) (by first | rw [valDel_in hin] | rfl) (by first | rw [valDel_in hin] | rfl))) (by kernel_rfl) rfl (by kernel_rfl) rfl ?_
                    refine Sq.vals [4] (rest := []) [bV true] (fun w => by kernel_rfl) ?_
                    refine Sq.done ?_
                    refine Ex'.next ?_
                    refine Cd.seq ?_
                    refine Cd.region rfl ?_
                    refine Sq.vals [0, 1] (rest := [2, 3, 4, 5, 6, 7, 8, 9, 10]) [pV b10 0, pV b3 0] (fun w => by kernel_rfl) ?_
                    refine Sq.same [1] (l := [blkR b3 [sV xk, sV xv, iV xd] 24]) (o_load (i := 0) (v := sV xk) (by kernel_rfl) (by kernel_rfl) (by kernel_rfl)) (by kernel_rfl) rfl (by kernel_rfl) rfl ?_
                    refine Sq.vals [3] (rest := [4, 5, 6, 7, 8, 9, 10]) [iV nw] (fun w => by kernel_rfl) ?_
                    refine Sq.ex [2, 3, 4] (l := [valB b10 mb11 qb12 ((valDel x23.1 x23.2.1 x23.2.2 xk).2.2.1), mapR Value.string itV mb11 (del x23.1 xk), hpS qb12 (hrem x23.2.1 xk) (n0 + 1)]) (o_call (by kernel_rfl) Tryd.call12 (val_GetBad (n := n0 + 1) (M := del x23.1 xk) (S := hrem x23.2.1 xk) (bys := (valDel x23.1 x23.2.1 x23.2.2 xk).2.2.1) xk nw (getOk_del hP.nd))) (by kernel_rfl) rfl (by kernel_rfl) (fun _ => Nat.le_of_ble_eq_true (by kernel_rfl)) ?_; rintro b38 _
                    refine Sq.vals [5, 6, 7] (rest := [8, 9, 10]) [.tuple #[.agg #[sV ⟨#[]⟩, sV ⟨#[]⟩, iV 0], .iface 83 (pV b38 0)], .agg #[sV ⟨#[]⟩, sV ⟨#[]⟩, iV 0], .iface 83 (pV b38 0)] (fun w => by kernel_rfl) ?_
                    refine Sq.ex [] (l := []) (o_new [sV ⟨#[]⟩, sV ⟨#[]⟩, iV 0] (fun w => by kernel_rfl)) (by kernel_rfl) rfl (by kernel_rfl) (fun _ => Nat.zero_le _) ?_; intro b39 _
                    refine Sq.same [10] (l := [blkR b39 [sV ⟨#[]⟩, sV ⟨#[]⟩, iV 0] 24]) (o_store (i := 0) (v := .agg #[sV ⟨#[]⟩, sV ⟨#[]⟩, iV 0]) (by kernel_rfl) (by kernel_rfl) (by kernel_rfl) (by kernel_rfl) (by kernel_rfl)) (by kernel_rfl) rfl (by kernel_rfl) rfl ?_
                    refine Sq.vals [10] (rest := []) [.iface 83 (pV b38 0)] (fun w => by kernel_rfl) ?_
                    refine Sq.done ?_
                    refine Ex'.next ?_
                    refine Cd.seq ?_
                    refine Cd.region rfl ?_
                    refine Sq.vals [0, 1, 2] (rest := [3, 4, 5, 6, 7, 8, 9]) [pV b10 0, sV ot, iV nw] (fun w => by kernel_rfl) ?_
                    refine Sq.same [2, 3, 4] (l := [valB b10 mb11 qb12 ((valDel x23.1 x23.2.1 x23.2.2 xk).2.2.1), mapR Value.string itV mb11 (del x23.1 xk), hpS qb12 (hrem x23.2.1 xk) (n0 + 1)]) (o_call (by kernel_rfl) Tryd.call12 (val_GetOk (n := n0 + 1) (M := del x23.1 xk) (S := hrem x23.2.1 xk) (bys := (valDel x23.1 x23.2.1 x23.2.2 xk).2.2.1) ot nw ((getOk_congr hot2).2 h20))) (by kernel_rfl) rfl (by kernel_rfl) rfl ?_
                    refine Sq.vals [4, 5, 6] (rest := [7, 8, 9]) [.tuple #[.agg #[sV (((lk (del x23.1 xk) ot).getD ((⟨#[]⟩, ⟨#[]⟩, 0) : ByteArray × ByteArray × Int)).1), sV (((lk (del x23.1 xk) ot).getD ((⟨#[]⟩, ⟨#[]⟩, 0) : ByteArray × ByteArray × Int)).2.1), iV (((lk (del x23.1 xk) ot).getD ((⟨#[]⟩, ⟨#[]⟩, 0) : ByteArray × ByteArray × Int)).2.2)], .nilIface], .agg #[sV (((lk (del x23.1 xk) ot).getD ((⟨#[]⟩, ⟨#[]⟩, 0) : ByteArray × ByteArray × Int)).1), sV (((lk (del x23.1 xk) ot).getD ((⟨#[]⟩, ⟨#[]⟩, 0) : ByteArray × ByteArray × Int)).2.1), iV (((lk (del x23.1 xk) ot).getD ((⟨#[]⟩, ⟨#[]⟩, 0) : ByteArray × ByteArray × Int)).2.2)], .nilIface] (fun w => by kernel_rfl) ?_
                    refine Sq.ex [] (l := []) (o_new [sV ⟨#[]⟩, sV ⟨#[]⟩, iV 0] (fun w => by kernel_rfl)) (by kernel_rfl) rfl (by kernel_rfl) (fun _ => Nat.zero_le _) ?_; intro b40 _
                    refine Sq.same [11] (l := [blkR b40 [sV ⟨#[]⟩, sV ⟨#[]⟩, iV 0] 24]) (o_store (i := 0) (v := .agg #[sV (((lk (del x23.1 xk) ot).getD ((⟨#[]⟩, ⟨#[]⟩, 0) : ByteArray × ByteArray × Int)).1), sV (((lk (del x23.1 xk) ot).getD ((⟨#[]⟩, ⟨#[]⟩, 0) : ByteArray × ByteArray × Int)).2.1), iV (((lk (del x23.1 xk) ot).getD ((⟨#[]⟩, ⟨#[]⟩, 0) : ByteArray × ByteArray × Int)).2.2)]) (by kernel_rfl) (by kernel_rfl) (by kernel_rfl) (by kernel_rfl) (by kernel_rfl)) (by kernel_rfl) rfl (by kernel_rfl) rfl ?_
                    refine Sq.vals [9] (rest := []) [.nilIface] (fun w => by kernel_rfl) ?_
                    refine Sq.done ?_
                    refine Ex'.next ?_
                    refine Cd.seq ?_
                    refine Cd.sub (subB_spec [2, 3, 5, 9, 11, 12, 151, 152, 153, 154, 155, 21, 157, 158, 159, 160, 161, 156, 162, 163, 22, 23, 165, 166, 167, 168, 164, 169, 170, 24, 25]) ?_
                    refine Cd.plan [0, 1, 3, 7, 15, 31, 63, 63, 255, 511, 1023, 2047, 4095, 2047, 10239, 32767, 65535, 131071] [(6, [(11, false, 0)]), (7, [(5, false, 0)])] [] [] [] [fun g => bV true, fun g => bV true, fun g => .iface 83 (pV b38 0), fun g => bV true, fun g => bV true, fun g => bV true, fun g => .agg #[sV (((lk (del x23.1 xk) ot).getD ((⟨#[]⟩, ⟨#[]⟩, 0) : ByteArray × ByteArray × Int)).1), sV (((lk (del x23.1 xk) ot).getD ((⟨#[]⟩, ⟨#[]⟩, 0) : ByteArray × ByteArray × Int)).2.1), iV (((lk (del x23.1 xk) ot).getD ((⟨#[]⟩, ⟨#[]⟩, 0) : ByteArray × ByteArray × Int)).2.2)], fun g => .agg #[sV (((lk M0 ot).getD ((⟨#[]⟩, ⟨#[]⟩, 0) : ByteArray × ByteArray × Int)).1), sV (((lk M0 ot).getD ((⟨#[]⟩, ⟨#[]⟩, 0) : ByteArray × ByteArray × Int)).2.1), iV (((lk M0 ot).getD ((⟨#[]⟩, ⟨#[]⟩, 0) : ByteArray × ByteArray × Int)).2.2)], fun g => bV true, fun g => bV true, fun g => bV true, fun g => .nilIface, fun g => bV true, fun g => .nilIface, fun g => bV true, fun g => bV true, fun g => bV true, fun g => bV true] (by kernel_rfl) (by kernel_rfl) rfl (trivial) ?_ ?_
                    · exact ⟨ob_val fun g w => by kernel_rfl, ob_val fun g w => by kernel_rfl, ob_val fun g w => by kernel_rfl, ob_val fun g w => by kernel_rfl, ob_val fun g w => by kernel_rfl, ob_val fun g w => by kernel_rfl, ob_s (l := fun g => [blkR b40 [sV (((lk (del x23.1 xk) ot).getD ((⟨#[]⟩, ⟨#[]⟩, 0) : ByteArray × ByteArray × Int)).1), sV (((lk (del x23.1 xk) ot).getD ((⟨#[]⟩, ⟨#[]⟩, 0) : ByteArray × ByteArray × Int)).2.1), iV (((lk (del x23.1 xk) ot).getD ((⟨#[]⟩, ⟨#[]⟩, 0) : ByteArray × ByteArray × Int)).2.2)] 24]) (l' := fun g => [blkR b40 [sV (((lk (del x23.1 xk) ot).getD ((⟨#[]⟩, ⟨#[]⟩, 0) : ByteArray × ByteArray × Int)).1), sV (((lk (del x23.1 xk) ot).getD ((⟨#[]⟩, ⟨#[]⟩, 0) : ByteArray × ByteArray × Int)).2.1), iV (((lk (del x23.1 xk) ot).getD ((⟨#[]⟩, ⟨#[]⟩, 0) : ByteArray × ByteArray × Int)).2.2)] 24]) (v := fun g => .agg #[sV (((lk (del x23.1 xk) ot).getD ((⟨#[]⟩, ⟨#[]⟩, 0) : ByteArray × ByteArray × Int)).1), sV (((lk (del x23.1 xk) ot).getD ((⟨#[]⟩, ⟨#[]⟩, 0) : ByteArray × ByteArray × Int)).2.1), iV (((lk (del x23.1 xk) ot).getD ((⟨#[]⟩, ⟨#[]⟩, 0) : ByteArray × ByteArray × Int)).2.2)]) (fun g => o_loadN (i := 0) [sV (((lk (del x23.1 xk) ot).getD ((⟨#[]⟩, ⟨#[]⟩, 0) : ByteArray × ByteArray × Int)).1), sV (((lk (del x23.1 xk) ot).getD ((⟨#[]⟩, ⟨#[]⟩, 0) : ByteArray × ByteArray × Int)).2.1), iV (((lk (del x23.1 xk) ot).getD ((⟨#[]⟩, ⟨#[]⟩, 0) : ByteArray × ByteArray × Int)).2.2)] (by kernel_rfl) (by kernel_rfl) (by kernel_rfl)) (fun g => by kernel_rfl), ob_s (l := fun g => [blkR b21 [sV (((lk M0 ot).getD ((⟨#[]⟩, ⟨#[]⟩, 0) : ByteArray × ByteArray × Int)).1), sV (((lk M0 ot).getD ((⟨#[]⟩, ⟨#[]⟩, 0) : ByteArray × ByteArray × Int)).2.1), iV (((lk M0 ot).getD ((⟨#[]⟩, ⟨#[]⟩, 0) : ByteArray × ByteArray × Int)).2.2)] 24]) (l' := fun g => [blkR b21 [sV (((lk M0 ot).getD ((⟨#[]⟩, ⟨#[]⟩, 0) : ByteArray × ByteArray × Int)).1), sV (((lk M0 ot).getD ((⟨#[]⟩, ⟨#[]⟩, 0) : ByteArray × ByteArray × Int)).2.1), iV (((lk M0 ot).getD ((⟨#[]⟩, ⟨#[]⟩, 0) : ByteArray × ByteArray × Int)).2.2)] 24]) (v := fun g => .agg #[sV (((lk M0 ot).getD ((⟨#[]⟩, ⟨#[]⟩, 0) : ByteArray × ByteArray × Int)).1), sV (((lk M0 ot).getD ((⟨#[]⟩, ⟨#[]⟩, 0) : ByteArray × ByteArray × Int)).2.1), iV (((lk M0 ot).getD ((⟨#[]⟩, ⟨#[]⟩, 0) : ByteArray × ByteArray × Int)).2.2)]) (fun g => o_loadN (i := 0) [sV (((lk M0 ot).getD ((⟨#[]⟩, ⟨#[]⟩, 0) : ByteArray × ByteArray × Int)).1), sV (((lk M0 ot).getD ((⟨#[]⟩, ⟨#[]⟩, 0) : ByteArray × ByteArray × Int)).2.1), iV (((lk M0 ot).getD ((⟨#[]⟩, ⟨#[]⟩, 0) : ByteArray × ByteArray × Int)).2.2)] (by kernel_rfl) (by kernel_rfl) (by kernel_rfl)) (fun g => by kernel_rfl), ob_v (v := fun g => bV true) (fun g => OprV.re (o_eqItem (((lk (del x23.1 xk) ot).getD ((⟨#[]⟩, ⟨#[]⟩, 0) : ByteArray × ByteArray × Int)).1) (((lk M0 ot).getD ((⟨#[]⟩, ⟨#[]⟩, 0) : ByteArray × ByteArray × Int)).1) (((lk (del x23.1 xk) ot).getD ((⟨#[]⟩, ⟨#[]⟩, 0) : ByteArray × ByteArray × Int)).2.1) (((lk M0 ot).getD ((⟨#[]⟩, ⟨#[]⟩, 0) : ByteArray × ByteArray × Int)).2.1) (((lk (del x23.1 xk) ot).getD ((⟨#[]⟩, ⟨#[]⟩, 0) : ByteArray × ByteArray × Int)).2.2) (((lk M0 ot).getD ((⟨#[]⟩, ⟨#[]⟩, 0) : ByteArray × ByteArray × Int)).2.2) (by kernel_rfl) (by kernel_rfl)) (vT (show ((lk (del x23.1 xk) ot).getD ((⟨#[]⟩, ⟨#[]⟩, 0) : ByteArray × ByteArray × Int)).1 = ((lk M0 ot).getD ((⟨#[]⟩, ⟨#[]⟩, 0) : ByteArray × ByteArray × Int)).1 ∧ ((lk (del x23.1 xk) ot).getD ((⟨#[]⟩, ⟨#[]⟩, 0) : ByteArray × ByteArray × Int)).2.1 = ((lk M0 ot).getD ((⟨#[]⟩, ⟨#[]⟩, 0) : ByteArray × ByteArray × Int)).2.1 ∧ ((lk (del x23.1 xk) ot).getD ((⟨#[]⟩, ⟨#[]⟩, 0) : ByteArray × ByteArray × Int)).2.2 = ((lk M0 ot).getD ((⟨#[]⟩, ⟨#[]⟩, 0) : ByteArray × ByteArray × Int)).2.2 from by rw [hot2]; exact ⟨rfl, rfl, rfl⟩))) (fun g => by kernel_rfl), ob_val fun g w => by kernel_rfl, ob_val fun g w => by kernel_rfl, ob_val fun g w => by kernel_rfl, ob_val fun g w => by kernel_rfl, ob_val fun g w => by kernel_rfl, ob_val fun g w => by kernel_rfl, ob_val fun g w => by kernel_rfl, ob_val fun g w => by kernel_rfl, ob_val fun g w => by kernel_rfl, trivial⟩
                    intro g
                    refine Ex'.sub (subB_spec [8]) ?_
                    refine Ex'.as [0, 1, 2, 3, 4, 5, 6, 7, 8, 9, 10, 11] (σ' := [(8, bV true)]) (Γ' := [oldR w0, blkR b3 [sV xk, sV xv, iV xd] 24, valB b10 mb11 qb12 ((valDel x23.1 x23.2.1 x23.2.2 xk).2.2.1), mapR Value.string itV mb11 (del x23.1 xk), hpS qb12 (hrem x23.2.1 xk) (n0 + 1), blkR b21 [sV (((lk M0 ot).getD ((⟨#[]⟩, ⟨#[]⟩, 0) : ByteArray × ByteArray × Int)).1), sV (((lk M0 ot).getD ((⟨#[]⟩, ⟨#[]⟩, 0) : ByteArray × ByteArray × Int)).2.1), iV (((lk M0 ot).getD ((⟨#[]⟩, ⟨#[]⟩, 0) : ByteArray × ByteArray × Int)).2.2)] 24, blkR b35 [sV ⟨#[103, 101, 116]⟩, sV xk, .iface 71 (iV 5)] 87, blkR b36 [sV ⟨#[]⟩, sV ⟨#[]⟩, iV 0] 24, blkR b37 [sV (((lk x23.1 ot).getD ((⟨#[]⟩, ⟨#[]⟩, 0) : ByteArray × ByteArray × Int)).1), sV (((lk x23.1 ot).getD ((⟨#[]⟩, ⟨#[]⟩, 0) : ByteArray × ByteArray × Int)).2.1), iV (((lk x23.1 ot).getD ((⟨#[]⟩, ⟨#[]⟩, 0) : ByteArray × ByteArray × Int)).2.2)] 24, blkR b38 [sV ⟨#[103, 101, 116]⟩, sV xk, .iface 71 (iV 5)] 87, blkR b39 [sV ⟨#[]⟩, sV ⟨#[]⟩, iV 0] 24, blkR b40 [sV (((lk (del x23.1 xk) ot).getD ((⟨#[]⟩, ⟨#[]⟩, 0) : ByteArray × ByteArray × Int)).1), sV (((lk (del x23.1 xk) ot).getD ((⟨#[]⟩, ⟨#[]⟩, 0) : ByteArray × ByteArray × Int)).2.1), iV (((lk (del x23.1 xk) ot).getD ((⟨#[]⟩, ⟨#[]⟩, 0) : ByteArray × ByteArray × Int)).2.2)] 24]) (by kernel_rfl) rfl (by kernel_rfl) (by kernel_rfl) ?_
                    refine Ex'.next ?_
                    refine Cd.ret ?_
                    refine Ex'.ret Tryd.results3 (RVs.tmp (v := bV true) (by kernel_rfl) (RVs.nil)) (fun w hw => ?_)
                    exact ⟨_, ⟨rfl, by kernel_rfl⟩, hw⟩
                ·
                  refine Sq.ex [2, 3, 4] (l := [valB b10 mb11 qb12 bys0, mapR Value.string itV mb11 M0, hpS qb12 S0 n0]) (o_call (by kernel_rfl) Tryd.call11 (val_PutBad (n := n0) (M := M0) (S := S0) (bys := bys0) xk xv xd h22)) (by kernel_rfl) rfl (by kernel_rfl) (fun _ => Nat.le_of_ble_eq_true (by kernel_rfl)) ?_; rintro b41 _
                  refine Sq.vals [3] (rest := []) [bV true] (fun w => by kernel_rfl) ?_
                  refine Sq.done ?_
                  refine Ex'.next ?_
                  refine Cd.condT (by kernel_rfl) ?_
                  refine Cd.seq ?_
                  refine Cd.region rfl ?_
                  refine Sq.vals [0, 1] (rest := [2, 3, 4, 5, 6, 7, 8, 9, 10]) [pV b10 0, pV b3 0] (fun w => by kernel_rfl) ?_
                  refine Sq.same [1] (l := [blkR b3 [sV xk, sV xv, iV xd] 24]) (o_load (i := 0) (v := sV xk) (by kernel_rfl) (by kernel_rfl) (by kernel_rfl)) (by kernel_rfl) rfl (by kernel_rfl) rfl ?_
                  refine Sq.vals [3] (rest := [4, 5, 6, 7, 8, 9, 10]) [iV nw] (fun w => by kernel_rfl) ?_
                  by_cases h42 : getOk M0 xk nw
                  ·
                    refine Sq.same [2, 3, 4] (l := [valB b10 mb11 qb12 bys0, mapR Value.string itV mb11 M0, hpS qb12 S0 n0]) (o_call (by kernel_rfl) Tryd.call12 (val_GetOk (n := n0) (M := M0) (S := S0) (bys := bys0) xk nw h42)) (by kernel_rfl) rfl (by kernel_rfl) rfl ?_
                    refine Sq.vals [5, 6, 7] (rest := [8, 9, 10]) [.tuple #[.agg #[sV (((lk M0 xk).getD ((⟨#[]⟩, ⟨#[]⟩, 0) : ByteArray × ByteArray × Int)).1), sV (((lk M0 xk).getD ((⟨#[]⟩, ⟨#[]⟩, 0) : ByteArray × ByteArray × Int)).2.1), iV (((lk M0 xk).getD ((⟨#[]⟩, ⟨#[]⟩, 0) : ByteArray × ByteArray × Int)).2.2)], .nilIface], .agg #[sV (((lk M0 xk).getD ((⟨#[]⟩, ⟨#[]⟩, 0) : ByteArray × ByteArray × Int)).1), sV (((lk M0 xk).getD ((⟨#[]⟩, ⟨#[]⟩, 0) : ByteArray × ByteArray × Int)).2.1), iV (((lk M0 xk).getD ((⟨#[]⟩, ⟨#[]⟩, 0) : ByteArray × ByteArray × Int)).2.2)], .nilIface] (fun w => by kernel_rfl) ?_
                    refine Sq.ex [] (l := []) (o_new [sV ⟨#[]⟩, sV ⟨#[]⟩, iV 0] (fun w => by kernel_rfl)) (by kernel_rfl) rfl (by kernel_rfl) (fun _ => Nat.zero_le _) ?_; intro b43 _
                    refine Sq.same [7] (l := [blkR b43 [sV ⟨#[]⟩, sV ⟨#[]⟩, iV 0] 24]) (o_store (i := 0) (v := .agg #[sV (((lk M0 xk).getD ((⟨#[]⟩, ⟨#[]⟩, 0) : ByteArray × ByteArray × Int)).1), sV (((lk M0 xk).getD ((⟨#[]⟩, ⟨#[]⟩, 0) : ByteArray × ByteArray × Int)).2.1), iV (((lk M0 xk).getD ((⟨#[]⟩, ⟨#[]⟩, 0) : ByteArray × ByteArray × Int)).2.2)]) (by kernel_rfl) (by kernel_rfl) (by kernel_rfl) (by kernel_rfl) (by kernel_rfl)) (by kernel_rfl) rfl (by kernel_rfl) rfl ?_
                    refine Sq.vals [10] (rest := []) [.nilIface] (fun w => by kernel_rfl) ?_
                    refine Sq.done ?_
                    refine Ex'.next ?_
                    refine Cd.seq ?_
                    refine Cd.region rfl ?_
                    refine Sq.vals [0] (rest := [1, 2, 3, 4, 5, 6, 7, 8, 9, 10, 11, 12, 13, 14]) [pV b10 0] (fun w => by kernel_rfl) ?_
                    refine Sq.same [2, 3, 4] (l := valL b10 mb11 qb12 M0 S0 bys0 n0) (o_call (by kernel_rfl) Tryd.call13 (val_Len (n := n0) (M := M0) (S := S0) (bys := bys0) (by omega))) (by kernel_rfl) rfl (by kernel_rfl) rfl ?_
                    refine Sq.vals [2] (rest := [3, 4, 5, 6, 7, 8, 9, 10, 11, 12, 13, 14]) [iV (valLen M0 S0 bys0)] (fun w => by kernel_rfl) ?_
                    refine Sq.v (r := bV (decide (valLen M0 S0 bys0 = valLen M0 S0 bys0))) (o_eqI (k := .i64) (a := valLen M0 S0 bys0) (b := valLen M0 S0 bys0) (by kernel_rfl) (by kernel_rfl)) rfl (by kernel_rfl) ?_
                    refine Sq.re 94 rfl (vT rfl) ?_
                    refine Sq.vals [4, 5, 6, 7, 8, 9, 10, 11, 12, 13, 14] (rest := []) [bV true, .nilIface, bV true, bV true, undef, undef, undef, undef, bV true, bV true, bV true] (fun w => by kernel_rfl) ?_
                    refine Sq.done ?_
                    refine Ex'.next ?_
                    refine Cd.ret ?_
                    refine Ex'.thenRet ?_
                    refine Ex'.ret Tryd.results3 (RVs.tmp (v := bV true) (by kernel_rfl) (RVs.nil)) (fun w hw => ?_)
                    exact ⟨_, ⟨rfl, by kernel_rfl⟩, hw⟩
                  ·
                    refine Sq.ex [2, 3, 4] (l := [valB b10 mb11 qb12 bys0, mapR Value.string itV mb11 M0, hpS qb12 S0 n0]) (o_call (by kernel_rfl) Tryd.call12 (val_GetBad (n := n0) (M := M0) (S := S0) (bys := bys0) xk nw h42)) (by kernel_rfl) rfl (by kernel_rfl) (fun _ => Nat.le_of_ble_eq_true (by kernel_rfl)) ?_; rintro b44 _
                    refine Sq.vals [5, 6, 7] (rest := [8, 9, 10]) [.tuple #[.agg #[sV ⟨#[]⟩, sV ⟨#[]⟩, iV 0], .iface 83 (pV b44 0)], .agg #[sV ⟨#[]⟩, sV ⟨#[]⟩, iV 0], .iface 83 (pV b44 0)] (fun w => by kernel_rfl) ?_
                    refine Sq.ex [] (l := []) (o_new [sV ⟨#[]⟩, sV ⟨#[]⟩, iV 0] (fun w => by kernel_rfl)) (by kernel_rfl) rfl (by kernel_rfl) (fun _ => Nat.zero_le _) ?_; intro b45 _
                    refine Sq.same [8] (l := [blkR b45 [sV ⟨#[]⟩, sV ⟨#[]⟩, iV 0] 24]) (o_store (i := 0) (v := .agg #[sV ⟨#[]⟩, sV ⟨#[]⟩, iV 0]) (by kernel_rfl) (by kernel_rfl) (by kernel_rfl) (by kernel_rfl) (by kernel_rfl)) (by kernel_rfl) rfl (by kernel_rfl) rfl ?_
                    refine Sq.vals [10] (rest := []) [.iface 83 (pV b44 0)] (fun w => by kernel_rfl) ?_
                    refine Sq.done ?_
                    refine Ex'.next ?_
                    refine Cd.seq ?_
                    refine Cd.region rfl ?_
                    refine Sq.vals [0] (rest := [1, 2, 3, 4, 5, 6, 7, 8, 9, 10, 11, 12, 13, 14]) [pV b10 0] (fun w => by kernel_rfl) ?_
                    refine Sq.same [2, 3, 4] (l := valL b10 mb11 qb12 M0 S0 bys0 n0) (o_call (by kernel_rfl) Tryd.call13 (val_Len (n := n0) (M := M0) (S := S0) (bys := bys0) (by omega))) (by kernel_rfl) rfl (by kernel_rfl) rfl ?_
                    refine Sq.vals [2] (rest := [3, 4, 5, 6, 7, 8, 9, 10, 11, 12, 13, 14]) [iV (valLen M0 S0 bys0)] (fun w => by kernel_rfl) ?_
                    refine Sq.v (r := bV (decide (valLen M0 S0 bys0 = valLen M0 S0 bys0))) (o_eqI (k := .i64) (a := valLen M0 S0 bys0) (b := valLen M0 S0 bys0) (by kernel_rfl) (by kernel_rfl)) rfl (by kernel_rfl) ?_
                    refine Sq.re 94 rfl (vT rfl) ?_
                    refine Sq.vals [4, 5, 6, 7, 8] (rest := [9, 10, 11, 12, 13, 14]) [bV true, .iface 83 (pV b44 0), bV false, bV false, pV b10 0] (fun w => by kernel_rfl) ?_
                    refine Sq.same [1] (l := [blkR b3 [sV xk, sV xv, iV xd] 24]) (o_loadN (i := 0) [sV xk, sV xv, iV xd] (by kernel_rfl) (by kernel_rfl) (by kernel_rfl)) (by kernel_rfl) rfl (by kernel_rfl) rfl ?_
                    refine Sq.ex [2, 3, 4] (l := [valB b10 mb11 qb12 bys0, mapR Value.string itV mb11 M0, hpS qb12 S0 n0]) (o_call (by kernel_rfl) Tryd.call11 (val_PutBad (n := n0) (M := M0) (S := S0) (bys := bys0) xk xv xd h22)) (by kernel_rfl) rfl (by kernel_rfl) (fun _ => Nat.le_of_ble_eq_true (by kernel_rfl)) ?_; rintro b46 _
                    refine Sq.vals [11, 12, 13, 14] (rest := []) [bV true, bV true, bV true, bV true] (fun w => by kernel_rfl) ?_
                    refine Sq.done ?_
                    refine Ex'.next ?_
                    refine Cd.ret ?_
                    refine Ex'.thenRet ?_
                    refine Ex'.ret Tryd.results3 (RVs.tmp (v := bV true) (by kernel_rfl) (RVs.nil)) (fun w hw => ?_)
                    exact ⟨_, ⟨rfl, by kernel_rfl⟩, hw⟩
              ·
                refine Sq.ex [2, 3, 4] (l := [valB b10 mb11 qb12 bys0, mapR Value.string itV mb11 M0, hpS qb12 S0 n0]) (o_call (by kernel_rfl) Tryd.call12 (val_GetBad (n := n0) (M := M0) (S := S0) (bys := bys0) ot nw h20)) (by kernel_rfl) rfl (by kernel_rfl) (fun _ => Nat.le_of_ble_eq_true (by kernel_rfl)) ?_; rintro b47 _
                refine Sq.vals [4, 5, 6] (rest := [7, 8, 9]) [.tuple #[.agg #[sV ⟨#[]⟩, sV ⟨#[]⟩, iV 0], .iface 83 (pV b47 0)], .agg #[sV ⟨#[]⟩, sV ⟨#[]⟩, iV 0], .iface 83 (pV b47 0)] (fun w => by kernel_rfl) ?_
                refine Sq.ex [] (l := []) (o_new [sV ⟨#[]⟩, sV ⟨#[]⟩, iV 0] (fun w => by kernel_rfl)) (by kernel_rfl) rfl (by kernel_rfl) (fun _ => Nat.zero_le _) ?_; intro b48 _
                refine Sq.same [6] (l := [blkR b48 [sV ⟨#[]⟩, sV ⟨#[]⟩, iV 0] 24]) (o_store (i := 0) (v := .agg #[sV ⟨#[]⟩, sV ⟨#[]⟩, iV 0]) (by kernel_rfl) (by kernel_rfl) (by kernel_rfl) (by kernel_rfl) (by kernel_rfl)) (by kernel_rfl) rfl (by kernel_rfl) rfl ?_
                refine Sq.vals [9] (rest := []) [.iface 83 (pV b47 0)] (fun w => by kernel_rfl) ?_
                refine Sq.done ?_
                refine Ex'.next ?_
                refine Cd.seq ?_
                refine Cd.region rfl ?_
                refine Sq.vals [0] (rest := [1, 2]) [pV b10 0] (fun w => by kernel_rfl) ?_
                refine Sq.same [2, 3, 4] (l := valL b10 mb11 qb12 M0 S0 bys0 n0) (o_call (by kernel_rfl) Tryd.call13 (val_Len (n := n0) (M := M0) (S := S0) (bys := bys0) (by omega))) (by kernel_rfl) rfl (by kernel_rfl) rfl ?_
                refine Sq.vals [2] (rest := []) [iV (valLen M0 S0 bys0)] (fun w => by kernel_rfl) ?_
                refine Sq.done ?_
                refine Ex'.next ?_
                refine Cd.seq ?_
                refine Cd.seq ?_
                refine Cd.region rfl ?_
                refine Sq.vals [0] (rest := [1, 2, 3]) [pV b10 0] (fun w => by kernel_rfl) ?_
                refine Sq.same [1] (l := [blkR b3 [sV xk, sV xv, iV xd] 24]) (o_loadN (i := 0) [sV xk, sV xv, iV xd] (by kernel_rfl) (by kernel_rfl) (by kernel_rfl)) (by kernel_rfl) rfl (by kernel_rfl) rfl ?_
                by_cases h49 : rightC xk xv xd = 0
                ·
                  refine Sq.same [2, 3, 4] (l := valL b10 mb11 qb12 M0 S0 bys0 n0) (o_call (by kernel_rfl) Tryd.call11 (val_PutOk (n := n0) (n' := n0 + 1) (M := M0) (S := S0) (bys := bys0) xk xv xd (by omega) (by omega) (by omega) (by first | assumption | exact hi.del _ | (unfold ItB; decide)) (by exact h49))) (by kernel_rfl) rfl (by kernel_rfl) rfl ?_
                  generalize hxx50 : valPut M0 S0 bys0 xk xv xd = x50
                  have hP : VL x50.1 x50.2.2 (k + 1) := by rw [← hxx50]; exact hV.put h49
                  have hlk : lk x50.1 xk = some (xk, xv, xd) := by rw [← hxx50]; exact valPut_lk
                  have hot : lk x50.1 ot = lk M0 ot := by rw [← hxx50]; exact valPut_ne hne
                  have hPi := hP.it; have hP0 := hP.b0; have hP1 := hP.b1
                  have hot2 : lk (del x50.1 xk) ot = lk M0 ot := by rw [lk_del_ne hne]; exact hot
                  have hin : (lk x50.1 xk).isSome = true := by rw [hlk]; rfl
                  refine Sq.vals [3] (rest := []) [bV false] (fun w => by kernel_rfl) ?_
                  refine Sq.done ?_
                  refine Ex'.next ?_
                  refine Cd.condF (by kernel_rfl) ?_
                  refine Cd.skip ?_
                  refine Ex'.next ?_
                  refine Cd.seq ?_
                  refine Cd.region rfl ?_
                  refine Sq.vals [0, 1] (rest := [2, 3, 4, 5, 6, 7, 8, 9, 10]) [pV b10 0, pV b3 0] (fun w => by kernel_rfl) ?_
                  refine Sq.same [1] (l := [blkR b3 [sV xk, sV xv, iV xd] 24]) (o_load (i := 0) (v := sV xk) (by kernel_rfl) (by kernel_rfl) (by kernel_rfl)) (by kernel_rfl) rfl (by kernel_rfl) rfl ?_
                  refine Sq.vals [3] (rest := [4, 5, 6, 7, 8, 9, 10]) [iV nw] (fun w => by kernel_rfl) ?_
                  by_cases h51 : getOk x50.1 xk nw
                  ·
                    have hgx : xd ≤ 0 ∨ nw < xd := (getOk_of hlk).1 h51
                    refine Sq.same [2, 3, 4] (l := [valB b10 mb11 qb12 x50.2.2, mapR Value.string itV mb11 x50.1, hpS qb12 x50.2.1 (n0 + 1)]) (o_call (by kernel_rfl) Tryd.call12 (val_GetOk (n := n0 + 1) (M := x50.1) (S := x50.2.1) (bys := x50.2.2) xk nw h51)) (by kernel_rfl) rfl (by kernel_rfl) rfl ?_
                    refine Sq.vals [5, 6, 7] (rest := [8, 9, 10]) [.tuple #[.agg #[sV (((lk x50.1 xk).getD ((⟨#[]⟩, ⟨#[]⟩, 0) : ByteArray × ByteArray × Int)).1), sV (((lk x50.1 xk).getD ((⟨#[]⟩, ⟨#[]⟩, 0) : ByteArray × ByteArray × Int)).2.1), iV (((lk x50.1 xk).getD ((⟨#[]⟩, ⟨#[]⟩, 0) : ByteArray × ByteArray × Int)).2.2)], .nilIface], .agg #[sV (((lk x50.1 xk).getD ((⟨#[]⟩, ⟨#[]⟩, 0) : ByteArray × ByteArray × Int)).1), sV (((lk x50.1 xk).getD ((⟨#[]⟩, ⟨#[]⟩, 0) : ByteArray × ByteArray × Int)).2.1), iV (((lk x50.1 xk).getD ((⟨#[]⟩, ⟨#[]⟩, 0) : ByteArray × ByteArray × Int)).2.2)], .nilIface] (fun w => by kernel_rfl) ?_
                    refine Sq.ex [] (l := []) (o_new [sV ⟨#[]⟩, sV ⟨#[]⟩, iV 0] (fun w => by kernel_rfl)) (by kernel_rfl) rfl (by kernel_rfl) (fun _ => Nat.zero_le _) ?_; intro b52 _
                    refine Sq.same [7] (l := [blkR b52 [sV ⟨#[]⟩, sV ⟨#[]⟩, iV 0] 24]) (o_store (i := 0) (v := .agg #[sV (((lk x50.1 xk).getD ((⟨#[]⟩, ⟨#[]⟩, 0) : ByteArray × ByteArray × Int)).1), sV (((lk x50.1 xk).getD ((⟨#[]⟩, ⟨#[]⟩, 0) : ByteArray × ByteArray × Int)).2.1), iV (((lk x50.1 xk).getD ((⟨#[]⟩, ⟨#[]⟩, 0) : ByteArray × ByteArray × Int)).2.2)]) (by kernel_rfl) (by kernel_rfl) (by kernel_rfl) (by kernel_rfl) (by kernel_rfl)) (by kernel_rfl) rfl (by kernel_rfl) rfl ?_
                    refine Sq.vals [10] (rest := []) [.nilIface] (fun w => by kernel_rfl) ?_
                    refine Sq.done ?_
                    refine Ex'.next ?_
                    refine Cd.seq ?_
                    refine Cd.region rfl ?_
                    refine Sq.vals [0] (rest := [1, 2, 3, 4, 5, 6, 7, 8, 9]) [pV b3 2] (fun w => by kernel_rfl) ?_
                    refine Sq.same [1] (l := [blkR b3 [sV xk, sV xv, iV xd] 24]) (o_load (i := 2) (v := iV xd) (by kernel_rfl) (by kernel_rfl) (by kernel_rfl)) (by kernel_rfl) rfl (by kernel_rfl) rfl ?_
                    refine Sq.vals [2, 3] (rest := [4, 5, 6, 7, 8, 9]) [bV (decide (xd > 0)), bV (decide (xd > 0))] (fun w => by kernel_rfl) ?_
                    refine Sq.case 116 (p := xd > 0) rfl (fun h53 => ?_) (fun h53 => ?_)
                    ·
                      refine Sq.vals [4] (rest := [5, 6, 7, 8, 9]) [pV b3 2] (fun w => by kernel_rfl) ?_
                      refine Sq.same [1] (l := [blkR b3 [sV xk, sV xv, iV xd] 24]) (o_load (i := 2) (v := iV xd) (by kernel_rfl) (by kernel_rfl) (by kernel_rfl)) (by kernel_rfl) rfl (by kernel_rfl) rfl ?_
                      refine Sq.vals [6] (rest := [7, 8, 9]) [iV nw] (fun w => by kernel_rfl) ?_
                      refine Sq.v (r := bV (decide (xd ≤ nw))) (pureV (by kernel_rfl) rfl fun w => by kernel_rfl) rfl (by kernel_rfl) ?_
                      refine Sq.re 120 rfl (vF (by omega)) ?_
                      refine Sq.vals [8, 9] (rest := []) [bV false, bV false] (fun w => by kernel_rfl) ?_
                      refine Sq.done ?_
                      refine Ex'.next ?_
                      refine Cd.seq ?_
                      refine Cd.seq ?_
                      refine Cd.region rfl ?_
                      refine Sq.vals [0, 1, 2, 3, 4, 5, 6, 7] (rest := [8, 9, 10, 11, 12]) [.nilIface, bV false, bV false, bV false, bV false, bV false, bV true, bV true] (fun w => by kernel_rfl) ?_
                      refine Sq.same [7] (l := [blkR b52 [sV (((lk x50.1 xk).getD ((⟨#[]⟩, ⟨#[]⟩, 0) : ByteArray × ByteArray × Int)).1), sV (((lk x50.1 xk).getD ((⟨#[]⟩, ⟨#[]⟩, 0) : ByteArray × ByteArray × Int)).2.1), iV (((lk x50.1 xk).getD ((⟨#[]⟩, ⟨#[]⟩, 0) : ByteArray × ByteArray × Int)).2.2)] 24]) (o_loadN (i := 0) [sV (((lk x50.1 xk).getD ((⟨#[]⟩, ⟨#[]⟩, 0) : ByteArray × ByteArray × Int)).1), sV (((lk x50.1 xk).getD ((⟨#[]⟩, ⟨#[]⟩, 0) : ByteArray × ByteArray × Int)).2.1), iV (((lk x50.1 xk).getD ((⟨#[]⟩, ⟨#[]⟩, 0) : ByteArray × ByteArray × Int)).2.2)] (by kernel_rfl) (by kernel_rfl) (by kernel_rfl)) (by kernel_rfl) rfl (by kernel_rfl) rfl ?_
                      refine Sq.same [1] (l := [blkR b3 [sV xk, sV xv, iV xd] 24]) (o_loadN (i := 0) [sV xk, sV xv, iV xd] (by kernel_rfl) (by kernel_rfl) (by kernel_rfl)) (by kernel_rfl) rfl (by kernel_rfl) rfl ?_
                      refine Sq.v (r := bV (decide (¬ (((lk x50.1 xk).getD ((⟨#[]⟩, ⟨#[]⟩, 0) : ByteArray × ByteArray × Int)).1 = xk ∧ ((lk x50.1 xk).getD ((⟨#[]⟩, ⟨#[]⟩, 0) : ByteArray × ByteArray × Int)).2.1 = xv ∧ ((lk x50.1 xk).getD ((⟨#[]⟩, ⟨#[]⟩, 0) : ByteArray × ByteArray × Int)).2.2 = xd)))) (o_eqItem_ne (((lk x50.1 xk).getD ((⟨#[]⟩, ⟨#[]⟩, 0) : ByteArray × ByteArray × Int)).1) xk (((lk x50.1 xk).getD ((⟨#[]⟩, ⟨#[]⟩, 0) : ByteArray × ByteArray × Int)).2.1) xv (((lk x50.1 xk).getD ((⟨#[]⟩, ⟨#[]⟩, 0) : ByteArray × ByteArray × Int)).2.2) xd (by kernel_rfl) (by kernel_rfl)) rfl (by kernel_rfl) ?_
                      refine Sq.re 132 rfl (vF (show ¬ (¬ (((lk x50.1 xk).getD ((⟨#[]⟩, ⟨#[]⟩, 0) : ByteArray × ByteArray × Int)).1 = xk ∧ ((lk x50.1 xk).getD ((⟨#[]⟩, ⟨#[]⟩, 0) : ByteArray × ByteArray × Int)).2.1 = xv ∧ ((lk x50.1 xk).getD ((⟨#[]⟩, ⟨#[]⟩, 0) : ByteArray × ByteArray × Int)).2.2 = xd)) from fun z => z (by rw [hlk]; exact ⟨rfl, rfl, rfl⟩))) ?_
                      refine Sq.vals [11, 12] (rest := []) [bV false, bV false] (fun w => by kernel_rfl) ?_
                      refine Sq.done ?_
                      refine Ex'.next ?_
                      refine Cd.condF (by kernel_rfl) ?_
                      refine Cd.skip ?_
                      refine Ex'.next ?_
                      refine Cd.seq ?_
                      refine Cd.region rfl ?_
                      refine Sq.vals [0, 1, 2] (rest := [3, 4, 5, 6, 7, 8, 9]) [pV b10 0, sV ot, iV nw] (fun w => by kernel_rfl) ?_
                      refine Sq.ex [2, 3, 4] (l := [valB b10 mb11 qb12 x50.2.2, mapR Value.string itV mb11 x50.1, hpS qb12 x50.2.1 (n0 + 1)]) (o_call (by kernel_rfl) Tryd.call12 (val_GetBad (n := n0 + 1) (M := x50.1) (S := x50.2.1) (bys := x50.2.2) ot nw (fun q => h20 ((getOk_congr hot).1 q)))) (by kernel_rfl) rfl (by kernel_rfl) (fun _ => Nat.le_of_ble_eq_true (by kernel_rfl)) ?_; rintro b54 _
                      refine Sq.vals [4, 5, 6] (rest := [7, 8, 9]) [.tuple #[.agg #[sV ⟨#[]⟩, sV ⟨#[]⟩, iV 0], .iface 83 (pV b54 0)], .agg #[sV ⟨#[]⟩, sV ⟨#[]⟩, iV 0], .iface 83 (pV b54 0)] (fun w => by kernel_rfl) ?_
                      refine Sq.ex [] (l := []) (o_new [sV ⟨#[]⟩, sV ⟨#[]⟩, iV 0] (fun w => by kernel_rfl)) (by kernel_rfl) rfl (by kernel_rfl) (fun _ => Nat.zero_le _) ?_; intro b55 _
                      refine Sq.same [9] (l := [blkR b55 [sV ⟨#[]⟩, sV ⟨#[]⟩, iV 0] 24]) (o_store (i := 0) (v := .agg #[sV ⟨#[]⟩, sV ⟨#[]⟩, iV 0]) (by kernel_rfl) (by kernel_rfl) (by kernel_rfl) (by kernel_rfl) (by kernel_rfl)) (by kernel_rfl) rfl (by kernel_rfl) rfl ?_
                      refine Sq.vals [9] (rest := []) [.iface 83 (pV b54 0)] (fun w => by kernel_rfl) ?_
                      refine Sq.done ?_
                      refine Ex'.next ?_
                      refine Cd.seq ?_
                      refine Cd.seq ?_
                      refine Cd.plan [0, 0, 3, 7, 15, 31, 15, 79, 255, 511] [(0, [(9, false, 0)]), (1, [(6, false, 0)])] [] [] [] [fun g => .agg #[sV ⟨#[]⟩, sV ⟨#[]⟩, iV 0], fun g => .agg #[sV ⟨#[]⟩, sV ⟨#[]⟩, iV 0], fun g => bV false, fun g => bV false, fun g => .iface 83 (pV b54 0), fun g => bV false, fun g => .iface 83 (pV b47 0), fun g => bV false, fun g => bV false, fun g => bV false] (by kernel_rfl) (by kernel_rfl) rfl (trivial) ?_ ?_
                      · exact ⟨ob_s (l := fun g => [blkR b55 [sV ⟨#[]⟩, sV ⟨#[]⟩, iV 0] 24]) (l' := fun g => [blkR b55 [sV ⟨#[]⟩, sV ⟨#[]⟩, iV 0] 24]) (v := fun g => .agg #[sV ⟨#[]⟩, sV ⟨#[]⟩, iV 0]) (fun g => o_loadN (i := 0) [sV ⟨#[]⟩, sV ⟨#[]⟩, iV 0] (by kernel_rfl) (by kernel_rfl) (by kernel_rfl)) (fun g => by kernel_rfl), ob_s (l := fun g => [blkR b48 [sV ⟨#[]⟩, sV ⟨#[]⟩, iV 0] 24]) (l' := fun g => [blkR b48 [sV ⟨#[]⟩, sV ⟨#[]⟩, iV 0] 24]) (v := fun g => .agg #[sV ⟨#[]⟩, sV ⟨#[]⟩, iV 0]) (fun g => o_loadN (i := 0) [sV ⟨#[]⟩, sV ⟨#[]⟩, iV 0] (by kernel_rfl) (by kernel_rfl) (by kernel_rfl)) (fun g => by kernel_rfl), ob_val fun g w => by kernel_rfl, ob_val fun g w => by kernel_rfl, ob_val fun g w => by kernel_rfl, ob_val fun g w => by kernel_rfl, ob_val fun g w => by kernel_rfl, ob_val fun g w => by kernel_rfl, ob_val fun g w => by kernel_rfl, ob_val fun g w => by kernel_rfl, trivial⟩
                      intro g
                      refine Ex'.sub (subB_spec [2, 3, 5, 8, 9, 11, 12, 151]) ?_
                      refine Ex'.as [0, 1, 2, 3, 4, 5, 6, 7, 8, 9] (σ' := [(2, sV ot), (3, iV nw), (5, pV b3 0), (8, bV false), (9, pV b10 0), (11, pV b48 0), (12, .iface 83 (pV b47 0)), (151, bV false)]) (Γ' := [oldR w0, blkR b3 [sV xk, sV xv, iV xd] 24, valB b10 mb11 qb12 x50.2.2, mapR Value.string itV mb11 x50.1, hpS qb12 x50.2.1 (n0 + 1), blkR b47 [sV ⟨#[103, 101, 116]⟩, sV ot, .iface 71 (iV 5)] 87, blkR b48 [sV ⟨#[]⟩, sV ⟨#[]⟩, iV 0] 24, blkR b52 [sV (((lk x50.1 xk).getD ((⟨#[]⟩, ⟨#[]⟩, 0) : ByteArray × ByteArray × Int)).1), sV (((lk x50.1 xk).getD ((⟨#[]⟩, ⟨#[]⟩, 0) : ByteArray × ByteArray × Int)).2.1), iV (((lk x50.1 xk).getD ((⟨#[]⟩, ⟨#[]⟩, 0) : ByteArray × ByteArray × Int)).2.2)] 24, blkR b54 [sV ⟨#[103, 101, 116]⟩, sV ot, .iface 71 (iV 5)] 87, blkR b55 [sV ⟨#[]⟩, sV ⟨#[]⟩, iV 0] 24]) (by kernel_rfl) rfl (by kernel_rfl) (by kernel_rfl) ?_
                      refine Ex'.next ?_
                      refine Cd.condF (by kernel_rfl) ?_
                      refine Cd.skip ?_
                      refine Ex'.next ?_
                      refine Cd.seq ?_
                      refine Cd.region rfl ?_
                      refine Sq.vals [0, 1] (rest := [2, 3, 4]) [pV b10 0, pV b3 0] (fun w => by kernel_rfl) ?_
                      refine Sq.same [1] (l := [blkR b3 [sV xk, sV xv, iV xd] 24]) (o_load (i := 0) (v := sV xk) (by kernel_rfl) (by kernel_rfl) (by kernel_rfl)) (by kernel_rfl) rfl (by kernel_rfl) rfl ?_
                      refine Sq.same [2, 3, 4] (l := valL b10 mb11 qb12 x50.1 x50.2.1 x50.2.2 (n0 + 1)) (o_call (by kernel_rfl) Tryd.call14 (Tri.eq (l2 := valL b10 mb11 qb12 (del x50.1 xk) (hrem x50.2.1 xk) ((valDel x50.1 x50.2.1 x50.2.2 xk).2.2.1) (n0 + 1)) (r' := bV true) (val_Delete (n := n0 + 1) (M := x50.1) (S := x50.2.1) (bys := x50.2.2) xk (by omega) (by omega) (by first | assumption | exact hi.del _ | (unfold ItB; decide))) (by first | rw [valDel_in hin] | rfl) (by first | rw [valDel_in hin] | rfl))) (by kernel_rfl) rfl (by kernel_rfl) rfl ?_
                      refine Sq.vals [4] (rest := []) [bV true] (fun w => by kernel_rfl) ?_
                      refine Sq.done ?_
                      refine Ex'.next ?_
                      refine Cd.seq ?_
                      refine Cd.region rfl ?_
                      refine Sq.vals [0, 1] (rest := [2, 3, 4, 5, 6, 7, 8, 9, 10]) [pV b10 0, pV b3 0] (fun w => by kernel_rfl) ?_
                      refine Sq.same [1] (l := [blkR b3 [sV xk, sV xv, iV xd] 24]) (o_load (i := 0) (v := sV xk) (by kernel_rfl) (by kernel_rfl) (by kernel_rfl)) (by kernel_rfl) rfl (by kernel_rfl) rfl ?_
                      refine Sq.vals [3] (rest := [4, 5, 6, 7, 8, 9, 10]) [iV nw] (fun w => by kernel_rfl) ?_
                      refine Sq.ex [2, 3, 4] (l := [valB b10 mb11 qb12 ((valDel x50.1 x50.2.1 x50.2.2 xk).2.2.1), mapR Value.string itV mb11 (del x50.1 xk), hpS qb12 (hrem x50.2.1 xk) (n0 + 1)]) (o_call (by kernel_rfl) Tryd.call12 (val_GetBad (n := n0 + 1) (M := del x50.1 xk) (S := hrem x50.2.1 xk) (bys := (valDel x50.1 x50.2.1 x50.2.2 xk).2.2.1) xk nw (getOk_del hP.nd))) (by kernel_rfl) rfl (by kernel_rfl) (fun _ => Nat.le_of_ble_eq_true (by kernel_rfl)) ?_; rintro b56 _
                      refine Sq.vals [5, 6, 7] (rest := [8, 9, 10]) [.tuple #[.agg #[sV ⟨#[]⟩, sV ⟨#[]⟩, iV 0], .iface 83 (pV b56 0)], .agg #[sV ⟨#[]⟩, sV ⟨#[]⟩, iV 0], .iface 83 (pV b56 0)] (fun w => by kernel_rfl) ?_
                      refine Sq.ex [] (l := []) (o_new [sV ⟨#[]⟩, sV ⟨#[]⟩, iV 0] (fun w => by kernel_rfl)) (by kernel_rfl) rfl (by kernel_rfl) (fun _ => Nat.zero_le _) ?_; intro b57 _
                      refine Sq.same [11] (l := [blkR b57 [sV ⟨#[]⟩, sV ⟨#[]⟩, iV 0] 24]) (o_store (i := 0) (v := .agg #[sV ⟨#[]⟩, sV ⟨#[]⟩, iV 0]) (by kernel_rfl) (by kernel_rfl) (by kernel_rfl) (by kernel_rfl) (by kernel_rfl)) (by kernel_rfl) rfl (by kernel_rfl) rfl ?_
                      refine Sq.vals [10] (rest := []) [.iface 83 (pV b56 0)] (fun w => by kernel_rfl) ?_
                      refine Sq.done ?_
                      refine Ex'.next ?_
                      refine Cd.seq ?_
                      refine Cd.region rfl ?_
                      refine Sq.vals [0, 1, 2] (rest := [3, 4, 5, 6, 7, 8, 9]) [pV b10 0, sV ot, iV nw] (fun w => by kernel_rfl) ?_
                      refine Sq.ex [2, 3, 4] (l := [valB b10 mb11 qb12 ((valDel x50.1 x50.2.1 x50.2.2 xk).2.2.1), mapR Value.string itV mb11 (del x50.1 xk), hpS qb12 (hrem x50.2.1 xk) (n0 + 1)]) (o_call (by kernel_rfl) Tryd.call12 (val_GetBad (n := n0 + 1) (M := del x50.1 xk) (S := hrem x50.2.1 xk) (bys := (valDel x50.1 x50.2.1 x50.2.2 xk).2.2.1) ot nw (fun q => h20 ((getOk_congr hot2).1 q)))) (by kernel_rfl) rfl (by kernel_rfl) (fun _ => Nat.le_of_ble_eq_true (by kernel_rfl)) ?_; rintro b58 _
                      refine Sq.vals [4, 5, 6] (rest := [7, 8, 9]) [.tuple #[.agg #[sV ⟨#[]⟩, sV ⟨#[]⟩, iV 0], .iface 83 (pV b58 0)], .agg #[sV ⟨#[]⟩, sV ⟨#[]⟩, iV 0], .iface 83 (pV b58 0)] (fun w => by kernel_rfl) ?_
                      refine Sq.ex [] (l := []) (o_new [sV ⟨#[]⟩, sV ⟨#[]⟩, iV 0] (fun w => by kernel_rfl)) (by kernel_rfl) rfl (by kernel_rfl) (fun _ => Nat.zero_le _) ?_; intro b59 _
                      refine Sq.same [13] (l := [blkR b59 [sV ⟨#[]⟩, sV ⟨#[]⟩, iV 0] 24]) (o_store (i := 0) (v := .agg #[sV ⟨#[]⟩, sV ⟨#[]⟩, iV 0]) (by kernel_rfl) (by kernel_rfl) (by kernel_rfl) (by kernel_rfl) (by kernel_rfl)) (by kernel_rfl) rfl (by kernel_rfl) rfl ?_
                      refine Sq.vals [9] (rest := []) [.iface 83 (pV b58 0)] (fun w => by kernel_rfl) ?_
                      refine Sq.done ?_
                      refine Ex'.next ?_
                      refine Cd.seq ?_
                      refine Cd.sub (subB_spec [2, 3, 5, 9, 11, 12, 151, 152, 153, 154, 155, 21, 157, 158, 159, 160, 161, 156, 162, 163, 22, 23, 165, 166, 167, 168, 164, 169, 170, 24, 25]) ?_
                      refine Cd.plan [0, 1, 3, 7, 15, 31, 63, 63, 255, 511, 1023, 2047, 4095, 2047, 10239, 32767, 65535, 131071] [(6, [(13, false, 0)]), (7, [(6, false, 0)])] [] [] [] [fun g => bV true, fun g => bV true, fun g => .iface 83 (pV b56 0), fun g => bV true, fun g => bV true, fun g => bV true, fun g => .agg #[sV ⟨#[]⟩, sV ⟨#[]⟩, iV 0], fun g => .agg #[sV ⟨#[]⟩, sV ⟨#[]⟩, iV 0], fun g => bV true, fun g => bV true, fun g => bV true, fun g => .iface 83 (pV b58 0), fun g => bV false, fun g => .iface 83 (pV b47 0), fun g => bV false, fun g => bV true, fun g => bV true, fun g => bV true] (by kernel_rfl) (by kernel_rfl) rfl (trivial) ?_ ?_
                      · exact ⟨ob_val fun g w => by kernel_rfl, ob_val fun g w => by kernel_rfl, ob_val fun g w => by kernel_rfl, ob_val fun g w => by kernel_rfl, ob_val fun g w => by kernel_rfl, ob_val fun g w => by kernel_rfl, ob_s (l := fun g => [blkR b59 [sV ⟨#[]⟩, sV ⟨#[]⟩, iV 0] 24]) (l' := fun g => [blkR b59 [sV ⟨#[]⟩, sV ⟨#[]⟩, iV 0] 24]) (v := fun g => .agg #[sV ⟨#[]⟩, sV ⟨#[]⟩, iV 0]) (fun g => o_loadN (i := 0) [sV ⟨#[]⟩, sV ⟨#[]⟩, iV 0] (by kernel_rfl) (by kernel_rfl) (by kernel_rfl)) (fun g => by kernel_rfl), ob_s (l := fun g => [blkR b48 [sV ⟨#[]⟩, sV ⟨#[]⟩, iV 0] 24]) (l' := fun g => [blkR b48 [sV ⟨#[]⟩, sV ⟨#[]⟩, iV 0] 24]) (v := fun g => .agg #[sV ⟨#[]⟩, sV ⟨#[]⟩, iV 0]) (fun g => o_loadN (i := 0) [sV ⟨#[]⟩, sV ⟨#[]⟩, iV 0] (by kernel_rfl) (by kernel_rfl) (by kernel_rfl)) (fun g => by kernel_rfl), ob_val fun g w => by kernel_rfl, ob_val fun g w => by kernel_rfl, ob_val fun g w => by kernel_rfl, ob_val fun g w => by kernel_rfl, ob_val fun g w => by kernel_rfl, ob_val fun g w => by kernel_rfl, ob_val fun g w => by kernel_rfl, ob_val fun g w => by kernel_rfl, ob_val fun g w => by kernel_rfl, ob_val fun g w => by kernel_rfl, trivial⟩
                      intro g
                      refine Ex'.sub (subB_spec [8]) ?_
                      refine Ex'.as [0, 1, 2, 3, 4, 5, 6, 7, 8, 9, 10, 11, 12, 13] (σ' := [(8, bV true)]) (Γ' := [oldR w0, blkR b3 [sV xk, sV xv, iV xd] 24, valB b10 mb11 qb12 ((valDel x50.1 x50.2.1 x50.2.2 xk).2.2.1), mapR Value.string itV mb11 (del x50.1 xk), hpS qb12 (hrem x50.2.1 xk) (n0 + 1), blkR b47 [sV ⟨#[103, 101, 116]⟩, sV ot, .iface 71 (iV 5)] 87, blkR b48 [sV ⟨#[]⟩, sV ⟨#[]⟩, iV 0] 24, blkR b52 [sV (((lk x50.1 xk).getD ((⟨#[]⟩, ⟨#[]⟩, 0) : ByteArray × ByteArray × Int)).1), sV (((lk x50.1 xk).getD ((⟨#[]⟩, ⟨#[]⟩, 0) : ByteArray × ByteArray × Int)).2.1), iV (((lk x50.1 xk).getD ((⟨#[]⟩, ⟨#[]⟩, 0) : ByteArray × ByteArray × Int)).2.2)] 24, blkR b54 [sV ⟨#[103, 101, 116]⟩, sV ot, .iface 71 (iV 5)] 87, blkR b55 [sV ⟨#[]⟩, sV ⟨#[]⟩, iV 0] 24, blkR b56 [sV ⟨#[103, 101, 116]⟩, sV xk, .iface 71 (iV 5)] 87, blkR b57 [sV ⟨#[]⟩, sV ⟨#[]⟩, iV 0] 24, blkR b58 [sV ⟨#[103, 101, 116]⟩, sV ot, .iface 71 (iV 5)] 87, blkR b59 [sV ⟨#[]⟩, sV ⟨#[]⟩, iV 0] 24]) (by kernel_rfl) rfl (by kernel_rfl) (by kernel_rfl) ?_
                      refine Ex'.next ?_
                      refine Cd.ret ?_
                      refine Ex'.ret Tryd.results3 (RVs.tmp (v := bV true) (by kernel_rfl) (RVs.nil)) (fun w hw => ?_)
                      exact ⟨_, ⟨rfl, by kernel_rfl⟩, hw⟩
                    ·
                      refine Sq.vals [4, 5, 6, 7, 8, 9] (rest := []) [undef, undef, undef, undef, bV false, bV false] (fun w => by kernel_rfl) ?_
                      refine Sq.done ?_
                      refine Ex'.next ?_
                      refine Cd.seq ?_
                      refine Cd.seq ?_
                      refine Cd.region rfl ?_
                      refine Sq.vals [0, 1, 2, 3, 4, 5, 6, 7] (rest := [8, 9, 10, 11, 12]) [.nilIface, bV false, bV false, bV false, bV false, bV false, bV true, bV true] (fun w => by kernel_rfl) ?_
                      refine Sq.same [7] (l := [blkR b52 [sV (((lk x50.1 xk).getD ((⟨#[]⟩, ⟨#[]⟩, 0) : ByteArray × ByteArray × Int)).1), sV (((lk x50.1 xk).getD ((⟨#[]⟩, ⟨#[]⟩, 0) : ByteArray × ByteArray × Int)).2.1), iV (((lk x50.1 xk).getD ((⟨#[]⟩, ⟨#[]⟩, 0) : ByteArray × ByteArray × Int)).2.2)] 24]) (o_loadN (i := 0) [sV (((lk x50.1 xk).getD ((⟨#[]⟩, ⟨#[]⟩, 0) : ByteArray × ByteArray × Int)).1), sV (((lk x50.1 xk).getD ((⟨#[]⟩, ⟨#[]⟩, 0) : ByteArray × ByteArray × Int)).2.1), iV (((lk x50.1 xk).getD ((⟨#[]⟩, ⟨#[]⟩, 0) : ByteArray × ByteArray × Int)).2.2)] (by kernel_rfl) (by kernel_rfl) (by kernel_rfl)) (by kernel_rfl) rfl (by kernel_rfl) rfl ?_
                      refine Sq.same [1] (l := [blkR b3 [sV xk, sV xv, iV xd] 24]) (o_loadN (i := 0) [sV xk, sV xv, iV xd] (by kernel_rfl) (by kernel_rfl) (by kernel_rfl)) (by kernel_rfl) rfl (by kernel_rfl) rfl ?_
                      refine Sq.v (r := bV (decide (¬ (((lk x50.1 xk).getD ((⟨#[]⟩, ⟨#[]⟩, 0) : ByteArray × ByteArray × Int)).1 = xk ∧ ((lk x50.1 xk).getD ((⟨#[]⟩, ⟨#[]⟩, 0) : ByteArray × ByteArray × Int)).2.1 = xv ∧ ((lk x50.1 xk).getD ((⟨#[]⟩, ⟨#[]⟩, 0) : ByteArray × ByteArray × Int)).2.2 = xd)))) (o_eqItem_ne (((lk x50.1 xk).getD ((⟨#[]⟩, ⟨#[]⟩, 0) : ByteArray × ByteArray × Int)).1) xk (((lk x50.1 xk).getD ((⟨#[]⟩, ⟨#[]⟩, 0) : ByteArray × ByteArray × Int)).2.1) xv (((lk x50.1 xk).getD ((⟨#[]⟩, ⟨#[]⟩, 0) : ByteArray × ByteArray × Int)).2.2) xd (by kernel_rfl) (by kernel_rfl)) rfl (by kernel_rfl) ?_
                      refine Sq.re 132 rfl (vF (show ¬ (¬ (((lk x50.1 xk).getD ((⟨#[]⟩, ⟨#[]⟩, 0) : ByteArray × ByteArray × Int)).1 = xk ∧ ((lk x50.1 xk).getD ((⟨#[]⟩, ⟨#[]⟩, 0) : ByteArray × ByteArray × Int)).2.1 = xv ∧ ((lk x50.1 xk).getD ((⟨#[]⟩, ⟨#[]⟩, 0) : ByteArray × ByteArray × Int)).2.2 = xd)) from fun z => z (by rw [hlk]; exact ⟨rfl, rfl, rfl⟩))) ?_
                      refine Sq.vals [11, 12] (rest := []) [bV false, bV false] (fun w => by kernel_rfl) ?_
                      refine Sq.done ?_
                      refine Ex'.next ?_
                      refine Cd.condF (by kernel_rfl) ?_
                      refine Cd.skip ?_
                      refine Ex'.next ?_
                      refine Cd.seq ?_
                      refine Cd.region rfl ?_
                      refine Sq.vals [0, 1, 2] (rest := [3, 4, 5, 6, 7, 8, 9]) [pV b10 0, sV ot, iV nw] (fun w => by kernel_rfl) ?_
                      refine Sq.ex [2, 3, 4] (l := [valB b10 mb11 qb12 x50.2.2, mapR Value.string itV mb11 x50.1, hpS qb12 x50.2.1 (n0 + 1)]) (o_call (by kernel_rfl) Tryd.call12 (val_GetBad (n := n0 + 1) (M := x50.1) (S := x50.2.1) (bys := x50.2.2) ot nw (fun q => h20 ((getOk_congr hot).1 q)))) (by kernel_rfl) rfl (by kernel_rfl) (fun _ => Nat.le_of_ble_eq_true (by kernel_rfl)) ?_; rintro b60 _
                      refine Sq.vals [4, 5, 6] (rest := [7, 8, 9]) [.tuple #[.agg #[sV ⟨#[]⟩, sV ⟨#[]⟩, iV 0], .iface 83 (pV b60 0)], .agg #[sV ⟨#[]⟩, sV ⟨#[]⟩, iV 0], .iface 83 (pV b60 0)] (fun w => by kernel_rfl) ?_
                      refine Sq.ex [] (l := []) (o_new [sV ⟨#[]⟩, sV ⟨#[]⟩, iV 0] (fun w => by kernel_rfl)) (by kernel_rfl) rfl (by kernel_rfl) (fun _ => Nat.zero_le _) ?_; intro b61 _
                      refine Sq.same [9] (l := [blkR b61 [sV ⟨#[]⟩, sV ⟨#[]⟩, iV 0] 24]) (o_store (i := 0) (v := .agg #[sV ⟨#[]⟩, sV ⟨#[]⟩, iV 0]) (by kernel_rfl) (by kernel_rfl) (by kernel_rfl) (by kernel_rfl) (by kernel_rfl)) (by kernel_rfl) rfl (by kernel_rfl) rfl ?_
                      refine Sq.vals [9] (rest := []) [.iface 83 (pV b60 0)] (fun w => by kernel_rfl) ?_
                      refine Sq.done ?_
                      refine Ex'.next ?_
                      refine Cd.seq ?_
                      refine Cd.seq ?_
                      refine Cd.plan [0, 0, 3, 7, 15, 31, 15, 79, 255, 511] [(0, [(9, false, 0)]), (1, [(6, false, 0)])] [] [] [] [fun g => .agg #[sV ⟨#[]⟩, sV ⟨#[]⟩, iV 0], fun g => .agg #[sV ⟨#[]⟩, sV ⟨#[]⟩, iV 0], fun g => bV false, fun g => bV false, fun g => .iface 83 (pV b60 0), fun g => bV false, fun g => .iface 83 (pV b47 0), fun g => bV false, fun g => bV false, fun g => bV false] (by kernel_rfl) (by kernel_rfl) rfl (trivial) ?_ ?_
                      · exact ⟨ob_s (l := fun g => [blkR b61 [sV ⟨#[]⟩, sV ⟨#[]⟩, iV 0] 24]) (l' := fun g => [blkR b61 [sV ⟨#[]⟩, sV ⟨#[]⟩, iV 0] 24]) (v := fun g => .agg #[sV ⟨#[]⟩, sV ⟨#[]⟩, iV 0]) (fun g => o_loadN (i := 0) [sV ⟨#[]⟩, sV ⟨#[]⟩, iV 0] (by kernel_rfl) (by kernel_rfl) (by kernel_rfl)) (fun g => by kernel_rfl), ob_s (l := fun g => [blkR b48 [sV ⟨#[]⟩, sV ⟨#[]⟩, iV 0] 24]) (l' := fun g => [blkR b48 [sV ⟨#[]⟩, sV ⟨#[]⟩, iV 0] 24]) (v := fun g => .agg #[sV ⟨#[]⟩, sV ⟨#[]⟩, iV 0]) (fun g => o_loadN (i := 0) [sV ⟨#[]⟩, sV ⟨#[]⟩, iV 0] (by kernel_rfl) (by kernel_rfl) (by kernel_rfl)) (fun g => by kernel_rfl), ob_val fun g w => by kernel_rfl, ob_val fun g w => by kernel_rfl, ob_val fun g w => by kernel_rfl, ob_val fun g w => by kernel_rfl, ob_val fun g w => by kernel_rfl, ob_val fun g w => by kernel_rfl, ob_val fun g w => by kernel_rfl, ob_val fun g w => by kernel_rfl, trivial⟩
                      intro g
                      refine Ex'.sub (subB_spec [2, 3, 5, 8, 9, 11, 12, 151]) ?_
                      refine Ex'.as [0, 1, 2, 3, 4, 5, 6, 7, 8, 9] (σ' := [(2, sV ot), (3, iV nw), (5, pV b3 0), (8, bV false), (9, pV b10 0), (11, pV b48 0), (12, .iface 83 (pV b47 0)), (151, bV false)]) (Γ' := [oldR w0, blkR b3 [sV xk, sV xv, iV xd] 24, valB b10 mb11 qb12 x50.2.2, mapR Value.string itV mb11 x50.1, hpS qb12 x50.2.1 (n0 + 1), blkR b47 [sV ⟨#[103, 101, 116]⟩, sV ot, .iface 71 (iV 5)] 87, blkR b48 [sV ⟨#[]⟩, sV ⟨#[]⟩, iV 0] 24, blkR b52 [sV (((lk x50.1 xk).getD ((⟨#[]⟩, ⟨#[]⟩, 0) : ByteArray × ByteArray × Int)).1), sV (((lk x50.1 xk).getD ((⟨#[]⟩, ⟨#[]⟩, 0) : ByteArray × ByteArray × Int)).2.1), iV (((lk x50.1 xk).getD ((⟨#[]⟩, ⟨#[]⟩, 0) : ByteArray × ByteArray × Int)).2.2)] 24, blkR b60 [sV ⟨#[103, 101, 116]⟩, sV ot, .iface 71 (iV 5)] 87, blkR b61 [sV ⟨#[]⟩, sV ⟨#[]⟩, iV 0] 24]) (by kernel_rfl) rfl (by kernel_rfl) (by kernel_rfl) ?_
                      refine Ex'.next ?_
                      refine Cd.condF (by kernel_rfl) ?_
                      refine Cd.skip ?_
                      refine Ex'.next ?_
                      refine Cd.seq ?_
                      refine Cd.region rfl ?_
                      refine Sq.vals [0, 1] (rest := [2, 3, 4]) [pV b10 0, pV b3 0] (fun w => by kernel_rfl) ?_
                      refine Sq.same [1] (l := [blkR b3 [sV xk, sV xv, iV xd] 24]) (o_load (i := 0) (v := sV xk) (by kernel_rfl) (by kernel_rfl) (by kernel_rfl)) (by kernel_rfl) rfl (by kernel_rfl) rfl ?_
                      refine Sq.same [2, 3, 4] (l := valL b10 mb11 qb12 x50.1 x50.2.1 x50.2.2 (n0 + 1)) (o_call (by kernel_rfl) Tryd.call14 (Tri.eq (l2 := valL b10 mb11 qb12 (del x50.1 xk) (hrem x50.2.1 xk) ((valDel x50.1 x50.2.1 x50.2.2 xk).2.2.1) (n0 + 1)) (r' := bV true) (val_Delete (n := n0 + 1) (M := x50.1) (S := x50.2.1) (bys := x50.2.2) xk (by omega) (by omega) (by first | assumption | exact hi.del _ | (unfold ItB; decide))) (by first | rw [valDel_in hin] | rfl) (by first | rw [valDel_in hin] | rfl))) (by kernel_rfl) rfl (by kernel_rfl) rfl ?_
                      refine Sq.vals [4] (rest := []) [bV true] (fun w => by kernel_rfl) ?_
                      refine Sq.done ?_
                      refine Ex'.next ?_
                      refine Cd.seq ?_
                      refine Cd.region rfl ?_
                      refine Sq.vals [0, 1] (rest := [2, 3, 4, 5, 6, 7, 8, 9, 10]) [pV b10 0, pV b3 0] (fun w => by kernel_rfl) ?_
                      refine Sq.same [1] (l := [blkR b3 [sV xk, sV xv, iV xd] 24]) (o_load (i := 0) (v := sV xk) (by kernel_rfl) (by kernel_rfl) (by kernel_rfl)) (by kernel_rfl) rfl (by kernel_rfl) rfl ?_
                      refine Sq.vals [3] (rest := [4, 5, 6, 7, 8, 9, 10]) [iV nw] (fun w => by kernel_rfl) ?_
                      refine Sq.ex [2, 3, 4] (l := [valB b10 mb11 qb12 ((valDel x50.1 x50.2.1 x50.2.2 xk).2.2.1), mapR Value.string itV mb11 (del x50.1 xk), hpS qb12 (hrem x50.2.1 xk) (n0 + 1)]) (o_call (by kernel_rfl) Tryd.call12 (val_GetBad (n := n0 + 1) (M := del x50.1 xk) (S := hrem x50.2.1 xk) (bys := (valDel x50.1 x50.2.1 x50.2.2 xk).2.2.1) xk nw (getOk_del hP.nd))) (by kernel_rfl) rfl (by kernel_rfl) (fun _ => Nat.le_of_ble_eq_true (by kernel_rfl)) ?_; rintro b62 _
                      refine Sq.vals [5, 6, 7] (rest := [8, 9, 10]) [.tuple #[.agg #[sV ⟨#[]⟩, sV ⟨#[]⟩, iV 0], .iface 83 (pV b62 0)], .agg #[sV ⟨#[]⟩, sV ⟨#[]⟩, iV 0], .iface 83 (pV b62 0)] (fun w => by kernel_rfl) ?_
                      refine Sq.ex [] (l := []) (o_new [sV ⟨#[]⟩, sV ⟨#[]⟩, iV 0] (fun w => by kernel_rfl)) (by kernel_rfl) rfl (by kernel_rfl) (fun _ => Nat.zero_le _) ?_; intro b63 _
                      refine Sq.same [11] (l := [blkR b63 [sV ⟨#[]⟩, sV ⟨#[]⟩, iV 0] 24]) (o_store (i := 0) (v := .agg #[sV ⟨#[]⟩, sV ⟨#[]⟩, iV 0]) (by kernel_rfl) (by kernel_rfl) (by kernel_rfl) (by kernel_rfl) (by kernel_rfl)) (by kernel_rfl) rfl (by kernel_rfl) rfl ?_
                      refine Sq.vals [10] (rest := []) [.iface 83 (pV b62 0)] (fun w => by kernel_rfl) ?_
                      refine Sq.done ?_
                      refine Ex'.next ?_
                      refine Cd.seq ?_
                      refine Cd.region rfl ?_
                      refine Sq.vals [0, 1, 2] (rest := [3, 4, 5, 6, 7, 8, 9]) [pV b10 0, sV ot, iV nw] (fun w => by kernel_rfl) ?_
                      refine Sq.ex [2, 3, 4] (l := [valB b10 mb11 qb12 ((valDel x50.1 x50.2.1 x50.2.2 xk).2.2.1), mapR Value.string itV mb11 (del x50.1 xk), hpS qb12 (hrem x50.2.1 xk) (n0 + 1)]) (o_call (by kernel_rfl) Tryd.call12 (val_GetBad (n := n0 + 1) (M := del x50.1 xk) (S := hrem x50.2.1 xk) (bys := (valDel x50.1 x50.2.1 x50.2.2 xk).2.2.1) ot nw (fun q => h20 ((getOk_congr hot2).1 q)))) (by kernel_rfl) rfl (by kernel_rfl) (fun _ => Nat.le_of_ble_eq_true (by kernel_rfl)) ?_; rintro b64 _
                      refine Sq.vals [4, 5, 6] (rest := [7, 8, 9]) [.tuple #[.agg #[sV ⟨#[]⟩, sV ⟨#[]⟩, iV 0], .iface 83 (pV b64 0)], .agg #[sV ⟨#[]⟩, sV ⟨#[]⟩, iV 0], .iface 83 (pV b64 0)] (fun w => by kernel_rfl) ?_
                      refine Sq.ex [] (l := []) (o_new [sV ⟨#[]⟩, sV ⟨#[]⟩, iV 0] (fun w => by kernel_rfl)) (by kernel_rfl) rfl (by kernel_rfl) (fun _ => Nat.zero_le _) ?_; intro b65 _
                      refine Sq.same [13] (l := [blkR b65 [sV ⟨#[]⟩, sV ⟨#[]⟩, iV 0] 24]) (o_store (i := 0) (v := .agg #[sV ⟨#[]⟩, sV ⟨#[]⟩, iV 0]) (by kernel_rfl) (by kernel_rfl) (by kernel_rfl) (by kernel_rfl) (by kernel_rfl)) (by kernel_rfl) rfl (by kernel_rfl) rfl ?_
                      refine Sq.vals [9] (rest := []) [.iface 83 (pV b64 0)] (fun w => by kernel_rfl) ?_
                      refine Sq.done ?_
                      refine Ex'.next ?_
                      refine Cd.seq ?_
                      refine Cd.sub (subB_spec [2, 3, 5, 9, 11, 12, 151, 152, 153, 154, 155, 21, 157, 158, 159, 160, 161, 156, 162, 163, 22, 23, 165, 166, 167, 168, 164, 169, 170, 24, 25]) ?_
                      refine Cd.plan [0, 1, 3, 7, 15, 31, 63, 63, 255, 511, 1023, 2047, 4095, 2047, 10239, 32767, 65535, 131071] [(6, [(13, false, 0)]), (7, [(6, false, 0)])] [] [] [] [fun g => bV true, fun g => bV true, fun g => .iface 83 (pV b62 0), fun g => bV true, fun g => bV true, fun g => bV true, fun g => .agg #[sV ⟨#[]⟩, sV ⟨#[]⟩, iV 0], fun g => .agg #[sV ⟨#[]⟩, sV ⟨#[]⟩, iV 0], fun g => bV true, fun g => bV true, fun g => bV true, fun g => .iface 83 (pV b64 0), fun g => bV false, fun g => .iface 83 (pV b47 0), fun g => bV false, fun g => bV true, fun g => bV true, fun g => bV true] (by kernel_rfl) (by kernel_rfl) rfl (trivial) ?_ ?_
                      · exact ⟨ob_val fun g w => by kernel_rfl, ob_val fun g w => by kernel_rfl, ob_val fun g w => by kernel_rfl, ob_val fun g w => by kernel_rfl, ob_val fun g w => by kernel_rfl, ob_val fun g w => by kernel_rfl, ob_s (l := fun g => [blkR b65 [sV ⟨#[]⟩, sV ⟨#[]⟩, iV 0] 24]) (l' := fun g => [blkR b65 [sV ⟨#[]⟩, sV ⟨#[]⟩, iV 0] 24]) (v := fun g => .agg #[sV ⟨#[]⟩, sV ⟨#[]⟩, iV 0]) (fun g => o_loadN (i := 0) [sV ⟨#[]⟩, sV ⟨#[]⟩, iV 0] (by kernel_rfl) (by kernel_rfl) (by kernel_rfl)) (fun g => by kernel_rfl), ob_s (l := fun g => [blkR b48 [sV ⟨#[]⟩, sV ⟨#[]⟩, iV 0] 24]) (l' := fun g => [blkR b48 [sV ⟨#[]⟩, sV ⟨#[]⟩, iV 0] 24]) (v := fun g => .agg #[sV ⟨#[]⟩, sV ⟨#[]⟩, iV 0]) (fun g => o_loadN (i := 0) [sV ⟨#[]⟩, sV ⟨#[]⟩, iV 0] (by kernel_rfl) (by kernel_rfl) (by kernel_rfl)) (fun g => by kernel_rfl), ob_val fun g w => by kernel_rfl, ob_val fun g w => by kernel_rfl, ob_val fun g w => by kernel_rfl, ob_val fun g w => by kernel_rfl, ob_val fun g w => by kernel_rfl, ob_val fun g w => by kernel_rfl, ob_val fun g w => by kernel_rfl, ob_val fun g w => by kernel_rfl, ob_val fun g w => by kernel_rfl, ob_val fun g w => by kernel_rfl, trivial⟩
                      intro g
                      refine Ex'.sub (subB_spec [8]) ?_
                      refine Ex'.as [0, 1, 2, 3, 4, 5, 6, 7, 8, 9, 10, 11, 12, 13] (σ' := [(8, bV true)]) (Γ' := [oldR w0, blkR b3 [sV xk, sV xv, iV xd] 24, valB b10 mb11 qb12 ((valDel x50.1 x50.2.1 x50.2.2 xk).2.2.1), mapR Value.string itV mb11 (del x50.1 xk), hpS qb12 (hrem x50.2.1 xk) (n0 + 1), blkR b47 [sV ⟨#[103, 101, 116]⟩, sV ot, .iface 71 (iV 5)] 87, blkR b48 [sV ⟨#[]⟩, sV ⟨#[]⟩, iV 0] 24, blkR b52 [sV (((lk x50.1 xk).getD ((⟨#[]⟩, ⟨#[]⟩, 0) : ByteArray × ByteArray × Int)).1), sV (((lk x50.1 xk).getD ((⟨#[]⟩, ⟨#[]⟩, 0) : ByteArray × ByteArray × Int)).2.1), iV (((lk x50.1 xk).getD ((⟨#[]⟩, ⟨#[]⟩, 0) : ByteArray × ByteArray × Int)).2.2)] 24, blkR b60 [sV ⟨#[103, 101, 116]⟩, sV ot, .iface 71 (iV 5)] 87, blkR b61 [sV ⟨#[]⟩, sV ⟨#[]⟩, iV 0] 24, blkR b62 [sV ⟨#[103, 101, 116]⟩, sV xk, .iface 71 (iV 5)] 87, blkR b63 [sV ⟨#[]⟩, sV ⟨#[]⟩, iV 0] 24, blkR b64 [sV ⟨#[103, 101, 116]⟩, sV ot, .iface 71 (iV 5)] 87, blkR b65 [sV ⟨#[]⟩, sV ⟨#[]⟩, iV 0] 24]) (by kernel_rfl) rfl (by kernel_rfl) (by kernel_rfl) ?_
                      refine Ex'.next ?_
                      refine Cd.ret ?_
                      refine Ex'.ret Tryd.results3 (RVs.tmp (v := bV true) (by kernel_rfl) (RVs.nil)) (fun w hw => ?_)
                      exact ⟨_, ⟨rfl, by kernel_rfl⟩, hw⟩
                  ·
                    have hgx : ¬ (xd ≤ 0 ∨ nw < xd) := fun q => h51 ((getOk_of hlk).2 q)
                    refine Sq.ex [2, 3, 4] (l := [valB b10 mb11 qb12 x50.2.2, mapR Value.string itV mb11 x50.1, hpS qb12 x50.2.1 (n0 + 1)]) (o_call (by kernel_rfl) Tryd.call12 (val_GetBad (n := n0 + 1) (M := x50.1) (S := x50.2.1) (bys := x50.2.2) xk nw h51)) (by kernel_rfl) rfl (by kernel_rfl) (fun _ => Nat.le_of_ble_eq_true (by kernel_rfl)) ?_; rintro b66 _
                    refine Sq.vals [5, 6, 7] (rest := [8, 9, 10]) [.tuple #[.agg #[sV ⟨#[]⟩, sV ⟨#[]⟩, iV 0], .iface 83 (pV b66 0)], .agg #[sV ⟨#[]⟩, sV ⟨#[]⟩, iV 0], .iface 83 (pV b66 0)] (fun w => by kernel_rfl) ?_
                    refine Sq.ex [] (l := []) (o_new [sV ⟨#[]⟩, sV ⟨#[]⟩, iV 0] (fun w => by kernel_rfl)) (by kernel_rfl) rfl (by kernel_rfl) (fun _ => Nat.zero_le _) ?_; intro b67 _
                    refine Sq.same [8] (l := [blkR b67 [sV ⟨#[]⟩, sV ⟨#[]⟩, iV 0] 24]) (o_store (i := 0) (v := .agg #[sV ⟨#[]⟩, sV ⟨#[]⟩, iV 0]) (by kernel_rfl) (by kernel_rfl) (by kernel_rfl) (by kernel_rfl) (by kernel_rfl)) (by kernel_rfl) rfl (by kernel_rfl) rfl ?_
                    refine Sq.vals [10] (rest := []) [.iface 83 (pV b66 0)] (fun w => by kernel_rfl) ?_
                    refine Sq.done ?_
                    refine Ex'.next ?_
                    refine Cd.seq ?_
                    refine Cd.region rfl ?_
                    refine Sq.vals [0] (rest := [1, 2, 3, 4, 5, 6, 7, 8, 9]) [pV b3 2] (fun w => by kernel_rfl) ?_
                    refine Sq.same [1] (l := [blkR b3 [sV xk, sV xv, iV xd] 24]) (o_load (i := 2) (v := iV xd) (by kernel_rfl) (by kernel_rfl) (by kernel_rfl)) (by kernel_rfl) rfl (by kernel_rfl) rfl ?_
                    refine Sq.v (r := bV (decide (xd > 0))) (pureV (by kernel_rfl) rfl fun w => by kernel_rfl) rfl (by kernel_rfl) ?_
                    refine Sq.re 115 rfl (vT (by omega)) ?_
                    refine Sq.vals [3, 4] (rest := [5, 6, 7, 8, 9]) [bV true, pV b3 2] (fun w => by kernel_rfl) ?_
                    refine Sq.same [1] (l := [blkR b3 [sV xk, sV xv, iV xd] 24]) (o_load (i := 2) (v := iV xd) (by kernel_rfl) (by kernel_rfl) (by kernel_rfl)) (by kernel_rfl) rfl (by kernel_rfl) rfl ?_
                    refine Sq.vals [6] (rest := [7, 8, 9]) [iV nw] (fun w => by kernel_rfl) ?_
                    refine Sq.v (r := bV (decide (xd ≤ nw))) (pureV (by kernel_rfl) rfl fun w => by kernel_rfl) rfl (by kernel_rfl) ?_
                    refine Sq.re 120 rfl (vT (by omega)) ?_
                    refine Sq.vals [8, 9] (rest := []) [bV true, bV true] (fun w => by kernel_rfl) ?_
                    refine Sq.done ?_
                    refine Ex'.next ?_
                    refine Cd.seq ?_
                    refine Cd.seq ?_
                    refine Cd.region rfl ?_
                    refine Sq.vals [0, 1, 2, 3, 4, 5, 6, 7, 8, 9, 10, 11, 12] (rest := []) [.iface 83 (pV b66 0), bV true, bV true, bV false, bV false, bV true, bV false, bV false, undef, undef, undef, bV false, bV false] (fun w => by kernel_rfl) ?_
                    refine Sq.done ?_
                    refine Ex'.next ?_
                    refine Cd.condF (by kernel_rfl) ?_
                    refine Cd.skip ?_
                    refine Ex'.next ?_
                    refine Cd.seq ?_
                    refine Cd.region rfl ?_
                    refine Sq.vals [0, 1, 2] (rest := [3, 4, 5, 6, 7, 8, 9]) [pV b10 0, sV ot, iV nw] (fun w => by kernel_rfl) ?_
                    refine Sq.ex [2, 3, 4] (l := [valB b10 mb11 qb12 x50.2.2, mapR Value.string itV mb11 x50.1, hpS qb12 x50.2.1 (n0 + 1)]) (o_call (by kernel_rfl) Tryd.call12 (val_GetBad (n := n0 + 1) (M := x50.1) (S := x50.2.1) (bys := x50.2.2) ot nw (fun q => h20 ((getOk_congr hot).1 q)))) (by kernel_rfl) rfl (by kernel_rfl) (fun _ => Nat.le_of_ble_eq_true (by kernel_rfl)) ?_; rintro b68 _
                    refine Sq.vals [4, 5, 6] (rest := [7, 8, 9]) [.tuple #[.agg #[sV ⟨#[]⟩, sV ⟨#[]⟩, iV 0], .iface 83 (pV b68 0)], .agg #[sV ⟨#[]⟩, sV ⟨#[]⟩, iV 0], .iface 83 (pV b68 0)] (fun w => by kernel_rfl) ?_
                    refine Sq.ex [] (l := []) (o_new [sV ⟨#[]⟩, sV ⟨#[]⟩, iV 0] (fun w => by kernel_rfl)) (by kernel_rfl) rfl (by kernel_rfl) (fun _ => Nat.zero_le _) ?_; intro b69 _
                    refine Sq.same [10] (l := [blkR b69 [sV ⟨#[]⟩, sV ⟨#[]⟩, iV 0] 24]) (o_store (i := 0) (v := .agg #[sV ⟨#[]⟩, sV ⟨#[]⟩, iV 0]) (by kernel_rfl) (by kernel_rfl) (by kernel_rfl) (by kernel_rfl) (by kernel_rfl)) (by kernel_rfl) rfl (by kernel_rfl) rfl ?_
                    refine Sq.vals [9] (rest := []) [.iface 83 (pV b68 0)] (fun w => by kernel_rfl) ?_
                    refine Sq.done ?_
                    refine Ex'.next ?_
                    refine Cd.seq ?_
                    refine Cd.seq ?_
                    refine Cd.plan [0, 0, 3, 7, 15, 31, 15, 79, 255, 511] [(0, [(10, false, 0)]), (1, [(6, false, 0)])] [] [] [] [fun g => .agg #[sV ⟨#[]⟩, sV ⟨#[]⟩, iV 0], fun g => .agg #[sV ⟨#[]⟩, sV ⟨#[]⟩, iV 0], fun g => bV false, fun g => bV false, fun g => .iface 83 (pV b68 0), fun g => bV false, fun g => .iface 83 (pV b47 0), fun g => bV false, fun g => bV false, fun g => bV false] (by kernel_rfl) (by kernel_rfl) rfl (trivial) ?_ ?_
                    · exact ⟨ob_s (l := fun g => [blkR b69 [sV ⟨#[]⟩, sV ⟨#[]⟩, iV 0] 24]) (l' := fun g => [blkR b69 [sV ⟨#[]⟩, sV ⟨#[]⟩, iV 0] 24]) (v := fun g => .agg #[sV ⟨#[]⟩, sV ⟨#[]⟩, iV 0]) (fun g => o_loadN (i := 0) [sV ⟨#[]⟩, sV ⟨#[]⟩, iV 0] (by kernel_rfl) (by kernel_rfl) (by kernel_rfl)) (fun g => by kernel_rfl), ob_s (l := fun g => [blkR b48 [sV ⟨#[]⟩, sV ⟨#[]⟩, iV 0] 24]) (l' := fun g => [blkR b48 [sV ⟨#[]⟩, sV ⟨#[]⟩, iV 0] 24]) (v := fun g => .agg #[sV ⟨#[]⟩, sV ⟨#[]⟩, iV 0]) (fun g => o_loadN (i := 0) [sV ⟨#[]⟩, sV ⟨#[]⟩, iV 0] (by kernel_rfl) (by kernel_rfl) (by kernel_rfl)) (fun g => by kernel_rfl), ob_val fun g w => by kernel_rfl, ob_val fun g w => by kernel_rfl, ob_val fun g w => by kernel_rfl, ob_val fun g w => by kernel_rfl, ob_val fun g w => by kernel_rfl, ob_val fun g w => by kernel_rfl, ob_val fun g w => by kernel_rfl, ob_val fun g w => by kernel_rfl, trivial⟩
                    intro g
                    refine Ex'.sub (subB_spec [2, 3, 5, 8, 9, 11, 12, 151]) ?_
                    refine Ex'.as [0, 1, 2, 3, 4, 5, 6, 7, 8, 9, 10] (σ' := [(2, sV ot), (3, iV nw), (5, pV b3 0), (8, bV false), (9, pV b10 0), (11, pV b48 0), (12, .iface 83 (pV b47 0)), (151, bV false)]) (Γ' := [oldR w0, blkR b3 [sV xk, sV xv, iV xd] 24, valB b10 mb11 qb12 x50.2.2, mapR Value.string itV mb11 x50.1, hpS qb12 x50.2.1 (n0 + 1), blkR b47 [sV ⟨#[103, 101, 116]⟩, sV ot, .iface 71 (iV 5)] 87, blkR b48 [sV ⟨#[]⟩, sV ⟨#[]⟩, iV 0] 24, blkR b66 [sV ⟨#[103, 101, 116]⟩, sV xk, .iface 71 (iV 5)] 87, blkR b67 [sV ⟨#[]⟩, sV ⟨#[]⟩, iV 0] 24, blkR b68 [sV ⟨#[103, 101, 116]⟩, sV ot, .iface 71 (iV 5)] 87, blkR b69 [sV ⟨#[]⟩, sV ⟨#[]⟩, iV 0] 24]) (by kernel_rfl) rfl (by kernel_rfl) (by kernel_rfl) ?_
                    refine Ex'.next ?_
                    refine Cd.condF (by kernel_rfl) ?_
                    refine Cd.skip ?_
                    refine Ex'.next ?_
                    refine Cd.seq ?_
                    refine Cd.region rfl ?_
                    refine Sq.vals [0, 1] (rest := [2, 3, 4]) [pV b10 0, pV b3 0] (fun w => by kernel_rfl) ?_
                    refine Sq.same [1] (l := [blkR b3 [sV xk, sV xv, iV xd] 24]) (o_load (i := 0) (v := sV xk) (by kernel_rfl) (by kernel_rfl) (by kernel_rfl)) (by kernel_rfl) rfl (by kernel_rfl) rfl ?_
                    refine Sq.same [2, 3, 4] (l := valL b10 mb11 qb12 x50.1 x50.2.1 x50.2.2 (n0 + 1)) (o_call (by kernel_rfl) Tryd.call14 (Tri.eq (l2 := valL b10 mb11 qb12 (del x50.1 xk) (hrem x50.2.1 xk) ((valDel x50.1 x50.2.1 x50.2.2 xk).2.2.1) (n0 + 1)) (r' := bV true) (val_Delete (n := n0 + 1) (M := x50.1) (S := x50.2.1) (bys := x50.2.2) xk (by omega) (by omega) (by first | assumption | exact hi.del _ | (unfold ItB; decide))) (by first | rw [valDel_in hin] | rfl) (by first | rw [valDel_in hin] | rfl))) (by kernel_rfl) rfl (by kernel_rfl) rfl ?_
                    refine Sq.vals [4] (rest := []) [bV true] (fun w => by kernel_rfl) ?_
                    refine Sq.done ?_
                    refine Ex'.next ?_
                    refine Cd.seq ?_
                    refine Cd.region rfl ?_
                    refine Sq.vals [0, 1] (rest := [2, 3, 4, 5, 6, 7, 8, 9, 10]) [pV b10 0, pV b3 0] (fun w => by kernel_rfl) ?_
                    refine Sq.same [1] (l := [blkR b3 [sV xk, sV xv, iV xd] 24]) (o_load (i := 0) (v := sV xk) (by kernel_rfl) (by kernel_rfl) (by kernel_rfl)) (by kernel_rfl) rfl (by kernel_rfl) rfl ?_
                    refine Sq.vals [3] (rest := [4, 5, 6, 7, 8, 9, 10]) [iV nw] (fun w => by kernel_rfl) ?_
                    refine Sq.ex [2, 3, 4] (l := [valB b10 mb11 qb12 ((valDel x50.1 x50.2.1 x50.2.2 xk).2.2.1), mapR Value.string itV mb11 (del x50.1 xk), hpS qb12 (hrem x50.2.1 xk) (n0 + 1)]) (o_call (by kernel_rfl) Tryd.call12 (val_GetBad (n := n0 + 1) (M := del x50.1 xk) (S := hrem x50.2.1 xk) (bys := (valDel x50.1 x50.2.1 x50.2.2 xk).2.2.1) xk nw (getOk_del hP.nd))) (by kernel_rfl) rfl (by kernel_rfl) (fun _ => Nat.le_of_ble_eq_true (by kernel_rfl)) ?_; rintro b70 _
                    refine Sq.vals [5, 6, 7] (rest := [8, 9, 10]) [.tuple #[.agg #[sV ⟨#[]⟩, sV ⟨#[]⟩, iV 0], .iface 83 (pV b70 0)], .agg #[sV ⟨#[]⟩, sV ⟨#[]⟩, iV 0], .iface 83 (pV b70 0)] (fun w => by kernel_rfl) ?_
                    refine Sq.ex [] (l := []) (o_new [sV ⟨#[]⟩, sV ⟨#[]⟩, iV 0] (fun w => by kernel_rfl)) (by kernel_rfl) rfl (by kernel_rfl) (fun _ => Nat.zero_le _) ?_; intro b71 _
                    refine Sq.same [12] (l := [blkR b71 [sV ⟨#[]⟩, sV ⟨#[]⟩, iV 0] 24]) (o_store (i := 0) (v := .agg #[sV ⟨#[]⟩, sV ⟨#[]⟩, iV 0]) (by kernel_rfl) (by kernel_rfl) (by kernel_rfl) (by kernel_rfl) (by kernel_rfl)) (by kernel_rfl) rfl (by kernel_rfl) rfl ?_
                    refine Sq.vals [10] (rest := []) [.iface 83 (pV b70 0)] (fun w => by kernel_rfl) ?_
                    refine Sq.done ?_
                    refine Ex'.next ?_
                    refine Cd.seq ?_
                    refine Cd.region rfl ?_
                    refine Sq.vals [0, 1, 2] (rest := [3, 4, 5, 6, 7, 8, 9]) [pV b10 0, sV ot, iV nw] (fun w => by kernel_rfl) ?_
                    refine Sq.ex [2, 3, 4] (l := [valB b10 mb11 qb12 ((valDel x50.1 x50.2.1 x50.2.2 xk).2.2.1), mapR Value.string itV mb11 (del x50.1 xk), hpS qb12 (hrem x50.2.1 xk) (n0 + 1)]) (o_call (by kernel_rfl) Tryd.call12 (val_GetBad (n := n0 + 1) (M := del x50.1 xk) (S := hrem x50.2.1 xk) (bys := (valDel x50.1 x50.2.1 x50.2.2 xk).2.2.1) ot nw (fun q => h20 ((getOk_congr hot2).1 q)))) (by kernel_rfl) rfl (by kernel_rfl) (fun _ => Nat.le_of_ble_eq_true (by kernel_rfl)) ?_; rintro b72 _
                    refine Sq.vals [4, 5, 6] (rest := [7, 8, 9]) [.tuple #[.agg #[sV ⟨#[]⟩, sV ⟨#[]⟩, iV 0], .iface 83 (pV b72 0)], .agg #[sV ⟨#[]⟩, sV ⟨#[]⟩, iV 0], .iface 83 (pV b72 0)] (fun w => by kernel_rfl) ?_
                    refine Sq.ex [] (l := []) (o_new [sV ⟨#[]⟩, sV ⟨#[]⟩, iV 0] (fun w => by kernel_rfl)) (by kernel_rfl) rfl (by kernel_rfl) (fun _ => Nat.zero_le _) ?_; intro b73 _
                    refine Sq.same [14] (l := [blkR b73 [sV ⟨#[]⟩, sV ⟨#[]⟩, iV 0] 24]) (o_store (i := 0) (v := .agg #[sV ⟨#[]⟩, sV ⟨#[]⟩, iV 0]) (by kernel_rfl) (by kernel_rfl) (by kernel_rfl) (by kernel_rfl) (by kernel_rfl)) (by kernel_rfl) rfl (by kernel_rfl) rfl ?_
                    refine Sq.vals [9] (rest := []) [.iface 83 (pV b72 0)] (fun w => by kernel_rfl) ?_
                    refine Sq.done ?_
                    refine Ex'.next ?_
                    refine Cd.seq ?_
                    refine Cd.sub (subB_spec [2, 3, 5, 9, 11, 12, 151, 152, 153, 154, 155, 21, 157, 158, 159, 160, 161, 156, 162, 163, 22, 23, 165, 166, 167, 168, 164, 169, 170, 24, 25]) ?_
                    refine Cd.plan [0, 1, 3, 7, 15, 31, 63, 63, 255, 511, 1023, 2047, 4095, 2047, 10239, 32767, 65535, 131071] [(6, [(14, false, 0)]), (7, [(6, false, 0)])] [] [] [] [fun g => bV true, fun g => bV true, fun g => .iface 83 (pV b70 0), fun g => bV true, fun g => bV true, fun g => bV true, fun g => .agg #[sV ⟨#[]⟩, sV ⟨#[]⟩, iV 0], fun g => .agg #[sV ⟨#[]⟩, sV ⟨#[]⟩, iV 0], fun g => bV true, fun g => bV true, fun g => bV true, fun g => .iface 83 (pV b72 0), fun g => bV false, fun g => .iface 83 (pV b47 0), fun g => bV false, fun g => bV true, fun g => bV true, fun g => bV true] (by kernel_rfl) (by kernel_rfl) rfl (trivial) ?_ ?_
                    · exact ⟨ob_val fun g w => by kernel_rfl, ob_val fun g w => by kernel_rfl, ob_val fun g w => by kernel_rfl, ob_val fun g w => by kernel_rfl, ob_val fun g w => by kernel_rfl, ob_val fun g w => by kernel_rfl, ob_s (l := fun g => [blkR b73 [sV ⟨#[]⟩, sV ⟨#[]⟩, iV 0] 24]) (l' := fun g => [blkR b73 [sV ⟨#[]⟩, sV ⟨#[]⟩, iV 0] 24]) (v := fun g => .agg #[sV ⟨#[]⟩, sV ⟨#[]⟩, iV 0]) (fun g => o_loadN (i := 0) [sV ⟨#[]⟩, sV ⟨#[]⟩, iV 0] (by kernel_rfl) (by kernel_rfl) (by kernel_rfl)) (fun g => by kernel_rfl), ob_s (l := fun g => [blkR b48 [sV ⟨#[]⟩, sV ⟨#[]⟩, iV 0] 24]) (l' := fun g => [blkR b48 [sV ⟨#[]⟩, sV ⟨#[]⟩, iV 0] 24]) (v := fun g => .agg #[sV ⟨#[]⟩, sV ⟨#[]⟩, iV 0]) (fun g => o_loadN (i := 0) [sV ⟨#[]⟩, sV ⟨#[]⟩, iV 0] (by kernel_rfl) (by kernel_rfl) (by kernel_rfl)) (fun g => by kernel_rfl), ob_val fun g w => by kernel_rfl, ob_val fun g w => by kernel_rfl, ob_val fun g w => by kernel_rfl, ob_val fun g w => by kernel_rfl, ob_val fun g w => by kernel_rfl, ob_val fun g w => by kernel_rfl, ob_val fun g w => by kernel_rfl, ob_val fun g w => by kernel_rfl, ob_val fun g w => by kernel_rfl, ob_val fun g w => by kernel_rfl, trivial⟩
                    intro g
                    refine Ex'.sub (subB_spec [8]) ?_
                    refine Ex'.as [0, 1, 2, 3, 4, 5, 6, 7, 8, 9, 10, 11, 12, 13, 14] (σ' := [(8, bV true)]) (Γ' := [oldR w0, blkR b3 [sV xk, sV xv, iV xd] 24, valB b10 mb11 qb12 ((valDel x50.1 x50.2.1 x50.2.2 xk).2.2.1), mapR Value.string itV mb11 (del x50.1 xk), hpS qb12 (hrem x50.2.1 xk) (n0 + 1), blkR b47 [sV ⟨#[103, 101, 116]⟩, sV ot, .iface 71 (iV 5)] 87, blkR b48 [sV ⟨#[]⟩, sV ⟨#[]⟩, iV 0] 24, blkR b66 [sV ⟨#[103, 101, 116]⟩, sV xk, .iface 71 (iV 5)] 87, blkR b67 [sV ⟨#[]⟩, sV ⟨#[]⟩, iV 0] 24, blkR b68 [sV ⟨#[103, 101, 116]⟩, sV ot, .iface 71 (iV 5)] 87, blkR b69 [sV ⟨#[]⟩, sV ⟨#[]⟩, iV 0] 24, blkR b70 [sV ⟨#[103, 101, 116]⟩, sV xk, .iface 71 (iV 5)] 87, blkR b71 [sV ⟨#[]⟩, sV ⟨#[]⟩, iV 0] 24, blkR b72 [sV ⟨#[103, 101, 116]⟩, sV ot, .iface 71 (iV 5)] 87, blkR b73 [sV ⟨#[]⟩, sV ⟨#[]⟩, iV 0] 24]) (by kernel_rfl) rfl (by kernel_rfl) (by kernel_rfl) ?_
                    refine Ex'.next ?_
                    refine Cd.ret ?_
                    refine Ex'.ret Tryd.results3 (RVs.tmp (v := bV true) (by kernel_rfl) (RVs.nil)) (fun w hw => ?_)
                    exact ⟨_, ⟨rfl, by kernel_rfl⟩, hw⟩
                ·
                  refine Sq.ex [2, 3, 4] (l := [valB b10 mb11 qb12 bys0, mapR Value.string itV mb11 M0, hpS qb12 S0 n0]) (o_call (by kernel_rfl) Tryd.call11 (val_PutBad (n := n0) (M := M0) (S := S0) (bys := bys0) xk xv xd h49)) (by kernel_rfl) rfl (by kernel_rfl) (fun _ => Nat.le_of_ble_eq_true (by kernel_rfl)) ?_; rintro b74 _
                  refine Sq.vals [3] (rest := []) [bV true] (fun w => by kernel_rfl) ?_
                  refine Sq.done ?_
                  refine Ex'.next ?_
                  refine Cd.condT (by kernel_rfl) ?_
                  refine Cd.seq ?_
                  refine Cd.region rfl ?_
                  refine Sq.vals [0, 1] (rest := [2, 3, 4, 5, 6, 7, 8, 9, 10]) [pV b10 0, pV b3 0] (fun w => by kernel_rfl) ?_
                  refine Sq.same [1] (l := [blkR b3 [sV xk, sV xv, iV xd] 24]) (o_load (i := 0) (v := sV xk) (by kernel_rfl) (by kernel_rfl) (by kernel_rfl)) (by kernel_rfl) rfl (by kernel_rfl) rfl ?_
                  refine Sq.vals [3] (rest := [4, 5, 6, 7, 8, 9, 10]) [iV nw] (fun w => by kernel_rfl) ?_
                  by_cases h75 : getOk M0 xk nw
                  ·
                    refine Sq.same [2, 3, 4] (l := [valB b10 mb11 qb12 bys0, mapR Value.string itV mb11 M0, hpS qb12 S0 n0]) (o_call (by kernel_rfl) Tryd.call12 (val_GetOk (n := n0) (M := M0) (S := S0) (bys := bys0) xk nw h75)) (by kernel_rfl) rfl (by kernel_rfl) rfl ?_
                    refine Sq.vals [5, 6, 7] (rest := [8, 9, 10]) [.tuple #[.agg #[sV (((lk M0 xk).getD ((⟨#[]⟩, ⟨#[]⟩, 0) : ByteArray × ByteArray × Int)).1), sV (((lk M0 xk).getD ((⟨#[]⟩, ⟨#[]⟩, 0) : ByteArray × ByteArray × Int)).2.1), iV (((lk M0 xk).getD ((⟨#[]⟩, ⟨#[]⟩, 0) : ByteArray × ByteArray × Int)).2.2)], .nilIface], .agg #[sV (((lk M0 xk).getD ((⟨#[]⟩, ⟨#[]⟩, 0) : ByteArray × ByteArray × Int)).1), sV (((lk M0 xk).getD ((⟨#[]⟩, ⟨#[]⟩, 0) : ByteArray × ByteArray × Int)).2.1), iV (((lk M0 xk).getD ((⟨#[]⟩, ⟨#[]⟩, 0) : ByteArray × ByteArray × Int)).2.2)], .nilIface] (fun w => by kernel_rfl) ?_
                    refine Sq.ex [] (l := []) (o_new [sV ⟨#[]⟩, sV ⟨#[]⟩, iV 0] (fun w => by kernel_rfl)) (by kernel_rfl) rfl (by kernel_rfl) (fun _ => Nat.zero_le _) ?_; intro b76 _
                    refine Sq.same [8] (l := [blkR b76 [sV ⟨#[]⟩, sV ⟨#[]⟩, iV 0] 24]) (o_store (i := 0) (v := .agg #[sV (((lk M0 xk).getD ((⟨#[]⟩, ⟨#[]⟩, 0) : ByteArray × ByteArray × Int)).1), sV (((lk M0 xk).getD ((⟨#[]⟩, ⟨#[]⟩, 0) : ByteArray × ByteArray × Int)).2.1), iV (((lk M0 xk).getD ((⟨#[]⟩, ⟨#[]⟩, 0) : ByteArray × ByteArray × Int)).2.2)]) (by kernel_rfl) (by kernel_rfl) (by kernel_rfl) (by kernel_rfl) (by kernel_rfl)) (by kernel_rfl) rfl (by kernel_rfl) rfl ?_
                    refine Sq.vals [10] (rest := []) [.nilIface] (fun w => by kernel_rfl) ?_
                    refine Sq.done ?_
                    refine Ex'.next ?_
                    refine Cd.seq ?_
                    refine Cd.region rfl ?_
                    refine Sq.vals [0] (rest := [1, 2, 3, 4, 5, 6, 7, 8, 9, 10, 11, 12, 13, 14]) [pV b10 0] (fun w => by kernel_rfl) ?_
                    refine Sq.same [2, 3, 4] (l := valL b10 mb11 qb12 M0 S0 bys0 n0) (o_call (by kernel_rfl) Tryd.call13 (val_Len (n := n0) (M := M0) (S := S0) (bys := bys0) (by omega))) (by kernel_rfl) rfl (by kernel_rfl) rfl ?_
                    refine Sq.vals [2] (rest := [3, 4, 5, 6, 7, 8, 9, 10, 11, 12, 13, 14]) [iV (valLen M0 S0 bys0)] (fun w => by kernel_rfl) ?_
                    refine Sq.v (r := bV (decide (valLen M0 S0 bys0 = valLen M0 S0 bys0))) (o_eqI (k := .i64) (a := valLen M0 S0 bys0) (b := valLen M0 S0 bys0) (by kernel_rfl) (by kernel_rfl)) rfl (by kernel_rfl) ?_
                    refine Sq.re 94 rfl (vT rfl) ?_
                    refine Sq.vals [4, 5, 6, 7, 8, 9, 10, 11, 12, 13, 14] (rest := []) [bV true, .nilIface, bV true, bV true, undef, undef, undef, undef, bV true, bV true, bV true] (fun w => by kernel_rfl) ?_
                    refine Sq.done ?_
                    refine Ex'.next ?_
                    refine Cd.ret ?_
                    refine Ex'.thenRet ?_
                    refine Ex'.ret Tryd.results3 (RVs.tmp (v := bV true) (by kernel_rfl) (RVs.nil)) (fun w hw => ?_)
                    exact ⟨_, ⟨rfl, by kernel_rfl⟩, hw⟩
                  ·
                    refine Sq.ex [2, 3, 4] (l := [valB b10 mb11 qb12 bys0, mapR Value.string itV mb11 M0, hpS qb12 S0 n0]) (o_call (by kernel_rfl) Tryd.call12 (val_GetBad (n := n0) (M := M0) (S := S0) (bys := bys0) xk nw h75)) (by kernel_rfl) rfl (by kernel_rfl) (fun _ => Nat.le_of_ble_eq_true (by kernel_rfl)) ?_; rintro b77 _
                    refine Sq.vals [5, 6, 7] (rest := [8, 9, 10]) [.tuple #[.agg #[sV ⟨#[]⟩, sV ⟨#[]⟩, iV 0], .iface 83 (pV b77 0)], .agg #[sV ⟨#[]⟩, sV ⟨#[]⟩, iV 0], .iface 83 (pV b77 0)] (fun w => by kernel_rfl) ?_
                    refine Sq.ex [] (l := []) (o_new [sV ⟨#[]⟩, sV ⟨#[]⟩, iV 0] (fun w => by kernel_rfl)) (by kernel_rfl) rfl (by kernel_rfl) (fun _ => Nat.zero_le _) ?_; intro b78 _
                    refine Sq.same [9] (l := [blkR b78 [sV ⟨#[]⟩, sV ⟨#[]⟩, iV 0] 24]) (o_store (i := 0) (v := .agg #[sV ⟨#[]⟩, sV ⟨#[]⟩, iV 0]) (by kernel_rfl) (by kernel_rfl) (by kernel_rfl) (by kernel_rfl) (by kernel_rfl)) (by kernel_rfl) rfl (by kernel_rfl) rfl ?_
                    refine Sq.vals [10] (rest := []) [.iface 83 (pV b77 0)] (fun w => by kernel_rfl) ?_
                    refine Sq.done ?_
                    refine Ex'.next ?_
                    refine Cd.seq ?_
                    refine Cd.region rfl ?_
                    refine Sq.vals [0] (rest := [1, 2, 3, 4, 5, 6, 7, 8, 9, 10, 11, 12, 13, 14]) [pV b10 0] (fun w => by kernel_rfl) ?_
                    refine Sq.same [2, 3, 4] (l := valL b10 mb11 qb12 M0 S0 bys0 n0) (o_call (by kernel_rfl) Tryd.call13 (val_Len (n := n0) (M := M0) (S := S0) (bys := bys0) (by omega))) (by kernel_rfl) rfl (by kernel_rfl) rfl ?_
                    refine Sq.vals [2] (rest := [3, 4, 5, 6, 7, 8, 9, 10, 11, 12, 13, 14]) [iV (valLen M0 S0 bys0)] (fun w => by kernel_rfl) ?_
                    refine Sq.v (r := bV (decide (valLen M0 S0 bys0 = valLen M0 S0 bys0))) (o_eqI (k := .i64) (a := valLen M0 S0 bys0) (b := valLen M0 S0 bys0) (by kernel_rfl) (by kernel_rfl)) rfl (by kernel_rfl) ?_
                    refine Sq.re 94 rfl (vT rfl) ?_
                    refine Sq.vals [4, 5, 6, 7, 8] (rest := [9, 10, 11, 12, 13, 14]) [bV true, .iface 83 (pV b77 0), bV false, bV false, pV b10 0] (fun w => by kernel_rfl) ?_
                    refine Sq.same [1] (l := [blkR b3 [sV xk, sV xv, iV xd] 24]) (o_loadN (i := 0) [sV xk, sV xv, iV xd] (by kernel_rfl) (by kernel_rfl) (by kernel_rfl)) (by kernel_rfl) rfl (by kernel_rfl) rfl ?_
                    refine Sq.ex [2, 3, 4] (l := [valB b10 mb11 qb12 bys0, mapR Value.string itV mb11 M0, hpS qb12 S0 n0]) (o_call (by kernel_rfl) Tryd.call11 (val_PutBad (n := n0) (M := M0) (S := S0) (bys := bys0) xk xv xd h49)) (by kernel_rfl) rfl (by kernel_rfl) (fun _ => Nat.le_of_ble_eq_true (by kernel_rfl)) ?_; rintro b79 _
                    refine Sq.vals [11, 12, 13, 14] (rest := []) [bV true, bV true, bV true, bV true] (fun w => by kernel_rfl) ?_
                    refine Sq.done ?_
                    refine Ex'.next ?_
                    refine Cd.ret ?_
                    refine Ex'.thenRet ?_
                    refine Ex'.ret Tryd.results3 (RVs.tmp (v := bV true) (by kernel_rfl) (RVs.nil)) (fun w hw => ?_)
                    exact ⟨_, ⟨rfl, by kernel_rfl⟩, hw⟩

theorem valueLatest_walk (v : Value) (ys : List VAct) (xk xv : ByteArray) (xd : Int) (ot : ByteArray) (nw : Int) (w : World) (h : Cells w (fun k => k < w.heap.size) v ys.length 5 (ys.flatMap VAct.cells)) (h1 : xk.size ≤ maxLen) (h2 : xv.size ≤ maxLen) (h3 : (Lit.int .i64 xd).wf = true) (h4 : ot.size ≤ maxLen) (h5 : (Lit.int .i64 nw).wf = true) (hg : errT w) :
    Calls Tryd.prog 3 #[v, .agg #[.string xk, .string xv, .int .i64 xd], .string ot, .int .i64 nw] w fun e w' => e = .returned (.bool true) ∧ Below w.heap.size w w' := by
  obtain ⟨a, cap, rfl, hl⟩ := RecsIn.shape (vscr_of h)
  exact law_of (valueLatest_tri hg (range64 h3) (range64 h5) (by omega) (vscr_of h))

end Go.Proofs.YtnijaeipkbpibaaDoor
