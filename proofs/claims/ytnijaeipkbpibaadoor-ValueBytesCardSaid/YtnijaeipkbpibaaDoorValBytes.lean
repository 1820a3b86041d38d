/- ValueBytes: its walk. -/
import Derived.Test.YtnijaeipkbpibaaDoorValW
import Derived.Test.YtnijaeipkbpibaaDoorErrsW
import Derived.Test.YtnijaeipkbpibaaDoorRefS
import Derived.Test.YtnijaeipkbpibaaDoorSepH
import Derived.Test.YtnijaeipkbpibaaDoorValPureE
import Derived.Test.YtnijaeipkbpibaaDoorValAwake
import Derived.Test.YtnijaeipkbpibaaDoorActsV
import Derived.Test.YtnijaeipkbpibaaDoorValEq
import Derived.Test.YtnijaeipkbpibaaDoorItemsW
set_option linter.unusedVariables false
namespace Go.Proofs.YtnijaeipkbpibaaDoor
open Go.RowKit Go.MapKept

set_option maxHeartbeats 8000000 in
set_option maxRecDepth 100000 in
theorem val_Clear {b mb qb n : Nat} {M : List (ByteArray × ByteArray × ByteArray × Int)} {S : List (KR ByteArray)} {bys : Int}  : Tri Tryd.prog 23 #[pV b 0] [valB b mb qb bys, mapR Value.string itV mb M, hpS qb S n] (PostE (fun _ : Nat => True) (fun _ => .tuple #[]) fun q => valL b mb q [] [] 0 0) := by
  refine Tri.enter (args := [pV b 0]) Tryd.func23 rfl rfl rfl (fun B wz => ?_)
  refine Cd.seq ?_
  refine Cd.region rfl ?_
  refine Sq.vals [0, 1, 2] (rest := [3, 4]) [pV b 0, pV b 0, pV b 0] (fun w => by kernel_rfl) ?_
  refine Sq.same [0] (l := [valB b mb qb bys]) (o_load (i := 0) (v := .map (some mb)) (by kernel_rfl) (by kernel_rfl) (by kernel_rfl)) (by kernel_rfl) rfl (by kernel_rfl) rfl ?_
  refine Sq.same [1] (l := [mapR Value.string itV mb M]) (o_clearMap (by kernel_rfl) Tryd.underlying61) (by kernel_rfl) rfl (by kernel_rfl) rfl ?_
  refine Sq.done ?_
  refine Ex'.next ?_
  refine Cd.seq ?_
  refine Cd.region rfl ?_
  refine Sq.vals [0] (rest := [1, 2, 3, 4]) [pV b 0] (fun w => by kernel_rfl) ?_
  refine Sq.ex [] (l := []) (o_call (by kernel_rfl) Tryd.call29 (hp_NewS)) (by kernel_rfl) rfl (by kernel_rfl) (fun _ => Nat.le_of_ble_eq_true (by kernel_rfl)) ?_; rintro b3 _
  refine Sq.vals [2, 3] (rest := [4]) [pV b 0, pV b 1] (fun w => by kernel_rfl) ?_
  refine Sq.same [0] (l := [valB b mb qb bys]) (o_store (i := 1) (v := pV b3 0) (by kernel_rfl) (by kernel_rfl) (by kernel_rfl) (by kernel_rfl) (by kernel_rfl)) (by kernel_rfl) rfl (by kernel_rfl) rfl ?_
  refine Sq.done ?_
  refine Ex'.next ?_
  refine Cd.region rfl ?_
  refine Sq.vals [0, 1, 2] (rest := [3]) [pV b 0, pV b 0, pV b 2] (fun w => by kernel_rfl) ?_
  refine Sq.same [0] (l := [valB b mb b3 bys]) (o_store (i := 2) (v := iV 0) (by kernel_rfl) (by kernel_rfl) (by kernel_rfl) (by kernel_rfl) (by kernel_rfl)) (by kernel_rfl) rfl (by kernel_rfl) rfl ?_
  refine Sq.done ?_
  refine Ex'.fin Tryd.results23 (RVs.nil) (fun w hw => ?_)
  exact ⟨_, ⟨b3, trivial, rfl, rfl⟩, hw.pickB [0, 1, 3] (by kernel_rfl) (by kernel_rfl) (by kernel_rfl)⟩

set_option maxHeartbeats 8000000 in
set_option maxRecDepth 100000 in
theorem valueBytes_tri {w0 : World} {a : Option Addr} {cap : Nat} {xs : List Act5} (hg : errT w0) (hl : xs.length ≤ 9223372036854775807) (hs : VScr w0 (.slice a xs.length cap) xs) : Tri Tryd.prog 7 #[.slice a xs.length cap] [oldR w0] (LawP w0) := by
  refine Tri.enter (args := [.slice a xs.length cap]) Tryd.func7 rfl rfl rfl (fun B wz => ?_)
  refine Cd.seq ?_
  refine Cd.region rfl ?_
  refine Sq.vals [0] (rest := []) [bV false] (fun w => by kernel_rfl) ?_
  refine Sq.done ?_
  refine Ex'.next ?_
  refine Cd.seq ?_
  refine Cd.seq ?_
  refine Cd.region rfl ?_
  refine Sq.same [0] (l := [oldR w0]) (o_call (by kernel_rfl) Tryd.call8 (val_awake hg)) (by kernel_rfl) rfl (by kernel_rfl) rfl ?_
  refine Sq.vals [1] (rest := []) [bV false] (fun w => by kernel_rfl) ?_
  refine Sq.done ?_
  refine Ex'.next ?_
  refine Cd.condF (by kernel_rfl) ?_
  refine Cd.skip ?_
  refine Ex'.next ?_
  refine Cd.seq ?_
  refine Cd.seq ?_
  refine Cd.region rfl ?_
  refine Sq.vals [0] (rest := [1, 2]) [.slice a xs.length cap] (fun w => by kernel_rfl) ?_
  refine Sq.ex [0] (l := [oldR w0]) (o_call (by kernel_rfl) Tryd.call9 (t_few hl hs)) (by kernel_rfl) rfl (by kernel_rfl) (fun _ => Nat.le_of_ble_eq_true (by kernel_rfl)) ?_; rintro fb1 hfew
  refine Sq.vals [2] (rest := []) [bV (!fb1)] (fun w => by kernel_rfl) ?_
  refine Sq.done ?_
  refine Ex'.next ?_
  refine Cd.cond (t := (!fb1)) (by kernel_rfl) (fun h2 => ?_) (fun h2 => ?_)
  ·
    refine Cd.seq ?_
    refine Cd.region rfl ?_
    refine Sq.vals [0] (rest := []) [bV true] (fun w => by kernel_rfl) ?_
    refine Sq.done ?_
    refine Ex'.next ?_
    refine Cd.ret ?_
    refine Ex'.thenRet ?_
    refine Ex'.ret Tryd.results7 (RVs.tmp (v := bV true) (by kernel_rfl) (RVs.nil)) (fun w hw => ?_)
    exact ⟨_, ⟨rfl, by kernel_rfl⟩, hw⟩
  ·
    have hf1 : xs.length ≤ 150 := hfew (by simpa using h2)
    refine Cd.skip ?_
    refine Ex'.next ?_
    refine Cd.seq ?_
    refine Cd.region rfl ?_
    refine Sq.ex [] (l := []) (o_call (by kernel_rfl) Tryd.call10 (Tri.ex (L' := fun x => valL x.1 x.2.1 x.2.2 ([] : List (ByteArray × ByteArray × ByteArray × Int)) ([] : List (KR ByteArray)) 0 0) (val_New) (fun x => rfl))) (by kernel_rfl) rfl (by kernel_rfl) (fun _ => Nat.le_of_ble_eq_true (by kernel_rfl)) ?_; rintro ⟨b3, mb4, qb5⟩ _
    refine Sq.vals [1] (rest := []) [pV b3 0] (fun w => by kernel_rfl) ?_
    refine Sq.done ?_
    refine Ex'.next ?_
    refine Cd.seq ?_
    refine Cd.seq ?_
    refine Cd.region rfl ?_
    refine Sq.vals [0, 1] (rest := []) [pV b3 0, bV false] (fun w => by kernel_rfl) ?_
    refine Sq.done ?_
    refine Ex'.next ?_
    refine Cd.condF (by kernel_rfl) ?_
    refine Cd.skip ?_
    refine Ex'.next ?_
    refine Cd.seq ?_
    refine Cd.seq ?_
    refine Cd.region rfl ?_
    refine Sq.vals [0] (rest := []) [iV 0] (fun w => by kernel_rfl) ?_
    refine Sq.done ?_
    refine Ex'.next ?_
    refine Cd.block ?_
    refine Cd.loop (ι := Nat × (List (ByteArray × ByteArray × ByteArray × Int)) × (List (KR ByteArray)) × Int × Nat) (fun ⟨k, M0, S0, bys0, n0⟩ => k ≤ xs.length ∧ VX M0 S0 bys0 ∧ M0.length ≤ k ∧ n0 ≤ k) (fun ⟨k, M0, S0, bys0, n0⟩ => xs.length - k) (fun ⟨k, M0, S0, bys0, n0⟩ => [(0, .slice a xs.length cap), (3, pV b3 0), (4, iV (k : Int))]) (fun ⟨k, M0, S0, bys0, n0⟩ => [oldR w0, valB b3 mb4 qb5 bys0, mapR Value.string itV mb4 M0, hpS qb5 S0 n0]) (0, ([] : List (ByteArray × ByteArray × ByteArray × Int)), ([] : List (KR ByteArray)), 0, 0) (⟨Nat.zero_le _, VX.new, Nat.le_refl _, Nat.le_refl _⟩) (subB_eq (l := [0, 3, 4]) (by kernel_rfl)) (fun w hw => hw.pickB [0, 1, 2, 3] (by kernel_rfl) (by kernel_rfl) (by kernel_rfl)) ?_
    rintro ⟨k, M0, S0, bys0, n0⟩ hL6
    try dsimp only at hL6 ⊢
    obtain ⟨hk, hV, hML, hn⟩ := hL6
    have hVi := hV.it; have hV0 := hV.b0; have hV1 := hV.b1; have hVe := hV.ends
    refine Cd.seq ?_
    refine Cd.seq ?_
    refine Cd.region rfl ?_
    refine Sq.vals [0, 1, 2, 3] (rest := []) [iV (k : Int), .slice a xs.length cap, iV (xs.length : Int), bV (decide ((k : Int) < (xs.length : Int)))] (fun w => by kernel_rfl) ?_
    refine Sq.done ?_
    refine Ex'.next ?_
    refine Cd.case (p := (k : Int) < (xs.length : Int)) (by kernel_rfl) (fun h7 => ?_) (fun h7 => ?_)
    ·
      obtain ⟨g8, off9, rfl⟩ := hs.addr (by omega)
      obtain ⟨kdk, kyk, txk, dlk, nwk, hgk, hwk, hrk⟩ := hs.at (k := k) (by omega)
      refine Cd.skip ?_
      refine Ex'.next ?_
      refine Cd.seq ?_
      refine Cd.block ?_
      refine Cd.join (ι := (List (ByteArray × ByteArray × ByteArray × Int)) × (List (KR ByteArray)) × Int × Nat) (fun ⟨M1, S1, bys1, n1⟩ => VX M1 S1 bys1 ∧ M1.length ≤ k + 1 ∧ n1 ≤ k + 1) (fun ⟨M1, S1, bys1, n1⟩ => [(0, .slice (some ⟨g8, off9, none⟩) xs.length cap), (3, pV b3 0), (4, iV (k : Int))]) (fun ⟨M1, S1, bys1, n1⟩ => [oldR w0, valB b3 mb4 qb5 bys1, mapR Value.string itV mb4 M1, hpS qb5 S1 n1]) ?_ ?_
      ·
        refine Cd.seq ?_
        refine Cd.region rfl ?_
        refine Sq.vals [0, 1] (rest := [2, 3, 4]) [.slice (some ⟨g8, off9, none⟩) xs.length cap, iV (k : Int)] (fun w => by kernel_rfl) ?_
        refine Sq.v (r := pV g8 (off9 + k * 5)) (o_idx (b := g8) (cap := cap) (e := 33) (off := off9) (n := xs.length) (kd := .i64) (q := (k : Int)) (i := k) (size := 5) (j := off9 + k * 5) (by kernel_rfl) (by kernel_rfl) (by rfl) (by omega) Tryd.underlying22 (by kernel_rfl) (by omega)) rfl (by kernel_rfl) ?_
        refine Sq.vals [3] (rest := [4]) [pV g8 (off9 + k * 5)] (fun w => by kernel_rfl) ?_
        refine Sq.same [0] (l := [oldR w0]) (o_loadOld (b := g8) (j := off9 + k * 5) (u := iV kdk) (by kernel_rfl) (by kernel_rfl) (hrk 0 _ rfl)) (by kernel_rfl) rfl (by kernel_rfl) rfl ?_
        refine Sq.done ?_
        refine Ex'.next ?_
        refine Cd.block ?_
        refine Cd.seq ?_
        refine Cd.region rfl ?_
        refine Sq.v (r := bV (decide (kdk = 2))) (o_eqI (k := .i64) (a := kdk) (b := 2) (by kernel_rfl) (by kernel_rfl)) rfl (by kernel_rfl) ?_
        refine Sq.vals [1] (rest := []) [bV (decide (kdk = 2))] (fun w => by kernel_rfl) ?_
        refine Sq.done ?_
        refine Ex'.next ?_
        refine Cd.case (p := kdk = 2) (by kernel_rfl) (fun h10 => ?_) (fun h10 => ?_)
        ·
          refine Cd.region rfl ?_
          refine Sq.vals [0, 1, 2] (rest := [3, 4, 5, 6, 7]) [pV b3 0, .slice (some ⟨g8, off9, none⟩) xs.length cap, iV (k : Int)] (fun w => by kernel_rfl) ?_
          refine Sq.v (r := pV g8 (off9 + k * 5)) (o_idx (b := g8) (cap := cap) (e := 33) (off := off9) (n := xs.length) (kd := .i64) (q := (k : Int)) (i := k) (size := 5) (j := off9 + k * 5) (by kernel_rfl) (by kernel_rfl) (by rfl) (by omega) Tryd.underlying22 (by kernel_rfl) (by omega)) rfl (by kernel_rfl) ?_
          refine Sq.vals [4, 5] (rest := [6, 7]) [pV g8 (off9 + k * 5 + 1), pV g8 (off9 + k * 5 + 1)] (fun w => by kernel_rfl) ?_
          refine Sq.same [0] (l := [oldR w0]) (o_loadOld (b := g8) (j := off9 + k * 5 + 1) (u := sV kyk) (by kernel_rfl) (by kernel_rfl) (hrk 1 _ rfl)) (by kernel_rfl) rfl (by kernel_rfl) rfl ?_
          refine Sq.same [1, 2, 3] (l := valL b3 mb4 qb5 M0 S0 bys0 n0) (o_call (by kernel_rfl) Tryd.call14 (val_Delete (n := n0) (M := M0) (S := S0) (bys := bys0) kyk (by omega) (by omega) (by exact hV.it))) (by kernel_rfl) rfl (by kernel_rfl) rfl ?_
          generalize hxx11 : valDel M0 S0 bys0 kyk = x11
          have hV2 : VX x11.1 x11.2.1 x11.2.2.1 := by rw [← hxx11]; exact (hV.del _).1
          have hL2 : x11.1.length ≤ k + 1 := by rw [← hxx11]; exact Nat.le_trans valDel_len (by omega)
          refine Sq.done ?_
          refine Ex'.blockNormal ?_
          refine Ex'.meet (x11.1, x11.2.1, x11.2.2.1, n0) ?_ (subB_eq (l := [0, 3, 4]) (by kernel_rfl)) (fun w hw => hw.pickB [0, 1, 2, 3] (by kernel_rfl) (by kernel_rfl) (by kernel_rfl))
          exact ⟨hV2, by omega, by omega⟩
        ·
          refine Cd.seq ?_
          refine Cd.region rfl ?_
          refine Sq.v (r := bV (decide (kdk = 3))) (o_eqI (k := .i64) (a := kdk) (b := 3) (by kernel_rfl) (by kernel_rfl)) rfl (by kernel_rfl) ?_
          refine Sq.vals [1] (rest := []) [bV (decide (kdk = 3))] (fun w => by kernel_rfl) ?_
          refine Sq.done ?_
          refine Ex'.next ?_
          refine Cd.case (p := kdk = 3) (by kernel_rfl) (fun h12 => ?_) (fun h12 => ?_)
          ·
            refine Cd.region rfl ?_
            refine Sq.vals [0, 1, 2] (rest := [3, 4, 5, 6]) [pV b3 0, .slice (some ⟨g8, off9, none⟩) xs.length cap, iV (k : Int)] (fun w => by kernel_rfl) ?_
            refine Sq.v (r := pV g8 (off9 + k * 5)) (o_idx (b := g8) (cap := cap) (e := 33) (off := off9) (n := xs.length) (kd := .i64) (q := (k : Int)) (i := k) (size := 5) (j := off9 + k * 5) (by kernel_rfl) (by kernel_rfl) (by rfl) (by omega) Tryd.underlying22 (by kernel_rfl) (by omega)) rfl (by kernel_rfl) ?_
            refine Sq.vals [4] (rest := [5, 6]) [pV g8 (off9 + k * 5 + 4)] (fun w => by kernel_rfl) ?_
            refine Sq.same [0] (l := [oldR w0]) (o_loadOld (b := g8) (j := off9 + k * 5 + 4) (u := iV nwk) (by kernel_rfl) (by kernel_rfl) (hrk 4 _ rfl)) (by kernel_rfl) rfl (by kernel_rfl) rfl ?_
            refine Sq.ex [1, 2, 3] (l := [valB b3 mb4 qb5 bys0, mapR Value.string itV mb4 M0, hpS qb5 S0 n0]) (o_call (by kernel_rfl) Tryd.call15 (val_Expire (n := n0) (M := M0) (S := S0) (bys := bys0) nwk (by omega) (by first | omega | (constructor <;> decide)) (by exact hV.it) (by exact hV.ends))) (by kernel_rfl) rfl (by kernel_rfl) (fun _ => Nat.le_of_ble_eq_true (by kernel_rfl)) ?_; rintro v13 _
            generalize hxx14 : valExp M0 S0 bys0 nwk = x14
            have hV2 : VX x14.1 x14.2.1 x14.2.2.1 := by rw [← hxx14]; exact (valExp_spec hV).vx
            have hL2 : x14.1.length ≤ k + 1 := by rw [← hxx14]; have := (valExp_spec (n := nwk) hV).len; omega
            refine Sq.fact (i := 4) (R := rowR 9 1 v13 ((x14.2.2.2).length) ((x14.2.2.2).map Value.string)) (by kernel_rfl) row_slice ?_; rintro ⟨a15, c16, rfl, hc16, hc16'⟩
            have hc16'' : c16 ≤ 9223372036854775807 := hc16'
            refine Sq.done ?_
            refine Ex'.blockNormal ?_
            refine Ex'.meet (x14.1, x14.2.1, x14.2.2.1, n0) ?_ (subB_eq (l := [0, 3, 4]) (by kernel_rfl)) (fun w hw => hw.pickB [0, 1, 2, 3] (by kernel_rfl) (by kernel_rfl) (by kernel_rfl))
            exact ⟨hV2, by omega, by omega⟩
          ·
            refine Cd.region rfl ?_
            refine Sq.vals [0, 1, 2] (rest := [3, 4, 5, 6]) [pV b3 0, .slice (some ⟨g8, off9, none⟩) xs.length cap, iV (k : Int)] (fun w => by kernel_rfl) ?_
            refine Sq.v (r := pV g8 (off9 + k * 5)) (o_idx (b := g8) (cap := cap) (e := 33) (off := off9) (n := xs.length) (kd := .i64) (q := (k : Int)) (i := k) (size := 5) (j := off9 + k * 5) (by kernel_rfl) (by kernel_rfl) (by rfl) (by omega) Tryd.underlying22 (by kernel_rfl) (by omega)) rfl (by kernel_rfl) ?_
            refine Sq.vals [4] (rest := [5, 6]) [pV g8 (off9 + k * 5 + 1)] (fun w => by kernel_rfl) ?_
            refine Sq.same [0] (l := [oldR w0]) (o_loadOldN (b := g8) (j := off9 + k * 5 + 1) [sV kyk, sV txk, iV dlk] (by kernel_rfl) (by kernel_rfl) (range_sub hrk 1 3)) (by kernel_rfl) rfl (by kernel_rfl) rfl ?_
            by_cases h17 : rightC kyk txk dlk = 0
            ·
              refine Sq.same [1, 2, 3] (l := valL b3 mb4 qb5 M0 S0 bys0 n0) (o_call (by kernel_rfl) Tryd.call11 (val_PutOk (n := n0) (n' := n0 + 1) (M := M0) (S := S0) (bys := bys0) kyk txk dlk (by omega) (by omega) (by omega) (by exact hV.it) (by exact h17))) (by kernel_rfl) rfl (by kernel_rfl) rfl ?_
              generalize hxx18 : valPut M0 S0 bys0 kyk txk dlk = x18
              have hV2 : VX x18.1 x18.2.1 x18.2.2 := by rw [← hxx18]; exact hV.put h17
              have hL2 : x18.1.length ≤ k + 1 := by have := valPut_len (M := M0) (S := S0) (bys := bys0) (k := kyk) (v := txk) (d := dlk); rw [hxx18] at this; omega
              refine Sq.done ?_
              refine Ex'.blockNormal ?_
              refine Ex'.meet (x18.1, x18.2.1, x18.2.2, n0 + 1) ?_ (subB_eq (l := [0, 3, 4]) (by kernel_rfl)) (fun w hw => hw.pickB [0, 1, 2, 3] (by kernel_rfl) (by kernel_rfl) (by kernel_rfl))
              exact ⟨hV2, by omega, by omega⟩
            ·
              refine Sq.ex [1, 2, 3] (l := [valB b3 mb4 qb5 bys0, mapR Value.string itV mb4 M0, hpS qb5 S0 n0]) (o_call (by kernel_rfl) Tryd.call11 (val_PutBad (n := n0) (M := M0) (S := S0) (bys := bys0) kyk txk dlk h17)) (by kernel_rfl) rfl (by kernel_rfl) (fun _ => Nat.le_of_ble_eq_true (by kernel_rfl)) ?_; rintro b19 _
              refine Sq.done ?_
              refine Ex'.blockNormal ?_
              refine Ex'.meet (M0, S0, bys0, n0) ?_ (subB_eq (l := [0, 3, 4]) (by kernel_rfl)) (fun w hw => hw.pickB [0, 1, 2, 3] (by kernel_rfl) (by kernel_rfl) (by kernel_rfl))
              exact ⟨hV, by omega, by omega⟩
      rintro ⟨M1, S1, bys1, n1⟩ hL20
      try dsimp only at hL20 ⊢
      obtain ⟨hV1, hM1, hn1⟩ := hL20
      refine Cd.seq ?_
      refine Cd.region rfl ?_
      refine Sq.vals [0] (rest := [1, 2]) [pV b3 0] (fun w => by kernel_rfl) ?_
      refine Sq.ex [1, 2, 3] (l := [valB b3 mb4 qb5 bys1, mapR Value.string itV mb4 M1, hpS qb5 S1 n1]) (o_call (by kernel_rfl) Tryd.call16 (val_Items (n := n1) (M := M1) (S := S1) (bys := bys1) (by first | omega | exact Nat.zero_le _))) (by kernel_rfl) rfl (by kernel_rfl) (fun _ => Nat.le_of_ble_eq_true (by kernel_rfl)) ?_; rintro ⟨wv, wl⟩ ⟨hpw, hqw⟩
      dsimp only at hpw hqw; have hlw := hpw.length_eq; rw [List.length_map] at hlw
      refine Sq.fact (i := 4) (R := rowR 24 3 wv wl.length (wl.flatMap it3)) (by kernel_rfl) row_slice ?_; rintro ⟨a21, c22, rfl, hc22, hc22'⟩
      have hc22'' : c22 ≤ 9223372036854775807 := hc22'
      refine Sq.vals [2] (rest := []) [.slice a21 wl.length c22] (fun w => by kernel_rfl) ?_
      refine Sq.done ?_
      refine Ex'.next ?_
      refine Cd.seq ?_
      refine Cd.region rfl ?_
      refine Sq.vals [0] (rest := []) [iV 0] (fun w => by kernel_rfl) ?_
      refine Sq.done ?_
      refine Ex'.next ?_
      refine Cd.seq ?_
      refine Cd.seq ?_
      refine Cd.region rfl ?_
      refine Sq.vals [0] (rest := []) [iV 0] (fun w => by kernel_rfl) ?_
      refine Sq.done ?_
      refine Ex'.next ?_
      refine Cd.block ?_
      refine Cd.loop (ι := Nat × Int) (fun ⟨j, sm⟩ => j ≤ wl.length ∧ sm = sumT wl j) (fun ⟨j, sm⟩ => wl.length - j) (fun ⟨j, sm⟩ => [(0, .slice (some ⟨g8, off9, none⟩) xs.length cap), (3, pV b3 0), (4, iV (k : Int)), (5, .slice a21 wl.length c22), (7, iV (j : Int)), (6, iV sm)]) (fun ⟨j, sm⟩ => [oldR w0, valB b3 mb4 qb5 bys1, mapR Value.string itV mb4 M1, hpS qb5 S1 n1, rowR 24 3 (.slice a21 wl.length c22) wl.length (wl.flatMap it3)]) (0, 0) (⟨Nat.zero_le _, rfl⟩) (subB_eq (l := [0, 3, 4, 5, 7, 6]) (by kernel_rfl)) (fun w hw => hw.pickB [0, 1, 2, 3, 4] (by kernel_rfl) (by kernel_rfl) (by kernel_rfl)) ?_
      rintro ⟨j, sm⟩ hL23
      try dsimp only at hL23 ⊢
      obtain ⟨hj, hsm⟩ := hL23
      have hsm2 := sumT_le hV1 hpw hj
      refine Cd.seq ?_
      refine Cd.seq ?_
      refine Cd.region rfl ?_
      refine Sq.vals [0, 1, 2, 3] (rest := []) [iV (j : Int), .slice a21 wl.length c22, iV (wl.length : Int), bV (decide ((j : Int) < (wl.length : Int)))] (fun w => by kernel_rfl) ?_
      refine Sq.done ?_
      refine Ex'.next ?_
      refine Cd.case (p := (j : Int) < (wl.length : Int)) (by kernel_rfl) (fun h24 => ?_) (fun h24 => ?_)
      ·
        have hsz1 : ((wl.getD j ((⟨#[]⟩, ⟨#[]⟩, 0) : ByteArray × ByteArray × Int)).1.size : Int) ≤ 64 := (small_at hV1 hpw (j := j) (by omega)).1; have hsz2 : ((wl.getD j ((⟨#[]⟩, ⟨#[]⟩, 0) : ByteArray × ByteArray × Int)).2.1.size : Int) ≤ 256 := (small_at hV1 hpw (j := j) (by omega)).2
        refine Cd.skip ?_
        refine Ex'.next ?_
        refine Cd.seq ?_
        refine Cd.block ?_
        refine Cd.seq ?_
        refine Cd.fact (i := 4) (R := rowR 24 3 (.slice a21 wl.length c22) wl.length (wl.flatMap it3)) (by kernel_rfl) (row_addr (by omega)) ?_; rintro ⟨b25, rfl⟩
        refine Cd.plan [0, 0, 0, 6, 14, 30, 62, 127, 0, 0, 768, 1792, 3840, 7936, 16383, 32767] [(5, [(4, false, 0)]), (12, [(4, false, 0)])] [] [] [] [fun g => iV sm, fun g => .slice (some ⟨b25, 0, none⟩) wl.length c22, fun g => iV (j : Int), fun g => pV b25 (j * 3), fun g => pV b25 (j * 3), fun g => sV ((wl.getD j ((⟨#[]⟩, ⟨#[]⟩, 0) : ByteArray × ByteArray × Int)).1), fun g => iV (((wl.getD j ((⟨#[]⟩, ⟨#[]⟩, 0) : ByteArray × ByteArray × Int)).1).size : Int), fun g => iV (sm + (((wl.getD j ((⟨#[]⟩, ⟨#[]⟩, 0) : ByteArray × ByteArray × Int)).1).size : Int)), fun g => .slice (some ⟨b25, 0, none⟩) wl.length c22, fun g => iV (j : Int), fun g => pV b25 (j * 3), fun g => pV b25 (j * 3 + 1), fun g => sV ((wl.getD j ((⟨#[]⟩, ⟨#[]⟩, 0) : ByteArray × ByteArray × Int)).2.1), fun g => iV (((wl.getD j ((⟨#[]⟩, ⟨#[]⟩, 0) : ByteArray × ByteArray × Int)).2.1).size : Int), fun g => iV (sm + (((wl.getD j ((⟨#[]⟩, ⟨#[]⟩, 0) : ByteArray × ByteArray × Int)).1).size : Int) + (((wl.getD j ((⟨#[]⟩, ⟨#[]⟩, 0) : ByteArray × ByteArray × Int)).2.1).size : Int)), fun g => iV (sm + (((wl.getD j ((⟨#[]⟩, ⟨#[]⟩, 0) : ByteArray × ByteArray × Int)).1).size : Int) + (((wl.getD j ((⟨#[]⟩, ⟨#[]⟩, 0) : ByteArray × ByteArray × Int)).2.1).size : Int))] (by kernel_rfl) (by kernel_rfl) rfl (trivial) ?_ ?_
        · exact ⟨ob_val fun g w => by kernel_rfl, ob_val fun g w => by kernel_rfl, ob_val fun g w => by kernel_rfl, ob_v (v := fun g => pV b25 (j * 3)) (fun g => o_idx (b := b25) (cap := c22) (e := 24) (off := 0) (n := wl.length) (kd := .i64) (q := (j : Int)) (i := j) (size := 3) (j := j * 3) (by kernel_rfl) (by kernel_rfl) (by rfl) (by omega) Tryd.underlying42 (by kernel_rfl) (by omega)) (fun g => by kernel_rfl), ob_val fun g w => by kernel_rfl, ob_s (l := fun g => [rowR 24 3 (.slice (some ⟨b25, 0, none⟩) wl.length c22) wl.length (wl.flatMap it3)]) (l' := fun g => [rowR 24 3 (.slice (some ⟨b25, 0, none⟩) wl.length c22) wl.length (wl.flatMap it3)]) (v := fun g => sV ((wl.getD j ((⟨#[]⟩, ⟨#[]⟩, 0) : ByteArray × ByteArray × Int)).1)) (fun g => o_loadRow (i := j * 3) (u := sV ((wl.getD j ((⟨#[]⟩, ⟨#[]⟩, 0) : ByteArray × ByteArray × Int)).1)) (by kernel_rfl) (by omega) (by kernel_rfl) ((rec_get (f := it3) (k := 3) (z := ((⟨#[]⟩, ⟨#[]⟩, 0) : ByteArray × ByteArray × Int)) (l := wl) (i := j) (j := 0) (fun _ => rfl) (by omega) (by decide)).trans rfl)) (fun g => by kernel_rfl), ob_val fun g w => by kernel_rfl, ob_v (v := fun g => iV (sm + (((wl.getD j ((⟨#[]⟩, ⟨#[]⟩, 0) : ByteArray × ByteArray × Int)).1).size : Int))) (fun g => o_add (k := .i64) (a := sm) (b := (((wl.getD j ((⟨#[]⟩, ⟨#[]⟩, 0) : ByteArray × ByteArray × Int)).1).size : Int)) (c := sm + (((wl.getD j ((⟨#[]⟩, ⟨#[]⟩, 0) : ByteArray × ByteArray × Int)).1).size : Int)) (by kernel_rfl) (by kernel_rfl) (w64 rfl (by omega))) (fun g => by kernel_rfl), ob_val fun g w => by kernel_rfl, ob_val fun g w => by kernel_rfl, ob_v (v := fun g => pV b25 (j * 3)) (fun g => o_idx (b := b25) (cap := c22) (e := 24) (off := 0) (n := wl.length) (kd := .i64) (q := (j : Int)) (i := j) (size := 3) (j := j * 3) (by kernel_rfl) (by kernel_rfl) (by rfl) (by omega) Tryd.underlying42 (by kernel_rfl) (by omega)) (fun g => by kernel_rfl), ob_val fun g w => by kernel_rfl, ob_s (l := fun g => [rowR 24 3 (.slice (some ⟨b25, 0, none⟩) wl.length c22) wl.length (wl.flatMap it3)]) (l' := fun g => [rowR 24 3 (.slice (some ⟨b25, 0, none⟩) wl.length c22) wl.length (wl.flatMap it3)]) (v := fun g => sV ((wl.getD j ((⟨#[]⟩, ⟨#[]⟩, 0) : ByteArray × ByteArray × Int)).2.1)) (fun g => o_loadRow (i := j * 3 + 1) (u := sV ((wl.getD j ((⟨#[]⟩, ⟨#[]⟩, 0) : ByteArray × ByteArray × Int)).2.1)) (by kernel_rfl) (by omega) (by kernel_rfl) ((rec_get (f := it3) (k := 3) (z := ((⟨#[]⟩, ⟨#[]⟩, 0) : ByteArray × ByteArray × Int)) (l := wl) (i := j) (j := 1) (fun _ => rfl) (by omega) (by decide)).trans rfl)) (fun g => by kernel_rfl), ob_val fun g w => by kernel_rfl, ob_v (v := fun g => iV (sm + (((wl.getD j ((⟨#[]⟩, ⟨#[]⟩, 0) : ByteArray × ByteArray × Int)).1).size : Int) + (((wl.getD j ((⟨#[]⟩, ⟨#[]⟩, 0) : ByteArray × ByteArray × Int)).2.1).size : Int))) (fun g => o_add (k := .i64) (a := sm + (((wl.getD j ((⟨#[]⟩, ⟨#[]⟩, 0) : ByteArray × ByteArray × Int)).1).size : Int)) (b := (((wl.getD j ((⟨#[]⟩, ⟨#[]⟩, 0) : ByteArray × ByteArray × Int)).2.1).size : Int)) (c := sm + (((wl.getD j ((⟨#[]⟩, ⟨#[]⟩, 0) : ByteArray × ByteArray × Int)).1).size : Int) + (((wl.getD j ((⟨#[]⟩, ⟨#[]⟩, 0) : ByteArray × ByteArray × Int)).2.1).size : Int)) (by kernel_rfl) (by kernel_rfl) (w64 rfl (by omega))) (fun g => by kernel_rfl), ob_val fun g w => by kernel_rfl, trivial⟩
        intro g
        refine Ex'.sub (subB_spec [0, 3, 4, 5, 7, 6]) ?_
        refine Ex'.as [0, 1, 2, 3, 4] (σ' := [(0, .slice (some ⟨g8, off9, none⟩) xs.length cap), (3, pV b3 0), (4, iV (k : Int)), (5, .slice (some ⟨b25, 0, none⟩) wl.length c22), (7, iV (j : Int)), (6, iV (sm + (((wl.getD j ((⟨#[]⟩, ⟨#[]⟩, 0) : ByteArray × ByteArray × Int)).1).size : Int) + (((wl.getD j ((⟨#[]⟩, ⟨#[]⟩, 0) : ByteArray × ByteArray × Int)).2.1).size : Int)))]) (Γ' := [oldR w0, valB b3 mb4 qb5 bys1, mapR Value.string itV mb4 M1, hpS qb5 S1 n1, rowR 24 3 (.slice (some ⟨b25, 0, none⟩) wl.length c22) wl.length (wl.flatMap it3)]) (by kernel_rfl) rfl (by kernel_rfl) (by kernel_rfl) ?_
        refine Ex'.next ?_
        refine Cd.seq ?_
        by_cases h26 : (j : Int) > 0
        ·
          refine Cd.plan (0 :: 1 :: 3 :: 7 :: 7 :: 23 :: 63 :: 127 :: 255 :: 7 :: 7 :: 1543 :: 3591 :: 7687 :: 16383 :: 32767 :: 65535 :: 131071 :: 131071 :: 524287 :: 1048575 :: 2097151 :: 4194303 :: 8388607 :: []) [(8, [(4, false, 0)]), (13, [(4, false, 0)]), (20, [(4, false, 0)]), (21, [])] [] [] [] ((fun g => iV (j : Int)) :: (fun g => bV true) :: (fun g => bV true) :: (fun g => .slice (some ⟨b25, 0, none⟩) wl.length c22) :: (fun g => iV (j : Int)) :: (fun g => iV ((j - 1 : Nat) : Int)) :: (fun g => pV b25 ((j - 1) * 3)) :: (fun g => pV b25 ((j - 1) * 3)) :: (fun g => sV ((wl.getD (j - 1) ((⟨#[]⟩, ⟨#[]⟩, 0) : ByteArray × ByteArray × Int)).1)) :: (fun g => .slice (some ⟨b25, 0, none⟩) wl.length c22) :: (fun g => iV (j : Int)) :: (fun g => pV b25 (j * 3)) :: (fun g => pV b25 (j * 3)) :: (fun g => sV ((wl.getD j ((⟨#[]⟩, ⟨#[]⟩, 0) : ByteArray × ByteArray × Int)).1)) :: (fun g => bV false) :: (fun g => bV false) :: (fun g => bV false) :: (fun g => .slice (some ⟨b25, 0, none⟩) wl.length c22) :: (fun g => iV (j : Int)) :: (fun g => pV b25 (j * 3)) :: (fun g => .agg #[sV ((wl.getD j ((⟨#[]⟩, ⟨#[]⟩, 0) : ByteArray × ByteArray × Int)).1), sV ((wl.getD j ((⟨#[]⟩, ⟨#[]⟩, 0) : ByteArray × ByteArray × Int)).2.1), iV ((wl.getD j ((⟨#[]⟩, ⟨#[]⟩, 0) : ByteArray × ByteArray × Int)).2.2)]) :: (fun g => .nilIface) :: (fun g => bV false) :: (fun g => bV false) :: []) (by kernel_rfl) (by kernel_rfl) rfl (trivial) ?_ ?_
          · exact ⟨ob_val fun g w => by kernel_rfl, ob_v (v := fun g => bV true) (fun g => OprV.re (pureV (v := bV (decide ((j : Int) > 0))) (by kernel_rfl) rfl fun w => by kernel_rfl) (vT h26)) (fun g => by kernel_rfl), ob_val fun g w => by kernel_rfl, ob_val fun g w => by kernel_rfl, ob_val fun g w => by kernel_rfl, ob_v (v := fun g => iV ((j - 1 : Nat) : Int)) (fun g => o_sub (k := .i64) (a := (j : Int)) (b := 1) (c := ((j - 1 : Nat) : Int)) (by kernel_rfl) (by kernel_rfl) (w64 (by omega) (by omega))) (fun g => by kernel_rfl), ob_v (v := fun g => pV b25 ((j - 1) * 3)) (fun g => o_idx (b := b25) (cap := c22) (e := 24) (off := 0) (n := wl.length) (kd := .i64) (q := ((j - 1 : Nat) : Int)) (i := (j - 1)) (size := 3) (j := (j - 1) * 3) (by kernel_rfl) (by kernel_rfl) (by rfl) (by omega) Tryd.underlying42 (by kernel_rfl) (by omega)) (fun g => by kernel_rfl), ob_val fun g w => by kernel_rfl, ob_s (l := fun g => [rowR 24 3 (.slice (some ⟨b25, 0, none⟩) wl.length c22) wl.length (wl.flatMap it3)]) (l' := fun g => [rowR 24 3 (.slice (some ⟨b25, 0, none⟩) wl.length c22) wl.length (wl.flatMap it3)]) (v := fun g => sV ((wl.getD (j - 1) ((⟨#[]⟩, ⟨#[]⟩, 0) : ByteArray × ByteArray × Int)).1)) (fun g => o_loadRow (i := (j - 1) * 3) (u := sV ((wl.getD (j - 1) ((⟨#[]⟩, ⟨#[]⟩, 0) : ByteArray × ByteArray × Int)).1)) (by kernel_rfl) (by omega) (by kernel_rfl) ((rec_get (f := it3) (k := 3) (z := ((⟨#[]⟩, ⟨#[]⟩, 0) : ByteArray × ByteArray × Int)) (l := wl) (i := (j - 1)) (j := 0) (fun _ => rfl) (by omega) (by decide)).trans rfl)) (fun g => by kernel_rfl), ob_val fun g w => by kernel_rfl, ob_val fun g w => by kernel_rfl, ob_v (v := fun g => pV b25 (j * 3)) (fun g => o_idx (b := b25) (cap := c22) (e := 24) (off := 0) (n := wl.length) (kd := .i64) (q := (j : Int)) (i := j) (size := 3) (j := j * 3) (by kernel_rfl) (by kernel_rfl) (by rfl) (by omega) Tryd.underlying42 (by kernel_rfl) (by omega)) (fun g => by kernel_rfl), ob_val fun g w => by kernel_rfl, ob_s (l := fun g => [rowR 24 3 (.slice (some ⟨b25, 0, none⟩) wl.length c22) wl.length (wl.flatMap it3)]) (l' := fun g => [rowR 24 3 (.slice (some ⟨b25, 0, none⟩) wl.length c22) wl.length (wl.flatMap it3)]) (v := fun g => sV ((wl.getD j ((⟨#[]⟩, ⟨#[]⟩, 0) : ByteArray × ByteArray × Int)).1)) (fun g => o_loadRow (i := j * 3) (u := sV ((wl.getD j ((⟨#[]⟩, ⟨#[]⟩, 0) : ByteArray × ByteArray × Int)).1)) (by kernel_rfl) (by omega) (by kernel_rfl) ((rec_get (f := it3) (k := 3) (z := ((⟨#[]⟩, ⟨#[]⟩, 0) : ByteArray × ByteArray × Int)) (l := wl) (i := j) (j := 0) (fun _ => rfl) (by omega) (by decide)).trans rfl)) (fun g => by kernel_rfl), ob_v (v := fun g => bV false) (fun g => OprV.re (o_geS (a := (wl.getD (j - 1) ((⟨#[]⟩, ⟨#[]⟩, 0) : ByteArray × ByteArray × Int)).1) (b := (wl.getD j ((⟨#[]⟩, ⟨#[]⟩, 0) : ByteArray × ByteArray × Int)).1) (by kernel_rfl) (by kernel_rfl)) (vF (fun q => q (lt_at hV1 hpw hqw (j := j) (by omega) (by omega))))) (fun g => by kernel_rfl), ob_val fun g w => by kernel_rfl, ob_val fun g w => by kernel_rfl, ob_val fun g w => by kernel_rfl, ob_val fun g w => by kernel_rfl, ob_v (v := fun g => pV b25 (j * 3)) (fun g => o_idx (b := b25) (cap := c22) (e := 24) (off := 0) (n := wl.length) (kd := .i64) (q := (j : Int)) (i := j) (size := 3) (j := j * 3) (by kernel_rfl) (by kernel_rfl) (by rfl) (by omega) Tryd.underlying42 (by kernel_rfl) (by omega)) (fun g => by kernel_rfl), ob_s (l := fun g => [rowR 24 3 (.slice (some ⟨b25, 0, none⟩) wl.length c22) wl.length (wl.flatMap it3)]) (l' := fun g => [rowR 24 3 (.slice (some ⟨b25, 0, none⟩) wl.length c22) wl.length (wl.flatMap it3)]) (v := fun g => .agg #[sV ((wl.getD j ((⟨#[]⟩, ⟨#[]⟩, 0) : ByteArray × ByteArray × Int)).1), sV ((wl.getD j ((⟨#[]⟩, ⟨#[]⟩, 0) : ByteArray × ByteArray × Int)).2.1), iV ((wl.getD j ((⟨#[]⟩, ⟨#[]⟩, 0) : ByteArray × ByteArray × Int)).2.2)]) (fun g => o_loadRowN (j := j * 3) [sV ((wl.getD j ((⟨#[]⟩, ⟨#[]⟩, 0) : ByteArray × ByteArray × Int)).1), sV ((wl.getD j ((⟨#[]⟩, ⟨#[]⟩, 0) : ByteArray × ByteArray × Int)).2.1), iV ((wl.getD j ((⟨#[]⟩, ⟨#[]⟩, 0) : ByteArray × ByteArray × Int)).2.2)] (by kernel_rfl) (by omega) (by kernel_rfl) (rec_gets (f := it3) (k := 3) (z := ((⟨#[]⟩, ⟨#[]⟩, 0) : ByteArray × ByteArray × Int)) (l := wl) (i := j) (o := 0) (fun _ => rfl) (by omega) (Nat.le_of_ble_eq_true rfl) rfl)) (fun g => by kernel_rfl), ob_s (l := fun g => []) (l' := fun g => []) (v := fun g => .nilIface) (fun g => o_call (by kernel_rfl) Tryd.call19 (val_RightOk (k := (wl.getD j ((⟨#[]⟩, ⟨#[]⟩, 0) : ByteArray × ByteArray × Int)).1) (v := (wl.getD j ((⟨#[]⟩, ⟨#[]⟩, 0) : ByteArray × ByteArray × Int)).2.1) (d := (wl.getD j ((⟨#[]⟩, ⟨#[]⟩, 0) : ByteArray × ByteArray × Int)).2.2) (right_at hV1 hpw (j := j) (by omega)))) (fun g => by kernel_rfl), ob_val fun g w => by kernel_rfl, ob_val fun g w => by kernel_rfl, trivial⟩
          intro g
          refine Ex'.sub (subB_spec [0, 3, 4, 5, 7, 6, 99]) ?_
          refine Ex'.as [0, 1, 2, 3, 4] (σ' := [(0, .slice (some ⟨g8, off9, none⟩) xs.length cap), (3, pV b3 0), (4, iV (k : Int)), (5, .slice (some ⟨b25, 0, none⟩) wl.length c22), (7, iV (j : Int)), (6, iV (sm + (((wl.getD j ((⟨#[]⟩, ⟨#[]⟩, 0) : ByteArray × ByteArray × Int)).1).size : Int) + (((wl.getD j ((⟨#[]⟩, ⟨#[]⟩, 0) : ByteArray × ByteArray × Int)).2.1).size : Int))), (99, bV false)]) (Γ' := [oldR w0, valB b3 mb4 qb5 bys1, mapR Value.string itV mb4 M1, hpS qb5 S1 n1, rowR 24 3 (.slice (some ⟨b25, 0, none⟩) wl.length c22) wl.length (wl.flatMap it3)]) (by kernel_rfl) rfl (by kernel_rfl) (by kernel_rfl) ?_
          refine Ex'.next ?_
          refine Cd.condF (by kernel_rfl) ?_
          refine Cd.skip ?_
          refine Ex'.blockNormal ?_
          refine Ex'.next ?_
          refine Cd.region rfl ?_
          refine Sq.vals [0] (rest := [1, 2]) [iV (j : Int)] (fun w => by kernel_rfl) ?_
          refine Sq.v (r := iV ((j : Int) + 1)) (o_add (k := .i64) (a := (j : Int)) (b := 1) (c := (j : Int) + 1) (by kernel_rfl) (by kernel_rfl) (w64 rfl (by omega))) rfl (by kernel_rfl) ?_
          refine Sq.vals [2] (rest := []) [iV ((j : Int) + 1)] (fun w => by kernel_rfl) ?_
          refine Sq.done ?_
          refine Ex'.round (g := (j, sm)) (j + 1, sm + (((wl.getD j ((⟨#[]⟩, ⟨#[]⟩, 0) : ByteArray × ByteArray × Int)).1).size : Int) + (((wl.getD j ((⟨#[]⟩, ⟨#[]⟩, 0) : ByteArray × ByteArray × Int)).2.1).size : Int)) ?_ ?_ (subB_eq (l := [0, 3, 4, 5, 7, 6]) (by kernel_rfl)) (fun w hw => hw.pickB [0, 1, 2, 3, 4] (by kernel_rfl) (by kernel_rfl) (by kernel_rfl))
          · (try dsimp only); exact ⟨by omega, by rw [sumT_succ (by omega), ← hsm]⟩
          · omega
        ·
          refine Cd.plan (0 :: 1 :: 3 :: 7 :: 7 :: 23 :: 63 :: 127 :: 255 :: 7 :: 7 :: 1543 :: 3591 :: 7687 :: 16383 :: 32767 :: 65535 :: 131071 :: 131071 :: 524287 :: 1048575 :: 2097151 :: 4194303 :: 8388607 :: []) [(20, [(4, false, 0)]), (21, [])] [] [] [] ((fun g => iV (j : Int)) :: (fun g => bV false) :: (fun g => bV false) :: (fun g => undef) :: (fun g => undef) :: (fun g => undef) :: (fun g => undef) :: (fun g => undef) :: (fun g => undef) :: (fun g => undef) :: (fun g => undef) :: (fun g => undef) :: (fun g => undef) :: (fun g => undef) :: (fun g => undef) :: (fun g => bV false) :: (fun g => bV false) :: (fun g => .slice (some ⟨b25, 0, none⟩) wl.length c22) :: (fun g => iV (j : Int)) :: (fun g => pV b25 (j * 3)) :: (fun g => .agg #[sV ((wl.getD j ((⟨#[]⟩, ⟨#[]⟩, 0) : ByteArray × ByteArray × Int)).1), sV ((wl.getD j ((⟨#[]⟩, ⟨#[]⟩, 0) : ByteArray × ByteArray × Int)).2.1), iV ((wl.getD j ((⟨#[]⟩, ⟨#[]⟩, 0) : ByteArray × ByteArray × Int)).2.2)]) :: (fun g => .nilIface) :: (fun g => bV false) :: (fun g => bV false) :: []) (by kernel_rfl) (by kernel_rfl) rfl (trivial) ?_ ?_
          · exact ⟨ob_val fun g w => by kernel_rfl, ob_v (v := fun g => bV false) (fun g => OprV.re (pureV (v := bV (decide ((j : Int) > 0))) (by kernel_rfl) rfl fun w => by kernel_rfl) (vF h26)) (fun g => by kernel_rfl), ob_val fun g w => by kernel_rfl, ob_val fun g w => by kernel_rfl, ob_val fun g w => by kernel_rfl, ob_val fun g w => by kernel_rfl, ob_val fun g w => by kernel_rfl, ob_val fun g w => by kernel_rfl, ob_val fun g w => by kernel_rfl, ob_val fun g w => by kernel_rfl, ob_val fun g w => by kernel_rfl, ob_val fun g w => by kernel_rfl, ob_val fun g w => by kernel_rfl, ob_val fun g w => by kernel_rfl, ob_val fun g w => by kernel_rfl, ob_val fun g w => by kernel_rfl, ob_val fun g w => by kernel_rfl, ob_val fun g w => by kernel_rfl, ob_val fun g w => by kernel_rfl, ob_v (v := fun g => pV b25 (j * 3)) (fun g => o_idx (b := b25) (cap := c22) (e := 24) (off := 0) (n := wl.length) (kd := .i64) (q := (j : Int)) (i := j) (size := 3) (j := j * 3) (by kernel_rfl) (by kernel_rfl) (by rfl) (by omega) Tryd.underlying42 (by kernel_rfl) (by omega)) (fun g => by kernel_rfl), ob_s (l := fun g => [rowR 24 3 (.slice (some ⟨b25, 0, none⟩) wl.length c22) wl.length (wl.flatMap it3)]) (l' := fun g => [rowR 24 3 (.slice (some ⟨b25, 0, none⟩) wl.length c22) wl.length (wl.flatMap it3)]) (v := fun g => .agg #[sV ((wl.getD j ((⟨#[]⟩, ⟨#[]⟩, 0) : ByteArray × ByteArray × Int)).1), sV ((wl.getD j ((⟨#[]⟩, ⟨#[]⟩, 0) : ByteArray × ByteArray × Int)).2.1), iV ((wl.getD j ((⟨#[]⟩, ⟨#[]⟩, 0) : ByteArray × ByteArray × Int)).2.2)]) (fun g => o_loadRowN (j := j * 3) [sV ((wl.getD j ((⟨#[]⟩, ⟨#[]⟩, 0) : ByteArray × ByteArray × Int)).1), sV ((wl.getD j ((⟨#[]⟩, ⟨#[]⟩, 0) : ByteArray × ByteArray × Int)).2.1), iV ((wl.getD j ((⟨#[]⟩, ⟨#[]⟩, 0) : ByteArray × ByteArray × Int)).2.2)] (by kernel_rfl) (by omega) (by kernel_rfl) (rec_gets (f := it3) (k := 3) (z := ((⟨#[]⟩, ⟨#[]⟩, 0) : ByteArray × ByteArray × Int)) (l := wl) (i := j) (o := 0) (fun _ => rfl) (by omega) (Nat.le_of_ble_eq_true rfl) rfl)) (fun g => by kernel_rfl), ob_s (l := fun g => []) (l' := fun g => []) (v := fun g => .nilIface) (fun g => o_call (by kernel_rfl) Tryd.call19 (val_RightOk (k := (wl.getD j ((⟨#[]⟩, ⟨#[]⟩, 0) : ByteArray × ByteArray × Int)).1) (v := (wl.getD j ((⟨#[]⟩, ⟨#[]⟩, 0) : ByteArray × ByteArray × Int)).2.1) (d := (wl.getD j ((⟨#[]⟩, ⟨#[]⟩, 0) : ByteArray × ByteArray × Int)).2.2) (right_at hV1 hpw (j := j) (by omega)))) (fun g => by kernel_rfl), ob_val fun g w => by kernel_rfl, ob_val fun g w => by kernel_rfl, trivial⟩
          intro g
          refine Ex'.sub (subB_spec [0, 3, 4, 5, 7, 6, 99]) ?_
          refine Ex'.as [0, 1, 2, 3, 4] (σ' := [(0, .slice (some ⟨g8, off9, none⟩) xs.length cap), (3, pV b3 0), (4, iV (k : Int)), (5, .slice (some ⟨b25, 0, none⟩) wl.length c22), (7, iV (j : Int)), (6, iV (sm + (((wl.getD j ((⟨#[]⟩, ⟨#[]⟩, 0) : ByteArray × ByteArray × Int)).1).size : Int) + (((wl.getD j ((⟨#[]⟩, ⟨#[]⟩, 0) : ByteArray × ByteArray × Int)).2.1).size : Int))), (99, bV false)]) (Γ' := [oldR w0, valB b3 mb4 qb5 bys1, mapR Value.string itV mb4 M1, hpS qb5 S1 n1, rowR 24 3 (.slice (some ⟨b25, 0, none⟩) wl.length c22) wl.length (wl.flatMap it3)]) (by kernel_rfl) rfl (by kernel_rfl) (by kernel_rfl) ?_
          refine Ex'.next ?_
          refine Cd.condF (by kernel_rfl) ?_
          refine Cd.skip ?_
          refine Ex'.blockNormal ?_
          refine Ex'.next ?_
          refine Cd.region rfl ?_
          refine Sq.vals [0] (rest := [1, 2]) [iV (j : Int)] (fun w => by kernel_rfl) ?_
          refine Sq.v (r := iV ((j : Int) + 1)) (o_add (k := .i64) (a := (j : Int)) (b := 1) (c := (j : Int) + 1) (by kernel_rfl) (by kernel_rfl) (w64 rfl (by omega))) rfl (by kernel_rfl) ?_
          refine Sq.vals [2] (rest := []) [iV ((j : Int) + 1)] (fun w => by kernel_rfl) ?_
          refine Sq.done ?_
          refine Ex'.round (g := (j, sm)) (j + 1, sm + (((wl.getD j ((⟨#[]⟩, ⟨#[]⟩, 0) : ByteArray × ByteArray × Int)).1).size : Int) + (((wl.getD j ((⟨#[]⟩, ⟨#[]⟩, 0) : ByteArray × ByteArray × Int)).2.1).size : Int)) ?_ ?_ (subB_eq (l := [0, 3, 4, 5, 7, 6]) (by kernel_rfl)) (fun w hw => hw.pickB [0, 1, 2, 3, 4] (by kernel_rfl) (by kernel_rfl) (by kernel_rfl))
          · (try dsimp only); exact ⟨by omega, by rw [sumT_succ (by omega), ← hsm]⟩
          · omega
      ·
        have hsa := sumT_all hV1 hpw (j := j) (by omega)
        refine Cd.exit ?_
        refine Ex'.thenExit ?_
        refine Ex'.thenExit ?_
        refine Ex'.blockHit ?_
        refine Ex'.next ?_
        refine Cd.seq ?_
        refine Cd.region rfl ?_
        refine Sq.vals [0] (rest := [1, 2, 3, 4, 5, 6, 7, 8, 9, 10]) [pV b3 0] (fun w => by kernel_rfl) ?_
        refine Sq.same [1, 2, 3] (l := valL b3 mb4 qb5 M1 S1 bys1 n1) (o_call (by kernel_rfl) Tryd.call25 (val_Bytes (n := n1) (M := M1) (S := S1) (bys := bys1) (by omega))) (by kernel_rfl) rfl (by kernel_rfl) rfl ?_
        refine Sq.vals [2] (rest := [3, 4, 5, 6, 7, 8, 9, 10]) [iV sm] (fun w => by kernel_rfl) ?_
        refine Sq.v (r := bV (decide (valBytes M1 S1 bys1 ≠ sm))) (o_neI (k := .i64) (a := valBytes M1 S1 bys1) (b := sm) (by kernel_rfl) (by kernel_rfl)) rfl (by kernel_rfl) ?_
        refine Sq.re 103 rfl (vF (fun z => z (by show bys1 = sm; omega))) ?_
        refine Sq.vals [4, 5] (rest := [6, 7, 8, 9, 10]) [bV false, pV b3 0] (fun w => by kernel_rfl) ?_
        refine Sq.same [1, 2, 3] (l := valL b3 mb4 qb5 M1 S1 bys1 n1) (o_call (by kernel_rfl) Tryd.call13 (val_Len (n := n1) (M := M1) (S := S1) (bys := bys1) (by omega))) (by kernel_rfl) rfl (by kernel_rfl) rfl ?_
        refine Sq.vals [7, 8] (rest := [9, 10]) [.slice a21 wl.length c22, iV (wl.length : Int)] (fun w => by kernel_rfl) ?_
        refine Sq.v (r := bV (decide (valLen M1 S1 bys1 ≠ (wl.length : Int)))) (o_neI (k := .i64) (a := valLen M1 S1 bys1) (b := (wl.length : Int)) (by kernel_rfl) (by kernel_rfl)) rfl (by kernel_rfl) ?_
        refine Sq.re 109 rfl (vF (fun z => z (by show ((M1.length : Nat) : Int) = _; omega))) ?_
        refine Sq.vals [10] (rest := []) [bV false] (fun w => by kernel_rfl) ?_
        refine Sq.done ?_
        refine Ex'.next ?_
        refine Cd.condF (by kernel_rfl) ?_
        refine Cd.skip ?_
        refine Ex'.blockNormal ?_
        refine Ex'.next ?_
        refine Cd.region rfl ?_
        refine Sq.vals [0] (rest := [1, 2]) [iV (k : Int)] (fun w => by kernel_rfl) ?_
        refine Sq.v (r := iV ((k : Int) + 1)) (o_add (k := .i64) (a := (k : Int)) (b := 1) (c := (k : Int) + 1) (by kernel_rfl) (by kernel_rfl) (w64 rfl (by omega))) rfl (by kernel_rfl) ?_
        refine Sq.vals [2] (rest := []) [iV ((k : Int) + 1)] (fun w => by kernel_rfl) ?_
        refine Sq.done ?_
        refine Ex'.round (g := (k, M0, S0, bys0, n0)) (k + 1, M1, S1, bys1, n1) ?_ ?_ (subB_eq (l := [0, 3, 4]) (by kernel_rfl)) (fun w hw => hw.pickB [0, 1, 2, 3] (by kernel_rfl) (by kernel_rfl) (by kernel_rfl))
        · (try dsimp only); exact ⟨by omega, hV1, by omega, by omega⟩
        · omega
    ·
      refine Cd.exit ?_
      refine Ex'.thenExit ?_
      refine Ex'.thenExit ?_
      refine Ex'.blockHit ?_
      refine Ex'.next ?_
      refine Cd.seq ?_
      refine Cd.region rfl ?_
      refine Sq.vals [0] (rest := [1]) [pV b3 0] (fun w => by kernel_rfl) ?_
      refine Sq.ex [1, 2, 3] (l := [valB b3 mb4 qb5 bys0, mapR Value.string itV mb4 M0, hpS qb5 S0 n0]) (o_call (by kernel_rfl) Tryd.call23 (val_Clear (n := n0) (M := M0) (S := S0) (bys := bys0))) (by kernel_rfl) rfl (by kernel_rfl) (fun _ => Nat.le_of_ble_eq_true (by kernel_rfl)) ?_; rintro q27 _
      refine Sq.done ?_
      refine Ex'.next ?_
      refine Cd.seq ?_
      refine Cd.region rfl ?_
      refine Sq.vals [0] (rest := [1, 2, 3, 4, 5, 6, 7, 8, 9, 10, 11, 12, 13, 14]) [pV b3 0] (fun w => by kernel_rfl) ?_
      refine Sq.same [1, 2, 3] (l := valL b3 mb4 q27 ([] : List (ByteArray × ByteArray × ByteArray × Int)) ([] : List (KR ByteArray)) 0 0) (o_call (by kernel_rfl) Tryd.call13 (val_Len (n := 0) (M := ([] : List (ByteArray × ByteArray × ByteArray × Int))) (S := ([] : List (KR ByteArray))) (bys := 0) (by omega))) (by kernel_rfl) rfl (by kernel_rfl) rfl ?_
      refine Sq.v (r := bV (decide (valLen ([] : List (ByteArray × ByteArray × ByteArray × Int)) ([] : List (KR ByteArray)) 0 = 0))) (o_eqI (k := .i64) (a := valLen ([] : List (ByteArray × ByteArray × ByteArray × Int)) ([] : List (KR ByteArray)) 0) (b := 0) (by kernel_rfl) (by kernel_rfl)) rfl (by kernel_rfl) ?_
      refine Sq.re 115 rfl (vT rfl) ?_
      refine Sq.vals [3, 4] (rest := [5, 6, 7, 8, 9, 10, 11, 12, 13, 14]) [bV true, pV b3 0] (fun w => by kernel_rfl) ?_
      refine Sq.same [1, 2, 3] (l := valL b3 mb4 q27 ([] : List (ByteArray × ByteArray × ByteArray × Int)) ([] : List (KR ByteArray)) 0 0) (o_call (by kernel_rfl) Tryd.call25 (val_Bytes (n := 0) (M := ([] : List (ByteArray × ByteArray × ByteArray × Int))) (S := ([] : List (KR ByteArray))) (bys := 0) (by omega))) (by kernel_rfl) rfl (by kernel_rfl) rfl ?_
      refine Sq.v (r := bV (decide (valBytes ([] : List (ByteArray × ByteArray × ByteArray × Int)) ([] : List (KR ByteArray)) 0 = 0))) (o_eqI (k := .i64) (a := valBytes ([] : List (ByteArray × ByteArray × ByteArray × Int)) ([] : List (KR ByteArray)) 0) (b := 0) (by kernel_rfl) (by kernel_rfl)) rfl (by kernel_rfl) ?_
      refine Sq.re 119 rfl (vT rfl) ?_
      refine Sq.vals [7, 8, 9] (rest := [10, 11, 12, 13, 14]) [bV true, bV true, pV b3 0] (fun w => by kernel_rfl) ?_
      refine Sq.ex [1, 2, 3] (l := [valB b3 mb4 q27 0, mapR Value.string itV mb4 ([] : List (ByteArray × ByteArray × ByteArray × Int)), hpS q27 ([] : List (KR ByteArray)) 0]) (o_call (by kernel_rfl) Tryd.call16 (val_Items (n := 0) (M := ([] : List (ByteArray × ByteArray × ByteArray × Int))) (S := ([] : List (KR ByteArray))) (bys := 0) (by first | omega | exact Nat.zero_le _))) (by kernel_rfl) rfl (by kernel_rfl) (fun _ => Nat.le_of_ble_eq_true (by kernel_rfl)) ?_; rintro ⟨wv, wl⟩ ⟨hpw, hqw⟩
      dsimp only at hpw hqw; have hlw := hpw.length_eq; rw [List.length_map] at hlw
      refine Sq.fact (i := 4) (R := rowR 24 3 wv wl.length (wl.flatMap it3)) (by kernel_rfl) row_slice ?_; rintro ⟨a28, c29, rfl, hc29, hc29'⟩
      have hc29'' : c29 ≤ 9223372036854775807 := hc29'
      refine Sq.vals [11] (rest := [12, 13, 14]) [iV (wl.length : Int)] (fun w => by kernel_rfl) ?_
      refine Sq.v (r := bV (decide ((wl.length : Int) = 0))) (o_eqI (k := .i64) (a := (wl.length : Int)) (b := 0) (by kernel_rfl) (by kernel_rfl)) rfl (by kernel_rfl) ?_
      refine Sq.re 125 rfl (vT (by have := hlw; simp only [List.length_nil] at this; omega)) ?_
      refine Sq.vals [13, 14] (rest := []) [bV true, bV true] (fun w => by kernel_rfl) ?_
      refine Sq.done ?_
      refine Ex'.next ?_
      refine Cd.ret ?_
      refine Ex'.ret Tryd.results7 (RVs.tmp (v := bV true) (by kernel_rfl) (RVs.nil)) (fun w hw => ?_)
      exact ⟨_, ⟨rfl, by kernel_rfl⟩, hw⟩

theorem valueBytes_walk (v : Value) (ys : List VAct) (w : World) (h : Cells w (fun k => k < w.heap.size) v ys.length 5 (ys.flatMap VAct.cells)) (hg : errT w) :
    Calls Tryd.prog 7 #[v] w fun e w' => e = .returned (.bool true) ∧ Below w.heap.size w w' := by
  obtain ⟨a, cap, rfl, hl⟩ := RecsIn.shape (vscr_of h)
  exact law_of (valueBytes_tri hg (by omega) (vscr_of h))

end Go.Proofs.YtnijaeipkbpibaaDoor
