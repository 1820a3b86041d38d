/- ValueExpires: its walk. -/
import Derived.Test.YtnijaeipkbpibaaDoorValW
import Derived.Test.YtnijaeipkbpibaaDoorErrsW
import Derived.Test.YtnijaeipkbpibaaDoorRefS
import Derived.Test.YtnijaeipkbpibaaDoorSepH
import Derived.Test.YtnijaeipkbpibaaDoorValPureD
import Derived.Test.YtnijaeipkbpibaaDoorValAwake
import Derived.Test.YtnijaeipkbpibaaDoorActsV
import Derived.Test.YtnijaeipkbpibaaDoorValEq
import Derived.Test.YtnijaeipkbpibaaDoorItemsW
set_option linter.unusedVariables false
namespace Go.Proofs.YtnijaeipkbpibaaDoor
open Go.RowKit Go.MapKept

set_option maxHeartbeats 8000000 in
set_option maxRecDepth 100000 in
theorem valueExpires_tri {w0 : World} {a : Option Addr} {cap : Nat} {xs : List Act5} {nw : Int} (hg : errT w0) (hnw0 : -9223372036854775808 ≤ nw ∧ nw ≤ 9223372036854775807) (hl : xs.length ≤ 9223372036854775807) (hs : VScr w0 (.slice a xs.length cap) xs) : Tri Tryd.prog 5 #[.slice a xs.length cap, iV nw] [oldR w0] (LawP w0) := by
  refine Tri.enter (args := [.slice a xs.length cap, iV nw]) Tryd.func5 rfl rfl rfl (fun B wz => ?_)
  refine Cd.seq ?_
  refine Cd.region rfl ?_
  refine Sq.vals [0] (rest := []) [bV false] (fun w => by kernel_rfl) ?_
  refine Sq.done ?_
  refine Ex'.next ?_
  refine Cd.seq ?_
  refine Cd.seq ?_
  refine Cd.region rfl ?_
  refine Sq.same [0] (l := [oldR w0]) (o_call (by kernel_rfl) Tryd.call8 (val_awake hg)) (by kernel_rfl) rfl (by kernel_rfl) rfl ?_
  refine Sq.vals [1] (rest := []) [bV false] (fun w => by kernel_rfl) ?_
  refine Sq.done ?_
  refine Ex'.next ?_
  refine Cd.condF (by kernel_rfl) ?_
  refine Cd.skip ?_
  refine Ex'.next ?_
  refine Cd.seq ?_
  refine Cd.seq ?_
  refine Cd.region rfl ?_
  refine Sq.vals [0] (rest := [1, 2]) [.slice a xs.length cap] (fun w => by kernel_rfl) ?_
  refine Sq.ex [0] (l := [oldR w0]) (o_call (by kernel_rfl) Tryd.call9 (t_few hl hs)) (by kernel_rfl) rfl (by kernel_rfl) (fun _ => Nat.le_of_ble_eq_true (by kernel_rfl)) ?_; rintro fb1 hfew
  refine Sq.vals [2] (rest := []) [bV (!fb1)] (fun w => by kernel_rfl) ?_
  refine Sq.done ?_
  refine Ex'.next ?_
  refine Cd.cond (t := (!fb1)) (by kernel_rfl) (fun h2 => ?_) (fun h2 => ?_)
  ·
    refine Cd.seq ?_
    refine Cd.region rfl ?_
    refine Sq.vals [0] (rest := []) [bV true] (fun w => by kernel_rfl) ?_
    refine Sq.done ?_
    refine Ex'.next ?_
    refine Cd.ret ?_
    refine Ex'.thenRet ?_
    refine Ex'.ret Tryd.results5 (RVs.tmp (v := bV true) (by kernel_rfl) (RVs.nil)) (fun w hw => ?_)
    exact ⟨_, ⟨rfl, by kernel_rfl⟩, hw⟩
  ·
    have hf1 : xs.length ≤ 150 := hfew (by simpa using h2)
    refine Cd.skip ?_
    refine Ex'.next ?_
    refine Cd.seq ?_
    refine Cd.region rfl ?_
    refine Sq.ex [] (l := []) (o_call (by kernel_rfl) Tryd.call10 (Tri.ex (L' := fun x => valL x.1 x.2.1 x.2.2 ([] : List (ByteArray × ByteArray × ByteArray × Int)) ([] : List (KR ByteArray)) 0 0) (val_New) (fun x => rfl))) (by kernel_rfl) rfl (by kernel_rfl) (fun _ => Nat.le_of_ble_eq_true (by kernel_rfl)) ?_; rintro ⟨b3, mb4, qb5⟩ _
    refine Sq.vals [1] (rest := []) [pV b3 0] (fun w => by kernel_rfl) ?_
    refine Sq.done ?_
    refine Ex'.next ?_
    refine Cd.seq ?_
    refine Cd.seq ?_
    refine Cd.region rfl ?_
    refine Sq.vals [0, 1] (rest := []) [pV b3 0, bV false] (fun w => by kernel_rfl) ?_
    refine Sq.done ?_
    refine Ex'.next ?_
    refine Cd.condF (by kernel_rfl) ?_
    refine Cd.skip ?_
    refine Ex'.next ?_
    refine Cd.seq ?_
    refine Cd.seq ?_
    refine Cd.region rfl ?_
    refine Sq.vals [0] (rest := []) [iV 0] (fun w => by kernel_rfl) ?_
    refine Sq.done ?_
    refine Ex'.next ?_
    refine Cd.block ?_
    refine Cd.loop (ι := Nat × (List (ByteArray × ByteArray × ByteArray × Int)) × (List (KR ByteArray)) × Int × Nat) (fun ⟨k, M0, S0, bys0, n0⟩ => k ≤ xs.length ∧ VX M0 S0 bys0 ∧ M0.length ≤ k ∧ n0 ≤ k) (fun ⟨k, M0, S0, bys0, n0⟩ => xs.length - k) (fun ⟨k, M0, S0, bys0, n0⟩ => [(0, .slice a xs.length cap), (1, iV nw), (4, bV false), (5, pV b3 0), (6, iV (k : Int))]) (fun ⟨k, M0, S0, bys0, n0⟩ => [oldR w0, valB b3 mb4 qb5 bys0, mapR Value.string itV mb4 M0, hpS qb5 S0 n0]) (0, ([] : List (ByteArray × ByteArray × ByteArray × Int)), ([] : List (KR ByteArray)), 0, 0) (⟨Nat.zero_le _, VX.new, Nat.le_refl _, Nat.le_refl _⟩) (subB_eq (l := [0, 1, 4, 5, 6]) (by kernel_rfl)) (fun w hw => hw.pickB [0, 1, 2, 3] (by kernel_rfl) (by kernel_rfl) (by kernel_rfl)) ?_
    rintro ⟨k, M0, S0, bys0, n0⟩ hL6
    try dsimp only at hL6 ⊢
    obtain ⟨hk, hV, hML, hn⟩ := hL6
    have hVi := hV.it; have hV0 := hV.b0; have hV1 := hV.b1; have hVe := hV.ends
    refine Cd.seq ?_
    refine Cd.seq ?_
    refine Cd.region rfl ?_
    refine Sq.vals [0, 1, 2, 3] (rest := []) [iV (k : Int), .slice a xs.length cap, iV (xs.length : Int), bV (decide ((k : Int) < (xs.length : Int)))] (fun w => by kernel_rfl) ?_
    refine Sq.done ?_
    refine Ex'.next ?_
    refine Cd.case (p := (k : Int) < (xs.length : Int)) (by kernel_rfl) (fun h7 => ?_) (fun h7 => ?_)
    ·
      obtain ⟨g8, off9, rfl⟩ := hs.addr (by omega)
      obtain ⟨kdk, kyk, txk, dlk, nwk, hgk, hwk, hrk⟩ := hs.at (k := k) (by omega)
      refine Cd.skip ?_
      refine Ex'.next ?_
      refine Cd.seq ?_
      refine Cd.block ?_
      refine Cd.region rfl ?_
      refine Sq.vals [0, 1, 2] (rest := [3, 4, 5, 6]) [pV b3 0, .slice (some ⟨g8, off9, none⟩) xs.length cap, iV (k : Int)] (fun w => by kernel_rfl) ?_
      refine Sq.v (r := pV g8 (off9 + k * 5)) (o_idx (b := g8) (cap := cap) (e := 33) (off := off9) (n := xs.length) (kd := .i64) (q := (k : Int)) (i := k) (size := 5) (j := off9 + k * 5) (by kernel_rfl) (by kernel_rfl) (by rfl) (by omega) Tryd.underlying22 (by kernel_rfl) (by omega)) rfl (by kernel_rfl) ?_
      refine Sq.vals [4] (rest := [5, 6]) [pV g8 (off9 + k * 5 + 1)] (fun w => by kernel_rfl) ?_
      refine Sq.same [0] (l := [oldR w0]) (o_loadOldN (b := g8) (j := off9 + k * 5 + 1) [sV kyk, sV txk, iV dlk] (by kernel_rfl) (by kernel_rfl) (range_sub hrk 1 3)) (by kernel_rfl) rfl (by kernel_rfl) rfl ?_
      by_cases h10 : rightC kyk txk dlk = 0
      ·
        refine Sq.same [1, 2, 3] (l := valL b3 mb4 qb5 M0 S0 bys0 n0) (o_call (by kernel_rfl) Tryd.call11 (val_PutOk (n := n0) (n' := n0 + 1) (M := M0) (S := S0) (bys := bys0) kyk txk dlk (by omega) (by omega) (by omega) (by first | exact hV.it | exact hXv.it) (by exact h10))) (by kernel_rfl) rfl (by kernel_rfl) rfl ?_
        generalize hxx11 : valPut M0 S0 bys0 kyk txk dlk = x11
        have hV2 : VX x11.1 x11.2.1 x11.2.2 := by rw [← hxx11]; exact hV.put h10
        have hL2 : x11.1.length ≤ k + 1 := by have := valPut_len (M := M0) (S := S0) (bys := bys0) (k := kyk) (v := txk) (d := dlk); rw [hxx11] at this; omega
        refine Sq.done ?_
        refine Ex'.blockNormal ?_
        refine Ex'.next ?_
        refine Cd.region rfl ?_
        refine Sq.vals [0] (rest := [1, 2]) [iV (k : Int)] (fun w => by kernel_rfl) ?_
        refine Sq.v (r := iV ((k : Int) + 1)) (o_add (k := .i64) (a := (k : Int)) (b := 1) (c := (k : Int) + 1) (by kernel_rfl) (by kernel_rfl) (w64 rfl (by omega))) rfl (by kernel_rfl) ?_
        refine Sq.vals [2] (rest := []) [iV ((k : Int) + 1)] (fun w => by kernel_rfl) ?_
        refine Sq.done ?_
        refine Ex'.round (g := (k, M0, S0, bys0, n0)) (k + 1, x11.1, x11.2.1, x11.2.2, n0 + 1) ?_ ?_ (subB_eq (l := [0, 1, 4, 5, 6]) (by kernel_rfl)) (fun w hw => hw.pickB [0, 1, 2, 3] (by kernel_rfl) (by kernel_rfl) (by kernel_rfl))
        · (try dsimp only); exact ⟨by omega, hV2, by omega, by omega⟩
        · omega
      ·
        refine Sq.ex [1, 2, 3] (l := [valB b3 mb4 qb5 bys0, mapR Value.string itV mb4 M0, hpS qb5 S0 n0]) (o_call (by kernel_rfl) Tryd.call11 (val_PutBad (n := n0) (M := M0) (S := S0) (bys := bys0) kyk txk dlk h10)) (by kernel_rfl) rfl (by kernel_rfl) (fun _ => Nat.le_of_ble_eq_true (by kernel_rfl)) ?_; rintro b12 _
        refine Sq.done ?_
        refine Ex'.blockNormal ?_
        refine Ex'.next ?_
        refine Cd.region rfl ?_
        refine Sq.vals [0] (rest := [1, 2]) [iV (k : Int)] (fun w => by kernel_rfl) ?_
        refine Sq.v (r := iV ((k : Int) + 1)) (o_add (k := .i64) (a := (k : Int)) (b := 1) (c := (k : Int) + 1) (by kernel_rfl) (by kernel_rfl) (w64 rfl (by omega))) rfl (by kernel_rfl) ?_
        refine Sq.vals [2] (rest := []) [iV ((k : Int) + 1)] (fun w => by kernel_rfl) ?_
        refine Sq.done ?_
        refine Ex'.round (g := (k, M0, S0, bys0, n0)) (k + 1, M0, S0, bys0, n0) ?_ ?_ (subB_eq (l := [0, 1, 4, 5, 6]) (by kernel_rfl)) (fun w hw => hw.pickB [0, 1, 2, 3] (by kernel_rfl) (by kernel_rfl) (by kernel_rfl))
        · (try dsimp only); exact ⟨by omega, hV, by omega, by omega⟩
        · omega
    ·
      refine Cd.exit ?_
      refine Ex'.thenExit ?_
      refine Ex'.thenExit ?_
      refine Ex'.blockHit ?_
      refine Ex'.next ?_
      refine Cd.seq ?_
      refine Cd.region rfl ?_
      refine Sq.vals [0] (rest := [1, 2]) [pV b3 0] (fun w => by kernel_rfl) ?_
      refine Sq.ex [1, 2, 3] (l := [valB b3 mb4 qb5 bys0, mapR Value.string itV mb4 M0, hpS qb5 S0 n0]) (o_call (by kernel_rfl) Tryd.call16 (val_Items (n := n0) (M := M0) (S := S0) (bys := bys0) (by omega))) (by kernel_rfl) rfl (by kernel_rfl) (fun _ => Nat.le_of_ble_eq_true (by kernel_rfl)) ?_; rintro ⟨wv, wl⟩ ⟨hpw, hqw⟩
      dsimp only at hpw hqw; have hlw := hpw.length_eq; rw [List.length_map] at hlw
      refine Sq.fact (i := 4) (R := rowR 24 3 wv wl.length (wl.flatMap it3)) (by kernel_rfl) row_slice ?_; rintro ⟨a13, c14, rfl, hc14, hc14'⟩
      have hc14'' : c14 ≤ 9223372036854775807 := hc14'
      refine Sq.vals [2] (rest := []) [.slice a13 wl.length c14] (fun w => by kernel_rfl) ?_
      refine Sq.done ?_
      refine Ex'.next ?_
      refine Cd.seq ?_
      refine Cd.region rfl ?_
      refine Sq.ex [] (l := []) (o_newMap Value.string Value.bool) (by kernel_rfl) rfl (by kernel_rfl) (fun _ => Nat.zero_le _) ?_; intro b15 _
      refine Sq.vals [1] (rest := []) [.map (some b15)] (fun w => by kernel_rfl) ?_
      refine Sq.done ?_
      refine Ex'.next ?_
      refine Cd.seq ?_
      refine Cd.region rfl ?_
      refine Sq.ex [] (l := []) (o_newMap Value.string (Value.int .i64)) (by kernel_rfl) rfl (by kernel_rfl) (fun _ => Nat.zero_le _) ?_; intro b16 _
      refine Sq.vals [1] (rest := []) [.map (some b16)] (fun w => by kernel_rfl) ?_
      refine Sq.done ?_
      refine Ex'.next ?_
      refine Cd.seq ?_
      refine Cd.seq ?_
      refine Cd.region rfl ?_
      refine Sq.vals [0] (rest := []) [iV 0] (fun w => by kernel_rfl) ?_
      refine Sq.done ?_
      refine Ex'.next ?_
      refine Cd.block ?_
      refine Cd.loop (ι := Nat × (List (ByteArray × Bool)) × (List (ByteArray × Int))) (fun ⟨k, gm, dm⟩ => k ≤ wl.length ∧ GoneI M0 nw wl gm dm k) (fun ⟨k, gm, dm⟩ => wl.length - k) (fun ⟨k, gm, dm⟩ => [(1, iV nw), (4, bV false), (5, pV b3 0), (7, .slice a13 wl.length c14), (8, .map (some b15)), (9, .map (some b16)), (10, iV (k : Int))]) (fun ⟨k, gm, dm⟩ => [oldR w0, valB b3 mb4 qb5 bys0, mapR Value.string itV mb4 M0, hpS qb5 S0 n0, rowR 24 3 (.slice a13 wl.length c14) wl.length (wl.flatMap it3), mapR Value.string Value.bool b15 gm, mapR Value.string (Value.int .i64) b16 dm]) (0, [], []) (⟨Nat.zero_le _, GoneI.start hV hpw⟩) (subB_eq (l := [1, 4, 5, 7, 8, 9, 10]) (by kernel_rfl)) (fun w hw => hw.pickB [0, 1, 2, 3, 4, 5, 6] (by kernel_rfl) (by kernel_rfl) (by kernel_rfl)) ?_
      rintro ⟨k, gm, dm⟩ hL17
      try dsimp only at hL17 ⊢
      obtain ⟨hk, hG⟩ := hL17
      refine Cd.seq ?_
      refine Cd.seq ?_
      refine Cd.region rfl ?_
      refine Sq.vals [0, 1, 2, 3] (rest := []) [iV (k : Int), .slice a13 wl.length c14, iV (wl.length : Int), bV (decide ((k : Int) < (wl.length : Int)))] (fun w => by kernel_rfl) ?_
      refine Sq.done ?_
      refine Ex'.next ?_
      refine Cd.case (p := (k : Int) < (wl.length : Int)) (by kernel_rfl) (fun h18 => ?_) (fun h18 => ?_)
      ·
        refine Cd.skip ?_
        refine Ex'.next ?_
        refine Cd.seq ?_
        refine Cd.block ?_
        refine Cd.seq ?_
        refine Cd.region rfl ?_
        refine Sq.vals [0, 1, 2] (rest := [3, 4, 5, 6, 7, 8, 9, 10, 11, 12, 13]) [pV b3 0, .slice a13 wl.length c14, iV (k : Int)] (fun w => by kernel_rfl) ?_
        refine Sq.fact (i := 4) (R := rowR 24 3 (.slice a13 wl.length c14) wl.length (wl.flatMap it3)) (by kernel_rfl) (row_addr (by omega)) ?_; rintro ⟨b19, rfl⟩
        refine Sq.v (r := pV b19 (k * 3)) (o_idx (b := b19) (cap := c14) (e := 24) (off := 0) (n := wl.length) (kd := .i64) (q := (k : Int)) (i := k) (size := 3) (j := k * 3) (by kernel_rfl) (by kernel_rfl) (by rfl) (by omega) Tryd.underlying42 (by kernel_rfl) (by omega)) rfl (by kernel_rfl) ?_
        refine Sq.vals [4] (rest := [5, 6, 7, 8, 9, 10, 11, 12, 13]) [pV b19 (k * 3)] (fun w => by kernel_rfl) ?_
        refine Sq.same [4] (l := [rowR 24 3 (.slice (some ⟨b19, 0, none⟩) wl.length c14) wl.length (wl.flatMap it3)]) (o_loadRow (i := k * 3) (u := sV ((wl.getD k ((⟨#[]⟩, ⟨#[]⟩, 0) : ByteArray × ByteArray × Int)).1)) (by kernel_rfl) (by omega) (by kernel_rfl) ((rec_get (f := it3) (k := 3) (z := ((⟨#[]⟩, ⟨#[]⟩, 0) : ByteArray × ByteArray × Int)) (l := wl) (i := k) (j := 0) (fun _ => rfl) (by omega) (by decide)).trans rfl)) (by kernel_rfl) rfl (by kernel_rfl) rfl ?_
        refine Sq.vals [6] (rest := [7, 8, 9, 10, 11, 12, 13]) [iV nw] (fun w => by kernel_rfl) ?_
        by_cases h20 : getOk M0 ((wl.getD k ((⟨#[]⟩, ⟨#[]⟩, 0) : ByteArray × ByteArray × Int)).1) nw
        ·
          refine Sq.same [1, 2, 3] (l := [valB b3 mb4 qb5 bys0, mapR Value.string itV mb4 M0, hpS qb5 S0 n0]) (o_call (by kernel_rfl) Tryd.call12 (val_GetOk (n := n0) (M := M0) (S := S0) (bys := bys0) ((wl.getD k ((⟨#[]⟩, ⟨#[]⟩, 0) : ByteArray × ByteArray × Int)).1) nw h20)) (by kernel_rfl) rfl (by kernel_rfl) rfl ?_
          refine Sq.vals [8, 9, 10] (rest := [11, 12, 13]) [.tuple #[.agg #[sV (((lk M0 ((wl.getD k ((⟨#[]⟩, ⟨#[]⟩, 0) : ByteArray × ByteArray × Int)).1)).getD ((⟨#[]⟩, ⟨#[]⟩, 0) : ByteArray × ByteArray × Int)).1), sV (((lk M0 ((wl.getD k ((⟨#[]⟩, ⟨#[]⟩, 0) : ByteArray × ByteArray × Int)).1)).getD ((⟨#[]⟩, ⟨#[]⟩, 0) : ByteArray × ByteArray × Int)).2.1), iV (((lk M0 ((wl.getD k ((⟨#[]⟩, ⟨#[]⟩, 0) : ByteArray × ByteArray × Int)).1)).getD ((⟨#[]⟩, ⟨#[]⟩, 0) : ByteArray × ByteArray × Int)).2.2)], .nilIface], .agg #[sV (((lk M0 ((wl.getD k ((⟨#[]⟩, ⟨#[]⟩, 0) : ByteArray × ByteArray × Int)).1)).getD ((⟨#[]⟩, ⟨#[]⟩, 0) : ByteArray × ByteArray × Int)).1), sV (((lk M0 ((wl.getD k ((⟨#[]⟩, ⟨#[]⟩, 0) : ByteArray × ByteArray × Int)).1)).getD ((⟨#[]⟩, ⟨#[]⟩, 0) : ByteArray × ByteArray × Int)).2.1), iV (((lk M0 ((wl.getD k ((⟨#[]⟩, ⟨#[]⟩, 0) : ByteArray × ByteArray × Int)).1)).getD ((⟨#[]⟩, ⟨#[]⟩, 0) : ByteArray × ByteArray × Int)).2.2)], .nilIface] (fun w => by kernel_rfl) ?_
          refine Sq.ex [] (l := []) (o_new [sV ⟨#[]⟩, sV ⟨#[]⟩, iV 0] (fun w => by kernel_rfl)) (by kernel_rfl) rfl (by kernel_rfl) (fun _ => Nat.zero_le _) ?_; intro b21 _
          refine Sq.same [7] (l := [blkR b21 [sV ⟨#[]⟩, sV ⟨#[]⟩, iV 0] 24]) (o_store (i := 0) (v := .agg #[sV (((lk M0 ((wl.getD k ((⟨#[]⟩, ⟨#[]⟩, 0) : ByteArray × ByteArray × Int)).1)).getD ((⟨#[]⟩, ⟨#[]⟩, 0) : ByteArray × ByteArray × Int)).1), sV (((lk M0 ((wl.getD k ((⟨#[]⟩, ⟨#[]⟩, 0) : ByteArray × ByteArray × Int)).1)).getD ((⟨#[]⟩, ⟨#[]⟩, 0) : ByteArray × ByteArray × Int)).2.1), iV (((lk M0 ((wl.getD k ((⟨#[]⟩, ⟨#[]⟩, 0) : ByteArray × ByteArray × Int)).1)).getD ((⟨#[]⟩, ⟨#[]⟩, 0) : ByteArray × ByteArray × Int)).2.2)]) (by kernel_rfl) (by kernel_rfl) (by kernel_rfl) (by kernel_rfl) (by kernel_rfl)) (by kernel_rfl) rfl (by kernel_rfl) rfl ?_
          refine Sq.vals [13] (rest := []) [.nilIface] (fun w => by kernel_rfl) ?_
          refine Sq.done ?_
          refine Ex'.next ?_
          refine Cd.seq ?_
          refine Cd.plan [0, 0, 0, 6, 14, 30, 0, 64, 255] [(5, [(4, false, 0)]), (8, [(5, true, 0)])] [] [] [(5, 8, fun g => mapR Value.string Value.bool b15 (put gm ((wl.getD k ((⟨#[]⟩, ⟨#[]⟩, 0) : ByteArray × ByteArray × Int)).1) false))] [fun g => .map (some b15), fun g => .slice (some ⟨b19, 0, none⟩) wl.length c14, fun g => iV (k : Int), fun g => pV b19 (k * 3), fun g => pV b19 (k * 3), fun g => sV ((wl.getD k ((⟨#[]⟩, ⟨#[]⟩, 0) : ByteArray × ByteArray × Int)).1), fun g => .nilIface, fun g => bV false, fun g => undef] (by kernel_rfl) (by kernel_rfl) rfl (trivial) ?_ ?_
          · exact ⟨ob_val fun g w => by kernel_rfl, ob_val fun g w => by kernel_rfl, ob_val fun g w => by kernel_rfl, ob_v (v := fun g => pV b19 (k * 3)) (fun g => o_idx (b := b19) (cap := c14) (e := 24) (off := 0) (n := wl.length) (kd := .i64) (q := (k : Int)) (i := k) (size := 3) (j := k * 3) (by kernel_rfl) (by kernel_rfl) (by rfl) (by omega) Tryd.underlying42 (by kernel_rfl) (by omega)) (fun g => by kernel_rfl), ob_val fun g w => by kernel_rfl, ob_s (l := fun g => [rowR 24 3 (.slice (some ⟨b19, 0, none⟩) wl.length c14) wl.length (wl.flatMap it3)]) (l' := fun g => [rowR 24 3 (.slice (some ⟨b19, 0, none⟩) wl.length c14) wl.length (wl.flatMap it3)]) (v := fun g => sV ((wl.getD k ((⟨#[]⟩, ⟨#[]⟩, 0) : ByteArray × ByteArray × Int)).1)) (fun g => o_loadRow (i := k * 3) (u := sV ((wl.getD k ((⟨#[]⟩, ⟨#[]⟩, 0) : ByteArray × ByteArray × Int)).1)) (by kernel_rfl) (by omega) (by kernel_rfl) ((rec_get (f := it3) (k := 3) (z := ((⟨#[]⟩, ⟨#[]⟩, 0) : ByteArray × ByteArray × Int)) (l := wl) (i := k) (j := 0) (fun _ => rfl) (by omega) (by decide)).trans rfl)) (fun g => by kernel_rfl), ob_val fun g w => by kernel_rfl, ob_val fun g w => by kernel_rfl, ob_s (l := fun g => [mapR Value.string Value.bool b15 gm]) (l' := fun g => [mapR Value.string Value.bool b15 (put gm ((wl.getD k ((⟨#[]⟩, ⟨#[]⟩, 0) : ByteArray × ByteArray × Int)).1) false)]) (v := fun g => undef) (fun g => o_mapUpdate ((wl.getD k ((⟨#[]⟩, ⟨#[]⟩, 0) : ByteArray × ByteArray × Int)).1) false (by kernel_rfl) (by kernel_rfl) (by kernel_rfl) (strKey Tryd.underlying9) Tryd.underlying44) (fun g => by kernel_rfl), trivial⟩
          intro g
          refine Ex'.sub (subB_spec [1, 4, 5, 7, 8, 9, 10]) ?_
          refine Ex'.as [0, 1, 2, 3, 4, 5, 6, 7] (σ' := [(1, iV nw), (4, bV false), (5, pV b3 0), (7, .slice (some ⟨b19, 0, none⟩) wl.length c14), (8, .map (some b15)), (9, .map (some b16)), (10, iV (k : Int))]) (Γ' := [oldR w0, valB b3 mb4 qb5 bys0, mapR Value.string itV mb4 M0, hpS qb5 S0 n0, rowR 24 3 (.slice (some ⟨b19, 0, none⟩) wl.length c14) wl.length (wl.flatMap it3), mapR Value.string Value.bool b15 (put gm ((wl.getD k ((⟨#[]⟩, ⟨#[]⟩, 0) : ByteArray × ByteArray × Int)).1) false), mapR Value.string (Value.int .i64) b16 dm, blkR b21 [sV (((lk M0 ((wl.getD k ((⟨#[]⟩, ⟨#[]⟩, 0) : ByteArray × ByteArray × Int)).1)).getD ((⟨#[]⟩, ⟨#[]⟩, 0) : ByteArray × ByteArray × Int)).1), sV (((lk M0 ((wl.getD k ((⟨#[]⟩, ⟨#[]⟩, 0) : ByteArray × ByteArray × Int)).1)).getD ((⟨#[]⟩, ⟨#[]⟩, 0) : ByteArray × ByteArray × Int)).2.1), iV (((lk M0 ((wl.getD k ((⟨#[]⟩, ⟨#[]⟩, 0) : ByteArray × ByteArray × Int)).1)).getD ((⟨#[]⟩, ⟨#[]⟩, 0) : ByteArray × ByteArray × Int)).2.2)] 24]) (by kernel_rfl) rfl (by kernel_rfl) (by kernel_rfl) ?_
          refine Ex'.next ?_
          refine Cd.plan [0, 0, 0, 6, 14, 30, 0, 0, 192, 448, 960, 2047] [(5, [(4, false, 0)]), (10, [(4, false, 0)]), (11, [(6, true, 0)])] [] [] [(6, 11, fun g => mapR Value.string (Value.int .i64) b16 (put dm ((wl.getD k ((⟨#[]⟩, ⟨#[]⟩, 0) : ByteArray × ByteArray × Int)).1) ((wl.getD k ((⟨#[]⟩, ⟨#[]⟩, 0) : ByteArray × ByteArray × Int)).2.2)))] [fun g => .map (some b16), fun g => .slice (some ⟨b19, 0, none⟩) wl.length c14, fun g => iV (k : Int), fun g => pV b19 (k * 3), fun g => pV b19 (k * 3), fun g => sV ((wl.getD k ((⟨#[]⟩, ⟨#[]⟩, 0) : ByteArray × ByteArray × Int)).1), fun g => .slice (some ⟨b19, 0, none⟩) wl.length c14, fun g => iV (k : Int), fun g => pV b19 (k * 3), fun g => pV b19 (k * 3 + 2), fun g => iV ((wl.getD k ((⟨#[]⟩, ⟨#[]⟩, 0) : ByteArray × ByteArray × Int)).2.2), fun g => undef] (by kernel_rfl) (by kernel_rfl) rfl (trivial) ?_ ?_
          · exact ⟨ob_val fun g w => by kernel_rfl, ob_val fun g w => by kernel_rfl, ob_val fun g w => by kernel_rfl, ob_v (v := fun g => pV b19 (k * 3)) (fun g => o_idx (b := b19) (cap := c14) (e := 24) (off := 0) (n := wl.length) (kd := .i64) (q := (k : Int)) (i := k) (size := 3) (j := k * 3) (by kernel_rfl) (by kernel_rfl) (by rfl) (by omega) Tryd.underlying42 (by kernel_rfl) (by omega)) (fun g => by kernel_rfl), ob_val fun g w => by kernel_rfl, ob_s (l := fun g => [rowR 24 3 (.slice (some ⟨b19, 0, none⟩) wl.length c14) wl.length (wl.flatMap it3)]) (l' := fun g => [rowR 24 3 (.slice (some ⟨b19, 0, none⟩) wl.length c14) wl.length (wl.flatMap it3)]) (v := fun g => sV ((wl.getD k ((⟨#[]⟩, ⟨#[]⟩, 0) : ByteArray × ByteArray × Int)).1)) (fun g => o_loadRow (i := k * 3) (u := sV ((wl.getD k ((⟨#[]⟩, ⟨#[]⟩, 0) : ByteArray × ByteArray × Int)).1)) (by kernel_rfl) (by omega) (by kernel_rfl) ((rec_get (f := it3) (k := 3) (z := ((⟨#[]⟩, ⟨#[]⟩, 0) : ByteArray × ByteArray × Int)) (l := wl) (i := k) (j := 0) (fun _ => rfl) (by omega) (by decide)).trans rfl)) (fun g => by kernel_rfl), ob_val fun g w => by kernel_rfl, ob_val fun g w => by kernel_rfl, ob_v (v := fun g => pV b19 (k * 3)) (fun g => o_idx (b := b19) (cap := c14) (e := 24) (off := 0) (n := wl.length) (kd := .i64) (q := (k : Int)) (i := k) (size := 3) (j := k * 3) (by kernel_rfl) (by kernel_rfl) (by rfl) (by omega) Tryd.underlying42 (by kernel_rfl) (by omega)) (fun g => by kernel_rfl), ob_val fun g w => by kernel_rfl, ob_s (l := fun g => [rowR 24 3 (.slice (some ⟨b19, 0, none⟩) wl.length c14) wl.length (wl.flatMap it3)]) (l' := fun g => [rowR 24 3 (.slice (some ⟨b19, 0, none⟩) wl.length c14) wl.length (wl.flatMap it3)]) (v := fun g => iV ((wl.getD k ((⟨#[]⟩, ⟨#[]⟩, 0) : ByteArray × ByteArray × Int)).2.2)) (fun g => o_loadRow (i := k * 3 + 2) (u := iV ((wl.getD k ((⟨#[]⟩, ⟨#[]⟩, 0) : ByteArray × ByteArray × Int)).2.2)) (by kernel_rfl) (by omega) (by kernel_rfl) ((rec_get (f := it3) (k := 3) (z := ((⟨#[]⟩, ⟨#[]⟩, 0) : ByteArray × ByteArray × Int)) (l := wl) (i := k) (j := 2) (fun _ => rfl) (by omega) (by decide)).trans rfl)) (fun g => by kernel_rfl), ob_s (l := fun g => [mapR Value.string (Value.int .i64) b16 dm]) (l' := fun g => [mapR Value.string (Value.int .i64) b16 (put dm ((wl.getD k ((⟨#[]⟩, ⟨#[]⟩, 0) : ByteArray × ByteArray × Int)).1) ((wl.getD k ((⟨#[]⟩, ⟨#[]⟩, 0) : ByteArray × ByteArray × Int)).2.2))]) (v := fun g => undef) (fun g => o_mapUpdate ((wl.getD k ((⟨#[]⟩, ⟨#[]⟩, 0) : ByteArray × ByteArray × Int)).1) ((wl.getD k ((⟨#[]⟩, ⟨#[]⟩, 0) : ByteArray × ByteArray × Int)).2.2) (by kernel_rfl) (by kernel_rfl) (by kernel_rfl) (strKey Tryd.underlying9) Tryd.underlying45) (fun g => by kernel_rfl), trivial⟩
          intro g
          refine Ex'.sub (subB_spec [1, 4, 5, 7, 8, 9, 10]) ?_
          refine Ex'.as [0, 1, 2, 3, 4, 5, 6, 7] (σ' := [(1, iV nw), (4, bV false), (5, pV b3 0), (7, .slice (some ⟨b19, 0, none⟩) wl.length c14), (8, .map (some b15)), (9, .map (some b16)), (10, iV (k : Int))]) (Γ' := [oldR w0, valB b3 mb4 qb5 bys0, mapR Value.string itV mb4 M0, hpS qb5 S0 n0, rowR 24 3 (.slice (some ⟨b19, 0, none⟩) wl.length c14) wl.length (wl.flatMap it3), mapR Value.string Value.bool b15 (put gm ((wl.getD k ((⟨#[]⟩, ⟨#[]⟩, 0) : ByteArray × ByteArray × Int)).1) false), mapR Value.string (Value.int .i64) b16 (put dm ((wl.getD k ((⟨#[]⟩, ⟨#[]⟩, 0) : ByteArray × ByteArray × Int)).1) ((wl.getD k ((⟨#[]⟩, ⟨#[]⟩, 0) : ByteArray × ByteArray × Int)).2.2)), blkR b21 [sV (((lk M0 ((wl.getD k ((⟨#[]⟩, ⟨#[]⟩, 0) : ByteArray × ByteArray × Int)).1)).getD ((⟨#[]⟩, ⟨#[]⟩, 0) : ByteArray × ByteArray × Int)).1), sV (((lk M0 ((wl.getD k ((⟨#[]⟩, ⟨#[]⟩, 0) : ByteArray × ByteArray × Int)).1)).getD ((⟨#[]⟩, ⟨#[]⟩, 0) : ByteArray × ByteArray × Int)).2.1), iV (((lk M0 ((wl.getD k ((⟨#[]⟩, ⟨#[]⟩, 0) : ByteArray × ByteArray × Int)).1)).getD ((⟨#[]⟩, ⟨#[]⟩, 0) : ByteArray × ByteArray × Int)).2.2)] 24]) (by kernel_rfl) rfl (by kernel_rfl) (by kernel_rfl) ?_
          refine Ex'.blockNormal ?_
          refine Ex'.next ?_
          refine Cd.region rfl ?_
          refine Sq.vals [0] (rest := [1, 2]) [iV (k : Int)] (fun w => by kernel_rfl) ?_
          refine Sq.v (r := iV ((k : Int) + 1)) (o_add (k := .i64) (a := (k : Int)) (b := 1) (c := (k : Int) + 1) (by kernel_rfl) (by kernel_rfl) (w64 rfl (by omega))) rfl (by kernel_rfl) ?_
          refine Sq.vals [2] (rest := []) [iV ((k : Int) + 1)] (fun w => by kernel_rfl) ?_
          refine Sq.done ?_
          refine Ex'.round (g := (k, gm, dm)) (k + 1, put gm ((wl.getD k ((⟨#[]⟩, ⟨#[]⟩, 0) : ByteArray × ByteArray × Int)).1) false, put dm ((wl.getD k ((⟨#[]⟩, ⟨#[]⟩, 0) : ByteArray × ByteArray × Int)).1) ((wl.getD k ((⟨#[]⟩, ⟨#[]⟩, 0) : ByteArray × ByteArray × Int)).2.2)) ?_ ?_ (subB_eq (l := [1, 4, 5, 7, 8, 9, 10]) (by kernel_rfl)) (fun w hw => hw.pickB [0, 1, 2, 3, 4, 5, 6] (by kernel_rfl) (by kernel_rfl) (by kernel_rfl))
          · (try dsimp only); exact ⟨by omega, hG.had (by omega) h20⟩
          · omega
        ·
          refine Sq.ex [1, 2, 3] (l := [valB b3 mb4 qb5 bys0, mapR Value.string itV mb4 M0, hpS qb5 S0 n0]) (o_call (by kernel_rfl) Tryd.call12 (val_GetBad (n := n0) (M := M0) (S := S0) (bys := bys0) ((wl.getD k ((⟨#[]⟩, ⟨#[]⟩, 0) : ByteArray × ByteArray × Int)).1) nw h20)) (by kernel_rfl) rfl (by kernel_rfl) (fun _ => Nat.le_of_ble_eq_true (by kernel_rfl)) ?_; rintro b22 _
          refine Sq.vals [8, 9, 10] (rest := [11, 12, 13]) [.tuple #[.agg #[sV ⟨#[]⟩, sV ⟨#[]⟩, iV 0], .iface 83 (pV b22 0)], .agg #[sV ⟨#[]⟩, sV ⟨#[]⟩, iV 0], .iface 83 (pV b22 0)] (fun w => by kernel_rfl) ?_
          refine Sq.ex [] (l := []) (o_new [sV ⟨#[]⟩, sV ⟨#[]⟩, iV 0] (fun w => by kernel_rfl)) (by kernel_rfl) rfl (by kernel_rfl) (fun _ => Nat.zero_le _) ?_; intro b23 _
          refine Sq.same [8] (l := [blkR b23 [sV ⟨#[]⟩, sV ⟨#[]⟩, iV 0] 24]) (o_store (i := 0) (v := .agg #[sV ⟨#[]⟩, sV ⟨#[]⟩, iV 0]) (by kernel_rfl) (by kernel_rfl) (by kernel_rfl) (by kernel_rfl) (by kernel_rfl)) (by kernel_rfl) rfl (by kernel_rfl) rfl ?_
          refine Sq.vals [13] (rest := []) [.iface 83 (pV b22 0)] (fun w => by kernel_rfl) ?_
          refine Sq.done ?_
          refine Ex'.next ?_
          refine Cd.seq ?_
          refine Cd.plan [0, 0, 0, 6, 14, 30, 0, 64, 255] [(5, [(4, false, 0)]), (8, [(5, true, 0)])] [] [] [(5, 8, fun g => mapR Value.string Value.bool b15 (put gm ((wl.getD k ((⟨#[]⟩, ⟨#[]⟩, 0) : ByteArray × ByteArray × Int)).1) true))] [fun g => .map (some b15), fun g => .slice (some ⟨b19, 0, none⟩) wl.length c14, fun g => iV (k : Int), fun g => pV b19 (k * 3), fun g => pV b19 (k * 3), fun g => sV ((wl.getD k ((⟨#[]⟩, ⟨#[]⟩, 0) : ByteArray × ByteArray × Int)).1), fun g => .iface 83 (pV b22 0), fun g => bV true, fun g => undef] (by kernel_rfl) (by kernel_rfl) rfl (trivial) ?_ ?_
          · exact ⟨ob_val fun g w => by kernel_rfl, ob_val fun g w => by kernel_rfl, ob_val fun g w => by kernel_rfl, ob_v (v := fun g => pV b19 (k * 3)) (fun g => o_idx (b := b19) (cap := c14) (e := 24) (off := 0) (n := wl.length) (kd := .i64) (q := (k : Int)) (i := k) (size := 3) (j := k * 3) (by kernel_rfl) (by kernel_rfl) (by rfl) (by omega) Tryd.underlying42 (by kernel_rfl) (by omega)) (fun g => by kernel_rfl), ob_val fun g w => by kernel_rfl, ob_s (l := fun g => [rowR 24 3 (.slice (some ⟨b19, 0, none⟩) wl.length c14) wl.length (wl.flatMap it3)]) (l' := fun g => [rowR 24 3 (.slice (some ⟨b19, 0, none⟩) wl.length c14) wl.length (wl.flatMap it3)]) (v := fun g => sV ((wl.getD k ((⟨#[]⟩, ⟨#[]⟩, 0) : ByteArray × ByteArray × Int)).1)) (fun g => o_loadRow (i := k * 3) (u := sV ((wl.getD k ((⟨#[]⟩, ⟨#[]⟩, 0) : ByteArray × ByteArray × Int)).1)) (by kernel_rfl) (by omega) (by kernel_rfl) ((rec_get (f := it3) (k := 3) (z := ((⟨#[]⟩, ⟨#[]⟩, 0) : ByteArray × ByteArray × Int)) (l := wl) (i := k) (j := 0) (fun _ => rfl) (by omega) (by decide)).trans rfl)) (fun g => by kernel_rfl), ob_val fun g w => by kernel_rfl, ob_val fun g w => by kernel_rfl, ob_s (l := fun g => [mapR Value.string Value.bool b15 gm]) (l' := fun g => [mapR Value.string Value.bool b15 (put gm ((wl.getD k ((⟨#[]⟩, ⟨#[]⟩, 0) : ByteArray × ByteArray × Int)).1) true)]) (v := fun g => undef) (fun g => o_mapUpdate ((wl.getD k ((⟨#[]⟩, ⟨#[]⟩, 0) : ByteArray × ByteArray × Int)).1) true (by kernel_rfl) (by kernel_rfl) (by kernel_rfl) (strKey Tryd.underlying9) Tryd.underlying44) (fun g => by kernel_rfl), trivial⟩
          intro g
          refine Ex'.sub (subB_spec [1, 4, 5, 7, 8, 9, 10]) ?_
          refine Ex'.as [0, 1, 2, 3, 4, 5, 6, 7, 8] (σ' := [(1, iV nw), (4, bV false), (5, pV b3 0), (7, .slice (some ⟨b19, 0, none⟩) wl.length c14), (8, .map (some b15)), (9, .map (some b16)), (10, iV (k : Int))]) (Γ' := [oldR w0, valB b3 mb4 qb5 bys0, mapR Value.string itV mb4 M0, hpS qb5 S0 n0, rowR 24 3 (.slice (some ⟨b19, 0, none⟩) wl.length c14) wl.length (wl.flatMap it3), mapR Value.string Value.bool b15 (put gm ((wl.getD k ((⟨#[]⟩, ⟨#[]⟩, 0) : ByteArray × ByteArray × Int)).1) true), mapR Value.string (Value.int .i64) b16 dm, blkR b22 [sV ⟨#[103, 101, 116]⟩, sV ((wl.getD k ((⟨#[]⟩, ⟨#[]⟩, 0) : ByteArray × ByteArray × Int)).1), .iface 71 (iV 5)] 87, blkR b23 [sV ⟨#[]⟩, sV ⟨#[]⟩, iV 0] 24]) (by kernel_rfl) rfl (by kernel_rfl) (by kernel_rfl) ?_
          refine Ex'.next ?_
          refine Cd.plan [0, 0, 0, 6, 14, 30, 0, 0, 192, 448, 960, 2047] [(5, [(4, false, 0)]), (10, [(4, false, 0)]), (11, [(6, true, 0)])] [] [] [(6, 11, fun g => mapR Value.string (Value.int .i64) b16 (put dm ((wl.getD k ((⟨#[]⟩, ⟨#[]⟩, 0) : ByteArray × ByteArray × Int)).1) ((wl.getD k ((⟨#[]⟩, ⟨#[]⟩, 0) : ByteArray × ByteArray × Int)).2.2)))] [fun g => .map (some b16), fun g => .slice (some ⟨b19, 0, none⟩) wl.length c14, fun g => iV (k : Int), fun g => pV b19 (k * 3), fun g => pV b19 (k * 3), fun g => sV ((wl.getD k ((⟨#[]⟩, ⟨#[]⟩, 0) : ByteArray × ByteArray × Int)).1), fun g => .slice (some ⟨b19, 0, none⟩) wl.length c14, fun g => iV (k : Int), fun g => pV b19 (k * 3), fun g => pV b19 (k * 3 + 2), fun g => iV ((wl.getD k ((⟨#[]⟩, ⟨#[]⟩, 0) : ByteArray × ByteArray × Int)).2.2), fun g => undef] (by kernel_rfl) (by kernel_rfl) rfl (trivial) ?_ ?_
          · exact ⟨ob_val fun g w => by kernel_rfl, ob_val fun g w => by kernel_rfl, ob_val fun g w => by kernel_rfl, ob_v (v := fun g => pV b19 (k * 3)) (fun g => o_idx (b := b19) (cap := c14) (e := 24) (off := 0) (n := wl.length) (kd := .i64) (q := (k : Int)) (i := k) (size := 3) (j := k * 3) (by kernel_rfl) (by kernel_rfl) (by rfl) (by omega) Tryd.underlying42 (by kernel_rfl) (by omega)) (fun g => by kernel_rfl), ob_val fun g w => by kernel_rfl, ob_s (l := fun g => [rowR 24 3 (.slice (some ⟨b19, 0, none⟩) wl.length c14) wl.length (wl.flatMap it3)]) (l' := fun g => [rowR 24 3 (.slice (some ⟨b19, 0, none⟩) wl.length c14) wl.length (wl.flatMap it3)]) (v := fun g => sV ((wl.getD k ((⟨#[]⟩, ⟨#[]⟩, 0) : ByteArray × ByteArray × Int)).1)) (fun g => o_loadRow (i := k * 3) (u := sV ((wl.getD k ((⟨#[]⟩, ⟨#[]⟩, 0) : ByteArray × ByteArray × Int)).1)) (by kernel_rfl) (by omega) (by kernel_rfl) ((rec_get (f := it3) (k := 3) (z := ((⟨#[]⟩, ⟨#[]⟩, 0) : ByteArray × ByteArray × Int)) (l := wl) (i := k) (j := 0) (fun _ => rfl) (by omega) (by decide)).trans rfl)) (fun g => by kernel_rfl), ob_val fun g w => by kernel_rfl, ob_val fun g w => by kernel_rfl, ob_v (v := fun g => pV b19 (k * 3)) (fun g => o_idx (b := b19) (cap := c14) (e := 24) (off := 0) (n := wl.length) (kd := .i64) (q := (k : Int)) (i := k) (size := 3) (j := k * 3) (by kernel_rfl) (by kernel_rfl) (by rfl) (by omega) Tryd.underlying42 (by kernel_rfl) (by omega)) (fun g => by kernel_rfl), ob_val fun g w => by kernel_rfl, ob_s (l := fun g => [rowR 24 3 (.slice (some ⟨b19, 0, none⟩) wl.length c14) wl.length (wl.flatMap it3)]) (l' := fun g => [rowR 24 3 (.slice (some ⟨b19, 0, none⟩) wl.length c14) wl.length (wl.flatMap it3)]) (v := fun g => iV ((wl.getD k ((⟨#[]⟩, ⟨#[]⟩, 0) : ByteArray × ByteArray × Int)).2.2)) (fun g => o_loadRow (i := k * 3 + 2) (u := iV ((wl.getD k ((⟨#[]⟩, ⟨#[]⟩, 0) : ByteArray × ByteArray × Int)).2.2)) (by kernel_rfl) (by omega) (by kernel_rfl) ((rec_get (f := it3) (k := 3) (z := ((⟨#[]⟩, ⟨#[]⟩, 0) : ByteArray × ByteArray × Int)) (l := wl) (i := k) (j := 2) (fun _ => rfl) (by omega) (by decide)).trans rfl)) (fun g => by kernel_rfl), ob_s (l := fun g => [mapR Value.string (Value.int .i64) b16 dm]) (l' := fun g => [mapR Value.string (Value.int .i64) b16 (put dm ((wl.getD k ((⟨#[]⟩, ⟨#[]⟩, 0) : ByteArray × ByteArray × Int)).1) ((wl.getD k ((⟨#[]⟩, ⟨#[]⟩, 0) : ByteArray × ByteArray × Int)).2.2))]) (v := fun g => undef) (fun g => o_mapUpdate ((wl.getD k ((⟨#[]⟩, ⟨#[]⟩, 0) : ByteArray × ByteArray × Int)).1) ((wl.getD k ((⟨#[]⟩, ⟨#[]⟩, 0) : ByteArray × ByteArray × Int)).2.2) (by kernel_rfl) (by kernel_rfl) (by kernel_rfl) (strKey Tryd.underlying9) Tryd.underlying45) (fun g => by kernel_rfl), trivial⟩
          intro g
          refine Ex'.sub (subB_spec [1, 4, 5, 7, 8, 9, 10]) ?_
          refine Ex'.as [0, 1, 2, 3, 4, 5, 6, 7, 8] (σ' := [(1, iV nw), (4, bV false), (5, pV b3 0), (7, .slice (some ⟨b19, 0, none⟩) wl.length c14), (8, .map (some b15)), (9, .map (some b16)), (10, iV (k : Int))]) (Γ' := [oldR w0, valB b3 mb4 qb5 bys0, mapR Value.string itV mb4 M0, hpS qb5 S0 n0, rowR 24 3 (.slice (some ⟨b19, 0, none⟩) wl.length c14) wl.length (wl.flatMap it3), mapR Value.string Value.bool b15 (put gm ((wl.getD k ((⟨#[]⟩, ⟨#[]⟩, 0) : ByteArray × ByteArray × Int)).1) true), mapR Value.string (Value.int .i64) b16 (put dm ((wl.getD k ((⟨#[]⟩, ⟨#[]⟩, 0) : ByteArray × ByteArray × Int)).1) ((wl.getD k ((⟨#[]⟩, ⟨#[]⟩, 0) : ByteArray × ByteArray × Int)).2.2)), blkR b22 [sV ⟨#[103, 101, 116]⟩, sV ((wl.getD k ((⟨#[]⟩, ⟨#[]⟩, 0) : ByteArray × ByteArray × Int)).1), .iface 71 (iV 5)] 87, blkR b23 [sV ⟨#[]⟩, sV ⟨#[]⟩, iV 0] 24]) (by kernel_rfl) rfl (by kernel_rfl) (by kernel_rfl) ?_
          refine Ex'.blockNormal ?_
          refine Ex'.next ?_
          refine Cd.region rfl ?_
          refine Sq.vals [0] (rest := [1, 2]) [iV (k : Int)] (fun w => by kernel_rfl) ?_
          refine Sq.v (r := iV ((k : Int) + 1)) (o_add (k := .i64) (a := (k : Int)) (b := 1) (c := (k : Int) + 1) (by kernel_rfl) (by kernel_rfl) (w64 rfl (by omega))) rfl (by kernel_rfl) ?_
          refine Sq.vals [2] (rest := []) [iV ((k : Int) + 1)] (fun w => by kernel_rfl) ?_
          refine Sq.done ?_
          refine Ex'.round (g := (k, gm, dm)) (k + 1, put gm ((wl.getD k ((⟨#[]⟩, ⟨#[]⟩, 0) : ByteArray × ByteArray × Int)).1) true, put dm ((wl.getD k ((⟨#[]⟩, ⟨#[]⟩, 0) : ByteArray × ByteArray × Int)).1) ((wl.getD k ((⟨#[]⟩, ⟨#[]⟩, 0) : ByteArray × ByteArray × Int)).2.2)) ?_ ?_ (subB_eq (l := [1, 4, 5, 7, 8, 9, 10]) (by kernel_rfl)) (fun w hw => hw.pickB [0, 1, 2, 3, 4, 5, 6] (by kernel_rfl) (by kernel_rfl) (by kernel_rfl))
          · (try dsimp only); exact ⟨by omega, hG.not (by omega) h20⟩
          · omega
      ·
        have hF := hG.fin (by omega) hV hpw
        have hX := valExp_spec (n := nw) hV
        have hXv := hX.vx; have hX0 := hXv.b0; have hX1 := hXv.b1; have hXl := hX.len
        refine Cd.exit ?_
        refine Ex'.thenExit ?_
        refine Ex'.thenExit ?_
        refine Ex'.blockHit ?_
        refine Ex'.next ?_
        refine Cd.seq ?_
        refine Cd.region rfl ?_
        refine Sq.vals [0, 1] (rest := [2, 3]) [pV b3 0, iV nw] (fun w => by kernel_rfl) ?_
        refine Sq.ex [1, 2, 3] (l := [valB b3 mb4 qb5 bys0, mapR Value.string itV mb4 M0, hpS qb5 S0 n0]) (o_call (by kernel_rfl) Tryd.call15 (val_Expire (n := n0) (M := M0) (S := S0) (bys := bys0) nw (by omega) (by first | omega | (constructor <;> decide)) (by first | exact hV.it | exact hXv.it) (by first | exact hV.ends | exact hXv.ends))) (by kernel_rfl) rfl (by kernel_rfl) (fun _ => Nat.le_of_ble_eq_true (by kernel_rfl)) ?_; rintro v24 _
        refine Sq.fact (i := 7) (R := rowR 9 1 v24 (((valExp M0 S0 bys0 nw).2.2.2).length) (((valExp M0 S0 bys0 nw).2.2.2).map Value.string)) (by kernel_rfl) row_slice ?_; rintro ⟨a25, c26, rfl, hc26, hc26'⟩
        have hc26'' : c26 ≤ 9223372036854775807 := hc26'
        refine Sq.vals [3] (rest := []) [.slice a25 (((valExp M0 S0 bys0 nw).2.2.2).length) c26] (fun w => by kernel_rfl) ?_
        refine Sq.done ?_
        refine Ex'.next ?_
        refine Cd.seq ?_
        refine Cd.seq ?_
        refine Cd.region rfl ?_
        refine Sq.vals [0] (rest := []) [iV 0] (fun w => by kernel_rfl) ?_
        refine Sq.done ?_
        refine Ex'.next ?_
        refine Cd.block ?_
        refine Cd.loop (ι := Nat) (fun k => k ≤ (valExp M0 S0 bys0 nw).2.2.2.length) (fun k => (valExp M0 S0 bys0 nw).2.2.2.length - k) (fun k => [(1, iV nw), (5, pV b3 0), (7, .slice a13 wl.length c14), (8, .map (some b15)), (9, .map (some b16)), (13, .slice a25 (((valExp M0 S0 bys0 nw).2.2.2).length) c26), (14, iV (k : Int))]) (fun k => [oldR w0, valB b3 mb4 qb5 ((valExp M0 S0 bys0 nw).2.2.1), mapR Value.string itV mb4 ((valExp M0 S0 bys0 nw).1), hpS qb5 ((valExp M0 S0 bys0 nw).2.1) n0, rowR 24 3 (.slice a13 wl.length c14) wl.length (wl.flatMap it3), mapR Value.string Value.bool b15 gm, mapR Value.string (Value.int .i64) b16 dm, rowR 9 1 (.slice a25 (((valExp M0 S0 bys0 nw).2.2.2).length) c26) (((valExp M0 S0 bys0 nw).2.2.2).length) (((valExp M0 S0 bys0 nw).2.2.2).map Value.string)]) 0 (Nat.zero_le _) (subB_eq (l := [1, 5, 7, 8, 9, 13, 14]) (by kernel_rfl)) (fun w hw => hw.pickB [0, 1, 2, 3, 4, 5, 6, 7] (by kernel_rfl) (by kernel_rfl) (by kernel_rfl)) ?_
        rintro k hL27
        try dsimp only at hL27 ⊢
        have hk := hL27
        refine Cd.seq ?_
        refine Cd.seq ?_
        refine Cd.region rfl ?_
        refine Sq.vals [0, 1, 2, 3] (rest := []) [iV (k : Int), .slice a25 (((valExp M0 S0 bys0 nw).2.2.2).length) c26, iV (((valExp M0 S0 bys0 nw).2.2.2).length : Int), bV (decide ((k : Int) < (((valExp M0 S0 bys0 nw).2.2.2).length : Int)))] (fun w => by kernel_rfl) ?_
        refine Sq.done ?_
        refine Ex'.next ?_
        refine Cd.case (p := (k : Int) < (((valExp M0 S0 bys0 nw).2.2.2).length : Int)) (by kernel_rfl) (fun h28 => ?_) (fun h28 => ?_)
        ·
          refine Cd.skip ?_
          refine Ex'.next ?_
          refine Cd.seq ?_
          refine Cd.block ?_
          refine Cd.seq ?_
          refine Cd.fact (i := 7) (R := rowR 9 1 (.slice a25 (((valExp M0 S0 bys0 nw).2.2.2).length) c26) (((valExp M0 S0 bys0 nw).2.2.2).length) (((valExp M0 S0 bys0 nw).2.2.2).map Value.string)) (by kernel_rfl) (row_addr (by omega)) ?_; rintro ⟨b29, rfl⟩
          by_cases h30 : (k : Int) > 0
          ·
            refine Cd.plan (0 :: 0 :: 0 :: 6 :: 14 :: 31 :: 63 :: 127 :: 255 :: 511 :: 1023 :: 2047 :: 2047 :: 2047 :: 10239 :: 30719 :: 63487 :: 131071 :: 2047 :: 2047 :: 2047 :: 1574911 :: 3672063 :: 8128511 :: 16777215 :: 33554431 :: 67108863 :: 134217727 :: 268435455 :: 268435455 :: 268435455 :: 1879048191 :: 4026531839 :: 8589934591 :: 17179869183 :: 34359738367 :: []) [(4, [(7, false, 0)]), (5, [(5, false, 0)]), (16, [(7, false, 0)]), (17, [(6, false, 0)]), (22, [(7, false, 0)]), (23, [(6, false, 0)]), (32, [(7, false, 0)]), (33, [(6, false, 0)])] [] [] [] ((fun g => .map (some b15)) :: (fun g => .slice (some ⟨b29, 0, none⟩) (((valExp M0 S0 bys0 nw).2.2.2).length) c26) :: (fun g => iV (k : Int)) :: (fun g => pV b29 k) :: (fun g => sV (((valExp M0 S0 bys0 nw).2.2.2).getD k ⟨#[]⟩)) :: (fun g => bV ((lk gm (((valExp M0 S0 bys0 nw).2.2.2).getD k ⟨#[]⟩)).getD false)) :: (fun g => bV false) :: (fun g => bV false) :: (fun g => iV (k : Int)) :: (fun g => bV true) :: (fun g => bV true) :: (fun g => .map (some b16)) :: (fun g => .slice (some ⟨b29, 0, none⟩) (((valExp M0 S0 bys0 nw).2.2.2).length) c26) :: (fun g => iV (k : Int)) :: (fun g => iV ((k - 1 : Nat) : Int)) :: (fun g => pV b29 (k - 1)) :: (fun g => sV (((valExp M0 S0 bys0 nw).2.2.2).getD (k - 1) ⟨#[]⟩)) :: (fun g => iV ((lk dm (((valExp M0 S0 bys0 nw).2.2.2).getD (k - 1) ⟨#[]⟩)).getD (0 : Int))) :: (fun g => .map (some b16)) :: (fun g => .slice (some ⟨b29, 0, none⟩) (((valExp M0 S0 bys0 nw).2.2.2).length) c26) :: (fun g => iV (k : Int)) :: (fun g => pV b29 k) :: (fun g => sV (((valExp M0 S0 bys0 nw).2.2.2).getD k ⟨#[]⟩)) :: (fun g => iV ((lk dm (((valExp M0 S0 bys0 nw).2.2.2).getD k ⟨#[]⟩)).getD (0 : Int))) :: (fun g => bV false) :: (fun g => bV false) :: (fun g => bV false) :: (fun g => bV false) :: (fun g => .map (some b16)) :: (fun g => .slice (some ⟨b29, 0, none⟩) (((valExp M0 S0 bys0 nw).2.2.2).length) c26) :: (fun g => iV (k : Int)) :: (fun g => pV b29 k) :: (fun g => sV (((valExp M0 S0 bys0 nw).2.2.2).getD k ⟨#[]⟩)) :: (fun g => iV ((lk dm (((valExp M0 S0 bys0 nw).2.2.2).getD k ⟨#[]⟩)).getD (0 : Int))) :: (fun g => bV false) :: (fun g => bV false) :: []) (by kernel_rfl) (by kernel_rfl) rfl (trivial) ?_ ?_
            · exact ⟨ob_val fun g w => by kernel_rfl, ob_val fun g w => by kernel_rfl, ob_val fun g w => by kernel_rfl, ob_v (v := fun g => pV b29 k) (fun g => o_idx (b := b29) (cap := c26) (e := 9) (off := 0) (n := ((valExp M0 S0 bys0 nw).2.2.2).length) (kd := .i64) (q := (k : Int)) (i := k) (size := 1) (j := k) (by kernel_rfl) (by kernel_rfl) (by rfl) (by omega) Tryd.underlying39 (by kernel_rfl) (by omega)) (fun g => by kernel_rfl), ob_s (l := fun g => [rowR 9 1 (.slice (some ⟨b29, 0, none⟩) (((valExp M0 S0 bys0 nw).2.2.2).length) c26) (((valExp M0 S0 bys0 nw).2.2.2).length) (((valExp M0 S0 bys0 nw).2.2.2).map Value.string)]) (l' := fun g => [rowR 9 1 (.slice (some ⟨b29, 0, none⟩) (((valExp M0 S0 bys0 nw).2.2.2).length) c26) (((valExp M0 S0 bys0 nw).2.2.2).length) (((valExp M0 S0 bys0 nw).2.2.2).map Value.string)]) (v := fun g => sV (((valExp M0 S0 bys0 nw).2.2.2).getD k ⟨#[]⟩)) (fun g => o_loadRow (i := k) (u := sV (((valExp M0 S0 bys0 nw).2.2.2).getD k ⟨#[]⟩)) (by kernel_rfl) (by omega) (by kernel_rfl) (get_map (by omega))) (fun g => by kernel_rfl), ob_s (l := fun g => [mapR Value.string Value.bool b15 gm]) (l' := fun g => [mapR Value.string Value.bool b15 gm]) (v := fun g => bV ((lk gm (((valExp M0 S0 bys0 nw).2.2.2).getD k ⟨#[]⟩)).getD false)) (fun g => o_look (fv := Value.bool) (l := gm) false (((valExp M0 S0 bys0 nw).2.2.2).getD k ⟨#[]⟩) (by kernel_rfl) (by kernel_rfl) (strKey Tryd.underlying9) Tryd.underlying44 (fun w => by kernel_rfl)) (fun g => by kernel_rfl), ob_v (v := fun g => bV false) (fun g => OprV.re (pureV (v := bV (!((lk gm (((valExp M0 S0 bys0 nw).2.2.2).getD k ⟨#[]⟩)).getD false))) (by kernel_rfl) rfl fun w => by kernel_rfl) (congrArg Value.bool (show (!((lk gm (((valExp M0 S0 bys0 nw).2.2.2).getD k ⟨#[]⟩)).getD false)) = false from (by rw [(gone_k hV hF hX (k := k) (by omega)).1]; rfl)))) (fun g => by kernel_rfl), ob_val fun g w => by kernel_rfl, ob_val fun g w => by kernel_rfl, ob_v (v := fun g => bV true) (fun g => OprV.re (pureV (v := bV (decide ((k : Int) > 0))) (by kernel_rfl) rfl fun w => by kernel_rfl) (vT h30)) (fun g => by kernel_rfl), ob_val fun g w => by kernel_rfl, ob_val fun g w => by kernel_rfl, ob_val fun g w => by kernel_rfl, ob_val fun g w => by kernel_rfl, ob_v (v := fun g => iV ((k - 1 : Nat) : Int)) (fun g => o_sub (k := .i64) (a := (k : Int)) (b := 1) (c := ((k - 1 : Nat) : Int)) (by kernel_rfl) (by kernel_rfl) (w64 (by omega) (by omega))) (fun g => by kernel_rfl), ob_v (v := fun g => pV b29 (k - 1)) (fun g => o_idx (b := b29) (cap := c26) (e := 9) (off := 0) (n := ((valExp M0 S0 bys0 nw).2.2.2).length) (kd := .i64) (q := ((k - 1 : Nat) : Int)) (i := (k - 1)) (size := 1) (j := (k - 1)) (by kernel_rfl) (by kernel_rfl) (by rfl) (by omega) Tryd.underlying39 (by kernel_rfl) (by omega)) (fun g => by kernel_rfl), ob_s (l := fun g => [rowR 9 1 (.slice (some ⟨b29, 0, none⟩) (((valExp M0 S0 bys0 nw).2.2.2).length) c26) (((valExp M0 S0 bys0 nw).2.2.2).length) (((valExp M0 S0 bys0 nw).2.2.2).map Value.string)]) (l' := fun g => [rowR 9 1 (.slice (some ⟨b29, 0, none⟩) (((valExp M0 S0 bys0 nw).2.2.2).length) c26) (((valExp M0 S0 bys0 nw).2.2.2).length) (((valExp M0 S0 bys0 nw).2.2.2).map Value.string)]) (v := fun g => sV (((valExp M0 S0 bys0 nw).2.2.2).getD (k - 1) ⟨#[]⟩)) (fun g => o_loadRow (i := (k - 1)) (u := sV (((valExp M0 S0 bys0 nw).2.2.2).getD (k - 1) ⟨#[]⟩)) (by kernel_rfl) (by omega) (by kernel_rfl) (get_map (by omega))) (fun g => by kernel_rfl), ob_s (l := fun g => [mapR Value.string (Value.int .i64) b16 dm]) (l' := fun g => [mapR Value.string (Value.int .i64) b16 dm]) (v := fun g => iV ((lk dm (((valExp M0 S0 bys0 nw).2.2.2).getD (k - 1) ⟨#[]⟩)).getD (0 : Int))) (fun g => o_look (fv := (Value.int .i64)) (l := dm) (0 : Int) (((valExp M0 S0 bys0 nw).2.2.2).getD (k - 1) ⟨#[]⟩) (by kernel_rfl) (by kernel_rfl) (strKey Tryd.underlying9) Tryd.underlying45 (fun w => by kernel_rfl)) (fun g => by kernel_rfl), ob_val fun g w => by kernel_rfl, ob_val fun g w => by kernel_rfl, ob_val fun g w => by kernel_rfl, ob_v (v := fun g => pV b29 k) (fun g => o_idx (b := b29) (cap := c26) (e := 9) (off := 0) (n := ((valExp M0 S0 bys0 nw).2.2.2).length) (kd := .i64) (q := (k : Int)) (i := k) (size := 1) (j := k) (by kernel_rfl) (by kernel_rfl) (by rfl) (by omega) Tryd.underlying39 (by kernel_rfl) (by omega)) (fun g => by kernel_rfl), ob_s (l := fun g => [rowR 9 1 (.slice (some ⟨b29, 0, none⟩) (((valExp M0 S0 bys0 nw).2.2.2).length) c26) (((valExp M0 S0 bys0 nw).2.2.2).length) (((valExp M0 S0 bys0 nw).2.2.2).map Value.string)]) (l' := fun g => [rowR 9 1 (.slice (some ⟨b29, 0, none⟩) (((valExp M0 S0 bys0 nw).2.2.2).length) c26) (((valExp M0 S0 bys0 nw).2.2.2).length) (((valExp M0 S0 bys0 nw).2.2.2).map Value.string)]) (v := fun g => sV (((valExp M0 S0 bys0 nw).2.2.2).getD k ⟨#[]⟩)) (fun g => o_loadRow (i := k) (u := sV (((valExp M0 S0 bys0 nw).2.2.2).getD k ⟨#[]⟩)) (by kernel_rfl) (by omega) (by kernel_rfl) (get_map (by omega))) (fun g => by kernel_rfl), ob_s (l := fun g => [mapR Value.string (Value.int .i64) b16 dm]) (l' := fun g => [mapR Value.string (Value.int .i64) b16 dm]) (v := fun g => iV ((lk dm (((valExp M0 S0 bys0 nw).2.2.2).getD k ⟨#[]⟩)).getD (0 : Int))) (fun g => o_look (fv := (Value.int .i64)) (l := dm) (0 : Int) (((valExp M0 S0 bys0 nw).2.2.2).getD k ⟨#[]⟩) (by kernel_rfl) (by kernel_rfl) (strKey Tryd.underlying9) Tryd.underlying45 (fun w => by kernel_rfl)) (fun g => by kernel_rfl), ob_v (v := fun g => bV false) (fun g => OprV.re (pureV (v := bV (decide (((lk dm (((valExp M0 S0 bys0 nw).2.2.2).getD (k - 1) ⟨#[]⟩)).getD (0 : Int)) > ((lk dm (((valExp M0 S0 bys0 nw).2.2.2).getD k ⟨#[]⟩)).getD (0 : Int))))) (by kernel_rfl) rfl fun w => by kernel_rfl) (vF (by have := gone_le hV hF hX (k := k) (by omega) (by omega); omega))) (fun g => by kernel_rfl), ob_val fun g w => by kernel_rfl, ob_val fun g w => by kernel_rfl, ob_val fun g w => by kernel_rfl, ob_val fun g w => by kernel_rfl, ob_val fun g w => by kernel_rfl, ob_val fun g w => by kernel_rfl, ob_v (v := fun g => pV b29 k) (fun g => o_idx (b := b29) (cap := c26) (e := 9) (off := 0) (n := ((valExp M0 S0 bys0 nw).2.2.2).length) (kd := .i64) (q := (k : Int)) (i := k) (size := 1) (j := k) (by kernel_rfl) (by kernel_rfl) (by rfl) (by omega) Tryd.underlying39 (by kernel_rfl) (by omega)) (fun g => by kernel_rfl), ob_s (l := fun g => [rowR 9 1 (.slice (some ⟨b29, 0, none⟩) (((valExp M0 S0 bys0 nw).2.2.2).length) c26) (((valExp M0 S0 bys0 nw).2.2.2).length) (((valExp M0 S0 bys0 nw).2.2.2).map Value.string)]) (l' := fun g => [rowR 9 1 (.slice (some ⟨b29, 0, none⟩) (((valExp M0 S0 bys0 nw).2.2.2).length) c26) (((valExp M0 S0 bys0 nw).2.2.2).length) (((valExp M0 S0 bys0 nw).2.2.2).map Value.string)]) (v := fun g => sV (((valExp M0 S0 bys0 nw).2.2.2).getD k ⟨#[]⟩)) (fun g => o_loadRow (i := k) (u := sV (((valExp M0 S0 bys0 nw).2.2.2).getD k ⟨#[]⟩)) (by kernel_rfl) (by omega) (by kernel_rfl) (get_map (by omega))) (fun g => by kernel_rfl), ob_s (l := fun g => [mapR Value.string (Value.int .i64) b16 dm]) (l' := fun g => [mapR Value.string (Value.int .i64) b16 dm]) (v := fun g => iV ((lk dm (((valExp M0 S0 bys0 nw).2.2.2).getD k ⟨#[]⟩)).getD (0 : Int))) (fun g => o_look (fv := (Value.int .i64)) (l := dm) (0 : Int) (((valExp M0 S0 bys0 nw).2.2.2).getD k ⟨#[]⟩) (by kernel_rfl) (by kernel_rfl) (strKey Tryd.underlying9) Tryd.underlying45 (fun w => by kernel_rfl)) (fun g => by kernel_rfl), ob_v (v := fun g => bV false) (fun g => OprV.re (o_eqI (k := .i64) (a := ((lk dm (((valExp M0 S0 bys0 nw).2.2.2).getD k ⟨#[]⟩)).getD (0 : Int))) (b := 0) (by kernel_rfl) (by kernel_rfl)) (vF (by have := (gone_k hV hF hX (k := k) (by omega)).2; omega))) (fun g => by kernel_rfl), ob_val fun g w => by kernel_rfl, trivial⟩
            intro g
            refine Ex'.sub (subB_spec [1, 5, 7, 8, 9, 13, 14, 122]) ?_
            refine Ex'.as [0, 1, 2, 3, 4, 5, 6, 7] (σ' := [(1, iV nw), (5, pV b3 0), (7, .slice a13 wl.length c14), (8, .map (some b15)), (9, .map (some b16)), (13, .slice (some ⟨b29, 0, none⟩) (((valExp M0 S0 bys0 nw).2.2.2).length) c26), (14, iV (k : Int)), (122, bV false)]) (Γ' := [oldR w0, valB b3 mb4 qb5 ((valExp M0 S0 bys0 nw).2.2.1), mapR Value.string itV mb4 ((valExp M0 S0 bys0 nw).1), hpS qb5 ((valExp M0 S0 bys0 nw).2.1) n0, rowR 24 3 (.slice a13 wl.length c14) wl.length (wl.flatMap it3), mapR Value.string Value.bool b15 gm, mapR Value.string (Value.int .i64) b16 dm, rowR 9 1 (.slice (some ⟨b29, 0, none⟩) (((valExp M0 S0 bys0 nw).2.2.2).length) c26) (((valExp M0 S0 bys0 nw).2.2.2).length) (((valExp M0 S0 bys0 nw).2.2.2).map Value.string)]) (by kernel_rfl) rfl (by kernel_rfl) (by kernel_rfl) ?_
            refine Ex'.next ?_
            refine Cd.condF (by kernel_rfl) ?_
            refine Cd.skip ?_
            refine Ex'.blockNormal ?_
            refine Ex'.next ?_
            refine Cd.region rfl ?_
            refine Sq.vals [0] (rest := [1, 2]) [iV (k : Int)] (fun w => by kernel_rfl) ?_
            refine Sq.v (r := iV ((k : Int) + 1)) (o_add (k := .i64) (a := (k : Int)) (b := 1) (c := (k : Int) + 1) (by kernel_rfl) (by kernel_rfl) (w64 rfl (by omega))) rfl (by kernel_rfl) ?_
            refine Sq.vals [2] (rest := []) [iV ((k : Int) + 1)] (fun w => by kernel_rfl) ?_
            refine Sq.done ?_
            refine Ex'.round (g := k) (k + 1) ?_ ?_ (subB_eq (l := [1, 5, 7, 8, 9, 13, 14]) (by kernel_rfl)) (fun w hw => hw.pickB [0, 1, 2, 3, 4, 5, 6, 7] (by kernel_rfl) (by kernel_rfl) (by kernel_rfl))
            · (try dsimp only); exact (show k + 1 ≤ _ by omega)
            · omega
          ·
            refine Cd.plan (0 :: 0 :: 0 :: 6 :: 14 :: 31 :: 63 :: 127 :: 255 :: 511 :: 1023 :: 2047 :: 2047 :: 2047 :: 10239 :: 30719 :: 63487 :: 131071 :: 2047 :: 2047 :: 2047 :: 1574911 :: 3672063 :: 8128511 :: 16777215 :: 33554431 :: 67108863 :: 134217727 :: 268435455 :: 268435455 :: 268435455 :: 1879048191 :: 4026531839 :: 8589934591 :: 17179869183 :: 34359738367 :: []) [(4, [(7, false, 0)]), (5, [(5, false, 0)]), (32, [(7, false, 0)]), (33, [(6, false, 0)])] [] [] [] ((fun g => .map (some b15)) :: (fun g => .slice (some ⟨b29, 0, none⟩) (((valExp M0 S0 bys0 nw).2.2.2).length) c26) :: (fun g => iV (k : Int)) :: (fun g => pV b29 k) :: (fun g => sV (((valExp M0 S0 bys0 nw).2.2.2).getD k ⟨#[]⟩)) :: (fun g => bV ((lk gm (((valExp M0 S0 bys0 nw).2.2.2).getD k ⟨#[]⟩)).getD false)) :: (fun g => bV false) :: (fun g => bV false) :: (fun g => iV (k : Int)) :: (fun g => bV false) :: (fun g => bV false) :: (fun g => undef) :: (fun g => undef) :: (fun g => undef) :: (fun g => undef) :: (fun g => undef) :: (fun g => undef) :: (fun g => undef) :: (fun g => undef) :: (fun g => undef) :: (fun g => undef) :: (fun g => undef) :: (fun g => undef) :: (fun g => undef) :: (fun g => undef) :: (fun g => bV false) :: (fun g => bV false) :: (fun g => bV false) :: (fun g => .map (some b16)) :: (fun g => .slice (some ⟨b29, 0, none⟩) (((valExp M0 S0 bys0 nw).2.2.2).length) c26) :: (fun g => iV (k : Int)) :: (fun g => pV b29 k) :: (fun g => sV (((valExp M0 S0 bys0 nw).2.2.2).getD k ⟨#[]⟩)) :: (fun g => iV ((lk dm (((valExp M0 S0 bys0 nw).2.2.2).getD k ⟨#[]⟩)).getD (0 : Int))) :: (fun g => bV false) :: (fun g => bV false) :: []) (by kernel_rfl) (by kernel_rfl) rfl (trivial) ?_ ?_
            · exact ⟨ob_val fun g w => by kernel_rfl, ob_val fun g w => by kernel_rfl, ob_val fun g w => by kernel_rfl, ob_v (v := fun g => pV b29 k) (fun g => o_idx (b := b29) (cap := c26) (e := 9) (off := 0) (n := ((valExp M0 S0 bys0 nw).2.2.2).length) (kd := .i64) (q := (k : Int)) (i := k) (size := 1) (j := k) (by kernel_rfl) (by kernel_rfl) (by rfl) (by omega) Tryd.underlying39 (by kernel_rfl) (by omega)) (fun g => by kernel_rfl), ob_s (l := fun g => [rowR 9 1 (.slice (some ⟨b29, 0, none⟩) (((valExp M0 S0 bys0 nw).2.2.2).length) c26) (((valExp M0 S0 bys0 nw).2.2.2).length) (((valExp M0 S0 bys0 nw).2.2.2).map Value.string)]) (l' := fun g => [rowR 9 1 (.slice (some ⟨b29, 0, none⟩) (((valExp M0 S0 bys0 nw).2.2.2).length) c26) (((valExp M0 S0 bys0 nw).2.2.2).length) (((valExp M0 S0 bys0 nw).2.2.2).map Value.string)]) (v := fun g => sV (((valExp M0 S0 bys0 nw).2.2.2).getD k ⟨#[]⟩)) (fun g => o_loadRow (i := k) (u := sV (((valExp M0 S0 bys0 nw).2.2.2).getD k ⟨#[]⟩)) (by kernel_rfl) (by omega) (by kernel_rfl) (get_map (by omega))) (fun g => by kernel_rfl), ob_s (l := fun g => [mapR Value.string Value.bool b15 gm]) (l' := fun g => [mapR Value.string Value.bool b15 gm]) (v := fun g => bV ((lk gm (((valExp M0 S0 bys0 nw).2.2.2).getD k ⟨#[]⟩)).getD false)) (fun g => o_look (fv := Value.bool) (l := gm) false (((valExp M0 S0 bys0 nw).2.2.2).getD k ⟨#[]⟩) (by kernel_rfl) (by kernel_rfl) (strKey Tryd.underlying9) Tryd.underlying44 (fun w => by kernel_rfl)) (fun g => by kernel_rfl), ob_v (v := fun g => bV false) (fun g => OprV.re (pureV (v := bV (!((lk gm (((valExp M0 S0 bys0 nw).2.2.2).getD k ⟨#[]⟩)).getD false))) (by kernel_rfl) rfl fun w => by kernel_rfl) (congrArg Value.bool (show (!((lk gm (((valExp M0 S0 bys0 nw).2.2.2).getD k ⟨#[]⟩)).getD false)) = false from (by rw [(gone_k hV hF hX (k := k) (by omega)).1]; rfl)))) (fun g => by kernel_rfl), ob_val fun g w => by kernel_rfl, ob_val fun g w => by kernel_rfl, ob_v (v := fun g => bV false) (fun g => OprV.re (pureV (v := bV (decide ((k : Int) > 0))) (by kernel_rfl) rfl fun w => by kernel_rfl) (vF h30)) (fun g => by kernel_rfl), ob_val fun g w => by kernel_rfl, ob_val fun g w => by kernel_rfl, ob_val fun g w => by kernel_rfl, ob_val fun g w => by kernel_rfl, ob_val fun g w => by kernel_rfl, ob_val fun g w => by kernel_rfl, ob_val fun g w => by kernel_rfl, ob_val fun g w => by kernel_rfl, ob_val fun g w => by kernel_rfl, ob_val fun g w => by kernel_rfl, ob_val fun g w => by kernel_rfl, ob_val fun g w => by kernel_rfl, ob_val fun g w => by kernel_rfl, ob_val fun g w => by kernel_rfl, ob_val fun g w => by kernel_rfl, ob_val fun g w => by kernel_rfl, ob_val fun g w => by kernel_rfl, ob_val fun g w => by kernel_rfl, ob_val fun g w => by kernel_rfl, ob_val fun g w => by kernel_rfl, ob_val fun g w => by kernel_rfl, ob_v (v := fun g => pV b29 k) (fun g => o_idx (b := b29) (cap := c26) (e := 9) (off := 0) (n := ((valExp M0 S0 bys0 nw).2.2.2).length) (kd := .i64) (q := (k : Int)) (i := k) (size := 1) (j := k) (by kernel_rfl) (by kernel_rfl) (by rfl) (by omega) Tryd.underlying39 (by kernel_rfl) (by omega)) (fun g => by kernel_rfl), ob_s (l := fun g => [rowR 9 1 (.slice (some ⟨b29, 0, none⟩) (((valExp M0 S0 bys0 nw).2.2.2).length) c26) (((valExp M0 S0 bys0 nw).2.2.2).length) (((valExp M0 S0 bys0 nw).2.2.2).map Value.string)]) (l' := fun g => [rowR 9 1 (.slice (some ⟨b29, 0, none⟩) (((valExp M0 S0 bys0 nw).2.2.2).length) c26) (((valExp M0 S0 bys0 nw).2.2.2).length) (((valExp M0 S0 bys0 nw).2.2.2).map Value.string)]) (v := fun g => sV (((valExp M0 S0 bys0 nw).2.2.2).getD k ⟨#[]⟩)) (fun g => o_loadRow (i := k) (u := sV (((valExp M0 S0 bys0 nw).2.2.2).getD k ⟨#[]⟩)) (by kernel_rfl) (by omega) (by kernel_rfl) (get_map (by omega))) (fun g => by kernel_rfl), ob_s (l := fun g => [mapR Value.string (Value.int .i64) b16 dm]) (l' := fun g => [mapR Value.string (Value.int .i64) b16 dm]) (v := fun g => iV ((lk dm (((valExp M0 S0 bys0 nw).2.2.2).getD k ⟨#[]⟩)).getD (0 : Int))) (fun g => o_look (fv := (Value.int .i64)) (l := dm) (0 : Int) (((valExp M0 S0 bys0 nw).2.2.2).getD k ⟨#[]⟩) (by kernel_rfl) (by kernel_rfl) (strKey Tryd.underlying9) Tryd.underlying45 (fun w => by kernel_rfl)) (fun g => by kernel_rfl), ob_v (v := fun g => bV false) (fun g => OprV.re (o_eqI (k := .i64) (a := ((lk dm (((valExp M0 S0 bys0 nw).2.2.2).getD k ⟨#[]⟩)).getD (0 : Int))) (b := 0) (by kernel_rfl) (by kernel_rfl)) (vF (by have := (gone_k hV hF hX (k := k) (by omega)).2; omega))) (fun g => by kernel_rfl), ob_val fun g w => by kernel_rfl, trivial⟩
            intro g
            refine Ex'.sub (subB_spec [1, 5, 7, 8, 9, 13, 14, 122]) ?_
            refine Ex'.as [0, 1, 2, 3, 4, 5, 6, 7] (σ' := [(1, iV nw), (5, pV b3 0), (7, .slice a13 wl.length c14), (8, .map (some b15)), (9, .map (some b16)), (13, .slice (some ⟨b29, 0, none⟩) (((valExp M0 S0 bys0 nw).2.2.2).length) c26), (14, iV (k : Int)), (122, bV false)]) (Γ' := [oldR w0, valB b3 mb4 qb5 ((valExp M0 S0 bys0 nw).2.2.1), mapR Value.string itV mb4 ((valExp M0 S0 bys0 nw).1), hpS qb5 ((valExp M0 S0 bys0 nw).2.1) n0, rowR 24 3 (.slice a13 wl.length c14) wl.length (wl.flatMap it3), mapR Value.string Value.bool b15 gm, mapR Value.string (Value.int .i64) b16 dm, rowR 9 1 (.slice (some ⟨b29, 0, none⟩) (((valExp M0 S0 bys0 nw).2.2.2).length) c26) (((valExp M0 S0 bys0 nw).2.2.2).length) (((valExp M0 S0 bys0 nw).2.2.2).map Value.string)]) (by kernel_rfl) rfl (by kernel_rfl) (by kernel_rfl) ?_
            refine Ex'.next ?_
            refine Cd.condF (by kernel_rfl) ?_
            refine Cd.skip ?_
            refine Ex'.blockNormal ?_
            refine Ex'.next ?_
            refine Cd.region rfl ?_
            refine Sq.vals [0] (rest := [1, 2]) [iV (k : Int)] (fun w => by kernel_rfl) ?_
            refine Sq.v (r := iV ((k : Int) + 1)) (o_add (k := .i64) (a := (k : Int)) (b := 1) (c := (k : Int) + 1) (by kernel_rfl) (by kernel_rfl) (w64 rfl (by omega))) rfl (by kernel_rfl) ?_
            refine Sq.vals [2] (rest := []) [iV ((k : Int) + 1)] (fun w => by kernel_rfl) ?_
            refine Sq.done ?_
            refine Ex'.round (g := k) (k + 1) ?_ ?_ (subB_eq (l := [1, 5, 7, 8, 9, 13, 14]) (by kernel_rfl)) (fun w hw => hw.pickB [0, 1, 2, 3, 4, 5, 6, 7] (by kernel_rfl) (by kernel_rfl) (by kernel_rfl))
            · (try dsimp only); exact (show k + 1 ≤ _ by omega)
            · omega
        ·
          refine Cd.exit ?_
          refine Ex'.thenExit ?_
          refine Ex'.thenExit ?_
          refine Ex'.blockHit ?_
          refine Ex'.next ?_
          refine Cd.seq ?_
          refine Cd.region rfl ?_
          refine Sq.vals [0] (rest := [1, 2]) [pV b3 0] (fun w => by kernel_rfl) ?_
          refine Sq.ex [1, 2, 3] (l := [valB b3 mb4 qb5 ((valExp M0 S0 bys0 nw).2.2.1), mapR Value.string itV mb4 ((valExp M0 S0 bys0 nw).1), hpS qb5 ((valExp M0 S0 bys0 nw).2.1) n0]) (o_call (by kernel_rfl) Tryd.call16 (val_Items (n := n0) (M := (valExp M0 S0 bys0 nw).1) (S := (valExp M0 S0 bys0 nw).2.1) (bys := (valExp M0 S0 bys0 nw).2.2.1) (by omega))) (by kernel_rfl) rfl (by kernel_rfl) (fun _ => Nat.le_of_ble_eq_true (by kernel_rfl)) ?_; rintro ⟨rv, rl⟩ ⟨hpr, hqr⟩
          dsimp only at hpr hqr; have hlr := hpr.length_eq; rw [List.length_map] at hlr
          refine Sq.fact (i := 8) (R := rowR 24 3 rv rl.length (rl.flatMap it3)) (by kernel_rfl) row_slice ?_; rintro ⟨a31, c32, rfl, hc32, hc32'⟩
          have hc32'' : c32 ≤ 9223372036854775807 := hc32'
          refine Sq.vals [2] (rest := []) [.slice a31 rl.length c32] (fun w => by kernel_rfl) ?_
          refine Sq.done ?_
          refine Ex'.next ?_
          refine Cd.seq ?_
          refine Cd.seq ?_
          refine Cd.region rfl ?_
          refine Sq.vals [0] (rest := []) [iV 0] (fun w => by kernel_rfl) ?_
          refine Sq.done ?_
          refine Ex'.next ?_
          refine Cd.block ?_
          refine Cd.loop (ι := Nat) (fun k => k ≤ rl.length) (fun k => rl.length - k) (fun k => [(1, iV nw), (5, pV b3 0), (7, .slice a13 wl.length c14), (8, .map (some b15)), (13, .slice a25 (((valExp M0 S0 bys0 nw).2.2.2).length) c26), (15, .slice a31 rl.length c32), (16, iV (k : Int))]) (fun k => [oldR w0, valB b3 mb4 qb5 ((valExp M0 S0 bys0 nw).2.2.1), mapR Value.string itV mb4 ((valExp M0 S0 bys0 nw).1), hpS qb5 ((valExp M0 S0 bys0 nw).2.1) n0, rowR 24 3 (.slice a13 wl.length c14) wl.length (wl.flatMap it3), mapR Value.string Value.bool b15 gm, mapR Value.string (Value.int .i64) b16 dm, rowR 9 1 (.slice a25 (((valExp M0 S0 bys0 nw).2.2.2).length) c26) (((valExp M0 S0 bys0 nw).2.2.2).length) (((valExp M0 S0 bys0 nw).2.2.2).map Value.string), rowR 24 3 (.slice a31 rl.length c32) rl.length (rl.flatMap it3)]) 0 (Nat.zero_le _) (subB_eq (l := [1, 5, 7, 8, 13, 15, 16]) (by kernel_rfl)) (fun w hw => hw.pickB [0, 1, 2, 3, 4, 5, 6, 7, 8] (by kernel_rfl) (by kernel_rfl) (by kernel_rfl)) ?_
          rintro k hL33
          try dsimp only at hL33 ⊢
          have hk := hL33
          refine Cd.seq ?_
          refine Cd.seq ?_
          refine Cd.region rfl ?_
          refine Sq.vals [0, 1, 2, 3] (rest := []) [iV (k : Int), .slice a31 rl.length c32, iV (rl.length : Int), bV (decide ((k : Int) < (rl.length : Int)))] (fun w => by kernel_rfl) ?_
          refine Sq.done ?_
          refine Ex'.next ?_
          refine Cd.case (p := (k : Int) < (rl.length : Int)) (by kernel_rfl) (fun h34 => ?_) (fun h34 => ?_)
          ·
            refine Cd.skip ?_
            refine Ex'.next ?_
            refine Cd.seq ?_
            refine Cd.block ?_
            refine Cd.seq ?_
            refine Cd.region rfl ?_
            refine Sq.vals [0, 1, 2] (rest := [3, 4, 5, 6]) [.map (some b15), .slice a31 rl.length c32, iV (k : Int)] (fun w => by kernel_rfl) ?_
            refine Sq.fact (i := 8) (R := rowR 24 3 (.slice a31 rl.length c32) rl.length (rl.flatMap it3)) (by kernel_rfl) (row_addr (by omega)) ?_; rintro ⟨b35, rfl⟩
            refine Sq.v (r := pV b35 (k * 3)) (o_idx (b := b35) (cap := c32) (e := 24) (off := 0) (n := rl.length) (kd := .i64) (q := (k : Int)) (i := k) (size := 3) (j := k * 3) (by kernel_rfl) (by kernel_rfl) (by rfl) (by omega) Tryd.underlying42 (by kernel_rfl) (by omega)) rfl (by kernel_rfl) ?_
            refine Sq.vals [4] (rest := [5, 6]) [pV b35 (k * 3)] (fun w => by kernel_rfl) ?_
            refine Sq.same [8] (l := [rowR 24 3 (.slice (some ⟨b35, 0, none⟩) rl.length c32) rl.length (rl.flatMap it3)]) (o_loadRow (i := k * 3) (u := sV ((rl.getD k ((⟨#[]⟩, ⟨#[]⟩, 0) : ByteArray × ByteArray × Int)).1)) (by kernel_rfl) (by omega) (by kernel_rfl) ((rec_get (f := it3) (k := 3) (z := ((⟨#[]⟩, ⟨#[]⟩, 0) : ByteArray × ByteArray × Int)) (l := rl) (i := k) (j := 0) (fun _ => rfl) (by omega) (by decide)).trans rfl)) (by kernel_rfl) rfl (by kernel_rfl) rfl ?_
            refine Sq.same [5] (l := [mapR Value.string Value.bool b15 gm]) (o_look (fv := Value.bool) (l := gm) false ((rl.getD k ((⟨#[]⟩, ⟨#[]⟩, 0) : ByteArray × ByteArray × Int)).1) (by kernel_rfl) (by kernel_rfl) (strKey Tryd.underlying9) Tryd.underlying44 (fun w => by kernel_rfl)) (by kernel_rfl) rfl (by kernel_rfl) rfl ?_
            refine Sq.done ?_
            refine Ex'.next ?_
            refine Cd.condF (by rw [show ev _ _ = some (.bool (((lk gm ((rl.getD k ((⟨#[]⟩, ⟨#[]⟩, 0) : ByteArray × ByteArray × Int)).1)).getD false))) from by kernel_rfl, show ((lk gm ((rl.getD k ((⟨#[]⟩, ⟨#[]⟩, 0) : ByteArray × ByteArray × Int)).1)).getD false) = false from (left_k hV hF hX hpr (k := k) (by omega))]) ?_
            refine Cd.skip ?_
            refine Ex'.blockNormal ?_
            refine Ex'.next ?_
            refine Cd.region rfl ?_
            refine Sq.vals [0] (rest := [1, 2]) [iV (k : Int)] (fun w => by kernel_rfl) ?_
            refine Sq.v (r := iV ((k : Int) + 1)) (o_add (k := .i64) (a := (k : Int)) (b := 1) (c := (k : Int) + 1) (by kernel_rfl) (by kernel_rfl) (w64 rfl (by omega))) rfl (by kernel_rfl) ?_
            refine Sq.vals [2] (rest := []) [iV ((k : Int) + 1)] (fun w => by kernel_rfl) ?_
            refine Sq.done ?_
            refine Ex'.round (g := k) (k + 1) ?_ ?_ (subB_eq (l := [1, 5, 7, 8, 13, 15, 16]) (by kernel_rfl)) (fun w hw => hw.pickB [0, 1, 2, 3, 4, 5, 6, 7, 8] (by kernel_rfl) (by kernel_rfl) (by kernel_rfl))
            · (try dsimp only); exact (show k + 1 ≤ _ by omega)
            · omega
          ·
            refine Cd.exit ?_
            refine Ex'.thenExit ?_
            refine Ex'.thenExit ?_
            refine Ex'.blockHit ?_
            refine Ex'.next ?_
            refine Cd.seq ?_
            refine Cd.region rfl ?_
            refine Sq.vals [0, 1, 2, 3] (rest := [4, 5, 6, 7, 8, 9, 10, 11, 12, 13, 14, 15]) [.slice a25 (((valExp M0 S0 bys0 nw).2.2.2).length) c26, iV (((valExp M0 S0 bys0 nw).2.2.2).length : Int), .slice a31 rl.length c32, iV (rl.length : Int)] (fun w => by kernel_rfl) ?_
            refine Sq.v (r := iV ((((valExp M0 S0 bys0 nw).2.2.2).length : Int) + (rl.length : Int))) (o_add (k := .i64) (a := (((valExp M0 S0 bys0 nw).2.2.2).length : Int)) (b := (rl.length : Int)) (c := (((valExp M0 S0 bys0 nw).2.2.2).length : Int) + (rl.length : Int)) (by kernel_rfl) (by kernel_rfl) (w64 rfl (by omega))) rfl (by kernel_rfl) ?_
            refine Sq.vals [5, 6] (rest := [7, 8, 9, 10, 11, 12, 13, 14, 15]) [.slice a13 wl.length c14, iV (wl.length : Int)] (fun w => by kernel_rfl) ?_
            refine Sq.v (r := bV (decide ((((valExp M0 S0 bys0 nw).2.2.2).length : Int) + (rl.length : Int) = (wl.length : Int)))) (o_eqI (k := .i64) (a := (((valExp M0 S0 bys0 nw).2.2.2).length : Int) + (rl.length : Int)) (b := (wl.length : Int)) (by kernel_rfl) (by kernel_rfl)) rfl (by kernel_rfl) ?_
            refine Sq.re 145 rfl (vT (by omega)) ?_
            refine Sq.vals [8, 9, 10] (rest := [11, 12, 13, 14, 15]) [bV true, pV b3 0, iV nw] (fun w => by kernel_rfl) ?_
            refine Sq.ex [1, 2, 3] (l := [valB b3 mb4 qb5 ((valExp M0 S0 bys0 nw).2.2.1), mapR Value.string itV mb4 ((valExp M0 S0 bys0 nw).1), hpS qb5 ((valExp M0 S0 bys0 nw).2.1) n0]) (o_call (by kernel_rfl) Tryd.call15 (val_Expire (n := n0) (M := (valExp M0 S0 bys0 nw).1) (S := (valExp M0 S0 bys0 nw).2.1) (bys := (valExp M0 S0 bys0 nw).2.2.1) nw (by omega) (by first | omega | (constructor <;> decide)) (by first | exact hV.it | exact hXv.it) (by first | exact hV.ends | exact hXv.ends))) (by kernel_rfl) rfl (by kernel_rfl) (fun _ => Nat.le_of_ble_eq_true (by kernel_rfl)) ?_; rintro v37 _
            refine Sq.fact (i := 9) (R := rowR 9 1 v37 (((valExp ((valExp M0 S0 bys0 nw).1) ((valExp M0 S0 bys0 nw).2.1) ((valExp M0 S0 bys0 nw).2.2.1) nw).2.2.2).length) (((valExp ((valExp M0 S0 bys0 nw).1) ((valExp M0 S0 bys0 nw).2.1) ((valExp M0 S0 bys0 nw).2.2.1) nw).2.2.2).map Value.string)) (by kernel_rfl) row_slice ?_; rintro ⟨a38, c39, rfl, hc39, hc39'⟩
            have hc39'' : c39 ≤ 9223372036854775807 := hc39'
            refine Sq.vals [12] (rest := [13, 14, 15]) [iV (((valExp ((valExp M0 S0 bys0 nw).1) ((valExp M0 S0 bys0 nw).2.1) ((valExp M0 S0 bys0 nw).2.2.1) nw).2.2.2).length : Int)] (fun w => by kernel_rfl) ?_
            refine Sq.v (r := bV (decide ((((valExp ((valExp M0 S0 bys0 nw).1) ((valExp M0 S0 bys0 nw).2.1) ((valExp M0 S0 bys0 nw).2.2.1) nw).2.2.2).length : Int) = 0))) (o_eqI (k := .i64) (a := (((valExp ((valExp M0 S0 bys0 nw).1) ((valExp M0 S0 bys0 nw).2.1) ((valExp M0 S0 bys0 nw).2.2.1) nw).2.2.2).length : Int)) (b := 0) (by kernel_rfl) (by kernel_rfl)) rfl (by kernel_rfl) ?_
            refine Sq.re 151 rfl (vT (by rw [hX.again]; rfl)) ?_
            refine Sq.vals [14, 15] (rest := []) [bV true, bV true] (fun w => by kernel_rfl) ?_
            refine Sq.done ?_
            refine Ex'.next ?_
            refine Cd.ret ?_
            refine Ex'.ret Tryd.results5 (RVs.tmp (v := bV true) (by kernel_rfl) (RVs.nil)) (fun w hw => ?_)
            exact ⟨_, ⟨rfl, by kernel_rfl⟩, hw⟩

theorem valueExpires_walk (v : Value) (ys : List VAct) (nw : Int) (w : World) (h : Cells w (fun k => k < w.heap.size) v ys.length 5 (ys.flatMap VAct.cells)) (h1 : (Lit.int .i64 nw).wf = true) (hg : errT w) :
    Calls Tryd.prog 5 #[v, .int .i64 nw] w fun e w' => e = .returned (.bool true) ∧ Below w.heap.size w w' := by
  obtain ⟨a, cap, rfl, hl⟩ := RecsIn.shape (vscr_of h)
  exact law_of (valueExpires_tri hg (range64 h1) (by omega) (vscr_of h))

end Go.Proofs.YtnijaeipkbpibaaDoor
