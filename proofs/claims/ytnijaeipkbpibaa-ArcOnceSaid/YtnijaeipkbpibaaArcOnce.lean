/- ArcOnce: its walk. -/
import Derived.Test.YtnijaeipkbpibaaArcPureC
import Derived.Test.YtnijaeipkbpibaaArcAwake
import Derived.Test.YtnijaeipkbpibaaActs
set_option linter.unusedVariables false
namespace Go.Proofs.Ytnijaeipkbpibaa
open Go.RowKit Go.MapKept

set_option maxHeartbeats 8000000 in
set_option maxRecDepth 100000 in
theorem arcOnce_tri {w0 : World} {m : Int} {a : Option Addr} {cap : Nat} {xs : List ByteArray} (hm : -9223372036854775808 ≤ m ∧ m ≤ 9223372036854775807) (hl : xs.length ≤ cap ∧ cap ≤ 9223372036854775807) (hs : KeysIn w0 (.slice a xs.length cap) xs) : Tri Try.prog 3 #[iV m, .slice a xs.length cap] [oldR w0] (LawP w0) := by
  refine Tri.enter (args := [iV m, .slice a xs.length cap]) Try.func3 rfl rfl rfl (fun B wz => ?_)
  refine Cd.seq ?_
  refine Cd.region rfl ?_
  refine Sq.vals [0] (rest := []) [bV false] (fun w => by kernel_rfl) ?_
  refine Sq.done ?_
  refine Ex'.next ?_
  refine Cd.seq ?_
  refine Cd.seq ?_
  refine Cd.region rfl ?_
  refine Sq.same [] (l := []) (o_call (by kernel_rfl) Try.call7 (arc_awake)) (by kernel_rfl) rfl (by kernel_rfl) rfl ?_
  refine Sq.vals [1] (rest := []) [bV false] (fun w => by kernel_rfl) ?_
  refine Sq.done ?_
  refine Ex'.next ?_
  refine Cd.condF (by kernel_rfl) ?_
  refine Cd.skip ?_
  refine Ex'.next ?_
  refine Cd.seq ?_
  refine Cd.seq ?_
  refine Cd.region rfl ?_
  refine Sq.vals [0, 1, 2, 3] (rest := [4, 5, 6, 7, 8, 9, 10]) [.slice a xs.length cap, iV (xs.length : Int), bV (decide ((xs.length : Int) > 100)), bV (decide ((xs.length : Int) > 100))] (fun w => by kernel_rfl) ?_
  refine Sq.case 14 (p := (xs.length : Int) > 100) rfl (fun h1 => ?_) (fun h1 => ?_)
  ·
    refine Sq.vals [4, 5, 6, 7, 8, 9, 10] (rest := []) [undef, undef, bV true, bV true, undef, undef, bV true] (fun w => by kernel_rfl) ?_
    refine Sq.done ?_
    refine Ex'.next ?_
    refine Cd.condT (by kernel_rfl) ?_
    refine Cd.seq ?_
    refine Cd.region rfl ?_
    refine Sq.vals [0] (rest := []) [bV true] (fun w => by kernel_rfl) ?_
    refine Sq.done ?_
    refine Ex'.next ?_
    refine Cd.ret ?_
    refine Ex'.thenRet ?_
    refine Ex'.ret Try.results3 (RVs.tmp (v := bV true) (by kernel_rfl) (RVs.nil)) (fun w hw => ?_)
    exact ⟨_, ⟨rfl, by kernel_rfl⟩, hw⟩
  ·
    refine Sq.vals [4, 5, 6, 7] (rest := [8, 9, 10]) [iV m, bV (decide (m < 1)), bV (decide (m < 1)), bV (decide (m < 1))] (fun w => by kernel_rfl) ?_
    refine Sq.case 18 (p := m < 1) rfl (fun h2 => ?_) (fun h2 => ?_)
    ·
      refine Sq.vals [8, 9, 10] (rest := []) [undef, undef, bV true] (fun w => by kernel_rfl) ?_
      refine Sq.done ?_
      refine Ex'.next ?_
      refine Cd.condT (by kernel_rfl) ?_
      refine Cd.seq ?_
      refine Cd.region rfl ?_
      refine Sq.vals [0] (rest := []) [bV true] (fun w => by kernel_rfl) ?_
      refine Sq.done ?_
      refine Ex'.next ?_
      refine Cd.ret ?_
      refine Ex'.thenRet ?_
      refine Ex'.ret Try.results3 (RVs.tmp (v := bV true) (by kernel_rfl) (RVs.nil)) (fun w hw => ?_)
      exact ⟨_, ⟨rfl, by kernel_rfl⟩, hw⟩
    ·
      refine Sq.vals [8, 9, 10] (rest := []) [iV m, bV (decide (m > 1000)), bV (decide (m > 1000))] (fun w => by kernel_rfl) ?_
      refine Sq.done ?_
      refine Ex'.next ?_
      refine Cd.case (p := m > 1000) (by kernel_rfl) (fun h3 => ?_) (fun h3 => ?_)
      ·
        refine Cd.seq ?_
        refine Cd.region rfl ?_
        refine Sq.vals [0] (rest := []) [bV true] (fun w => by kernel_rfl) ?_
        refine Sq.done ?_
        refine Ex'.next ?_
        refine Cd.ret ?_
        refine Ex'.thenRet ?_
        refine Ex'.ret Try.results3 (RVs.tmp (v := bV true) (by kernel_rfl) (RVs.nil)) (fun w hw => ?_)
        exact ⟨_, ⟨rfl, by kernel_rfl⟩, hw⟩
      ·
        refine Cd.skip ?_
        refine Ex'.next ?_
        refine Cd.seq ?_
        refine Cd.region rfl ?_
        refine Sq.vals [0] (rest := [1, 2]) [iV m] (fun w => by kernel_rfl) ?_
        refine Sq.ex [] (l := []) (o_call (by kernel_rfl) Try.call8 (Tri.ex (L' := fun x => arcL x.1 x.2.1 x.2.2.1 x.2.2.2.1 x.2.2.2.2 m 0 [] [] [] [] 0) (arc_New m (by omega)) (fun x => by simp only [arcNew_nn (show 0 ≤ m by omega)]))) (by kernel_rfl) rfl (by kernel_rfl) (fun _ => Nat.le_of_ble_eq_true (by kernel_rfl)) ?_; rintro ⟨b4, lt15, lt26, lb17, lb28⟩ _
        refine Sq.vals [2] (rest := []) [pV b4 0] (fun w => by kernel_rfl) ?_
        refine Sq.done ?_
        refine Ex'.next ?_
        refine Cd.seq ?_
        refine Cd.seq ?_
        refine Cd.region rfl ?_
        refine Sq.vals [0, 1] (rest := []) [pV b4 0, bV false] (fun w => by kernel_rfl) ?_
        refine Sq.done ?_
        refine Ex'.next ?_
        refine Cd.condF (by kernel_rfl) ?_
        refine Cd.skip ?_
        refine Ex'.next ?_
        refine Cd.seq ?_
        refine Cd.region rfl ?_
        refine Sq.vals [0] (rest := []) [.slice none 0 0] (fun w => by kernel_rfl) ?_
        refine Sq.done ?_
        refine Ex'.next ?_
        refine Cd.seq ?_
        refine Cd.seq ?_
        refine Cd.region rfl ?_
        refine Sq.vals [0] (rest := []) [iV 0] (fun w => by kernel_rfl) ?_
        refine Sq.done ?_
        refine Ex'.next ?_
        refine Cd.block ?_
        refine Cd.nilRow 9 1 ?_
        refine Cd.loop (ι := Nat × Int × (List ByteArray) × (List ByteArray) × (List ByteArray) × (List ByteArray) × Nat × Value × (List ByteArray)) (fun ⟨k, p0, t1x0, t2x0, b1x0, b2x0, n0, rv, rw⟩ => k ≤ xs.length ∧ AOnce m p0 rw t1x0 t2x0 b1x0 b2x0 ∧ n0 ≤ k * 2 ∧ rw.length ≤ k) (fun ⟨k, p0, t1x0, t2x0, b1x0, b2x0, n0, rv, rw⟩ => xs.length - k) (fun ⟨k, p0, t1x0, t2x0, b1x0, b2x0, n0, rv, rw⟩ => [(0, iV m), (1, .slice a xs.length cap), (5, pV b4 0), (7, iV (k : Int)), (6, rv)]) (fun ⟨k, p0, t1x0, t2x0, b1x0, b2x0, n0, rv, rw⟩ => [oldR w0, arcB b4 lt15 lt26 lb17 lb28 m p0, llR lt15 t1x0 n0, llR lt26 t2x0 n0, llR lb17 b1x0 n0, llR lb28 b2x0 n0, rowR 9 1 rv rw.length (rw.map Value.string)]) (0, 0, [], [], [], [], 0, .slice none 0 0, ([] : List ByteArray)) (⟨Nat.zero_le _, AOnce.new, Nat.le_refl _, Nat.le_refl _⟩) (subB_eq (l := [0, 1, 5, 7, 6]) (by kernel_rfl)) (fun w hw => hw.pickB [0, 1, 2, 3, 4, 5, 6] (by kernel_rfl) (by kernel_rfl) (by kernel_rfl)) ?_
        rintro ⟨k, p0, t1x0, t2x0, b1x0, b2x0, n0, rv, rw⟩ hL9
        try dsimp only at hL9 ⊢
        obtain ⟨hk, hI, hn, hrl⟩ := hL9
        have hIs := hI.share
        refine Cd.fact (i := 6) (R := rowR 9 1 rv rw.length (rw.map Value.string)) (by kernel_rfl) row_slice ?_; rintro ⟨a10, c11, rfl, hc11, hc11'⟩
        have hc11'' : c11 ≤ 9223372036854775807 := hc11'
        refine Cd.seq ?_
        refine Cd.seq ?_
        refine Cd.region rfl ?_
        refine Sq.vals [0, 1, 2, 3] (rest := []) [iV (k : Int), .slice a xs.length cap, iV (xs.length : Int), bV (decide ((k : Int) < (xs.length : Int)))] (fun w => by kernel_rfl) ?_
        refine Sq.done ?_
        refine Ex'.next ?_
        refine Cd.case (p := (k : Int) < (xs.length : Int)) (by kernel_rfl) (fun h12 => ?_) (fun h12 => ?_)
        ·
          obtain ⟨g13, off14, rfl⟩ := hs.addr (by omega)
          obtain ⟨kyk, hgk, hwk, hrk⟩ := hs.at (k := k) (by omega)
          refine Cd.skip ?_
          refine Ex'.next ?_
          refine Cd.seq ?_
          refine Cd.block ?_
          refine Cd.seq ?_
          refine Cd.seq ?_
          refine Cd.region rfl ?_
          refine Sq.vals [0, 1] (rest := [2, 3, 4, 5]) [.slice (some ⟨g13, off14, none⟩) xs.length cap, iV (k : Int)] (fun w => by kernel_rfl) ?_
          refine Sq.v (r := pV g13 (off14 + k)) (o_idx (b := g13) (cap := cap) (e := 9) (off := off14) (n := xs.length) (kd := .i64) (q := (k : Int)) (i := k) (size := 1) (j := off14 + k) (by kernel_rfl) (by kernel_rfl) (by rfl) (by omega) Try.underlying22 (by kernel_rfl) (by omega)) rfl (by kernel_rfl) ?_
          refine Sq.same [0] (l := [oldR w0]) (o_loadOld (b := g13) (j := off14 + k) (u := sV kyk) (by kernel_rfl) (by kernel_rfl) (hrk 0 _ rfl)) (by kernel_rfl) rfl (by kernel_rfl) rfl ?_
          refine Sq.vals [4, 5] (rest := []) [iV (kyk.size : Int), bV (decide ((kyk.size : Int) > 200))] (fun w => by kernel_rfl) ?_
          refine Sq.done ?_
          refine Ex'.next ?_
          refine Cd.case (p := (kyk.size : Int) > 200) (by kernel_rfl) (fun h15 => ?_) (fun h15 => ?_)
          ·
            refine Cd.seq ?_
            refine Cd.region rfl ?_
            refine Sq.vals [0] (rest := []) [bV true] (fun w => by kernel_rfl) ?_
            refine Sq.done ?_
            refine Ex'.next ?_
            refine Cd.ret ?_
            refine Ex'.thenRet ?_
            refine Ex'.blockRet ?_
            refine Ex'.thenRet ?_
            refine Ex'.thenRet ?_
            refine Ex'.blockRet ?_
            refine Ex'.thenRet ?_
            refine Ex'.ret Try.results3 (RVs.tmp (v := bV true) (by kernel_rfl) (RVs.nil)) (fun w hw => ?_)
            exact ⟨_, ⟨rfl, by kernel_rfl⟩, hw⟩
          ·
            refine Cd.skip ?_
            refine Ex'.next ?_
            refine Cd.seq ?_
            refine Cd.seq ?_
            refine Cd.region rfl ?_
            refine Sq.vals [0, 1, 2] (rest := [3, 4, 5]) [.slice a10 rw.length c11, .slice (some ⟨g13, off14, none⟩) xs.length cap, iV (k : Int)] (fun w => by kernel_rfl) ?_
            refine Sq.v (r := pV g13 (off14 + k)) (o_idx (b := g13) (cap := cap) (e := 9) (off := off14) (n := xs.length) (kd := .i64) (q := (k : Int)) (i := k) (size := 1) (j := off14 + k) (by kernel_rfl) (by kernel_rfl) (by rfl) (by omega) Try.underlying22 (by kernel_rfl) (by omega)) rfl (by kernel_rfl) ?_
            refine Sq.same [0] (l := [oldR w0]) (o_loadOld (b := g13) (j := off14 + k) (u := sV kyk) (by kernel_rfl) (by kernel_rfl) (hrk 0 _ rfl)) (by kernel_rfl) rfl (by kernel_rfl) rfl ?_
            refine Sq.same [6] (l := [rowR 9 1 (.slice a10 rw.length c11) rw.length (rw.map Value.string)]) (o_call (by kernel_rfl) Try.call9 (t_has03 (l := [rowR 9 1 (.slice a10 rw.length c11) rw.length (rw.map Value.string)]) (xs := rw) kyk (fun w own hH => ⟨_, Row.strs (hH 0 _ rfl)⟩))) (by kernel_rfl) rfl (by kernel_rfl) rfl ?_
            refine Sq.done ?_
            refine Ex'.next ?_
            refine Cd.case (p := kyk ∈ rw) (by kernel_rfl) (fun h16 => ?_) (fun h16 => ?_)
            ·
              refine Cd.exit ?_
              refine Ex'.thenExit ?_
              refine Ex'.blockHit ?_
              refine Ex'.next ?_
              refine Cd.region rfl ?_
              refine Sq.vals [0] (rest := [1, 2]) [iV (k : Int)] (fun w => by kernel_rfl) ?_
              refine Sq.v (r := iV ((k : Int) + 1)) (o_add (k := .i64) (a := (k : Int)) (b := 1) (c := (k : Int) + 1) (by kernel_rfl) (by kernel_rfl) (w64 rfl (by omega))) rfl (by kernel_rfl) ?_
              refine Sq.vals [2] (rest := []) [iV ((k : Int) + 1)] (fun w => by kernel_rfl) ?_
              refine Sq.done ?_
              refine Ex'.round (g := (k, p0, t1x0, t2x0, b1x0, b2x0, n0, .slice a10 rw.length c11, rw)) (k + 1, p0, t1x0, t2x0, b1x0, b2x0, n0, .slice a10 rw.length c11, rw) ?_ ?_ (subB_eq (l := [0, 1, 5, 7, 6]) (by kernel_rfl)) (fun w hw => hw.pickB [0, 1, 2, 3, 4, 5, 6] (by kernel_rfl) (by kernel_rfl) (by kernel_rfl))
              · (try dsimp only); exact ⟨by omega, hI, by first | omega | (dsimp only; omega), by first | omega | (simp only [List.length_append, List.length_singleton]; omega)⟩
              · omega
            ·
              refine Cd.skip ?_
              refine Ex'.next ?_
              refine Cd.seq ?_
              refine Cd.region rfl ?_
              refine Sq.vals [0, 1, 2] (rest := [3, 4, 5, 6, 7]) [.slice a10 rw.length c11, .slice (some ⟨g13, off14, none⟩) xs.length cap, iV (k : Int)] (fun w => by kernel_rfl) ?_
              refine Sq.v (r := pV g13 (off14 + k)) (o_idx (b := g13) (cap := cap) (e := 9) (off := off14) (n := xs.length) (kd := .i64) (q := (k : Int)) (i := k) (size := 1) (j := off14 + k) (by kernel_rfl) (by kernel_rfl) (by rfl) (by omega) Try.underlying22 (by kernel_rfl) (by omega)) rfl (by kernel_rfl) ?_
              refine Sq.same [0] (l := [oldR w0]) (o_loadOld (b := g13) (j := off14 + k) (u := sV kyk) (by kernel_rfl) (by kernel_rfl) (hrk 0 _ rfl)) (by kernel_rfl) rfl (by kernel_rfl) rfl ?_
              refine Sq.ex [] (l := []) (o_lit (sz := 1) (sV ⟨#[]⟩) [sV kyk] Try.underlying22 (by kernel_rfl) (by kernel_rfl) (by kernel_rfl) (by kernel_rfl) (by kernel_rfl)) (by kernel_rfl) rfl (by kernel_rfl) (fun _ => Nat.zero_le _) ?_; intro b17 _
              refine Sq.ex [6, 7] (l := [rowR 9 1 (.slice a10 rw.length c11) rw.length (rw.map Value.string), blkR b17 [sV kyk] 9]) (o_push (n' := (rw ++ [kyk]).length) (xs' := (rw ++ [kyk]).map Value.string) (by kernel_rfl) (by kernel_rfl) sl_str (by decide) rfl (by kernel_rfl) (by unfold maxLen; omega) (by omega) (by simp) (by simp)) (by kernel_rfl) rfl (by kernel_rfl) (fun _ => Nat.le_of_ble_eq_true (by kernel_rfl)) ?_; rintro v18 _
              refine Sq.fact (i := 6) (R := rowR 9 1 v18 ((rw ++ [kyk]).length) ((rw ++ [kyk]).map Value.string)) (by kernel_rfl) row_slice ?_; rintro ⟨a19, c20, rfl, hc20, hc20'⟩
              have hc20'' : c20 ≤ 9223372036854775807 := hc20'
              have hlen21 : (rw ++ [kyk]).length = rw.length + 1 := by simp
              refine Sq.fact (i := 6) (R := rowR 9 1 (.slice a19 ((rw ++ [kyk]).length) c20) ((rw ++ [kyk]).length) ((rw ++ [kyk]).map Value.string)) (by kernel_rfl) (row_addr (by simp)) ?_; rintro ⟨b22, rfl⟩
              refine Sq.vals [7] (rest := []) [.slice (some ⟨b22, 0, none⟩) ((rw ++ [kyk]).length) c20] (fun w => by kernel_rfl) ?_
              refine Sq.done ?_
              refine Ex'.next ?_
              refine Cd.seq ?_
              refine Cd.region rfl ?_
              refine Sq.vals [0, 1, 2] (rest := [3, 4, 5, 6, 7]) [pV b4 0, .slice (some ⟨g13, off14, none⟩) xs.length cap, iV (k : Int)] (fun w => by kernel_rfl) ?_
              refine Sq.v (r := pV g13 (off14 + k)) (o_idx (b := g13) (cap := cap) (e := 9) (off := off14) (n := xs.length) (kd := .i64) (q := (k : Int)) (i := k) (size := 1) (j := off14 + k) (by kernel_rfl) (by kernel_rfl) (by rfl) (by omega) Try.underlying22 (by kernel_rfl) (by omega)) rfl (by kernel_rfl) ?_
              refine Sq.same [0] (l := [oldR w0]) (o_loadOld (b := g13) (j := off14 + k) (u := sV kyk) (by kernel_rfl) (by kernel_rfl) (hrk 0 _ rfl)) (by kernel_rfl) rfl (by kernel_rfl) rfl ?_
              refine Sq.same [1, 2, 3, 4, 5] (l := arcL b4 lt15 lt26 lb17 lb28 m p0 t1x0 t2x0 b1x0 b2x0 n0) (o_call (by kernel_rfl) Try.call10 (arc_Request (n := n0) (n' := n0 + 2) (most := m) (p := p0) (t1 := t1x0) (t2 := t2x0) (b1 := b1x0) (b2 := b2x0) kyk (by omega) (by omega) (by omega) (by omega))) (by kernel_rfl) rfl (by kernel_rfl) rfl ?_
              generalize hxx23 : arcReq m p0 t1x0 t2x0 b1x0 b2x0 kyk = x23
              obtain ⟨hI2, hhit, hout, hvic⟩ := AOnce.step hI (by omega) h16 hxx23
              refine Sq.ex [] (l := []) (o_new [bV false, sV ⟨#[]⟩, bV false] (fun w => by kernel_rfl)) (by kernel_rfl) rfl (by kernel_rfl) (fun _ => Nat.zero_le _) ?_; intro b24 _
              refine Sq.same [8] (l := [blkR b24 [bV false, sV ⟨#[]⟩, bV false] 28]) (o_store (i := 0) (v := .agg #[bV x23.2.2.2.2.2.1, sV x23.2.2.2.2.2.2.1, bV x23.2.2.2.2.2.2.2]) (by kernel_rfl) (by kernel_rfl) (by kernel_rfl) (by kernel_rfl) (by kernel_rfl)) (by kernel_rfl) rfl (by kernel_rfl) rfl ?_
              refine Sq.done ?_
              refine Ex'.next ?_
              refine Cd.seq ?_
              rcases Bool.eq_false_or_eq_true (x23.2.2.2.2.2.2.2) with h25 | h25
              ·
                obtain ⟨hv1, hv2⟩ := hvic h25
                refine Cd.plan (0 :: 1 :: 3 :: 7 :: 15 :: 7 :: 39 :: 7 :: 231 :: 511 :: 1023 :: 2047 :: 4095 :: 8191 :: 16383 :: 32767 :: 65535 :: 32767 :: 32767 :: 294911 :: 819199 :: 32767 :: 3964927 :: 8290303 :: 16678911 :: 33554431 :: 67108863 :: 134217727 :: 268435455 :: 536870911 :: 1073741823 :: 2147483647 :: 4294967295 :: 8589934591 :: 17179869183 :: 34359738367 :: 68719476735 :: 137438953471 :: 274877906943 :: 549755813887 :: 1099511627775 :: 2199023255551 :: 4398046511103 :: 8796093022207 :: 17592186044415 :: []) [(1, [(8, false, 0)]), (4, [(8, false, 0)]), (13, [(8, false, 0)]), (16, [(8, false, 0)]), (24, [(6, false, 0)]), (30, [(1, false, 0), (2, false, 0), (3, false, 0), (4, false, 0), (5, false, 0)]), (35, [(1, false, 0), (2, false, 0), (3, false, 0), (4, false, 0), (5, false, 0)]), (41, [(1, false, 0), (2, false, 0), (3, false, 0), (4, false, 0), (5, false, 0)])] [41] [(41, fun _ => True)] [(50, 41, fun g => rowR 9 1 (.slice (addrOf (g 41)) ((x23.2.2.2.1 ++ x23.2.2.2.2.1).length) (capOf (g 41))) ((x23.2.2.2.1 ++ x23.2.2.2.2.1).length) ((x23.2.2.2.1 ++ x23.2.2.2.2.1).map Value.string))] ((fun g => pV b24 0) :: (fun g => bV x23.2.2.2.2.2.1) :: (fun g => bV false) :: (fun g => pV b24 2) :: (fun g => bV x23.2.2.2.2.2.2.2) :: (fun g => .slice (some ⟨b22, 0, none⟩) ((rw ++ [kyk]).length) c20) :: (fun g => iV ((rw ++ [kyk]).length : Int)) :: (fun g => iV m) :: (fun g => bV (decide (((rw ++ [kyk]).length : Int) > m))) :: (fun g => bV false) :: (fun g => bV false) :: (fun g => bV false) :: (fun g => pV b24 2) :: (fun g => bV x23.2.2.2.2.2.2.2) :: (fun g => bV true) :: (fun g => pV b24 1) :: (fun g => sV x23.2.2.2.2.2.2.1) :: (fun g => .slice (some ⟨b22, 0, none⟩) ((rw ++ [kyk]).length) c20) :: (fun g => .slice (some ⟨b22, 0, none⟩) ((rw ++ [kyk]).length) c20) :: (fun g => iV ((rw ++ [kyk]).length : Int)) :: (fun g => iV (((rw ++ [kyk]).length : Int) - 1)) :: (fun g => iV m) :: (fun g => iV ((((rw ++ [kyk]).length : Int) - 1) - m)) :: (fun g => pV b22 (rw.length - m.toNat)) :: (fun g => sV ((rw ++ [kyk]).getD (rw.length - m.toNat) ⟨#[]⟩)) :: (fun g => bV false) :: (fun g => bV false) :: (fun g => bV false) :: (fun g => bV false) :: (fun g => pV b4 0) :: (fun g => iV x23.1) :: (fun g => bV false) :: (fun g => bV false) :: (fun g => bV false) :: (fun g => pV b4 0) :: (fun g => .agg #[iV (x23.2.1.length : Int), iV (x23.2.2.1.length : Int), iV (x23.2.2.2.1.length : Int), iV (x23.2.2.2.2.1.length : Int)]) :: (fun g => iV (x23.2.2.1.length : Int)) :: (fun g => bV false) :: (fun g => bV false) :: (fun g => bV false) :: (fun g => pV b4 0) :: (fun g => .slice (addrOf (g 41)) ((x23.2.2.2.1 ++ x23.2.2.2.2.1).length) (capOf (g 41))) :: (fun g => iV ((x23.2.2.2.1 ++ x23.2.2.2.2.1).length : Int)) :: (fun g => bV false) :: (fun g => bV false) :: []) (by kernel_rfl) (by kernel_rfl) rfl (⟨⟨⟨fun _ _ => rfl, ⟨fun _ _ => rfl, ⟨fun _ _ => rfl, ⟨fun _ _ => rfl, ⟨fun _ _ => rfl, ⟨fun _ _ => rfl, ⟨fun _ _ => rfl, ⟨fun _ _ => rfl, ⟨fun _ _ => rfl, ⟨fun _ _ => rfl, ⟨fun _ _ => rfl, ⟨fun _ _ => rfl, ⟨fun _ _ => rfl, ⟨fun _ _ => rfl, ⟨fun _ _ => rfl, ⟨fun _ _ => rfl, ⟨fun _ _ => rfl, ⟨fun _ _ => rfl, ⟨fun _ _ => rfl, ⟨fun _ _ => rfl, ⟨fun _ _ => rfl, ⟨fun _ _ => rfl, ⟨fun _ _ => rfl, ⟨fun _ _ => rfl, ⟨fun _ _ => rfl, ⟨fun _ _ => rfl, ⟨fun _ _ => rfl, ⟨fun _ _ => rfl, ⟨fun _ _ => rfl, ⟨fun _ _ => rfl, ⟨fun _ _ => rfl, ⟨fun _ _ => rfl, ⟨fun _ _ => rfl, ⟨fun _ _ => rfl, ⟨fun _ _ => rfl, ⟨fun _ _ => rfl, ⟨fun _ _ => rfl, ⟨fun _ _ => rfl, ⟨fun _ _ => rfl, ⟨fun _ _ => rfl, ⟨fun _ _ => rfl, ⟨trivial, ⟨trivial, ⟨trivial, ⟨trivial, trivial⟩⟩⟩⟩⟩⟩⟩⟩⟩⟩⟩⟩⟩⟩⟩⟩⟩⟩⟩⟩⟩⟩⟩⟩⟩⟩⟩⟩⟩⟩⟩⟩⟩⟩⟩⟩⟩⟩⟩⟩⟩⟩⟩⟩⟩, ⟨trivial, trivial⟩⟩, trivial⟩) ?_ ?_
                · exact ⟨ob_val fun g w => by kernel_rfl, ob_s (l := fun g => [blkR b24 [bV x23.2.2.2.2.2.1, sV x23.2.2.2.2.2.2.1, bV x23.2.2.2.2.2.2.2] 28]) (l' := fun g => [blkR b24 [bV x23.2.2.2.2.2.1, sV x23.2.2.2.2.2.2.1, bV x23.2.2.2.2.2.2.2] 28]) (v := fun g => bV x23.2.2.2.2.2.1) (fun g => o_load (i := 0) (v := bV x23.2.2.2.2.2.1) (by kernel_rfl) (by kernel_rfl) (by kernel_rfl)) (fun g => by kernel_rfl), ob_v (v := fun g => bV false) (fun g => OprV.re (pureV (v := bV x23.2.2.2.2.2.1) (by kernel_rfl) rfl fun w => by kernel_rfl) (congrArg Value.bool (show x23.2.2.2.2.2.1 = false from hhit))) (fun g => by kernel_rfl), ob_val fun g w => by kernel_rfl, ob_s (l := fun g => [blkR b24 [bV x23.2.2.2.2.2.1, sV x23.2.2.2.2.2.2.1, bV x23.2.2.2.2.2.2.2] 28]) (l' := fun g => [blkR b24 [bV x23.2.2.2.2.2.1, sV x23.2.2.2.2.2.2.1, bV x23.2.2.2.2.2.2.2] 28]) (v := fun g => bV x23.2.2.2.2.2.2.2) (fun g => o_load (i := 2) (v := bV x23.2.2.2.2.2.2.2) (by kernel_rfl) (by kernel_rfl) (by kernel_rfl)) (fun g => by kernel_rfl), ob_val fun g w => by kernel_rfl, ob_val fun g w => by kernel_rfl, ob_val fun g w => by kernel_rfl, ob_val fun g w => by kernel_rfl, ob_v (v := fun g => bV false) (fun g => OprV.re (pureV (v := bV (!(x23.2.2.2.2.2.2.2 == (decide (((rw ++ [kyk]).length : Int) > m))))) (by kernel_rfl) rfl fun w => by kernel_rfl) (congrArg Value.bool (show (!(x23.2.2.2.2.2.2.2 == (decide (((rw ++ [kyk]).length : Int) > m)))) = false from (by simp [hout])))) (fun g => by kernel_rfl), ob_val fun g w => by kernel_rfl, ob_val fun g w => by kernel_rfl, ob_val fun g w => by kernel_rfl, ob_s (l := fun g => [blkR b24 [bV x23.2.2.2.2.2.1, sV x23.2.2.2.2.2.2.1, bV x23.2.2.2.2.2.2.2] 28]) (l' := fun g => [blkR b24 [bV x23.2.2.2.2.2.1, sV x23.2.2.2.2.2.2.1, bV x23.2.2.2.2.2.2.2] 28]) (v := fun g => bV x23.2.2.2.2.2.2.2) (fun g => o_load (i := 2) (v := bV x23.2.2.2.2.2.2.2) (by kernel_rfl) (by kernel_rfl) (by kernel_rfl)) (fun g => by kernel_rfl), ob_v (v := fun g => bV true) (fun g => OprV.re (pureV (v := bV x23.2.2.2.2.2.2.2) (by kernel_rfl) rfl fun w => by kernel_rfl) (congrArg Value.bool (show x23.2.2.2.2.2.2.2 = true from h25))) (fun g => by kernel_rfl), ob_val fun g w => by kernel_rfl, ob_s (l := fun g => [blkR b24 [bV x23.2.2.2.2.2.1, sV x23.2.2.2.2.2.2.1, bV x23.2.2.2.2.2.2.2] 28]) (l' := fun g => [blkR b24 [bV x23.2.2.2.2.2.1, sV x23.2.2.2.2.2.2.1, bV x23.2.2.2.2.2.2.2] 28]) (v := fun g => sV x23.2.2.2.2.2.2.1) (fun g => o_load (i := 1) (v := sV x23.2.2.2.2.2.2.1) (by kernel_rfl) (by kernel_rfl) (by kernel_rfl)) (fun g => by kernel_rfl), ob_val fun g w => by kernel_rfl, ob_val fun g w => by kernel_rfl, ob_val fun g w => by kernel_rfl, ob_v (v := fun g => iV (((rw ++ [kyk]).length : Int) - 1)) (fun g => o_sub (k := .i64) (a := ((rw ++ [kyk]).length : Int)) (b := 1) (c := ((rw ++ [kyk]).length : Int) - 1) (by kernel_rfl) (by kernel_rfl) (w64 rfl (by omega))) (fun g => by kernel_rfl), ob_val fun g w => by kernel_rfl, ob_v (v := fun g => iV ((((rw ++ [kyk]).length : Int) - 1) - m)) (fun g => o_sub (k := .i64) (a := ((rw ++ [kyk]).length : Int) - 1) (b := m) (c := (((rw ++ [kyk]).length : Int) - 1) - m) (by kernel_rfl) (by kernel_rfl) (w64 rfl (by omega))) (fun g => by kernel_rfl), ob_v (v := fun g => pV b22 (rw.length - m.toNat)) (fun g => o_idx (b := b22) (cap := c20) (e := 9) (off := 0) (n := (rw ++ [kyk]).length) (kd := .i64) (q := (((rw ++ [kyk]).length : Int) - 1) - m) (i := rw.length - m.toNat) (size := 1) (j := rw.length - m.toNat) (by kernel_rfl) (by kernel_rfl) (by simp only [List.length_append, List.length_singleton]; omega) (by omega) Try.underlying22 (by kernel_rfl) (by omega)) (fun g => by kernel_rfl), ob_s (l := fun g => [rowR 9 1 (.slice (some ⟨b22, 0, none⟩) ((rw ++ [kyk]).length) c20) ((rw ++ [kyk]).length) ((rw ++ [kyk]).map Value.string)]) (l' := fun g => [rowR 9 1 (.slice (some ⟨b22, 0, none⟩) ((rw ++ [kyk]).length) c20) ((rw ++ [kyk]).length) ((rw ++ [kyk]).map Value.string)]) (v := fun g => sV ((rw ++ [kyk]).getD (rw.length - m.toNat) ⟨#[]⟩)) (fun g => o_loadRow (i := rw.length - m.toNat) (u := sV ((rw ++ [kyk]).getD (rw.length - m.toNat) ⟨#[]⟩)) (by kernel_rfl) (by omega) (by kernel_rfl) (get_map (by omega))) (fun g => by kernel_rfl), ob_v (v := fun g => bV false) (fun g => OprV.re (o_neS (a := x23.2.2.2.2.2.2.1) (b := (rw ++ [kyk]).getD (rw.length - m.toNat) ⟨#[]⟩) (by kernel_rfl) (by kernel_rfl)) (vF (fun z => z hv1))) (fun g => by kernel_rfl), ob_val fun g w => by kernel_rfl, ob_val fun g w => by kernel_rfl, ob_val fun g w => by kernel_rfl, ob_val fun g w => by kernel_rfl, ob_s (l := fun g => [arcB b4 lt15 lt26 lb17 lb28 m x23.1, llR lt15 x23.2.1 (n0 + 2), llR lt26 x23.2.2.1 (n0 + 2), llR lb17 x23.2.2.2.1 (n0 + 2), llR lb28 x23.2.2.2.2.1 (n0 + 2)]) (l' := fun g => [arcB b4 lt15 lt26 lb17 lb28 m x23.1, llR lt15 x23.2.1 (n0 + 2), llR lt26 x23.2.2.1 (n0 + 2), llR lb17 x23.2.2.2.1 (n0 + 2), llR lb28 x23.2.2.2.2.1 (n0 + 2)]) (v := fun g => iV x23.1) (fun g => o_call (by kernel_rfl) Try.call11 (Tri.eq (l2 := arcL b4 lt15 lt26 lb17 lb28 m x23.1 x23.2.1 x23.2.2.1 x23.2.2.2.1 x23.2.2.2.2.1 (n0 + 2)) (r' := iV x23.1) (arc_Share (n := n0 + 2) (most := m) (p := x23.1) (t1 := x23.2.1) (t2 := x23.2.2.1) (b1 := x23.2.2.2.1) (b2 := x23.2.2.2.2.1) (by omega)) (rfl) (rfl))) (fun g => by kernel_rfl), ob_v (v := fun g => bV false) (fun g => OprV.re (o_neI (k := .i64) (a := x23.1) (b := 0) (by kernel_rfl) (by kernel_rfl)) (vF (fun z => z hI2.share))) (fun g => by kernel_rfl), ob_val fun g w => by kernel_rfl, ob_val fun g w => by kernel_rfl, ob_val fun g w => by kernel_rfl, ob_s (l := fun g => [arcB b4 lt15 lt26 lb17 lb28 m x23.1, llR lt15 x23.2.1 (n0 + 2), llR lt26 x23.2.2.1 (n0 + 2), llR lb17 x23.2.2.2.1 (n0 + 2), llR lb28 x23.2.2.2.2.1 (n0 + 2)]) (l' := fun g => [arcB b4 lt15 lt26 lb17 lb28 m x23.1, llR lt15 x23.2.1 (n0 + 2), llR lt26 x23.2.2.1 (n0 + 2), llR lb17 x23.2.2.2.1 (n0 + 2), llR lb28 x23.2.2.2.2.1 (n0 + 2)]) (v := fun g => .agg #[iV (x23.2.1.length : Int), iV (x23.2.2.1.length : Int), iV (x23.2.2.2.1.length : Int), iV (x23.2.2.2.2.1.length : Int)]) (fun g => o_call (by kernel_rfl) Try.call12 (Tri.eq (l2 := arcL b4 lt15 lt26 lb17 lb28 m x23.1 x23.2.1 x23.2.2.1 x23.2.2.2.1 x23.2.2.2.2.1 (n0 + 2)) (r' := .agg #[iV (x23.2.1.length : Int), iV (x23.2.2.1.length : Int), iV (x23.2.2.2.1.length : Int), iV (x23.2.2.2.2.1.length : Int)]) (arc_Sizes (n := n0 + 2) (most := m) (p := x23.1) (t1 := x23.2.1) (t2 := x23.2.2.1) (b1 := x23.2.2.2.1) (b2 := x23.2.2.2.2.1) (by omega)) (rfl) (rfl))) (fun g => by kernel_rfl), ob_val fun g w => by kernel_rfl, ob_v (v := fun g => bV false) (fun g => OprV.re (o_neI (k := .i64) (a := (x23.2.2.1.length : Int)) (b := 0) (by kernel_rfl) (by kernel_rfl)) (vF (by simp [hI2.e2]))) (fun g => by kernel_rfl), ob_val fun g w => by kernel_rfl, ob_val fun g w => by kernel_rfl, ob_val fun g w => by kernel_rfl, ob_d (ι := Option Addr × Nat) (l := fun g => [arcB b4 lt15 lt26 lb17 lb28 m x23.1, llR lt15 x23.2.1 (n0 + 2), llR lt26 x23.2.2.1 (n0 + 2), llR lb17 x23.2.2.2.1 (n0 + 2), llR lb28 x23.2.2.2.2.1 (n0 + 2)]) (L := fun g y => [arcB b4 lt15 lt26 lb17 lb28 m x23.1, llR lt15 x23.2.1 (n0 + 2), llR lt26 x23.2.2.1 (n0 + 2), llR lb17 x23.2.2.2.1 (n0 + 2), llR lb28 x23.2.2.2.2.1 (n0 + 2), rowR 9 1 (.slice y.1 ((x23.2.2.2.1 ++ x23.2.2.2.2.1).length) y.2) ((x23.2.2.2.1 ++ x23.2.2.2.2.1).length) ((x23.2.2.2.1 ++ x23.2.2.2.2.1).map Value.string)]) (fun y => .slice y.1 ((x23.2.2.2.1 ++ x23.2.2.2.2.1).length) y.2) (fun g => o_call (by kernel_rfl) Try.call13 (Tri.rowA (Tri.ex (L' := fun v => arcL b4 lt15 lt26 lb17 lb28 m x23.1 x23.2.1 x23.2.2.1 x23.2.2.2.1 x23.2.2.2.2.1 (n0 + 2) ++ [rowR 9 1 v (x23.2.2.2.1 ++ x23.2.2.2.2.1).length ((x23.2.2.2.1 ++ x23.2.2.2.2.1).map Value.string)]) (arc_Ghosts (n := n0 + 2) (most := m) (p := x23.1) (t1 := x23.2.1) (t2 := x23.2.2.1) (b1 := x23.2.2.2.1) (b2 := x23.2.2.2.2.1) (by omega)) (fun v => rfl)))) (fun g => by kernel_rfl) (fun g y _ => ⟨trivial, by kernel_rfl, by kernel_rfl⟩), ob_val fun g w => by kernel_rfl, ob_v (v := fun g => bV false) (fun g => OprV.re (o_neI (k := .i64) (a := ((x23.2.2.2.1 ++ x23.2.2.2.2.1).length : Int)) (b := 0) (by kernel_rfl) (by kernel_rfl)) (vF (by simp [hI2.e3, hI2.e4]))) (fun g => by kernel_rfl), ob_val fun g w => by kernel_rfl, trivial⟩
                intro g
                refine Ex'.sub (subB_spec [0, 1, 5, 7, 6, 101]) ?_
                refine Ex'.as [0, 1, 2, 3, 4, 5, 6, 7, 8, 50] (σ' := [(0, iV m), (1, .slice (some ⟨g13, off14, none⟩) xs.length cap), (5, pV b4 0), (7, iV (k : Int)), (6, .slice (some ⟨b22, 0, none⟩) ((rw ++ [kyk]).length) c20), (101, bV false)]) (Γ' := [oldR w0, arcB b4 lt15 lt26 lb17 lb28 m x23.1, llR lt15 x23.2.1 (n0 + 2), llR lt26 x23.2.2.1 (n0 + 2), llR lb17 x23.2.2.2.1 (n0 + 2), llR lb28 x23.2.2.2.2.1 (n0 + 2), rowR 9 1 (.slice (some ⟨b22, 0, none⟩) ((rw ++ [kyk]).length) c20) ((rw ++ [kyk]).length) ((rw ++ [kyk]).map Value.string), blkR b17 [sV kyk] 9, blkR b24 [bV x23.2.2.2.2.2.1, sV x23.2.2.2.2.2.2.1, bV x23.2.2.2.2.2.2.2] 28, rowR 9 1 (.slice (addrOf (g 41)) ((x23.2.2.2.1 ++ x23.2.2.2.2.1).length) (capOf (g 41))) ((x23.2.2.2.1 ++ x23.2.2.2.2.1).length) ((x23.2.2.2.1 ++ x23.2.2.2.2.1).map Value.string)]) (by kernel_rfl) rfl (by kernel_rfl) (by kernel_rfl) ?_
                generalize addrOf (g 41) = a27
                generalize capOf (g 41) = c28
                refine Ex'.next ?_
                refine Cd.condF (by kernel_rfl) ?_
                refine Cd.skip ?_
                refine Ex'.blockNormal ?_
                refine Ex'.next ?_
                refine Cd.region rfl ?_
                refine Sq.vals [0] (rest := [1, 2]) [iV (k : Int)] (fun w => by kernel_rfl) ?_
                refine Sq.v (r := iV ((k : Int) + 1)) (o_add (k := .i64) (a := (k : Int)) (b := 1) (c := (k : Int) + 1) (by kernel_rfl) (by kernel_rfl) (w64 rfl (by omega))) rfl (by kernel_rfl) ?_
                refine Sq.vals [2] (rest := []) [iV ((k : Int) + 1)] (fun w => by kernel_rfl) ?_
                refine Sq.done ?_
                refine Ex'.round (g := (k, p0, t1x0, t2x0, b1x0, b2x0, n0, .slice a10 rw.length c11, rw)) (k + 1, x23.1, x23.2.1, x23.2.2.1, x23.2.2.2.1, x23.2.2.2.2.1, n0 + 2, .slice (some ⟨b22, 0, none⟩) ((rw ++ [kyk]).length) c20, rw ++ [kyk]) ?_ ?_ (subB_eq (l := [0, 1, 5, 7, 6]) (by kernel_rfl)) (fun w hw => hw.pickB [0, 1, 2, 3, 4, 5, 6] (by kernel_rfl) (by kernel_rfl) (by kernel_rfl))
                · (try dsimp only); exact ⟨by omega, hI2, by first | omega | (dsimp only; omega), by first | omega | (simp only [List.length_append, List.length_singleton]; omega)⟩
                · omega
              ·
                refine Cd.plan (0 :: 1 :: 3 :: 7 :: 15 :: 7 :: 39 :: 7 :: 231 :: 511 :: 1023 :: 2047 :: 4095 :: 8191 :: 16383 :: 32767 :: 65535 :: 32767 :: 32767 :: 294911 :: 819199 :: 32767 :: 3964927 :: 8290303 :: 16678911 :: 33554431 :: 67108863 :: 134217727 :: 268435455 :: 536870911 :: 1073741823 :: 2147483647 :: 4294967295 :: 8589934591 :: 17179869183 :: 34359738367 :: 68719476735 :: 137438953471 :: 274877906943 :: 549755813887 :: 1099511627775 :: 2199023255551 :: 4398046511103 :: 8796093022207 :: 17592186044415 :: []) [(1, [(8, false, 0)]), (4, [(8, false, 0)]), (13, [(8, false, 0)]), (30, [(1, false, 0), (2, false, 0), (3, false, 0), (4, false, 0), (5, false, 0)]), (35, [(1, false, 0), (2, false, 0), (3, false, 0), (4, false, 0), (5, false, 0)]), (41, [(1, false, 0), (2, false, 0), (3, false, 0), (4, false, 0), (5, false, 0)])] [41] [(41, fun _ => True)] [(50, 41, fun g => rowR 9 1 (.slice (addrOf (g 41)) ((x23.2.2.2.1 ++ x23.2.2.2.2.1).length) (capOf (g 41))) ((x23.2.2.2.1 ++ x23.2.2.2.2.1).length) ((x23.2.2.2.1 ++ x23.2.2.2.2.1).map Value.string))] ((fun g => pV b24 0) :: (fun g => bV x23.2.2.2.2.2.1) :: (fun g => bV false) :: (fun g => pV b24 2) :: (fun g => bV x23.2.2.2.2.2.2.2) :: (fun g => .slice (some ⟨b22, 0, none⟩) ((rw ++ [kyk]).length) c20) :: (fun g => iV ((rw ++ [kyk]).length : Int)) :: (fun g => iV m) :: (fun g => bV (decide (((rw ++ [kyk]).length : Int) > m))) :: (fun g => bV false) :: (fun g => bV false) :: (fun g => bV false) :: (fun g => pV b24 2) :: (fun g => bV x23.2.2.2.2.2.2.2) :: (fun g => bV false) :: (fun g => undef) :: (fun g => undef) :: (fun g => undef) :: (fun g => undef) :: (fun g => undef) :: (fun g => undef) :: (fun g => undef) :: (fun g => undef) :: (fun g => undef) :: (fun g => undef) :: (fun g => undef) :: (fun g => bV false) :: (fun g => bV false) :: (fun g => bV false) :: (fun g => pV b4 0) :: (fun g => iV x23.1) :: (fun g => bV false) :: (fun g => bV false) :: (fun g => bV false) :: (fun g => pV b4 0) :: (fun g => .agg #[iV (x23.2.1.length : Int), iV (x23.2.2.1.length : Int), iV (x23.2.2.2.1.length : Int), iV (x23.2.2.2.2.1.length : Int)]) :: (fun g => iV (x23.2.2.1.length : Int)) :: (fun g => bV false) :: (fun g => bV false) :: (fun g => bV false) :: (fun g => pV b4 0) :: (fun g => .slice (addrOf (g 41)) ((x23.2.2.2.1 ++ x23.2.2.2.2.1).length) (capOf (g 41))) :: (fun g => iV ((x23.2.2.2.1 ++ x23.2.2.2.2.1).length : Int)) :: (fun g => bV false) :: (fun g => bV false) :: []) (by kernel_rfl) (by kernel_rfl) rfl (⟨⟨⟨fun _ _ => rfl, ⟨fun _ _ => rfl, ⟨fun _ _ => rfl, ⟨fun _ _ => rfl, ⟨fun _ _ => rfl, ⟨fun _ _ => rfl, ⟨fun _ _ => rfl, ⟨fun _ _ => rfl, ⟨fun _ _ => rfl, ⟨fun _ _ => rfl, ⟨fun _ _ => rfl, ⟨fun _ _ => rfl, ⟨fun _ _ => rfl, ⟨fun _ _ => rfl, ⟨fun _ _ => rfl, ⟨fun _ _ => rfl, ⟨fun _ _ => rfl, ⟨fun _ _ => rfl, ⟨fun _ _ => rfl, ⟨fun _ _ => rfl, ⟨fun _ _ => rfl, ⟨fun _ _ => rfl, ⟨fun _ _ => rfl, ⟨fun _ _ => rfl, ⟨fun _ _ => rfl, ⟨fun _ _ => rfl, ⟨fun _ _ => rfl, ⟨fun _ _ => rfl, ⟨fun _ _ => rfl, ⟨fun _ _ => rfl, ⟨fun _ _ => rfl, ⟨fun _ _ => rfl, ⟨fun _ _ => rfl, ⟨fun _ _ => rfl, ⟨fun _ _ => rfl, ⟨fun _ _ => rfl, ⟨fun _ _ => rfl, ⟨fun _ _ => rfl, ⟨fun _ _ => rfl, ⟨fun _ _ => rfl, ⟨fun _ _ => rfl, ⟨trivial, ⟨trivial, ⟨trivial, ⟨trivial, trivial⟩⟩⟩⟩⟩⟩⟩⟩⟩⟩⟩⟩⟩⟩⟩⟩⟩⟩⟩⟩⟩⟩⟩⟩⟩⟩⟩⟩⟩⟩⟩⟩⟩⟩⟩⟩⟩⟩⟩⟩⟩⟩⟩⟩⟩, ⟨trivial, trivial⟩⟩, trivial⟩) ?_ ?_
                · exact ⟨ob_val fun g w => by kernel_rfl, ob_s (l := fun g => [blkR b24 [bV x23.2.2.2.2.2.1, sV x23.2.2.2.2.2.2.1, bV x23.2.2.2.2.2.2.2] 28]) (l' := fun g => [blkR b24 [bV x23.2.2.2.2.2.1, sV x23.2.2.2.2.2.2.1, bV x23.2.2.2.2.2.2.2] 28]) (v := fun g => bV x23.2.2.2.2.2.1) (fun g => o_load (i := 0) (v := bV x23.2.2.2.2.2.1) (by kernel_rfl) (by kernel_rfl) (by kernel_rfl)) (fun g => by kernel_rfl), ob_v (v := fun g => bV false) (fun g => OprV.re (pureV (v := bV x23.2.2.2.2.2.1) (by kernel_rfl) rfl fun w => by kernel_rfl) (congrArg Value.bool (show x23.2.2.2.2.2.1 = false from hhit))) (fun g => by kernel_rfl), ob_val fun g w => by kernel_rfl, ob_s (l := fun g => [blkR b24 [bV x23.2.2.2.2.2.1, sV x23.2.2.2.2.2.2.1, bV x23.2.2.2.2.2.2.2] 28]) (l' := fun g => [blkR b24 [bV x23.2.2.2.2.2.1, sV x23.2.2.2.2.2.2.1, bV x23.2.2.2.2.2.2.2] 28]) (v := fun g => bV x23.2.2.2.2.2.2.2) (fun g => o_load (i := 2) (v := bV x23.2.2.2.2.2.2.2) (by kernel_rfl) (by kernel_rfl) (by kernel_rfl)) (fun g => by kernel_rfl), ob_val fun g w => by kernel_rfl, ob_val fun g w => by kernel_rfl, ob_val fun g w => by kernel_rfl, ob_val fun g w => by kernel_rfl, ob_v (v := fun g => bV false) (fun g => OprV.re (pureV (v := bV (!(x23.2.2.2.2.2.2.2 == (decide (((rw ++ [kyk]).length : Int) > m))))) (by kernel_rfl) rfl fun w => by kernel_rfl) (congrArg Value.bool (show (!(x23.2.2.2.2.2.2.2 == (decide (((rw ++ [kyk]).length : Int) > m)))) = false from (by simp [hout])))) (fun g => by kernel_rfl), ob_val fun g w => by kernel_rfl, ob_val fun g w => by kernel_rfl, ob_val fun g w => by kernel_rfl, ob_s (l := fun g => [blkR b24 [bV x23.2.2.2.2.2.1, sV x23.2.2.2.2.2.2.1, bV x23.2.2.2.2.2.2.2] 28]) (l' := fun g => [blkR b24 [bV x23.2.2.2.2.2.1, sV x23.2.2.2.2.2.2.1, bV x23.2.2.2.2.2.2.2] 28]) (v := fun g => bV x23.2.2.2.2.2.2.2) (fun g => o_load (i := 2) (v := bV x23.2.2.2.2.2.2.2) (by kernel_rfl) (by kernel_rfl) (by kernel_rfl)) (fun g => by kernel_rfl), ob_v (v := fun g => bV false) (fun g => OprV.re (pureV (v := bV x23.2.2.2.2.2.2.2) (by kernel_rfl) rfl fun w => by kernel_rfl) (congrArg Value.bool (show x23.2.2.2.2.2.2.2 = false from h25))) (fun g => by kernel_rfl), ob_val fun g w => by kernel_rfl, ob_val fun g w => by kernel_rfl, ob_val fun g w => by kernel_rfl, ob_val fun g w => by kernel_rfl, ob_val fun g w => by kernel_rfl, ob_val fun g w => by kernel_rfl, ob_val fun g w => by kernel_rfl, ob_val fun g w => by kernel_rfl, ob_val fun g w => by kernel_rfl, ob_val fun g w => by kernel_rfl, ob_val fun g w => by kernel_rfl, ob_val fun g w => by kernel_rfl, ob_val fun g w => by kernel_rfl, ob_val fun g w => by kernel_rfl, ob_val fun g w => by kernel_rfl, ob_s (l := fun g => [arcB b4 lt15 lt26 lb17 lb28 m x23.1, llR lt15 x23.2.1 (n0 + 2), llR lt26 x23.2.2.1 (n0 + 2), llR lb17 x23.2.2.2.1 (n0 + 2), llR lb28 x23.2.2.2.2.1 (n0 + 2)]) (l' := fun g => [arcB b4 lt15 lt26 lb17 lb28 m x23.1, llR lt15 x23.2.1 (n0 + 2), llR lt26 x23.2.2.1 (n0 + 2), llR lb17 x23.2.2.2.1 (n0 + 2), llR lb28 x23.2.2.2.2.1 (n0 + 2)]) (v := fun g => iV x23.1) (fun g => o_call (by kernel_rfl) Try.call11 (Tri.eq (l2 := arcL b4 lt15 lt26 lb17 lb28 m x23.1 x23.2.1 x23.2.2.1 x23.2.2.2.1 x23.2.2.2.2.1 (n0 + 2)) (r' := iV x23.1) (arc_Share (n := n0 + 2) (most := m) (p := x23.1) (t1 := x23.2.1) (t2 := x23.2.2.1) (b1 := x23.2.2.2.1) (b2 := x23.2.2.2.2.1) (by omega)) (rfl) (rfl))) (fun g => by kernel_rfl), ob_v (v := fun g => bV false) (fun g => OprV.re (o_neI (k := .i64) (a := x23.1) (b := 0) (by kernel_rfl) (by kernel_rfl)) (vF (fun z => z hI2.share))) (fun g => by kernel_rfl), ob_val fun g w => by kernel_rfl, ob_val fun g w => by kernel_rfl, ob_val fun g w => by kernel_rfl, ob_s (l := fun g => [arcB b4 lt15 lt26 lb17 lb28 m x23.1, llR lt15 x23.2.1 (n0 + 2), llR lt26 x23.2.2.1 (n0 + 2), llR lb17 x23.2.2.2.1 (n0 + 2), llR lb28 x23.2.2.2.2.1 (n0 + 2)]) (l' := fun g => [arcB b4 lt15 lt26 lb17 lb28 m x23.1, llR lt15 x23.2.1 (n0 + 2), llR lt26 x23.2.2.1 (n0 + 2), llR lb17 x23.2.2.2.1 (n0 + 2), llR lb28 x23.2.2.2.2.1 (n0 + 2)]) (v := fun g => .agg #[iV (x23.2.1.length : Int), iV (x23.2.2.1.length : Int), iV (x23.2.2.2.1.length : Int), iV (x23.2.2.2.2.1.length : Int)]) (fun g => o_call (by kernel_rfl) Try.call12 (Tri.eq (l2 := arcL b4 lt15 lt26 lb17 lb28 m x23.1 x23.2.1 x23.2.2.1 x23.2.2.2.1 x23.2.2.2.2.1 (n0 + 2)) (r' := .agg #[iV (x23.2.1.length : Int), iV (x23.2.2.1.length : Int), iV (x23.2.2.2.1.length : Int), iV (x23.2.2.2.2.1.length : Int)]) (arc_Sizes (n := n0 + 2) (most := m) (p := x23.1) (t1 := x23.2.1) (t2 := x23.2.2.1) (b1 := x23.2.2.2.1) (b2 := x23.2.2.2.2.1) (by omega)) (rfl) (rfl))) (fun g => by kernel_rfl), ob_val fun g w => by kernel_rfl, ob_v (v := fun g => bV false) (fun g => OprV.re (o_neI (k := .i64) (a := (x23.2.2.1.length : Int)) (b := 0) (by kernel_rfl) (by kernel_rfl)) (vF (by simp [hI2.e2]))) (fun g => by kernel_rfl), ob_val fun g w => by kernel_rfl, ob_val fun g w => by kernel_rfl, ob_val fun g w => by kernel_rfl, ob_d (ι := Option Addr × Nat) (l := fun g => [arcB b4 lt15 lt26 lb17 lb28 m x23.1, llR lt15 x23.2.1 (n0 + 2), llR lt26 x23.2.2.1 (n0 + 2), llR lb17 x23.2.2.2.1 (n0 + 2), llR lb28 x23.2.2.2.2.1 (n0 + 2)]) (L := fun g y => [arcB b4 lt15 lt26 lb17 lb28 m x23.1, llR lt15 x23.2.1 (n0 + 2), llR lt26 x23.2.2.1 (n0 + 2), llR lb17 x23.2.2.2.1 (n0 + 2), llR lb28 x23.2.2.2.2.1 (n0 + 2), rowR 9 1 (.slice y.1 ((x23.2.2.2.1 ++ x23.2.2.2.2.1).length) y.2) ((x23.2.2.2.1 ++ x23.2.2.2.2.1).length) ((x23.2.2.2.1 ++ x23.2.2.2.2.1).map Value.string)]) (fun y => .slice y.1 ((x23.2.2.2.1 ++ x23.2.2.2.2.1).length) y.2) (fun g => o_call (by kernel_rfl) Try.call13 (Tri.rowA (Tri.ex (L' := fun v => arcL b4 lt15 lt26 lb17 lb28 m x23.1 x23.2.1 x23.2.2.1 x23.2.2.2.1 x23.2.2.2.2.1 (n0 + 2) ++ [rowR 9 1 v (x23.2.2.2.1 ++ x23.2.2.2.2.1).length ((x23.2.2.2.1 ++ x23.2.2.2.2.1).map Value.string)]) (arc_Ghosts (n := n0 + 2) (most := m) (p := x23.1) (t1 := x23.2.1) (t2 := x23.2.2.1) (b1 := x23.2.2.2.1) (b2 := x23.2.2.2.2.1) (by omega)) (fun v => rfl)))) (fun g => by kernel_rfl) (fun g y _ => ⟨trivial, by kernel_rfl, by kernel_rfl⟩), ob_val fun g w => by kernel_rfl, ob_v (v := fun g => bV false) (fun g => OprV.re (o_neI (k := .i64) (a := ((x23.2.2.2.1 ++ x23.2.2.2.2.1).length : Int)) (b := 0) (by kernel_rfl) (by kernel_rfl)) (vF (by simp [hI2.e3, hI2.e4]))) (fun g => by kernel_rfl), ob_val fun g w => by kernel_rfl, trivial⟩
                intro g
                refine Ex'.sub (subB_spec [0, 1, 5, 7, 6, 101]) ?_
                refine Ex'.as [0, 1, 2, 3, 4, 5, 6, 7, 8, 50] (σ' := [(0, iV m), (1, .slice (some ⟨g13, off14, none⟩) xs.length cap), (5, pV b4 0), (7, iV (k : Int)), (6, .slice (some ⟨b22, 0, none⟩) ((rw ++ [kyk]).length) c20), (101, bV false)]) (Γ' := [oldR w0, arcB b4 lt15 lt26 lb17 lb28 m x23.1, llR lt15 x23.2.1 (n0 + 2), llR lt26 x23.2.2.1 (n0 + 2), llR lb17 x23.2.2.2.1 (n0 + 2), llR lb28 x23.2.2.2.2.1 (n0 + 2), rowR 9 1 (.slice (some ⟨b22, 0, none⟩) ((rw ++ [kyk]).length) c20) ((rw ++ [kyk]).length) ((rw ++ [kyk]).map Value.string), blkR b17 [sV kyk] 9, blkR b24 [bV x23.2.2.2.2.2.1, sV x23.2.2.2.2.2.2.1, bV x23.2.2.2.2.2.2.2] 28, rowR 9 1 (.slice (addrOf (g 41)) ((x23.2.2.2.1 ++ x23.2.2.2.2.1).length) (capOf (g 41))) ((x23.2.2.2.1 ++ x23.2.2.2.2.1).length) ((x23.2.2.2.1 ++ x23.2.2.2.2.1).map Value.string)]) (by kernel_rfl) rfl (by kernel_rfl) (by kernel_rfl) ?_
                generalize addrOf (g 41) = a30
                generalize capOf (g 41) = c31
                refine Ex'.next ?_
                refine Cd.condF (by kernel_rfl) ?_
                refine Cd.skip ?_
                refine Ex'.blockNormal ?_
                refine Ex'.next ?_
                refine Cd.region rfl ?_
                refine Sq.vals [0] (rest := [1, 2]) [iV (k : Int)] (fun w => by kernel_rfl) ?_
                refine Sq.v (r := iV ((k : Int) + 1)) (o_add (k := .i64) (a := (k : Int)) (b := 1) (c := (k : Int) + 1) (by kernel_rfl) (by kernel_rfl) (w64 rfl (by omega))) rfl (by kernel_rfl) ?_
                refine Sq.vals [2] (rest := []) [iV ((k : Int) + 1)] (fun w => by kernel_rfl) ?_
                refine Sq.done ?_
                refine Ex'.round (g := (k, p0, t1x0, t2x0, b1x0, b2x0, n0, .slice a10 rw.length c11, rw)) (k + 1, x23.1, x23.2.1, x23.2.2.1, x23.2.2.2.1, x23.2.2.2.2.1, n0 + 2, .slice (some ⟨b22, 0, none⟩) ((rw ++ [kyk]).length) c20, rw ++ [kyk]) ?_ ?_ (subB_eq (l := [0, 1, 5, 7, 6]) (by kernel_rfl)) (fun w hw => hw.pickB [0, 1, 2, 3, 4, 5, 6] (by kernel_rfl) (by kernel_rfl) (by kernel_rfl))
                · (try dsimp only); exact ⟨by omega, hI2, by first | omega | (dsimp only; omega), by first | omega | (simp only [List.length_append, List.length_singleton]; omega)⟩
                · omega
        ·
          refine Cd.exit ?_
          refine Ex'.thenExit ?_
          refine Ex'.thenExit ?_
          refine Ex'.blockHit ?_
          refine Ex'.next ?_
          refine Cd.seq ?_
          refine Cd.plan [0, 1, 0, 0, 8, 0, 56, 120, 252, 511, 1023] [(1, [(1, false, 0), (2, false, 0), (3, false, 0), (4, false, 0), (5, false, 0)]), (9, [(8, false, 2), (6, false, 0)])] [1] [(1, fun _ => True)] [(8, 1, fun g => rowR 9 1 (.slice (addrOf (g 1)) ((t1x0.reverse ++ t2x0.reverse).length) (capOf (g 1))) ((t1x0.reverse ++ t2x0.reverse).length) ((t1x0.reverse ++ t2x0.reverse).map Value.string))] [fun g => pV b4 0, fun g => .slice (addrOf (g 1)) ((t1x0.reverse ++ t2x0.reverse).length) (capOf (g 1)), fun g => .slice a10 rw.length c11, fun g => .slice a10 rw.length c11, fun g => iV (rw.length : Int), fun g => iV m, fun g => iV ((rw.length : Int) - m), fun g => iV (if (rw.length : Int) - m > 0 then (rw.length : Int) - m else 0), fun g => .slice (if c11 = rw.length - m.toNat then a10 else Option.map (fun y => y.add (rw.length - m.toNat)) a10) (rw.length - (rw.length - m.toNat)) (c11 - (rw.length - m.toNat)), fun g => bV (decide (t1x0.reverse ++ t2x0.reverse = rw.drop (rw.length - m.toNat))), fun g => bV (decide (t1x0.reverse ++ t2x0.reverse = rw.drop (rw.length - m.toNat)))] (by kernel_rfl) (by kernel_rfl) rfl (⟨⟨⟨fun _ _ => rfl, ⟨trivial, ⟨fun _ _ => rfl, ⟨fun _ _ => rfl, ⟨fun _ _ => rfl, ⟨fun _ _ => rfl, ⟨fun _ _ => rfl, ⟨fun _ _ => rfl, ⟨fun _ _ => rfl, ⟨trivial, ⟨trivial, trivial⟩⟩⟩⟩⟩⟩⟩⟩⟩⟩⟩, ⟨trivial, trivial⟩⟩, trivial⟩) ?_ ?_
          · exact ⟨ob_val fun g w => by kernel_rfl, ob_d (ι := Option Addr × Nat) (l := fun g => [arcB b4 lt15 lt26 lb17 lb28 m p0, llR lt15 t1x0 n0, llR lt26 t2x0 n0, llR lb17 b1x0 n0, llR lb28 b2x0 n0]) (L := fun g y => [arcB b4 lt15 lt26 lb17 lb28 m p0, llR lt15 t1x0 n0, llR lt26 t2x0 n0, llR lb17 b1x0 n0, llR lb28 b2x0 n0, rowR 9 1 (.slice y.1 ((t1x0.reverse ++ t2x0.reverse).length) y.2) ((t1x0.reverse ++ t2x0.reverse).length) ((t1x0.reverse ++ t2x0.reverse).map Value.string)]) (fun y => .slice y.1 ((t1x0.reverse ++ t2x0.reverse).length) y.2) (fun g => o_call (by kernel_rfl) Try.call15 (Tri.rowA (Tri.ex (L' := fun v => arcL b4 lt15 lt26 lb17 lb28 m p0 t1x0 t2x0 b1x0 b2x0 n0 ++ [rowR 9 1 v (t1x0.reverse ++ t2x0.reverse).length ((t1x0.reverse ++ t2x0.reverse).map Value.string)]) (arc_Keys (n := n0) (most := m) (p := p0) (t1 := t1x0) (t2 := t2x0) (b1 := b1x0) (b2 := b2x0) (by omega)) (fun v => rfl)))) (fun g => by kernel_rfl) (fun g y _ => ⟨trivial, by kernel_rfl, by kernel_rfl⟩), ob_val fun g w => by kernel_rfl, ob_val fun g w => by kernel_rfl, ob_val fun g w => by kernel_rfl, ob_val fun g w => by kernel_rfl, ob_v (v := fun g => iV ((rw.length : Int) - m)) (fun g => o_sub (k := .i64) (a := (rw.length : Int)) (b := m) (c := (rw.length : Int) - m) (by kernel_rfl) (by kernel_rfl) (w64 rfl (by omega))) (fun g => by kernel_rfl), ob_val fun g w => by kernel_rfl, ob_v (v := fun g => .slice (if c11 = rw.length - m.toNat then a10 else Option.map (fun y => y.add (rw.length - m.toNat)) a10) (rw.length - (rw.length - m.toNat)) (c11 - (rw.length - m.toNat))) (fun g => o_cutFrom (kd := .i64) (q := (if (rw.length : Int) - m > 0 then (rw.length : Int) - m else 0)) (l := rw.length - m.toNat) (n := rw.length) (cap := c11) (a := a10) (by kernel_rfl) (by kernel_rfl) (by split <;> omega) (by omega) (by omega) Try.underlying22 (by kernel_rfl)) (fun g => by kernel_rfl), ob_s (l := fun g => [rowR 9 1 (.slice (addrOf (g 1)) ((t1x0.reverse ++ t2x0.reverse).length) (capOf (g 1))) ((t1x0.reverse ++ t2x0.reverse).length) ((t1x0.reverse ++ t2x0.reverse).map Value.string), rowR 9 1 (.slice a10 rw.length c11) rw.length (rw.map Value.string)]) (l' := fun g => [rowR 9 1 (.slice (addrOf (g 1)) ((t1x0.reverse ++ t2x0.reverse).length) (capOf (g 1))) ((t1x0.reverse ++ t2x0.reverse).length) ((t1x0.reverse ++ t2x0.reverse).map Value.string), rowR 9 1 (.slice a10 rw.length c11) rw.length (rw.map Value.string)]) (v := fun g => bV (decide (t1x0.reverse ++ t2x0.reverse = rw.drop (rw.length - m.toNat)))) (fun g => o_call (by kernel_rfl) Try.call14 (t_same03 (l := [rowR 9 1 (.slice (addrOf (g 1)) ((t1x0.reverse ++ t2x0.reverse).length) (capOf (g 1))) ((t1x0.reverse ++ t2x0.reverse).length) ((t1x0.reverse ++ t2x0.reverse).map Value.string), rowR 9 1 (.slice a10 rw.length c11) rw.length (rw.map Value.string)]) (xs := t1x0.reverse ++ t2x0.reverse) (ys := rw.drop (rw.length - m.toNat)) (fun w own hH => ⟨⟨_, Row.strs (hH 0 _ rfl)⟩, ⟨_, Strs.cutFrom (Row.strs (hH 1 _ rfl)) (by omega)⟩⟩))) (fun g => by kernel_rfl), ob_val fun g w => by kernel_rfl, trivial⟩
          intro g
          refine Ex'.sub (subB_spec [4]) ?_
          refine Ex'.as [0, 1, 2, 3, 4, 5, 6, 8] (σ' := [(4, bV (decide (t1x0.reverse ++ t2x0.reverse = rw.drop (rw.length - m.toNat))))]) (Γ' := [oldR w0, arcB b4 lt15 lt26 lb17 lb28 m p0, llR lt15 t1x0 n0, llR lt26 t2x0 n0, llR lb17 b1x0 n0, llR lb28 b2x0 n0, rowR 9 1 (.slice a10 rw.length c11) rw.length (rw.map Value.string), rowR 9 1 (.slice (addrOf (g 1)) ((t1x0.reverse ++ t2x0.reverse).length) (capOf (g 1))) ((t1x0.reverse ++ t2x0.reverse).length) ((t1x0.reverse ++ t2x0.reverse).map Value.string)]) (by kernel_rfl) rfl (by kernel_rfl) (by kernel_rfl) ?_
          generalize addrOf (g 1) = a33
          generalize capOf (g 1) = c34
          refine Ex'.next ?_
          refine Cd.ret ?_
          refine Ex'.ret Try.results3 (RVs.tmp (v := bV (decide (t1x0.reverse ++ t2x0.reverse = rw.drop (rw.length - m.toNat)))) (by kernel_rfl) (RVs.nil)) (fun w hw => ?_)
          exact ⟨_, ⟨(vT hI.keys), by kernel_rfl⟩, hw⟩

theorem arcOnce_walk (m : Int) (v : Value) (xs : List ByteArray) (w : World) (hm : (Lit.int .i64 m).wf = true) (h : Strs w (fun k => k < w.heap.size) v xs) (hz : ∀ k ∈ xs, k.size ≤ maxLen) :
    Calls Try.prog 3 #[.int .i64 m, v] w fun e w' => e = .returned (.bool true) ∧ Below w.heap.size w w' := by
  obtain ⟨a, cap, rfl, hl⟩ := KeysIn.shape ⟨h, hz⟩
  exact law_of (arcOnce_tri (range64 hm) hl ⟨h, hz⟩)

end Go.Proofs.Ytnijaeipkbpibaa
