/- SrlruOnce: its walk. -/
import Derived.Test.YtjijjfdkghcjkaaSrlFew
import Derived.Test.YtjijjfdkghcjkaaSrlLaw
import Derived.Test.YtjijjfdkghcjkaaSrlPureD
import Derived.Test.YtjijjfdkghcjkaaSepH
set_option linter.unusedVariables false
namespace Go.Proofs.Ytjijjfdkghcjkaa
open Go.RowKit Go.MapKept

set_option maxHeartbeats 8000000 in
set_option maxRecDepth 100000 in
theorem srlruOnce_tri {w0 : World} {m : Int} {a : Option Addr} {cap : Nat} {xs : List ByteArray} (hm : -9223372036854775808 ≤ m ∧ m ≤ 9223372036854775807) (hl : xs.length ≤ cap ∧ cap ≤ 9223372036854775807) (hs : KeysIn w0 (.slice a xs.length cap) xs) : Tri Try.prog 10 #[iV m, .slice a xs.length cap] [oldR w0] (LawP w0) := by
  refine Tri.enter (args := [iV m, .slice a xs.length cap]) Try.func10 rfl rfl rfl (fun B wz => ?_)
  refine Cd.seq ?_
  refine Cd.region rfl ?_
  refine Sq.vals [0] (rest := []) [bV false] (fun w => by kernel_rfl) ?_
  refine Sq.done ?_
  refine Ex'.next ?_
  refine Cd.seq ?_
  refine Cd.seq ?_
  refine Cd.region rfl ?_
  refine Sq.same [] (l := []) (o_call (by kernel_rfl) Try.call35 (srl_awake)) (by kernel_rfl) rfl (by kernel_rfl) rfl ?_
  refine Sq.vals [1] (rest := []) [bV false] (fun w => by kernel_rfl) ?_
  refine Sq.done ?_
  refine Ex'.next ?_
  refine Cd.condF (by kernel_rfl) ?_
  refine Cd.skip ?_
  refine Ex'.next ?_
  refine Cd.seq ?_
  refine Cd.seq ?_
  refine Cd.region rfl ?_
  refine Sq.vals [0, 1, 2, 3] (rest := [4, 5, 6, 7, 8, 9, 10]) [.slice a xs.length cap, iV (xs.length : Int), bV (decide ((xs.length : Int) > 100)), bV (decide ((xs.length : Int) > 100))] (fun w => by kernel_rfl) ?_
  refine Sq.case 14 (p := (xs.length : Int) > 100) rfl (fun h1 => ?_) (fun h1 => ?_)
  ·
    refine Sq.vals [4, 5, 6, 7, 8, 9, 10] (rest := []) [undef, undef, bV true, bV true, undef, undef, bV true] (fun w => by kernel_rfl) ?_
    refine Sq.done ?_
    refine Ex'.next ?_
    refine Cd.condT (by kernel_rfl) ?_
    refine Cd.seq ?_
    refine Cd.region rfl ?_
    refine Sq.vals [0] (rest := []) [bV true] (fun w => by kernel_rfl) ?_
    refine Sq.done ?_
    refine Ex'.next ?_
    refine Cd.ret ?_
    refine Ex'.thenRet ?_
    refine Ex'.ret Try.results10 (RVs.tmp (v := bV true) (by kernel_rfl) (RVs.nil)) (fun w hw => ?_)
    exact ⟨_, ⟨rfl, by kernel_rfl⟩, hw⟩
  ·
    refine Sq.vals [4, 5, 6, 7] (rest := [8, 9, 10]) [iV m, bV (decide (m < 1)), bV (decide (m < 1)), bV (decide (m < 1))] (fun w => by kernel_rfl) ?_
    refine Sq.case 18 (p := m < 1) rfl (fun h2 => ?_) (fun h2 => ?_)
    ·
      refine Sq.vals [8, 9, 10] (rest := []) [undef, undef, bV true] (fun w => by kernel_rfl) ?_
      refine Sq.done ?_
      refine Ex'.next ?_
      refine Cd.condT (by kernel_rfl) ?_
      refine Cd.seq ?_
      refine Cd.region rfl ?_
      refine Sq.vals [0] (rest := []) [bV true] (fun w => by kernel_rfl) ?_
      refine Sq.done ?_
      refine Ex'.next ?_
      refine Cd.ret ?_
      refine Ex'.thenRet ?_
      refine Ex'.ret Try.results10 (RVs.tmp (v := bV true) (by kernel_rfl) (RVs.nil)) (fun w hw => ?_)
      exact ⟨_, ⟨rfl, by kernel_rfl⟩, hw⟩
    ·
      refine Sq.vals [8, 9, 10] (rest := []) [iV m, bV (decide (m > 1000)), bV (decide (m > 1000))] (fun w => by kernel_rfl) ?_
      refine Sq.done ?_
      refine Ex'.next ?_
      refine Cd.case (p := m > 1000) (by kernel_rfl) (fun h3 => ?_) (fun h3 => ?_)
      ·
        refine Cd.seq ?_
        refine Cd.region rfl ?_
        refine Sq.vals [0] (rest := []) [bV true] (fun w => by kernel_rfl) ?_
        refine Sq.done ?_
        refine Ex'.next ?_
        refine Cd.ret ?_
        refine Ex'.thenRet ?_
        refine Ex'.ret Try.results10 (RVs.tmp (v := bV true) (by kernel_rfl) (RVs.nil)) (fun w hw => ?_)
        exact ⟨_, ⟨rfl, by kernel_rfl⟩, hw⟩
      ·
        refine Cd.skip ?_
        refine Ex'.next ?_
        refine Cd.seq ?_
        refine Cd.region rfl ?_
        refine Sq.vals [0] (rest := [1, 2]) [iV m] (fun w => by kernel_rfl) ?_
        refine Sq.ex [] (l := []) (o_call (by kernel_rfl) Try.call36 (Tri.ex (L' := fun x => srlL x.1 x.2.1 x.2.2.1 x.2.2.2.1 x.2.2.2.2 m (m / 2) [] [] [] [] 0) (srl_New m (by omega)) (fun x => by simp only [srlNew_nn (show 0 ≤ m by omega)]))) (by kernel_rfl) rfl (by kernel_rfl) (fun _ => Nat.le_of_ble_eq_true (by kernel_rfl)) ?_; rintro ⟨b4, nb5, ab6, gb7, mb8⟩ _
        refine Sq.vals [2] (rest := []) [pV b4 0] (fun w => by kernel_rfl) ?_
        refine Sq.done ?_
        refine Ex'.next ?_
        refine Cd.seq ?_
        refine Cd.seq ?_
        refine Cd.region rfl ?_
        refine Sq.vals [0, 1] (rest := []) [pV b4 0, bV false] (fun w => by kernel_rfl) ?_
        refine Sq.done ?_
        refine Ex'.next ?_
        refine Cd.condF (by kernel_rfl) ?_
        refine Cd.skip ?_
        refine Ex'.next ?_
        refine Cd.seq ?_
        refine Cd.region rfl ?_
        refine Sq.vals [0] (rest := []) [.slice none 0 0] (fun w => by kernel_rfl) ?_
        refine Sq.done ?_
        refine Ex'.next ?_
        refine Cd.seq ?_
        refine Cd.seq ?_
        refine Cd.region rfl ?_
        refine Sq.vals [0] (rest := []) [iV 0] (fun w => by kernel_rfl) ?_
        refine Sq.done ?_
        refine Ex'.next ?_
        refine Cd.block ?_
        refine Cd.nilRow 9 1 ?_
        refine Cd.loop (ι := Nat × Int × (List ByteArray) × (List ByteArray) × (List ByteArray) × (List (ByteArray × (Bool × Bool))) × Nat × Value × (List ByteArray)) (fun ⟨k, t0, ns0, cs0, gs0, ms0, n0, rv, rw⟩ => k ≤ xs.length ∧ OnceI m t0 rw ns0 cs0 gs0 ms0 ∧ n0 ≤ k * 2000 ∧ rw.length ≤ k) (fun ⟨k, t0, ns0, cs0, gs0, ms0, n0, rv, rw⟩ => xs.length - k) (fun ⟨k, t0, ns0, cs0, gs0, ms0, n0, rv, rw⟩ => [(0, iV m), (1, .slice a xs.length cap), (5, pV b4 0), (7, iV (k : Int)), (6, rv)]) (fun ⟨k, t0, ns0, cs0, gs0, ms0, n0, rv, rw⟩ => [oldR w0, srlB b4 nb5 ab6 gb7 mb8 m t0, llR nb5 ns0 n0, llR ab6 cs0 n0, llR gb7 gs0 n0, mapR Value.string markV mb8 ms0, rowR 9 1 rv rw.length (rw.map Value.string)]) (0, m / 2, [], [], [], [], 0, .slice none 0 0, ([] : List ByteArray)) (⟨Nat.zero_le _, OnceI.new (by omega), Nat.le_refl _, Nat.le_refl _⟩) (subB_eq (l := [0, 1, 5, 7, 6]) (by kernel_rfl)) (fun w hw => hw.pickB [0, 1, 2, 3, 4, 5, 6] (by kernel_rfl) (by kernel_rfl) (by kernel_rfl)) ?_
        rintro ⟨k, t0, ns0, cs0, gs0, ms0, n0, rv, rw⟩ hL9
        try dsimp only at hL9 ⊢
        obtain ⟨hk, hI, hn, hrl⟩ := hL9
        have hIn := hI.i.nums
        refine Cd.fact (i := 6) (R := rowR 9 1 rv rw.length (rw.map Value.string)) (by kernel_rfl) row_slice ?_; rintro ⟨a10, c11, rfl, hc11, hc11'⟩
        refine Cd.seq ?_
        refine Cd.seq ?_
        refine Cd.region rfl ?_
        refine Sq.vals [0, 1, 2, 3] (rest := []) [iV (k : Int), .slice a xs.length cap, iV (xs.length : Int), bV (decide ((k : Int) < (xs.length : Int)))] (fun w => by kernel_rfl) ?_
        refine Sq.done ?_
        refine Ex'.next ?_
        refine Cd.case (p := (k : Int) < (xs.length : Int)) (by kernel_rfl) (fun h12 => ?_) (fun h12 => ?_)
        ·
          obtain ⟨g13, off14, rfl⟩ := hs.addr (by omega)
          obtain ⟨kyk, hgk, hwk, hrk⟩ := hs.at (k := k) (by omega)
          refine Cd.skip ?_
          refine Ex'.next ?_
          refine Cd.seq ?_
          refine Cd.block ?_
          refine Cd.seq ?_
          refine Cd.seq ?_
          refine Cd.region rfl ?_
          refine Sq.vals [0, 1] (rest := [2, 3, 4, 5]) [.slice (some ⟨g13, off14, none⟩) xs.length cap, iV (k : Int)] (fun w => by kernel_rfl) ?_
          refine Sq.v (r := pV g13 (off14 + k)) (o_idx (b := g13) (cap := cap) (e := 9) (off := off14) (n := xs.length) (kd := .i64) (q := (k : Int)) (i := k) (size := 1) (j := off14 + k) (by kernel_rfl) (by kernel_rfl) (by rfl) (by omega) Try.underlying22 (by kernel_rfl) (by omega)) rfl (by kernel_rfl) ?_
          refine Sq.same [0] (l := [oldR w0]) (o_loadOld (b := g13) (j := off14 + k) (u := sV kyk) (by kernel_rfl) (by kernel_rfl) (hrk 0 _ rfl)) (by kernel_rfl) rfl (by kernel_rfl) rfl ?_
          refine Sq.vals [4, 5] (rest := []) [iV (kyk.size : Int), bV (decide ((kyk.size : Int) > 200))] (fun w => by kernel_rfl) ?_
          refine Sq.done ?_
          refine Ex'.next ?_
          refine Cd.case (p := (kyk.size : Int) > 200) (by kernel_rfl) (fun h15 => ?_) (fun h15 => ?_)
          ·
            refine Cd.seq ?_
            refine Cd.region rfl ?_
            refine Sq.vals [0] (rest := []) [bV true] (fun w => by kernel_rfl) ?_
            refine Sq.done ?_
            refine Ex'.next ?_
            refine Cd.ret ?_
            refine Ex'.thenRet ?_
            refine Ex'.blockRet ?_
            refine Ex'.thenRet ?_
            refine Ex'.thenRet ?_
            refine Ex'.blockRet ?_
            refine Ex'.thenRet ?_
            refine Ex'.ret Try.results10 (RVs.tmp (v := bV true) (by kernel_rfl) (RVs.nil)) (fun w hw => ?_)
            exact ⟨_, ⟨rfl, by kernel_rfl⟩, hw⟩
          ·
            refine Cd.skip ?_
            refine Ex'.next ?_
            refine Cd.seq ?_
            refine Cd.seq ?_
            refine Cd.region rfl ?_
            refine Sq.vals [0, 1, 2] (rest := [3, 4, 5]) [.slice a10 rw.length c11, .slice (some ⟨g13, off14, none⟩) xs.length cap, iV (k : Int)] (fun w => by kernel_rfl) ?_
            refine Sq.v (r := pV g13 (off14 + k)) (o_idx (b := g13) (cap := cap) (e := 9) (off := off14) (n := xs.length) (kd := .i64) (q := (k : Int)) (i := k) (size := 1) (j := off14 + k) (by kernel_rfl) (by kernel_rfl) (by rfl) (by omega) Try.underlying22 (by kernel_rfl) (by omega)) rfl (by kernel_rfl) ?_
            refine Sq.same [0] (l := [oldR w0]) (o_loadOld (b := g13) (j := off14 + k) (u := sV kyk) (by kernel_rfl) (by kernel_rfl) (hrk 0 _ rfl)) (by kernel_rfl) rfl (by kernel_rfl) rfl ?_
            refine Sq.same [6] (l := [rowR 9 1 (.slice a10 rw.length c11) rw.length (rw.map Value.string)]) (o_call (by kernel_rfl) Try.call20 (t_has03 (l := [rowR 9 1 (.slice a10 rw.length c11) rw.length (rw.map Value.string)]) (xs := rw) kyk (fun w own hH => ⟨_, Row.strs (hH 0 _ rfl)⟩))) (by kernel_rfl) rfl (by kernel_rfl) rfl ?_
            refine Sq.done ?_
            refine Ex'.next ?_
            refine Cd.case (p := kyk ∈ rw) (by kernel_rfl) (fun h16 => ?_) (fun h16 => ?_)
            ·
              refine Cd.exit ?_
              refine Ex'.thenExit ?_
              refine Ex'.blockHit ?_
              refine Ex'.next ?_
              refine Cd.region rfl ?_
              refine Sq.vals [0] (rest := [1, 2]) [iV (k : Int)] (fun w => by kernel_rfl) ?_
              refine Sq.v (r := iV ((k : Int) + 1)) (o_add (k := .i64) (a := (k : Int)) (b := 1) (c := (k : Int) + 1) (by kernel_rfl) (by kernel_rfl) (w64 rfl (by omega))) rfl (by kernel_rfl) ?_
              refine Sq.vals [2] (rest := []) [iV ((k : Int) + 1)] (fun w => by kernel_rfl) ?_
              refine Sq.done ?_
              refine Ex'.round (g := (k, t0, ns0, cs0, gs0, ms0, n0, .slice a10 rw.length c11, rw)) (k + 1, t0, ns0, cs0, gs0, ms0, n0, .slice a10 rw.length c11, rw) ?_ ?_ (subB_eq (l := [0, 1, 5, 7, 6]) (by kernel_rfl)) (fun w hw => hw.pickB [0, 1, 2, 3, 4, 5, 6] (by kernel_rfl) (by kernel_rfl) (by kernel_rfl))
              · exact ⟨by omega, hI, by dsimp only; omega, by first | omega | (simp only [List.length_append, List.length_singleton]; omega)⟩
              · omega
            ·
              refine Cd.skip ?_
              refine Ex'.next ?_
              refine Cd.seq ?_
              refine Cd.region rfl ?_
              refine Sq.vals [0, 1, 2] (rest := [3, 4, 5, 6, 7]) [.slice a10 rw.length c11, .slice (some ⟨g13, off14, none⟩) xs.length cap, iV (k : Int)] (fun w => by kernel_rfl) ?_
              refine Sq.v (r := pV g13 (off14 + k)) (o_idx (b := g13) (cap := cap) (e := 9) (off := off14) (n := xs.length) (kd := .i64) (q := (k : Int)) (i := k) (size := 1) (j := off14 + k) (by kernel_rfl) (by kernel_rfl) (by rfl) (by omega) Try.underlying22 (by kernel_rfl) (by omega)) rfl (by kernel_rfl) ?_
              refine Sq.same [0] (l := [oldR w0]) (o_loadOld (b := g13) (j := off14 + k) (u := sV kyk) (by kernel_rfl) (by kernel_rfl) (hrk 0 _ rfl)) (by kernel_rfl) rfl (by kernel_rfl) rfl ?_
              refine Sq.ex [] (l := []) (o_lit (sz := 1) (sV ⟨#[]⟩) [sV kyk] Try.underlying22 (by kernel_rfl) (by kernel_rfl) (by kernel_rfl) (by kernel_rfl) (by kernel_rfl)) (by kernel_rfl) rfl (by kernel_rfl) (fun _ => Nat.zero_le _) ?_; intro b17 _
              refine Sq.ex [6, 7] (l := [rowR 9 1 (.slice a10 rw.length c11) rw.length (rw.map Value.string), blkR b17 [sV kyk] 9]) (o_push (n' := (rw ++ [kyk]).length) (xs' := (rw ++ [kyk]).map Value.string) (by kernel_rfl) (by kernel_rfl) sl_str (by decide) rfl (by kernel_rfl) (by unfold maxLen; omega) (by omega) (by simp) (by simp)) (by kernel_rfl) rfl (by kernel_rfl) (fun _ => Nat.le_of_ble_eq_true (by kernel_rfl)) ?_; rintro v18 _
              refine Sq.fact (i := 6) (R := rowR 9 1 v18 ((rw ++ [kyk]).length) ((rw ++ [kyk]).map Value.string)) (by kernel_rfl) row_slice ?_; rintro ⟨a19, c20, rfl, hc20, hc20'⟩
              have hlen21 : (rw ++ [kyk]).length = rw.length + 1 := by simp
              refine Sq.fact (i := 6) (R := rowR 9 1 (.slice a19 ((rw ++ [kyk]).length) c20) ((rw ++ [kyk]).length) ((rw ++ [kyk]).map Value.string)) (by kernel_rfl) (row_addr (by simp)) ?_; rintro ⟨b22, rfl⟩
              refine Sq.vals [7] (rest := []) [.slice (some ⟨b22, 0, none⟩) ((rw ++ [kyk]).length) c20] (fun w => by kernel_rfl) ?_
              refine Sq.done ?_
              refine Ex'.next ?_
              refine Cd.seq ?_
              refine Cd.region rfl ?_
              refine Sq.vals [0, 1, 2] (rest := [3, 4, 5, 6, 7]) [pV b4 0, .slice (some ⟨g13, off14, none⟩) xs.length cap, iV (k : Int)] (fun w => by kernel_rfl) ?_
              refine Sq.v (r := pV g13 (off14 + k)) (o_idx (b := g13) (cap := cap) (e := 9) (off := off14) (n := xs.length) (kd := .i64) (q := (k : Int)) (i := k) (size := 1) (j := off14 + k) (by kernel_rfl) (by kernel_rfl) (by rfl) (by omega) Try.underlying22 (by kernel_rfl) (by omega)) rfl (by kernel_rfl) ?_
              refine Sq.same [0] (l := [oldR w0]) (o_loadOld (b := g13) (j := off14 + k) (u := sV kyk) (by kernel_rfl) (by kernel_rfl) (hrk 0 _ rfl)) (by kernel_rfl) rfl (by kernel_rfl) rfl ?_
              refine Sq.same [1, 2, 3, 4, 5] (l := srlL b4 nb5 ab6 gb7 mb8 m t0 ns0 cs0 gs0 ms0 n0) (o_call (by kernel_rfl) Try.call37 (srl_Request (n := n0) (n' := n0 + cs0.length + 3) (most := m) (target := t0) (ns := ns0) (cs := cs0) (gs := gs0) (ms := ms0) kyk (by omega) (by omega) (by omega) (by omega))) (by kernel_rfl) rfl (by kernel_rfl) rfl ?_
              generalize hxx23 : srlReq m t0 ns0 cs0 gs0 ms0 kyk = x23
              obtain ⟨hI2, hhit, hout, hvic⟩ := OnceI.step hI (by omega) h16 hxx23
              have hIn2 := hI2.i.nums
              refine Sq.ex [] (l := []) (o_new [bV false, sV ⟨#[]⟩, bV false] (fun w => by kernel_rfl)) (by kernel_rfl) rfl (by kernel_rfl) (fun _ => Nat.zero_le _) ?_; intro b24 _
              refine Sq.same [8] (l := [blkR b24 [bV false, sV ⟨#[]⟩, bV false] 27]) (o_store (i := 0) (v := .agg #[bV x23.2.2.2.2.2.1, sV x23.2.2.2.2.2.2.1, bV x23.2.2.2.2.2.2.2]) (by kernel_rfl) (by kernel_rfl) (by kernel_rfl) (by kernel_rfl) (by kernel_rfl)) (by kernel_rfl) rfl (by kernel_rfl) rfl ?_
              refine Sq.done ?_
              refine Ex'.next ?_
              refine Cd.seq ?_
              rcases Bool.eq_false_or_eq_true (x23.2.2.2.2.2.2.2) with h25 | h25
              ·
                obtain ⟨hv1, hv2⟩ := hvic h25
                refine Cd.plan (0 :: 1 :: 3 :: 7 :: 15 :: 7 :: 39 :: 7 :: 231 :: 511 :: 1023 :: 2047 :: 4095 :: 8191 :: 16383 :: 32767 :: 65535 :: 32767 :: 32767 :: 294911 :: 819199 :: 32767 :: 3964927 :: 8290303 :: 16678911 :: 33554431 :: 67108863 :: 134217727 :: 268435455 :: 536870911 :: 1073741823 :: 2147483647 :: 4294967295 :: 8589934591 :: 17179869183 :: 34359738367 :: 17179869183 :: 85899345919 :: 274877906943 :: 549755813887 :: []) [(1, [(8, false, 0)]), (4, [(8, false, 0)]), (13, [(8, false, 0)]), (16, [(8, false, 0)]), (24, [(6, false, 0)]), (30, [(1, false, 0), (2, false, 0), (3, false, 0), (4, false, 0), (5, false, 0)]), (35, [(1, false, 0), (2, false, 0), (3, false, 0), (4, false, 0), (5, false, 0)])] [] [] [] ((fun g => pV b24 0) :: (fun g => bV x23.2.2.2.2.2.1) :: (fun g => bV false) :: (fun g => pV b24 2) :: (fun g => bV x23.2.2.2.2.2.2.2) :: (fun g => .slice (some ⟨b22, 0, none⟩) ((rw ++ [kyk]).length) c20) :: (fun g => iV ((rw ++ [kyk]).length : Int)) :: (fun g => iV m) :: (fun g => bV (decide (((rw ++ [kyk]).length : Int) > m))) :: (fun g => bV false) :: (fun g => bV false) :: (fun g => bV false) :: (fun g => pV b24 2) :: (fun g => bV x23.2.2.2.2.2.2.2) :: (fun g => bV true) :: (fun g => pV b24 1) :: (fun g => sV x23.2.2.2.2.2.2.1) :: (fun g => .slice (some ⟨b22, 0, none⟩) ((rw ++ [kyk]).length) c20) :: (fun g => .slice (some ⟨b22, 0, none⟩) ((rw ++ [kyk]).length) c20) :: (fun g => iV ((rw ++ [kyk]).length : Int)) :: (fun g => iV (((rw ++ [kyk]).length : Int) - 1)) :: (fun g => iV m) :: (fun g => iV ((((rw ++ [kyk]).length : Int) - 1) - m)) :: (fun g => pV b22 (rw.length - m.toNat)) :: (fun g => sV ((rw ++ [kyk]).getD (rw.length - m.toNat) ⟨#[]⟩)) :: (fun g => bV false) :: (fun g => bV false) :: (fun g => bV false) :: (fun g => bV false) :: (fun g => pV b4 0) :: (fun g => iV (x23.2.2.1.length : Int)) :: (fun g => bV false) :: (fun g => bV false) :: (fun g => bV false) :: (fun g => pV b4 0) :: (fun g => iV x23.1) :: (fun g => iV m) :: (fun g => iV (m / 2)) :: (fun g => bV false) :: (fun g => bV false) :: []) (by kernel_rfl) (by kernel_rfl) rfl (trivial) ?_ ?_
                · exact ⟨ob_val fun g w => by kernel_rfl, ob_s (l := fun g => [blkR b24 [bV x23.2.2.2.2.2.1, sV x23.2.2.2.2.2.2.1, bV x23.2.2.2.2.2.2.2] 27]) (l' := fun g => [blkR b24 [bV x23.2.2.2.2.2.1, sV x23.2.2.2.2.2.2.1, bV x23.2.2.2.2.2.2.2] 27]) (v := fun g => bV x23.2.2.2.2.2.1) (fun g => o_load (i := 0) (v := bV x23.2.2.2.2.2.1) (by kernel_rfl) (by kernel_rfl) (by kernel_rfl)) (fun g => by kernel_rfl), ob_v (v := fun g => bV false) (fun g => OprV.re (pureV (v := bV x23.2.2.2.2.2.1) (by kernel_rfl) rfl fun w => by kernel_rfl) (congrArg Value.bool hhit)) (fun g => by kernel_rfl), ob_val fun g w => by kernel_rfl, ob_s (l := fun g => [blkR b24 [bV x23.2.2.2.2.2.1, sV x23.2.2.2.2.2.2.1, bV x23.2.2.2.2.2.2.2] 27]) (l' := fun g => [blkR b24 [bV x23.2.2.2.2.2.1, sV x23.2.2.2.2.2.2.1, bV x23.2.2.2.2.2.2.2] 27]) (v := fun g => bV x23.2.2.2.2.2.2.2) (fun g => o_load (i := 2) (v := bV x23.2.2.2.2.2.2.2) (by kernel_rfl) (by kernel_rfl) (by kernel_rfl)) (fun g => by kernel_rfl), ob_val fun g w => by kernel_rfl, ob_val fun g w => by kernel_rfl, ob_val fun g w => by kernel_rfl, ob_val fun g w => by kernel_rfl, ob_v (v := fun g => bV false) (fun g => OprV.re (pureV (v := bV (!(x23.2.2.2.2.2.2.2 == (decide (((rw ++ [kyk]).length : Int) > m))))) (by kernel_rfl) rfl fun w => by kernel_rfl) (congrArg Value.bool (by rw [hout]; simp))) (fun g => by kernel_rfl), ob_val fun g w => by kernel_rfl, ob_val fun g w => by kernel_rfl, ob_val fun g w => by kernel_rfl, ob_s (l := fun g => [blkR b24 [bV x23.2.2.2.2.2.1, sV x23.2.2.2.2.2.2.1, bV x23.2.2.2.2.2.2.2] 27]) (l' := fun g => [blkR b24 [bV x23.2.2.2.2.2.1, sV x23.2.2.2.2.2.2.1, bV x23.2.2.2.2.2.2.2] 27]) (v := fun g => bV x23.2.2.2.2.2.2.2) (fun g => o_load (i := 2) (v := bV x23.2.2.2.2.2.2.2) (by kernel_rfl) (by kernel_rfl) (by kernel_rfl)) (fun g => by kernel_rfl), ob_v (v := fun g => bV true) (fun g => OprV.re (pureV (v := bV x23.2.2.2.2.2.2.2) (by kernel_rfl) rfl fun w => by kernel_rfl) (congrArg Value.bool h25)) (fun g => by kernel_rfl), ob_val fun g w => by kernel_rfl, ob_s (l := fun g => [blkR b24 [bV x23.2.2.2.2.2.1, sV x23.2.2.2.2.2.2.1, bV x23.2.2.2.2.2.2.2] 27]) (l' := fun g => [blkR b24 [bV x23.2.2.2.2.2.1, sV x23.2.2.2.2.2.2.1, bV x23.2.2.2.2.2.2.2] 27]) (v := fun g => sV x23.2.2.2.2.2.2.1) (fun g => o_load (i := 1) (v := sV x23.2.2.2.2.2.2.1) (by kernel_rfl) (by kernel_rfl) (by kernel_rfl)) (fun g => by kernel_rfl), ob_val fun g w => by kernel_rfl, ob_val fun g w => by kernel_rfl, ob_val fun g w => by kernel_rfl, ob_v (v := fun g => iV (((rw ++ [kyk]).length : Int) - 1)) (fun g => o_sub (k := .i64) (a := ((rw ++ [kyk]).length : Int)) (b := 1) (c := ((rw ++ [kyk]).length : Int) - 1) (by kernel_rfl) (by kernel_rfl) (w64 rfl (by omega))) (fun g => by kernel_rfl), ob_val fun g w => by kernel_rfl, ob_v (v := fun g => iV ((((rw ++ [kyk]).length : Int) - 1) - m)) (fun g => o_sub (k := .i64) (a := ((rw ++ [kyk]).length : Int) - 1) (b := m) (c := (((rw ++ [kyk]).length : Int) - 1) - m) (by kernel_rfl) (by kernel_rfl) (w64 rfl (by omega))) (fun g => by kernel_rfl), ob_v (v := fun g => pV b22 (rw.length - m.toNat)) (fun g => o_idx (b := b22) (cap := c20) (e := 9) (off := 0) (n := (rw ++ [kyk]).length) (kd := .i64) (q := (((rw ++ [kyk]).length : Int) - 1) - m) (i := rw.length - m.toNat) (size := 1) (j := rw.length - m.toNat) (by kernel_rfl) (by kernel_rfl) (by simp only [List.length_append, List.length_singleton]; omega) (by omega) Try.underlying22 (by kernel_rfl) (by omega)) (fun g => by kernel_rfl), ob_s (l := fun g => [rowR 9 1 (.slice (some ⟨b22, 0, none⟩) ((rw ++ [kyk]).length) c20) ((rw ++ [kyk]).length) ((rw ++ [kyk]).map Value.string)]) (l' := fun g => [rowR 9 1 (.slice (some ⟨b22, 0, none⟩) ((rw ++ [kyk]).length) c20) ((rw ++ [kyk]).length) ((rw ++ [kyk]).map Value.string)]) (v := fun g => sV ((rw ++ [kyk]).getD (rw.length - m.toNat) ⟨#[]⟩)) (fun g => o_loadRow (i := rw.length - m.toNat) (u := sV ((rw ++ [kyk]).getD (rw.length - m.toNat) ⟨#[]⟩)) (by kernel_rfl) (by omega) (by kernel_rfl) (get_map (by omega))) (fun g => by kernel_rfl), ob_v (v := fun g => bV false) (fun g => OprV.re (o_neS (a := x23.2.2.2.2.2.2.1) (b := (rw ++ [kyk]).getD (rw.length - m.toNat) ⟨#[]⟩) (by kernel_rfl) (by kernel_rfl)) (vF (fun z => z hv1))) (fun g => by kernel_rfl), ob_val fun g w => by kernel_rfl, ob_val fun g w => by kernel_rfl, ob_val fun g w => by kernel_rfl, ob_val fun g w => by kernel_rfl, ob_s (l := fun g => [srlB b4 nb5 ab6 gb7 mb8 m x23.1, llR nb5 x23.2.1 (n0 + cs0.length + 3), llR ab6 x23.2.2.1 (n0 + cs0.length + 3), llR gb7 x23.2.2.2.1 (n0 + cs0.length + 3), mapR Value.string markV mb8 x23.2.2.2.2.1]) (l' := fun g => [srlB b4 nb5 ab6 gb7 mb8 m x23.1, llR nb5 x23.2.1 (n0 + cs0.length + 3), llR ab6 x23.2.2.1 (n0 + cs0.length + 3), llR gb7 x23.2.2.2.1 (n0 + cs0.length + 3), mapR Value.string markV mb8 x23.2.2.2.2.1]) (v := fun g => iV (x23.2.2.1.length : Int)) (fun g => o_call (by kernel_rfl) Try.call39 (Tri.eq (l2 := srlL b4 nb5 ab6 gb7 mb8 m x23.1 x23.2.1 x23.2.2.1 x23.2.2.2.1 x23.2.2.2.2.1 (n0 + cs0.length + 3)) (r' := iV (x23.2.2.1.length : Int)) (srl_Again (n := n0 + cs0.length + 3) (most := m) (target := x23.1) (ns := x23.2.1) (cs := x23.2.2.1) (gs := x23.2.2.2.1) (ms := x23.2.2.2.2.1) (by omega)) (rfl) (rfl))) (fun g => by kernel_rfl), ob_v (v := fun g => bV false) (fun g => OprV.re (o_neI (k := .i64) (a := (x23.2.2.1.length : Int)) (b := 0) (by kernel_rfl) (by kernel_rfl)) (vF (by simp [hI2.no]))) (fun g => by kernel_rfl), ob_val fun g w => by kernel_rfl, ob_val fun g w => by kernel_rfl, ob_val fun g w => by kernel_rfl, ob_s (l := fun g => [srlB b4 nb5 ab6 gb7 mb8 m x23.1, llR nb5 x23.2.1 (n0 + cs0.length + 3), llR ab6 x23.2.2.1 (n0 + cs0.length + 3), llR gb7 x23.2.2.2.1 (n0 + cs0.length + 3), mapR Value.string markV mb8 x23.2.2.2.2.1]) (l' := fun g => [srlB b4 nb5 ab6 gb7 mb8 m x23.1, llR nb5 x23.2.1 (n0 + cs0.length + 3), llR ab6 x23.2.2.1 (n0 + cs0.length + 3), llR gb7 x23.2.2.2.1 (n0 + cs0.length + 3), mapR Value.string markV mb8 x23.2.2.2.2.1]) (v := fun g => iV x23.1) (fun g => o_call (by kernel_rfl) Try.call43 (Tri.eq (l2 := srlL b4 nb5 ab6 gb7 mb8 m x23.1 x23.2.1 x23.2.2.1 x23.2.2.2.1 x23.2.2.2.2.1 (n0 + cs0.length + 3)) (r' := iV x23.1) (srl_Target (n := n0 + cs0.length + 3) (most := m) (target := x23.1) (ns := x23.2.1) (cs := x23.2.2.1) (gs := x23.2.2.2.1) (ms := x23.2.2.2.2.1) (by omega)) (rfl) (rfl))) (fun g => by kernel_rfl), ob_val fun g w => by kernel_rfl, ob_v (v := fun g => iV (m / 2)) (fun g => o_quo (k := .i64) (a := m) (b := 2) (c := m / 2) (by kernel_rfl) (by kernel_rfl) (by decide) (w64 (Int.tdiv_eq_ediv_of_nonneg (by omega)) (by omega))) (fun g => by kernel_rfl), ob_v (v := fun g => bV false) (fun g => OprV.re (o_neI (k := .i64) (a := x23.1) (b := m / 2) (by kernel_rfl) (by kernel_rfl)) (vF (fun z => z hI2.half))) (fun g => by kernel_rfl), ob_val fun g w => by kernel_rfl, trivial⟩
                intro g
                refine Ex'.sub (subB_spec [0, 1, 5, 7, 6, 96]) ?_
                refine Ex'.as [0, 1, 2, 3, 4, 5, 6, 7, 8] (σ' := [(0, iV m), (1, .slice (some ⟨g13, off14, none⟩) xs.length cap), (5, pV b4 0), (7, iV (k : Int)), (6, .slice (some ⟨b22, 0, none⟩) ((rw ++ [kyk]).length) c20), (96, bV false)]) (Γ' := [oldR w0, srlB b4 nb5 ab6 gb7 mb8 m x23.1, llR nb5 x23.2.1 (n0 + cs0.length + 3), llR ab6 x23.2.2.1 (n0 + cs0.length + 3), llR gb7 x23.2.2.2.1 (n0 + cs0.length + 3), mapR Value.string markV mb8 x23.2.2.2.2.1, rowR 9 1 (.slice (some ⟨b22, 0, none⟩) ((rw ++ [kyk]).length) c20) ((rw ++ [kyk]).length) ((rw ++ [kyk]).map Value.string), blkR b17 [sV kyk] 9, blkR b24 [bV x23.2.2.2.2.2.1, sV x23.2.2.2.2.2.2.1, bV x23.2.2.2.2.2.2.2] 27]) (by kernel_rfl) rfl (by kernel_rfl) (by kernel_rfl) ?_
                refine Ex'.next ?_
                refine Cd.condF (by kernel_rfl) ?_
                refine Cd.skip ?_
                refine Ex'.blockNormal ?_
                refine Ex'.next ?_
                refine Cd.region rfl ?_
                refine Sq.vals [0] (rest := [1, 2]) [iV (k : Int)] (fun w => by kernel_rfl) ?_
                refine Sq.v (r := iV ((k : Int) + 1)) (o_add (k := .i64) (a := (k : Int)) (b := 1) (c := (k : Int) + 1) (by kernel_rfl) (by kernel_rfl) (w64 rfl (by omega))) rfl (by kernel_rfl) ?_
                refine Sq.vals [2] (rest := []) [iV ((k : Int) + 1)] (fun w => by kernel_rfl) ?_
                refine Sq.done ?_
                refine Ex'.round (g := (k, t0, ns0, cs0, gs0, ms0, n0, .slice a10 rw.length c11, rw)) (k + 1, x23.1, x23.2.1, x23.2.2.1, x23.2.2.2.1, x23.2.2.2.2.1, n0 + cs0.length + 3, .slice (some ⟨b22, 0, none⟩) ((rw ++ [kyk]).length) c20, rw ++ [kyk]) ?_ ?_ (subB_eq (l := [0, 1, 5, 7, 6]) (by kernel_rfl)) (fun w hw => hw.pickB [0, 1, 2, 3, 4, 5, 6] (by kernel_rfl) (by kernel_rfl) (by kernel_rfl))
                · exact ⟨by omega, hI2, by dsimp only; omega, by first | omega | (simp only [List.length_append, List.length_singleton]; omega)⟩
                · omega
              ·
                refine Cd.plan (0 :: 1 :: 3 :: 7 :: 15 :: 7 :: 39 :: 7 :: 231 :: 511 :: 1023 :: 2047 :: 4095 :: 8191 :: 16383 :: 32767 :: 65535 :: 32767 :: 32767 :: 294911 :: 819199 :: 32767 :: 3964927 :: 8290303 :: 16678911 :: 33554431 :: 67108863 :: 134217727 :: 268435455 :: 536870911 :: 1073741823 :: 2147483647 :: 4294967295 :: 8589934591 :: 17179869183 :: 34359738367 :: 17179869183 :: 85899345919 :: 274877906943 :: 549755813887 :: []) [(1, [(8, false, 0)]), (4, [(8, false, 0)]), (13, [(8, false, 0)]), (30, [(1, false, 0), (2, false, 0), (3, false, 0), (4, false, 0), (5, false, 0)]), (35, [(1, false, 0), (2, false, 0), (3, false, 0), (4, false, 0), (5, false, 0)])] [] [] [] ((fun g => pV b24 0) :: (fun g => bV x23.2.2.2.2.2.1) :: (fun g => bV false) :: (fun g => pV b24 2) :: (fun g => bV x23.2.2.2.2.2.2.2) :: (fun g => .slice (some ⟨b22, 0, none⟩) ((rw ++ [kyk]).length) c20) :: (fun g => iV ((rw ++ [kyk]).length : Int)) :: (fun g => iV m) :: (fun g => bV (decide (((rw ++ [kyk]).length : Int) > m))) :: (fun g => bV false) :: (fun g => bV false) :: (fun g => bV false) :: (fun g => pV b24 2) :: (fun g => bV x23.2.2.2.2.2.2.2) :: (fun g => bV false) :: (fun g => undef) :: (fun g => undef) :: (fun g => undef) :: (fun g => undef) :: (fun g => undef) :: (fun g => undef) :: (fun g => undef) :: (fun g => undef) :: (fun g => undef) :: (fun g => undef) :: (fun g => undef) :: (fun g => bV false) :: (fun g => bV false) :: (fun g => bV false) :: (fun g => pV b4 0) :: (fun g => iV (x23.2.2.1.length : Int)) :: (fun g => bV false) :: (fun g => bV false) :: (fun g => bV false) :: (fun g => pV b4 0) :: (fun g => iV x23.1) :: (fun g => iV m) :: (fun g => iV (m / 2)) :: (fun g => bV false) :: (fun g => bV false) :: []) (by kernel_rfl) (by kernel_rfl) rfl (trivial) ?_ ?_
                · exact ⟨ob_val fun g w => by kernel_rfl, ob_s (l := fun g => [blkR b24 [bV x23.2.2.2.2.2.1, sV x23.2.2.2.2.2.2.1, bV x23.2.2.2.2.2.2.2] 27]) (l' := fun g => [blkR b24 [bV x23.2.2.2.2.2.1, sV x23.2.2.2.2.2.2.1, bV x23.2.2.2.2.2.2.2] 27]) (v := fun g => bV x23.2.2.2.2.2.1) (fun g => o_load (i := 0) (v := bV x23.2.2.2.2.2.1) (by kernel_rfl) (by kernel_rfl) (by kernel_rfl)) (fun g => by kernel_rfl), ob_v (v := fun g => bV false) (fun g => OprV.re (pureV (v := bV x23.2.2.2.2.2.1) (by kernel_rfl) rfl fun w => by kernel_rfl) (congrArg Value.bool hhit)) (fun g => by kernel_rfl), ob_val fun g w => by kernel_rfl, ob_s (l := fun g => [blkR b24 [bV x23.2.2.2.2.2.1, sV x23.2.2.2.2.2.2.1, bV x23.2.2.2.2.2.2.2] 27]) (l' := fun g => [blkR b24 [bV x23.2.2.2.2.2.1, sV x23.2.2.2.2.2.2.1, bV x23.2.2.2.2.2.2.2] 27]) (v := fun g => bV x23.2.2.2.2.2.2.2) (fun g => o_load (i := 2) (v := bV x23.2.2.2.2.2.2.2) (by kernel_rfl) (by kernel_rfl) (by kernel_rfl)) (fun g => by kernel_rfl), ob_val fun g w => by kernel_rfl, ob_val fun g w => by kernel_rfl, ob_val fun g w => by kernel_rfl, ob_val fun g w => by kernel_rfl, ob_v (v := fun g => bV false) (fun g => OprV.re (pureV (v := bV (!(x23.2.2.2.2.2.2.2 == (decide (((rw ++ [kyk]).length : Int) > m))))) (by kernel_rfl) rfl fun w => by kernel_rfl) (congrArg Value.bool (by rw [hout]; simp))) (fun g => by kernel_rfl), ob_val fun g w => by kernel_rfl, ob_val fun g w => by kernel_rfl, ob_val fun g w => by kernel_rfl, ob_s (l := fun g => [blkR b24 [bV x23.2.2.2.2.2.1, sV x23.2.2.2.2.2.2.1, bV x23.2.2.2.2.2.2.2] 27]) (l' := fun g => [blkR b24 [bV x23.2.2.2.2.2.1, sV x23.2.2.2.2.2.2.1, bV x23.2.2.2.2.2.2.2] 27]) (v := fun g => bV x23.2.2.2.2.2.2.2) (fun g => o_load (i := 2) (v := bV x23.2.2.2.2.2.2.2) (by kernel_rfl) (by kernel_rfl) (by kernel_rfl)) (fun g => by kernel_rfl), ob_v (v := fun g => bV false) (fun g => OprV.re (pureV (v := bV x23.2.2.2.2.2.2.2) (by kernel_rfl) rfl fun w => by kernel_rfl) (congrArg Value.bool h25)) (fun g => by kernel_rfl), ob_val fun g w => by kernel_rfl, ob_val fun g w => by kernel_rfl, ob_val fun g w => by kernel_rfl, ob_val fun g w => by kernel_rfl, ob_val fun g w => by kernel_rfl, ob_val fun g w => by kernel_rfl, ob_val fun g w => by kernel_rfl, ob_val fun g w => by kernel_rfl, ob_val fun g w => by kernel_rfl, ob_val fun g w => by kernel_rfl, ob_val fun g w => by kernel_rfl, ob_val fun g w => by kernel_rfl, ob_val fun g w => by kernel_rfl, ob_val fun g w => by kernel_rfl, ob_val fun g w => by kernel_rfl, ob_s (l := fun g => [srlB b4 nb5 ab6 gb7 mb8 m x23.1, llR nb5 x23.2.1 (n0 + cs0.length + 3), llR ab6 x23.2.2.1 (n0 + cs0.length + 3), llR gb7 x23.2.2.2.1 (n0 + cs0.length + 3), mapR Value.string markV mb8 x23.2.2.2.2.1]) (l' := fun g => [srlB b4 nb5 ab6 gb7 mb8 m x23.1, llR nb5 x23.2.1 (n0 + cs0.length + 3), llR ab6 x23.2.2.1 (n0 + cs0.length + 3), llR gb7 x23.2.2.2.1 (n0 + cs0.length + 3), mapR Value.string markV mb8 x23.2.2.2.2.1]) (v := fun g => iV (x23.2.2.1.length : Int)) (fun g => o_call (by kernel_rfl) Try.call39 (Tri.eq (l2 := srlL b4 nb5 ab6 gb7 mb8 m x23.1 x23.2.1 x23.2.2.1 x23.2.2.2.1 x23.2.2.2.2.1 (n0 + cs0.length + 3)) (r' := iV (x23.2.2.1.length : Int)) (srl_Again (n := n0 + cs0.length + 3) (most := m) (target := x23.1) (ns := x23.2.1) (cs := x23.2.2.1) (gs := x23.2.2.2.1) (ms := x23.2.2.2.2.1) (by omega)) (rfl) (rfl))) (fun g => by kernel_rfl), ob_v (v := fun g => bV false) (fun g => OprV.re (o_neI (k := .i64) (a := (x23.2.2.1.length : Int)) (b := 0) (by kernel_rfl) (by kernel_rfl)) (vF (by simp [hI2.no]))) (fun g => by kernel_rfl), ob_val fun g w => by kernel_rfl, ob_val fun g w => by kernel_rfl, ob_val fun g w => by kernel_rfl, ob_s (l := fun g => [srlB b4 nb5 ab6 gb7 mb8 m x23.1, llR nb5 x23.2.1 (n0 + cs0.length + 3), llR ab6 x23.2.2.1 (n0 + cs0.length + 3), llR gb7 x23.2.2.2.1 (n0 + cs0.length + 3), mapR Value.string markV mb8 x23.2.2.2.2.1]) (l' := fun g => [srlB b4 nb5 ab6 gb7 mb8 m x23.1, llR nb5 x23.2.1 (n0 + cs0.length + 3), llR ab6 x23.2.2.1 (n0 + cs0.length + 3), llR gb7 x23.2.2.2.1 (n0 + cs0.length + 3), mapR Value.string markV mb8 x23.2.2.2.2.1]) (v := fun g => iV x23.1) (fun g => o_call (by kernel_rfl) Try.call43 (Tri.eq (l2 := srlL b4 nb5 ab6 gb7 mb8 m x23.1 x23.2.1 x23.2.2.1 x23.2.2.2.1 x23.2.2.2.2.1 (n0 + cs0.length + 3)) (r' := iV x23.1) (srl_Target (n := n0 + cs0.length + 3) (most := m) (target := x23.1) (ns := x23.2.1) (cs := x23.2.2.1) (gs := x23.2.2.2.1) (ms := x23.2.2.2.2.1) (by omega)) (rfl) (rfl))) (fun g => by kernel_rfl), ob_val fun g w => by kernel_rfl, ob_v (v := fun g => iV (m / 2)) (fun g => o_quo (k := .i64) (a := m) (b := 2) (c := m / 2) (by kernel_rfl) (by kernel_rfl) (by decide) (w64 (Int.tdiv_eq_ediv_of_nonneg (by omega)) (by omega))) (fun g => by kernel_rfl), ob_v (v := fun g => bV false) (fun g => OprV.re (o_neI (k := .i64) (a := x23.1) (b := m / 2) (by kernel_rfl) (by kernel_rfl)) (vF (fun z => z hI2.half))) (fun g => by kernel_rfl), ob_val fun g w => by kernel_rfl, trivial⟩
                intro g
                refine Ex'.sub (subB_spec [0, 1, 5, 7, 6, 96]) ?_
                refine Ex'.as [0, 1, 2, 3, 4, 5, 6, 7, 8] (σ' := [(0, iV m), (1, .slice (some ⟨g13, off14, none⟩) xs.length cap), (5, pV b4 0), (7, iV (k : Int)), (6, .slice (some ⟨b22, 0, none⟩) ((rw ++ [kyk]).length) c20), (96, bV false)]) (Γ' := [oldR w0, srlB b4 nb5 ab6 gb7 mb8 m x23.1, llR nb5 x23.2.1 (n0 + cs0.length + 3), llR ab6 x23.2.2.1 (n0 + cs0.length + 3), llR gb7 x23.2.2.2.1 (n0 + cs0.length + 3), mapR Value.string markV mb8 x23.2.2.2.2.1, rowR 9 1 (.slice (some ⟨b22, 0, none⟩) ((rw ++ [kyk]).length) c20) ((rw ++ [kyk]).length) ((rw ++ [kyk]).map Value.string), blkR b17 [sV kyk] 9, blkR b24 [bV x23.2.2.2.2.2.1, sV x23.2.2.2.2.2.2.1, bV x23.2.2.2.2.2.2.2] 27]) (by kernel_rfl) rfl (by kernel_rfl) (by kernel_rfl) ?_
                refine Ex'.next ?_
                refine Cd.condF (by kernel_rfl) ?_
                refine Cd.skip ?_
                refine Ex'.blockNormal ?_
                refine Ex'.next ?_
                refine Cd.region rfl ?_
                refine Sq.vals [0] (rest := [1, 2]) [iV (k : Int)] (fun w => by kernel_rfl) ?_
                refine Sq.v (r := iV ((k : Int) + 1)) (o_add (k := .i64) (a := (k : Int)) (b := 1) (c := (k : Int) + 1) (by kernel_rfl) (by kernel_rfl) (w64 rfl (by omega))) rfl (by kernel_rfl) ?_
                refine Sq.vals [2] (rest := []) [iV ((k : Int) + 1)] (fun w => by kernel_rfl) ?_
                refine Sq.done ?_
                refine Ex'.round (g := (k, t0, ns0, cs0, gs0, ms0, n0, .slice a10 rw.length c11, rw)) (k + 1, x23.1, x23.2.1, x23.2.2.1, x23.2.2.2.1, x23.2.2.2.2.1, n0 + cs0.length + 3, .slice (some ⟨b22, 0, none⟩) ((rw ++ [kyk]).length) c20, rw ++ [kyk]) ?_ ?_ (subB_eq (l := [0, 1, 5, 7, 6]) (by kernel_rfl)) (fun w hw => hw.pickB [0, 1, 2, 3, 4, 5, 6] (by kernel_rfl) (by kernel_rfl) (by kernel_rfl))
                · exact ⟨by omega, hI2, by dsimp only; omega, by first | omega | (simp only [List.length_append, List.length_singleton]; omega)⟩
                · omega
        ·
          refine Cd.exit ?_
          refine Ex'.thenExit ?_
          refine Ex'.thenExit ?_
          refine Ex'.blockHit ?_
          refine Ex'.next ?_
          refine Cd.seq ?_
          refine Cd.plan [0, 1, 0, 0, 8, 0, 56, 120, 252, 511, 1023] [(1, [(1, false, 0), (2, false, 0), (3, false, 0), (4, false, 0), (5, false, 0)]), (9, [(8, false, 2), (6, false, 0)])] [1] [(1, fun _ => True)] [(8, 1, fun g => rowR 9 1 (g 1) (((cs0 ++ ns0).reverse).length) (((cs0 ++ ns0).reverse).map Value.string))] [fun g => pV b4 0, fun g => (g 1), fun g => .slice a10 rw.length c11, fun g => .slice a10 rw.length c11, fun g => iV (rw.length : Int), fun g => iV m, fun g => iV ((rw.length : Int) - m), fun g => iV (if (rw.length : Int) - m > 0 then (rw.length : Int) - m else 0), fun g => .slice (if c11 = rw.length - m.toNat then a10 else Option.map (fun y => y.add (rw.length - m.toNat)) a10) (rw.length - (rw.length - m.toNat)) (c11 - (rw.length - m.toNat)), fun g => bV (decide ((cs0 ++ ns0).reverse = rw.drop (rw.length - m.toNat))), fun g => bV (decide ((cs0 ++ ns0).reverse = rw.drop (rw.length - m.toNat)))] (by kernel_rfl) (by kernel_rfl) rfl (⟨⟨⟨fun _ _ => rfl, ⟨trivial, ⟨fun _ _ => rfl, ⟨fun _ _ => rfl, ⟨fun _ _ => rfl, ⟨fun _ _ => rfl, ⟨fun _ _ => rfl, ⟨fun _ _ => rfl, ⟨fun _ _ => rfl, ⟨trivial, ⟨trivial, trivial⟩⟩⟩⟩⟩⟩⟩⟩⟩⟩⟩, ⟨trivial, trivial⟩⟩, trivial⟩) ?_ ?_
          · exact ⟨ob_val fun g w => by kernel_rfl, ob_d (ι := Value) (l := fun g => [srlB b4 nb5 ab6 gb7 mb8 m t0, llR nb5 ns0 n0, llR ab6 cs0 n0, llR gb7 gs0 n0, mapR Value.string markV mb8 ms0]) (L := fun g y => [srlB b4 nb5 ab6 gb7 mb8 m t0, llR nb5 ns0 n0, llR ab6 cs0 n0, llR gb7 gs0 n0, mapR Value.string markV mb8 ms0, rowR 9 1 y (((cs0 ++ ns0).reverse).length) (((cs0 ++ ns0).reverse).map Value.string)]) (id) (fun g => o_call (by kernel_rfl) Try.call38 (Tri.ex (L' := fun v => srlL b4 nb5 ab6 gb7 mb8 m t0 ns0 cs0 gs0 ms0 n0 ++ [rowR 9 1 v ((cs0 ++ ns0).reverse).length (((cs0 ++ ns0).reverse).map Value.string)]) (srl_Keys (n := n0) (most := m) (target := t0) (ns := ns0) (cs := cs0) (gs := gs0) (ms := ms0) (by omega)) (fun v => by simp only [srlKeys_eq]))) (fun g => by kernel_rfl) (fun g y _ => ⟨trivial, by kernel_rfl, by kernel_rfl⟩), ob_val fun g w => by kernel_rfl, ob_val fun g w => by kernel_rfl, ob_val fun g w => by kernel_rfl, ob_val fun g w => by kernel_rfl, ob_v (v := fun g => iV ((rw.length : Int) - m)) (fun g => o_sub (k := .i64) (a := (rw.length : Int)) (b := m) (c := (rw.length : Int) - m) (by kernel_rfl) (by kernel_rfl) (w64 rfl (by omega))) (fun g => by kernel_rfl), ob_val fun g w => by kernel_rfl, ob_v (v := fun g => .slice (if c11 = rw.length - m.toNat then a10 else Option.map (fun y => y.add (rw.length - m.toNat)) a10) (rw.length - (rw.length - m.toNat)) (c11 - (rw.length - m.toNat))) (fun g => o_cutFrom (kd := .i64) (q := (if (rw.length : Int) - m > 0 then (rw.length : Int) - m else 0)) (l := rw.length - m.toNat) (n := rw.length) (cap := c11) (a := a10) (by kernel_rfl) (by kernel_rfl) (by split <;> omega) (by omega) (by omega) Try.underlying22 (by kernel_rfl)) (fun g => by kernel_rfl), ob_s (l := fun g => [rowR 9 1 (g 1) (((cs0 ++ ns0).reverse).length) (((cs0 ++ ns0).reverse).map Value.string), rowR 9 1 (.slice a10 rw.length c11) rw.length (rw.map Value.string)]) (l' := fun g => [rowR 9 1 (g 1) (((cs0 ++ ns0).reverse).length) (((cs0 ++ ns0).reverse).map Value.string), rowR 9 1 (.slice a10 rw.length c11) rw.length (rw.map Value.string)]) (v := fun g => bV (decide ((cs0 ++ ns0).reverse = rw.drop (rw.length - m.toNat)))) (fun g => o_call (by kernel_rfl) Try.call22 (t_same03 (l := [rowR 9 1 (g 1) (((cs0 ++ ns0).reverse).length) (((cs0 ++ ns0).reverse).map Value.string), rowR 9 1 (.slice a10 rw.length c11) rw.length (rw.map Value.string)]) (xs := (cs0 ++ ns0).reverse) (ys := rw.drop (rw.length - m.toNat)) (fun w own hH => ⟨⟨_, Row.strs (hH 0 _ rfl)⟩, ⟨_, Strs.cutFrom (Row.strs (hH 1 _ rfl)) (by omega)⟩⟩))) (fun g => by kernel_rfl), ob_val fun g w => by kernel_rfl, trivial⟩
          intro g
          refine Ex'.sub (subB_spec [4]) ?_
          refine Ex'.as [0, 1, 2, 3, 4, 5, 6, 8] (σ' := [(4, bV (decide ((cs0 ++ ns0).reverse = rw.drop (rw.length - m.toNat))))]) (Γ' := [oldR w0, srlB b4 nb5 ab6 gb7 mb8 m t0, llR nb5 ns0 n0, llR ab6 cs0 n0, llR gb7 gs0 n0, mapR Value.string markV mb8 ms0, rowR 9 1 (.slice a10 rw.length c11) rw.length (rw.map Value.string), rowR 9 1 (g 1) (((cs0 ++ ns0).reverse).length) (((cs0 ++ ns0).reverse).map Value.string)]) (by kernel_rfl) rfl (by kernel_rfl) (by kernel_rfl) ?_
          generalize g 1 = v27
          refine Ex'.fact (i := 7) (R := rowR 9 1 v27 (((cs0 ++ ns0).reverse).length) (((cs0 ++ ns0).reverse).map Value.string)) (by kernel_rfl) row_slice ?_; rintro ⟨a28, c29, rfl, hc29, hc29'⟩
          refine Ex'.next ?_
          refine Cd.ret ?_
          refine Ex'.ret Try.results10 (RVs.tmp (v := bV (decide ((cs0 ++ ns0).reverse = rw.drop (rw.length - m.toNat)))) (by kernel_rfl) (RVs.nil)) (fun w hw => ?_)
          exact ⟨_, ⟨(vT hI.keys), by kernel_rfl⟩, hw⟩

theorem srlruOnce_walk (m : Int) (v : Value) (xs : List ByteArray) (w : World) (hm : (Lit.int .i64 m).wf = true) (h : Strs w (fun k => k < w.heap.size) v xs) (hz : ∀ k ∈ xs, k.size ≤ maxLen) :
    Calls Try.prog 10 #[.int .i64 m, v] w fun e w' => e = .returned (.bool true) ∧ Below w.heap.size w w' := by
  obtain ⟨a, cap, rfl, hl⟩ := KeysIn.shape ⟨h, hz⟩
  exact law_of (srlruOnce_tri (range64 hm) hl ⟨h, hz⟩)

end Go.Proofs.Ytjijjfdkghcjkaa
