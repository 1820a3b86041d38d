/- SrlruScan: its walk. -/
import Derived.Test.YtjijjfdkghcjkaaSrlFew
import Derived.Test.YtjijjfdkghcjkaaSrlLaw
import Derived.Test.YtjijjfdkghcjkaaSrlPureE
set_option linter.unusedVariables false
namespace Go.Proofs.Ytjijjfdkghcjkaa
open Go.RowKit Go.MapKept
theorem range8 {a : Int} (h : (Lit.int .u8 a).wf = true) : 0 ≤ a ∧ a ≤ 255 := by
  simp [Lit.wf] at h; have := h.1; have := h.2; simp [IntKind.min, IntKind.max, IntKind.signed, IntKind.bits] at *; omega

set_option maxHeartbeats 8000000 in
set_option maxRecDepth 100000 in
theorem srlruScan_tri {w0 : World} {m sc : Int} {a : Option Addr} {cap : Nat} {xs : List ByteArray} (hm : -9223372036854775808 ≤ m ∧ m ≤ 9223372036854775807) (hl : xs.length ≤ cap ∧ cap ≤ 9223372036854775807) (hs : KeysIn w0 (.slice a xs.length cap) xs) (hsc : 0 ≤ sc ∧ sc ≤ 255) : Tri Try.prog 9 #[iV m, .slice a xs.length cap, .int .u8 sc] [oldR w0] (LawP w0) := by
  refine Tri.enter (args := [iV m, .slice a xs.length cap, .int .u8 sc]) Try.func9 rfl rfl rfl (fun B wz => ?_)
  refine Cd.seq ?_
  refine Cd.region rfl ?_
  refine Sq.vals [0] (rest := []) [bV false] (fun w => by kernel_rfl) ?_
  refine Sq.done ?_
  refine Ex'.next ?_
  refine Cd.seq ?_
  refine Cd.seq ?_
  refine Cd.region rfl ?_
  refine Sq.same [] (l := []) (o_call (by kernel_rfl) Try.call35 (srl_awake)) (by kernel_rfl) rfl (by kernel_rfl) rfl ?_
  refine Sq.vals [1] (rest := []) [bV false] (fun w => by kernel_rfl) ?_
  refine Sq.done ?_
  refine Ex'.next ?_
  refine Cd.condF (by kernel_rfl) ?_
  refine Cd.skip ?_
  refine Ex'.next ?_
  refine Cd.seq ?_
  refine Cd.seq ?_
  refine Cd.region rfl ?_
  refine Sq.vals [0, 1, 2, 3] (rest := [4, 5, 6]) [.slice a xs.length cap, iV (xs.length : Int), bV (decide ((xs.length : Int) > 100)), bV (decide ((xs.length : Int) > 100))] (fun w => by kernel_rfl) ?_
  refine Sq.case 21 (p := (xs.length : Int) > 100) rfl (fun h1 => ?_) (fun h1 => ?_)
  ·
    refine Sq.vals [4, 5, 6] (rest := []) [undef, undef, bV true] (fun w => by kernel_rfl) ?_
    refine Sq.done ?_
    refine Ex'.next ?_
    refine Cd.condT (by kernel_rfl) ?_
    refine Cd.seq ?_
    refine Cd.region rfl ?_
    refine Sq.vals [0] (rest := []) [bV true] (fun w => by kernel_rfl) ?_
    refine Sq.done ?_
    refine Ex'.next ?_
    refine Cd.ret ?_
    refine Ex'.thenRet ?_
    refine Ex'.ret Try.results9 (RVs.tmp (v := bV true) (by kernel_rfl) (RVs.nil)) (fun w hw => ?_)
    exact ⟨_, ⟨rfl, by kernel_rfl⟩, hw⟩
  ·
    refine Sq.vals [4, 5, 6] (rest := []) [iV m, bV (decide (m < 1)), bV (decide (m < 1))] (fun w => by kernel_rfl) ?_
    refine Sq.done ?_
    refine Ex'.next ?_
    refine Cd.case (p := m < 1) (by kernel_rfl) (fun h2 => ?_) (fun h2 => ?_)
    ·
      refine Cd.seq ?_
      refine Cd.region rfl ?_
      refine Sq.vals [0] (rest := []) [bV true] (fun w => by kernel_rfl) ?_
      refine Sq.done ?_
      refine Ex'.next ?_
      refine Cd.ret ?_
      refine Ex'.thenRet ?_
      refine Ex'.ret Try.results9 (RVs.tmp (v := bV true) (by kernel_rfl) (RVs.nil)) (fun w hw => ?_)
      exact ⟨_, ⟨rfl, by kernel_rfl⟩, hw⟩
    ·
      refine Cd.skip ?_
      refine Ex'.next ?_
      refine Cd.seq ?_
      refine Cd.region rfl ?_
      refine Sq.vals [0] (rest := [1, 2]) [iV m] (fun w => by kernel_rfl) ?_
      refine Sq.ex [] (l := []) (o_call (by kernel_rfl) Try.call36 (Tri.ex (L' := fun x => srlL x.1 x.2.1 x.2.2.1 x.2.2.2.1 x.2.2.2.2 m (m / 2) [] [] [] [] 0) (srl_New m (by omega)) (fun x => by simp only [srlNew_nn (show 0 ≤ m by omega)]))) (by kernel_rfl) rfl (by kernel_rfl) (fun _ => Nat.le_of_ble_eq_true (by kernel_rfl)) ?_; rintro ⟨b3, nb4, ab5, gb6, mb7⟩ _
      refine Sq.vals [2] (rest := []) [pV b3 0] (fun w => by kernel_rfl) ?_
      refine Sq.done ?_
      refine Ex'.next ?_
      refine Cd.seq ?_
      refine Cd.seq ?_
      refine Cd.region rfl ?_
      refine Sq.vals [0, 1] (rest := []) [pV b3 0, bV false] (fun w => by kernel_rfl) ?_
      refine Sq.done ?_
      refine Ex'.next ?_
      refine Cd.condF (by kernel_rfl) ?_
      refine Cd.skip ?_
      refine Ex'.next ?_
      refine Cd.seq ?_
      refine Cd.seq ?_
      refine Cd.region rfl ?_
      refine Sq.vals [0] (rest := []) [iV 0] (fun w => by kernel_rfl) ?_
      refine Sq.done ?_
      refine Ex'.next ?_
      refine Cd.block ?_
      refine Cd.loop (ι := Nat × Int × (List ByteArray) × (List ByteArray) × (List ByteArray) × (List (ByteArray × (Bool × Bool))) × Nat) (fun ⟨k, t0, ns0, cs0, gs0, ms0, n0⟩ => k ≤ xs.length ∧ PreI m t0 ns0 cs0 gs0 ms0 k ∧ n0 ≤ k * 200) (fun ⟨k, t0, ns0, cs0, gs0, ms0, n0⟩ => xs.length - k) (fun ⟨k, t0, ns0, cs0, gs0, ms0, n0⟩ => [(0, iV m), (1, .slice a xs.length cap), (2, .int .u8 sc), (7, pV b3 0), (8, iV (k : Int))]) (fun ⟨k, t0, ns0, cs0, gs0, ms0, n0⟩ => [oldR w0, srlB b3 nb4 ab5 gb6 mb7 m t0, llR nb4 ns0 n0, llR ab5 cs0 n0, llR gb6 gs0 n0, mapR Value.string markV mb7 ms0]) (0, m / 2, [], [], [], [], 0) (⟨Nat.zero_le _, PreI.new (by omega), Nat.le_refl _⟩) (subB_eq (l := [0, 1, 2, 7, 8]) (by kernel_rfl)) (fun w hw => hw.pickB [0, 1, 2, 3, 4, 5] (by kernel_rfl) (by kernel_rfl) (by kernel_rfl)) ?_
      rintro ⟨k, t0, ns0, cs0, gs0, ms0, n0⟩ hL8
      try dsimp only at hL8 ⊢
      obtain ⟨hk, hP, hn⟩ := hL8
      have hPn := hP.i.nums
      have hP1 := hP.up
      have hP2 := hP.few
      refine Cd.seq ?_
      refine Cd.seq ?_
      refine Cd.region rfl ?_
      refine Sq.vals [0, 1, 2, 3] (rest := []) [iV (k : Int), .slice a xs.length cap, iV (xs.length : Int), bV (decide ((k : Int) < (xs.length : Int)))] (fun w => by kernel_rfl) ?_
      refine Sq.done ?_
      refine Ex'.next ?_
      refine Cd.case (p := (k : Int) < (xs.length : Int)) (by kernel_rfl) (fun h9 => ?_) (fun h9 => ?_)
      ·
        obtain ⟨g10, off11, rfl⟩ := hs.addr (by omega)
        obtain ⟨kyk, hgk, hwk, hrk⟩ := hs.at (k := k) (by omega)
        refine Cd.skip ?_
        refine Ex'.next ?_
        refine Cd.seq ?_
        refine Cd.block ?_
        refine Cd.seq ?_
        refine Cd.seq ?_
        refine Cd.region rfl ?_
        refine Sq.vals [0, 1] (rest := [2, 3, 4, 5, 6, 7, 8, 9, 10, 11, 12, 13]) [.slice (some ⟨g10, off11, none⟩) xs.length cap, iV (k : Int)] (fun w => by kernel_rfl) ?_
        refine Sq.v (r := pV g10 (off11 + k)) (o_idx (b := g10) (cap := cap) (e := 9) (off := off11) (n := xs.length) (kd := .i64) (q := (k : Int)) (i := k) (size := 1) (j := off11 + k) (by kernel_rfl) (by kernel_rfl) (by rfl) (by omega) Try.underlying22 (by kernel_rfl) (by omega)) rfl (by kernel_rfl) ?_
        refine Sq.same [0] (l := [oldR w0]) (o_loadOld (b := g10) (j := off11 + k) (u := sV kyk) (by kernel_rfl) (by kernel_rfl) (hrk 0 _ rfl)) (by kernel_rfl) rfl (by kernel_rfl) rfl ?_
        refine Sq.vals [4, 5, 6] (rest := [7, 8, 9, 10, 11, 12, 13]) [iV (kyk.size : Int), bV (decide ((kyk.size : Int) > 200)), bV (decide ((kyk.size : Int) > 200))] (fun w => by kernel_rfl) ?_
        refine Sq.case 41 (p := (kyk.size : Int) > 200) rfl (fun h12 => ?_) (fun h12 => ?_)
        ·
          refine Sq.vals [7, 8, 9, 10, 11, 12, 13] (rest := []) [undef, undef, undef, undef, undef, undef, bV true] (fun w => by kernel_rfl) ?_
          refine Sq.done ?_
          refine Ex'.next ?_
          refine Cd.condT (by kernel_rfl) ?_
          refine Cd.seq ?_
          refine Cd.region rfl ?_
          refine Sq.vals [0] (rest := []) [bV true] (fun w => by kernel_rfl) ?_
          refine Sq.done ?_
          refine Ex'.next ?_
          refine Cd.ret ?_
          refine Ex'.thenRet ?_
          refine Ex'.blockRet ?_
          refine Ex'.thenRet ?_
          refine Ex'.thenRet ?_
          refine Ex'.blockRet ?_
          refine Ex'.thenRet ?_
          refine Ex'.ret Try.results9 (RVs.tmp (v := bV true) (by kernel_rfl) (RVs.nil)) (fun w hw => ?_)
          exact ⟨_, ⟨rfl, by kernel_rfl⟩, hw⟩
        ·
          refine Sq.vals [7, 8] (rest := [9, 10, 11, 12, 13]) [.slice (some ⟨g10, off11, none⟩) xs.length cap, iV (k : Int)] (fun w => by kernel_rfl) ?_
          refine Sq.v (r := pV g10 (off11 + k)) (o_idx (b := g10) (cap := cap) (e := 9) (off := off11) (n := xs.length) (kd := .i64) (q := (k : Int)) (i := k) (size := 1) (j := off11 + k) (by kernel_rfl) (by kernel_rfl) (by rfl) (by omega) Try.underlying22 (by kernel_rfl) (by omega)) rfl (by kernel_rfl) ?_
          refine Sq.same [0] (l := [oldR w0]) (o_loadOld (b := g10) (j := off11 + k) (u := sV kyk) (by kernel_rfl) (by kernel_rfl) (hrk 0 _ rfl)) (by kernel_rfl) rfl (by kernel_rfl) rfl ?_
          refine Sq.vals [11] (rest := [12, 13]) [iV (kyk.size : Int)] (fun w => by kernel_rfl) ?_
          refine Sq.v (r := bV (decide ((kyk.size : Int) = 6))) (o_eqI (k := .i64) (a := (kyk.size : Int)) (b := 6) (by kernel_rfl) (by kernel_rfl)) rfl (by kernel_rfl) ?_
          refine Sq.vals [13] (rest := []) [bV (decide ((kyk.size : Int) = 6))] (fun w => by kernel_rfl) ?_
          refine Sq.done ?_
          refine Ex'.next ?_
          refine Cd.case (p := (kyk.size : Int) = 6) (by kernel_rfl) (fun h13 => ?_) (fun h13 => ?_)
          ·
            refine Cd.seq ?_
            refine Cd.region rfl ?_
            refine Sq.vals [0] (rest := []) [bV true] (fun w => by kernel_rfl) ?_
            refine Sq.done ?_
            refine Ex'.next ?_
            refine Cd.ret ?_
            refine Ex'.thenRet ?_
            refine Ex'.blockRet ?_
            refine Ex'.thenRet ?_
            refine Ex'.thenRet ?_
            refine Ex'.blockRet ?_
            refine Ex'.thenRet ?_
            refine Ex'.ret Try.results9 (RVs.tmp (v := bV true) (by kernel_rfl) (RVs.nil)) (fun w hw => ?_)
            exact ⟨_, ⟨rfl, by kernel_rfl⟩, hw⟩
          ·
            refine Cd.skip ?_
            refine Ex'.next ?_
            refine Cd.region rfl ?_
            refine Sq.vals [0, 1, 2] (rest := [3, 4, 5]) [pV b3 0, .slice (some ⟨g10, off11, none⟩) xs.length cap, iV (k : Int)] (fun w => by kernel_rfl) ?_
            refine Sq.v (r := pV g10 (off11 + k)) (o_idx (b := g10) (cap := cap) (e := 9) (off := off11) (n := xs.length) (kd := .i64) (q := (k : Int)) (i := k) (size := 1) (j := off11 + k) (by kernel_rfl) (by kernel_rfl) (by rfl) (by omega) Try.underlying22 (by kernel_rfl) (by omega)) rfl (by kernel_rfl) ?_
            refine Sq.same [0] (l := [oldR w0]) (o_loadOld (b := g10) (j := off11 + k) (u := sV kyk) (by kernel_rfl) (by kernel_rfl) (hrk 0 _ rfl)) (by kernel_rfl) rfl (by kernel_rfl) rfl ?_
            refine Sq.same [1, 2, 3, 4, 5] (l := srlL b3 nb4 ab5 gb6 mb7 m t0 ns0 cs0 gs0 ms0 n0) (o_call (by kernel_rfl) Try.call37 (srl_Request (n := n0) (n' := n0 + cs0.length + 3) (most := m) (target := t0) (ns := ns0) (cs := cs0) (gs := gs0) (ms := ms0) kyk (by omega) (by omega) (by omega) (by omega))) (by kernel_rfl) rfl (by kernel_rfl) rfl ?_
            generalize hxx14 : srlReq m t0 ns0 cs0 gs0 ms0 kyk = x14
            have hP2 := hP.step (by have := h13; omega) hxx14
            refine Sq.done ?_
            refine Ex'.blockNormal ?_
            refine Ex'.next ?_
            refine Cd.region rfl ?_
            refine Sq.vals [0] (rest := [1, 2]) [iV (k : Int)] (fun w => by kernel_rfl) ?_
            refine Sq.v (r := iV ((k : Int) + 1)) (o_add (k := .i64) (a := (k : Int)) (b := 1) (c := (k : Int) + 1) (by kernel_rfl) (by kernel_rfl) (w64 rfl (by omega))) rfl (by kernel_rfl) ?_
            refine Sq.vals [2] (rest := []) [iV ((k : Int) + 1)] (fun w => by kernel_rfl) ?_
            refine Sq.done ?_
            refine Ex'.round (g := (k, t0, ns0, cs0, gs0, ms0, n0)) (k + 1, x14.1, x14.2.1, x14.2.2.1, x14.2.2.2.1, x14.2.2.2.2.1, n0 + cs0.length + 3) ?_ ?_ (subB_eq (l := [0, 1, 2, 7, 8]) (by kernel_rfl)) (fun w hw => hw.pickB [0, 1, 2, 3, 4, 5] (by kernel_rfl) (by kernel_rfl) (by kernel_rfl))
            · (try dsimp only); exact ⟨by omega, hP2, by omega⟩
            · omega
      ·
        have hLl : ((cs0 ++ ns0).reverse).length = cs0.length + ns0.length := by rw [List.length_reverse, List.length_append]
        refine Cd.exit ?_
        refine Ex'.thenExit ?_
        refine Ex'.thenExit ?_
        refine Ex'.blockHit ?_
        refine Ex'.next ?_
        refine Cd.seq ?_
        refine Cd.region rfl ?_
        refine Sq.vals [0] (rest := [1, 2]) [pV b3 0] (fun w => by kernel_rfl) ?_
        refine Sq.ex [1, 2, 3, 4, 5] (l := srlL b3 nb4 ab5 gb6 mb7 m t0 ns0 cs0 gs0 ms0 n0) (o_call (by kernel_rfl) Try.call38 (Tri.ex (L' := fun v => srlL b3 nb4 ab5 gb6 mb7 m t0 ns0 cs0 gs0 ms0 n0 ++ [rowR 9 1 v ((cs0 ++ ns0).reverse).length (((cs0 ++ ns0).reverse).map Value.string)]) (srl_Keys (n := n0) (most := m) (target := t0) (ns := ns0) (cs := cs0) (gs := gs0) (ms := ms0) (by omega)) (fun v => by simp only [srlKeys_eq]))) (by kernel_rfl) rfl (by kernel_rfl) (fun _ => Nat.le_of_ble_eq_true (by kernel_rfl)) ?_; rintro v15 _
        refine Sq.fact (i := 6) (R := rowR 9 1 v15 (((cs0 ++ ns0).reverse).length) (((cs0 ++ ns0).reverse).map Value.string)) (by kernel_rfl) row_slice ?_; rintro ⟨a16, c17, rfl, hc17, hc17'⟩
        refine Sq.vals [2] (rest := []) [.slice a16 (((cs0 ++ ns0).reverse).length) c17] (fun w => by kernel_rfl) ?_
        refine Sq.done ?_
        refine Ex'.next ?_
        refine Cd.seq ?_
        refine Cd.region rfl ?_
        refine Sq.vals [0] (rest := [1, 2]) [pV b3 0] (fun w => by kernel_rfl) ?_
        refine Sq.same [1, 2, 3, 4, 5] (l := srlL b3 nb4 ab5 gb6 mb7 m t0 ns0 cs0 gs0 ms0 n0) (o_call (by kernel_rfl) Try.call39 (Tri.eq (l2 := srlL b3 nb4 ab5 gb6 mb7 m t0 ns0 cs0 gs0 ms0 n0) (r' := iV (cs0.length : Int)) (srl_Again (n := n0) (most := m) (target := t0) (ns := ns0) (cs := cs0) (gs := gs0) (ms := ms0) (by omega)) (rfl) (rfl))) (by kernel_rfl) rfl (by kernel_rfl) rfl ?_
        refine Sq.vals [2] (rest := []) [iV (cs0.length : Int)] (fun w => by kernel_rfl) ?_
        refine Sq.done ?_
        refine Ex'.next ?_
        refine Cd.seq ?_
        refine Cd.seq ?_
        refine Cd.region rfl ?_
        refine Sq.vals [0, 1, 2] (rest := [3]) [iV (cs0.length : Int), .slice a16 (((cs0 ++ ns0).reverse).length) c17, iV (((cs0 ++ ns0).reverse).length : Int)] (fun w => by kernel_rfl) ?_
        refine Sq.v (r := bV (decide ((cs0.length : Int) > (((cs0 ++ ns0).reverse).length : Int)))) (pureV (by kernel_rfl) rfl fun w => by kernel_rfl) rfl (by kernel_rfl) ?_
        refine Sq.re 62 rfl (vF (by simp <;> omega)) ?_
        refine Sq.done ?_
        refine Ex'.next ?_
        refine Cd.condF (by kernel_rfl) ?_
        refine Cd.skip ?_
        refine Ex'.next ?_
        refine Cd.seq ?_
        refine Cd.region rfl ?_
        refine Sq.ex [] (l := []) (o_lit0 (size := 1) Try.underlying22 (by kernel_rfl)) (by kernel_rfl) rfl (by kernel_rfl) (fun _ => Nat.zero_le _) ?_; intro b18 _
        refine Sq.vals [1, 2, 3, 4] (rest := [5, 6, 7, 8]) [.slice a16 (((cs0 ++ ns0).reverse).length) c17, .slice a16 (((cs0 ++ ns0).reverse).length) c17, iV (((cs0 ++ ns0).reverse).length : Int), iV (cs0.length : Int)] (fun w => by kernel_rfl) ?_
        refine Sq.v (r := iV ((((cs0 ++ ns0).reverse).length : Int) - (cs0.length : Int))) (o_sub (k := .i64) (a := (((cs0 ++ ns0).reverse).length : Int)) (b := (cs0.length : Int)) (c := (((cs0 ++ ns0).reverse).length : Int) - (cs0.length : Int)) (by kernel_rfl) (by kernel_rfl) (w64 rfl (by omega))) rfl (by kernel_rfl) ?_
        refine Sq.v (r := .slice (if c17 = ns0.length then a16 else Option.map (fun y => y.add ns0.length) a16) (((cs0 ++ ns0).reverse).length - ns0.length) (c17 - ns0.length)) (o_cutFrom (kd := .i64) (q := (((cs0 ++ ns0).reverse).length : Int) - (cs0.length : Int)) (l := ns0.length) (n := ((cs0 ++ ns0).reverse).length) (cap := c17) (a := a16) (by kernel_rfl) (by kernel_rfl) (by simp <;> omega) (by omega) (by omega) Try.underlying22 (by kernel_rfl)) rfl (by kernel_rfl) ?_
        refine Sq.ex [7, 6] (l := [rowR 9 1 (.slice (some ⟨b18, 0, none⟩) (([] : List ByteArray).length) 0) (([] : List ByteArray).length) (([] : List ByteArray).map Value.string), rowR 9 1 (.slice a16 (((cs0 ++ ns0).reverse).length) c17) (((cs0 ++ ns0).reverse).length) (((cs0 ++ ns0).reverse).map Value.string)]) (o_pushAll (n' := (([] : List ByteArray) ++ (((cs0 ++ ns0).reverse).drop ns0.length)).length) (xs' := (([] : List ByteArray) ++ (((cs0 ++ ns0).reverse).drop ns0.length)).map Value.string) (m := (((cs0 ++ ns0).reverse).drop ns0.length).length) (news := (((cs0 ++ ns0).reverse).drop ns0.length).map Value.string) (by kernel_rfl) (by kernel_rfl) (fun w S h => ⟨_, Strs.cutFrom (Row.strs h) (by omega)⟩) sl_str (by decide) (ones _) (by unfold maxLen; simp only [List.length_drop, List.length_take, List.length_nil]; omega) (by simp only [List.length_drop, List.length_take, List.length_nil]; omega) (by simp) (by simp)) (by kernel_rfl) rfl (by kernel_rfl) (fun _ => Nat.le_of_ble_eq_true (by kernel_rfl)) ?_; rintro v19 _
        refine Sq.fact (i := 7) (R := rowR 9 1 v19 ((([] : List ByteArray) ++ (((cs0 ++ ns0).reverse).drop ns0.length)).length) ((([] : List ByteArray) ++ (((cs0 ++ ns0).reverse).drop ns0.length)).map Value.string)) (by kernel_rfl) row_slice ?_; rintro ⟨a20, c21, rfl, hc21, hc21'⟩
        refine Sq.vals [8] (rest := []) [.slice a20 ((([] : List ByteArray) ++ (((cs0 ++ ns0).reverse).drop ns0.length)).length) c21] (fun w => by kernel_rfl) ?_
        refine Sq.done ?_
        refine Ex'.next ?_
        refine Cd.seq ?_
        refine Cd.seq ?_
        refine Cd.region rfl ?_
        refine Sq.vals [0, 1] (rest := [2]) [iV (cs0.length : Int), iV m] (fun w => by kernel_rfl) ?_
        refine Sq.v (r := bV (decide ((cs0.length : Int) = m))) (o_eqI (k := .i64) (a := (cs0.length : Int)) (b := m) (by kernel_rfl) (by kernel_rfl)) rfl (by kernel_rfl) ?_
        refine Sq.done ?_
        refine Ex'.next ?_
        refine Cd.case (p := (cs0.length : Int) = m) (by kernel_rfl) (fun h22 => ?_) (fun h22 => ?_)
        ·
          refine Cd.seq ?_
          refine Cd.region rfl ?_
          refine Sq.vals [0] (rest := [1, 2, 3, 4]) [pV b3 0] (fun w => by kernel_rfl) ?_
          refine Sq.same [1, 2, 3, 4, 5] (l := srlL b3 nb4 ab5 gb6 mb7 m t0 ns0 cs0 gs0 ms0 n0) (o_call (by kernel_rfl) Try.call40 (Tri.eq (l2 := srlL b3 nb4 ab5 gb6 mb7 m t0 ns0 cs0 gs0 ms0 n0) (r' := iV ((cs0.length : Int) + ns0.length)) (srl_Len (n := n0) (most := m) (target := t0) (ns := ns0) (cs := cs0) (gs := gs0) (ms := ms0) (by omega)) (by first | simp only [srlLen_sum] | rfl) (by first | simp only [srlLen_sum] | rfl))) (by kernel_rfl) rfl (by kernel_rfl) rfl ?_
          refine Sq.vals [2] (rest := [3, 4]) [iV m] (fun w => by kernel_rfl) ?_
          refine Sq.v (r := bV (decide ((cs0.length : Int) + ns0.length = m))) (o_eqI (k := .i64) (a := (cs0.length : Int) + ns0.length) (b := m) (by kernel_rfl) (by kernel_rfl)) rfl (by kernel_rfl) ?_
          refine Sq.re 77 rfl (vT (by omega)) ?_
          refine Sq.vals [4] (rest := []) [bV true] (fun w => by kernel_rfl) ?_
          refine Sq.done ?_
          refine Ex'.next ?_
          refine Cd.ret ?_
          refine Ex'.thenRet ?_
          refine Ex'.ret Try.results9 (RVs.tmp (v := bV true) (by kernel_rfl) (RVs.nil)) (fun w hw => ?_)
          exact ⟨_, ⟨rfl, by kernel_rfl⟩, hw⟩
        ·
          refine Cd.skip ?_
          refine Ex'.next ?_
          refine Cd.seq ?_
          refine Cd.seq ?_
          refine Cd.region rfl ?_
          refine Sq.vals [0] (rest := []) [iV 0] (fun w => by kernel_rfl) ?_
          refine Sq.done ?_
          refine Ex'.next ?_
          refine Cd.block ?_
          refine Cd.loop (ι := Nat × Int × (List ByteArray) × (List ByteArray) × (List ByteArray) × (List (ByteArray × (Bool × Bool))) × Nat) (fun ⟨j, td, nsd, csd, gsd, msd, nd⟩ => ScanI m td nsd csd gsd msd cs0 j k ∧ nd ≤ 20000 + j * 600 ∧ (j : Int) ≤ sc) (fun ⟨j, td, nsd, csd, gsd, msd, nd⟩ => 256 - j) (fun ⟨j, td, nsd, csd, gsd, msd, nd⟩ => [(0, iV m), (2, .int .u8 sc), (7, pV b3 0), (9, .slice a16 (((cs0 ++ ns0).reverse).length) c17), (10, iV (cs0.length : Int)), (11, .slice a20 ((([] : List ByteArray) ++ (((cs0 ++ ns0).reverse).drop ns0.length)).length) c21), (12, iV (j : Int))]) (fun ⟨j, td, nsd, csd, gsd, msd, nd⟩ => [oldR w0, srlB b3 nb4 ab5 gb6 mb7 m td, llR nb4 nsd nd, llR ab5 csd nd, llR gb6 gsd nd, mapR Value.string markV mb7 msd, rowR 9 1 (.slice a16 (((cs0 ++ ns0).reverse).length) c17) (((cs0 ++ ns0).reverse).length) (((cs0 ++ ns0).reverse).map Value.string), rowR 9 1 (.slice a20 ((([] : List ByteArray) ++ (((cs0 ++ ns0).reverse).drop ns0.length)).length) c21) ((([] : List ByteArray) ++ (((cs0 ++ ns0).reverse).drop ns0.length)).length) ((([] : List ByteArray) ++ (((cs0 ++ ns0).reverse).drop ns0.length)).map Value.string)]) (0, t0, ns0, cs0, gs0, ms0, n0) (⟨ScanI.start hP (by omega), by omega, by omega⟩) (subB_eq (l := [0, 2, 7, 9, 10, 11, 12]) (by kernel_rfl)) (fun w hw => hw.pickB [0, 1, 2, 3, 4, 5, 6, 7] (by kernel_rfl) (by kernel_rfl) (by kernel_rfl)) ?_
          rintro ⟨j, td, nsd, csd, gsd, msd, nd⟩ hL23
          try dsimp only at hL23 ⊢
          obtain ⟨hS, hnd, hjs⟩ := hL23
          have hSn := hS.i.nums
          have hS1 := hS.up
          have hS2 := hS.few
          refine Cd.seq ?_
          refine Cd.seq ?_
          refine Cd.region rfl ?_
          refine Sq.vals [0, 1] (rest := [2, 3]) [iV (j : Int), .int .u8 sc] (fun w => by kernel_rfl) ?_
          refine Sq.v (r := iV sc) (o_convI (k := .u8) (k' := .i64) (a := sc) (c := sc) (by kernel_rfl) (by kernel_rfl) Try.underlying3 (wr_i64 (by omega))) rfl (by kernel_rfl) ?_
          refine Sq.vals [3] (rest := []) [bV (decide ((j : Int) < sc))] (fun w => by kernel_rfl) ?_
          refine Sq.done ?_
          refine Ex'.next ?_
          refine Cd.case (p := (j : Int) < sc) (by kernel_rfl) (fun h24 => ?_) (fun h24 => ?_)
          ·
            refine Cd.skip ?_
            refine Ex'.next ?_
            refine Cd.seq ?_
            refine Cd.block ?_
            refine Cd.seq ?_
            refine Cd.region rfl ?_
            refine Sq.vals [0, 1] (rest := [2, 3, 4, 5, 6, 7, 8]) [pV b3 0, iV (j : Int)] (fun w => by kernel_rfl) ?_
            refine Sq.v (r := .int .u8 (j : Int)) (o_convI (k := .i64) (k' := .u8) (a := (j : Int)) (c := (j : Int)) (by kernel_rfl) (by kernel_rfl) Try.underlying5 (wr_u8 (by omega))) rfl (by kernel_rfl) ?_
            refine Sq.ex [] (l := []) (o_lit (sz := 1) (.int .u8 0) [.int .u8 (j : Int)] Try.underlying57 (by kernel_rfl) (by kernel_rfl) (by kernel_rfl) (by kernel_rfl) (by kernel_rfl)) (by kernel_rfl) rfl (by kernel_rfl) (fun _ => Nat.zero_le _) ?_; intro b25 _
            refine Sq.same [8] (l := [blkR b25 [.int .u8 (j : Int)] 5]) (o_bytesStr (n := 1) (cap := 1) (s := ⟨#[UInt8.ofNat j]⟩) [(j : Int)] (by kernel_rfl) Try.underlying57 Try.underlying5 Try.underlying9 (by kernel_rfl) (by kernel_rfl) (scan_bytes j)) (by kernel_rfl) rfl (by kernel_rfl) rfl ?_
            refine Sq.v (r := sV (scanKey j)) (o_addS (a := ⟨#[115, 99, 97, 110, 32]⟩) (b := ⟨#[UInt8.ofNat j]⟩) (c := scanKey j) (by kernel_rfl) (by kernel_rfl) (by show 5 + 1 ≤ 9223372036854775807; omega) (scan_add j)) rfl (by kernel_rfl) ?_
            refine Sq.same [1, 2, 3, 4, 5] (l := srlL b3 nb4 ab5 gb6 mb7 m td nsd csd gsd msd nd) (o_call (by kernel_rfl) Try.call37 (srl_Request (n := nd) (n' := nd + csd.length + 3) (most := m) (target := td) (ns := nsd) (cs := csd) (gs := gsd) (ms := msd) (scanKey j) (by omega) (by omega) (by omega) (by omega))) (by kernel_rfl) rfl (by kernel_rfl) rfl ?_
            generalize hxx26 : srlReq m td nsd csd gsd msd (scanKey j) = x26
            obtain ⟨hS2, hhit⟩ := hS.step (by omega) hxx26
            have hSn2 := hS2.i.nums
            refine Sq.ex [] (l := []) (o_new [bV false, sV ⟨#[]⟩, bV false] (fun w => by kernel_rfl)) (by kernel_rfl) rfl (by kernel_rfl) (fun _ => Nat.zero_le _) ?_; intro b27 _
            refine Sq.same [9] (l := [blkR b27 [bV false, sV ⟨#[]⟩, bV false] 27]) (o_store (i := 0) (v := .agg #[bV x26.2.2.2.2.2.1, sV x26.2.2.2.2.2.2.1, bV x26.2.2.2.2.2.2.2]) (by kernel_rfl) (by kernel_rfl) (by kernel_rfl) (by kernel_rfl) (by kernel_rfl)) (by kernel_rfl) rfl (by kernel_rfl) rfl ?_
            refine Sq.done ?_
            refine Ex'.next ?_
            refine Cd.seq ?_
            refine Cd.region rfl ?_
            refine Sq.vals [0] (rest := [1, 2, 3, 4, 5, 6, 7, 8, 9, 10, 11, 12, 13]) [pV b27 0] (fun w => by kernel_rfl) ?_
            refine Sq.same [9] (l := [blkR b27 [bV x26.2.2.2.2.2.1, sV x26.2.2.2.2.2.2.1, bV x26.2.2.2.2.2.2.2] 27]) (o_load (i := 0) (v := bV x26.2.2.2.2.2.1) (by kernel_rfl) (by kernel_rfl) (by kernel_rfl)) (by kernel_rfl) rfl (by kernel_rfl) rfl ?_
            refine Sq.vals [2] (rest := [3, 4, 5, 6, 7, 8, 9, 10, 11, 12, 13]) [bV x26.2.2.2.2.2.1] (fun w => by kernel_rfl) ?_
            refine Sq.re 93 rfl (congrArg Value.bool (show x26.2.2.2.2.2.1 = false from hhit)) ?_
            refine Sq.vals [3] (rest := [4, 5, 6, 7, 8, 9, 10, 11, 12, 13]) [pV b3 0] (fun w => by kernel_rfl) ?_
            refine Sq.same [1, 2, 3, 4, 5] (l := srlL b3 nb4 ab5 gb6 mb7 m x26.1 x26.2.1 x26.2.2.1 x26.2.2.2.1 x26.2.2.2.2.1 (nd + csd.length + 3)) (o_call (by kernel_rfl) Try.call39 (Tri.eq (l2 := srlL b3 nb4 ab5 gb6 mb7 m x26.1 x26.2.1 x26.2.2.1 x26.2.2.2.1 x26.2.2.2.2.1 (nd + csd.length + 3)) (r' := iV (x26.2.2.1.length : Int)) (srl_Again (n := nd + csd.length + 3) (most := m) (target := x26.1) (ns := x26.2.1) (cs := x26.2.2.1) (gs := x26.2.2.2.1) (ms := x26.2.2.2.2.1) (by omega)) (rfl) (rfl))) (by kernel_rfl) rfl (by kernel_rfl) rfl ?_
            refine Sq.vals [5] (rest := [6, 7, 8, 9, 10, 11, 12, 13]) [iV (cs0.length : Int)] (fun w => by kernel_rfl) ?_
            refine Sq.v (r := bV (decide ((x26.2.2.1.length : Int) ≠ (cs0.length : Int)))) (o_neI (k := .i64) (a := (x26.2.2.1.length : Int)) (b := (cs0.length : Int)) (by kernel_rfl) (by kernel_rfl)) rfl (by kernel_rfl) ?_
            refine Sq.re 97 rfl (vF (fun z => z (by rw [hS2.same]))) ?_
            refine Sq.vals [7, 8, 9] (rest := [10, 11, 12, 13]) [bV false, bV false, pV b3 0] (fun w => by kernel_rfl) ?_
            refine Sq.same [1, 2, 3, 4, 5] (l := srlL b3 nb4 ab5 gb6 mb7 m x26.1 x26.2.1 x26.2.2.1 x26.2.2.2.1 x26.2.2.2.2.1 (nd + csd.length + 3)) (o_call (by kernel_rfl) Try.call40 (Tri.eq (l2 := srlL b3 nb4 ab5 gb6 mb7 m x26.1 x26.2.1 x26.2.2.1 x26.2.2.2.1 x26.2.2.2.2.1 (nd + csd.length + 3)) (r' := iV ((x26.2.2.1.length : Int) + x26.2.1.length)) (srl_Len (n := nd + csd.length + 3) (most := m) (target := x26.1) (ns := x26.2.1) (cs := x26.2.2.1) (gs := x26.2.2.2.1) (ms := x26.2.2.2.2.1) (by omega)) (by first | simp only [srlLen_sum] | rfl) (by first | simp only [srlLen_sum] | rfl))) (by kernel_rfl) rfl (by kernel_rfl) rfl ?_
            refine Sq.vals [11] (rest := [12, 13]) [iV m] (fun w => by kernel_rfl) ?_
            refine Sq.v (r := bV (decide ((x26.2.2.1.length : Int) + x26.2.1.length > m))) (pureV (by kernel_rfl) rfl fun w => by kernel_rfl) rfl (by kernel_rfl) ?_
            refine Sq.re 103 rfl (vF (by omega)) ?_
            refine Sq.vals [13] (rest := []) [bV false] (fun w => by kernel_rfl) ?_
            refine Sq.done ?_
            refine Ex'.next ?_
            refine Cd.condF (by kernel_rfl) ?_
            refine Cd.skip ?_
            refine Ex'.blockNormal ?_
            refine Ex'.next ?_
            refine Cd.region rfl ?_
            refine Sq.vals [0] (rest := [1, 2]) [iV (j : Int)] (fun w => by kernel_rfl) ?_
            refine Sq.v (r := iV ((j : Int) + 1)) (o_add (k := .i64) (a := (j : Int)) (b := 1) (c := (j : Int) + 1) (by kernel_rfl) (by kernel_rfl) (w64 rfl (by omega))) rfl (by kernel_rfl) ?_
            refine Sq.vals [2] (rest := []) [iV ((j : Int) + 1)] (fun w => by kernel_rfl) ?_
            refine Sq.done ?_
            refine Ex'.round (g := (j, td, nsd, csd, gsd, msd, nd)) (j + 1, x26.1, x26.2.1, x26.2.2.1, x26.2.2.2.1, x26.2.2.2.2.1, nd + csd.length + 3) ?_ ?_ (subB_eq (l := [0, 2, 7, 9, 10, 11, 12]) (by kernel_rfl)) (fun w hw => hw.pickB [0, 1, 2, 3, 4, 5, 6, 7] (by kernel_rfl) (by kernel_rfl) (by kernel_rfl))
            · (try dsimp only); exact ⟨hS2, by omega, by omega⟩
            · omega
          ·
            have hLd : ((csd ++ nsd).reverse).length = csd.length + nsd.length := by rw [List.length_reverse, List.length_append]
            refine Cd.exit ?_
            refine Ex'.thenExit ?_
            refine Ex'.thenExit ?_
            refine Ex'.blockHit ?_
            refine Ex'.next ?_
            refine Cd.seq ?_
            refine Cd.region rfl ?_
            refine Sq.vals [0] (rest := [1, 2]) [pV b3 0] (fun w => by kernel_rfl) ?_
            refine Sq.ex [1, 2, 3, 4, 5] (l := srlL b3 nb4 ab5 gb6 mb7 m td nsd csd gsd msd nd) (o_call (by kernel_rfl) Try.call38 (Tri.ex (L' := fun v => srlL b3 nb4 ab5 gb6 mb7 m td nsd csd gsd msd nd ++ [rowR 9 1 v ((csd ++ nsd).reverse).length (((csd ++ nsd).reverse).map Value.string)]) (srl_Keys (n := nd) (most := m) (target := td) (ns := nsd) (cs := csd) (gs := gsd) (ms := msd) (by omega)) (fun v => by simp only [srlKeys_eq]))) (by kernel_rfl) rfl (by kernel_rfl) (fun _ => Nat.le_of_ble_eq_true (by kernel_rfl)) ?_; rintro v29 _
            refine Sq.fact (i := 8) (R := rowR 9 1 v29 (((csd ++ nsd).reverse).length) (((csd ++ nsd).reverse).map Value.string)) (by kernel_rfl) row_slice ?_; rintro ⟨a30, c31, rfl, hc31, hc31'⟩
            refine Sq.vals [2] (rest := []) [.slice a30 (((csd ++ nsd).reverse).length) c31] (fun w => by kernel_rfl) ?_
            refine Sq.done ?_
            refine Ex'.next ?_
            refine Cd.seq ?_
            refine Cd.region rfl ?_
            refine Sq.vals [0] (rest := [1, 2]) [pV b3 0] (fun w => by kernel_rfl) ?_
            refine Sq.ex [1, 2, 3, 4, 5] (l := srlL b3 nb4 ab5 gb6 mb7 m td nsd csd gsd msd nd) (o_call (by kernel_rfl) Try.call41 (Tri.ex (L' := fun v => srlL b3 nb4 ab5 gb6 mb7 m td nsd csd gsd msd nd ++ [rowR 9 1 v (gsd).length ((gsd).map Value.string)]) (srl_Ghosts (n := nd) (most := m) (target := td) (ns := nsd) (cs := csd) (gs := gsd) (ms := msd) (by omega)) (fun v => rfl))) (by kernel_rfl) rfl (by kernel_rfl) (fun _ => Nat.le_of_ble_eq_true (by kernel_rfl)) ?_; rintro v32 _
            refine Sq.fact (i := 9) (R := rowR 9 1 v32 gsd.length (gsd.map Value.string)) (by kernel_rfl) row_slice ?_; rintro ⟨a33, c34, rfl, hc34, hc34'⟩
            refine Sq.vals [2] (rest := []) [.slice a33 gsd.length c34] (fun w => by kernel_rfl) ?_
            refine Sq.done ?_
            refine Ex'.next ?_
            refine Cd.seq ?_
            refine Cd.seq ?_
            refine Cd.region rfl ?_
            refine Sq.vals [0] (rest := []) [iV 0] (fun w => by kernel_rfl) ?_
            refine Sq.done ?_
            refine Ex'.next ?_
            refine Cd.block ?_
            refine Cd.loop (ι := Nat) (fun i => i ≤ gsd.length) (fun i => gsd.length - i) (fun i => [(0, iV m), (7, pV b3 0), (9, .slice a30 (((csd ++ nsd).reverse).length) c31), (10, iV (cs0.length : Int)), (11, .slice a20 ((([] : List ByteArray) ++ (((cs0 ++ ns0).reverse).drop ns0.length)).length) c21), (14, .slice a33 gsd.length c34), (15, iV (i : Int))]) (fun i => [oldR w0, srlB b3 nb4 ab5 gb6 mb7 m td, llR nb4 nsd nd, llR ab5 csd nd, llR gb6 gsd nd, mapR Value.string markV mb7 msd, rowR 9 1 (.slice a16 (((cs0 ++ ns0).reverse).length) c17) (((cs0 ++ ns0).reverse).length) (((cs0 ++ ns0).reverse).map Value.string), rowR 9 1 (.slice a20 ((([] : List ByteArray) ++ (((cs0 ++ ns0).reverse).drop ns0.length)).length) c21) ((([] : List ByteArray) ++ (((cs0 ++ ns0).reverse).drop ns0.length)).length) ((([] : List ByteArray) ++ (((cs0 ++ ns0).reverse).drop ns0.length)).map Value.string), rowR 9 1 (.slice a30 (((csd ++ nsd).reverse).length) c31) (((csd ++ nsd).reverse).length) (((csd ++ nsd).reverse).map Value.string), rowR 9 1 (.slice a33 gsd.length c34) gsd.length (gsd.map Value.string)]) 0 (Nat.zero_le _) (subB_eq (l := [0, 7, 9, 10, 11, 14, 15]) (by kernel_rfl)) (fun w hw => hw.pickB [0, 1, 2, 3, 4, 5, 6, 7, 8, 9] (by kernel_rfl) (by kernel_rfl) (by kernel_rfl)) ?_
            rintro i hL35
            try dsimp only at hL35 ⊢
            have hi := hL35
            refine Cd.seq ?_
            refine Cd.seq ?_
            refine Cd.region rfl ?_
            refine Sq.vals [0, 1, 2, 3] (rest := []) [iV (i : Int), .slice a33 gsd.length c34, iV (gsd.length : Int), bV (decide ((i : Int) < (gsd.length : Int)))] (fun w => by kernel_rfl) ?_
            refine Sq.done ?_
            refine Ex'.next ?_
            refine Cd.case (p := (i : Int) < (gsd.length : Int)) (by kernel_rfl) (fun h36 => ?_) (fun h36 => ?_)
            ·
              refine Cd.fact (i := 9) (R := rowR 9 1 (.slice a33 gsd.length c34) gsd.length (gsd.map Value.string)) (by kernel_rfl) (row_addr (by omega)) ?_; rintro ⟨b37, rfl⟩
              refine Cd.skip ?_
              refine Ex'.next ?_
              refine Cd.seq ?_
              refine Cd.block ?_
              refine Cd.seq ?_
              refine Cd.region rfl ?_
              refine Sq.vals [0, 1, 2] (rest := [3, 4, 5]) [pV b3 0, .slice (some ⟨b37, 0, none⟩) gsd.length c34, iV (i : Int)] (fun w => by kernel_rfl) ?_
              refine Sq.v (r := pV b37 i) (o_idx (b := b37) (cap := c34) (e := 9) (off := 0) (n := gsd.length) (kd := .i64) (q := (i : Int)) (i := i) (size := 1) (j := i) (by kernel_rfl) (by kernel_rfl) (by rfl) (by omega) Try.underlying22 (by kernel_rfl) (by omega)) rfl (by kernel_rfl) ?_
              refine Sq.same [9] (l := [rowR 9 1 (.slice (some ⟨b37, 0, none⟩) gsd.length c34) gsd.length (gsd.map Value.string)]) (o_loadRow (i := i) (u := sV (gsd.getD i ⟨#[]⟩)) (by kernel_rfl) (by omega) (by kernel_rfl) (get_map (by omega))) (by kernel_rfl) rfl (by kernel_rfl) rfl ?_
              refine Sq.same [1, 2, 3, 4, 5] (l := srlL b3 nb4 ab5 gb6 mb7 m td nsd csd gsd msd nd) (o_call (by kernel_rfl) Try.call42 ((Tri.eq (l2 := srlL b3 nb4 ab5 gb6 mb7 m td nsd csd gsd msd nd) (r' := bV (decide (gsd.getD i ⟨#[]⟩ ∈ csd ++ nsd))) (srl_Has (n := nd) (most := m) (target := td) (ns := nsd) (cs := csd) (gs := gsd) (ms := msd) (gsd.getD i ⟨#[]⟩) (by omega)) (by first | simp only [srlHas_eq] | rfl) (by first | simp only [srlHas_eq] | rfl)).re (vF (fun z => hS.i.b.apart _ z (getD_mem (by omega)))))) (by kernel_rfl) rfl (by kernel_rfl) rfl ?_
              refine Sq.done ?_
              refine Ex'.next ?_
              refine Cd.condF (by kernel_rfl) ?_
              refine Cd.skip ?_
              refine Ex'.blockNormal ?_
              refine Ex'.next ?_
              refine Cd.region rfl ?_
              refine Sq.vals [0] (rest := [1, 2]) [iV (i : Int)] (fun w => by kernel_rfl) ?_
              refine Sq.v (r := iV ((i : Int) + 1)) (o_add (k := .i64) (a := (i : Int)) (b := 1) (c := (i : Int) + 1) (by kernel_rfl) (by kernel_rfl) (w64 rfl (by omega))) rfl (by kernel_rfl) ?_
              refine Sq.vals [2] (rest := []) [iV ((i : Int) + 1)] (fun w => by kernel_rfl) ?_
              refine Sq.done ?_
              refine Ex'.round (g := i) (i + 1) ?_ ?_ (subB_eq (l := [0, 7, 9, 10, 11, 14, 15]) (by kernel_rfl)) (fun w hw => hw.pickB [0, 1, 2, 3, 4, 5, 6, 7, 8, 9] (by kernel_rfl) (by kernel_rfl) (by kernel_rfl))
              · (try dsimp only); exact (by omega : i + 1 ≤ gsd.length)
              · omega
            ·
              refine Cd.exit ?_
              refine Ex'.thenExit ?_
              refine Ex'.thenExit ?_
              refine Ex'.blockHit ?_
              refine Ex'.next ?_
              refine Cd.seq ?_
              refine Cd.region rfl ?_
              refine Sq.vals [0, 1, 2] (rest := [3, 4, 5, 6, 7, 8, 9, 10, 11, 12, 13, 14, 15, 16, 17, 18, 19, 20]) [.slice a33 gsd.length c34, iV (gsd.length : Int), iV m] (fun w => by kernel_rfl) ?_
              refine Sq.v (r := bV (decide ((gsd.length : Int) ≤ m))) (pureV (by kernel_rfl) rfl fun w => by kernel_rfl) rfl (by kernel_rfl) ?_
              refine Sq.re 124 rfl (vT (by omega)) ?_
              refine Sq.vals [4, 5, 6, 7] (rest := [8, 9, 10, 11, 12, 13, 14, 15, 16, 17, 18, 19, 20]) [bV true, .slice a30 (((csd ++ nsd).reverse).length) c31, iV (((csd ++ nsd).reverse).length : Int), iV (cs0.length : Int)] (fun w => by kernel_rfl) ?_
              refine Sq.v (r := bV (decide ((((csd ++ nsd).reverse).length : Int) ≥ (cs0.length : Int)))) (pureV (by kernel_rfl) rfl fun w => by kernel_rfl) rfl (by kernel_rfl) ?_
              refine Sq.re 129 rfl (vT (by rw [hS.same]; simp <;> omega)) ?_
              refine Sq.vals [9, 10, 11, 12, 13, 14] (rest := [15, 16, 17, 18, 19, 20]) [bV true, bV true, .slice a30 (((csd ++ nsd).reverse).length) c31, .slice a30 (((csd ++ nsd).reverse).length) c31, iV (((csd ++ nsd).reverse).length : Int), iV (cs0.length : Int)] (fun w => by kernel_rfl) ?_
              refine Sq.v (r := iV ((((csd ++ nsd).reverse).length : Int) - (cs0.length : Int))) (o_sub (k := .i64) (a := (((csd ++ nsd).reverse).length : Int)) (b := (cs0.length : Int)) (c := (((csd ++ nsd).reverse).length : Int) - (cs0.length : Int)) (by kernel_rfl) (by kernel_rfl) (w64 rfl (by omega))) rfl (by kernel_rfl) ?_
              refine Sq.v (r := .slice (if c31 = nsd.length then a30 else Option.map (fun y => y.add nsd.length) a30) (((csd ++ nsd).reverse).length - nsd.length) (c31 - nsd.length)) (o_cutFrom (kd := .i64) (q := (((csd ++ nsd).reverse).length : Int) - (cs0.length : Int)) (l := nsd.length) (n := ((csd ++ nsd).reverse).length) (cap := c31) (a := a30) (by kernel_rfl) (by kernel_rfl) (by rw [hS.same]; simp <;> omega) (by omega) (by omega) Try.underlying22 (by kernel_rfl)) rfl (by kernel_rfl) ?_
              refine Sq.vals [17] (rest := [18, 19, 20]) [.slice a20 ((([] : List ByteArray) ++ (((cs0 ++ ns0).reverse).drop ns0.length)).length) c21] (fun w => by kernel_rfl) ?_
              refine Sq.same [8, 7] (l := [rowR 9 1 (.slice a30 (((csd ++ nsd).reverse).length) c31) (((csd ++ nsd).reverse).length) (((csd ++ nsd).reverse).map Value.string), rowR 9 1 (.slice a20 ((([] : List ByteArray) ++ (((cs0 ++ ns0).reverse).drop ns0.length)).length) c21) ((([] : List ByteArray) ++ (((cs0 ++ ns0).reverse).drop ns0.length)).length) ((([] : List ByteArray) ++ (((cs0 ++ ns0).reverse).drop ns0.length)).map Value.string)]) (o_call (by kernel_rfl) Try.call22 (t_same03 (l := [rowR 9 1 (.slice a30 (((csd ++ nsd).reverse).length) c31) (((csd ++ nsd).reverse).length) (((csd ++ nsd).reverse).map Value.string), rowR 9 1 (.slice a20 ((([] : List ByteArray) ++ (((cs0 ++ ns0).reverse).drop ns0.length)).length) c21) ((([] : List ByteArray) ++ (((cs0 ++ ns0).reverse).drop ns0.length)).length) ((([] : List ByteArray) ++ (((cs0 ++ ns0).reverse).drop ns0.length)).map Value.string)]) (xs := ((csd ++ nsd).reverse).drop nsd.length) (ys := ([] : List ByteArray) ++ (((cs0 ++ ns0).reverse).drop ns0.length)) (fun w own hH => ⟨⟨_, Strs.cutFrom (Row.strs (hH 0 _ rfl)) (by omega)⟩, ⟨_, Row.strs (hH 1 _ rfl)⟩⟩))) (by kernel_rfl) rfl (by kernel_rfl) rfl ?_
              refine Sq.vals [19, 20] (rest := []) [bV (decide (((csd ++ nsd).reverse).drop nsd.length = ([] : List ByteArray) ++ (((cs0 ++ ns0).reverse).drop ns0.length))), bV (decide (((csd ++ nsd).reverse).drop nsd.length = ([] : List ByteArray) ++ (((cs0 ++ ns0).reverse).drop ns0.length)))] (fun w => by kernel_rfl) ?_
              refine Sq.done ?_
              refine Ex'.next ?_
              refine Cd.ret ?_
              refine Ex'.ret Try.results9 (RVs.tmp (v := bV (decide (((csd ++ nsd).reverse).drop nsd.length = ([] : List ByteArray) ++ (((cs0 ++ ns0).reverse).drop ns0.length)))) (by kernel_rfl) (RVs.nil)) (fun w hw => ?_)
              exact ⟨_, ⟨(vT (by rw [List.nil_append, keys_tail, keys_tail, hS.same])), by kernel_rfl⟩, hw⟩

theorem srlruScan_walk (m : Int) (v : Value) (xs : List ByteArray) (sc : Int) (w : World) (hm : (Lit.int .i64 m).wf = true) (h : Strs w (fun k => k < w.heap.size) v xs) (hz : ∀ k ∈ xs, k.size ≤ maxLen) (hc : (Lit.int .u8 sc).wf = true) :
    Calls Try.prog 9 #[.int .i64 m, v, .int .u8 sc] w fun e w' => e = .returned (.bool true) ∧ Below w.heap.size w w' := by
  obtain ⟨a, cap, rfl, hl⟩ := KeysIn.shape ⟨h, hz⟩
  exact law_of (srlruScan_tri (range64 hm) hl ⟨h, hz⟩ (range8 hc))

end Go.Proofs.Ytjijjfdkghcjkaa
