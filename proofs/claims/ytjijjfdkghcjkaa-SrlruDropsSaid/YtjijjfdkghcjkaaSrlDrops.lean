/- SrlruDrops: its walk. -/
import Derived.Test.YtjijjfdkghcjkaaSrlFew
import Derived.Test.YtjijjfdkghcjkaaSrlLaw
import Derived.Test.YtjijjfdkghcjkaaSrlPureD
import Derived.Test.YtjijjfdkghcjkaaSepH
set_option linter.unusedVariables false
namespace Go.Proofs.Ytjijjfdkghcjkaa
open Go.RowKit Go.MapKept

set_option maxHeartbeats 8000000 in
set_option maxRecDepth 100000 in
theorem srlruDrops_tri {w0 : World} {m : Int} {a : Option Addr} {cap : Nat} {xs : List ByteArray} {key : ByteArray} (hm : -9223372036854775808 ≤ m ∧ m ≤ 9223372036854775807) (hl : xs.length ≤ cap ∧ cap ≤ 9223372036854775807) (hs : KeysIn w0 (.slice a xs.length cap) xs) : Tri Try.prog 12 #[iV m, .slice a xs.length cap, sV key] [oldR w0] (LawP w0) := by
  refine Tri.enter (args := [iV m, .slice a xs.length cap, sV key]) Try.func12 rfl rfl rfl (fun B wz => ?_)
  refine Cd.seq ?_
  refine Cd.region rfl ?_
  refine Sq.vals [0] (rest := []) [bV false] (fun w => by kernel_rfl) ?_
  refine Sq.done ?_
  refine Ex'.next ?_
  refine Cd.seq ?_
  refine Cd.seq ?_
  refine Cd.region rfl ?_
  refine Sq.same [] (l := []) (o_call (by kernel_rfl) Try.call35 (srl_awake)) (by kernel_rfl) rfl (by kernel_rfl) rfl ?_
  refine Sq.vals [1] (rest := []) [bV false] (fun w => by kernel_rfl) ?_
  refine Sq.done ?_
  refine Ex'.next ?_
  refine Cd.condF (by kernel_rfl) ?_
  refine Cd.skip ?_
  refine Ex'.next ?_
  refine Cd.seq ?_
  refine Cd.seq ?_
  refine Cd.region rfl ?_
  refine Sq.vals [0, 1, 2, 3] (rest := [4, 5, 6, 7, 8, 9, 10, 11, 12, 13, 14, 15]) [.slice a xs.length cap, iV (xs.length : Int), bV (decide ((xs.length : Int) > 200)), bV (decide ((xs.length : Int) > 200))] (fun w => by kernel_rfl) ?_
  refine Sq.case 21 (p := (xs.length : Int) > 200) rfl (fun h1 => ?_) (fun h1 => ?_)
  ·
    refine Sq.vals [4, 5, 6, 7, 8, 9, 10, 11, 12, 13, 14, 15] (rest := []) [undef, undef, undef, bV true, bV true, undef, undef, bV true, bV true, undef, undef, bV true] (fun w => by kernel_rfl) ?_
    refine Sq.done ?_
    refine Ex'.next ?_
    refine Cd.condT (by kernel_rfl) ?_
    refine Cd.seq ?_
    refine Cd.region rfl ?_
    refine Sq.vals [0] (rest := []) [bV true] (fun w => by kernel_rfl) ?_
    refine Sq.done ?_
    refine Ex'.next ?_
    refine Cd.ret ?_
    refine Ex'.thenRet ?_
    refine Ex'.ret Try.results12 (RVs.tmp (v := bV true) (by kernel_rfl) (RVs.nil)) (fun w hw => ?_)
    exact ⟨_, ⟨rfl, by kernel_rfl⟩, hw⟩
  ·
    refine Sq.vals [4, 5, 6, 7, 8] (rest := [9, 10, 11, 12, 13, 14, 15]) [sV key, iV (key.size : Int), bV (decide ((key.size : Int) > 200)), bV (decide ((key.size : Int) > 200)), bV (decide ((key.size : Int) > 200))] (fun w => by kernel_rfl) ?_
    refine Sq.case 26 (p := (key.size : Int) > 200) rfl (fun h2 => ?_) (fun h2 => ?_)
    ·
      refine Sq.vals [9, 10, 11, 12, 13, 14, 15] (rest := []) [undef, undef, bV true, bV true, undef, undef, bV true] (fun w => by kernel_rfl) ?_
      refine Sq.done ?_
      refine Ex'.next ?_
      refine Cd.condT (by kernel_rfl) ?_
      refine Cd.seq ?_
      refine Cd.region rfl ?_
      refine Sq.vals [0] (rest := []) [bV true] (fun w => by kernel_rfl) ?_
      refine Sq.done ?_
      refine Ex'.next ?_
      refine Cd.ret ?_
      refine Ex'.thenRet ?_
      refine Ex'.ret Try.results12 (RVs.tmp (v := bV true) (by kernel_rfl) (RVs.nil)) (fun w hw => ?_)
      exact ⟨_, ⟨rfl, by kernel_rfl⟩, hw⟩
    ·
      refine Sq.vals [9, 10, 11, 12] (rest := [13, 14, 15]) [iV m, bV (decide (m < 1)), bV (decide (m < 1)), bV (decide (m < 1))] (fun w => by kernel_rfl) ?_
      refine Sq.case 30 (p := m < 1) rfl (fun h3 => ?_) (fun h3 => ?_)
      ·
        refine Sq.vals [13, 14, 15] (rest := []) [undef, undef, bV true] (fun w => by kernel_rfl) ?_
        refine Sq.done ?_
        refine Ex'.next ?_
        refine Cd.condT (by kernel_rfl) ?_
        refine Cd.seq ?_
        refine Cd.region rfl ?_
        refine Sq.vals [0] (rest := []) [bV true] (fun w => by kernel_rfl) ?_
        refine Sq.done ?_
        refine Ex'.next ?_
        refine Cd.ret ?_
        refine Ex'.thenRet ?_
        refine Ex'.ret Try.results12 (RVs.tmp (v := bV true) (by kernel_rfl) (RVs.nil)) (fun w hw => ?_)
        exact ⟨_, ⟨rfl, by kernel_rfl⟩, hw⟩
      ·
        refine Sq.vals [13, 14, 15] (rest := []) [iV m, bV (decide (m > 1000)), bV (decide (m > 1000))] (fun w => by kernel_rfl) ?_
        refine Sq.done ?_
        refine Ex'.next ?_
        refine Cd.case (p := m > 1000) (by kernel_rfl) (fun h4 => ?_) (fun h4 => ?_)
        ·
          refine Cd.seq ?_
          refine Cd.region rfl ?_
          refine Sq.vals [0] (rest := []) [bV true] (fun w => by kernel_rfl) ?_
          refine Sq.done ?_
          refine Ex'.next ?_
          refine Cd.ret ?_
          refine Ex'.thenRet ?_
          refine Ex'.ret Try.results12 (RVs.tmp (v := bV true) (by kernel_rfl) (RVs.nil)) (fun w hw => ?_)
          exact ⟨_, ⟨rfl, by kernel_rfl⟩, hw⟩
        ·
          refine Cd.skip ?_
          refine Ex'.next ?_
          refine Cd.seq ?_
          refine Cd.region rfl ?_
          refine Sq.vals [0] (rest := [1, 2]) [iV m] (fun w => by kernel_rfl) ?_
          refine Sq.ex [] (l := []) (o_call (by kernel_rfl) Try.call36 (Tri.ex (L' := fun x => srlL x.1 x.2.1 x.2.2.1 x.2.2.2.1 x.2.2.2.2 m (m / 2) [] [] [] [] 0) (srl_New m (by omega)) (fun x => by simp only [srlNew_nn (show 0 ≤ m by omega)]))) (by kernel_rfl) rfl (by kernel_rfl) (fun _ => Nat.le_of_ble_eq_true (by kernel_rfl)) ?_; rintro ⟨b5, nb6, ab7, gb8, mb9⟩ _
          refine Sq.vals [2] (rest := []) [pV b5 0] (fun w => by kernel_rfl) ?_
          refine Sq.done ?_
          refine Ex'.next ?_
          refine Cd.seq ?_
          refine Cd.seq ?_
          refine Cd.region rfl ?_
          refine Sq.vals [0, 1] (rest := []) [pV b5 0, bV false] (fun w => by kernel_rfl) ?_
          refine Sq.done ?_
          refine Ex'.next ?_
          refine Cd.condF (by kernel_rfl) ?_
          refine Cd.skip ?_
          refine Ex'.next ?_
          refine Cd.seq ?_
          refine Cd.seq ?_
          refine Cd.region rfl ?_
          refine Sq.vals [0] (rest := []) [iV 0] (fun w => by kernel_rfl) ?_
          refine Sq.done ?_
          refine Ex'.next ?_
          refine Cd.block ?_
          refine Cd.loop (ι := Nat × Int × (List ByteArray) × (List ByteArray) × (List ByteArray) × (List (ByteArray × (Bool × Bool))) × Nat) (fun ⟨k, t0, ns0, cs0, gs0, ms0, n0⟩ => k ≤ xs.length ∧ SrlI m t0 ns0 cs0 gs0 ms0 ∧ n0 ≤ k * 2000) (fun ⟨k, t0, ns0, cs0, gs0, ms0, n0⟩ => xs.length - k) (fun ⟨k, t0, ns0, cs0, gs0, ms0, n0⟩ => [(0, iV m), (1, .slice a xs.length cap), (2, sV key), (7, pV b5 0), (8, iV (k : Int))]) (fun ⟨k, t0, ns0, cs0, gs0, ms0, n0⟩ => [oldR w0, srlB b5 nb6 ab7 gb8 mb9 m t0, llR nb6 ns0 n0, llR ab7 cs0 n0, llR gb8 gs0 n0, mapR Value.string markV mb9 ms0]) (0, m / 2, [], [], [], [], 0) (⟨Nat.zero_le _, SrlI.new (by omega), Nat.le_refl _⟩) (subB_eq (l := [0, 1, 2, 7, 8]) (by kernel_rfl)) (fun w hw => hw.pickB [0, 1, 2, 3, 4, 5] (by kernel_rfl) (by kernel_rfl) (by kernel_rfl)) ?_
          rintro ⟨k, t0, ns0, cs0, gs0, ms0, n0⟩ hL10
          try dsimp only at hL10 ⊢
          obtain ⟨hk, hI, hn⟩ := hL10
          have hIn := hI.nums
          refine Cd.seq ?_
          refine Cd.seq ?_
          refine Cd.region rfl ?_
          refine Sq.vals [0, 1, 2, 3] (rest := []) [iV (k : Int), .slice a xs.length cap, iV (xs.length : Int), bV (decide ((k : Int) < (xs.length : Int)))] (fun w => by kernel_rfl) ?_
          refine Sq.done ?_
          refine Ex'.next ?_
          refine Cd.case (p := (k : Int) < (xs.length : Int)) (by kernel_rfl) (fun h11 => ?_) (fun h11 => ?_)
          ·
            obtain ⟨g12, off13, rfl⟩ := hs.addr (by omega)
            obtain ⟨kyk, hgk, hwk, hrk⟩ := hs.at (k := k) (by omega)
            refine Cd.skip ?_
            refine Ex'.next ?_
            refine Cd.seq ?_
            refine Cd.block ?_
            refine Cd.seq ?_
            refine Cd.seq ?_
            refine Cd.region rfl ?_
            refine Sq.vals [0, 1] (rest := [2, 3, 4, 5]) [.slice (some ⟨g12, off13, none⟩) xs.length cap, iV (k : Int)] (fun w => by kernel_rfl) ?_
            refine Sq.v (r := pV g12 (off13 + k)) (o_idx (b := g12) (cap := cap) (e := 9) (off := off13) (n := xs.length) (kd := .i64) (q := (k : Int)) (i := k) (size := 1) (j := off13 + k) (by kernel_rfl) (by kernel_rfl) (by rfl) (by omega) Try.underlying22 (by kernel_rfl) (by omega)) rfl (by kernel_rfl) ?_
            refine Sq.same [0] (l := [oldR w0]) (o_loadOld (b := g12) (j := off13 + k) (u := sV kyk) (by kernel_rfl) (by kernel_rfl) (hrk 0 _ rfl)) (by kernel_rfl) rfl (by kernel_rfl) rfl ?_
            refine Sq.vals [4, 5] (rest := []) [iV (kyk.size : Int), bV (decide ((kyk.size : Int) > 200))] (fun w => by kernel_rfl) ?_
            refine Sq.done ?_
            refine Ex'.next ?_
            refine Cd.case (p := (kyk.size : Int) > 200) (by kernel_rfl) (fun h14 => ?_) (fun h14 => ?_)
            ·
              refine Cd.seq ?_
              refine Cd.region rfl ?_
              refine Sq.vals [0] (rest := []) [bV true] (fun w => by kernel_rfl) ?_
              refine Sq.done ?_
              refine Ex'.next ?_
              refine Cd.ret ?_
              refine Ex'.thenRet ?_
              refine Ex'.blockRet ?_
              refine Ex'.thenRet ?_
              refine Ex'.thenRet ?_
              refine Ex'.blockRet ?_
              refine Ex'.thenRet ?_
              refine Ex'.ret Try.results12 (RVs.tmp (v := bV true) (by kernel_rfl) (RVs.nil)) (fun w hw => ?_)
              exact ⟨_, ⟨rfl, by kernel_rfl⟩, hw⟩
            ·
              refine Cd.skip ?_
              refine Ex'.next ?_
              refine Cd.region rfl ?_
              refine Sq.vals [0, 1, 2] (rest := [3, 4, 5]) [pV b5 0, .slice (some ⟨g12, off13, none⟩) xs.length cap, iV (k : Int)] (fun w => by kernel_rfl) ?_
              refine Sq.v (r := pV g12 (off13 + k)) (o_idx (b := g12) (cap := cap) (e := 9) (off := off13) (n := xs.length) (kd := .i64) (q := (k : Int)) (i := k) (size := 1) (j := off13 + k) (by kernel_rfl) (by kernel_rfl) (by rfl) (by omega) Try.underlying22 (by kernel_rfl) (by omega)) rfl (by kernel_rfl) ?_
              refine Sq.same [0] (l := [oldR w0]) (o_loadOld (b := g12) (j := off13 + k) (u := sV kyk) (by kernel_rfl) (by kernel_rfl) (hrk 0 _ rfl)) (by kernel_rfl) rfl (by kernel_rfl) rfl ?_
              refine Sq.same [1, 2, 3, 4, 5] (l := srlL b5 nb6 ab7 gb8 mb9 m t0 ns0 cs0 gs0 ms0 n0) (o_call (by kernel_rfl) Try.call37 (srl_Request (n := n0) (n' := n0 + cs0.length + 3) (most := m) (target := t0) (ns := ns0) (cs := cs0) (gs := gs0) (ms := ms0) kyk (by omega) (by omega) (by omega) (by omega))) (by kernel_rfl) rfl (by kernel_rfl) rfl ?_
              generalize hxx15 : srlReq m t0 ns0 cs0 gs0 ms0 kyk = x15
              obtain ⟨q16, q16hit, q16no, q16in, q16out⟩ := SrlI.req hI kyk hxx15
              have q16n := q16.nums
              refine Sq.done ?_
              refine Ex'.blockNormal ?_
              refine Ex'.next ?_
              refine Cd.region rfl ?_
              refine Sq.vals [0] (rest := [1, 2]) [iV (k : Int)] (fun w => by kernel_rfl) ?_
              refine Sq.v (r := iV ((k : Int) + 1)) (o_add (k := .i64) (a := (k : Int)) (b := 1) (c := (k : Int) + 1) (by kernel_rfl) (by kernel_rfl) (w64 rfl (by omega))) rfl (by kernel_rfl) ?_
              refine Sq.vals [2] (rest := []) [iV ((k : Int) + 1)] (fun w => by kernel_rfl) ?_
              refine Sq.done ?_
              refine Ex'.round (g := (k, t0, ns0, cs0, gs0, ms0, n0)) (k + 1, x15.1, x15.2.1, x15.2.2.1, x15.2.2.2.1, x15.2.2.2.2.1, n0 + cs0.length + 3) ?_ ?_ (subB_eq (l := [0, 1, 2, 7, 8]) (by kernel_rfl)) (fun w hw => hw.pickB [0, 1, 2, 3, 4, 5] (by kernel_rfl) (by kernel_rfl) (by kernel_rfl))
              · (try dsimp only); exact ⟨by omega, q16, by omega⟩
              · omega
          ·
            refine Cd.exit ?_
            refine Ex'.thenExit ?_
            refine Ex'.thenExit ?_
            refine Ex'.blockHit ?_
            refine Ex'.next ?_
            refine Cd.seq ?_
            refine Cd.region rfl ?_
            refine Sq.vals [0, 1] (rest := [2]) [pV b5 0, sV key] (fun w => by kernel_rfl) ?_
            refine Sq.same [1, 2, 3, 4, 5] (l := srlL b5 nb6 ab7 gb8 mb9 m t0 ns0 cs0 gs0 ms0 n0) (o_call (by kernel_rfl) Try.call44 (srl_Remove (n := n0) (most := m) (target := t0) (ns := ns0) (cs := cs0) (gs := gs0) (ms := ms0) key (by omega))) (by kernel_rfl) rfl (by kernel_rfl) rfl ?_
            generalize hxx17 : srlRemove m t0 ns0 cs0 gs0 ms0 key = x17
            obtain ⟨q18, q18r⟩ := SrlI.remove hI key hxx17
            have q18n := q18.nums
            refine Sq.done ?_
            refine Ex'.next ?_
            refine Cd.seq ?_
            refine Cd.region rfl ?_
            refine Sq.vals [0] (rest := [1, 2]) [pV b5 0] (fun w => by kernel_rfl) ?_
            refine Sq.ex [1, 2, 3, 4, 5] (l := srlL b5 nb6 ab7 gb8 mb9 m t0 x17.1 x17.2.1 x17.2.2.1 x17.2.2.2.1 n0) (o_call (by kernel_rfl) Try.call38 (Tri.ex (L' := fun v => srlL b5 nb6 ab7 gb8 mb9 m t0 x17.1 x17.2.1 x17.2.2.1 x17.2.2.2.1 n0 ++ [rowR 9 1 v ((x17.2.1 ++ x17.1).reverse).length (((x17.2.1 ++ x17.1).reverse).map Value.string)]) (srl_Keys (n := n0) (most := m) (target := t0) (ns := x17.1) (cs := x17.2.1) (gs := x17.2.2.1) (ms := x17.2.2.2.1) (by omega)) (fun v => by simp only [srlKeys_eq]))) (by kernel_rfl) rfl (by kernel_rfl) (fun _ => Nat.le_of_ble_eq_true (by kernel_rfl)) ?_; rintro v19 _
            refine Sq.fact (i := 6) (R := rowR 9 1 v19 (((x17.2.1 ++ x17.1).reverse).length) (((x17.2.1 ++ x17.1).reverse).map Value.string)) (by kernel_rfl) row_slice ?_; rintro ⟨a20, c21, rfl, hc21, hc21'⟩
            refine Sq.vals [2] (rest := []) [.slice a20 (((x17.2.1 ++ x17.1).reverse).length) c21] (fun w => by kernel_rfl) ?_
            refine Sq.done ?_
            refine Ex'.next ?_
            refine Cd.seq ?_
            refine Cd.region rfl ?_
            refine Sq.vals [0] (rest := [1, 2]) [pV b5 0] (fun w => by kernel_rfl) ?_
            refine Sq.same [1, 2, 3, 4, 5] (l := srlL b5 nb6 ab7 gb8 mb9 m t0 x17.1 x17.2.1 x17.2.2.1 x17.2.2.2.1 n0) (o_call (by kernel_rfl) Try.call39 (Tri.eq (l2 := srlL b5 nb6 ab7 gb8 mb9 m t0 x17.1 x17.2.1 x17.2.2.1 x17.2.2.2.1 n0) (r' := iV (x17.2.1.length : Int)) (srl_Again (n := n0) (most := m) (target := t0) (ns := x17.1) (cs := x17.2.1) (gs := x17.2.2.1) (ms := x17.2.2.2.1) (by omega)) (rfl) (rfl))) (by kernel_rfl) rfl (by kernel_rfl) rfl ?_
            refine Sq.vals [2] (rest := []) [iV (x17.2.1.length : Int)] (fun w => by kernel_rfl) ?_
            refine Sq.done ?_
            refine Ex'.next ?_
            refine Cd.seq ?_
            refine Cd.seq ?_
            refine Cd.region rfl ?_
            refine Sq.vals [0, 1] (rest := [2, 3, 4, 5, 6, 7, 8, 9, 10, 11, 12, 13]) [pV b5 0, sV key] (fun w => by kernel_rfl) ?_
            refine Sq.same [1, 2, 3, 4, 5] (l := srlL b5 nb6 ab7 gb8 mb9 m t0 x17.1 x17.2.1 x17.2.2.1 x17.2.2.2.1 n0) (o_call (by kernel_rfl) Try.call45 (srl_Adopt (n := n0) (n' := n0 + 1) (most := m) (target := t0) (ns := x17.1) (cs := x17.2.1) (gs := x17.2.2.1) (ms := x17.2.2.2.1) key (by omega) (by omega))) (by kernel_rfl) rfl (by kernel_rfl) rfl ?_
            generalize hxx22 : srlAdopt m t0 x17.1 x17.2.1 x17.2.2.1 x17.2.2.2.1 key = x22
            obtain ⟨hA, hAr, hAx⟩ := adopt_row (key := key) q18 (fun z => (mem_rm.1 (q18r.1 ▸ z)).2 rfl) hxx22
            have hAn := hA.nums
            have hLl : ((x17.2.1 ++ x22.1).reverse).length = x17.2.1.length + x22.1.length := by rw [List.length_reverse, List.length_append]
            refine Sq.vals [3, 4, 5, 6, 7, 8] (rest := [9, 10, 11, 12, 13]) [.slice a20 (((x17.2.1 ++ x17.1).reverse).length) c21, iV (((x17.2.1 ++ x17.1).reverse).length : Int), iV m, bV (decide ((((x17.2.1 ++ x17.1).reverse).length : Int) < m)), bV (!(x22.2.2.2 == (decide ((((x17.2.1 ++ x17.1).reverse).length : Int) < m)))), bV (!(x22.2.2.2 == (decide ((((x17.2.1 ++ x17.1).reverse).length : Int) < m))))] (fun w => by kernel_rfl) ?_
            refine Sq.re 71 rfl (congrArg Value.bool (show (!(x22.2.2.2 == (decide ((((x17.2.1 ++ x17.1).reverse).length : Int) < m)))) = false from (by simp [hAr]))) ?_
            refine Sq.vals [9, 10, 11] (rest := [12, 13]) [.slice a20 (((x17.2.1 ++ x17.1).reverse).length) c21, iV (((x17.2.1 ++ x17.1).reverse).length : Int), iV (x17.2.1.length : Int)] (fun w => by kernel_rfl) ?_
            refine Sq.v (r := bV (decide ((((x17.2.1 ++ x17.1).reverse).length : Int) < (x17.2.1.length : Int)))) (pureV (by kernel_rfl) rfl fun w => by kernel_rfl) rfl (by kernel_rfl) ?_
            refine Sq.re 75 rfl (vF (by simp <;> omega)) ?_
            refine Sq.vals [13] (rest := []) [bV false] (fun w => by kernel_rfl) ?_
            refine Sq.done ?_
            refine Ex'.next ?_
            refine Cd.condF (by kernel_rfl) ?_
            refine Cd.skip ?_
            refine Ex'.next ?_
            refine Cd.seq ?_
            refine Cd.region rfl ?_
            refine Sq.vals [0] (rest := [1, 2]) [pV b5 0] (fun w => by kernel_rfl) ?_
            refine Sq.ex [1, 2, 3, 4, 5] (l := srlL b5 nb6 ab7 gb8 mb9 m t0 x22.1 x17.2.1 x22.2.1 x22.2.2.1 (n0 + 1)) (o_call (by kernel_rfl) Try.call38 (Tri.ex (L' := fun v => srlL b5 nb6 ab7 gb8 mb9 m t0 x22.1 x17.2.1 x22.2.1 x22.2.2.1 (n0 + 1) ++ [rowR 9 1 v ((x17.2.1 ++ x22.1).reverse).length (((x17.2.1 ++ x22.1).reverse).map Value.string)]) (srl_Keys (n := n0 + 1) (most := m) (target := t0) (ns := x22.1) (cs := x17.2.1) (gs := x22.2.1) (ms := x22.2.2.1) (by omega)) (fun v => by simp only [srlKeys_eq]))) (by kernel_rfl) rfl (by kernel_rfl) (fun _ => Nat.le_of_ble_eq_true (by kernel_rfl)) ?_; rintro v24 _
            refine Sq.fact (i := 7) (R := rowR 9 1 v24 (((x17.2.1 ++ x22.1).reverse).length) (((x17.2.1 ++ x22.1).reverse).map Value.string)) (by kernel_rfl) row_slice ?_; rintro ⟨a25, c26, rfl, hc26, hc26'⟩
            refine Sq.vals [2] (rest := []) [.slice a25 (((x17.2.1 ++ x22.1).reverse).length) c26] (fun w => by kernel_rfl) ?_
            refine Sq.done ?_
            refine Ex'.next ?_
            refine Cd.seq ?_
            refine Cd.seq ?_
            refine Cd.region rfl ?_
            refine Sq.vals [0, 1, 2, 3, 4] (rest := [5, 6, 7, 8, 9, 10, 11, 12, 13, 14]) [.slice a20 (((x17.2.1 ++ x17.1).reverse).length) c21, iV (((x17.2.1 ++ x17.1).reverse).length : Int), iV m, bV (decide ((((x17.2.1 ++ x17.1).reverse).length : Int) < m)), bV (decide ((((x17.2.1 ++ x17.1).reverse).length : Int) < m))] (fun w => by kernel_rfl) ?_
            refine Sq.case 83 (p := (((x17.2.1 ++ x17.1).reverse).length : Int) < m) rfl (fun h27 => ?_) (fun h27 => ?_)
            ·
              obtain ⟨hx1, hx2, hx3⟩ := hAx h27
              refine Sq.fact (i := 7) (R := rowR 9 1 (.slice a25 (((x17.2.1 ++ x22.1).reverse).length) c26) (((x17.2.1 ++ x22.1).reverse).length) (((x17.2.1 ++ x22.1).reverse).map Value.string)) (by kernel_rfl) (row_addr (hx2)) ?_; rintro ⟨b28, rfl⟩
              refine Sq.vals [5, 6, 7, 8] (rest := [9, 10, 11, 12, 13, 14]) [.slice (some ⟨b28, 0, none⟩) (((x17.2.1 ++ x22.1).reverse).length) c26, .slice a20 (((x17.2.1 ++ x17.1).reverse).length) c21, iV (((x17.2.1 ++ x17.1).reverse).length : Int), iV (x17.2.1.length : Int)] (fun w => by kernel_rfl) ?_
              refine Sq.v (r := iV ((((x17.2.1 ++ x17.1).reverse).length : Int) - (x17.2.1.length : Int))) (o_sub (k := .i64) (a := (((x17.2.1 ++ x17.1).reverse).length : Int)) (b := (x17.2.1.length : Int)) (c := (((x17.2.1 ++ x17.1).reverse).length : Int) - (x17.2.1.length : Int)) (by kernel_rfl) (by kernel_rfl) (w64 rfl (by omega))) rfl (by kernel_rfl) ?_
              refine Sq.v (r := pV b28 x17.1.length) (o_idx (b := b28) (cap := c26) (e := 9) (off := 0) (n := ((x17.2.1 ++ x22.1).reverse).length) (kd := .i64) (q := (((x17.2.1 ++ x17.1).reverse).length : Int) - (x17.2.1.length : Int)) (i := x17.1.length) (size := 1) (j := x17.1.length) (by kernel_rfl) (by kernel_rfl) (by simp <;> omega) (by omega) Try.underlying22 (by kernel_rfl) (by omega)) rfl (by kernel_rfl) ?_
              refine Sq.same [7] (l := [rowR 9 1 (.slice (some ⟨b28, 0, none⟩) (((x17.2.1 ++ x22.1).reverse).length) c26) (((x17.2.1 ++ x22.1).reverse).length) (((x17.2.1 ++ x22.1).reverse).map Value.string)]) (o_loadRow (i := x17.1.length) (u := sV (((x17.2.1 ++ x22.1).reverse).getD x17.1.length ⟨#[]⟩)) (by kernel_rfl) (by omega) (by kernel_rfl) (get_map (by omega))) (by kernel_rfl) rfl (by kernel_rfl) rfl ?_
              refine Sq.vals [12] (rest := [13, 14]) [sV key] (fun w => by kernel_rfl) ?_
              refine Sq.v (r := bV (decide (((x17.2.1 ++ x22.1).reverse).getD x17.1.length ⟨#[]⟩ ≠ key))) (o_neS (a := ((x17.2.1 ++ x22.1).reverse).getD x17.1.length ⟨#[]⟩) (b := key) (by kernel_rfl) (by kernel_rfl)) rfl (by kernel_rfl) ?_
              refine Sq.re 92 rfl (vF (fun z => z hx1)) ?_
              refine Sq.vals [14] (rest := []) [bV false] (fun w => by kernel_rfl) ?_
              refine Sq.done ?_
              refine Ex'.next ?_
              refine Cd.condF (by kernel_rfl) ?_
              refine Cd.skip ?_
              refine Ex'.next ?_
              refine Cd.seq ?_
              refine Cd.region rfl ?_
              refine Sq.vals [0] (rest := [1, 2]) [pV b5 0] (fun w => by kernel_rfl) ?_
              refine Sq.ex [1, 2, 3, 4, 5] (l := srlL b5 nb6 ab7 gb8 mb9 m t0 x22.1 x17.2.1 x22.2.1 x22.2.2.1 (n0 + 1)) (o_call (by kernel_rfl) Try.call41 (Tri.ex (L' := fun v => srlL b5 nb6 ab7 gb8 mb9 m t0 x22.1 x17.2.1 x22.2.1 x22.2.2.1 (n0 + 1) ++ [rowR 9 1 v (x22.2.1).length ((x22.2.1).map Value.string)]) (srl_Ghosts (n := n0 + 1) (most := m) (target := t0) (ns := x22.1) (cs := x17.2.1) (gs := x22.2.1) (ms := x22.2.2.1) (by omega)) (fun v => rfl))) (by kernel_rfl) rfl (by kernel_rfl) (fun _ => Nat.le_of_ble_eq_true (by kernel_rfl)) ?_; rintro v29 _
              refine Sq.fact (i := 8) (R := rowR 9 1 v29 x22.2.1.length (x22.2.1.map Value.string)) (by kernel_rfl) row_slice ?_; rintro ⟨a30, c31, rfl, hc31, hc31'⟩
              refine Sq.vals [2] (rest := []) [.slice a30 x22.2.1.length c31] (fun w => by kernel_rfl) ?_
              refine Sq.done ?_
              refine Ex'.next ?_
              refine Cd.seq ?_
              refine Cd.seq ?_
              refine Cd.region rfl ?_
              refine Sq.vals [0] (rest := []) [iV 0] (fun w => by kernel_rfl) ?_
              refine Sq.done ?_
              refine Ex'.next ?_
              refine Cd.block ?_
              refine Cd.loop (ι := Nat × (List ByteArray) × (List ByteArray) × (List (ByteArray × (Bool × Bool)))) (fun ⟨j, nsd, csd, msd⟩ => DropI m t0 (x17.2.1 ++ x22.1) nsd csd x22.2.1 msd j) (fun ⟨j, nsd, csd, msd⟩ => (x17.2.1 ++ x22.1).length - j) (fun ⟨j, nsd, csd, msd⟩ => [(7, pV b5 0), (11, .slice (some ⟨b28, 0, none⟩) (((x17.2.1 ++ x22.1).reverse).length) c26), (12, .slice a30 x22.2.1.length c31), (13, iV (j : Int))]) (fun ⟨j, nsd, csd, msd⟩ => [oldR w0, srlB b5 nb6 ab7 gb8 mb9 m t0, llR nb6 nsd (n0 + 1), llR ab7 csd (n0 + 1), llR gb8 x22.2.1 (n0 + 1), mapR Value.string markV mb9 msd, rowR 9 1 (.slice a20 (((x17.2.1 ++ x17.1).reverse).length) c21) (((x17.2.1 ++ x17.1).reverse).length) (((x17.2.1 ++ x17.1).reverse).map Value.string), rowR 9 1 (.slice (some ⟨b28, 0, none⟩) (((x17.2.1 ++ x22.1).reverse).length) c26) (((x17.2.1 ++ x22.1).reverse).length) (((x17.2.1 ++ x22.1).reverse).map Value.string), rowR 9 1 (.slice a30 x22.2.1.length c31) x22.2.1.length (x22.2.1.map Value.string)]) (0, x22.1, x17.2.1, x22.2.2.1) (DropI.start hA) (subB_eq (l := [7, 11, 12, 13]) (by kernel_rfl)) (fun w hw => hw.pickB [0, 1, 2, 3, 4, 5, 6, 7, 8] (by kernel_rfl) (by kernel_rfl) (by kernel_rfl)) ?_
              rintro ⟨j, nsd, csd, msd⟩ hL32
              try dsimp only at hL32 ⊢
              have hD := hL32
              refine Cd.seq ?_
              refine Cd.seq ?_
              refine Cd.region rfl ?_
              refine Sq.vals [0, 1, 2, 3] (rest := []) [iV (j : Int), .slice (some ⟨b28, 0, none⟩) (((x17.2.1 ++ x22.1).reverse).length) c26, iV (((x17.2.1 ++ x22.1).reverse).length : Int), bV (decide ((j : Int) < (((x17.2.1 ++ x22.1).reverse).length : Int)))] (fun w => by kernel_rfl) ?_
              refine Sq.done ?_
              refine Ex'.next ?_
              refine Cd.case (p := (j : Int) < (((x17.2.1 ++ x22.1).reverse).length : Int)) (by kernel_rfl) (fun h33 => ?_) (fun h33 => ?_)
              ·
                refine Cd.skip ?_
                refine Ex'.next ?_
                refine Cd.seq ?_
                refine Cd.block ?_
                refine Cd.seq ?_
                refine Cd.region rfl ?_
                refine Sq.vals [0] (rest := [1, 2, 3, 4, 5, 6]) [pV b5 0] (fun w => by kernel_rfl) ?_
                refine Sq.same [1, 2, 3, 4, 5] (l := srlL b5 nb6 ab7 gb8 mb9 m t0 nsd csd x22.2.1 msd (n0 + 1)) (o_call (by kernel_rfl) Try.call46 (srl_Drop (n := n0 + 1) (most := m) (target := t0) (ns := nsd) (cs := csd) (gs := x22.2.1) (ms := msd) (by omega))) (by kernel_rfl) rfl (by kernel_rfl) rfl ?_
                generalize hxx34 : srlDrop m t0 nsd csd x22.2.1 msd = x34
                have hj2 : j < (x17.2.1 ++ x22.1).length := by have := h33; simp only [List.length_reverse] at this; omega
                obtain ⟨hD2, hDok, hDk⟩ := hD.step hj2 hxx34
                refine Sq.vals [2, 3, 4, 5, 6] (rest := []) [.tuple #[sV x34.2.2.2.1, bV x34.2.2.2.2], sV x34.2.2.2.1, bV x34.2.2.2.2, sV x34.2.2.2.1, bV x34.2.2.2.2] (fun w => by kernel_rfl) ?_
                refine Sq.done ?_
                refine Ex'.next ?_
                refine Cd.seq ?_
                refine Cd.region rfl ?_
                refine Sq.vals [0, 1, 2] (rest := [3, 4, 5, 6, 7, 8, 9]) [bV x34.2.2.2.2, bV (!x34.2.2.2.2), bV (!x34.2.2.2.2)] (fun w => by kernel_rfl) ?_
                refine Sq.re 109 rfl (congrArg Value.bool (show (!x34.2.2.2.2) = false from (by simp [hDok]))) ?_
                refine Sq.vals [3, 4, 5] (rest := [6, 7, 8, 9]) [sV x34.2.2.2.1, .slice (some ⟨b28, 0, none⟩) (((x17.2.1 ++ x22.1).reverse).length) c26, iV (j : Int)] (fun w => by kernel_rfl) ?_
                refine Sq.v (r := pV b28 j) (o_idx (b := b28) (cap := c26) (e := 9) (off := 0) (n := ((x17.2.1 ++ x22.1).reverse).length) (kd := .i64) (q := (j : Int)) (i := j) (size := 1) (j := j) (by kernel_rfl) (by kernel_rfl) (by rfl) (by omega) Try.underlying22 (by kernel_rfl) (by omega)) rfl (by kernel_rfl) ?_
                refine Sq.same [7] (l := [rowR 9 1 (.slice (some ⟨b28, 0, none⟩) (((x17.2.1 ++ x22.1).reverse).length) c26) (((x17.2.1 ++ x22.1).reverse).length) (((x17.2.1 ++ x22.1).reverse).map Value.string)]) (o_loadRow (i := j) (u := sV (((x17.2.1 ++ x22.1).reverse).getD j ⟨#[]⟩)) (by kernel_rfl) (by omega) (by kernel_rfl) (get_map (by omega))) (by kernel_rfl) rfl (by kernel_rfl) rfl ?_
                refine Sq.v (r := bV (decide (x34.2.2.2.1 ≠ ((x17.2.1 ++ x22.1).reverse).getD j ⟨#[]⟩))) (o_neS (a := x34.2.2.2.1) (b := ((x17.2.1 ++ x22.1).reverse).getD j ⟨#[]⟩) (by kernel_rfl) (by kernel_rfl)) rfl (by kernel_rfl) ?_
                refine Sq.re 115 rfl (vF (fun z => z hDk)) ?_
                refine Sq.vals [9] (rest := []) [bV false] (fun w => by kernel_rfl) ?_
                refine Sq.done ?_
                refine Ex'.next ?_
                refine Cd.condF (by kernel_rfl) ?_
                refine Cd.skip ?_
                refine Ex'.blockNormal ?_
                refine Ex'.next ?_
                refine Cd.region rfl ?_
                refine Sq.vals [0] (rest := [1, 2]) [iV (j : Int)] (fun w => by kernel_rfl) ?_
                refine Sq.v (r := iV ((j : Int) + 1)) (o_add (k := .i64) (a := (j : Int)) (b := 1) (c := (j : Int) + 1) (by kernel_rfl) (by kernel_rfl) (w64 rfl (by omega))) rfl (by kernel_rfl) ?_
                refine Sq.vals [2] (rest := []) [iV ((j : Int) + 1)] (fun w => by kernel_rfl) ?_
                refine Sq.done ?_
                refine Ex'.round (g := (j, nsd, csd, msd)) (j + 1, x34.1, x34.2.1, x34.2.2.1) ?_ ?_ (subB_eq (l := [7, 11, 12, 13]) (by kernel_rfl)) (fun w hw => hw.pickB [0, 1, 2, 3, 4, 5, 6, 7, 8] (by kernel_rfl) (by kernel_rfl) (by kernel_rfl))
                · (try dsimp only); exact hD2
                · omega
              ·
                obtain ⟨hcd, hnd⟩ := hD.fin (by have := h33; simp only [List.length_reverse] at this; omega)
                refine Cd.exit ?_
                refine Ex'.thenExit ?_
                refine Ex'.thenExit ?_
                refine Ex'.blockHit ?_
                refine Ex'.next ?_
                refine Cd.seq ?_
                refine Cd.region rfl ?_
                refine Sq.vals [0] (rest := [1, 2, 3, 4, 5, 6, 7, 8, 9, 10, 11, 12, 13, 14]) [pV b5 0] (fun w => by kernel_rfl) ?_
                refine Sq.same [1, 2, 3, 4, 5] (l := srlL b5 nb6 ab7 gb8 mb9 m t0 nsd csd x22.2.1 msd (n0 + 1)) (o_call (by kernel_rfl) Try.call40 (Tri.eq (l2 := srlL b5 nb6 ab7 gb8 mb9 m t0 nsd csd x22.2.1 msd (n0 + 1)) (r' := iV ((csd.length : Int) + nsd.length)) (srl_Len (n := n0 + 1) (most := m) (target := t0) (ns := nsd) (cs := csd) (gs := x22.2.1) (ms := msd) (by omega)) (by first | simp only [srlLen_sum] | rfl) (by first | simp only [srlLen_sum] | rfl))) (by kernel_rfl) rfl (by kernel_rfl) rfl ?_
                refine Sq.v (r := bV (decide ((csd.length : Int) + nsd.length = 0))) (o_eqI (k := .i64) (a := (csd.length : Int) + nsd.length) (b := 0) (by kernel_rfl) (by kernel_rfl)) rfl (by kernel_rfl) ?_
                refine Sq.re 119 rfl (vT (by rw [hcd, hnd]; rfl)) ?_
                refine Sq.vals [3, 4] (rest := [5, 6, 7, 8, 9, 10, 11, 12, 13, 14]) [bV true, pV b5 0] (fun w => by kernel_rfl) ?_
                refine Sq.same [1, 2, 3, 4, 5] (l := srlL b5 nb6 ab7 gb8 mb9 m t0 nsd csd x22.2.1 msd (n0 + 1)) (o_call (by kernel_rfl) Try.call39 (Tri.eq (l2 := srlL b5 nb6 ab7 gb8 mb9 m t0 nsd csd x22.2.1 msd (n0 + 1)) (r' := iV (csd.length : Int)) (srl_Again (n := n0 + 1) (most := m) (target := t0) (ns := nsd) (cs := csd) (gs := x22.2.1) (ms := msd) (by omega)) (rfl) (rfl))) (by kernel_rfl) rfl (by kernel_rfl) rfl ?_
                refine Sq.v (r := bV (decide ((csd.length : Int) = 0))) (o_eqI (k := .i64) (a := (csd.length : Int)) (b := 0) (by kernel_rfl) (by kernel_rfl)) rfl (by kernel_rfl) ?_
                refine Sq.re 123 rfl (vT (by rw [hcd]; rfl)) ?_
                refine Sq.vals [7, 8, 9] (rest := [10, 11, 12, 13, 14]) [bV true, bV true, pV b5 0] (fun w => by kernel_rfl) ?_
                refine Sq.ex [1, 2, 3, 4, 5] (l := srlL b5 nb6 ab7 gb8 mb9 m t0 nsd csd x22.2.1 msd (n0 + 1)) (o_call (by kernel_rfl) Try.call41 (Tri.ex (L' := fun v => srlL b5 nb6 ab7 gb8 mb9 m t0 nsd csd x22.2.1 msd (n0 + 1) ++ [rowR 9 1 v (x22.2.1).length ((x22.2.1).map Value.string)]) (srl_Ghosts (n := n0 + 1) (most := m) (target := t0) (ns := nsd) (cs := csd) (gs := x22.2.1) (ms := msd) (by omega)) (fun v => rfl))) (by kernel_rfl) rfl (by kernel_rfl) (fun _ => Nat.le_of_ble_eq_true (by kernel_rfl)) ?_; rintro v36 _
                refine Sq.fact (i := 9) (R := rowR 9 1 v36 x22.2.1.length (x22.2.1.map Value.string)) (by kernel_rfl) row_slice ?_; rintro ⟨a37, c38, rfl, hc38, hc38'⟩
                refine Sq.vals [11] (rest := [12, 13, 14]) [.slice a30 x22.2.1.length c31] (fun w => by kernel_rfl) ?_
                refine Sq.same [9, 8] (l := [rowR 9 1 (.slice a37 x22.2.1.length c38) x22.2.1.length (x22.2.1.map Value.string), rowR 9 1 (.slice a30 x22.2.1.length c31) x22.2.1.length (x22.2.1.map Value.string)]) (o_call (by kernel_rfl) Try.call22 ((t_same03 (l := [rowR 9 1 (.slice a37 x22.2.1.length c38) x22.2.1.length (x22.2.1.map Value.string), rowR 9 1 (.slice a30 x22.2.1.length c31) x22.2.1.length (x22.2.1.map Value.string)]) (xs := x22.2.1) (ys := x22.2.1) (fun w own hH => ⟨⟨_, Row.strs (hH 0 _ rfl)⟩, ⟨_, Row.strs (hH 1 _ rfl)⟩⟩)).re (vT rfl))) (by kernel_rfl) rfl (by kernel_rfl) rfl ?_
                refine Sq.vals [13, 14] (rest := []) [bV true, bV true] (fun w => by kernel_rfl) ?_
                refine Sq.done ?_
                refine Ex'.next ?_
                refine Cd.ret ?_
                refine Ex'.ret Try.results12 (RVs.tmp (v := bV true) (by kernel_rfl) (RVs.nil)) (fun w hw => ?_)
                exact ⟨_, ⟨rfl, by kernel_rfl⟩, hw⟩
            ·
              refine Sq.vals [5, 6, 7, 8, 9, 10, 11, 12, 13, 14] (rest := []) [undef, undef, undef, undef, undef, undef, undef, undef, undef, bV false] (fun w => by kernel_rfl) ?_
              refine Sq.done ?_
              refine Ex'.next ?_
              refine Cd.condF (by kernel_rfl) ?_
              refine Cd.skip ?_
              refine Ex'.next ?_
              refine Cd.seq ?_
              refine Cd.region rfl ?_
              refine Sq.vals [0] (rest := [1, 2]) [pV b5 0] (fun w => by kernel_rfl) ?_
              refine Sq.ex [1, 2, 3, 4, 5] (l := srlL b5 nb6 ab7 gb8 mb9 m t0 x22.1 x17.2.1 x22.2.1 x22.2.2.1 (n0 + 1)) (o_call (by kernel_rfl) Try.call41 (Tri.ex (L' := fun v => srlL b5 nb6 ab7 gb8 mb9 m t0 x22.1 x17.2.1 x22.2.1 x22.2.2.1 (n0 + 1) ++ [rowR 9 1 v (x22.2.1).length ((x22.2.1).map Value.string)]) (srl_Ghosts (n := n0 + 1) (most := m) (target := t0) (ns := x22.1) (cs := x17.2.1) (gs := x22.2.1) (ms := x22.2.2.1) (by omega)) (fun v => rfl))) (by kernel_rfl) rfl (by kernel_rfl) (fun _ => Nat.le_of_ble_eq_true (by kernel_rfl)) ?_; rintro v39 _
              refine Sq.fact (i := 8) (R := rowR 9 1 v39 x22.2.1.length (x22.2.1.map Value.string)) (by kernel_rfl) row_slice ?_; rintro ⟨a40, c41, rfl, hc41, hc41'⟩
              refine Sq.vals [2] (rest := []) [.slice a40 x22.2.1.length c41] (fun w => by kernel_rfl) ?_
              refine Sq.done ?_
              refine Ex'.next ?_
              refine Cd.seq ?_
              refine Cd.seq ?_
              refine Cd.region rfl ?_
              refine Sq.vals [0] (rest := []) [iV 0] (fun w => by kernel_rfl) ?_
              refine Sq.done ?_
              refine Ex'.next ?_
              refine Cd.block ?_
              refine Cd.loop (ι := Nat × (List ByteArray) × (List ByteArray) × (List (ByteArray × (Bool × Bool)))) (fun ⟨j, nsd, csd, msd⟩ => DropI m t0 (x17.2.1 ++ x22.1) nsd csd x22.2.1 msd j) (fun ⟨j, nsd, csd, msd⟩ => (x17.2.1 ++ x22.1).length - j) (fun ⟨j, nsd, csd, msd⟩ => [(7, pV b5 0), (11, .slice a25 (((x17.2.1 ++ x22.1).reverse).length) c26), (12, .slice a40 x22.2.1.length c41), (13, iV (j : Int))]) (fun ⟨j, nsd, csd, msd⟩ => [oldR w0, srlB b5 nb6 ab7 gb8 mb9 m t0, llR nb6 nsd (n0 + 1), llR ab7 csd (n0 + 1), llR gb8 x22.2.1 (n0 + 1), mapR Value.string markV mb9 msd, rowR 9 1 (.slice a20 (((x17.2.1 ++ x17.1).reverse).length) c21) (((x17.2.1 ++ x17.1).reverse).length) (((x17.2.1 ++ x17.1).reverse).map Value.string), rowR 9 1 (.slice a25 (((x17.2.1 ++ x22.1).reverse).length) c26) (((x17.2.1 ++ x22.1).reverse).length) (((x17.2.1 ++ x22.1).reverse).map Value.string), rowR 9 1 (.slice a40 x22.2.1.length c41) x22.2.1.length (x22.2.1.map Value.string)]) (0, x22.1, x17.2.1, x22.2.2.1) (DropI.start hA) (subB_eq (l := [7, 11, 12, 13]) (by kernel_rfl)) (fun w hw => hw.pickB [0, 1, 2, 3, 4, 5, 6, 7, 8] (by kernel_rfl) (by kernel_rfl) (by kernel_rfl)) ?_
              rintro ⟨j, nsd, csd, msd⟩ hL42
              try dsimp only at hL42 ⊢
              have hD := hL42
              refine Cd.seq ?_
              refine Cd.seq ?_
              refine Cd.region rfl ?_
              refine Sq.vals [0, 1, 2, 3] (rest := []) [iV (j : Int), .slice a25 (((x17.2.1 ++ x22.1).reverse).length) c26, iV (((x17.2.1 ++ x22.1).reverse).length : Int), bV (decide ((j : Int) < (((x17.2.1 ++ x22.1).reverse).length : Int)))] (fun w => by kernel_rfl) ?_
              refine Sq.done ?_
              refine Ex'.next ?_
              refine Cd.case (p := (j : Int) < (((x17.2.1 ++ x22.1).reverse).length : Int)) (by kernel_rfl) (fun h43 => ?_) (fun h43 => ?_)
              ·
                refine Cd.fact (i := 7) (R := rowR 9 1 (.slice a25 (((x17.2.1 ++ x22.1).reverse).length) c26) (((x17.2.1 ++ x22.1).reverse).length) (((x17.2.1 ++ x22.1).reverse).map Value.string)) (by kernel_rfl) (row_addr (by omega)) ?_; rintro ⟨b44, rfl⟩
                refine Cd.skip ?_
                refine Ex'.next ?_
                refine Cd.seq ?_
                refine Cd.block ?_
                refine Cd.seq ?_
                refine Cd.region rfl ?_
                refine Sq.vals [0] (rest := [1, 2, 3, 4, 5, 6]) [pV b5 0] (fun w => by kernel_rfl) ?_
                refine Sq.same [1, 2, 3, 4, 5] (l := srlL b5 nb6 ab7 gb8 mb9 m t0 nsd csd x22.2.1 msd (n0 + 1)) (o_call (by kernel_rfl) Try.call46 (srl_Drop (n := n0 + 1) (most := m) (target := t0) (ns := nsd) (cs := csd) (gs := x22.2.1) (ms := msd) (by omega))) (by kernel_rfl) rfl (by kernel_rfl) rfl ?_
                generalize hxx45 : srlDrop m t0 nsd csd x22.2.1 msd = x45
                have hj2 : j < (x17.2.1 ++ x22.1).length := by have := h43; simp only [List.length_reverse] at this; omega
                obtain ⟨hD2, hDok, hDk⟩ := hD.step hj2 hxx45
                refine Sq.vals [2, 3, 4, 5, 6] (rest := []) [.tuple #[sV x45.2.2.2.1, bV x45.2.2.2.2], sV x45.2.2.2.1, bV x45.2.2.2.2, sV x45.2.2.2.1, bV x45.2.2.2.2] (fun w => by kernel_rfl) ?_
                refine Sq.done ?_
                refine Ex'.next ?_
                refine Cd.seq ?_
                refine Cd.region rfl ?_
                refine Sq.vals [0, 1, 2] (rest := [3, 4, 5, 6, 7, 8, 9]) [bV x45.2.2.2.2, bV (!x45.2.2.2.2), bV (!x45.2.2.2.2)] (fun w => by kernel_rfl) ?_
                refine Sq.re 109 rfl (congrArg Value.bool (show (!x45.2.2.2.2) = false from (by simp [hDok]))) ?_
                refine Sq.vals [3, 4, 5] (rest := [6, 7, 8, 9]) [sV x45.2.2.2.1, .slice (some ⟨b44, 0, none⟩) (((x17.2.1 ++ x22.1).reverse).length) c26, iV (j : Int)] (fun w => by kernel_rfl) ?_
                refine Sq.v (r := pV b44 j) (o_idx (b := b44) (cap := c26) (e := 9) (off := 0) (n := ((x17.2.1 ++ x22.1).reverse).length) (kd := .i64) (q := (j : Int)) (i := j) (size := 1) (j := j) (by kernel_rfl) (by kernel_rfl) (by rfl) (by omega) Try.underlying22 (by kernel_rfl) (by omega)) rfl (by kernel_rfl) ?_
                refine Sq.same [7] (l := [rowR 9 1 (.slice (some ⟨b44, 0, none⟩) (((x17.2.1 ++ x22.1).reverse).length) c26) (((x17.2.1 ++ x22.1).reverse).length) (((x17.2.1 ++ x22.1).reverse).map Value.string)]) (o_loadRow (i := j) (u := sV (((x17.2.1 ++ x22.1).reverse).getD j ⟨#[]⟩)) (by kernel_rfl) (by omega) (by kernel_rfl) (get_map (by omega))) (by kernel_rfl) rfl (by kernel_rfl) rfl ?_
                refine Sq.v (r := bV (decide (x45.2.2.2.1 ≠ ((x17.2.1 ++ x22.1).reverse).getD j ⟨#[]⟩))) (o_neS (a := x45.2.2.2.1) (b := ((x17.2.1 ++ x22.1).reverse).getD j ⟨#[]⟩) (by kernel_rfl) (by kernel_rfl)) rfl (by kernel_rfl) ?_
                refine Sq.re 115 rfl (vF (fun z => z hDk)) ?_
                refine Sq.vals [9] (rest := []) [bV false] (fun w => by kernel_rfl) ?_
                refine Sq.done ?_
                refine Ex'.next ?_
                refine Cd.condF (by kernel_rfl) ?_
                refine Cd.skip ?_
                refine Ex'.blockNormal ?_
                refine Ex'.next ?_
                refine Cd.region rfl ?_
                refine Sq.vals [0] (rest := [1, 2]) [iV (j : Int)] (fun w => by kernel_rfl) ?_
                refine Sq.v (r := iV ((j : Int) + 1)) (o_add (k := .i64) (a := (j : Int)) (b := 1) (c := (j : Int) + 1) (by kernel_rfl) (by kernel_rfl) (w64 rfl (by omega))) rfl (by kernel_rfl) ?_
                refine Sq.vals [2] (rest := []) [iV ((j : Int) + 1)] (fun w => by kernel_rfl) ?_
                refine Sq.done ?_
                refine Ex'.round (g := (j, nsd, csd, msd)) (j + 1, x45.1, x45.2.1, x45.2.2.1) ?_ ?_ (subB_eq (l := [7, 11, 12, 13]) (by kernel_rfl)) (fun w hw => hw.pickB [0, 1, 2, 3, 4, 5, 6, 7, 8] (by kernel_rfl) (by kernel_rfl) (by kernel_rfl))
                · (try dsimp only); exact hD2
                · omega
              ·
                obtain ⟨hcd, hnd⟩ := hD.fin (by have := h43; simp only [List.length_reverse] at this; omega)
                refine Cd.exit ?_
                refine Ex'.thenExit ?_
                refine Ex'.thenExit ?_
                refine Ex'.blockHit ?_
                refine Ex'.next ?_
                refine Cd.seq ?_
                refine Cd.region rfl ?_
                refine Sq.vals [0] (rest := [1, 2, 3, 4, 5, 6, 7, 8, 9, 10, 11, 12, 13, 14]) [pV b5 0] (fun w => by kernel_rfl) ?_
                refine Sq.same [1, 2, 3, 4, 5] (l := srlL b5 nb6 ab7 gb8 mb9 m t0 nsd csd x22.2.1 msd (n0 + 1)) (o_call (by kernel_rfl) Try.call40 (Tri.eq (l2 := srlL b5 nb6 ab7 gb8 mb9 m t0 nsd csd x22.2.1 msd (n0 + 1)) (r' := iV ((csd.length : Int) + nsd.length)) (srl_Len (n := n0 + 1) (most := m) (target := t0) (ns := nsd) (cs := csd) (gs := x22.2.1) (ms := msd) (by omega)) (by first | simp only [srlLen_sum] | rfl) (by first | simp only [srlLen_sum] | rfl))) (by kernel_rfl) rfl (by kernel_rfl) rfl ?_
                refine Sq.v (r := bV (decide ((csd.length : Int) + nsd.length = 0))) (o_eqI (k := .i64) (a := (csd.length : Int) + nsd.length) (b := 0) (by kernel_rfl) (by kernel_rfl)) rfl (by kernel_rfl) ?_
                refine Sq.re 119 rfl (vT (by rw [hcd, hnd]; rfl)) ?_
                refine Sq.vals [3, 4] (rest := [5, 6, 7, 8, 9, 10, 11, 12, 13, 14]) [bV true, pV b5 0] (fun w => by kernel_rfl) ?_
                refine Sq.same [1, 2, 3, 4, 5] (l := srlL b5 nb6 ab7 gb8 mb9 m t0 nsd csd x22.2.1 msd (n0 + 1)) (o_call (by kernel_rfl) Try.call39 (Tri.eq (l2 := srlL b5 nb6 ab7 gb8 mb9 m t0 nsd csd x22.2.1 msd (n0 + 1)) (r' := iV (csd.length : Int)) (srl_Again (n := n0 + 1) (most := m) (target := t0) (ns := nsd) (cs := csd) (gs := x22.2.1) (ms := msd) (by omega)) (rfl) (rfl))) (by kernel_rfl) rfl (by kernel_rfl) rfl ?_
                refine Sq.v (r := bV (decide ((csd.length : Int) = 0))) (o_eqI (k := .i64) (a := (csd.length : Int)) (b := 0) (by kernel_rfl) (by kernel_rfl)) rfl (by kernel_rfl) ?_
                refine Sq.re 123 rfl (vT (by rw [hcd]; rfl)) ?_
                refine Sq.vals [7, 8, 9] (rest := [10, 11, 12, 13, 14]) [bV true, bV true, pV b5 0] (fun w => by kernel_rfl) ?_
                refine Sq.ex [1, 2, 3, 4, 5] (l := srlL b5 nb6 ab7 gb8 mb9 m t0 nsd csd x22.2.1 msd (n0 + 1)) (o_call (by kernel_rfl) Try.call41 (Tri.ex (L' := fun v => srlL b5 nb6 ab7 gb8 mb9 m t0 nsd csd x22.2.1 msd (n0 + 1) ++ [rowR 9 1 v (x22.2.1).length ((x22.2.1).map Value.string)]) (srl_Ghosts (n := n0 + 1) (most := m) (target := t0) (ns := nsd) (cs := csd) (gs := x22.2.1) (ms := msd) (by omega)) (fun v => rfl))) (by kernel_rfl) rfl (by kernel_rfl) (fun _ => Nat.le_of_ble_eq_true (by kernel_rfl)) ?_; rintro v47 _
                refine Sq.fact (i := 9) (R := rowR 9 1 v47 x22.2.1.length (x22.2.1.map Value.string)) (by kernel_rfl) row_slice ?_; rintro ⟨a48, c49, rfl, hc49, hc49'⟩
                refine Sq.vals [11] (rest := [12, 13, 14]) [.slice a40 x22.2.1.length c41] (fun w => by kernel_rfl) ?_
                refine Sq.same [9, 8] (l := [rowR 9 1 (.slice a48 x22.2.1.length c49) x22.2.1.length (x22.2.1.map Value.string), rowR 9 1 (.slice a40 x22.2.1.length c41) x22.2.1.length (x22.2.1.map Value.string)]) (o_call (by kernel_rfl) Try.call22 ((t_same03 (l := [rowR 9 1 (.slice a48 x22.2.1.length c49) x22.2.1.length (x22.2.1.map Value.string), rowR 9 1 (.slice a40 x22.2.1.length c41) x22.2.1.length (x22.2.1.map Value.string)]) (xs := x22.2.1) (ys := x22.2.1) (fun w own hH => ⟨⟨_, Row.strs (hH 0 _ rfl)⟩, ⟨_, Row.strs (hH 1 _ rfl)⟩⟩)).re (vT rfl))) (by kernel_rfl) rfl (by kernel_rfl) rfl ?_
                refine Sq.vals [13, 14] (rest := []) [bV true, bV true] (fun w => by kernel_rfl) ?_
                refine Sq.done ?_
                refine Ex'.next ?_
                refine Cd.ret ?_
                refine Ex'.ret Try.results12 (RVs.tmp (v := bV true) (by kernel_rfl) (RVs.nil)) (fun w hw => ?_)
                exact ⟨_, ⟨rfl, by kernel_rfl⟩, hw⟩

theorem srlruDrops_walk (m : Int) (v : Value) (xs : List ByteArray) (key : ByteArray) (w : World) (hm : (Lit.int .i64 m).wf = true) (h : Strs w (fun k => k < w.heap.size) v xs) (hz : ∀ k ∈ xs, k.size ≤ maxLen) (hk : key.size ≤ maxLen) :
    Calls Try.prog 12 #[.int .i64 m, v, .string key] w fun e w' => e = .returned (.bool true) ∧ Below w.heap.size w w' := by
  obtain ⟨a, cap, rfl, hl⟩ := KeysIn.shape ⟨h, hz⟩
  exact law_of (srlruDrops_tri (range64 hm) hl ⟨h, hz⟩)

end Go.Proofs.Ytjijjfdkghcjkaa
