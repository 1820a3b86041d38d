/- DrawLanes: its walk. -/
import Derived.Test.YthbffkdfahlpdaaTold
set_option linter.unusedVariables false
namespace Go.Proofs.Ythbffkdfahlpdaa
open Go.RowKit Go.MapKept
theorem says_at {l c : List Int} (he : c = says l c.length) {i : Nat} (h : i < c.length) : c.getD i 0 = (l.drop i).headD 0 := (congrArg (fun z : List Int => z.getD i 0) he).trans (says_get l h)
set_option maxHeartbeats 8000000 in
set_option maxRecDepth 100000 in
theorem drawLanes_tri {w0 : World} {la a : Option Addr} {lc cap : Nat} {ls : List (List Int)} {xs : List Int} (hL : Lanes w0 (fun k => k < w0.heap.size) (.slice la ls.length lc) ls) (hs : IntsIn w0 (.slice a xs.length cap) xs) : Tri Try.prog 6 #[.slice la ls.length lc, .slice a xs.length cap] [oldR w0] (LawP w0) := by
  refine Tri.enter (args := [.slice la ls.length lc, .slice a xs.length cap]) Try.func6 rfl rfl rfl (fun B wz => ?_)
  refine Cd.seq ?_
  refine Cd.region rfl ?_
  refine Sq.vals [0] (rest := []) [bV false] (fun w => by kernel_rfl) ?_
  refine Sq.done ?_
  refine Ex'.next ?_
  refine Cd.seq ?_
  refine Cd.seq ?_
  refine Cd.region rfl ?_
  refine Sq.same [] (l := []) (o_call (by kernel_rfl) Try.call14 (awake_draw)) (by kernel_rfl) rfl (by kernel_rfl) rfl ?_
  refine Sq.vals [1] (rest := []) [bV false] (fun w => by kernel_rfl) ?_
  refine Sq.done ?_
  refine Ex'.next ?_
  refine Cd.condF (by kernel_rfl) ?_
  refine Cd.skip ?_
  refine Ex'.next ?_
  refine Cd.seq ?_
  refine Cd.seq ?_
  refine Cd.region rfl ?_
  refine Sq.vals [0, 1, 2, 3] (rest := [4, 5, 6, 7]) [.slice la ls.length lc, iV (ls.length : Int), bV (decide ((ls.length : Int) > 20)), bV (decide ((ls.length : Int) > 20))] (fun w => by kernel_rfl) ?_
  refine Sq.case 18 (p := (ls.length : Int) > 20) rfl (fun h1 => ?_) (fun h1 => ?_)
  ·
    refine Sq.vals [4, 5, 6, 7] (rest := []) [undef, undef, undef, bV true] (fun w => by kernel_rfl) ?_
    refine Sq.done ?_
    refine Ex'.next ?_
    refine Cd.condT (by kernel_rfl) ?_
    refine Cd.seq ?_
    refine Cd.region rfl ?_
    refine Sq.vals [0] (rest := []) [bV true] (fun w => by kernel_rfl) ?_
    refine Sq.done ?_
    refine Ex'.next ?_
    refine Cd.ret ?_
    refine Ex'.thenRet ?_
    refine Ex'.ret Try.results6 (RVs.tmp (v := bV true) (by kernel_rfl) (RVs.nil)) (fun w hw => ?_)
    exact ⟨_, ⟨rfl, by kernel_rfl⟩, hw⟩
  ·
    refine Sq.vals [4, 5, 6, 7] (rest := []) [.slice a xs.length cap, iV (xs.length : Int), bV (decide ((xs.length : Int) > 200)), bV (decide ((xs.length : Int) > 200))] (fun w => by kernel_rfl) ?_
    refine Sq.done ?_
    refine Ex'.next ?_
    refine Cd.case (p := (xs.length : Int) > 200) (by kernel_rfl) (fun h2 => ?_) (fun h2 => ?_)
    ·
      refine Cd.seq ?_
      refine Cd.region rfl ?_
      refine Sq.vals [0] (rest := []) [bV true] (fun w => by kernel_rfl) ?_
      refine Sq.done ?_
      refine Ex'.next ?_
      refine Cd.ret ?_
      refine Ex'.thenRet ?_
      refine Ex'.ret Try.results6 (RVs.tmp (v := bV true) (by kernel_rfl) (RVs.nil)) (fun w hw => ?_)
      exact ⟨_, ⟨rfl, by kernel_rfl⟩, hw⟩
    ·
      refine Cd.skip ?_
      refine Ex'.next ?_
      refine Cd.seq ?_
      refine Cd.seq ?_
      refine Cd.region rfl ?_
      refine Sq.vals [0] (rest := []) [iV 0] (fun w => by kernel_rfl) ?_
      refine Sq.done ?_
      refine Ex'.next ?_
      refine Cd.block ?_
      refine Cd.loop (ι := Nat) (fun i0 => i0 ≤ ls.length ∧ ∀ j l, j < i0 → ls[j]? = some l → l.length ≤ 300) (fun i0 => ls.length - i0) (fun i0 => [(0, .slice la ls.length lc), (1, .slice a xs.length cap), (5, iV (i0 : Int))]) (fun i0 => [oldR w0]) 0 (⟨Nat.zero_le _, fun j l h => absurd h (Nat.not_lt_zero _)⟩) (subB_eq (l := [0, 1, 5]) (by kernel_rfl)) (fun w hw => hw.pickB [0] (by kernel_rfl) (by kernel_rfl) (by kernel_rfl)) ?_
      rintro i0 hL3
      try dsimp only at hL3 ⊢
      obtain ⟨hi0, hb0⟩ := hL3
      refine Cd.seq ?_
      refine Cd.seq ?_
      refine Cd.region rfl ?_
      refine Sq.vals [0, 1, 2, 3] (rest := []) [iV (i0 : Int), .slice la ls.length lc, iV (ls.length : Int), bV (decide ((i0 : Int) < (ls.length : Int)))] (fun w => by kernel_rfl) ?_
      refine Sq.done ?_
      refine Ex'.next ?_
      refine Cd.case (p := (i0 : Int) < (ls.length : Int)) (by kernel_rfl) (fun h4 => ?_) (fun h4 => ?_)
      ·
        obtain ⟨lg, lo, rfl, l0, lb, l1, hl0, hl1⟩ := lanes_at hL (k := i0) (by omega)
        refine Cd.skip ?_
        refine Ex'.next ?_
        refine Cd.seq ?_
        refine Cd.block ?_
        refine Cd.seq ?_
        refine Cd.region rfl ?_
        refine Sq.vals [0, 1] (rest := [2, 3, 4, 5]) [.slice (some ⟨lg, lo, none⟩) ls.length lc, iV (i0 : Int)] (fun w => by kernel_rfl) ?_
        refine Sq.v (r := pV lg (lo + i0)) (o_idx (b := lg) (cap := lc) (e := 25) (off := lo) (n := ls.length) (kd := .i64) (q := (i0 : Int)) (i := i0) (size := 1) (j := lo + i0) (by kernel_rfl) (by kernel_rfl) (by rfl) (by omega) Try.underlying22 (by kernel_rfl) (by omega)) rfl (by kernel_rfl) ?_
        refine Sq.same [0] (l := [oldR w0]) (o_loadOld (b := lg) (j := lo + i0) (u := .slice lb l0.length l1) (by kernel_rfl) (by kernel_rfl) hl1) (by kernel_rfl) rfl (by kernel_rfl) rfl ?_
        refine Sq.vals [4, 5] (rest := []) [iV (l0.length : Int), bV (decide ((l0.length : Int) > 300))] (fun w => by kernel_rfl) ?_
        refine Sq.done ?_
        refine Ex'.next ?_
        refine Cd.case (p := (l0.length : Int) > 300) (by kernel_rfl) (fun h5 => ?_) (fun h5 => ?_)
        ·
          refine Cd.seq ?_
          refine Cd.region rfl ?_
          refine Sq.vals [0] (rest := []) [bV true] (fun w => by kernel_rfl) ?_
          refine Sq.done ?_
          refine Ex'.next ?_
          refine Cd.ret ?_
          refine Ex'.blockRet ?_
          refine Ex'.thenRet ?_
          refine Ex'.thenRet ?_
          refine Ex'.blockRet ?_
          refine Ex'.thenRet ?_
          refine Ex'.ret Try.results6 (RVs.tmp (v := bV true) (by kernel_rfl) (RVs.nil)) (fun w hw => ?_)
          exact ⟨_, ⟨rfl, by kernel_rfl⟩, hw⟩
        ·
          refine Cd.skip ?_
          refine Ex'.blockNormal ?_
          refine Ex'.next ?_
          refine Cd.region rfl ?_
          refine Sq.vals [0] (rest := [1, 2]) [iV (i0 : Int)] (fun w => by kernel_rfl) ?_
          refine Sq.v (r := iV ((i0 + 1 : Nat) : Int)) (o_add (k := .i64) (a := (i0 : Int)) (b := 1) (c := ((i0 + 1 : Nat) : Int)) (by kernel_rfl) (by kernel_rfl) (w64 (by omega) (by omega))) rfl (by kernel_rfl) ?_
          refine Sq.vals [2] (rest := []) [iV ((i0 + 1 : Nat) : Int)] (fun w => by kernel_rfl) ?_
          refine Sq.done ?_
          refine Ex'.round (g := i0) (i0 + 1) ?_ ?_ (subB_eq (l := [0, 1, 5]) (by kernel_rfl)) (fun w hw => hw.pickB [0] (by kernel_rfl) (by kernel_rfl) (by kernel_rfl))
          · (try dsimp only); exact ⟨by omega, fun j l h1 h2 => by rcases Nat.lt_succ_iff_lt_or_eq.1 h1 with q | q; exact hb0 j l q h2; (subst q; rw [hl0] at h2; cases h2; omega)⟩
          · omega
      ·
        have hbs : ∀ l ∈ ls, l.length ≤ 1000000 := fun l hl => by obtain ⟨j, hj⟩ := List.getElem?_of_mem hl; have := hb0 j l (by have := (List.getElem?_eq_some_iff.1 hj).1; omega) hj; omega
        refine Cd.exit ?_
        refine Ex'.thenExit ?_
        refine Ex'.thenExit ?_
        refine Ex'.blockHit ?_
        refine Ex'.next ?_
        refine Cd.seq ?_
        refine Cd.region rfl ?_
        refine Sq.vals [0] (rest := [1, 2]) [.slice la ls.length lc] (fun w => by kernel_rfl) ?_
        refine Sq.ex [0] (l := [oldR w0]) (o_call (by kernel_rfl) Try.call15 (d_New hL (by omega) hbs)) (by kernel_rfl) rfl (by kernel_rfl) (fun _ => Nat.le_of_ble_eq_true (by kernel_rfl)) ?_; rintro b6 _
        refine Sq.vals [2] (rest := []) [pV b6 0] (fun w => by kernel_rfl) ?_
        refine Sq.done ?_
        refine Ex'.next ?_
        refine Cd.seq ?_
        refine Cd.seq ?_
        refine Cd.region rfl ?_
        refine Sq.vals [0, 1] (rest := []) [pV b6 0, bV false] (fun w => by kernel_rfl) ?_
        refine Sq.done ?_
        refine Ex'.next ?_
        refine Cd.condF (by kernel_rfl) ?_
        refine Cd.skip ?_
        refine Ex'.next ?_
        refine Cd.seq ?_
        refine Cd.region rfl ?_
        refine Sq.ex [] (l := []) (o_newMap (Value.int .i64) id) (by kernel_rfl) rfl (by kernel_rfl) (fun _ => Nat.zero_le _) ?_; intro b7 _
        refine Sq.vals [1] (rest := []) [.map (some b7)] (fun w => by kernel_rfl) ?_
        refine Sq.done ?_
        refine Ex'.next ?_
        refine Cd.seq ?_
        refine Cd.seq ?_
        refine Cd.region rfl ?_
        refine Sq.vals [0] (rest := []) [iV 0] (fun w => by kernel_rfl) ?_
        refine Sq.done ?_
        refine Ex'.next ?_
        refine Cd.block ?_
        refine Cd.addE ?_
        refine Cd.loop (ι := Nat × Told × (List (List Int))) (fun ⟨k1, T0, ts0⟩ => k1 ≤ xs.length ∧ TR ls ts0 T0 k1) (fun ⟨k1, T0, ts0⟩ => xs.length - k1) (fun ⟨k1, T0, ts0⟩ => [(0, .slice la ls.length lc), (1, .slice a xs.length cap), (6, pV b6 0), (7, .map (some b7)), (8, iV (k1 : Int))]) (fun ⟨k1, T0, ts0⟩ => [oldR w0, tapeR b6 ts0, mapR (Value.int .i64) id b7 (toldL T0), allR (toldR T0)]) (0, [], ls) (⟨Nat.zero_le _, TR.new ls⟩) (subB_eq (l := [0, 1, 6, 7, 8]) (by kernel_rfl)) (fun w hw => ((hw.conv 2 (R := mapR (Value.int .i64) id b7 []) (R' := mapR (Value.int .i64) id b7 (toldL [])) (by kernel_rfl) (fun w S h => h)).conv 3 (R := emp) (R' := allR (toldR [])) (by kernel_rfl) (fun w S h => h)).pickB [0, 1, 2, 3] (by kernel_rfl) (by kernel_rfl) (by kernel_rfl)) ?_
        rintro ⟨k1, T0, ts0⟩ hL8
        try dsimp only at hL8 ⊢
        obtain ⟨hk1, hTR⟩ := hL8
        refine Cd.seq ?_
        refine Cd.seq ?_
        refine Cd.region rfl ?_
        refine Sq.vals [0, 1, 2, 3] (rest := []) [iV (k1 : Int), .slice a xs.length cap, iV (xs.length : Int), bV (decide ((k1 : Int) < (xs.length : Int)))] (fun w => by kernel_rfl) ?_
        refine Sq.done ?_
        refine Ex'.next ?_
        refine Cd.case (p := (k1 : Int) < (xs.length : Int)) (by kernel_rfl) (fun h9 => ?_) (fun h9 => ?_)
        ·
          obtain ⟨g10, off11, rfl⟩ := hs.addr (by omega)
          obtain ⟨xk1, hgk1, hwk1, hrk1⟩ := hs.at (k := k1) (by omega)
          have hfw := hTR.few xk1
          refine Cd.res 3 (R := allR (toldR T0)) (R' := two (rowU ((lk (toldL T0) xk1).getD (.slice none 0 0)) (tc T0 xk1)) (allR (toldR (del T0 xk1)))) (by kernel_rfl) (told_take' T0 xk1) ?_
          refine Cd.two 3 (a := rowU ((lk (toldL T0) xk1).getD (.slice none 0 0)) (tc T0 xk1)) (b := allR (toldR (del T0 xk1))) (by kernel_rfl) ?_
          refine Cd.skip ?_
          refine Ex'.next ?_
          refine Cd.seq ?_
          refine Cd.block ?_
          refine Cd.plan [0, 0, 0, 6, 14, 0, 0, 0, 192, 448, 992, 0, 0, 0, 12288, 28672, 63488, 129024, 262112, 524287] [(4, [(0, false, 0)]), (9, [(0, false, 0)]), (10, [(2, false, 0)]), (15, [(0, false, 0)]), (16, [(1, true, 0)]), (18, [(4, true, 0), (23, false, 18)]), (19, [(2, true, 0)])] [17] [(17, fun _ => True), (18, fun _ => True)] [(1, 16, fun g => tapeR b6 (nx ts0 xk1)), (23, 17, fun g => blkR (slOf (g 17)) [.int .u64 ((ln ts0 xk1).headD 0)] 28), (4, 18, fun g => rowR 28 1 (g 18) (((tc T0 xk1) ++ [(ln ts0 xk1).headD 0]).length) (((tc T0 xk1) ++ [(ln ts0 xk1).headD 0]).map (Value.int .u64))), (2, 19, fun g => mapR (Value.int .i64) id b7 (put (toldL T0) xk1 (g 18)))] [fun g => .map (some b7), fun g => .slice (some ⟨g10, off11, none⟩) xs.length cap, fun g => iV (k1 : Int), fun g => pV g10 (off11 + k1), fun g => iV xk1, fun g => .map (some b7), fun g => .slice (some ⟨g10, off11, none⟩) xs.length cap, fun g => iV (k1 : Int), fun g => pV g10 (off11 + k1), fun g => iV xk1, fun g => ((lk (toldL T0) xk1).getD (.slice none 0 0)), fun g => pV b6 0, fun g => .slice (some ⟨g10, off11, none⟩) xs.length cap, fun g => iV (k1 : Int), fun g => pV g10 (off11 + k1), fun g => iV xk1, fun g => .int .u64 ((ln ts0 xk1).headD 0), fun g => .slice (some ⟨(slOf (g 17)), 0, none⟩) 1 1, fun g => (g 18), fun g => undef] (by kernel_rfl) (by kernel_rfl) rfl (⟨⟨⟨fun _ _ => rfl, ⟨fun _ _ => rfl, ⟨fun _ _ => rfl, ⟨fun _ _ => rfl, ⟨fun _ _ => rfl, ⟨fun _ _ => rfl, ⟨fun _ _ => rfl, ⟨fun _ _ => rfl, ⟨fun _ _ => rfl, ⟨fun _ _ => rfl, ⟨fun _ _ => rfl, ⟨fun _ _ => rfl, ⟨fun _ _ => rfl, ⟨fun _ _ => rfl, ⟨fun _ _ => rfl, ⟨fun _ _ => rfl, ⟨fun _ _ => rfl, ⟨trivial, ⟨trivial, ⟨trivial, trivial⟩⟩⟩⟩⟩⟩⟩⟩⟩⟩⟩⟩⟩⟩⟩⟩⟩⟩⟩⟩, ⟨fun _ _ => rfl, ⟨trivial, ⟨trivial, ⟨trivial, trivial⟩⟩⟩⟩⟩, ⟨⟨⟨fun _ _ => rfl, ⟨fun _ _ => rfl, ⟨fun _ _ => rfl, ⟨fun _ _ => rfl, ⟨fun _ _ => rfl, ⟨fun _ _ => rfl, ⟨fun _ _ => rfl, ⟨fun _ _ => rfl, ⟨fun _ _ => rfl, ⟨fun _ _ => rfl, ⟨fun _ _ => rfl, ⟨fun _ _ => rfl, ⟨fun _ _ => rfl, ⟨fun _ _ => rfl, ⟨fun _ _ => rfl, ⟨fun _ _ => rfl, ⟨fun _ _ => rfl, ⟨fun _ _ => rfl, ⟨trivial, ⟨trivial, trivial⟩⟩⟩⟩⟩⟩⟩⟩⟩⟩⟩⟩⟩⟩⟩⟩⟩⟩⟩⟩, ⟨fun _ _ => rfl, ⟨fun _ _ => rfl, ⟨trivial, ⟨trivial, trivial⟩⟩⟩⟩⟩, trivial⟩⟩) ?_ ?_
          · exact ⟨ob_val fun g w => by kernel_rfl, ob_val fun g w => by kernel_rfl, ob_val fun g w => by kernel_rfl, ob_v (v := fun g => pV g10 (off11 + k1)) (fun g => o_idx (b := g10) (cap := cap) (e := 3) (off := off11) (n := xs.length) (kd := .i64) (q := (k1 : Int)) (i := k1) (size := 1) (j := off11 + k1) (by kernel_rfl) (by kernel_rfl) (by rfl) (by omega) Try.underlying44 (by kernel_rfl) (by omega)) (fun g => by kernel_rfl), ob_s (l := fun g => [oldR w0]) (l' := fun g => [oldR w0]) (v := fun g => iV xk1) (fun g => o_loadOld (b := g10) (j := off11 + k1) (u := iV xk1) (by kernel_rfl) (by kernel_rfl) (hrk1 0 _ rfl)) (fun g => by kernel_rfl), ob_val fun g w => by kernel_rfl, ob_val fun g w => by kernel_rfl, ob_val fun g w => by kernel_rfl, ob_v (v := fun g => pV g10 (off11 + k1)) (fun g => o_idx (b := g10) (cap := cap) (e := 3) (off := off11) (n := xs.length) (kd := .i64) (q := (k1 : Int)) (i := k1) (size := 1) (j := off11 + k1) (by kernel_rfl) (by kernel_rfl) (by rfl) (by omega) Try.underlying44 (by kernel_rfl) (by omega)) (fun g => by kernel_rfl), ob_s (l := fun g => [oldR w0]) (l' := fun g => [oldR w0]) (v := fun g => iV xk1) (fun g => o_loadOld (b := g10) (j := off11 + k1) (u := iV xk1) (by kernel_rfl) (by kernel_rfl) (hrk1 0 _ rfl)) (fun g => by kernel_rfl), ob_s (l := fun g => [mapR (Value.int .i64) id b7 (toldL T0)]) (l' := fun g => [mapR (Value.int .i64) id b7 (toldL T0)]) (v := fun g => ((lk (toldL T0) xk1).getD (.slice none 0 0))) (fun g => o_look (fv := id) (l := toldL T0) (.slice none 0 0) xk1 (by kernel_rfl) (by kernel_rfl) (intKey Try.underlying3) Try.underlying45 (fun w => by kernel_rfl)) (fun g => by kernel_rfl), ob_val fun g w => by kernel_rfl, ob_val fun g w => by kernel_rfl, ob_val fun g w => by kernel_rfl, ob_v (v := fun g => pV g10 (off11 + k1)) (fun g => o_idx (b := g10) (cap := cap) (e := 3) (off := off11) (n := xs.length) (kd := .i64) (q := (k1 : Int)) (i := k1) (size := 1) (j := off11 + k1) (by kernel_rfl) (by kernel_rfl) (by rfl) (by omega) Try.underlying44 (by kernel_rfl) (by omega)) (fun g => by kernel_rfl), ob_s (l := fun g => [oldR w0]) (l' := fun g => [oldR w0]) (v := fun g => iV xk1) (fun g => o_loadOld (b := g10) (j := off11 + k1) (u := iV xk1) (by kernel_rfl) (by kernel_rfl) (hrk1 0 _ rfl)) (fun g => by kernel_rfl), ob_s (l := fun g => [tapeR b6 ts0]) (l' := fun g => [tapeR b6 (nx ts0 xk1)]) (v := fun g => .int .u64 ((ln ts0 xk1).headD 0)) (fun g => o_call (by kernel_rfl) Try.call17 (d_Next (ls := ts0) (i := xk1) (by omega))) (fun g => by kernel_rfl), ob_d (ι := Nat) (l := fun g => []) (L := fun g y => [blkR y [.int .u64 ((ln ts0 xk1).headD 0)] 28]) (fun y => .slice (some ⟨y, 0, none⟩) 1 1) (fun g => o_lit (sz := 1) (.int .u64 0) [.int .u64 ((ln ts0 xk1).headD 0)] Try.underlying25 (by kernel_rfl) (by kernel_rfl) (by kernel_rfl) (by kernel_rfl) (by kernel_rfl)) (fun g => by kernel_rfl) (fun g y _ => ⟨trivial, by kernel_rfl, by kernel_rfl⟩), ob_d (ι := Value) (l := fun g => [rowR 28 1 ((lk (toldL T0) xk1).getD (.slice none 0 0)) ((tc T0 xk1).length) ((tc T0 xk1).map (Value.int .u64)), blkR (slOf (g 17)) [.int .u64 ((ln ts0 xk1).headD 0)] 28]) (L := fun g y => [rowR 28 1 y (((tc T0 xk1) ++ [(ln ts0 xk1).headD 0]).length) (((tc T0 xk1) ++ [(ln ts0 xk1).headD 0]).map (Value.int .u64)), blkR (slOf (g 17)) [.int .u64 ((ln ts0 xk1).headD 0)] 28]) (id) (fun g => o_push (n' := ((tc T0 xk1) ++ [(ln ts0 xk1).headD 0]).length) (xs' := ((tc T0 xk1) ++ [(ln ts0 xk1).headD 0]).map (Value.int .u64)) (by kernel_rfl) (by kernel_rfl) sl_u64 (by decide) rfl (by kernel_rfl) (by unfold maxLen; first | omega | (simp only [List.length_nil]; omega)) (by first | omega | (simp only [List.length_nil]; omega)) (by simp) (by simp)) (fun g => by kernel_rfl) (fun g y _ => ⟨trivial, by kernel_rfl, by kernel_rfl⟩), ob_s (l := fun g => [mapR (Value.int .i64) id b7 (toldL T0)]) (l' := fun g => [mapR (Value.int .i64) id b7 (put (toldL T0) xk1 (g 18))]) (v := fun g => undef) (fun g => o_mapUpdate xk1 (g 18) (by kernel_rfl) (by kernel_rfl) (by kernel_rfl) (intKey Try.underlying3) Try.underlying45) (fun g => by kernel_rfl), trivial⟩
          intro g
          refine Ex'.sub (subB_spec [0, 1, 6, 7, 8]) ?_
          refine Ex'.as [0, 1, 2, 4, 5, 23] (σ' := [(0, .slice la ls.length lc), (1, .slice (some ⟨g10, off11, none⟩) xs.length cap), (6, pV b6 0), (7, .map (some b7)), (8, iV (k1 : Int))]) (Γ' := [oldR w0, tapeR b6 (nx ts0 xk1), mapR (Value.int .i64) id b7 (put (toldL T0) xk1 (g 18)), rowR 28 1 (g 18) (((tc T0 xk1) ++ [(ln ts0 xk1).headD 0]).length) (((tc T0 xk1) ++ [(ln ts0 xk1).headD 0]).map (Value.int .u64)), allR (toldR (del T0 xk1)), blkR (slOf (g 17)) [.int .u64 ((ln ts0 xk1).headD 0)] 28]) (by kernel_rfl) rfl (by kernel_rfl) (by kernel_rfl) ?_
          generalize slOf (g 17) = b14
          generalize g 18 = v15
          refine Ex'.fact (i := 3) (R := rowR 28 1 v15 (((tc T0 xk1) ++ [(ln ts0 xk1).headD 0]).length) (((tc T0 xk1) ++ [(ln ts0 xk1).headD 0]).map (Value.int .u64))) (by kernel_rfl) row_slice ?_; rintro ⟨a16, c17, rfl, hc17, hc17'⟩
          have hc17'' : c17 ≤ 9223372036854775807 := hc17'
          refine Ex'.blockNormal ?_
          refine Ex'.next ?_
          refine Cd.region rfl ?_
          refine Sq.vals [0] (rest := [1, 2]) [iV (k1 : Int)] (fun w => by kernel_rfl) ?_
          refine Sq.v (r := iV ((k1 + 1 : Nat) : Int)) (o_add (k := .i64) (a := (k1 : Int)) (b := 1) (c := ((k1 + 1 : Nat) : Int)) (by kernel_rfl) (by kernel_rfl) (w64 (by omega) (by omega))) rfl (by kernel_rfl) ?_
          refine Sq.vals [2] (rest := []) [iV ((k1 + 1 : Nat) : Int)] (fun w => by kernel_rfl) ?_
          refine Sq.done ?_
          refine Ex'.mk2 (a := rowU (.slice a16 (((tc T0 xk1) ++ [(ln ts0 xk1).headD 0]).length) c17) ((tc T0 xk1) ++ [(ln ts0 xk1).headD 0])) (b := allR (toldR (del T0 xk1))) 3 4 (by kernel_rfl) (by kernel_rfl) (by kernel_rfl) ?_
          refine Ex'.res 6 (R := two (rowU (.slice a16 (((tc T0 xk1) ++ [(ln ts0 xk1).headD 0]).length) c17) ((tc T0 xk1) ++ [(ln ts0 xk1).headD 0])) (allR (toldR (del T0 xk1)))) (R' := allR (toldR (put T0 xk1 (.slice a16 (((tc T0 xk1) ++ [(ln ts0 xk1).headD 0]).length) c17, (tc T0 xk1) ++ [(ln ts0 xk1).headD 0])))) (by kernel_rfl) (told_put T0 xk1 (.slice a16 (((tc T0 xk1) ++ [(ln ts0 xk1).headD 0]).length) c17) ((tc T0 xk1) ++ [(ln ts0 xk1).headD 0])) ?_
          refine Ex'.round (g := (k1, T0, ts0)) (k1 + 1, put T0 xk1 (.slice a16 (((tc T0 xk1) ++ [(ln ts0 xk1).headD 0]).length) c17, (tc T0 xk1) ++ [(ln ts0 xk1).headD 0]), nx ts0 xk1) ?_ ?_ (subB_eq (l := [0, 1, 6, 7, 8]) (by kernel_rfl)) (fun w hw => (hw.conv 2 (R := mapR (Value.int .i64) id b7 (put (toldL T0) xk1 (.slice a16 (((tc T0 xk1) ++ [(ln ts0 xk1).headD 0]).length) c17))) (R' := mapR (Value.int .i64) id b7 (toldL (put T0 xk1 (.slice a16 (((tc T0 xk1) ++ [(ln ts0 xk1).headD 0]).length) c17, (tc T0 xk1) ++ [(ln ts0 xk1).headD 0])))) (by kernel_rfl) (fun w S h => by rw [put_toldL]; exact h)).pickB [0, 1, 2, 6] (by kernel_rfl) (by kernel_rfl) (by kernel_rfl))
          · (try dsimp only); exact ⟨by omega, hTR.step hwk1 _⟩
          · omega
        ·
          refine Cd.exit ?_
          refine Ex'.thenExit ?_
          refine Ex'.thenExit ?_
          refine Ex'.blockHit ?_
          refine Ex'.next ?_
          refine Cd.seq ?_
          refine Cd.seq ?_
          refine Cd.region rfl ?_
          refine Sq.vals [0] (rest := [1]) [.map (some b7)] (fun w => by kernel_rfl) ?_
          refine Sq.ex [2] (l := [mapR (Value.int .i64) id b7 (toldL T0)]) (o_range (gk := (Value.int .i64)) (fv := id) (l := toldL T0) (by kernel_rfl) Try.underlying45) (by kernel_rfl) rfl (by kernel_rfl) (fun _ => Nat.le_of_ble_eq_true (by kernel_rfl)) ?_; rintro r18 _
          refine Sq.done ?_
          refine Ex'.next ?_
          refine Cd.block ?_
          refine Cd.loop (ι := (List (Int × Value))) (fun rs0 => rs0.Sublist (toldL T0)) (fun rs0 => rs0.length) (fun rs0 => [(0, .slice la ls.length lc), (6, pV b6 0), (66, pV r18 0)]) (fun rs0 => [oldR w0, tapeR b6 ts0, iterR (Value.int .i64) id b7 r18 (toldL T0) rs0, allR (toldR T0)]) (toldL T0) (List.Sublist.refl _) (subB_eq (l := [0, 6, 66]) (by kernel_rfl)) (fun w hw => hw.pickB [0, 1, 2, 3] (by kernel_rfl) (by kernel_rfl) (by kernel_rfl)) ?_
          rintro rs0 hL19
          try dsimp only at hL19 ⊢
          have hsub := hL19
          refine Cd.seq ?_
          refine Cd.region rfl ?_
          by_cases h20 : rs0 = []
          ·
            refine Sq.same [2] (l := [iterR (Value.int .i64) id b7 r18 (toldL T0) rs0]) (o_nextZ (gk := (Value.int .i64)) (fv := id) (b := b7) (r := r18) (l := toldL T0) (rest := rs0) (by kernel_rfl) h20) (by kernel_rfl) rfl (by kernel_rfl) rfl ?_
            refine Sq.vals [1] (rest := []) [bV false] (fun w => by kernel_rfl) ?_
            refine Sq.done ?_
            refine Ex'.next ?_
            refine Cd.seq ?_
            refine Cd.condF (by kernel_rfl) ?_
            refine Cd.exit ?_
            refine Ex'.thenExit ?_
            refine Ex'.thenExit ?_
            refine Ex'.blockHit ?_
            refine Ex'.next ?_
            refine Cd.seq ?_
            refine Cd.region rfl ?_
            refine Sq.vals [0] (rest := []) [bV true] (fun w => by kernel_rfl) ?_
            refine Sq.done ?_
            refine Ex'.next ?_
            refine Cd.ret ?_
            refine Ex'.ret Try.results6 (RVs.tmp (v := bV true) (by kernel_rfl) (RVs.nil)) (fun w hw => ?_)
            exact ⟨_, ⟨rfl, by kernel_rfl⟩, hw⟩
          ·
            refine Sq.ex [2] (l := [iterR (Value.int .i64) id b7 r18 (toldL T0) rs0]) (o_nextE (gk := (Value.int .i64)) (fv := id) (b := b7) (r := r18) (l := toldL T0) (rest := rs0) (by kernel_rfl) h20) (by kernel_rfl) rfl (by kernel_rfl) (fun _ => Nat.le_of_ble_eq_true (by kernel_rfl)) ?_; rintro ⟨i21, x22, v23⟩ hn24
            obtain ⟨c, hc⟩ := told_at hsub hn24
            obtain ⟨T1, hT1⟩ := mem_perm hc
            obtain ⟨he, hl, hf, hx1, hx2⟩ := hTR.at hc
            refine Sq.res 3 (R := allR (toldR T0)) (R' := two (rowU v23 c) (allR (toldR T1))) (by kernel_rfl) (all_take hT1) ?_
            refine Sq.two 3 (a := rowU v23 c) (b := allR (toldR T1)) (by kernel_rfl) ?_
            refine Sq.fact (i := 4) (R := rowR 28 1 v23 c.length (c.map (Value.int .u64))) (by kernel_rfl) row_slice ?_; rintro ⟨a25, c26, rfl, hc26, hc26'⟩
            have hc26'' : c26 ≤ 9223372036854775807 := hc26'
            refine Sq.vals [1] (rest := []) [bV true] (fun w => by kernel_rfl) ?_
            refine Sq.done ?_
            refine Ex'.next ?_
            refine Cd.seq ?_
            refine Cd.condT (by kernel_rfl) ?_
            refine Cd.skip ?_
            refine Ex'.next ?_
            refine Cd.block ?_
            refine Cd.seq ?_
            refine Cd.region rfl ?_
            refine Sq.same [2] (l := [iterE (Value.int .i64) id b7 r18 (toldL T0) (rs0.eraseIdx i21) (x22, .slice a25 c.length c26)]) (o_entry (by kernel_rfl)) (by kernel_rfl) rfl (by kernel_rfl) rfl ?_
            refine Sq.vals [1, 2, 3, 4] (rest := []) [iV x22, .slice a25 c.length c26, iV x22, .slice a25 c.length c26] (fun w => by kernel_rfl) ?_
            refine Sq.done ?_
            refine Ex'.next ?_
            refine Cd.seq ?_
            refine Cd.region rfl ?_
            refine Sq.vals [0] (rest := [1, 2]) [.slice la ls.length lc] (fun w => by kernel_rfl) ?_
            refine Sq.ex [0] (l := [oldR w0]) (o_call (by kernel_rfl) Try.call15 (d_New hL (by omega) hbs)) (by kernel_rfl) rfl (by kernel_rfl) (fun _ => Nat.le_of_ble_eq_true (by kernel_rfl)) ?_; rintro b27 _
            refine Sq.vals [2] (rest := []) [pV b27 0] (fun w => by kernel_rfl) ?_
            refine Sq.done ?_
            refine Ex'.next ?_
            refine Cd.seq ?_
            refine Cd.seq ?_
            refine Cd.region rfl ?_
            refine Sq.vals [0] (rest := []) [iV 0] (fun w => by kernel_rfl) ?_
            refine Sq.done ?_
            refine Ex'.next ?_
            refine Cd.block ?_
            refine Cd.loop (ι := Nat × (List (List Int))) (fun ⟨j0, us0⟩ => j0 ≤ c.length ∧ ln us0 x22 = (ln ls x22).drop j0) (fun ⟨j0, us0⟩ => c.length - j0) (fun ⟨j0, us0⟩ => [(0, .slice la ls.length lc), (6, pV b6 0), (66, pV r18 0), (9, iV x22), (10, .slice a25 c.length c26), (11, pV b27 0), (12, iV (j0 : Int))]) (fun ⟨j0, us0⟩ => [oldR w0, tapeR b6 ts0, iterE (Value.int .i64) id b7 r18 (toldL T0) (rs0.eraseIdx i21) (x22, .slice a25 c.length c26), rowR 28 1 (.slice a25 c.length c26) c.length (c.map (Value.int .u64)), allR (toldR T1), tapeR b27 us0]) (0, ls) (⟨Nat.zero_le _, rfl⟩) (subB_eq (l := [0, 6, 66, 9, 10, 11, 12]) (by kernel_rfl)) (fun w hw => hw.pickB [0, 1, 2, 4, 5, 6] (by kernel_rfl) (by kernel_rfl) (by kernel_rfl)) ?_
            rintro ⟨j0, us0⟩ hL28
            try dsimp only at hL28 ⊢
            obtain ⟨hj0, hu⟩ := hL28
            refine Cd.seq ?_
            refine Cd.seq ?_
            refine Cd.region rfl ?_
            refine Sq.vals [0, 1, 2, 3] (rest := []) [iV (j0 : Int), .slice a25 c.length c26, iV (c.length : Int), bV (decide ((j0 : Int) < (c.length : Int)))] (fun w => by kernel_rfl) ?_
            refine Sq.done ?_
            refine Ex'.next ?_
            refine Cd.case (p := (j0 : Int) < (c.length : Int)) (by kernel_rfl) (fun h29 => ?_) (fun h29 => ?_)
            ·
              refine Cd.skip ?_
              refine Ex'.next ?_
              refine Cd.seq ?_
              refine Cd.block ?_
              refine Cd.seq ?_
              refine Cd.fact (i := 3) (R := rowR 28 1 (.slice a25 c.length c26) c.length (c.map (Value.int .u64))) (by kernel_rfl) (row_addr (by omega)) ?_; rintro ⟨b30, rfl⟩
              refine Cd.plan [0, 0, 3, 0, 0, 24, 56, 127] [(2, [(5, true, 0)]), (6, [(3, false, 0)])] [] [] [(5, 2, fun g => tapeR b27 (nx us0 x22))] [fun g => pV b27 0, fun g => iV x22, fun g => .int .u64 ((ln us0 x22).headD 0), fun g => .slice (some ⟨b30, 0, none⟩) c.length c26, fun g => iV (j0 : Int), fun g => pV b30 j0, fun g => .int .u64 (c.getD j0 0), fun g => bV false] (by kernel_rfl) (by kernel_rfl) rfl (trivial) ?_ ?_
              · exact ⟨ob_val fun g w => by kernel_rfl, ob_val fun g w => by kernel_rfl, ob_s (l := fun g => [tapeR b27 us0]) (l' := fun g => [tapeR b27 (nx us0 x22)]) (v := fun g => .int .u64 ((ln us0 x22).headD 0)) (fun g => o_call (by kernel_rfl) Try.call17 (d_Next (ls := us0) (i := x22) (by omega))) (fun g => by kernel_rfl), ob_val fun g w => by kernel_rfl, ob_val fun g w => by kernel_rfl, ob_v (v := fun g => pV b30 j0) (fun g => o_idx (b := b30) (cap := c26) (e := 28) (off := 0) (n := c.length) (kd := .i64) (q := (j0 : Int)) (i := j0) (size := 1) (j := j0) (by kernel_rfl) (by kernel_rfl) (by rfl) (by omega) Try.underlying25 (by kernel_rfl) (by omega)) (fun g => by kernel_rfl), ob_s (l := fun g => [rowR 28 1 (.slice (some ⟨b30, 0, none⟩) c.length c26) c.length (c.map (Value.int .u64))]) (l' := fun g => [rowR 28 1 (.slice (some ⟨b30, 0, none⟩) c.length c26) c.length (c.map (Value.int .u64))]) (v := fun g => .int .u64 (c.getD j0 0)) (fun g => o_loadRow (i := j0) (u := .int .u64 (c.getD j0 0)) (by kernel_rfl) (by omega) (by kernel_rfl) (get_mapU (by omega))) (fun g => by kernel_rfl), ob_v (v := fun g => bV false) (fun g => OprV.re (o_neI (k := .u64) (a := (ln us0 x22).headD 0) (b := c.getD j0 0) (by kernel_rfl) (by kernel_rfl)) (vF (fun z => z (by rw [hu]; exact (says_at he (by omega)).symm)))) (fun g => by kernel_rfl), trivial⟩
              intro g
              refine Ex'.sub (subB_spec [0, 6, 66, 9, 10, 11, 12, 87]) ?_
              refine Ex'.as [0, 1, 2, 3, 4, 5] (σ' := [(0, .slice la ls.length lc), (6, pV b6 0), (66, pV r18 0), (9, iV x22), (10, .slice (some ⟨b30, 0, none⟩) c.length c26), (11, pV b27 0), (12, iV (j0 : Int)), (87, bV false)]) (Γ' := [oldR w0, tapeR b6 ts0, iterE (Value.int .i64) id b7 r18 (toldL T0) (rs0.eraseIdx i21) (x22, .slice (some ⟨b30, 0, none⟩) c.length c26), rowR 28 1 (.slice (some ⟨b30, 0, none⟩) c.length c26) c.length (c.map (Value.int .u64)), allR (toldR T1), tapeR b27 (nx us0 x22)]) (by kernel_rfl) rfl (by kernel_rfl) (by kernel_rfl) ?_
              refine Ex'.next ?_
              refine Cd.condF (by kernel_rfl) ?_
              refine Cd.skip ?_
              refine Ex'.blockNormal ?_
              refine Ex'.next ?_
              refine Cd.region rfl ?_
              refine Sq.vals [0] (rest := [1, 2]) [iV (j0 : Int)] (fun w => by kernel_rfl) ?_
              refine Sq.v (r := iV ((j0 + 1 : Nat) : Int)) (o_add (k := .i64) (a := (j0 : Int)) (b := 1) (c := ((j0 + 1 : Nat) : Int)) (by kernel_rfl) (by kernel_rfl) (w64 (by omega) (by omega))) rfl (by kernel_rfl) ?_
              refine Sq.vals [2] (rest := []) [iV ((j0 + 1 : Nat) : Int)] (fun w => by kernel_rfl) ?_
              refine Sq.done ?_
              refine Ex'.round (g := (j0, us0)) (j0 + 1, nx us0 x22) ?_ ?_ (subB_eq (l := [0, 6, 66, 9, 10, 11, 12]) (by kernel_rfl)) (fun w hw => hw.pickB [0, 1, 2, 3, 4, 5] (by kernel_rfl) (by kernel_rfl) (by kernel_rfl))
              · (try dsimp only); exact ⟨by omega, by rw [ln_nx, if_pos rfl, hu, List.tail_drop]⟩
              · omega
            ·
              refine Cd.exit ?_
              refine Ex'.thenExit ?_
              refine Ex'.thenExit ?_
              refine Ex'.blockHit ?_
              refine Ex'.next ?_
              refine Cd.seq ?_
              refine Cd.region rfl ?_
              refine Sq.vals [0, 1] (rest := [2, 3, 4, 5, 6]) [pV b27 0, iV x22] (fun w => by kernel_rfl) ?_
              refine Sq.same [5] (l := [tapeR b27 us0]) (o_call (by kernel_rfl) Try.call21 (d_Left (ls := us0) (i := x22) (by omega))) (by kernel_rfl) rfl (by kernel_rfl) rfl ?_
              refine Sq.vals [3, 4] (rest := [5, 6]) [pV b6 0, iV x22] (fun w => by kernel_rfl) ?_
              refine Sq.same [1] (l := [tapeR b6 ts0]) (o_call (by kernel_rfl) Try.call21 (d_Left (ls := ts0) (i := x22) (by omega))) (by kernel_rfl) rfl (by kernel_rfl) rfl ?_
              refine Sq.v (r := bV (decide (((ln us0 x22).length : Int) ≠ ((ln ts0 x22).length : Int)))) (o_neI (k := .i64) (a := ((ln us0 x22).length : Int)) (b := ((ln ts0 x22).length : Int)) (by kernel_rfl) (by kernel_rfl)) rfl (by kernel_rfl) ?_
              refine Sq.re 94 rfl (vF (fun z => z (by rw [hu, hl, show j0 = c.length from by omega]))) ?_
              refine Sq.done ?_
              refine Ex'.next ?_
              refine Cd.condF (by kernel_rfl) ?_
              refine Cd.skip ?_
              refine Ex'.blockNormal ?_
              refine Ex'.mk2 (a := rowU (.slice a25 c.length c26) c) (b := allR (toldR T1)) 3 4 (by kernel_rfl) (by kernel_rfl) (by kernel_rfl) ?_
              refine Ex'.res 6 (R := two (rowU (.slice a25 c.length c26) c) (allR (toldR T1))) (R' := allR (toldR T0)) (by kernel_rfl) (all_put hT1) ?_
              refine Ex'.round (g := rs0) (rs0.eraseIdx i21) ?_ ?_ (subB_eq (l := [0, 6, 66]) (by kernel_rfl)) (fun w hw => (hw.conv 2 (R := iterE (Value.int .i64) id b7 r18 (toldL T0) (rs0.eraseIdx i21) (x22, .slice a25 c.length c26)) (R' := iterR (Value.int .i64) id b7 r18 (toldL T0) (rs0.eraseIdx i21)) (by kernel_rfl) (fun w S h => h.1)).pickB [0, 1, 2, 6] (by kernel_rfl) (by kernel_rfl) (by kernel_rfl))
              · (try dsimp only); exact (List.eraseIdx_sublist _ _).trans hsub
              · exact erase_len (by assumption)

theorem drawLanes_walk (v : Value) (ls : List (List Int)) (u : Value) (ys : List Int) (w : World) (hL : Lanes w (fun k => k < w.heap.size) v ls) (hu : ∀ l ∈ ls, ∀ x ∈ l, 0 ≤ x ∧ x < 18446744073709551616) (h : IntsIn w u ys) :
    Calls Try.prog 6 #[v, u] w fun e w' => e = .returned (.bool true) ∧ Below w.heap.size w w' := by
  obtain ⟨la, lc, rfl, _, _⟩ := hL.shape
  obtain ⟨a, cap, rfl⟩ := h.shape
  exact law_of (drawLanes_tri hL h)

end Go.Proofs.Ythbffkdfahlpdaa
