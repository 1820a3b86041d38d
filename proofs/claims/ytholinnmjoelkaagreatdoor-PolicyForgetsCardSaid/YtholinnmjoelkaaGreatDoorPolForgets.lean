/- PolicyForgets: its walk. -/
import Derived.Test.YtholinnmjoelkaaGreatDoorM30
set_option linter.unusedVariables false
set_option linter.unusedSimpArgs false
namespace Go.Proofs.YtholinnmjoelkaaGreatDoor
set_option maxHeartbeats 8000000
set_option maxRecDepth 100000
open Go.RowKit Go.MapKept
theorem policyForgets_tri {w0 : World} {kind m : Int} {a : Option Addr} {cap : Nat} {xs : List ByteArray} {ky0 : ByteArray} (hg : errT w0) (hkind : -9223372036854775808 ≤ kind ∧ kind ≤ 9223372036854775807) (hm : -9223372036854775808 ≤ m ∧ m ≤ 9223372036854775807) (hl : xs.length ≤ cap ∧ cap ≤ 9223372036854775807) (hs : KeysIn w0 (.slice a xs.length cap) xs) : Tri Tryz.prog 5 #[iV kind, iV m, .slice a xs.length cap, sV ky0] [oldR w0] (LawP w0) := by
 refine Tri.en (args := [iV kind, iV m, .slice a xs.length cap, sV ky0]) Tryz.func5 (fun B wz => ?_)
 refine Cd.s1 (Sq.vl [0] [bV false] (Sq.d4 (Cd.seq (Cd.s1 (Sq.sm [0] (l := [oldR w0]) (o_cl Tryz.call11 (pol_awake hg)) rfl (Sq.vl [1] [bV false] (Sq.d4 (Cd.cF (Cd.skip (Ex'.next (Cd.seq (Cd.s1 ?_))))))))))))
 refine Sq.vl [0, 1, 2] [iV kind, bV (decide (kind < 0)), bV (decide (kind < 0))] ?_
 refine Sq.case 19 (p := kind < 0) rfl (fun h1 => ?_) (fun h1 => ?_)
 ·
  refine Sq.vl [3, 4, 5, 6, 7, 8, 9, 10, 11, 12, 13, 14, 15, 16, 17, 18, 19, 20, 21, 22, 23] [undef, undef, bV true, bV true, undef, undef, bV true, bV true, undef, undef, bV true, bV true, undef, undef, undef, bV true, bV true, undef, undef, undef, bV true] (Sq.d4 (Cd.cT (Cd.s1 (Sq.vl [0] [bV true] (Sq.d4 (Cd.ret (Ex'.thenRet (Ex'.ret Tryz.results5 (RVs.tm (v := bV true) RVs.nil) (fun w hw => ?_)))))))))
  exact ⟨_, ⟨rfl, by kernel_rfl⟩, hw⟩
 ·
  refine Sq.vl [3, 4, 5, 6] [iV kind, bV (decide (kind > 4)), bV (decide (kind > 4)), bV (decide (kind > 4))] ?_
  refine Sq.case 23 (p := kind > 4) rfl (fun h2 => ?_) (fun h2 => ?_)
  ·
   refine Sq.vl [7, 8, 9, 10, 11, 12, 13, 14, 15, 16, 17, 18, 19, 20, 21, 22, 23] [undef, undef, bV true, bV true, undef, undef, bV true, bV true, undef, undef, undef, bV true, bV true, undef, undef, undef, bV true] (Sq.d4 (Cd.cT (Cd.s1 (Sq.vl [0] [bV true] (Sq.d4 (Cd.ret (Ex'.thenRet (Ex'.ret Tryz.results5 (RVs.tm (v := bV true) RVs.nil) (fun w hw => ?_)))))))))
   exact ⟨_, ⟨rfl, by kernel_rfl⟩, hw⟩
  ·
   refine Sq.vl [7, 8, 9, 10] [iV m, bV (decide (m < 1)), bV (decide (m < 1)), bV (decide (m < 1))] ?_
   refine Sq.case 27 (p := m < 1) rfl (fun h3 => ?_) (fun h3 => ?_)
   ·
    refine Sq.vl [11, 12, 13, 14, 15, 16, 17, 18, 19, 20, 21, 22, 23] [undef, undef, bV true, bV true, undef, undef, undef, bV true, bV true, undef, undef, undef, bV true] (Sq.d4 (Cd.cT (Cd.s1 (Sq.vl [0] [bV true] (Sq.d4 (Cd.ret (Ex'.thenRet (Ex'.ret Tryz.results5 (RVs.tm (v := bV true) RVs.nil) (fun w hw => ?_)))))))))
    exact ⟨_, ⟨rfl, by kernel_rfl⟩, hw⟩
   ·
    refine Sq.vl [11, 12, 13, 14] [iV m, bV (decide (m > 1000)), bV (decide (m > 1000)), bV (decide (m > 1000))] ?_
    refine Sq.case 31 (p := m > 1000) rfl (fun h4 => ?_) (fun h4 => ?_)
    ·
     refine Sq.vl [15, 16, 17, 18, 19, 20, 21, 22, 23] [undef, undef, undef, bV true, bV true, undef, undef, undef, bV true] (Sq.d4 (Cd.cT (Cd.s1 (Sq.vl [0] [bV true] (Sq.d4 (Cd.ret (Ex'.thenRet (Ex'.ret Tryz.results5 (RVs.tm (v := bV true) RVs.nil) (fun w hw => ?_)))))))))
     exact ⟨_, ⟨rfl, by kernel_rfl⟩, hw⟩
    ·
     refine Sq.vl [15, 16, 17, 18, 19] [.slice a xs.length cap, iV (xs.length : Int), bV (decide ((xs.length : Int) > 200)), bV (decide ((xs.length : Int) > 200)), bV (decide ((xs.length : Int) > 200))] ?_
     refine Sq.case 36 (p := (xs.length : Int) > 200) rfl (fun h5 => ?_) (fun h5 => ?_)
     ·
      refine Sq.vl [20, 21, 22, 23] [undef, undef, undef, bV true] (Sq.d4 (Cd.cT (Cd.s1 (Sq.vl [0] [bV true] (Sq.d4 (Cd.ret (Ex'.thenRet (Ex'.ret Tryz.results5 (RVs.tm (v := bV true) RVs.nil) (fun w hw => ?_)))))))))
      exact ⟨_, ⟨rfl, by kernel_rfl⟩, hw⟩
     ·
      refine Sq.vl [20, 21, 22, 23] [sV ky0, iV (ky0.size : Int), bV (decide ((ky0.size : Int) > 200)), bV (decide ((ky0.size : Int) > 200))] (Sq.d4 ?_)
      refine Cd.case (p := (ky0.size : Int) > 200) (by kernel_rfl) (fun h6 => ?_) (fun h6 => ?_)
      ·
       refine Cd.s1 (Sq.vl [0] [bV true] (Sq.d4 (Cd.ret (Ex'.thenRet (Ex'.ret Tryz.results5 (RVs.tm (v := bV true) RVs.nil) (fun w hw => ?_))))))
       exact ⟨_, ⟨rfl, by kernel_rfl⟩, hw⟩
      ·
       refine Cd.skip (Ex'.next (Cd.s1 (Sq.vl [0, 1] [iV kind, iV m] ?_)))
       refine Sq.e1 [] (l := []) (o_cl Tryz.call15 (pol_New (kind := kind) (most := m) (by omega) (by omega))) rfl ?_; rintro p7 _
       obtain ⟨q8I, q8m, q8k, q8K, q8G⟩ := PSt.Inv.new (kind := kind) (most := m) (by omega) (by omega)
       have q8l := q8I.len
       refine Sq.vl [3, 4, 5, 6, 7] [.tuple #[pV p7 0, .nilIface], pV p7 0, .nilIface, pV p7 0, .nilIface] (Sq.d4 (Cd.seq (Cd.s1 (Sq.vl [0, 1, 2, 3, 4, 5] [pV p7 0, bV false, bV false, .nilIface, bV false, bV false] (Sq.d4 (Cd.cF (Cd.skip (Ex'.next (Cd.seq (Cd.s1 (Sq.vl [0] [iV 0] (Sq.d4 (Cd.block ?_)))))))))))))
       refine Cd.loop (ι := Nat × PSt × Nat) (fun ⟨k, st0, n0⟩ => k ≤ xs.length ∧ st0.Inv k ∧ st0.most = m ∧ st0.kind = kind ∧ n0 ≤ k * 2000) (fun ⟨k, st0, n0⟩ => xs.length - k) (fun ⟨k, st0, n0⟩ => [(1, iV m), (2, .slice a xs.length cap), (3, sV ky0), (9, pV p7 0), (11, iV (k : Int))]) (fun ⟨k, st0, n0⟩ => [oldR w0, polR p7 st0 n0]) (0, PSt.new kind m, 0) (⟨Nat.zero_le _, q8I, q8m, q8k, Nat.le_refl _⟩) (subB_eq (l := [1, 2, 3, 9, 11]) (by kernel_rfl)) (fun w hw => hw.pk [0, 1]) ?_
       rintro ⟨k, st0, n0⟩ hL9
       try dsimp only at hL9 ⊢
       obtain ⟨hk, hI, hM, hK, hn⟩ := hL9
       have hIl := hI.len
       have hnd := hI.nodup
       refine Cd.seq (Cd.s1 (Sq.vl [0, 1, 2, 3] [iV (k : Int), .slice a xs.length cap, iV (xs.length : Int), bV (decide ((k : Int) < (xs.length : Int)))] (Sq.d4 ?_)))
       refine Cd.case (p := (k : Int) < (xs.length : Int)) (by kernel_rfl) (fun h10 => ?_) (fun h10 => ?_)
       ·
        obtain ⟨g11, off12, rfl⟩ := hs.addr (by omega)
        obtain ⟨kyk, hgk, hwk, hrk⟩ := hs.at (k := k) (by omega)
        refine Cd.skip (Ex'.next (Cd.seq (Cd.block (Cd.seq (Cd.s1 (Sq.vl [0, 1] [.slice (some ⟨g11, off12, none⟩) xs.length cap, iV (k : Int)] (Sq.v (r := pV g11 (off12 + k)) (o_idx (b := g11) (cap := cap) (e := 9) (off := off12) (n := xs.length) (kd := .i64) (q := (k : Int)) (i := k) (size := 1) (j := off12 + k) (by kernel_rfl) (by kernel_rfl) (by rfl) (by omega) Tryz.underlying31 (by kernel_rfl) (by omega)) rfl (by kernel_rfl) (Sq.sm [0] (l := [oldR w0]) (o_loadOld (b := g11) (j := off12 + k) (u := sV kyk) (by kernel_rfl) (by kernel_rfl) (hrk 0 _ rfl)) rfl (Sq.vl [4, 5] [iV (kyk.size : Int), bV (decide ((kyk.size : Int) > 200))] (Sq.d4 ?_))))))))))
        refine Cd.case (p := (kyk.size : Int) > 200) (by kernel_rfl) (fun h13 => ?_) (fun h13 => ?_)
        ·
         refine Cd.s1 (Sq.vl [0] [bV true] (Sq.done (Ex'.next (Cd.ret (Ex'.thenRet (Ex'.blockRet (Ex'.thenRet (Ex'.thenRet (Ex'.blockRet (Ex'.thenRet (Ex'.ret Tryz.results5 (RVs.tm (v := bV true) RVs.nil) (fun w hw => ?_))))))))))))
         exact ⟨_, ⟨rfl, by kernel_rfl⟩, hw⟩
        ·
         refine Cd.skip (Ex'.next (Cd.s0 (Sq.vl [0, 1, 2] [pV p7 0, .slice (some ⟨g11, off12, none⟩) xs.length cap, iV (k : Int)] (Sq.v (r := pV g11 (off12 + k)) (o_idx (b := g11) (cap := cap) (e := 9) (off := off12) (n := xs.length) (kd := .i64) (q := (k : Int)) (i := k) (size := 1) (j := off12 + k) (by kernel_rfl) (by kernel_rfl) (by rfl) (by omega) Tryz.underlying31 (by kernel_rfl) (by omega)) rfl (by kernel_rfl) (Sq.sm [0] (l := [oldR w0]) (o_loadOld (b := g11) (j := off12 + k) (u := sV kyk) (by kernel_rfl) (by kernel_rfl) (hrk 0 _ rfl)) rfl (Sq.sm [1] (l := [polR p7 st0 n0]) (o_cl Tryz.call17 (pol_Request (p := p7) (st := st0) (n := n0) (n' := n0 + 1005) (j := 1000) kyk (by omega) (by omega) (PSt.Inv.bd hI (by omega) (by omega) (by omega)))) rfl ?_))))))
         generalize hxx14 : PSt.req st0 kyk = x14
         obtain ⟨q15I, q15m, q15k, q15R, q15Z⟩ := PSt.Inv.req hI kyk hxx14
         have q15l := q15I.len
         have q15P := q15R (by omega)
         refine Sq.done (Ex'.blockNormal (Ex'.next (Cd.s0 (Sq.vl [0] [iV (k : Int)] (Sq.v (r := iV ((k : Int) + 1)) (o_add (k := .i64) (a := (k : Int)) (b := 1) (c := (k : Int) + 1) (by kernel_rfl) (by kernel_rfl) (w64 rfl (by omega))) rfl (by kernel_rfl) (Sq.vl [2] [iV ((k : Int) + 1)] (Sq.done ?_)))))))
         refine Ex'.round (g := (k, st0, n0)) (k + 1, x14.1, n0 + 1005) ?_ ?_ (subB_eq (l := [1, 2, 3, 9, 11]) (by kernel_rfl)) (fun w hw => hw.pk [0, 1])
         · (try dsimp only); exact ⟨by omega, q15I.up (by omega), by omega, by omega, by omega⟩
         · omega
       ·
        refine Cd.exit (Ex'.thenExit (Ex'.thenExit (Ex'.blockHit (Ex'.next (Cd.s1 (Sq.vl [0] [pV p7 0] (Sq.sm [1] (l := [polR p7 st0 n0]) (o_cl Tryz.call20 (pol_Len (p := p7) (st := st0) (n := n0) (j := 1000) (by omega) (PSt.Inv.bd hI (by omega) (by omega) (by omega)))) rfl (Sq.vl [2] [iV ((PSt.keys st0).length : Int)] (Sq.d1 (Sq.vl [0, 1] [pV p7 0, sV ky0] (Sq.sm [1] (l := [polR p7 st0 n0]) (o_cl Tryz.call21 (pol_Remove (p := p7) (st := st0) (n := n0) (j := 1000) ky0 (by omega) (PSt.Inv.bd hI (by omega) (by omega) (by omega)))) rfl ?_)))))))))))
        generalize hxx16 : PSt.remove st0 ky0 = x16
        obtain ⟨q17I, q17m, q17k, q17R⟩ := PSt.Inv.remove hI ky0 hxx16
        have q17l := q17I.len
        have q17nm := q17R.not_mem; have q17g := q17R.gho
        have q17T := q17R.lenT hnd; have q17F := q17R.lenF
        refine Sq.vl [3] [bV x16.2] (Sq.d4 (Cd.seq (Cd.s1 (Sq.vl [0, 1] [pV p7 0, sV ky0] (Sq.sm [1] (l := [polR p7 x16.1 n0]) (o_cl Tryz.call19 ((pol_Has (p := p7) (st := x16.1) (n := n0) (j := 1000) ky0 q17I (by omega) (PSt.Inv.bd q17I (by omega) (by omega) (by omega))).re (vF q17nm))) rfl (Sq.vl [3, 4] [bV false, pV p7 0] ?_))))))
        refine Sq.e1 [1] (l := [polR p7 x16.1 n0]) (o_cl Tryz.call22 (pol_Ghosts (p := p7) (st := x16.1) (n := n0) (j := 1000) (by omega) (PSt.Inv.bd q17I (by omega) (by omega) (by omega)))) rfl ?_; rintro v18 _
        refine Sq.fact (i := 2) (R := rowR 9 1 v18 ((PSt.ghosts x16.1).length) ((PSt.ghosts x16.1).map Value.string)) (by kernel_rfl) row_slice ?_; rintro ⟨a19, c20, rfl, hc20, hc20'⟩
        have hc20'' : c20 ≤ 9223372036854775807 := hc20'
        refine Sq.vl [6] [sV ky0] (Sq.sm [2] (l := [rowR 9 1 (.slice a19 ((PSt.ghosts x16.1).length) c20) ((PSt.ghosts x16.1).length) ((PSt.ghosts x16.1).map Value.string)]) (o_cl Tryz.call18 ((t_has03 (l := [rowR 9 1 (.slice a19 ((PSt.ghosts x16.1).length) c20) ((PSt.ghosts x16.1).length) ((PSt.ghosts x16.1).map Value.string)]) (xs := PSt.ghosts x16.1) ky0 (fun w own hH => ⟨_, Row.strs (hH 0 _ rfl)⟩)).re (vF q17g))) rfl (Sq.vl [8, 9, 10] [bV false, bV false, pV p7 0] ?_))
        refine Sq.e1 [1] (l := [polR p7 x16.1 n0]) (o_cl Tryz.call16 (pol_Keys (p := p7) (st := x16.1) (n := n0) (j := 1000) (by omega) (PSt.Inv.bd q17I (by omega) (by omega) (by omega)))) rfl ?_; rintro v21 _
        refine Sq.fact (i := 3) (R := rowR 9 1 v21 ((PSt.keys x16.1).length) ((PSt.keys x16.1).map Value.string)) (by kernel_rfl) row_slice ?_; rintro ⟨a22, c23, rfl, hc23, hc23'⟩
        have hc23'' : c23 ≤ 9223372036854775807 := hc23'
        refine Sq.vl [12] [sV ky0] (Sq.sm [3] (l := [rowR 9 1 (.slice a22 ((PSt.keys x16.1).length) c23) ((PSt.keys x16.1).length) ((PSt.keys x16.1).map Value.string)]) (o_cl Tryz.call18 ((t_has03 (l := [rowR 9 1 (.slice a22 ((PSt.keys x16.1).length) c23) ((PSt.keys x16.1).length) ((PSt.keys x16.1).map Value.string)]) (xs := PSt.keys x16.1) ky0 (fun w own hH => ⟨_, Row.strs (hH 0 _ rfl)⟩)).re (vF q17nm))) rfl (Sq.vl [14, 15, 16, 17] [bV false, bV false, pV p7 0, sV ky0] (Sq.sm [1] (l := [polR p7 x16.1 n0]) (o_cl Tryz.call21 (pol_Remove (p := p7) (st := x16.1) (n := n0) (j := 1000) ky0 (by omega) (PSt.Inv.bd q17I (by omega) (by omega) (by omega)))) rfl ?_)))
        generalize hxx24 : PSt.remove x16.1 ky0 = x24
        obtain ⟨q25I, q25m, q25k, q25R⟩ := PSt.Inv.remove q17I ky0 hxx24
        have q25l := q25I.len
        have q25nm := q25R.not_mem; have q25g := q25R.gho
        have q25w : x24.2 = false := q25R.wasE.trans (decide_eq_false q17nm)
        have q25l2 := q25R.lenF q25w
        refine Sq.vl [19, 20] [bV x24.2, bV x24.2] (Sq.re 96 rfl (congrArg Value.bool (show x24.2 = false from (by simp [q25w]))) (Sq.vl [21, 22] [bV x16.2, bV x16.2] ?_))
        refine Sq.caseB 98 (t := x16.2) rfl (fun h27 => ?_) (fun h27 => ?_)
        ·
         refine Sq.vl [23] [pV p7 0] (Sq.sm [1] (l := [polR p7 x24.1 n0]) (o_cl Tryz.call20 (pol_Len (p := p7) (st := x24.1) (n := n0) (j := 1000) (by omega) (PSt.Inv.bd q25I (by omega) (by omega) (by omega)))) rfl (Sq.vl [25] [iV ((PSt.keys st0).length : Int)] (Sq.v (r := iV (((PSt.keys st0).length : Int) - 1)) (o_sub (k := .i64) (a := ((PSt.keys st0).length : Int)) (b := 1) (c := ((PSt.keys st0).length : Int) - 1) (by kernel_rfl) (by kernel_rfl) (w64 rfl (by omega))) rfl (by kernel_rfl) (Sq.v (r := bV (decide (((PSt.keys x24.1).length : Int) ≠ ((PSt.keys st0).length : Int) - 1))) (o_neI (k := .i64) (a := ((PSt.keys x24.1).length : Int)) (b := ((PSt.keys st0).length : Int) - 1) (by kernel_rfl) (by kernel_rfl)) rfl (by kernel_rfl) ?_))))
         refine Sq.re 103 rfl (vF (by have := (q17T h27); omega)) ?_
         refine Sq.vl [28, 29, 30, 31, 32, 33] [bV false, bV false, bV false, bV x16.2, bV (!x16.2), bV (!x16.2)] ?_
         refine Sq.re 109 rfl (congrArg Value.bool (show (!x16.2) = false from (by rw [h27]; simp))) ?_
         refine Sq.vl [34, 35, 36, 37, 38, 39] [undef, undef, undef, undef, bV false, bV false] (Sq.d4 (Cd.cF (Cd.skip (Ex'.next (Cd.s1 (Sq.vl [0, 1] [pV p7 0, sV ky0] (Sq.sm [1] (l := [polR p7 x24.1 n0]) (o_cl Tryz.call17 (pol_Request (p := p7) (st := x24.1) (n := n0) (n' := n0 + 1005) (j := 1000) ky0 (by omega) (by omega) (PSt.Inv.bd q25I (by omega) (by omega) (by omega)))) rfl ?_)))))))
         generalize hxx29 : PSt.req x24.1 ky0 = x29
         obtain ⟨q30I, q30m, q30k, q30R, q30Z⟩ := PSt.Inv.req q25I ky0 hxx29
         have q30l := q30I.len
         have q30P := q30R (by omega)
         have q30h : x29.2.1 = false := q30P.hitE.trans (decide_eq_false q25nm)
         have q30m2 := q30P.mem
         have q30o := q30P.out_no q25nm
         refine Sq.e0 [] (l := []) (o_new [bV false, sV ⟨#[]⟩, bV false] (fun w => by kernel_rfl)) rfl ?_; intro b31 _
         refine Sq.sm [4] (l := [blkR b31 [bV false, sV ⟨#[]⟩, bV false] 37]) (o_st (i := 0) (v := .agg #[bV x29.2.1, sV x29.2.2.1, bV x29.2.2.2])) rfl (Sq.d1 (Sq.vl [0] [pV b31 0] (Sq.sm [4] (l := [blkR b31 [bV x29.2.1, sV x29.2.2.1, bV x29.2.2.2] 37]) (o_ld (i := 0) (v := bV x29.2.1)) rfl (Sq.vl [2, 3] [bV (!x29.2.1), bV (!x29.2.1)] ?_))))
         refine Sq.re 122 rfl (congrArg Value.bool (show (!x29.2.1) = true from (by rw [q30h]; try rfl))) ?_
         refine Sq.vl [4, 5] [pV p7 0, sV ky0] (Sq.sm [1] (l := [polR p7 x29.1 (n0 + 1005)]) (o_cl Tryz.call19 ((pol_Has (p := p7) (st := x29.1) (n := n0 + 1005) (j := 1000) ky0 q30I (by omega) (PSt.Inv.bd q30I (by omega) (by omega) (by omega))).re (vT q30m2))) rfl (Sq.vl [7, 8, 9] [bV true, bV true, pV b31 2] (Sq.sm [4] (l := [blkR b31 [bV x29.2.1, sV x29.2.2.1, bV x29.2.2.2] 37]) (o_ld (i := 2) (v := bV x29.2.2.2)) rfl (Sq.vl [11, 12, 13] [bV x16.2, bV (!x16.2), bV (!x16.2)] ?_))))
         refine Sq.re 132 rfl (congrArg Value.bool (show (!x16.2) = false from (by rw [h27]; simp))) ?_
         refine Sq.vl [14, 15, 16, 17, 18, 19, 20] [undef, undef, undef, bV false, bV (x29.2.2.2 == false), bV (x29.2.2.2 == false), bV (x29.2.2.2 == false)] (Sq.d4 (Cd.ret (Ex'.ret Tryz.results5 (RVs.tm (v := bV (x29.2.2.2 == false)) RVs.nil) (fun w hw => ?_))))
         exact ⟨_, ⟨congrArg Value.bool (beq_iff_eq.2 (q30o.trans (decide_eq_false (by have := (q17T h27); omega)))), by kernel_rfl⟩, hw⟩
        ·
         refine Sq.vl [23, 24, 25, 26, 27, 28, 29, 30, 31, 32, 33] [undef, undef, undef, undef, undef, bV false, bV false, bV false, bV x16.2, bV (!x16.2), bV (!x16.2)] ?_
         refine Sq.re 109 rfl (congrArg Value.bool (show (!x16.2) = true from (by rw [show x16.2 = false by simpa using h27]; try rfl))) ?_
         refine Sq.vl [34] [pV p7 0] (Sq.sm [1] (l := [polR p7 x24.1 n0]) (o_cl Tryz.call20 (pol_Len (p := p7) (st := x24.1) (n := n0) (j := 1000) (by omega) (PSt.Inv.bd q25I (by omega) (by omega) (by omega)))) rfl (Sq.vl [36] [iV ((PSt.keys st0).length : Int)] (Sq.v (r := bV (decide (((PSt.keys x24.1).length : Int) ≠ ((PSt.keys st0).length : Int)))) (o_neI (k := .i64) (a := ((PSt.keys x24.1).length : Int)) (b := ((PSt.keys st0).length : Int)) (by kernel_rfl) (by kernel_rfl)) rfl (by kernel_rfl) ?_)))
         refine Sq.re 113 rfl (vF (by have := (q17F (by simpa using h27)); omega)) ?_
         refine Sq.vl [38, 39] [bV false, bV false] (Sq.d4 (Cd.cF (Cd.skip (Ex'.next (Cd.s1 (Sq.vl [0, 1] [pV p7 0, sV ky0] (Sq.sm [1] (l := [polR p7 x24.1 n0]) (o_cl Tryz.call17 (pol_Request (p := p7) (st := x24.1) (n := n0) (n' := n0 + 1005) (j := 1000) ky0 (by omega) (by omega) (PSt.Inv.bd q25I (by omega) (by omega) (by omega)))) rfl ?_)))))))
         generalize hxx35 : PSt.req x24.1 ky0 = x35
         obtain ⟨q36I, q36m, q36k, q36R, q36Z⟩ := PSt.Inv.req q25I ky0 hxx35
         have q36l := q36I.len
         have q36P := q36R (by omega)
         have q36h : x35.2.1 = false := q36P.hitE.trans (decide_eq_false q25nm)
         have q36m2 := q36P.mem
         have q36o := q36P.out_no q25nm
         refine Sq.e0 [] (l := []) (o_new [bV false, sV ⟨#[]⟩, bV false] (fun w => by kernel_rfl)) rfl ?_; intro b37 _
         refine Sq.sm [4] (l := [blkR b37 [bV false, sV ⟨#[]⟩, bV false] 37]) (o_st (i := 0) (v := .agg #[bV x35.2.1, sV x35.2.2.1, bV x35.2.2.2])) rfl (Sq.d1 (Sq.vl [0] [pV b37 0] (Sq.sm [4] (l := [blkR b37 [bV x35.2.1, sV x35.2.2.1, bV x35.2.2.2] 37]) (o_ld (i := 0) (v := bV x35.2.1)) rfl (Sq.vl [2, 3] [bV (!x35.2.1), bV (!x35.2.1)] ?_))))
         refine Sq.re 122 rfl (congrArg Value.bool (show (!x35.2.1) = true from (by rw [q36h]; try rfl))) ?_
         refine Sq.vl [4, 5] [pV p7 0, sV ky0] (Sq.sm [1] (l := [polR p7 x35.1 (n0 + 1005)]) (o_cl Tryz.call19 ((pol_Has (p := p7) (st := x35.1) (n := n0 + 1005) (j := 1000) ky0 q36I (by omega) (PSt.Inv.bd q36I (by omega) (by omega) (by omega))).re (vT q36m2))) rfl (Sq.vl [7, 8, 9] [bV true, bV true, pV b37 2] (Sq.sm [4] (l := [blkR b37 [bV x35.2.1, sV x35.2.2.1, bV x35.2.2.2] 37]) (o_ld (i := 2) (v := bV x35.2.2.2)) rfl (Sq.vl [11, 12, 13] [bV x16.2, bV (!x16.2), bV (!x16.2)] ?_))))
         refine Sq.re 132 rfl (congrArg Value.bool (show (!x16.2) = true from (by rw [show x16.2 = false by simpa using h27]; try rfl))) ?_
         refine Sq.vl [14, 15] [iV ((PSt.keys st0).length : Int), iV m] (Sq.v (r := bV (decide (((PSt.keys st0).length : Int) = m))) (o_eqI (k := .i64) (a := ((PSt.keys st0).length : Int)) (b := m) (by kernel_rfl) (by kernel_rfl)) rfl (by kernel_rfl) (Sq.vl [17, 18, 19, 20] [bV (decide (((PSt.keys st0).length : Int) = m)), bV (x35.2.2.2 == (decide (((PSt.keys st0).length : Int) = m))), bV (x35.2.2.2 == (decide (((PSt.keys st0).length : Int) = m))), bV (x35.2.2.2 == (decide (((PSt.keys st0).length : Int) = m)))] (Sq.d4 (Cd.ret (Ex'.ret Tryz.results5 (RVs.tm (v := bV (x35.2.2.2 == (decide (((PSt.keys st0).length : Int) = m)))) RVs.nil) (fun w hw => ?_))))))
         exact ⟨_, ⟨congrArg Value.bool (beq_iff_eq.2 (q36o.trans (decide_eq_decide.2 ⟨fun _ => by have := (q17F (by simpa using h27)); omega, fun _ => by have := (q17F (by simpa using h27)); omega⟩))), by kernel_rfl⟩, hw⟩
theorem policyForgets_walk (kind m : Int) (v : Value) (xs : List ByteArray) (key : ByteArray) (w : World) (h1 : (Lit.int .i64 kind).wf = true) (h2 : (Lit.int .i64 m).wf = true) (h : Strs w (fun k => k < w.heap.size) v xs) (hz : ∀ k ∈ xs, k.size ≤ maxLen) (hk : key.size ≤ maxLen) (hg : errT w) :
  Calls Tryz.prog 5 #[.int .i64 kind, .int .i64 m, v, .string key] w fun e w' => e = .returned (.bool true) ∧ Below w.heap.size w w' := by
 obtain ⟨a, cap, rfl, hl⟩ := KeysIn.shape ⟨h, hz⟩
 exact law_of (policyForgets_tri hg (range64 h1) (range64 h2) hl ⟨h, hz⟩)
end Go.Proofs.YtholinnmjoelkaaGreatDoor
