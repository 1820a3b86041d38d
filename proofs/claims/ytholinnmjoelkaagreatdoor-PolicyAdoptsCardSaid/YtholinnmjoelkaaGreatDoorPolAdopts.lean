/- PolicyAdopts: its walk. -/
import Derived.Test.YtholinnmjoelkaaGreatDoorM30
set_option linter.unusedVariables false
set_option linter.unusedSimpArgs false
namespace Go.Proofs.YtholinnmjoelkaaGreatDoor
set_option maxHeartbeats 8000000
set_option maxRecDepth 100000
open Go.RowKit Go.MapKept
theorem policyAdopts_tri {w0 : World} {kind m : Int} {a : Option Addr} {cap : Nat} {xs : List ByteArray} {ky0 : ByteArray} (hg : errT w0) (hkind : -9223372036854775808 ≤ kind ∧ kind ≤ 9223372036854775807) (hm : -9223372036854775808 ≤ m ∧ m ≤ 9223372036854775807) (hl : xs.length ≤ cap ∧ cap ≤ 9223372036854775807) (hs : KeysIn w0 (.slice a xs.length cap) xs) : Tri Tryz.prog 7 #[iV kind, iV m, .slice a xs.length cap, sV ky0] [oldR w0] (LawP w0) := by
 refine Tri.en (args := [iV kind, iV m, .slice a xs.length cap, sV ky0]) Tryz.func7 (fun B wz => ?_)
 refine Cd.s1 (Sq.vl [0] [bV false] (Sq.d4 (Cd.seq (Cd.s1 (Sq.sm [0] (l := [oldR w0]) (o_cl Tryz.call11 (pol_awake hg)) rfl (Sq.vl [1] [bV false] (Sq.d4 (Cd.cF (Cd.skip (Ex'.next (Cd.seq (Cd.s1 ?_))))))))))))
 refine Sq.vl [0, 1, 2] [iV kind, bV (decide (kind < 0)), bV (decide (kind < 0))] ?_
 refine Sq.case 21 (p := kind < 0) rfl (fun h1 => ?_) (fun h1 => ?_)
 ·
  refine Sq.vl [3, 4, 5, 6, 7, 8, 9, 10, 11, 12, 13, 14, 15, 16, 17, 18, 19, 20, 21, 22, 23] [undef, undef, bV true, bV true, undef, undef, bV true, bV true, undef, undef, bV true, bV true, undef, undef, undef, bV true, bV true, undef, undef, undef, bV true] (Sq.d4 (Cd.cT (Cd.s1 (Sq.vl [0] [bV true] (Sq.d4 (Cd.ret (Ex'.thenRet (Ex'.ret Tryz.results7 (RVs.tm (v := bV true) RVs.nil) (fun w hw => ?_)))))))))
  exact ⟨_, ⟨rfl, by kernel_rfl⟩, hw⟩
 ·
  refine Sq.vl [3, 4, 5, 6] [iV kind, bV (decide (kind > 4)), bV (decide (kind > 4)), bV (decide (kind > 4))] ?_
  refine Sq.case 25 (p := kind > 4) rfl (fun h2 => ?_) (fun h2 => ?_)
  ·
   refine Sq.vl [7, 8, 9, 10, 11, 12, 13, 14, 15, 16, 17, 18, 19, 20, 21, 22, 23] [undef, undef, bV true, bV true, undef, undef, bV true, bV true, undef, undef, undef, bV true, bV true, undef, undef, undef, bV true] (Sq.d4 (Cd.cT (Cd.s1 (Sq.vl [0] [bV true] (Sq.d4 (Cd.ret (Ex'.thenRet (Ex'.ret Tryz.results7 (RVs.tm (v := bV true) RVs.nil) (fun w hw => ?_)))))))))
   exact ⟨_, ⟨rfl, by kernel_rfl⟩, hw⟩
  ·
   refine Sq.vl [7, 8, 9, 10] [iV m, bV (decide (m < 0)), bV (decide (m < 0)), bV (decide (m < 0))] ?_
   refine Sq.case 29 (p := m < 0) rfl (fun h3 => ?_) (fun h3 => ?_)
   ·
    refine Sq.vl [11, 12, 13, 14, 15, 16, 17, 18, 19, 20, 21, 22, 23] [undef, undef, bV true, bV true, undef, undef, undef, bV true, bV true, undef, undef, undef, bV true] (Sq.d4 (Cd.cT (Cd.s1 (Sq.vl [0] [bV true] (Sq.d4 (Cd.ret (Ex'.thenRet (Ex'.ret Tryz.results7 (RVs.tm (v := bV true) RVs.nil) (fun w hw => ?_)))))))))
    exact ⟨_, ⟨rfl, by kernel_rfl⟩, hw⟩
   ·
    refine Sq.vl [11, 12, 13, 14] [iV m, bV (decide (m > 1000)), bV (decide (m > 1000)), bV (decide (m > 1000))] ?_
    refine Sq.case 33 (p := m > 1000) rfl (fun h4 => ?_) (fun h4 => ?_)
    ·
     refine Sq.vl [15, 16, 17, 18, 19, 20, 21, 22, 23] [undef, undef, undef, bV true, bV true, undef, undef, undef, bV true] (Sq.d4 (Cd.cT (Cd.s1 (Sq.vl [0] [bV true] (Sq.d4 (Cd.ret (Ex'.thenRet (Ex'.ret Tryz.results7 (RVs.tm (v := bV true) RVs.nil) (fun w hw => ?_)))))))))
     exact ⟨_, ⟨rfl, by kernel_rfl⟩, hw⟩
    ·
     refine Sq.vl [15, 16, 17, 18, 19] [.slice a xs.length cap, iV (xs.length : Int), bV (decide ((xs.length : Int) > 200)), bV (decide ((xs.length : Int) > 200)), bV (decide ((xs.length : Int) > 200))] ?_
     refine Sq.case 38 (p := (xs.length : Int) > 200) rfl (fun h5 => ?_) (fun h5 => ?_)
     ·
      refine Sq.vl [20, 21, 22, 23] [undef, undef, undef, bV true] (Sq.d4 (Cd.cT (Cd.s1 (Sq.vl [0] [bV true] (Sq.d4 (Cd.ret (Ex'.thenRet (Ex'.ret Tryz.results7 (RVs.tm (v := bV true) RVs.nil) (fun w hw => ?_)))))))))
      exact ⟨_, ⟨rfl, by kernel_rfl⟩, hw⟩
     ·
      refine Sq.vl [20, 21, 22, 23] [sV ky0, iV (ky0.size : Int), bV (decide ((ky0.size : Int) > 200)), bV (decide ((ky0.size : Int) > 200))] (Sq.d4 ?_)
      refine Cd.case (p := (ky0.size : Int) > 200) (by kernel_rfl) (fun h6 => ?_) (fun h6 => ?_)
      ·
       refine Cd.s1 (Sq.vl [0] [bV true] (Sq.d4 (Cd.ret (Ex'.thenRet (Ex'.ret Tryz.results7 (RVs.tm (v := bV true) RVs.nil) (fun w hw => ?_))))))
       exact ⟨_, ⟨rfl, by kernel_rfl⟩, hw⟩
      ·
       refine Cd.skip (Ex'.next (Cd.s1 (Sq.vl [0, 1] [iV kind, iV m] ?_)))
       refine Sq.e1 [] (l := []) (o_cl Tryz.call15 (pol_New (kind := kind) (most := m) (by omega) (by omega))) rfl ?_; rintro p7 _
       obtain ⟨q8I, q8m, q8k, q8K, q8G⟩ := PSt.Inv.new (kind := kind) (most := m) (by omega) (by omega)
       have q8l := q8I.len
       refine Sq.vl [3, 4, 5, 6, 7] [.tuple #[pV p7 0, .nilIface], pV p7 0, .nilIface, pV p7 0, .nilIface] (Sq.d4 (Cd.seq (Cd.s1 (Sq.vl [0, 1, 2, 3, 4, 5] [pV p7 0, bV false, bV false, .nilIface, bV false, bV false] (Sq.d4 (Cd.cF (Cd.skip (Ex'.next (Cd.seq (Cd.s1 (Sq.vl [0] [iV 0] (Sq.d4 (Cd.block ?_)))))))))))))
       refine Cd.loop (ι := Nat × PSt × Nat) (fun ⟨k, st0, n0⟩ => k ≤ xs.length ∧ st0.Inv k ∧ st0.most = m ∧ st0.kind = kind ∧ n0 ≤ k * 2000) (fun ⟨k, st0, n0⟩ => xs.length - k) (fun ⟨k, st0, n0⟩ => [(1, iV m), (2, .slice a xs.length cap), (3, sV ky0), (9, pV p7 0), (11, iV (k : Int))]) (fun ⟨k, st0, n0⟩ => [oldR w0, polR p7 st0 n0]) (0, PSt.new kind m, 0) (⟨Nat.zero_le _, q8I, q8m, q8k, Nat.le_refl _⟩) (subB_eq (l := [1, 2, 3, 9, 11]) (by kernel_rfl)) (fun w hw => hw.pk [0, 1]) ?_
       rintro ⟨k, st0, n0⟩ hL9
       try dsimp only at hL9 ⊢
       obtain ⟨hk, hI, hM, hK, hn⟩ := hL9
       have hIl := hI.len
       have hnd := hI.nodup
       refine Cd.seq (Cd.s1 (Sq.vl [0, 1, 2, 3] [iV (k : Int), .slice a xs.length cap, iV (xs.length : Int), bV (decide ((k : Int) < (xs.length : Int)))] (Sq.d4 ?_)))
       refine Cd.case (p := (k : Int) < (xs.length : Int)) (by kernel_rfl) (fun h10 => ?_) (fun h10 => ?_)
       ·
        obtain ⟨g11, off12, rfl⟩ := hs.addr (by omega)
        obtain ⟨kyk, hgk, hwk, hrk⟩ := hs.at (k := k) (by omega)
        refine Cd.skip (Ex'.next (Cd.seq (Cd.block (Cd.seq (Cd.s1 (Sq.vl [0, 1] [.slice (some ⟨g11, off12, none⟩) xs.length cap, iV (k : Int)] (Sq.v (r := pV g11 (off12 + k)) (o_idx (b := g11) (cap := cap) (e := 9) (off := off12) (n := xs.length) (kd := .i64) (q := (k : Int)) (i := k) (size := 1) (j := off12 + k) (by kernel_rfl) (by kernel_rfl) (by rfl) (by omega) Tryz.underlying31 (by kernel_rfl) (by omega)) rfl (by kernel_rfl) (Sq.sm [0] (l := [oldR w0]) (o_loadOld (b := g11) (j := off12 + k) (u := sV kyk) (by kernel_rfl) (by kernel_rfl) (hrk 0 _ rfl)) rfl (Sq.vl [4, 5] [iV (kyk.size : Int), bV (decide ((kyk.size : Int) > 200))] (Sq.d4 ?_))))))))))
        refine Cd.case (p := (kyk.size : Int) > 200) (by kernel_rfl) (fun h13 => ?_) (fun h13 => ?_)
        ·
         refine Cd.s1 (Sq.vl [0] [bV true] (Sq.done (Ex'.next (Cd.ret (Ex'.thenRet (Ex'.blockRet (Ex'.thenRet (Ex'.thenRet (Ex'.blockRet (Ex'.thenRet (Ex'.ret Tryz.results7 (RVs.tm (v := bV true) RVs.nil) (fun w hw => ?_))))))))))))
         exact ⟨_, ⟨rfl, by kernel_rfl⟩, hw⟩
        ·
         refine Cd.skip (Ex'.next (Cd.s1 (Sq.vl [0] [iV (k : Int)] (Sq.v (r := iV ((k : Int) % 3)) (o_rem (k := .i64) (a := (k : Int)) (b := 3) (c := (k : Int) % 3) (by kernel_rfl) (by kernel_rfl) (by omega) (Int.tmod_eq_emod_of_nonneg (by omega))) rfl (by kernel_rfl) (Sq.v (r := bV (decide ((k : Int) % 3 = 2))) (o_eqI (k := .i64) (a := (k : Int) % 3) (b := 2) (by kernel_rfl) (by kernel_rfl)) rfl (by kernel_rfl) (Sq.d4 ?_))))))
         refine Cd.case (p := (k : Int) % 3 = 2) (by kernel_rfl) (fun h14 => ?_) (fun h14 => ?_)
         ·
          refine Cd.s0 (Sq.vl [0, 1, 2] [pV p7 0, .slice (some ⟨g11, off12, none⟩) xs.length cap, iV (k : Int)] (Sq.v (r := pV g11 (off12 + k)) (o_idx (b := g11) (cap := cap) (e := 9) (off := off12) (n := xs.length) (kd := .i64) (q := (k : Int)) (i := k) (size := 1) (j := off12 + k) (by kernel_rfl) (by kernel_rfl) (by rfl) (by omega) Tryz.underlying31 (by kernel_rfl) (by omega)) rfl (by kernel_rfl) (Sq.sm [0] (l := [oldR w0]) (o_loadOld (b := g11) (j := off12 + k) (u := sV kyk) (by kernel_rfl) (by kernel_rfl) (hrk 0 _ rfl)) rfl (Sq.sm [1] (l := [polR p7 st0 n0]) (o_cl Tryz.call21 (pol_Remove (p := p7) (st := st0) (n := n0) (j := 1000) kyk (by omega) (PSt.Inv.bd hI (by omega) (by omega) (by omega)))) rfl ?_))))
          generalize hxx15 : PSt.remove st0 kyk = x15
          obtain ⟨q16I, q16m, q16k, q16R⟩ := PSt.Inv.remove hI kyk hxx15
          have q16l := q16I.len
          refine Sq.done (Ex'.blockNormal (Ex'.next (Cd.s0 (Sq.vl [0] [iV (k : Int)] (Sq.v (r := iV ((k : Int) + 1)) (o_add (k := .i64) (a := (k : Int)) (b := 1) (c := (k : Int) + 1) (by kernel_rfl) (by kernel_rfl) (w64 rfl (by omega))) rfl (by kernel_rfl) (Sq.vl [2] [iV ((k : Int) + 1)] (Sq.done ?_)))))))
          refine Ex'.round (g := (k, st0, n0)) (k + 1, x15.1, n0) ?_ ?_ (subB_eq (l := [1, 2, 3, 9, 11]) (by kernel_rfl)) (fun w hw => hw.pk [0, 1])
          · (try dsimp only); exact ⟨by omega, q16I.up (by omega), by omega, by omega, by omega⟩
          · omega
         ·
          refine Cd.s0 (Sq.vl [0, 1, 2] [pV p7 0, .slice (some ⟨g11, off12, none⟩) xs.length cap, iV (k : Int)] (Sq.v (r := pV g11 (off12 + k)) (o_idx (b := g11) (cap := cap) (e := 9) (off := off12) (n := xs.length) (kd := .i64) (q := (k : Int)) (i := k) (size := 1) (j := off12 + k) (by kernel_rfl) (by kernel_rfl) (by rfl) (by omega) Tryz.underlying31 (by kernel_rfl) (by omega)) rfl (by kernel_rfl) (Sq.sm [0] (l := [oldR w0]) (o_loadOld (b := g11) (j := off12 + k) (u := sV kyk) (by kernel_rfl) (by kernel_rfl) (hrk 0 _ rfl)) rfl (Sq.sm [1] (l := [polR p7 st0 n0]) (o_cl Tryz.call17 (pol_Request (p := p7) (st := st0) (n := n0) (n' := n0 + 1005) (j := 1000) kyk (by omega) (by omega) (PSt.Inv.bd hI (by omega) (by omega) (by omega)))) rfl ?_))))
          generalize hxx17 : PSt.req st0 kyk = x17
          obtain ⟨q18I, q18m, q18k, q18R, q18Z⟩ := PSt.Inv.req hI kyk hxx17
          have q18l := q18I.len
          refine Sq.done (Ex'.blockNormal (Ex'.next (Cd.s0 (Sq.vl [0] [iV (k : Int)] (Sq.v (r := iV ((k : Int) + 1)) (o_add (k := .i64) (a := (k : Int)) (b := 1) (c := (k : Int) + 1) (by kernel_rfl) (by kernel_rfl) (w64 rfl (by omega))) rfl (by kernel_rfl) (Sq.vl [2] [iV ((k : Int) + 1)] (Sq.done ?_)))))))
          refine Ex'.round (g := (k, st0, n0)) (k + 1, x17.1, n0 + 1005) ?_ ?_ (subB_eq (l := [1, 2, 3, 9, 11]) (by kernel_rfl)) (fun w hw => hw.pk [0, 1])
          · (try dsimp only); exact ⟨by omega, q18I.up (by omega), by omega, by omega, by omega⟩
          · omega
       ·
        refine Cd.exit (Ex'.thenExit (Ex'.thenExit (Ex'.blockHit (Ex'.next (Cd.s1 (Sq.vl [0] [pV p7 0] ?_))))))
        refine Sq.e1 [1] (l := [polR p7 st0 n0]) (o_cl Tryz.call16 (pol_Keys (p := p7) (st := st0) (n := n0) (j := 1000) (by omega) (PSt.Inv.bd hI (by omega) (by omega) (by omega)))) rfl ?_; rintro v19 _
        refine Sq.fact (i := 2) (R := rowR 9 1 v19 ((PSt.keys st0).length) ((PSt.keys st0).map Value.string)) (by kernel_rfl) row_slice ?_; rintro ⟨a20, c21, rfl, hc21, hc21'⟩
        have hc21'' : c21 ≤ 9223372036854775807 := hc21'
        refine Sq.vl [2] [.slice a20 ((PSt.keys st0).length) c21] (Sq.d1 (Sq.vl [0, 1] [pV p7 0, sV ky0] (Sq.sm [1] (l := [polR p7 st0 n0]) (o_cl Tryz.call19 (pol_Has (p := p7) (st := st0) (n := n0) (j := 1000) ky0 hI (by omega) (PSt.Inv.bd hI (by omega) (by omega) (by omega)))) rfl (Sq.vl [3] [bV (decide (ky0 ∈ PSt.keys st0))] (Sq.d1 (Sq.vl [0] [bV (decide (ky0 ∈ PSt.keys st0))] (Sq.v (r := bV (decide (¬ (ky0 ∈ PSt.keys st0)))) (o_not (by kernel_rfl)) rfl (by kernel_rfl) ?_)))))))
        refine Sq.vl [2] [bV (decide (¬ (ky0 ∈ PSt.keys st0)))] ?_
        refine Sq.case 89 (p := ¬ (ky0 ∈ PSt.keys st0)) rfl (fun h22 => ?_) (fun h22 => ?_)
        ·
         refine Sq.vl [3, 4, 5, 6, 7, 8] [.slice a20 ((PSt.keys st0).length) c21, iV ((PSt.keys st0).length : Int), iV m, bV (decide (((PSt.keys st0).length : Int) < m)), bV (decide (((PSt.keys st0).length : Int) < m)), bV (decide (((PSt.keys st0).length : Int) < m))] (Sq.d4 (Cd.seq (Cd.s1 (Sq.vl [0, 1] [pV p7 0, sV ky0] (Sq.sm [1] (l := [polR p7 st0 n0]) (o_cl Tryz.call26 (pol_Adopt (p := p7) (st := st0) (n := n0) (n' := n0 + 1005) (j := 1000) ky0 (by omega) (by omega) (PSt.Inv.bd hI (by omega) (by omega) (by omega)))) rfl ?_)))))
         generalize hxx23 : PSt.adopt st0 ky0 = x23
         obtain ⟨q24I, q24m, q24k, q24R⟩ := PSt.Inv.adopt hI ky0 hxx23
         have q24l := q24I.len
         have q24P := q24R; rw [hM] at q24P
         refine Sq.vl [3, 4, 5] [bV (decide (((PSt.keys st0).length : Int) < m)), bV (!(x23.2 == (decide (((PSt.keys st0).length : Int) < m)))), bV (!(x23.2 == (decide (((PSt.keys st0).length : Int) < m))))] ?_
         refine Sq.re 100 rfl (congrArg Value.bool (show (!(x23.2 == (decide (((PSt.keys st0).length : Int) < m)))) = false from (by rw [q24P.ok_no h22]; first | done | simp | (simp; omega)))) ?_
         refine Sq.vl [6, 7] [pV p7 0, sV ky0] (Sq.sm [1] (l := [polR p7 x23.1 (n0 + 1005)]) (o_cl Tryz.call19 (pol_Has (p := p7) (st := x23.1) (n := n0 + 1005) (j := 1000) ky0 q24I (by omega) (PSt.Inv.bd q24I (by omega) (by omega) (by omega)))) rfl (Sq.vl [9, 10] [bV (decide (ky0 ∈ PSt.keys st0)), bV (decide (ky0 ∈ PSt.keys st0))] (Sq.re 105 rfl (vF h22) (Sq.vl [11, 12, 13, 14, 15] [bV (decide (((PSt.keys st0).length : Int) < m)), bV (decide (((PSt.keys st0).length : Int) < m)), bV (!((decide (ky0 ∈ PSt.keys x23.1)) == (decide (((PSt.keys st0).length : Int) < m)))), bV (!((decide (ky0 ∈ PSt.keys x23.1)) == (decide (((PSt.keys st0).length : Int) < m)))), bV (!((decide (ky0 ∈ PSt.keys x23.1)) == (decide (((PSt.keys st0).length : Int) < m))))] ?_))))
         refine Sq.re 110 rfl (congrArg Value.bool (show (!((decide (ky0 ∈ PSt.keys x23.1)) == (decide (((PSt.keys st0).length : Int) < m)))) = false from (by rw [show decide (ky0 ∈ PSt.keys x23.1) = decide (((PSt.keys st0).length : Int) < m) from decide_eq_decide.2 (q24P.mem_no h22)]; simp))) ?_
         refine Sq.vl [16, 17] [bV (decide (((PSt.keys st0).length : Int) < m)), bV (decide (((PSt.keys st0).length : Int) < m))] ?_
         refine Sq.case 112 (p := ((PSt.keys st0).length : Int) < m) rfl (fun h28 => ?_) (fun h28 => ?_)
         ·
          refine Sq.vl [18] [pV p7 0] ?_
          refine Sq.e1 [1] (l := [polR p7 x23.1 (n0 + 1005)]) (o_cl Tryz.call22 (pol_Ghosts (p := p7) (st := x23.1) (n := n0 + 1005) (j := 1000) (by omega) (PSt.Inv.bd q24I (by omega) (by omega) (by omega)))) rfl ?_; rintro v29 _
          refine Sq.fact (i := 3) (R := rowR 9 1 v29 ((PSt.ghosts x23.1).length) ((PSt.ghosts x23.1).map Value.string)) (by kernel_rfl) row_slice ?_; rintro ⟨a30, c31, rfl, hc31, hc31'⟩
          have hc31'' : c31 ≤ 9223372036854775807 := hc31'
          refine Sq.vl [20] [sV ky0] (Sq.sm [3] (l := [rowR 9 1 (.slice a30 ((PSt.ghosts x23.1).length) c31) ((PSt.ghosts x23.1).length) ((PSt.ghosts x23.1).map Value.string)]) (o_cl Tryz.call18 ((t_has03 (l := [rowR 9 1 (.slice a30 ((PSt.ghosts x23.1).length) c31) ((PSt.ghosts x23.1).length) ((PSt.ghosts x23.1).map Value.string)]) (xs := PSt.ghosts x23.1) ky0 (fun w own hH => ⟨_, Row.strs (hH 0 _ rfl)⟩)).re (vF (q24P.gho (q24P.ok_no h22 |>.trans (decide_eq_true h28)))))) rfl (Sq.vl [22, 23] [bV false, bV false] (Sq.d4 (Cd.cF (Cd.skip (Ex'.next (Cd.seq (Cd.s1 (Sq.vl [0] [iV 0] (Sq.d4 (Cd.block ?_)))))))))))
          refine Cd.loop (ι := Nat) (fun j => j ≤ (PSt.keys st0).length) (fun j => (PSt.keys st0).length - j) (fun j => [(9, pV p7 0), (12, .slice a20 ((PSt.keys st0).length) c21), (14, bV (decide (((PSt.keys st0).length : Int) < m))), (15, iV (j : Int))]) (fun j => [oldR w0, polR p7 x23.1 (n0 + 1005), rowR 9 1 (.slice a20 ((PSt.keys st0).length) c21) ((PSt.keys st0).length) ((PSt.keys st0).map Value.string), rowR 9 1 (.slice a30 ((PSt.ghosts x23.1).length) c31) ((PSt.ghosts x23.1).length) ((PSt.ghosts x23.1).map Value.string)]) 0 (Nat.zero_le _) (subB_eq (l := [9, 12, 14, 15]) (by kernel_rfl)) (fun w hw => hw.pk [0, 1, 2, 3]) ?_
          rintro j hL32
          try dsimp only at hL32 ⊢
          have hj := hL32
          refine Cd.seq (Cd.s1 (Sq.vl [0, 1, 2, 3] [iV (j : Int), .slice a20 ((PSt.keys st0).length) c21, iV ((PSt.keys st0).length : Int), bV (decide ((j : Int) < ((PSt.keys st0).length : Int)))] (Sq.d4 ?_)))
          refine Cd.case (p := (j : Int) < ((PSt.keys st0).length : Int)) (by kernel_rfl) (fun h33 => ?_) (fun h33 => ?_)
          ·
           refine Cd.fact (i := 2) (R := rowR 9 1 (.slice a20 ((PSt.keys st0).length) c21) ((PSt.keys st0).length) ((PSt.keys st0).map Value.string)) (by kernel_rfl) (row_addr (by omega)) ?_; rintro ⟨b34, rfl⟩
           refine Cd.skip (Ex'.next (Cd.seq (Cd.block (Cd.s1 (Sq.vl [0, 1, 2] [pV p7 0, .slice (some ⟨b34, 0, none⟩) ((PSt.keys st0).length) c21, iV (j : Int)] (Sq.v (r := pV b34 j) (o_idx (b := b34) (cap := c21) (e := 9) (off := 0) (n := (PSt.keys st0).length) (kd := .i64) (q := (j : Int)) (i := j) (size := 1) (j := j) (by kernel_rfl) (by kernel_rfl) (by rfl) (by omega) Tryz.underlying31 (by kernel_rfl) (by omega)) rfl (by kernel_rfl) (Sq.sm [2] (l := [rowR 9 1 (.slice (some ⟨b34, 0, none⟩) ((PSt.keys st0).length) c21) ((PSt.keys st0).length) ((PSt.keys st0).map Value.string)]) (o_loadRow (i := j) (u := sV ((PSt.keys st0).getD j ⟨#[]⟩)) (by kernel_rfl) (by omega) (by kernel_rfl) (get_map (by omega))) rfl (Sq.sm [1] (l := [polR p7 x23.1 (n0 + 1005)]) (o_cl Tryz.call19 ((pol_Has (p := p7) (st := x23.1) (n := n0 + 1005) (j := 1000) ((PSt.keys st0).getD j ⟨#[]⟩) q24I (by omega) (PSt.Inv.bd q24I (by omega) (by omega) (by omega))).re (vT (q24P.keep (getD_mem (by omega)))))) rfl (Sq.vl [6] [bV false] (Sq.d4 (Cd.cF ?_)))))))))))
           refine Cd.skip (Ex'.blockNormal (Ex'.next (Cd.s0 (Sq.vl [0] [iV (j : Int)] (Sq.v (r := iV ((j : Int) + 1)) (o_add (k := .i64) (a := (j : Int)) (b := 1) (c := (j : Int) + 1) (by kernel_rfl) (by kernel_rfl) (w64 rfl (by omega))) rfl (by kernel_rfl) (Sq.vl [2] [iV ((j : Int) + 1)] (Sq.done ?_)))))))
           refine Ex'.round (g := j) (j + 1) ?_ ?_ (subB_eq (l := [9, 12, 14, 15]) (by kernel_rfl)) (fun w hw => hw.pk [0, 1, 2, 3])
           · (try dsimp only); exact (by omega : j + 1 ≤ (PSt.keys st0).length)
           · omega
          ·
           refine Cd.exit (Ex'.thenExit (Ex'.thenExit (Ex'.blockHit (Ex'.next (Cd.s1 (Sq.vl [0, 1, 2] [.slice a20 ((PSt.keys st0).length) c21, iV ((PSt.keys st0).length : Int), iV ((PSt.keys st0).length : Int)] (Sq.d4 (Cd.seq (Cd.s1 (Sq.vl [0] [bV (decide (((PSt.keys st0).length : Int) < m))] (Sq.d4 (Cd.condT (by rw [show ev _ _ = some (.bool (decide (((PSt.keys st0).length : Int) < m))) from by kernel_rfl, decide_eq_true h28]) (Cd.s0 (Sq.vl [0] [iV ((PSt.keys st0).length : Int)] ?_))))))))))))))
           refine Sq.v (r := iV (((PSt.keys st0).length : Int) + 1)) (o_add (k := .i64) (a := ((PSt.keys st0).length : Int)) (b := 1) (c := ((PSt.keys st0).length : Int) + 1) (by kernel_rfl) (by kernel_rfl) (w64 rfl (by omega))) rfl (by kernel_rfl) (Sq.vl [2] [iV (((PSt.keys st0).length : Int) + 1)] (Sq.d1 (Sq.vl [0] [pV p7 0] (Sq.sm [1] (l := [polR p7 x23.1 (n0 + 1005)]) (o_cl Tryz.call20 (pol_Len (p := p7) (st := x23.1) (n := n0 + 1005) (j := 1000) (by omega) (PSt.Inv.bd q24I (by omega) (by omega) (by omega)))) rfl (Sq.vl [2] [iV (((PSt.keys st0).length : Int) + 1)] (Sq.v (r := bV (decide (((PSt.keys x23.1).length : Int) = ((PSt.keys st0).length : Int) + 1))) (o_eqI (k := .i64) (a := ((PSt.keys x23.1).length : Int)) (b := ((PSt.keys st0).length : Int) + 1) (by kernel_rfl) (by kernel_rfl)) rfl (by kernel_rfl) ?_))))))
           refine Sq.re 140 rfl (vT (by have h9 := q24P.len (q24P.ok_no h22 |>.trans (decide_eq_true h28)); omega)) ?_
           refine Sq.vl [4] [bV true] (Sq.d4 (Cd.ret (Ex'.ret Tryz.results7 (RVs.tm (v := bV true) RVs.nil) (fun w hw => ?_))))
           exact ⟨_, ⟨rfl, by kernel_rfl⟩, hw⟩
         ·
          refine Sq.vl [18, 19, 20, 21, 22, 23] [undef, undef, undef, undef, bV false, bV false] (Sq.d4 (Cd.cF (Cd.skip (Ex'.next (Cd.seq (Cd.s1 (Sq.vl [0] [iV 0] (Sq.d4 (Cd.block (Cd.loop (ι := Nat) (fun j => j ≤ (PSt.keys st0).length) (fun j => (PSt.keys st0).length - j) (fun j => [(9, pV p7 0), (12, .slice a20 ((PSt.keys st0).length) c21), (14, bV (decide (((PSt.keys st0).length : Int) < m))), (15, iV (j : Int))]) (fun j => [oldR w0, polR p7 x23.1 (n0 + 1005), rowR 9 1 (.slice a20 ((PSt.keys st0).length) c21) ((PSt.keys st0).length) ((PSt.keys st0).map Value.string)]) 0 (Nat.zero_le _) (subB_eq (l := [9, 12, 14, 15]) (by kernel_rfl)) (fun w hw => hw.pk [0, 1, 2]) ?_))))))))))
          rintro j hL36
          try dsimp only at hL36 ⊢
          have hj := hL36
          refine Cd.seq (Cd.s1 (Sq.vl [0, 1, 2, 3] [iV (j : Int), .slice a20 ((PSt.keys st0).length) c21, iV ((PSt.keys st0).length : Int), bV (decide ((j : Int) < ((PSt.keys st0).length : Int)))] (Sq.d4 ?_)))
          refine Cd.case (p := (j : Int) < ((PSt.keys st0).length : Int)) (by kernel_rfl) (fun h37 => ?_) (fun h37 => ?_)
          ·
           refine Cd.fact (i := 2) (R := rowR 9 1 (.slice a20 ((PSt.keys st0).length) c21) ((PSt.keys st0).length) ((PSt.keys st0).map Value.string)) (by kernel_rfl) (row_addr (by omega)) ?_; rintro ⟨b38, rfl⟩
           refine Cd.skip (Ex'.next (Cd.seq (Cd.block (Cd.s1 (Sq.vl [0, 1, 2] [pV p7 0, .slice (some ⟨b38, 0, none⟩) ((PSt.keys st0).length) c21, iV (j : Int)] (Sq.v (r := pV b38 j) (o_idx (b := b38) (cap := c21) (e := 9) (off := 0) (n := (PSt.keys st0).length) (kd := .i64) (q := (j : Int)) (i := j) (size := 1) (j := j) (by kernel_rfl) (by kernel_rfl) (by rfl) (by omega) Tryz.underlying31 (by kernel_rfl) (by omega)) rfl (by kernel_rfl) (Sq.sm [2] (l := [rowR 9 1 (.slice (some ⟨b38, 0, none⟩) ((PSt.keys st0).length) c21) ((PSt.keys st0).length) ((PSt.keys st0).map Value.string)]) (o_loadRow (i := j) (u := sV ((PSt.keys st0).getD j ⟨#[]⟩)) (by kernel_rfl) (by omega) (by kernel_rfl) (get_map (by omega))) rfl (Sq.sm [1] (l := [polR p7 x23.1 (n0 + 1005)]) (o_cl Tryz.call19 ((pol_Has (p := p7) (st := x23.1) (n := n0 + 1005) (j := 1000) ((PSt.keys st0).getD j ⟨#[]⟩) q24I (by omega) (PSt.Inv.bd q24I (by omega) (by omega) (by omega))).re (vT (q24P.keep (getD_mem (by omega)))))) rfl (Sq.vl [6] [bV false] (Sq.d4 (Cd.cF ?_)))))))))))
           refine Cd.skip (Ex'.blockNormal (Ex'.next (Cd.s0 (Sq.vl [0] [iV (j : Int)] (Sq.v (r := iV ((j : Int) + 1)) (o_add (k := .i64) (a := (j : Int)) (b := 1) (c := (j : Int) + 1) (by kernel_rfl) (by kernel_rfl) (w64 rfl (by omega))) rfl (by kernel_rfl) (Sq.vl [2] [iV ((j : Int) + 1)] (Sq.done ?_)))))))
           refine Ex'.round (g := j) (j + 1) ?_ ?_ (subB_eq (l := [9, 12, 14, 15]) (by kernel_rfl)) (fun w hw => hw.pk [0, 1, 2])
           · (try dsimp only); exact (by omega : j + 1 ≤ (PSt.keys st0).length)
           · omega
          ·
           refine Cd.exit (Ex'.thenExit (Ex'.thenExit (Ex'.blockHit (Ex'.next (Cd.s1 (Sq.vl [0, 1, 2] [.slice a20 ((PSt.keys st0).length) c21, iV ((PSt.keys st0).length : Int), iV ((PSt.keys st0).length : Int)] (Sq.d4 (Cd.seq (Cd.s1 (Sq.vl [0] [bV (decide (((PSt.keys st0).length : Int) < m))] (Sq.d4 (Cd.condF (by rw [show ev _ _ = some (.bool (decide (((PSt.keys st0).length : Int) < m))) from by kernel_rfl, decide_eq_false h28]) (Cd.skip (Ex'.next (Cd.s1 (Sq.vl [0] [pV p7 0] ?_))))))))))))))))
           refine Sq.sm [1] (l := [polR p7 x23.1 (n0 + 1005)]) (o_cl Tryz.call20 (pol_Len (p := p7) (st := x23.1) (n := n0 + 1005) (j := 1000) (by omega) (PSt.Inv.bd q24I (by omega) (by omega) (by omega)))) rfl (Sq.vl [2] [iV ((PSt.keys st0).length : Int)] (Sq.v (r := bV (decide (((PSt.keys x23.1).length : Int) = ((PSt.keys st0).length : Int)))) (o_eqI (k := .i64) (a := ((PSt.keys x23.1).length : Int)) (b := ((PSt.keys st0).length : Int)) (by kernel_rfl) (by kernel_rfl)) rfl (by kernel_rfl) ?_))
           refine Sq.re 140 rfl (vT (by have h9 := q24P.no (q24P.ok_no h22 |>.trans (decide_eq_false h28)); rw [h9])) ?_
           refine Sq.vl [4] [bV true] (Sq.d4 (Cd.ret (Ex'.ret Tryz.results7 (RVs.tm (v := bV true) RVs.nil) (fun w hw => ?_))))
           exact ⟨_, ⟨rfl, by kernel_rfl⟩, hw⟩
        ·
         refine Sq.vl [3, 4, 5, 6, 7, 8] [undef, undef, undef, undef, bV false, bV false] (Sq.d4 (Cd.seq (Cd.s1 (Sq.vl [0, 1] [pV p7 0, sV ky0] (Sq.sm [1] (l := [polR p7 st0 n0]) (o_cl Tryz.call26 (pol_Adopt (p := p7) (st := st0) (n := n0) (n' := n0 + 1005) (j := 1000) ky0 (by omega) (by omega) (PSt.Inv.bd hI (by omega) (by omega) (by omega)))) rfl ?_)))))
         generalize hxx40 : PSt.adopt st0 ky0 = x40
         obtain ⟨q41I, q41m, q41k, q41R⟩ := PSt.Inv.adopt hI ky0 hxx40
         have q41l := q41I.len
         have q41P := q41R; rw [hM] at q41P
         refine Sq.vl [3, 4, 5] [bV false, bV (!(x40.2 == false)), bV (!(x40.2 == false))] ?_
         refine Sq.re 100 rfl (congrArg Value.bool (show (!(x40.2 == false)) = false from (by rw [q41P.ok_in (Classical.not_not.1 h22)]; simp))) ?_
         refine Sq.vl [6, 7] [pV p7 0, sV ky0] (Sq.sm [1] (l := [polR p7 x40.1 (n0 + 1005)]) (o_cl Tryz.call19 (pol_Has (p := p7) (st := x40.1) (n := n0 + 1005) (j := 1000) ky0 q41I (by omega) (PSt.Inv.bd q41I (by omega) (by omega) (by omega)))) rfl (Sq.vl [9, 10] [bV (decide (ky0 ∈ PSt.keys st0)), bV (decide (ky0 ∈ PSt.keys st0))] (Sq.re 105 rfl (vT (Classical.not_not.1 h22)) (Sq.vl [11, 12, 13, 14, 15] [undef, bV true, bV (!((decide (ky0 ∈ PSt.keys x40.1)) == true)), bV (!((decide (ky0 ∈ PSt.keys x40.1)) == true)), bV (!((decide (ky0 ∈ PSt.keys x40.1)) == true))] ?_))))
         refine Sq.re 110 rfl (congrArg Value.bool (show (!((decide (ky0 ∈ PSt.keys x40.1)) == true)) = false from (by rw [decide_eq_true (q41P.keep (Classical.not_not.1 h22))]; simp))) ?_
         refine Sq.vl [16, 17, 18, 19, 20, 21, 22, 23] [bV false, bV false, undef, undef, undef, undef, bV false, bV false] (Sq.d4 (Cd.cF (Cd.skip (Ex'.next (Cd.seq (Cd.s1 (Sq.vl [0] [iV 0] (Sq.d4 (Cd.block (Cd.loop (ι := Nat) (fun j => j ≤ (PSt.keys st0).length) (fun j => (PSt.keys st0).length - j) (fun j => [(9, pV p7 0), (12, .slice a20 ((PSt.keys st0).length) c21), (14, bV false), (15, iV (j : Int))]) (fun j => [oldR w0, polR p7 x40.1 (n0 + 1005), rowR 9 1 (.slice a20 ((PSt.keys st0).length) c21) ((PSt.keys st0).length) ((PSt.keys st0).map Value.string)]) 0 (Nat.zero_le _) (subB_eq (l := [9, 12, 14, 15]) (by kernel_rfl)) (fun w hw => hw.pk [0, 1, 2]) ?_))))))))))
         rintro j hL45
         try dsimp only at hL45 ⊢
         have hj := hL45
         refine Cd.seq (Cd.s1 (Sq.vl [0, 1, 2, 3] [iV (j : Int), .slice a20 ((PSt.keys st0).length) c21, iV ((PSt.keys st0).length : Int), bV (decide ((j : Int) < ((PSt.keys st0).length : Int)))] (Sq.d4 ?_)))
         refine Cd.case (p := (j : Int) < ((PSt.keys st0).length : Int)) (by kernel_rfl) (fun h46 => ?_) (fun h46 => ?_)
         ·
          refine Cd.fact (i := 2) (R := rowR 9 1 (.slice a20 ((PSt.keys st0).length) c21) ((PSt.keys st0).length) ((PSt.keys st0).map Value.string)) (by kernel_rfl) (row_addr (by omega)) ?_; rintro ⟨b47, rfl⟩
          refine Cd.skip (Ex'.next (Cd.seq (Cd.block (Cd.s1 (Sq.vl [0, 1, 2] [pV p7 0, .slice (some ⟨b47, 0, none⟩) ((PSt.keys st0).length) c21, iV (j : Int)] (Sq.v (r := pV b47 j) (o_idx (b := b47) (cap := c21) (e := 9) (off := 0) (n := (PSt.keys st0).length) (kd := .i64) (q := (j : Int)) (i := j) (size := 1) (j := j) (by kernel_rfl) (by kernel_rfl) (by rfl) (by omega) Tryz.underlying31 (by kernel_rfl) (by omega)) rfl (by kernel_rfl) (Sq.sm [2] (l := [rowR 9 1 (.slice (some ⟨b47, 0, none⟩) ((PSt.keys st0).length) c21) ((PSt.keys st0).length) ((PSt.keys st0).map Value.string)]) (o_loadRow (i := j) (u := sV ((PSt.keys st0).getD j ⟨#[]⟩)) (by kernel_rfl) (by omega) (by kernel_rfl) (get_map (by omega))) rfl (Sq.sm [1] (l := [polR p7 x40.1 (n0 + 1005)]) (o_cl Tryz.call19 ((pol_Has (p := p7) (st := x40.1) (n := n0 + 1005) (j := 1000) ((PSt.keys st0).getD j ⟨#[]⟩) q41I (by omega) (PSt.Inv.bd q41I (by omega) (by omega) (by omega))).re (vT (q41P.keep (getD_mem (by omega)))))) rfl (Sq.vl [6] [bV false] (Sq.d4 (Cd.cF ?_)))))))))))
          refine Cd.skip (Ex'.blockNormal (Ex'.next (Cd.s0 (Sq.vl [0] [iV (j : Int)] (Sq.v (r := iV ((j : Int) + 1)) (o_add (k := .i64) (a := (j : Int)) (b := 1) (c := (j : Int) + 1) (by kernel_rfl) (by kernel_rfl) (w64 rfl (by omega))) rfl (by kernel_rfl) (Sq.vl [2] [iV ((j : Int) + 1)] (Sq.done ?_)))))))
          refine Ex'.round (g := j) (j + 1) ?_ ?_ (subB_eq (l := [9, 12, 14, 15]) (by kernel_rfl)) (fun w hw => hw.pk [0, 1, 2])
          · (try dsimp only); exact (by omega : j + 1 ≤ (PSt.keys st0).length)
          · omega
         ·
          refine Cd.exit (Ex'.thenExit (Ex'.thenExit (Ex'.blockHit (Ex'.next (Cd.s1 (Sq.vl [0, 1, 2] [.slice a20 ((PSt.keys st0).length) c21, iV ((PSt.keys st0).length : Int), iV ((PSt.keys st0).length : Int)] (Sq.d4 (Cd.seq (Cd.s1 (Sq.vl [0] [bV false] (Sq.d4 (Cd.cF (Cd.skip (Ex'.next (Cd.s1 (Sq.vl [0] [pV p7 0] ?_))))))))))))))))
          refine Sq.sm [1] (l := [polR p7 x40.1 (n0 + 1005)]) (o_cl Tryz.call20 (pol_Len (p := p7) (st := x40.1) (n := n0 + 1005) (j := 1000) (by omega) (PSt.Inv.bd q41I (by omega) (by omega) (by omega)))) rfl (Sq.vl [2] [iV ((PSt.keys st0).length : Int)] (Sq.v (r := bV (decide (((PSt.keys x40.1).length : Int) = ((PSt.keys st0).length : Int)))) (o_eqI (k := .i64) (a := ((PSt.keys x40.1).length : Int)) (b := ((PSt.keys st0).length : Int)) (by kernel_rfl) (by kernel_rfl)) rfl (by kernel_rfl) ?_))
          refine Sq.re 140 rfl (vT (by have h9 := q41P.no (q41P.ok_in (Classical.not_not.1 h22)); rw [h9])) ?_
          refine Sq.vl [4] [bV true] (Sq.d4 (Cd.ret (Ex'.ret Tryz.results7 (RVs.tm (v := bV true) RVs.nil) (fun w hw => ?_))))
          exact ⟨_, ⟨rfl, by kernel_rfl⟩, hw⟩
theorem policyAdopts_walk (kind m : Int) (v : Value) (xs : List ByteArray) (key : ByteArray) (w : World) (h1 : (Lit.int .i64 kind).wf = true) (h2 : (Lit.int .i64 m).wf = true) (h : Strs w (fun k => k < w.heap.size) v xs) (hz : ∀ k ∈ xs, k.size ≤ maxLen) (hk : key.size ≤ maxLen) (hg : errT w) :
  Calls Tryz.prog 7 #[.int .i64 kind, .int .i64 m, v, .string key] w fun e w' => e = .returned (.bool true) ∧ Below w.heap.size w w' := by
 obtain ⟨a, cap, rfl, hl⟩ := KeysIn.shape ⟨h, hz⟩
 exact law_of (policyAdopts_tri hg (range64 h1) (range64 h2) hl ⟨h, hz⟩)
end Go.Proofs.YtholinnmjoelkaaGreatDoor
