/- PolicyShrinks: its walk. -/
import Derived.Test.YtholinnmjoelkaaGreatDoorM30
set_option linter.unusedVariables false
set_option linter.unusedSimpArgs false
namespace Go.Proofs.YtholinnmjoelkaaGreatDoor
set_option maxHeartbeats 8000000
set_option maxRecDepth 100000
open Go.RowKit Go.MapKept
theorem policyShrinks_tri {w0 : World} {kind m less : Int} {a : Option Addr} {cap : Nat} {xs : List ByteArray} (hg : errT w0) (hkind : -9223372036854775808 ≤ kind ∧ kind ≤ 9223372036854775807) (hm : -9223372036854775808 ≤ m ∧ m ≤ 9223372036854775807) (hless : -9223372036854775808 ≤ less ∧ less ≤ 9223372036854775807) (hl : xs.length ≤ cap ∧ cap ≤ 9223372036854775807) (hs : KeysIn w0 (.slice a xs.length cap) xs) : Tri Tryz.prog 9 #[iV kind, iV m, iV less, .slice a xs.length cap] [oldR w0] (LawP w0) := by
 refine Tri.en (args := [iV kind, iV m, iV less, .slice a xs.length cap]) Tryz.func9 (fun B wz => ?_)
 refine Cd.s1 (Sq.vl [0] [bV false] (Sq.d4 (Cd.seq (Cd.s1 (Sq.sm [0] (l := [oldR w0]) (o_cl Tryz.call11 (pol_awake hg)) rfl (Sq.vl [1] [bV false] (Sq.d4 (Cd.cF (Cd.skip (Ex'.next (Cd.seq (Cd.s1 ?_))))))))))))
 refine Sq.vl [0, 1, 2] [iV kind, bV (decide (kind < 0)), bV (decide (kind < 0))] ?_
 refine Sq.case 21 (p := kind < 0) rfl (fun h1 => ?_) (fun h1 => ?_)
 ·
  refine Sq.vl [3, 4, 5, 6, 7, 8, 9, 10, 11, 12, 13, 14, 15, 16, 17, 18, 19, 20, 21, 22, 23, 24, 25, 26] [undef, undef, bV true, bV true, undef, undef, bV true, bV true, undef, undef, bV true, bV true, undef, undef, bV true, bV true, undef, undef, bV true, bV true, undef, undef, undef, bV true] (Sq.d4 (Cd.cT (Cd.s1 (Sq.vl [0] [bV true] (Sq.d4 (Cd.ret (Ex'.thenRet (Ex'.ret Tryz.results9 (RVs.tm (v := bV true) RVs.nil) (fun w hw => ?_)))))))))
  exact ⟨_, ⟨rfl, by kernel_rfl⟩, hw⟩
 ·
  refine Sq.vl [3, 4, 5, 6] [iV kind, bV (decide (kind > 4)), bV (decide (kind > 4)), bV (decide (kind > 4))] ?_
  refine Sq.case 25 (p := kind > 4) rfl (fun h2 => ?_) (fun h2 => ?_)
  ·
   refine Sq.vl [7, 8, 9, 10, 11, 12, 13, 14, 15, 16, 17, 18, 19, 20, 21, 22, 23, 24, 25, 26] [undef, undef, bV true, bV true, undef, undef, bV true, bV true, undef, undef, bV true, bV true, undef, undef, bV true, bV true, undef, undef, undef, bV true] (Sq.d4 (Cd.cT (Cd.s1 (Sq.vl [0] [bV true] (Sq.d4 (Cd.ret (Ex'.thenRet (Ex'.ret Tryz.results9 (RVs.tm (v := bV true) RVs.nil) (fun w hw => ?_)))))))))
   exact ⟨_, ⟨rfl, by kernel_rfl⟩, hw⟩
  ·
   refine Sq.vl [7, 8, 9, 10] [iV m, bV (decide (m < 1)), bV (decide (m < 1)), bV (decide (m < 1))] ?_
   refine Sq.case 29 (p := m < 1) rfl (fun h3 => ?_) (fun h3 => ?_)
   ·
    refine Sq.vl [11, 12, 13, 14, 15, 16, 17, 18, 19, 20, 21, 22, 23, 24, 25, 26] [undef, undef, bV true, bV true, undef, undef, bV true, bV true, undef, undef, bV true, bV true, undef, undef, undef, bV true] (Sq.d4 (Cd.cT (Cd.s1 (Sq.vl [0] [bV true] (Sq.d4 (Cd.ret (Ex'.thenRet (Ex'.ret Tryz.results9 (RVs.tm (v := bV true) RVs.nil) (fun w hw => ?_)))))))))
    exact ⟨_, ⟨rfl, by kernel_rfl⟩, hw⟩
   ·
    refine Sq.vl [11, 12, 13, 14] [iV m, bV (decide (m > 1000)), bV (decide (m > 1000)), bV (decide (m > 1000))] ?_
    refine Sq.case 33 (p := m > 1000) rfl (fun h4 => ?_) (fun h4 => ?_)
    ·
     refine Sq.vl [15, 16, 17, 18, 19, 20, 21, 22, 23, 24, 25, 26] [undef, undef, bV true, bV true, undef, undef, bV true, bV true, undef, undef, undef, bV true] (Sq.d4 (Cd.cT (Cd.s1 (Sq.vl [0] [bV true] (Sq.d4 (Cd.ret (Ex'.thenRet (Ex'.ret Tryz.results9 (RVs.tm (v := bV true) RVs.nil) (fun w hw => ?_)))))))))
     exact ⟨_, ⟨rfl, by kernel_rfl⟩, hw⟩
    ·
     refine Sq.vl [15, 16, 17, 18] [iV less, bV (decide (less < 0)), bV (decide (less < 0)), bV (decide (less < 0))] ?_
     refine Sq.case 37 (p := less < 0) rfl (fun h5 => ?_) (fun h5 => ?_)
     ·
      refine Sq.vl [19, 20, 21, 22, 23, 24, 25, 26] [undef, undef, bV true, bV true, undef, undef, undef, bV true] (Sq.d4 (Cd.cT (Cd.s1 (Sq.vl [0] [bV true] (Sq.d4 (Cd.ret (Ex'.thenRet (Ex'.ret Tryz.results9 (RVs.tm (v := bV true) RVs.nil) (fun w hw => ?_)))))))))
      exact ⟨_, ⟨rfl, by kernel_rfl⟩, hw⟩
     ·
      refine Sq.vl [19, 20, 21, 22] [iV less, bV (decide (less > 1000)), bV (decide (less > 1000)), bV (decide (less > 1000))] ?_
      refine Sq.case 41 (p := less > 1000) rfl (fun h6 => ?_) (fun h6 => ?_)
      ·
       refine Sq.vl [23, 24, 25, 26] [undef, undef, undef, bV true] (Sq.d4 (Cd.cT (Cd.s1 (Sq.vl [0] [bV true] (Sq.d4 (Cd.ret (Ex'.thenRet (Ex'.ret Tryz.results9 (RVs.tm (v := bV true) RVs.nil) (fun w hw => ?_)))))))))
       exact ⟨_, ⟨rfl, by kernel_rfl⟩, hw⟩
      ·
       refine Sq.vl [23, 24, 25, 26] [.slice a xs.length cap, iV (xs.length : Int), bV (decide ((xs.length : Int) > 200)), bV (decide ((xs.length : Int) > 200))] (Sq.d4 ?_)
       refine Cd.case (p := (xs.length : Int) > 200) (by kernel_rfl) (fun h7 => ?_) (fun h7 => ?_)
       ·
        refine Cd.s1 (Sq.vl [0] [bV true] (Sq.d4 (Cd.ret (Ex'.thenRet (Ex'.ret Tryz.results9 (RVs.tm (v := bV true) RVs.nil) (fun w hw => ?_))))))
        exact ⟨_, ⟨rfl, by kernel_rfl⟩, hw⟩
       ·
        refine Cd.skip (Ex'.next (Cd.s1 (Sq.vl [0, 1] [iV kind, iV m] ?_)))
        refine Sq.e1 [] (l := []) (o_cl Tryz.call15 (pol_New (kind := kind) (most := m) (by omega) (by omega))) rfl ?_; rintro p8 _
        obtain ⟨q9I, q9m, q9k, q9K, q9G⟩ := PSt.Inv.new (kind := kind) (most := m) (by omega) (by omega)
        have q9l := q9I.len
        refine Sq.vl [3, 4, 5, 6, 7] [.tuple #[pV p8 0, .nilIface], pV p8 0, .nilIface, pV p8 0, .nilIface] (Sq.d4 (Cd.seq (Cd.s1 (Sq.vl [0, 1, 2, 3, 4, 5] [pV p8 0, bV false, bV false, .nilIface, bV false, bV false] (Sq.d4 (Cd.cF (Cd.skip (Ex'.next (Cd.seq (Cd.s1 (Sq.vl [0] [iV 0] (Sq.d4 (Cd.block ?_)))))))))))))
        refine Cd.loop (ι := Nat × PSt × Nat) (fun ⟨k, st0, n0⟩ => k ≤ xs.length ∧ st0.Inv k ∧ st0.most = m ∧ st0.kind = kind ∧ n0 ≤ k * 2000 ∧ ∀ y ∈ st0.keys, y.size ≤ 20) (fun ⟨k, st0, n0⟩ => xs.length - k) (fun ⟨k, st0, n0⟩ => [(2, iV less), (3, .slice a xs.length cap), (9, pV p8 0), (11, iV (k : Int))]) (fun ⟨k, st0, n0⟩ => [oldR w0, polR p8 st0 n0]) (0, PSt.new kind m, 0) (⟨Nat.zero_le _, q9I, q9m, q9k, Nat.le_refl _, fun y hy => by rw [q9K] at hy; cases hy⟩) (subB_eq (l := [2, 3, 9, 11]) (by kernel_rfl)) (fun w hw => hw.pk [0, 1]) ?_
        rintro ⟨k, st0, n0⟩ hL10
        try dsimp only at hL10 ⊢
        obtain ⟨hk, hI, hM, hK, hn, hz⟩ := hL10
        have hIl := hI.len
        have hnd := hI.nodup
        refine Cd.seq (Cd.s1 (Sq.vl [0, 1, 2, 3] [iV (k : Int), .slice a xs.length cap, iV (xs.length : Int), bV (decide ((k : Int) < (xs.length : Int)))] (Sq.d4 ?_)))
        refine Cd.case (p := (k : Int) < (xs.length : Int)) (by kernel_rfl) (fun h11 => ?_) (fun h11 => ?_)
        ·
         obtain ⟨g12, off13, rfl⟩ := hs.addr (by omega)
         obtain ⟨kyk, hgk, hwk, hrk⟩ := hs.at (k := k) (by omega)
         refine Cd.skip (Ex'.next (Cd.seq (Cd.block (Cd.seq (Cd.s1 (Sq.vl [0, 1] [.slice (some ⟨g12, off13, none⟩) xs.length cap, iV (k : Int)] (Sq.v (r := pV g12 (off13 + k)) (o_idx (b := g12) (cap := cap) (e := 9) (off := off13) (n := xs.length) (kd := .i64) (q := (k : Int)) (i := k) (size := 1) (j := off13 + k) (by kernel_rfl) (by kernel_rfl) (by rfl) (by omega) Tryz.underlying31 (by kernel_rfl) (by omega)) rfl (by kernel_rfl) (Sq.sm [0] (l := [oldR w0]) (o_loadOld (b := g12) (j := off13 + k) (u := sV kyk) (by kernel_rfl) (by kernel_rfl) (hrk 0 _ rfl)) rfl (Sq.vl [4, 5] [iV (kyk.size : Int), bV (decide ((kyk.size : Int) > 20))] (Sq.d4 ?_))))))))))
         refine Cd.case (p := (kyk.size : Int) > 20) (by kernel_rfl) (fun h14 => ?_) (fun h14 => ?_)
         ·
          refine Cd.s1 (Sq.vl [0] [bV true] (Sq.done (Ex'.next (Cd.ret (Ex'.thenRet (Ex'.blockRet (Ex'.thenRet (Ex'.thenRet (Ex'.blockRet (Ex'.thenRet (Ex'.ret Tryz.results9 (RVs.tm (v := bV true) RVs.nil) (fun w hw => ?_))))))))))))
          exact ⟨_, ⟨rfl, by kernel_rfl⟩, hw⟩
         ·
          refine Cd.skip (Ex'.next (Cd.s0 (Sq.vl [0, 1, 2] [pV p8 0, .slice (some ⟨g12, off13, none⟩) xs.length cap, iV (k : Int)] (Sq.v (r := pV g12 (off13 + k)) (o_idx (b := g12) (cap := cap) (e := 9) (off := off13) (n := xs.length) (kd := .i64) (q := (k : Int)) (i := k) (size := 1) (j := off13 + k) (by kernel_rfl) (by kernel_rfl) (by rfl) (by omega) Tryz.underlying31 (by kernel_rfl) (by omega)) rfl (by kernel_rfl) (Sq.sm [0] (l := [oldR w0]) (o_loadOld (b := g12) (j := off13 + k) (u := sV kyk) (by kernel_rfl) (by kernel_rfl) (hrk 0 _ rfl)) rfl (Sq.sm [1] (l := [polR p8 st0 n0]) (o_cl Tryz.call17 (pol_Request (p := p8) (st := st0) (n := n0) (n' := n0 + 1005) (j := 1000) kyk (by omega) (by omega) (PSt.Inv.bd hI (by omega) (by omega) (by omega)))) rfl ?_))))))
          generalize hxx15 : PSt.req st0 kyk = x15
          obtain ⟨q16I, q16m, q16k, q16R, q16Z⟩ := PSt.Inv.req hI kyk hxx15
          have q16l := q16I.len
          have q16P := q16R (by omega)
          refine Sq.done (Ex'.blockNormal (Ex'.next (Cd.s0 (Sq.vl [0] [iV (k : Int)] (Sq.v (r := iV ((k : Int) + 1)) (o_add (k := .i64) (a := (k : Int)) (b := 1) (c := (k : Int) + 1) (by kernel_rfl) (by kernel_rfl) (w64 rfl (by omega))) rfl (by kernel_rfl) (Sq.vl [2] [iV ((k : Int) + 1)] (Sq.done ?_)))))))
          refine Ex'.round (g := (k, st0, n0)) (k + 1, x15.1, n0 + 1005) ?_ ?_ (subB_eq (l := [2, 3, 9, 11]) (by kernel_rfl)) (fun w hw => hw.pk [0, 1])
          · (try dsimp only); exact ⟨by omega, q16I.up (by omega), by omega, by omega, by omega, fun y hy => Classical.byContradiction fun hc => q16P.none (fun e => hc (by rw [e]; omega)) (fun z => hc (hz y z)) hy⟩
          · omega
        ·
         refine Cd.exit (Ex'.thenExit (Ex'.thenExit (Ex'.blockHit (Ex'.next (Cd.s1 (Sq.vl [0] [pV p8 0] ?_))))))
         refine Sq.e1 [1] (l := [polR p8 st0 n0]) (o_cl Tryz.call16 (pol_Keys (p := p8) (st := st0) (n := n0) (j := 1000) (by omega) (PSt.Inv.bd hI (by omega) (by omega) (by omega)))) rfl ?_; rintro v17 _
         refine Sq.fact (i := 2) (R := rowR 9 1 v17 ((PSt.keys st0).length) ((PSt.keys st0).map Value.string)) (by kernel_rfl) row_slice ?_; rintro ⟨a18, c19, rfl, hc19, hc19'⟩
         have hc19'' : c19 ≤ 9223372036854775807 := hc19'
         refine Sq.vl [2] [.slice a18 ((PSt.keys st0).length) c19] (Sq.d1 (Sq.vl [0, 1] [pV p8 0, iV less] ?_))
         refine Sq.e1 [1] (l := [polR p8 st0 n0]) (o_cl Tryz.call28 (pol_Resize (p := p8) (st := st0) (n := n0) (n' := n0 + 1005) (j := 1000) (mo := less) (by omega) (by omega) (by omega) (PSt.Inv.bd hI (by omega) (by omega) (by omega)))) rfl ?_; rintro v20 _
         generalize hxx21 : PSt.resize st0 less = x21
         obtain ⟨q22I, q22m, q22k, q22R⟩ := PSt.Inv.resize hI (by omega) hxx21
         have q22l := q22I.len
         have q22len := q22R.len; have q22tot := q22R.tot
         refine Sq.fact (i := 3) (R := rowR 9 1 v20 ((x21.2).length) ((x21.2).map Value.string)) (by kernel_rfl) row_slice ?_; rintro ⟨a23, c24, rfl, hc24, hc24'⟩
         have hc24'' : c24 ≤ 9223372036854775807 := hc24'
         refine Sq.vl [3, 4, 5, 6, 7] [.tuple #[.slice a23 ((x21.2).length) c24, .nilIface], .slice a23 ((x21.2).length) c24, .nilIface, .slice a23 ((x21.2).length) c24, .nilIface] (Sq.d4 (Cd.seq (Cd.s1 (Sq.vl [0, 1, 2, 3, 4, 5, 6, 7] [.nilIface, bV false, bV false, .slice a23 ((x21.2).length) c24, iV ((x21.2).length : Int), .slice a18 ((PSt.keys st0).length) c19, iV ((PSt.keys st0).length : Int), iV less] (Sq.v (r := iV (((PSt.keys st0).length : Int) - less)) (o_sub (k := .i64) (a := ((PSt.keys st0).length : Int)) (b := less) (c := ((PSt.keys st0).length : Int) - less) (by kernel_rfl) (by kernel_rfl) (w64 rfl (by omega))) rfl (by kernel_rfl) (Sq.vl [9] [iV (if ((PSt.keys st0).length : Int) - less > 0 then ((PSt.keys st0).length : Int) - less else 0)] (Sq.v (r := bV (decide (((x21.2).length : Int) ≠ (if ((PSt.keys st0).length : Int) - less > 0 then ((PSt.keys st0).length : Int) - less else 0)))) (o_neI (k := .i64) (a := ((x21.2).length : Int)) (b := (if ((PSt.keys st0).length : Int) - less > 0 then ((PSt.keys st0).length : Int) - less else 0)) (by kernel_rfl) (by kernel_rfl)) rfl (by kernel_rfl) (Sq.re 94 rfl (vF (fun z => z q22len)) (Sq.vl [11, 12, 13] [bV false, bV false, pV p8 0] ?_)))))))))
         refine Sq.sm [1] (l := [polR p8 x21.1 (n0 + 1005)]) (o_cl Tryz.call29 (pol_Most (p := p8) (st := x21.1) (n := n0 + 1005) (j := 1000) (by omega) (PSt.Inv.bd q22I (by omega) (by omega) (by omega)))) rfl (Sq.vl [15] [iV less] (Sq.v (r := bV (decide ((PSt.most x21.1) ≠ less))) (o_neI (k := .i64) (a := (PSt.most x21.1)) (b := less) (by kernel_rfl) (by kernel_rfl)) rfl (by kernel_rfl) (Sq.re 100 rfl (vF (fun z => z q22m)) (Sq.vl [17, 18, 19] [bV false, bV false, pV p8 0] (Sq.sm [1] (l := [polR p8 x21.1 (n0 + 1005)]) (o_cl Tryz.call20 (pol_Len (p := p8) (st := x21.1) (n := n0 + 1005) (j := 1000) (by omega) (PSt.Inv.bd q22I (by omega) (by omega) (by omega)))) rfl (Sq.vl [21, 22, 23, 24] [.slice a18 ((PSt.keys st0).length) c19, iV ((PSt.keys st0).length : Int), .slice a23 ((x21.2).length) c24, iV ((x21.2).length : Int)] (Sq.v (r := iV (((PSt.keys st0).length : Int) - ((x21.2).length : Int))) (o_sub (k := .i64) (a := ((PSt.keys st0).length : Int)) (b := ((x21.2).length : Int)) (c := ((PSt.keys st0).length : Int) - ((x21.2).length : Int)) (by kernel_rfl) (by kernel_rfl) (w64 rfl (by omega))) rfl (by kernel_rfl) ?_)))))))
         refine Sq.v (r := bV (decide (((PSt.keys x21.1).length : Int) ≠ ((PSt.keys st0).length : Int) - ((x21.2).length : Int)))) (o_neI (k := .i64) (a := ((PSt.keys x21.1).length : Int)) (b := ((PSt.keys st0).length : Int) - ((x21.2).length : Int)) (by kernel_rfl) (by kernel_rfl)) rfl (by kernel_rfl) (Sq.re 110 rfl (vF (by omega)) (Sq.vl [27] [bV false] (Sq.d4 (Cd.cF (Cd.skip (Ex'.next (Cd.seq (Cd.s1 (Sq.vl [0] [iV 0] (Sq.d4 (Cd.block ?_)))))))))))
         refine Cd.loop (ι := Nat) (fun j => j ≤ (x21.2).length) (fun j => (x21.2).length - j) (fun j => [(2, iV less), (9, pV p8 0), (12, .slice a18 ((PSt.keys st0).length) c19), (13, .slice a23 ((x21.2).length) c24), (15, iV (j : Int))]) (fun j => [oldR w0, polR p8 x21.1 (n0 + 1005), rowR 9 1 (.slice a18 ((PSt.keys st0).length) c19) ((PSt.keys st0).length) ((PSt.keys st0).map Value.string), rowR 9 1 (.slice a23 ((x21.2).length) c24) ((x21.2).length) ((x21.2).map Value.string)]) 0 (Nat.zero_le _) (subB_eq (l := [2, 9, 12, 13, 15]) (by kernel_rfl)) (fun w hw => hw.pk [0, 1, 2, 3]) ?_
         rintro j hL25
         try dsimp only at hL25 ⊢
         have hj := hL25
         refine Cd.seq (Cd.s1 (Sq.vl [0, 1, 2, 3] [iV (j : Int), .slice a23 ((x21.2).length) c24, iV ((x21.2).length : Int), bV (decide ((j : Int) < ((x21.2).length : Int)))] (Sq.d4 ?_)))
         refine Cd.case (p := (j : Int) < ((x21.2).length : Int)) (by kernel_rfl) (fun h26 => ?_) (fun h26 => ?_)
         ·
          refine Cd.fact (i := 3) (R := rowR 9 1 (.slice a23 ((x21.2).length) c24) ((x21.2).length) ((x21.2).map Value.string)) (by kernel_rfl) (row_addr (by omega)) ?_; rintro ⟨b27, rfl⟩
          refine Cd.skip (Ex'.next (Cd.seq (Cd.block (Cd.s1 (Sq.vl [0, 1, 2] [pV p8 0, .slice (some ⟨b27, 0, none⟩) ((x21.2).length) c24, iV (j : Int)] (Sq.v (r := pV b27 j) (o_idx (b := b27) (cap := c24) (e := 9) (off := 0) (n := (x21.2).length) (kd := .i64) (q := (j : Int)) (i := j) (size := 1) (j := j) (by kernel_rfl) (by kernel_rfl) (by rfl) (by omega) Tryz.underlying31 (by kernel_rfl) (by omega)) rfl (by kernel_rfl) (Sq.sm [3] (l := [rowR 9 1 (.slice (some ⟨b27, 0, none⟩) ((x21.2).length) c24) ((x21.2).length) ((x21.2).map Value.string)]) (o_loadRow (i := j) (u := sV (x21.2.getD j ⟨#[]⟩)) (by kernel_rfl) (by omega) (by kernel_rfl) (get_map (by omega))) rfl (Sq.sm [1] (l := [polR p8 x21.1 (n0 + 1005)]) (o_cl Tryz.call19 ((pol_Has (p := p8) (st := x21.1) (n := n0 + 1005) (j := 1000) (x21.2.getD j ⟨#[]⟩) q22I (by omega) (PSt.Inv.bd q22I (by omega) (by omega) (by omega))).re (vF ((q22R.out_gone hnd (getD_mem (show j < (x21.2).length by omega))).1)))) rfl (Sq.vl [6, 7, 8, 9] [bV false, .slice a18 ((PSt.keys st0).length) c19, .slice (some ⟨b27, 0, none⟩) ((x21.2).length) c24, iV (j : Int)] (Sq.v (r := pV b27 j) (o_idx (b := b27) (cap := c24) (e := 9) (off := 0) (n := (x21.2).length) (kd := .i64) (q := (j : Int)) (i := j) (size := 1) (j := j) (by kernel_rfl) (by kernel_rfl) (by rfl) (by omega) Tryz.underlying31 (by kernel_rfl) (by omega)) rfl (by kernel_rfl) (Sq.sm [3] (l := [rowR 9 1 (.slice (some ⟨b27, 0, none⟩) ((x21.2).length) c24) ((x21.2).length) ((x21.2).map Value.string)]) (o_loadRow (i := j) (u := sV (x21.2.getD j ⟨#[]⟩)) (by kernel_rfl) (by omega) (by kernel_rfl) (get_map (by omega))) rfl ?_)))))))))))
          refine Sq.sm [2] (l := [rowR 9 1 (.slice a18 ((PSt.keys st0).length) c19) ((PSt.keys st0).length) ((PSt.keys st0).map Value.string)]) (o_cl Tryz.call18 ((t_has03 (l := [rowR 9 1 (.slice a18 ((PSt.keys st0).length) c19) ((PSt.keys st0).length) ((PSt.keys st0).map Value.string)]) (xs := PSt.keys st0) (x21.2.getD j ⟨#[]⟩) (fun w own hH => ⟨_, Row.strs (hH 0 _ rfl)⟩)).re (vT ((q22R.out_gone hnd (getD_mem (show j < (x21.2).length by omega))).2)))) rfl (Sq.vl [13, 14] [bV false, bV false] (Sq.d4 (Cd.cF (Cd.skip (Ex'.blockNormal (Ex'.next (Cd.s0 (Sq.vl [0] [iV (j : Int)] (Sq.v (r := iV ((j : Int) + 1)) (o_add (k := .i64) (a := (j : Int)) (b := 1) (c := (j : Int) + 1) (by kernel_rfl) (by kernel_rfl) (w64 rfl (by omega))) rfl (by kernel_rfl) (Sq.vl [2] [iV ((j : Int) + 1)] ?_))))))))))
          refine Sq.done ?_
          refine Ex'.round (g := j) (j + 1) ?_ ?_ (subB_eq (l := [2, 9, 12, 13, 15]) (by kernel_rfl)) (fun w hw => hw.pk [0, 1, 2, 3])
          · (try dsimp only); exact (by omega : j + 1 ≤ (x21.2).length)
          · omega
         ·
          refine Cd.exit (Ex'.thenExit (Ex'.thenExit (Ex'.blockHit (Ex'.next (Cd.seq (Cd.s1 (Sq.vl [0] [iV 0] (Sq.d4 (Cd.block (Cd.loop (ι := Nat) (fun i => i ≤ (PSt.keys st0).length) (fun i => (PSt.keys st0).length - i) (fun i => [(2, iV less), (9, pV p8 0), (12, .slice a18 ((PSt.keys st0).length) c19), (13, .slice a23 ((x21.2).length) c24), (16, iV (i : Int))]) (fun i => [oldR w0, polR p8 x21.1 (n0 + 1005), rowR 9 1 (.slice a18 ((PSt.keys st0).length) c19) ((PSt.keys st0).length) ((PSt.keys st0).map Value.string), rowR 9 1 (.slice a23 ((x21.2).length) c24) ((x21.2).length) ((x21.2).map Value.string)]) 0 (Nat.zero_le _) (subB_eq (l := [2, 9, 12, 13, 16]) (by kernel_rfl)) (fun w hw => hw.pk [0, 1, 2, 3]) ?_))))))))))
          rintro i hL28
          try dsimp only at hL28 ⊢
          have hi := hL28
          refine Cd.seq (Cd.s1 (Sq.vl [0, 1, 2, 3] [iV (i : Int), .slice a18 ((PSt.keys st0).length) c19, iV ((PSt.keys st0).length : Int), bV (decide ((i : Int) < ((PSt.keys st0).length : Int)))] (Sq.d4 ?_)))
          refine Cd.case (p := (i : Int) < ((PSt.keys st0).length : Int)) (by kernel_rfl) (fun h29 => ?_) (fun h29 => ?_)
          ·
           refine Cd.fact (i := 2) (R := rowR 9 1 (.slice a18 ((PSt.keys st0).length) c19) ((PSt.keys st0).length) ((PSt.keys st0).map Value.string)) (by kernel_rfl) (row_addr (by omega)) ?_; rintro ⟨b30, rfl⟩
           refine Cd.skip (Ex'.next (Cd.seq (Cd.block (Cd.s1 (Sq.vl [0, 1, 2] [pV p8 0, .slice (some ⟨b30, 0, none⟩) ((PSt.keys st0).length) c19, iV (i : Int)] (Sq.v (r := pV b30 i) (o_idx (b := b30) (cap := c19) (e := 9) (off := 0) (n := (PSt.keys st0).length) (kd := .i64) (q := (i : Int)) (i := i) (size := 1) (j := i) (by kernel_rfl) (by kernel_rfl) (by rfl) (by omega) Tryz.underlying31 (by kernel_rfl) (by omega)) rfl (by kernel_rfl) (Sq.sm [2] (l := [rowR 9 1 (.slice (some ⟨b30, 0, none⟩) ((PSt.keys st0).length) c19) ((PSt.keys st0).length) ((PSt.keys st0).map Value.string)]) (o_loadRow (i := i) (u := sV ((PSt.keys st0).getD i ⟨#[]⟩)) (by kernel_rfl) (by omega) (by kernel_rfl) (get_map (by omega))) rfl (Sq.sm [1] (l := [polR p8 x21.1 (n0 + 1005)]) (o_cl Tryz.call19 (pol_Has (p := p8) (st := x21.1) (n := n0 + 1005) (j := 1000) ((PSt.keys st0).getD i ⟨#[]⟩) q22I (by omega) (PSt.Inv.bd q22I (by omega) (by omega) (by omega)))) rfl (Sq.v (r := bV (decide (¬ (((PSt.keys st0).getD i ⟨#[]⟩) ∈ PSt.keys x21.1)))) (o_not (by kernel_rfl)) rfl (by kernel_rfl) (Sq.vl [7] [bV (decide (¬ (((PSt.keys st0).getD i ⟨#[]⟩) ∈ PSt.keys x21.1)))] ?_))))))))))
           refine Sq.case 146 (p := ¬ (((PSt.keys st0).getD i ⟨#[]⟩) ∈ PSt.keys x21.1)) rfl (fun h31 => ?_) (fun h31 => ?_)
           ·
            refine Sq.vl [8, 9, 10] [.slice a23 ((x21.2).length) c24, .slice (some ⟨b30, 0, none⟩) ((PSt.keys st0).length) c19, iV (i : Int)] (Sq.v (r := pV b30 i) (o_idx (b := b30) (cap := c19) (e := 9) (off := 0) (n := (PSt.keys st0).length) (kd := .i64) (q := (i : Int)) (i := i) (size := 1) (j := i) (by kernel_rfl) (by kernel_rfl) (by rfl) (by omega) Tryz.underlying31 (by kernel_rfl) (by omega)) rfl (by kernel_rfl) (Sq.sm [2] (l := [rowR 9 1 (.slice (some ⟨b30, 0, none⟩) ((PSt.keys st0).length) c19) ((PSt.keys st0).length) ((PSt.keys st0).map Value.string)]) (o_loadRow (i := i) (u := sV ((PSt.keys st0).getD i ⟨#[]⟩)) (by kernel_rfl) (by omega) (by kernel_rfl) (get_map (by omega))) rfl (Sq.sm [3] (l := [rowR 9 1 (.slice a23 ((x21.2).length) c24) ((x21.2).length) ((x21.2).map Value.string)]) (o_cl Tryz.call18 (t_has03 (l := [rowR 9 1 (.slice a23 ((x21.2).length) c24) ((x21.2).length) ((x21.2).map Value.string)]) (xs := x21.2) ((PSt.keys st0).getD i ⟨#[]⟩) (fun w own hH => ⟨_, Row.strs (hH 0 _ rfl)⟩))) rfl (Sq.v (r := bV (decide (¬ ((PSt.keys st0).getD i ⟨#[]⟩ ∈ x21.2)))) (o_not (by kernel_rfl)) rfl (by kernel_rfl) (Sq.vl [15] [bV (decide (¬ ((PSt.keys st0).getD i ⟨#[]⟩ ∈ x21.2)))] (Sq.d4 (Cd.condF (by rw [show ev _ _ = some (.bool (decide (¬ ((PSt.keys st0).getD i ⟨#[]⟩ ∈ x21.2)))) from by kernel_rfl, decide_eq_false (fun z => z (q22R.stay (getD_mem (by omega)) h31))]) ?_)))))))
            refine Cd.skip (Ex'.blockNormal (Ex'.next (Cd.s0 (Sq.vl [0] [iV (i : Int)] (Sq.v (r := iV ((i : Int) + 1)) (o_add (k := .i64) (a := (i : Int)) (b := 1) (c := (i : Int) + 1) (by kernel_rfl) (by kernel_rfl) (w64 rfl (by omega))) rfl (by kernel_rfl) (Sq.vl [2] [iV ((i : Int) + 1)] (Sq.done ?_)))))))
            refine Ex'.round (g := i) (i + 1) ?_ ?_ (subB_eq (l := [2, 9, 12, 13, 16]) (by kernel_rfl)) (fun w hw => hw.pk [0, 1, 2, 3])
            · (try dsimp only); exact (by omega : i + 1 ≤ (PSt.keys st0).length)
            · omega
           ·
            refine Sq.vl [8, 9, 10, 11, 12, 13, 14, 15] [undef, undef, undef, undef, undef, undef, undef, bV false] (Sq.d4 (Cd.cF (Cd.skip (Ex'.blockNormal (Ex'.next (Cd.s0 (Sq.vl [0] [iV (i : Int)] (Sq.v (r := iV ((i : Int) + 1)) (o_add (k := .i64) (a := (i : Int)) (b := 1) (c := (i : Int) + 1) (by kernel_rfl) (by kernel_rfl) (w64 rfl (by omega))) rfl (by kernel_rfl) (Sq.vl [2] [iV ((i : Int) + 1)] (Sq.done ?_))))))))))
            refine Ex'.round (g := i) (i + 1) ?_ ?_ (subB_eq (l := [2, 9, 12, 13, 16]) (by kernel_rfl)) (fun w hw => hw.pk [0, 1, 2, 3])
            · (try dsimp only); exact (by omega : i + 1 ≤ (PSt.keys st0).length)
            · omega
          ·
           refine Cd.exit (Ex'.thenExit (Ex'.thenExit (Ex'.blockHit (Ex'.next (Cd.s1 (Sq.vl [0] [pV p8 0] (Sq.sm [1] (l := [polR p8 x21.1 (n0 + 1005)]) (o_cl Tryz.call26 (pol_Adopt (p := p8) (st := x21.1) (n := n0 + 1005) (n' := n0 + 2010) (j := 1000) ⟨#[111, 110, 101, 32, 116, 104, 97, 116, 32, 110, 111, 98, 111, 100, 121, 32, 97, 115, 107, 101, 100, 32, 102, 111, 114]⟩ (by omega) (by omega) (PSt.Inv.bd q22I (by omega) (by omega) (by omega)))) rfl ?_)))))))
           generalize hxx33 : PSt.adopt x21.1 ⟨#[111, 110, 101, 32, 116, 104, 97, 116, 32, 110, 111, 98, 111, 100, 121, 32, 97, 115, 107, 101, 100, 32, 102, 111, 114]⟩ = x33
           obtain ⟨q34I, q34m, q34k, q34R⟩ := PSt.Inv.adopt q22I ⟨#[111, 110, 101, 32, 116, 104, 97, 116, 32, 110, 111, 98, 111, 100, 121, 32, 97, 115, 107, 101, 100, 32, 102, 111, 114]⟩ hxx33
           have q34l := q34I.len
           have hlong : ⟨#[111, 110, 101, 32, 116, 104, 97, 116, 32, 110, 111, 98, 111, 100, 121, 32, 97, 115, 107, 101, 100, 32, 102, 111, 114]⟩ ∉ PSt.keys x21.1 := fun z => absurd (hz ⟨#[111, 110, 101, 32, 116, 104, 97, 116, 32, 110, 111, 98, 111, 100, 121, 32, 97, 115, 107, 101, 100, 32, 102, 111, 114]⟩ (cn_mem.2 (by have h8 := q22R.cn ⟨#[111, 110, 101, 32, 116, 104, 97, 116, 32, 110, 111, 98, 111, 100, 121, 32, 97, 115, 107, 101, 100, 32, 102, 111, 114]⟩; have h9 := cn_mem.1 z; omega))) (by decide)
           have q34o := q34R.ok_no hlong; have q34ll := q34I.len
           refine Sq.vl [2] [pV p8 0] (Sq.sm [1] (l := [polR p8 x33.1 (n0 + 2010)]) (o_cl Tryz.call20 (pol_Len (p := p8) (st := x33.1) (n := n0 + 2010) (j := 1000) (by omega) (PSt.Inv.bd q34I (by omega) (by omega) (by omega)))) rfl (Sq.vl [4] [iV less] (Sq.v (r := bV (decide (((PSt.keys x33.1).length : Int) ≤ less))) (pureV (by kernel_rfl) rfl fun w => by kernel_rfl) rfl (by kernel_rfl) (Sq.re 160 rfl (vT (by omega)) (Sq.vl [6, 7, 8, 9, 10] [bV true, .slice a18 ((PSt.keys st0).length) c19, iV ((PSt.keys st0).length : Int), .slice a23 ((x21.2).length) c24, iV ((x21.2).length : Int)] (Sq.v (r := iV (((PSt.keys st0).length : Int) - ((x21.2).length : Int))) (o_sub (k := .i64) (a := ((PSt.keys st0).length : Int)) (b := ((x21.2).length : Int)) (c := ((PSt.keys st0).length : Int) - ((x21.2).length : Int)) (by kernel_rfl) (by kernel_rfl) (w64 rfl (by omega))) rfl (by kernel_rfl) (Sq.vl [12, 13, 14, 15, 16] [iV less, bV (decide (((PSt.keys st0).length : Int) - ((x21.2).length : Int) < less)), bV (decide (((PSt.keys st0).length : Int) - ((x21.2).length : Int) < less)), bV (x33.2 == (decide (((PSt.keys st0).length : Int) - ((x21.2).length : Int) < less))), bV (x33.2 == (decide (((PSt.keys st0).length : Int) - ((x21.2).length : Int) < less)))] ?_)))))))
           refine Sq.d4 (Cd.ret (Ex'.ret Tryz.results9 (RVs.tm (v := bV (x33.2 == (decide (((PSt.keys st0).length : Int) - ((x21.2).length : Int) < less)))) RVs.nil) (fun w hw => ?_)))
           exact ⟨_, ⟨congrArg Value.bool (beq_iff_eq.2 (q34o.trans (decide_eq_decide.2 ⟨fun _ => by omega, fun _ => by omega⟩))), by kernel_rfl⟩, hw⟩
theorem policyShrinks_walk (kind m less : Int) (v : Value) (xs : List ByteArray) (w : World) (h1 : (Lit.int .i64 kind).wf = true) (h2 : (Lit.int .i64 m).wf = true) (h3 : (Lit.int .i64 less).wf = true) (h : Strs w (fun k => k < w.heap.size) v xs) (hz : ∀ k ∈ xs, k.size ≤ maxLen) (hg : errT w) :
  Calls Tryz.prog 9 #[.int .i64 kind, .int .i64 m, .int .i64 less, v] w fun e w' => e = .returned (.bool true) ∧ Below w.heap.size w w' := by
 obtain ⟨a, cap, rfl, hl⟩ := KeysIn.shape ⟨h, hz⟩
 exact law_of (policyShrinks_tri hg (range64 h1) (range64 h2) (range64 h3) hl ⟨h, hz⟩)
end Go.Proofs.YtholinnmjoelkaaGreatDoor
