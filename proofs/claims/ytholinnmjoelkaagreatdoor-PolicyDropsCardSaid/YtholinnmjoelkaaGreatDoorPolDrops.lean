/- PolicyDrops: its walk. -/
import Derived.Test.YtholinnmjoelkaaGreatDoorM30
set_option linter.unusedVariables false
set_option linter.unusedSimpArgs false
namespace Go.Proofs.YtholinnmjoelkaaGreatDoor
set_option maxHeartbeats 8000000
set_option maxRecDepth 100000
open Go.RowKit Go.MapKept
theorem policyDrops_tri {w0 : World} {kind m : Int} {a : Option Addr} {cap : Nat} {xs : List ByteArray} (hg : errT w0) (hkind : -9223372036854775808 ≤ kind ∧ kind ≤ 9223372036854775807) (hm : -9223372036854775808 ≤ m ∧ m ≤ 9223372036854775807) (hl : xs.length ≤ cap ∧ cap ≤ 9223372036854775807) (hs : KeysIn w0 (.slice a xs.length cap) xs) : Tri Tryz.prog 6 #[iV kind, iV m, .slice a xs.length cap] [oldR w0] (LawP w0) := by
 refine Tri.en (args := [iV kind, iV m, .slice a xs.length cap]) Tryz.func6 (fun B wz => ?_)
 refine Cd.s1 (Sq.vl [0] [bV false] (Sq.d4 (Cd.seq (Cd.s1 (Sq.sm [0] (l := [oldR w0]) (o_cl Tryz.call11 (pol_awake hg)) rfl (Sq.vl [1] [bV false] (Sq.d4 (Cd.cF (Cd.skip (Ex'.next (Cd.seq (Cd.s1 ?_))))))))))))
 refine Sq.vl [0, 1, 2] [iV kind, bV (decide (kind < 0)), bV (decide (kind < 0))] ?_
 refine Sq.case 25 (p := kind < 0) rfl (fun h1 => ?_) (fun h1 => ?_)
 ·
  refine Sq.vl [3, 4, 5, 6, 7, 8, 9, 10, 11, 12, 13, 14, 15, 16, 17, 18] [undef, undef, bV true, bV true, undef, undef, bV true, bV true, undef, undef, bV true, bV true, undef, undef, undef, bV true] (Sq.d4 (Cd.cT (Cd.s1 (Sq.vl [0] [bV true] (Sq.d4 (Cd.ret (Ex'.thenRet (Ex'.ret Tryz.results6 (RVs.tm (v := bV true) RVs.nil) (fun w hw => ?_)))))))))
  exact ⟨_, ⟨rfl, by kernel_rfl⟩, hw⟩
 ·
  refine Sq.vl [3, 4, 5, 6] [iV kind, bV (decide (kind > 4)), bV (decide (kind > 4)), bV (decide (kind > 4))] ?_
  refine Sq.case 29 (p := kind > 4) rfl (fun h2 => ?_) (fun h2 => ?_)
  ·
   refine Sq.vl [7, 8, 9, 10, 11, 12, 13, 14, 15, 16, 17, 18] [undef, undef, bV true, bV true, undef, undef, bV true, bV true, undef, undef, undef, bV true] (Sq.d4 (Cd.cT (Cd.s1 (Sq.vl [0] [bV true] (Sq.d4 (Cd.ret (Ex'.thenRet (Ex'.ret Tryz.results6 (RVs.tm (v := bV true) RVs.nil) (fun w hw => ?_)))))))))
   exact ⟨_, ⟨rfl, by kernel_rfl⟩, hw⟩
  ·
   refine Sq.vl [7, 8, 9, 10] [iV m, bV (decide (m < 0)), bV (decide (m < 0)), bV (decide (m < 0))] ?_
   refine Sq.case 33 (p := m < 0) rfl (fun h3 => ?_) (fun h3 => ?_)
   ·
    refine Sq.vl [11, 12, 13, 14, 15, 16, 17, 18] [undef, undef, bV true, bV true, undef, undef, undef, bV true] (Sq.d4 (Cd.cT (Cd.s1 (Sq.vl [0] [bV true] (Sq.d4 (Cd.ret (Ex'.thenRet (Ex'.ret Tryz.results6 (RVs.tm (v := bV true) RVs.nil) (fun w hw => ?_)))))))))
    exact ⟨_, ⟨rfl, by kernel_rfl⟩, hw⟩
   ·
    refine Sq.vl [11, 12, 13, 14] [iV m, bV (decide (m > 1000)), bV (decide (m > 1000)), bV (decide (m > 1000))] ?_
    refine Sq.case 37 (p := m > 1000) rfl (fun h4 => ?_) (fun h4 => ?_)
    ·
     refine Sq.vl [15, 16, 17, 18] [undef, undef, undef, bV true] (Sq.d4 (Cd.cT (Cd.s1 (Sq.vl [0] [bV true] (Sq.d4 (Cd.ret (Ex'.thenRet (Ex'.ret Tryz.results6 (RVs.tm (v := bV true) RVs.nil) (fun w hw => ?_)))))))))
     exact ⟨_, ⟨rfl, by kernel_rfl⟩, hw⟩
    ·
     refine Sq.vl [15, 16, 17, 18] [.slice a xs.length cap, iV (xs.length : Int), bV (decide ((xs.length : Int) > 200)), bV (decide ((xs.length : Int) > 200))] (Sq.d4 ?_)
     refine Cd.case (p := (xs.length : Int) > 200) (by kernel_rfl) (fun h5 => ?_) (fun h5 => ?_)
     ·
      refine Cd.s1 (Sq.vl [0] [bV true] (Sq.d4 (Cd.ret (Ex'.thenRet (Ex'.ret Tryz.results6 (RVs.tm (v := bV true) RVs.nil) (fun w hw => ?_))))))
      exact ⟨_, ⟨rfl, by kernel_rfl⟩, hw⟩
     ·
      refine Cd.skip (Ex'.next (Cd.s1 (Sq.vl [0, 1] [iV kind, iV m] ?_)))
      refine Sq.e1 [] (l := []) (o_cl Tryz.call15 (pol_New (kind := kind) (most := m) (by omega) (by omega))) rfl ?_; rintro p6 _
      obtain ⟨q7I, q7m, q7k, q7K, q7G⟩ := PSt.Inv.new (kind := kind) (most := m) (by omega) (by omega)
      have q7l := q7I.len
      refine Sq.vl [3, 4, 5, 6, 7] [.tuple #[pV p6 0, .nilIface], pV p6 0, .nilIface, pV p6 0, .nilIface] (Sq.d4 (Cd.seq (Cd.s1 (Sq.vl [0, 1, 2, 3, 4, 5] [pV p6 0, bV false, bV false, .nilIface, bV false, bV false] (Sq.d4 (Cd.cF (Cd.skip (Ex'.next (Cd.seq (Cd.s1 (Sq.vl [0] [iV 0] (Sq.d4 (Cd.block ?_)))))))))))))
      refine Cd.loop (ι := Nat × PSt × Nat) (fun ⟨k, st0, n0⟩ => k ≤ xs.length ∧ st0.Inv k ∧ st0.most = m ∧ st0.kind = kind ∧ n0 ≤ k * 2000) (fun ⟨k, st0, n0⟩ => xs.length - k) (fun ⟨k, st0, n0⟩ => [(2, .slice a xs.length cap), (7, pV p6 0), (9, iV (k : Int))]) (fun ⟨k, st0, n0⟩ => [oldR w0, polR p6 st0 n0]) (0, PSt.new kind m, 0) (⟨Nat.zero_le _, q7I, q7m, q7k, Nat.le_refl _⟩) (subB_eq (l := [2, 7, 9]) (by kernel_rfl)) (fun w hw => hw.pk [0, 1]) ?_
      rintro ⟨k, st0, n0⟩ hL8
      try dsimp only at hL8 ⊢
      obtain ⟨hk, hI, hM, hK, hn⟩ := hL8
      have hIl := hI.len
      have hnd := hI.nodup
      refine Cd.seq (Cd.s1 (Sq.vl [0, 1, 2, 3] [iV (k : Int), .slice a xs.length cap, iV (xs.length : Int), bV (decide ((k : Int) < (xs.length : Int)))] (Sq.d4 ?_)))
      refine Cd.case (p := (k : Int) < (xs.length : Int)) (by kernel_rfl) (fun h9 => ?_) (fun h9 => ?_)
      ·
       obtain ⟨g10, off11, rfl⟩ := hs.addr (by omega)
       obtain ⟨kyk, hgk, hwk, hrk⟩ := hs.at (k := k) (by omega)
       refine Cd.skip (Ex'.next (Cd.seq (Cd.block (Cd.seq (Cd.s1 (Sq.vl [0, 1] [.slice (some ⟨g10, off11, none⟩) xs.length cap, iV (k : Int)] (Sq.v (r := pV g10 (off11 + k)) (o_idx (b := g10) (cap := cap) (e := 9) (off := off11) (n := xs.length) (kd := .i64) (q := (k : Int)) (i := k) (size := 1) (j := off11 + k) (by kernel_rfl) (by kernel_rfl) (by rfl) (by omega) Tryz.underlying31 (by kernel_rfl) (by omega)) rfl (by kernel_rfl) (Sq.sm [0] (l := [oldR w0]) (o_loadOld (b := g10) (j := off11 + k) (u := sV kyk) (by kernel_rfl) (by kernel_rfl) (hrk 0 _ rfl)) rfl (Sq.vl [4, 5] [iV (kyk.size : Int), bV (decide ((kyk.size : Int) > 200))] (Sq.d4 ?_))))))))))
       refine Cd.case (p := (kyk.size : Int) > 200) (by kernel_rfl) (fun h12 => ?_) (fun h12 => ?_)
       ·
        refine Cd.s1 (Sq.vl [0] [bV true] (Sq.done (Ex'.next (Cd.ret (Ex'.thenRet (Ex'.blockRet (Ex'.thenRet (Ex'.thenRet (Ex'.blockRet (Ex'.thenRet (Ex'.ret Tryz.results6 (RVs.tm (v := bV true) RVs.nil) (fun w hw => ?_))))))))))))
        exact ⟨_, ⟨rfl, by kernel_rfl⟩, hw⟩
       ·
        refine Cd.skip (Ex'.next (Cd.s0 (Sq.vl [0, 1, 2] [pV p6 0, .slice (some ⟨g10, off11, none⟩) xs.length cap, iV (k : Int)] (Sq.v (r := pV g10 (off11 + k)) (o_idx (b := g10) (cap := cap) (e := 9) (off := off11) (n := xs.length) (kd := .i64) (q := (k : Int)) (i := k) (size := 1) (j := off11 + k) (by kernel_rfl) (by kernel_rfl) (by rfl) (by omega) Tryz.underlying31 (by kernel_rfl) (by omega)) rfl (by kernel_rfl) (Sq.sm [0] (l := [oldR w0]) (o_loadOld (b := g10) (j := off11 + k) (u := sV kyk) (by kernel_rfl) (by kernel_rfl) (hrk 0 _ rfl)) rfl (Sq.sm [1] (l := [polR p6 st0 n0]) (o_cl Tryz.call17 (pol_Request (p := p6) (st := st0) (n := n0) (n' := n0 + 1005) (j := 1000) kyk (by omega) (by omega) (PSt.Inv.bd hI (by omega) (by omega) (by omega)))) rfl ?_))))))
        generalize hxx13 : PSt.req st0 kyk = x13
        obtain ⟨q14I, q14m, q14k, q14R, q14Z⟩ := PSt.Inv.req hI kyk hxx13
        have q14l := q14I.len
        refine Sq.done (Ex'.blockNormal (Ex'.next (Cd.s0 (Sq.vl [0] [iV (k : Int)] (Sq.v (r := iV ((k : Int) + 1)) (o_add (k := .i64) (a := (k : Int)) (b := 1) (c := (k : Int) + 1) (by kernel_rfl) (by kernel_rfl) (w64 rfl (by omega))) rfl (by kernel_rfl) (Sq.vl [2] [iV ((k : Int) + 1)] (Sq.done ?_)))))))
        refine Ex'.round (g := (k, st0, n0)) (k + 1, x13.1, n0 + 1005) ?_ ?_ (subB_eq (l := [2, 7, 9]) (by kernel_rfl)) (fun w hw => hw.pk [0, 1])
        · (try dsimp only); exact ⟨by omega, q14I.up (by omega), by omega, by omega, by omega⟩
        · omega
      ·
       refine Cd.exit (Ex'.thenExit (Ex'.thenExit (Ex'.blockHit (Ex'.next (Cd.s1 (Sq.vl [0] [pV p6 0] ?_))))))
       refine Sq.e1 [1] (l := [polR p6 st0 n0]) (o_cl Tryz.call16 (pol_Keys (p := p6) (st := st0) (n := n0) (j := 1000) (by omega) (PSt.Inv.bd hI (by omega) (by omega) (by omega)))) rfl ?_; rintro v15 _
       refine Sq.fact (i := 2) (R := rowR 9 1 v15 ((PSt.keys st0).length) ((PSt.keys st0).map Value.string)) (by kernel_rfl) row_slice ?_; rintro ⟨a16, c17, rfl, hc17, hc17'⟩
       have hc17'' : c17 ≤ 9223372036854775807 := hc17'
       refine Sq.vl [2] [pV p6 0] ?_
       refine Sq.e1 [1] (l := [polR p6 st0 n0]) (o_cl Tryz.call22 (pol_Ghosts (p := p6) (st := st0) (n := n0) (j := 1000) (by omega) (PSt.Inv.bd hI (by omega) (by omega) (by omega)))) rfl ?_; rintro v18 _
       refine Sq.fact (i := 3) (R := rowR 9 1 v18 ((PSt.ghosts st0).length) ((PSt.ghosts st0).map Value.string)) (by kernel_rfl) row_slice ?_; rintro ⟨a19, c20, rfl, hc20, hc20'⟩
       have hc20'' : c20 ≤ 9223372036854775807 := hc20'
       refine Sq.vl [4, 5] [.slice a16 ((PSt.keys st0).length) c17, .slice a19 ((PSt.ghosts st0).length) c20] (Sq.d4 (Cd.seq (Cd.s1 (Sq.vl [0] [iV 0] (Sq.d4 (Cd.block (Cd.loop (ι := Nat × PSt) (fun ⟨j, std⟩ => DrI k st0 std j) (fun ⟨j, std⟩ => (PSt.keys st0).length - j) (fun ⟨j, std⟩ => [(7, pV p6 0), (10, .slice a16 ((PSt.keys st0).length) c17), (11, .slice a19 ((PSt.ghosts st0).length) c20), (12, iV (j : Int))]) (fun ⟨j, std⟩ => [oldR w0, polR p6 std n0, rowR 9 1 (.slice a16 ((PSt.keys st0).length) c17) ((PSt.keys st0).length) ((PSt.keys st0).map Value.string), rowR 9 1 (.slice a19 ((PSt.ghosts st0).length) c20) ((PSt.ghosts st0).length) ((PSt.ghosts st0).map Value.string)]) (0, st0) (⟨hI, rfl, rfl, fun _ q => q, rfl⟩) (subB_eq (l := [7, 10, 11, 12]) (by kernel_rfl)) (fun w hw => hw.pk [0, 1, 2, 3]) ?_)))))))
       rintro ⟨j, std⟩ hL21
       try dsimp only at hL21 ⊢
       have hD := hL21
       have hDl := hD.len; have hDm := hD.m; have hDi := hD.i.len
       refine Cd.seq (Cd.s1 (Sq.vl [0, 1, 2, 3] [iV (j : Int), .slice a16 ((PSt.keys st0).length) c17, iV ((PSt.keys st0).length : Int), bV (decide ((j : Int) < ((PSt.keys st0).length : Int)))] (Sq.d4 ?_)))
       refine Cd.case (p := (j : Int) < ((PSt.keys st0).length : Int)) (by kernel_rfl) (fun h22 => ?_) (fun h22 => ?_)
       ·
        refine Cd.fact (i := 2) (R := rowR 9 1 (.slice a16 ((PSt.keys st0).length) c17) ((PSt.keys st0).length) ((PSt.keys st0).map Value.string)) (by kernel_rfl) (row_addr (by omega)) ?_; rintro ⟨b23, rfl⟩
        refine Cd.skip (Ex'.next (Cd.seq (Cd.block (Cd.s1 (Sq.vl [0] [pV p6 0] (Sq.sm [1] (l := [polR p6 std n0]) (o_cl Tryz.call23 (pol_Victim (p := p6) (st := std) (n := n0) (j := 1000) (by omega) (PSt.Inv.bd hD.i (by omega) (by omega) (by omega)))) rfl (Sq.vl [2, 3, 4, 5, 6] [.tuple #[sV ((PSt.victim std).1), bV ((PSt.victim std).2)], sV ((PSt.victim std).1), bV ((PSt.victim std).2), sV ((PSt.victim std).1), bV ((PSt.victim std).2)] (Sq.d1 (Sq.vl [0] [pV p6 0] (Sq.sm [1] (l := [polR p6 std n0]) (o_cl Tryz.call24 (pol_Drop (p := p6) (st := std) (n := n0) (j := 1000) (by omega) (PSt.Inv.bd hD.i (by omega) (by omega) (by omega)))) rfl ?_))))))))))
        generalize hxx24 : PSt.drop std = x24
        obtain ⟨q25I, q25m, q25k, q25R, q25V⟩ := PSt.Inv.drop hD.i hxx24
        have q25l := q25I.len
        obtain ⟨hd1, hd2, hd3, hd4, hD2⟩ := hD.step (by omega) hxx24; have hD2l := hD2.len
        refine Sq.vl [2, 3, 4, 5, 6] [.tuple #[sV x24.2.1, bV x24.2.2], sV x24.2.1, bV x24.2.2, sV x24.2.1, bV x24.2.2] (Sq.d1 (Sq.vl [0, 1, 2] [bV ((PSt.victim std).2), bV (!((PSt.victim std).2)), bV (!((PSt.victim std).2))] ?_))
        refine Sq.re 94 rfl (congrArg Value.bool (show (!((PSt.victim std).2)) = false from (by rw [hd2, hd1]; simp))) ?_
        refine Sq.vl [3, 4, 5, 6] [bV x24.2.2, bV (!x24.2.2), bV (!x24.2.2), bV (!x24.2.2)] ?_
        refine Sq.re 98 rfl (congrArg Value.bool (show (!x24.2.2) = false from (by rw [hd1]; simp))) ?_
        refine Sq.vl [7, 8] [sV ((PSt.victim std).1), sV x24.2.1] (Sq.v (r := bV (decide ((PSt.victim std).1 ≠ x24.2.1))) (o_neS (a := (PSt.victim std).1) (b := x24.2.1) (by kernel_rfl) (by kernel_rfl)) rfl (by kernel_rfl) (Sq.re 101 rfl (vF (fun z => z (by rw [hd2]))) (Sq.vl [10, 11, 12, 13] [bV false, bV false, pV p6 0, sV x24.2.1] (Sq.sm [1] (l := [polR p6 x24.1 n0]) (o_cl Tryz.call19 ((pol_Has (p := p6) (st := x24.1) (n := n0) (j := 1000) x24.2.1 q25I (by omega) (PSt.Inv.bd q25I (by omega) (by omega) (by omega))).re (vF hd3))) rfl (Sq.vl [15, 16, 17, 18] [bV false, bV false, .slice (some ⟨b23, 0, none⟩) ((PSt.keys st0).length) c17, sV x24.2.1] (Sq.sm [2] (l := [rowR 9 1 (.slice (some ⟨b23, 0, none⟩) ((PSt.keys st0).length) c17) ((PSt.keys st0).length) ((PSt.keys st0).map Value.string)]) (o_cl Tryz.call18 ((t_has03 (l := [rowR 9 1 (.slice (some ⟨b23, 0, none⟩) ((PSt.keys st0).length) c17) ((PSt.keys st0).length) ((PSt.keys st0).map Value.string)]) (xs := PSt.keys st0) x24.2.1 (fun w own hH => ⟨_, Row.strs (hH 0 _ rfl)⟩)).re (vT hd4))) rfl (Sq.vl [20, 21, 22, 23] [bV false, bV false, bV false, pV p6 0] ?_)))))))
        refine Sq.sm [1] (l := [polR p6 x24.1 n0]) (o_cl Tryz.call20 (pol_Len (p := p6) (st := x24.1) (n := n0) (j := 1000) (by omega) (PSt.Inv.bd q25I (by omega) (by omega) (by omega)))) rfl (Sq.vl [25, 26, 27] [.slice (some ⟨b23, 0, none⟩) ((PSt.keys st0).length) c17, iV ((PSt.keys st0).length : Int), iV (j : Int)] (Sq.v (r := iV (((PSt.keys st0).length : Int) - (j : Int))) (o_sub (k := .i64) (a := ((PSt.keys st0).length : Int)) (b := (j : Int)) (c := ((PSt.keys st0).length : Int) - (j : Int)) (by kernel_rfl) (by kernel_rfl) (w64 rfl (by omega))) rfl (by kernel_rfl) (Sq.v (r := iV ((((PSt.keys st0).length : Int) - (j : Int)) - 1)) (o_sub (k := .i64) (a := ((PSt.keys st0).length : Int) - (j : Int)) (b := 1) (c := (((PSt.keys st0).length : Int) - (j : Int)) - 1) (by kernel_rfl) (by kernel_rfl) (w64 rfl (by omega))) rfl (by kernel_rfl) (Sq.v (r := bV (decide (((PSt.keys x24.1).length : Int) ≠ (((PSt.keys st0).length : Int) - (j : Int)) - 1))) (o_neI (k := .i64) (a := ((PSt.keys x24.1).length : Int)) (b := (((PSt.keys st0).length : Int) - (j : Int)) - 1) (by kernel_rfl) (by kernel_rfl)) rfl (by kernel_rfl) (Sq.re 122 rfl (vF (by omega)) (Sq.vl [31] [bV false] (Sq.d4 ?_)))))))
        refine Cd.cF (Cd.skip (Ex'.blockNormal (Ex'.next (Cd.s0 (Sq.vl [0] [iV (j : Int)] (Sq.v (r := iV ((j : Int) + 1)) (o_add (k := .i64) (a := (j : Int)) (b := 1) (c := (j : Int) + 1) (by kernel_rfl) (by kernel_rfl) (w64 rfl (by omega))) rfl (by kernel_rfl) (Sq.vl [2] [iV ((j : Int) + 1)] (Sq.done ?_))))))))
        refine Ex'.round (g := (j, std)) (j + 1, x24.1) ?_ ?_ (subB_eq (l := [7, 10, 11, 12]) (by kernel_rfl)) (fun w hw => hw.pk [0, 1, 2, 3])
        · (try dsimp only); exact hD2
        · omega
       ·
        refine Cd.exit (Ex'.thenExit (Ex'.thenExit (Ex'.blockHit (Ex'.next (Cd.s1 (Sq.vl [0] [pV p6 0] (Sq.sm [1] (l := [polR p6 std n0]) (o_cl Tryz.call24 (pol_Drop (p := p6) (st := std) (n := n0) (j := 1000) (by omega) (PSt.Inv.bd hD.i (by omega) (by omega) (by omega)))) rfl ?_)))))))
        generalize hxx28 : PSt.drop std = x28
        obtain ⟨q29I, q29m, q29k, q29R, q29V⟩ := PSt.Inv.drop hD.i hxx28
        have q29l := q29I.len
        obtain ⟨he1, he2, he3⟩ := hD.fin (by omega) hxx28
        refine Sq.vl [2, 3, 4, 5, 6] [.tuple #[sV x28.2.1, bV x28.2.2], sV x28.2.1, bV x28.2.2, sV x28.2.1, bV x28.2.2] (Sq.d1 (Sq.vl [0] [pV p6 0] (Sq.sm [1] (l := [polR p6 x28.1 n0]) (o_cl Tryz.call23 (pol_Victim (p := p6) (st := x28.1) (n := n0) (j := 1000) (by omega) (PSt.Inv.bd q29I (by omega) (by omega) (by omega)))) rfl (Sq.vl [2, 3, 4, 5, 6] [.tuple #[sV ((PSt.victim x28.1).1), bV ((PSt.victim x28.1).2)], sV ((PSt.victim x28.1).1), bV ((PSt.victim x28.1).2), sV ((PSt.victim x28.1).1), bV ((PSt.victim x28.1).2)] (Sq.d1 (Sq.vl [0, 1, 2] [bV x28.2.2, bV (!x28.2.2), bV (!x28.2.2)] ?_))))))
        refine Sq.re 136 rfl (congrArg Value.bool (show (!x28.2.2) = true from (by rw [he1]; try rfl))) ?_
        refine Sq.vl [3, 4, 5, 6] [bV ((PSt.victim x28.1).2), bV (!((PSt.victim x28.1).2)), bV (!((PSt.victim x28.1).2)), bV (!((PSt.victim x28.1).2))] ?_
        refine Sq.re 140 rfl (congrArg Value.bool (show (!((PSt.victim x28.1).2)) = true from (by rw [he2]; try rfl))) ?_
        refine Sq.vl [7] [pV p6 0] ?_
        refine Sq.e1 [1] (l := [polR p6 x28.1 n0]) (o_cl Tryz.call22 (pol_Ghosts (p := p6) (st := x28.1) (n := n0) (j := 1000) (by omega) (PSt.Inv.bd q29I (by omega) (by omega) (by omega)))) rfl ?_; rintro v32 _
        refine Sq.fact (i := 4) (R := rowR 9 1 v32 ((PSt.ghosts x28.1).length) ((PSt.ghosts x28.1).map Value.string)) (by kernel_rfl) row_slice ?_; rintro ⟨a33, c34, rfl, hc34, hc34'⟩
        have hc34'' : c34 ≤ 9223372036854775807 := hc34'
        refine Sq.vl [9] [.slice a19 ((PSt.ghosts st0).length) c20] (Sq.sm [4, 3] (l := [rowR 9 1 (.slice a33 ((PSt.ghosts x28.1).length) c34) ((PSt.ghosts x28.1).length) ((PSt.ghosts x28.1).map Value.string), rowR 9 1 (.slice a19 ((PSt.ghosts st0).length) c20) ((PSt.ghosts st0).length) ((PSt.ghosts st0).map Value.string)]) (o_cl Tryz.call25 (t_same03 (l := [rowR 9 1 (.slice a33 ((PSt.ghosts x28.1).length) c34) ((PSt.ghosts x28.1).length) ((PSt.ghosts x28.1).map Value.string), rowR 9 1 (.slice a19 ((PSt.ghosts st0).length) c20) ((PSt.ghosts st0).length) ((PSt.ghosts st0).map Value.string)]) (xs := PSt.ghosts x28.1) (ys := PSt.ghosts st0) (fun w own hH => ⟨⟨_, Row.strs (hH 0 _ rfl)⟩, ⟨_, Row.strs (hH 1 _ rfl)⟩⟩))) rfl (Sq.vl [11, 12] [bV (decide (PSt.ghosts x28.1 = PSt.ghosts st0)), bV (decide (PSt.ghosts x28.1 = PSt.ghosts st0))] (Sq.d4 (Cd.ret (Ex'.ret Tryz.results6 (RVs.tm (v := bV (decide (PSt.ghosts x28.1 = PSt.ghosts st0))) RVs.nil) (fun w hw => ?_))))))
        exact ⟨_, ⟨vT he3, by kernel_rfl⟩, hw⟩
theorem policyDrops_walk (kind m : Int) (v : Value) (xs : List ByteArray) (w : World) (h1 : (Lit.int .i64 kind).wf = true) (h2 : (Lit.int .i64 m).wf = true) (h : Strs w (fun k => k < w.heap.size) v xs) (hz : ∀ k ∈ xs, k.size ≤ maxLen) (hg : errT w) :
  Calls Tryz.prog 6 #[.int .i64 kind, .int .i64 m, v] w fun e w' => e = .returned (.bool true) ∧ Below w.heap.size w w' := by
 obtain ⟨a, cap, rfl, hl⟩ := KeysIn.shape ⟨h, hz⟩
 exact law_of (policyDrops_tri hg (range64 h1) (range64 h2) hl ⟨h, hz⟩)
end Go.Proofs.YtholinnmjoelkaaGreatDoor
