/- PolicySame: its walk. -/
import Derived.Test.YtholinnmjoelkaaGreatDoorM30
set_option linter.unusedVariables false
set_option linter.unusedSimpArgs false
namespace Go.Proofs.YtholinnmjoelkaaGreatDoor
set_option maxHeartbeats 8000000
set_option maxRecDepth 100000
open Go.RowKit Go.MapKept
def few3 (xs : List Act3) : Prop := xs.length ≤ 200 ∧ ∀ x ∈ xs, x.2.1.size ≤ 200
theorem take_succ_all {α : Type} {xs : List α} {k : Nat} {y : α} {p : α → Prop} (h : xs[k]? = some y) (hall : ∀ x ∈ xs.take k, p x) (hy : p y) : ∀ x ∈ xs.take (k + 1), p x := by
 intro x hx
 rw [List.take_add_one, h] at hx
 rcases List.mem_append.1 hx with q | q
 · exact hall x q
 · simp at q; subst q; exact hy
theorem t_few {w0 : World} {a : Option Addr} {cap : Nat} {xs : List Act3} (hl : xs.length ≤ 9223372036854775807) (hs : ScriptIn w0 (.slice a xs.length cap) xs) : Tri Tryz.prog 27 #[.slice a xs.length cap] [oldR w0] (PostE (fun b : Bool => b = true → few3 xs) (fun b => .bool b) (fun _ => [oldR w0])) := by
 refine Tri.en (args := [.slice a xs.length cap]) Tryz.func27 (fun B wz => ?_)
 refine Cd.s1 (Sq.vl [0] [bV false] (Sq.d4 (Cd.seq (Cd.s1 (Sq.vl [0] [iV 0] (Sq.d4 (Cd.block (Cd.loop (ι := Nat) (fun k => k ≤ xs.length ∧ k ≤ 200 ∧ ∀ x ∈ xs.take k, x.2.1.size ≤ 200) (fun k => xs.length - k) (fun k => [(0, .slice a xs.length cap), (3, iV (k : Int))]) (fun k => [oldR w0]) 0 (⟨Nat.zero_le _, Nat.zero_le _, by simp⟩) (subB_eq (l := [0, 3]) (by kernel_rfl)) (fun w hw => hw.pk [0]) ?_))))))))
 rintro k hL1
 try dsimp only at hL1 ⊢
 obtain ⟨hk, hk2, hall⟩ := hL1
 refine Cd.seq (Cd.s1 (Sq.vl [0, 1, 2, 3] [iV (k : Int), .slice a xs.length cap, iV (xs.length : Int), bV (decide ((k : Int) < (xs.length : Int)))] (Sq.d4 ?_)))
 refine Cd.case (p := (k : Int) < (xs.length : Int)) (by kernel_rfl) (fun h2 => ?_) (fun h2 => ?_)
 ·
  obtain ⟨g3, off4, rfl⟩ := hs.addr (by omega)
  obtain ⟨kdk, kyk, nnk, hgk, hwk, hrk⟩ := hs.at (k := k) (by omega)
  refine Cd.skip (Ex'.next (Cd.seq (Cd.block (Cd.s1 (Sq.vl [0, 1, 2] [iV (k : Int), bV (decide ((k : Int) ≥ 200)), bV (decide ((k : Int) ≥ 200))] ?_)))))
  refine Sq.case 12 (p := (k : Int) ≥ 200) rfl (fun h5 => ?_) (fun h5 => ?_)
  ·
   refine Sq.vl [3, 4, 5, 6, 7, 8, 9, 10] [undef, undef, undef, undef, undef, undef, undef, bV true] (Sq.d4 (Cd.cT (Cd.s1 (Sq.vl [0] [bV false] (Sq.done (Ex'.next (Cd.ret (Ex'.blockRet (Ex'.thenRet (Ex'.thenRet (Ex'.blockRet (Ex'.thenRet (Ex'.ret Tryz.results27 (RVs.tm (v := bV false) RVs.nil) (fun w hw => ?_))))))))))))))
   exact ⟨_, ⟨false, (fun q => by cases q), rfl, rfl⟩, hw⟩
  ·
   refine Sq.vl [3, 4] [.slice (some ⟨g3, off4, none⟩) xs.length cap, iV (k : Int)] (Sq.v (r := pV g3 (off4 + k * 3)) (o_idx (b := g3) (cap := cap) (e := 50) (off := off4) (n := xs.length) (kd := .i64) (q := (k : Int)) (i := k) (size := 3) (j := off4 + k * 3) (by kernel_rfl) (by kernel_rfl) (by rfl) (by omega) Tryz.underlying47 (by kernel_rfl) (by omega)) rfl (by kernel_rfl) (Sq.vl [6] [pV g3 (off4 + k * 3 + 1)] (Sq.sm [0] (l := [oldR w0]) (o_loadOld (b := g3) (j := off4 + k * 3 + 1) (u := sV kyk) (by kernel_rfl) (by kernel_rfl) (hrk 1 _ rfl)) rfl (Sq.vl [8, 9, 10] [iV (kyk.size : Int), bV (decide ((kyk.size : Int) > 200)), bV (decide ((kyk.size : Int) > 200))] (Sq.d4 ?_)))))
   refine Cd.case (p := (kyk.size : Int) > 200) (by kernel_rfl) (fun h6 => ?_) (fun h6 => ?_)
   ·
    refine Cd.s1 (Sq.vl [0] [bV false] (Sq.done (Ex'.next (Cd.ret (Ex'.blockRet (Ex'.thenRet (Ex'.thenRet (Ex'.blockRet (Ex'.thenRet (Ex'.ret Tryz.results27 (RVs.tm (v := bV false) RVs.nil) (fun w hw => ?_)))))))))))
    exact ⟨_, ⟨false, (fun q => by cases q), rfl, rfl⟩, hw⟩
   ·
    refine Cd.skip (Ex'.blockNormal (Ex'.next (Cd.s0 (Sq.vl [0] [iV (k : Int)] (Sq.v (r := iV ((k : Int) + 1)) (o_add (k := .i64) (a := (k : Int)) (b := 1) (c := (k : Int) + 1) (by kernel_rfl) (by kernel_rfl) (w64 rfl (by omega))) rfl (by kernel_rfl) (Sq.vl [2] [iV ((k : Int) + 1)] (Sq.done ?_)))))))
    refine Ex'.round (g := k) (k + 1) ?_ ?_ (subB_eq (l := [0, 3]) (by kernel_rfl)) (fun w hw => hw.pk [0])
    · (try dsimp only); exact ⟨by omega, by omega, take_succ_all hgk hall (by show kyk.size ≤ 200; omega)⟩
    · omega
 ·
  refine Cd.exit (Ex'.thenExit (Ex'.thenExit (Ex'.blockHit (Ex'.next (Cd.s1 (Sq.vl [0] [bV true] (Sq.d4 (Cd.ret (Ex'.ret Tryz.results27 (RVs.tm (v := bV true) RVs.nil) (fun w hw => ?_))))))))))
  exact ⟨_, ⟨true, fun _ => ⟨by omega, fun x hx => hall x (by rw [List.take_of_length_le (by omega)]; exact hx)⟩, rfl, rfl⟩, hw⟩
theorem policySame_tri {w0 : World} {kind m : Int} {a : Option Addr} {cap : Nat} {xs : List Act3} (hg : errT w0) (hkind : -9223372036854775808 ≤ kind ∧ kind ≤ 9223372036854775807) (hm : -9223372036854775808 ≤ m ∧ m ≤ 9223372036854775807) (hl : xs.length ≤ 9223372036854775807) (hs : ScriptIn w0 (.slice a xs.length cap) xs) : Tri Tryz.prog 8 #[iV kind, iV m, .slice a xs.length cap] [oldR w0] (LawP w0) := by
 refine Tri.en (args := [iV kind, iV m, .slice a xs.length cap]) Tryz.func8 (fun B wz => ?_)
 refine Cd.s1 (Sq.vl [0] [bV false] (Sq.d4 (Cd.seq (Cd.s1 (Sq.sm [0] (l := [oldR w0]) (o_cl Tryz.call11 (pol_awake hg)) rfl (Sq.vl [1] [bV false] (Sq.d4 (Cd.cF (Cd.skip (Ex'.next (Cd.seq (Cd.s1 ?_))))))))))))
 refine Sq.vl [0] [.slice a xs.length cap] ?_
 refine Sq.e1 [0] (l := [oldR w0]) (o_cl Tryz.call27 (t_few hl hs)) rfl ?_; rintro fb1 hfew
 refine Sq.vl [2, 3] [bV (!fb1), bV (!fb1)] ?_
 refine Sq.caseB 22 (t := (!fb1)) rfl (fun h2 => ?_) (fun h2 => ?_)
 ·
  refine Sq.vl [4, 5, 6, 7, 8, 9, 10, 11, 12, 13, 14, 15, 16, 17, 18] [undef, undef, bV true, bV true, undef, undef, bV true, bV true, undef, undef, bV true, bV true, undef, undef, bV true] (Sq.d4 (Cd.cT (Cd.s1 (Sq.vl [0] [bV true] (Sq.d4 (Cd.ret (Ex'.thenRet (Ex'.ret Tryz.results8 (RVs.tm (v := bV true) RVs.nil) (fun w hw => ?_)))))))))
  exact ⟨_, ⟨rfl, by kernel_rfl⟩, hw⟩
 ·
  obtain ⟨hf1, hf2⟩ := hfew (by simpa using h2)
  refine Sq.vl [4, 5, 6, 7] [iV kind, bV (decide (kind < 0)), bV (decide (kind < 0)), bV (decide (kind < 0))] ?_
  refine Sq.case 26 (p := kind < 0) rfl (fun h3 => ?_) (fun h3 => ?_)
  ·
   refine Sq.vl [8, 9, 10, 11, 12, 13, 14, 15, 16, 17, 18] [undef, undef, bV true, bV true, undef, undef, bV true, bV true, undef, undef, bV true] (Sq.d4 (Cd.cT (Cd.s1 (Sq.vl [0] [bV true] (Sq.d4 (Cd.ret (Ex'.thenRet (Ex'.ret Tryz.results8 (RVs.tm (v := bV true) RVs.nil) (fun w hw => ?_)))))))))
   exact ⟨_, ⟨rfl, by kernel_rfl⟩, hw⟩
  ·
   refine Sq.vl [8, 9, 10, 11] [iV kind, bV (decide (kind > 4)), bV (decide (kind > 4)), bV (decide (kind > 4))] ?_
   refine Sq.case 30 (p := kind > 4) rfl (fun h4 => ?_) (fun h4 => ?_)
   ·
    refine Sq.vl [12, 13, 14, 15, 16, 17, 18] [undef, undef, bV true, bV true, undef, undef, bV true] (Sq.d4 (Cd.cT (Cd.s1 (Sq.vl [0] [bV true] (Sq.d4 (Cd.ret (Ex'.thenRet (Ex'.ret Tryz.results8 (RVs.tm (v := bV true) RVs.nil) (fun w hw => ?_)))))))))
    exact ⟨_, ⟨rfl, by kernel_rfl⟩, hw⟩
   ·
    refine Sq.vl [12, 13, 14, 15] [iV m, bV (decide (m < 0)), bV (decide (m < 0)), bV (decide (m < 0))] ?_
    refine Sq.case 34 (p := m < 0) rfl (fun h5 => ?_) (fun h5 => ?_)
    ·
     refine Sq.vl [16, 17, 18] [undef, undef, bV true] (Sq.d4 (Cd.cT (Cd.s1 (Sq.vl [0] [bV true] (Sq.d4 (Cd.ret (Ex'.thenRet (Ex'.ret Tryz.results8 (RVs.tm (v := bV true) RVs.nil) (fun w hw => ?_)))))))))
     exact ⟨_, ⟨rfl, by kernel_rfl⟩, hw⟩
    ·
     refine Sq.vl [16, 17, 18] [iV m, bV (decide (m > 1000)), bV (decide (m > 1000))] (Sq.d4 ?_)
     refine Cd.case (p := m > 1000) (by kernel_rfl) (fun h6 => ?_) (fun h6 => ?_)
     ·
      refine Cd.s1 (Sq.vl [0] [bV true] (Sq.d4 (Cd.ret (Ex'.thenRet (Ex'.ret Tryz.results8 (RVs.tm (v := bV true) RVs.nil) (fun w hw => ?_))))))
      exact ⟨_, ⟨rfl, by kernel_rfl⟩, hw⟩
     ·
      refine Cd.skip (Ex'.next (Cd.s1 (Sq.vl [0, 1] [iV kind, iV m] ?_)))
      refine Sq.e1 [] (l := []) (o_cl Tryz.call15 (pol_New (kind := kind) (most := m) (by omega) (by omega))) rfl ?_; rintro p7 _
      obtain ⟨q8I, q8m, q8k, q8K, q8G⟩ := PSt.Inv.new (kind := kind) (most := m) (by omega) (by omega)
      have q8l := q8I.len
      refine Sq.vl [3, 4, 5, 6, 7] [.tuple #[pV p7 0, .nilIface], pV p7 0, .nilIface, pV p7 0, .nilIface] (Sq.d1 (Sq.vl [0, 1] [iV kind, iV m] ?_))
      refine Sq.e1 [] (l := []) (o_cl Tryz.call15 (pol_New (kind := kind) (most := m) (by omega) (by omega))) rfl ?_; rintro p9 _
      obtain ⟨q10I, q10m, q10k, q10K, q10G⟩ := PSt.Inv.new (kind := kind) (most := m) (by omega) (by omega)
      have q10l := q10I.len
      refine Sq.vl [3, 4, 5, 6, 7] [.tuple #[pV p9 0, .nilIface], pV p9 0, .nilIface, pV p9 0, .nilIface] (Sq.d4 (Cd.seq (Cd.s1 (Sq.vl [0, 1, 2, 3, 4, 5, 6, 7, 8, 9, 10, 11, 12, 13] [pV p7 0, bV false, bV false, pV p9 0, bV false, bV false, bV false, .nilIface, bV false, bV false, bV false, .nilIface, bV false, bV false] (Sq.d4 (Cd.cF (Cd.skip (Ex'.next (Cd.seq (Cd.s1 (Sq.vl [0] [iV 0] (Sq.d4 (Cd.block ?_)))))))))))))
      refine Cd.loop (ι := Nat × PSt × PSt × Nat × Nat) (fun ⟨k, sta, stb, na, nb⟩ => k ≤ xs.length ∧ sta.Inv k ∧ stb = sta ∧ sta.most = m ∧ na ≤ k * 2000 ∧ nb ≤ k * 2000) (fun ⟨k, sta, stb, na, nb⟩ => xs.length - k) (fun ⟨k, sta, stb, na, nb⟩ => [(2, .slice a xs.length cap), (7, pV p7 0), (9, pV p9 0), (11, iV (k : Int))]) (fun ⟨k, sta, stb, na, nb⟩ => [oldR w0, polR p7 sta na, polR p9 stb nb]) (0, PSt.new kind m, PSt.new kind m, 0, 0) (⟨Nat.zero_le _, q10I, rfl, q10m, Nat.le_refl _, Nat.le_refl _⟩) (subB_eq (l := [2, 7, 9, 11]) (by kernel_rfl)) (fun w hw => hw.pk [0, 1, 2]) ?_
      rintro ⟨k, sta, stb, na, nb⟩ hL11
      try dsimp only at hL11 ⊢
      obtain ⟨hk, hI, hST, hM, hna, hnb⟩ := hL11
      have hIb : stb.Inv k := hST ▸ hI
      have hMb : stb.most = m := by rw [hST]; exact hM
      have hIl := hI.len
      have hIbl := hIb.len
      refine Cd.seq (Cd.s1 (Sq.vl [0, 1, 2, 3] [iV (k : Int), .slice a xs.length cap, iV (xs.length : Int), bV (decide ((k : Int) < (xs.length : Int)))] (Sq.d4 ?_)))
      refine Cd.case (p := (k : Int) < (xs.length : Int)) (by kernel_rfl) (fun h12 => ?_) (fun h12 => ?_)
      ·
       obtain ⟨g13, off14, rfl⟩ := hs.addr (by omega)
       obtain ⟨kdk, kyk, nnk, hgk, hwk, hrk⟩ := hs.at (k := k) (by omega)
       refine Cd.skip (Ex'.next (Cd.seq (Cd.block (Cd.s1 (Sq.vl [0, 1] [.slice (some ⟨g13, off14, none⟩) xs.length cap, iV (k : Int)] (Sq.v (r := pV g13 (off14 + k * 3)) (o_idx (b := g13) (cap := cap) (e := 50) (off := off14) (n := xs.length) (kd := .i64) (q := (k : Int)) (i := k) (size := 3) (j := off14 + k * 3) (by kernel_rfl) (by kernel_rfl) (by rfl) (by omega) Tryz.underlying47 (by kernel_rfl) (by omega)) rfl (by kernel_rfl) (Sq.sm [0] (l := [oldR w0]) (o_loadOldN (b := g13) (j := off14 + k * 3) [iV kdk, sV kyk, iV nnk] (by kernel_rfl) (by kernel_rfl) hrk) rfl ?_)))))))
       refine Sq.e0 [] (l := []) (o_new [iV 0, sV ⟨#[]⟩, iV 0] (fun w => by kernel_rfl)) rfl ?_; intro b15 _
       refine Sq.sm [3] (l := [blkR b15 [iV 0, sV ⟨#[]⟩, iV 0] 50]) (o_st (i := 0) (v := .agg #[iV kdk, sV kyk, iV nnk])) rfl (Sq.d1 (Sq.vl [0] [pV p7 0] ?_))
       refine Sq.e1 [1] (l := [polR p7 sta na]) (o_cl Tryz.call16 (pol_Keys (p := p7) (st := sta) (n := na) (j := 1000) (by omega) (PSt.Inv.bd hI (by omega) (by omega) (by omega)))) rfl ?_; rintro v16 _
       refine Sq.fact (i := 4) (R := rowR 9 1 v16 ((PSt.keys sta).length) ((PSt.keys sta).map Value.string)) (by kernel_rfl) row_slice ?_; rintro ⟨a17, c18, rfl, hc18, hc18'⟩
       have hc18'' : c18 ≤ 9223372036854775807 := hc18'
       refine Sq.d1 (Sq.vl [0] [pV p7 0] ?_)
       refine Sq.e1 [1] (l := [polR p7 sta na]) (o_cl Tryz.call22 (pol_Ghosts (p := p7) (st := sta) (n := na) (j := 1000) (by omega) (PSt.Inv.bd hI (by omega) (by omega) (by omega)))) rfl ?_; rintro v19 _
       refine Sq.fact (i := 5) (R := rowR 9 1 v19 ((PSt.ghosts sta).length) ((PSt.ghosts sta).map Value.string)) (by kernel_rfl) row_slice ?_; rintro ⟨a20, c21, rfl, hc21, hc21'⟩
       have hc21'' : c21 ≤ 9223372036854775807 := hc21'
       refine Sq.d1 (Sq.vl [0] [pV p7 0] (Sq.sm [1] (l := [polR p7 sta na]) (o_cl Tryz.call23 (pol_Victim (p := p7) (st := sta) (n := na) (j := 1000) (by omega) (PSt.Inv.bd hI (by omega) (by omega) (by omega)))) rfl (Sq.d1 (Sq.vl [0, 1] [pV p7 0, pV b15 1] (Sq.sm [3] (l := [blkR b15 [iV kdk, sV kyk, iV nnk] 50]) (o_ld (i := 1) (v := sV kyk)) rfl (Sq.sm [1] (l := [polR p7 sta na]) (o_cl Tryz.call19 (pol_Has (p := p7) (st := sta) (n := na) (j := 1000) kyk hI (by omega) (PSt.Inv.bd hI (by omega) (by omega) (by omega)))) rfl (Sq.d1 ?_)))))))
       refine Sq.vl [0] [pV b15 0] (Sq.sm [3] (l := [blkR b15 [iV kdk, sV kyk, iV nnk] 50]) (o_ld (i := 0) (v := iV kdk)) rfl (Sq.d4 (Cd.block (Cd.s1 (Sq.v (r := bV (decide (kdk = 0))) (o_eqI (k := .i64) (a := kdk) (b := 0) (by kernel_rfl) (by kernel_rfl)) rfl (by kernel_rfl) (Sq.vl [1] [bV (decide (kdk = 0))] (Sq.d4 ?_)))))))
       refine Cd.case (p := kdk = 0) (by kernel_rfl) (fun h22 => ?_) (fun h22 => ?_)
       ·
        refine Cd.seq ?_
        refine Cd.plan [0, 0, 2, 7, 0, 0, 32, 127, 255] [(2, [(3, false, 0)]), (3, [(1, true, 0)]), (6, [(3, false, 0)]), (7, [(2, true, 0)])] [] [] [(1, 3, fun g => polR p7 ((PSt.req sta kyk).1) (na + 1005)), (2, 7, fun g => polR p9 ((PSt.req stb kyk).1) (nb + 1005))] [fun g => pV p7 0, fun g => pV b15 1, fun g => sV kyk, fun g => .agg #[bV ((PSt.req sta kyk).2.1), sV ((PSt.req sta kyk).2.2.1), bV ((PSt.req sta kyk).2.2.2)], fun g => pV p9 0, fun g => pV b15 1, fun g => sV kyk, fun g => .agg #[bV ((PSt.req stb kyk).2.1), sV ((PSt.req stb kyk).2.2.1), bV ((PSt.req stb kyk).2.2.2)], fun g => bV (decide (¬ ((PSt.req sta kyk).2.1 = (PSt.req stb kyk).2.1 ∧ (PSt.req sta kyk).2.2.1 = (PSt.req stb kyk).2.2.1 ∧ (PSt.req sta kyk).2.2.2 = (PSt.req stb kyk).2.2.2)))] (by kernel_rfl) (by kernel_rfl) rfl (trivial) ?_ ?_
        · exact ⟨ob_k, ob_k, ob_r (l := fun g => [blkR b15 [iV kdk, sV kyk, iV nnk] 50]) (l' := fun g => [blkR b15 [iV kdk, sV kyk, iV nnk] 50]) (v := fun g => sV kyk) (fun g => o_ld (i := 1) (v := sV kyk)), ob_r (l := fun g => [polR p7 sta na]) (l' := fun g => [polR p7 ((PSt.req sta kyk).1) (na + 1005)]) (v := fun g => .agg #[bV ((PSt.req sta kyk).2.1), sV ((PSt.req sta kyk).2.2.1), bV ((PSt.req sta kyk).2.2.2)]) (fun g => o_cl Tryz.call17 (pol_Request (p := p7) (st := sta) (n := na) (n' := na + 1005) (j := 1000) kyk (by omega) (by omega) (PSt.Inv.bd hI (by omega) (by omega) (by omega)))), ob_k, ob_k, ob_r (l := fun g => [blkR b15 [iV kdk, sV kyk, iV nnk] 50]) (l' := fun g => [blkR b15 [iV kdk, sV kyk, iV nnk] 50]) (v := fun g => sV kyk) (fun g => o_ld (i := 1) (v := sV kyk)), ob_r (l := fun g => [polR p9 stb nb]) (l' := fun g => [polR p9 ((PSt.req stb kyk).1) (nb + 1005)]) (v := fun g => .agg #[bV ((PSt.req stb kyk).2.1), sV ((PSt.req stb kyk).2.2.1), bV ((PSt.req stb kyk).2.2.2)]) (fun g => o_cl Tryz.call17 (pol_Request (p := p9) (st := stb) (n := nb) (n' := nb + 1005) (j := 1000) kyk (by omega) (by omega) (PSt.Inv.bd hIb (by omega) (by omega) (by omega)))), ob_w (v := fun g => bV (decide (¬ ((PSt.req sta kyk).2.1 = (PSt.req stb kyk).2.1 ∧ (PSt.req sta kyk).2.2.1 = (PSt.req stb kyk).2.2.1 ∧ (PSt.req sta kyk).2.2.2 = (PSt.req stb kyk).2.2.2)))) (fun g => o_eqStep_ne ((PSt.req sta kyk).2.1) ((PSt.req stb kyk).2.1) ((PSt.req sta kyk).2.2.1) ((PSt.req stb kyk).2.2.1) ((PSt.req sta kyk).2.2.2) ((PSt.req stb kyk).2.2.2) (by kernel_rfl) (by kernel_rfl)), trivial⟩
        intro g
        refine Ex'.sub (subB_spec [2, 7, 9, 11, 96]) (Ex'.a1 [0, 1, 2, 3, 4, 5] (σ' := [(2, .slice (some ⟨g13, off14, none⟩) xs.length cap), (7, pV p7 0), (9, pV p9 0), (11, iV (k : Int)), (96, bV (decide (¬ ((PSt.req sta kyk).2.1 = (PSt.req stb kyk).2.1 ∧ (PSt.req sta kyk).2.2.1 = (PSt.req stb kyk).2.2.1 ∧ (PSt.req sta kyk).2.2.2 = (PSt.req stb kyk).2.2.2))))]) (Γ' := [oldR w0, polR p7 ((PSt.req sta kyk).1) (na + 1005), polR p9 ((PSt.req stb kyk).1) (nb + 1005), blkR b15 [iV kdk, sV kyk, iV nnk] 50, rowR 9 1 (.slice a17 ((PSt.keys sta).length) c18) ((PSt.keys sta).length) ((PSt.keys sta).map Value.string), rowR 9 1 (.slice a20 ((PSt.ghosts sta).length) c21) ((PSt.ghosts sta).length) ((PSt.ghosts sta).map Value.string)]) ?_)
        generalize hxx23 : PSt.req sta kyk = x23
        obtain ⟨q24I, q24m, q24k, q24R, q24Z⟩ := PSt.Inv.req hI kyk hxx23
        have q24l := q24I.len
        generalize hxx25 : PSt.req stb kyk = x25
        obtain ⟨q26I, q26m, q26k, q26R, q26Z⟩ := PSt.Inv.req hIb kyk hxx25
        have q26l := q26I.len
        have he : x25 = x23 := by rw [← hxx25, ← hxx23, hST]
        refine Ex'.next (Cd.condF (by rw [show ev _ _ = some (.bool (decide (¬ (x23.2.1 = x25.2.1 ∧ x23.2.2.1 = x25.2.2.1 ∧ x23.2.2.2 = x25.2.2.2)))) from by kernel_rfl, decide_eq_false (fun z => z ⟨by rw [he], by rw [he], by rw [he]⟩)]) (Cd.skip (Ex'.blockNormal (Ex'.blockNormal (Ex'.next (Cd.s0 (Sq.vl [0] [iV (k : Int)] (Sq.v (r := iV ((k : Int) + 1)) (o_add (k := .i64) (a := (k : Int)) (b := 1) (c := (k : Int) + 1) (by kernel_rfl) (by kernel_rfl) (w64 rfl (by omega))) rfl (by kernel_rfl) (Sq.vl [2] [iV ((k : Int) + 1)] (Sq.done ?_))))))))))
        refine Ex'.round (g := (k, sta, stb, na, nb)) (k + 1, x23.1, x25.1, na + 1005, nb + 1005) ?_ ?_ (subB_eq (l := [2, 7, 9, 11]) (by kernel_rfl)) (fun w hw => hw.pk [0, 1, 2])
        · (try dsimp only); exact ⟨by omega, q24I.up (by omega), by rw [he], by omega, by omega, by omega⟩
        · omega
       ·
        refine Cd.s1 (Sq.v (r := bV (decide (kdk = 1))) (o_eqI (k := .i64) (a := kdk) (b := 1) (by kernel_rfl) (by kernel_rfl)) rfl (by kernel_rfl) (Sq.vl [1] [bV (decide (kdk = 1))] (Sq.d4 ?_)))
        refine Cd.case (p := kdk = 1) (by kernel_rfl) (fun h28 => ?_) (fun h28 => ?_)
        ·
         refine Cd.seq ?_
         refine Cd.plan [0, 0, 2, 7, 0, 0, 32, 127, 255] [(2, [(3, false, 0)]), (3, [(1, true, 0)]), (6, [(3, false, 0)]), (7, [(2, true, 0)])] [] [] [(1, 3, fun g => polR p7 ((PSt.remove sta kyk).1) na), (2, 7, fun g => polR p9 ((PSt.remove stb kyk).1) nb)] [fun g => pV p7 0, fun g => pV b15 1, fun g => sV kyk, fun g => bV ((PSt.remove sta kyk).2), fun g => pV p9 0, fun g => pV b15 1, fun g => sV kyk, fun g => bV ((PSt.remove stb kyk).2), fun g => bV (!(((PSt.remove sta kyk).2) == ((PSt.remove stb kyk).2)))] (by kernel_rfl) (by kernel_rfl) rfl (trivial) ?_ ?_
         · exact ⟨ob_k, ob_k, ob_r (l := fun g => [blkR b15 [iV kdk, sV kyk, iV nnk] 50]) (l' := fun g => [blkR b15 [iV kdk, sV kyk, iV nnk] 50]) (v := fun g => sV kyk) (fun g => o_ld (i := 1) (v := sV kyk)), ob_r (l := fun g => [polR p7 sta na]) (l' := fun g => [polR p7 ((PSt.remove sta kyk).1) na]) (v := fun g => bV ((PSt.remove sta kyk).2)) (fun g => o_cl Tryz.call21 (pol_Remove (p := p7) (st := sta) (n := na) (j := 1000) kyk (by omega) (PSt.Inv.bd hI (by omega) (by omega) (by omega)))), ob_k, ob_k, ob_r (l := fun g => [blkR b15 [iV kdk, sV kyk, iV nnk] 50]) (l' := fun g => [blkR b15 [iV kdk, sV kyk, iV nnk] 50]) (v := fun g => sV kyk) (fun g => o_ld (i := 1) (v := sV kyk)), ob_r (l := fun g => [polR p9 stb nb]) (l' := fun g => [polR p9 ((PSt.remove stb kyk).1) nb]) (v := fun g => bV ((PSt.remove stb kyk).2)) (fun g => o_cl Tryz.call21 (pol_Remove (p := p9) (st := stb) (n := nb) (j := 1000) kyk (by omega) (PSt.Inv.bd hIb (by omega) (by omega) (by omega)))), ob_k, trivial⟩
         intro g
         refine Ex'.sub (subB_spec [2, 7, 9, 11, 107]) (Ex'.a1 [0, 1, 2, 3, 4, 5] (σ' := [(2, .slice (some ⟨g13, off14, none⟩) xs.length cap), (7, pV p7 0), (9, pV p9 0), (11, iV (k : Int)), (107, bV (!(((PSt.remove sta kyk).2) == ((PSt.remove stb kyk).2))))]) (Γ' := [oldR w0, polR p7 ((PSt.remove sta kyk).1) na, polR p9 ((PSt.remove stb kyk).1) nb, blkR b15 [iV kdk, sV kyk, iV nnk] 50, rowR 9 1 (.slice a17 ((PSt.keys sta).length) c18) ((PSt.keys sta).length) ((PSt.keys sta).map Value.string), rowR 9 1 (.slice a20 ((PSt.ghosts sta).length) c21) ((PSt.ghosts sta).length) ((PSt.ghosts sta).map Value.string)]) ?_)
         generalize hxx29 : PSt.remove sta kyk = x29
         obtain ⟨q30I, q30m, q30k, q30R⟩ := PSt.Inv.remove hI kyk hxx29
         have q30l := q30I.len
         generalize hxx31 : PSt.remove stb kyk = x31
         obtain ⟨q32I, q32m, q32k, q32R⟩ := PSt.Inv.remove hIb kyk hxx31
         have q32l := q32I.len
         have he : x31 = x29 := by rw [← hxx31, ← hxx29, hST]
         refine Ex'.next ?_
         refine Cd.condF (by rw [show ev _ _ = some (.bool ((!((x29.2) == (x31.2))))) from by kernel_rfl, show (!((x29.2) == (x31.2))) = false from (by rw [he]; simp)]) ?_
         refine Cd.skip (Ex'.blockNormal (Ex'.blockNormal (Ex'.next (Cd.s0 (Sq.vl [0] [iV (k : Int)] (Sq.v (r := iV ((k : Int) + 1)) (o_add (k := .i64) (a := (k : Int)) (b := 1) (c := (k : Int) + 1) (by kernel_rfl) (by kernel_rfl) (w64 rfl (by omega))) rfl (by kernel_rfl) (Sq.vl [2] [iV ((k : Int) + 1)] (Sq.done ?_))))))))
         refine Ex'.round (g := (k, sta, stb, na, nb)) (k + 1, x29.1, x31.1, na, nb) ?_ ?_ (subB_eq (l := [2, 7, 9, 11]) (by kernel_rfl)) (fun w hw => hw.pk [0, 1, 2])
         · (try dsimp only); exact ⟨by omega, q30I.up (by omega), by rw [he], by omega, by omega, by omega⟩
         · omega
        ·
         refine Cd.s1 (Sq.v (r := bV (decide (kdk = 2))) (o_eqI (k := .i64) (a := kdk) (b := 2) (by kernel_rfl) (by kernel_rfl)) rfl (by kernel_rfl) (Sq.vl [1] [bV (decide (kdk = 2))] (Sq.d4 ?_)))
         refine Cd.case (p := kdk = 2) (by kernel_rfl) (fun h34 => ?_) (fun h34 => ?_)
         ·
          refine Cd.seq ?_
          refine Cd.plan [0, 0, 2, 7, 0, 0, 32, 127, 255] [(2, [(3, false, 0)]), (3, [(1, true, 0)]), (6, [(3, false, 0)]), (7, [(2, true, 0)])] [] [] [(1, 3, fun g => polR p7 ((PSt.adopt sta kyk).1) (na + 1005)), (2, 7, fun g => polR p9 ((PSt.adopt stb kyk).1) (nb + 1005))] [fun g => pV p7 0, fun g => pV b15 1, fun g => sV kyk, fun g => bV ((PSt.adopt sta kyk).2), fun g => pV p9 0, fun g => pV b15 1, fun g => sV kyk, fun g => bV ((PSt.adopt stb kyk).2), fun g => bV (!(((PSt.adopt sta kyk).2) == ((PSt.adopt stb kyk).2)))] (by kernel_rfl) (by kernel_rfl) rfl (trivial) ?_ ?_
          · exact ⟨ob_k, ob_k, ob_r (l := fun g => [blkR b15 [iV kdk, sV kyk, iV nnk] 50]) (l' := fun g => [blkR b15 [iV kdk, sV kyk, iV nnk] 50]) (v := fun g => sV kyk) (fun g => o_ld (i := 1) (v := sV kyk)), ob_r (l := fun g => [polR p7 sta na]) (l' := fun g => [polR p7 ((PSt.adopt sta kyk).1) (na + 1005)]) (v := fun g => bV ((PSt.adopt sta kyk).2)) (fun g => o_cl Tryz.call26 (pol_Adopt (p := p7) (st := sta) (n := na) (n' := na + 1005) (j := 1000) kyk (by omega) (by omega) (PSt.Inv.bd hI (by omega) (by omega) (by omega)))), ob_k, ob_k, ob_r (l := fun g => [blkR b15 [iV kdk, sV kyk, iV nnk] 50]) (l' := fun g => [blkR b15 [iV kdk, sV kyk, iV nnk] 50]) (v := fun g => sV kyk) (fun g => o_ld (i := 1) (v := sV kyk)), ob_r (l := fun g => [polR p9 stb nb]) (l' := fun g => [polR p9 ((PSt.adopt stb kyk).1) (nb + 1005)]) (v := fun g => bV ((PSt.adopt stb kyk).2)) (fun g => o_cl Tryz.call26 (pol_Adopt (p := p9) (st := stb) (n := nb) (n' := nb + 1005) (j := 1000) kyk (by omega) (by omega) (PSt.Inv.bd hIb (by omega) (by omega) (by omega)))), ob_k, trivial⟩
          intro g
          refine Ex'.sub (subB_spec [2, 7, 9, 11, 118]) (Ex'.a1 [0, 1, 2, 3, 4, 5] (σ' := [(2, .slice (some ⟨g13, off14, none⟩) xs.length cap), (7, pV p7 0), (9, pV p9 0), (11, iV (k : Int)), (118, bV (!(((PSt.adopt sta kyk).2) == ((PSt.adopt stb kyk).2))))]) (Γ' := [oldR w0, polR p7 ((PSt.adopt sta kyk).1) (na + 1005), polR p9 ((PSt.adopt stb kyk).1) (nb + 1005), blkR b15 [iV kdk, sV kyk, iV nnk] 50, rowR 9 1 (.slice a17 ((PSt.keys sta).length) c18) ((PSt.keys sta).length) ((PSt.keys sta).map Value.string), rowR 9 1 (.slice a20 ((PSt.ghosts sta).length) c21) ((PSt.ghosts sta).length) ((PSt.ghosts sta).map Value.string)]) ?_)
          generalize hxx35 : PSt.adopt sta kyk = x35
          obtain ⟨q36I, q36m, q36k, q36R⟩ := PSt.Inv.adopt hI kyk hxx35
          have q36l := q36I.len
          generalize hxx37 : PSt.adopt stb kyk = x37
          obtain ⟨q38I, q38m, q38k, q38R⟩ := PSt.Inv.adopt hIb kyk hxx37
          have q38l := q38I.len
          have he : x37 = x35 := by rw [← hxx37, ← hxx35, hST]
          refine Ex'.next ?_
          refine Cd.condF (by rw [show ev _ _ = some (.bool ((!((x35.2) == (x37.2))))) from by kernel_rfl, show (!((x35.2) == (x37.2))) = false from (by rw [he]; simp)]) ?_
          refine Cd.skip (Ex'.blockNormal (Ex'.blockNormal (Ex'.next (Cd.s0 (Sq.vl [0] [iV (k : Int)] (Sq.v (r := iV ((k : Int) + 1)) (o_add (k := .i64) (a := (k : Int)) (b := 1) (c := (k : Int) + 1) (by kernel_rfl) (by kernel_rfl) (w64 rfl (by omega))) rfl (by kernel_rfl) (Sq.vl [2] [iV ((k : Int) + 1)] (Sq.done ?_))))))))
          refine Ex'.round (g := (k, sta, stb, na, nb)) (k + 1, x35.1, x37.1, na + 1005, nb + 1005) ?_ ?_ (subB_eq (l := [2, 7, 9, 11]) (by kernel_rfl)) (fun w hw => hw.pk [0, 1, 2])
          · (try dsimp only); exact ⟨by omega, q36I.up (by omega), by rw [he], by omega, by omega, by omega⟩
          · omega
         ·
          refine Cd.s1 (Sq.v (r := bV (decide (kdk = 3))) (o_eqI (k := .i64) (a := kdk) (b := 3) (by kernel_rfl) (by kernel_rfl)) rfl (by kernel_rfl) (Sq.vl [1] [bV (decide (kdk = 3))] (Sq.d4 ?_)))
          refine Cd.case (p := kdk = 3) (by kernel_rfl) (fun h40 => ?_) (fun h40 => ?_)
          ·
           refine Cd.s1 (Sq.vl [0] [pV p7 0] (Sq.sm [1] (l := [polR p7 sta na]) (o_cl Tryz.call24 (pol_Drop (p := p7) (st := sta) (n := na) (j := 1000) (by omega) (PSt.Inv.bd hI (by omega) (by omega) (by omega)))) rfl ?_))
           generalize hxx41 : PSt.drop sta = x41
           obtain ⟨q42I, q42m, q42k, q42R, q42V⟩ := PSt.Inv.drop hI hxx41
           have q42l := q42I.len
           refine Sq.vl [2, 3, 4, 5, 6] [.tuple #[sV x41.2.1, bV x41.2.2], sV x41.2.1, bV x41.2.2, sV x41.2.1, bV x41.2.2] (Sq.d1 (Sq.vl [0] [pV p9 0] (Sq.sm [2] (l := [polR p9 stb nb]) (o_cl Tryz.call24 (pol_Drop (p := p9) (st := stb) (n := nb) (j := 1000) (by omega) (PSt.Inv.bd hIb (by omega) (by omega) (by omega)))) rfl ?_)))
           generalize hxx43 : PSt.drop stb = x43
           obtain ⟨q44I, q44m, q44k, q44R, q44V⟩ := PSt.Inv.drop hIb hxx43
           have q44l := q44I.len
           have he : x43 = x41 := by rw [← hxx43, ← hxx41, hST]
           refine Sq.vl [2, 3, 4, 5, 6] [.tuple #[sV x43.2.1, bV x43.2.2], sV x43.2.1, bV x43.2.2, sV x43.2.1, bV x43.2.2] (Sq.d1 (Sq.vl [0, 1] [sV x41.2.1, sV x43.2.1] (Sq.v (r := bV (decide (x41.2.1 ≠ x43.2.1))) (o_neS (a := x41.2.1) (b := x43.2.1) (by kernel_rfl) (by kernel_rfl)) rfl (by kernel_rfl) (Sq.re 133 rfl (vF (fun z => z (by rw [he]))) (Sq.vl [3, 4, 5, 6, 7] [bV false, bV x41.2.2, bV x43.2.2, bV (!(x41.2.2 == x43.2.2)), bV (!(x41.2.2 == x43.2.2))] (Sq.d4 ?_))))))
           refine Cd.condF (by rw [show ev _ _ = some (.bool ((!(x41.2.2 == x43.2.2)))) from by kernel_rfl, show (!(x41.2.2 == x43.2.2)) = false from (by rw [he]; simp)]) ?_
           refine Cd.skip (Ex'.blockNormal (Ex'.blockNormal (Ex'.next (Cd.s0 (Sq.vl [0] [iV (k : Int)] (Sq.v (r := iV ((k : Int) + 1)) (o_add (k := .i64) (a := (k : Int)) (b := 1) (c := (k : Int) + 1) (by kernel_rfl) (by kernel_rfl) (w64 rfl (by omega))) rfl (by kernel_rfl) (Sq.vl [2] [iV ((k : Int) + 1)] (Sq.done ?_))))))))
           refine Ex'.round (g := (k, sta, stb, na, nb)) (k + 1, x41.1, x43.1, na, nb) ?_ ?_ (subB_eq (l := [2, 7, 9, 11]) (by kernel_rfl)) (fun w hw => hw.pk [0, 1, 2])
           · (try dsimp only); exact ⟨by omega, q42I.up (by omega), by rw [he], by omega, by omega, by omega⟩
           · omega
          ·
           refine Cd.skip (Ex'.blockNormal (Ex'.blockNormal (Ex'.next (Cd.s0 (Sq.vl [0] [iV (k : Int)] (Sq.v (r := iV ((k : Int) + 1)) (o_add (k := .i64) (a := (k : Int)) (b := 1) (c := (k : Int) + 1) (by kernel_rfl) (by kernel_rfl) (w64 rfl (by omega))) rfl (by kernel_rfl) (Sq.vl [2] [iV ((k : Int) + 1)] (Sq.done ?_))))))))
           refine Ex'.round (g := (k, sta, stb, na, nb)) (k + 1, sta, stb, na, nb) ?_ ?_ (subB_eq (l := [2, 7, 9, 11]) (by kernel_rfl)) (fun w hw => hw.pk [0, 1, 2])
           · (try dsimp only); exact ⟨by omega, hI.up (by omega), hST, by omega, by omega, by omega⟩
           · omega
      ·
       refine Cd.exit (Ex'.thenExit (Ex'.thenExit (Ex'.blockHit (Ex'.next (Cd.s1 (Sq.vl [0] [pV p7 0] ?_))))))
       refine Sq.e1 [1] (l := [polR p7 sta na]) (o_cl Tryz.call16 (pol_Keys (p := p7) (st := sta) (n := na) (j := 1000) (by omega) (PSt.Inv.bd hI (by omega) (by omega) (by omega)))) rfl ?_; rintro v46 _
       refine Sq.fact (i := 3) (R := rowR 9 1 v46 ((PSt.keys sta).length) ((PSt.keys sta).map Value.string)) (by kernel_rfl) row_slice ?_; rintro ⟨a47, c48, rfl, hc48, hc48'⟩
       have hc48'' : c48 ≤ 9223372036854775807 := hc48'
       refine Sq.vl [2] [pV p9 0] ?_
       refine Sq.e1 [2] (l := [polR p9 stb nb]) (o_cl Tryz.call16 (pol_Keys (p := p9) (st := stb) (n := nb) (j := 1000) (by omega) (PSt.Inv.bd hIb (by omega) (by omega) (by omega)))) rfl ?_; rintro v49 _
       refine Sq.fact (i := 4) (R := rowR 9 1 v49 ((PSt.keys stb).length) ((PSt.keys stb).map Value.string)) (by kernel_rfl) row_slice ?_; rintro ⟨a50, c51, rfl, hc51, hc51'⟩
       have hc51'' : c51 ≤ 9223372036854775807 := hc51'
       refine Sq.sm [3, 4] (l := [rowR 9 1 (.slice a47 ((PSt.keys sta).length) c48) ((PSt.keys sta).length) ((PSt.keys sta).map Value.string), rowR 9 1 (.slice a50 ((PSt.keys stb).length) c51) ((PSt.keys stb).length) ((PSt.keys stb).map Value.string)]) (o_cl Tryz.call25 ((t_same03 (l := [rowR 9 1 (.slice a47 ((PSt.keys sta).length) c48) ((PSt.keys sta).length) ((PSt.keys sta).map Value.string), rowR 9 1 (.slice a50 ((PSt.keys stb).length) c51) ((PSt.keys stb).length) ((PSt.keys stb).map Value.string)]) (xs := PSt.keys sta) (ys := PSt.keys stb) (fun w own hH => ⟨⟨_, Row.strs (hH 0 _ rfl)⟩, ⟨_, Row.strs (hH 1 _ rfl)⟩⟩)).re (vT (by rw [hST])))) rfl (Sq.vl [5, 6] [bV true, pV p7 0] ?_)
       refine Sq.e1 [1] (l := [polR p7 sta na]) (o_cl Tryz.call22 (pol_Ghosts (p := p7) (st := sta) (n := na) (j := 1000) (by omega) (PSt.Inv.bd hI (by omega) (by omega) (by omega)))) rfl ?_; rintro v52 _
       refine Sq.fact (i := 5) (R := rowR 9 1 v52 ((PSt.ghosts sta).length) ((PSt.ghosts sta).map Value.string)) (by kernel_rfl) row_slice ?_; rintro ⟨a53, c54, rfl, hc54, hc54'⟩
       have hc54'' : c54 ≤ 9223372036854775807 := hc54'
       refine Sq.vl [8] [pV p9 0] ?_
       refine Sq.e1 [2] (l := [polR p9 stb nb]) (o_cl Tryz.call22 (pol_Ghosts (p := p9) (st := stb) (n := nb) (j := 1000) (by omega) (PSt.Inv.bd hIb (by omega) (by omega) (by omega)))) rfl ?_; rintro v55 _
       refine Sq.fact (i := 6) (R := rowR 9 1 v55 ((PSt.ghosts stb).length) ((PSt.ghosts stb).map Value.string)) (by kernel_rfl) row_slice ?_; rintro ⟨a56, c57, rfl, hc57, hc57'⟩
       have hc57'' : c57 ≤ 9223372036854775807 := hc57'
       refine Sq.sm [5, 6] (l := [rowR 9 1 (.slice a53 ((PSt.ghosts sta).length) c54) ((PSt.ghosts sta).length) ((PSt.ghosts sta).map Value.string), rowR 9 1 (.slice a56 ((PSt.ghosts stb).length) c57) ((PSt.ghosts stb).length) ((PSt.ghosts stb).map Value.string)]) (o_cl Tryz.call25 ((t_same03 (l := [rowR 9 1 (.slice a53 ((PSt.ghosts sta).length) c54) ((PSt.ghosts sta).length) ((PSt.ghosts sta).map Value.string), rowR 9 1 (.slice a56 ((PSt.ghosts stb).length) c57) ((PSt.ghosts stb).length) ((PSt.ghosts stb).map Value.string)]) (xs := PSt.ghosts sta) (ys := PSt.ghosts stb) (fun w own hH => ⟨⟨_, Row.strs (hH 0 _ rfl)⟩, ⟨_, Row.strs (hH 1 _ rfl)⟩⟩)).re (vT (by rw [hST])))) rfl (Sq.vl [11, 12] [bV true, bV true] (Sq.d4 (Cd.ret (Ex'.ret Tryz.results8 (RVs.tm (v := bV true) RVs.nil) (fun w hw => ?_)))))
       exact ⟨_, ⟨rfl, by kernel_rfl⟩, hw⟩
theorem policySame_walk (kind m : Int) (v : Value) (xs : List SAct) (w : World) (h1 : (Lit.int .i64 kind).wf = true) (h2 : (Lit.int .i64 m).wf = true) (h : Cells w (fun k => k < w.heap.size) v xs.length 3 (xs.flatMap SAct.cells)) (hg : errT w) :
  Calls Tryz.prog 8 #[.int .i64 kind, .int .i64 m, v] w fun e w' => e = .returned (.bool true) ∧ Below w.heap.size w w' := by
 obtain ⟨a, cap, rfl, hl, hs⟩ := script_of h
 exact law_of (policySame_tri hg (range64 h1) (range64 h2) hl hs)
end Go.Proofs.YtholinnmjoelkaaGreatDoor
