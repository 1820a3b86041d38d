/- HpX, HpG, SortS -/
import Derived.Test.YtholinnmjoelkaaGreatDoorM15
import Derived.Sort.Grow
import Derived.Shelf.SlSortCmp.WholeK
import Derived.Shelf.SlSortCmp.NoneTotal
set_option linter.unusedVariables false
set_option linter.unusedSimpArgs false
namespace Go.Proofs.YtholinnmjoelkaaGreatDoor
set_option maxHeartbeats 8000000
set_option maxRecDepth 100000
open Go.RowKit Go.MapKept
theorem hp_NewS   : Tri Tryz.prog 136 #[] [] (PostE (fun _ => True) (fun b => pV b 0) fun b => [hpS b [] 0]) := by
 refine Tri.en (args := []) Tryz.func136 (fun B wz => ?_)
 refine Cd.s1 (Sq.vl [0] [.pointer none] (Sq.d1 ?_))
 refine Sq.e0 [] (l := []) (o_newMap Value.string (Value.int .i64)) rfl ?_; intro b1 _
 refine Sq.vl [1] [.agg #[.slice none 0 0, .map (some b1), iV 0]] ?_
 refine Sq.e0 [] (l := []) (o_newBox (v := .agg #[.slice none 0 0, .map (some b1), iV 0]) [.slice none 0 0, .map (some b1), iV 0] (by kernel_rfl) rfl) rfl ?_; intro b2 _
 refine Sq.vl [3] [pV b2 0] (Sq.d4 (Cd.ret (Ex'.ret Tryz.results136 (RVs.tm (v := pV b2 0) RVs.nil) (fun w hw => ?_))))
 have hr := hw.nilRow 240 4
 exact ⟨_, ⟨_, trivial, rfl, rfl⟩, St.hpS (b := b2) (v := .slice none 0 0) (mb := b1) (l := []) (mp := []) (came := 0) (Δ := []) (hr.pk [1, 0, 2]) HpS.new⟩
theorem hp_LenS {b n : Nat} {S : List (KR ByteArray)} (hn : n ≤ 1000000000) : Tri Tryz.prog 138 #[pV b 0] [hpS b S n] (Same [hpS b S n] (iV S.length)) := by
 refine Tri.en (args := [pV b 0]) Tryz.func138 (fun B wz => ?_)
 refine Cd.openS ?_; intro v mb l mp came hS
 refine Cd.fact (i := 2) rfl row_slice ?_; rintro ⟨a0, cap, rfl, hcap, hcap2⟩
 have hln := hS.ln; have hc0 := hS.c0; have hcn := hS.cn; have hlen := hS.len
 refine Cd.s1 (Sq.vl [0] [iV 0] (Sq.d1 (Sq.vl [0, 1, 2] [pV b 0, pV b 0, pV b 0] (Sq.sm [0] (l := [blkR b [.slice a0 l.length cap, .map (some mb), iV came] 235]) (o_ld (i := 0) (v := .slice a0 l.length cap)) rfl (Sq.vl [4, 5] [iV (l.length : Int), iV (l.length : Int)] (Sq.d4 (Cd.ret (Ex'.ret Tryz.results138 (RVs.tm (v := iV (l.length : Int)) RVs.nil) (fun w hw => ?_)))))))))
 exact ⟨_, ⟨show iV _ = iV _ from by rw [hlen], rfl⟩, St.hpS (b := b) (v := .slice a0 l.length cap) (mb := mb) (l := l) (mp := mp) (came := came) (Δ := []) (hw.pk [0, 1, 2]) hS⟩
theorem hp_RankS {b n : Nat} {S : List (KR ByteArray)} (key : ByteArray) (hn : n ≤ 1000000000) : Tri Tryz.prog 179 #[pV b 0, sV key] [hpS b S n] (Same [hpS b S n] (.tuple #[.agg #[iV ((lk S key).getD (0, 0)).1, iV ((lk S key).getD (0, 0)).2], bV (lk S key).isSome])) := by
 refine Tri.en (args := [pV b 0, sV key]) Tryz.func179 (fun B wz => ?_)
 refine Cd.openS ?_; intro v mb l mp came hS
 refine Cd.fact (i := 2) rfl row_slice ?_; rintro ⟨a0, cap, rfl, hcap, hcap2⟩
 have hln := hS.ln; have hc0 := hS.c0; have hcn := hS.cn; have hlen := hS.len
 refine Cd.s1 ?_
 refine Sq.e0 [] (l := []) (o_new [iV 0, iV 0] (fun w => by kernel_rfl)) rfl ?_; intro b1 _
 refine Sq.vl [1] [bV false] (Sq.d1 (Sq.vl [0, 1, 2] [pV b 0, pV b 0, pV b 1] (Sq.sm [0] (l := [blkR b [.slice a0 l.length cap, .map (some mb), iV came] 235]) (o_ld (i := 1) (v := .map (some mb))) rfl (Sq.vl [4] [sV key] (Sq.sm [1] (l := [mapR Value.string (Value.int .i64) mb mp]) (o_lookOk (fv := (Value.int .i64)) (l := mp) (0 : Int) key (by kernel_rfl) (by kernel_rfl) (strKey Tryz.underlying9) Tryz.underlying225 (fun w => by kernel_rfl)) rfl (Sq.vl [6, 7, 8, 9, 10] [.tuple #[iV ((lk mp key).getD (0 : Int)), bV ((lk mp key).isSome)], iV ((lk mp key).getD (0 : Int)), bV ((lk mp key).isSome), iV ((lk mp key).getD (0 : Int)), bV ((lk mp key).isSome)] (Sq.d4 (Cd.seq (Cd.s1 ?_)))))))))
 refine Sq.vl [0, 1] [bV ((lk mp key).isSome), bV (!((lk mp key).isSome))] (Sq.d4 ?_)
 refine Cd.cond (t := (!((lk mp key).isSome))) (by kernel_rfl) (fun h2 => ?_) (fun h2 => ?_)
 ·
  have hno : lk mp key = none := by simpa using h2
  have hnoS : lk S key = none := by have := hS.has key; rw [hno] at this; simpa using this.symm
  refine Cd.s1 (Sq.vl [0] [.agg #[iV 0, iV 0]] (Sq.sm [3] (l := [blkR b1 [iV 0, iV 0] 171]) (o_st (i := 0) (v := .agg #[iV 0, iV 0])) rfl (Sq.vl [2] [bV false] (Sq.d4 (Cd.ret (Ex'.thenRet (Ex'.ret Tryz.results179 (RVs.cN (i := 0) (b := b1) (l := [iV 0, iV 0]) (E := 171) [iV 0, iV 0] 3 (RVs.tm (v := bV false) RVs.nil)) (fun w hw => ?_))))))))
  exact ⟨_, ⟨by rw [hnoS]; rfl, rfl⟩, St.hpS (b := b) (v := .slice a0 l.length cap) (mb := mb) (l := l) (mp := mp) (came := came) (Δ := []) (hw.pk [0, 1, 2]) hS⟩
 ·
  obtain ⟨jj, hj⟩ := Option.isSome_iff_exists.1 (show (lk mp key).isSome = true from by simpa using h2)
  obtain ⟨i, rfl, hi, hik, hik2⟩ := hS.at hj
  refine Cd.re 15 rfl (show Value.int .i64 ((lk mp key).getD (0 : Int)) = iV ((i : Nat) : Int) from by rw [hj]; rfl) ?_
  refine Cd.re 6 rfl (show Value.int .i64 ((lk mp key).getD (0 : Int)) = iV ((i : Nat) : Int) from by rw [hj]; rfl) ?_
  refine Cd.fact (i := 2) (R := rowR 240 4 (.slice a0 l.length cap) l.length (l.flatMap hcS)) (by kernel_rfl) (row_addr (by omega)) ?_; rintro ⟨b3, rfl⟩
  refine Cd.skip (Ex'.next (Cd.s1 (Sq.vl [0, 1, 2] [pV b 0, pV b 0, pV b 0] (Sq.sm [0] (l := [blkR b [.slice (some ⟨b3, 0, none⟩) l.length cap, .map (some mb), iV came] 235]) (o_ld (i := 0) (v := .slice (some ⟨b3, 0, none⟩) l.length cap)) rfl (Sq.vl [4] [iV ((i : Nat) : Int)] (Sq.v (r := pV b3 (i * 4)) (o_idx (b := b3) (cap := cap) (e := 240) (off := 0) (n := l.length) (kd := .i64) (q := ((i : Nat) : Int)) (i := i) (size := 4) (j := i * 4) (by kernel_rfl) (by kernel_rfl) (by rfl) (by omega) Tryz.underlying233 (by kernel_rfl) (by omega)) rfl (by kernel_rfl) (Sq.vl [6] [pV b3 (i * 4 + 1)] ?_)))))))
  refine Sq.sm [2] (l := [rowR 240 4 (.slice (some ⟨b3, 0, none⟩) l.length cap) l.length (l.flatMap hcS)]) (o_loadRowN (j := i * 4 + 1) [iV ((l.getD i hzS).one), iV ((l.getD i hzS).two)] (by kernel_rfl) (by first | omega | (simp only [List.length_set, List.length_append, List.length_take, List.length_singleton] <;> omega)) (by kernel_rfl) (rec_gets (f := hcS) (k := 4) (z := hzS) (l := l) (i := i) (o := 1) (fun _ => rfl) (by first | omega | (simp only [List.length_set, List.length_append, List.length_take, List.length_singleton] <;> omega)) (Nat.le_of_ble_eq_true rfl) rfl)) rfl ?_
  refine Sq.sm [3] (l := [blkR b1 [iV 0, iV 0] 171]) (o_st (i := 0) (v := .agg #[iV ((l.getD i hzS).one), iV ((l.getD i hzS).two)])) rfl (Sq.vl [9] [bV true] (Sq.d4 (Cd.ret (Ex'.ret Tryz.results179 (RVs.cN (i := 0) (b := b1) (l := [iV ((l.getD i hzS).one), iV ((l.getD i hzS).two)]) (E := 171) [iV ((l.getD i hzS).one), iV ((l.getD i hzS).two)] 3 (RVs.tm (v := bV true) RVs.nil)) (fun w hw => ?_)))))
  exact ⟨_, ⟨by rw [hik2]; rfl, rfl⟩, St.hpS (b := b) (v := .slice (some ⟨b3, 0, none⟩) l.length cap) (mb := mb) (l := l) (mp := mp) (came := came) (Δ := []) (hw.pk [0, 1, 2]) hS⟩
theorem hp_LeastS {b n : Nat} {S : List (KR ByteArray)} (hn : n ≤ 1000000000) : Tri Tryz.prog 142 #[pV b 0] [hpS b S n] (Same [hpS b S n] (.tuple #[sV (htop (⟨#[]⟩, 0, 0) S).1, .agg #[iV (htop (⟨#[]⟩, 0, 0) S).2.1, iV (htop (⟨#[]⟩, 0, 0) S).2.2], bV (decide (0 < S.length))])) := by
 refine Tri.en (args := [pV b 0]) Tryz.func142 (fun B wz => ?_)
 refine Cd.openS ?_; intro v mb l mp came hS
 refine Cd.fact (i := 2) rfl row_slice ?_; rintro ⟨a0, cap, rfl, hcap, hcap2⟩
 have hln := hS.ln; have hc0 := hS.c0; have hcn := hS.cn; have hlen := hS.len
 refine Cd.s1 (Sq.vl [0] [sV ⟨#[]⟩] ?_)
 refine Sq.e0 [] (l := []) (o_new [iV 0, iV 0] (fun w => by kernel_rfl)) rfl ?_; intro b1 _
 refine Sq.vl [2] [bV false] (Sq.d4 (Cd.seq (Cd.s1 (Sq.vl [0, 1, 2] [pV b 0, pV b 0, pV b 0] (Sq.sm [0] (l := [blkR b [.slice a0 l.length cap, .map (some mb), iV came] 235]) (o_ld (i := 0) (v := .slice a0 l.length cap)) rfl (Sq.vl [4] [iV (l.length : Int)] (Sq.v (r := bV (decide ((l.length : Int) = 0))) (o_eqI (k := .i64) (a := (l.length : Int)) (b := 0) (by kernel_rfl) (by kernel_rfl)) rfl (by kernel_rfl) (Sq.d4 ?_))))))))
 refine Cd.case (p := (l.length : Int) = 0) (by kernel_rfl) (fun h2 => ?_) (fun h2 => ?_)
 ·
  have hl0 : S = [] := List.eq_nil_of_length_eq_zero (by omega)
  refine Cd.s1 (Sq.vl [0] [sV ⟨#[]⟩] (Sq.d1 (Sq.vl [0, 1, 2] [sV ⟨#[]⟩, .agg #[iV 0, iV 0], sV ⟨#[]⟩] (Sq.sm [3] (l := [blkR b1 [iV 0, iV 0] 171]) (o_st (i := 0) (v := .agg #[iV 0, iV 0])) rfl (Sq.vl [4] [bV false] (Sq.d4 (Cd.ret (Ex'.thenRet (Ex'.ret Tryz.results142 (RVs.tm (v := sV ⟨#[]⟩) (RVs.cN (i := 0) (b := b1) (l := [iV 0, iV 0]) (E := 171) [iV 0, iV 0] 3 (RVs.tmp (v := bV false) (by kernel_rfl) RVs.nil))) (fun w hw => ?_))))))))))
  exact ⟨_, ⟨by rw [hl0]; rfl, rfl⟩, St.hpS (b := b) (v := .slice a0 l.length cap) (mb := mb) (l := l) (mp := mp) (came := came) (Δ := []) (hw.pk [0, 1, 2]) hS⟩
 ·
  obtain ⟨S1, hS1⟩ := hS.top (by omega)
  refine Cd.fact (i := 2) (R := rowR 240 4 (.slice a0 l.length cap) l.length (l.flatMap hcS)) (by kernel_rfl) (row_addr (by omega)) ?_; rintro ⟨b3, rfl⟩
  refine Cd.skip (Ex'.next (Cd.seq (Cd.sub (subB_spec [0, 3, 6, 7, 8, 9, 10, 11]) ?_)))
  refine Cd.plan [0, 1, 3, 7, 15, 31, 63, 0, 128, 384, 896, 1920, 3968, 8064, 127, 32767, 65535] [(3, [(0, false, 0)]), (6, [(2, false, 0)]), (10, [(0, false, 0)]), (13, [(2, false, 0)]), (15, [(3, true, 0)])] [] [] [(3, 15, fun g => blkR b1 [iV ((l.getD 0 hzS).one), iV ((l.getD 0 hzS).two)] 171)] [fun g => pV b 0, fun g => pV b 0, fun g => pV b 0, fun g => .slice (some ⟨b3, 0, none⟩) l.length cap, fun g => pV b3 0, fun g => pV b3 0, fun g => sV ((l.getD 0 hzS).key), fun g => pV b 0, fun g => pV b 0, fun g => pV b 0, fun g => .slice (some ⟨b3, 0, none⟩) l.length cap, fun g => pV b3 0, fun g => pV b3 1, fun g => .agg #[iV ((l.getD 0 hzS).one), iV ((l.getD 0 hzS).two)], fun g => sV ((l.getD 0 hzS).key), fun g => undef, fun g => bV true] (by kernel_rfl) (by kernel_rfl) rfl (trivial) ?_ ?_
  · exact ⟨ob_k, ob_k, ob_k, ob_r (l := fun g => [blkR b [.slice (some ⟨b3, 0, none⟩) l.length cap, .map (some mb), iV came] 235]) (l' := fun g => [blkR b [.slice (some ⟨b3, 0, none⟩) l.length cap, .map (some mb), iV came] 235]) (v := fun g => .slice (some ⟨b3, 0, none⟩) l.length cap) (fun g => o_ld (i := 0) (v := .slice (some ⟨b3, 0, none⟩) l.length cap)), ob_w (v := fun g => pV b3 0) (fun g => o_idx (b := b3) (cap := cap) (e := 240) (off := 0) (n := l.length) (kd := .i64) (q := 0) (i := 0) (size := 4) (j := 0) (by kernel_rfl) (by kernel_rfl) (by rfl) (by omega) Tryz.underlying233 (by kernel_rfl) (by omega)), ob_k, ob_r (l := fun g => [rowR 240 4 (.slice (some ⟨b3, 0, none⟩) l.length cap) l.length (l.flatMap hcS)]) (l' := fun g => [rowR 240 4 (.slice (some ⟨b3, 0, none⟩) l.length cap) l.length (l.flatMap hcS)]) (v := fun g => sV ((l.getD 0 hzS).key)) (fun g => o_loadRow (i := 0) (u := sV ((l.getD 0 hzS).key)) (by kernel_rfl) (by first | omega | (simp only [List.length_set, List.length_append, List.length_take, List.length_singleton] <;> omega)) (by kernel_rfl) ((rec_get (f := hcS) (k := 4) (z := hzS) (l := l) (i := 0) (j := 0) (fun _ => rfl) (by first | omega | (simp only [List.length_set, List.length_append, List.length_take, List.length_singleton] <;> omega)) (by decide)).trans rfl)), ob_k, ob_k, ob_k, ob_r (l := fun g => [blkR b [.slice (some ⟨b3, 0, none⟩) l.length cap, .map (some mb), iV came] 235]) (l' := fun g => [blkR b [.slice (some ⟨b3, 0, none⟩) l.length cap, .map (some mb), iV came] 235]) (v := fun g => .slice (some ⟨b3, 0, none⟩) l.length cap) (fun g => o_ld (i := 0) (v := .slice (some ⟨b3, 0, none⟩) l.length cap)), ob_w (v := fun g => pV b3 0) (fun g => o_idx (b := b3) (cap := cap) (e := 240) (off := 0) (n := l.length) (kd := .i64) (q := 0) (i := 0) (size := 4) (j := 0) (by kernel_rfl) (by kernel_rfl) (by rfl) (by omega) Tryz.underlying233 (by kernel_rfl) (by omega)), ob_k, ob_r (l := fun g => [rowR 240 4 (.slice (some ⟨b3, 0, none⟩) l.length cap) l.length (l.flatMap hcS)]) (l' := fun g => [rowR 240 4 (.slice (some ⟨b3, 0, none⟩) l.length cap) l.length (l.flatMap hcS)]) (v := fun g => .agg #[iV ((l.getD 0 hzS).one), iV ((l.getD 0 hzS).two)]) (fun g => o_loadRowN (j := 1) [iV ((l.getD 0 hzS).one), iV ((l.getD 0 hzS).two)] (by kernel_rfl) (by first | omega | (simp only [List.length_set, List.length_append, List.length_take, List.length_singleton] <;> omega)) (by kernel_rfl) (rec_gets (f := hcS) (k := 4) (z := hzS) (l := l) (i := 0) (o := 1) (fun _ => rfl) (by first | omega | (simp only [List.length_set, List.length_append, List.length_take, List.length_singleton] <;> omega)) (Nat.le_of_ble_eq_true rfl) rfl)), ob_k, ob_r (l := fun g => [blkR b1 [iV 0, iV 0] 171]) (l' := fun g => [blkR b1 [iV ((l.getD 0 hzS).one), iV ((l.getD 0 hzS).two)] 171]) (v := fun g => undef) (fun g => o_st (i := 0) (v := .agg #[iV ((l.getD 0 hzS).one), iV ((l.getD 0 hzS).two)])), ob_k, trivial⟩
  intro g
  refine Ex'.sub (subB_spec [2, 3, 4]) (Ex'.a1 [0, 1, 2, 3] (σ' := [(2, sV ((l.getD 0 hzS).key)), (3, pV b1 0), (4, bV true)]) (Γ' := [blkR b [.slice (some ⟨b3, 0, none⟩) l.length cap, .map (some mb), iV came] 235, mapR Value.string (Value.int .i64) mb mp, rowR 240 4 (.slice (some ⟨b3, 0, none⟩) l.length cap) l.length (l.flatMap hcS), blkR b1 [iV ((l.getD 0 hzS).one), iV ((l.getD 0 hzS).two)] 171]) (Ex'.next (Cd.ret (Ex'.ret Tryz.results142 (RVs.tm (v := sV ((l.getD 0 hzS).key)) (RVs.cN (i := 0) (b := b1) (l := [iV ((l.getD 0 hzS).one), iV ((l.getD 0 hzS).two)]) (E := 171) [iV ((l.getD 0 hzS).one), iV ((l.getD 0 hzS).two)] 3 (RVs.tmp (v := bV true) (by kernel_rfl) RVs.nil))) (fun w hw => ?_)))))
  exact ⟨_, ⟨by rw [hS1]; rfl, rfl⟩, St.hpS (b := b) (v := .slice (some ⟨b3, 0, none⟩) l.length cap) (mb := mb) (l := l) (mp := mp) (came := came) (Δ := []) (hw.pk [0, 1, 2]) hS⟩
theorem hp_SetS {b n : Nat} {S : List (KR ByteArray)} (key : ByteArray) (one two : Int) (hn : n + 1 ≤ 1000000000) : Tri Tryz.prog 180 #[pV b 0, sV key, .agg #[iV one, iV two]] [hpS b S n] (Same [hpS b (hset S (key, one, two)) (n + 1)] (.tuple #[])) := by
 refine Tri.en (args := [pV b 0, sV key, .agg #[iV one, iV two]]) Tryz.func180 (fun B wz => ?_)
 refine Cd.openS ?_; intro v mb l mp came hS
 refine Cd.fact (i := 2) rfl row_slice ?_; rintro ⟨a0, cap, rfl, hcap, hcap2⟩
 have hln := hS.ln; have hc0 := hS.c0; have hcn := hS.cn; have hlen := hS.len
 refine Cd.s1 ?_
 refine Sq.e0 [] (l := []) (o_newBox (v := .agg #[iV one, iV two]) [iV one, iV two] (by kernel_rfl) rfl) rfl ?_; intro b1 _
 refine Sq.d1 (Sq.vl [0, 1, 2] [pV b 0, pV b 0, pV b 1] (Sq.sm [0] (l := [blkR b [.slice a0 l.length cap, .map (some mb), iV came] 235]) (o_ld (i := 1) (v := .map (some mb))) rfl (Sq.vl [4] [sV key] (Sq.sm [1] (l := [mapR Value.string (Value.int .i64) mb mp]) (o_lookOk (fv := (Value.int .i64)) (l := mp) (0 : Int) key (by kernel_rfl) (by kernel_rfl) (strKey Tryz.underlying9) Tryz.underlying225 (fun w => by kernel_rfl)) rfl (Sq.vl [6, 7, 8, 9, 10] [.tuple #[iV ((lk mp key).getD (0 : Int)), bV ((lk mp key).isSome)], iV ((lk mp key).getD (0 : Int)), bV ((lk mp key).isSome), iV ((lk mp key).getD (0 : Int)), bV ((lk mp key).isSome)] (Sq.d4 (Cd.seq (Cd.s1 (Sq.vl [0, 1] [bV ((lk mp key).isSome), bV (!((lk mp key).isSome))] ?_)))))))))
 refine Sq.d4 ?_
 refine Cd.cond (t := (!((lk mp key).isSome))) (by kernel_rfl) (fun h2 => ?_) (fun h2 => ?_)
 ·
  have hno : lk mp key = none := by simpa using h2
  have hnoS : lk S key = none := by have := hS.has key; rw [hno] at this; simpa using this.symm
  have hnk : key ∉ l.map HI.key := fun q => by have := (hS.ok.dm key).2 q; rw [hno] at this; simp at this
  refine Cd.s1 (Sq.vl [0, 1, 2] [pV b 0, pV b 0, pV b 0] (Sq.sm [0] (l := [blkR b [.slice a0 l.length cap, .map (some mb), iV came] 235]) (o_ld (i := 0) (v := .slice a0 l.length cap)) rfl (Sq.vl [4, 5] [iV (l.length : Int), iV (l.length : Int)] (Sq.d4 (Cd.s0 (Sq.vl [0, 1, 2, 3] [pV b 0, pV b 0, pV b 0, pV b 0] (Sq.sm [0] (l := [blkR b [.slice a0 l.length cap, .map (some mb), iV came] 235]) (o_ld (i := 0) (v := .slice a0 l.length cap)) rfl (Sq.vl [5] [.agg #[sV ⟨#[]⟩, iV 0, iV 0, iV 0]] ?_))))))))
  refine Sq.e0 [] (l := []) (o_lit (sz := 4) (.agg #[sV ⟨#[]⟩, iV 0, iV 0, iV 0]) [sV ⟨#[]⟩, iV 0, iV 0, iV 0] Tryz.underlying233 (by kernel_rfl) (by kernel_rfl) (by kernel_rfl) (by kernel_rfl) (by kernel_rfl)) rfl ?_; intro b3 _
  refine Sq.e1 [2, 4] (l := [rowR 240 4 (.slice a0 l.length cap) l.length (l.flatMap hcS), blkR b3 [sV ⟨#[]⟩, iV 0, iV 0, iV 0] 240]) (o_push (n' := l.length + 1) (xs' := (l ++ [(⟨⟨#[]⟩, 0, 0, 0⟩ : HI ByteArray)]).flatMap hcS) (by kernel_rfl) (by kernel_rfl) sl_itemS (by decide) rfl (by kernel_rfl) (by unfold maxLen; first | omega | (simp only [List.length_nil]; omega)) (by first | omega | (simp only [List.length_nil]; omega)) (by simp) (by rw [List.flatMap_append]; rfl)) rfl ?_; rintro v4 _
  refine Sq.fact (i := 2) (R := rowR 240 4 v4 (l.length + 1) ((l ++ [(⟨⟨#[]⟩, 0, 0, 0⟩ : HI ByteArray)]).flatMap hcS)) (by kernel_rfl) row_slice ?_; rintro ⟨a5, c6, rfl, hc6, hc6'⟩
  have hc6'' : c6 ≤ 9223372036854775807 := hc6'
  refine Sq.fact (i := 2) (R := rowR 240 4 (.slice a5 (l.length + 1) c6) (l.length + 1) ((l ++ [(⟨⟨#[]⟩, 0, 0, 0⟩ : HI ByteArray)]).flatMap hcS)) (by kernel_rfl) (row_addr (by simp)) ?_; rintro ⟨b7, rfl⟩
  refine Sq.vl [8, 9] [pV b 0, pV b 0] (Sq.sm [0] (l := [blkR b [.slice a0 l.length cap, .map (some mb), iV came] 235]) (o_st (i := 0) (v := .slice (some ⟨b7, 0, none⟩) (l.length + 1) c6)) rfl (Sq.d1 (Sq.vl [0, 1, 2] [pV b 0, pV b 0, pV b 2] (Sq.sm [0] (l := [blkR b [.slice (some ⟨b7, 0, none⟩) (l.length + 1) c6, .map (some mb), iV came] 235]) (o_ld (i := 2) (v := iV came)) rfl (Sq.v (r := iV (came + 1)) (o_add (k := .i64) (a := came) (b := 1) (c := came + 1) (by kernel_rfl) (by kernel_rfl) (w64 rfl (by omega))) rfl (by kernel_rfl) (Sq.vl [5, 6] [pV b 0, pV b 2] (Sq.sm [0] (l := [blkR b [.slice (some ⟨b7, 0, none⟩) (l.length + 1) c6, .map (some mb), iV came] 235]) (o_st (i := 2) (v := iV (came + 1))) rfl ?_)))))))
  refine Sq.d4 (Cd.seq ?_)
  refine Cd.plan [0, 0, 0, 0, 0, 16, 48, 112, 252, 511] [(3, [(3, false, 0)]), (7, [(0, false, 0)]), (9, [(0, false, 0), (1, true, 0), (2, true, 0)])] [] [] [(1, 9, fun g => mapR Value.string (Value.int .i64) mb (put mp (⟨key, one, two, came + 1⟩ : HI ByteArray).key (l.length : Int))), (2, 9, fun g => rowR 240 4 (.slice (some ⟨b7, 0, none⟩) (l.length + 1) c6) (l.length + 1) (((l ++ [(⟨⟨#[]⟩, 0, 0, 0⟩ : HI ByteArray)]).set l.length (⟨key, one, two, came + 1⟩ : HI ByteArray)).flatMap hcS))] [fun g => pV b 0, fun g => iV (l.length : Int), fun g => sV key, fun g => .agg #[iV one, iV two], fun g => pV b 0, fun g => pV b 0, fun g => pV b 2, fun g => iV (came + 1), fun g => .agg #[sV key, iV one, iV two, iV (came + 1)], fun g => .tuple #[]] (by kernel_rfl) (by kernel_rfl) rfl (trivial) ?_ ?_
  · exact ⟨ob_k, ob_k, ob_k, ob_r (l := fun g => [blkR b1 [iV one, iV two] 171]) (l' := fun g => [blkR b1 [iV one, iV two] 171]) (v := fun g => .agg #[iV one, iV two]) (fun g => o_lN (i := 0) [iV one, iV two]), ob_k, ob_k, ob_k, ob_r (l := fun g => [blkR b [.slice (some ⟨b7, 0, none⟩) (l.length + 1) c6, .map (some mb), iV (came + 1)] 235]) (l' := fun g => [blkR b [.slice (some ⟨b7, 0, none⟩) (l.length + 1) c6, .map (some mb), iV (came + 1)] 235]) (v := fun g => iV (came + 1)) (fun g => o_ld (i := 2) (v := iV (came + 1))), ob_k, ob_r (l := fun g => [blkR b [.slice (some ⟨b7, 0, none⟩) (l.length + 1) c6, .map (some mb), iV (came + 1)] 235, mapR Value.string (Value.int .i64) mb mp, rowR 240 4 (.slice (some ⟨b7, 0, none⟩) (l.length + 1) c6) (l.length + 1) ((l ++ [(⟨⟨#[]⟩, 0, 0, 0⟩ : HI ByteArray)]).flatMap hcS)]) (l' := fun g => [blkR b [.slice (some ⟨b7, 0, none⟩) (l.length + 1) c6, .map (some mb), iV (came + 1)] 235, mapR Value.string (Value.int .i64) mb (put mp (⟨key, one, two, came + 1⟩ : HI ByteArray).key (l.length : Int)), rowR 240 4 (.slice (some ⟨b7, 0, none⟩) (l.length + 1) c6) (l.length + 1) (((l ++ [(⟨⟨#[]⟩, 0, 0, 0⟩ : HI ByteArray)]).set l.length (⟨key, one, two, came + 1⟩ : HI ByteArray)).flatMap hcS)]) (v := fun g => .tuple #[]) (fun g => o_cl Tryz.call181 (heap_putS (b := b) (mb := mb) (n := l.length + 1) (l := l ++ [(⟨⟨#[]⟩, 0, 0, 0⟩ : HI ByteArray)]) (mp := mp) (came := came + 1) l.length (⟨key, one, two, came + 1⟩ : HI ByteArray) (by omega) (by first | omega | (simp only [List.length_set, List.length_append, List.length_take, List.length_singleton] <;> omega)) (by first | omega | (simp only [List.length_set, List.length_append, List.length_take, List.length_singleton] <;> omega)))), trivial⟩
  intro g
  refine Ex'.sub (subB_spec [0, 6]) (Ex'.a1 [0, 1, 2, 3, 4] (σ' := [(0, pV b 0), (6, iV (l.length : Int))]) (Γ' := [blkR b [.slice (some ⟨b7, 0, none⟩) (l.length + 1) c6, .map (some mb), iV (came + 1)] 235, mapR Value.string (Value.int .i64) mb (put mp (⟨key, one, two, came + 1⟩ : HI ByteArray).key (l.length : Int)), rowR 240 4 (.slice (some ⟨b7, 0, none⟩) (l.length + 1) c6) (l.length + 1) (((l ++ [(⟨⟨#[]⟩, 0, 0, 0⟩ : HI ByteArray)]).set l.length (⟨key, one, two, came + 1⟩ : HI ByteArray)).flatMap hcS), blkR b1 [iV one, iV two] 171, blkR b3 [sV ⟨#[]⟩, iV 0, iV 0, iV 0] 240]) (Ex'.next (Cd.s0 (Sq.vl [0, 1] [pV b 0, iV (l.length : Int)] ?_))))
  refine Sq.e1 [0, 1, 2] (l := [blkR b [.slice (some ⟨b7, 0, none⟩) (l.length + 1) c6, .map (some mb), iV (came + 1)] 235, mapR Value.string (Value.int .i64) mb (put mp (⟨key, one, two, came + 1⟩ : HI ByteArray).key (l.length : Int)), rowR 240 4 (.slice (some ⟨b7, 0, none⟩) (l.length + 1) c6) (l.length + 1) (((l ++ [(⟨⟨#[]⟩, 0, 0, 0⟩ : HI ByteArray)]).set l.length (⟨key, one, two, came + 1⟩ : HI ByteArray)).flatMap hcS)]) (o_cl Tryz.call182 (heap_settleS (b := b) (mb := mb) (n := l.length + 1) (l := (l ++ [(⟨⟨#[]⟩, 0, 0, 0⟩ : HI ByteArray)]).set l.length (⟨key, one, two, came + 1⟩ : HI ByteArray)) (mp := put mp (⟨key, one, two, came + 1⟩ : HI ByteArray).key (l.length : Int)) (came := came + 1) l.length (by omega) (by first | omega | (simp only [List.length_set, List.length_append, List.length_take, List.length_singleton] <;> omega)) (by rw [(show (l ++ [(⟨⟨#[]⟩, 0, 0, 0⟩ : HI ByteArray)]).set l.length (⟨key, one, two, came + 1⟩ : HI ByteArray) = l ++ [(⟨key, one, two, came + 1⟩ : HI ByteArray)] from by simp)]; exact (hS.at_add (x := (⟨key, one, two, came + 1⟩ : HI ByteArray)) hnk).1) (by rw [(show (l ++ [(⟨⟨#[]⟩, 0, 0, 0⟩ : HI ByteArray)]).set l.length (⟨key, one, two, came + 1⟩ : HI ByteArray) = l ++ [(⟨key, one, two, came + 1⟩ : HI ByteArray)] from by simp)]; exact (hS.at_add (x := (⟨key, one, two, came + 1⟩ : HI ByteArray)) hnk).2))) rfl ?_; rintro ⟨l8, m9⟩ ⟨hq1, hq2, hq3⟩
  refine Sq.done (Ex'.fin Tryz.results180 (RVs.nil) (fun w hw => ?_))
  have hpm : l8.Perm ((⟨key, one, two, came + 1⟩ : HI ByteArray) :: l.filter fun y => y.key ≠ key) := (hq2.trans (by rw [show (l ++ [(⟨⟨#[]⟩, 0, 0, 0⟩ : HI ByteArray)]).set l.length (⟨key, one, two, came + 1⟩ : HI ByteArray) = l ++ [(⟨key, one, two, came + 1⟩ : HI ByteArray)] from by simp])).trans (perm_add (k := key) hnk _)
  have hl1 : l.length + 1 = l8.length := by have := hq2.length_eq; simp only [List.length_set, List.length_append, List.length_singleton] at this; omega
  exact ⟨_, ⟨rfl, rfl⟩, St.hpS (b := b) (v := .slice (some ⟨b7, 0, none⟩) (l.length + 1) c6) (mb := mb) (l := l8) (mp := m9) (came := came + 1) (Δ := []) ((hw.cv 2 (R := rowR 240 4 (.slice (some ⟨b7, 0, none⟩) (l.length + 1) c6) (l.length + 1) (l8.flatMap hcS)) (R' := rowR 240 4 (.slice (some ⟨b7, 0, none⟩) (l.length + 1) c6) l8.length (l8.flatMap hcS)) (fun w T q => by rw [← hl1]; exact q)).pk [0, 1, 2]) (hS.set hq1 hq3 hpm)⟩
 ·
  obtain ⟨jj, hj⟩ := Option.isSome_iff_exists.1 (show (lk mp key).isSome = true from by simpa using h2)
  obtain ⟨i, rfl, hi, hik, hik2⟩ := hS.at hj
  refine Cd.re 15 rfl (show Value.int .i64 ((lk mp key).getD (0 : Int)) = iV ((i : Nat) : Int) from by rw [hj]; rfl) ?_
  refine Cd.re 6 rfl (show Value.int .i64 ((lk mp key).getD (0 : Int)) = iV ((i : Nat) : Int) from by rw [hj]; rfl) ?_
  refine Cd.fact (i := 2) (R := rowR 240 4 (.slice a0 l.length cap) l.length (l.flatMap hcS)) (by kernel_rfl) (row_addr (by omega)) ?_; rintro ⟨b10, rfl⟩
  refine Cd.skip (Ex'.next (Cd.s1 (Sq.vl [0, 1, 2] [pV b 0, pV b 0, pV b 2] (Sq.sm [0] (l := [blkR b [.slice (some ⟨b10, 0, none⟩) l.length cap, .map (some mb), iV came] 235]) (o_ld (i := 2) (v := iV came)) rfl (Sq.v (r := iV (came + 1)) (o_add (k := .i64) (a := came) (b := 1) (c := came + 1) (by kernel_rfl) (by kernel_rfl) (w64 rfl (by omega))) rfl (by kernel_rfl) (Sq.vl [5, 6] [pV b 0, pV b 2] (Sq.sm [0] (l := [blkR b [.slice (some ⟨b10, 0, none⟩) l.length cap, .map (some mb), iV came] 235]) (o_st (i := 2) (v := iV (came + 1))) rfl (Sq.d4 (Cd.seq ?_)))))))))
  refine Cd.plan [0, 0, 0, 0, 0, 16, 48, 112, 252, 511] [(3, [(3, false, 0)]), (7, [(0, false, 0)]), (9, [(0, false, 0), (1, true, 0), (2, true, 0)])] [] [] [(1, 9, fun g => mapR Value.string (Value.int .i64) mb (put mp (⟨key, one, two, came + 1⟩ : HI ByteArray).key ((i : Nat) : Int))), (2, 9, fun g => rowR 240 4 (.slice (some ⟨b10, 0, none⟩) l.length cap) l.length ((l.set i (⟨key, one, two, came + 1⟩ : HI ByteArray)).flatMap hcS))] [fun g => pV b 0, fun g => iV ((i : Nat) : Int), fun g => sV key, fun g => .agg #[iV one, iV two], fun g => pV b 0, fun g => pV b 0, fun g => pV b 2, fun g => iV (came + 1), fun g => .agg #[sV key, iV one, iV two, iV (came + 1)], fun g => .tuple #[]] (by kernel_rfl) (by kernel_rfl) rfl (trivial) ?_ ?_
  · exact ⟨ob_k, ob_k, ob_k, ob_r (l := fun g => [blkR b1 [iV one, iV two] 171]) (l' := fun g => [blkR b1 [iV one, iV two] 171]) (v := fun g => .agg #[iV one, iV two]) (fun g => o_lN (i := 0) [iV one, iV two]), ob_k, ob_k, ob_k, ob_r (l := fun g => [blkR b [.slice (some ⟨b10, 0, none⟩) l.length cap, .map (some mb), iV (came + 1)] 235]) (l' := fun g => [blkR b [.slice (some ⟨b10, 0, none⟩) l.length cap, .map (some mb), iV (came + 1)] 235]) (v := fun g => iV (came + 1)) (fun g => o_ld (i := 2) (v := iV (came + 1))), ob_k, ob_r (l := fun g => [blkR b [.slice (some ⟨b10, 0, none⟩) l.length cap, .map (some mb), iV (came + 1)] 235, mapR Value.string (Value.int .i64) mb mp, rowR 240 4 (.slice (some ⟨b10, 0, none⟩) l.length cap) l.length (l.flatMap hcS)]) (l' := fun g => [blkR b [.slice (some ⟨b10, 0, none⟩) l.length cap, .map (some mb), iV (came + 1)] 235, mapR Value.string (Value.int .i64) mb (put mp (⟨key, one, two, came + 1⟩ : HI ByteArray).key ((i : Nat) : Int)), rowR 240 4 (.slice (some ⟨b10, 0, none⟩) l.length cap) l.length ((l.set i (⟨key, one, two, came + 1⟩ : HI ByteArray)).flatMap hcS)]) (v := fun g => .tuple #[]) (fun g => o_cl Tryz.call181 (heap_putS (b := b) (mb := mb) (n := l.length) (l := l) (mp := mp) (came := came + 1) i (⟨key, one, two, came + 1⟩ : HI ByteArray) (by omega) (by first | omega | (simp only [List.length_set, List.length_append, List.length_take, List.length_singleton] <;> omega)) (by first | omega | (simp only [List.length_set, List.length_append, List.length_take, List.length_singleton] <;> omega)))), trivial⟩
  intro g
  refine Ex'.sub (subB_spec [0, 6]) (Ex'.a1 [0, 1, 2, 3] (σ' := [(0, pV b 0), (6, iV ((i : Nat) : Int))]) (Γ' := [blkR b [.slice (some ⟨b10, 0, none⟩) l.length cap, .map (some mb), iV (came + 1)] 235, mapR Value.string (Value.int .i64) mb (put mp (⟨key, one, two, came + 1⟩ : HI ByteArray).key ((i : Nat) : Int)), rowR 240 4 (.slice (some ⟨b10, 0, none⟩) l.length cap) l.length ((l.set i (⟨key, one, two, came + 1⟩ : HI ByteArray)).flatMap hcS), blkR b1 [iV one, iV two] 171]) (Ex'.next (Cd.s0 (Sq.vl [0, 1] [pV b 0, iV ((i : Nat) : Int)] ?_))))
  refine Sq.e1 [0, 1, 2] (l := [blkR b [.slice (some ⟨b10, 0, none⟩) l.length cap, .map (some mb), iV (came + 1)] 235, mapR Value.string (Value.int .i64) mb (put mp (⟨key, one, two, came + 1⟩ : HI ByteArray).key ((i : Nat) : Int)), rowR 240 4 (.slice (some ⟨b10, 0, none⟩) l.length cap) l.length ((l.set i (⟨key, one, two, came + 1⟩ : HI ByteArray)).flatMap hcS)]) (o_cl Tryz.call182 (heap_settleS (b := b) (mb := mb) (n := l.length) (l := l.set i (⟨key, one, two, came + 1⟩ : HI ByteArray)) (mp := put mp (⟨key, one, two, came + 1⟩ : HI ByteArray).key ((i : Nat) : Int)) (came := came + 1) i (by omega) (by first | omega | (simp only [List.length_set, List.length_append, List.length_take, List.length_singleton] <;> omega)) ((hS.at_set (x := (⟨key, one, two, came + 1⟩ : HI ByteArray)) hi hik.symm).1) ((hS.at_set (x := (⟨key, one, two, came + 1⟩ : HI ByteArray)) hi hik.symm).2))) rfl ?_; rintro ⟨l11, m12⟩ ⟨hq1, hq2, hq3⟩
  refine Sq.done (Ex'.fin Tryz.results180 (RVs.nil) (fun w hw => ?_))
  have hpm : l11.Perm ((⟨key, one, two, came + 1⟩ : HI ByteArray) :: l.filter fun y => y.key ≠ key) := hq2.trans (perm_set hi hik hS.ok.kd _)
  have hl1 : l.length = l11.length := by have := hq2.length_eq; simp only [List.length_set, List.length_append, List.length_singleton] at this; omega
  exact ⟨_, ⟨rfl, rfl⟩, St.hpS (b := b) (v := .slice (some ⟨b10, 0, none⟩) l.length cap) (mb := mb) (l := l11) (mp := m12) (came := came + 1) (Δ := []) ((hw.cv 2 (R := rowR 240 4 (.slice (some ⟨b10, 0, none⟩) l.length cap) l.length (l11.flatMap hcS)) (R' := rowR 240 4 (.slice (some ⟨b10, 0, none⟩) l.length cap) l11.length (l11.flatMap hcS)) (fun w T q => by rw [← hl1]; exact q)).pk [0, 1, 2]) (hS.set hq1 hq3 hpm)⟩
theorem hp_RemoveS {b n : Nat} {S : List (KR ByteArray)} (key : ByteArray) (hn : n ≤ 1000000000) : Tri Tryz.prog 141 #[pV b 0, sV key] [hpS b S n] (Same [hpS b (hrem S key) n] (bV (lk S key).isSome)) := by
 refine Tri.en (args := [pV b 0, sV key]) Tryz.func141 (fun B wz => ?_)
 refine Cd.openS ?_; intro v mb l mp came hS
 refine Cd.fact (i := 2) rfl row_slice ?_; rintro ⟨a0, cap, rfl, hcap, hcap2⟩
 have hln := hS.ln; have hc0 := hS.c0; have hcn := hS.cn; have hlen := hS.len
 refine Cd.s1 (Sq.vl [0] [bV false] (Sq.d1 (Sq.vl [0, 1, 2] [pV b 0, pV b 0, pV b 1] (Sq.sm [0] (l := [blkR b [.slice a0 l.length cap, .map (some mb), iV came] 235]) (o_ld (i := 1) (v := .map (some mb))) rfl (Sq.vl [4] [sV key] (Sq.sm [1] (l := [mapR Value.string (Value.int .i64) mb mp]) (o_lookOk (fv := (Value.int .i64)) (l := mp) (0 : Int) key (by kernel_rfl) (by kernel_rfl) (strKey Tryz.underlying9) Tryz.underlying225 (fun w => by kernel_rfl)) rfl (Sq.vl [6, 7, 8, 9, 10] [.tuple #[iV ((lk mp key).getD (0 : Int)), bV ((lk mp key).isSome)], iV ((lk mp key).getD (0 : Int)), bV ((lk mp key).isSome), iV ((lk mp key).getD (0 : Int)), bV ((lk mp key).isSome)] ?_)))))))
 refine Sq.d4 (Cd.seq (Cd.s1 (Sq.vl [0, 1] [bV ((lk mp key).isSome), bV (!((lk mp key).isSome))] (Sq.d4 ?_))))
 refine Cd.cond (t := (!((lk mp key).isSome))) (by kernel_rfl) (fun h1 => ?_) (fun h1 => ?_)
 ·
  have hno : lk mp key = none := by simpa using h1
  have hnoS : lk S key = none := by have := hS.has key; rw [hno] at this; simpa using this.symm
  refine Cd.s1 (Sq.vl [0] [bV false] (Sq.d4 (Cd.ret (Ex'.thenRet (Ex'.ret Tryz.results141 (RVs.tm (v := bV false) RVs.nil) (fun w hw => ?_))))))
  exact ⟨_, ⟨by rw [hnoS]; rfl, rfl⟩, by rw [hrem_none hnoS]; exact St.hpS (b := b) (v := .slice a0 l.length cap) (mb := mb) (l := l) (mp := mp) (came := came) (Δ := []) (hw.pk [0, 1, 2]) hS⟩
 ·
  obtain ⟨jj, hj⟩ := Option.isSome_iff_exists.1 (show (lk mp key).isSome = true from by simpa using h1)
  obtain ⟨i, rfl, hi, hik, hik2⟩ := hS.at hj
  refine Cd.re 16 rfl (show Value.int .i64 ((lk mp key).getD (0 : Int)) = iV ((i : Nat) : Int) from by rw [hj]; rfl) ?_
  refine Cd.re 5 rfl (show Value.int .i64 ((lk mp key).getD (0 : Int)) = iV ((i : Nat) : Int) from by rw [hj]; rfl) ?_
  refine Cd.fact (i := 2) (R := rowR 240 4 (.slice a0 l.length cap) l.length (l.flatMap hcS)) (by kernel_rfl) (row_addr (by omega)) ?_; rintro ⟨b2, rfl⟩
  refine Cd.skip (Ex'.next (Cd.s1 (Sq.vl [0, 1, 2] [pV b 0, pV b 0, pV b 0] (Sq.sm [0] (l := [blkR b [.slice (some ⟨b2, 0, none⟩) l.length cap, .map (some mb), iV came] 235]) (o_ld (i := 0) (v := .slice (some ⟨b2, 0, none⟩) l.length cap)) rfl (Sq.vl [4] [iV (l.length : Int)] (Sq.v (r := iV ((l.length - 1 : Nat) : Int)) (o_sub (k := .i64) (a := (l.length : Int)) (b := 1) (c := ((l.length - 1 : Nat) : Int)) (by kernel_rfl) (by kernel_rfl) (w64 (by omega) (by omega))) rfl (by kernel_rfl) (Sq.vl [6] [iV ((l.length - 1 : Nat) : Int)] (Sq.d1 (Sq.vl [0, 1, 2] [pV b 0, pV b 0, pV b 0] ?_)))))))))
  refine Sq.sm [0] (l := [blkR b [.slice (some ⟨b2, 0, none⟩) l.length cap, .map (some mb), iV came] 235]) (o_ld (i := 0) (v := .slice (some ⟨b2, 0, none⟩) l.length cap)) rfl (Sq.vl [4] [iV ((l.length - 1 : Nat) : Int)] (Sq.v (r := pV b2 ((l.length - 1) * 4)) (o_idx (b := b2) (cap := cap) (e := 240) (off := 0) (n := l.length) (kd := .i64) (q := ((l.length - 1 : Nat) : Int)) (i := (l.length - 1)) (size := 4) (j := (l.length - 1) * 4) (by kernel_rfl) (by kernel_rfl) (by rfl) (by omega) Tryz.underlying233 (by kernel_rfl) (by omega)) rfl (by kernel_rfl) ?_))
  refine Sq.sm [2] (l := [rowR 240 4 (.slice (some ⟨b2, 0, none⟩) l.length cap) l.length (l.flatMap hcS)]) (o_loadRowN (j := (l.length - 1) * 4) [sV ((l.getD (l.length - 1) hzS).key), iV ((l.getD (l.length - 1) hzS).one), iV ((l.getD (l.length - 1) hzS).two), iV ((l.getD (l.length - 1) hzS).came)] (by kernel_rfl) (by first | omega | (simp only [List.length_set, List.length_append, List.length_take, List.length_singleton] <;> omega)) (by kernel_rfl) (rec_gets (f := hcS) (k := 4) (z := hzS) (l := l) (i := (l.length - 1)) (o := 0) (fun _ => rfl) (by first | omega | (simp only [List.length_set, List.length_append, List.length_take, List.length_singleton] <;> omega)) (Nat.le_of_ble_eq_true rfl) rfl)) rfl ?_
  refine Sq.e0 [] (l := []) (o_new [sV ⟨#[]⟩, iV 0, iV 0, iV 0] (fun w => by kernel_rfl)) rfl ?_; intro b3 _
  refine Sq.sm [3] (l := [blkR b3 [sV ⟨#[]⟩, iV 0, iV 0, iV 0] 240]) (o_st (i := 0) (v := .agg #[sV ((l.getD (l.length - 1) hzS).key), iV ((l.getD (l.length - 1) hzS).one), iV ((l.getD (l.length - 1) hzS).two), iV ((l.getD (l.length - 1) hzS).came)])) rfl (Sq.d1 (Sq.vl [0, 1, 2, 3] [pV b 0, pV b 0, pV b 0, pV b 0] (Sq.sm [0] (l := [blkR b [.slice (some ⟨b2, 0, none⟩) l.length cap, .map (some mb), iV came] 235]) (o_ld (i := 0) (v := .slice (some ⟨b2, 0, none⟩) l.length cap)) rfl (Sq.vl [5] [iV ((l.length - 1 : Nat) : Int)] (Sq.v (r := .slice (some ⟨b2, 0, none⟩) (l.length - 1) cap) (o_cutTo (kd := .i64) (q := ((l.length - 1 : Nat) : Int)) (h := (l.length - 1)) (n := l.length) (size := 4) (by kernel_rfl) (by kernel_rfl) (by rfl) (by omega) Tryz.underlying233 (by kernel_rfl)) rfl (by kernel_rfl) ?_)))))
  refine Sq.res 2 (R := rowR 240 4 (.slice (some ⟨b2, 0, none⟩) l.length cap) l.length (l.flatMap hcS)) (R' := rowR 240 4 (.slice (some ⟨b2, 0, none⟩) (l.length - 1) cap) (l.length - 1) ((l.take (l.length - 1)).flatMap hcS)) (by kernel_rfl) (rowR.cut (by first | omega | (simp only [List.length_set, List.length_append, List.length_take, List.length_singleton] <;> omega)) (take_flat (f := hcS) (k := 4) (fun _ => rfl) _ _)) ?_
  refine Sq.vl [7, 8] [pV b 0, pV b 0] (Sq.sm [0] (l := [blkR b [.slice (some ⟨b2, 0, none⟩) l.length cap, .map (some mb), iV came] 235]) (o_st (i := 0) (v := .slice (some ⟨b2, 0, none⟩) (l.length - 1) cap)) rfl (Sq.d1 (Sq.vl [0, 1, 2] [pV b 0, pV b 0, pV b 1] (Sq.sm [0] (l := [blkR b [.slice (some ⟨b2, 0, none⟩) (l.length - 1) cap, .map (some mb), iV came] 235]) (o_ld (i := 1) (v := .map (some mb))) rfl (Sq.vl [4] [sV key] (Sq.sm [1] (l := [mapR Value.string (Value.int .i64) mb mp]) (o_delete key (by kernel_rfl) (by kernel_rfl) (strKey Tryz.underlying9) Tryz.underlying225) rfl (Sq.d4 (Cd.seq (Cd.s1 ?_)))))))))
  refine Sq.vl [0, 1, 2] [iV ((i : Nat) : Int), iV ((l.length - 1 : Nat) : Int), bV (decide (((i : Nat) : Int) < ((l.length - 1 : Nat) : Int)))] (Sq.d4 ?_)
  refine Cd.case (p := ((i : Nat) : Int) < ((l.length - 1 : Nat) : Int)) (by kernel_rfl) (fun h4 => ?_) (fun h4 => ?_)
  ·
   refine Cd.s1 (Sq.vl [0, 1] [pV b 0, iV ((i : Nat) : Int)] (Sq.sm [3] (l := [blkR b3 [sV ((l.getD (l.length - 1) hzS).key), iV ((l.getD (l.length - 1) hzS).one), iV ((l.getD (l.length - 1) hzS).two), iV ((l.getD (l.length - 1) hzS).came)] 240]) (o_lN (i := 0) [sV ((l.getD (l.length - 1) hzS).key), iV ((l.getD (l.length - 1) hzS).one), iV ((l.getD (l.length - 1) hzS).two), iV ((l.getD (l.length - 1) hzS).came)]) rfl ?_))
   refine Sq.sm [0, 1, 2] (l := [blkR b [.slice (some ⟨b2, 0, none⟩) (l.length - 1) cap, .map (some mb), iV came] 235, mapR Value.string (Value.int .i64) mb (del mp key), rowR 240 4 (.slice (some ⟨b2, 0, none⟩) (l.length - 1) cap) (l.length - 1) ((l.take (l.length - 1)).flatMap hcS)]) (o_cl Tryz.call181 (heap_putS (b := b) (mb := mb) (n := (l.length - 1)) (l := l.take (l.length - 1)) (mp := del mp key) (came := came) i (l.getD (l.length - 1) hzS) (by omega) (by first | omega | (simp only [List.length_set, List.length_append, List.length_take, List.length_singleton] <;> omega)) (by first | omega | (simp only [List.length_set, List.length_append, List.length_take, List.length_singleton] <;> omega)))) rfl ?_
   refine Sq.d4 (Cd.s0 (Sq.vl [0, 1] [pV b 0, iV ((i : Nat) : Int)] ?_))
   refine Sq.e1 [0, 1, 2] (l := [blkR b [.slice (some ⟨b2, 0, none⟩) (l.length - 1) cap, .map (some mb), iV came] 235, mapR Value.string (Value.int .i64) mb (put (del mp key) (l.getD (l.length - 1) hzS).key ((i : Nat) : Int)), rowR 240 4 (.slice (some ⟨b2, 0, none⟩) (l.length - 1) cap) (l.length - 1) (((l.take (l.length - 1)).set i (l.getD (l.length - 1) hzS)).flatMap hcS)]) (o_cl Tryz.call182 (heap_settleS (b := b) (mb := mb) (n := (l.length - 1)) (l := (l.take (l.length - 1)).set i (l.getD (l.length - 1) hzS)) (mp := put (del mp key) (l.getD (l.length - 1) hzS).key ((i : Nat) : Int)) (came := came) i (by omega) (by first | omega | (simp only [List.length_set, List.length_append, List.length_take, List.length_singleton] <;> omega)) ((hS.at_fill (k := key) (show i < l.length - 1 by omega) hik).1) ((hS.at_fill (k := key) (show i < l.length - 1 by omega) hik).2.1))) rfl ?_; rintro ⟨l5, m6⟩ ⟨hq1, hq2, hq3⟩
   refine Sq.d1 (Sq.vl [0] [bV true] (Sq.d4 (Cd.ret (Ex'.ret Tryz.results141 (RVs.tm (v := bV true) RVs.nil) (fun w hw => ?_)))))
   have hpm := hq2.trans (hS.at_fill (k := key) (show i < l.length - 1 by omega) hik).2.2
   have hl1 : (l.length - 1) = l5.length := by have := hq2.length_eq; simp only [List.length_set, List.length_take] at this; omega
   exact ⟨_, ⟨by rw [hik2]; rfl, rfl⟩, St.hpS (b := b) (v := .slice (some ⟨b2, 0, none⟩) (l.length - 1) cap) (mb := mb) (l := l5) (mp := m6) (came := came) (Δ := []) ((hw.cv 2 (R := rowR 240 4 (.slice (some ⟨b2, 0, none⟩) (l.length - 1) cap) (l.length - 1) (l5.flatMap hcS)) (R' := rowR 240 4 (.slice (some ⟨b2, 0, none⟩) (l.length - 1) cap) l5.length (l5.flatMap hcS)) (fun w T q => by rw [← hl1]; exact q)).pk [0, 1, 2]) (hS.remove hq1 hq3 hpm)⟩
  ·
   refine Cd.skip (Ex'.next (Cd.s1 (Sq.vl [0] [bV true] (Sq.d4 (Cd.ret (Ex'.ret Tryz.results141 (RVs.tm (v := bV true) RVs.nil) (fun w hw => ?_)))))))
   have hlast : (l.getD (l.length - 1) hzS).key = key := (show i = l.length - 1 by omega) ▸ hik
   obtain ⟨hq1, hq3, hpm⟩ := hS.at_last (k := key) (by omega) hlast
   have hl1 : (l.length - 1) = (l.take (l.length - 1)).length := by simp
   exact ⟨_, ⟨by rw [hik2]; rfl, rfl⟩, St.hpS (b := b) (v := .slice (some ⟨b2, 0, none⟩) (l.length - 1) cap) (mb := mb) (l := l.take (l.length - 1)) (mp := del mp key) (came := came) (Δ := []) ((hw.cv 2 (R := rowR 240 4 (.slice (some ⟨b2, 0, none⟩) (l.length - 1) cap) (l.length - 1) ((l.take (l.length - 1)).flatMap hcS)) (R' := rowR 240 4 (.slice (some ⟨b2, 0, none⟩) (l.length - 1) cap) ((l.take (l.length - 1)).length) ((l.take (l.length - 1)).flatMap hcS)) (fun w T q => by rw [← hl1]; exact q)).pk [0, 1, 2]) (hS.remove hq1 hq3 hpm)⟩
theorem hp_PopS {b n : Nat} {S : List (KR ByteArray)} (hn : n ≤ 1000000000) : Tri Tryz.prog 139 #[pV b 0] [hpS b S n] (Same [hpS b S.tail n] (.tuple #[sV (htop (⟨#[]⟩, 0, 0) S).1, bV (decide (0 < S.length))])) := by
 refine Tri.en (args := [pV b 0]) Tryz.func139 (fun B wz => ?_)
 refine Cd.fact (i := 0) rfl hpS.le ?_; rintro ⟨hnd, hle⟩
 refine Cd.s1 (Sq.vl [0, 1] [sV ⟨#[]⟩, bV false] (Sq.d1 (Sq.vl [0] [pV b 0] (Sq.sm [0] (l := [hpS b S n]) (o_cl Tryz.call142 (hp_LeastS (S := S) (n := n) (by omega))) rfl (Sq.vl [2, 3, 4, 5] [.tuple #[sV ((htop (⟨#[]⟩, 0, 0) S).1), .agg #[iV ((htop (⟨#[]⟩, 0, 0) S).2.1), iV ((htop (⟨#[]⟩, 0, 0) S).2.2)], bV (decide (0 < S.length))], sV ((htop (⟨#[]⟩, 0, 0) S).1), .agg #[iV ((htop (⟨#[]⟩, 0, 0) S).2.1), iV ((htop (⟨#[]⟩, 0, 0) S).2.2)], bV (decide (0 < S.length))] ?_)))))
 refine Sq.e0 [] (l := []) (o_new [iV 0, iV 0] (fun w => by kernel_rfl)) rfl ?_; intro b1 _
 refine Sq.vl [7] [sV ((htop (⟨#[]⟩, 0, 0) S).1)] (Sq.sm [1] (l := [blkR b1 [iV 0, iV 0] 171]) (o_st (i := 0) (v := .agg #[iV ((htop (⟨#[]⟩, 0, 0) S).2.1), iV ((htop (⟨#[]⟩, 0, 0) S).2.2)])) rfl (Sq.vl [9] [bV (decide (0 < S.length))] (Sq.d4 (Cd.seq (Cd.s1 (Sq.vl [0] [bV (decide (0 < S.length))] (Sq.d4 ?_)))))))
 refine Cd.case (p := 0 < S.length) (by kernel_rfl) (fun h2 => ?_) (fun h2 => ?_)
 ·
  refine Cd.s0 (Sq.vl [0, 1] [pV b 0, sV ((htop (⟨#[]⟩, 0, 0) S).1)] (Sq.sm [0] (l := [hpS b S n]) (o_cl Tryz.call141 (hp_RemoveS (S := S) (n := n) ((htop (⟨#[]⟩, 0, 0) S).1) (by omega))) rfl (Sq.d1 (Sq.vl [0, 1, 2, 3] [sV ((htop (⟨#[]⟩, 0, 0) S).1), bV (decide (0 < S.length)), sV ((htop (⟨#[]⟩, 0, 0) S).1), bV (decide (0 < S.length))] (Sq.d4 (Cd.ret (Ex'.ret Tryz.results139 (RVs.tm (v := sV ((htop (⟨#[]⟩, 0, 0) S).1)) (RVs.tmp (v := bV (decide (0 < S.length))) (by kernel_rfl) RVs.nil)) (fun w hw => ?_))))))))
  exact ⟨_, ⟨by rw [decide_eq_true (by assumption)]; rfl, rfl⟩, by rw [← hrem_top (z := (⟨#[]⟩, 0, 0)) hnd (by assumption)]; exact hw.pk [0]⟩
 ·
  refine Cd.skip (Ex'.next (Cd.s1 (Sq.vl [0, 1, 2, 3] [sV ((htop (⟨#[]⟩, 0, 0) S).1), bV (decide (0 < S.length)), sV ((htop (⟨#[]⟩, 0, 0) S).1), bV (decide (0 < S.length))] (Sq.d4 (Cd.ret (Ex'.ret Tryz.results139 (RVs.tm (v := sV ((htop (⟨#[]⟩, 0, 0) S).1)) (RVs.tmp (v := bV (decide (0 < S.length))) (by kernel_rfl) RVs.nil)) (fun w hw => ?_)))))))
  exact ⟨_, ⟨by rw [decide_eq_false (by assumption)]; rfl, rfl⟩, by rw [show S.tail = S from by cases S with | nil => rfl | cons a t => simp at *]; exact hw.pk [0]⟩
end Go.Proofs.YtholinnmjoelkaaGreatDoor
namespace Go.Proofs.YtholinnmjoelkaaGreatDoor
open Go.RowKit Go.MapKept Go.Sort
def Grew (w w' : World) : Prop := ∃ q os', w' = grow (w.drewN q) os'
theorem Grew.refl (w : World) : Grew w w := ⟨0, #[], by simp; rfl⟩
theorem Grew.alloc {w w' : World} (h : Grew w w') (o : Obj) : Grew w (w'.alloc o) := by
  obtain ⟨q, os, rfl⟩ := h; exact ⟨q, os ++ #[o], by rw [alloc_eq_grow, grow_grow]⟩
theorem Grew.trans {w w' w'' : World} (h : Grew w w') (h2 : Grew w' w'') : Grew w w'' := by
  obtain ⟨q, os, rfl⟩ := h; obtain ⟨q2, os2, rfl⟩ := h2
  refine ⟨q + q2, os ++ os2, ?_⟩
  rw [← grow_grow]
  unfold grow World.drewN
  simp [Nat.add_assoc]
theorem Grew.blk {w w' : World} (h : Grew w w') {b : Nat} {l : List Value} {T : TypeId} (hb : Blk w b l T) : Blk w' b l T := by
  obtain ⟨q, os, rfl⟩ := h
  have hlt := hb.lt
  unfold Blk at *
  show (w.heap ++ os)[b]? = _
  rw [Array.getElem?_append_left hlt]; exact hb
theorem Grew.mod {w w' : World} (h : Grew w w') : Mod Nil w w' := by
  obtain ⟨q, os, rfl⟩ := h
  refine ⟨rfl, rfl, rfl, by simp [World.drewN], fun k hk _ => ?_⟩
  show (w.heap ++ os)[k]? = _
  rw [Array.getElem?_append_left hk]
theorem less_g (p0 p1 q0 q1 : Int) (W : World) : Calls Tryz.prog 195 #[.agg #[.int .i64 p0, .int .i64 p1], .agg #[.int .i64 q0, .int .i64 q1]] W fun e w' => e = .returned (.bool (decide (p0 < q0 ∨ p0 = q0 ∧ p1 < q1))) ∧ Grew W w' := by
  go_enter Tryz.func195, Tryz.ntmps195
  by_cases h1 : p0 < q0
  · go_wp2
    go_ret
    exact ⟨by simp [h1], ((Grew.refl _).alloc _).alloc _⟩
  · go_wp2
    all_goals (go_ret; refine ⟨?_, ((Grew.refl _).alloc _).alloc _⟩; simp <;> omega)
theorem ahead_gS (x y : HI ByteArray) (W : World) : Calls Tryz.prog 186 #[.agg #[sV x.key, iV x.one, iV x.two, iV x.came], .agg #[sV y.key, iV y.one, iV y.two, iV y.came]] W fun e w' => e = .returned (.bool (decide (x.lt y))) ∧ Grew W w' := by
  obtain ⟨xk, x1, x2, x3⟩ := x
  obtain ⟨yk, y1, y2, y3⟩ := y
  have hl := less_g x1 x2 y1 y2
  by_cases h1 : x1 < y1 ∨ x1 = y1 ∧ x2 < y2
  · have hlt : (⟨xk, x1, x2, x3⟩ : HI ByteArray).lt ⟨yk, y1, y2, y3⟩ := by unfold HI.lt; dsimp only; omega
    rw [decide_eq_true hlt]
    simp only [decide_eq_true h1] at hl
    clear hlt h1
    go_enter Tryz.func186, Tryz.ntmps186
    go_wp2_with (go_at_call 195; refine (hl _).mono ?_; rintro e w' ⟨rfl, hw⟩)
    go_ret
    exact ⟨rfl, (((Grew.refl _).alloc _).alloc _).trans hw⟩
  · simp only [decide_eq_false h1] at hl
    have B1 : ∀ o, Blk ((W.alloc (.cells #[sV xk, iV x1, iV x2, iV x3] 240)).alloc o) W.heap.size [sV xk, iV x1, iV x2, iV x3] 240 := fun o => (Blk.new W _ _).alloc o
    have B2 : Blk ((W.alloc (.cells #[sV xk, iV x1, iV x2, iV x3] 240)).alloc (.cells #[sV yk, iV y1, iV y2, iV y3] 240)) (W.heap.size + 1) [sV yk, iV y1, iV y2, iV y3] 240 := by
      have := Blk.new (W.alloc (.cells #[sV xk, iV x1, iV x2, iV x3] 240)) [sV yk, iV y1, iV y2, iV y3] 240
      simpa using this
    have hv : decide ((⟨xk, x1, x2, x3⟩ : HI ByteArray).lt ⟨yk, y1, y2, y3⟩) = decide ((x1 = y1 ∧ x2 = y2) ∧ x3 < y3) := by rw [decide_eq_decide]; unfold HI.lt; dsimp only; omega
    rw [hv]
    clear hv h1
    by_cases e1 : x1 = y1 <;> by_cases e2 : x2 = y2
    all_goals (try subst e1); (try subst e2)
    all_goals
      go_enter Tryz.func186, Tryz.ntmps186
      go_wp2_with (go_at_call 195; refine (hl _).mono ?_; rintro e w' ⟨rfl, hw⟩; have C1 := hw.blk (B1 _); have C2 := hw.blk B2; have c1 := C1.at 1 _ rfl; have c2 := C1.at 2 _ rfl; have c3 := C1.at 3 _ rfl; have d1 := C2.at 1 _ rfl; have d2 := C2.at 2 _ rfl; have d3 := C2.at 3 _ rfl; clear B1 B2 C1 C2)
      go_ret
      exact ⟨by first | rfl | (simp; done) | (simp; intros; first | omega | (exfalso; omega)), (((Grew.refl _).alloc _).alloc _).trans hw⟩
def hcmpS (x y : HI ByteArray) : Int := if x.lt y then -1 else if y.lt x then 1 else 0
set_option maxRecDepth 20000 in
theorem cmp_gS (x y : HI ByteArray) (W : World) : Calls Tryz.prog 185 #[.agg #[sV x.key, iV x.one, iV x.two, iV x.came], .agg #[sV y.key, iV y.one, iV y.two, iV y.came]] W fun e w' => e = .returned (.int .i64 (hcmpS x y)) ∧ Grew W w' := by
  have ha := ahead_gS x y
  have hb := ahead_gS y x
  have hv : hcmpS x y = bif decide (x.lt y) then -1 else bif decide (y.lt x) then 1 else 0 := by unfold hcmpS; by_cases h1 : x.lt y <;> by_cases h2 : y.lt x <;> simp [h1, h2]
  rw [hv]
  clear hv
  generalize decide (x.lt y) = p at *
  generalize decide (y.lt x) = q at *
  obtain ⟨xk, x1, x2, x3⟩ := x
  obtain ⟨yk, y1, y2, y3⟩ := y
  dsimp only at ha hb
  have B1 : ∀ o, Blk ((W.alloc (.cells #[sV xk, iV x1, iV x2, iV x3] 240)).alloc o) W.heap.size [sV xk, iV x1, iV x2, iV x3] 240 := fun o => (Blk.new W _ _).alloc o
  have B2 : Blk ((W.alloc (.cells #[sV xk, iV x1, iV x2, iV x3] 240)).alloc (.cells #[sV yk, iV y1, iV y2, iV y3] 240)) (W.heap.size + 1) [sV yk, iV y1, iV y2, iV y3] 240 := by
    have := Blk.new (W.alloc (.cells #[sV xk, iV x1, iV x2, iV x3] 240)) [sV yk, iV y1, iV y2, iV y3] 240
    simpa using this
  cases p
  · cases q
    all_goals
      go_enter Tryz.func185, Tryz.ntmps185
      go_wp2_with first
        | (go_at_call 186; refine (ha _).mono ?_; rintro e w' ⟨rfl, hw⟩; have C1 := hw.blk (B1 _); have C2 := hw.blk B2; have c0 := C1.at 0 _ rfl; have c1 := C1.at 1 _ rfl; have c2 := C1.at 2 _ rfl; have c3 := C1.at 3 _ rfl; have d0 := C2.at 0 _ rfl; have d1 := C2.at 1 _ rfl; have d2 := C2.at 2 _ rfl; have d3 := C2.at 3 _ rfl; clear B1 B2 C1 C2 ha)
        | (go_at_call 186; refine (hb _).mono ?_; rintro e w2 ⟨rfl, hw2⟩; clear hb)
      go_ret
      exact ⟨rfl, ((((Grew.refl _).alloc _).alloc _).trans hw).trans hw2⟩
  · clear hb B1 B2
    go_enter Tryz.func185, Tryz.ntmps185
    go_wp2_with (go_at_call 186; refine (ha _).mono ?_; rintro e w' ⟨rfl, hw⟩)
    go_ret
    exact ⟨rfl, (((Grew.refl _).alloc _).alloc _).trans hw⟩
end Go.Proofs.YtholinnmjoelkaaGreatDoor
namespace Go.Proofs.YtholinnmjoelkaaGreatDoor
open Go.Shelf Go.RowKit Go.Lib Go.Sort Go.MapKept
section
variable {α : Type} [Inhabited α] {enc : α → List Value} {k : Nat}
theorem flatK_get (hk : ∀ x, (enc x).length = k) (l : List α) {j : Nat} (hj : j < l.length * k) : (l.flatMap enc)[j]? = some ((flatK enc k l.toArray)[j]!) := by
  have k0 : 0 < k := Nat.pos_of_ne_zero fun e => by subst e; simp at hj
  have hi : j / k < l.length := (Nat.div_lt_iff_lt_mul k0).2 hj
  have hm : j % k < k := Nat.mod_lt _ k0
  rw [get_flatK _ _ _ _ (by simpa using hj)]
  have := get_flat hk l (j / k) (j % k) hi hm
  rw [show j / k * k + j % k = j from by rw [Nat.mul_comm]; exact Nat.div_add_mod j k] at this
  rw [this]
  simp only [List.getElem!_toArray, List.getElem!_eq_getElem?_getD, List.getElem?_eq_getElem hi, Option.getD_some]
  rw [List.getElem?_eq_getElem (by rw [hk]; exact hm)]; rfl
theorem holdsK_of (hk : ∀ x, (enc x).length = k) {w : World} {b E : Nat} {cur : List Value} {l : List α} (hb : Blk w b cur E) (hx : cur.take (l.length * k) = l.flatMap enc) : HoldsK enc k w b 0 l.toArray := by
  intro j hj
  rw [size_flatK] at hj
  have hj' : j < l.length * k := by simpa using hj
  refine ⟨?_, hb.free _⟩
  rw [Nat.zero_add, hb.cell]
  have := flatK_get hk l hj'
  rw [← hx, List.getElem?_take, if_pos hj'] at this
  exact this
theorem sort_blk {w : World} {b E n m : Nat} {cur : List Value} {d : Array α} {os : Array Obj} (hb : Blk w b cur E) : ∃ cur', cur'.length = cur.length ∧ Blk (sortWorldK enc k w b 0 m d os) b cur' E := by
  refine ⟨(putCells id 0 (flatK enc k d) cur.toArray).toList, by simp [putCells], ?_⟩
  have hlt := hb.lt
  unfold Blk at hb ⊢
  unfold sortWorldK putRowK putRow mapBlock grow Sort.ahead
  dsimp only
  rw [Array.getElem?_append_left (by simpa using hlt), Array.getElem?_modify, if_pos rfl, hb]
  simp [onCells]
theorem sort_mod {w : World} {b m : Nat} {d : Array α} {os : Array Obj} : Mod (fun x => x = b) w (sortWorldK enc k w b 0 m d os) := by
  unfold sortWorldK putRowK putRow mapBlock grow Sort.ahead
  refine ⟨rfl, rfl, rfl, by simp, fun j hj hn => ?_⟩
  show ((w.heap.modify b _) ++ os)[j]? = _
  rw [Array.getElem?_append_left (by simpa using hj), Array.getElem?_modify, if_neg (fun e => hn e.symm)]
theorem tri_sortK {P : Program} {ρ : Ren} (L : SlLaysF0.n6 P ρ) (aE : ∀ w, (isAgg (ρ.t 24)).run P w = .ok true w) (zE : ∀ w, (Go.sizeOf (ρ.t 24)).run P w = .ok k w) (hk : ∀ x, (enc x).length = k) (h1 : ∀ x, ∀ v ∈ enc x, v.oneCell' = true)
    (cf : α → α → Int) (hO : SWO (ltOf cf)) (g : Nat) (eg : ∀ args w, (callFunc g args).run P w = .ok (.enter g args) w) (hcmp : ∀ x y W, Calls P g #[.agg (enc x).toArray, .agg (enc y).toArray] W fun e w' => e = .returned (.int .i64 (cf x y)) ∧ ∃ q os', w' = grow (W.drewN q) os')
    {E n b cap : Nat} {l : List α} (hn : l.length = n) (h0 : 0 < n) (hsz : n ≤ 1000000000) :
    Tri P (ρ.f 6) #[.slice (some ⟨b, 0, none⟩) n cap, .func (.func g) #[] #[]] [rowR E k (.slice (some ⟨b, 0, none⟩) n cap) n (l.flatMap enc)]
      (PostE (ι := List α) (fun d => d.Perm l ∧ d.Pairwise fun x y => ltOf cf y x = false) (fun _ => .tuple #[]) fun d => [rowR E k (.slice (some ⟨b, 0, none⟩) n cap) n (d.flatMap enc)]) := by
  intro w own hH hO'
  have hr : Row w (fun k => own k = 0 + 1) E k (.slice (some ⟨b, 0, none⟩) n cap) n (l.flatMap enc) := hH 0 _ rfl
  rcases hr.shape with ⟨_, e2, _⟩ | ⟨g', cap', cur, e1, hS, hb, hnc, hc, hl, hx⟩
  · omega
  cases e1
  have hh := holdsK_of (E := E) hk hb (l := l) (by rw [hn]; exact hx)
  have hcon := AnyQ.slices_SortFunc L k aE zE enc hk h1 cf hO g #[] b 0 cap l.toArray w eg (fun m os dk _ x y => hcmp x y _) hh hb.lt (by simp; omega)
  simp only [List.size_toArray, hn] at hcon
  refine hcon.mono ?_
  rintro e w' ⟨rfl, d', m, os, hp, hs, rfl⟩
  obtain ⟨p1, p2, p3⟩ := hp
  simp only [List.size_toArray, hn] at p1 p2 p3
  have q3 : d'.toList.Perm l := by
    have e1 : d'.extract 0 n = d' := by rw [← p1]; exact Array.extract_size
    have e2 : l.toArray.extract 0 n = l.toArray := by rw [show n = l.toArray.size from by simp [hn]]; exact Array.extract_size
    rw [e1, e2] at p3; simpa using p3
  obtain ⟨cur', c1, c2⟩ := sort_blk (enc := enc) (k := k) (n := n) (m := m) (d := d') (os := os) hb
  have hH2 := holdsK_sortWorldK_c enc k w b 0 l.toArray d' m os hh hb.lt (by simp [p1, hn])
  refine ⟨_, rfl, [rowR E k (.slice (some ⟨b, 0, none⟩) n cap) n (d'.toList.flatMap enc)], own, ⟨d'.toList, ⟨q3, ?_⟩, rfl, rfl⟩, fun i R hi => ?_, sort_mod.mono (fun j _ q => by subst q; rw [hS]; omega), fun _ _ q => q⟩
  · rw [List.pairwise_iff_getElem]
    intro i j hi hj hij
    have hj' : j < n := by rw [← p1]; simpa using hj
    have := hs i j (Nat.zero_le _) hij hj'
    rw [getElem!_pos d' j (by omega), getElem!_pos d' i (by omega)] at this
    simpa using this
  · match i, hi with
    | 0, hi =>
      cases hi
      refine Row.mk hS c2 hnc hc (by rw [c1]; exact hl) ?_
      have hle : n * k ≤ cur'.length := by rw [c1, hl]; exact Nat.mul_le_mul_right _ hnc
      refine List.ext_getElem? fun j => ?_
      rw [List.getElem?_take]
      split
      · rename_i hj
        have hd : d'.toList.length = n := by simpa using p1
        rw [flatK_get hk d'.toList (by rw [hd]; exact hj)]
        have := (hH2 j (by rw [size_flatK, p1]; exact hj)).1
        rw [Nat.zero_add, c2.cell] at this
        simpa using this
      · rename_i hj
        rw [List.getElem?_eq_none]
        rw [flat_len hk]; simp [p1]; omega
theorem tri_sort0 {P : Program} {ρ : Ren} (L : SlLaysF0.n6 P ρ) (p : Option Addr) (cap : Nat) (fv : Value) : Tri P (ρ.f 6) #[.slice p 0 cap, fv] [] (Same [] (.tuple #[])) :=
  tri_same fun w own h => (AnyF.slices_SortFunc_none L p cap fv w).mono fun _ _ h => ⟨h.1, h.2.symm⟩
end
end Go.Proofs.YtholinnmjoelkaaGreatDoor
