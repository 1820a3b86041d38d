/- Package heap: its calls, over the whole. -/
import Derived.Test.YtnijaeipkbpibaaDoorHpW
set_option linter.unusedVariables false
namespace Go.Proofs.YtnijaeipkbpibaaDoor
open Go.RowKit Go.MapKept

set_option maxHeartbeats 8000000 in
set_option maxRecDepth 100000 in
theorem hp_NewS   : Tri Tryd.prog 29 #[] [] (PostE (fun _ => True) (fun b => pV b 0) fun b => [hpS b [] 0]) := by
  refine Tri.enter (args := []) Tryd.func29 rfl rfl rfl (fun B wz => ?_)
  refine Cd.seq ?_
  refine Cd.region rfl ?_
  refine Sq.vals [0] (rest := []) [.pointer none] (fun w => by kernel_rfl) ?_
  refine Sq.done ?_
  refine Ex'.next ?_
  refine Cd.seq ?_
  refine Cd.region rfl ?_
  refine Sq.ex [] (l := []) (o_newMap Value.string (Value.int .i64)) (by kernel_rfl) rfl (by kernel_rfl) (fun _ => Nat.zero_le _) ?_; intro b1 _
  refine Sq.vals [1] (rest := [2, 3]) [.agg #[.slice none 0 0, .map (some b1), iV 0]] (fun w => by kernel_rfl) ?_
  refine Sq.ex [] (l := []) (o_newBox (v := .agg #[.slice none 0 0, .map (some b1), iV 0]) [.slice none 0 0, .map (some b1), iV 0] (by kernel_rfl) rfl) (by kernel_rfl) rfl (by kernel_rfl) (fun _ => Nat.zero_le _) ?_; intro b2 _
  refine Sq.vals [3] (rest := []) [pV b2 0] (fun w => by kernel_rfl) ?_
  refine Sq.done ?_
  refine Ex'.next ?_
  refine Cd.ret ?_
  refine Ex'.ret Tryd.results29 (RVs.tmp (v := pV b2 0) (by kernel_rfl) (RVs.nil)) (fun w hw => ?_)
  have hr := hw.nilRow 95 4
  exact ⟨_, ⟨_, trivial, rfl, rfl⟩, St.hpS (b := b2) (v := .slice none 0 0) (mb := b1) (l := []) (mp := []) (came := 0) (Δ := []) (hr.pickB [1, 0, 2] (by kernel_rfl) (by kernel_rfl) (by kernel_rfl)) HpS.new⟩

set_option maxHeartbeats 8000000 in
set_option maxRecDepth 100000 in
theorem hp_LeastS {b n : Nat} {S : List (KR ByteArray)} (hn : n ≤ 1000000000) : Tri Tryd.prog 34 #[pV b 0] [hpS b S n] (Same [hpS b S n] (.tuple #[sV (htop (⟨#[]⟩, 0, 0) S).1, .agg #[iV (htop (⟨#[]⟩, 0, 0) S).2.1, iV (htop (⟨#[]⟩, 0, 0) S).2.2], bV (decide (0 < S.length))])) := by
  refine Tri.enter (args := [pV b 0]) Tryd.func34 rfl rfl rfl (fun B wz => ?_)
  refine Cd.openS ?_; intro v mb l mp came hS
  refine Cd.fact (i := 2) rfl row_slice ?_; rintro ⟨a0, cap, rfl, hcap, hcap2⟩
  have hln := hS.ln; have hc0 := hS.c0; have hcn := hS.cn; have hlen := hS.len
  refine Cd.seq ?_
  refine Cd.region rfl ?_
  refine Sq.vals [0] (rest := [1, 2]) [sV ⟨#[]⟩] (fun w => by kernel_rfl) ?_
  refine Sq.ex [] (l := []) (o_new [iV 0, iV 0] (fun w => by kernel_rfl)) (by kernel_rfl) rfl (by kernel_rfl) (fun _ => Nat.zero_le _) ?_; intro b1 _
  refine Sq.vals [2] (rest := []) [bV false] (fun w => by kernel_rfl) ?_
  refine Sq.done ?_
  refine Ex'.next ?_
  refine Cd.seq ?_
  refine Cd.seq ?_
  refine Cd.region rfl ?_
  refine Sq.vals [0, 1, 2] (rest := [3, 4, 5]) [pV b 0, pV b 0, pV b 0] (fun w => by kernel_rfl) ?_
  refine Sq.same [0] (l := [blkR b [.slice a0 l.length cap, .map (some mb), iV came] 92]) (o_load (i := 0) (v := .slice a0 l.length cap) (by kernel_rfl) (by kernel_rfl) (by kernel_rfl)) (by kernel_rfl) rfl (by kernel_rfl) rfl ?_
  refine Sq.vals [4] (rest := [5]) [iV (l.length : Int)] (fun w => by kernel_rfl) ?_
  refine Sq.v (r := bV (decide ((l.length : Int) = 0))) (o_eqI (k := .i64) (a := (l.length : Int)) (b := 0) (by kernel_rfl) (by kernel_rfl)) rfl (by kernel_rfl) ?_
  refine Sq.done ?_
  refine Ex'.next ?_
  refine Cd.case (p := (l.length : Int) = 0) (by kernel_rfl) (fun h2 => ?_) (fun h2 => ?_)
  ·
    have hl0 : S = [] := List.eq_nil_of_length_eq_zero (by omega)
    refine Cd.seq ?_
    refine Cd.region rfl ?_
    refine Sq.vals [0] (rest := []) [sV ⟨#[]⟩] (fun w => by kernel_rfl) ?_
    refine Sq.done ?_
    refine Ex'.next ?_
    refine Cd.seq ?_
    refine Cd.region rfl ?_
    refine Sq.vals [0, 1, 2] (rest := [3, 4]) [sV ⟨#[]⟩, .agg #[iV 0, iV 0], sV ⟨#[]⟩] (fun w => by kernel_rfl) ?_
    refine Sq.same [3] (l := [blkR b1 [iV 0, iV 0] 68]) (o_store (i := 0) (v := .agg #[iV 0, iV 0]) (by kernel_rfl) (by kernel_rfl) (by kernel_rfl) (by kernel_rfl) (by kernel_rfl)) (by kernel_rfl) rfl (by kernel_rfl) rfl ?_
    refine Sq.vals [4] (rest := []) [bV false] (fun w => by kernel_rfl) ?_
    refine Sq.done ?_
    refine Ex'.next ?_
    refine Cd.ret ?_
    refine Ex'.thenRet ?_
    refine Ex'.ret Tryd.results34 (RVs.tmp (v := sV ⟨#[]⟩) (by kernel_rfl) (RVs.cellN (i := 0) (b := b1) (l := [iV 0, iV 0]) (E := 68) [iV 0, iV 0] 3 (by kernel_rfl) (by kernel_rfl) (by kernel_rfl) (by kernel_rfl) (RVs.tmp (v := bV false) (by kernel_rfl) (RVs.nil)))) (fun w hw => ?_)
    exact ⟨_, ⟨by rw [hl0]; rfl, rfl⟩, St.hpS (b := b) (v := .slice a0 l.length cap) (mb := mb) (l := l) (mp := mp) (came := came) (Δ := []) (hw.pickB [0, 1, 2] (by kernel_rfl) (by kernel_rfl) (by kernel_rfl)) hS⟩
  ·
    obtain ⟨S1, hS1⟩ := hS.top (by omega)
    refine Cd.fact (i := 2) (R := rowR 95 4 (.slice a0 l.length cap) l.length (l.flatMap hcS)) (by kernel_rfl) (row_addr (by omega)) ?_; rintro ⟨b3, rfl⟩
    refine Cd.skip ?_
    refine Ex'.next ?_
    refine Cd.seq ?_
    refine Cd.sub (subB_spec [0, 3, 6, 7, 8, 9, 10, 11]) ?_
    refine Cd.plan [0, 1, 3, 7, 15, 31, 63, 0, 128, 384, 896, 1920, 3968, 8064, 127, 32767, 65535] [(3, [(0, false, 0)]), (6, [(2, false, 0)]), (10, [(0, false, 0)]), (13, [(2, false, 0)]), (15, [(3, true, 0)])] [] [] [(3, 15, fun g => blkR b1 [iV ((l.getD 0 hzS).one), iV ((l.getD 0 hzS).two)] 68)] [fun g => pV b 0, fun g => pV b 0, fun g => pV b 0, fun g => .slice (some ⟨b3, 0, none⟩) l.length cap, fun g => pV b3 0, fun g => pV b3 0, fun g => sV ((l.getD 0 hzS).key), fun g => pV b 0, fun g => pV b 0, fun g => pV b 0, fun g => .slice (some ⟨b3, 0, none⟩) l.length cap, fun g => pV b3 0, fun g => pV b3 1, fun g => .agg #[iV ((l.getD 0 hzS).one), iV ((l.getD 0 hzS).two)], fun g => sV ((l.getD 0 hzS).key), fun g => undef, fun g => bV true] (by kernel_rfl) (by kernel_rfl) rfl (trivial) ?_ ?_
    · exact ⟨ob_val fun g w => by kernel_rfl, ob_val fun g w => by kernel_rfl, ob_val fun g w => by kernel_rfl, ob_s (l := fun g => [blkR b [.slice (some ⟨b3, 0, none⟩) l.length cap, .map (some mb), iV came] 92]) (l' := fun g => [blkR b [.slice (some ⟨b3, 0, none⟩) l.length cap, .map (some mb), iV came] 92]) (v := fun g => .slice (some ⟨b3, 0, none⟩) l.length cap) (fun g => o_load (i := 0) (v := .slice (some ⟨b3, 0, none⟩) l.length cap) (by kernel_rfl) (by kernel_rfl) (by kernel_rfl)) (fun g => by kernel_rfl), ob_v (v := fun g => pV b3 0) (fun g => o_idx (b := b3) (cap := cap) (e := 95) (off := 0) (n := l.length) (kd := .i64) (q := 0) (i := 0) (size := 4) (j := 0) (by kernel_rfl) (by kernel_rfl) (by rfl) (by omega) Tryd.underlying90 (by kernel_rfl) (by omega)) (fun g => by kernel_rfl), ob_val fun g w => by kernel_rfl, ob_s (l := fun g => [rowR 95 4 (.slice (some ⟨b3, 0, none⟩) l.length cap) l.length (l.flatMap hcS)]) (l' := fun g => [rowR 95 4 (.slice (some ⟨b3, 0, none⟩) l.length cap) l.length (l.flatMap hcS)]) (v := fun g => sV ((l.getD 0 hzS).key)) (fun g => o_loadRow (i := 0) (u := sV ((l.getD 0 hzS).key)) (by kernel_rfl) (by first | omega | (simp only [List.length_set, List.length_append, List.length_take, List.length_singleton] <;> omega)) (by kernel_rfl) ((rec_get (f := hcS) (k := 4) (z := hzS) (l := l) (i := 0) (j := 0) (fun _ => rfl) (by first | omega | (simp only [List.length_set, List.length_append, List.length_take, List.length_singleton] <;> omega)) (by decide)).trans rfl)) (fun g => by kernel_rfl), ob_val fun g w => by kernel_rfl, ob_val fun g w => by kernel_rfl, ob_val fun g w => by kernel_rfl, ob_s (l := fun g => [blkR b [.slice (some ⟨b3, 0, none⟩) l.length cap, .map (some mb), iV came] 92]) (l' := fun g => [blkR b [.slice (some ⟨b3, 0, none⟩) l.length cap, .map (some mb), iV came] 92]) (v := fun g => .slice (some ⟨b3, 0, none⟩) l.length cap) (fun g => o_load (i := 0) (v := .slice (some ⟨b3, 0, none⟩) l.length cap) (by kernel_rfl) (by kernel_rfl) (by kernel_rfl)) (fun g => by kernel_rfl), ob_v (v := fun g => pV b3 0) (fun g => o_idx (b := b3) (cap := cap) (e := 95) (off := 0) (n := l.length) (kd := .i64) (q := 0) (i := 0) (size := 4) (j := 0) (by kernel_rfl) (by kernel_rfl) (by rfl) (by omega) Tryd.underlying90 (by kernel_rfl) (by omega)) (fun g => by kernel_rfl), ob_val fun g w => by kernel_rfl, ob_s (l := fun g => [rowR 95 4 (.slice (some ⟨b3, 0, none⟩) l.length cap) l.length (l.flatMap hcS)]) (l' := fun g => [rowR 95 4 (.slice (some ⟨b3, 0, none⟩) l.length cap) l.length (l.flatMap hcS)]) (v := fun g => .agg #[iV ((l.getD 0 hzS).one), iV ((l.getD 0 hzS).two)]) (fun g => o_loadRowN (j := 1) [iV ((l.getD 0 hzS).one), iV ((l.getD 0 hzS).two)] (by kernel_rfl) (by first | omega | (simp only [List.length_set, List.length_append, List.length_take, List.length_singleton] <;> omega)) (by kernel_rfl) (rec_gets (f := hcS) (k := 4) (z := hzS) (l := l) (i := 0) (o := 1) (fun _ => rfl) (by first | omega | (simp only [List.length_set, List.length_append, List.length_take, List.length_singleton] <;> omega)) (Nat.le_of_ble_eq_true rfl) rfl)) (fun g => by kernel_rfl), ob_val fun g w => by kernel_rfl, ob_s (l := fun g => [blkR b1 [iV 0, iV 0] 68]) (l' := fun g => [blkR b1 [iV ((l.getD 0 hzS).one), iV ((l.getD 0 hzS).two)] 68]) (v := fun g => undef) (fun g => o_store (i := 0) (v := .agg #[iV ((l.getD 0 hzS).one), iV ((l.getD 0 hzS).two)]) (by kernel_rfl) (by kernel_rfl) (by kernel_rfl) (by kernel_rfl) (by kernel_rfl)) (fun g => by kernel_rfl), ob_val fun g w => by kernel_rfl, trivial⟩
    intro g
    refine Ex'.sub (subB_spec [2, 3, 4]) ?_
    refine Ex'.as [0, 1, 2, 3] (σ' := [(2, sV ((l.getD 0 hzS).key)), (3, pV b1 0), (4, bV true)]) (Γ' := [blkR b [.slice (some ⟨b3, 0, none⟩) l.length cap, .map (some mb), iV came] 92, mapR Value.string (Value.int .i64) mb mp, rowR 95 4 (.slice (some ⟨b3, 0, none⟩) l.length cap) l.length (l.flatMap hcS), blkR b1 [iV ((l.getD 0 hzS).one), iV ((l.getD 0 hzS).two)] 68]) (by kernel_rfl) rfl (by kernel_rfl) (by kernel_rfl) ?_
    refine Ex'.next ?_
    refine Cd.ret ?_
    refine Ex'.ret Tryd.results34 (RVs.tmp (v := sV ((l.getD 0 hzS).key)) (by kernel_rfl) (RVs.cellN (i := 0) (b := b1) (l := [iV ((l.getD 0 hzS).one), iV ((l.getD 0 hzS).two)]) (E := 68) [iV ((l.getD 0 hzS).one), iV ((l.getD 0 hzS).two)] 3 (by kernel_rfl) (by kernel_rfl) (by kernel_rfl) (by kernel_rfl) (RVs.tmp (v := bV true) (by kernel_rfl) (RVs.nil)))) (fun w hw => ?_)
    exact ⟨_, ⟨by rw [hS1]; rfl, rfl⟩, St.hpS (b := b) (v := .slice (some ⟨b3, 0, none⟩) l.length cap) (mb := mb) (l := l) (mp := mp) (came := came) (Δ := []) (hw.pickB [0, 1, 2] (by kernel_rfl) (by kernel_rfl) (by kernel_rfl)) hS⟩

set_option maxHeartbeats 8000000 in
set_option maxRecDepth 100000 in
theorem hp_SetS {b n : Nat} {S : List (KR ByteArray)} (key : ByteArray) (one two : Int) (hn : n + 1 ≤ 1000000000) : Tri Tryd.prog 30 #[pV b 0, sV key, .agg #[iV one, iV two]] [hpS b S n] (Same [hpS b (hset S (key, one, two)) (n + 1)] (.tuple #[])) := by
  refine Tri.enter (args := [pV b 0, sV key, .agg #[iV one, iV two]]) Tryd.func30 rfl rfl rfl (fun B wz => ?_)
  refine Cd.openS ?_; intro v mb l mp came hS
  refine Cd.fact (i := 2) rfl row_slice ?_; rintro ⟨a0, cap, rfl, hcap, hcap2⟩
  have hln := hS.ln; have hc0 := hS.c0; have hcn := hS.cn; have hlen := hS.len
  refine Cd.seq ?_
  refine Cd.region rfl ?_
  refine Sq.ex [] (l := []) (o_newBox (v := .agg #[iV one, iV two]) [iV one, iV two] (by kernel_rfl) rfl) (by kernel_rfl) rfl (by kernel_rfl) (fun _ => Nat.zero_le _) ?_; intro b1 _
  refine Sq.done ?_
  refine Ex'.next ?_
  refine Cd.seq ?_
  refine Cd.region rfl ?_
  refine Sq.vals [0, 1, 2] (rest := [3, 4, 5, 6, 7, 8, 9, 10]) [pV b 0, pV b 0, pV b 1] (fun w => by kernel_rfl) ?_
  refine Sq.same [0] (l := [blkR b [.slice a0 l.length cap, .map (some mb), iV came] 92]) (o_load (i := 1) (v := .map (some mb)) (by kernel_rfl) (by kernel_rfl) (by kernel_rfl)) (by kernel_rfl) rfl (by kernel_rfl) rfl ?_
  refine Sq.vals [4] (rest := [5, 6, 7, 8, 9, 10]) [sV key] (fun w => by kernel_rfl) ?_
  refine Sq.same [1] (l := [mapR Value.string (Value.int .i64) mb mp]) (o_lookOk (fv := (Value.int .i64)) (l := mp) (0 : Int) key (by kernel_rfl) (by kernel_rfl) (strKey Tryd.underlying9) Tryd.underlying45 (fun w => by kernel_rfl)) (by kernel_rfl) rfl (by kernel_rfl) rfl ?_
  refine Sq.vals [6, 7, 8, 9, 10] (rest := []) [.tuple #[iV ((lk mp key).getD (0 : Int)), bV ((lk mp key).isSome)], iV ((lk mp key).getD (0 : Int)), bV ((lk mp key).isSome), iV ((lk mp key).getD (0 : Int)), bV ((lk mp key).isSome)] (fun w => by kernel_rfl) ?_
  refine Sq.done ?_
  refine Ex'.next ?_
  refine Cd.seq ?_
  refine Cd.seq ?_
  refine Cd.region rfl ?_
  refine Sq.vals [0, 1] (rest := []) [bV ((lk mp key).isSome), bV (!((lk mp key).isSome))] (fun w => by kernel_rfl) ?_
  refine Sq.done ?_
  refine Ex'.next ?_
  refine Cd.cond (t := (!((lk mp key).isSome))) (by kernel_rfl) (fun h2 => ?_) (fun h2 => ?_)
  ·
    have hno : lk mp key = none := by simpa using h2
    have hnoS : lk S key = none := by have := hS.has key; rw [hno] at this; simpa using this.symm
    have hnk : key ∉ l.map HI.key := fun q => by have := (hS.ok.dm key).2 q; rw [hno] at this; simp at this
    refine Cd.seq ?_
    refine Cd.region rfl ?_
    refine Sq.vals [0, 1, 2] (rest := [3, 4, 5]) [pV b 0, pV b 0, pV b 0] (fun w => by kernel_rfl) ?_
    refine Sq.same [0] (l := [blkR b [.slice a0 l.length cap, .map (some mb), iV came] 92]) (o_load (i := 0) (v := .slice a0 l.length cap) (by kernel_rfl) (by kernel_rfl) (by kernel_rfl)) (by kernel_rfl) rfl (by kernel_rfl) rfl ?_
    refine Sq.vals [4, 5] (rest := []) [iV (l.length : Int), iV (l.length : Int)] (fun w => by kernel_rfl) ?_
    refine Sq.done ?_
    refine Ex'.next ?_
    refine Cd.region rfl ?_
    refine Sq.vals [0, 1, 2, 3] (rest := [4, 5, 6, 7, 8, 9, 10]) [pV b 0, pV b 0, pV b 0, pV b 0] (fun w => by kernel_rfl) ?_
    refine Sq.same [0] (l := [blkR b [.slice a0 l.length cap, .map (some mb), iV came] 92]) (o_load (i := 0) (v := .slice a0 l.length cap) (by kernel_rfl) (by kernel_rfl) (by kernel_rfl)) (by kernel_rfl) rfl (by kernel_rfl) rfl ?_
    refine Sq.vals [5] (rest := [6, 7, 8, 9, 10]) [.agg #[sV ⟨#[]⟩, iV 0, iV 0, iV 0]] (fun w => by kernel_rfl) ?_
    refine Sq.ex [] (l := []) (o_lit (sz := 4) (.agg #[sV ⟨#[]⟩, iV 0, iV 0, iV 0]) [sV ⟨#[]⟩, iV 0, iV 0, iV 0] Tryd.underlying90 (by kernel_rfl) (by kernel_rfl) (by kernel_rfl) (by kernel_rfl) (by kernel_rfl)) (by kernel_rfl) rfl (by kernel_rfl) (fun _ => Nat.zero_le _) ?_; intro b3 _
    refine Sq.ex [2, 4] (l := [rowR 95 4 (.slice a0 l.length cap) l.length (l.flatMap hcS), blkR b3 [sV ⟨#[]⟩, iV 0, iV 0, iV 0] 95]) (o_push (n' := l.length + 1) (xs' := (l ++ [(⟨⟨#[]⟩, 0, 0, 0⟩ : HI ByteArray)]).flatMap hcS) (by kernel_rfl) (by kernel_rfl) sl_itemS (by decide) rfl (by kernel_rfl) (by unfold maxLen; first | omega | (simp only [List.length_nil]; omega)) (by first | omega | (simp only [List.length_nil]; omega)) (by simp) (by rw [List.flatMap_append]; rfl)) (by kernel_rfl) rfl (by kernel_rfl) (fun _ => Nat.le_of_ble_eq_true (by kernel_rfl)) ?_; rintro v4 _
    refine Sq.fact (i := 2) (R := rowR 95 4 v4 (l.length + 1) ((l ++ [(⟨⟨#[]⟩, 0, 0, 0⟩ : HI ByteArray)]).flatMap hcS)) (by kernel_rfl) row_slice ?_; rintro ⟨a5, c6, rfl, hc6, hc6'⟩
    have hc6'' : c6 ≤ 9223372036854775807 := hc6'
    refine Sq.fact (i := 2) (R := rowR 95 4 (.slice a5 (l.length + 1) c6) (l.length + 1) ((l ++ [(⟨⟨#[]⟩, 0, 0, 0⟩ : HI ByteArray)]).flatMap hcS)) (by kernel_rfl) (row_addr (by simp)) ?_; rintro ⟨b7, rfl⟩
    refine Sq.vals [8, 9] (rest := [10]) [pV b 0, pV b 0] (fun w => by kernel_rfl) ?_
    refine Sq.same [0] (l := [blkR b [.slice a0 l.length cap, .map (some mb), iV came] 92]) (o_store (i := 0) (v := .slice (some ⟨b7, 0, none⟩) (l.length + 1) c6) (by kernel_rfl) (by kernel_rfl) (by kernel_rfl) (by kernel_rfl) (by kernel_rfl)) (by kernel_rfl) rfl (by kernel_rfl) rfl ?_
    refine Sq.done ?_
    refine Ex'.next ?_
    refine Cd.seq ?_
    refine Cd.region rfl ?_
    refine Sq.vals [0, 1, 2] (rest := [3, 4, 5, 6, 7]) [pV b 0, pV b 0, pV b 2] (fun w => by kernel_rfl) ?_
    refine Sq.same [0] (l := [blkR b [.slice (some ⟨b7, 0, none⟩) (l.length + 1) c6, .map (some mb), iV came] 92]) (o_load (i := 2) (v := iV came) (by kernel_rfl) (by kernel_rfl) (by kernel_rfl)) (by kernel_rfl) rfl (by kernel_rfl) rfl ?_
    refine Sq.v (r := iV (came + 1)) (o_add (k := .i64) (a := came) (b := 1) (c := came + 1) (by kernel_rfl) (by kernel_rfl) (w64 rfl (by omega))) rfl (by kernel_rfl) ?_
    refine Sq.vals [5, 6] (rest := [7]) [pV b 0, pV b 2] (fun w => by kernel_rfl) ?_
    refine Sq.same [0] (l := [blkR b [.slice (some ⟨b7, 0, none⟩) (l.length + 1) c6, .map (some mb), iV came] 92]) (o_store (i := 2) (v := iV (came + 1)) (by kernel_rfl) (by kernel_rfl) (by kernel_rfl) (by kernel_rfl) (by kernel_rfl)) (by kernel_rfl) rfl (by kernel_rfl) rfl ?_
    refine Sq.done ?_
    refine Ex'.next ?_
    refine Cd.seq ?_
    refine Cd.plan [0, 0, 0, 0, 0, 16, 48, 112, 252, 511] [(3, [(3, false, 0)]), (7, [(0, false, 0)]), (9, [(0, false, 0), (1, true, 0), (2, true, 0)])] [] [] [(1, 9, fun g => mapR Value.string (Value.int .i64) mb (put mp (⟨key, one, two, came + 1⟩ : HI ByteArray).key (l.length : Int))), (2, 9, fun g => rowR 95 4 (.slice (some ⟨b7, 0, none⟩) (l.length + 1) c6) (l.length + 1) (((l ++ [(⟨⟨#[]⟩, 0, 0, 0⟩ : HI ByteArray)]).set l.length (⟨key, one, two, came + 1⟩ : HI ByteArray)).flatMap hcS))] [fun g => pV b 0, fun g => iV (l.length : Int), fun g => sV key, fun g => .agg #[iV one, iV two], fun g => pV b 0, fun g => pV b 0, fun g => pV b 2, fun g => iV (came + 1), fun g => .agg #[sV key, iV one, iV two, iV (came + 1)], fun g => .tuple #[]] (by kernel_rfl) (by kernel_rfl) rfl (trivial) ?_ ?_
    · exact ⟨ob_val fun g w => by kernel_rfl, ob_val fun g w => by kernel_rfl, ob_val fun g w => by kernel_rfl, ob_s (l := fun g => [blkR b1 [iV one, iV two] 68]) (l' := fun g => [blkR b1 [iV one, iV two] 68]) (v := fun g => .agg #[iV one, iV two]) (fun g => o_loadN (i := 0) [iV one, iV two] (by kernel_rfl) (by kernel_rfl) (by kernel_rfl)) (fun g => by kernel_rfl), ob_val fun g w => by kernel_rfl, ob_val fun g w => by kernel_rfl, ob_val fun g w => by kernel_rfl, ob_s (l := fun g => [blkR b [.slice (some ⟨b7, 0, none⟩) (l.length + 1) c6, .map (some mb), iV (came + 1)] 92]) (l' := fun g => [blkR b [.slice (some ⟨b7, 0, none⟩) (l.length + 1) c6, .map (some mb), iV (came + 1)] 92]) (v := fun g => iV (came + 1)) (fun g => o_load (i := 2) (v := iV (came + 1)) (by kernel_rfl) (by kernel_rfl) (by kernel_rfl)) (fun g => by kernel_rfl), ob_val fun g w => by kernel_rfl, ob_s (l := fun g => [blkR b [.slice (some ⟨b7, 0, none⟩) (l.length + 1) c6, .map (some mb), iV (came + 1)] 92, mapR Value.string (Value.int .i64) mb mp, rowR 95 4 (.slice (some ⟨b7, 0, none⟩) (l.length + 1) c6) (l.length + 1) ((l ++ [(⟨⟨#[]⟩, 0, 0, 0⟩ : HI ByteArray)]).flatMap hcS)]) (l' := fun g => [blkR b [.slice (some ⟨b7, 0, none⟩) (l.length + 1) c6, .map (some mb), iV (came + 1)] 92, mapR Value.string (Value.int .i64) mb (put mp (⟨key, one, two, came + 1⟩ : HI ByteArray).key (l.length : Int)), rowR 95 4 (.slice (some ⟨b7, 0, none⟩) (l.length + 1) c6) (l.length + 1) (((l ++ [(⟨⟨#[]⟩, 0, 0, 0⟩ : HI ByteArray)]).set l.length (⟨key, one, two, came + 1⟩ : HI ByteArray)).flatMap hcS)]) (v := fun g => .tuple #[]) (fun g => o_call (by kernel_rfl) Tryd.call43 (heap_putS (b := b) (mb := mb) (n := l.length + 1) (l := l ++ [(⟨⟨#[]⟩, 0, 0, 0⟩ : HI ByteArray)]) (mp := mp) (came := came + 1) l.length (⟨key, one, two, came + 1⟩ : HI ByteArray) (by omega) (by first | omega | (simp only [List.length_set, List.length_append, List.length_take, List.length_singleton] <;> omega)) (by first | omega | (simp only [List.length_set, List.length_append, List.length_take, List.length_singleton] <;> omega)))) (fun g => by kernel_rfl), trivial⟩
    intro g
    refine Ex'.sub (subB_spec [0, 6]) ?_
    refine Ex'.as [0, 1, 2, 3, 4] (σ' := [(0, pV b 0), (6, iV (l.length : Int))]) (Γ' := [blkR b [.slice (some ⟨b7, 0, none⟩) (l.length + 1) c6, .map (some mb), iV (came + 1)] 92, mapR Value.string (Value.int .i64) mb (put mp (⟨key, one, two, came + 1⟩ : HI ByteArray).key (l.length : Int)), rowR 95 4 (.slice (some ⟨b7, 0, none⟩) (l.length + 1) c6) (l.length + 1) (((l ++ [(⟨⟨#[]⟩, 0, 0, 0⟩ : HI ByteArray)]).set l.length (⟨key, one, two, came + 1⟩ : HI ByteArray)).flatMap hcS), blkR b1 [iV one, iV two] 68, blkR b3 [sV ⟨#[]⟩, iV 0, iV 0, iV 0] 95]) (by kernel_rfl) rfl (by kernel_rfl) (by kernel_rfl) ?_
    refine Ex'.next ?_
    refine Cd.region rfl ?_
    refine Sq.vals [0, 1] (rest := [2]) [pV b 0, iV (l.length : Int)] (fun w => by kernel_rfl) ?_
    refine Sq.ex [0, 1, 2] (l := [blkR b [.slice (some ⟨b7, 0, none⟩) (l.length + 1) c6, .map (some mb), iV (came + 1)] 92, mapR Value.string (Value.int .i64) mb (put mp (⟨key, one, two, came + 1⟩ : HI ByteArray).key (l.length : Int)), rowR 95 4 (.slice (some ⟨b7, 0, none⟩) (l.length + 1) c6) (l.length + 1) (((l ++ [(⟨⟨#[]⟩, 0, 0, 0⟩ : HI ByteArray)]).set l.length (⟨key, one, two, came + 1⟩ : HI ByteArray)).flatMap hcS)]) (o_call (by kernel_rfl) Tryd.call44 (heap_settleS (b := b) (mb := mb) (n := l.length + 1) (l := (l ++ [(⟨⟨#[]⟩, 0, 0, 0⟩ : HI ByteArray)]).set l.length (⟨key, one, two, came + 1⟩ : HI ByteArray)) (mp := put mp (⟨key, one, two, came + 1⟩ : HI ByteArray).key (l.length : Int)) (came := came + 1) l.length (by omega) (by first | omega | (simp only [List.length_set, List.length_append, List.length_take, List.length_singleton] <;> omega)) (by rw [(show (l ++ [(⟨⟨#[]⟩, 0, 0, 0⟩ : HI ByteArray)]).set l.length (⟨key, one, two, came + 1⟩ : HI ByteArray) = l ++ [(⟨key, one, two, came + 1⟩ : HI ByteArray)] from by simp)]; exact (hS.at_add (x := (⟨key, one, two, came + 1⟩ : HI ByteArray)) hnk).1) (by rw [(show (l ++ [(⟨⟨#[]⟩, 0, 0, 0⟩ : HI ByteArray)]).set l.length (⟨key, one, two, came + 1⟩ : HI ByteArray) = l ++ [(⟨key, one, two, came + 1⟩ : HI ByteArray)] from by simp)]; exact (hS.at_add (x := (⟨key, one, two, came + 1⟩ : HI ByteArray)) hnk).2))) (by kernel_rfl) rfl (by kernel_rfl) (fun _ => Nat.le_of_ble_eq_true (by kernel_rfl)) ?_; rintro ⟨l8, m9⟩ ⟨hq1, hq2, hq3⟩
    refine Sq.done ?_
    refine Ex'.fin Tryd.results30 (RVs.nil) (fun w hw => ?_)
    have hpm : l8.Perm ((⟨key, one, two, came + 1⟩ : HI ByteArray) :: l.filter fun y => y.key ≠ key) := (hq2.trans (by rw [show (l ++ [(⟨⟨#[]⟩, 0, 0, 0⟩ : HI ByteArray)]).set l.length (⟨key, one, two, came + 1⟩ : HI ByteArray) = l ++ [(⟨key, one, two, came + 1⟩ : HI ByteArray)] from by simp])).trans (perm_add (k := key) hnk _)
    have hl1 : l.length + 1 = l8.length := by have := hq2.length_eq; simp only [List.length_set, List.length_append, List.length_singleton] at this; omega
    exact ⟨_, ⟨rfl, rfl⟩, St.hpS (b := b) (v := .slice (some ⟨b7, 0, none⟩) (l.length + 1) c6) (mb := mb) (l := l8) (mp := m9) (came := came + 1) (Δ := []) ((hw.conv 2 (R := rowR 95 4 (.slice (some ⟨b7, 0, none⟩) (l.length + 1) c6) (l.length + 1) (l8.flatMap hcS)) (R' := rowR 95 4 (.slice (some ⟨b7, 0, none⟩) (l.length + 1) c6) l8.length (l8.flatMap hcS)) (by kernel_rfl) (fun w T q => by rw [← hl1]; exact q)).pickB [0, 1, 2] (by kernel_rfl) (by kernel_rfl) (by kernel_rfl)) (hS.set hq1 hq3 hpm)⟩
  ·
    obtain ⟨jj, hj⟩ := Option.isSome_iff_exists.1 (show (lk mp key).isSome = true from by simpa using h2)
    obtain ⟨i, rfl, hi, hik, hik2⟩ := hS.at hj
    refine Cd.re 15 rfl (show Value.int .i64 ((lk mp key).getD (0 : Int)) = iV ((i : Nat) : Int) from by rw [hj]; rfl) ?_
    refine Cd.re 6 rfl (show Value.int .i64 ((lk mp key).getD (0 : Int)) = iV ((i : Nat) : Int) from by rw [hj]; rfl) ?_
    refine Cd.fact (i := 2) (R := rowR 95 4 (.slice a0 l.length cap) l.length (l.flatMap hcS)) (by kernel_rfl) (row_addr (by omega)) ?_; rintro ⟨b10, rfl⟩
    refine Cd.skip ?_
    refine Ex'.next ?_
    refine Cd.seq ?_
    refine Cd.region rfl ?_
    refine Sq.vals [0, 1, 2] (rest := [3, 4, 5, 6, 7]) [pV b 0, pV b 0, pV b 2] (fun w => by kernel_rfl) ?_
    refine Sq.same [0] (l := [blkR b [.slice (some ⟨b10, 0, none⟩) l.length cap, .map (some mb), iV came] 92]) (o_load (i := 2) (v := iV came) (by kernel_rfl) (by kernel_rfl) (by kernel_rfl)) (by kernel_rfl) rfl (by kernel_rfl) rfl ?_
    refine Sq.v (r := iV (came + 1)) (o_add (k := .i64) (a := came) (b := 1) (c := came + 1) (by kernel_rfl) (by kernel_rfl) (w64 rfl (by omega))) rfl (by kernel_rfl) ?_
    refine Sq.vals [5, 6] (rest := [7]) [pV b 0, pV b 2] (fun w => by kernel_rfl) ?_
    refine Sq.same [0] (l := [blkR b [.slice (some ⟨b10, 0, none⟩) l.length cap, .map (some mb), iV came] 92]) (o_store (i := 2) (v := iV (came + 1)) (by kernel_rfl) (by kernel_rfl) (by kernel_rfl) (by kernel_rfl) (by kernel_rfl)) (by kernel_rfl) rfl (by kernel_rfl) rfl ?_
    refine Sq.done ?_
    refine Ex'.next ?_
    refine Cd.seq ?_
    refine Cd.plan [0, 0, 0, 0, 0, 16, 48, 112, 252, 511] [(3, [(3, false, 0)]), (7, [(0, false, 0)]), (9, [(0, false, 0), (1, true, 0), (2, true, 0)])] [] [] [(1, 9, fun g => mapR Value.string (Value.int .i64) mb (put mp (⟨key, one, two, came + 1⟩ : HI ByteArray).key ((i : Nat) : Int))), (2, 9, fun g => rowR 95 4 (.slice (some ⟨b10, 0, none⟩) l.length cap) l.length ((l.set i (⟨key, one, two, came + 1⟩ : HI ByteArray)).flatMap hcS))] [fun g => pV b 0, fun g => iV ((i : Nat) : Int), fun g => sV key, fun g => .agg #[iV one, iV two], fun g => pV b 0, fun g => pV b 0, fun g => pV b 2, fun g => iV (came + 1), fun g => .agg #[sV key, iV one, iV two, iV (came + 1)], fun g => .tuple #[]] (by kernel_rfl) (by kernel_rfl) rfl (trivial) ?_ ?_
    · exact ⟨ob_val fun g w => by kernel_rfl, ob_val fun g w => by kernel_rfl, ob_val fun g w => by kernel_rfl, ob_s (l := fun g => [blkR b1 [iV one, iV two] 68]) (l' := fun g => [blkR b1 [iV one, iV two] 68]) (v := fun g => .agg #[iV one, iV two]) (fun g => o_loadN (i := 0) [iV one, iV two] (by kernel_rfl) (by kernel_rfl) (by kernel_rfl)) (fun g => by kernel_rfl), ob_val fun g w => by kernel_rfl, ob_val fun g w => by kernel_rfl, ob_val fun g w => by kernel_rfl, ob_s (l := fun g => [blkR b [.slice (some ⟨b10, 0, none⟩) l.length cap, .map (some mb), iV (came + 1)] 92]) (l' := fun g => [blkR b [.slice (some ⟨b10, 0, none⟩) l.length cap, .map (some mb), iV (came + 1)] 92]) (v := fun g => iV (came + 1)) (fun g => o_load (i := 2) (v := iV (came + 1)) (by kernel_rfl) (by kernel_rfl) (by kernel_rfl)) (fun g => by kernel_rfl), ob_val fun g w => by kernel_rfl, ob_s (l := fun g => [blkR b [.slice (some ⟨b10, 0, none⟩) l.length cap, .map (some mb), iV (came + 1)] 92, mapR Value.string (Value.int .i64) mb mp, rowR 95 4 (.slice (some ⟨b10, 0, none⟩) l.length cap) l.length (l.flatMap hcS)]) (l' := fun g => [blkR b [.slice (some ⟨b10, 0, none⟩) l.length cap, .map (some mb), iV (came + 1)] 92, mapR Value.string (Value.int .i64) mb (put mp (⟨key, one, two, came + 1⟩ : HI ByteArray).key ((i : Nat) : Int)), rowR 95 4 (.slice (some ⟨b10, 0, none⟩) l.length cap) l.length ((l.set i (⟨key, one, two, came + 1⟩ : HI ByteArray)).flatMap hcS)]) (v := fun g => .tuple #[]) (fun g => o_call (by kernel_rfl) Tryd.call43 (heap_putS (b := b) (mb := mb) (n := l.length) (l := l) (mp := mp) (came := came + 1) i (⟨key, one, two, came + 1⟩ : HI ByteArray) (by omega) (by first | omega | (simp only [List.length_set, List.length_append, List.length_take, List.length_singleton] <;> omega)) (by first | omega | (simp only [List.length_set, List.length_append, List.length_take, List.length_singleton] <;> omega)))) (fun g => by kernel_rfl), trivial⟩
    intro g
    refine Ex'.sub (subB_spec [0, 6]) ?_
    refine Ex'.as [0, 1, 2, 3] (σ' := [(0, pV b 0), (6, iV ((i : Nat) : Int))]) (Γ' := [blkR b [.slice (some ⟨b10, 0, none⟩) l.length cap, .map (some mb), iV (came + 1)] 92, mapR Value.string (Value.int .i64) mb (put mp (⟨key, one, two, came + 1⟩ : HI ByteArray).key ((i : Nat) : Int)), rowR 95 4 (.slice (some ⟨b10, 0, none⟩) l.length cap) l.length ((l.set i (⟨key, one, two, came + 1⟩ : HI ByteArray)).flatMap hcS), blkR b1 [iV one, iV two] 68]) (by kernel_rfl) rfl (by kernel_rfl) (by kernel_rfl) ?_
    refine Ex'.next ?_
    refine Cd.region rfl ?_
    refine Sq.vals [0, 1] (rest := [2]) [pV b 0, iV ((i : Nat) : Int)] (fun w => by kernel_rfl) ?_
    refine Sq.ex [0, 1, 2] (l := [blkR b [.slice (some ⟨b10, 0, none⟩) l.length cap, .map (some mb), iV (came + 1)] 92, mapR Value.string (Value.int .i64) mb (put mp (⟨key, one, two, came + 1⟩ : HI ByteArray).key ((i : Nat) : Int)), rowR 95 4 (.slice (some ⟨b10, 0, none⟩) l.length cap) l.length ((l.set i (⟨key, one, two, came + 1⟩ : HI ByteArray)).flatMap hcS)]) (o_call (by kernel_rfl) Tryd.call44 (heap_settleS (b := b) (mb := mb) (n := l.length) (l := l.set i (⟨key, one, two, came + 1⟩ : HI ByteArray)) (mp := put mp (⟨key, one, two, came + 1⟩ : HI ByteArray).key ((i : Nat) : Int)) (came := came + 1) i (by omega) (by first | omega | (simp only [List.length_set, List.length_append, List.length_take, List.length_singleton] <;> omega)) ((hS.at_set (x := (⟨key, one, two, came + 1⟩ : HI ByteArray)) hi hik.symm).1) ((hS.at_set (x := (⟨key, one, two, came + 1⟩ : HI ByteArray)) hi hik.symm).2))) (by kernel_rfl) rfl (by kernel_rfl) (fun _ => Nat.le_of_ble_eq_true (by kernel_rfl)) ?_; rintro ⟨l11, m12⟩ ⟨hq1, hq2, hq3⟩
    refine Sq.done ?_
    refine Ex'.fin Tryd.results30 (RVs.nil) (fun w hw => ?_)
    have hpm : l11.Perm ((⟨key, one, two, came + 1⟩ : HI ByteArray) :: l.filter fun y => y.key ≠ key) := hq2.trans (perm_set hi hik hS.ok.kd _)
    have hl1 : l.length = l11.length := by have := hq2.length_eq; simp only [List.length_set, List.length_append, List.length_singleton] at this; omega
    exact ⟨_, ⟨rfl, rfl⟩, St.hpS (b := b) (v := .slice (some ⟨b10, 0, none⟩) l.length cap) (mb := mb) (l := l11) (mp := m12) (came := came + 1) (Δ := []) ((hw.conv 2 (R := rowR 95 4 (.slice (some ⟨b10, 0, none⟩) l.length cap) l.length (l11.flatMap hcS)) (R' := rowR 95 4 (.slice (some ⟨b10, 0, none⟩) l.length cap) l11.length (l11.flatMap hcS)) (by kernel_rfl) (fun w T q => by rw [← hl1]; exact q)).pickB [0, 1, 2] (by kernel_rfl) (by kernel_rfl) (by kernel_rfl)) (hS.set hq1 hq3 hpm)⟩

set_option maxHeartbeats 8000000 in
set_option maxRecDepth 100000 in
theorem hp_RemoveS {b n : Nat} {S : List (KR ByteArray)} (key : ByteArray) (hn : n ≤ 1000000000) : Tri Tryd.prog 32 #[pV b 0, sV key] [hpS b S n] (Same [hpS b (hrem S key) n] (bV (lk S key).isSome)) := by
  refine Tri.enter (args := [pV b 0, sV key]) Tryd.func32 rfl rfl rfl (fun B wz => ?_)
  refine Cd.openS ?_; intro v mb l mp came hS
  refine Cd.fact (i := 2) rfl row_slice ?_; rintro ⟨a0, cap, rfl, hcap, hcap2⟩
  have hln := hS.ln; have hc0 := hS.c0; have hcn := hS.cn; have hlen := hS.len
  refine Cd.seq ?_
  refine Cd.region rfl ?_
  refine Sq.vals [0] (rest := []) [bV false] (fun w => by kernel_rfl) ?_
  refine Sq.done ?_
  refine Ex'.next ?_
  refine Cd.seq ?_
  refine Cd.region rfl ?_
  refine Sq.vals [0, 1, 2] (rest := [3, 4, 5, 6, 7, 8, 9, 10]) [pV b 0, pV b 0, pV b 1] (fun w => by kernel_rfl) ?_
  refine Sq.same [0] (l := [blkR b [.slice a0 l.length cap, .map (some mb), iV came] 92]) (o_load (i := 1) (v := .map (some mb)) (by kernel_rfl) (by kernel_rfl) (by kernel_rfl)) (by kernel_rfl) rfl (by kernel_rfl) rfl ?_
  refine Sq.vals [4] (rest := [5, 6, 7, 8, 9, 10]) [sV key] (fun w => by kernel_rfl) ?_
  refine Sq.same [1] (l := [mapR Value.string (Value.int .i64) mb mp]) (o_lookOk (fv := (Value.int .i64)) (l := mp) (0 : Int) key (by kernel_rfl) (by kernel_rfl) (strKey Tryd.underlying9) Tryd.underlying45 (fun w => by kernel_rfl)) (by kernel_rfl) rfl (by kernel_rfl) rfl ?_
  refine Sq.vals [6, 7, 8, 9, 10] (rest := []) [.tuple #[iV ((lk mp key).getD (0 : Int)), bV ((lk mp key).isSome)], iV ((lk mp key).getD (0 : Int)), bV ((lk mp key).isSome), iV ((lk mp key).getD (0 : Int)), bV ((lk mp key).isSome)] (fun w => by kernel_rfl) ?_
  refine Sq.done ?_
  refine Ex'.next ?_
  refine Cd.seq ?_
  refine Cd.seq ?_
  refine Cd.region rfl ?_
  refine Sq.vals [0, 1] (rest := []) [bV ((lk mp key).isSome), bV (!((lk mp key).isSome))] (fun w => by kernel_rfl) ?_
  refine Sq.done ?_
  refine Ex'.next ?_
  refine Cd.cond (t := (!((lk mp key).isSome))) (by kernel_rfl) (fun h1 => ?_) (fun h1 => ?_)
  ·
    have hno : lk mp key = none := by simpa using h1
    have hnoS : lk S key = none := by have := hS.has key; rw [hno] at this; simpa using this.symm
    refine Cd.seq ?_
    refine Cd.region rfl ?_
    refine Sq.vals [0] (rest := []) [bV false] (fun w => by kernel_rfl) ?_
    refine Sq.done ?_
    refine Ex'.next ?_
    refine Cd.ret ?_
    refine Ex'.thenRet ?_
    refine Ex'.ret Tryd.results32 (RVs.tmp (v := bV false) (by kernel_rfl) (RVs.nil)) (fun w hw => ?_)
    exact ⟨_, ⟨by rw [hnoS]; rfl, rfl⟩, by rw [hrem_none hnoS]; exact St.hpS (b := b) (v := .slice a0 l.length cap) (mb := mb) (l := l) (mp := mp) (came := came) (Δ := []) (hw.pickB [0, 1, 2] (by kernel_rfl) (by kernel_rfl) (by kernel_rfl)) hS⟩
  ·
    obtain ⟨jj, hj⟩ := Option.isSome_iff_exists.1 (show (lk mp key).isSome = true from by simpa using h1)
    obtain ⟨i, rfl, hi, hik, hik2⟩ := hS.at hj
    refine Cd.re 16 rfl (show Value.int .i64 ((lk mp key).getD (0 : Int)) = iV ((i : Nat) : Int) from by rw [hj]; rfl) ?_
    refine Cd.re 5 rfl (show Value.int .i64 ((lk mp key).getD (0 : Int)) = iV ((i : Nat) : Int) from by rw [hj]; rfl) ?_
    refine Cd.fact (i := 2) (R := rowR 95 4 (.slice a0 l.length cap) l.length (l.flatMap hcS)) (by kernel_rfl) (row_addr (by omega)) ?_; rintro ⟨b2, rfl⟩
    refine Cd.skip ?_
    refine Ex'.next ?_
    refine Cd.seq ?_
    refine Cd.region rfl ?_
    refine Sq.vals [0, 1, 2] (rest := [3, 4, 5, 6]) [pV b 0, pV b 0, pV b 0] (fun w => by kernel_rfl) ?_
    refine Sq.same [0] (l := [blkR b [.slice (some ⟨b2, 0, none⟩) l.length cap, .map (some mb), iV came] 92]) (o_load (i := 0) (v := .slice (some ⟨b2, 0, none⟩) l.length cap) (by kernel_rfl) (by kernel_rfl) (by kernel_rfl)) (by kernel_rfl) rfl (by kernel_rfl) rfl ?_
    refine Sq.vals [4] (rest := [5, 6]) [iV (l.length : Int)] (fun w => by kernel_rfl) ?_
    refine Sq.v (r := iV ((l.length - 1 : Nat) : Int)) (o_sub (k := .i64) (a := (l.length : Int)) (b := 1) (c := ((l.length - 1 : Nat) : Int)) (by kernel_rfl) (by kernel_rfl) (w64 (by omega) (by omega))) rfl (by kernel_rfl) ?_
    refine Sq.vals [6] (rest := []) [iV ((l.length - 1 : Nat) : Int)] (fun w => by kernel_rfl) ?_
    refine Sq.done ?_
    refine Ex'.next ?_
    refine Cd.seq ?_
    refine Cd.region rfl ?_
    refine Sq.vals [0, 1, 2] (rest := [3, 4, 5, 6, 7, 8]) [pV b 0, pV b 0, pV b 0] (fun w => by kernel_rfl) ?_
    refine Sq.same [0] (l := [blkR b [.slice (some ⟨b2, 0, none⟩) l.length cap, .map (some mb), iV came] 92]) (o_load (i := 0) (v := .slice (some ⟨b2, 0, none⟩) l.length cap) (by kernel_rfl) (by kernel_rfl) (by kernel_rfl)) (by kernel_rfl) rfl (by kernel_rfl) rfl ?_
    refine Sq.vals [4] (rest := [5, 6, 7, 8]) [iV ((l.length - 1 : Nat) : Int)] (fun w => by kernel_rfl) ?_
    refine Sq.v (r := pV b2 ((l.length - 1) * 4)) (o_idx (b := b2) (cap := cap) (e := 95) (off := 0) (n := l.length) (kd := .i64) (q := ((l.length - 1 : Nat) : Int)) (i := (l.length - 1)) (size := 4) (j := (l.length - 1) * 4) (by kernel_rfl) (by kernel_rfl) (by rfl) (by omega) Tryd.underlying90 (by kernel_rfl) (by omega)) rfl (by kernel_rfl) ?_
    refine Sq.same [2] (l := [rowR 95 4 (.slice (some ⟨b2, 0, none⟩) l.length cap) l.length (l.flatMap hcS)]) (o_loadRowN (j := (l.length - 1) * 4) [sV ((l.getD (l.length - 1) hzS).key), iV ((l.getD (l.length - 1) hzS).one), iV ((l.getD (l.length - 1) hzS).two), iV ((l.getD (l.length - 1) hzS).came)] (by kernel_rfl) (by first | omega | (simp only [List.length_set, List.length_append, List.length_take, List.length_singleton] <;> omega)) (by kernel_rfl) (rec_gets (f := hcS) (k := 4) (z := hzS) (l := l) (i := (l.length - 1)) (o := 0) (fun _ => rfl) (by first | omega | (simp only [List.length_set, List.length_append, List.length_take, List.length_singleton] <;> omega)) (Nat.le_of_ble_eq_true rfl) rfl)) (by kernel_rfl) rfl (by kernel_rfl) rfl ?_
    refine Sq.ex [] (l := []) (o_new [sV ⟨#[]⟩, iV 0, iV 0, iV 0] (fun w => by kernel_rfl)) (by kernel_rfl) rfl (by kernel_rfl) (fun _ => Nat.zero_le _) ?_; intro b3 _
    refine Sq.same [3] (l := [blkR b3 [sV ⟨#[]⟩, iV 0, iV 0, iV 0] 95]) (o_store (i := 0) (v := .agg #[sV ((l.getD (l.length - 1) hzS).key), iV ((l.getD (l.length - 1) hzS).one), iV ((l.getD (l.length - 1) hzS).two), iV ((l.getD (l.length - 1) hzS).came)]) (by kernel_rfl) (by kernel_rfl) (by kernel_rfl) (by kernel_rfl) (by kernel_rfl)) (by kernel_rfl) rfl (by kernel_rfl) rfl ?_
    refine Sq.done ?_
    refine Ex'.next ?_
    refine Cd.seq ?_
    refine Cd.region rfl ?_
    refine Sq.vals [0, 1, 2, 3] (rest := [4, 5, 6, 7, 8, 9]) [pV b 0, pV b 0, pV b 0, pV b 0] (fun w => by kernel_rfl) ?_
    refine Sq.same [0] (l := [blkR b [.slice (some ⟨b2, 0, none⟩) l.length cap, .map (some mb), iV came] 92]) (o_load (i := 0) (v := .slice (some ⟨b2, 0, none⟩) l.length cap) (by kernel_rfl) (by kernel_rfl) (by kernel_rfl)) (by kernel_rfl) rfl (by kernel_rfl) rfl ?_
    refine Sq.vals [5] (rest := [6, 7, 8, 9]) [iV ((l.length - 1 : Nat) : Int)] (fun w => by kernel_rfl) ?_
    refine Sq.v (r := .slice (some ⟨b2, 0, none⟩) (l.length - 1) cap) (o_cutTo (kd := .i64) (q := ((l.length - 1 : Nat) : Int)) (h := (l.length - 1)) (n := l.length) (size := 4) (by kernel_rfl) (by kernel_rfl) (by rfl) (by omega) Tryd.underlying90 (by kernel_rfl)) rfl (by kernel_rfl) ?_
    refine Sq.res 2 (R := rowR 95 4 (.slice (some ⟨b2, 0, none⟩) l.length cap) l.length (l.flatMap hcS)) (R' := rowR 95 4 (.slice (some ⟨b2, 0, none⟩) (l.length - 1) cap) (l.length - 1) ((l.take (l.length - 1)).flatMap hcS)) (by kernel_rfl) (rowR.cut (by first | omega | (simp only [List.length_set, List.length_append, List.length_take, List.length_singleton] <;> omega)) (take_flat (f := hcS) (k := 4) (fun _ => rfl) _ _)) ?_
    refine Sq.vals [7, 8] (rest := [9]) [pV b 0, pV b 0] (fun w => by kernel_rfl) ?_
    refine Sq.same [0] (l := [blkR b [.slice (some ⟨b2, 0, none⟩) l.length cap, .map (some mb), iV came] 92]) (o_store (i := 0) (v := .slice (some ⟨b2, 0, none⟩) (l.length - 1) cap) (by kernel_rfl) (by kernel_rfl) (by kernel_rfl) (by kernel_rfl) (by kernel_rfl)) (by kernel_rfl) rfl (by kernel_rfl) rfl ?_
    refine Sq.done ?_
    refine Ex'.next ?_
    refine Cd.seq ?_
    refine Cd.region rfl ?_
    refine Sq.vals [0, 1, 2] (rest := [3, 4, 5]) [pV b 0, pV b 0, pV b 1] (fun w => by kernel_rfl) ?_
    refine Sq.same [0] (l := [blkR b [.slice (some ⟨b2, 0, none⟩) (l.length - 1) cap, .map (some mb), iV came] 92]) (o_load (i := 1) (v := .map (some mb)) (by kernel_rfl) (by kernel_rfl) (by kernel_rfl)) (by kernel_rfl) rfl (by kernel_rfl) rfl ?_
    refine Sq.vals [4] (rest := [5]) [sV key] (fun w => by kernel_rfl) ?_
    refine Sq.same [1] (l := [mapR Value.string (Value.int .i64) mb mp]) (o_delete key (by kernel_rfl) (by kernel_rfl) (strKey Tryd.underlying9) Tryd.underlying45) (by kernel_rfl) rfl (by kernel_rfl) rfl ?_
    refine Sq.done ?_
    refine Ex'.next ?_
    refine Cd.seq ?_
    refine Cd.seq ?_
    refine Cd.region rfl ?_
    refine Sq.vals [0, 1, 2] (rest := []) [iV ((i : Nat) : Int), iV ((l.length - 1 : Nat) : Int), bV (decide (((i : Nat) : Int) < ((l.length - 1 : Nat) : Int)))] (fun w => by kernel_rfl) ?_
    refine Sq.done ?_
    refine Ex'.next ?_
    refine Cd.case (p := ((i : Nat) : Int) < ((l.length - 1 : Nat) : Int)) (by kernel_rfl) (fun h4 => ?_) (fun h4 => ?_)
    ·
      refine Cd.seq ?_
      refine Cd.region rfl ?_
      refine Sq.vals [0, 1] (rest := [2, 3]) [pV b 0, iV ((i : Nat) : Int)] (fun w => by kernel_rfl) ?_
      refine Sq.same [3] (l := [blkR b3 [sV ((l.getD (l.length - 1) hzS).key), iV ((l.getD (l.length - 1) hzS).one), iV ((l.getD (l.length - 1) hzS).two), iV ((l.getD (l.length - 1) hzS).came)] 95]) (o_loadN (i := 0) [sV ((l.getD (l.length - 1) hzS).key), iV ((l.getD (l.length - 1) hzS).one), iV ((l.getD (l.length - 1) hzS).two), iV ((l.getD (l.length - 1) hzS).came)] (by kernel_rfl) (by kernel_rfl) (by kernel_rfl)) (by kernel_rfl) rfl (by kernel_rfl) rfl ?_
      refine Sq.same [0, 1, 2] (l := [blkR b [.slice (some ⟨b2, 0, none⟩) (l.length - 1) cap, .map (some mb), iV came] 92, mapR Value.string (Value.int .i64) mb (del mp key), rowR 95 4 (.slice (some ⟨b2, 0, none⟩) (l.length - 1) cap) (l.length - 1) ((l.take (l.length - 1)).flatMap hcS)]) (o_call (by kernel_rfl) Tryd.call43 (heap_putS (b := b) (mb := mb) (n := (l.length - 1)) (l := l.take (l.length - 1)) (mp := del mp key) (came := came) i (l.getD (l.length - 1) hzS) (by omega) (by first | omega | (simp only [List.length_set, List.length_append, List.length_take, List.length_singleton] <;> omega)) (by first | omega | (simp only [List.length_set, List.length_append, List.length_take, List.length_singleton] <;> omega)))) (by kernel_rfl) rfl (by kernel_rfl) rfl ?_
      refine Sq.done ?_
      refine Ex'.next ?_
      refine Cd.region rfl ?_
      refine Sq.vals [0, 1] (rest := [2]) [pV b 0, iV ((i : Nat) : Int)] (fun w => by kernel_rfl) ?_
      refine Sq.ex [0, 1, 2] (l := [blkR b [.slice (some ⟨b2, 0, none⟩) (l.length - 1) cap, .map (some mb), iV came] 92, mapR Value.string (Value.int .i64) mb (put (del mp key) (l.getD (l.length - 1) hzS).key ((i : Nat) : Int)), rowR 95 4 (.slice (some ⟨b2, 0, none⟩) (l.length - 1) cap) (l.length - 1) (((l.take (l.length - 1)).set i (l.getD (l.length - 1) hzS)).flatMap hcS)]) (o_call (by kernel_rfl) Tryd.call44 (heap_settleS (b := b) (mb := mb) (n := (l.length - 1)) (l := (l.take (l.length - 1)).set i (l.getD (l.length - 1) hzS)) (mp := put (del mp key) (l.getD (l.length - 1) hzS).key ((i : Nat) : Int)) (came := came) i (by omega) (by first | omega | (simp only [List.length_set, List.length_append, List.length_take, List.length_singleton] <;> omega)) ((hS.at_fill (k := key) (show i < l.length - 1 by omega) hik).1) ((hS.at_fill (k := key) (show i < l.length - 1 by omega) hik).2.1))) (by kernel_rfl) rfl (by kernel_rfl) (fun _ => Nat.le_of_ble_eq_true (by kernel_rfl)) ?_; rintro ⟨l5, m6⟩ ⟨hq1, hq2, hq3⟩
      refine Sq.done ?_
      refine Ex'.next ?_
      refine Cd.seq ?_
      refine Cd.region rfl ?_
      refine Sq.vals [0] (rest := []) [bV true] (fun w => by kernel_rfl) ?_
      refine Sq.done ?_
      refine Ex'.next ?_
      refine Cd.ret ?_
      refine Ex'.ret Tryd.results32 (RVs.tmp (v := bV true) (by kernel_rfl) (RVs.nil)) (fun w hw => ?_)
      have hpm := hq2.trans (hS.at_fill (k := key) (show i < l.length - 1 by omega) hik).2.2
      have hl1 : (l.length - 1) = l5.length := by have := hq2.length_eq; simp only [List.length_set, List.length_take] at this; omega
      exact ⟨_, ⟨by rw [hik2]; rfl, rfl⟩, St.hpS (b := b) (v := .slice (some ⟨b2, 0, none⟩) (l.length - 1) cap) (mb := mb) (l := l5) (mp := m6) (came := came) (Δ := []) ((hw.conv 2 (R := rowR 95 4 (.slice (some ⟨b2, 0, none⟩) (l.length - 1) cap) (l.length - 1) (l5.flatMap hcS)) (R' := rowR 95 4 (.slice (some ⟨b2, 0, none⟩) (l.length - 1) cap) l5.length (l5.flatMap hcS)) (by kernel_rfl) (fun w T q => by rw [← hl1]; exact q)).pickB [0, 1, 2] (by kernel_rfl) (by kernel_rfl) (by kernel_rfl)) (hS.remove hq1 hq3 hpm)⟩
    ·
      refine Cd.skip ?_
      refine Ex'.next ?_
      refine Cd.seq ?_
      refine Cd.region rfl ?_
      refine Sq.vals [0] (rest := []) [bV true] (fun w => by kernel_rfl) ?_
      refine Sq.done ?_
      refine Ex'.next ?_
      refine Cd.ret ?_
      refine Ex'.ret Tryd.results32 (RVs.tmp (v := bV true) (by kernel_rfl) (RVs.nil)) (fun w hw => ?_)
      have hlast : (l.getD (l.length - 1) hzS).key = key := (show i = l.length - 1 by omega) ▸ hik
      obtain ⟨hq1, hq3, hpm⟩ := hS.at_last (k := key) (by omega) hlast
      have hl1 : (l.length - 1) = (l.take (l.length - 1)).length := by simp
      exact ⟨_, ⟨by rw [hik2]; rfl, rfl⟩, St.hpS (b := b) (v := .slice (some ⟨b2, 0, none⟩) (l.length - 1) cap) (mb := mb) (l := l.take (l.length - 1)) (mp := del mp key) (came := came) (Δ := []) ((hw.conv 2 (R := rowR 95 4 (.slice (some ⟨b2, 0, none⟩) (l.length - 1) cap) (l.length - 1) ((l.take (l.length - 1)).flatMap hcS)) (R' := rowR 95 4 (.slice (some ⟨b2, 0, none⟩) (l.length - 1) cap) ((l.take (l.length - 1)).length) ((l.take (l.length - 1)).flatMap hcS)) (by kernel_rfl) (fun w T q => by rw [← hl1]; exact q)).pickB [0, 1, 2] (by kernel_rfl) (by kernel_rfl) (by kernel_rfl)) (hS.remove hq1 hq3 hpm)⟩

end Go.Proofs.YtnijaeipkbpibaaDoor
