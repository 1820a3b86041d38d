/- HeapPlays: its walk. -/
import Derived.Test.YtnnjccfcalgokaaHpAwake
import Derived.Test.YtnnjccfcalgokaaHeapPureC
import Derived.Test.YtnnjccfcalgokaaRef04
import Derived.Test.YtnnjccfcalgokaaHpO
import Derived.Test.YtnnjccfcalgokaaActsH
set_option linter.unusedVariables false
namespace Go.Proofs.Ytnnjccfcalgokaa
open Go.RowKit Go.MapKept

theorem htop_get1 {T : List (KR ByteArray)} : (htop (⟨#[]⟩, 0, 0) T).1 = (T.getD 0 kz3).1 := by cases T <;> rfl
theorem htop_get2 {T : List (KR ByteArray)} : (htop (⟨#[]⟩, 0, 0) T).2.1 = (T.getD 0 kz3).2.1 := by cases T <;> rfl
theorem htop_get3 {T : List (KR ByteArray)} : (htop (⟨#[]⟩, 0, 0) T).2.2 = (T.getD 0 kz3).2.2 := by cases T <;> rfl
theorem htop_nil {T : List (KR ByteArray)} (h : ¬ 0 < T.length) : (htop (⟨#[]⟩, 0, 0) T).1 = ⟨#[]⟩ := by cases T with | nil => rfl | cons _ _ => simp at h
theorem tail_nil0 {T : List (KR ByteArray)} (h : ¬ 0 < T.length) : T.tail = T := by cases T with | nil => rfl | cons _ _ => simp at h
theorem map_get1 {T : List (KR ByteArray)} {j : Nat} (h : j < T.length) : (T.map (·.1)).getD j ⟨#[]⟩ = (T.getD j kz3).1 := by
  rw [getD_in (by simpa using h), getD_in h, List.getElem_map]
theorem o_eqRank4 {σ : List (Nat × Value)} {dst : Option Tmp} {ty yt : TypeId} {pos : String} {after : Array Edge} {g : Option (Nat × Bool)} {x y : Operand} (a0 b0 : Int) (a1 b1 : Int) (hx : ev σ x = some (.agg #[iV a0, iV a1])) (hy : ev σ y = some (.agg #[iV b0, iV b1])) :
    OprV Try.prog σ ⟨dst, .binOp .eql 31 x y yt, ty, pos, after, g⟩ (.bool (decide (a0 = b0 ∧ a1 = b1))) := oprV_of fun ρ hρ w => by
  have u3 := Try.underlying3
  have a3_ := Try.isAgg3
  have z3_ := Try.sizeOf3
  have hS : Try.prog.underlying 31 = some (.struct (Try.prog.fieldsOf 31)) := by kernel_rfl
  have hp : Try.prog.stoodInHeld 31 = false := by kernel_rfl
  simp only [execOp, hρ x _ hx, hρ y _ hy, Sem.run_bind, run_eqGuard_agg (P := Try.prog) w .eql 31 _ _ _ _ (by kernel_rfl), Result.andThen_ok]
  rw [run_eql_struct, show (10000 : Nat) = 9999 + 1 from rfl, run_equalIn_agg w 9999 31 _ _ hS hp]
  simp only [Program.fieldsOf, Try.underlying31]
  go_simp
  by_cases h0 : a0 = b0 <;> by_cases h1 : a1 = b1 <;> simp [h0, h1]
theorem o_eqRank4_ne {σ : List (Nat × Value)} {dst : Option Tmp} {ty yt : TypeId} {pos : String} {after : Array Edge} {g : Option (Nat × Bool)} {x y : Operand} (a0 b0 : Int) (a1 b1 : Int) (hx : ev σ x = some (.agg #[iV a0, iV a1])) (hy : ev σ y = some (.agg #[iV b0, iV b1])) :
    OprV Try.prog σ ⟨dst, .binOp .neq 31 x y yt, ty, pos, after, g⟩ (.bool (decide (¬ (a0 = b0 ∧ a1 = b1)))) := oprV_of fun ρ hρ w => by
  have u3 := Try.underlying3
  have a3_ := Try.isAgg3
  have z3_ := Try.sizeOf3
  have hS : Try.prog.underlying 31 = some (.struct (Try.prog.fieldsOf 31)) := by kernel_rfl
  have hp : Try.prog.stoodInHeld 31 = false := by kernel_rfl
  simp only [execOp, hρ x _ hx, hρ y _ hy, Sem.run_bind, run_eqGuard_agg (P := Try.prog) w .neq 31 _ _ _ _ (by kernel_rfl), Result.andThen_ok]
  rw [run_neq_struct, show (10000 : Nat) = 9999 + 1 from rfl, run_equalIn_agg w 9999 31 _ _ hS hp]
  simp only [Program.fieldsOf, Try.underlying31]
  go_simp
  by_cases h0 : a0 = b0 <;> by_cases h1 : a1 = b1 <;> simp [h0, h1]
set_option maxHeartbeats 8000000 in
set_option maxRecDepth 100000 in
theorem heapPlays_tri {w0 : World} {a : Option Addr} {cap : Nat} {xs : List Act4} (hl : xs.length ≤ cap ∧ cap ≤ 9223372036854775807) (hs : HScr w0 (.slice a xs.length cap) xs) : Tri Try.prog 3 #[.slice a xs.length cap] [oldR w0] (LawP w0) := by
  refine Tri.enter (args := [.slice a xs.length cap]) Try.func3 rfl rfl rfl (fun B wz => ?_)
  refine Cd.seq ?_
  refine Cd.region rfl ?_
  refine Sq.vals [0] (rest := []) [bV false] (fun w => by kernel_rfl) ?_
  refine Sq.done ?_
  refine Ex'.next ?_
  refine Cd.seq ?_
  refine Cd.seq ?_
  refine Cd.region rfl ?_
  refine Sq.same [] (l := []) (o_call (by kernel_rfl) Try.call13 (heap_awake)) (by kernel_rfl) rfl (by kernel_rfl) rfl ?_
  refine Sq.vals [1] (rest := []) [bV false] (fun w => by kernel_rfl) ?_
  refine Sq.done ?_
  refine Ex'.next ?_
  refine Cd.condF (by kernel_rfl) ?_
  refine Cd.skip ?_
  refine Ex'.next ?_
  refine Cd.seq ?_
  refine Cd.seq ?_
  refine Cd.region rfl ?_
  refine Sq.vals [0, 1, 2] (rest := []) [.slice a xs.length cap, iV (xs.length : Int), bV (decide ((xs.length : Int) > 200))] (fun w => by kernel_rfl) ?_
  refine Sq.done ?_
  refine Ex'.next ?_
  refine Cd.case (p := (xs.length : Int) > 200) (by kernel_rfl) (fun h1 => ?_) (fun h1 => ?_)
  ·
    refine Cd.seq ?_
    refine Cd.region rfl ?_
    refine Sq.vals [0] (rest := []) [bV true] (fun w => by kernel_rfl) ?_
    refine Sq.done ?_
    refine Ex'.next ?_
    refine Cd.ret ?_
    refine Ex'.thenRet ?_
    refine Ex'.ret Try.results3 (RVs.tmp (v := bV true) (by kernel_rfl) (RVs.nil)) (fun w hw => ?_)
    exact ⟨_, ⟨rfl, by kernel_rfl⟩, hw⟩
  ·
    refine Cd.skip ?_
    refine Ex'.next ?_
    refine Cd.seq ?_
    refine Cd.region rfl ?_
    refine Sq.ex [] (l := []) (o_call (by kernel_rfl) Try.call14 (hp_NewS)) (by kernel_rfl) rfl (by kernel_rfl) (fun _ => Nat.le_of_ble_eq_true (by kernel_rfl)) ?_; rintro b2 _
    refine Sq.vals [1] (rest := []) [pV b2 0] (fun w => by kernel_rfl) ?_
    refine Sq.done ?_
    refine Ex'.next ?_
    refine Cd.seq ?_
    refine Cd.seq ?_
    refine Cd.region rfl ?_
    refine Sq.vals [0, 1] (rest := []) [pV b2 0, bV false] (fun w => by kernel_rfl) ?_
    refine Sq.done ?_
    refine Ex'.next ?_
    refine Cd.condF (by kernel_rfl) ?_
    refine Cd.skip ?_
    refine Ex'.next ?_
    refine Cd.seq ?_
    refine Cd.region rfl ?_
    refine Sq.vals [0] (rest := []) [.slice none 0 0] (fun w => by kernel_rfl) ?_
    refine Sq.done ?_
    refine Ex'.next ?_
    refine Cd.seq ?_
    refine Cd.seq ?_
    refine Cd.region rfl ?_
    refine Sq.vals [0] (rest := []) [iV 0] (fun w => by kernel_rfl) ?_
    refine Sq.done ?_
    refine Ex'.next ?_
    refine Cd.block ?_
    refine Cd.nilRow 41 3 ?_
    refine Cd.loop (ι := Nat × (List (KR ByteArray)) × Nat × Value) (fun ⟨k, T0, n0, mv⟩ => k ≤ xs.length ∧ n0 ≤ k) (fun ⟨k, T0, n0, mv⟩ => xs.length - k) (fun ⟨k, T0, n0, mv⟩ => [(0, .slice a xs.length cap), (3, pV b2 0), (5, iV (k : Int)), (4, mv)]) (fun ⟨k, T0, n0, mv⟩ => [oldR w0, hpS b2 T0 n0, vewR 3 mv T0.length (T0.flatMap kr3)]) (0, ([] : List (KR ByteArray)), 0, .slice none 0 0) (⟨Nat.zero_le _, Nat.le_refl _⟩) (subB_eq (l := [0, 3, 5, 4]) (by kernel_rfl)) (fun w hw => ((hw.conv 1 (R := hpS b2 [] 0) (R' := hpS b2 ([] : List (KR ByteArray)) 0) (by kernel_rfl) (hpS.up (by omega))).conv 2 (R := rowR 41 3 (.slice none 0 0) (([] : List (KR ByteArray)).length) (([] : List (KR ByteArray)).flatMap kr3)) (R' := vewR 3 (.slice none 0 0) ([] : List (KR ByteArray)).length (([] : List (KR ByteArray)).flatMap kr3)) (by kernel_rfl) (vew_of_row)).pickB [0, 1, 2] (by kernel_rfl) (by kernel_rfl) (by kernel_rfl)) ?_
    rintro ⟨k, T0, n0, mv⟩ hL3
    try dsimp only at hL3 ⊢
    obtain ⟨hk, hn⟩ := hL3
    refine Cd.fact (i := 1) rfl hpS.srt ?_; rintro ⟨hnd, hle, hsd⟩
    refine Cd.fact (i := 2) (R := vewR 3 mv T0.length (T0.flatMap kr3)) (by kernel_rfl) vew_slice ?_; rintro ⟨a4, c5, rfl, hc5, hc5'⟩
    have hc5'' : c5 ≤ 9223372036854775807 := hc5'
    refine Cd.seq ?_
    refine Cd.seq ?_
    refine Cd.region rfl ?_
    refine Sq.vals [0, 1, 2, 3] (rest := []) [iV (k : Int), .slice a xs.length cap, iV (xs.length : Int), bV (decide ((k : Int) < (xs.length : Int)))] (fun w => by kernel_rfl) ?_
    refine Sq.done ?_
    refine Ex'.next ?_
    refine Cd.case (p := (k : Int) < (xs.length : Int)) (by kernel_rfl) (fun h6 => ?_) (fun h6 => ?_)
    ·
      obtain ⟨g7, off8, rfl⟩ := hs.addr (by omega)
      obtain ⟨kdk, kyk, rok, rtk, hgk, hwk, hrk⟩ := hs.at (k := k) (by omega)
      refine Cd.skip ?_
      refine Ex'.next ?_
      refine Cd.seq ?_
      refine Cd.block ?_
      refine Cd.seq ?_
      refine Cd.region rfl ?_
      refine Sq.vals [0, 1] (rest := [2, 3, 4, 5]) [.slice (some ⟨g7, off8, none⟩) xs.length cap, iV (k : Int)] (fun w => by kernel_rfl) ?_
      refine Sq.v (r := pV g7 (off8 + k * 4)) (o_idx (b := g7) (cap := cap) (e := 30) (off := off8) (n := xs.length) (kd := .i64) (q := (k : Int)) (i := k) (size := 4) (j := off8 + k * 4) (by kernel_rfl) (by kernel_rfl) (by rfl) (by omega) Try.underlying22 (by kernel_rfl) (by omega)) rfl (by kernel_rfl) ?_
      refine Sq.same [0] (l := [oldR w0]) (o_loadOldN (b := g7) (j := off8 + k * 4) [iV kdk, sV kyk, iV rok, iV rtk] (by kernel_rfl) (by kernel_rfl) hrk) (by kernel_rfl) rfl (by kernel_rfl) rfl ?_
      refine Sq.ex [] (l := []) (o_new [iV 0, sV ⟨#[]⟩, iV 0, iV 0] (fun w => by kernel_rfl)) (by kernel_rfl) rfl (by kernel_rfl) (fun _ => Nat.zero_le _) ?_; intro b9 _
      refine Sq.same [3] (l := [blkR b9 [iV 0, sV ⟨#[]⟩, iV 0, iV 0] 30]) (o_store (i := 0) (v := .agg #[iV kdk, sV kyk, iV rok, iV rtk]) (by kernel_rfl) (by kernel_rfl) (by kernel_rfl) (by kernel_rfl) (by kernel_rfl)) (by kernel_rfl) rfl (by kernel_rfl) rfl ?_
      refine Sq.done ?_
      refine Ex'.next ?_
      refine Cd.seq ?_
      refine Cd.seq ?_
      refine Cd.region rfl ?_
      refine Sq.vals [0] (rest := [1, 2, 3]) [pV b9 1] (fun w => by kernel_rfl) ?_
      refine Sq.same [3] (l := [blkR b9 [iV kdk, sV kyk, iV rok, iV rtk] 30]) (o_load (i := 1) (v := sV kyk) (by kernel_rfl) (by kernel_rfl) (by kernel_rfl)) (by kernel_rfl) rfl (by kernel_rfl) rfl ?_
      refine Sq.vals [2, 3] (rest := []) [iV (kyk.size : Int), bV (decide ((kyk.size : Int) > 1000))] (fun w => by kernel_rfl) ?_
      refine Sq.done ?_
      refine Ex'.next ?_
      refine Cd.case (p := (kyk.size : Int) > 1000) (by kernel_rfl) (fun h10 => ?_) (fun h10 => ?_)
      ·
        refine Cd.seq ?_
        refine Cd.region rfl ?_
        refine Sq.vals [0] (rest := []) [bV true] (fun w => by kernel_rfl) ?_
        refine Sq.done ?_
        refine Ex'.next ?_
        refine Cd.ret ?_
        refine Ex'.thenRet ?_
        refine Ex'.blockRet ?_
        refine Ex'.thenRet ?_
        refine Ex'.thenRet ?_
        refine Ex'.blockRet ?_
        refine Ex'.thenRet ?_
        refine Ex'.ret Try.results3 (RVs.tmp (v := bV true) (by kernel_rfl) (RVs.nil)) (fun w hw => ?_)
        exact ⟨_, ⟨rfl, by kernel_rfl⟩, hw⟩
      ·
        refine Cd.skip ?_
        refine Ex'.next ?_
        refine Cd.seq ?_
        refine Cd.region rfl ?_
        refine Sq.vals [0, 1] (rest := [2, 3, 4, 5, 6, 7, 8, 9]) [.slice a4 T0.length c5, pV b9 1] (fun w => by kernel_rfl) ?_
        refine Sq.same [3] (l := [blkR b9 [iV kdk, sV kyk, iV rok, iV rtk] 30]) (o_load (i := 1) (v := sV kyk) (by kernel_rfl) (by kernel_rfl) (by kernel_rfl)) (by kernel_rfl) rfl (by kernel_rfl) rfl ?_
        refine Sq.same [2] (l := [vewR 3 (.slice a4 T0.length c5) T0.length (T0.flatMap kr3)]) (o_call (by kernel_rfl) Try.call15 (t_find04 (a0 := a4) (cap := c5) (l := T0) (key := kyk) (by omega))) (by kernel_rfl) rfl (by kernel_rfl) rfl ?_
        refine Sq.vals [4, 5, 6] (rest := [7, 8, 9]) [.tuple #[.agg #[iV (((lk T0 kyk).getD (0, 0)).1), iV (((lk T0 kyk).getD (0, 0)).2)], bV ((lk T0 kyk).isSome)], .agg #[iV (((lk T0 kyk).getD (0, 0)).1), iV (((lk T0 kyk).getD (0, 0)).2)], bV ((lk T0 kyk).isSome)] (fun w => by kernel_rfl) ?_
        refine Sq.ex [] (l := []) (o_new [iV 0, iV 0] (fun w => by kernel_rfl)) (by kernel_rfl) rfl (by kernel_rfl) (fun _ => Nat.zero_le _) ?_; intro b11 _
        refine Sq.same [4] (l := [blkR b11 [iV 0, iV 0] 31]) (o_store (i := 0) (v := .agg #[iV (((lk T0 kyk).getD (0, 0)).1), iV (((lk T0 kyk).getD (0, 0)).2)]) (by kernel_rfl) (by kernel_rfl) (by kernel_rfl) (by kernel_rfl) (by kernel_rfl)) (by kernel_rfl) rfl (by kernel_rfl) rfl ?_
        refine Sq.vals [9] (rest := []) [bV ((lk T0 kyk).isSome)] (fun w => by kernel_rfl) ?_
        refine Sq.done ?_
        refine Ex'.next ?_
        refine Cd.join (ι := (List (KR ByteArray)) × Nat × Value) (fun ⟨T1, n1, mv1⟩ => n1 ≤ k + 1) (fun ⟨T1, n1, mv1⟩ => [(0, .slice (some ⟨g7, off8, none⟩) xs.length cap), (3, pV b2 0), (5, iV (k : Int)), (6, pV b9 0), (4, mv1)]) (fun ⟨T1, n1, mv1⟩ => [oldR w0, hpS b2 T1 n1, blkR b9 [iV kdk, sV kyk, iV rok, iV rtk] 30, vewR 3 mv1 T1.length (T1.flatMap kr3)]) ?_ ?_
        ·
          refine Cd.seq ?_
          refine Cd.region rfl ?_
          refine Sq.vals [0] (rest := [1]) [pV b9 0] (fun w => by kernel_rfl) ?_
          refine Sq.same [3] (l := [blkR b9 [iV kdk, sV kyk, iV rok, iV rtk] 30]) (o_load (i := 0) (v := iV kdk) (by kernel_rfl) (by kernel_rfl) (by kernel_rfl)) (by kernel_rfl) rfl (by kernel_rfl) rfl ?_
          refine Sq.done ?_
          refine Ex'.next ?_
          refine Cd.block ?_
          refine Cd.seq ?_
          refine Cd.region rfl ?_
          refine Sq.v (r := bV (decide (kdk = 0))) (o_eqI (k := .i64) (a := kdk) (b := 0) (by kernel_rfl) (by kernel_rfl)) rfl (by kernel_rfl) ?_
          refine Sq.vals [1] (rest := []) [bV (decide (kdk = 0))] (fun w => by kernel_rfl) ?_
          refine Sq.done ?_
          refine Ex'.next ?_
          refine Cd.case (p := kdk = 0) (by kernel_rfl) (fun h12 => ?_) (fun h12 => ?_)
          ·
            refine Cd.seq ?_
            refine Cd.region rfl ?_
            refine Sq.vals [0, 1] (rest := [2, 3, 4, 5]) [pV b2 0, pV b9 1] (fun w => by kernel_rfl) ?_
            refine Sq.same [3] (l := [blkR b9 [iV kdk, sV kyk, iV rok, iV rtk] 30]) (o_load (i := 1) (v := sV kyk) (by kernel_rfl) (by kernel_rfl) (by kernel_rfl)) (by kernel_rfl) rfl (by kernel_rfl) rfl ?_
            refine Sq.vals [3] (rest := [4, 5]) [pV b9 2] (fun w => by kernel_rfl) ?_
            refine Sq.same [3] (l := [blkR b9 [iV kdk, sV kyk, iV rok, iV rtk] 30]) (o_loadN (i := 2) [iV rok, iV rtk] (by kernel_rfl) (by kernel_rfl) (by kernel_rfl)) (by kernel_rfl) rfl (by kernel_rfl) rfl ?_
            refine Sq.same [1] (l := [hpS b2 T0 n0]) (o_call (by kernel_rfl) Try.call16 (hp_SetS (S := T0) (n := n0) kyk rok rtk (by omega))) (by kernel_rfl) rfl (by kernel_rfl) rfl ?_
            refine Sq.done ?_
            refine Ex'.next ?_
            refine Cd.region rfl ?_
            refine Sq.vals [0, 1] (rest := [2, 3, 4, 5, 6]) [.slice a4 T0.length c5, pV b9 1] (fun w => by kernel_rfl) ?_
            refine Sq.same [3] (l := [blkR b9 [iV kdk, sV kyk, iV rok, iV rtk] 30]) (o_load (i := 1) (v := sV kyk) (by kernel_rfl) (by kernel_rfl) (by kernel_rfl)) (by kernel_rfl) rfl (by kernel_rfl) rfl ?_
            refine Sq.vals [3] (rest := [4, 5, 6]) [pV b9 2] (fun w => by kernel_rfl) ?_
            refine Sq.same [3] (l := [blkR b9 [iV kdk, sV kyk, iV rok, iV rtk] 30]) (o_loadN (i := 2) [iV rok, iV rtk] (by kernel_rfl) (by kernel_rfl) (by kernel_rfl)) (by kernel_rfl) rfl (by kernel_rfl) rfl ?_
            refine Sq.ex [2] (l := [vewR 3 (.slice a4 T0.length c5) T0.length (T0.flatMap kr3)]) (o_call (by kernel_rfl) Try.call17 (t_set04 (a0 := a4) (cap := c5) (l := T0) (key := kyk) (one := rok) (two := rtk) (by omega) (by omega) hsd)) (by kernel_rfl) rfl (by kernel_rfl) (fun _ => Nat.le_of_ble_eq_true (by kernel_rfl)) ?_; rintro v13 _
            refine Sq.fact (i := 5) (R := rowR 41 3 v13 ((hset T0 ((kyk, rok, rtk) : KR ByteArray)).length) ((hset T0 ((kyk, rok, rtk) : KR ByteArray)).flatMap kr3)) (by kernel_rfl) row_slice ?_; rintro ⟨a14, c15, rfl, hc15, hc15'⟩
            have hc15'' : c15 ≤ 9223372036854775807 := hc15'
            refine Sq.vals [6] (rest := []) [.slice a14 ((hset T0 ((kyk, rok, rtk) : KR ByteArray)).length) c15] (fun w => by kernel_rfl) ?_
            refine Sq.done ?_
            refine Ex'.blockNormal ?_
            refine Ex'.meet (hset T0 (kyk, rok, rtk), n0 + 1, .slice a14 ((hset T0 ((kyk, rok, rtk) : KR ByteArray)).length) c15) ?_ (subB_eq (l := [0, 3, 5, 6, 4]) (by kernel_rfl)) (fun w hw => (hw.conv 5 (R := rowR 41 3 (.slice a14 ((hset T0 ((kyk, rok, rtk) : KR ByteArray)).length) c15) ((hset T0 ((kyk, rok, rtk) : KR ByteArray)).length) ((hset T0 ((kyk, rok, rtk) : KR ByteArray)).flatMap kr3)) (R' := vewR 3 (.slice a14 ((hset T0 ((kyk, rok, rtk) : KR ByteArray)).length) c15) (hset T0 (kyk, rok, rtk)).length ((hset T0 (kyk, rok, rtk)).flatMap kr3)) (by kernel_rfl) (vew_of_row)).pickB [0, 1, 3, 5] (by kernel_rfl) (by kernel_rfl) (by kernel_rfl))
            · (try dsimp only); omega
          ·
            refine Cd.seq ?_
            refine Cd.region rfl ?_
            refine Sq.v (r := bV (decide (kdk = 1))) (o_eqI (k := .i64) (a := kdk) (b := 1) (by kernel_rfl) (by kernel_rfl)) rfl (by kernel_rfl) ?_
            refine Sq.vals [1] (rest := []) [bV (decide (kdk = 1))] (fun w => by kernel_rfl) ?_
            refine Sq.done ?_
            refine Ex'.next ?_
            refine Cd.case (p := kdk = 1) (by kernel_rfl) (fun h16 => ?_) (fun h16 => ?_)
            ·
              refine Cd.seq ?_
              refine Cd.seq ?_
              refine Cd.region rfl ?_
              refine Sq.vals [0, 1] (rest := [2, 3, 4, 5]) [pV b2 0, pV b9 1] (fun w => by kernel_rfl) ?_
              refine Sq.same [3] (l := [blkR b9 [iV kdk, sV kyk, iV rok, iV rtk] 30]) (o_load (i := 1) (v := sV kyk) (by kernel_rfl) (by kernel_rfl) (by kernel_rfl)) (by kernel_rfl) rfl (by kernel_rfl) rfl ?_
              refine Sq.same [1] (l := [hpS b2 T0 n0]) (o_call (by kernel_rfl) Try.call18 (hp_RemoveS (S := T0) (n := n0) kyk (by omega))) (by kernel_rfl) rfl (by kernel_rfl) rfl ?_
              refine Sq.vals [4] (rest := [5]) [bV ((lk T0 kyk).isSome)] (fun w => by kernel_rfl) ?_
              refine Sq.v (r := bV (!(((lk T0 kyk).isSome) == ((lk T0 kyk).isSome)))) (pureV (by kernel_rfl) rfl fun w => by kernel_rfl) rfl (by kernel_rfl) ?_
              refine Sq.re 72 rfl (show Value.bool (!(((lk T0 kyk).isSome) == ((lk T0 kyk).isSome))) = .bool false from by simp) ?_
              refine Sq.done ?_
              refine Ex'.next ?_
              refine Cd.condF (by kernel_rfl) ?_
              refine Cd.skip ?_
              refine Ex'.next ?_
              refine Cd.region rfl ?_
              refine Sq.vals [0, 1] (rest := [2, 3, 4]) [.slice a4 T0.length c5, pV b9 1] (fun w => by kernel_rfl) ?_
              refine Sq.same [3] (l := [blkR b9 [iV kdk, sV kyk, iV rok, iV rtk] 30]) (o_load (i := 1) (v := sV kyk) (by kernel_rfl) (by kernel_rfl) (by kernel_rfl)) (by kernel_rfl) rfl (by kernel_rfl) rfl ?_
              refine Sq.ex [2] (l := [vewR 3 (.slice a4 T0.length c5) T0.length (T0.flatMap kr3)]) (o_call (by kernel_rfl) Try.call19 (t_remove04 (a0 := a4) (cap := c5) (l := T0) (key := kyk) (by omega) (by omega))) (by kernel_rfl) rfl (by kernel_rfl) (fun _ => Nat.le_of_ble_eq_true (by kernel_rfl)) ?_; rintro v17 _
              refine Sq.fact (i := 5) (R := rowR 41 3 v17 ((hrem T0 kyk).length) ((hrem T0 kyk).flatMap kr3)) (by kernel_rfl) row_slice ?_; rintro ⟨a18, c19, rfl, hc19, hc19'⟩
              have hc19'' : c19 ≤ 9223372036854775807 := hc19'
              refine Sq.vals [4] (rest := []) [.slice a18 ((hrem T0 kyk).length) c19] (fun w => by kernel_rfl) ?_
              refine Sq.done ?_
              refine Ex'.blockNormal ?_
              refine Ex'.meet (hrem T0 kyk, n0, .slice a18 ((hrem T0 kyk).length) c19) ?_ (subB_eq (l := [0, 3, 5, 6, 4]) (by kernel_rfl)) (fun w hw => (hw.conv 5 (R := rowR 41 3 (.slice a18 ((hrem T0 kyk).length) c19) ((hrem T0 kyk).length) ((hrem T0 kyk).flatMap kr3)) (R' := vewR 3 (.slice a18 ((hrem T0 kyk).length) c19) (hrem T0 kyk).length ((hrem T0 kyk).flatMap kr3)) (by kernel_rfl) (vew_of_row)).pickB [0, 1, 3, 5] (by kernel_rfl) (by kernel_rfl) (by kernel_rfl))
              · (try dsimp only); omega
            ·
              refine Cd.seq ?_
              refine Cd.region rfl ?_
              refine Sq.v (r := bV (decide (kdk = 2))) (o_eqI (k := .i64) (a := kdk) (b := 2) (by kernel_rfl) (by kernel_rfl)) rfl (by kernel_rfl) ?_
              refine Sq.vals [1] (rest := []) [bV (decide (kdk = 2))] (fun w => by kernel_rfl) ?_
              refine Sq.done ?_
              refine Ex'.next ?_
              refine Cd.case (p := kdk = 2) (by kernel_rfl) (fun h20 => ?_) (fun h20 => ?_)
              ·
                refine Cd.seq ?_
                refine Cd.region rfl ?_
                refine Sq.vals [0] (rest := [1, 2, 3, 4, 5, 6]) [pV b2 0] (fun w => by kernel_rfl) ?_
                refine Sq.same [1] (l := [hpS b2 T0 n0]) (o_call (by kernel_rfl) Try.call20 (hp_PopS (S := T0) (n := n0) (by omega))) (by kernel_rfl) rfl (by kernel_rfl) rfl ?_
                refine Sq.vals [2, 3, 4, 5, 6] (rest := []) [.tuple #[sV ((htop (⟨#[]⟩, 0, 0) T0).1), bV (decide (0 < T0.length))], sV ((htop (⟨#[]⟩, 0, 0) T0).1), bV (decide (0 < T0.length)), sV ((htop (⟨#[]⟩, 0, 0) T0).1), bV (decide (0 < T0.length))] (fun w => by kernel_rfl) ?_
                refine Sq.done ?_
                refine Ex'.next ?_
                refine Cd.seq ?_
                refine Cd.seq ?_
                refine Cd.region rfl ?_
                refine Sq.vals [0, 1, 2, 3, 4, 5] (rest := [6, 7, 8, 9, 10, 11, 12, 13, 14, 15, 16, 17, 18, 19, 20, 21, 22, 23]) [bV (decide (0 < T0.length)), .slice a4 T0.length c5, iV (T0.length : Int), bV (decide ((T0.length : Int) > 0)), bV (!((decide (0 < T0.length)) == (decide ((T0.length : Int) > 0)))), bV (!((decide (0 < T0.length)) == (decide ((T0.length : Int) > 0))))] (fun w => by kernel_rfl) ?_
                refine Sq.re 89 rfl (congrArg Value.bool (show (!((decide (0 < T0.length)) == (decide ((T0.length : Int) > 0)))) = false from (by simp))) ?_
                refine Sq.vals [6, 7] (rest := [8, 9, 10, 11, 12, 13, 14, 15, 16, 17, 18, 19, 20, 21, 22, 23]) [bV (decide (0 < T0.length)), bV (decide (0 < T0.length))] (fun w => by kernel_rfl) ?_
                refine Sq.case 91 (p := 0 < T0.length) rfl (fun h22 => ?_) (fun h22 => ?_)
                ·
                  refine Sq.fact (i := 2) (R := vewR 3 (.slice a4 T0.length c5) T0.length (T0.flatMap kr3)) (by kernel_rfl) (vew_addr (by omega)) ?_; rintro ⟨b23, off24, rfl⟩
                  refine Sq.vals [8, 9] (rest := [10, 11, 12, 13, 14, 15, 16, 17, 18, 19, 20, 21, 22, 23]) [sV ((htop (⟨#[]⟩, 0, 0) T0).1), .slice (some ⟨b23, off24, none⟩) T0.length c5] (fun w => by kernel_rfl) ?_
                  refine Sq.v (r := pV b23 (off24 + 0)) (o_idx (b := b23) (cap := c5) (e := 41) (off := off24) (n := T0.length) (kd := .i64) (q := 0) (i := 0) (size := 3) (j := off24 + 0) (by kernel_rfl) (by kernel_rfl) (by rfl) (by omega) Try.underlying26 (by kernel_rfl) (by omega)) rfl (by kernel_rfl) ?_
                  refine Sq.vals [11] (rest := [12, 13, 14, 15, 16, 17, 18, 19, 20, 21, 22, 23]) [pV b23 (off24 + 0)] (fun w => by kernel_rfl) ?_
                  refine Sq.same [2] (l := [vewR 3 (.slice (some ⟨b23, off24, none⟩) T0.length c5) T0.length (T0.flatMap kr3)]) (o_loadView (off := off24) (j := 0 * 3) (u := sV ((T0.getD 0 kz3).1)) (by kernel_rfl) (by first | omega | (simp only [List.length_set, List.length_append, List.length_take, List.length_singleton] <;> omega)) (by kernel_rfl) ((rec_get (f := kr3) (k := 3) (z := kz3) (l := T0) (i := 0) (j := 0) (fun _ => rfl) (by first | omega | (simp only [List.length_set, List.length_append, List.length_take, List.length_singleton] <;> omega)) (by decide)).trans rfl)) (by kernel_rfl) rfl (by kernel_rfl) rfl ?_
                  refine Sq.v (r := bV (decide ((htop (⟨#[]⟩, 0, 0) T0).1 ≠ (T0.getD 0 kz3).1))) (o_neS (a := (htop (⟨#[]⟩, 0, 0) T0).1) (b := (T0.getD 0 kz3).1) (by kernel_rfl) (by kernel_rfl)) rfl (by kernel_rfl) ?_
                  refine Sq.re 97 rfl (vF (fun z => z htop_get1)) ?_
                  refine Sq.vals [14, 15, 16, 17] (rest := [18, 19, 20, 21, 22, 23]) [bV false, bV false, bV false, bV (decide (0 < T0.length))] (fun w => by kernel_rfl) ?_
                  refine Sq.v (r := bV (decide (¬ (0 < T0.length)))) (o_not (by kernel_rfl)) rfl (by kernel_rfl) ?_
                  refine Sq.vals [19] (rest := [20, 21, 22, 23]) [bV (decide (¬ (0 < T0.length)))] (fun w => by kernel_rfl) ?_
                  refine Sq.case 103 (p := ¬ (0 < T0.length)) rfl (fun h25 => ?_) (fun h25 => ?_)
                  ·
                    have ht0 : T0.tail = T0 := tail_nil0 h25
                    refine Sq.vals [20] (rest := [21, 22, 23]) [sV ((htop (⟨#[]⟩, 0, 0) T0).1)] (fun w => by kernel_rfl) ?_
                    refine Sq.v (r := bV (decide ((htop (⟨#[]⟩, 0, 0) T0).1 ≠ ⟨#[]⟩))) (o_neS (a := (htop (⟨#[]⟩, 0, 0) T0).1) (b := ⟨#[]⟩) (by kernel_rfl) (by kernel_rfl)) rfl (by kernel_rfl) ?_
                    refine Sq.re 105 rfl (vF (fun z => z (htop_nil (by omega)))) ?_
                    refine Sq.vals [22, 23] (rest := []) [bV false, bV false] (fun w => by kernel_rfl) ?_
                    refine Sq.done ?_
                    refine Ex'.next ?_
                    refine Cd.condF (by kernel_rfl) ?_
                    refine Cd.skip ?_
                    refine Ex'.next ?_
                    refine Cd.seq ?_
                    refine Cd.region rfl ?_
                    refine Sq.vals [0] (rest := []) [bV (decide (0 < T0.length))] (fun w => by kernel_rfl) ?_
                    refine Sq.done ?_
                    refine Ex'.next ?_
                    refine Cd.condF (by rw [show ev _ _ = some (.bool (decide (0 < T0.length))) from by kernel_rfl, decide_eq_false h25]) ?_
                    refine Cd.skip ?_
                    refine Ex'.blockNormal ?_
                    refine Ex'.meet (T0.tail, n0, .slice (some ⟨b23, off24, none⟩) T0.length c5) ?_ (subB_eq (l := [0, 3, 5, 6, 4]) (by kernel_rfl)) (fun w hw => (hw.conv 2 (R := vewR 3 (.slice (some ⟨b23, off24, none⟩) T0.length c5) T0.length (T0.flatMap kr3)) (R' := vewR 3 (.slice (some ⟨b23, off24, none⟩) T0.length c5) T0.tail.length (T0.tail.flatMap kr3)) (by kernel_rfl) (fun w S h => by first | (simpa using h; done) | (rw [ht0]; exact h))).pickB [0, 1, 3, 2] (by kernel_rfl) (by kernel_rfl) (by kernel_rfl))
                    · (try dsimp only); omega
                  ·
                    refine Sq.vals [20, 21, 22, 23] (rest := []) [undef, undef, bV false, bV false] (fun w => by kernel_rfl) ?_
                    refine Sq.done ?_
                    refine Ex'.next ?_
                    refine Cd.condF (by kernel_rfl) ?_
                    refine Cd.skip ?_
                    refine Ex'.next ?_
                    refine Cd.seq ?_
                    refine Cd.region rfl ?_
                    refine Sq.vals [0] (rest := []) [bV (decide (0 < T0.length))] (fun w => by kernel_rfl) ?_
                    refine Sq.done ?_
                    refine Ex'.next ?_
                    refine Cd.condT (by rw [show ev _ _ = some (.bool (decide (0 < T0.length))) from by kernel_rfl, decide_eq_true (Classical.not_not.1 h25)]) ?_
                    refine Cd.region rfl ?_
                    refine Sq.vals [0] (rest := [1, 2]) [.slice (some ⟨b23, off24, none⟩) T0.length c5] (fun w => by kernel_rfl) ?_
                    refine Sq.v (r := .slice (if c5 = 1 then some ⟨b23, off24, none⟩ else Option.map (fun y : Addr => y.add (1 * 3)) (some ⟨b23, off24, none⟩)) (T0.length - 1) (c5 - 1)) (o_cutFromK (size := 3) (kd := .i64) (q := 1) (l := 1) (n := T0.length) (cap := c5) (a := some ⟨b23, off24, none⟩) (by kernel_rfl) (by kernel_rfl) (by rfl) (by omega) (by omega) Try.underlying26 (by kernel_rfl)) rfl (by kernel_rfl) ?_
                    refine Sq.res 2 (R := vewR 3 (.slice (some ⟨b23, off24, none⟩) T0.length c5) T0.length (T0.flatMap kr3)) (R' := vewR 3 (.slice (if c5 = 1 then some ⟨b23, off24, none⟩ else Option.map (fun y : Addr => y.add (1 * 3)) (some ⟨b23, off24, none⟩)) (T0.length - 1) (c5 - 1)) (T0.length - 1) ((T0.drop 1).flatMap kr3)) (by kernel_rfl) (vew_fromA (fun _ => rfl) (by omega)) ?_
                    refine Sq.vals [2] (rest := []) [.slice (if c5 = 1 then some ⟨b23, off24, none⟩ else Option.map (fun y : Addr => y.add (1 * 3)) (some ⟨b23, off24, none⟩)) (T0.length - 1) (c5 - 1)] (fun w => by kernel_rfl) ?_
                    refine Sq.done ?_
                    refine Ex'.blockNormal ?_
                    refine Ex'.meet (T0.tail, n0, .slice (if c5 = 1 then some ⟨b23, off24, none⟩ else Option.map (fun y : Addr => y.add (1 * 3)) (some ⟨b23, off24, none⟩)) (T0.length - 1) (c5 - 1)) ?_ (subB_eq (l := [0, 3, 5, 6, 4]) (by kernel_rfl)) (fun w hw => (hw.conv 2 (R := vewR 3 (.slice (if c5 = 1 then some ⟨b23, off24, none⟩ else Option.map (fun y : Addr => y.add (1 * 3)) (some ⟨b23, off24, none⟩)) (T0.length - 1) (c5 - 1)) (T0.length - 1) ((T0.drop 1).flatMap kr3)) (R' := vewR 3 (.slice (if c5 = 1 then some ⟨b23, off24, none⟩ else Option.map (fun y : Addr => y.add (1 * 3)) (some ⟨b23, off24, none⟩)) (T0.length - 1) (c5 - 1)) T0.tail.length (T0.tail.flatMap kr3)) (by kernel_rfl) (fun w S h => by first | (simpa using h; done) | (rw [ht0]; exact h))).pickB [0, 1, 3, 2] (by kernel_rfl) (by kernel_rfl) (by kernel_rfl))
                    · (try dsimp only); omega
                ·
                  refine Sq.vals [8, 9, 10, 11, 12, 13, 14, 15, 16, 17] (rest := [18, 19, 20, 21, 22, 23]) [undef, undef, undef, undef, undef, undef, bV false, bV false, bV false, bV (decide (0 < T0.length))] (fun w => by kernel_rfl) ?_
                  refine Sq.v (r := bV (decide (¬ (0 < T0.length)))) (o_not (by kernel_rfl)) rfl (by kernel_rfl) ?_
                  refine Sq.vals [19] (rest := [20, 21, 22, 23]) [bV (decide (¬ (0 < T0.length)))] (fun w => by kernel_rfl) ?_
                  refine Sq.case 103 (p := ¬ (0 < T0.length)) rfl (fun h28 => ?_) (fun h28 => ?_)
                  ·
                    have ht0 : T0.tail = T0 := tail_nil0 h28
                    refine Sq.vals [20] (rest := [21, 22, 23]) [sV ((htop (⟨#[]⟩, 0, 0) T0).1)] (fun w => by kernel_rfl) ?_
                    refine Sq.v (r := bV (decide ((htop (⟨#[]⟩, 0, 0) T0).1 ≠ ⟨#[]⟩))) (o_neS (a := (htop (⟨#[]⟩, 0, 0) T0).1) (b := ⟨#[]⟩) (by kernel_rfl) (by kernel_rfl)) rfl (by kernel_rfl) ?_
                    refine Sq.re 105 rfl (vF (fun z => z (htop_nil (by omega)))) ?_
                    refine Sq.vals [22, 23] (rest := []) [bV false, bV false] (fun w => by kernel_rfl) ?_
                    refine Sq.done ?_
                    refine Ex'.next ?_
                    refine Cd.condF (by kernel_rfl) ?_
                    refine Cd.skip ?_
                    refine Ex'.next ?_
                    refine Cd.seq ?_
                    refine Cd.region rfl ?_
                    refine Sq.vals [0] (rest := []) [bV (decide (0 < T0.length))] (fun w => by kernel_rfl) ?_
                    refine Sq.done ?_
                    refine Ex'.next ?_
                    refine Cd.condF (by rw [show ev _ _ = some (.bool (decide (0 < T0.length))) from by kernel_rfl, decide_eq_false h28]) ?_
                    refine Cd.skip ?_
                    refine Ex'.blockNormal ?_
                    refine Ex'.meet (T0.tail, n0, .slice a4 T0.length c5) ?_ (subB_eq (l := [0, 3, 5, 6, 4]) (by kernel_rfl)) (fun w hw => (hw.conv 2 (R := vewR 3 (.slice a4 T0.length c5) T0.length (T0.flatMap kr3)) (R' := vewR 3 (.slice a4 T0.length c5) T0.tail.length (T0.tail.flatMap kr3)) (by kernel_rfl) (fun w S h => by first | (simpa using h; done) | (rw [ht0]; exact h))).pickB [0, 1, 3, 2] (by kernel_rfl) (by kernel_rfl) (by kernel_rfl))
                    · (try dsimp only); omega
                  ·
                    refine Sq.vals [20, 21, 22, 23] (rest := []) [undef, undef, bV false, bV false] (fun w => by kernel_rfl) ?_
                    refine Sq.done ?_
                    refine Ex'.next ?_
                    refine Cd.condF (by kernel_rfl) ?_
                    refine Cd.skip ?_
                    refine Ex'.next ?_
                    refine Cd.seq ?_
                    refine Cd.region rfl ?_
                    refine Sq.vals [0] (rest := []) [bV (decide (0 < T0.length))] (fun w => by kernel_rfl) ?_
                    refine Sq.done ?_
                    refine Ex'.next ?_
                    refine Cd.condT (by rw [show ev _ _ = some (.bool (decide (0 < T0.length))) from by kernel_rfl, decide_eq_true (Classical.not_not.1 h28)]) ?_
                    refine Cd.region rfl ?_
                    refine Sq.vals [0] (rest := [1, 2]) [.slice a4 T0.length c5] (fun w => by kernel_rfl) ?_
                    refine Sq.v (r := .slice (if c5 = 1 then a4 else Option.map (fun y : Addr => y.add (1 * 3)) a4) (T0.length - 1) (c5 - 1)) (o_cutFromK (size := 3) (kd := .i64) (q := 1) (l := 1) (n := T0.length) (cap := c5) (a := a4) (by kernel_rfl) (by kernel_rfl) (by rfl) (by omega) (by omega) Try.underlying26 (by kernel_rfl)) rfl (by kernel_rfl) ?_
                    refine Sq.res 2 (R := vewR 3 (.slice a4 T0.length c5) T0.length (T0.flatMap kr3)) (R' := vewR 3 (.slice (if c5 = 1 then a4 else Option.map (fun y : Addr => y.add (1 * 3)) a4) (T0.length - 1) (c5 - 1)) (T0.length - 1) ((T0.drop 1).flatMap kr3)) (by kernel_rfl) (vew_fromA (fun _ => rfl) (by omega)) ?_
                    refine Sq.vals [2] (rest := []) [.slice (if c5 = 1 then a4 else Option.map (fun y : Addr => y.add (1 * 3)) a4) (T0.length - 1) (c5 - 1)] (fun w => by kernel_rfl) ?_
                    refine Sq.done ?_
                    refine Ex'.blockNormal ?_
                    refine Ex'.meet (T0.tail, n0, .slice (if c5 = 1 then a4 else Option.map (fun y : Addr => y.add (1 * 3)) a4) (T0.length - 1) (c5 - 1)) ?_ (subB_eq (l := [0, 3, 5, 6, 4]) (by kernel_rfl)) (fun w hw => (hw.conv 2 (R := vewR 3 (.slice (if c5 = 1 then a4 else Option.map (fun y : Addr => y.add (1 * 3)) a4) (T0.length - 1) (c5 - 1)) (T0.length - 1) ((T0.drop 1).flatMap kr3)) (R' := vewR 3 (.slice (if c5 = 1 then a4 else Option.map (fun y : Addr => y.add (1 * 3)) a4) (T0.length - 1) (c5 - 1)) T0.tail.length (T0.tail.flatMap kr3)) (by kernel_rfl) (fun w S h => by first | (simpa using h; done) | (rw [ht0]; exact h))).pickB [0, 1, 3, 2] (by kernel_rfl) (by kernel_rfl) (by kernel_rfl))
                    · (try dsimp only); omega
              ·
                refine Cd.skip ?_
                refine Ex'.blockNormal ?_
                refine Ex'.meet (T0, n0, .slice a4 T0.length c5) ?_ (subB_eq (l := [0, 3, 5, 6, 4]) (by kernel_rfl)) (fun w hw => hw.pickB [0, 1, 3, 2] (by kernel_rfl) (by kernel_rfl) (by kernel_rfl))
                · (try dsimp only); omega
        rintro ⟨T1, n1, mv1⟩ hL31
        try dsimp only at hL31 ⊢
        have hn1 := hL31
        refine Cd.fact (i := 1) rfl hpS.srt ?_; rintro ⟨hnd1, hle1, hsd1⟩
        have hml : (T1.map (·.1)).length = T1.length := List.length_map _
        refine Cd.fact (i := 3) (R := vewR 3 mv1 T1.length (T1.flatMap kr3)) (by kernel_rfl) vew_slice ?_; rintro ⟨a32, c33, rfl, hc33, hc33'⟩
        have hc33'' : c33 ≤ 9223372036854775807 := hc33'
        refine Cd.seq ?_
        refine Cd.region rfl ?_
        refine Sq.vals [0, 1] (rest := [2, 3, 4, 5, 6, 7, 8, 9]) [pV b2 0, pV b9 1] (fun w => by kernel_rfl) ?_
        refine Sq.same [2] (l := [blkR b9 [iV kdk, sV kyk, iV rok, iV rtk] 30]) (o_load (i := 1) (v := sV kyk) (by kernel_rfl) (by kernel_rfl) (by kernel_rfl)) (by kernel_rfl) rfl (by kernel_rfl) rfl ?_
        refine Sq.same [1] (l := [hpS b2 T1 n1]) (o_call (by kernel_rfl) Try.call21 (hp_RankS (S := T1) (n := n1) kyk (by omega))) (by kernel_rfl) rfl (by kernel_rfl) rfl ?_
        refine Sq.vals [4, 5, 6] (rest := [7, 8, 9]) [.tuple #[.agg #[iV (((lk T1 kyk).getD (0, 0)).1), iV (((lk T1 kyk).getD (0, 0)).2)], bV ((lk T1 kyk).isSome)], .agg #[iV (((lk T1 kyk).getD (0, 0)).1), iV (((lk T1 kyk).getD (0, 0)).2)], bV ((lk T1 kyk).isSome)] (fun w => by kernel_rfl) ?_
        refine Sq.ex [] (l := []) (o_new [iV 0, iV 0] (fun w => by kernel_rfl)) (by kernel_rfl) rfl (by kernel_rfl) (fun _ => Nat.zero_le _) ?_; intro b34 _
        refine Sq.same [4] (l := [blkR b34 [iV 0, iV 0] 28]) (o_store (i := 0) (v := .agg #[iV (((lk T1 kyk).getD (0, 0)).1), iV (((lk T1 kyk).getD (0, 0)).2)]) (by kernel_rfl) (by kernel_rfl) (by kernel_rfl) (by kernel_rfl) (by kernel_rfl)) (by kernel_rfl) rfl (by kernel_rfl) rfl ?_
        refine Sq.vals [9] (rest := []) [bV ((lk T1 kyk).isSome)] (fun w => by kernel_rfl) ?_
        refine Sq.done ?_
        refine Ex'.next ?_
        refine Cd.seq ?_
        refine Cd.region rfl ?_
        refine Sq.vals [0, 1] (rest := [2, 3, 4, 5, 6, 7, 8, 9]) [.slice a32 T1.length c33, pV b9 1] (fun w => by kernel_rfl) ?_
        refine Sq.same [2] (l := [blkR b9 [iV kdk, sV kyk, iV rok, iV rtk] 30]) (o_load (i := 1) (v := sV kyk) (by kernel_rfl) (by kernel_rfl) (by kernel_rfl)) (by kernel_rfl) rfl (by kernel_rfl) rfl ?_
        refine Sq.same [3] (l := [vewR 3 (.slice a32 T1.length c33) T1.length (T1.flatMap kr3)]) (o_call (by kernel_rfl) Try.call15 (t_find04 (a0 := a32) (cap := c33) (l := T1) (key := kyk) (by omega))) (by kernel_rfl) rfl (by kernel_rfl) rfl ?_
        refine Sq.vals [4, 5, 6] (rest := [7, 8, 9]) [.tuple #[.agg #[iV (((lk T1 kyk).getD (0, 0)).1), iV (((lk T1 kyk).getD (0, 0)).2)], bV ((lk T1 kyk).isSome)], .agg #[iV (((lk T1 kyk).getD (0, 0)).1), iV (((lk T1 kyk).getD (0, 0)).2)], bV ((lk T1 kyk).isSome)] (fun w => by kernel_rfl) ?_
        refine Sq.ex [] (l := []) (o_new [iV 0, iV 0] (fun w => by kernel_rfl)) (by kernel_rfl) rfl (by kernel_rfl) (fun _ => Nat.zero_le _) ?_; intro b35 _
        refine Sq.same [5] (l := [blkR b35 [iV 0, iV 0] 31]) (o_store (i := 0) (v := .agg #[iV (((lk T1 kyk).getD (0, 0)).1), iV (((lk T1 kyk).getD (0, 0)).2)]) (by kernel_rfl) (by kernel_rfl) (by kernel_rfl) (by kernel_rfl) (by kernel_rfl)) (by kernel_rfl) rfl (by kernel_rfl) rfl ?_
        refine Sq.vals [9] (rest := []) [bV ((lk T1 kyk).isSome)] (fun w => by kernel_rfl) ?_
        refine Sq.done ?_
        refine Ex'.next ?_
        refine Cd.seq ?_
        refine Cd.region rfl ?_
        refine Sq.vals [0] (rest := [1, 2, 3, 4, 5, 6, 7, 8, 9]) [pV b2 0] (fun w => by kernel_rfl) ?_
        refine Sq.same [1] (l := [hpS b2 T1 n1]) (o_call (by kernel_rfl) Try.call22 (hp_LeastS (S := T1) (n := n1) (by omega))) (by kernel_rfl) rfl (by kernel_rfl) rfl ?_
        refine Sq.vals [2, 3, 4, 5] (rest := [6, 7, 8, 9]) [.tuple #[sV ((htop (⟨#[]⟩, 0, 0) T1).1), .agg #[iV ((htop (⟨#[]⟩, 0, 0) T1).2.1), iV ((htop (⟨#[]⟩, 0, 0) T1).2.2)], bV (decide (0 < T1.length))], sV ((htop (⟨#[]⟩, 0, 0) T1).1), .agg #[iV ((htop (⟨#[]⟩, 0, 0) T1).2.1), iV ((htop (⟨#[]⟩, 0, 0) T1).2.2)], bV (decide (0 < T1.length))] (fun w => by kernel_rfl) ?_
        refine Sq.ex [] (l := []) (o_new [iV 0, iV 0] (fun w => by kernel_rfl)) (by kernel_rfl) rfl (by kernel_rfl) (fun _ => Nat.zero_le _) ?_; intro b36 _
        refine Sq.vals [7] (rest := [8, 9]) [sV ((htop (⟨#[]⟩, 0, 0) T1).1)] (fun w => by kernel_rfl) ?_
        refine Sq.same [6] (l := [blkR b36 [iV 0, iV 0] 28]) (o_store (i := 0) (v := .agg #[iV ((htop (⟨#[]⟩, 0, 0) T1).2.1), iV ((htop (⟨#[]⟩, 0, 0) T1).2.2)]) (by kernel_rfl) (by kernel_rfl) (by kernel_rfl) (by kernel_rfl) (by kernel_rfl)) (by kernel_rfl) rfl (by kernel_rfl) rfl ?_
        refine Sq.vals [9] (rest := []) [bV (decide (0 < T1.length))] (fun w => by kernel_rfl) ?_
        refine Sq.done ?_
        refine Ex'.next ?_
        refine Cd.seq ?_
        refine Cd.seq ?_
        by_cases h37 : 0 < T1.length
        ·
          refine Cd.fact (i := 3) (R := vewR 3 (.slice a32 T1.length c33) T1.length (T1.flatMap kr3)) (by kernel_rfl) (vew_addr (by omega)) ?_; rintro ⟨b38, off39, rfl⟩
          refine Cd.plan (0 :: 0 :: 3 :: 7 :: 15 :: 15 :: 63 :: 127 :: 255 :: 511 :: 1023 :: 511 :: 2559 :: 8191 :: 16383 :: 32767 :: 65535 :: 65535 :: 196607 :: 458751 :: 1048575 :: 2097151 :: 4194303 :: 8388607 :: 16777215 :: 33554431 :: 33554431 :: 100663295 :: 234881023 :: 503316479 :: 1073741823 :: 2147483647 :: 4294967295 :: 4294967295 :: 12884901887 :: 30064771071 :: 64424509439 :: 137438953471 :: 274877906943 :: 549755813887 :: 1099511627775 :: []) [(0, [(4, false, 0)]), (1, [(5, false, 0)]), (10, [(1, false, 0)]), (29, [(3, false, 0)]), (32, [(6, false, 0)]), (36, [(3, false, 0)])] [] [] [] ((fun g => .agg #[iV (((lk T1 kyk).getD (0, 0)).1), iV (((lk T1 kyk).getD (0, 0)).2)]) :: (fun g => .agg #[iV (((lk T1 kyk).getD (0, 0)).1), iV (((lk T1 kyk).getD (0, 0)).2)]) :: (fun g => bV false) :: (fun g => bV false) :: (fun g => bV ((lk T1 kyk).isSome)) :: (fun g => bV ((lk T1 kyk).isSome)) :: (fun g => bV false) :: (fun g => bV false) :: (fun g => bV false) :: (fun g => pV b2 0) :: (fun g => iV (T1.length : Int)) :: (fun g => .slice (some ⟨b38, off39, none⟩) T1.length c33) :: (fun g => iV (T1.length : Int)) :: (fun g => bV false) :: (fun g => bV false) :: (fun g => bV false) :: (fun g => bV true) :: (fun g => .slice (some ⟨b38, off39, none⟩) T1.length c33) :: (fun g => iV (T1.length : Int)) :: (fun g => bV (decide ((T1.length : Int) > 0))) :: (fun g => bV false) :: (fun g => bV false) :: (fun g => bV false) :: (fun g => bV true) :: (fun g => bV true) :: (fun g => sV ((htop (⟨#[]⟩, 0, 0) T1).1)) :: (fun g => .slice (some ⟨b38, off39, none⟩) T1.length c33) :: (fun g => pV b38 (off39 + 0)) :: (fun g => pV b38 (off39 + 0)) :: (fun g => sV ((T1.getD 0 kz3).1)) :: (fun g => bV false) :: (fun g => bV false) :: (fun g => .agg #[iV ((htop (⟨#[]⟩, 0, 0) T1).2.1), iV ((htop (⟨#[]⟩, 0, 0) T1).2.2)]) :: (fun g => .slice (some ⟨b38, off39, none⟩) T1.length c33) :: (fun g => pV b38 (off39 + 0)) :: (fun g => pV b38 (off39 + 0 + 1)) :: (fun g => .agg #[iV ((T1.getD 0 kz3).2.1), iV ((T1.getD 0 kz3).2.2)]) :: (fun g => bV false) :: (fun g => bV false) :: (fun g => bV false) :: (fun g => bV false) :: []) (by kernel_rfl) (by kernel_rfl) rfl (trivial) ?_ ?_
          · exact ⟨ob_s (l := fun g => [blkR b34 [iV (((lk T1 kyk).getD (0, 0)).1), iV (((lk T1 kyk).getD (0, 0)).2)] 28]) (l' := fun g => [blkR b34 [iV (((lk T1 kyk).getD (0, 0)).1), iV (((lk T1 kyk).getD (0, 0)).2)] 28]) (v := fun g => .agg #[iV (((lk T1 kyk).getD (0, 0)).1), iV (((lk T1 kyk).getD (0, 0)).2)]) (fun g => o_loadN (i := 0) [iV (((lk T1 kyk).getD (0, 0)).1), iV (((lk T1 kyk).getD (0, 0)).2)] (by kernel_rfl) (by kernel_rfl) (by kernel_rfl)) (fun g => by kernel_rfl), ob_s (l := fun g => [blkR b35 [iV (((lk T1 kyk).getD (0, 0)).1), iV (((lk T1 kyk).getD (0, 0)).2)] 31]) (l' := fun g => [blkR b35 [iV (((lk T1 kyk).getD (0, 0)).1), iV (((lk T1 kyk).getD (0, 0)).2)] 31]) (v := fun g => .agg #[iV (((lk T1 kyk).getD (0, 0)).1), iV (((lk T1 kyk).getD (0, 0)).2)]) (fun g => o_loadN (i := 0) [iV (((lk T1 kyk).getD (0, 0)).1), iV (((lk T1 kyk).getD (0, 0)).2)] (by kernel_rfl) (by kernel_rfl) (by kernel_rfl)) (fun g => by kernel_rfl), ob_v (v := fun g => bV false) (fun g => OprV.re (o_eqRank4_ne (((lk T1 kyk).getD (0, 0)).1) (((lk T1 kyk).getD (0, 0)).1) (((lk T1 kyk).getD (0, 0)).2) (((lk T1 kyk).getD (0, 0)).2) (by kernel_rfl) (by kernel_rfl)) (vF (show ¬ (¬ (((lk T1 kyk).getD (0, 0)).1 = ((lk T1 kyk).getD (0, 0)).1 ∧ ((lk T1 kyk).getD (0, 0)).2 = ((lk T1 kyk).getD (0, 0)).2)) from fun z => z ⟨rfl, rfl⟩))) (fun g => by kernel_rfl), ob_val fun g w => by kernel_rfl, ob_val fun g w => by kernel_rfl, ob_val fun g w => by kernel_rfl, ob_v (v := fun g => bV false) (fun g => OprV.re (pureV (v := bV (!(((lk T1 kyk).isSome) == ((lk T1 kyk).isSome)))) (by kernel_rfl) rfl fun w => by kernel_rfl) (show Value.bool (!(((lk T1 kyk).isSome) == ((lk T1 kyk).isSome))) = .bool false from by simp)) (fun g => by kernel_rfl), ob_val fun g w => by kernel_rfl, ob_val fun g w => by kernel_rfl, ob_val fun g w => by kernel_rfl, ob_s (l := fun g => [hpS b2 T1 n1]) (l' := fun g => [hpS b2 T1 n1]) (v := fun g => iV (T1.length : Int)) (fun g => o_call (by kernel_rfl) Try.call23 (hp_LenS (S := T1) (n := n1) (by omega))) (fun g => by kernel_rfl), ob_val fun g w => by kernel_rfl, ob_val fun g w => by kernel_rfl, ob_v (v := fun g => bV false) (fun g => OprV.re (o_neI (k := .i64) (a := (T1.length : Int)) (b := (T1.length : Int)) (by kernel_rfl) (by kernel_rfl)) (vF (fun z => z rfl))) (fun g => by kernel_rfl), ob_val fun g w => by kernel_rfl, ob_val fun g w => by kernel_rfl, ob_v (v := fun g => bV true) (fun g => OprV.re (pureV (v := bV (decide (0 < T1.length))) (by kernel_rfl) rfl fun w => by kernel_rfl) (vT h37)) (fun g => by kernel_rfl), ob_val fun g w => by kernel_rfl, ob_val fun g w => by kernel_rfl, ob_val fun g w => by kernel_rfl, ob_v (v := fun g => bV false) (fun g => OprV.re (pureV (v := bV (!(true == (decide ((T1.length : Int) > 0))))) (by kernel_rfl) rfl fun w => by kernel_rfl) (congrArg Value.bool (show (!(true == (decide ((T1.length : Int) > 0)))) = false from (by rw [decide_eq_true (show ((T1.length : Int) > 0) by omega)]; rfl)))) (fun g => by kernel_rfl), ob_val fun g w => by kernel_rfl, ob_val fun g w => by kernel_rfl, ob_v (v := fun g => bV true) (fun g => OprV.re (pureV (v := bV (decide (0 < T1.length))) (by kernel_rfl) rfl fun w => by kernel_rfl) (vT h37)) (fun g => by kernel_rfl), ob_val fun g w => by kernel_rfl, ob_val fun g w => by kernel_rfl, ob_val fun g w => by kernel_rfl, ob_v (v := fun g => pV b38 (off39 + 0)) (fun g => o_idx (b := b38) (cap := c33) (e := 41) (off := off39) (n := T1.length) (kd := .i64) (q := 0) (i := 0) (size := 3) (j := off39 + 0) (by kernel_rfl) (by kernel_rfl) (by rfl) (by omega) Try.underlying26 (by kernel_rfl) (by omega)) (fun g => by kernel_rfl), ob_val fun g w => by kernel_rfl, ob_s (l := fun g => [vewR 3 (.slice (some ⟨b38, off39, none⟩) T1.length c33) T1.length (T1.flatMap kr3)]) (l' := fun g => [vewR 3 (.slice (some ⟨b38, off39, none⟩) T1.length c33) T1.length (T1.flatMap kr3)]) (v := fun g => sV ((T1.getD 0 kz3).1)) (fun g => o_loadView (off := off39) (j := 0 * 3) (u := sV ((T1.getD 0 kz3).1)) (by kernel_rfl) (by first | omega | (simp only [List.length_set, List.length_append, List.length_take, List.length_singleton] <;> omega)) (by kernel_rfl) ((rec_get (f := kr3) (k := 3) (z := kz3) (l := T1) (i := 0) (j := 0) (fun _ => rfl) (by first | omega | (simp only [List.length_set, List.length_append, List.length_take, List.length_singleton] <;> omega)) (by decide)).trans rfl)) (fun g => by kernel_rfl), ob_v (v := fun g => bV false) (fun g => OprV.re (o_neS (a := (htop (⟨#[]⟩, 0, 0) T1).1) (b := (T1.getD 0 kz3).1) (by kernel_rfl) (by kernel_rfl)) (vF (fun z => z htop_get1))) (fun g => by kernel_rfl), ob_val fun g w => by kernel_rfl, ob_s (l := fun g => [blkR b36 [iV ((htop (⟨#[]⟩, 0, 0) T1).2.1), iV ((htop (⟨#[]⟩, 0, 0) T1).2.2)] 28]) (l' := fun g => [blkR b36 [iV ((htop (⟨#[]⟩, 0, 0) T1).2.1), iV ((htop (⟨#[]⟩, 0, 0) T1).2.2)] 28]) (v := fun g => .agg #[iV ((htop (⟨#[]⟩, 0, 0) T1).2.1), iV ((htop (⟨#[]⟩, 0, 0) T1).2.2)]) (fun g => o_loadN (i := 0) [iV ((htop (⟨#[]⟩, 0, 0) T1).2.1), iV ((htop (⟨#[]⟩, 0, 0) T1).2.2)] (by kernel_rfl) (by kernel_rfl) (by kernel_rfl)) (fun g => by kernel_rfl), ob_val fun g w => by kernel_rfl, ob_v (v := fun g => pV b38 (off39 + 0)) (fun g => o_idx (b := b38) (cap := c33) (e := 41) (off := off39) (n := T1.length) (kd := .i64) (q := 0) (i := 0) (size := 3) (j := off39 + 0) (by kernel_rfl) (by kernel_rfl) (by rfl) (by omega) Try.underlying26 (by kernel_rfl) (by omega)) (fun g => by kernel_rfl), ob_val fun g w => by kernel_rfl, ob_s (l := fun g => [vewR 3 (.slice (some ⟨b38, off39, none⟩) T1.length c33) T1.length (T1.flatMap kr3)]) (l' := fun g => [vewR 3 (.slice (some ⟨b38, off39, none⟩) T1.length c33) T1.length (T1.flatMap kr3)]) (v := fun g => .agg #[iV ((T1.getD 0 kz3).2.1), iV ((T1.getD 0 kz3).2.2)]) (fun g => o_loadViewN (off := off39) (j := 0 * 3 + 1) [iV ((T1.getD 0 kz3).2.1), iV ((T1.getD 0 kz3).2.2)] (by kernel_rfl) (by first | omega | (simp only [List.length_set, List.length_append, List.length_take, List.length_singleton] <;> omega)) (by kernel_rfl) (rec_gets (f := kr3) (k := 3) (z := kz3) (l := T1) (i := 0) (o := 1) (fun _ => rfl) (by first | omega | (simp only [List.length_set, List.length_append, List.length_take, List.length_singleton] <;> omega)) (Nat.le_of_ble_eq_true rfl) rfl)) (fun g => by kernel_rfl), ob_v (v := fun g => bV false) (fun g => OprV.re (o_eqRank4_ne ((htop (⟨#[]⟩, 0, 0) T1).2.1) ((T1.getD 0 kz3).2.1) ((htop (⟨#[]⟩, 0, 0) T1).2.2) ((T1.getD 0 kz3).2.2) (by kernel_rfl) (by kernel_rfl)) (vF (show ¬ (¬ ((htop (⟨#[]⟩, 0, 0) T1).2.1 = (T1.getD 0 kz3).2.1 ∧ (htop (⟨#[]⟩, 0, 0) T1).2.2 = (T1.getD 0 kz3).2.2)) from fun z => z ⟨htop_get2, htop_get3⟩))) (fun g => by kernel_rfl), ob_val fun g w => by kernel_rfl, ob_val fun g w => by kernel_rfl, ob_val fun g w => by kernel_rfl, trivial⟩
          intro g
          refine Ex'.sub (subB_spec [0, 3, 5, 4, 171]) ?_
          refine Ex'.as [0, 1, 2, 3, 4, 5, 6] (σ' := [(0, .slice (some ⟨g7, off8, none⟩) xs.length cap), (3, pV b2 0), (5, iV (k : Int)), (4, .slice (some ⟨b38, off39, none⟩) T1.length c33), (171, bV false)]) (Γ' := [oldR w0, hpS b2 T1 n1, blkR b9 [iV kdk, sV kyk, iV rok, iV rtk] 30, vewR 3 (.slice (some ⟨b38, off39, none⟩) T1.length c33) T1.length (T1.flatMap kr3), blkR b34 [iV (((lk T1 kyk).getD (0, 0)).1), iV (((lk T1 kyk).getD (0, 0)).2)] 28, blkR b35 [iV (((lk T1 kyk).getD (0, 0)).1), iV (((lk T1 kyk).getD (0, 0)).2)] 31, blkR b36 [iV ((htop (⟨#[]⟩, 0, 0) T1).2.1), iV ((htop (⟨#[]⟩, 0, 0) T1).2.2)] 28]) (by kernel_rfl) rfl (by kernel_rfl) (by kernel_rfl) ?_
          refine Ex'.next ?_
          refine Cd.condF (by kernel_rfl) ?_
          refine Cd.skip ?_
          refine Ex'.next ?_
          refine Cd.seq ?_
          refine Cd.region rfl ?_
          refine Sq.vals [0] (rest := [1, 2]) [pV b2 0] (fun w => by kernel_rfl) ?_
          refine Sq.ex [1] (l := [hpS b2 T1 n1]) (o_call (by kernel_rfl) Try.call24 (hp_OrderS (S := T1) (n := n1) (by omega))) (by kernel_rfl) rfl (by kernel_rfl) (fun _ => Nat.le_of_ble_eq_true (by kernel_rfl)) ?_; rintro v40 _
          refine Sq.fact (i := 7) (R := rowR 9 1 v40 ((T1.map (·.1)).length) ((T1.map (·.1)).map Value.string)) (by kernel_rfl) row_slice ?_; rintro ⟨a41, c42, rfl, hc42, hc42'⟩
          have hc42'' : c42 ≤ 9223372036854775807 := hc42'
          refine Sq.vals [2] (rest := []) [.slice a41 ((T1.map (·.1)).length) c42] (fun w => by kernel_rfl) ?_
          refine Sq.done ?_
          refine Ex'.next ?_
          refine Cd.seq ?_
          refine Cd.seq ?_
          refine Cd.region rfl ?_
          refine Sq.vals [0, 1, 2, 3] (rest := [4]) [.slice a41 ((T1.map (·.1)).length) c42, iV ((T1.map (·.1)).length : Int), .slice (some ⟨b38, off39, none⟩) T1.length c33, iV (T1.length : Int)] (fun w => by kernel_rfl) ?_
          refine Sq.v (r := bV (decide (((T1.map (·.1)).length : Int) ≠ (T1.length : Int)))) (o_neI (k := .i64) (a := ((T1.map (·.1)).length : Int)) (b := (T1.length : Int)) (by kernel_rfl) (by kernel_rfl)) rfl (by kernel_rfl) ?_
          refine Sq.re 178 rfl (vF (fun z => z (by rw [hml]))) ?_
          refine Sq.done ?_
          refine Ex'.next ?_
          refine Cd.condF (by kernel_rfl) ?_
          refine Cd.skip ?_
          refine Ex'.next ?_
          refine Cd.seq ?_
          refine Cd.region rfl ?_
          refine Sq.vals [0] (rest := []) [iV 0] (fun w => by kernel_rfl) ?_
          refine Sq.done ?_
          refine Ex'.next ?_
          refine Cd.block ?_
          refine Cd.loop (ι := Nat) (fun j => j ≤ T1.length) (fun j => T1.length - j) (fun j => [(0, .slice (some ⟨g7, off8, none⟩) xs.length cap), (3, pV b2 0), (5, iV (k : Int)), (4, .slice (some ⟨b38, off39, none⟩) T1.length c33), (18, .slice a41 ((T1.map (·.1)).length) c42), (19, iV (j : Int))]) (fun j => [oldR w0, hpS b2 T1 n1, blkR b9 [iV kdk, sV kyk, iV rok, iV rtk] 30, vewR 3 (.slice (some ⟨b38, off39, none⟩) T1.length c33) T1.length (T1.flatMap kr3), blkR b34 [iV (((lk T1 kyk).getD (0, 0)).1), iV (((lk T1 kyk).getD (0, 0)).2)] 28, blkR b35 [iV (((lk T1 kyk).getD (0, 0)).1), iV (((lk T1 kyk).getD (0, 0)).2)] 31, blkR b36 [iV ((htop (⟨#[]⟩, 0, 0) T1).2.1), iV ((htop (⟨#[]⟩, 0, 0) T1).2.2)] 28, rowR 9 1 (.slice a41 ((T1.map (·.1)).length) c42) ((T1.map (·.1)).length) ((T1.map (·.1)).map Value.string)]) 0 (Nat.zero_le _) (subB_eq (l := [0, 3, 5, 4, 18, 19]) (by kernel_rfl)) (fun w hw => hw.pickB [0, 1, 2, 3, 4, 5, 6, 7] (by kernel_rfl) (by kernel_rfl) (by kernel_rfl)) ?_
          rintro j hL43
          try dsimp only at hL43 ⊢
          have hj := hL43
          refine Cd.seq ?_
          refine Cd.seq ?_
          refine Cd.region rfl ?_
          refine Sq.vals [0, 1, 2, 3] (rest := []) [iV (j : Int), .slice a41 ((T1.map (·.1)).length) c42, iV ((T1.map (·.1)).length : Int), bV (decide ((j : Int) < ((T1.map (·.1)).length : Int)))] (fun w => by kernel_rfl) ?_
          refine Sq.done ?_
          refine Ex'.next ?_
          refine Cd.case (p := (j : Int) < ((T1.map (·.1)).length : Int)) (by kernel_rfl) (fun h44 => ?_) (fun h44 => ?_)
          ·
            have hjl : j < T1.length := by omega
            refine Cd.fact (i := 7) (R := rowR 9 1 (.slice a41 ((T1.map (·.1)).length) c42) ((T1.map (·.1)).length) ((T1.map (·.1)).map Value.string)) (by kernel_rfl) (row_addr (by omega)) ?_; rintro ⟨b45, rfl⟩
            refine Cd.skip ?_
            refine Ex'.next ?_
            refine Cd.seq ?_
            refine Cd.block ?_
            refine Cd.seq ?_
            refine Cd.plan [0, 0, 3, 7, 0, 0, 48, 112, 240, 511] [(3, [(7, false, 0)]), (8, [(3, false, 0)])] [] [] [] [fun g => .slice (some ⟨b45, 0, none⟩) ((T1.map (·.1)).length) c42, fun g => iV (j : Int), fun g => pV b45 j, fun g => sV ((T1.map (·.1)).getD j ⟨#[]⟩), fun g => .slice (some ⟨b38, off39, none⟩) T1.length c33, fun g => iV (j : Int), fun g => pV b38 (off39 + j * 3), fun g => pV b38 (off39 + j * 3), fun g => sV ((T1.getD j kz3).1), fun g => bV false] (by kernel_rfl) (by kernel_rfl) rfl (trivial) ?_ ?_
            · exact ⟨ob_val fun g w => by kernel_rfl, ob_val fun g w => by kernel_rfl, ob_v (v := fun g => pV b45 j) (fun g => o_idx (b := b45) (cap := c42) (e := 9) (off := 0) (n := (T1.map (·.1)).length) (kd := .i64) (q := (j : Int)) (i := j) (size := 1) (j := j) (by kernel_rfl) (by kernel_rfl) (by rfl) (by omega) Try.underlying47 (by kernel_rfl) (by omega)) (fun g => by kernel_rfl), ob_s (l := fun g => [rowR 9 1 (.slice (some ⟨b45, 0, none⟩) ((T1.map (·.1)).length) c42) ((T1.map (·.1)).length) ((T1.map (·.1)).map Value.string)]) (l' := fun g => [rowR 9 1 (.slice (some ⟨b45, 0, none⟩) ((T1.map (·.1)).length) c42) ((T1.map (·.1)).length) ((T1.map (·.1)).map Value.string)]) (v := fun g => sV ((T1.map (·.1)).getD j ⟨#[]⟩)) (fun g => o_loadRow (i := j) (u := sV ((T1.map (·.1)).getD j ⟨#[]⟩)) (by kernel_rfl) (by omega) (by kernel_rfl) (get_map (by omega))) (fun g => by kernel_rfl), ob_val fun g w => by kernel_rfl, ob_val fun g w => by kernel_rfl, ob_v (v := fun g => pV b38 (off39 + j * 3)) (fun g => o_idx (b := b38) (cap := c33) (e := 41) (off := off39) (n := T1.length) (kd := .i64) (q := (j : Int)) (i := j) (size := 3) (j := off39 + j * 3) (by kernel_rfl) (by kernel_rfl) (by rfl) (by omega) Try.underlying26 (by kernel_rfl) (by omega)) (fun g => by kernel_rfl), ob_val fun g w => by kernel_rfl, ob_s (l := fun g => [vewR 3 (.slice (some ⟨b38, off39, none⟩) T1.length c33) T1.length (T1.flatMap kr3)]) (l' := fun g => [vewR 3 (.slice (some ⟨b38, off39, none⟩) T1.length c33) T1.length (T1.flatMap kr3)]) (v := fun g => sV ((T1.getD j kz3).1)) (fun g => o_loadView (off := off39) (j := j * 3) (u := sV ((T1.getD j kz3).1)) (by kernel_rfl) (by first | omega | (simp only [List.length_set, List.length_append, List.length_take, List.length_singleton] <;> omega)) (by kernel_rfl) ((rec_get (f := kr3) (k := 3) (z := kz3) (l := T1) (i := j) (j := 0) (fun _ => rfl) (by first | omega | (simp only [List.length_set, List.length_append, List.length_take, List.length_singleton] <;> omega)) (by decide)).trans rfl)) (fun g => by kernel_rfl), ob_v (v := fun g => bV false) (fun g => OprV.re (o_neS (a := (T1.map (·.1)).getD j ⟨#[]⟩) (b := (T1.getD j kz3).1) (by kernel_rfl) (by kernel_rfl)) (vF (fun z => z (map_get1 (by omega))))) (fun g => by kernel_rfl), trivial⟩
            intro g
            refine Ex'.sub (subB_spec [0, 3, 5, 4, 18, 19, 194]) ?_
            refine Ex'.as [0, 1, 2, 3, 4, 5, 6, 7] (σ' := [(0, .slice (some ⟨g7, off8, none⟩) xs.length cap), (3, pV b2 0), (5, iV (k : Int)), (4, .slice (some ⟨b38, off39, none⟩) T1.length c33), (18, .slice (some ⟨b45, 0, none⟩) ((T1.map (·.1)).length) c42), (19, iV (j : Int)), (194, bV false)]) (Γ' := [oldR w0, hpS b2 T1 n1, blkR b9 [iV kdk, sV kyk, iV rok, iV rtk] 30, vewR 3 (.slice (some ⟨b38, off39, none⟩) T1.length c33) T1.length (T1.flatMap kr3), blkR b34 [iV (((lk T1 kyk).getD (0, 0)).1), iV (((lk T1 kyk).getD (0, 0)).2)] 28, blkR b35 [iV (((lk T1 kyk).getD (0, 0)).1), iV (((lk T1 kyk).getD (0, 0)).2)] 31, blkR b36 [iV ((htop (⟨#[]⟩, 0, 0) T1).2.1), iV ((htop (⟨#[]⟩, 0, 0) T1).2.2)] 28, rowR 9 1 (.slice (some ⟨b45, 0, none⟩) ((T1.map (·.1)).length) c42) ((T1.map (·.1)).length) ((T1.map (·.1)).map Value.string)]) (by kernel_rfl) rfl (by kernel_rfl) (by kernel_rfl) ?_
            refine Ex'.next ?_
            refine Cd.condF (by kernel_rfl) ?_
            refine Cd.skip ?_
            refine Ex'.blockNormal ?_
            refine Ex'.next ?_
            refine Cd.region rfl ?_
            refine Sq.vals [0] (rest := [1, 2]) [iV (j : Int)] (fun w => by kernel_rfl) ?_
            refine Sq.v (r := iV ((j : Int) + 1)) (o_add (k := .i64) (a := (j : Int)) (b := 1) (c := (j : Int) + 1) (by kernel_rfl) (by kernel_rfl) (w64 rfl (by omega))) rfl (by kernel_rfl) ?_
            refine Sq.vals [2] (rest := []) [iV ((j : Int) + 1)] (fun w => by kernel_rfl) ?_
            refine Sq.done ?_
            refine Ex'.round (g := j) (j + 1) ?_ ?_ (subB_eq (l := [0, 3, 5, 4, 18, 19]) (by kernel_rfl)) (fun w hw => hw.pickB [0, 1, 2, 3, 4, 5, 6, 7] (by kernel_rfl) (by kernel_rfl) (by kernel_rfl))
            · (try dsimp only); exact (by omega : j + 1 ≤ T1.length)
            · omega
          ·
            refine Cd.exit ?_
            refine Ex'.thenExit ?_
            refine Ex'.thenExit ?_
            refine Ex'.blockHit ?_
            refine Ex'.blockNormal ?_
            refine Ex'.next ?_
            refine Cd.region rfl ?_
            refine Sq.vals [0] (rest := [1, 2]) [iV (k : Int)] (fun w => by kernel_rfl) ?_
            refine Sq.v (r := iV ((k : Int) + 1)) (o_add (k := .i64) (a := (k : Int)) (b := 1) (c := (k : Int) + 1) (by kernel_rfl) (by kernel_rfl) (w64 rfl (by omega))) rfl (by kernel_rfl) ?_
            refine Sq.vals [2] (rest := []) [iV ((k : Int) + 1)] (fun w => by kernel_rfl) ?_
            refine Sq.done ?_
            refine Ex'.round (g := (k, T0, n0, .slice a4 T0.length c5)) (k + 1, T1, n1, .slice (some ⟨b38, off39, none⟩) T1.length c33) ?_ ?_ (subB_eq (l := [0, 3, 5, 4]) (by kernel_rfl)) (fun w hw => hw.pickB [0, 1, 3] (by kernel_rfl) (by kernel_rfl) (by kernel_rfl))
            · (try dsimp only); exact ⟨by omega, by omega⟩
            · omega
        ·
          refine Cd.plan (0 :: 0 :: 3 :: 7 :: 15 :: 15 :: 63 :: 127 :: 255 :: 511 :: 1023 :: 511 :: 2559 :: 8191 :: 16383 :: 32767 :: 65535 :: 65535 :: 196607 :: 458751 :: 1048575 :: 2097151 :: 4194303 :: 8388607 :: 16777215 :: 33554431 :: 33554431 :: 100663295 :: 234881023 :: 503316479 :: 1073741823 :: 2147483647 :: 4294967295 :: 4294967295 :: 12884901887 :: 30064771071 :: 64424509439 :: 137438953471 :: 274877906943 :: 549755813887 :: 1099511627775 :: []) [(0, [(4, false, 0)]), (1, [(5, false, 0)]), (10, [(1, false, 0)])] [] [] [] ((fun g => .agg #[iV (((lk T1 kyk).getD (0, 0)).1), iV (((lk T1 kyk).getD (0, 0)).2)]) :: (fun g => .agg #[iV (((lk T1 kyk).getD (0, 0)).1), iV (((lk T1 kyk).getD (0, 0)).2)]) :: (fun g => bV false) :: (fun g => bV false) :: (fun g => bV ((lk T1 kyk).isSome)) :: (fun g => bV ((lk T1 kyk).isSome)) :: (fun g => bV false) :: (fun g => bV false) :: (fun g => bV false) :: (fun g => pV b2 0) :: (fun g => iV (T1.length : Int)) :: (fun g => .slice a32 T1.length c33) :: (fun g => iV (T1.length : Int)) :: (fun g => bV false) :: (fun g => bV false) :: (fun g => bV false) :: (fun g => bV false) :: (fun g => .slice a32 T1.length c33) :: (fun g => iV (T1.length : Int)) :: (fun g => bV (decide ((T1.length : Int) > 0))) :: (fun g => bV false) :: (fun g => bV false) :: (fun g => bV false) :: (fun g => bV false) :: (fun g => bV false) :: (fun g => undef) :: (fun g => undef) :: (fun g => undef) :: (fun g => undef) :: (fun g => undef) :: (fun g => undef) :: (fun g => undef) :: (fun g => undef) :: (fun g => undef) :: (fun g => undef) :: (fun g => undef) :: (fun g => undef) :: (fun g => undef) :: (fun g => undef) :: (fun g => bV false) :: (fun g => bV false) :: []) (by kernel_rfl) (by kernel_rfl) rfl (trivial) ?_ ?_
          · exact ⟨ob_s (l := fun g => [blkR b34 [iV (((lk T1 kyk).getD (0, 0)).1), iV (((lk T1 kyk).getD (0, 0)).2)] 28]) (l' := fun g => [blkR b34 [iV (((lk T1 kyk).getD (0, 0)).1), iV (((lk T1 kyk).getD (0, 0)).2)] 28]) (v := fun g => .agg #[iV (((lk T1 kyk).getD (0, 0)).1), iV (((lk T1 kyk).getD (0, 0)).2)]) (fun g => o_loadN (i := 0) [iV (((lk T1 kyk).getD (0, 0)).1), iV (((lk T1 kyk).getD (0, 0)).2)] (by kernel_rfl) (by kernel_rfl) (by kernel_rfl)) (fun g => by kernel_rfl), ob_s (l := fun g => [blkR b35 [iV (((lk T1 kyk).getD (0, 0)).1), iV (((lk T1 kyk).getD (0, 0)).2)] 31]) (l' := fun g => [blkR b35 [iV (((lk T1 kyk).getD (0, 0)).1), iV (((lk T1 kyk).getD (0, 0)).2)] 31]) (v := fun g => .agg #[iV (((lk T1 kyk).getD (0, 0)).1), iV (((lk T1 kyk).getD (0, 0)).2)]) (fun g => o_loadN (i := 0) [iV (((lk T1 kyk).getD (0, 0)).1), iV (((lk T1 kyk).getD (0, 0)).2)] (by kernel_rfl) (by kernel_rfl) (by kernel_rfl)) (fun g => by kernel_rfl), ob_v (v := fun g => bV false) (fun g => OprV.re (o_eqRank4_ne (((lk T1 kyk).getD (0, 0)).1) (((lk T1 kyk).getD (0, 0)).1) (((lk T1 kyk).getD (0, 0)).2) (((lk T1 kyk).getD (0, 0)).2) (by kernel_rfl) (by kernel_rfl)) (vF (show ¬ (¬ (((lk T1 kyk).getD (0, 0)).1 = ((lk T1 kyk).getD (0, 0)).1 ∧ ((lk T1 kyk).getD (0, 0)).2 = ((lk T1 kyk).getD (0, 0)).2)) from fun z => z ⟨rfl, rfl⟩))) (fun g => by kernel_rfl), ob_val fun g w => by kernel_rfl, ob_val fun g w => by kernel_rfl, ob_val fun g w => by kernel_rfl, ob_v (v := fun g => bV false) (fun g => OprV.re (pureV (v := bV (!(((lk T1 kyk).isSome) == ((lk T1 kyk).isSome)))) (by kernel_rfl) rfl fun w => by kernel_rfl) (show Value.bool (!(((lk T1 kyk).isSome) == ((lk T1 kyk).isSome))) = .bool false from by simp)) (fun g => by kernel_rfl), ob_val fun g w => by kernel_rfl, ob_val fun g w => by kernel_rfl, ob_val fun g w => by kernel_rfl, ob_s (l := fun g => [hpS b2 T1 n1]) (l' := fun g => [hpS b2 T1 n1]) (v := fun g => iV (T1.length : Int)) (fun g => o_call (by kernel_rfl) Try.call23 (hp_LenS (S := T1) (n := n1) (by omega))) (fun g => by kernel_rfl), ob_val fun g w => by kernel_rfl, ob_val fun g w => by kernel_rfl, ob_v (v := fun g => bV false) (fun g => OprV.re (o_neI (k := .i64) (a := (T1.length : Int)) (b := (T1.length : Int)) (by kernel_rfl) (by kernel_rfl)) (vF (fun z => z rfl))) (fun g => by kernel_rfl), ob_val fun g w => by kernel_rfl, ob_val fun g w => by kernel_rfl, ob_v (v := fun g => bV false) (fun g => OprV.re (pureV (v := bV (decide (0 < T1.length))) (by kernel_rfl) rfl fun w => by kernel_rfl) (vF h37)) (fun g => by kernel_rfl), ob_val fun g w => by kernel_rfl, ob_val fun g w => by kernel_rfl, ob_val fun g w => by kernel_rfl, ob_v (v := fun g => bV false) (fun g => OprV.re (pureV (v := bV (!(false == (decide ((T1.length : Int) > 0))))) (by kernel_rfl) rfl fun w => by kernel_rfl) (congrArg Value.bool (show (!(false == (decide ((T1.length : Int) > 0)))) = false from (by rw [decide_eq_false (show ¬ ((T1.length : Int) > 0) by omega)]; rfl)))) (fun g => by kernel_rfl), ob_val fun g w => by kernel_rfl, ob_val fun g w => by kernel_rfl, ob_v (v := fun g => bV false) (fun g => OprV.re (pureV (v := bV (decide (0 < T1.length))) (by kernel_rfl) rfl fun w => by kernel_rfl) (vF h37)) (fun g => by kernel_rfl), ob_val fun g w => by kernel_rfl, ob_val fun g w => by kernel_rfl, ob_val fun g w => by kernel_rfl, ob_val fun g w => by kernel_rfl, ob_val fun g w => by kernel_rfl, ob_val fun g w => by kernel_rfl, ob_val fun g w => by kernel_rfl, ob_val fun g w => by kernel_rfl, ob_val fun g w => by kernel_rfl, ob_val fun g w => by kernel_rfl, ob_val fun g w => by kernel_rfl, ob_val fun g w => by kernel_rfl, ob_val fun g w => by kernel_rfl, ob_val fun g w => by kernel_rfl, ob_val fun g w => by kernel_rfl, ob_val fun g w => by kernel_rfl, ob_val fun g w => by kernel_rfl, trivial⟩
          intro g
          refine Ex'.sub (subB_spec [0, 3, 5, 4, 171]) ?_
          refine Ex'.as [0, 1, 2, 3, 4, 5, 6] (σ' := [(0, .slice (some ⟨g7, off8, none⟩) xs.length cap), (3, pV b2 0), (5, iV (k : Int)), (4, .slice a32 T1.length c33), (171, bV false)]) (Γ' := [oldR w0, hpS b2 T1 n1, blkR b9 [iV kdk, sV kyk, iV rok, iV rtk] 30, vewR 3 (.slice a32 T1.length c33) T1.length (T1.flatMap kr3), blkR b34 [iV (((lk T1 kyk).getD (0, 0)).1), iV (((lk T1 kyk).getD (0, 0)).2)] 28, blkR b35 [iV (((lk T1 kyk).getD (0, 0)).1), iV (((lk T1 kyk).getD (0, 0)).2)] 31, blkR b36 [iV ((htop (⟨#[]⟩, 0, 0) T1).2.1), iV ((htop (⟨#[]⟩, 0, 0) T1).2.2)] 28]) (by kernel_rfl) rfl (by kernel_rfl) (by kernel_rfl) ?_
          refine Ex'.next ?_
          refine Cd.condF (by kernel_rfl) ?_
          refine Cd.skip ?_
          refine Ex'.next ?_
          refine Cd.seq ?_
          refine Cd.region rfl ?_
          refine Sq.vals [0] (rest := [1, 2]) [pV b2 0] (fun w => by kernel_rfl) ?_
          refine Sq.ex [1] (l := [hpS b2 T1 n1]) (o_call (by kernel_rfl) Try.call24 (hp_OrderS (S := T1) (n := n1) (by omega))) (by kernel_rfl) rfl (by kernel_rfl) (fun _ => Nat.le_of_ble_eq_true (by kernel_rfl)) ?_; rintro v46 _
          refine Sq.fact (i := 7) (R := rowR 9 1 v46 ((T1.map (·.1)).length) ((T1.map (·.1)).map Value.string)) (by kernel_rfl) row_slice ?_; rintro ⟨a47, c48, rfl, hc48, hc48'⟩
          have hc48'' : c48 ≤ 9223372036854775807 := hc48'
          refine Sq.vals [2] (rest := []) [.slice a47 ((T1.map (·.1)).length) c48] (fun w => by kernel_rfl) ?_
          refine Sq.done ?_
          refine Ex'.next ?_
          refine Cd.seq ?_
          refine Cd.seq ?_
          refine Cd.region rfl ?_
          refine Sq.vals [0, 1, 2, 3] (rest := [4]) [.slice a47 ((T1.map (·.1)).length) c48, iV ((T1.map (·.1)).length : Int), .slice a32 T1.length c33, iV (T1.length : Int)] (fun w => by kernel_rfl) ?_
          refine Sq.v (r := bV (decide (((T1.map (·.1)).length : Int) ≠ (T1.length : Int)))) (o_neI (k := .i64) (a := ((T1.map (·.1)).length : Int)) (b := (T1.length : Int)) (by kernel_rfl) (by kernel_rfl)) rfl (by kernel_rfl) ?_
          refine Sq.re 178 rfl (vF (fun z => z (by rw [hml]))) ?_
          refine Sq.done ?_
          refine Ex'.next ?_
          refine Cd.condF (by kernel_rfl) ?_
          refine Cd.skip ?_
          refine Ex'.next ?_
          refine Cd.seq ?_
          refine Cd.region rfl ?_
          refine Sq.vals [0] (rest := []) [iV 0] (fun w => by kernel_rfl) ?_
          refine Sq.done ?_
          refine Ex'.next ?_
          refine Cd.block ?_
          refine Cd.loop (ι := Nat) (fun j => j ≤ T1.length) (fun j => T1.length - j) (fun j => [(0, .slice (some ⟨g7, off8, none⟩) xs.length cap), (3, pV b2 0), (5, iV (k : Int)), (4, .slice a32 T1.length c33), (18, .slice a47 ((T1.map (·.1)).length) c48), (19, iV (j : Int))]) (fun j => [oldR w0, hpS b2 T1 n1, blkR b9 [iV kdk, sV kyk, iV rok, iV rtk] 30, vewR 3 (.slice a32 T1.length c33) T1.length (T1.flatMap kr3), blkR b34 [iV (((lk T1 kyk).getD (0, 0)).1), iV (((lk T1 kyk).getD (0, 0)).2)] 28, blkR b35 [iV (((lk T1 kyk).getD (0, 0)).1), iV (((lk T1 kyk).getD (0, 0)).2)] 31, blkR b36 [iV ((htop (⟨#[]⟩, 0, 0) T1).2.1), iV ((htop (⟨#[]⟩, 0, 0) T1).2.2)] 28, rowR 9 1 (.slice a47 ((T1.map (·.1)).length) c48) ((T1.map (·.1)).length) ((T1.map (·.1)).map Value.string)]) 0 (Nat.zero_le _) (subB_eq (l := [0, 3, 5, 4, 18, 19]) (by kernel_rfl)) (fun w hw => hw.pickB [0, 1, 2, 3, 4, 5, 6, 7] (by kernel_rfl) (by kernel_rfl) (by kernel_rfl)) ?_
          rintro j hL49
          try dsimp only at hL49 ⊢
          have hj := hL49
          refine Cd.seq ?_
          refine Cd.seq ?_
          refine Cd.region rfl ?_
          refine Sq.vals [0, 1, 2, 3] (rest := []) [iV (j : Int), .slice a47 ((T1.map (·.1)).length) c48, iV ((T1.map (·.1)).length : Int), bV (decide ((j : Int) < ((T1.map (·.1)).length : Int)))] (fun w => by kernel_rfl) ?_
          refine Sq.done ?_
          refine Ex'.next ?_
          refine Cd.case (p := (j : Int) < ((T1.map (·.1)).length : Int)) (by kernel_rfl) (fun h50 => ?_) (fun h50 => ?_)
          ·
            have hjl : j < T1.length := by omega
            refine Cd.fact (i := 3) (R := vewR 3 (.slice a32 T1.length c33) T1.length (T1.flatMap kr3)) (by kernel_rfl) (vew_addr (by omega)) ?_; rintro ⟨b51, off52, rfl⟩
            refine Cd.fact (i := 7) (R := rowR 9 1 (.slice a47 ((T1.map (·.1)).length) c48) ((T1.map (·.1)).length) ((T1.map (·.1)).map Value.string)) (by kernel_rfl) (row_addr (by omega)) ?_; rintro ⟨b53, rfl⟩
            refine Cd.skip ?_
            refine Ex'.next ?_
            refine Cd.seq ?_
            refine Cd.block ?_
            refine Cd.seq ?_
            refine Cd.plan [0, 0, 3, 7, 0, 0, 48, 112, 240, 511] [(3, [(7, false, 0)]), (8, [(3, false, 0)])] [] [] [] [fun g => .slice (some ⟨b53, 0, none⟩) ((T1.map (·.1)).length) c48, fun g => iV (j : Int), fun g => pV b53 j, fun g => sV ((T1.map (·.1)).getD j ⟨#[]⟩), fun g => .slice (some ⟨b51, off52, none⟩) T1.length c33, fun g => iV (j : Int), fun g => pV b51 (off52 + j * 3), fun g => pV b51 (off52 + j * 3), fun g => sV ((T1.getD j kz3).1), fun g => bV false] (by kernel_rfl) (by kernel_rfl) rfl (trivial) ?_ ?_
            · exact ⟨ob_val fun g w => by kernel_rfl, ob_val fun g w => by kernel_rfl, ob_v (v := fun g => pV b53 j) (fun g => o_idx (b := b53) (cap := c48) (e := 9) (off := 0) (n := (T1.map (·.1)).length) (kd := .i64) (q := (j : Int)) (i := j) (size := 1) (j := j) (by kernel_rfl) (by kernel_rfl) (by rfl) (by omega) Try.underlying47 (by kernel_rfl) (by omega)) (fun g => by kernel_rfl), ob_s (l := fun g => [rowR 9 1 (.slice (some ⟨b53, 0, none⟩) ((T1.map (·.1)).length) c48) ((T1.map (·.1)).length) ((T1.map (·.1)).map Value.string)]) (l' := fun g => [rowR 9 1 (.slice (some ⟨b53, 0, none⟩) ((T1.map (·.1)).length) c48) ((T1.map (·.1)).length) ((T1.map (·.1)).map Value.string)]) (v := fun g => sV ((T1.map (·.1)).getD j ⟨#[]⟩)) (fun g => o_loadRow (i := j) (u := sV ((T1.map (·.1)).getD j ⟨#[]⟩)) (by kernel_rfl) (by omega) (by kernel_rfl) (get_map (by omega))) (fun g => by kernel_rfl), ob_val fun g w => by kernel_rfl, ob_val fun g w => by kernel_rfl, ob_v (v := fun g => pV b51 (off52 + j * 3)) (fun g => o_idx (b := b51) (cap := c33) (e := 41) (off := off52) (n := T1.length) (kd := .i64) (q := (j : Int)) (i := j) (size := 3) (j := off52 + j * 3) (by kernel_rfl) (by kernel_rfl) (by rfl) (by omega) Try.underlying26 (by kernel_rfl) (by omega)) (fun g => by kernel_rfl), ob_val fun g w => by kernel_rfl, ob_s (l := fun g => [vewR 3 (.slice (some ⟨b51, off52, none⟩) T1.length c33) T1.length (T1.flatMap kr3)]) (l' := fun g => [vewR 3 (.slice (some ⟨b51, off52, none⟩) T1.length c33) T1.length (T1.flatMap kr3)]) (v := fun g => sV ((T1.getD j kz3).1)) (fun g => o_loadView (off := off52) (j := j * 3) (u := sV ((T1.getD j kz3).1)) (by kernel_rfl) (by first | omega | (simp only [List.length_set, List.length_append, List.length_take, List.length_singleton] <;> omega)) (by kernel_rfl) ((rec_get (f := kr3) (k := 3) (z := kz3) (l := T1) (i := j) (j := 0) (fun _ => rfl) (by first | omega | (simp only [List.length_set, List.length_append, List.length_take, List.length_singleton] <;> omega)) (by decide)).trans rfl)) (fun g => by kernel_rfl), ob_v (v := fun g => bV false) (fun g => OprV.re (o_neS (a := (T1.map (·.1)).getD j ⟨#[]⟩) (b := (T1.getD j kz3).1) (by kernel_rfl) (by kernel_rfl)) (vF (fun z => z (map_get1 (by omega))))) (fun g => by kernel_rfl), trivial⟩
            intro g
            refine Ex'.sub (subB_spec [0, 3, 5, 4, 18, 19, 194]) ?_
            refine Ex'.as [0, 1, 2, 3, 4, 5, 6, 7] (σ' := [(0, .slice (some ⟨g7, off8, none⟩) xs.length cap), (3, pV b2 0), (5, iV (k : Int)), (4, .slice (some ⟨b51, off52, none⟩) T1.length c33), (18, .slice (some ⟨b53, 0, none⟩) ((T1.map (·.1)).length) c48), (19, iV (j : Int)), (194, bV false)]) (Γ' := [oldR w0, hpS b2 T1 n1, blkR b9 [iV kdk, sV kyk, iV rok, iV rtk] 30, vewR 3 (.slice (some ⟨b51, off52, none⟩) T1.length c33) T1.length (T1.flatMap kr3), blkR b34 [iV (((lk T1 kyk).getD (0, 0)).1), iV (((lk T1 kyk).getD (0, 0)).2)] 28, blkR b35 [iV (((lk T1 kyk).getD (0, 0)).1), iV (((lk T1 kyk).getD (0, 0)).2)] 31, blkR b36 [iV ((htop (⟨#[]⟩, 0, 0) T1).2.1), iV ((htop (⟨#[]⟩, 0, 0) T1).2.2)] 28, rowR 9 1 (.slice (some ⟨b53, 0, none⟩) ((T1.map (·.1)).length) c48) ((T1.map (·.1)).length) ((T1.map (·.1)).map Value.string)]) (by kernel_rfl) rfl (by kernel_rfl) (by kernel_rfl) ?_
            refine Ex'.next ?_
            refine Cd.condF (by kernel_rfl) ?_
            refine Cd.skip ?_
            refine Ex'.blockNormal ?_
            refine Ex'.next ?_
            refine Cd.region rfl ?_
            refine Sq.vals [0] (rest := [1, 2]) [iV (j : Int)] (fun w => by kernel_rfl) ?_
            refine Sq.v (r := iV ((j : Int) + 1)) (o_add (k := .i64) (a := (j : Int)) (b := 1) (c := (j : Int) + 1) (by kernel_rfl) (by kernel_rfl) (w64 rfl (by omega))) rfl (by kernel_rfl) ?_
            refine Sq.vals [2] (rest := []) [iV ((j : Int) + 1)] (fun w => by kernel_rfl) ?_
            refine Sq.done ?_
            refine Ex'.round (g := j) (j + 1) ?_ ?_ (subB_eq (l := [0, 3, 5, 4, 18, 19]) (by kernel_rfl)) (fun w hw => hw.pickB [0, 1, 2, 3, 4, 5, 6, 7] (by kernel_rfl) (by kernel_rfl) (by kernel_rfl))
            · (try dsimp only); exact (by omega : j + 1 ≤ T1.length)
            · omega
          ·
            refine Cd.exit ?_
            refine Ex'.thenExit ?_
            refine Ex'.thenExit ?_
            refine Ex'.blockHit ?_
            refine Ex'.blockNormal ?_
            refine Ex'.next ?_
            refine Cd.region rfl ?_
            refine Sq.vals [0] (rest := [1, 2]) [iV (k : Int)] (fun w => by kernel_rfl) ?_
            refine Sq.v (r := iV ((k : Int) + 1)) (o_add (k := .i64) (a := (k : Int)) (b := 1) (c := (k : Int) + 1) (by kernel_rfl) (by kernel_rfl) (w64 rfl (by omega))) rfl (by kernel_rfl) ?_
            refine Sq.vals [2] (rest := []) [iV ((k : Int) + 1)] (fun w => by kernel_rfl) ?_
            refine Sq.done ?_
            refine Ex'.round (g := (k, T0, n0, .slice a4 T0.length c5)) (k + 1, T1, n1, .slice a32 T1.length c33) ?_ ?_ (subB_eq (l := [0, 3, 5, 4]) (by kernel_rfl)) (fun w hw => hw.pickB [0, 1, 3] (by kernel_rfl) (by kernel_rfl) (by kernel_rfl))
            · (try dsimp only); exact ⟨by omega, by omega⟩
            · omega
    ·
      refine Cd.exit ?_
      refine Ex'.thenExit ?_
      refine Ex'.thenExit ?_
      refine Ex'.blockHit ?_
      refine Ex'.next ?_
      refine Cd.seq ?_
      refine Cd.region rfl ?_
      refine Sq.vals [0] (rest := []) [bV true] (fun w => by kernel_rfl) ?_
      refine Sq.done ?_
      refine Ex'.next ?_
      refine Cd.ret ?_
      refine Ex'.ret Try.results3 (RVs.tmp (v := bV true) (by kernel_rfl) (RVs.nil)) (fun w hw => ?_)
      exact ⟨_, ⟨rfl, by kernel_rfl⟩, hw⟩

theorem heapPlays_walk (v : Value) (ys : List HAct) (w : World) (h : Cells w (fun k => k < w.heap.size) v ys.length 4 (ys.flatMap HAct.cells)) :
    Calls Try.prog 3 #[v] w fun e w' => e = .returned (.bool true) ∧ Below w.heap.size w w' := by
  obtain ⟨a, cap, rfl, hl⟩ := RecsIn.shape (hscr_of h)
  exact law_of (heapPlays_tri hl (hscr_of h))

end Go.Proofs.Ytnnjccfcalgokaa
