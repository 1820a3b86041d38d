/- ValueForever: its walk. -/
import Derived.Test.YtnijaeipkbpibaaDoorValW
import Derived.Test.YtnijaeipkbpibaaDoorErrsW
import Derived.Test.YtnijaeipkbpibaaDoorRefS
import Derived.Test.YtnijaeipkbpibaaDoorSepH
import Derived.Test.YtnijaeipkbpibaaDoorValPure
import Derived.Test.YtnijaeipkbpibaaDoorValAwake
import Derived.Test.YtnijaeipkbpibaaDoorActsV
set_option linter.unusedVariables false
namespace Go.Proofs.YtnijaeipkbpibaaDoor
open Go.RowKit Go.MapKept

set_option maxHeartbeats 8000000 in
set_option maxRecDepth 100000 in
theorem valueForever_tri {w0 : World} {ky tx : ByteArray} {dl nw : Int} (hg : errT w0) (hdl : -9223372036854775808 ≤ dl ∧ dl ≤ 9223372036854775807) (hnw0 : -9223372036854775808 ≤ nw ∧ nw ≤ 9223372036854775807) : Tri Tryd.prog 4 #[sV ky, sV tx, iV dl, iV nw] [oldR w0] (LawP w0) := by
  refine Tri.enter (args := [sV ky, sV tx, iV dl, iV nw]) Tryd.func4 rfl rfl rfl (fun B wz => ?_)
  refine Cd.seq ?_
  refine Cd.region rfl ?_
  refine Sq.vals [0] (rest := []) [bV false] (fun w => by kernel_rfl) ?_
  refine Sq.done ?_
  refine Ex'.next ?_
  refine Cd.seq ?_
  refine Cd.seq ?_
  refine Cd.region rfl ?_
  refine Sq.same [0] (l := [oldR w0]) (o_call (by kernel_rfl) Tryd.call8 (val_awake hg)) (by kernel_rfl) rfl (by kernel_rfl) rfl ?_
  refine Sq.vals [1] (rest := []) [bV false] (fun w => by kernel_rfl) ?_
  refine Sq.done ?_
  refine Ex'.next ?_
  refine Cd.condF (by kernel_rfl) ?_
  refine Cd.skip ?_
  refine Ex'.next ?_
  refine Cd.seq ?_
  refine Cd.seq ?_
  refine Cd.region rfl ?_
  refine Sq.vals [0, 1] (rest := [2, 3, 4, 5, 6, 7, 8, 9, 10, 11, 12, 13, 14, 15, 16]) [sV ky, iV (ky.size : Int)] (fun w => by kernel_rfl) ?_
  refine Sq.v (r := bV (decide ((ky.size : Int) = 0))) (o_eqI (k := .i64) (a := (ky.size : Int)) (b := 0) (by kernel_rfl) (by kernel_rfl)) rfl (by kernel_rfl) ?_
  refine Sq.vals [3] (rest := [4, 5, 6, 7, 8, 9, 10, 11, 12, 13, 14, 15, 16]) [bV (decide ((ky.size : Int) = 0))] (fun w => by kernel_rfl) ?_
  refine Sq.case 23 (p := (ky.size : Int) = 0) rfl (fun h1 => ?_) (fun h1 => ?_)
  ·
    refine Sq.vals [4, 5, 6, 7, 8, 9, 10, 11, 12, 13, 14, 15, 16] (rest := []) [undef, undef, undef, bV true, bV true, undef, undef, undef, bV true, bV true, undef, undef, bV true] (fun w => by kernel_rfl) ?_
    refine Sq.done ?_
    refine Ex'.next ?_
    refine Cd.condT (by kernel_rfl) ?_
    refine Cd.seq ?_
    refine Cd.region rfl ?_
    refine Sq.vals [0] (rest := []) [bV true] (fun w => by kernel_rfl) ?_
    refine Sq.done ?_
    refine Ex'.next ?_
    refine Cd.ret ?_
    refine Ex'.thenRet ?_
    refine Ex'.ret Tryd.results4 (RVs.tmp (v := bV true) (by kernel_rfl) (RVs.nil)) (fun w hw => ?_)
    exact ⟨_, ⟨rfl, by kernel_rfl⟩, hw⟩
  ·
    refine Sq.vals [4, 5, 6, 7, 8] (rest := [9, 10, 11, 12, 13, 14, 15, 16]) [sV ky, iV (ky.size : Int), bV (decide ((ky.size : Int) > 64)), bV (decide ((ky.size : Int) > 64)), bV (decide ((ky.size : Int) > 64))] (fun w => by kernel_rfl) ?_
    refine Sq.case 28 (p := (ky.size : Int) > 64) rfl (fun h2 => ?_) (fun h2 => ?_)
    ·
      refine Sq.vals [9, 10, 11, 12, 13, 14, 15, 16] (rest := []) [undef, undef, undef, bV true, bV true, undef, undef, bV true] (fun w => by kernel_rfl) ?_
      refine Sq.done ?_
      refine Ex'.next ?_
      refine Cd.condT (by kernel_rfl) ?_
      refine Cd.seq ?_
      refine Cd.region rfl ?_
      refine Sq.vals [0] (rest := []) [bV true] (fun w => by kernel_rfl) ?_
      refine Sq.done ?_
      refine Ex'.next ?_
      refine Cd.ret ?_
      refine Ex'.thenRet ?_
      refine Ex'.ret Tryd.results4 (RVs.tmp (v := bV true) (by kernel_rfl) (RVs.nil)) (fun w hw => ?_)
      exact ⟨_, ⟨rfl, by kernel_rfl⟩, hw⟩
    ·
      refine Sq.vals [9, 10, 11, 12, 13] (rest := [14, 15, 16]) [sV tx, iV (tx.size : Int), bV (decide ((tx.size : Int) > 256)), bV (decide ((tx.size : Int) > 256)), bV (decide ((tx.size : Int) > 256))] (fun w => by kernel_rfl) ?_
      refine Sq.case 33 (p := (tx.size : Int) > 256) rfl (fun h3 => ?_) (fun h3 => ?_)
      ·
        refine Sq.vals [14, 15, 16] (rest := []) [undef, undef, bV true] (fun w => by kernel_rfl) ?_
        refine Sq.done ?_
        refine Ex'.next ?_
        refine Cd.condT (by kernel_rfl) ?_
        refine Cd.seq ?_
        refine Cd.region rfl ?_
        refine Sq.vals [0] (rest := []) [bV true] (fun w => by kernel_rfl) ?_
        refine Sq.done ?_
        refine Ex'.next ?_
        refine Cd.ret ?_
        refine Ex'.thenRet ?_
        refine Ex'.ret Tryd.results4 (RVs.tmp (v := bV true) (by kernel_rfl) (RVs.nil)) (fun w hw => ?_)
        exact ⟨_, ⟨rfl, by kernel_rfl⟩, hw⟩
      ·
        refine Sq.vals [14, 15, 16] (rest := []) [iV dl, bV (decide (dl < 1)), bV (decide (dl < 1))] (fun w => by kernel_rfl) ?_
        refine Sq.done ?_
        refine Ex'.next ?_
        refine Cd.case (p := dl < 1) (by kernel_rfl) (fun h4 => ?_) (fun h4 => ?_)
        ·
          refine Cd.seq ?_
          refine Cd.region rfl ?_
          refine Sq.vals [0] (rest := []) [bV true] (fun w => by kernel_rfl) ?_
          refine Sq.done ?_
          refine Ex'.next ?_
          refine Cd.ret ?_
          refine Ex'.thenRet ?_
          refine Ex'.ret Tryd.results4 (RVs.tmp (v := bV true) (by kernel_rfl) (RVs.nil)) (fun w hw => ?_)
          exact ⟨_, ⟨rfl, by kernel_rfl⟩, hw⟩
        ·
          refine Cd.skip ?_
          refine Ex'.next ?_
          refine Cd.seq ?_
          refine Cd.region rfl ?_
          refine Sq.ex [] (l := []) (o_call (by kernel_rfl) Tryd.call10 (Tri.ex (L' := fun x => valL x.1 x.2.1 x.2.2 ([] : List (ByteArray × ByteArray × ByteArray × Int)) ([] : List (KR ByteArray)) 0 0) (val_New) (fun x => rfl))) (by kernel_rfl) rfl (by kernel_rfl) (fun _ => Nat.le_of_ble_eq_true (by kernel_rfl)) ?_; rintro ⟨b5, mb6, qb7⟩ _
          refine Sq.ex [] (l := []) (o_call (by kernel_rfl) Tryd.call10 (Tri.ex (L' := fun x => valL x.1 x.2.1 x.2.2 ([] : List (ByteArray × ByteArray × ByteArray × Int)) ([] : List (KR ByteArray)) 0 0) (val_New) (fun x => rfl))) (by kernel_rfl) rfl (by kernel_rfl) (fun _ => Nat.le_of_ble_eq_true (by kernel_rfl)) ?_; rintro ⟨b8, mb9, qb10⟩ _
          refine Sq.ex [] (l := []) (o_call (by kernel_rfl) Tryd.call10 (Tri.ex (L' := fun x => valL x.1 x.2.1 x.2.2 ([] : List (ByteArray × ByteArray × ByteArray × Int)) ([] : List (KR ByteArray)) 0 0) (val_New) (fun x => rfl))) (by kernel_rfl) rfl (by kernel_rfl) (fun _ => Nat.le_of_ble_eq_true (by kernel_rfl)) ?_; rintro ⟨b11, mb12, qb13⟩ _
          refine Sq.vals [3, 4, 5] (rest := []) [pV b5 0, pV b8 0, pV b11 0] (fun w => by kernel_rfl) ?_
          refine Sq.done ?_
          refine Ex'.next ?_
          refine Cd.seq ?_
          refine Cd.seq ?_
          refine Cd.region rfl ?_
          refine Sq.vals [0, 1, 2, 3, 4, 5, 6, 7, 8, 9] (rest := []) [pV b5 0, bV false, bV false, pV b8 0, bV false, bV false, bV false, pV b11 0, bV false, bV false] (fun w => by kernel_rfl) ?_
          refine Sq.done ?_
          refine Ex'.next ?_
          refine Cd.condF (by kernel_rfl) ?_
          refine Cd.skip ?_
          refine Ex'.next ?_
          refine Cd.seq ?_
          refine Cd.seq ?_
          refine Cd.region rfl ?_
          refine Sq.vals [0, 1, 2, 3] (rest := [4, 5, 6, 7, 8, 9, 10, 11, 12, 13, 14, 15, 16, 17, 18, 19, 20, 21, 22, 23, 24, 25, 26, 27, 28, 29, 30, 31]) [pV b5 0, sV ky, sV tx, .agg #[sV ky, sV tx, iV 0]] (fun w => by kernel_rfl) ?_
          refine Sq.same [1, 2, 3] (l := valL b5 mb6 qb7 ([] : List (ByteArray × ByteArray × ByteArray × Int)) ([] : List (KR ByteArray)) 0 0) (o_call (by kernel_rfl) Tryd.call11 (Tri.eq (l2 := valL b5 mb6 qb7 ([(ky, (ky, tx, 0))] : List (ByteArray × ByteArray × ByteArray × Int)) ([] : List (KR ByteArray)) ((ky.size : Int) + (tx.size : Int)) 1) (r' := .nilIface) (val_PutOk (n := 0) (n' := 1) (M := ([] : List (ByteArray × ByteArray × ByteArray × Int))) (S := ([] : List (KR ByteArray))) (bys := 0) ky tx 0 (by omega) (by omega) (by omega) (by first | exact ItB_nil | exact ItB_one (by omega) (by omega)) (by exact (rightC_of (by omega) (by omega) (by omega) (by omega)))) (by first | rw [put0] | rw [putD (by omega)] | rfl) (by first | rw [put0] | rw [putD (by omega)] | rfl))) (by kernel_rfl) rfl (by kernel_rfl) rfl ?_
          refine Sq.vals [5, 6, 7, 8, 9, 10, 11] (rest := [12, 13, 14, 15, 16, 17, 18, 19, 20, 21, 22, 23, 24, 25, 26, 27, 28, 29, 30, 31]) [bV false, bV false, pV b8 0, sV ky, sV tx, iV dl, .agg #[sV ky, sV tx, iV dl]] (fun w => by kernel_rfl) ?_
          refine Sq.same [4, 5, 6] (l := valL b8 mb9 qb10 ([] : List (ByteArray × ByteArray × ByteArray × Int)) ([] : List (KR ByteArray)) 0 0) (o_call (by kernel_rfl) Tryd.call11 (Tri.eq (l2 := valL b8 mb9 qb10 ([(ky, (ky, tx, dl))] : List (ByteArray × ByteArray × ByteArray × Int)) ([(ky, dl, 0)] : List (KR ByteArray)) ((ky.size : Int) + (tx.size : Int)) 1) (r' := .nilIface) (val_PutOk (n := 0) (n' := 1) (M := ([] : List (ByteArray × ByteArray × ByteArray × Int))) (S := ([] : List (KR ByteArray))) (bys := 0) ky tx dl (by omega) (by omega) (by omega) (by first | exact ItB_nil | exact ItB_one (by omega) (by omega)) (by exact (rightC_of (by omega) (by omega) (by omega) (by omega)))) (by first | rw [put0] | rw [putD (by omega)] | rfl) (by first | rw [put0] | rw [putD (by omega)] | rfl))) (by kernel_rfl) rfl (by kernel_rfl) rfl ?_
          refine Sq.vals [13, 14, 15, 16, 17, 18, 19, 20] (rest := [21, 22, 23, 24, 25, 26, 27, 28, 29, 30, 31]) [bV false, bV false, bV false, pV b11 0, sV ky, sV tx, iV dl, .agg #[sV ky, sV tx, iV dl]] (fun w => by kernel_rfl) ?_
          refine Sq.same [7, 8, 9] (l := valL b11 mb12 qb13 ([] : List (ByteArray × ByteArray × ByteArray × Int)) ([] : List (KR ByteArray)) 0 0) (o_call (by kernel_rfl) Tryd.call11 (Tri.eq (l2 := valL b11 mb12 qb13 ([(ky, (ky, tx, dl))] : List (ByteArray × ByteArray × ByteArray × Int)) ([(ky, dl, 0)] : List (KR ByteArray)) ((ky.size : Int) + (tx.size : Int)) 1) (r' := .nilIface) (val_PutOk (n := 0) (n' := 1) (M := ([] : List (ByteArray × ByteArray × ByteArray × Int))) (S := ([] : List (KR ByteArray))) (bys := 0) ky tx dl (by omega) (by omega) (by omega) (by first | exact ItB_nil | exact ItB_one (by omega) (by omega)) (by exact (rightC_of (by omega) (by omega) (by omega) (by omega)))) (by first | rw [put0] | rw [putD (by omega)] | rfl) (by first | rw [put0] | rw [putD (by omega)] | rfl))) (by kernel_rfl) rfl (by kernel_rfl) rfl ?_
          refine Sq.vals [22, 23, 24, 25, 26, 27, 28] (rest := [29, 30, 31]) [bV false, bV false, bV false, pV b11 0, sV ky, sV tx, .agg #[sV ky, sV tx, iV 0]] (fun w => by kernel_rfl) ?_
          refine Sq.same [7, 8, 9] (l := valL b11 mb12 qb13 ([(ky, (ky, tx, dl))] : List (ByteArray × ByteArray × ByteArray × Int)) ([(ky, dl, 0)] : List (KR ByteArray)) ((ky.size : Int) + (tx.size : Int)) 1) (o_call (by kernel_rfl) Tryd.call11 (Tri.eq (l2 := valL b11 mb12 qb13 ([(ky, (ky, tx, 0))] : List (ByteArray × ByteArray × ByteArray × Int)) ([] : List (KR ByteArray)) ((ky.size : Int) + (tx.size : Int)) 2) (r' := .nilIface) (val_PutOk (n := 1) (n' := 2) (M := ([(ky, (ky, tx, dl))] : List (ByteArray × ByteArray × ByteArray × Int))) (S := ([(ky, dl, 0)] : List (KR ByteArray))) (bys := (ky.size : Int) + (tx.size : Int)) ky tx 0 (by omega) (by omega) (by omega) (by first | exact ItB_nil | exact ItB_one (by omega) (by omega)) (by exact (rightC_of (by omega) (by omega) (by omega) (by omega)))) (by first | rw [putR (by omega)] | rfl) (by first | rw [putR (by omega)] | rfl))) (by kernel_rfl) rfl (by kernel_rfl) rfl ?_
          refine Sq.vals [30, 31] (rest := []) [bV false, bV false] (fun w => by kernel_rfl) ?_
          refine Sq.done ?_
          refine Ex'.next ?_
          refine Cd.condF (by kernel_rfl) ?_
          refine Cd.skip ?_
          refine Ex'.next ?_
          refine Cd.seq ?_
          refine Cd.region rfl ?_
          refine Sq.vals [0, 1, 2] (rest := [3, 4, 5, 6, 7, 8, 9]) [pV b5 0, sV ky, iV nw] (fun w => by kernel_rfl) ?_
          refine Sq.same [1, 2, 3] (l := [valB b5 mb6 qb7 ((ky.size : Int) + (tx.size : Int)), mapR Value.string itV mb6 ([(ky, (ky, tx, 0))] : List (ByteArray × ByteArray × ByteArray × Int)), hpS qb7 ([] : List (KR ByteArray)) 1]) (o_call (by kernel_rfl) Tryd.call12 (val_GetOk (n := 1) (M := ([(ky, (ky, tx, 0))] : List (ByteArray × ByteArray × ByteArray × Int))) (S := ([] : List (KR ByteArray))) (bys := (ky.size : Int) + (tx.size : Int)) ky nw get_one0)) (by kernel_rfl) rfl (by kernel_rfl) rfl ?_
          refine Sq.vals [4, 5, 6] (rest := [7, 8, 9]) [.tuple #[.agg #[sV (((lk ([(ky, (ky, tx, 0))] : List (ByteArray × ByteArray × ByteArray × Int)) ky).getD ((⟨#[]⟩, ⟨#[]⟩, 0) : ByteArray × ByteArray × Int)).1), sV (((lk ([(ky, (ky, tx, 0))] : List (ByteArray × ByteArray × ByteArray × Int)) ky).getD ((⟨#[]⟩, ⟨#[]⟩, 0) : ByteArray × ByteArray × Int)).2.1), iV (((lk ([(ky, (ky, tx, 0))] : List (ByteArray × ByteArray × ByteArray × Int)) ky).getD ((⟨#[]⟩, ⟨#[]⟩, 0) : ByteArray × ByteArray × Int)).2.2)], .nilIface], .agg #[sV (((lk ([(ky, (ky, tx, 0))] : List (ByteArray × ByteArray × ByteArray × Int)) ky).getD ((⟨#[]⟩, ⟨#[]⟩, 0) : ByteArray × ByteArray × Int)).1), sV (((lk ([(ky, (ky, tx, 0))] : List (ByteArray × ByteArray × ByteArray × Int)) ky).getD ((⟨#[]⟩, ⟨#[]⟩, 0) : ByteArray × ByteArray × Int)).2.1), iV (((lk ([(ky, (ky, tx, 0))] : List (ByteArray × ByteArray × ByteArray × Int)) ky).getD ((⟨#[]⟩, ⟨#[]⟩, 0) : ByteArray × ByteArray × Int)).2.2)], .nilIface] (fun w => by kernel_rfl) ?_
          refine Sq.ex [] (l := []) (o_new [sV ⟨#[]⟩, sV ⟨#[]⟩, iV 0] (fun w => by kernel_rfl)) (by kernel_rfl) rfl (by kernel_rfl) (fun _ => Nat.zero_le _) ?_; intro b14 _
          refine Sq.same [10] (l := [blkR b14 [sV ⟨#[]⟩, sV ⟨#[]⟩, iV 0] 24]) (o_store (i := 0) (v := .agg #[sV (((lk ([(ky, (ky, tx, 0))] : List (ByteArray × ByteArray × ByteArray × Int)) ky).getD ((⟨#[]⟩, ⟨#[]⟩, 0) : ByteArray × ByteArray × Int)).1), sV (((lk ([(ky, (ky, tx, 0))] : List (ByteArray × ByteArray × ByteArray × Int)) ky).getD ((⟨#[]⟩, ⟨#[]⟩, 0) : ByteArray × ByteArray × Int)).2.1), iV (((lk ([(ky, (ky, tx, 0))] : List (ByteArray × ByteArray × ByteArray × Int)) ky).getD ((⟨#[]⟩, ⟨#[]⟩, 0) : ByteArray × ByteArray × Int)).2.2)]) (by kernel_rfl) (by kernel_rfl) (by kernel_rfl) (by kernel_rfl) (by kernel_rfl)) (by kernel_rfl) rfl (by kernel_rfl) rfl ?_
          refine Sq.vals [9] (rest := []) [.nilIface] (fun w => by kernel_rfl) ?_
          refine Sq.done ?_
          refine Ex'.next ?_
          refine Cd.seq ?_
          refine Cd.region rfl ?_
          refine Sq.vals [0, 1, 2] (rest := [3, 4, 5, 6, 7, 8, 9]) [pV b8 0, sV ky, iV nw] (fun w => by kernel_rfl) ?_
          by_cases h15 : getOk ([(ky, (ky, tx, dl))] : List (ByteArray × ByteArray × ByteArray × Int)) ky nw
          ·
            have hnw : nw < dl := (get_one (by omega)).1 h15
            refine Sq.same [4, 5, 6] (l := [valB b8 mb9 qb10 ((ky.size : Int) + (tx.size : Int)), mapR Value.string itV mb9 ([(ky, (ky, tx, dl))] : List (ByteArray × ByteArray × ByteArray × Int)), hpS qb10 ([(ky, dl, 0)] : List (KR ByteArray)) 1]) (o_call (by kernel_rfl) Tryd.call12 (val_GetOk (n := 1) (M := ([(ky, (ky, tx, dl))] : List (ByteArray × ByteArray × ByteArray × Int))) (S := ([(ky, dl, 0)] : List (KR ByteArray))) (bys := (ky.size : Int) + (tx.size : Int)) ky nw h15)) (by kernel_rfl) rfl (by kernel_rfl) rfl ?_
            refine Sq.vals [4, 5, 6] (rest := [7, 8, 9]) [.tuple #[.agg #[sV (((lk ([(ky, (ky, tx, dl))] : List (ByteArray × ByteArray × ByteArray × Int)) ky).getD ((⟨#[]⟩, ⟨#[]⟩, 0) : ByteArray × ByteArray × Int)).1), sV (((lk ([(ky, (ky, tx, dl))] : List (ByteArray × ByteArray × ByteArray × Int)) ky).getD ((⟨#[]⟩, ⟨#[]⟩, 0) : ByteArray × ByteArray × Int)).2.1), iV (((lk ([(ky, (ky, tx, dl))] : List (ByteArray × ByteArray × ByteArray × Int)) ky).getD ((⟨#[]⟩, ⟨#[]⟩, 0) : ByteArray × ByteArray × Int)).2.2)], .nilIface], .agg #[sV (((lk ([(ky, (ky, tx, dl))] : List (ByteArray × ByteArray × ByteArray × Int)) ky).getD ((⟨#[]⟩, ⟨#[]⟩, 0) : ByteArray × ByteArray × Int)).1), sV (((lk ([(ky, (ky, tx, dl))] : List (ByteArray × ByteArray × ByteArray × Int)) ky).getD ((⟨#[]⟩, ⟨#[]⟩, 0) : ByteArray × ByteArray × Int)).2.1), iV (((lk ([(ky, (ky, tx, dl))] : List (ByteArray × ByteArray × ByteArray × Int)) ky).getD ((⟨#[]⟩, ⟨#[]⟩, 0) : ByteArray × ByteArray × Int)).2.2)], .nilIface] (fun w => by kernel_rfl) ?_
            refine Sq.ex [] (l := []) (o_new [sV ⟨#[]⟩, sV ⟨#[]⟩, iV 0] (fun w => by kernel_rfl)) (by kernel_rfl) rfl (by kernel_rfl) (fun _ => Nat.zero_le _) ?_; intro b16 _
            refine Sq.same [11] (l := [blkR b16 [sV ⟨#[]⟩, sV ⟨#[]⟩, iV 0] 24]) (o_store (i := 0) (v := .agg #[sV (((lk ([(ky, (ky, tx, dl))] : List (ByteArray × ByteArray × ByteArray × Int)) ky).getD ((⟨#[]⟩, ⟨#[]⟩, 0) : ByteArray × ByteArray × Int)).1), sV (((lk ([(ky, (ky, tx, dl))] : List (ByteArray × ByteArray × ByteArray × Int)) ky).getD ((⟨#[]⟩, ⟨#[]⟩, 0) : ByteArray × ByteArray × Int)).2.1), iV (((lk ([(ky, (ky, tx, dl))] : List (ByteArray × ByteArray × ByteArray × Int)) ky).getD ((⟨#[]⟩, ⟨#[]⟩, 0) : ByteArray × ByteArray × Int)).2.2)]) (by kernel_rfl) (by kernel_rfl) (by kernel_rfl) (by kernel_rfl) (by kernel_rfl)) (by kernel_rfl) rfl (by kernel_rfl) rfl ?_
            refine Sq.vals [9] (rest := []) [.nilIface] (fun w => by kernel_rfl) ?_
            refine Sq.done ?_
            refine Ex'.next ?_
            refine Cd.seq ?_
            refine Cd.region rfl ?_
            refine Sq.vals [0, 1, 2] (rest := [3, 4, 5, 6, 7, 8, 9]) [pV b11 0, sV ky, iV nw] (fun w => by kernel_rfl) ?_
            refine Sq.same [7, 8, 9] (l := [valB b11 mb12 qb13 ((ky.size : Int) + (tx.size : Int)), mapR Value.string itV mb12 ([(ky, (ky, tx, 0))] : List (ByteArray × ByteArray × ByteArray × Int)), hpS qb13 ([] : List (KR ByteArray)) 2]) (o_call (by kernel_rfl) Tryd.call12 (val_GetOk (n := 2) (M := ([(ky, (ky, tx, 0))] : List (ByteArray × ByteArray × ByteArray × Int))) (S := ([] : List (KR ByteArray))) (bys := (ky.size : Int) + (tx.size : Int)) ky nw get_one0)) (by kernel_rfl) rfl (by kernel_rfl) rfl ?_
            refine Sq.vals [4, 5, 6] (rest := [7, 8, 9]) [.tuple #[.agg #[sV (((lk ([(ky, (ky, tx, 0))] : List (ByteArray × ByteArray × ByteArray × Int)) ky).getD ((⟨#[]⟩, ⟨#[]⟩, 0) : ByteArray × ByteArray × Int)).1), sV (((lk ([(ky, (ky, tx, 0))] : List (ByteArray × ByteArray × ByteArray × Int)) ky).getD ((⟨#[]⟩, ⟨#[]⟩, 0) : ByteArray × ByteArray × Int)).2.1), iV (((lk ([(ky, (ky, tx, 0))] : List (ByteArray × ByteArray × ByteArray × Int)) ky).getD ((⟨#[]⟩, ⟨#[]⟩, 0) : ByteArray × ByteArray × Int)).2.2)], .nilIface], .agg #[sV (((lk ([(ky, (ky, tx, 0))] : List (ByteArray × ByteArray × ByteArray × Int)) ky).getD ((⟨#[]⟩, ⟨#[]⟩, 0) : ByteArray × ByteArray × Int)).1), sV (((lk ([(ky, (ky, tx, 0))] : List (ByteArray × ByteArray × ByteArray × Int)) ky).getD ((⟨#[]⟩, ⟨#[]⟩, 0) : ByteArray × ByteArray × Int)).2.1), iV (((lk ([(ky, (ky, tx, 0))] : List (ByteArray × ByteArray × ByteArray × Int)) ky).getD ((⟨#[]⟩, ⟨#[]⟩, 0) : ByteArray × ByteArray × Int)).2.2)], .nilIface] (fun w => by kernel_rfl) ?_
            refine Sq.ex [] (l := []) (o_new [sV ⟨#[]⟩, sV ⟨#[]⟩, iV 0] (fun w => by kernel_rfl)) (by kernel_rfl) rfl (by kernel_rfl) (fun _ => Nat.zero_le _) ?_; intro b17 _
            refine Sq.same [12] (l := [blkR b17 [sV ⟨#[]⟩, sV ⟨#[]⟩, iV 0] 24]) (o_store (i := 0) (v := .agg #[sV (((lk ([(ky, (ky, tx, 0))] : List (ByteArray × ByteArray × ByteArray × Int)) ky).getD ((⟨#[]⟩, ⟨#[]⟩, 0) : ByteArray × ByteArray × Int)).1), sV (((lk ([(ky, (ky, tx, 0))] : List (ByteArray × ByteArray × ByteArray × Int)) ky).getD ((⟨#[]⟩, ⟨#[]⟩, 0) : ByteArray × ByteArray × Int)).2.1), iV (((lk ([(ky, (ky, tx, 0))] : List (ByteArray × ByteArray × ByteArray × Int)) ky).getD ((⟨#[]⟩, ⟨#[]⟩, 0) : ByteArray × ByteArray × Int)).2.2)]) (by kernel_rfl) (by kernel_rfl) (by kernel_rfl) (by kernel_rfl) (by kernel_rfl)) (by kernel_rfl) rfl (by kernel_rfl) rfl ?_
            refine Sq.vals [9] (rest := []) [.nilIface] (fun w => by kernel_rfl) ?_
            refine Sq.done ?_
            refine Ex'.next ?_
            refine Cd.seq ?_
            refine Cd.seq ?_
            refine Cd.region rfl ?_
            refine Sq.vals [0, 1, 2, 3] (rest := [4, 5, 6, 7, 8, 9, 10, 11, 12, 13, 14, 15, 16, 17, 18, 19, 20, 21, 22, 23, 24]) [.nilIface, bV false, bV false, pV b14 1] (fun w => by kernel_rfl) ?_
            refine Sq.same [10] (l := [blkR b14 [sV (((lk ([(ky, (ky, tx, 0))] : List (ByteArray × ByteArray × ByteArray × Int)) ky).getD ((⟨#[]⟩, ⟨#[]⟩, 0) : ByteArray × ByteArray × Int)).1), sV (((lk ([(ky, (ky, tx, 0))] : List (ByteArray × ByteArray × ByteArray × Int)) ky).getD ((⟨#[]⟩, ⟨#[]⟩, 0) : ByteArray × ByteArray × Int)).2.1), iV (((lk ([(ky, (ky, tx, 0))] : List (ByteArray × ByteArray × ByteArray × Int)) ky).getD ((⟨#[]⟩, ⟨#[]⟩, 0) : ByteArray × ByteArray × Int)).2.2)] 24]) (o_load (i := 1) (v := sV (((lk ([(ky, (ky, tx, 0))] : List (ByteArray × ByteArray × ByteArray × Int)) ky).getD ((⟨#[]⟩, ⟨#[]⟩, 0) : ByteArray × ByteArray × Int)).2.1)) (by kernel_rfl) (by kernel_rfl) (by kernel_rfl)) (by kernel_rfl) rfl (by kernel_rfl) rfl ?_
            refine Sq.vals [5] (rest := [6, 7, 8, 9, 10, 11, 12, 13, 14, 15, 16, 17, 18, 19, 20, 21, 22, 23, 24]) [sV tx] (fun w => by kernel_rfl) ?_
            refine Sq.v (r := bV (decide (((lk ([(ky, (ky, tx, 0))] : List (ByteArray × ByteArray × ByteArray × Int)) ky).getD ((⟨#[]⟩, ⟨#[]⟩, 0) : ByteArray × ByteArray × Int)).2.1 ≠ tx))) (o_neS (a := ((lk ([(ky, (ky, tx, 0))] : List (ByteArray × ByteArray × ByteArray × Int)) ky).getD ((⟨#[]⟩, ⟨#[]⟩, 0) : ByteArray × ByteArray × Int)).2.1) (b := tx) (by kernel_rfl) (by kernel_rfl)) rfl (by kernel_rfl) ?_
            refine Sq.re 109 rfl (vF (fun z => z (by simp [lk]))) ?_
            refine Sq.vals [7, 8, 9, 10, 11, 12] (rest := [13, 14, 15, 16, 17, 18, 19, 20, 21, 22, 23, 24]) [bV false, bV false, .nilIface, bV true, iV nw, iV dl] (fun w => by kernel_rfl) ?_
            refine Sq.v (r := bV (decide (nw < dl))) (pureV (by kernel_rfl) rfl fun w => by kernel_rfl) rfl (by kernel_rfl) ?_
            refine Sq.re 116 rfl (vT hnw) ?_
            refine Sq.vals [14, 15, 16, 17, 18, 19, 20, 21] (rest := [22, 23, 24]) [bV false, bV false, bV false, .nilIface, bV false, bV false, bV false, pV b17 2] (fun w => by kernel_rfl) ?_
            refine Sq.same [12] (l := [blkR b17 [sV (((lk ([(ky, (ky, tx, 0))] : List (ByteArray × ByteArray × ByteArray × Int)) ky).getD ((⟨#[]⟩, ⟨#[]⟩, 0) : ByteArray × ByteArray × Int)).1), sV (((lk ([(ky, (ky, tx, 0))] : List (ByteArray × ByteArray × ByteArray × Int)) ky).getD ((⟨#[]⟩, ⟨#[]⟩, 0) : ByteArray × ByteArray × Int)).2.1), iV (((lk ([(ky, (ky, tx, 0))] : List (ByteArray × ByteArray × ByteArray × Int)) ky).getD ((⟨#[]⟩, ⟨#[]⟩, 0) : ByteArray × ByteArray × Int)).2.2)] 24]) (o_load (i := 2) (v := iV (((lk ([(ky, (ky, tx, 0))] : List (ByteArray × ByteArray × ByteArray × Int)) ky).getD ((⟨#[]⟩, ⟨#[]⟩, 0) : ByteArray × ByteArray × Int)).2.2)) (by kernel_rfl) (by kernel_rfl) (by kernel_rfl)) (by kernel_rfl) rfl (by kernel_rfl) rfl ?_
            refine Sq.v (r := bV (decide (((lk ([(ky, (ky, tx, 0))] : List (ByteArray × ByteArray × ByteArray × Int)) ky).getD ((⟨#[]⟩, ⟨#[]⟩, 0) : ByteArray × ByteArray × Int)).2.2 ≠ 0))) (o_neI (k := .i64) (a := ((lk ([(ky, (ky, tx, 0))] : List (ByteArray × ByteArray × ByteArray × Int)) ky).getD ((⟨#[]⟩, ⟨#[]⟩, 0) : ByteArray × ByteArray × Int)).2.2) (b := 0) (by kernel_rfl) (by kernel_rfl)) rfl (by kernel_rfl) ?_
            refine Sq.re 126 rfl (vF (fun z => z (by simp [lk]))) ?_
            refine Sq.vals [24] (rest := []) [bV false] (fun w => by kernel_rfl) ?_
            refine Sq.done ?_
            refine Ex'.next ?_
            refine Cd.condF (by kernel_rfl) ?_
            refine Cd.skip ?_
            refine Ex'.next ?_
            refine Cd.seq ?_
            refine Cd.region rfl ?_
            refine Sq.vals [0, 1] (rest := [2, 3, 4, 5, 6, 7, 8, 9, 10, 11, 12, 13, 14, 15, 16, 17, 18, 19, 20, 21, 22, 23]) [pV b5 0, iV nw] (fun w => by kernel_rfl) ?_
            refine Sq.ex [1, 2, 3] (l := [valB b5 mb6 qb7 ((ky.size : Int) + (tx.size : Int)), mapR Value.string itV mb6 ([(ky, (ky, tx, 0))] : List (ByteArray × ByteArray × ByteArray × Int)), hpS qb7 ([] : List (KR ByteArray)) 1]) (o_call (by kernel_rfl) Tryd.call15 (Tri.ex (L' := fun v => valL b5 mb6 qb7 ([(ky, (ky, tx, 0))] : List (ByteArray × ByteArray × ByteArray × Int)) ([] : List (KR ByteArray)) ((ky.size : Int) + (tx.size : Int)) 1 ++ [rowR 9 1 v (([] : List ByteArray)).length ((([] : List ByteArray)).map Value.string)]) (val_Expire (n := 1) (M := ([(ky, (ky, tx, 0))] : List (ByteArray × ByteArray × ByteArray × Int))) (S := ([] : List (KR ByteArray))) (bys := (ky.size : Int) + (tx.size : Int)) nw (by omega) (by first | omega | (constructor <;> decide)) (by first | exact ItB_nil | exact ItB_one (by omega) (by omega)) (by first | exact EndsIn_nil | exact EndsIn_one)) (fun v => by rw [exp0]))) (by kernel_rfl) rfl (by kernel_rfl) (fun _ => Nat.le_of_ble_eq_true (by kernel_rfl)) ?_; rintro v18 _
            refine Sq.fact (i := 13) (R := rowR 9 1 v18 (([] : List ByteArray).length) (([] : List ByteArray).map Value.string)) (by kernel_rfl) row_slice ?_; rintro ⟨a19, c20, rfl, hc20, hc20'⟩
            have hc20'' : c20 ≤ 9223372036854775807 := hc20'
            refine Sq.vals [3] (rest := [4, 5, 6, 7, 8, 9, 10, 11, 12, 13, 14, 15, 16, 17, 18, 19, 20, 21, 22, 23]) [iV (([] : List ByteArray).length : Int)] (fun w => by kernel_rfl) ?_
            refine Sq.v (r := bV (decide ((([] : List ByteArray).length : Int) = 0))) (o_eqI (k := .i64) (a := (([] : List ByteArray).length : Int)) (b := 0) (by kernel_rfl) (by kernel_rfl)) rfl (by kernel_rfl) ?_
            refine Sq.re 132 rfl (vT rfl) ?_
            refine Sq.vals [5, 6, 7] (rest := [8, 9, 10, 11, 12, 13, 14, 15, 16, 17, 18, 19, 20, 21, 22, 23]) [bV true, pV b11 0, iV nw] (fun w => by kernel_rfl) ?_
            refine Sq.ex [7, 8, 9] (l := [valB b11 mb12 qb13 ((ky.size : Int) + (tx.size : Int)), mapR Value.string itV mb12 ([(ky, (ky, tx, 0))] : List (ByteArray × ByteArray × ByteArray × Int)), hpS qb13 ([] : List (KR ByteArray)) 2]) (o_call (by kernel_rfl) Tryd.call15 (Tri.ex (L' := fun v => valL b11 mb12 qb13 ([(ky, (ky, tx, 0))] : List (ByteArray × ByteArray × ByteArray × Int)) ([] : List (KR ByteArray)) ((ky.size : Int) + (tx.size : Int)) 2 ++ [rowR 9 1 v (([] : List ByteArray)).length ((([] : List ByteArray)).map Value.string)]) (val_Expire (n := 2) (M := ([(ky, (ky, tx, 0))] : List (ByteArray × ByteArray × ByteArray × Int))) (S := ([] : List (KR ByteArray))) (bys := (ky.size : Int) + (tx.size : Int)) nw (by omega) (by first | omega | (constructor <;> decide)) (by first | exact ItB_nil | exact ItB_one (by omega) (by omega)) (by first | exact EndsIn_nil | exact EndsIn_one)) (fun v => by rw [exp0]))) (by kernel_rfl) rfl (by kernel_rfl) (fun _ => Nat.le_of_ble_eq_true (by kernel_rfl)) ?_; rintro v21 _
            refine Sq.fact (i := 14) (R := rowR 9 1 v21 (([] : List ByteArray).length) (([] : List ByteArray).map Value.string)) (by kernel_rfl) row_slice ?_; rintro ⟨a22, c23, rfl, hc23, hc23'⟩
            have hc23'' : c23 ≤ 9223372036854775807 := hc23'
            refine Sq.vals [9] (rest := [10, 11, 12, 13, 14, 15, 16, 17, 18, 19, 20, 21, 22, 23]) [iV (([] : List ByteArray).length : Int)] (fun w => by kernel_rfl) ?_
            refine Sq.v (r := bV (decide ((([] : List ByteArray).length : Int) = 0))) (o_eqI (k := .i64) (a := (([] : List ByteArray).length : Int)) (b := 0) (by kernel_rfl) (by kernel_rfl)) rfl (by kernel_rfl) ?_
            refine Sq.re 138 rfl (vT rfl) ?_
            refine Sq.vals [11, 12, 13, 14] (rest := [15, 16, 17, 18, 19, 20, 21, 22, 23]) [bV true, bV true, pV b8 0, iV nw] (fun w => by kernel_rfl) ?_
            refine Sq.ex [4, 5, 6] (l := [valB b8 mb9 qb10 ((ky.size : Int) + (tx.size : Int)), mapR Value.string itV mb9 ([(ky, (ky, tx, dl))] : List (ByteArray × ByteArray × ByteArray × Int)), hpS qb10 ([(ky, dl, 0)] : List (KR ByteArray)) 1]) (o_call (by kernel_rfl) Tryd.call15 (Tri.ex (L' := fun v => valL b8 mb9 qb10 ([(ky, (ky, tx, dl))] : List (ByteArray × ByteArray × ByteArray × Int)) ([(ky, dl, 0)] : List (KR ByteArray)) ((ky.size : Int) + (tx.size : Int)) 1 ++ [rowR 9 1 v (([] : List ByteArray)).length ((([] : List ByteArray)).map Value.string)]) (val_Expire (n := 1) (M := ([(ky, (ky, tx, dl))] : List (ByteArray × ByteArray × ByteArray × Int))) (S := ([(ky, dl, 0)] : List (KR ByteArray))) (bys := (ky.size : Int) + (tx.size : Int)) nw (by omega) (by first | omega | (constructor <;> decide)) (by first | exact ItB_nil | exact ItB_one (by omega) (by omega)) (by first | exact EndsIn_nil | exact EndsIn_one)) (fun v => by rw [expMiss ((get_one (by omega)).1 h15)]))) (by kernel_rfl) rfl (by kernel_rfl) (fun _ => Nat.le_of_ble_eq_true (by kernel_rfl)) ?_; rintro v24 _
            refine Sq.fact (i := 15) (R := rowR 9 1 v24 (([] : List ByteArray).length) (([] : List ByteArray).map Value.string)) (by kernel_rfl) row_slice ?_; rintro ⟨a25, c26, rfl, hc26, hc26'⟩
            have hc26'' : c26 ≤ 9223372036854775807 := hc26'
            refine Sq.vals [16] (rest := [17, 18, 19, 20, 21, 22, 23]) [iV (([] : List ByteArray).length : Int)] (fun w => by kernel_rfl) ?_
            refine Sq.v (r := bV (decide ((([] : List ByteArray).length : Int) = 1))) (o_eqI (k := .i64) (a := (([] : List ByteArray).length : Int)) (b := 1) (by kernel_rfl) (by kernel_rfl)) rfl (by kernel_rfl) ?_
            refine Sq.re 145 rfl (vF (by simp)) ?_
            refine Sq.vals [18, 19] (rest := [20, 21, 22, 23]) [iV nw, iV dl] (fun w => by kernel_rfl) ?_
            refine Sq.v (r := bV (decide (nw ≥ dl))) (pureV (by kernel_rfl) rfl fun w => by kernel_rfl) rfl (by kernel_rfl) ?_
            refine Sq.re 148 rfl (vF (by omega)) ?_
            refine Sq.vals [21, 22, 23] (rest := []) [bV true, bV true, bV true] (fun w => by kernel_rfl) ?_
            refine Sq.done ?_
            refine Ex'.next ?_
            refine Cd.ret ?_
            refine Ex'.ret Tryd.results4 (RVs.tmp (v := bV true) (by kernel_rfl) (RVs.nil)) (fun w hw => ?_)
            exact ⟨_, ⟨rfl, by kernel_rfl⟩, hw⟩
          ·
            have hnw : ¬ nw < dl := fun q => h15 ((get_one (by omega)).2 q)
            refine Sq.ex [4, 5, 6] (l := [valB b8 mb9 qb10 ((ky.size : Int) + (tx.size : Int)), mapR Value.string itV mb9 ([(ky, (ky, tx, dl))] : List (ByteArray × ByteArray × ByteArray × Int)), hpS qb10 ([(ky, dl, 0)] : List (KR ByteArray)) 1]) (o_call (by kernel_rfl) Tryd.call12 (val_GetBad (n := 1) (M := ([(ky, (ky, tx, dl))] : List (ByteArray × ByteArray × ByteArray × Int))) (S := ([(ky, dl, 0)] : List (KR ByteArray))) (bys := (ky.size : Int) + (tx.size : Int)) ky nw h15)) (by kernel_rfl) rfl (by kernel_rfl) (fun _ => Nat.le_of_ble_eq_true (by kernel_rfl)) ?_; rintro b27 _
            refine Sq.vals [4, 5, 6] (rest := [7, 8, 9]) [.tuple #[.agg #[sV ⟨#[]⟩, sV ⟨#[]⟩, iV 0], .iface 83 (pV b27 0)], .agg #[sV ⟨#[]⟩, sV ⟨#[]⟩, iV 0], .iface 83 (pV b27 0)] (fun w => by kernel_rfl) ?_
            refine Sq.ex [] (l := []) (o_new [sV ⟨#[]⟩, sV ⟨#[]⟩, iV 0] (fun w => by kernel_rfl)) (by kernel_rfl) rfl (by kernel_rfl) (fun _ => Nat.zero_le _) ?_; intro b28 _
            refine Sq.same [12] (l := [blkR b28 [sV ⟨#[]⟩, sV ⟨#[]⟩, iV 0] 24]) (o_store (i := 0) (v := .agg #[sV ⟨#[]⟩, sV ⟨#[]⟩, iV 0]) (by kernel_rfl) (by kernel_rfl) (by kernel_rfl) (by kernel_rfl) (by kernel_rfl)) (by kernel_rfl) rfl (by kernel_rfl) rfl ?_
            refine Sq.vals [9] (rest := []) [.iface 83 (pV b27 0)] (fun w => by kernel_rfl) ?_
            refine Sq.done ?_
            refine Ex'.next ?_
            refine Cd.seq ?_
            refine Cd.region rfl ?_
            refine Sq.vals [0, 1, 2] (rest := [3, 4, 5, 6, 7, 8, 9]) [pV b11 0, sV ky, iV nw] (fun w => by kernel_rfl) ?_
            refine Sq.same [7, 8, 9] (l := [valB b11 mb12 qb13 ((ky.size : Int) + (tx.size : Int)), mapR Value.string itV mb12 ([(ky, (ky, tx, 0))] : List (ByteArray × ByteArray × ByteArray × Int)), hpS qb13 ([] : List (KR ByteArray)) 2]) (o_call (by kernel_rfl) Tryd.call12 (val_GetOk (n := 2) (M := ([(ky, (ky, tx, 0))] : List (ByteArray × ByteArray × ByteArray × Int))) (S := ([] : List (KR ByteArray))) (bys := (ky.size : Int) + (tx.size : Int)) ky nw get_one0)) (by kernel_rfl) rfl (by kernel_rfl) rfl ?_
            refine Sq.vals [4, 5, 6] (rest := [7, 8, 9]) [.tuple #[.agg #[sV (((lk ([(ky, (ky, tx, 0))] : List (ByteArray × ByteArray × ByteArray × Int)) ky).getD ((⟨#[]⟩, ⟨#[]⟩, 0) : ByteArray × ByteArray × Int)).1), sV (((lk ([(ky, (ky, tx, 0))] : List (ByteArray × ByteArray × ByteArray × Int)) ky).getD ((⟨#[]⟩, ⟨#[]⟩, 0) : ByteArray × ByteArray × Int)).2.1), iV (((lk ([(ky, (ky, tx, 0))] : List (ByteArray × ByteArray × ByteArray × Int)) ky).getD ((⟨#[]⟩, ⟨#[]⟩, 0) : ByteArray × ByteArray × Int)).2.2)], .nilIface], .agg #[sV (((lk ([(ky, (ky, tx, 0))] : List (ByteArray × ByteArray × ByteArray × Int)) ky).getD ((⟨#[]⟩, ⟨#[]⟩, 0) : ByteArray × ByteArray × Int)).1), sV (((lk ([(ky, (ky, tx, 0))] : List (ByteArray × ByteArray × ByteArray × Int)) ky).getD ((⟨#[]⟩, ⟨#[]⟩, 0) : ByteArray × ByteArray × Int)).2.1), iV (((lk ([(ky, (ky, tx, 0))] : List (ByteArray × ByteArray × ByteArray × Int)) ky).getD ((⟨#[]⟩, ⟨#[]⟩, 0) : ByteArray × ByteArray × Int)).2.2)], .nilIface] (fun w => by kernel_rfl) ?_
            refine Sq.ex [] (l := []) (o_new [sV ⟨#[]⟩, sV ⟨#[]⟩, iV 0] (fun w => by kernel_rfl)) (by kernel_rfl) rfl (by kernel_rfl) (fun _ => Nat.zero_le _) ?_; intro b29 _
            refine Sq.same [13] (l := [blkR b29 [sV ⟨#[]⟩, sV ⟨#[]⟩, iV 0] 24]) (o_store (i := 0) (v := .agg #[sV (((lk ([(ky, (ky, tx, 0))] : List (ByteArray × ByteArray × ByteArray × Int)) ky).getD ((⟨#[]⟩, ⟨#[]⟩, 0) : ByteArray × ByteArray × Int)).1), sV (((lk ([(ky, (ky, tx, 0))] : List (ByteArray × ByteArray × ByteArray × Int)) ky).getD ((⟨#[]⟩, ⟨#[]⟩, 0) : ByteArray × ByteArray × Int)).2.1), iV (((lk ([(ky, (ky, tx, 0))] : List (ByteArray × ByteArray × ByteArray × Int)) ky).getD ((⟨#[]⟩, ⟨#[]⟩, 0) : ByteArray × ByteArray × Int)).2.2)]) (by kernel_rfl) (by kernel_rfl) (by kernel_rfl) (by kernel_rfl) (by kernel_rfl)) (by kernel_rfl) rfl (by kernel_rfl) rfl ?_
            refine Sq.vals [9] (rest := []) [.nilIface] (fun w => by kernel_rfl) ?_
            refine Sq.done ?_
            refine Ex'.next ?_
            refine Cd.seq ?_
            refine Cd.seq ?_
            refine Cd.region rfl ?_
            refine Sq.vals [0, 1, 2, 3] (rest := [4, 5, 6, 7, 8, 9, 10, 11, 12, 13, 14, 15, 16, 17, 18, 19, 20, 21, 22, 23, 24]) [.nilIface, bV false, bV false, pV b14 1] (fun w => by kernel_rfl) ?_
            refine Sq.same [10] (l := [blkR b14 [sV (((lk ([(ky, (ky, tx, 0))] : List (ByteArray × ByteArray × ByteArray × Int)) ky).getD ((⟨#[]⟩, ⟨#[]⟩, 0) : ByteArray × ByteArray × Int)).1), sV (((lk ([(ky, (ky, tx, 0))] : List (ByteArray × ByteArray × ByteArray × Int)) ky).getD ((⟨#[]⟩, ⟨#[]⟩, 0) : ByteArray × ByteArray × Int)).2.1), iV (((lk ([(ky, (ky, tx, 0))] : List (ByteArray × ByteArray × ByteArray × Int)) ky).getD ((⟨#[]⟩, ⟨#[]⟩, 0) : ByteArray × ByteArray × Int)).2.2)] 24]) (o_load (i := 1) (v := sV (((lk ([(ky, (ky, tx, 0))] : List (ByteArray × ByteArray × ByteArray × Int)) ky).getD ((⟨#[]⟩, ⟨#[]⟩, 0) : ByteArray × ByteArray × Int)).2.1)) (by kernel_rfl) (by kernel_rfl) (by kernel_rfl)) (by kernel_rfl) rfl (by kernel_rfl) rfl ?_
            refine Sq.vals [5] (rest := [6, 7, 8, 9, 10, 11, 12, 13, 14, 15, 16, 17, 18, 19, 20, 21, 22, 23, 24]) [sV tx] (fun w => by kernel_rfl) ?_
            refine Sq.v (r := bV (decide (((lk ([(ky, (ky, tx, 0))] : List (ByteArray × ByteArray × ByteArray × Int)) ky).getD ((⟨#[]⟩, ⟨#[]⟩, 0) : ByteArray × ByteArray × Int)).2.1 ≠ tx))) (o_neS (a := ((lk ([(ky, (ky, tx, 0))] : List (ByteArray × ByteArray × ByteArray × Int)) ky).getD ((⟨#[]⟩, ⟨#[]⟩, 0) : ByteArray × ByteArray × Int)).2.1) (b := tx) (by kernel_rfl) (by kernel_rfl)) rfl (by kernel_rfl) ?_
            refine Sq.re 109 rfl (vF (fun z => z (by simp [lk]))) ?_
            refine Sq.vals [7, 8, 9, 10, 11, 12] (rest := [13, 14, 15, 16, 17, 18, 19, 20, 21, 22, 23, 24]) [bV false, bV false, .iface 83 (pV b27 0), bV false, iV nw, iV dl] (fun w => by kernel_rfl) ?_
            refine Sq.v (r := bV (decide (nw < dl))) (pureV (by kernel_rfl) rfl fun w => by kernel_rfl) rfl (by kernel_rfl) ?_
            refine Sq.re 116 rfl (vF hnw) ?_
            refine Sq.vals [14, 15, 16, 17, 18, 19, 20, 21] (rest := [22, 23, 24]) [bV false, bV false, bV false, .nilIface, bV false, bV false, bV false, pV b29 2] (fun w => by kernel_rfl) ?_
            refine Sq.same [13] (l := [blkR b29 [sV (((lk ([(ky, (ky, tx, 0))] : List (ByteArray × ByteArray × ByteArray × Int)) ky).getD ((⟨#[]⟩, ⟨#[]⟩, 0) : ByteArray × ByteArray × Int)).1), sV (((lk ([(ky, (ky, tx, 0))] : List (ByteArray × ByteArray × ByteArray × Int)) ky).getD ((⟨#[]⟩, ⟨#[]⟩, 0) : ByteArray × ByteArray × Int)).2.1), iV (((lk ([(ky, (ky, tx, 0))] : List (ByteArray × ByteArray × ByteArray × Int)) ky).getD ((⟨#[]⟩, ⟨#[]⟩, 0) : ByteArray × ByteArray × Int)).2.2)] 24]) (o_load (i := 2) (v := iV (((lk ([(ky, (ky, tx, 0))] : List (ByteArray × ByteArray × ByteArray × Int)) ky).getD ((⟨#[]⟩, ⟨#[]⟩, 0) : ByteArray × ByteArray × Int)).2.2)) (by kernel_rfl) (by kernel_rfl) (by kernel_rfl)) (by kernel_rfl) rfl (by kernel_rfl) rfl ?_
            refine Sq.v (r := bV (decide (((lk ([(ky, (ky, tx, 0))] : List (ByteArray × ByteArray × ByteArray × Int)) ky).getD ((⟨#[]⟩, ⟨#[]⟩, 0) : ByteArray × ByteArray × Int)).2.2 ≠ 0))) (o_neI (k := .i64) (a := ((lk ([(ky, (ky, tx, 0))] : List (ByteArray × ByteArray × ByteArray × Int)) ky).getD ((⟨#[]⟩, ⟨#[]⟩, 0) : ByteArray × ByteArray × Int)).2.2) (b := 0) (by kernel_rfl) (by kernel_rfl)) rfl (by kernel_rfl) ?_
            refine Sq.re 126 rfl (vF (fun z => z (by simp [lk]))) ?_
            refine Sq.vals [24] (rest := []) [bV false] (fun w => by kernel_rfl) ?_
            refine Sq.done ?_
            refine Ex'.next ?_
            refine Cd.condF (by kernel_rfl) ?_
            refine Cd.skip ?_
            refine Ex'.next ?_
            refine Cd.seq ?_
            refine Cd.region rfl ?_
            refine Sq.vals [0, 1] (rest := [2, 3, 4, 5, 6, 7, 8, 9, 10, 11, 12, 13, 14, 15, 16, 17, 18, 19, 20, 21, 22, 23]) [pV b5 0, iV nw] (fun w => by kernel_rfl) ?_
            refine Sq.ex [1, 2, 3] (l := [valB b5 mb6 qb7 ((ky.size : Int) + (tx.size : Int)), mapR Value.string itV mb6 ([(ky, (ky, tx, 0))] : List (ByteArray × ByteArray × ByteArray × Int)), hpS qb7 ([] : List (KR ByteArray)) 1]) (o_call (by kernel_rfl) Tryd.call15 (Tri.ex (L' := fun v => valL b5 mb6 qb7 ([(ky, (ky, tx, 0))] : List (ByteArray × ByteArray × ByteArray × Int)) ([] : List (KR ByteArray)) ((ky.size : Int) + (tx.size : Int)) 1 ++ [rowR 9 1 v (([] : List ByteArray)).length ((([] : List ByteArray)).map Value.string)]) (val_Expire (n := 1) (M := ([(ky, (ky, tx, 0))] : List (ByteArray × ByteArray × ByteArray × Int))) (S := ([] : List (KR ByteArray))) (bys := (ky.size : Int) + (tx.size : Int)) nw (by omega) (by first | omega | (constructor <;> decide)) (by first | exact ItB_nil | exact ItB_one (by omega) (by omega)) (by first | exact EndsIn_nil | exact EndsIn_one)) (fun v => by rw [exp0]))) (by kernel_rfl) rfl (by kernel_rfl) (fun _ => Nat.le_of_ble_eq_true (by kernel_rfl)) ?_; rintro v30 _
            refine Sq.fact (i := 14) (R := rowR 9 1 v30 (([] : List ByteArray).length) (([] : List ByteArray).map Value.string)) (by kernel_rfl) row_slice ?_; rintro ⟨a31, c32, rfl, hc32, hc32'⟩
            have hc32'' : c32 ≤ 9223372036854775807 := hc32'
            refine Sq.vals [3] (rest := [4, 5, 6, 7, 8, 9, 10, 11, 12, 13, 14, 15, 16, 17, 18, 19, 20, 21, 22, 23]) [iV (([] : List ByteArray).length : Int)] (fun w => by kernel_rfl) ?_
            refine Sq.v (r := bV (decide ((([] : List ByteArray).length : Int) = 0))) (o_eqI (k := .i64) (a := (([] : List ByteArray).length : Int)) (b := 0) (by kernel_rfl) (by kernel_rfl)) rfl (by kernel_rfl) ?_
            refine Sq.re 132 rfl (vT rfl) ?_
            refine Sq.vals [5, 6, 7] (rest := [8, 9, 10, 11, 12, 13, 14, 15, 16, 17, 18, 19, 20, 21, 22, 23]) [bV true, pV b11 0, iV nw] (fun w => by kernel_rfl) ?_
            refine Sq.ex [7, 8, 9] (l := [valB b11 mb12 qb13 ((ky.size : Int) + (tx.size : Int)), mapR Value.string itV mb12 ([(ky, (ky, tx, 0))] : List (ByteArray × ByteArray × ByteArray × Int)), hpS qb13 ([] : List (KR ByteArray)) 2]) (o_call (by kernel_rfl) Tryd.call15 (Tri.ex (L' := fun v => valL b11 mb12 qb13 ([(ky, (ky, tx, 0))] : List (ByteArray × ByteArray × ByteArray × Int)) ([] : List (KR ByteArray)) ((ky.size : Int) + (tx.size : Int)) 2 ++ [rowR 9 1 v (([] : List ByteArray)).length ((([] : List ByteArray)).map Value.string)]) (val_Expire (n := 2) (M := ([(ky, (ky, tx, 0))] : List (ByteArray × ByteArray × ByteArray × Int))) (S := ([] : List (KR ByteArray))) (bys := (ky.size : Int) + (tx.size : Int)) nw (by omega) (by first | omega | (constructor <;> decide)) (by first | exact ItB_nil | exact ItB_one (by omega) (by omega)) (by first | exact EndsIn_nil | exact EndsIn_one)) (fun v => by rw [exp0]))) (by kernel_rfl) rfl (by kernel_rfl) (fun _ => Nat.le_of_ble_eq_true (by kernel_rfl)) ?_; rintro v33 _
            refine Sq.fact (i := 15) (R := rowR 9 1 v33 (([] : List ByteArray).length) (([] : List ByteArray).map Value.string)) (by kernel_rfl) row_slice ?_; rintro ⟨a34, c35, rfl, hc35, hc35'⟩
            have hc35'' : c35 ≤ 9223372036854775807 := hc35'
            refine Sq.vals [9] (rest := [10, 11, 12, 13, 14, 15, 16, 17, 18, 19, 20, 21, 22, 23]) [iV (([] : List ByteArray).length : Int)] (fun w => by kernel_rfl) ?_
            refine Sq.v (r := bV (decide ((([] : List ByteArray).length : Int) = 0))) (o_eqI (k := .i64) (a := (([] : List ByteArray).length : Int)) (b := 0) (by kernel_rfl) (by kernel_rfl)) rfl (by kernel_rfl) ?_
            refine Sq.re 138 rfl (vT rfl) ?_
            refine Sq.vals [11, 12, 13, 14] (rest := [15, 16, 17, 18, 19, 20, 21, 22, 23]) [bV true, bV true, pV b8 0, iV nw] (fun w => by kernel_rfl) ?_
            refine Sq.ex [4, 5, 6] (l := [valB b8 mb9 qb10 ((ky.size : Int) + (tx.size : Int)), mapR Value.string itV mb9 ([(ky, (ky, tx, dl))] : List (ByteArray × ByteArray × ByteArray × Int)), hpS qb10 ([(ky, dl, 0)] : List (KR ByteArray)) 1]) (o_call (by kernel_rfl) Tryd.call15 (Tri.ex (L' := fun v => valL b8 mb9 qb10 ([] : List (ByteArray × ByteArray × ByteArray × Int)) ([] : List (KR ByteArray)) 0 1 ++ [rowR 9 1 v (([ky] : List ByteArray)).length ((([ky] : List ByteArray)).map Value.string)]) (val_Expire (n := 1) (M := ([(ky, (ky, tx, dl))] : List (ByteArray × ByteArray × ByteArray × Int))) (S := ([(ky, dl, 0)] : List (KR ByteArray))) (bys := (ky.size : Int) + (tx.size : Int)) nw (by omega) (by first | omega | (constructor <;> decide)) (by first | exact ItB_nil | exact ItB_one (by omega) (by omega)) (by first | exact EndsIn_nil | exact EndsIn_one)) (fun v => by rw [expHit (by have := h15; rw [get_one (by omega)] at this; omega)]))) (by kernel_rfl) rfl (by kernel_rfl) (fun _ => Nat.le_of_ble_eq_true (by kernel_rfl)) ?_; rintro v36 _
            refine Sq.fact (i := 16) (R := rowR 9 1 v36 (([ky] : List ByteArray).length) (([ky] : List ByteArray).map Value.string)) (by kernel_rfl) row_slice ?_; rintro ⟨a37, c38, rfl, hc38, hc38'⟩
            have hc38'' : c38 ≤ 9223372036854775807 := hc38'
            refine Sq.vals [16] (rest := [17, 18, 19, 20, 21, 22, 23]) [iV (([ky] : List ByteArray).length : Int)] (fun w => by kernel_rfl) ?_
            refine Sq.v (r := bV (decide ((([ky] : List ByteArray).length : Int) = 1))) (o_eqI (k := .i64) (a := (([ky] : List ByteArray).length : Int)) (b := 1) (by kernel_rfl) (by kernel_rfl)) rfl (by kernel_rfl) ?_
            refine Sq.re 145 rfl (vT rfl) ?_
            refine Sq.vals [18, 19] (rest := [20, 21, 22, 23]) [iV nw, iV dl] (fun w => by kernel_rfl) ?_
            refine Sq.v (r := bV (decide (nw ≥ dl))) (pureV (by kernel_rfl) rfl fun w => by kernel_rfl) rfl (by kernel_rfl) ?_
            refine Sq.re 148 rfl (vT (by omega)) ?_
            refine Sq.vals [21, 22, 23] (rest := []) [bV true, bV true, bV true] (fun w => by kernel_rfl) ?_
            refine Sq.done ?_
            refine Ex'.next ?_
            refine Cd.ret ?_
            refine Ex'.ret Tryd.results4 (RVs.tmp (v := bV true) (by kernel_rfl) (RVs.nil)) (fun w hw => ?_)
            exact ⟨_, ⟨rfl, by kernel_rfl⟩, hw⟩

theorem valueForever_walk (ky tx : ByteArray) (dl nw : Int) (w : World) (h1 : ky.size ≤ maxLen) (h2 : tx.size ≤ maxLen) (h3 : (Lit.int .i64 dl).wf = true) (h4 : (Lit.int .i64 nw).wf = true) (hg : errT w) :
    Calls Tryd.prog 4 #[.string ky, .string tx, .int .i64 dl, .int .i64 nw] w fun e w' => e = .returned (.bool true) ∧ Below w.heap.size w w' :=
  law_of (valueForever_tri hg (range64 h3) (range64 h4))

end Go.Proofs.YtnijaeipkbpibaaDoor
