/- LfuOnce: its walk. -/
import Derived.Test.YtnnjccfcalgokaaLfuPure
import Derived.Test.YtnnjccfcalgokaaActs
import Derived.Test.YtnnjccfcalgokaaSepH
import Derived.Test.YtnnjccfcalgokaaLfuPureB
import Derived.Test.YtnnjccfcalgokaaLfuAwake
set_option linter.unusedVariables false
namespace Go.Proofs.Ytnnjccfcalgokaa
open Go.RowKit Go.MapKept

set_option maxHeartbeats 8000000 in
set_option maxRecDepth 100000 in
theorem lfuOnce_tri {w0 : World} {m : Int} {a : Option Addr} {cap : Nat} {xs : List ByteArray} (hm : -9223372036854775808 ≤ m ∧ m ≤ 9223372036854775807) (hl : xs.length ≤ cap ∧ cap ≤ 9223372036854775807) (hs : KeysIn w0 (.slice a xs.length cap) xs) : Tri Try.prog 9 #[iV m, .slice a xs.length cap] [oldR w0] (LawP w0) := by
  refine Tri.enter (args := [iV m, .slice a xs.length cap]) Try.func9 rfl rfl rfl (fun B wz => ?_)
  refine Cd.seq ?_
  refine Cd.region rfl ?_
  refine Sq.vals [0] (rest := []) [bV false] (fun w => by kernel_rfl) ?_
  refine Sq.done ?_
  refine Ex'.next ?_
  refine Cd.seq ?_
  refine Cd.seq ?_
  refine Cd.region rfl ?_
  refine Sq.same [] (l := []) (o_call (by kernel_rfl) Try.call29 (lfu_awake)) (by kernel_rfl) rfl (by kernel_rfl) rfl ?_
  refine Sq.vals [1] (rest := []) [bV false] (fun w => by kernel_rfl) ?_
  refine Sq.done ?_
  refine Ex'.next ?_
  refine Cd.condF (by kernel_rfl) ?_
  refine Cd.skip ?_
  refine Ex'.next ?_
  refine Cd.seq ?_
  refine Cd.seq ?_
  refine Cd.region rfl ?_
  refine Sq.vals [0, 1, 2, 3] (rest := [4, 5, 6]) [.slice a xs.length cap, iV (xs.length : Int), bV (decide ((xs.length : Int) > 100)), bV (decide ((xs.length : Int) > 100))] (fun w => by kernel_rfl) ?_
  refine Sq.case 16 (p := (xs.length : Int) > 100) rfl (fun h1 => ?_) (fun h1 => ?_)
  ·
    refine Sq.vals [4, 5, 6] (rest := []) [undef, undef, bV true] (fun w => by kernel_rfl) ?_
    refine Sq.done ?_
    refine Ex'.next ?_
    refine Cd.condT (by kernel_rfl) ?_
    refine Cd.seq ?_
    refine Cd.region rfl ?_
    refine Sq.vals [0] (rest := []) [bV true] (fun w => by kernel_rfl) ?_
    refine Sq.done ?_
    refine Ex'.next ?_
    refine Cd.ret ?_
    refine Ex'.thenRet ?_
    refine Ex'.ret Try.results9 (RVs.tmp (v := bV true) (by kernel_rfl) (RVs.nil)) (fun w hw => ?_)
    exact ⟨_, ⟨rfl, by kernel_rfl⟩, hw⟩
  ·
    refine Sq.vals [4, 5, 6] (rest := []) [iV m, bV (decide (m < 1)), bV (decide (m < 1))] (fun w => by kernel_rfl) ?_
    refine Sq.done ?_
    refine Ex'.next ?_
    refine Cd.case (p := m < 1) (by kernel_rfl) (fun h2 => ?_) (fun h2 => ?_)
    ·
      refine Cd.seq ?_
      refine Cd.region rfl ?_
      refine Sq.vals [0] (rest := []) [bV true] (fun w => by kernel_rfl) ?_
      refine Sq.done ?_
      refine Ex'.next ?_
      refine Cd.ret ?_
      refine Ex'.thenRet ?_
      refine Ex'.ret Try.results9 (RVs.tmp (v := bV true) (by kernel_rfl) (RVs.nil)) (fun w hw => ?_)
      exact ⟨_, ⟨rfl, by kernel_rfl⟩, hw⟩
    ·
      refine Cd.skip ?_
      refine Ex'.next ?_
      refine Cd.seq ?_
      refine Cd.region rfl ?_
      refine Sq.vals [0] (rest := [1, 2, 3, 4, 5]) [iV m] (fun w => by kernel_rfl) ?_
      refine Sq.ex [] (l := []) (o_call (by kernel_rfl) Try.call30 (Tri.ex (L' := fun x => lfuL x.1 x.2 m 0 false [] 0) (lfu_New m false (by omega)) (fun x => by unfold lfuNew; rw [if_neg (show ¬ (0 : Int) > m by omega)]))) (by kernel_rfl) rfl (by kernel_rfl) (fun _ => Nat.le_of_ble_eq_true (by kernel_rfl)) ?_; rintro ⟨b3, qb4⟩ _
      refine Sq.vals [2] (rest := [3, 4, 5]) [iV m] (fun w => by kernel_rfl) ?_
      refine Sq.ex [] (l := []) (o_call (by kernel_rfl) Try.call30 (Tri.ex (L' := fun x => lfuL x.1 x.2 m 0 true [] 0) (lfu_New m true (by omega)) (fun x => by unfold lfuNew; rw [if_neg (show ¬ (0 : Int) > m by omega)]))) (by kernel_rfl) rfl (by kernel_rfl) (fun _ => Nat.le_of_ble_eq_true (by kernel_rfl)) ?_; rintro ⟨b5, qb6⟩ _
      refine Sq.vals [4, 5] (rest := []) [pV b3 0, pV b5 0] (fun w => by kernel_rfl) ?_
      refine Sq.done ?_
      refine Ex'.next ?_
      refine Cd.seq ?_
      refine Cd.seq ?_
      refine Cd.region rfl ?_
      refine Sq.vals [0, 1, 2, 3, 4, 5] (rest := []) [pV b3 0, bV false, bV false, pV b5 0, bV false, bV false] (fun w => by kernel_rfl) ?_
      refine Sq.done ?_
      refine Ex'.next ?_
      refine Cd.condF (by kernel_rfl) ?_
      refine Cd.skip ?_
      refine Ex'.next ?_
      refine Cd.seq ?_
      refine Cd.region rfl ?_
      refine Sq.vals [0] (rest := []) [.slice none 0 0] (fun w => by kernel_rfl) ?_
      refine Sq.done ?_
      refine Ex'.next ?_
      refine Cd.seq ?_
      refine Cd.seq ?_
      refine Cd.region rfl ?_
      refine Sq.vals [0] (rest := []) [iV 0] (fun w => by kernel_rfl) ?_
      refine Sq.done ?_
      refine Ex'.next ?_
      refine Cd.block ?_
      refine Cd.nilRow 9 1 ?_
      refine Cd.loop (ι := Nat × Int × (List (KR ByteArray)) × Nat × Int × (List (KR ByteArray)) × Nat × Value × (List ByteArray)) (fun ⟨k, nowa, Ta, na, nowb, Tb, nb, rv, rw⟩ => k ≤ xs.length ∧ LOnA m nowa rw Ta ∧ LOnB m nowb rw Tb ∧ nowa = rw.length ∧ nowb = rw.length ∧ na ≤ k ∧ nb ≤ k ∧ rw.length ≤ k) (fun ⟨k, nowa, Ta, na, nowb, Tb, nb, rv, rw⟩ => xs.length - k) (fun ⟨k, nowa, Ta, na, nowb, Tb, nb, rv, rw⟩ => [(0, iV m), (1, .slice a xs.length cap), (5, pV b3 0), (6, pV b5 0), (8, iV (k : Int)), (7, rv)]) (fun ⟨k, nowa, Ta, na, nowb, Tb, nb, rv, rw⟩ => [oldR w0, lfuB b3 qb4 m nowa false, hpS qb4 Ta na, lfuB b5 qb6 m nowb true, hpS qb6 Tb nb, rowR 9 1 rv rw.length (rw.map Value.string)]) (0, 0, [], 0, 0, [], 0, .slice none 0 0, ([] : List ByteArray)) (⟨Nat.zero_le _, LOnA.new (by omega), LOnB.new (by omega), rfl, rfl, Nat.le_refl _, Nat.le_refl _, Nat.le_refl _⟩) (subB_eq (l := [0, 1, 5, 6, 8, 7]) (by kernel_rfl)) (fun w hw => hw.pickB [0, 1, 2, 3, 4, 5] (by kernel_rfl) (by kernel_rfl) (by kernel_rfl)) ?_
      rintro ⟨k, nowa, Ta, na, nowb, Tb, nb, rv, rw⟩ hL7
      try dsimp only at hL7 ⊢
      obtain ⟨hk, hIA, hIB, hwa, hwb, hna, hnb, hrl⟩ := hL7
      have htA := hIA.i.tmb (by omega)
      have htB := hIB.i.tmb (by omega)
      have hnA := hIA.i.n0
      have hnB := hIB.i.n0
      refine Cd.fact (i := 5) (R := rowR 9 1 rv rw.length (rw.map Value.string)) (by kernel_rfl) row_slice ?_; rintro ⟨a8, c9, rfl, hc9, hc9'⟩
      have hc9'' : c9 ≤ 9223372036854775807 := hc9'
      refine Cd.seq ?_
      refine Cd.seq ?_
      refine Cd.region rfl ?_
      refine Sq.vals [0, 1, 2, 3] (rest := []) [iV (k : Int), .slice a xs.length cap, iV (xs.length : Int), bV (decide ((k : Int) < (xs.length : Int)))] (fun w => by kernel_rfl) ?_
      refine Sq.done ?_
      refine Ex'.next ?_
      refine Cd.case (p := (k : Int) < (xs.length : Int)) (by kernel_rfl) (fun h10 => ?_) (fun h10 => ?_)
      ·
        obtain ⟨g11, off12, rfl⟩ := hs.addr (by omega)
        obtain ⟨kyk, hgk, hwk, hrk⟩ := hs.at (k := k) (by omega)
        refine Cd.skip ?_
        refine Ex'.next ?_
        refine Cd.seq ?_
        refine Cd.block ?_
        refine Cd.seq ?_
        refine Cd.seq ?_
        refine Cd.region rfl ?_
        refine Sq.vals [0, 1] (rest := [2, 3, 4, 5]) [.slice (some ⟨g11, off12, none⟩) xs.length cap, iV (k : Int)] (fun w => by kernel_rfl) ?_
        refine Sq.v (r := pV g11 (off12 + k)) (o_idx (b := g11) (cap := cap) (e := 9) (off := off12) (n := xs.length) (kd := .i64) (q := (k : Int)) (i := k) (size := 1) (j := off12 + k) (by kernel_rfl) (by kernel_rfl) (by rfl) (by omega) Try.underlying47 (by kernel_rfl) (by omega)) rfl (by kernel_rfl) ?_
        refine Sq.same [0] (l := [oldR w0]) (o_loadOld (b := g11) (j := off12 + k) (u := sV kyk) (by kernel_rfl) (by kernel_rfl) (hrk 0 _ rfl)) (by kernel_rfl) rfl (by kernel_rfl) rfl ?_
        refine Sq.vals [4, 5] (rest := []) [iV (kyk.size : Int), bV (decide ((kyk.size : Int) > 200))] (fun w => by kernel_rfl) ?_
        refine Sq.done ?_
        refine Ex'.next ?_
        refine Cd.case (p := (kyk.size : Int) > 200) (by kernel_rfl) (fun h13 => ?_) (fun h13 => ?_)
        ·
          refine Cd.seq ?_
          refine Cd.region rfl ?_
          refine Sq.vals [0] (rest := []) [bV true] (fun w => by kernel_rfl) ?_
          refine Sq.done ?_
          refine Ex'.next ?_
          refine Cd.ret ?_
          refine Ex'.thenRet ?_
          refine Ex'.blockRet ?_
          refine Ex'.thenRet ?_
          refine Ex'.thenRet ?_
          refine Ex'.blockRet ?_
          refine Ex'.thenRet ?_
          refine Ex'.ret Try.results9 (RVs.tmp (v := bV true) (by kernel_rfl) (RVs.nil)) (fun w hw => ?_)
          exact ⟨_, ⟨rfl, by kernel_rfl⟩, hw⟩
        ·
          refine Cd.skip ?_
          refine Ex'.next ?_
          refine Cd.seq ?_
          refine Cd.seq ?_
          refine Cd.region rfl ?_
          refine Sq.vals [0, 1, 2] (rest := [3, 4, 5]) [.slice a8 rw.length c9, .slice (some ⟨g11, off12, none⟩) xs.length cap, iV (k : Int)] (fun w => by kernel_rfl) ?_
          refine Sq.v (r := pV g11 (off12 + k)) (o_idx (b := g11) (cap := cap) (e := 9) (off := off12) (n := xs.length) (kd := .i64) (q := (k : Int)) (i := k) (size := 1) (j := off12 + k) (by kernel_rfl) (by kernel_rfl) (by rfl) (by omega) Try.underlying47 (by kernel_rfl) (by omega)) rfl (by kernel_rfl) ?_
          refine Sq.same [0] (l := [oldR w0]) (o_loadOld (b := g11) (j := off12 + k) (u := sV kyk) (by kernel_rfl) (by kernel_rfl) (hrk 0 _ rfl)) (by kernel_rfl) rfl (by kernel_rfl) rfl ?_
          refine Sq.same [5] (l := [rowR 9 1 (.slice a8 rw.length c9) rw.length (rw.map Value.string)]) (o_call (by kernel_rfl) Try.call35 (t_has03 (l := [rowR 9 1 (.slice a8 rw.length c9) rw.length (rw.map Value.string)]) (xs := rw) kyk (fun w own hH => ⟨_, Row.strs (hH 0 _ rfl)⟩))) (by kernel_rfl) rfl (by kernel_rfl) rfl ?_
          refine Sq.done ?_
          refine Ex'.next ?_
          refine Cd.case (p := kyk ∈ rw) (by kernel_rfl) (fun h14 => ?_) (fun h14 => ?_)
          ·
            refine Cd.exit ?_
            refine Ex'.thenExit ?_
            refine Ex'.blockHit ?_
            refine Ex'.next ?_
            refine Cd.region rfl ?_
            refine Sq.vals [0] (rest := [1, 2]) [iV (k : Int)] (fun w => by kernel_rfl) ?_
            refine Sq.v (r := iV ((k : Int) + 1)) (o_add (k := .i64) (a := (k : Int)) (b := 1) (c := (k : Int) + 1) (by kernel_rfl) (by kernel_rfl) (w64 rfl (by omega))) rfl (by kernel_rfl) ?_
            refine Sq.vals [2] (rest := []) [iV ((k : Int) + 1)] (fun w => by kernel_rfl) ?_
            refine Sq.done ?_
            refine Ex'.round (g := (k, nowa, Ta, na, nowb, Tb, nb, .slice a8 rw.length c9, rw)) (k + 1, nowa, Ta, na, nowb, Tb, nb, .slice a8 rw.length c9, rw) ?_ ?_ (subB_eq (l := [0, 1, 5, 6, 8, 7]) (by kernel_rfl)) (fun w hw => hw.pickB [0, 1, 2, 3, 4, 5] (by kernel_rfl) (by kernel_rfl) (by kernel_rfl))
            · (try dsimp only); exact ⟨by omega, hIA, hIB, by omega, by omega, by omega, by omega, by omega⟩
            · omega
          ·
            refine Cd.skip ?_
            refine Ex'.next ?_
            refine Cd.seq ?_
            refine Cd.region rfl ?_
            refine Sq.vals [0, 1, 2] (rest := [3, 4, 5, 6, 7]) [.slice a8 rw.length c9, .slice (some ⟨g11, off12, none⟩) xs.length cap, iV (k : Int)] (fun w => by kernel_rfl) ?_
            refine Sq.v (r := pV g11 (off12 + k)) (o_idx (b := g11) (cap := cap) (e := 9) (off := off12) (n := xs.length) (kd := .i64) (q := (k : Int)) (i := k) (size := 1) (j := off12 + k) (by kernel_rfl) (by kernel_rfl) (by rfl) (by omega) Try.underlying47 (by kernel_rfl) (by omega)) rfl (by kernel_rfl) ?_
            refine Sq.same [0] (l := [oldR w0]) (o_loadOld (b := g11) (j := off12 + k) (u := sV kyk) (by kernel_rfl) (by kernel_rfl) (hrk 0 _ rfl)) (by kernel_rfl) rfl (by kernel_rfl) rfl ?_
            refine Sq.ex [] (l := []) (o_lit (sz := 1) (sV ⟨#[]⟩) [sV kyk] Try.underlying47 (by kernel_rfl) (by kernel_rfl) (by kernel_rfl) (by kernel_rfl) (by kernel_rfl)) (by kernel_rfl) rfl (by kernel_rfl) (fun _ => Nat.zero_le _) ?_; intro b15 _
            refine Sq.ex [5, 6] (l := [rowR 9 1 (.slice a8 rw.length c9) rw.length (rw.map Value.string), blkR b15 [sV kyk] 9]) (o_push (n' := (rw ++ [kyk]).length) (xs' := (rw ++ [kyk]).map Value.string) (by kernel_rfl) (by kernel_rfl) sl_str (by decide) rfl (by kernel_rfl) (by unfold maxLen; omega) (by omega) (by simp) (by simp)) (by kernel_rfl) rfl (by kernel_rfl) (fun _ => Nat.le_of_ble_eq_true (by kernel_rfl)) ?_; rintro v16 _
            refine Sq.fact (i := 5) (R := rowR 9 1 v16 ((rw ++ [kyk]).length) ((rw ++ [kyk]).map Value.string)) (by kernel_rfl) row_slice ?_; rintro ⟨a17, c18, rfl, hc18, hc18'⟩
            have hc18'' : c18 ≤ 9223372036854775807 := hc18'
            have hlen19 : (rw ++ [kyk]).length = rw.length + 1 := by simp
            refine Sq.fact (i := 5) (R := rowR 9 1 (.slice a17 ((rw ++ [kyk]).length) c18) ((rw ++ [kyk]).length) ((rw ++ [kyk]).map Value.string)) (by kernel_rfl) (row_addr (by simp)) ?_; rintro ⟨b20, rfl⟩
            refine Sq.vals [7] (rest := []) [.slice (some ⟨b20, 0, none⟩) ((rw ++ [kyk]).length) c18] (fun w => by kernel_rfl) ?_
            refine Sq.done ?_
            refine Ex'.next ?_
            refine Cd.seq ?_
            refine Cd.plan [0, 0, 0, 6, 14, 31, 0, 0, 0, 384, 896, 2047, 0, 0, 16383, 32767] [(4, [(0, false, 0)]), (5, [(1, true, 0), (2, true, 0)]), (10, [(0, false, 0)]), (11, [(3, true, 0), (4, true, 0)]), (14, [(19, true, 13)]), (15, [(20, true, 14)])] [12, 13] [(12, fun _ => True), (13, fun _ => True)] [(1, 5, fun g => lfuB b3 qb4 m ((lfuReq m nowa false Ta kyk).1) false), (2, 5, fun g => hpS qb4 ((lfuReq m nowa false Ta kyk).2.1) (na + 1)), (3, 11, fun g => lfuB b5 qb6 m ((lfuReq m nowb true Tb kyk).1) true), (4, 11, fun g => hpS qb6 ((lfuReq m nowb true Tb kyk).2.1) (nb + 1)), (19, 12, fun g => blkR (blkOf (g 12)) [bV false, sV ⟨#[]⟩, bV false] 68), (20, 13, fun g => blkR (blkOf (g 13)) [bV false, sV ⟨#[]⟩, bV false] 68), (19, 14, fun g => blkR (blkOf (g 12)) [bV ((lfuReq m nowa false Ta kyk).2.2.1), sV ((lfuReq m nowa false Ta kyk).2.2.2.1), bV ((lfuReq m nowa false Ta kyk).2.2.2.2)] 68), (20, 15, fun g => blkR (blkOf (g 13)) [bV ((lfuReq m nowb true Tb kyk).2.2.1), sV ((lfuReq m nowb true Tb kyk).2.2.2.1), bV ((lfuReq m nowb true Tb kyk).2.2.2.2)] 68)] [fun g => pV b3 0, fun g => .slice (some ⟨g11, off12, none⟩) xs.length cap, fun g => iV (k : Int), fun g => pV g11 (off12 + k), fun g => sV kyk, fun g => .agg #[bV ((lfuReq m nowa false Ta kyk).2.2.1), sV ((lfuReq m nowa false Ta kyk).2.2.2.1), bV ((lfuReq m nowa false Ta kyk).2.2.2.2)], fun g => pV b5 0, fun g => .slice (some ⟨g11, off12, none⟩) xs.length cap, fun g => iV (k : Int), fun g => pV g11 (off12 + k), fun g => sV kyk, fun g => .agg #[bV ((lfuReq m nowb true Tb kyk).2.2.1), sV ((lfuReq m nowb true Tb kyk).2.2.2.1), bV ((lfuReq m nowb true Tb kyk).2.2.2.2)], fun g => pV (blkOf (g 12)) 0, fun g => pV (blkOf (g 13)) 0, fun g => undef, fun g => undef] (by kernel_rfl) (by kernel_rfl) rfl (⟨⟨⟨fun _ _ => rfl, ⟨fun _ _ => rfl, ⟨fun _ _ => rfl, ⟨fun _ _ => rfl, ⟨fun _ _ => rfl, ⟨fun _ _ => rfl, ⟨fun _ _ => rfl, ⟨fun _ _ => rfl, ⟨fun _ _ => rfl, ⟨fun _ _ => rfl, ⟨fun _ _ => rfl, ⟨fun _ _ => rfl, ⟨trivial, ⟨fun _ _ => rfl, ⟨trivial, ⟨trivial, trivial⟩⟩⟩⟩⟩⟩⟩⟩⟩⟩⟩⟩⟩⟩⟩⟩, ⟨fun _ _ => rfl, ⟨fun _ _ => rfl, ⟨fun _ _ => rfl, ⟨fun _ _ => rfl, ⟨trivial, ⟨fun _ _ => rfl, ⟨trivial, ⟨trivial, trivial⟩⟩⟩⟩⟩⟩⟩⟩⟩, ⟨⟨⟨fun _ _ => rfl, ⟨fun _ _ => rfl, ⟨fun _ _ => rfl, ⟨fun _ _ => rfl, ⟨fun _ _ => rfl, ⟨fun _ _ => rfl, ⟨fun _ _ => rfl, ⟨fun _ _ => rfl, ⟨fun _ _ => rfl, ⟨fun _ _ => rfl, ⟨fun _ _ => rfl, ⟨fun _ _ => rfl, ⟨fun _ _ => rfl, ⟨trivial, ⟨trivial, ⟨trivial, trivial⟩⟩⟩⟩⟩⟩⟩⟩⟩⟩⟩⟩⟩⟩⟩⟩, ⟨fun _ _ => rfl, ⟨fun _ _ => rfl, ⟨fun _ _ => rfl, ⟨fun _ _ => rfl, ⟨fun _ _ => rfl, ⟨trivial, ⟨trivial, ⟨trivial, trivial⟩⟩⟩⟩⟩⟩⟩⟩⟩, trivial⟩⟩) ?_ ?_
            · exact ⟨ob_val fun g w => by kernel_rfl, ob_val fun g w => by kernel_rfl, ob_val fun g w => by kernel_rfl, ob_v (v := fun g => pV g11 (off12 + k)) (fun g => o_idx (b := g11) (cap := cap) (e := 9) (off := off12) (n := xs.length) (kd := .i64) (q := (k : Int)) (i := k) (size := 1) (j := off12 + k) (by kernel_rfl) (by kernel_rfl) (by rfl) (by omega) Try.underlying47 (by kernel_rfl) (by omega)) (fun g => by kernel_rfl), ob_s (l := fun g => [oldR w0]) (l' := fun g => [oldR w0]) (v := fun g => sV kyk) (fun g => o_loadOld (b := g11) (j := off12 + k) (u := sV kyk) (by kernel_rfl) (by kernel_rfl) (hrk 0 _ rfl)) (fun g => by kernel_rfl), ob_s (l := fun g => [lfuB b3 qb4 m nowa false, hpS qb4 Ta na]) (l' := fun g => [lfuB b3 qb4 m ((lfuReq m nowa false Ta kyk).1) false, hpS qb4 ((lfuReq m nowa false Ta kyk).2.1) (na + 1)]) (v := fun g => .agg #[bV ((lfuReq m nowa false Ta kyk).2.2.1), sV ((lfuReq m nowa false Ta kyk).2.2.2.1), bV ((lfuReq m nowa false Ta kyk).2.2.2.2)]) (fun g => o_call (by kernel_rfl) Try.call33 (lfu_Request (n := na) (n' := na + 1) (most := m) (now := nowa) (churn := false) (S := Ta) kyk (by omega) (by omega) (by omega) (by first | assumption | (unfold TmB; decide)))) (fun g => by kernel_rfl), ob_val fun g w => by kernel_rfl, ob_val fun g w => by kernel_rfl, ob_val fun g w => by kernel_rfl, ob_v (v := fun g => pV g11 (off12 + k)) (fun g => o_idx (b := g11) (cap := cap) (e := 9) (off := off12) (n := xs.length) (kd := .i64) (q := (k : Int)) (i := k) (size := 1) (j := off12 + k) (by kernel_rfl) (by kernel_rfl) (by rfl) (by omega) Try.underlying47 (by kernel_rfl) (by omega)) (fun g => by kernel_rfl), ob_s (l := fun g => [oldR w0]) (l' := fun g => [oldR w0]) (v := fun g => sV kyk) (fun g => o_loadOld (b := g11) (j := off12 + k) (u := sV kyk) (by kernel_rfl) (by kernel_rfl) (hrk 0 _ rfl)) (fun g => by kernel_rfl), ob_s (l := fun g => [lfuB b5 qb6 m nowb true, hpS qb6 Tb nb]) (l' := fun g => [lfuB b5 qb6 m ((lfuReq m nowb true Tb kyk).1) true, hpS qb6 ((lfuReq m nowb true Tb kyk).2.1) (nb + 1)]) (v := fun g => .agg #[bV ((lfuReq m nowb true Tb kyk).2.2.1), sV ((lfuReq m nowb true Tb kyk).2.2.2.1), bV ((lfuReq m nowb true Tb kyk).2.2.2.2)]) (fun g => o_call (by kernel_rfl) Try.call33 (lfu_Request (n := nb) (n' := nb + 1) (most := m) (now := nowb) (churn := true) (S := Tb) kyk (by omega) (by omega) (by omega) (by first | assumption | (unfold TmB; decide)))) (fun g => by kernel_rfl), ob_d (ι := Nat) (l := fun g => []) (L := fun g y => [blkR y [bV false, sV ⟨#[]⟩, bV false] 68]) (fun y => pV y 0) (fun g => o_new [bV false, sV ⟨#[]⟩, bV false] (fun w => by kernel_rfl)) (fun g => by kernel_rfl) (fun g y _ => ⟨trivial, by kernel_rfl, by kernel_rfl⟩), ob_d (ι := Nat) (l := fun g => []) (L := fun g y => [blkR y [bV false, sV ⟨#[]⟩, bV false] 68]) (fun y => pV y 0) (fun g => o_new [bV false, sV ⟨#[]⟩, bV false] (fun w => by kernel_rfl)) (fun g => by kernel_rfl) (fun g y _ => ⟨trivial, by kernel_rfl, by kernel_rfl⟩), ob_s (l := fun g => [blkR (blkOf (g 12)) [bV false, sV ⟨#[]⟩, bV false] 68]) (l' := fun g => [blkR (blkOf (g 12)) [bV ((lfuReq m nowa false Ta kyk).2.2.1), sV ((lfuReq m nowa false Ta kyk).2.2.2.1), bV ((lfuReq m nowa false Ta kyk).2.2.2.2)] 68]) (v := fun g => undef) (fun g => o_store (i := 0) (v := .agg #[bV ((lfuReq m nowa false Ta kyk).2.2.1), sV ((lfuReq m nowa false Ta kyk).2.2.2.1), bV ((lfuReq m nowa false Ta kyk).2.2.2.2)]) (by kernel_rfl) (by kernel_rfl) (by kernel_rfl) (by kernel_rfl) (by kernel_rfl)) (fun g => by kernel_rfl), ob_s (l := fun g => [blkR (blkOf (g 13)) [bV false, sV ⟨#[]⟩, bV false] 68]) (l' := fun g => [blkR (blkOf (g 13)) [bV ((lfuReq m nowb true Tb kyk).2.2.1), sV ((lfuReq m nowb true Tb kyk).2.2.2.1), bV ((lfuReq m nowb true Tb kyk).2.2.2.2)] 68]) (v := fun g => undef) (fun g => o_store (i := 0) (v := .agg #[bV ((lfuReq m nowb true Tb kyk).2.2.1), sV ((lfuReq m nowb true Tb kyk).2.2.2.1), bV ((lfuReq m nowb true Tb kyk).2.2.2.2)]) (by kernel_rfl) (by kernel_rfl) (by kernel_rfl) (by kernel_rfl) (by kernel_rfl)) (fun g => by kernel_rfl), trivial⟩
            intro g
            refine Ex'.sub (subB_spec [0, 1, 5, 6, 8, 7, 9, 10]) ?_
            refine Ex'.as [0, 1, 2, 3, 4, 5, 6, 19, 20] (σ' := [(0, iV m), (1, .slice (some ⟨g11, off12, none⟩) xs.length cap), (5, pV b3 0), (6, pV b5 0), (8, iV (k : Int)), (7, .slice (some ⟨b20, 0, none⟩) ((rw ++ [kyk]).length) c18), (9, pV (blkOf (g 12)) 0), (10, pV (blkOf (g 13)) 0)]) (Γ' := [oldR w0, lfuB b3 qb4 m ((lfuReq m nowa false Ta kyk).1) false, hpS qb4 ((lfuReq m nowa false Ta kyk).2.1) (na + 1), lfuB b5 qb6 m ((lfuReq m nowb true Tb kyk).1) true, hpS qb6 ((lfuReq m nowb true Tb kyk).2.1) (nb + 1), rowR 9 1 (.slice (some ⟨b20, 0, none⟩) ((rw ++ [kyk]).length) c18) ((rw ++ [kyk]).length) ((rw ++ [kyk]).map Value.string), blkR b15 [sV kyk] 9, blkR (blkOf (g 12)) [bV ((lfuReq m nowa false Ta kyk).2.2.1), sV ((lfuReq m nowa false Ta kyk).2.2.2.1), bV ((lfuReq m nowa false Ta kyk).2.2.2.2)] 68, blkR (blkOf (g 13)) [bV ((lfuReq m nowb true Tb kyk).2.2.1), sV ((lfuReq m nowb true Tb kyk).2.2.2.1), bV ((lfuReq m nowb true Tb kyk).2.2.2.2)] 68]) (by kernel_rfl) rfl (by kernel_rfl) (by kernel_rfl) ?_
            generalize blkOf (g 12) = b23
            generalize blkOf (g 13) = b24
            generalize hxx25 : lfuReq m nowa false Ta kyk = x25
            obtain ⟨hIA2, hNA, hHA, hOA, hVA⟩ := LOnA.step hIA (by omega) h14 hxx25
            generalize hxx26 : lfuReq m nowb true Tb kyk = x26
            obtain ⟨hIB2, hNB, hHB, hOB, hVB⟩ := LOnB.step hIB (by omega) h14 hxx26
            refine Ex'.next ?_
            refine Cd.seq ?_
            refine Cd.seq ?_
            refine Cd.region rfl ?_
            refine Sq.vals [0] (rest := [1, 2, 3, 4, 5, 6, 7, 8, 9, 10, 11, 12, 13, 14, 15, 16, 17, 18, 19, 20, 21]) [pV b23 0] (fun w => by kernel_rfl) ?_
            refine Sq.same [7] (l := [blkR b23 [bV x25.2.2.1, sV x25.2.2.2.1, bV x25.2.2.2.2] 68]) (o_load (i := 0) (v := bV x25.2.2.1) (by kernel_rfl) (by kernel_rfl) (by kernel_rfl)) (by kernel_rfl) rfl (by kernel_rfl) rfl ?_
            refine Sq.vals [2] (rest := [3, 4, 5, 6, 7, 8, 9, 10, 11, 12, 13, 14, 15, 16, 17, 18, 19, 20, 21]) [bV x25.2.2.1] (fun w => by kernel_rfl) ?_
            refine Sq.re 69 rfl (congrArg Value.bool (show x25.2.2.1 = false from (by rw [hHA]))) ?_
            refine Sq.vals [3] (rest := [4, 5, 6, 7, 8, 9, 10, 11, 12, 13, 14, 15, 16, 17, 18, 19, 20, 21]) [pV b24 0] (fun w => by kernel_rfl) ?_
            refine Sq.same [8] (l := [blkR b24 [bV x26.2.2.1, sV x26.2.2.2.1, bV x26.2.2.2.2] 68]) (o_load (i := 0) (v := bV x26.2.2.1) (by kernel_rfl) (by kernel_rfl) (by kernel_rfl)) (by kernel_rfl) rfl (by kernel_rfl) rfl ?_
            refine Sq.vals [5, 6] (rest := [7, 8, 9, 10, 11, 12, 13, 14, 15, 16, 17, 18, 19, 20, 21]) [bV x26.2.2.1, bV x26.2.2.1] (fun w => by kernel_rfl) ?_
            refine Sq.re 73 rfl (congrArg Value.bool (show x26.2.2.1 = false from (by rw [hHB]))) ?_
            refine Sq.vals [7] (rest := [8, 9, 10, 11, 12, 13, 14, 15, 16, 17, 18, 19, 20, 21]) [pV b23 2] (fun w => by kernel_rfl) ?_
            refine Sq.same [7] (l := [blkR b23 [bV x25.2.2.1, sV x25.2.2.2.1, bV x25.2.2.2.2] 68]) (o_load (i := 2) (v := bV x25.2.2.2.2) (by kernel_rfl) (by kernel_rfl) (by kernel_rfl)) (by kernel_rfl) rfl (by kernel_rfl) rfl ?_
            refine Sq.vals [9, 10, 11, 12, 13, 14, 15] (rest := [16, 17, 18, 19, 20, 21]) [.slice (some ⟨b20, 0, none⟩) ((rw ++ [kyk]).length) c18, iV ((rw ++ [kyk]).length : Int), iV m, bV (decide (((rw ++ [kyk]).length : Int) > m)), bV (!(x25.2.2.2.2 == (decide (((rw ++ [kyk]).length : Int) > m)))), bV (!(x25.2.2.2.2 == (decide (((rw ++ [kyk]).length : Int) > m)))), bV (!(x25.2.2.2.2 == (decide (((rw ++ [kyk]).length : Int) > m))))] (fun w => by kernel_rfl) ?_
            refine Sq.re 82 rfl (congrArg Value.bool (show (!(x25.2.2.2.2 == (decide (((rw ++ [kyk]).length : Int) > m)))) = false from (by simp only [hOA, hOB, beq_self_eq_true, Bool.not_true, Bool.false_eq_true, not_false_eq_true]))) ?_
            refine Sq.vals [16] (rest := [17, 18, 19, 20, 21]) [pV b24 2] (fun w => by kernel_rfl) ?_
            refine Sq.same [8] (l := [blkR b24 [bV x26.2.2.1, sV x26.2.2.2.1, bV x26.2.2.2.2] 68]) (o_load (i := 2) (v := bV x26.2.2.2.2) (by kernel_rfl) (by kernel_rfl) (by kernel_rfl)) (by kernel_rfl) rfl (by kernel_rfl) rfl ?_
            refine Sq.vals [18] (rest := [19, 20, 21]) [pV b23 2] (fun w => by kernel_rfl) ?_
            refine Sq.same [7] (l := [blkR b23 [bV x25.2.2.1, sV x25.2.2.2.1, bV x25.2.2.2.2] 68]) (o_load (i := 2) (v := bV x25.2.2.2.2) (by kernel_rfl) (by kernel_rfl) (by kernel_rfl)) (by kernel_rfl) rfl (by kernel_rfl) rfl ?_
            refine Sq.vals [20, 21] (rest := []) [bV (!(x26.2.2.2.2 == x25.2.2.2.2)), bV (!(x26.2.2.2.2 == x25.2.2.2.2))] (fun w => by kernel_rfl) ?_
            refine Sq.done ?_
            refine Ex'.next ?_
            refine Cd.condF (by rw [show ev _ _ = some (.bool ((!(x26.2.2.2.2 == x25.2.2.2.2)))) from by kernel_rfl, show (!(x26.2.2.2.2 == x25.2.2.2.2)) = false from (by simp only [hOA, hOB, beq_self_eq_true, Bool.not_true, Bool.false_eq_true, not_false_eq_true])]) ?_
            refine Cd.skip ?_
            refine Ex'.next ?_
            refine Cd.seq ?_
            rcases Bool.eq_false_or_eq_true (x25.2.2.2.2) with h31 | h31
            ·
              obtain ⟨hv1, hv2⟩ := hVA h31
              obtain ⟨hu1, hu2⟩ := hVB (hOB.trans (hOA.symm.trans h31))
              by_cases h32 : m = 1
              ·
                refine Cd.plan (0 :: 1 :: 3 :: 7 :: 15 :: 7 :: 7 :: 71 :: 199 :: 7 :: 967 :: 2023 :: 4071 :: 8191 :: 16383 :: 32767 :: 65535 :: 32767 :: 32767 :: 294911 :: 819199 :: 1998847 :: 4095999 :: 8388607 :: 16777215 :: 33554431 :: 67108863 :: 134217727 :: 268435455 :: 536870911 :: 1073741823 :: 2147483647 :: 4294967295 :: 8589934591 :: 17179869183 :: 8589934591 :: 8589934591 :: 77309411327 :: 214748364799 :: 523986010111 :: 1073741823999 :: 2199023255551 :: 4398046511103 :: 8796093022207 :: 17592186044415 :: []) [(1, [(7, false, 0)]), (4, [(7, false, 0)]), (12, [(5, false, 0)]), (16, [(8, false, 0)]), (22, [(5, false, 0)]), (34, [(8, false, 0)]), (40, [(5, false, 0)])] [] [] [] ((fun g => pV b23 2) :: (fun g => bV x25.2.2.2.2) :: (fun g => bV true) :: (fun g => pV b23 1) :: (fun g => sV x25.2.2.2.1) :: (fun g => .slice (some ⟨b20, 0, none⟩) ((rw ++ [kyk]).length) c18) :: (fun g => .slice (some ⟨b20, 0, none⟩) ((rw ++ [kyk]).length) c18) :: (fun g => iV ((rw ++ [kyk]).length : Int)) :: (fun g => iV (((rw ++ [kyk]).length : Int) - 1)) :: (fun g => iV m) :: (fun g => iV ((((rw ++ [kyk]).length : Int) - 1) - m)) :: (fun g => pV b20 (rw.length - m.toNat)) :: (fun g => sV ((rw ++ [kyk]).getD (rw.length - m.toNat) ⟨#[]⟩)) :: (fun g => bV false) :: (fun g => bV false) :: (fun g => pV b24 1) :: (fun g => sV x26.2.2.2.1) :: (fun g => .slice (some ⟨b20, 0, none⟩) ((rw ++ [kyk]).length) c18) :: (fun g => .slice (some ⟨b20, 0, none⟩) ((rw ++ [kyk]).length) c18) :: (fun g => iV ((rw ++ [kyk]).length : Int)) :: (fun g => iV (((rw ++ [kyk]).length : Int) - 2)) :: (fun g => pV b20 ((rw ++ [kyk]).length - 2)) :: (fun g => sV ((rw ++ [kyk]).getD ((rw ++ [kyk]).length - 2) ⟨#[]⟩)) :: (fun g => bV false) :: (fun g => bV false) :: (fun g => undef) :: (fun g => undef) :: (fun g => bV false) :: (fun g => bV false) :: (fun g => bV false) :: (fun g => iV m) :: (fun g => bV true) :: (fun g => bV true) :: (fun g => pV b24 1) :: (fun g => sV x26.2.2.2.1) :: (fun g => .slice (some ⟨b20, 0, none⟩) ((rw ++ [kyk]).length) c18) :: (fun g => .slice (some ⟨b20, 0, none⟩) ((rw ++ [kyk]).length) c18) :: (fun g => iV ((rw ++ [kyk]).length : Int)) :: (fun g => iV (((rw ++ [kyk]).length : Int) - 2)) :: (fun g => pV b20 ((rw ++ [kyk]).length - 2)) :: (fun g => sV ((rw ++ [kyk]).getD ((rw ++ [kyk]).length - 2) ⟨#[]⟩)) :: (fun g => bV false) :: (fun g => bV false) :: (fun g => bV false) :: (fun g => bV false) :: []) (by kernel_rfl) (by kernel_rfl) rfl (trivial) ?_ ?_
                · exact ⟨ob_val fun g w => by kernel_rfl, ob_s (l := fun g => [blkR b23 [bV x25.2.2.1, sV x25.2.2.2.1, bV x25.2.2.2.2] 68]) (l' := fun g => [blkR b23 [bV x25.2.2.1, sV x25.2.2.2.1, bV x25.2.2.2.2] 68]) (v := fun g => bV x25.2.2.2.2) (fun g => o_load (i := 2) (v := bV x25.2.2.2.2) (by kernel_rfl) (by kernel_rfl) (by kernel_rfl)) (fun g => by kernel_rfl), ob_v (v := fun g => bV true) (fun g => OprV.re (pureV (v := bV x25.2.2.2.2) (by kernel_rfl) rfl fun w => by kernel_rfl) (congrArg Value.bool (show x25.2.2.2.2 = true from h31))) (fun g => by kernel_rfl), ob_val fun g w => by kernel_rfl, ob_s (l := fun g => [blkR b23 [bV x25.2.2.1, sV x25.2.2.2.1, bV x25.2.2.2.2] 68]) (l' := fun g => [blkR b23 [bV x25.2.2.1, sV x25.2.2.2.1, bV x25.2.2.2.2] 68]) (v := fun g => sV x25.2.2.2.1) (fun g => o_load (i := 1) (v := sV x25.2.2.2.1) (by kernel_rfl) (by kernel_rfl) (by kernel_rfl)) (fun g => by kernel_rfl), ob_val fun g w => by kernel_rfl, ob_val fun g w => by kernel_rfl, ob_val fun g w => by kernel_rfl, ob_v (v := fun g => iV (((rw ++ [kyk]).length : Int) - 1)) (fun g => o_sub (k := .i64) (a := ((rw ++ [kyk]).length : Int)) (b := 1) (c := ((rw ++ [kyk]).length : Int) - 1) (by kernel_rfl) (by kernel_rfl) (w64 rfl (by omega))) (fun g => by kernel_rfl), ob_val fun g w => by kernel_rfl, ob_v (v := fun g => iV ((((rw ++ [kyk]).length : Int) - 1) - m)) (fun g => o_sub (k := .i64) (a := ((rw ++ [kyk]).length : Int) - 1) (b := m) (c := (((rw ++ [kyk]).length : Int) - 1) - m) (by kernel_rfl) (by kernel_rfl) (w64 rfl (by omega))) (fun g => by kernel_rfl), ob_v (v := fun g => pV b20 (rw.length - m.toNat)) (fun g => o_idx (b := b20) (cap := c18) (e := 9) (off := 0) (n := (rw ++ [kyk]).length) (kd := .i64) (q := (((rw ++ [kyk]).length : Int) - 1) - m) (i := rw.length - m.toNat) (size := 1) (j := rw.length - m.toNat) (by kernel_rfl) (by kernel_rfl) (by simp only [List.length_append, List.length_singleton]; omega) (by omega) Try.underlying47 (by kernel_rfl) (by omega)) (fun g => by kernel_rfl), ob_s (l := fun g => [rowR 9 1 (.slice (some ⟨b20, 0, none⟩) ((rw ++ [kyk]).length) c18) ((rw ++ [kyk]).length) ((rw ++ [kyk]).map Value.string)]) (l' := fun g => [rowR 9 1 (.slice (some ⟨b20, 0, none⟩) ((rw ++ [kyk]).length) c18) ((rw ++ [kyk]).length) ((rw ++ [kyk]).map Value.string)]) (v := fun g => sV ((rw ++ [kyk]).getD (rw.length - m.toNat) ⟨#[]⟩)) (fun g => o_loadRow (i := rw.length - m.toNat) (u := sV ((rw ++ [kyk]).getD (rw.length - m.toNat) ⟨#[]⟩)) (by kernel_rfl) (by omega) (by kernel_rfl) (get_map (by omega))) (fun g => by kernel_rfl), ob_v (v := fun g => bV false) (fun g => OprV.re (o_neS (a := x25.2.2.2.1) (b := (rw ++ [kyk]).getD (rw.length - m.toNat) ⟨#[]⟩) (by kernel_rfl) (by kernel_rfl)) (vF (fun z => z hv1))) (fun g => by kernel_rfl), ob_val fun g w => by kernel_rfl, ob_val fun g w => by kernel_rfl, ob_s (l := fun g => [blkR b24 [bV x26.2.2.1, sV x26.2.2.2.1, bV x26.2.2.2.2] 68]) (l' := fun g => [blkR b24 [bV x26.2.2.1, sV x26.2.2.2.1, bV x26.2.2.2.2] 68]) (v := fun g => sV x26.2.2.2.1) (fun g => o_load (i := 1) (v := sV x26.2.2.2.1) (by kernel_rfl) (by kernel_rfl) (by kernel_rfl)) (fun g => by kernel_rfl), ob_val fun g w => by kernel_rfl, ob_val fun g w => by kernel_rfl, ob_val fun g w => by kernel_rfl, ob_v (v := fun g => iV (((rw ++ [kyk]).length : Int) - 2)) (fun g => o_sub (k := .i64) (a := ((rw ++ [kyk]).length : Int)) (b := 2) (c := ((rw ++ [kyk]).length : Int) - 2) (by kernel_rfl) (by kernel_rfl) (w64 rfl (by omega))) (fun g => by kernel_rfl), ob_v (v := fun g => pV b20 ((rw ++ [kyk]).length - 2)) (fun g => o_idx (b := b20) (cap := c18) (e := 9) (off := 0) (n := (rw ++ [kyk]).length) (kd := .i64) (q := ((rw ++ [kyk]).length : Int) - 2) (i := (rw ++ [kyk]).length - 2) (size := 1) (j := (rw ++ [kyk]).length - 2) (by kernel_rfl) (by kernel_rfl) (by simp only [List.length_append, List.length_singleton]; omega) (by omega) Try.underlying47 (by kernel_rfl) (by omega)) (fun g => by kernel_rfl), ob_s (l := fun g => [rowR 9 1 (.slice (some ⟨b20, 0, none⟩) ((rw ++ [kyk]).length) c18) ((rw ++ [kyk]).length) ((rw ++ [kyk]).map Value.string)]) (l' := fun g => [rowR 9 1 (.slice (some ⟨b20, 0, none⟩) ((rw ++ [kyk]).length) c18) ((rw ++ [kyk]).length) ((rw ++ [kyk]).map Value.string)]) (v := fun g => sV ((rw ++ [kyk]).getD ((rw ++ [kyk]).length - 2) ⟨#[]⟩)) (fun g => o_loadRow (i := (rw ++ [kyk]).length - 2) (u := sV ((rw ++ [kyk]).getD ((rw ++ [kyk]).length - 2) ⟨#[]⟩)) (by kernel_rfl) (by omega) (by kernel_rfl) (get_map (by omega))) (fun g => by kernel_rfl), ob_v (v := fun g => bV false) (fun g => OprV.re (o_neS (a := x26.2.2.2.1) (b := (rw ++ [kyk]).getD ((rw ++ [kyk]).length - 2) ⟨#[]⟩) (by kernel_rfl) (by kernel_rfl)) (vF (fun z => z hu1))) (fun g => by kernel_rfl), ob_val fun g w => by kernel_rfl, ob_val fun g w => by kernel_rfl, ob_val fun g w => by kernel_rfl, ob_val fun g w => by kernel_rfl, ob_val fun g w => by kernel_rfl, ob_val fun g w => by kernel_rfl, ob_val fun g w => by kernel_rfl, ob_v (v := fun g => bV true) (fun g => OprV.re (o_eqI (k := .i64) (a := m) (b := 1) (by kernel_rfl) (by kernel_rfl)) (vT h32)) (fun g => by kernel_rfl), ob_val fun g w => by kernel_rfl, ob_val fun g w => by kernel_rfl, ob_s (l := fun g => [blkR b24 [bV x26.2.2.1, sV x26.2.2.2.1, bV x26.2.2.2.2] 68]) (l' := fun g => [blkR b24 [bV x26.2.2.1, sV x26.2.2.2.1, bV x26.2.2.2.2] 68]) (v := fun g => sV x26.2.2.2.1) (fun g => o_load (i := 1) (v := sV x26.2.2.2.1) (by kernel_rfl) (by kernel_rfl) (by kernel_rfl)) (fun g => by kernel_rfl), ob_val fun g w => by kernel_rfl, ob_val fun g w => by kernel_rfl, ob_val fun g w => by kernel_rfl, ob_v (v := fun g => iV (((rw ++ [kyk]).length : Int) - 2)) (fun g => o_sub (k := .i64) (a := ((rw ++ [kyk]).length : Int)) (b := 2) (c := ((rw ++ [kyk]).length : Int) - 2) (by kernel_rfl) (by kernel_rfl) (w64 rfl (by omega))) (fun g => by kernel_rfl), ob_v (v := fun g => pV b20 ((rw ++ [kyk]).length - 2)) (fun g => o_idx (b := b20) (cap := c18) (e := 9) (off := 0) (n := (rw ++ [kyk]).length) (kd := .i64) (q := ((rw ++ [kyk]).length : Int) - 2) (i := (rw ++ [kyk]).length - 2) (size := 1) (j := (rw ++ [kyk]).length - 2) (by kernel_rfl) (by kernel_rfl) (by simp only [List.length_append, List.length_singleton]; omega) (by omega) Try.underlying47 (by kernel_rfl) (by omega)) (fun g => by kernel_rfl), ob_s (l := fun g => [rowR 9 1 (.slice (some ⟨b20, 0, none⟩) ((rw ++ [kyk]).length) c18) ((rw ++ [kyk]).length) ((rw ++ [kyk]).map Value.string)]) (l' := fun g => [rowR 9 1 (.slice (some ⟨b20, 0, none⟩) ((rw ++ [kyk]).length) c18) ((rw ++ [kyk]).length) ((rw ++ [kyk]).map Value.string)]) (v := fun g => sV ((rw ++ [kyk]).getD ((rw ++ [kyk]).length - 2) ⟨#[]⟩)) (fun g => o_loadRow (i := (rw ++ [kyk]).length - 2) (u := sV ((rw ++ [kyk]).getD ((rw ++ [kyk]).length - 2) ⟨#[]⟩)) (by kernel_rfl) (by omega) (by kernel_rfl) (get_map (by omega))) (fun g => by kernel_rfl), ob_v (v := fun g => bV false) (fun g => OprV.re (o_neS (a := x26.2.2.2.1) (b := (rw ++ [kyk]).getD ((rw ++ [kyk]).length - 2) ⟨#[]⟩) (by kernel_rfl) (by kernel_rfl)) (vF (fun z => z hu1))) (fun g => by kernel_rfl), ob_val fun g w => by kernel_rfl, ob_val fun g w => by kernel_rfl, ob_val fun g w => by kernel_rfl, trivial⟩
                intro g
                refine Ex'.sub (subB_spec [0, 1, 5, 6, 8, 7, 133]) ?_
                refine Ex'.as [0, 1, 2, 3, 4, 5, 6, 7, 8] (σ' := [(0, iV m), (1, .slice (some ⟨g11, off12, none⟩) xs.length cap), (5, pV b3 0), (6, pV b5 0), (8, iV (k : Int)), (7, .slice (some ⟨b20, 0, none⟩) ((rw ++ [kyk]).length) c18), (133, bV false)]) (Γ' := [oldR w0, lfuB b3 qb4 m x25.1 false, hpS qb4 x25.2.1 (na + 1), lfuB b5 qb6 m x26.1 true, hpS qb6 x26.2.1 (nb + 1), rowR 9 1 (.slice (some ⟨b20, 0, none⟩) ((rw ++ [kyk]).length) c18) ((rw ++ [kyk]).length) ((rw ++ [kyk]).map Value.string), blkR b15 [sV kyk] 9, blkR b23 [bV x25.2.2.1, sV x25.2.2.2.1, bV x25.2.2.2.2] 68, blkR b24 [bV x26.2.2.1, sV x26.2.2.2.1, bV x26.2.2.2.2] 68]) (by kernel_rfl) rfl (by kernel_rfl) (by kernel_rfl) ?_
                refine Ex'.next ?_
                refine Cd.condF (by kernel_rfl) ?_
                refine Cd.skip ?_
                refine Ex'.blockNormal ?_
                refine Ex'.next ?_
                refine Cd.region rfl ?_
                refine Sq.vals [0] (rest := [1, 2]) [iV (k : Int)] (fun w => by kernel_rfl) ?_
                refine Sq.v (r := iV ((k : Int) + 1)) (o_add (k := .i64) (a := (k : Int)) (b := 1) (c := (k : Int) + 1) (by kernel_rfl) (by kernel_rfl) (w64 rfl (by omega))) rfl (by kernel_rfl) ?_
                refine Sq.vals [2] (rest := []) [iV ((k : Int) + 1)] (fun w => by kernel_rfl) ?_
                refine Sq.done ?_
                refine Ex'.round (g := (k, nowa, Ta, na, nowb, Tb, nb, .slice a8 rw.length c9, rw)) (k + 1, x25.1, x25.2.1, na + 1, x26.1, x26.2.1, nb + 1, .slice (some ⟨b20, 0, none⟩) ((rw ++ [kyk]).length) c18, rw ++ [kyk]) ?_ ?_ (subB_eq (l := [0, 1, 5, 6, 8, 7]) (by kernel_rfl)) (fun w hw => hw.pickB [0, 1, 2, 3, 4, 5] (by kernel_rfl) (by kernel_rfl) (by kernel_rfl))
                · (try dsimp only); exact ⟨by omega, hIA2, hIB2, by simp only [List.length_append, List.length_singleton]; omega, by simp only [List.length_append, List.length_singleton]; omega, by omega, by omega, by simp only [List.length_append, List.length_singleton]; omega⟩
                · omega
              ·
                refine Cd.plan (0 :: 1 :: 3 :: 7 :: 15 :: 7 :: 7 :: 71 :: 199 :: 7 :: 967 :: 2023 :: 4071 :: 8191 :: 16383 :: 32767 :: 65535 :: 32767 :: 32767 :: 294911 :: 819199 :: 1998847 :: 4095999 :: 8388607 :: 16777215 :: 33554431 :: 67108863 :: 134217727 :: 268435455 :: 536870911 :: 1073741823 :: 2147483647 :: 4294967295 :: 8589934591 :: 17179869183 :: 8589934591 :: 8589934591 :: 77309411327 :: 214748364799 :: 523986010111 :: 1073741823999 :: 2199023255551 :: 4398046511103 :: 8796093022207 :: 17592186044415 :: []) [(1, [(7, false, 0)]), (4, [(7, false, 0)]), (12, [(5, false, 0)]), (16, [(8, false, 0)]), (22, [(5, false, 0)])] [] [] [] ((fun g => pV b23 2) :: (fun g => bV x25.2.2.2.2) :: (fun g => bV true) :: (fun g => pV b23 1) :: (fun g => sV x25.2.2.2.1) :: (fun g => .slice (some ⟨b20, 0, none⟩) ((rw ++ [kyk]).length) c18) :: (fun g => .slice (some ⟨b20, 0, none⟩) ((rw ++ [kyk]).length) c18) :: (fun g => iV ((rw ++ [kyk]).length : Int)) :: (fun g => iV (((rw ++ [kyk]).length : Int) - 1)) :: (fun g => iV m) :: (fun g => iV ((((rw ++ [kyk]).length : Int) - 1) - m)) :: (fun g => pV b20 (rw.length - m.toNat)) :: (fun g => sV ((rw ++ [kyk]).getD (rw.length - m.toNat) ⟨#[]⟩)) :: (fun g => bV false) :: (fun g => bV false) :: (fun g => pV b24 1) :: (fun g => sV x26.2.2.2.1) :: (fun g => .slice (some ⟨b20, 0, none⟩) ((rw ++ [kyk]).length) c18) :: (fun g => .slice (some ⟨b20, 0, none⟩) ((rw ++ [kyk]).length) c18) :: (fun g => iV ((rw ++ [kyk]).length : Int)) :: (fun g => iV (((rw ++ [kyk]).length : Int) - 2)) :: (fun g => pV b20 ((rw ++ [kyk]).length - 2)) :: (fun g => sV ((rw ++ [kyk]).getD ((rw ++ [kyk]).length - 2) ⟨#[]⟩)) :: (fun g => bV false) :: (fun g => bV false) :: (fun g => undef) :: (fun g => undef) :: (fun g => bV false) :: (fun g => bV false) :: (fun g => bV false) :: (fun g => iV m) :: (fun g => bV false) :: (fun g => bV false) :: (fun g => undef) :: (fun g => undef) :: (fun g => undef) :: (fun g => undef) :: (fun g => undef) :: (fun g => undef) :: (fun g => undef) :: (fun g => undef) :: (fun g => undef) :: (fun g => bV false) :: (fun g => bV false) :: (fun g => bV false) :: []) (by kernel_rfl) (by kernel_rfl) rfl (trivial) ?_ ?_
                · exact ⟨ob_val fun g w => by kernel_rfl, ob_s (l := fun g => [blkR b23 [bV x25.2.2.1, sV x25.2.2.2.1, bV x25.2.2.2.2] 68]) (l' := fun g => [blkR b23 [bV x25.2.2.1, sV x25.2.2.2.1, bV x25.2.2.2.2] 68]) (v := fun g => bV x25.2.2.2.2) (fun g => o_load (i := 2) (v := bV x25.2.2.2.2) (by kernel_rfl) (by kernel_rfl) (by kernel_rfl)) (fun g => by kernel_rfl), ob_v (v := fun g => bV true) (fun g => OprV.re (pureV (v := bV x25.2.2.2.2) (by kernel_rfl) rfl fun w => by kernel_rfl) (congrArg Value.bool (show x25.2.2.2.2 = true from h31))) (fun g => by kernel_rfl), ob_val fun g w => by kernel_rfl, ob_s (l := fun g => [blkR b23 [bV x25.2.2.1, sV x25.2.2.2.1, bV x25.2.2.2.2] 68]) (l' := fun g => [blkR b23 [bV x25.2.2.1, sV x25.2.2.2.1, bV x25.2.2.2.2] 68]) (v := fun g => sV x25.2.2.2.1) (fun g => o_load (i := 1) (v := sV x25.2.2.2.1) (by kernel_rfl) (by kernel_rfl) (by kernel_rfl)) (fun g => by kernel_rfl), ob_val fun g w => by kernel_rfl, ob_val fun g w => by kernel_rfl, ob_val fun g w => by kernel_rfl, ob_v (v := fun g => iV (((rw ++ [kyk]).length : Int) - 1)) (fun g => o_sub (k := .i64) (a := ((rw ++ [kyk]).length : Int)) (b := 1) (c := ((rw ++ [kyk]).length : Int) - 1) (by kernel_rfl) (by kernel_rfl) (w64 rfl (by omega))) (fun g => by kernel_rfl), ob_val fun g w => by kernel_rfl, ob_v (v := fun g => iV ((((rw ++ [kyk]).length : Int) - 1) - m)) (fun g => o_sub (k := .i64) (a := ((rw ++ [kyk]).length : Int) - 1) (b := m) (c := (((rw ++ [kyk]).length : Int) - 1) - m) (by kernel_rfl) (by kernel_rfl) (w64 rfl (by omega))) (fun g => by kernel_rfl), ob_v (v := fun g => pV b20 (rw.length - m.toNat)) (fun g => o_idx (b := b20) (cap := c18) (e := 9) (off := 0) (n := (rw ++ [kyk]).length) (kd := .i64) (q := (((rw ++ [kyk]).length : Int) - 1) - m) (i := rw.length - m.toNat) (size := 1) (j := rw.length - m.toNat) (by kernel_rfl) (by kernel_rfl) (by simp only [List.length_append, List.length_singleton]; omega) (by omega) Try.underlying47 (by kernel_rfl) (by omega)) (fun g => by kernel_rfl), ob_s (l := fun g => [rowR 9 1 (.slice (some ⟨b20, 0, none⟩) ((rw ++ [kyk]).length) c18) ((rw ++ [kyk]).length) ((rw ++ [kyk]).map Value.string)]) (l' := fun g => [rowR 9 1 (.slice (some ⟨b20, 0, none⟩) ((rw ++ [kyk]).length) c18) ((rw ++ [kyk]).length) ((rw ++ [kyk]).map Value.string)]) (v := fun g => sV ((rw ++ [kyk]).getD (rw.length - m.toNat) ⟨#[]⟩)) (fun g => o_loadRow (i := rw.length - m.toNat) (u := sV ((rw ++ [kyk]).getD (rw.length - m.toNat) ⟨#[]⟩)) (by kernel_rfl) (by omega) (by kernel_rfl) (get_map (by omega))) (fun g => by kernel_rfl), ob_v (v := fun g => bV false) (fun g => OprV.re (o_neS (a := x25.2.2.2.1) (b := (rw ++ [kyk]).getD (rw.length - m.toNat) ⟨#[]⟩) (by kernel_rfl) (by kernel_rfl)) (vF (fun z => z hv1))) (fun g => by kernel_rfl), ob_val fun g w => by kernel_rfl, ob_val fun g w => by kernel_rfl, ob_s (l := fun g => [blkR b24 [bV x26.2.2.1, sV x26.2.2.2.1, bV x26.2.2.2.2] 68]) (l' := fun g => [blkR b24 [bV x26.2.2.1, sV x26.2.2.2.1, bV x26.2.2.2.2] 68]) (v := fun g => sV x26.2.2.2.1) (fun g => o_load (i := 1) (v := sV x26.2.2.2.1) (by kernel_rfl) (by kernel_rfl) (by kernel_rfl)) (fun g => by kernel_rfl), ob_val fun g w => by kernel_rfl, ob_val fun g w => by kernel_rfl, ob_val fun g w => by kernel_rfl, ob_v (v := fun g => iV (((rw ++ [kyk]).length : Int) - 2)) (fun g => o_sub (k := .i64) (a := ((rw ++ [kyk]).length : Int)) (b := 2) (c := ((rw ++ [kyk]).length : Int) - 2) (by kernel_rfl) (by kernel_rfl) (w64 rfl (by omega))) (fun g => by kernel_rfl), ob_v (v := fun g => pV b20 ((rw ++ [kyk]).length - 2)) (fun g => o_idx (b := b20) (cap := c18) (e := 9) (off := 0) (n := (rw ++ [kyk]).length) (kd := .i64) (q := ((rw ++ [kyk]).length : Int) - 2) (i := (rw ++ [kyk]).length - 2) (size := 1) (j := (rw ++ [kyk]).length - 2) (by kernel_rfl) (by kernel_rfl) (by simp only [List.length_append, List.length_singleton]; omega) (by omega) Try.underlying47 (by kernel_rfl) (by omega)) (fun g => by kernel_rfl), ob_s (l := fun g => [rowR 9 1 (.slice (some ⟨b20, 0, none⟩) ((rw ++ [kyk]).length) c18) ((rw ++ [kyk]).length) ((rw ++ [kyk]).map Value.string)]) (l' := fun g => [rowR 9 1 (.slice (some ⟨b20, 0, none⟩) ((rw ++ [kyk]).length) c18) ((rw ++ [kyk]).length) ((rw ++ [kyk]).map Value.string)]) (v := fun g => sV ((rw ++ [kyk]).getD ((rw ++ [kyk]).length - 2) ⟨#[]⟩)) (fun g => o_loadRow (i := (rw ++ [kyk]).length - 2) (u := sV ((rw ++ [kyk]).getD ((rw ++ [kyk]).length - 2) ⟨#[]⟩)) (by kernel_rfl) (by omega) (by kernel_rfl) (get_map (by omega))) (fun g => by kernel_rfl), ob_v (v := fun g => bV false) (fun g => OprV.re (o_neS (a := x26.2.2.2.1) (b := (rw ++ [kyk]).getD ((rw ++ [kyk]).length - 2) ⟨#[]⟩) (by kernel_rfl) (by kernel_rfl)) (vF (fun z => z hu1))) (fun g => by kernel_rfl), ob_val fun g w => by kernel_rfl, ob_val fun g w => by kernel_rfl, ob_val fun g w => by kernel_rfl, ob_val fun g w => by kernel_rfl, ob_val fun g w => by kernel_rfl, ob_val fun g w => by kernel_rfl, ob_val fun g w => by kernel_rfl, ob_v (v := fun g => bV false) (fun g => OprV.re (o_eqI (k := .i64) (a := m) (b := 1) (by kernel_rfl) (by kernel_rfl)) (vF h32)) (fun g => by kernel_rfl), ob_val fun g w => by kernel_rfl, ob_val fun g w => by kernel_rfl, ob_val fun g w => by kernel_rfl, ob_val fun g w => by kernel_rfl, ob_val fun g w => by kernel_rfl, ob_val fun g w => by kernel_rfl, ob_val fun g w => by kernel_rfl, ob_val fun g w => by kernel_rfl, ob_val fun g w => by kernel_rfl, ob_val fun g w => by kernel_rfl, ob_val fun g w => by kernel_rfl, ob_val fun g w => by kernel_rfl, ob_val fun g w => by kernel_rfl, trivial⟩
                intro g
                refine Ex'.sub (subB_spec [0, 1, 5, 6, 8, 7, 133]) ?_
                refine Ex'.as [0, 1, 2, 3, 4, 5, 6, 7, 8] (σ' := [(0, iV m), (1, .slice (some ⟨g11, off12, none⟩) xs.length cap), (5, pV b3 0), (6, pV b5 0), (8, iV (k : Int)), (7, .slice (some ⟨b20, 0, none⟩) ((rw ++ [kyk]).length) c18), (133, bV false)]) (Γ' := [oldR w0, lfuB b3 qb4 m x25.1 false, hpS qb4 x25.2.1 (na + 1), lfuB b5 qb6 m x26.1 true, hpS qb6 x26.2.1 (nb + 1), rowR 9 1 (.slice (some ⟨b20, 0, none⟩) ((rw ++ [kyk]).length) c18) ((rw ++ [kyk]).length) ((rw ++ [kyk]).map Value.string), blkR b15 [sV kyk] 9, blkR b23 [bV x25.2.2.1, sV x25.2.2.2.1, bV x25.2.2.2.2] 68, blkR b24 [bV x26.2.2.1, sV x26.2.2.2.1, bV x26.2.2.2.2] 68]) (by kernel_rfl) rfl (by kernel_rfl) (by kernel_rfl) ?_
                refine Ex'.next ?_
                refine Cd.condF (by kernel_rfl) ?_
                refine Cd.skip ?_
                refine Ex'.blockNormal ?_
                refine Ex'.next ?_
                refine Cd.region rfl ?_
                refine Sq.vals [0] (rest := [1, 2]) [iV (k : Int)] (fun w => by kernel_rfl) ?_
                refine Sq.v (r := iV ((k : Int) + 1)) (o_add (k := .i64) (a := (k : Int)) (b := 1) (c := (k : Int) + 1) (by kernel_rfl) (by kernel_rfl) (w64 rfl (by omega))) rfl (by kernel_rfl) ?_
                refine Sq.vals [2] (rest := []) [iV ((k : Int) + 1)] (fun w => by kernel_rfl) ?_
                refine Sq.done ?_
                refine Ex'.round (g := (k, nowa, Ta, na, nowb, Tb, nb, .slice a8 rw.length c9, rw)) (k + 1, x25.1, x25.2.1, na + 1, x26.1, x26.2.1, nb + 1, .slice (some ⟨b20, 0, none⟩) ((rw ++ [kyk]).length) c18, rw ++ [kyk]) ?_ ?_ (subB_eq (l := [0, 1, 5, 6, 8, 7]) (by kernel_rfl)) (fun w hw => hw.pickB [0, 1, 2, 3, 4, 5] (by kernel_rfl) (by kernel_rfl) (by kernel_rfl))
                · (try dsimp only); exact ⟨by omega, hIA2, hIB2, by simp only [List.length_append, List.length_singleton]; omega, by simp only [List.length_append, List.length_singleton]; omega, by omega, by omega, by simp only [List.length_append, List.length_singleton]; omega⟩
                · omega
            ·
              refine Cd.plan (0 :: 1 :: 3 :: 7 :: 15 :: 7 :: 7 :: 71 :: 199 :: 7 :: 967 :: 2023 :: 4071 :: 8191 :: 16383 :: 32767 :: 65535 :: 32767 :: 32767 :: 294911 :: 819199 :: 1998847 :: 4095999 :: 8388607 :: 16777215 :: 33554431 :: 67108863 :: 134217727 :: 268435455 :: 536870911 :: 1073741823 :: 2147483647 :: 4294967295 :: 8589934591 :: 17179869183 :: 8589934591 :: 8589934591 :: 77309411327 :: 214748364799 :: 523986010111 :: 1073741823999 :: 2199023255551 :: 4398046511103 :: 8796093022207 :: 17592186044415 :: []) [(1, [(7, false, 0)])] [] [] [] ((fun g => pV b23 2) :: (fun g => bV x25.2.2.2.2) :: (fun g => bV false) :: (fun g => undef) :: (fun g => undef) :: (fun g => undef) :: (fun g => undef) :: (fun g => undef) :: (fun g => undef) :: (fun g => undef) :: (fun g => undef) :: (fun g => undef) :: (fun g => undef) :: (fun g => undef) :: (fun g => undef) :: (fun g => undef) :: (fun g => undef) :: (fun g => undef) :: (fun g => undef) :: (fun g => undef) :: (fun g => undef) :: (fun g => undef) :: (fun g => undef) :: (fun g => undef) :: (fun g => undef) :: (fun g => undef) :: (fun g => undef) :: (fun g => undef) :: (fun g => undef) :: (fun g => undef) :: (fun g => undef) :: (fun g => undef) :: (fun g => undef) :: (fun g => undef) :: (fun g => undef) :: (fun g => undef) :: (fun g => undef) :: (fun g => undef) :: (fun g => undef) :: (fun g => undef) :: (fun g => undef) :: (fun g => undef) :: (fun g => undef) :: (fun g => undef) :: (fun g => bV false) :: []) (by kernel_rfl) (by kernel_rfl) rfl (trivial) ?_ ?_
              · exact ⟨ob_val fun g w => by kernel_rfl, ob_s (l := fun g => [blkR b23 [bV x25.2.2.1, sV x25.2.2.2.1, bV x25.2.2.2.2] 68]) (l' := fun g => [blkR b23 [bV x25.2.2.1, sV x25.2.2.2.1, bV x25.2.2.2.2] 68]) (v := fun g => bV x25.2.2.2.2) (fun g => o_load (i := 2) (v := bV x25.2.2.2.2) (by kernel_rfl) (by kernel_rfl) (by kernel_rfl)) (fun g => by kernel_rfl), ob_v (v := fun g => bV false) (fun g => OprV.re (pureV (v := bV x25.2.2.2.2) (by kernel_rfl) rfl fun w => by kernel_rfl) (congrArg Value.bool (show x25.2.2.2.2 = false from h31))) (fun g => by kernel_rfl), ob_val fun g w => by kernel_rfl, ob_val fun g w => by kernel_rfl, ob_val fun g w => by kernel_rfl, ob_val fun g w => by kernel_rfl, ob_val fun g w => by kernel_rfl, ob_val fun g w => by kernel_rfl, ob_val fun g w => by kernel_rfl, ob_val fun g w => by kernel_rfl, ob_val fun g w => by kernel_rfl, ob_val fun g w => by kernel_rfl, ob_val fun g w => by kernel_rfl, ob_val fun g w => by kernel_rfl, ob_val fun g w => by kernel_rfl, ob_val fun g w => by kernel_rfl, ob_val fun g w => by kernel_rfl, ob_val fun g w => by kernel_rfl, ob_val fun g w => by kernel_rfl, ob_val fun g w => by kernel_rfl, ob_val fun g w => by kernel_rfl, ob_val fun g w => by kernel_rfl, ob_val fun g w => by kernel_rfl, ob_val fun g w => by kernel_rfl, ob_val fun g w => by kernel_rfl, ob_val fun g w => by kernel_rfl, ob_val fun g w => by kernel_rfl, ob_val fun g w => by kernel_rfl, ob_val fun g w => by kernel_rfl, ob_val fun g w => by kernel_rfl, ob_val fun g w => by kernel_rfl, ob_val fun g w => by kernel_rfl, ob_val fun g w => by kernel_rfl, ob_val fun g w => by kernel_rfl, ob_val fun g w => by kernel_rfl, ob_val fun g w => by kernel_rfl, ob_val fun g w => by kernel_rfl, ob_val fun g w => by kernel_rfl, ob_val fun g w => by kernel_rfl, ob_val fun g w => by kernel_rfl, ob_val fun g w => by kernel_rfl, ob_val fun g w => by kernel_rfl, ob_val fun g w => by kernel_rfl, ob_val fun g w => by kernel_rfl, trivial⟩
              intro g
              refine Ex'.sub (subB_spec [0, 1, 5, 6, 8, 7, 133]) ?_
              refine Ex'.as [0, 1, 2, 3, 4, 5, 6, 7, 8] (σ' := [(0, iV m), (1, .slice (some ⟨g11, off12, none⟩) xs.length cap), (5, pV b3 0), (6, pV b5 0), (8, iV (k : Int)), (7, .slice (some ⟨b20, 0, none⟩) ((rw ++ [kyk]).length) c18), (133, bV false)]) (Γ' := [oldR w0, lfuB b3 qb4 m x25.1 false, hpS qb4 x25.2.1 (na + 1), lfuB b5 qb6 m x26.1 true, hpS qb6 x26.2.1 (nb + 1), rowR 9 1 (.slice (some ⟨b20, 0, none⟩) ((rw ++ [kyk]).length) c18) ((rw ++ [kyk]).length) ((rw ++ [kyk]).map Value.string), blkR b15 [sV kyk] 9, blkR b23 [bV x25.2.2.1, sV x25.2.2.2.1, bV x25.2.2.2.2] 68, blkR b24 [bV x26.2.2.1, sV x26.2.2.2.1, bV x26.2.2.2.2] 68]) (by kernel_rfl) rfl (by kernel_rfl) (by kernel_rfl) ?_
              refine Ex'.next ?_
              refine Cd.condF (by kernel_rfl) ?_
              refine Cd.skip ?_
              refine Ex'.blockNormal ?_
              refine Ex'.next ?_
              refine Cd.region rfl ?_
              refine Sq.vals [0] (rest := [1, 2]) [iV (k : Int)] (fun w => by kernel_rfl) ?_
              refine Sq.v (r := iV ((k : Int) + 1)) (o_add (k := .i64) (a := (k : Int)) (b := 1) (c := (k : Int) + 1) (by kernel_rfl) (by kernel_rfl) (w64 rfl (by omega))) rfl (by kernel_rfl) ?_
              refine Sq.vals [2] (rest := []) [iV ((k : Int) + 1)] (fun w => by kernel_rfl) ?_
              refine Sq.done ?_
              refine Ex'.round (g := (k, nowa, Ta, na, nowb, Tb, nb, .slice a8 rw.length c9, rw)) (k + 1, x25.1, x25.2.1, na + 1, x26.1, x26.2.1, nb + 1, .slice (some ⟨b20, 0, none⟩) ((rw ++ [kyk]).length) c18, rw ++ [kyk]) ?_ ?_ (subB_eq (l := [0, 1, 5, 6, 8, 7]) (by kernel_rfl)) (fun w hw => hw.pickB [0, 1, 2, 3, 4, 5] (by kernel_rfl) (by kernel_rfl) (by kernel_rfl))
              · (try dsimp only); exact ⟨by omega, hIA2, hIB2, by simp only [List.length_append, List.length_singleton]; omega, by simp only [List.length_append, List.length_singleton]; omega, by omega, by omega, by simp only [List.length_append, List.length_singleton]; omega⟩
              · omega
      ·
        refine Cd.exit ?_
        refine Ex'.thenExit ?_
        refine Ex'.thenExit ?_
        refine Ex'.blockHit ?_
        refine Ex'.next ?_
        refine Cd.seq ?_
        refine Cd.region rfl ?_
        refine Sq.vals [0] (rest := []) [bV true] (fun w => by kernel_rfl) ?_
        refine Sq.done ?_
        refine Ex'.next ?_
        refine Cd.ret ?_
        refine Ex'.ret Try.results9 (RVs.tmp (v := bV true) (by kernel_rfl) (RVs.nil)) (fun w hw => ?_)
        exact ⟨_, ⟨rfl, by kernel_rfl⟩, hw⟩

theorem lfuOnce_walk (m : Int) (v : Value) (xs : List ByteArray) (w : World) (hm : (Lit.int .i64 m).wf = true) (h : Strs w (fun k => k < w.heap.size) v xs) (hz : ∀ k ∈ xs, k.size ≤ maxLen) :
    Calls Try.prog 9 #[.int .i64 m, v] w fun e w' => e = .returned (.bool true) ∧ Below w.heap.size w w' := by
  obtain ⟨a, cap, rfl, hl⟩ := KeysIn.shape ⟨h, hz⟩
  exact law_of (lfuOnce_tri (range64 hm) hl ⟨h, hz⟩)

end Go.Proofs.Ytnnjccfcalgokaa
