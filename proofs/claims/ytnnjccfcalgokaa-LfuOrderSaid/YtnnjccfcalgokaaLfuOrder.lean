/- LfuOrder: its walk. -/
import Derived.Test.YtnnjccfcalgokaaLfuPure
import Derived.Test.YtnnjccfcalgokaaActs
import Derived.Test.YtnnjccfcalgokaaSepH
import Derived.Test.YtnnjccfcalgokaaLfuPureB
import Derived.Test.YtnnjccfcalgokaaLfuAwake
import Derived.Test.YtnnjccfcalgokaaSepK
set_option linter.unusedVariables false
namespace Go.Proofs.Ytnnjccfcalgokaa
open Go.RowKit Go.MapKept

set_option maxHeartbeats 8000000 in
set_option maxRecDepth 100000 in
theorem lfuOrder_tri {w0 : World} {m r : Int} {ch : Bool} {a : Option Addr} {cap : Nat} {xs : List ByteArray} (hm : -9223372036854775808 ≤ m ∧ m ≤ 9223372036854775807) (hrr : -9223372036854775808 ≤ r ∧ r ≤ 9223372036854775807) (hl : xs.length ≤ cap ∧ cap ≤ 9223372036854775807) (hs : KeysIn w0 (.slice a xs.length cap) xs) : Tri Try.prog 12 #[iV m, bV ch, .slice a xs.length cap, iV r] [oldR w0] (LawP w0) := by
  refine Tri.enter (args := [iV m, bV ch, .slice a xs.length cap, iV r]) Try.func12 rfl rfl rfl (fun B wz => ?_)
  refine Cd.seq ?_
  refine Cd.region rfl ?_
  refine Sq.vals [0] (rest := []) [bV false] (fun w => by kernel_rfl) ?_
  refine Sq.done ?_
  refine Ex'.next ?_
  refine Cd.seq ?_
  refine Cd.seq ?_
  refine Cd.region rfl ?_
  refine Sq.same [] (l := []) (o_call (by kernel_rfl) Try.call29 (lfu_awake)) (by kernel_rfl) rfl (by kernel_rfl) rfl ?_
  refine Sq.vals [1] (rest := []) [bV false] (fun w => by kernel_rfl) ?_
  refine Sq.done ?_
  refine Ex'.next ?_
  refine Cd.condF (by kernel_rfl) ?_
  refine Cd.skip ?_
  refine Ex'.next ?_
  refine Cd.seq ?_
  refine Cd.seq ?_
  refine Cd.region rfl ?_
  refine Sq.vals [0, 1, 2, 3] (rest := [4, 5, 6, 7, 8, 9, 10]) [.slice a xs.length cap, iV (xs.length : Int), bV (decide ((xs.length : Int) > 200)), bV (decide ((xs.length : Int) > 200))] (fun w => by kernel_rfl) ?_
  refine Sq.case 23 (p := (xs.length : Int) > 200) rfl (fun h1 => ?_) (fun h1 => ?_)
  ·
    refine Sq.vals [4, 5, 6, 7, 8, 9, 10] (rest := []) [undef, undef, bV true, bV true, undef, undef, bV true] (fun w => by kernel_rfl) ?_
    refine Sq.done ?_
    refine Ex'.next ?_
    refine Cd.condT (by kernel_rfl) ?_
    refine Cd.seq ?_
    refine Cd.region rfl ?_
    refine Sq.vals [0] (rest := []) [bV true] (fun w => by kernel_rfl) ?_
    refine Sq.done ?_
    refine Ex'.next ?_
    refine Cd.ret ?_
    refine Ex'.thenRet ?_
    refine Ex'.ret Try.results12 (RVs.tmp (v := bV true) (by kernel_rfl) (RVs.nil)) (fun w hw => ?_)
    exact ⟨_, ⟨rfl, by kernel_rfl⟩, hw⟩
  ·
    refine Sq.vals [4, 5, 6, 7] (rest := [8, 9, 10]) [iV m, bV (decide (m < 1)), bV (decide (m < 1)), bV (decide (m < 1))] (fun w => by kernel_rfl) ?_
    refine Sq.case 27 (p := m < 1) rfl (fun h2 => ?_) (fun h2 => ?_)
    ·
      refine Sq.vals [8, 9, 10] (rest := []) [undef, undef, bV true] (fun w => by kernel_rfl) ?_
      refine Sq.done ?_
      refine Ex'.next ?_
      refine Cd.condT (by kernel_rfl) ?_
      refine Cd.seq ?_
      refine Cd.region rfl ?_
      refine Sq.vals [0] (rest := []) [bV true] (fun w => by kernel_rfl) ?_
      refine Sq.done ?_
      refine Ex'.next ?_
      refine Cd.ret ?_
      refine Ex'.thenRet ?_
      refine Ex'.ret Try.results12 (RVs.tmp (v := bV true) (by kernel_rfl) (RVs.nil)) (fun w hw => ?_)
      exact ⟨_, ⟨rfl, by kernel_rfl⟩, hw⟩
    ·
      refine Sq.vals [8, 9, 10] (rest := []) [iV r, bV (decide (r < 0)), bV (decide (r < 0))] (fun w => by kernel_rfl) ?_
      refine Sq.done ?_
      refine Ex'.next ?_
      refine Cd.case (p := r < 0) (by kernel_rfl) (fun h3 => ?_) (fun h3 => ?_)
      ·
        refine Cd.seq ?_
        refine Cd.region rfl ?_
        refine Sq.vals [0] (rest := []) [bV true] (fun w => by kernel_rfl) ?_
        refine Sq.done ?_
        refine Ex'.next ?_
        refine Cd.ret ?_
        refine Ex'.thenRet ?_
        refine Ex'.ret Try.results12 (RVs.tmp (v := bV true) (by kernel_rfl) (RVs.nil)) (fun w hw => ?_)
        exact ⟨_, ⟨rfl, by kernel_rfl⟩, hw⟩
      ·
        refine Cd.skip ?_
        refine Ex'.next ?_
        refine Cd.seq ?_
        refine Cd.region rfl ?_
        refine Sq.vals [0, 1] (rest := [2, 3, 4, 5, 6, 7]) [iV m, bV ch] (fun w => by kernel_rfl) ?_
        refine Sq.ex [] (l := []) (o_call (by kernel_rfl) Try.call30 (Tri.ex (L' := fun x => lfuL x.1 x.2 m 0 ch [] 0) (lfu_New m ch (by omega)) (fun x => by unfold lfuNew; rw [if_neg (show ¬ (0 : Int) > m by omega)]))) (by kernel_rfl) rfl (by kernel_rfl) (fun _ => Nat.le_of_ble_eq_true (by kernel_rfl)) ?_; rintro ⟨b4, qb5⟩ _
        refine Sq.vals [3, 4] (rest := [5, 6, 7]) [iV m, bV ch] (fun w => by kernel_rfl) ?_
        refine Sq.ex [] (l := []) (o_call (by kernel_rfl) Try.call30 (Tri.ex (L' := fun x => lfuL x.1 x.2 m 0 ch [] 0) (lfu_New m ch (by omega)) (fun x => by unfold lfuNew; rw [if_neg (show ¬ (0 : Int) > m by omega)]))) (by kernel_rfl) rfl (by kernel_rfl) (fun _ => Nat.le_of_ble_eq_true (by kernel_rfl)) ?_; rintro ⟨b6, qb7⟩ _
        refine Sq.vals [6, 7] (rest := []) [pV b4 0, pV b6 0] (fun w => by kernel_rfl) ?_
        refine Sq.done ?_
        refine Ex'.next ?_
        refine Cd.seq ?_
        refine Cd.seq ?_
        refine Cd.region rfl ?_
        refine Sq.vals [0, 1, 2, 3, 4, 5] (rest := []) [pV b4 0, bV false, bV false, pV b6 0, bV false, bV false] (fun w => by kernel_rfl) ?_
        refine Sq.done ?_
        refine Ex'.next ?_
        refine Cd.condF (by kernel_rfl) ?_
        refine Cd.skip ?_
        refine Ex'.next ?_
        refine Cd.seq ?_
        refine Cd.seq ?_
        refine Cd.region rfl ?_
        refine Sq.vals [0] (rest := []) [iV 0] (fun w => by kernel_rfl) ?_
        refine Sq.done ?_
        refine Ex'.next ?_
        refine Cd.block ?_
        refine Cd.loop (ι := Nat × Int × (List (KR ByteArray)) × Nat × Int × (List (KR ByteArray)) × Nat) (fun ⟨k, nowa, Ta, na, nowb, Tb, nb⟩ => k ≤ xs.length ∧ LfuI m nowa Ta ∧ Tb = Ta ∧ nowb = nowa ∧ nowa = k ∧ na ≤ k ∧ nb ≤ k) (fun ⟨k, nowa, Ta, na, nowb, Tb, nb⟩ => xs.length - k) (fun ⟨k, nowa, Ta, na, nowb, Tb, nb⟩ => [(2, .slice a xs.length cap), (3, iV r), (9, pV b4 0), (10, pV b6 0), (11, iV (k : Int))]) (fun ⟨k, nowa, Ta, na, nowb, Tb, nb⟩ => [oldR w0, lfuB b4 qb5 m nowa ch, hpS qb5 Ta na, lfuB b6 qb7 m nowb ch, hpS qb7 Tb nb]) (0, 0, [], 0, 0, [], 0) (⟨Nat.zero_le _, LfuI.new (by omega), rfl, rfl, rfl, Nat.le_refl _, Nat.le_refl _⟩) (subB_eq (l := [2, 3, 9, 10, 11]) (by kernel_rfl)) (fun w hw => hw.pickB [0, 1, 2, 3, 4] (by kernel_rfl) (by kernel_rfl) (by kernel_rfl)) ?_
        rintro ⟨k, nowa, Ta, na, nowb, Tb, nb⟩ hL8
        try dsimp only at hL8 ⊢
        obtain ⟨hk, hI, hT, hwab, hnw, hna, hnb⟩ := hL8
        have htA := hI.tmb (by omega)
        have htB : TmB 1000000000 Tb := by rw [hT]; exact htA
        have hI0 := hI.n0
        refine Cd.seq ?_
        refine Cd.seq ?_
        refine Cd.region rfl ?_
        refine Sq.vals [0, 1, 2, 3] (rest := []) [iV (k : Int), .slice a xs.length cap, iV (xs.length : Int), bV (decide ((k : Int) < (xs.length : Int)))] (fun w => by kernel_rfl) ?_
        refine Sq.done ?_
        refine Ex'.next ?_
        refine Cd.case (p := (k : Int) < (xs.length : Int)) (by kernel_rfl) (fun h9 => ?_) (fun h9 => ?_)
        ·
          obtain ⟨g10, off11, rfl⟩ := hs.addr (by omega)
          obtain ⟨kyk, hgk, hwk, hrk⟩ := hs.at (k := k) (by omega)
          refine Cd.skip ?_
          refine Ex'.next ?_
          refine Cd.seq ?_
          refine Cd.block ?_
          refine Cd.seq ?_
          refine Cd.seq ?_
          refine Cd.region rfl ?_
          refine Sq.vals [0, 1] (rest := [2, 3, 4, 5]) [.slice (some ⟨g10, off11, none⟩) xs.length cap, iV (k : Int)] (fun w => by kernel_rfl) ?_
          refine Sq.v (r := pV g10 (off11 + k)) (o_idx (b := g10) (cap := cap) (e := 9) (off := off11) (n := xs.length) (kd := .i64) (q := (k : Int)) (i := k) (size := 1) (j := off11 + k) (by kernel_rfl) (by kernel_rfl) (by rfl) (by omega) Try.underlying47 (by kernel_rfl) (by omega)) rfl (by kernel_rfl) ?_
          refine Sq.same [0] (l := [oldR w0]) (o_loadOld (b := g10) (j := off11 + k) (u := sV kyk) (by kernel_rfl) (by kernel_rfl) (hrk 0 _ rfl)) (by kernel_rfl) rfl (by kernel_rfl) rfl ?_
          refine Sq.vals [4, 5] (rest := []) [iV (kyk.size : Int), bV (decide ((kyk.size : Int) > 200))] (fun w => by kernel_rfl) ?_
          refine Sq.done ?_
          refine Ex'.next ?_
          refine Cd.case (p := (kyk.size : Int) > 200) (by kernel_rfl) (fun h12 => ?_) (fun h12 => ?_)
          ·
            refine Cd.seq ?_
            refine Cd.region rfl ?_
            refine Sq.vals [0] (rest := []) [bV true] (fun w => by kernel_rfl) ?_
            refine Sq.done ?_
            refine Ex'.next ?_
            refine Cd.ret ?_
            refine Ex'.thenRet ?_
            refine Ex'.blockRet ?_
            refine Ex'.thenRet ?_
            refine Ex'.thenRet ?_
            refine Ex'.blockRet ?_
            refine Ex'.thenRet ?_
            refine Ex'.ret Try.results12 (RVs.tmp (v := bV true) (by kernel_rfl) (RVs.nil)) (fun w hw => ?_)
            exact ⟨_, ⟨rfl, by kernel_rfl⟩, hw⟩
          ·
            refine Cd.skip ?_
            refine Ex'.next ?_
            refine Cd.seq ?_
            refine Cd.region rfl ?_
            refine Sq.vals [0, 1, 2] (rest := [3, 4, 5]) [pV b4 0, .slice (some ⟨g10, off11, none⟩) xs.length cap, iV (k : Int)] (fun w => by kernel_rfl) ?_
            refine Sq.v (r := pV g10 (off11 + k)) (o_idx (b := g10) (cap := cap) (e := 9) (off := off11) (n := xs.length) (kd := .i64) (q := (k : Int)) (i := k) (size := 1) (j := off11 + k) (by kernel_rfl) (by kernel_rfl) (by rfl) (by omega) Try.underlying47 (by kernel_rfl) (by omega)) rfl (by kernel_rfl) ?_
            refine Sq.same [0] (l := [oldR w0]) (o_loadOld (b := g10) (j := off11 + k) (u := sV kyk) (by kernel_rfl) (by kernel_rfl) (hrk 0 _ rfl)) (by kernel_rfl) rfl (by kernel_rfl) rfl ?_
            refine Sq.same [1, 2] (l := lfuL b4 qb5 m nowa ch Ta na) (o_call (by kernel_rfl) Try.call33 (lfu_Request (n := na) (n' := na + 1) (most := m) (now := nowa) (churn := ch) (S := Ta) kyk (by omega) (by omega) (by omega) (by first | assumption | (unfold TmB; decide)))) (by kernel_rfl) rfl (by kernel_rfl) rfl ?_
            generalize hxx13 : lfuReq m nowa ch Ta kyk = x13
            have hR := LfuI.req hI (by omega) kyk hxx13; have hRn := hR.n
            refine Sq.done ?_
            refine Ex'.next ?_
            refine Cd.region rfl ?_
            refine Sq.vals [0, 1, 2] (rest := [3, 4, 5]) [pV b6 0, .slice (some ⟨g10, off11, none⟩) xs.length cap, iV (k : Int)] (fun w => by kernel_rfl) ?_
            refine Sq.v (r := pV g10 (off11 + k)) (o_idx (b := g10) (cap := cap) (e := 9) (off := off11) (n := xs.length) (kd := .i64) (q := (k : Int)) (i := k) (size := 1) (j := off11 + k) (by kernel_rfl) (by kernel_rfl) (by rfl) (by omega) Try.underlying47 (by kernel_rfl) (by omega)) rfl (by kernel_rfl) ?_
            refine Sq.same [0] (l := [oldR w0]) (o_loadOld (b := g10) (j := off11 + k) (u := sV kyk) (by kernel_rfl) (by kernel_rfl) (hrk 0 _ rfl)) (by kernel_rfl) rfl (by kernel_rfl) rfl ?_
            refine Sq.same [3, 4] (l := lfuL b6 qb7 m nowb ch Tb nb) (o_call (by kernel_rfl) Try.call33 (lfu_Request (n := nb) (n' := nb + 1) (most := m) (now := nowb) (churn := ch) (S := Tb) kyk (by omega) (by omega) (by omega) (by first | assumption | (unfold TmB; decide)))) (by kernel_rfl) rfl (by kernel_rfl) rfl ?_
            generalize hxx14 : lfuReq m nowb ch Tb kyk = x14
            rw [hT, hwab] at hxx14
            have hxe : x14 = x13 := hxx14.symm.trans hxx13
            refine Sq.done ?_
            refine Ex'.blockNormal ?_
            refine Ex'.next ?_
            refine Cd.region rfl ?_
            refine Sq.vals [0] (rest := [1, 2]) [iV (k : Int)] (fun w => by kernel_rfl) ?_
            refine Sq.v (r := iV ((k : Int) + 1)) (o_add (k := .i64) (a := (k : Int)) (b := 1) (c := (k : Int) + 1) (by kernel_rfl) (by kernel_rfl) (w64 rfl (by omega))) rfl (by kernel_rfl) ?_
            refine Sq.vals [2] (rest := []) [iV ((k : Int) + 1)] (fun w => by kernel_rfl) ?_
            refine Sq.done ?_
            refine Ex'.round (g := (k, nowa, Ta, na, nowb, Tb, nb)) (k + 1, x13.1, x13.2.1, na + 1, x14.1, x14.2.1, nb + 1) ?_ ?_ (subB_eq (l := [2, 3, 9, 10, 11]) (by kernel_rfl)) (fun w hw => hw.pickB [0, 1, 2, 3, 4] (by kernel_rfl) (by kernel_rfl) (by kernel_rfl))
            · (try dsimp only); exact ⟨by omega, hR.i, by rw [hxe], by rw [hxe], by omega, by omega, by omega⟩
            · omega
        ·
          refine Cd.fact (i := 2) (R := hpS qb5 Ta na) rfl hpS.le ?_; rintro ⟨hnd, hlen⟩
          have hkl : (Ta.map (fun y : KR ByteArray => y.1)).length = Ta.length := List.length_map _
          refine Cd.exit ?_
          refine Ex'.thenExit ?_
          refine Ex'.thenExit ?_
          refine Ex'.blockHit ?_
          refine Ex'.next ?_
          refine Cd.seq ?_
          refine Cd.region rfl ?_
          refine Sq.vals [0] (rest := [1, 2]) [pV b4 0] (fun w => by kernel_rfl) ?_
          refine Sq.ex [1, 2] (l := lfuL b4 qb5 m nowa ch Ta na) (o_call (by kernel_rfl) Try.call31 (Tri.ex (L' := fun v => lfuL b4 qb5 m nowa ch Ta na ++ [rowR 9 1 v (Ta.map (fun y : KR ByteArray => y.1)).length ((Ta.map (fun y : KR ByteArray => y.1)).map Value.string)]) (lfu_Keys (n := na) (most := m) (now := nowa) (churn := ch) (S := Ta) (by omega)) (fun v => rfl))) (by kernel_rfl) rfl (by kernel_rfl) (fun _ => Nat.le_of_ble_eq_true (by kernel_rfl)) ?_; rintro v15 _
          refine Sq.fact (i := 5) (R := rowR 9 1 v15 ((Ta.map (fun y : KR ByteArray => y.1)).length) ((Ta.map (fun y : KR ByteArray => y.1)).map Value.string)) (by kernel_rfl) row_slice ?_; rintro ⟨a16, c17, rfl, hc17, hc17'⟩
          have hc17'' : c17 ≤ 9223372036854775807 := hc17'
          refine Sq.vals [2] (rest := []) [.slice a16 ((Ta.map (fun y : KR ByteArray => y.1)).length) c17] (fun w => by kernel_rfl) ?_
          refine Sq.done ?_
          refine Ex'.next ?_
          refine Cd.seq ?_
          refine Cd.seq ?_
          refine Cd.region rfl ?_
          refine Sq.vals [0] (rest := []) [iV 0] (fun w => by kernel_rfl) ?_
          refine Sq.done ?_
          refine Ex'.next ?_
          refine Cd.block ?_
          refine Cd.loop (ι := Nat) (fun i => i ≤ (Ta.map (fun y : KR ByteArray => y.1)).length) (fun i => (Ta.map (fun y : KR ByteArray => y.1)).length - i) (fun i => [(3, iV r), (9, pV b4 0), (10, pV b6 0), (12, .slice a16 ((Ta.map (fun y : KR ByteArray => y.1)).length) c17), (13, iV (i : Int))]) (fun i => [oldR w0, lfuB b4 qb5 m nowa ch, hpS qb5 Ta na, lfuB b6 qb7 m nowb ch, hpS qb7 Tb nb, rowR 9 1 (.slice a16 ((Ta.map (fun y : KR ByteArray => y.1)).length) c17) ((Ta.map (fun y : KR ByteArray => y.1)).length) ((Ta.map (fun y : KR ByteArray => y.1)).map Value.string)]) 0 (Nat.zero_le _) (subB_eq (l := [3, 9, 10, 12, 13]) (by kernel_rfl)) (fun w hw => hw.pickB [0, 1, 2, 3, 4, 5] (by kernel_rfl) (by kernel_rfl) (by kernel_rfl)) ?_
          rintro i hL18
          try dsimp only at hL18 ⊢
          have hi := hL18
          refine Cd.seq ?_
          refine Cd.seq ?_
          refine Cd.region rfl ?_
          refine Sq.vals [0] (rest := [1, 2, 3, 4]) [iV (i : Int)] (fun w => by kernel_rfl) ?_
          refine Sq.v (r := iV ((i : Int) + 1)) (o_add (k := .i64) (a := (i : Int)) (b := 1) (c := (i : Int) + 1) (by kernel_rfl) (by kernel_rfl) (w64 rfl (by omega))) rfl (by kernel_rfl) ?_
          refine Sq.vals [2, 3, 4] (rest := []) [.slice a16 ((Ta.map (fun y : KR ByteArray => y.1)).length) c17, iV ((Ta.map (fun y : KR ByteArray => y.1)).length : Int), bV (decide ((i : Int) + 1 < ((Ta.map (fun y : KR ByteArray => y.1)).length : Int)))] (fun w => by kernel_rfl) ?_
          refine Sq.done ?_
          refine Ex'.next ?_
          refine Cd.case (p := (i : Int) + 1 < ((Ta.map (fun y : KR ByteArray => y.1)).length : Int)) (by kernel_rfl) (fun h19 => ?_) (fun h19 => ?_)
          ·
            refine Cd.fact (i := 5) (R := rowR 9 1 (.slice a16 ((Ta.map (fun y : KR ByteArray => y.1)).length) c17) ((Ta.map (fun y : KR ByteArray => y.1)).length) ((Ta.map (fun y : KR ByteArray => y.1)).map Value.string)) (by kernel_rfl) (row_addr (by omega)) ?_; rintro ⟨b20, rfl⟩
            refine Cd.skip ?_
            refine Ex'.next ?_
            refine Cd.seq ?_
            refine Cd.block ?_
            refine Cd.seq ?_
            refine Cd.plan [0, 0, 0, 6, 14, 31, 0, 0, 0, 256, 896, 1920, 4095, 8191] [(4, [(5, false, 0)]), (5, [(1, false, 0), (2, false, 0)]), (11, [(5, false, 0)]), (12, [(1, false, 0), (2, false, 0)])] [] [] [] [fun g => pV b4 0, fun g => .slice (some ⟨b20, 0, none⟩) ((Ta.map (fun y : KR ByteArray => y.1)).length) c17, fun g => iV (i : Int), fun g => pV b20 i, fun g => sV ((Ta.map (fun y : KR ByteArray => y.1)).getD i ⟨#[]⟩), fun g => iV (tms Ta ((Ta.map (fun y : KR ByteArray => y.1)).getD i ⟨#[]⟩)), fun g => pV b4 0, fun g => .slice (some ⟨b20, 0, none⟩) ((Ta.map (fun y : KR ByteArray => y.1)).length) c17, fun g => iV (i : Int), fun g => iV ((i : Int) + 1), fun g => pV b20 (i + 1), fun g => sV ((Ta.map (fun y : KR ByteArray => y.1)).getD (i + 1) ⟨#[]⟩), fun g => iV (tms Ta ((Ta.map (fun y : KR ByteArray => y.1)).getD (i + 1) ⟨#[]⟩)), fun g => bV false] (by kernel_rfl) (by kernel_rfl) rfl (trivial) ?_ ?_
            · exact ⟨ob_val fun g w => by kernel_rfl, ob_val fun g w => by kernel_rfl, ob_val fun g w => by kernel_rfl, ob_v (v := fun g => pV b20 i) (fun g => o_idx (b := b20) (cap := c17) (e := 9) (off := 0) (n := (Ta.map (fun y : KR ByteArray => y.1)).length) (kd := .i64) (q := (i : Int)) (i := i) (size := 1) (j := i) (by kernel_rfl) (by kernel_rfl) (by rfl) (by omega) Try.underlying47 (by kernel_rfl) (by omega)) (fun g => by kernel_rfl), ob_s (l := fun g => [rowR 9 1 (.slice (some ⟨b20, 0, none⟩) ((Ta.map (fun y : KR ByteArray => y.1)).length) c17) ((Ta.map (fun y : KR ByteArray => y.1)).length) ((Ta.map (fun y : KR ByteArray => y.1)).map Value.string)]) (l' := fun g => [rowR 9 1 (.slice (some ⟨b20, 0, none⟩) ((Ta.map (fun y : KR ByteArray => y.1)).length) c17) ((Ta.map (fun y : KR ByteArray => y.1)).length) ((Ta.map (fun y : KR ByteArray => y.1)).map Value.string)]) (v := fun g => sV ((Ta.map (fun y : KR ByteArray => y.1)).getD i ⟨#[]⟩)) (fun g => o_loadRow (i := i) (u := sV ((Ta.map (fun y : KR ByteArray => y.1)).getD i ⟨#[]⟩)) (by kernel_rfl) (by omega) (by kernel_rfl) (get_map (by omega))) (fun g => by kernel_rfl), ob_s (l := fun g => [lfuB b4 qb5 m nowa ch, hpS qb5 Ta na]) (l' := fun g => [lfuB b4 qb5 m nowa ch, hpS qb5 Ta na]) (v := fun g => iV (tms Ta ((Ta.map (fun y : KR ByteArray => y.1)).getD i ⟨#[]⟩))) (fun g => o_call (by kernel_rfl) Try.call32 (Tri.eq (l2 := lfuL b4 qb5 m nowa ch Ta na) (r' := iV (tms Ta ((Ta.map (fun y : KR ByteArray => y.1)).getD i ⟨#[]⟩))) (lfu_Times (n := na) (most := m) (now := nowa) (churn := ch) (S := Ta) ((Ta.map (fun y : KR ByteArray => y.1)).getD i ⟨#[]⟩) (by omega)) (rfl) (rfl))) (fun g => by kernel_rfl), ob_val fun g w => by kernel_rfl, ob_val fun g w => by kernel_rfl, ob_val fun g w => by kernel_rfl, ob_v (v := fun g => iV ((i : Int) + 1)) (fun g => o_add (k := .i64) (a := (i : Int)) (b := 1) (c := (i : Int) + 1) (by kernel_rfl) (by kernel_rfl) (w64 rfl (by omega))) (fun g => by kernel_rfl), ob_v (v := fun g => pV b20 (i + 1)) (fun g => o_idx (b := b20) (cap := c17) (e := 9) (off := 0) (n := (Ta.map (fun y : KR ByteArray => y.1)).length) (kd := .i64) (q := (i : Int) + 1) (i := i + 1) (size := 1) (j := i + 1) (by kernel_rfl) (by kernel_rfl) (by omega) (by omega) Try.underlying47 (by kernel_rfl) (by omega)) (fun g => by kernel_rfl), ob_s (l := fun g => [rowR 9 1 (.slice (some ⟨b20, 0, none⟩) ((Ta.map (fun y : KR ByteArray => y.1)).length) c17) ((Ta.map (fun y : KR ByteArray => y.1)).length) ((Ta.map (fun y : KR ByteArray => y.1)).map Value.string)]) (l' := fun g => [rowR 9 1 (.slice (some ⟨b20, 0, none⟩) ((Ta.map (fun y : KR ByteArray => y.1)).length) c17) ((Ta.map (fun y : KR ByteArray => y.1)).length) ((Ta.map (fun y : KR ByteArray => y.1)).map Value.string)]) (v := fun g => sV ((Ta.map (fun y : KR ByteArray => y.1)).getD (i + 1) ⟨#[]⟩)) (fun g => o_loadRow (i := i + 1) (u := sV ((Ta.map (fun y : KR ByteArray => y.1)).getD (i + 1) ⟨#[]⟩)) (by kernel_rfl) (by omega) (by kernel_rfl) (get_map (by omega))) (fun g => by kernel_rfl), ob_s (l := fun g => [lfuB b4 qb5 m nowa ch, hpS qb5 Ta na]) (l' := fun g => [lfuB b4 qb5 m nowa ch, hpS qb5 Ta na]) (v := fun g => iV (tms Ta ((Ta.map (fun y : KR ByteArray => y.1)).getD (i + 1) ⟨#[]⟩))) (fun g => o_call (by kernel_rfl) Try.call32 (Tri.eq (l2 := lfuL b4 qb5 m nowa ch Ta na) (r' := iV (tms Ta ((Ta.map (fun y : KR ByteArray => y.1)).getD (i + 1) ⟨#[]⟩))) (lfu_Times (n := na) (most := m) (now := nowa) (churn := ch) (S := Ta) ((Ta.map (fun y : KR ByteArray => y.1)).getD (i + 1) ⟨#[]⟩) (by omega)) (rfl) (rfl))) (fun g => by kernel_rfl), ob_v (v := fun g => bV false) (fun g => OprV.re (pureV (v := bV (decide (tms Ta ((Ta.map (fun y : KR ByteArray => y.1)).getD i ⟨#[]⟩) > tms Ta ((Ta.map (fun y : KR ByteArray => y.1)).getD (i + 1) ⟨#[]⟩)))) (by kernel_rfl) rfl fun w => by kernel_rfl) (vF (Int.not_lt.2 (hI.ordered (by omega))))) (fun g => by kernel_rfl), trivial⟩
            intro g
            refine Ex'.sub (subB_spec [3, 9, 10, 12, 13, 89]) ?_
            refine Ex'.as [0, 1, 2, 3, 4, 5] (σ' := [(3, iV r), (9, pV b4 0), (10, pV b6 0), (12, .slice (some ⟨b20, 0, none⟩) ((Ta.map (fun y : KR ByteArray => y.1)).length) c17), (13, iV (i : Int)), (89, bV false)]) (Γ' := [oldR w0, lfuB b4 qb5 m nowa ch, hpS qb5 Ta na, lfuB b6 qb7 m nowb ch, hpS qb7 Tb nb, rowR 9 1 (.slice (some ⟨b20, 0, none⟩) ((Ta.map (fun y : KR ByteArray => y.1)).length) c17) ((Ta.map (fun y : KR ByteArray => y.1)).length) ((Ta.map (fun y : KR ByteArray => y.1)).map Value.string)]) (by kernel_rfl) rfl (by kernel_rfl) (by kernel_rfl) ?_
            refine Ex'.next ?_
            refine Cd.condF (by kernel_rfl) ?_
            refine Cd.skip ?_
            refine Ex'.blockNormal ?_
            refine Ex'.next ?_
            refine Cd.region rfl ?_
            refine Sq.vals [0] (rest := [1, 2]) [iV (i : Int)] (fun w => by kernel_rfl) ?_
            refine Sq.v (r := iV ((i : Int) + 1)) (o_add (k := .i64) (a := (i : Int)) (b := 1) (c := (i : Int) + 1) (by kernel_rfl) (by kernel_rfl) (w64 rfl (by omega))) rfl (by kernel_rfl) ?_
            refine Sq.vals [2] (rest := []) [iV ((i : Int) + 1)] (fun w => by kernel_rfl) ?_
            refine Sq.done ?_
            refine Ex'.round (g := i) (i + 1) ?_ ?_ (subB_eq (l := [3, 9, 10, 12, 13]) (by kernel_rfl)) (fun w hw => hw.pickB [0, 1, 2, 3, 4, 5] (by kernel_rfl) (by kernel_rfl) (by kernel_rfl))
            · (try dsimp only); exact (by omega : i + 1 ≤ (Ta.map (fun y : KR ByteArray => y.1)).length)
            · omega
          ·
            refine Cd.exit ?_
            refine Ex'.thenExit ?_
            refine Ex'.thenExit ?_
            refine Ex'.blockHit ?_
            refine Ex'.next ?_
            refine Cd.seq ?_
            refine Cd.region rfl ?_
            refine Sq.vals [0, 1] (rest := [2, 3]) [pV b6 0, iV r] (fun w => by kernel_rfl) ?_
            refine Sq.ex [3, 4] (l := [lfuB b6 qb7 m nowb ch, hpS qb7 Tb nb]) (o_call (by kernel_rfl) Try.call49 (lfu_Resize (most := m) (now := nowb) (churn := ch) (S := Tb) (n := nb) r (by omega) (by omega))) (by kernel_rfl) rfl (by kernel_rfl) (fun _ => Nat.le_of_ble_eq_true (by kernel_rfl)) ?_; rintro v21 _
            generalize hxx22 : lfuResize m nowb ch Tb r = x22
            obtain ⟨hz1, hz2, hz3, hz4⟩ := resize_spec (by omega) hxx22
            rw [hT] at hz2 hz3 hz4
            refine Sq.fact (i := 6) (R := rowR 9 1 v21 ((x22.2.2).length) ((x22.2.2).map Value.string)) (by kernel_rfl) row_slice ?_; rintro ⟨a23, c24, rfl, hc24, hc24'⟩
            have hc24'' : c24 ≤ 9223372036854775807 := hc24'
            refine Sq.vals [3] (rest := []) [.slice a23 ((x22.2.2).length) c24] (fun w => by kernel_rfl) ?_
            refine Sq.done ?_
            refine Ex'.next ?_
            refine Cd.seq ?_
            refine Cd.seq ?_
            refine Cd.plan (0 :: 1 :: 0 :: 4 :: 0 :: 28 :: 60 :: 127 :: 255 :: 511 :: 511 :: 511 :: 2559 :: 7679 :: 16383 :: 32767 :: 65535 :: 131071 :: 262143 :: 524287 :: 262143 :: 262143 :: 2359295 :: 7602175 :: 16777215 :: 33554431 :: 67108863 :: []) [(14, [(6, false, 0), (5, false, 0)]), (19, [(3, false, 0), (4, false, 0)]), (24, [(26, false, 20), (5, false, 0)])] [19] [(19, fun _ => True)] [(26, 19, fun g => rowR 9 1 (.slice (addrOf (g 19)) ((x22.2.1.map (fun y : KR ByteArray => y.1)).length) (capOf (g 19))) ((x22.2.1.map (fun y : KR ByteArray => y.1)).length) ((x22.2.1.map (fun y : KR ByteArray => y.1)).map Value.string))] ((fun g => .slice a23 ((x22.2.2).length) c24) :: (fun g => iV ((x22.2.2).length : Int)) :: (fun g => .slice a16 ((Ta.map (fun y : KR ByteArray => y.1)).length) c17) :: (fun g => iV ((Ta.map (fun y : KR ByteArray => y.1)).length : Int)) :: (fun g => iV r) :: (fun g => iV (((Ta.map (fun y : KR ByteArray => y.1)).length : Int) - r)) :: (fun g => iV (if ((Ta.map (fun y : KR ByteArray => y.1)).length : Int) - r > 0 then ((Ta.map (fun y : KR ByteArray => y.1)).length : Int) - r else 0)) :: (fun g => bV false) :: (fun g => bV false) :: (fun g => .slice a23 ((x22.2.2).length) c24) :: (fun g => .slice a16 ((Ta.map (fun y : KR ByteArray => y.1)).length) c17) :: (fun g => .slice a23 ((x22.2.2).length) c24) :: (fun g => iV ((x22.2.2).length : Int)) :: (fun g => .slice a16 ((x22.2.2).length) c17) :: (fun g => bV (decide (x22.2.2 = (Ta.map (fun y : KR ByteArray => y.1)).take ((x22.2.2).length)))) :: (fun g => bV false) :: (fun g => bV false) :: (fun g => bV false) :: (fun g => pV b6 0) :: (fun g => .slice (addrOf (g 19)) ((x22.2.1.map (fun y : KR ByteArray => y.1)).length) (capOf (g 19))) :: (fun g => .slice a16 ((Ta.map (fun y : KR ByteArray => y.1)).length) c17) :: (fun g => .slice a23 ((x22.2.2).length) c24) :: (fun g => iV ((x22.2.2).length : Int)) :: (fun g => .slice (if c17 = (x22.2.2).length then a16 else Option.map (fun y => y.add ((x22.2.2).length)) a16) ((Ta.map (fun y : KR ByteArray => y.1)).length - ((x22.2.2).length)) (c17 - ((x22.2.2).length))) :: (fun g => bV (decide (x22.2.1.map (fun y : KR ByteArray => y.1) = (Ta.map (fun y : KR ByteArray => y.1)).drop ((x22.2.2).length)))) :: (fun g => bV false) :: (fun g => bV false) :: []) (by kernel_rfl) (by kernel_rfl) rfl (⟨⟨⟨fun _ _ => rfl, ⟨fun _ _ => rfl, ⟨fun _ _ => rfl, ⟨fun _ _ => rfl, ⟨fun _ _ => rfl, ⟨fun _ _ => rfl, ⟨fun _ _ => rfl, ⟨fun _ _ => rfl, ⟨fun _ _ => rfl, ⟨fun _ _ => rfl, ⟨fun _ _ => rfl, ⟨fun _ _ => rfl, ⟨fun _ _ => rfl, ⟨fun _ _ => rfl, ⟨fun _ _ => rfl, ⟨fun _ _ => rfl, ⟨fun _ _ => rfl, ⟨fun _ _ => rfl, ⟨fun _ _ => rfl, ⟨trivial, ⟨fun _ _ => rfl, ⟨fun _ _ => rfl, ⟨fun _ _ => rfl, ⟨fun _ _ => rfl, ⟨trivial, ⟨trivial, ⟨trivial, trivial⟩⟩⟩⟩⟩⟩⟩⟩⟩⟩⟩⟩⟩⟩⟩⟩⟩⟩⟩⟩⟩⟩⟩⟩⟩⟩⟩, ⟨trivial, trivial⟩⟩, trivial⟩) ?_ ?_
            · exact ⟨ob_val fun g w => by kernel_rfl, ob_val fun g w => by kernel_rfl, ob_val fun g w => by kernel_rfl, ob_val fun g w => by kernel_rfl, ob_val fun g w => by kernel_rfl, ob_v (v := fun g => iV (((Ta.map (fun y : KR ByteArray => y.1)).length : Int) - r)) (fun g => o_sub (k := .i64) (a := ((Ta.map (fun y : KR ByteArray => y.1)).length : Int)) (b := r) (c := ((Ta.map (fun y : KR ByteArray => y.1)).length : Int) - r) (by kernel_rfl) (by kernel_rfl) (w64 rfl (by omega))) (fun g => by kernel_rfl), ob_val fun g w => by kernel_rfl, ob_v (v := fun g => bV false) (fun g => OprV.re (o_neI (k := .i64) (a := ((x22.2.2).length : Int)) (b := (if ((Ta.map (fun y : KR ByteArray => y.1)).length : Int) - r > 0 then ((Ta.map (fun y : KR ByteArray => y.1)).length : Int) - r else 0)) (by kernel_rfl) (by kernel_rfl)) (vF (fun z => z (by split <;> omega)))) (fun g => by kernel_rfl), ob_val fun g w => by kernel_rfl, ob_val fun g w => by kernel_rfl, ob_val fun g w => by kernel_rfl, ob_val fun g w => by kernel_rfl, ob_val fun g w => by kernel_rfl, ob_v (v := fun g => .slice a16 ((x22.2.2).length) c17) (fun g => o_cutToA (a := a16) (kd := .i64) (q := ((x22.2.2).length : Int)) (h := (x22.2.2).length) (n := (Ta.map (fun y : KR ByteArray => y.1)).length) (cap := c17) (size := 1) (by kernel_rfl) (by kernel_rfl) (by rfl) (by omega) Try.underlying47 (by kernel_rfl)) (fun g => by kernel_rfl), ob_s (l := fun g => [rowR 9 1 (.slice a23 ((x22.2.2).length) c24) ((x22.2.2).length) ((x22.2.2).map Value.string), rowR 9 1 (.slice a16 ((Ta.map (fun y : KR ByteArray => y.1)).length) c17) ((Ta.map (fun y : KR ByteArray => y.1)).length) ((Ta.map (fun y : KR ByteArray => y.1)).map Value.string)]) (l' := fun g => [rowR 9 1 (.slice a23 ((x22.2.2).length) c24) ((x22.2.2).length) ((x22.2.2).map Value.string), rowR 9 1 (.slice a16 ((Ta.map (fun y : KR ByteArray => y.1)).length) c17) ((Ta.map (fun y : KR ByteArray => y.1)).length) ((Ta.map (fun y : KR ByteArray => y.1)).map Value.string)]) (v := fun g => bV (decide (x22.2.2 = (Ta.map (fun y : KR ByteArray => y.1)).take ((x22.2.2).length)))) (fun g => o_call (by kernel_rfl) Try.call39 (t_same03 (l := [rowR 9 1 (.slice a23 ((x22.2.2).length) c24) ((x22.2.2).length) ((x22.2.2).map Value.string), rowR 9 1 (.slice a16 ((Ta.map (fun y : KR ByteArray => y.1)).length) c17) ((Ta.map (fun y : KR ByteArray => y.1)).length) ((Ta.map (fun y : KR ByteArray => y.1)).map Value.string)]) (xs := x22.2.2) (ys := (Ta.map (fun y : KR ByteArray => y.1)).take ((x22.2.2).length)) (fun w own hH => ⟨⟨_, Row.strs (hH 0 _ rfl)⟩, ⟨_, Strs.cutTo (Row.strs (hH 1 _ rfl)) (by omega)⟩⟩))) (fun g => by kernel_rfl), ob_v (v := fun g => bV false) (fun g => OprV.re (o_not (by kernel_rfl)) (vF (show ¬ (¬ (x22.2.2 = (Ta.map (fun y : KR ByteArray => y.1)).take ((x22.2.2).length))) from fun z => z (by rw [hz4]; exact hz3)))) (fun g => by kernel_rfl), ob_val fun g w => by kernel_rfl, ob_val fun g w => by kernel_rfl, ob_val fun g w => by kernel_rfl, ob_d (ι := Option Addr × Nat) (l := fun g => [lfuB b6 qb7 x22.1 nowb ch, hpS qb7 x22.2.1 nb]) (L := fun g y => [lfuB b6 qb7 x22.1 nowb ch, hpS qb7 x22.2.1 nb, rowR 9 1 (.slice y.1 ((x22.2.1.map (fun y : KR ByteArray => y.1)).length) y.2) ((x22.2.1.map (fun y : KR ByteArray => y.1)).length) ((x22.2.1.map (fun y : KR ByteArray => y.1)).map Value.string)]) (fun y => .slice y.1 ((x22.2.1.map (fun y : KR ByteArray => y.1)).length) y.2) (fun g => o_call (by kernel_rfl) Try.call31 (Tri.rowA (Tri.ex (L' := fun v => lfuL b6 qb7 x22.1 nowb ch x22.2.1 nb ++ [rowR 9 1 v (x22.2.1.map (fun y : KR ByteArray => y.1)).length ((x22.2.1.map (fun y : KR ByteArray => y.1)).map Value.string)]) (lfu_Keys (n := nb) (most := x22.1) (now := nowb) (churn := ch) (S := x22.2.1) (by omega)) (fun v => rfl)))) (fun g => by kernel_rfl) (fun g y _ => ⟨trivial, by kernel_rfl, by kernel_rfl⟩), ob_val fun g w => by kernel_rfl, ob_val fun g w => by kernel_rfl, ob_val fun g w => by kernel_rfl, ob_v (v := fun g => .slice (if c17 = (x22.2.2).length then a16 else Option.map (fun y => y.add ((x22.2.2).length)) a16) ((Ta.map (fun y : KR ByteArray => y.1)).length - ((x22.2.2).length)) (c17 - ((x22.2.2).length))) (fun g => o_cutFrom (kd := .i64) (q := ((x22.2.2).length : Int)) (l := (x22.2.2).length) (n := (Ta.map (fun y : KR ByteArray => y.1)).length) (cap := c17) (a := a16) (by kernel_rfl) (by kernel_rfl) (by rfl) (by omega) (by omega) Try.underlying47 (by kernel_rfl)) (fun g => by kernel_rfl), ob_s (l := fun g => [rowR 9 1 (.slice (addrOf (g 19)) ((x22.2.1.map (fun y : KR ByteArray => y.1)).length) (capOf (g 19))) ((x22.2.1.map (fun y : KR ByteArray => y.1)).length) ((x22.2.1.map (fun y : KR ByteArray => y.1)).map Value.string), rowR 9 1 (.slice a16 ((Ta.map (fun y : KR ByteArray => y.1)).length) c17) ((Ta.map (fun y : KR ByteArray => y.1)).length) ((Ta.map (fun y : KR ByteArray => y.1)).map Value.string)]) (l' := fun g => [rowR 9 1 (.slice (addrOf (g 19)) ((x22.2.1.map (fun y : KR ByteArray => y.1)).length) (capOf (g 19))) ((x22.2.1.map (fun y : KR ByteArray => y.1)).length) ((x22.2.1.map (fun y : KR ByteArray => y.1)).map Value.string), rowR 9 1 (.slice a16 ((Ta.map (fun y : KR ByteArray => y.1)).length) c17) ((Ta.map (fun y : KR ByteArray => y.1)).length) ((Ta.map (fun y : KR ByteArray => y.1)).map Value.string)]) (v := fun g => bV (decide (x22.2.1.map (fun y : KR ByteArray => y.1) = (Ta.map (fun y : KR ByteArray => y.1)).drop ((x22.2.2).length)))) (fun g => o_call (by kernel_rfl) Try.call39 (t_same03 (l := [rowR 9 1 (.slice (addrOf (g 19)) ((x22.2.1.map (fun y : KR ByteArray => y.1)).length) (capOf (g 19))) ((x22.2.1.map (fun y : KR ByteArray => y.1)).length) ((x22.2.1.map (fun y : KR ByteArray => y.1)).map Value.string), rowR 9 1 (.slice a16 ((Ta.map (fun y : KR ByteArray => y.1)).length) c17) ((Ta.map (fun y : KR ByteArray => y.1)).length) ((Ta.map (fun y : KR ByteArray => y.1)).map Value.string)]) (xs := x22.2.1.map (fun y : KR ByteArray => y.1)) (ys := (Ta.map (fun y : KR ByteArray => y.1)).drop ((x22.2.2).length)) (fun w own hH => ⟨⟨_, Row.strs (hH 0 _ rfl)⟩, ⟨_, Strs.cutFrom (Row.strs (hH 1 _ rfl)) (by omega)⟩⟩))) (fun g => by kernel_rfl), ob_v (v := fun g => bV false) (fun g => OprV.re (o_not (by kernel_rfl)) (vF (show ¬ (¬ (x22.2.1.map (fun y : KR ByteArray => y.1) = (Ta.map (fun y : KR ByteArray => y.1)).drop ((x22.2.2).length))) from fun z => z (by rw [hz2, hz4, List.map_drop])))) (fun g => by kernel_rfl), ob_val fun g w => by kernel_rfl, trivial⟩
            intro g
            refine Ex'.sub (subB_spec [9, 12, 119]) ?_
            refine Ex'.as [0, 1, 2, 3, 4, 5, 6, 26] (σ' := [(9, pV b4 0), (12, .slice a16 ((Ta.map (fun y : KR ByteArray => y.1)).length) c17), (119, bV false)]) (Γ' := [oldR w0, lfuB b4 qb5 m nowa ch, hpS qb5 Ta na, lfuB b6 qb7 x22.1 nowb ch, hpS qb7 x22.2.1 nb, rowR 9 1 (.slice a16 ((Ta.map (fun y : KR ByteArray => y.1)).length) c17) ((Ta.map (fun y : KR ByteArray => y.1)).length) ((Ta.map (fun y : KR ByteArray => y.1)).map Value.string), rowR 9 1 (.slice a23 ((x22.2.2).length) c24) ((x22.2.2).length) ((x22.2.2).map Value.string), rowR 9 1 (.slice (addrOf (g 19)) ((x22.2.1.map (fun y : KR ByteArray => y.1)).length) (capOf (g 19))) ((x22.2.1.map (fun y : KR ByteArray => y.1)).length) ((x22.2.1.map (fun y : KR ByteArray => y.1)).map Value.string)]) (by kernel_rfl) rfl (by kernel_rfl) (by kernel_rfl) ?_
            generalize addrOf (g 19) = a26
            generalize capOf (g 19) = c27
            refine Ex'.next ?_
            refine Cd.condF (by kernel_rfl) ?_
            refine Cd.skip ?_
            refine Ex'.next ?_
            refine Cd.seq ?_
            refine Cd.seq ?_
            refine Cd.region rfl ?_
            refine Sq.vals [0] (rest := []) [iV 0] (fun w => by kernel_rfl) ?_
            refine Sq.done ?_
            refine Ex'.next ?_
            refine Cd.block ?_
            refine Cd.loop (ι := Nat × (List (KR ByteArray))) (fun ⟨j, Tc⟩ => j ≤ Ta.length ∧ Tc = Ta.drop j) (fun ⟨j, Tc⟩ => Ta.length - j) (fun ⟨j, Tc⟩ => [(9, pV b4 0), (12, .slice a16 ((Ta.map (fun y : KR ByteArray => y.1)).length) c17), (15, iV (j : Int))]) (fun ⟨j, Tc⟩ => [oldR w0, lfuB b4 qb5 m nowa ch, hpS qb5 Tc na, lfuB b6 qb7 x22.1 nowb ch, hpS qb7 x22.2.1 nb, rowR 9 1 (.slice a16 ((Ta.map (fun y : KR ByteArray => y.1)).length) c17) ((Ta.map (fun y : KR ByteArray => y.1)).length) ((Ta.map (fun y : KR ByteArray => y.1)).map Value.string), rowR 9 1 (.slice a23 ((x22.2.2).length) c24) ((x22.2.2).length) ((x22.2.2).map Value.string), rowR 9 1 (.slice a26 ((x22.2.1.map (fun y : KR ByteArray => y.1)).length) c27) ((x22.2.1.map (fun y : KR ByteArray => y.1)).length) ((x22.2.1.map (fun y : KR ByteArray => y.1)).map Value.string)]) (0, Ta) (⟨Nat.zero_le _, rfl⟩) (subB_eq (l := [9, 12, 15]) (by kernel_rfl)) (fun w hw => hw.pickB [0, 1, 2, 3, 4, 5, 6, 7] (by kernel_rfl) (by kernel_rfl) (by kernel_rfl)) ?_
            rintro ⟨j, Tc⟩ hL28
            try dsimp only at hL28 ⊢
            obtain ⟨hj, hc⟩ := hL28
            have hcl : Tc.length = Ta.length - j := by rw [hc, List.length_drop]
            refine Cd.seq ?_
            refine Cd.seq ?_
            refine Cd.region rfl ?_
            refine Sq.vals [0, 1, 2, 3] (rest := []) [iV (j : Int), .slice a16 ((Ta.map (fun y : KR ByteArray => y.1)).length) c17, iV ((Ta.map (fun y : KR ByteArray => y.1)).length : Int), bV (decide ((j : Int) < ((Ta.map (fun y : KR ByteArray => y.1)).length : Int)))] (fun w => by kernel_rfl) ?_
            refine Sq.done ?_
            refine Ex'.next ?_
            refine Cd.case (p := (j : Int) < ((Ta.map (fun y : KR ByteArray => y.1)).length : Int)) (by kernel_rfl) (fun h29 => ?_) (fun h29 => ?_)
            ·
              have hgf := getD_map_fst (S := Ta) (j := j) (by omega)
              rw [← hc] at hgf
              refine Cd.fact (i := 5) (R := rowR 9 1 (.slice a16 ((Ta.map (fun y : KR ByteArray => y.1)).length) c17) ((Ta.map (fun y : KR ByteArray => y.1)).length) ((Ta.map (fun y : KR ByteArray => y.1)).map Value.string)) (by kernel_rfl) (row_addr (by omega)) ?_; rintro ⟨b30, rfl⟩
              refine Cd.skip ?_
              refine Ex'.next ?_
              refine Cd.seq ?_
              refine Cd.block ?_
              refine Cd.seq ?_
              refine Cd.region rfl ?_
              refine Sq.vals [0] (rest := [1, 2, 3, 4, 5, 6]) [pV b4 0] (fun w => by kernel_rfl) ?_
              refine Sq.same [1, 2] (l := lfuL b4 qb5 m nowa ch Tc na) (o_call (by kernel_rfl) Try.call46 (Tri.eq (l2 := lfuL b4 qb5 m nowa ch Tc.tail na) (r' := .tuple #[sV ((htop (⟨#[]⟩, 0, 0) Tc).1), bV (decide (0 < Tc.length))]) (lfu_Drop (n := na) (most := m) (now := nowa) (churn := ch) (S := Tc) (by omega)) (rfl) (rfl))) (by kernel_rfl) rfl (by kernel_rfl) rfl ?_
              refine Sq.vals [2, 3, 4, 5, 6] (rest := []) [.tuple #[sV ((htop (⟨#[]⟩, 0, 0) Tc).1), bV (decide (0 < Tc.length))], sV ((htop (⟨#[]⟩, 0, 0) Tc).1), bV (decide (0 < Tc.length)), sV ((htop (⟨#[]⟩, 0, 0) Tc).1), bV (decide (0 < Tc.length))] (fun w => by kernel_rfl) ?_
              refine Sq.done ?_
              refine Ex'.next ?_
              refine Cd.seq ?_
              refine Cd.region rfl ?_
              refine Sq.vals [0] (rest := [1, 2, 3, 4, 5, 6, 7, 8, 9]) [bV (decide (0 < Tc.length))] (fun w => by kernel_rfl) ?_
              refine Sq.v (r := bV (decide (¬ (0 < Tc.length)))) (o_not (by kernel_rfl)) rfl (by kernel_rfl) ?_
              refine Sq.vals [2] (rest := [3, 4, 5, 6, 7, 8, 9]) [bV (decide (¬ (0 < Tc.length)))] (fun w => by kernel_rfl) ?_
              refine Sq.re 133 rfl (vF (fun z => z (by omega))) ?_
              refine Sq.vals [3, 4, 5] (rest := [6, 7, 8, 9]) [sV ((htop (⟨#[]⟩, 0, 0) Tc).1), .slice (some ⟨b30, 0, none⟩) ((Ta.map (fun y : KR ByteArray => y.1)).length) c17, iV (j : Int)] (fun w => by kernel_rfl) ?_
              refine Sq.v (r := pV b30 j) (o_idx (b := b30) (cap := c17) (e := 9) (off := 0) (n := (Ta.map (fun y : KR ByteArray => y.1)).length) (kd := .i64) (q := (j : Int)) (i := j) (size := 1) (j := j) (by kernel_rfl) (by kernel_rfl) (by rfl) (by omega) Try.underlying47 (by kernel_rfl) (by omega)) rfl (by kernel_rfl) ?_
              refine Sq.same [5] (l := [rowR 9 1 (.slice (some ⟨b30, 0, none⟩) ((Ta.map (fun y : KR ByteArray => y.1)).length) c17) ((Ta.map (fun y : KR ByteArray => y.1)).length) ((Ta.map (fun y : KR ByteArray => y.1)).map Value.string)]) (o_loadRow (i := j) (u := sV ((Ta.map (fun y : KR ByteArray => y.1)).getD j ⟨#[]⟩)) (by kernel_rfl) (by omega) (by kernel_rfl) (get_map (by omega))) (by kernel_rfl) rfl (by kernel_rfl) rfl ?_
              refine Sq.v (r := bV (decide ((htop (⟨#[]⟩, 0, 0) Tc).1 ≠ (Ta.map (fun y : KR ByteArray => y.1)).getD j ⟨#[]⟩))) (o_neS (a := (htop (⟨#[]⟩, 0, 0) Tc).1) (b := (Ta.map (fun y : KR ByteArray => y.1)).getD j ⟨#[]⟩) (by kernel_rfl) (by kernel_rfl)) rfl (by kernel_rfl) ?_
              refine Sq.re 139 rfl (vF (fun z => z hgf.symm)) ?_
              refine Sq.vals [9] (rest := []) [bV false] (fun w => by kernel_rfl) ?_
              refine Sq.done ?_
              refine Ex'.next ?_
              refine Cd.condF (by kernel_rfl) ?_
              refine Cd.skip ?_
              refine Ex'.blockNormal ?_
              refine Ex'.next ?_
              refine Cd.region rfl ?_
              refine Sq.vals [0] (rest := [1, 2]) [iV (j : Int)] (fun w => by kernel_rfl) ?_
              refine Sq.v (r := iV ((j : Int) + 1)) (o_add (k := .i64) (a := (j : Int)) (b := 1) (c := (j : Int) + 1) (by kernel_rfl) (by kernel_rfl) (w64 rfl (by omega))) rfl (by kernel_rfl) ?_
              refine Sq.vals [2] (rest := []) [iV ((j : Int) + 1)] (fun w => by kernel_rfl) ?_
              refine Sq.done ?_
              refine Ex'.round (g := (j, Tc)) (j + 1, Tc.tail) ?_ ?_ (subB_eq (l := [9, 12, 15]) (by kernel_rfl)) (fun w hw => hw.pickB [0, 1, 2, 3, 4, 5, 6, 7] (by kernel_rfl) (by kernel_rfl) (by kernel_rfl))
              · (try dsimp only); exact ⟨by omega, by rw [hc, List.tail_drop]⟩
              · omega
            ·
              refine Cd.exit ?_
              refine Ex'.thenExit ?_
              refine Ex'.thenExit ?_
              refine Ex'.blockHit ?_
              refine Ex'.next ?_
              refine Cd.seq ?_
              refine Cd.region rfl ?_
              refine Sq.vals [0] (rest := [1, 2, 3]) [pV b4 0] (fun w => by kernel_rfl) ?_
              refine Sq.same [1, 2] (l := lfuL b4 qb5 m nowa ch Tc na) (o_call (by kernel_rfl) Try.call34 (Tri.eq (l2 := lfuL b4 qb5 m nowa ch Tc na) (r' := iV (Tc.length : Int)) (lfu_Len (n := na) (most := m) (now := nowa) (churn := ch) (S := Tc) (by omega)) (rfl) (rfl))) (by kernel_rfl) rfl (by kernel_rfl) rfl ?_
              refine Sq.v (r := bV (decide ((Tc.length : Int) = 0))) (o_eqI (k := .i64) (a := (Tc.length : Int)) (b := 0) (by kernel_rfl) (by kernel_rfl)) rfl (by kernel_rfl) ?_
              refine Sq.vals [3] (rest := []) [bV (decide ((Tc.length : Int) = 0))] (fun w => by kernel_rfl) ?_
              refine Sq.done ?_
              refine Ex'.next ?_
              refine Cd.ret ?_
              refine Ex'.ret Try.results12 (RVs.tmp (v := bV (decide ((Tc.length : Int) = 0))) (by kernel_rfl) (RVs.nil)) (fun w hw => ?_)
              exact ⟨_, ⟨(vT (by omega)), by kernel_rfl⟩, hw⟩

theorem lfuOrder_walk (m : Int) (ch : Bool) (v : Value) (xs : List ByteArray) (r : Int) (w : World) (hm : (Lit.int .i64 m).wf = true) (h : Strs w (fun k => k < w.heap.size) v xs) (hz : ∀ k ∈ xs, k.size ≤ maxLen) (hr : (Lit.int .i64 r).wf = true) :
    Calls Try.prog 12 #[.int .i64 m, .bool ch, v, .int .i64 r] w fun e w' => e = .returned (.bool true) ∧ Below w.heap.size w w' := by
  obtain ⟨a, cap, rfl, hl⟩ := KeysIn.shape ⟨h, hz⟩
  exact law_of (lfuOrder_tri (range64 hm) (range64 hr) hl ⟨h, hz⟩)

end Go.Proofs.Ytnnjccfcalgokaa
