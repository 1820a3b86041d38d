/- LfuAdopts: its walk. -/
import Derived.Test.YtnnjccfcalgokaaLfuPure
import Derived.Test.YtnnjccfcalgokaaActs
import Derived.Test.YtnnjccfcalgokaaSepH
import Derived.Test.YtnnjccfcalgokaaLfuPureB
import Derived.Test.YtnnjccfcalgokaaLfuAwake
set_option linter.unusedVariables false
namespace Go.Proofs.Ytnnjccfcalgokaa
open Go.RowKit Go.MapKept

set_option maxHeartbeats 8000000 in
set_option maxRecDepth 100000 in
theorem lfuAdopts_tri {w0 : World} {m : Int} {ch : Bool} {a : Option Addr} {cap : Nat} {xs : List ByteArray} {ky : ByteArray} (hm : -9223372036854775808 ≤ m ∧ m ≤ 9223372036854775807) (hl : xs.length ≤ cap ∧ cap ≤ 9223372036854775807) (hs : KeysIn w0 (.slice a xs.length cap) xs) : Tri Try.prog 10 #[iV m, bV ch, .slice a xs.length cap, sV ky] [oldR w0] (LawP w0) := by
  refine Tri.enter (args := [iV m, bV ch, .slice a xs.length cap, sV ky]) Try.func10 rfl rfl rfl (fun B wz => ?_)
  refine Cd.seq ?_
  refine Cd.region rfl ?_
  refine Sq.vals [0] (rest := []) [bV false] (fun w => by kernel_rfl) ?_
  refine Sq.done ?_
  refine Ex'.next ?_
  refine Cd.seq ?_
  refine Cd.seq ?_
  refine Cd.region rfl ?_
  refine Sq.same [] (l := []) (o_call (by kernel_rfl) Try.call29 (lfu_awake)) (by kernel_rfl) rfl (by kernel_rfl) rfl ?_
  refine Sq.vals [1] (rest := []) [bV false] (fun w => by kernel_rfl) ?_
  refine Sq.done ?_
  refine Ex'.next ?_
  refine Cd.condF (by kernel_rfl) ?_
  refine Cd.skip ?_
  refine Ex'.next ?_
  refine Cd.seq ?_
  refine Cd.seq ?_
  refine Cd.region rfl ?_
  refine Sq.vals [0, 1, 2, 3] (rest := [4, 5, 6, 7, 8, 9, 10, 11]) [.slice a xs.length cap, iV (xs.length : Int), bV (decide ((xs.length : Int) > 200)), bV (decide ((xs.length : Int) > 200))] (fun w => by kernel_rfl) ?_
  refine Sq.case 20 (p := (xs.length : Int) > 200) rfl (fun h1 => ?_) (fun h1 => ?_)
  ·
    refine Sq.vals [4, 5, 6, 7, 8, 9, 10, 11] (rest := []) [undef, undef, undef, bV true, bV true, undef, undef, bV true] (fun w => by kernel_rfl) ?_
    refine Sq.done ?_
    refine Ex'.next ?_
    refine Cd.condT (by kernel_rfl) ?_
    refine Cd.seq ?_
    refine Cd.region rfl ?_
    refine Sq.vals [0] (rest := []) [bV true] (fun w => by kernel_rfl) ?_
    refine Sq.done ?_
    refine Ex'.next ?_
    refine Cd.ret ?_
    refine Ex'.thenRet ?_
    refine Ex'.ret Try.results10 (RVs.tmp (v := bV true) (by kernel_rfl) (RVs.nil)) (fun w hw => ?_)
    exact ⟨_, ⟨rfl, by kernel_rfl⟩, hw⟩
  ·
    refine Sq.vals [4, 5, 6, 7, 8] (rest := [9, 10, 11]) [sV ky, iV (ky.size : Int), bV (decide ((ky.size : Int) > 200)), bV (decide ((ky.size : Int) > 200)), bV (decide ((ky.size : Int) > 200))] (fun w => by kernel_rfl) ?_
    refine Sq.case 25 (p := (ky.size : Int) > 200) rfl (fun h2 => ?_) (fun h2 => ?_)
    ·
      refine Sq.vals [9, 10, 11] (rest := []) [undef, undef, bV true] (fun w => by kernel_rfl) ?_
      refine Sq.done ?_
      refine Ex'.next ?_
      refine Cd.condT (by kernel_rfl) ?_
      refine Cd.seq ?_
      refine Cd.region rfl ?_
      refine Sq.vals [0] (rest := []) [bV true] (fun w => by kernel_rfl) ?_
      refine Sq.done ?_
      refine Ex'.next ?_
      refine Cd.ret ?_
      refine Ex'.thenRet ?_
      refine Ex'.ret Try.results10 (RVs.tmp (v := bV true) (by kernel_rfl) (RVs.nil)) (fun w hw => ?_)
      exact ⟨_, ⟨rfl, by kernel_rfl⟩, hw⟩
    ·
      refine Sq.vals [9, 10, 11] (rest := []) [iV m, bV (decide (m < 1)), bV (decide (m < 1))] (fun w => by kernel_rfl) ?_
      refine Sq.done ?_
      refine Ex'.next ?_
      refine Cd.case (p := m < 1) (by kernel_rfl) (fun h3 => ?_) (fun h3 => ?_)
      ·
        refine Cd.seq ?_
        refine Cd.region rfl ?_
        refine Sq.vals [0] (rest := []) [bV true] (fun w => by kernel_rfl) ?_
        refine Sq.done ?_
        refine Ex'.next ?_
        refine Cd.ret ?_
        refine Ex'.thenRet ?_
        refine Ex'.ret Try.results10 (RVs.tmp (v := bV true) (by kernel_rfl) (RVs.nil)) (fun w hw => ?_)
        exact ⟨_, ⟨rfl, by kernel_rfl⟩, hw⟩
      ·
        refine Cd.skip ?_
        refine Ex'.next ?_
        refine Cd.seq ?_
        refine Cd.region rfl ?_
        refine Sq.vals [0, 1] (rest := [2, 3, 4, 5, 6, 7]) [iV m, bV ch] (fun w => by kernel_rfl) ?_
        refine Sq.ex [] (l := []) (o_call (by kernel_rfl) Try.call30 (Tri.ex (L' := fun x => lfuL x.1 x.2 m 0 ch [] 0) (lfu_New m ch (by omega)) (fun x => by unfold lfuNew; rw [if_neg (show ¬ (0 : Int) > m by omega)]))) (by kernel_rfl) rfl (by kernel_rfl) (fun _ => Nat.le_of_ble_eq_true (by kernel_rfl)) ?_; rintro ⟨b4, qb5⟩ _
        refine Sq.vals [3, 4] (rest := [5, 6, 7]) [iV m, bV ch] (fun w => by kernel_rfl) ?_
        refine Sq.ex [] (l := []) (o_call (by kernel_rfl) Try.call30 (Tri.ex (L' := fun x => lfuL x.1 x.2 m 0 ch [] 0) (lfu_New m ch (by omega)) (fun x => by unfold lfuNew; rw [if_neg (show ¬ (0 : Int) > m by omega)]))) (by kernel_rfl) rfl (by kernel_rfl) (fun _ => Nat.le_of_ble_eq_true (by kernel_rfl)) ?_; rintro ⟨b6, qb7⟩ _
        refine Sq.vals [6, 7] (rest := []) [pV b4 0, pV b6 0] (fun w => by kernel_rfl) ?_
        refine Sq.done ?_
        refine Ex'.next ?_
        refine Cd.seq ?_
        refine Cd.seq ?_
        refine Cd.region rfl ?_
        refine Sq.vals [0, 1, 2, 3, 4, 5] (rest := []) [pV b4 0, bV false, bV false, pV b6 0, bV false, bV false] (fun w => by kernel_rfl) ?_
        refine Sq.done ?_
        refine Ex'.next ?_
        refine Cd.condF (by kernel_rfl) ?_
        refine Cd.skip ?_
        refine Ex'.next ?_
        refine Cd.seq ?_
        refine Cd.seq ?_
        refine Cd.region rfl ?_
        refine Sq.vals [0] (rest := []) [iV 0] (fun w => by kernel_rfl) ?_
        refine Sq.done ?_
        refine Ex'.next ?_
        refine Cd.block ?_
        refine Cd.loop (ι := Nat × Int × (List (KR ByteArray)) × Nat × Int × (List (KR ByteArray)) × Nat) (fun ⟨k, nowa, Ta, na, nowb, Tb, nb⟩ => k ≤ xs.length ∧ LfuI m nowa Ta ∧ Tb = Ta ∧ nowb = nowa ∧ nowa = k ∧ na ≤ k ∧ nb ≤ k) (fun ⟨k, nowa, Ta, na, nowb, Tb, nb⟩ => xs.length - k) (fun ⟨k, nowa, Ta, na, nowb, Tb, nb⟩ => [(0, iV m), (2, .slice a xs.length cap), (3, sV ky), (9, pV b4 0), (10, pV b6 0), (11, iV (k : Int))]) (fun ⟨k, nowa, Ta, na, nowb, Tb, nb⟩ => [oldR w0, lfuB b4 qb5 m nowa ch, hpS qb5 Ta na, lfuB b6 qb7 m nowb ch, hpS qb7 Tb nb]) (0, 0, [], 0, 0, [], 0) (⟨Nat.zero_le _, LfuI.new (by omega), rfl, rfl, rfl, Nat.le_refl _, Nat.le_refl _⟩) (subB_eq (l := [0, 2, 3, 9, 10, 11]) (by kernel_rfl)) (fun w hw => hw.pickB [0, 1, 2, 3, 4] (by kernel_rfl) (by kernel_rfl) (by kernel_rfl)) ?_
        rintro ⟨k, nowa, Ta, na, nowb, Tb, nb⟩ hL8
        try dsimp only at hL8 ⊢
        obtain ⟨hk, hI, hT, hwab, hnw, hna, hnb⟩ := hL8
        have htA := hI.tmb (by omega)
        have htB : TmB 1000000000 Tb := by rw [hT]; exact htA
        have hI0 := hI.n0
        refine Cd.seq ?_
        refine Cd.seq ?_
        refine Cd.region rfl ?_
        refine Sq.vals [0, 1, 2, 3] (rest := []) [iV (k : Int), .slice a xs.length cap, iV (xs.length : Int), bV (decide ((k : Int) < (xs.length : Int)))] (fun w => by kernel_rfl) ?_
        refine Sq.done ?_
        refine Ex'.next ?_
        refine Cd.case (p := (k : Int) < (xs.length : Int)) (by kernel_rfl) (fun h9 => ?_) (fun h9 => ?_)
        ·
          obtain ⟨g10, off11, rfl⟩ := hs.addr (by omega)
          obtain ⟨kyk, hgk, hwk, hrk⟩ := hs.at (k := k) (by omega)
          refine Cd.skip ?_
          refine Ex'.next ?_
          refine Cd.seq ?_
          refine Cd.block ?_
          refine Cd.seq ?_
          refine Cd.seq ?_
          refine Cd.region rfl ?_
          refine Sq.vals [0, 1] (rest := [2, 3, 4, 5]) [.slice (some ⟨g10, off11, none⟩) xs.length cap, iV (k : Int)] (fun w => by kernel_rfl) ?_
          refine Sq.v (r := pV g10 (off11 + k)) (o_idx (b := g10) (cap := cap) (e := 9) (off := off11) (n := xs.length) (kd := .i64) (q := (k : Int)) (i := k) (size := 1) (j := off11 + k) (by kernel_rfl) (by kernel_rfl) (by rfl) (by omega) Try.underlying47 (by kernel_rfl) (by omega)) rfl (by kernel_rfl) ?_
          refine Sq.same [0] (l := [oldR w0]) (o_loadOld (b := g10) (j := off11 + k) (u := sV kyk) (by kernel_rfl) (by kernel_rfl) (hrk 0 _ rfl)) (by kernel_rfl) rfl (by kernel_rfl) rfl ?_
          refine Sq.vals [4, 5] (rest := []) [iV (kyk.size : Int), bV (decide ((kyk.size : Int) > 200))] (fun w => by kernel_rfl) ?_
          refine Sq.done ?_
          refine Ex'.next ?_
          refine Cd.case (p := (kyk.size : Int) > 200) (by kernel_rfl) (fun h12 => ?_) (fun h12 => ?_)
          ·
            refine Cd.seq ?_
            refine Cd.region rfl ?_
            refine Sq.vals [0] (rest := []) [bV true] (fun w => by kernel_rfl) ?_
            refine Sq.done ?_
            refine Ex'.next ?_
            refine Cd.ret ?_
            refine Ex'.thenRet ?_
            refine Ex'.blockRet ?_
            refine Ex'.thenRet ?_
            refine Ex'.thenRet ?_
            refine Ex'.blockRet ?_
            refine Ex'.thenRet ?_
            refine Ex'.ret Try.results10 (RVs.tmp (v := bV true) (by kernel_rfl) (RVs.nil)) (fun w hw => ?_)
            exact ⟨_, ⟨rfl, by kernel_rfl⟩, hw⟩
          ·
            refine Cd.skip ?_
            refine Ex'.next ?_
            refine Cd.seq ?_
            refine Cd.region rfl ?_
            refine Sq.vals [0, 1, 2] (rest := [3, 4, 5]) [pV b4 0, .slice (some ⟨g10, off11, none⟩) xs.length cap, iV (k : Int)] (fun w => by kernel_rfl) ?_
            refine Sq.v (r := pV g10 (off11 + k)) (o_idx (b := g10) (cap := cap) (e := 9) (off := off11) (n := xs.length) (kd := .i64) (q := (k : Int)) (i := k) (size := 1) (j := off11 + k) (by kernel_rfl) (by kernel_rfl) (by rfl) (by omega) Try.underlying47 (by kernel_rfl) (by omega)) rfl (by kernel_rfl) ?_
            refine Sq.same [0] (l := [oldR w0]) (o_loadOld (b := g10) (j := off11 + k) (u := sV kyk) (by kernel_rfl) (by kernel_rfl) (hrk 0 _ rfl)) (by kernel_rfl) rfl (by kernel_rfl) rfl ?_
            refine Sq.same [1, 2] (l := lfuL b4 qb5 m nowa ch Ta na) (o_call (by kernel_rfl) Try.call33 (lfu_Request (n := na) (n' := na + 1) (most := m) (now := nowa) (churn := ch) (S := Ta) kyk (by omega) (by omega) (by omega) (by first | assumption | (unfold TmB; decide)))) (by kernel_rfl) rfl (by kernel_rfl) rfl ?_
            generalize hxx13 : lfuReq m nowa ch Ta kyk = x13
            have hR := LfuI.req hI (by omega) kyk hxx13; have hRn := hR.n
            refine Sq.done ?_
            refine Ex'.next ?_
            refine Cd.region rfl ?_
            refine Sq.vals [0, 1, 2] (rest := [3, 4, 5]) [pV b6 0, .slice (some ⟨g10, off11, none⟩) xs.length cap, iV (k : Int)] (fun w => by kernel_rfl) ?_
            refine Sq.v (r := pV g10 (off11 + k)) (o_idx (b := g10) (cap := cap) (e := 9) (off := off11) (n := xs.length) (kd := .i64) (q := (k : Int)) (i := k) (size := 1) (j := off11 + k) (by kernel_rfl) (by kernel_rfl) (by rfl) (by omega) Try.underlying47 (by kernel_rfl) (by omega)) rfl (by kernel_rfl) ?_
            refine Sq.same [0] (l := [oldR w0]) (o_loadOld (b := g10) (j := off11 + k) (u := sV kyk) (by kernel_rfl) (by kernel_rfl) (hrk 0 _ rfl)) (by kernel_rfl) rfl (by kernel_rfl) rfl ?_
            refine Sq.same [3, 4] (l := lfuL b6 qb7 m nowb ch Tb nb) (o_call (by kernel_rfl) Try.call33 (lfu_Request (n := nb) (n' := nb + 1) (most := m) (now := nowb) (churn := ch) (S := Tb) kyk (by omega) (by omega) (by omega) (by first | assumption | (unfold TmB; decide)))) (by kernel_rfl) rfl (by kernel_rfl) rfl ?_
            generalize hxx14 : lfuReq m nowb ch Tb kyk = x14
            rw [hT, hwab] at hxx14
            have hxe : x14 = x13 := hxx14.symm.trans hxx13
            refine Sq.done ?_
            refine Ex'.blockNormal ?_
            refine Ex'.next ?_
            refine Cd.region rfl ?_
            refine Sq.vals [0] (rest := [1, 2]) [iV (k : Int)] (fun w => by kernel_rfl) ?_
            refine Sq.v (r := iV ((k : Int) + 1)) (o_add (k := .i64) (a := (k : Int)) (b := 1) (c := (k : Int) + 1) (by kernel_rfl) (by kernel_rfl) (w64 rfl (by omega))) rfl (by kernel_rfl) ?_
            refine Sq.vals [2] (rest := []) [iV ((k : Int) + 1)] (fun w => by kernel_rfl) ?_
            refine Sq.done ?_
            refine Ex'.round (g := (k, nowa, Ta, na, nowb, Tb, nb)) (k + 1, x13.1, x13.2.1, na + 1, x14.1, x14.2.1, nb + 1) ?_ ?_ (subB_eq (l := [0, 2, 3, 9, 10, 11]) (by kernel_rfl)) (fun w hw => hw.pickB [0, 1, 2, 3, 4] (by kernel_rfl) (by kernel_rfl) (by kernel_rfl))
            · (try dsimp only); exact ⟨by omega, hR.i, by rw [hxe], by rw [hxe], by omega, by omega, by omega⟩
            · omega
        ·
          obtain ⟨hg0, hg1⟩ := hI.gone ky
          have hIr := hI.rem ky
          have hIr2 : LfuI m nowb (hrem Tb ky) := by rw [hT, hwab]; exact hIr
          have hg2 : tms (hrem Tb ky) ky = 0 := by rw [hT]; exact hg0
          have hI0 := hI.n0; have htm1 := hIr.tmb (by omega); have htm2 := hIr2.tmb (by omega)
          refine Cd.exit ?_
          refine Ex'.thenExit ?_
          refine Ex'.thenExit ?_
          refine Ex'.blockHit ?_
          refine Ex'.next ?_
          refine Cd.seq ?_
          refine Cd.region rfl ?_
          refine Sq.vals [0, 1] (rest := [2, 3]) [pV b4 0, sV ky] (fun w => by kernel_rfl) ?_
          refine Sq.same [1, 2] (l := lfuL b4 qb5 m nowa ch Ta na) (o_call (by kernel_rfl) Try.call36 (Tri.eq (l2 := lfuL b4 qb5 m nowa ch Ta na) (r' := bV (decide (0 < tms Ta ky))) (lfu_Has (n := na) (most := m) (now := nowa) (churn := ch) (S := Ta) ky (by omega)) (rfl) (rfl))) (by kernel_rfl) rfl (by kernel_rfl) rfl ?_
          refine Sq.vals [3] (rest := []) [bV (decide (0 < tms Ta ky))] (fun w => by kernel_rfl) ?_
          refine Sq.done ?_
          refine Ex'.next ?_
          refine Cd.seq ?_
          refine Cd.seq ?_
          refine Cd.region rfl ?_
          refine Sq.vals [0, 1] (rest := [2, 3, 4, 5, 6, 7, 8, 9, 10, 11, 12, 13, 14, 15, 16, 17]) [pV b4 0, sV ky] (fun w => by kernel_rfl) ?_
          refine Sq.same [1, 2] (l := lfuL b4 qb5 m nowa ch Ta na) (o_call (by kernel_rfl) Try.call37 (Tri.eq (l2 := lfuL b4 qb5 m nowa ch (hrem Ta ky) na) (r' := bV ((lk Ta ky).isSome)) (lfu_Remove (n := na) (most := m) (now := nowa) (churn := ch) (S := Ta) ky (by omega)) (rfl) (rfl))) (by kernel_rfl) rfl (by kernel_rfl) rfl ?_
          refine Sq.vals [3, 4, 5] (rest := [6, 7, 8, 9, 10, 11, 12, 13, 14, 15, 16, 17]) [bV (decide (0 < tms Ta ky)), bV (!(((lk Ta ky).isSome) == (decide (0 < tms Ta ky)))), bV (!(((lk Ta ky).isSome) == (decide (0 < tms Ta ky))))] (fun w => by kernel_rfl) ?_
          refine Sq.re 73 rfl (congrArg Value.bool (show (!(((lk Ta ky).isSome) == (decide (0 < tms Ta ky)))) = false from (by rw [hg1]; simp))) ?_
          refine Sq.vals [6, 7] (rest := [8, 9, 10, 11, 12, 13, 14, 15, 16, 17]) [pV b6 0, sV ky] (fun w => by kernel_rfl) ?_
          refine Sq.same [3, 4] (l := lfuL b6 qb7 m nowb ch Tb nb) (o_call (by kernel_rfl) Try.call37 (Tri.eq (l2 := lfuL b6 qb7 m nowb ch (hrem Tb ky) nb) (r' := bV ((lk Tb ky).isSome)) (lfu_Remove (n := nb) (most := m) (now := nowb) (churn := ch) (S := Tb) ky (by omega)) (rfl) (rfl))) (by kernel_rfl) rfl (by kernel_rfl) rfl ?_
          refine Sq.vals [9, 10, 11, 12] (rest := [13, 14, 15, 16, 17]) [bV (decide (0 < tms Ta ky)), bV (!(((lk Tb ky).isSome) == (decide (0 < tms Ta ky)))), bV (!(((lk Tb ky).isSome) == (decide (0 < tms Ta ky)))), bV (!(((lk Tb ky).isSome) == (decide (0 < tms Ta ky))))] (fun w => by kernel_rfl) ?_
          refine Sq.re 80 rfl (congrArg Value.bool (show (!(((lk Tb ky).isSome) == (decide (0 < tms Ta ky)))) = false from (by rw [hT, hg1]; simp))) ?_
          refine Sq.vals [13, 14] (rest := [15, 16, 17]) [pV b4 0, sV ky] (fun w => by kernel_rfl) ?_
          refine Sq.same [1, 2] (l := lfuL b4 qb5 m nowa ch (hrem Ta ky) na) (o_call (by kernel_rfl) Try.call32 (Tri.eq (l2 := lfuL b4 qb5 m nowa ch (hrem Ta ky) na) (r' := iV (tms (hrem Ta ky) ky)) (lfu_Times (n := na) (most := m) (now := nowa) (churn := ch) (S := hrem Ta ky) ky (by omega)) (rfl) (rfl))) (by kernel_rfl) rfl (by kernel_rfl) rfl ?_
          refine Sq.v (r := bV (decide (tms (hrem Ta ky) ky ≠ 0))) (o_neI (k := .i64) (a := tms (hrem Ta ky) ky) (b := 0) (by kernel_rfl) (by kernel_rfl)) rfl (by kernel_rfl) ?_
          refine Sq.re 84 rfl (vF (by omega)) ?_
          refine Sq.vals [17] (rest := []) [bV false] (fun w => by kernel_rfl) ?_
          refine Sq.done ?_
          refine Ex'.next ?_
          refine Cd.condF (by kernel_rfl) ?_
          refine Cd.skip ?_
          refine Ex'.next ?_
          refine Cd.seq ?_
          refine Cd.region rfl ?_
          refine Sq.vals [0] (rest := [1, 2, 3, 4]) [pV b4 0] (fun w => by kernel_rfl) ?_
          refine Sq.same [1, 2] (l := lfuL b4 qb5 m nowa ch (hrem Ta ky) na) (o_call (by kernel_rfl) Try.call34 (Tri.eq (l2 := lfuL b4 qb5 m nowa ch (hrem Ta ky) na) (r' := iV ((hrem Ta ky).length : Int)) (lfu_Len (n := na) (most := m) (now := nowa) (churn := ch) (S := hrem Ta ky) (by omega)) (rfl) (rfl))) (by kernel_rfl) rfl (by kernel_rfl) rfl ?_
          refine Sq.vals [2, 3, 4] (rest := []) [iV m, bV (decide (((hrem Ta ky).length : Int) < m)), bV (decide (((hrem Ta ky).length : Int) < m))] (fun w => by kernel_rfl) ?_
          refine Sq.done ?_
          refine Ex'.next ?_
          refine Cd.seq ?_
          refine Cd.seq ?_
          refine Cd.region rfl ?_
          refine Sq.vals [0, 1] (rest := [2, 3, 4]) [pV b4 0, sV ky] (fun w => by kernel_rfl) ?_
          refine Sq.same [1, 2] (l := lfuL b4 qb5 m nowa ch (hrem Ta ky) na) (o_call (by kernel_rfl) Try.call38 (lfu_Adopt (n := na) (n' := na + 1) (most := m) (now := nowa) (churn := ch) (S := hrem Ta ky) ky (by omega) (by omega) (by omega) (by first | assumption | (unfold TmB; decide)))) (by kernel_rfl) rfl (by kernel_rfl) rfl ?_
          generalize hxx17 : lfuAdopt m nowa ch (hrem Ta ky) ky = x17
          obtain ⟨hA1, hA2, hA3⟩ := adopt_spec hg0 hIr hxx17
          refine Sq.vals [3, 4] (rest := []) [bV (decide (((hrem Ta ky).length : Int) < m)), bV (!(x17.2.2 == (decide (((hrem Ta ky).length : Int) < m))))] (fun w => by kernel_rfl) ?_
          refine Sq.done ?_
          refine Ex'.next ?_
          refine Cd.condF (by rw [show ev _ _ = some (.bool ((!(x17.2.2 == (decide (((hrem Ta ky).length : Int) < m)))))) from by kernel_rfl, show (!(x17.2.2 == (decide (((hrem Ta ky).length : Int) < m)))) = false from (by simp only [hA1, beq_self_eq_true, Bool.not_true])]) ?_
          refine Cd.skip ?_
          refine Ex'.next ?_
          refine Cd.seq ?_
          refine Cd.seq ?_
          refine Cd.region rfl ?_
          refine Sq.vals [0] (rest := [1]) [bV (decide (((hrem Ta ky).length : Int) < m))] (fun w => by kernel_rfl) ?_
          refine Sq.v (r := bV (decide (¬ (((hrem Ta ky).length : Int) < m)))) (o_not (by kernel_rfl)) rfl (by kernel_rfl) ?_
          refine Sq.done ?_
          refine Ex'.next ?_
          refine Cd.case (p := ¬ (((hrem Ta ky).length : Int) < m)) (by kernel_rfl) (fun h19 => ?_) (fun h19 => ?_)
          ·
            obtain ⟨hxs, -⟩ := hA3 (hA1.trans (decide_eq_false h19))
            refine Cd.seq ?_
            refine Cd.region rfl ?_
            refine Sq.vals [0] (rest := [1, 2, 3, 4, 5]) [pV b4 0] (fun w => by kernel_rfl) ?_
            refine Sq.ex [1, 2] (l := lfuL b4 qb5 m x17.1 ch x17.2.1 (na + 1)) (o_call (by kernel_rfl) Try.call31 (Tri.ex (L' := fun v => lfuL b4 qb5 m x17.1 ch x17.2.1 (na + 1) ++ [rowR 9 1 v (x17.2.1.map (fun y : KR ByteArray => y.1)).length ((x17.2.1.map (fun y : KR ByteArray => y.1)).map Value.string)]) (lfu_Keys (n := na + 1) (most := m) (now := x17.1) (churn := ch) (S := x17.2.1) (by omega)) (fun v => rfl))) (by kernel_rfl) rfl (by kernel_rfl) (fun _ => Nat.le_of_ble_eq_true (by kernel_rfl)) ?_; rintro v20 _
            refine Sq.fact (i := 5) (R := rowR 9 1 v20 ((x17.2.1.map (fun y : KR ByteArray => y.1)).length) ((x17.2.1.map (fun y : KR ByteArray => y.1)).map Value.string)) (by kernel_rfl) row_slice ?_; rintro ⟨a21, c22, rfl, hc22, hc22'⟩
            have hc22'' : c22 ≤ 9223372036854775807 := hc22'
            refine Sq.vals [2] (rest := [3, 4, 5]) [pV b6 0] (fun w => by kernel_rfl) ?_
            refine Sq.ex [3, 4] (l := lfuL b6 qb7 m nowb ch (hrem Tb ky) nb) (o_call (by kernel_rfl) Try.call31 (Tri.ex (L' := fun v => lfuL b6 qb7 m nowb ch (hrem Tb ky) nb ++ [rowR 9 1 v ((hrem Tb ky).map (fun y : KR ByteArray => y.1)).length (((hrem Tb ky).map (fun y : KR ByteArray => y.1)).map Value.string)]) (lfu_Keys (n := nb) (most := m) (now := nowb) (churn := ch) (S := hrem Tb ky) (by omega)) (fun v => rfl))) (by kernel_rfl) rfl (by kernel_rfl) (fun _ => Nat.le_of_ble_eq_true (by kernel_rfl)) ?_; rintro v23 _
            refine Sq.fact (i := 6) (R := rowR 9 1 v23 (((hrem Tb ky).map (fun y : KR ByteArray => y.1)).length) (((hrem Tb ky).map (fun y : KR ByteArray => y.1)).map Value.string)) (by kernel_rfl) row_slice ?_; rintro ⟨a24, c25, rfl, hc25, hc25'⟩
            have hc25'' : c25 ≤ 9223372036854775807 := hc25'
            refine Sq.same [5, 6] (l := [rowR 9 1 (.slice a21 ((x17.2.1.map (fun y : KR ByteArray => y.1)).length) c22) ((x17.2.1.map (fun y : KR ByteArray => y.1)).length) ((x17.2.1.map (fun y : KR ByteArray => y.1)).map Value.string), rowR 9 1 (.slice a24 (((hrem Tb ky).map (fun y : KR ByteArray => y.1)).length) c25) (((hrem Tb ky).map (fun y : KR ByteArray => y.1)).length) (((hrem Tb ky).map (fun y : KR ByteArray => y.1)).map Value.string)]) (o_call (by kernel_rfl) Try.call39 (t_same03 (l := [rowR 9 1 (.slice a21 ((x17.2.1.map (fun y : KR ByteArray => y.1)).length) c22) ((x17.2.1.map (fun y : KR ByteArray => y.1)).length) ((x17.2.1.map (fun y : KR ByteArray => y.1)).map Value.string), rowR 9 1 (.slice a24 (((hrem Tb ky).map (fun y : KR ByteArray => y.1)).length) c25) (((hrem Tb ky).map (fun y : KR ByteArray => y.1)).length) (((hrem Tb ky).map (fun y : KR ByteArray => y.1)).map Value.string)]) (xs := x17.2.1.map (fun y : KR ByteArray => y.1)) (ys := (hrem Tb ky).map (fun y : KR ByteArray => y.1)) (fun w own hH => ⟨⟨_, Row.strs (hH 0 _ rfl)⟩, ⟨_, Row.strs (hH 1 _ rfl)⟩⟩))) (by kernel_rfl) rfl (by kernel_rfl) rfl ?_
            refine Sq.vals [5] (rest := []) [bV (decide (x17.2.1.map (fun y : KR ByteArray => y.1) = (hrem Tb ky).map (fun y : KR ByteArray => y.1)))] (fun w => by kernel_rfl) ?_
            refine Sq.done ?_
            refine Ex'.next ?_
            refine Cd.ret ?_
            refine Ex'.thenRet ?_
            refine Ex'.ret Try.results10 (RVs.tmp (v := bV (decide (x17.2.1.map (fun y : KR ByteArray => y.1) = (hrem Tb ky).map (fun y : KR ByteArray => y.1)))) (by kernel_rfl) (RVs.nil)) (fun w hw => ?_)
            exact ⟨_, ⟨(vT (by rw [hxs, hT])), by kernel_rfl⟩, hw⟩
          ·
            have hroom := Classical.not_not.1 h19
            obtain ⟨-, hx2⟩ := hA2 (hA1.trans (decide_eq_true hroom))
            refine Cd.skip ?_
            refine Ex'.next ?_
            refine Cd.seq ?_
            refine Cd.region rfl ?_
            refine Sq.vals [0, 1] (rest := [2, 3, 4]) [pV b6 0, sV ky] (fun w => by kernel_rfl) ?_
            refine Sq.same [3, 4] (l := lfuL b6 qb7 m nowb ch (hrem Tb ky) nb) (o_call (by kernel_rfl) Try.call33 (lfu_Request (n := nb) (n' := nb + 1) (most := m) (now := nowb) (churn := ch) (S := hrem Tb ky) ky (by omega) (by omega) (by omega) (by first | assumption | (unfold TmB; decide)))) (by kernel_rfl) rfl (by kernel_rfl) rfl ?_
            generalize hxx26 : lfuReq m nowb ch (hrem Tb ky) ky = x26
            have hQ := LfuI.req hIr2 (by omega) ky hxx26
            have hyl : ((hrem Tb ky).length : Int) < m := by rw [hT]; exact hroom
            have hyh : x26.2.2.1 = false := by rw [hQ.hit]; exact decide_eq_false (by omega)
            have hyo : x26.2.2.2.2 = false := by rw [hQ.out]; exact decide_eq_false (by omega)
            have hys := hQ.st; rw [hyo, if_neg Bool.false_ne_true] at hys
            have hyx : x17.2.1 = x26.2.1 := by rw [hys, hx2, hT, hwab]
            have hyt : tms x17.2.1 ky = 1 := by rw [hx2]; unfold asked; rw [tms_hset (hrem_nodup hI.nd)]; omega
            refine Sq.ex [] (l := []) (o_new [bV false, sV ⟨#[]⟩, bV false] (fun w => by kernel_rfl)) (by kernel_rfl) rfl (by kernel_rfl) (fun _ => Nat.zero_le _) ?_; intro b27 _
            refine Sq.same [5] (l := [blkR b27 [bV false, sV ⟨#[]⟩, bV false] 68]) (o_store (i := 0) (v := .agg #[bV x26.2.2.1, sV x26.2.2.2.1, bV x26.2.2.2.2]) (by kernel_rfl) (by kernel_rfl) (by kernel_rfl) (by kernel_rfl) (by kernel_rfl)) (by kernel_rfl) rfl (by kernel_rfl) rfl ?_
            refine Sq.done ?_
            refine Ex'.next ?_
            refine Cd.seq ?_
            refine Cd.region rfl ?_
            refine Sq.vals [0] (rest := [1, 2, 3, 4, 5, 6, 7, 8, 9, 10, 11, 12, 13, 14, 15, 16, 17, 18, 19, 20, 21]) [pV b27 0] (fun w => by kernel_rfl) ?_
            refine Sq.same [5] (l := [blkR b27 [bV x26.2.2.1, sV x26.2.2.2.1, bV x26.2.2.2.2] 68]) (o_load (i := 0) (v := bV x26.2.2.1) (by kernel_rfl) (by kernel_rfl) (by kernel_rfl)) (by kernel_rfl) rfl (by kernel_rfl) rfl ?_
            refine Sq.vals [2, 3] (rest := [4, 5, 6, 7, 8, 9, 10, 11, 12, 13, 14, 15, 16, 17, 18, 19, 20, 21]) [bV (!x26.2.2.1), bV (!x26.2.2.1)] (fun w => by kernel_rfl) ?_
            refine Sq.re 108 rfl (congrArg Value.bool (show (!x26.2.2.1) = true from (by rw [hyh]; rfl))) ?_
            refine Sq.vals [4] (rest := [5, 6, 7, 8, 9, 10, 11, 12, 13, 14, 15, 16, 17, 18, 19, 20, 21]) [pV b27 2] (fun w => by kernel_rfl) ?_
            refine Sq.same [5] (l := [blkR b27 [bV x26.2.2.1, sV x26.2.2.2.1, bV x26.2.2.2.2] 68]) (o_load (i := 2) (v := bV x26.2.2.2.2) (by kernel_rfl) (by kernel_rfl) (by kernel_rfl)) (by kernel_rfl) rfl (by kernel_rfl) rfl ?_
            refine Sq.vals [6, 7, 8] (rest := [9, 10, 11, 12, 13, 14, 15, 16, 17, 18, 19, 20, 21]) [bV (!x26.2.2.2.2), bV (!x26.2.2.2.2), bV (!x26.2.2.2.2)] (fun w => by kernel_rfl) ?_
            refine Sq.re 113 rfl (congrArg Value.bool (show (!x26.2.2.2.2) = true from (by rw [hyo]; rfl))) ?_
            refine Sq.vals [9, 10] (rest := [11, 12, 13, 14, 15, 16, 17, 18, 19, 20, 21]) [pV b4 0, sV ky] (fun w => by kernel_rfl) ?_
            refine Sq.same [1, 2] (l := lfuL b4 qb5 m x17.1 ch x17.2.1 (na + 1)) (o_call (by kernel_rfl) Try.call32 (Tri.eq (l2 := lfuL b4 qb5 m x17.1 ch x17.2.1 (na + 1)) (r' := iV (tms x17.2.1 ky)) (lfu_Times (n := na + 1) (most := m) (now := x17.1) (churn := ch) (S := x17.2.1) ky (by omega)) (rfl) (rfl))) (by kernel_rfl) rfl (by kernel_rfl) rfl ?_
            refine Sq.v (r := bV (decide (tms x17.2.1 ky = 1))) (o_eqI (k := .i64) (a := tms x17.2.1 ky) (b := 1) (by kernel_rfl) (by kernel_rfl)) rfl (by kernel_rfl) ?_
            refine Sq.re 117 rfl (vT hyt) ?_
            refine Sq.vals [13, 14, 15] (rest := [16, 17, 18, 19, 20, 21]) [bV true, bV true, pV b4 0] (fun w => by kernel_rfl) ?_
            refine Sq.ex [1, 2] (l := lfuL b4 qb5 m x17.1 ch x17.2.1 (na + 1)) (o_call (by kernel_rfl) Try.call31 (Tri.ex (L' := fun v => lfuL b4 qb5 m x17.1 ch x17.2.1 (na + 1) ++ [rowR 9 1 v (x17.2.1.map (fun y : KR ByteArray => y.1)).length ((x17.2.1.map (fun y : KR ByteArray => y.1)).map Value.string)]) (lfu_Keys (n := na + 1) (most := m) (now := x17.1) (churn := ch) (S := x17.2.1) (by omega)) (fun v => rfl))) (by kernel_rfl) rfl (by kernel_rfl) (fun _ => Nat.le_of_ble_eq_true (by kernel_rfl)) ?_; rintro v30 _
            refine Sq.fact (i := 6) (R := rowR 9 1 v30 ((x17.2.1.map (fun y : KR ByteArray => y.1)).length) ((x17.2.1.map (fun y : KR ByteArray => y.1)).map Value.string)) (by kernel_rfl) row_slice ?_; rintro ⟨a31, c32, rfl, hc32, hc32'⟩
            have hc32'' : c32 ≤ 9223372036854775807 := hc32'
            refine Sq.vals [17] (rest := [18, 19, 20, 21]) [pV b6 0] (fun w => by kernel_rfl) ?_
            refine Sq.ex [3, 4] (l := lfuL b6 qb7 m x26.1 ch x26.2.1 (nb + 1)) (o_call (by kernel_rfl) Try.call31 (Tri.ex (L' := fun v => lfuL b6 qb7 m x26.1 ch x26.2.1 (nb + 1) ++ [rowR 9 1 v (x26.2.1.map (fun y : KR ByteArray => y.1)).length ((x26.2.1.map (fun y : KR ByteArray => y.1)).map Value.string)]) (lfu_Keys (n := nb + 1) (most := m) (now := x26.1) (churn := ch) (S := x26.2.1) (by omega)) (fun v => rfl))) (by kernel_rfl) rfl (by kernel_rfl) (fun _ => Nat.le_of_ble_eq_true (by kernel_rfl)) ?_; rintro v33 _
            refine Sq.fact (i := 7) (R := rowR 9 1 v33 ((x26.2.1.map (fun y : KR ByteArray => y.1)).length) ((x26.2.1.map (fun y : KR ByteArray => y.1)).map Value.string)) (by kernel_rfl) row_slice ?_; rintro ⟨a34, c35, rfl, hc35, hc35'⟩
            have hc35'' : c35 ≤ 9223372036854775807 := hc35'
            refine Sq.same [6, 7] (l := [rowR 9 1 (.slice a31 ((x17.2.1.map (fun y : KR ByteArray => y.1)).length) c32) ((x17.2.1.map (fun y : KR ByteArray => y.1)).length) ((x17.2.1.map (fun y : KR ByteArray => y.1)).map Value.string), rowR 9 1 (.slice a34 ((x26.2.1.map (fun y : KR ByteArray => y.1)).length) c35) ((x26.2.1.map (fun y : KR ByteArray => y.1)).length) ((x26.2.1.map (fun y : KR ByteArray => y.1)).map Value.string)]) (o_call (by kernel_rfl) Try.call39 (t_same03 (l := [rowR 9 1 (.slice a31 ((x17.2.1.map (fun y : KR ByteArray => y.1)).length) c32) ((x17.2.1.map (fun y : KR ByteArray => y.1)).length) ((x17.2.1.map (fun y : KR ByteArray => y.1)).map Value.string), rowR 9 1 (.slice a34 ((x26.2.1.map (fun y : KR ByteArray => y.1)).length) c35) ((x26.2.1.map (fun y : KR ByteArray => y.1)).length) ((x26.2.1.map (fun y : KR ByteArray => y.1)).map Value.string)]) (xs := x17.2.1.map (fun y : KR ByteArray => y.1)) (ys := x26.2.1.map (fun y : KR ByteArray => y.1)) (fun w own hH => ⟨⟨_, Row.strs (hH 0 _ rfl)⟩, ⟨_, Row.strs (hH 1 _ rfl)⟩⟩))) (by kernel_rfl) rfl (by kernel_rfl) rfl ?_
            refine Sq.vals [20, 21] (rest := []) [bV (decide (x17.2.1.map (fun y : KR ByteArray => y.1) = x26.2.1.map (fun y : KR ByteArray => y.1))), bV (decide (x17.2.1.map (fun y : KR ByteArray => y.1) = x26.2.1.map (fun y : KR ByteArray => y.1)))] (fun w => by kernel_rfl) ?_
            refine Sq.done ?_
            refine Ex'.next ?_
            refine Cd.ret ?_
            refine Ex'.ret Try.results10 (RVs.tmp (v := bV (decide (x17.2.1.map (fun y : KR ByteArray => y.1) = x26.2.1.map (fun y : KR ByteArray => y.1)))) (by kernel_rfl) (RVs.nil)) (fun w hw => ?_)
            exact ⟨_, ⟨(vT (by rw [hyx])), by kernel_rfl⟩, hw⟩

theorem lfuAdopts_walk (m : Int) (ch : Bool) (v : Value) (xs : List ByteArray) (ky : ByteArray) (w : World) (hm : (Lit.int .i64 m).wf = true) (h : Strs w (fun k => k < w.heap.size) v xs) (hz : ∀ k ∈ xs, k.size ≤ maxLen) (hk : ky.size ≤ maxLen) :
    Calls Try.prog 10 #[.int .i64 m, .bool ch, v, .string ky] w fun e w' => e = .returned (.bool true) ∧ Below w.heap.size w w' := by
  obtain ⟨a, cap, rfl, hl⟩ := KeysIn.shape ⟨h, hz⟩
  exact law_of (lfuAdopts_tri (range64 hm) hl ⟨h, hz⟩)

end Go.Proofs.Ytnnjccfcalgokaa
