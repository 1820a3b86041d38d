/- ListPlays: its walk. -/
import Derived.Test.YthbffkdfahlpdaaListP
import Derived.Test.YthbffkdfahlpdaaActsL
import Derived.Test.YthbffkdfahlpdaaSepW
set_option linter.unusedVariables false
namespace Go.Proofs.Ythbffkdfahlpdaa
open Go.RowKit Go.MapKept
theorem last_getD {l : List ByteArray} : l.getLast?.getD ⟨#[]⟩ = l.getD (l.length - 1) ⟨#[]⟩ := by rw [List.getLast?_eq_getElem?, List.getD_eq_getElem?_getD]
theorem head_nil {l : List ByteArray} (h : ¬ 0 < l.length) : l.head?.getD ⟨#[]⟩ = ⟨#[]⟩ := by cases l with | nil => rfl | cons _ _ => simp at h
theorem head_getD {l : List ByteArray} : l.head?.getD ⟨#[]⟩ = l.getD 0 ⟨#[]⟩ := by cases l <;> rfl
def last03 (l : List ByteArray) : ByteArray × Bool :=
  if (l.length : Int) = 0 then (⟨#[]⟩, false) else (l.getD (l.length - 1) ⟨#[]⟩, true)

set_option maxHeartbeats 8000000 in
set_option maxRecDepth 100000 in
theorem t_Last03 {la : Option Addr} {lc : Nat} {l : List ByteArray} (hbd : l.length ≤ 1000000) : Tri Try.prog 44 #[.slice la l.length lc] [vewR 1 (.slice la l.length lc) l.length (l.map Value.string)] (Same [vewR 1 (.slice la l.length lc) l.length (l.map Value.string)] (.tuple #[sV ((last03 l).1), bV ((last03 l).2)])) := by
  refine Tri.enter (args := [.slice la l.length lc]) Try.func44 rfl rfl rfl (fun B wz => ?_)
  refine Cd.fact (i := 0) rfl vew_cap ?_; intro hcap0
  refine Cd.seq ?_
  refine Cd.region rfl ?_
  refine Sq.vals [0, 1] (rest := []) [sV ⟨#[]⟩, bV false] (fun w => by kernel_rfl) ?_
  refine Sq.done ?_
  refine Ex'.next ?_
  refine Cd.seq ?_
  refine Cd.seq ?_
  refine Cd.region rfl ?_
  refine Sq.vals [0, 1] (rest := [2]) [.slice la l.length lc, iV (l.length : Int)] (fun w => by kernel_rfl) ?_
  refine Sq.v (r := bV (decide ((l.length : Int) = 0))) (o_eqI (k := .i64) (a := (l.length : Int)) (b := 0) (by kernel_rfl) (by kernel_rfl)) rfl (by kernel_rfl) ?_
  refine Sq.done ?_
  refine Ex'.next ?_
  refine Cd.case (p := (l.length : Int) = 0) (by kernel_rfl) (fun h1 => ?_) (fun h1 => ?_)
  ·
    refine Cd.seq ?_
    refine Cd.region rfl ?_
    refine Sq.vals [0, 1] (rest := []) [sV ⟨#[]⟩, bV false] (fun w => by kernel_rfl) ?_
    refine Sq.done ?_
    refine Ex'.next ?_
    refine Cd.ret ?_
    refine Ex'.thenRet ?_
    refine Ex'.ret Try.results44 (RVs.tmp (v := sV ⟨#[]⟩) (by kernel_rfl) (RVs.tmp (v := bV false) (by kernel_rfl) (RVs.nil))) (fun w hw => ?_)
    have e : last03 l = (⟨#[]⟩, false) := by unfold last03; rw [if_pos h1]
    rw [e]
    exact ⟨_, ⟨rfl, rfl⟩, hw.pickB [0] (by kernel_rfl) (by kernel_rfl) (by kernel_rfl)⟩
  ·
    refine Cd.skip ?_
    refine Ex'.next ?_
    refine Cd.seq ?_
    refine Cd.region rfl ?_
    refine Sq.vals [0, 1, 2] (rest := [3, 4, 5, 6, 7]) [.slice la l.length lc, .slice la l.length lc, iV (l.length : Int)] (fun w => by kernel_rfl) ?_
    refine Sq.v (r := iV ((l.length : Int) - 1)) (o_sub (k := .i64) (a := (l.length : Int)) (b := 1) (c := (l.length : Int) - 1) (by kernel_rfl) (by kernel_rfl) (w64 rfl (by omega))) rfl (by kernel_rfl) ?_
    refine Sq.fact (i := 0) (R := vewR 1 (.slice la l.length lc) l.length (l.map Value.string)) (by kernel_rfl) (vew_addr (by omega)) ?_; rintro ⟨b2, off3, rfl⟩
    refine Sq.v (r := pV b2 (off3 + (l.length - 1))) (o_idx (b := b2) (cap := lc) (e := 9) (off := off3) (n := l.length) (kd := .i64) (q := (l.length : Int) - 1) (i := l.length - 1) (size := 1) (j := off3 + (l.length - 1)) (by kernel_rfl) (by kernel_rfl) (by omega) (by omega) Try.underlying55 (by kernel_rfl) (by omega)) rfl (by kernel_rfl) ?_
    refine Sq.same [0] (l := [vewR 1 (.slice (some ⟨b2, off3, none⟩) l.length lc) l.length (l.map Value.string)]) (o_loadView (off := off3) (j := l.length - 1) (u := sV (l.getD (l.length - 1) ⟨#[]⟩)) (by kernel_rfl) (by omega) (by kernel_rfl) (get_map (by omega))) (by kernel_rfl) rfl (by kernel_rfl) rfl ?_
    refine Sq.vals [6, 7] (rest := []) [sV (l.getD (l.length - 1) ⟨#[]⟩), bV true] (fun w => by kernel_rfl) ?_
    refine Sq.done ?_
    refine Ex'.next ?_
    refine Cd.ret ?_
    refine Ex'.ret Try.results44 (RVs.tmp (v := sV (l.getD (l.length - 1) ⟨#[]⟩)) (by kernel_rfl) (RVs.tmp (v := bV true) (by kernel_rfl) (RVs.nil))) (fun w hw => ?_)
    have e : last03 l = (l.getD (l.length - 1) ⟨#[]⟩, true) := by unfold last03; rw [if_neg h1]
    rw [e]
    exact ⟨_, ⟨rfl, rfl⟩, hw.pickB [0] (by kernel_rfl) (by kernel_rfl) (by kernel_rfl)⟩

set_option maxHeartbeats 8000000 in
set_option maxRecDepth 100000 in
theorem t_Pop03 {la : Option Addr} {lc : Nat} {l : List ByteArray} (hbd : l.length ≤ 1000000) : Tri Try.prog 45 #[.slice la l.length lc] [vewR 1 (.slice la l.length lc) l.length (l.map Value.string)] (PostE (ι := Value) (fun _ => True) (fun v => v) fun v => [vewR 1 v ((List.dropLast l).length) ((List.dropLast l).map Value.string)]) := by
  refine Tri.enter (args := [.slice la l.length lc]) Try.func45 rfl rfl rfl (fun B wz => ?_)
  refine Cd.fact (i := 0) rfl vew_cap ?_; intro hcap0
  refine Cd.seq ?_
  refine Cd.region rfl ?_
  refine Sq.vals [0] (rest := []) [.slice none 0 0] (fun w => by kernel_rfl) ?_
  refine Sq.done ?_
  refine Ex'.next ?_
  refine Cd.seq ?_
  refine Cd.seq ?_
  refine Cd.region rfl ?_
  refine Sq.vals [0, 1] (rest := [2]) [.slice la l.length lc, iV (l.length : Int)] (fun w => by kernel_rfl) ?_
  refine Sq.v (r := bV (decide ((l.length : Int) = 0))) (o_eqI (k := .i64) (a := (l.length : Int)) (b := 0) (by kernel_rfl) (by kernel_rfl)) rfl (by kernel_rfl) ?_
  refine Sq.done ?_
  refine Ex'.next ?_
  refine Cd.case (p := (l.length : Int) = 0) (by kernel_rfl) (fun h1 => ?_) (fun h1 => ?_)
  ·
    refine Cd.seq ?_
    refine Cd.region rfl ?_
    refine Sq.vals [0, 1] (rest := []) [.slice la l.length lc, .slice la l.length lc] (fun w => by kernel_rfl) ?_
    refine Sq.done ?_
    refine Ex'.next ?_
    refine Cd.ret ?_
    refine Ex'.thenRet ?_
    refine Ex'.ret Try.results45 (RVs.tmp (v := .slice la l.length lc) (by kernel_rfl) (RVs.nil)) (fun w hw => ?_)
    have e : List.dropLast l = l := by first | exact List.dropLast_eq_take | (rw [List.eq_nil_of_length_eq_zero (show l.length = 0 by omega)]; rfl)
    rw [e]
    exact ⟨_, ⟨(.slice la l.length lc), trivial, rfl, rfl⟩, hw.pickB [0] (by kernel_rfl) (by kernel_rfl) (by kernel_rfl)⟩
  ·
    refine Cd.skip ?_
    refine Ex'.next ?_
    refine Cd.seq ?_
    refine Cd.region rfl ?_
    refine Sq.vals [0, 1, 2] (rest := [3, 4, 5]) [.slice la l.length lc, .slice la l.length lc, iV (l.length : Int)] (fun w => by kernel_rfl) ?_
    refine Sq.v (r := iV ((l.length : Int) - 1)) (o_sub (k := .i64) (a := (l.length : Int)) (b := 1) (c := (l.length : Int) - 1) (by kernel_rfl) (by kernel_rfl) (w64 rfl (by omega))) rfl (by kernel_rfl) ?_
    refine Sq.v (r := .slice la (l.length - 1) lc) (o_cutToA (a := la) (kd := .i64) (q := (l.length : Int) - 1) (h := l.length - 1) (n := l.length) (cap := lc) (size := 1) (by kernel_rfl) (by kernel_rfl) (by omega) (by omega) Try.underlying55 (by kernel_rfl)) rfl (by kernel_rfl) ?_
    refine Sq.res 0 (R := vewR 1 (.slice la l.length lc) l.length (l.map Value.string)) (R' := vewR 1 (.slice la (l.length - 1) lc) (l.length - 1) ((l.take (l.length - 1)).map Value.string)) (by kernel_rfl) (vew_cutS (by omega)) ?_
    refine Sq.vals [5] (rest := []) [.slice la (l.length - 1) lc] (fun w => by kernel_rfl) ?_
    refine Sq.done ?_
    refine Ex'.next ?_
    refine Cd.ret ?_
    refine Ex'.ret Try.results45 (RVs.tmp (v := .slice la (l.length - 1) lc) (by kernel_rfl) (RVs.nil)) (fun w hw => ?_)
    have e : List.dropLast l = l.take (l.length - 1) := by first | exact List.dropLast_eq_take | (rw [List.eq_nil_of_length_eq_zero (show l.length = 0 by omega)]; rfl)
    rw [e]
    exact ⟨_, ⟨(.slice la (l.length - 1) lc), trivial, rfl, rfl⟩, (hw.conv 0 (R := vewR 1 (.slice la (l.length - 1) lc) (l.length - 1) ((l.take (l.length - 1)).map Value.string)) (R' := vewR 1 (.slice la (l.length - 1) lc) ((l.take (l.length - 1)).length) ((l.take (l.length - 1)).map Value.string)) (by kernel_rfl) (vew_len (by first | rfl | omega | (simp only [List.length_take, List.length_drop, List.length_append, List.length_cons, List.length_nil]; omega) | (simp; done) | (simp; omega)))).pickB [0] (by kernel_rfl) (by kernel_rfl) (by kernel_rfl)⟩

theorem last03_1 {l : List ByteArray} : l.getLast?.getD ⟨#[]⟩ = (last03 l).1 := by
  unfold last03
  by_cases q : (l.length : Int) = 0
  · rw [if_pos q, List.eq_nil_of_length_eq_zero (show l.length = 0 by omega)]; rfl
  · rw [if_neg q, last_getD]
theorem last03_2 {l : List ByteArray} : (last03 l).2 = decide (0 < l.length) := by
  unfold last03
  by_cases q : (l.length : Int) = 0
  · rw [if_pos q, decide_eq_false (by omega)]
  · rw [if_neg q, decide_eq_true (by omega)]

set_option maxHeartbeats 8000000 in
set_option maxRecDepth 100000 in
theorem listPlays_tri {w0 : World} {a : Option Addr} {cap : Nat} {xs : List Act2} (hl : xs.length ≤ cap ∧ cap ≤ 9223372036854775807) (hs : LScr w0 (.slice a xs.length cap) xs) : Tri Try.prog 12 #[.slice a xs.length cap] [oldR w0] (LawP w0) := by
  refine Tri.enter (args := [.slice a xs.length cap]) Try.func12 rfl rfl rfl (fun B wz => ?_)
  refine Cd.seq ?_
  refine Cd.region rfl ?_
  refine Sq.vals [0] (rest := []) [bV false] (fun w => by kernel_rfl) ?_
  refine Sq.done ?_
  refine Ex'.next ?_
  refine Cd.seq ?_
  refine Cd.seq ?_
  refine Cd.region rfl ?_
  refine Sq.same [] (l := []) (o_call (by kernel_rfl) Try.call27 (awake_list)) (by kernel_rfl) rfl (by kernel_rfl) rfl ?_
  refine Sq.vals [1] (rest := []) [bV false] (fun w => by kernel_rfl) ?_
  refine Sq.done ?_
  refine Ex'.next ?_
  refine Cd.condF (by kernel_rfl) ?_
  refine Cd.skip ?_
  refine Ex'.next ?_
  refine Cd.seq ?_
  refine Cd.seq ?_
  refine Cd.region rfl ?_
  refine Sq.vals [0, 1, 2] (rest := []) [.slice a xs.length cap, iV (xs.length : Int), bV (decide ((xs.length : Int) > 300))] (fun w => by kernel_rfl) ?_
  refine Sq.done ?_
  refine Ex'.next ?_
  refine Cd.case (p := (xs.length : Int) > 300) (by kernel_rfl) (fun h1 => ?_) (fun h1 => ?_)
  ·
    refine Cd.seq ?_
    refine Cd.region rfl ?_
    refine Sq.vals [0] (rest := []) [bV true] (fun w => by kernel_rfl) ?_
    refine Sq.done ?_
    refine Ex'.next ?_
    refine Cd.ret ?_
    refine Ex'.thenRet ?_
    refine Ex'.ret Try.results12 (RVs.tmp (v := bV true) (by kernel_rfl) (RVs.nil)) (fun w hw => ?_)
    exact ⟨_, ⟨rfl, by kernel_rfl⟩, hw⟩
  ·
    refine Cd.skip ?_
    refine Ex'.next ?_
    refine Cd.seq ?_
    refine Cd.region rfl ?_
    refine Sq.ex [] (l := []) (o_call (by kernel_rfl) Try.call28 (u_New)) (by kernel_rfl) rfl (by kernel_rfl) (fun _ => Nat.le_of_ble_eq_true (by kernel_rfl)) ?_; rintro b2 _
    refine Sq.vals [1] (rest := []) [pV b2 0] (fun w => by kernel_rfl) ?_
    refine Sq.done ?_
    refine Ex'.next ?_
    refine Cd.seq ?_
    refine Cd.seq ?_
    refine Cd.region rfl ?_
    refine Sq.vals [0, 1] (rest := []) [pV b2 0, bV false] (fun w => by kernel_rfl) ?_
    refine Sq.done ?_
    refine Ex'.next ?_
    refine Cd.condF (by kernel_rfl) ?_
    refine Cd.skip ?_
    refine Ex'.next ?_
    refine Cd.seq ?_
    refine Cd.region rfl ?_
    refine Sq.vals [0] (rest := []) [.slice none 0 0] (fun w => by kernel_rfl) ?_
    refine Sq.done ?_
    refine Ex'.next ?_
    refine Cd.seq ?_
    refine Cd.region rfl ?_
    refine Sq.vals [0] (rest := []) [iV 0] (fun w => by kernel_rfl) ?_
    refine Sq.done ?_
    refine Ex'.next ?_
    refine Cd.seq ?_
    refine Cd.seq ?_
    refine Cd.region rfl ?_
    refine Sq.vals [0] (rest := []) [iV 0] (fun w => by kernel_rfl) ?_
    refine Sq.done ?_
    refine Ex'.next ?_
    refine Cd.block ?_
    refine Cd.nilRow 9 1 ?_
    refine Cd.loop (ι := Nat × (List ByteArray) × Nat × Value × Int) (fun ⟨k, ks0, p0, mv0, mo0⟩ => k ≤ xs.length ∧ p0 ≤ k ∧ mo0 = p0) (fun ⟨k, ks0, p0, mv0, mo0⟩ => xs.length - k) (fun ⟨k, ks0, p0, mv0, mo0⟩ => [(0, .slice a xs.length cap), (3, pV b2 0), (6, iV (k : Int)), (4, mv0), (5, iV mo0)]) (fun ⟨k, ks0, p0, mv0, mo0⟩ => [oldR w0, llP b2 ks0 p0, vewR 1 mv0 ks0.length (ks0.map Value.string)]) (0, [], 0, .slice none 0 0, 0) (⟨Nat.zero_le _, Nat.zero_le _, rfl⟩) (subB_eq (l := [0, 3, 6, 4, 5]) (by kernel_rfl)) (fun w hw => (hw.conv 2 (R := rowR 9 1 (.slice none 0 0) (([] : List ByteArray).length) (([] : List ByteArray).map Value.string)) (R' := vewR 1 (.slice none 0 0) [].length ([].map Value.string)) (by kernel_rfl) (fun w S h => vew_len (by first | rfl | omega | (simp only [List.length_take, List.length_drop, List.length_append, List.length_cons, List.length_nil]; omega) | (simp; done) | (simp; omega)) w S (vew_of_row w S h))).pickB [0, 1, 2] (by kernel_rfl) (by kernel_rfl) (by kernel_rfl)) ?_
    rintro ⟨k, ks0, p0, mv0, mo0⟩ hL3
    try dsimp only at hL3 ⊢
    obtain ⟨hk, hp, hmo⟩ := hL3
    refine Cd.fact (i := 1) rfl llP.le ?_; rintro ⟨hnd, hle⟩
    refine Cd.fact (i := 2) (R := vewR 1 mv0 ks0.length (ks0.map Value.string)) (by kernel_rfl) vew_slice ?_; rintro ⟨a4, c5, rfl, hc5, hc5'⟩
    have hc5'' : c5 ≤ 9223372036854775807 := hc5'
    refine Cd.seq ?_
    refine Cd.seq ?_
    refine Cd.region rfl ?_
    refine Sq.vals [0, 1, 2, 3] (rest := []) [iV (k : Int), .slice a xs.length cap, iV (xs.length : Int), bV (decide ((k : Int) < (xs.length : Int)))] (fun w => by kernel_rfl) ?_
    refine Sq.done ?_
    refine Ex'.next ?_
    refine Cd.case (p := (k : Int) < (xs.length : Int)) (by kernel_rfl) (fun h6 => ?_) (fun h6 => ?_)
    ·
      obtain ⟨g7, off8, rfl⟩ := hs.addr (by omega)
      obtain ⟨kdk, kyk, hgk, hwk, hrk⟩ := hs.at (k := k) (by omega)
      refine Cd.skip ?_
      refine Ex'.next ?_
      refine Cd.seq ?_
      refine Cd.block ?_
      refine Cd.seq ?_
      refine Cd.region rfl ?_
      refine Sq.vals [0, 1] (rest := [2, 3, 4, 5]) [.slice (some ⟨g7, off8, none⟩) xs.length cap, iV (k : Int)] (fun w => by kernel_rfl) ?_
      refine Sq.v (r := pV g7 (off8 + k * 2)) (o_idx (b := g7) (cap := cap) (e := 53) (off := off8) (n := xs.length) (kd := .i64) (q := (k : Int)) (i := k) (size := 2) (j := off8 + k * 2) (by kernel_rfl) (by kernel_rfl) (by rfl) (by omega) Try.underlying49 (by kernel_rfl) (by omega)) rfl (by kernel_rfl) ?_
      refine Sq.same [0] (l := [oldR w0]) (o_loadOldN (b := g7) (j := off8 + k * 2) [iV kdk, sV kyk] (by kernel_rfl) (by kernel_rfl) hrk) (by kernel_rfl) rfl (by kernel_rfl) rfl ?_
      refine Sq.ex [] (l := []) (o_new [iV 0, sV ⟨#[]⟩] (fun w => by kernel_rfl)) (by kernel_rfl) rfl (by kernel_rfl) (fun _ => Nat.zero_le _) ?_; intro b9 _
      refine Sq.same [3] (l := [blkR b9 [iV 0, sV ⟨#[]⟩] 53]) (o_store (i := 0) (v := .agg #[iV kdk, sV kyk]) (by kernel_rfl) (by kernel_rfl) (by kernel_rfl) (by kernel_rfl) (by kernel_rfl)) (by kernel_rfl) rfl (by kernel_rfl) rfl ?_
      refine Sq.done ?_
      refine Ex'.next ?_
      refine Cd.seq ?_
      refine Cd.seq ?_
      refine Cd.region rfl ?_
      refine Sq.vals [0] (rest := [1, 2, 3]) [pV b9 1] (fun w => by kernel_rfl) ?_
      refine Sq.same [3] (l := [blkR b9 [iV kdk, sV kyk] 53]) (o_load (i := 1) (v := sV kyk) (by kernel_rfl) (by kernel_rfl) (by kernel_rfl)) (by kernel_rfl) rfl (by kernel_rfl) rfl ?_
      refine Sq.vals [2, 3] (rest := []) [iV (kyk.size : Int), bV (decide ((kyk.size : Int) > 1000))] (fun w => by kernel_rfl) ?_
      refine Sq.done ?_
      refine Ex'.next ?_
      refine Cd.case (p := (kyk.size : Int) > 1000) (by kernel_rfl) (fun h10 => ?_) (fun h10 => ?_)
      ·
        refine Cd.seq ?_
        refine Cd.region rfl ?_
        refine Sq.vals [0] (rest := []) [bV true] (fun w => by kernel_rfl) ?_
        refine Sq.done ?_
        refine Ex'.next ?_
        refine Cd.ret ?_
        refine Ex'.thenRet ?_
        refine Ex'.blockRet ?_
        refine Ex'.thenRet ?_
        refine Ex'.thenRet ?_
        refine Ex'.blockRet ?_
        refine Ex'.thenRet ?_
        refine Ex'.ret Try.results12 (RVs.tmp (v := bV true) (by kernel_rfl) (RVs.nil)) (fun w hw => ?_)
        exact ⟨_, ⟨rfl, by kernel_rfl⟩, hw⟩
      ·
        refine Cd.skip ?_
        refine Ex'.next ?_
        refine Cd.join (ι := (List ByteArray) × Nat × Value × Int) (fun ⟨ks1, p1, mv1, mo1⟩ => p1 ≤ k + 1 ∧ (p1 : Int) = (if (ks1.length : Int) > mo1 then (ks1.length : Int) else mo1)) (fun ⟨ks1, p1, mv1, mo1⟩ => [(0, .slice (some ⟨g7, off8, none⟩) xs.length cap), (3, pV b2 0), (6, iV (k : Int)), (7, pV b9 0), (4, mv1), (5, iV mo1)]) (fun ⟨ks1, p1, mv1, mo1⟩ => [oldR w0, llP b2 ks1 p1, vewR 1 mv1 ks1.length (ks1.map Value.string), blkR b9 [iV kdk, sV kyk] 53]) ?_ ?_
        ·
          refine Cd.seq ?_
          refine Cd.region rfl ?_
          refine Sq.vals [0] (rest := [1]) [pV b9 0] (fun w => by kernel_rfl) ?_
          refine Sq.same [3] (l := [blkR b9 [iV kdk, sV kyk] 53]) (o_load (i := 0) (v := iV kdk) (by kernel_rfl) (by kernel_rfl) (by kernel_rfl)) (by kernel_rfl) rfl (by kernel_rfl) rfl ?_
          refine Sq.done ?_
          refine Ex'.next ?_
          refine Cd.block ?_
          refine Cd.seq ?_
          refine Cd.region rfl ?_
          refine Sq.v (r := bV (decide (kdk = 0))) (o_eqI (k := .i64) (a := kdk) (b := 0) (by kernel_rfl) (by kernel_rfl)) rfl (by kernel_rfl) ?_
          refine Sq.vals [1] (rest := []) [bV (decide (kdk = 0))] (fun w => by kernel_rfl) ?_
          refine Sq.done ?_
          refine Ex'.next ?_
          refine Cd.case (p := kdk = 0) (by kernel_rfl) (fun h11 => ?_) (fun h11 => ?_)
          ·
            have hfl := fr_le ks0 kyk
            refine Cd.seq ?_
            refine Cd.region rfl ?_
            refine Sq.vals [0, 1] (rest := [2, 3]) [pV b2 0, pV b9 1] (fun w => by kernel_rfl) ?_
            refine Sq.same [3] (l := [blkR b9 [iV kdk, sV kyk] 53]) (o_load (i := 1) (v := sV kyk) (by kernel_rfl) (by kernel_rfl) (by kernel_rfl)) (by kernel_rfl) rfl (by kernel_rfl) rfl ?_
            refine Sq.same [1] (l := [llP b2 ks0 p0]) (o_call (by kernel_rfl) Try.call29 (u_Front (ks := ks0) (p := p0) kyk (by omega))) (by kernel_rfl) rfl (by kernel_rfl) rfl ?_
            refine Sq.done ?_
            refine Ex'.next ?_
            refine Cd.region rfl ?_
            refine Sq.vals [0, 1] (rest := [2, 3, 4]) [.slice a4 ks0.length c5, pV b9 1] (fun w => by kernel_rfl) ?_
            refine Sq.same [3] (l := [blkR b9 [iV kdk, sV kyk] 53]) (o_load (i := 1) (v := sV kyk) (by kernel_rfl) (by kernel_rfl) (by kernel_rfl)) (by kernel_rfl) rfl (by kernel_rfl) rfl ?_
            refine Sq.ex [2] (l := [vewR 1 (.slice a4 ks0.length c5) ks0.length (ks0.map Value.string)]) (o_call (by kernel_rfl) Try.call41 (t_front03 (l := [vewR 1 (.slice a4 ks0.length c5) ks0.length (ks0.map Value.string)]) (xs := ks0) kyk (fun w own hH => ⟨_, strs_of_vew (by first | rfl | omega) _ _ (hH 0 _ rfl)⟩) (by omega))) (by kernel_rfl) rfl (by kernel_rfl) (fun _ => Nat.le_of_ble_eq_true (by kernel_rfl)) ?_; rintro v12 _
            refine Sq.fact (i := 4) (R := rowR 9 1 v12 ((fr ks0 kyk).length) ((fr ks0 kyk).map Value.string)) (by kernel_rfl) row_slice ?_; rintro ⟨a13, c14, rfl, hc14, hc14'⟩
            have hc14'' : c14 ≤ 9223372036854775807 := hc14'
            refine Sq.vals [4] (rest := []) [.slice a13 ((fr ks0 kyk).length) c14] (fun w => by kernel_rfl) ?_
            refine Sq.done ?_
            refine Ex'.blockNormal ?_
            refine Ex'.meet (fr ks0 kyk, max p0 (fr ks0 kyk).length, .slice a13 ((fr ks0 kyk).length) c14, mo0) ?_ (subB_eq (l := [0, 3, 6, 7, 4, 5]) (by kernel_rfl)) (fun w hw => (hw.conv 4 (R := rowR 9 1 (.slice a13 ((fr ks0 kyk).length) c14) ((fr ks0 kyk).length) ((fr ks0 kyk).map Value.string)) (R' := vewR 1 (.slice a13 ((fr ks0 kyk).length) c14) (fr ks0 kyk).length ((fr ks0 kyk).map Value.string)) (by kernel_rfl) (fun w S h => vew_len (by first | rfl | omega | (simp only [List.length_take, List.length_drop, List.length_append, List.length_cons, List.length_nil]; omega) | (simp; done) | (simp; omega)) w S (vew_of_row w S h))).pickB [0, 1, 4, 3] (by kernel_rfl) (by kernel_rfl) (by kernel_rfl))
            · (try dsimp only); exact ⟨by omega, by first | (split <;> omega) | simp⟩
          ·
            refine Cd.seq ?_
            refine Cd.region rfl ?_
            refine Sq.v (r := bV (decide (kdk = 1))) (o_eqI (k := .i64) (a := kdk) (b := 1) (by kernel_rfl) (by kernel_rfl)) rfl (by kernel_rfl) ?_
            refine Sq.vals [1] (rest := []) [bV (decide (kdk = 1))] (fun w => by kernel_rfl) ?_
            refine Sq.done ?_
            refine Ex'.next ?_
            refine Cd.case (p := kdk = 1) (by kernel_rfl) (fun h15 => ?_) (fun h15 => ?_)
            ·
              have hfl : (bk ks0 kyk).length ≤ ks0.length + 1 := by have := rm_le ks0 kyk; unfold bk; simp only [List.length_append, List.length_singleton]; omega
              refine Cd.seq ?_
              refine Cd.region rfl ?_
              refine Sq.vals [0, 1] (rest := [2, 3]) [pV b2 0, pV b9 1] (fun w => by kernel_rfl) ?_
              refine Sq.same [3] (l := [blkR b9 [iV kdk, sV kyk] 53]) (o_load (i := 1) (v := sV kyk) (by kernel_rfl) (by kernel_rfl) (by kernel_rfl)) (by kernel_rfl) rfl (by kernel_rfl) rfl ?_
              refine Sq.same [1] (l := [llP b2 ks0 p0]) (o_call (by kernel_rfl) Try.call30 (u_Back (ks := ks0) (p := p0) kyk (by omega))) (by kernel_rfl) rfl (by kernel_rfl) rfl ?_
              refine Sq.done ?_
              refine Ex'.next ?_
              refine Cd.region rfl ?_
              refine Sq.vals [0, 1] (rest := [2, 3, 4]) [.slice a4 ks0.length c5, pV b9 1] (fun w => by kernel_rfl) ?_
              refine Sq.same [3] (l := [blkR b9 [iV kdk, sV kyk] 53]) (o_load (i := 1) (v := sV kyk) (by kernel_rfl) (by kernel_rfl) (by kernel_rfl)) (by kernel_rfl) rfl (by kernel_rfl) rfl ?_
              refine Sq.ex [2] (l := [vewR 1 (.slice a4 ks0.length c5) ks0.length (ks0.map Value.string)]) (o_call (by kernel_rfl) Try.call42 (t_back03 (l := [vewR 1 (.slice a4 ks0.length c5) ks0.length (ks0.map Value.string)]) (xs := ks0) kyk (fun w own hH => ⟨_, strs_of_vew (by first | rfl | omega) _ _ (hH 0 _ rfl)⟩) (by omega))) (by kernel_rfl) rfl (by kernel_rfl) (fun _ => Nat.le_of_ble_eq_true (by kernel_rfl)) ?_; rintro v16 _
              refine Sq.fact (i := 4) (R := rowR 9 1 v16 ((bk ks0 kyk).length) ((bk ks0 kyk).map Value.string)) (by kernel_rfl) row_slice ?_; rintro ⟨a17, c18, rfl, hc18, hc18'⟩
              have hc18'' : c18 ≤ 9223372036854775807 := hc18'
              refine Sq.vals [4] (rest := []) [.slice a17 ((bk ks0 kyk).length) c18] (fun w => by kernel_rfl) ?_
              refine Sq.done ?_
              refine Ex'.blockNormal ?_
              refine Ex'.meet (bk ks0 kyk, max p0 (bk ks0 kyk).length, .slice a17 ((bk ks0 kyk).length) c18, mo0) ?_ (subB_eq (l := [0, 3, 6, 7, 4, 5]) (by kernel_rfl)) (fun w hw => (hw.conv 4 (R := rowR 9 1 (.slice a17 ((bk ks0 kyk).length) c18) ((bk ks0 kyk).length) ((bk ks0 kyk).map Value.string)) (R' := vewR 1 (.slice a17 ((bk ks0 kyk).length) c18) (bk ks0 kyk).length ((bk ks0 kyk).map Value.string)) (by kernel_rfl) (fun w S h => vew_len (by first | rfl | omega | (simp only [List.length_take, List.length_drop, List.length_append, List.length_cons, List.length_nil]; omega) | (simp; done) | (simp; omega)) w S (vew_of_row w S h))).pickB [0, 1, 4, 3] (by kernel_rfl) (by kernel_rfl) (by kernel_rfl))
              · (try dsimp only); exact ⟨by omega, by first | (split <;> omega) | simp⟩
            ·
              refine Cd.seq ?_
              refine Cd.region rfl ?_
              refine Sq.v (r := bV (decide (kdk = 2))) (o_eqI (k := .i64) (a := kdk) (b := 2) (by kernel_rfl) (by kernel_rfl)) rfl (by kernel_rfl) ?_
              refine Sq.vals [1] (rest := []) [bV (decide (kdk = 2))] (fun w => by kernel_rfl) ?_
              refine Sq.done ?_
              refine Ex'.next ?_
              refine Cd.case (p := kdk = 2) (by kernel_rfl) (fun h19 => ?_) (fun h19 => ?_)
              ·
                have hfl := rm_le ks0 kyk
                refine Cd.seq ?_
                refine Cd.seq ?_
                refine Cd.plan [0, 0, 2, 7, 0, 0, 32, 127, 255] [(2, [(3, false, 0)]), (3, [(1, true, 0)]), (6, [(3, false, 0)]), (7, [(2, false, 0)])] [] [] [(1, 3, fun g => llP b2 (rm ks0 kyk) p0)] [fun g => pV b2 0, fun g => pV b9 1, fun g => sV kyk, fun g => bV (decide (kyk ∈ ks0)), fun g => .slice a4 ks0.length c5, fun g => pV b9 1, fun g => sV kyk, fun g => bV (decide (kyk ∈ ks0)), fun g => bV false] (by kernel_rfl) (by kernel_rfl) rfl (trivial) ?_ ?_
                · exact ⟨ob_val fun g w => by kernel_rfl, ob_val fun g w => by kernel_rfl, ob_s (l := fun g => [blkR b9 [iV kdk, sV kyk] 53]) (l' := fun g => [blkR b9 [iV kdk, sV kyk] 53]) (v := fun g => sV kyk) (fun g => o_load (i := 1) (v := sV kyk) (by kernel_rfl) (by kernel_rfl) (by kernel_rfl)) (fun g => by kernel_rfl), ob_s (l := fun g => [llP b2 ks0 p0]) (l' := fun g => [llP b2 (rm ks0 kyk) p0]) (v := fun g => bV (decide (kyk ∈ ks0))) (fun g => o_call (by kernel_rfl) Try.call33 (u_Remove (ks := ks0) (p := p0) kyk (by omega))) (fun g => by kernel_rfl), ob_val fun g w => by kernel_rfl, ob_val fun g w => by kernel_rfl, ob_s (l := fun g => [blkR b9 [iV kdk, sV kyk] 53]) (l' := fun g => [blkR b9 [iV kdk, sV kyk] 53]) (v := fun g => sV kyk) (fun g => o_load (i := 1) (v := sV kyk) (by kernel_rfl) (by kernel_rfl) (by kernel_rfl)) (fun g => by kernel_rfl), ob_s (l := fun g => [vewR 1 (.slice a4 ks0.length c5) ks0.length (ks0.map Value.string)]) (l' := fun g => [vewR 1 (.slice a4 ks0.length c5) ks0.length (ks0.map Value.string)]) (v := fun g => bV (decide (kyk ∈ ks0))) (fun g => o_call (by kernel_rfl) Try.call43 (t_has03 (l := [vewR 1 (.slice a4 ks0.length c5) ks0.length (ks0.map Value.string)]) (xs := ks0) kyk (fun w own hH => ⟨_, strs_of_vew (by first | rfl | omega) _ _ (hH 0 _ rfl)⟩))) (fun g => by kernel_rfl), ob_v (v := fun g => bV false) (fun g => OprV.re (pureV (v := bV (!((decide (kyk ∈ ks0)) == (decide (kyk ∈ ks0))))) (by kernel_rfl) rfl fun w => by kernel_rfl) (show Value.bool (!((decide (kyk ∈ ks0)) == (decide (kyk ∈ ks0)))) = .bool false from by simp)) (fun g => by kernel_rfl), trivial⟩
                intro g
                refine Ex'.sub (subB_spec [0, 3, 6, 4, 5, 7, 72]) ?_
                refine Ex'.as [0, 1, 2, 3] (σ' := [(0, .slice (some ⟨g7, off8, none⟩) xs.length cap), (3, pV b2 0), (6, iV (k : Int)), (4, .slice a4 ks0.length c5), (5, iV mo0), (7, pV b9 0), (72, bV false)]) (Γ' := [oldR w0, llP b2 (rm ks0 kyk) p0, vewR 1 (.slice a4 ks0.length c5) ks0.length (ks0.map Value.string), blkR b9 [iV kdk, sV kyk] 53]) (by kernel_rfl) rfl (by kernel_rfl) (by kernel_rfl) ?_
                refine Ex'.next ?_
                refine Cd.condF (by kernel_rfl) ?_
                refine Cd.skip ?_
                refine Ex'.next ?_
                refine Cd.region rfl ?_
                refine Sq.vals [0, 1] (rest := [2, 3, 4]) [.slice a4 ks0.length c5, pV b9 1] (fun w => by kernel_rfl) ?_
                refine Sq.same [3] (l := [blkR b9 [iV kdk, sV kyk] 53]) (o_load (i := 1) (v := sV kyk) (by kernel_rfl) (by kernel_rfl) (by kernel_rfl)) (by kernel_rfl) rfl (by kernel_rfl) rfl ?_
                refine Sq.ex [2] (l := [vewR 1 (.slice a4 ks0.length c5) ks0.length (ks0.map Value.string)]) (o_call (by kernel_rfl) Try.call31 (t_remove03 (l := [vewR 1 (.slice a4 ks0.length c5) ks0.length (ks0.map Value.string)]) (xs := ks0) kyk (fun w own hH => ⟨_, strs_of_vew (by first | rfl | omega) _ _ (hH 0 _ rfl)⟩) (by omega))) (by kernel_rfl) rfl (by kernel_rfl) (fun _ => Nat.le_of_ble_eq_true (by kernel_rfl)) ?_; rintro v20 _
                refine Sq.fact (i := 4) (R := rowR 9 1 v20 ((rm ks0 kyk).length) ((rm ks0 kyk).map Value.string)) (by kernel_rfl) row_slice ?_; rintro ⟨a21, c22, rfl, hc22, hc22'⟩
                have hc22'' : c22 ≤ 9223372036854775807 := hc22'
                refine Sq.vals [4] (rest := []) [.slice a21 ((rm ks0 kyk).length) c22] (fun w => by kernel_rfl) ?_
                refine Sq.done ?_
                refine Ex'.blockNormal ?_
                refine Ex'.meet (rm ks0 kyk, p0, .slice a21 ((rm ks0 kyk).length) c22, mo0) ?_ (subB_eq (l := [0, 3, 6, 7, 4, 5]) (by kernel_rfl)) (fun w hw => (hw.conv 4 (R := rowR 9 1 (.slice a21 ((rm ks0 kyk).length) c22) ((rm ks0 kyk).length) ((rm ks0 kyk).map Value.string)) (R' := vewR 1 (.slice a21 ((rm ks0 kyk).length) c22) (rm ks0 kyk).length ((rm ks0 kyk).map Value.string)) (by kernel_rfl) (fun w S h => vew_len (by first | rfl | omega | (simp only [List.length_take, List.length_drop, List.length_append, List.length_cons, List.length_nil]; omega) | (simp; done) | (simp; omega)) w S (vew_of_row w S h))).pickB [0, 1, 4, 3] (by kernel_rfl) (by kernel_rfl) (by kernel_rfl))
                · (try dsimp only); exact ⟨by omega, by first | (split <;> omega) | simp⟩
              ·
                refine Cd.seq ?_
                refine Cd.region rfl ?_
                refine Sq.v (r := bV (decide (kdk = 3))) (o_eqI (k := .i64) (a := kdk) (b := 3) (by kernel_rfl) (by kernel_rfl)) rfl (by kernel_rfl) ?_
                refine Sq.vals [1] (rest := []) [bV (decide (kdk = 3))] (fun w => by kernel_rfl) ?_
                refine Sq.done ?_
                refine Ex'.next ?_
                refine Cd.case (p := kdk = 3) (by kernel_rfl) (fun h23 => ?_) (fun h23 => ?_)
                ·
                  have hfl : ks0.dropLast.length ≤ ks0.length := by rw [List.length_dropLast]; omega
                  refine Cd.seq ?_
                  refine Cd.region rfl ?_
                  refine Sq.vals [0] (rest := [1, 2, 3, 4, 5, 6]) [pV b2 0] (fun w => by kernel_rfl) ?_
                  refine Sq.same [1] (l := [llP b2 ks0 p0]) (o_call (by kernel_rfl) Try.call38 (u_Pop (ks := ks0) (p := p0) (by omega))) (by kernel_rfl) rfl (by kernel_rfl) rfl ?_
                  refine Sq.vals [2, 3, 4, 5, 6] (rest := []) [.tuple #[sV (ks0.getLast?.getD ⟨#[]⟩), bV (decide (0 < ks0.length))], sV (ks0.getLast?.getD ⟨#[]⟩), bV (decide (0 < ks0.length)), sV (ks0.getLast?.getD ⟨#[]⟩), bV (decide (0 < ks0.length))] (fun w => by kernel_rfl) ?_
                  refine Sq.done ?_
                  refine Ex'.next ?_
                  refine Cd.seq ?_
                  refine Cd.region rfl ?_
                  refine Sq.vals [0] (rest := [1, 2, 3, 4, 5, 6]) [.slice a4 ks0.length c5] (fun w => by kernel_rfl) ?_
                  refine Sq.same [2] (l := [vewR 1 (.slice a4 ks0.length c5) ks0.length (ks0.map Value.string)]) (o_call (by kernel_rfl) Try.call44 (t_Last03 (l := ks0) (la := a4) (lc := c5) (by omega))) (by kernel_rfl) rfl (by kernel_rfl) rfl ?_
                  refine Sq.vals [2, 3, 4, 5, 6] (rest := []) [.tuple #[sV ((last03 ks0).1), bV ((last03 ks0).2)], sV ((last03 ks0).1), bV ((last03 ks0).2), sV ((last03 ks0).1), bV ((last03 ks0).2)] (fun w => by kernel_rfl) ?_
                  refine Sq.done ?_
                  refine Ex'.next ?_
                  refine Cd.seq ?_
                  refine Cd.region rfl ?_
                  refine Sq.vals [0] (rest := [1, 2]) [.slice a4 ks0.length c5] (fun w => by kernel_rfl) ?_
                  refine Sq.ex [2] (l := [vewR 1 (.slice a4 ks0.length c5) ks0.length (ks0.map Value.string)]) (o_call (by kernel_rfl) Try.call45 (t_Pop03 (l := ks0) (la := a4) (lc := c5) (by omega))) (by kernel_rfl) rfl (by kernel_rfl) (fun _ => Nat.le_of_ble_eq_true (by kernel_rfl)) ?_; rintro v24 _
                  refine Sq.fact (i := 2) (R := vewR 1 v24 ((List.dropLast ks0).length) ((List.dropLast ks0).map Value.string)) (by kernel_rfl) vew_slice ?_; rintro ⟨a25, c26, rfl, hc26, hc26'⟩
                  have hc26'' : c26 ≤ 9223372036854775807 := hc26'
                  refine Sq.vals [2] (rest := []) [.slice a25 ((List.dropLast ks0).length) c26] (fun w => by kernel_rfl) ?_
                  refine Sq.done ?_
                  refine Ex'.next ?_
                  refine Cd.seq ?_
                  refine Cd.region rfl ?_
                  refine Sq.vals [0, 1] (rest := [2, 3, 4, 5, 6, 7]) [sV (ks0.getLast?.getD ⟨#[]⟩), sV ((last03 ks0).1)] (fun w => by kernel_rfl) ?_
                  refine Sq.v (r := bV (decide (ks0.getLast?.getD ⟨#[]⟩ ≠ (last03 ks0).1))) (o_neS (a := ks0.getLast?.getD ⟨#[]⟩) (b := (last03 ks0).1) (by kernel_rfl) (by kernel_rfl)) rfl (by kernel_rfl) ?_
                  refine Sq.re 93 rfl (vF (fun z => z last03_1)) ?_
                  refine Sq.vals [3, 4, 5, 6, 7] (rest := []) [bV false, bV (decide (0 < ks0.length)), bV ((last03 ks0).2), bV (!((decide (0 < ks0.length)) == ((last03 ks0).2))), bV (!((decide (0 < ks0.length)) == ((last03 ks0).2)))] (fun w => by kernel_rfl) ?_
                  refine Sq.done ?_
                  refine Ex'.next ?_
                  refine Cd.condF (by rw [show ev _ _ = some (.bool ((!((decide (0 < ks0.length)) == ((last03 ks0).2))))) from by kernel_rfl, show (!((decide (0 < ks0.length)) == ((last03 ks0).2))) = false from (by rw [last03_2]; simp)]) ?_
                  refine Cd.skip ?_
                  refine Ex'.blockNormal ?_
                  refine Ex'.meet (ks0.dropLast, p0, .slice a25 ((List.dropLast ks0).length) c26, mo0) ?_ (subB_eq (l := [0, 3, 6, 7, 4, 5]) (by kernel_rfl)) (fun w hw => (hw.conv 2 (R := vewR 1 (.slice a25 ((List.dropLast ks0).length) c26) ((List.dropLast ks0).length) ((List.dropLast ks0).map Value.string)) (R' := vewR 1 (.slice a25 ((List.dropLast ks0).length) c26) ks0.dropLast.length (ks0.dropLast.map Value.string)) (by kernel_rfl) (vew_len (by first | rfl | omega | (simp only [List.length_take, List.length_drop, List.length_append, List.length_cons, List.length_nil]; omega) | (simp; done) | (simp; omega)))).pickB [0, 1, 2, 3] (by kernel_rfl) (by kernel_rfl) (by kernel_rfl))
                  · (try dsimp only); exact ⟨by omega, by first | (split <;> omega) | simp⟩
                ·
                  refine Cd.seq ?_
                  refine Cd.region rfl ?_
                  refine Sq.v (r := bV (decide (kdk = 4))) (o_eqI (k := .i64) (a := kdk) (b := 4) (by kernel_rfl) (by kernel_rfl)) rfl (by kernel_rfl) ?_
                  refine Sq.vals [1] (rest := []) [bV (decide (kdk = 4))] (fun w => by kernel_rfl) ?_
                  refine Sq.done ?_
                  refine Ex'.next ?_
                  refine Cd.case (p := kdk = 4) (by kernel_rfl) (fun h28 => ?_) (fun h28 => ?_)
                  ·
                    refine Cd.seq ?_
                    refine Cd.region rfl ?_
                    refine Sq.vals [0] (rest := [1]) [pV b2 0] (fun w => by kernel_rfl) ?_
                    refine Sq.same [1] (l := [llP b2 ks0 p0]) (o_call (by kernel_rfl) Try.call46 (u_Clear (ks := ks0) (p := p0))) (by kernel_rfl) rfl (by kernel_rfl) rfl ?_
                    refine Sq.done ?_
                    refine Ex'.next ?_
                    refine Cd.seq ?_
                    refine Cd.region rfl ?_
                    refine Sq.vals [0] (rest := []) [.slice none 0 0] (fun w => by kernel_rfl) ?_
                    refine Sq.done ?_
                    refine Ex'.next ?_
                    refine Cd.region rfl ?_
                    refine Sq.vals [0] (rest := []) [iV 0] (fun w => by kernel_rfl) ?_
                    refine Sq.done ?_
                    refine Ex'.blockNormal ?_
                    refine Ex'.meet ([], 0, .slice none 0 0, 0) ?_ (subB_eq (l := [0, 3, 6, 7, 4, 5]) (by kernel_rfl)) (fun w hw => (hw.nilVew 1).pickB [0, 1, 4, 3] (by kernel_rfl) (by kernel_rfl) (by kernel_rfl))
                    · (try dsimp only); exact ⟨by omega, by first | (split <;> omega) | simp⟩
                  ·
                    refine Cd.skip ?_
                    refine Ex'.blockNormal ?_
                    refine Ex'.meet (ks0, p0, .slice a4 ks0.length c5, mo0) ?_ (subB_eq (l := [0, 3, 6, 7, 4, 5]) (by kernel_rfl)) (fun w hw => hw.pickB [0, 1, 2, 3] (by kernel_rfl) (by kernel_rfl) (by kernel_rfl))
                    · (try dsimp only); exact ⟨by omega, by first | (split <;> omega) | simp⟩
        rintro ⟨ks1, p1, mv1, mo1⟩ hL29
        try dsimp only at hL29 ⊢
        obtain ⟨hp1, hmo1⟩ := hL29
        refine Cd.fact (i := 1) rfl llP.le ?_; rintro ⟨hnd, hle⟩
        refine Cd.fact (i := 2) (R := vewR 1 mv1 ks1.length (ks1.map Value.string)) (by kernel_rfl) vew_slice ?_; rintro ⟨a30, c31, rfl, hc31, hc31'⟩
        have hc31'' : c31 ≤ 9223372036854775807 := hc31'
        refine Cd.seq ?_
        refine Cd.region rfl ?_
        refine Sq.vals [0, 1, 2] (rest := [3, 4]) [iV mo1, .slice a30 ks1.length c31, iV (ks1.length : Int)] (fun w => by kernel_rfl) ?_
        by_cases h32 : (ks1.length : Int) > mo1
        ·
          refine Sq.v (r := iV (if (ks1.length : Int) > mo1 then (ks1.length : Int) else mo1)) (pureV (by kernel_rfl) rfl fun w => by kernel_rfl) rfl (by kernel_rfl) ?_
          refine Sq.re 106 rfl (by rw [if_pos h32]) ?_
          refine Sq.vals [4] (rest := []) [iV (ks1.length : Int)] (fun w => by kernel_rfl) ?_
          refine Sq.done ?_
          refine Ex'.next ?_
          refine Cd.seq ?_
          refine Cd.region rfl ?_
          refine Sq.vals [0] (rest := [1, 2, 3, 4, 5, 6]) [pV b2 0] (fun w => by kernel_rfl) ?_
          refine Sq.same [1] (l := [llP b2 ks1 p1]) (o_call (by kernel_rfl) Try.call37 (u_Last (ks := ks1) (p := p1))) (by kernel_rfl) rfl (by kernel_rfl) rfl ?_
          refine Sq.vals [2, 3, 4, 5, 6] (rest := []) [.tuple #[sV (ks1.getLast?.getD ⟨#[]⟩), bV (decide (0 < ks1.length))], sV (ks1.getLast?.getD ⟨#[]⟩), bV (decide (0 < ks1.length)), sV (ks1.getLast?.getD ⟨#[]⟩), bV (decide (0 < ks1.length))] (fun w => by kernel_rfl) ?_
          refine Sq.done ?_
          refine Ex'.next ?_
          refine Cd.seq ?_
          refine Cd.region rfl ?_
          refine Sq.vals [0] (rest := [1, 2, 3, 4, 5, 6]) [.slice a30 ks1.length c31] (fun w => by kernel_rfl) ?_
          refine Sq.same [2] (l := [vewR 1 (.slice a30 ks1.length c31) ks1.length (ks1.map Value.string)]) (o_call (by kernel_rfl) Try.call44 (t_Last03 (l := ks1) (la := a30) (lc := c31) (by omega))) (by kernel_rfl) rfl (by kernel_rfl) rfl ?_
          refine Sq.vals [2, 3, 4, 5, 6] (rest := []) [.tuple #[sV ((last03 ks1).1), bV ((last03 ks1).2)], sV ((last03 ks1).1), bV ((last03 ks1).2), sV ((last03 ks1).1), bV ((last03 ks1).2)] (fun w => by kernel_rfl) ?_
          refine Sq.done ?_
          refine Ex'.next ?_
          refine Cd.seq ?_
          refine Cd.region rfl ?_
          refine Sq.vals [0] (rest := [1, 2, 3, 4, 5, 6]) [pV b2 0] (fun w => by kernel_rfl) ?_
          refine Sq.same [1] (l := [llP b2 ks1 p1]) (o_call (by kernel_rfl) Try.call40 (u_First (ks := ks1) (p := p1))) (by kernel_rfl) rfl (by kernel_rfl) rfl ?_
          refine Sq.vals [2, 3, 4, 5, 6] (rest := []) [.tuple #[sV (ks1.head?.getD ⟨#[]⟩), bV (decide (0 < ks1.length))], sV (ks1.head?.getD ⟨#[]⟩), bV (decide (0 < ks1.length)), sV (ks1.head?.getD ⟨#[]⟩), bV (decide (0 < ks1.length))] (fun w => by kernel_rfl) ?_
          refine Sq.done ?_
          refine Ex'.next ?_
          refine Cd.seq ?_
          by_cases h33 : 0 < ks1.length
          ·
            refine Cd.fact (i := 2) (R := vewR 1 (.slice a30 ks1.length c31) ks1.length (ks1.map Value.string)) (by kernel_rfl) (vew_addr (by omega)) ?_; rintro ⟨b34, off35, rfl⟩
            refine Cd.plan (0 :: 0 :: 3 :: 7 :: 15 :: 15 :: 63 :: 127 :: 255 :: 511 :: 511 :: 2047 :: 4095 :: 8191 :: 16383 :: 32767 :: 65535 :: 65535 :: 196607 :: 458751 :: 1048575 :: 2097151 :: 4194303 :: 8388607 :: 16777215 :: 33554431 :: 67108863 :: 134217727 :: 268435455 :: 536870911 :: 1073741823 :: 2147483647 :: 4294967295 :: 8589934591 :: 4294967295 :: 21474836479 :: 68719476735 :: 137438953471 :: 274877906943 :: 549755813887 :: 1099511627775 :: 549755813887 :: 4398046511103 :: 8796093022207 :: 17592186044415 :: 35184372088831 :: 35184372088831 :: 105553116266495 :: 281474976710655 :: 35184372088831 :: 35184372088831 :: 1161084278931455 :: 4503599627370495 :: 9007199254740991 :: 18014398509481983 :: 36028797018963967 :: 72057594037927935 :: 144115188075855871 :: 72057594037927935 :: 576460752303423487 :: 1152921504606846975 :: 2305843009213693951 :: []) [(19, [(2, false, 0)]), (33, [(1, false, 0)]), (40, [(1, false, 0)]), (47, [(3, false, 0)]), (48, [(1, false, 0)]), (51, [(3, false, 0)]), (52, [(2, false, 0)]), (57, [(1, false, 0)]), (59, [(61, false, 58), (2, false, 0)])] [57] [(57, fun _ => True)] [(61, 57, fun g => rowR 9 1 (.slice (addrOf (g 57)) ks1.length (capOf (g 57))) ks1.length (ks1.map Value.string))] ((fun g => sV (ks1.getLast?.getD ⟨#[]⟩)) :: (fun g => sV ((last03 ks1).1)) :: (fun g => bV false) :: (fun g => bV false) :: (fun g => bV true) :: (fun g => bV ((last03 ks1).2)) :: (fun g => bV false) :: (fun g => bV false) :: (fun g => bV false) :: (fun g => bV true) :: (fun g => bV ((last03 ks1).2)) :: (fun g => bV false) :: (fun g => bV false) :: (fun g => bV false) :: (fun g => bV true) :: (fun g => bV true) :: (fun g => sV (ks1.head?.getD ⟨#[]⟩)) :: (fun g => .slice (some ⟨b34, off35, none⟩) ks1.length c31) :: (fun g => pV b34 (off35 + 0)) :: (fun g => sV (ks1.getD 0 ⟨#[]⟩)) :: (fun g => bV false) :: (fun g => bV false) :: (fun g => bV false) :: (fun g => bV false) :: (fun g => bV true) :: (fun g => bV false) :: (fun g => bV false) :: (fun g => undef) :: (fun g => undef) :: (fun g => bV false) :: (fun g => bV false) :: (fun g => bV false) :: (fun g => pV b2 0) :: (fun g => iV (ks1.length : Int)) :: (fun g => .slice (some ⟨b34, off35, none⟩) ks1.length c31) :: (fun g => iV (ks1.length : Int)) :: (fun g => bV false) :: (fun g => bV false) :: (fun g => bV false) :: (fun g => pV b2 0) :: (fun g => iV (p1 : Int)) :: (fun g => iV (ks1.length : Int)) :: (fun g => bV false) :: (fun g => bV false) :: (fun g => bV false) :: (fun g => pV b2 0) :: (fun g => pV b9 1) :: (fun g => sV kyk) :: (fun g => bV (decide (kyk ∈ ks1))) :: (fun g => .slice (some ⟨b34, off35, none⟩) ks1.length c31) :: (fun g => pV b9 1) :: (fun g => sV kyk) :: (fun g => bV (decide (kyk ∈ ks1))) :: (fun g => bV false) :: (fun g => bV false) :: (fun g => bV false) :: (fun g => pV b2 0) :: (fun g => .slice (addrOf (g 57)) ks1.length (capOf (g 57))) :: (fun g => .slice (some ⟨b34, off35, none⟩) ks1.length c31) :: (fun g => bV (decide (ks1 = ks1))) :: (fun g => bV false) :: (fun g => bV false) :: []) (by kernel_rfl) (by kernel_rfl) rfl (⟨⟨⟨fun _ _ => rfl, ⟨fun _ _ => rfl, ⟨fun _ _ => rfl, ⟨fun _ _ => rfl, ⟨fun _ _ => rfl, ⟨fun _ _ => rfl, ⟨fun _ _ => rfl, ⟨fun _ _ => rfl, ⟨fun _ _ => rfl, ⟨fun _ _ => rfl, ⟨fun _ _ => rfl, ⟨fun _ _ => rfl, ⟨fun _ _ => rfl, ⟨fun _ _ => rfl, ⟨fun _ _ => rfl, ⟨fun _ _ => rfl, ⟨fun _ _ => rfl, ⟨fun _ _ => rfl, ⟨fun _ _ => rfl, ⟨fun _ _ => rfl, ⟨fun _ _ => rfl, ⟨fun _ _ => rfl, ⟨fun _ _ => rfl, ⟨fun _ _ => rfl, ⟨fun _ _ => rfl, ⟨fun _ _ => rfl, ⟨fun _ _ => rfl, ⟨fun _ _ => rfl, ⟨fun _ _ => rfl, ⟨fun _ _ => rfl, ⟨fun _ _ => rfl, ⟨fun _ _ => rfl, ⟨fun _ _ => rfl, ⟨fun _ _ => rfl, ⟨fun _ _ => rfl, ⟨fun _ _ => rfl, ⟨fun _ _ => rfl, ⟨fun _ _ => rfl, ⟨fun _ _ => rfl, ⟨fun _ _ => rfl, ⟨fun _ _ => rfl, ⟨fun _ _ => rfl, ⟨fun _ _ => rfl, ⟨fun _ _ => rfl, ⟨fun _ _ => rfl, ⟨fun _ _ => rfl, ⟨fun _ _ => rfl, ⟨fun _ _ => rfl, ⟨fun _ _ => rfl, ⟨fun _ _ => rfl, ⟨fun _ _ => rfl, ⟨fun _ _ => rfl, ⟨fun _ _ => rfl, ⟨fun _ _ => rfl, ⟨fun _ _ => rfl, ⟨fun _ _ => rfl, ⟨fun _ _ => rfl, ⟨trivial, ⟨fun _ _ => rfl, ⟨trivial, ⟨trivial, ⟨trivial, trivial⟩⟩⟩⟩⟩⟩⟩⟩⟩⟩⟩⟩⟩⟩⟩⟩⟩⟩⟩⟩⟩⟩⟩⟩⟩⟩⟩⟩⟩⟩⟩⟩⟩⟩⟩⟩⟩⟩⟩⟩⟩⟩⟩⟩⟩⟩⟩⟩⟩⟩⟩⟩⟩⟩⟩⟩⟩⟩⟩⟩⟩⟩, ⟨trivial, trivial⟩⟩, trivial⟩) ?_ ?_
            · exact ⟨ob_val fun g w => by kernel_rfl, ob_val fun g w => by kernel_rfl, ob_v (v := fun g => bV false) (fun g => OprV.re (o_neS (a := ks1.getLast?.getD ⟨#[]⟩) (b := (last03 ks1).1) (by kernel_rfl) (by kernel_rfl)) (vF (fun z => z last03_1))) (fun g => by kernel_rfl), ob_val fun g w => by kernel_rfl, ob_v (v := fun g => bV true) (fun g => OprV.re (pureV (v := bV (decide (0 < ks1.length))) (by kernel_rfl) rfl fun w => by kernel_rfl) (vT h33)) (fun g => by kernel_rfl), ob_val fun g w => by kernel_rfl, ob_v (v := fun g => bV false) (fun g => OprV.re (pureV (v := bV (!(true == ((last03 ks1).2)))) (by kernel_rfl) rfl fun w => by kernel_rfl) (congrArg Value.bool (show (!(true == ((last03 ks1).2))) = false from (by rw [last03_2, decide_eq_true h33]; rfl)))) (fun g => by kernel_rfl), ob_val fun g w => by kernel_rfl, ob_val fun g w => by kernel_rfl, ob_v (v := fun g => bV true) (fun g => OprV.re (pureV (v := bV (decide (0 < ks1.length))) (by kernel_rfl) rfl fun w => by kernel_rfl) (vT h33)) (fun g => by kernel_rfl), ob_val fun g w => by kernel_rfl, ob_v (v := fun g => bV false) (fun g => OprV.re (pureV (v := bV (!(true == ((last03 ks1).2)))) (by kernel_rfl) rfl fun w => by kernel_rfl) (congrArg Value.bool (show (!(true == ((last03 ks1).2))) = false from (by rw [last03_2, decide_eq_true h33]; rfl)))) (fun g => by kernel_rfl), ob_val fun g w => by kernel_rfl, ob_val fun g w => by kernel_rfl, ob_v (v := fun g => bV true) (fun g => OprV.re (pureV (v := bV (decide (0 < ks1.length))) (by kernel_rfl) rfl fun w => by kernel_rfl) (vT h33)) (fun g => by kernel_rfl), ob_val fun g w => by kernel_rfl, ob_val fun g w => by kernel_rfl, ob_val fun g w => by kernel_rfl, ob_v (v := fun g => pV b34 (off35 + 0)) (fun g => o_idx (b := b34) (cap := c31) (e := 9) (off := off35) (n := ks1.length) (kd := .i64) (q := 0) (i := 0) (size := 1) (j := off35 + 0) (by kernel_rfl) (by kernel_rfl) (by rfl) (by omega) Try.underlying55 (by kernel_rfl) (by omega)) (fun g => by kernel_rfl), ob_s (l := fun g => [vewR 1 (.slice (some ⟨b34, off35, none⟩) ks1.length c31) ks1.length (ks1.map Value.string)]) (l' := fun g => [vewR 1 (.slice (some ⟨b34, off35, none⟩) ks1.length c31) ks1.length (ks1.map Value.string)]) (v := fun g => sV (ks1.getD 0 ⟨#[]⟩)) (fun g => o_loadView (off := off35) (j := 0) (u := sV (ks1.getD 0 ⟨#[]⟩)) (by kernel_rfl) (by omega) (by kernel_rfl) (get_map (by omega))) (fun g => by kernel_rfl), ob_v (v := fun g => bV false) (fun g => OprV.re (o_neS (a := ks1.head?.getD ⟨#[]⟩) (b := ks1.getD 0 ⟨#[]⟩) (by kernel_rfl) (by kernel_rfl)) (vF (fun z => z head_getD))) (fun g => by kernel_rfl), ob_val fun g w => by kernel_rfl, ob_val fun g w => by kernel_rfl, ob_val fun g w => by kernel_rfl, ob_v (v := fun g => bV true) (fun g => OprV.re (pureV (v := bV (decide (0 < ks1.length))) (by kernel_rfl) rfl fun w => by kernel_rfl) (vT h33)) (fun g => by kernel_rfl), ob_val fun g w => by kernel_rfl, ob_val fun g w => by kernel_rfl, ob_val fun g w => by kernel_rfl, ob_val fun g w => by kernel_rfl, ob_val fun g w => by kernel_rfl, ob_val fun g w => by kernel_rfl, ob_val fun g w => by kernel_rfl, ob_val fun g w => by kernel_rfl, ob_s (l := fun g => [llP b2 ks1 p1]) (l' := fun g => [llP b2 ks1 p1]) (v := fun g => iV (ks1.length : Int)) (fun g => o_call (by kernel_rfl) Try.call35 (u_Len (ks := ks1) (p := p1))) (fun g => by kernel_rfl), ob_val fun g w => by kernel_rfl, ob_val fun g w => by kernel_rfl, ob_v (v := fun g => bV false) (fun g => OprV.re (o_neI (k := .i64) (a := (ks1.length : Int)) (b := (ks1.length : Int)) (by kernel_rfl) (by kernel_rfl)) (vF (show ¬ ((ks1.length : Int) ≠ (ks1.length : Int)) from fun z => z rfl))) (fun g => by kernel_rfl), ob_val fun g w => by kernel_rfl, ob_val fun g w => by kernel_rfl, ob_val fun g w => by kernel_rfl, ob_s (l := fun g => [llP b2 ks1 p1]) (l' := fun g => [llP b2 ks1 p1]) (v := fun g => iV (p1 : Int)) (fun g => o_call (by kernel_rfl) Try.call36 (u_Places (ks := ks1) (p := p1) (by omega))) (fun g => by kernel_rfl), ob_val fun g w => by kernel_rfl, ob_v (v := fun g => bV false) (fun g => OprV.re (o_neI (k := .i64) (a := (p1 : Int)) (b := (ks1.length : Int)) (by kernel_rfl) (by kernel_rfl)) (vF (show ¬ ((p1 : Int) ≠ (ks1.length : Int)) from fun z => z (by split at hmo1 <;> omega)))) (fun g => by kernel_rfl), ob_val fun g w => by kernel_rfl, ob_val fun g w => by kernel_rfl, ob_val fun g w => by kernel_rfl, ob_val fun g w => by kernel_rfl, ob_s (l := fun g => [blkR b9 [iV kdk, sV kyk] 53]) (l' := fun g => [blkR b9 [iV kdk, sV kyk] 53]) (v := fun g => sV kyk) (fun g => o_load (i := 1) (v := sV kyk) (by kernel_rfl) (by kernel_rfl) (by kernel_rfl)) (fun g => by kernel_rfl), ob_s (l := fun g => [llP b2 ks1 p1]) (l' := fun g => [llP b2 ks1 p1]) (v := fun g => bV (decide (kyk ∈ ks1))) (fun g => o_call (by kernel_rfl) Try.call39 (u_Has (ks := ks1) (p := p1) kyk)) (fun g => by kernel_rfl), ob_val fun g w => by kernel_rfl, ob_val fun g w => by kernel_rfl, ob_s (l := fun g => [blkR b9 [iV kdk, sV kyk] 53]) (l' := fun g => [blkR b9 [iV kdk, sV kyk] 53]) (v := fun g => sV kyk) (fun g => o_load (i := 1) (v := sV kyk) (by kernel_rfl) (by kernel_rfl) (by kernel_rfl)) (fun g => by kernel_rfl), ob_s (l := fun g => [vewR 1 (.slice (some ⟨b34, off35, none⟩) ks1.length c31) ks1.length (ks1.map Value.string)]) (l' := fun g => [vewR 1 (.slice (some ⟨b34, off35, none⟩) ks1.length c31) ks1.length (ks1.map Value.string)]) (v := fun g => bV (decide (kyk ∈ ks1))) (fun g => o_call (by kernel_rfl) Try.call43 (t_has03 (l := [vewR 1 (.slice (some ⟨b34, off35, none⟩) ks1.length c31) ks1.length (ks1.map Value.string)]) (xs := ks1) kyk (fun w own hH => ⟨_, strs_of_vew (by first | rfl | omega) _ _ (hH 0 _ rfl)⟩))) (fun g => by kernel_rfl), ob_v (v := fun g => bV false) (fun g => OprV.re (pureV (v := bV (!((decide (kyk ∈ ks1)) == (decide (kyk ∈ ks1))))) (by kernel_rfl) rfl fun w => by kernel_rfl) (show Value.bool (!((decide (kyk ∈ ks1)) == (decide (kyk ∈ ks1)))) = .bool false from by simp)) (fun g => by kernel_rfl), ob_val fun g w => by kernel_rfl, ob_val fun g w => by kernel_rfl, ob_val fun g w => by kernel_rfl, ob_d (ι := Option Addr × Nat) (l := fun g => [llP b2 ks1 p1]) (L := fun g y => [llP b2 ks1 p1, rowR 9 1 (.slice y.1 ks1.length y.2) ks1.length (ks1.map Value.string)]) (fun y => .slice y.1 ks1.length y.2) (fun g => o_call (by kernel_rfl) Try.call32 (Tri.rowA (L := [llP b2 ks1 p1]) (u_Keys (ks := ks1) (p := p1) (by omega)))) (fun g => by kernel_rfl) (fun g y _ => ⟨trivial, by kernel_rfl, by kernel_rfl⟩), ob_val fun g w => by kernel_rfl, ob_s (l := fun g => [rowR 9 1 (.slice (addrOf (g 57)) ks1.length (capOf (g 57))) ks1.length (ks1.map Value.string), vewR 1 (.slice (some ⟨b34, off35, none⟩) ks1.length c31) ks1.length (ks1.map Value.string)]) (l' := fun g => [rowR 9 1 (.slice (addrOf (g 57)) ks1.length (capOf (g 57))) ks1.length (ks1.map Value.string), vewR 1 (.slice (some ⟨b34, off35, none⟩) ks1.length c31) ks1.length (ks1.map Value.string)]) (v := fun g => bV (decide (ks1 = ks1))) (fun g => o_call (by kernel_rfl) Try.call34 (t_same03 (l := [rowR 9 1 (.slice (addrOf (g 57)) ks1.length (capOf (g 57))) ks1.length (ks1.map Value.string), vewR 1 (.slice (some ⟨b34, off35, none⟩) ks1.length c31) ks1.length (ks1.map Value.string)]) (xs := ks1) (ys := ks1) (fun w own hH => ⟨⟨_, Row.strs (hH 0 _ rfl)⟩, ⟨_, strs_of_vew (by first | rfl | omega) _ _ (hH 1 _ rfl)⟩⟩))) (fun g => by kernel_rfl), ob_v (v := fun g => bV false) (fun g => OprV.re (o_not (by kernel_rfl)) (vF (show ¬ (¬ (ks1 = ks1)) from fun z => z rfl))) (fun g => by kernel_rfl), ob_val fun g w => by kernel_rfl, trivial⟩
            intro g
            refine Ex'.sub (subB_spec [0, 3, 6, 4, 5, 183]) ?_
            refine Ex'.as [0, 1, 2, 3, 61] (σ' := [(0, .slice (some ⟨g7, off8, none⟩) xs.length cap), (3, pV b2 0), (6, iV (k : Int)), (4, .slice (some ⟨b34, off35, none⟩) ks1.length c31), (5, iV (ks1.length : Int)), (183, bV false)]) (Γ' := [oldR w0, llP b2 ks1 p1, vewR 1 (.slice (some ⟨b34, off35, none⟩) ks1.length c31) ks1.length (ks1.map Value.string), blkR b9 [iV kdk, sV kyk] 53, rowR 9 1 (.slice (addrOf (g 57)) ks1.length (capOf (g 57))) ks1.length (ks1.map Value.string)]) (by kernel_rfl) rfl (by kernel_rfl) (by kernel_rfl) ?_
            generalize addrOf (g 57) = a37
            generalize capOf (g 57) = c38
            refine Ex'.next ?_
            refine Cd.condF (by kernel_rfl) ?_
            refine Cd.skip ?_
            refine Ex'.blockNormal ?_
            refine Ex'.next ?_
            refine Cd.region rfl ?_
            refine Sq.vals [0] (rest := [1, 2]) [iV (k : Int)] (fun w => by kernel_rfl) ?_
            refine Sq.v (r := iV ((k : Int) + 1)) (o_add (k := .i64) (a := (k : Int)) (b := 1) (c := (k : Int) + 1) (by kernel_rfl) (by kernel_rfl) (w64 rfl (by omega))) rfl (by kernel_rfl) ?_
            refine Sq.vals [2] (rest := []) [iV ((k : Int) + 1)] (fun w => by kernel_rfl) ?_
            refine Sq.done ?_
            refine Ex'.round (g := (k, ks0, p0, .slice a4 ks0.length c5, mo0)) (k + 1, ks1, p1, .slice (some ⟨b34, off35, none⟩) ks1.length c31, (ks1.length : Int)) ?_ ?_ (subB_eq (l := [0, 3, 6, 4, 5]) (by kernel_rfl)) (fun w hw => hw.pickB [0, 1, 2] (by kernel_rfl) (by kernel_rfl) (by kernel_rfl))
            · (try dsimp only); exact ⟨by omega, by omega, by first | omega | (split at hmo1 <;> omega)⟩
            · omega
          ·
            refine Cd.plan (0 :: 0 :: 3 :: 7 :: 15 :: 15 :: 63 :: 127 :: 255 :: 511 :: 511 :: 2047 :: 4095 :: 8191 :: 16383 :: 32767 :: 65535 :: 65535 :: 196607 :: 458751 :: 1048575 :: 2097151 :: 4194303 :: 8388607 :: 16777215 :: 33554431 :: 67108863 :: 134217727 :: 268435455 :: 536870911 :: 1073741823 :: 2147483647 :: 4294967295 :: 8589934591 :: 4294967295 :: 21474836479 :: 68719476735 :: 137438953471 :: 274877906943 :: 549755813887 :: 1099511627775 :: 549755813887 :: 4398046511103 :: 8796093022207 :: 17592186044415 :: 35184372088831 :: 35184372088831 :: 105553116266495 :: 281474976710655 :: 35184372088831 :: 35184372088831 :: 1161084278931455 :: 4503599627370495 :: 9007199254740991 :: 18014398509481983 :: 36028797018963967 :: 72057594037927935 :: 144115188075855871 :: 72057594037927935 :: 576460752303423487 :: 1152921504606846975 :: 2305843009213693951 :: []) [(33, [(1, false, 0)]), (40, [(1, false, 0)]), (47, [(3, false, 0)]), (48, [(1, false, 0)]), (51, [(3, false, 0)]), (52, [(2, false, 0)]), (57, [(1, false, 0)]), (59, [(61, false, 58), (2, false, 0)])] [57] [(57, fun _ => True)] [(61, 57, fun g => rowR 9 1 (.slice (addrOf (g 57)) ks1.length (capOf (g 57))) ks1.length (ks1.map Value.string))] ((fun g => sV (ks1.getLast?.getD ⟨#[]⟩)) :: (fun g => sV ((last03 ks1).1)) :: (fun g => bV false) :: (fun g => bV false) :: (fun g => bV false) :: (fun g => bV ((last03 ks1).2)) :: (fun g => bV false) :: (fun g => bV false) :: (fun g => bV false) :: (fun g => bV false) :: (fun g => bV ((last03 ks1).2)) :: (fun g => bV false) :: (fun g => bV false) :: (fun g => bV false) :: (fun g => bV false) :: (fun g => bV false) :: (fun g => undef) :: (fun g => undef) :: (fun g => undef) :: (fun g => undef) :: (fun g => undef) :: (fun g => bV false) :: (fun g => bV false) :: (fun g => bV false) :: (fun g => bV false) :: (fun g => bV true) :: (fun g => bV true) :: (fun g => sV (ks1.head?.getD ⟨#[]⟩)) :: (fun g => bV false) :: (fun g => bV false) :: (fun g => bV false) :: (fun g => bV false) :: (fun g => pV b2 0) :: (fun g => iV (ks1.length : Int)) :: (fun g => .slice a30 ks1.length c31) :: (fun g => iV (ks1.length : Int)) :: (fun g => bV false) :: (fun g => bV false) :: (fun g => bV false) :: (fun g => pV b2 0) :: (fun g => iV (p1 : Int)) :: (fun g => iV (ks1.length : Int)) :: (fun g => bV false) :: (fun g => bV false) :: (fun g => bV false) :: (fun g => pV b2 0) :: (fun g => pV b9 1) :: (fun g => sV kyk) :: (fun g => bV (decide (kyk ∈ ks1))) :: (fun g => .slice a30 ks1.length c31) :: (fun g => pV b9 1) :: (fun g => sV kyk) :: (fun g => bV (decide (kyk ∈ ks1))) :: (fun g => bV false) :: (fun g => bV false) :: (fun g => bV false) :: (fun g => pV b2 0) :: (fun g => .slice (addrOf (g 57)) ks1.length (capOf (g 57))) :: (fun g => .slice a30 ks1.length c31) :: (fun g => bV (decide (ks1 = ks1))) :: (fun g => bV false) :: (fun g => bV false) :: []) (by kernel_rfl) (by kernel_rfl) rfl (⟨⟨⟨fun _ _ => rfl, ⟨fun _ _ => rfl, ⟨fun _ _ => rfl, ⟨fun _ _ => rfl, ⟨fun _ _ => rfl, ⟨fun _ _ => rfl, ⟨fun _ _ => rfl, ⟨fun _ _ => rfl, ⟨fun _ _ => rfl, ⟨fun _ _ => rfl, ⟨fun _ _ => rfl, ⟨fun _ _ => rfl, ⟨fun _ _ => rfl, ⟨fun _ _ => rfl, ⟨fun _ _ => rfl, ⟨fun _ _ => rfl, ⟨fun _ _ => rfl, ⟨fun _ _ => rfl, ⟨fun _ _ => rfl, ⟨fun _ _ => rfl, ⟨fun _ _ => rfl, ⟨fun _ _ => rfl, ⟨fun _ _ => rfl, ⟨fun _ _ => rfl, ⟨fun _ _ => rfl, ⟨fun _ _ => rfl, ⟨fun _ _ => rfl, ⟨fun _ _ => rfl, ⟨fun _ _ => rfl, ⟨fun _ _ => rfl, ⟨fun _ _ => rfl, ⟨fun _ _ => rfl, ⟨fun _ _ => rfl, ⟨fun _ _ => rfl, ⟨fun _ _ => rfl, ⟨fun _ _ => rfl, ⟨fun _ _ => rfl, ⟨fun _ _ => rfl, ⟨fun _ _ => rfl, ⟨fun _ _ => rfl, ⟨fun _ _ => rfl, ⟨fun _ _ => rfl, ⟨fun _ _ => rfl, ⟨fun _ _ => rfl, ⟨fun _ _ => rfl, ⟨fun _ _ => rfl, ⟨fun _ _ => rfl, ⟨fun _ _ => rfl, ⟨fun _ _ => rfl, ⟨fun _ _ => rfl, ⟨fun _ _ => rfl, ⟨fun _ _ => rfl, ⟨fun _ _ => rfl, ⟨fun _ _ => rfl, ⟨fun _ _ => rfl, ⟨fun _ _ => rfl, ⟨fun _ _ => rfl, ⟨trivial, ⟨fun _ _ => rfl, ⟨trivial, ⟨trivial, ⟨trivial, trivial⟩⟩⟩⟩⟩⟩⟩⟩⟩⟩⟩⟩⟩⟩⟩⟩⟩⟩⟩⟩⟩⟩⟩⟩⟩⟩⟩⟩⟩⟩⟩⟩⟩⟩⟩⟩⟩⟩⟩⟩⟩⟩⟩⟩⟩⟩⟩⟩⟩⟩⟩⟩⟩⟩⟩⟩⟩⟩⟩⟩⟩⟩, ⟨trivial, trivial⟩⟩, trivial⟩) ?_ ?_
            · exact ⟨ob_val fun g w => by kernel_rfl, ob_val fun g w => by kernel_rfl, ob_v (v := fun g => bV false) (fun g => OprV.re (o_neS (a := ks1.getLast?.getD ⟨#[]⟩) (b := (last03 ks1).1) (by kernel_rfl) (by kernel_rfl)) (vF (fun z => z last03_1))) (fun g => by kernel_rfl), ob_val fun g w => by kernel_rfl, ob_v (v := fun g => bV false) (fun g => OprV.re (pureV (v := bV (decide (0 < ks1.length))) (by kernel_rfl) rfl fun w => by kernel_rfl) (vF h33)) (fun g => by kernel_rfl), ob_val fun g w => by kernel_rfl, ob_v (v := fun g => bV false) (fun g => OprV.re (pureV (v := bV (!(false == ((last03 ks1).2)))) (by kernel_rfl) rfl fun w => by kernel_rfl) (congrArg Value.bool (show (!(false == ((last03 ks1).2))) = false from (by rw [last03_2, decide_eq_false h33]; rfl)))) (fun g => by kernel_rfl), ob_val fun g w => by kernel_rfl, ob_val fun g w => by kernel_rfl, ob_v (v := fun g => bV false) (fun g => OprV.re (pureV (v := bV (decide (0 < ks1.length))) (by kernel_rfl) rfl fun w => by kernel_rfl) (vF h33)) (fun g => by kernel_rfl), ob_val fun g w => by kernel_rfl, ob_v (v := fun g => bV false) (fun g => OprV.re (pureV (v := bV (!(false == ((last03 ks1).2)))) (by kernel_rfl) rfl fun w => by kernel_rfl) (congrArg Value.bool (show (!(false == ((last03 ks1).2))) = false from (by rw [last03_2, decide_eq_false h33]; rfl)))) (fun g => by kernel_rfl), ob_val fun g w => by kernel_rfl, ob_val fun g w => by kernel_rfl, ob_v (v := fun g => bV false) (fun g => OprV.re (pureV (v := bV (decide (0 < ks1.length))) (by kernel_rfl) rfl fun w => by kernel_rfl) (vF h33)) (fun g => by kernel_rfl), ob_val fun g w => by kernel_rfl, ob_val fun g w => by kernel_rfl, ob_val fun g w => by kernel_rfl, ob_val fun g w => by kernel_rfl, ob_val fun g w => by kernel_rfl, ob_val fun g w => by kernel_rfl, ob_val fun g w => by kernel_rfl, ob_val fun g w => by kernel_rfl, ob_val fun g w => by kernel_rfl, ob_v (v := fun g => bV false) (fun g => OprV.re (pureV (v := bV (decide (0 < ks1.length))) (by kernel_rfl) rfl fun w => by kernel_rfl) (vF h33)) (fun g => by kernel_rfl), ob_val fun g w => by kernel_rfl, ob_val fun g w => by kernel_rfl, ob_val fun g w => by kernel_rfl, ob_v (v := fun g => bV false) (fun g => OprV.re (o_neS (a := ks1.head?.getD ⟨#[]⟩) (b := ⟨#[]⟩) (by kernel_rfl) (by kernel_rfl)) (vF (fun z => z (head_nil h33)))) (fun g => by kernel_rfl), ob_val fun g w => by kernel_rfl, ob_val fun g w => by kernel_rfl, ob_val fun g w => by kernel_rfl, ob_val fun g w => by kernel_rfl, ob_s (l := fun g => [llP b2 ks1 p1]) (l' := fun g => [llP b2 ks1 p1]) (v := fun g => iV (ks1.length : Int)) (fun g => o_call (by kernel_rfl) Try.call35 (u_Len (ks := ks1) (p := p1))) (fun g => by kernel_rfl), ob_val fun g w => by kernel_rfl, ob_val fun g w => by kernel_rfl, ob_v (v := fun g => bV false) (fun g => OprV.re (o_neI (k := .i64) (a := (ks1.length : Int)) (b := (ks1.length : Int)) (by kernel_rfl) (by kernel_rfl)) (vF (show ¬ ((ks1.length : Int) ≠ (ks1.length : Int)) from fun z => z rfl))) (fun g => by kernel_rfl), ob_val fun g w => by kernel_rfl, ob_val fun g w => by kernel_rfl, ob_val fun g w => by kernel_rfl, ob_s (l := fun g => [llP b2 ks1 p1]) (l' := fun g => [llP b2 ks1 p1]) (v := fun g => iV (p1 : Int)) (fun g => o_call (by kernel_rfl) Try.call36 (u_Places (ks := ks1) (p := p1) (by omega))) (fun g => by kernel_rfl), ob_val fun g w => by kernel_rfl, ob_v (v := fun g => bV false) (fun g => OprV.re (o_neI (k := .i64) (a := (p1 : Int)) (b := (ks1.length : Int)) (by kernel_rfl) (by kernel_rfl)) (vF (show ¬ ((p1 : Int) ≠ (ks1.length : Int)) from fun z => z (by split at hmo1 <;> omega)))) (fun g => by kernel_rfl), ob_val fun g w => by kernel_rfl, ob_val fun g w => by kernel_rfl, ob_val fun g w => by kernel_rfl, ob_val fun g w => by kernel_rfl, ob_s (l := fun g => [blkR b9 [iV kdk, sV kyk] 53]) (l' := fun g => [blkR b9 [iV kdk, sV kyk] 53]) (v := fun g => sV kyk) (fun g => o_load (i := 1) (v := sV kyk) (by kernel_rfl) (by kernel_rfl) (by kernel_rfl)) (fun g => by kernel_rfl), ob_s (l := fun g => [llP b2 ks1 p1]) (l' := fun g => [llP b2 ks1 p1]) (v := fun g => bV (decide (kyk ∈ ks1))) (fun g => o_call (by kernel_rfl) Try.call39 (u_Has (ks := ks1) (p := p1) kyk)) (fun g => by kernel_rfl), ob_val fun g w => by kernel_rfl, ob_val fun g w => by kernel_rfl, ob_s (l := fun g => [blkR b9 [iV kdk, sV kyk] 53]) (l' := fun g => [blkR b9 [iV kdk, sV kyk] 53]) (v := fun g => sV kyk) (fun g => o_load (i := 1) (v := sV kyk) (by kernel_rfl) (by kernel_rfl) (by kernel_rfl)) (fun g => by kernel_rfl), ob_s (l := fun g => [vewR 1 (.slice a30 ks1.length c31) ks1.length (ks1.map Value.string)]) (l' := fun g => [vewR 1 (.slice a30 ks1.length c31) ks1.length (ks1.map Value.string)]) (v := fun g => bV (decide (kyk ∈ ks1))) (fun g => o_call (by kernel_rfl) Try.call43 (t_has03 (l := [vewR 1 (.slice a30 ks1.length c31) ks1.length (ks1.map Value.string)]) (xs := ks1) kyk (fun w own hH => ⟨_, strs_of_vew (by first | rfl | omega) _ _ (hH 0 _ rfl)⟩))) (fun g => by kernel_rfl), ob_v (v := fun g => bV false) (fun g => OprV.re (pureV (v := bV (!((decide (kyk ∈ ks1)) == (decide (kyk ∈ ks1))))) (by kernel_rfl) rfl fun w => by kernel_rfl) (show Value.bool (!((decide (kyk ∈ ks1)) == (decide (kyk ∈ ks1)))) = .bool false from by simp)) (fun g => by kernel_rfl), ob_val fun g w => by kernel_rfl, ob_val fun g w => by kernel_rfl, ob_val fun g w => by kernel_rfl, ob_d (ι := Option Addr × Nat) (l := fun g => [llP b2 ks1 p1]) (L := fun g y => [llP b2 ks1 p1, rowR 9 1 (.slice y.1 ks1.length y.2) ks1.length (ks1.map Value.string)]) (fun y => .slice y.1 ks1.length y.2) (fun g => o_call (by kernel_rfl) Try.call32 (Tri.rowA (L := [llP b2 ks1 p1]) (u_Keys (ks := ks1) (p := p1) (by omega)))) (fun g => by kernel_rfl) (fun g y _ => ⟨trivial, by kernel_rfl, by kernel_rfl⟩), ob_val fun g w => by kernel_rfl, ob_s (l := fun g => [rowR 9 1 (.slice (addrOf (g 57)) ks1.length (capOf (g 57))) ks1.length (ks1.map Value.string), vewR 1 (.slice a30 ks1.length c31) ks1.length (ks1.map Value.string)]) (l' := fun g => [rowR 9 1 (.slice (addrOf (g 57)) ks1.length (capOf (g 57))) ks1.length (ks1.map Value.string), vewR 1 (.slice a30 ks1.length c31) ks1.length (ks1.map Value.string)]) (v := fun g => bV (decide (ks1 = ks1))) (fun g => o_call (by kernel_rfl) Try.call34 (t_same03 (l := [rowR 9 1 (.slice (addrOf (g 57)) ks1.length (capOf (g 57))) ks1.length (ks1.map Value.string), vewR 1 (.slice a30 ks1.length c31) ks1.length (ks1.map Value.string)]) (xs := ks1) (ys := ks1) (fun w own hH => ⟨⟨_, Row.strs (hH 0 _ rfl)⟩, ⟨_, strs_of_vew (by first | rfl | omega) _ _ (hH 1 _ rfl)⟩⟩))) (fun g => by kernel_rfl), ob_v (v := fun g => bV false) (fun g => OprV.re (o_not (by kernel_rfl)) (vF (show ¬ (¬ (ks1 = ks1)) from fun z => z rfl))) (fun g => by kernel_rfl), ob_val fun g w => by kernel_rfl, trivial⟩
            intro g
            refine Ex'.sub (subB_spec [0, 3, 6, 4, 5, 183]) ?_
            refine Ex'.as [0, 1, 2, 3, 61] (σ' := [(0, .slice (some ⟨g7, off8, none⟩) xs.length cap), (3, pV b2 0), (6, iV (k : Int)), (4, .slice a30 ks1.length c31), (5, iV (ks1.length : Int)), (183, bV false)]) (Γ' := [oldR w0, llP b2 ks1 p1, vewR 1 (.slice a30 ks1.length c31) ks1.length (ks1.map Value.string), blkR b9 [iV kdk, sV kyk] 53, rowR 9 1 (.slice (addrOf (g 57)) ks1.length (capOf (g 57))) ks1.length (ks1.map Value.string)]) (by kernel_rfl) rfl (by kernel_rfl) (by kernel_rfl) ?_
            generalize addrOf (g 57) = a40
            generalize capOf (g 57) = c41
            refine Ex'.next ?_
            refine Cd.condF (by kernel_rfl) ?_
            refine Cd.skip ?_
            refine Ex'.blockNormal ?_
            refine Ex'.next ?_
            refine Cd.region rfl ?_
            refine Sq.vals [0] (rest := [1, 2]) [iV (k : Int)] (fun w => by kernel_rfl) ?_
            refine Sq.v (r := iV ((k : Int) + 1)) (o_add (k := .i64) (a := (k : Int)) (b := 1) (c := (k : Int) + 1) (by kernel_rfl) (by kernel_rfl) (w64 rfl (by omega))) rfl (by kernel_rfl) ?_
            refine Sq.vals [2] (rest := []) [iV ((k : Int) + 1)] (fun w => by kernel_rfl) ?_
            refine Sq.done ?_
            refine Ex'.round (g := (k, ks0, p0, .slice a4 ks0.length c5, mo0)) (k + 1, ks1, p1, .slice a30 ks1.length c31, (ks1.length : Int)) ?_ ?_ (subB_eq (l := [0, 3, 6, 4, 5]) (by kernel_rfl)) (fun w hw => hw.pickB [0, 1, 2] (by kernel_rfl) (by kernel_rfl) (by kernel_rfl))
            · (try dsimp only); exact ⟨by omega, by omega, by first | omega | (split at hmo1 <;> omega)⟩
            · omega
        ·
          refine Sq.v (r := iV (if (ks1.length : Int) > mo1 then (ks1.length : Int) else mo1)) (pureV (by kernel_rfl) rfl fun w => by kernel_rfl) rfl (by kernel_rfl) ?_
          refine Sq.re 106 rfl (by rw [if_neg h32]) ?_
          refine Sq.vals [4] (rest := []) [iV mo1] (fun w => by kernel_rfl) ?_
          refine Sq.done ?_
          refine Ex'.next ?_
          refine Cd.seq ?_
          refine Cd.region rfl ?_
          refine Sq.vals [0] (rest := [1, 2, 3, 4, 5, 6]) [pV b2 0] (fun w => by kernel_rfl) ?_
          refine Sq.same [1] (l := [llP b2 ks1 p1]) (o_call (by kernel_rfl) Try.call37 (u_Last (ks := ks1) (p := p1))) (by kernel_rfl) rfl (by kernel_rfl) rfl ?_
          refine Sq.vals [2, 3, 4, 5, 6] (rest := []) [.tuple #[sV (ks1.getLast?.getD ⟨#[]⟩), bV (decide (0 < ks1.length))], sV (ks1.getLast?.getD ⟨#[]⟩), bV (decide (0 < ks1.length)), sV (ks1.getLast?.getD ⟨#[]⟩), bV (decide (0 < ks1.length))] (fun w => by kernel_rfl) ?_
          refine Sq.done ?_
          refine Ex'.next ?_
          refine Cd.seq ?_
          refine Cd.region rfl ?_
          refine Sq.vals [0] (rest := [1, 2, 3, 4, 5, 6]) [.slice a30 ks1.length c31] (fun w => by kernel_rfl) ?_
          refine Sq.same [2] (l := [vewR 1 (.slice a30 ks1.length c31) ks1.length (ks1.map Value.string)]) (o_call (by kernel_rfl) Try.call44 (t_Last03 (l := ks1) (la := a30) (lc := c31) (by omega))) (by kernel_rfl) rfl (by kernel_rfl) rfl ?_
          refine Sq.vals [2, 3, 4, 5, 6] (rest := []) [.tuple #[sV ((last03 ks1).1), bV ((last03 ks1).2)], sV ((last03 ks1).1), bV ((last03 ks1).2), sV ((last03 ks1).1), bV ((last03 ks1).2)] (fun w => by kernel_rfl) ?_
          refine Sq.done ?_
          refine Ex'.next ?_
          refine Cd.seq ?_
          refine Cd.region rfl ?_
          refine Sq.vals [0] (rest := [1, 2, 3, 4, 5, 6]) [pV b2 0] (fun w => by kernel_rfl) ?_
          refine Sq.same [1] (l := [llP b2 ks1 p1]) (o_call (by kernel_rfl) Try.call40 (u_First (ks := ks1) (p := p1))) (by kernel_rfl) rfl (by kernel_rfl) rfl ?_
          refine Sq.vals [2, 3, 4, 5, 6] (rest := []) [.tuple #[sV (ks1.head?.getD ⟨#[]⟩), bV (decide (0 < ks1.length))], sV (ks1.head?.getD ⟨#[]⟩), bV (decide (0 < ks1.length)), sV (ks1.head?.getD ⟨#[]⟩), bV (decide (0 < ks1.length))] (fun w => by kernel_rfl) ?_
          refine Sq.done ?_
          refine Ex'.next ?_
          refine Cd.seq ?_
          by_cases h42 : 0 < ks1.length
          ·
            refine Cd.fact (i := 2) (R := vewR 1 (.slice a30 ks1.length c31) ks1.length (ks1.map Value.string)) (by kernel_rfl) (vew_addr (by omega)) ?_; rintro ⟨b43, off44, rfl⟩
            refine Cd.plan (0 :: 0 :: 3 :: 7 :: 15 :: 15 :: 63 :: 127 :: 255 :: 511 :: 511 :: 2047 :: 4095 :: 8191 :: 16383 :: 32767 :: 65535 :: 65535 :: 196607 :: 458751 :: 1048575 :: 2097151 :: 4194303 :: 8388607 :: 16777215 :: 33554431 :: 67108863 :: 134217727 :: 268435455 :: 536870911 :: 1073741823 :: 2147483647 :: 4294967295 :: 8589934591 :: 4294967295 :: 21474836479 :: 68719476735 :: 137438953471 :: 274877906943 :: 549755813887 :: 1099511627775 :: 549755813887 :: 4398046511103 :: 8796093022207 :: 17592186044415 :: 35184372088831 :: 35184372088831 :: 105553116266495 :: 281474976710655 :: 35184372088831 :: 35184372088831 :: 1161084278931455 :: 4503599627370495 :: 9007199254740991 :: 18014398509481983 :: 36028797018963967 :: 72057594037927935 :: 144115188075855871 :: 72057594037927935 :: 576460752303423487 :: 1152921504606846975 :: 2305843009213693951 :: []) [(19, [(2, false, 0)]), (33, [(1, false, 0)]), (40, [(1, false, 0)]), (47, [(3, false, 0)]), (48, [(1, false, 0)]), (51, [(3, false, 0)]), (52, [(2, false, 0)]), (57, [(1, false, 0)]), (59, [(61, false, 58), (2, false, 0)])] [57] [(57, fun _ => True)] [(61, 57, fun g => rowR 9 1 (.slice (addrOf (g 57)) ks1.length (capOf (g 57))) ks1.length (ks1.map Value.string))] ((fun g => sV (ks1.getLast?.getD ⟨#[]⟩)) :: (fun g => sV ((last03 ks1).1)) :: (fun g => bV false) :: (fun g => bV false) :: (fun g => bV true) :: (fun g => bV ((last03 ks1).2)) :: (fun g => bV false) :: (fun g => bV false) :: (fun g => bV false) :: (fun g => bV true) :: (fun g => bV ((last03 ks1).2)) :: (fun g => bV false) :: (fun g => bV false) :: (fun g => bV false) :: (fun g => bV true) :: (fun g => bV true) :: (fun g => sV (ks1.head?.getD ⟨#[]⟩)) :: (fun g => .slice (some ⟨b43, off44, none⟩) ks1.length c31) :: (fun g => pV b43 (off44 + 0)) :: (fun g => sV (ks1.getD 0 ⟨#[]⟩)) :: (fun g => bV false) :: (fun g => bV false) :: (fun g => bV false) :: (fun g => bV false) :: (fun g => bV true) :: (fun g => bV false) :: (fun g => bV false) :: (fun g => undef) :: (fun g => undef) :: (fun g => bV false) :: (fun g => bV false) :: (fun g => bV false) :: (fun g => pV b2 0) :: (fun g => iV (ks1.length : Int)) :: (fun g => .slice (some ⟨b43, off44, none⟩) ks1.length c31) :: (fun g => iV (ks1.length : Int)) :: (fun g => bV false) :: (fun g => bV false) :: (fun g => bV false) :: (fun g => pV b2 0) :: (fun g => iV (p1 : Int)) :: (fun g => iV mo1) :: (fun g => bV false) :: (fun g => bV false) :: (fun g => bV false) :: (fun g => pV b2 0) :: (fun g => pV b9 1) :: (fun g => sV kyk) :: (fun g => bV (decide (kyk ∈ ks1))) :: (fun g => .slice (some ⟨b43, off44, none⟩) ks1.length c31) :: (fun g => pV b9 1) :: (fun g => sV kyk) :: (fun g => bV (decide (kyk ∈ ks1))) :: (fun g => bV false) :: (fun g => bV false) :: (fun g => bV false) :: (fun g => pV b2 0) :: (fun g => .slice (addrOf (g 57)) ks1.length (capOf (g 57))) :: (fun g => .slice (some ⟨b43, off44, none⟩) ks1.length c31) :: (fun g => bV (decide (ks1 = ks1))) :: (fun g => bV false) :: (fun g => bV false) :: []) (by kernel_rfl) (by kernel_rfl) rfl (⟨⟨⟨fun _ _ => rfl, ⟨fun _ _ => rfl, ⟨fun _ _ => rfl, ⟨fun _ _ => rfl, ⟨fun _ _ => rfl, ⟨fun _ _ => rfl, ⟨fun _ _ => rfl, ⟨fun _ _ => rfl, ⟨fun _ _ => rfl, ⟨fun _ _ => rfl, ⟨fun _ _ => rfl, ⟨fun _ _ => rfl, ⟨fun _ _ => rfl, ⟨fun _ _ => rfl, ⟨fun _ _ => rfl, ⟨fun _ _ => rfl, ⟨fun _ _ => rfl, ⟨fun _ _ => rfl, ⟨fun _ _ => rfl, ⟨fun _ _ => rfl, ⟨fun _ _ => rfl, ⟨fun _ _ => rfl, ⟨fun _ _ => rfl, ⟨fun _ _ => rfl, ⟨fun _ _ => rfl, ⟨fun _ _ => rfl, ⟨fun _ _ => rfl, ⟨fun _ _ => rfl, ⟨fun _ _ => rfl, ⟨fun _ _ => rfl, ⟨fun _ _ => rfl, ⟨fun _ _ => rfl, ⟨fun _ _ => rfl, ⟨fun _ _ => rfl, ⟨fun _ _ => rfl, ⟨fun _ _ => rfl, ⟨fun _ _ => rfl, ⟨fun _ _ => rfl, ⟨fun _ _ => rfl, ⟨fun _ _ => rfl, ⟨fun _ _ => rfl, ⟨fun _ _ => rfl, ⟨fun _ _ => rfl, ⟨fun _ _ => rfl, ⟨fun _ _ => rfl, ⟨fun _ _ => rfl, ⟨fun _ _ => rfl, ⟨fun _ _ => rfl, ⟨fun _ _ => rfl, ⟨fun _ _ => rfl, ⟨fun _ _ => rfl, ⟨fun _ _ => rfl, ⟨fun _ _ => rfl, ⟨fun _ _ => rfl, ⟨fun _ _ => rfl, ⟨fun _ _ => rfl, ⟨fun _ _ => rfl, ⟨trivial, ⟨fun _ _ => rfl, ⟨trivial, ⟨trivial, ⟨trivial, trivial⟩⟩⟩⟩⟩⟩⟩⟩⟩⟩⟩⟩⟩⟩⟩⟩⟩⟩⟩⟩⟩⟩⟩⟩⟩⟩⟩⟩⟩⟩⟩⟩⟩⟩⟩⟩⟩⟩⟩⟩⟩⟩⟩⟩⟩⟩⟩⟩⟩⟩⟩⟩⟩⟩⟩⟩⟩⟩⟩⟩⟩⟩, ⟨trivial, trivial⟩⟩, trivial⟩) ?_ ?_
            · exact ⟨ob_val fun g w => by kernel_rfl, ob_val fun g w => by kernel_rfl, ob_v (v := fun g => bV false) (fun g => OprV.re (o_neS (a := ks1.getLast?.getD ⟨#[]⟩) (b := (last03 ks1).1) (by kernel_rfl) (by kernel_rfl)) (vF (fun z => z last03_1))) (fun g => by kernel_rfl), ob_val fun g w => by kernel_rfl, ob_v (v := fun g => bV true) (fun g => OprV.re (pureV (v := bV (decide (0 < ks1.length))) (by kernel_rfl) rfl fun w => by kernel_rfl) (vT h42)) (fun g => by kernel_rfl), ob_val fun g w => by kernel_rfl, ob_v (v := fun g => bV false) (fun g => OprV.re (pureV (v := bV (!(true == ((last03 ks1).2)))) (by kernel_rfl) rfl fun w => by kernel_rfl) (congrArg Value.bool (show (!(true == ((last03 ks1).2))) = false from (by rw [last03_2, decide_eq_true h42]; rfl)))) (fun g => by kernel_rfl), ob_val fun g w => by kernel_rfl, ob_val fun g w => by kernel_rfl, ob_v (v := fun g => bV true) (fun g => OprV.re (pureV (v := bV (decide (0 < ks1.length))) (by kernel_rfl) rfl fun w => by kernel_rfl) (vT h42)) (fun g => by kernel_rfl), ob_val fun g w => by kernel_rfl, ob_v (v := fun g => bV false) (fun g => OprV.re (pureV (v := bV (!(true == ((last03 ks1).2)))) (by kernel_rfl) rfl fun w => by kernel_rfl) (congrArg Value.bool (show (!(true == ((last03 ks1).2))) = false from (by rw [last03_2, decide_eq_true h42]; rfl)))) (fun g => by kernel_rfl), ob_val fun g w => by kernel_rfl, ob_val fun g w => by kernel_rfl, ob_v (v := fun g => bV true) (fun g => OprV.re (pureV (v := bV (decide (0 < ks1.length))) (by kernel_rfl) rfl fun w => by kernel_rfl) (vT h42)) (fun g => by kernel_rfl), ob_val fun g w => by kernel_rfl, ob_val fun g w => by kernel_rfl, ob_val fun g w => by kernel_rfl, ob_v (v := fun g => pV b43 (off44 + 0)) (fun g => o_idx (b := b43) (cap := c31) (e := 9) (off := off44) (n := ks1.length) (kd := .i64) (q := 0) (i := 0) (size := 1) (j := off44 + 0) (by kernel_rfl) (by kernel_rfl) (by rfl) (by omega) Try.underlying55 (by kernel_rfl) (by omega)) (fun g => by kernel_rfl), ob_s (l := fun g => [vewR 1 (.slice (some ⟨b43, off44, none⟩) ks1.length c31) ks1.length (ks1.map Value.string)]) (l' := fun g => [vewR 1 (.slice (some ⟨b43, off44, none⟩) ks1.length c31) ks1.length (ks1.map Value.string)]) (v := fun g => sV (ks1.getD 0 ⟨#[]⟩)) (fun g => o_loadView (off := off44) (j := 0) (u := sV (ks1.getD 0 ⟨#[]⟩)) (by kernel_rfl) (by omega) (by kernel_rfl) (get_map (by omega))) (fun g => by kernel_rfl), ob_v (v := fun g => bV false) (fun g => OprV.re (o_neS (a := ks1.head?.getD ⟨#[]⟩) (b := ks1.getD 0 ⟨#[]⟩) (by kernel_rfl) (by kernel_rfl)) (vF (fun z => z head_getD))) (fun g => by kernel_rfl), ob_val fun g w => by kernel_rfl, ob_val fun g w => by kernel_rfl, ob_val fun g w => by kernel_rfl, ob_v (v := fun g => bV true) (fun g => OprV.re (pureV (v := bV (decide (0 < ks1.length))) (by kernel_rfl) rfl fun w => by kernel_rfl) (vT h42)) (fun g => by kernel_rfl), ob_val fun g w => by kernel_rfl, ob_val fun g w => by kernel_rfl, ob_val fun g w => by kernel_rfl, ob_val fun g w => by kernel_rfl, ob_val fun g w => by kernel_rfl, ob_val fun g w => by kernel_rfl, ob_val fun g w => by kernel_rfl, ob_val fun g w => by kernel_rfl, ob_s (l := fun g => [llP b2 ks1 p1]) (l' := fun g => [llP b2 ks1 p1]) (v := fun g => iV (ks1.length : Int)) (fun g => o_call (by kernel_rfl) Try.call35 (u_Len (ks := ks1) (p := p1))) (fun g => by kernel_rfl), ob_val fun g w => by kernel_rfl, ob_val fun g w => by kernel_rfl, ob_v (v := fun g => bV false) (fun g => OprV.re (o_neI (k := .i64) (a := (ks1.length : Int)) (b := (ks1.length : Int)) (by kernel_rfl) (by kernel_rfl)) (vF (show ¬ ((ks1.length : Int) ≠ (ks1.length : Int)) from fun z => z rfl))) (fun g => by kernel_rfl), ob_val fun g w => by kernel_rfl, ob_val fun g w => by kernel_rfl, ob_val fun g w => by kernel_rfl, ob_s (l := fun g => [llP b2 ks1 p1]) (l' := fun g => [llP b2 ks1 p1]) (v := fun g => iV (p1 : Int)) (fun g => o_call (by kernel_rfl) Try.call36 (u_Places (ks := ks1) (p := p1) (by omega))) (fun g => by kernel_rfl), ob_val fun g w => by kernel_rfl, ob_v (v := fun g => bV false) (fun g => OprV.re (o_neI (k := .i64) (a := (p1 : Int)) (b := mo1) (by kernel_rfl) (by kernel_rfl)) (vF (show ¬ ((p1 : Int) ≠ mo1) from fun z => z (by split at hmo1 <;> omega)))) (fun g => by kernel_rfl), ob_val fun g w => by kernel_rfl, ob_val fun g w => by kernel_rfl, ob_val fun g w => by kernel_rfl, ob_val fun g w => by kernel_rfl, ob_s (l := fun g => [blkR b9 [iV kdk, sV kyk] 53]) (l' := fun g => [blkR b9 [iV kdk, sV kyk] 53]) (v := fun g => sV kyk) (fun g => o_load (i := 1) (v := sV kyk) (by kernel_rfl) (by kernel_rfl) (by kernel_rfl)) (fun g => by kernel_rfl), ob_s (l := fun g => [llP b2 ks1 p1]) (l' := fun g => [llP b2 ks1 p1]) (v := fun g => bV (decide (kyk ∈ ks1))) (fun g => o_call (by kernel_rfl) Try.call39 (u_Has (ks := ks1) (p := p1) kyk)) (fun g => by kernel_rfl), ob_val fun g w => by kernel_rfl, ob_val fun g w => by kernel_rfl, ob_s (l := fun g => [blkR b9 [iV kdk, sV kyk] 53]) (l' := fun g => [blkR b9 [iV kdk, sV kyk] 53]) (v := fun g => sV kyk) (fun g => o_load (i := 1) (v := sV kyk) (by kernel_rfl) (by kernel_rfl) (by kernel_rfl)) (fun g => by kernel_rfl), ob_s (l := fun g => [vewR 1 (.slice (some ⟨b43, off44, none⟩) ks1.length c31) ks1.length (ks1.map Value.string)]) (l' := fun g => [vewR 1 (.slice (some ⟨b43, off44, none⟩) ks1.length c31) ks1.length (ks1.map Value.string)]) (v := fun g => bV (decide (kyk ∈ ks1))) (fun g => o_call (by kernel_rfl) Try.call43 (t_has03 (l := [vewR 1 (.slice (some ⟨b43, off44, none⟩) ks1.length c31) ks1.length (ks1.map Value.string)]) (xs := ks1) kyk (fun w own hH => ⟨_, strs_of_vew (by first | rfl | omega) _ _ (hH 0 _ rfl)⟩))) (fun g => by kernel_rfl), ob_v (v := fun g => bV false) (fun g => OprV.re (pureV (v := bV (!((decide (kyk ∈ ks1)) == (decide (kyk ∈ ks1))))) (by kernel_rfl) rfl fun w => by kernel_rfl) (show Value.bool (!((decide (kyk ∈ ks1)) == (decide (kyk ∈ ks1)))) = .bool false from by simp)) (fun g => by kernel_rfl), ob_val fun g w => by kernel_rfl, ob_val fun g w => by kernel_rfl, ob_val fun g w => by kernel_rfl, ob_d (ι := Option Addr × Nat) (l := fun g => [llP b2 ks1 p1]) (L := fun g y => [llP b2 ks1 p1, rowR 9 1 (.slice y.1 ks1.length y.2) ks1.length (ks1.map Value.string)]) (fun y => .slice y.1 ks1.length y.2) (fun g => o_call (by kernel_rfl) Try.call32 (Tri.rowA (L := [llP b2 ks1 p1]) (u_Keys (ks := ks1) (p := p1) (by omega)))) (fun g => by kernel_rfl) (fun g y _ => ⟨trivial, by kernel_rfl, by kernel_rfl⟩), ob_val fun g w => by kernel_rfl, ob_s (l := fun g => [rowR 9 1 (.slice (addrOf (g 57)) ks1.length (capOf (g 57))) ks1.length (ks1.map Value.string), vewR 1 (.slice (some ⟨b43, off44, none⟩) ks1.length c31) ks1.length (ks1.map Value.string)]) (l' := fun g => [rowR 9 1 (.slice (addrOf (g 57)) ks1.length (capOf (g 57))) ks1.length (ks1.map Value.string), vewR 1 (.slice (some ⟨b43, off44, none⟩) ks1.length c31) ks1.length (ks1.map Value.string)]) (v := fun g => bV (decide (ks1 = ks1))) (fun g => o_call (by kernel_rfl) Try.call34 (t_same03 (l := [rowR 9 1 (.slice (addrOf (g 57)) ks1.length (capOf (g 57))) ks1.length (ks1.map Value.string), vewR 1 (.slice (some ⟨b43, off44, none⟩) ks1.length c31) ks1.length (ks1.map Value.string)]) (xs := ks1) (ys := ks1) (fun w own hH => ⟨⟨_, Row.strs (hH 0 _ rfl)⟩, ⟨_, strs_of_vew (by first | rfl | omega) _ _ (hH 1 _ rfl)⟩⟩))) (fun g => by kernel_rfl), ob_v (v := fun g => bV false) (fun g => OprV.re (o_not (by kernel_rfl)) (vF (show ¬ (¬ (ks1 = ks1)) from fun z => z rfl))) (fun g => by kernel_rfl), ob_val fun g w => by kernel_rfl, trivial⟩
            intro g
            refine Ex'.sub (subB_spec [0, 3, 6, 4, 5, 183]) ?_
            refine Ex'.as [0, 1, 2, 3, 61] (σ' := [(0, .slice (some ⟨g7, off8, none⟩) xs.length cap), (3, pV b2 0), (6, iV (k : Int)), (4, .slice (some ⟨b43, off44, none⟩) ks1.length c31), (5, iV mo1), (183, bV false)]) (Γ' := [oldR w0, llP b2 ks1 p1, vewR 1 (.slice (some ⟨b43, off44, none⟩) ks1.length c31) ks1.length (ks1.map Value.string), blkR b9 [iV kdk, sV kyk] 53, rowR 9 1 (.slice (addrOf (g 57)) ks1.length (capOf (g 57))) ks1.length (ks1.map Value.string)]) (by kernel_rfl) rfl (by kernel_rfl) (by kernel_rfl) ?_
            generalize addrOf (g 57) = a46
            generalize capOf (g 57) = c47
            refine Ex'.next ?_
            refine Cd.condF (by kernel_rfl) ?_
            refine Cd.skip ?_
            refine Ex'.blockNormal ?_
            refine Ex'.next ?_
            refine Cd.region rfl ?_
            refine Sq.vals [0] (rest := [1, 2]) [iV (k : Int)] (fun w => by kernel_rfl) ?_
            refine Sq.v (r := iV ((k : Int) + 1)) (o_add (k := .i64) (a := (k : Int)) (b := 1) (c := (k : Int) + 1) (by kernel_rfl) (by kernel_rfl) (w64 rfl (by omega))) rfl (by kernel_rfl) ?_
            refine Sq.vals [2] (rest := []) [iV ((k : Int) + 1)] (fun w => by kernel_rfl) ?_
            refine Sq.done ?_
            refine Ex'.round (g := (k, ks0, p0, .slice a4 ks0.length c5, mo0)) (k + 1, ks1, p1, .slice (some ⟨b43, off44, none⟩) ks1.length c31, mo1) ?_ ?_ (subB_eq (l := [0, 3, 6, 4, 5]) (by kernel_rfl)) (fun w hw => hw.pickB [0, 1, 2] (by kernel_rfl) (by kernel_rfl) (by kernel_rfl))
            · (try dsimp only); exact ⟨by omega, by omega, by first | omega | (split at hmo1 <;> omega)⟩
            · omega
          ·
            refine Cd.plan (0 :: 0 :: 3 :: 7 :: 15 :: 15 :: 63 :: 127 :: 255 :: 511 :: 511 :: 2047 :: 4095 :: 8191 :: 16383 :: 32767 :: 65535 :: 65535 :: 196607 :: 458751 :: 1048575 :: 2097151 :: 4194303 :: 8388607 :: 16777215 :: 33554431 :: 67108863 :: 134217727 :: 268435455 :: 536870911 :: 1073741823 :: 2147483647 :: 4294967295 :: 8589934591 :: 4294967295 :: 21474836479 :: 68719476735 :: 137438953471 :: 274877906943 :: 549755813887 :: 1099511627775 :: 549755813887 :: 4398046511103 :: 8796093022207 :: 17592186044415 :: 35184372088831 :: 35184372088831 :: 105553116266495 :: 281474976710655 :: 35184372088831 :: 35184372088831 :: 1161084278931455 :: 4503599627370495 :: 9007199254740991 :: 18014398509481983 :: 36028797018963967 :: 72057594037927935 :: 144115188075855871 :: 72057594037927935 :: 576460752303423487 :: 1152921504606846975 :: 2305843009213693951 :: []) [(33, [(1, false, 0)]), (40, [(1, false, 0)]), (47, [(3, false, 0)]), (48, [(1, false, 0)]), (51, [(3, false, 0)]), (52, [(2, false, 0)]), (57, [(1, false, 0)]), (59, [(61, false, 58), (2, false, 0)])] [57] [(57, fun _ => True)] [(61, 57, fun g => rowR 9 1 (.slice (addrOf (g 57)) ks1.length (capOf (g 57))) ks1.length (ks1.map Value.string))] ((fun g => sV (ks1.getLast?.getD ⟨#[]⟩)) :: (fun g => sV ((last03 ks1).1)) :: (fun g => bV false) :: (fun g => bV false) :: (fun g => bV false) :: (fun g => bV ((last03 ks1).2)) :: (fun g => bV false) :: (fun g => bV false) :: (fun g => bV false) :: (fun g => bV false) :: (fun g => bV ((last03 ks1).2)) :: (fun g => bV false) :: (fun g => bV false) :: (fun g => bV false) :: (fun g => bV false) :: (fun g => bV false) :: (fun g => undef) :: (fun g => undef) :: (fun g => undef) :: (fun g => undef) :: (fun g => undef) :: (fun g => bV false) :: (fun g => bV false) :: (fun g => bV false) :: (fun g => bV false) :: (fun g => bV true) :: (fun g => bV true) :: (fun g => sV (ks1.head?.getD ⟨#[]⟩)) :: (fun g => bV false) :: (fun g => bV false) :: (fun g => bV false) :: (fun g => bV false) :: (fun g => pV b2 0) :: (fun g => iV (ks1.length : Int)) :: (fun g => .slice a30 ks1.length c31) :: (fun g => iV (ks1.length : Int)) :: (fun g => bV false) :: (fun g => bV false) :: (fun g => bV false) :: (fun g => pV b2 0) :: (fun g => iV (p1 : Int)) :: (fun g => iV mo1) :: (fun g => bV false) :: (fun g => bV false) :: (fun g => bV false) :: (fun g => pV b2 0) :: (fun g => pV b9 1) :: (fun g => sV kyk) :: (fun g => bV (decide (kyk ∈ ks1))) :: (fun g => .slice a30 ks1.length c31) :: (fun g => pV b9 1) :: (fun g => sV kyk) :: (fun g => bV (decide (kyk ∈ ks1))) :: (fun g => bV false) :: (fun g => bV false) :: (fun g => bV false) :: (fun g => pV b2 0) :: (fun g => .slice (addrOf (g 57)) ks1.length (capOf (g 57))) :: (fun g => .slice a30 ks1.length c31) :: (fun g => bV (decide (ks1 = ks1))) :: (fun g => bV false) :: (fun g => bV false) :: []) (by kernel_rfl) (by kernel_rfl) rfl (⟨⟨⟨fun _ _ => rfl, ⟨fun _ _ => rfl, ⟨fun _ _ => rfl, ⟨fun _ _ => rfl, ⟨fun _ _ => rfl, ⟨fun _ _ => rfl, ⟨fun _ _ => rfl, ⟨fun _ _ => rfl, ⟨fun _ _ => rfl, ⟨fun _ _ => rfl, ⟨fun _ _ => rfl, ⟨fun _ _ => rfl, ⟨fun _ _ => rfl, ⟨fun _ _ => rfl, ⟨fun _ _ => rfl, ⟨fun _ _ => rfl, ⟨fun _ _ => rfl, ⟨fun _ _ => rfl, ⟨fun _ _ => rfl, ⟨fun _ _ => rfl, ⟨fun _ _ => rfl, ⟨fun _ _ => rfl, ⟨fun _ _ => rfl, ⟨fun _ _ => rfl, ⟨fun _ _ => rfl, ⟨fun _ _ => rfl, ⟨fun _ _ => rfl, ⟨fun _ _ => rfl, ⟨fun _ _ => rfl, ⟨fun _ _ => rfl, ⟨fun _ _ => rfl, ⟨fun _ _ => rfl, ⟨fun _ _ => rfl, ⟨fun _ _ => rfl, ⟨fun _ _ => rfl, ⟨fun _ _ => rfl, ⟨fun _ _ => rfl, ⟨fun _ _ => rfl, ⟨fun _ _ => rfl, ⟨fun _ _ => rfl, ⟨fun _ _ => rfl, ⟨fun _ _ => rfl, ⟨fun _ _ => rfl, ⟨fun _ _ => rfl, ⟨fun _ _ => rfl, ⟨fun _ _ => rfl, ⟨fun _ _ => rfl, ⟨fun _ _ => rfl, ⟨fun _ _ => rfl, ⟨fun _ _ => rfl, ⟨fun _ _ => rfl, ⟨fun _ _ => rfl, ⟨fun _ _ => rfl, ⟨fun _ _ => rfl, ⟨fun _ _ => rfl, ⟨fun _ _ => rfl, ⟨fun _ _ => rfl, ⟨trivial, ⟨fun _ _ => rfl, ⟨trivial, ⟨trivial, ⟨trivial, trivial⟩⟩⟩⟩⟩⟩⟩⟩⟩⟩⟩⟩⟩⟩⟩⟩⟩⟩⟩⟩⟩⟩⟩⟩⟩⟩⟩⟩⟩⟩⟩⟩⟩⟩⟩⟩⟩⟩⟩⟩⟩⟩⟩⟩⟩⟩⟩⟩⟩⟩⟩⟩⟩⟩⟩⟩⟩⟩⟩⟩⟩⟩, ⟨trivial, trivial⟩⟩, trivial⟩) ?_ ?_
            · exact ⟨ob_val fun g w => by kernel_rfl, ob_val fun g w => by kernel_rfl, ob_v (v := fun g => bV false) (fun g => OprV.re (o_neS (a := ks1.getLast?.getD ⟨#[]⟩) (b := (last03 ks1).1) (by kernel_rfl) (by kernel_rfl)) (vF (fun z => z last03_1))) (fun g => by kernel_rfl), ob_val fun g w => by kernel_rfl, ob_v (v := fun g => bV false) (fun g => OprV.re (pureV (v := bV (decide (0 < ks1.length))) (by kernel_rfl) rfl fun w => by kernel_rfl) (vF h42)) (fun g => by kernel_rfl), ob_val fun g w => by kernel_rfl, ob_v (v := fun g => bV false) (fun g => OprV.re (pureV (v := bV (!(false == ((last03 ks1).2)))) (by kernel_rfl) rfl fun w => by kernel_rfl) (congrArg Value.bool (show (!(false == ((last03 ks1).2))) = false from (by rw [last03_2, decide_eq_false h42]; rfl)))) (fun g => by kernel_rfl), ob_val fun g w => by kernel_rfl, ob_val fun g w => by kernel_rfl, ob_v (v := fun g => bV false) (fun g => OprV.re (pureV (v := bV (decide (0 < ks1.length))) (by kernel_rfl) rfl fun w => by kernel_rfl) (vF h42)) (fun g => by kernel_rfl), ob_val fun g w => by kernel_rfl, ob_v (v := fun g => bV false) (fun g => OprV.re (pureV (v := bV (!(false == ((last03 ks1).2)))) (by kernel_rfl) rfl fun w => by kernel_rfl) (congrArg Value.bool (show (!(false == ((last03 ks1).2))) = false from (by rw [last03_2, decide_eq_false h42]; rfl)))) (fun g => by kernel_rfl), ob_val fun g w => by kernel_rfl, ob_val fun g w => by kernel_rfl, ob_v (v := fun g => bV false) (fun g => OprV.re (pureV (v := bV (decide (0 < ks1.length))) (by kernel_rfl) rfl fun w => by kernel_rfl) (vF h42)) (fun g => by kernel_rfl), ob_val fun g w => by kernel_rfl, ob_val fun g w => by kernel_rfl, ob_val fun g w => by kernel_rfl, ob_val fun g w => by kernel_rfl, ob_val fun g w => by kernel_rfl, ob_val fun g w => by kernel_rfl, ob_val fun g w => by kernel_rfl, ob_val fun g w => by kernel_rfl, ob_val fun g w => by kernel_rfl, ob_v (v := fun g => bV false) (fun g => OprV.re (pureV (v := bV (decide (0 < ks1.length))) (by kernel_rfl) rfl fun w => by kernel_rfl) (vF h42)) (fun g => by kernel_rfl), ob_val fun g w => by kernel_rfl, ob_val fun g w => by kernel_rfl, ob_val fun g w => by kernel_rfl, ob_v (v := fun g => bV false) (fun g => OprV.re (o_neS (a := ks1.head?.getD ⟨#[]⟩) (b := ⟨#[]⟩) (by kernel_rfl) (by kernel_rfl)) (vF (fun z => z (head_nil h42)))) (fun g => by kernel_rfl), ob_val fun g w => by kernel_rfl, ob_val fun g w => by kernel_rfl, ob_val fun g w => by kernel_rfl, ob_val fun g w => by kernel_rfl, ob_s (l := fun g => [llP b2 ks1 p1]) (l' := fun g => [llP b2 ks1 p1]) (v := fun g => iV (ks1.length : Int)) (fun g => o_call (by kernel_rfl) Try.call35 (u_Len (ks := ks1) (p := p1))) (fun g => by kernel_rfl), ob_val fun g w => by kernel_rfl, ob_val fun g w => by kernel_rfl, ob_v (v := fun g => bV false) (fun g => OprV.re (o_neI (k := .i64) (a := (ks1.length : Int)) (b := (ks1.length : Int)) (by kernel_rfl) (by kernel_rfl)) (vF (show ¬ ((ks1.length : Int) ≠ (ks1.length : Int)) from fun z => z rfl))) (fun g => by kernel_rfl), ob_val fun g w => by kernel_rfl, ob_val fun g w => by kernel_rfl, ob_val fun g w => by kernel_rfl, ob_s (l := fun g => [llP b2 ks1 p1]) (l' := fun g => [llP b2 ks1 p1]) (v := fun g => iV (p1 : Int)) (fun g => o_call (by kernel_rfl) Try.call36 (u_Places (ks := ks1) (p := p1) (by omega))) (fun g => by kernel_rfl), ob_val fun g w => by kernel_rfl, ob_v (v := fun g => bV false) (fun g => OprV.re (o_neI (k := .i64) (a := (p1 : Int)) (b := mo1) (by kernel_rfl) (by kernel_rfl)) (vF (show ¬ ((p1 : Int) ≠ mo1) from fun z => z (by split at hmo1 <;> omega)))) (fun g => by kernel_rfl), ob_val fun g w => by kernel_rfl, ob_val fun g w => by kernel_rfl, ob_val fun g w => by kernel_rfl, ob_val fun g w => by kernel_rfl, ob_s (l := fun g => [blkR b9 [iV kdk, sV kyk] 53]) (l' := fun g => [blkR b9 [iV kdk, sV kyk] 53]) (v := fun g => sV kyk) (fun g => o_load (i := 1) (v := sV kyk) (by kernel_rfl) (by kernel_rfl) (by kernel_rfl)) (fun g => by kernel_rfl), ob_s (l := fun g => [llP b2 ks1 p1]) (l' := fun g => [llP b2 ks1 p1]) (v := fun g => bV (decide (kyk ∈ ks1))) (fun g => o_call (by kernel_rfl) Try.call39 (u_Has (ks := ks1) (p := p1) kyk)) (fun g => by kernel_rfl), ob_val fun g w => by kernel_rfl, ob_val fun g w => by kernel_rfl, ob_s (l := fun g => [blkR b9 [iV kdk, sV kyk] 53]) (l' := fun g => [blkR b9 [iV kdk, sV kyk] 53]) (v := fun g => sV kyk) (fun g => o_load (i := 1) (v := sV kyk) (by kernel_rfl) (by kernel_rfl) (by kernel_rfl)) (fun g => by kernel_rfl), ob_s (l := fun g => [vewR 1 (.slice a30 ks1.length c31) ks1.length (ks1.map Value.string)]) (l' := fun g => [vewR 1 (.slice a30 ks1.length c31) ks1.length (ks1.map Value.string)]) (v := fun g => bV (decide (kyk ∈ ks1))) (fun g => o_call (by kernel_rfl) Try.call43 (t_has03 (l := [vewR 1 (.slice a30 ks1.length c31) ks1.length (ks1.map Value.string)]) (xs := ks1) kyk (fun w own hH => ⟨_, strs_of_vew (by first | rfl | omega) _ _ (hH 0 _ rfl)⟩))) (fun g => by kernel_rfl), ob_v (v := fun g => bV false) (fun g => OprV.re (pureV (v := bV (!((decide (kyk ∈ ks1)) == (decide (kyk ∈ ks1))))) (by kernel_rfl) rfl fun w => by kernel_rfl) (show Value.bool (!((decide (kyk ∈ ks1)) == (decide (kyk ∈ ks1)))) = .bool false from by simp)) (fun g => by kernel_rfl), ob_val fun g w => by kernel_rfl, ob_val fun g w => by kernel_rfl, ob_val fun g w => by kernel_rfl, ob_d (ι := Option Addr × Nat) (l := fun g => [llP b2 ks1 p1]) (L := fun g y => [llP b2 ks1 p1, rowR 9 1 (.slice y.1 ks1.length y.2) ks1.length (ks1.map Value.string)]) (fun y => .slice y.1 ks1.length y.2) (fun g => o_call (by kernel_rfl) Try.call32 (Tri.rowA (L := [llP b2 ks1 p1]) (u_Keys (ks := ks1) (p := p1) (by omega)))) (fun g => by kernel_rfl) (fun g y _ => ⟨trivial, by kernel_rfl, by kernel_rfl⟩), ob_val fun g w => by kernel_rfl, ob_s (l := fun g => [rowR 9 1 (.slice (addrOf (g 57)) ks1.length (capOf (g 57))) ks1.length (ks1.map Value.string), vewR 1 (.slice a30 ks1.length c31) ks1.length (ks1.map Value.string)]) (l' := fun g => [rowR 9 1 (.slice (addrOf (g 57)) ks1.length (capOf (g 57))) ks1.length (ks1.map Value.string), vewR 1 (.slice a30 ks1.length c31) ks1.length (ks1.map Value.string)]) (v := fun g => bV (decide (ks1 = ks1))) (fun g => o_call (by kernel_rfl) Try.call34 (t_same03 (l := [rowR 9 1 (.slice (addrOf (g 57)) ks1.length (capOf (g 57))) ks1.length (ks1.map Value.string), vewR 1 (.slice a30 ks1.length c31) ks1.length (ks1.map Value.string)]) (xs := ks1) (ys := ks1) (fun w own hH => ⟨⟨_, Row.strs (hH 0 _ rfl)⟩, ⟨_, strs_of_vew (by first | rfl | omega) _ _ (hH 1 _ rfl)⟩⟩))) (fun g => by kernel_rfl), ob_v (v := fun g => bV false) (fun g => OprV.re (o_not (by kernel_rfl)) (vF (show ¬ (¬ (ks1 = ks1)) from fun z => z rfl))) (fun g => by kernel_rfl), ob_val fun g w => by kernel_rfl, trivial⟩
            intro g
            refine Ex'.sub (subB_spec [0, 3, 6, 4, 5, 183]) ?_
            refine Ex'.as [0, 1, 2, 3, 61] (σ' := [(0, .slice (some ⟨g7, off8, none⟩) xs.length cap), (3, pV b2 0), (6, iV (k : Int)), (4, .slice a30 ks1.length c31), (5, iV mo1), (183, bV false)]) (Γ' := [oldR w0, llP b2 ks1 p1, vewR 1 (.slice a30 ks1.length c31) ks1.length (ks1.map Value.string), blkR b9 [iV kdk, sV kyk] 53, rowR 9 1 (.slice (addrOf (g 57)) ks1.length (capOf (g 57))) ks1.length (ks1.map Value.string)]) (by kernel_rfl) rfl (by kernel_rfl) (by kernel_rfl) ?_
            generalize addrOf (g 57) = a49
            generalize capOf (g 57) = c50
            refine Ex'.next ?_
            refine Cd.condF (by kernel_rfl) ?_
            refine Cd.skip ?_
            refine Ex'.blockNormal ?_
            refine Ex'.next ?_
            refine Cd.region rfl ?_
            refine Sq.vals [0] (rest := [1, 2]) [iV (k : Int)] (fun w => by kernel_rfl) ?_
            refine Sq.v (r := iV ((k : Int) + 1)) (o_add (k := .i64) (a := (k : Int)) (b := 1) (c := (k : Int) + 1) (by kernel_rfl) (by kernel_rfl) (w64 rfl (by omega))) rfl (by kernel_rfl) ?_
            refine Sq.vals [2] (rest := []) [iV ((k : Int) + 1)] (fun w => by kernel_rfl) ?_
            refine Sq.done ?_
            refine Ex'.round (g := (k, ks0, p0, .slice a4 ks0.length c5, mo0)) (k + 1, ks1, p1, .slice a30 ks1.length c31, mo1) ?_ ?_ (subB_eq (l := [0, 3, 6, 4, 5]) (by kernel_rfl)) (fun w hw => hw.pickB [0, 1, 2] (by kernel_rfl) (by kernel_rfl) (by kernel_rfl))
            · (try dsimp only); exact ⟨by omega, by omega, by first | omega | (split at hmo1 <;> omega)⟩
            · omega
    ·
      refine Cd.exit ?_
      refine Ex'.thenExit ?_
      refine Ex'.thenExit ?_
      refine Ex'.blockHit ?_
      refine Ex'.next ?_
      refine Cd.seq ?_
      refine Cd.region rfl ?_
      refine Sq.vals [0] (rest := []) [bV true] (fun w => by kernel_rfl) ?_
      refine Sq.done ?_
      refine Ex'.next ?_
      refine Cd.ret ?_
      refine Ex'.ret Try.results12 (RVs.tmp (v := bV true) (by kernel_rfl) (RVs.nil)) (fun w hw => ?_)
      exact ⟨_, ⟨rfl, by kernel_rfl⟩, hw⟩

theorem listPlays_walk (v : Value) (ys : List LAct) (w : World) (h : Cells w (fun k => k < w.heap.size) v ys.length 2 (ys.flatMap LAct.cells)) :
    Calls Try.prog 12 #[v] w fun e w' => e = .returned (.bool true) ∧ Below w.heap.size w w' := by
  obtain ⟨a, cap, rfl, hl⟩ := RecsIn.shape (lscr_of h)
  exact law_of (listPlays_tri hl (lscr_of h))

end Go.Proofs.Ythbffkdfahlpdaa
