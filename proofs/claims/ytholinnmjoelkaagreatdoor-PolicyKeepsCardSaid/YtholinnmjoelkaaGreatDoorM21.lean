/- ArcW, ArcPure, ArcPureB -/
import Derived.Test.YtholinnmjoelkaaGreatDoorM20
import Derived.Test.YtholinnmjoelkaaGreatDoorM19
set_option linter.unusedVariables false
set_option linter.unusedSimpArgs false
namespace Go.Proofs.YtholinnmjoelkaaGreatDoor
set_option maxHeartbeats 8000000
set_option maxRecDepth 100000
open Go.RowKit Go.MapKept
def arcRemove (most p : Int) (t1 t2 b1 b2 : List ByteArray) (key : ByteArray) : List ByteArray × List ByteArray × List ByteArray × List ByteArray × Bool :=
 if key ∈ t1 then (rm t1 key, t2, b1, b2, true) else if key ∈ t2 then (t1, rm t2 key, b1, b2, true) else if key ∈ b1 then (t1, t2, rm b1 key, b2, false) else if key ∈ b2 then (t1, t2, b1, rm b2 key, false) else (t1, t2, b1, b2, false)
def arcKeys (most p : Int) (t1 t2 b1 b2 : List ByteArray)  : List ByteArray :=
 t1.reverse ++ t2.reverse
theorem arc_Keys {b lt1 lt2 lb1 lb2 n : Nat} {most p : Int} {t1 t2 b1 b2 : List ByteArray}  (hb : n ≤ 1000000000) : Tri Tryz.prog 87 #[pV b 0] (arcL b lt1 lt2 lb1 lb2 most p t1 t2 b1 b2 n) (PostE (fun _ => True) id fun v => arcL b lt1 lt2 lb1 lb2 most p t1 t2 b1 b2 n ++ [rowR 9 1 v (arcKeys most p t1 t2 b1 b2).length ((arcKeys most p t1 t2 b1 b2).map Value.string)]) := by
 refine Tri.en (args := [pV b 0]) Tryz.func87 (fun B wz => ?_)
 refine Cd.fact (i := 1) rfl llR.le ?_; rintro ⟨_, hl1⟩
 refine Cd.fact (i := 2) rfl llR.le ?_; rintro ⟨_, hl2⟩
 refine Cd.fact (i := 3) rfl llR.le ?_; rintro ⟨_, hl3⟩
 refine Cd.fact (i := 4) rfl llR.le ?_; rintro ⟨_, hl4⟩
 refine Cd.s1 (Sq.vl [0] [.slice none 0 0] (Sq.d4 (Cd.seq ?_)))
 refine Cd.plan [0, 1, 3, 7, 15, 31, 0, 64, 192, 448, 960, 2047, 4095, 8191] [(4, [(0, false, 0)]), (5, [(1, false, 0)]), (10, [(0, false, 0)]), (11, [(2, false, 0)])] [5, 11] [(5, fun _ => True), (11, fun _ => True)] [(10, 5, fun g => rowR 9 1 (.slice (addrOf (g 5)) t1.length (capOf (g 5))) t1.length (t1.map Value.string)), (16, 11, fun g => rowR 9 1 (.slice (addrOf (g 11)) t2.length (capOf (g 11))) t2.length (t2.map Value.string))] [fun g => pV b 0, fun g => pV b 0, fun g => pV b 2, fun g => pV b 2, fun g => pV lt1 0, fun g => .slice (addrOf (g 5)) t1.length (capOf (g 5)), fun g => pV b 0, fun g => pV b 0, fun g => pV b 2, fun g => pV b 3, fun g => pV lt2 0, fun g => .slice (addrOf (g 11)) t2.length (capOf (g 11)), fun g => .slice (addrOf (g 5)) t1.length (capOf (g 5)), fun g => .slice (addrOf (g 11)) t2.length (capOf (g 11))] (by kernel_rfl) (by kernel_rfl) rfl (⟨⟨⟨fun _ _ => rfl, ⟨fun _ _ => rfl, ⟨fun _ _ => rfl, ⟨fun _ _ => rfl, ⟨fun _ _ => rfl, ⟨trivial, ⟨fun _ _ => rfl, ⟨fun _ _ => rfl, ⟨fun _ _ => rfl, ⟨fun _ _ => rfl, ⟨fun _ _ => rfl, ⟨trivial, ⟨trivial, ⟨trivial, trivial⟩⟩⟩⟩⟩⟩⟩⟩⟩⟩⟩⟩⟩⟩, ⟨trivial, ⟨trivial, trivial⟩⟩⟩, ⟨⟨⟨fun _ _ => rfl, ⟨fun _ _ => rfl, ⟨fun _ _ => rfl, ⟨fun _ _ => rfl, ⟨fun _ _ => rfl, ⟨fun _ _ => rfl, ⟨fun _ _ => rfl, ⟨fun _ _ => rfl, ⟨fun _ _ => rfl, ⟨fun _ _ => rfl, ⟨fun _ _ => rfl, ⟨trivial, ⟨trivial, ⟨trivial, trivial⟩⟩⟩⟩⟩⟩⟩⟩⟩⟩⟩⟩⟩⟩, ⟨fun _ _ => rfl, ⟨trivial, trivial⟩⟩⟩, trivial⟩⟩) ?_ ?_
 · exact ⟨ob_k, ob_k, ob_k, ob_k, ob_r (l := fun g => [arcB b lt1 lt2 lb1 lb2 most p]) (l' := fun g => [arcB b lt1 lt2 lb1 lb2 most p]) (v := fun g => pV lt1 0) (fun g => o_ld (i := 2) (v := pV lt1 0)), ob_d (ι := Option Addr × Nat) (l := fun g => [llR lt1 t1 n]) (L := fun g y => [llR lt1 t1 n, rowR 9 1 (.slice y.1 t1.length y.2) t1.length (t1.map Value.string)]) (fun y => .slice y.1 t1.length y.2) (fun g => o_cl Tryz.call134 (Tri.rowA (t_Keys (ks := t1) (n := n) (by omega)))) (fun g => by kernel_rfl) (fun g y _ => ⟨trivial, by kernel_rfl, by kernel_rfl⟩), ob_k, ob_k, ob_k, ob_k, ob_r (l := fun g => [arcB b lt1 lt2 lb1 lb2 most p]) (l' := fun g => [arcB b lt1 lt2 lb1 lb2 most p]) (v := fun g => pV lt2 0) (fun g => o_ld (i := 3) (v := pV lt2 0)), ob_d (ι := Option Addr × Nat) (l := fun g => [llR lt2 t2 n]) (L := fun g y => [llR lt2 t2 n, rowR 9 1 (.slice y.1 t2.length y.2) t2.length (t2.map Value.string)]) (fun y => .slice y.1 t2.length y.2) (fun g => o_cl Tryz.call134 (Tri.rowA (t_Keys (ks := t2) (n := n) (by omega)))) (fun g => by kernel_rfl) (fun g y _ => ⟨trivial, by kernel_rfl, by kernel_rfl⟩), ob_k, ob_k, trivial⟩
 intro g
 refine Ex'.sub (subB_spec [2, 3, 4]) (Ex'.a1 [0, 1, 2, 3, 4, 10, 16] (σ' := [(2, .slice none 0 0), (3, .slice (addrOf (g 5)) t1.length (capOf (g 5))), (4, .slice (addrOf (g 11)) t2.length (capOf (g 11)))]) (Γ' := [arcB b lt1 lt2 lb1 lb2 most p, llR lt1 t1 n, llR lt2 t2 n, llR lb1 b1 n, llR lb2 b2 n, rowR 9 1 (.slice (addrOf (g 5)) t1.length (capOf (g 5))) t1.length (t1.map Value.string), rowR 9 1 (.slice (addrOf (g 11)) t2.length (capOf (g 11))) t2.length (t2.map Value.string)]) ?_)
 generalize addrOf (g 5) = a3
 generalize capOf (g 5) = c4
 generalize addrOf (g 11) = a5
 generalize capOf (g 11) = c6
 refine Ex'.next (Cd.s1 (Sq.vl [0] [.slice a3 t1.length c4] (Sq.sm [5] (l := [rowR 9 1 (.slice a3 t1.length c4) t1.length (t1.map Value.string)]) (o_cl Tryz.call135 (t_Reverse (ks := t1) (by omega))) rfl (Sq.d1 (Sq.vl [0] [.slice a5 t2.length c6] (Sq.sm [6] (l := [rowR 9 1 (.slice a5 t2.length c6) t2.length (t2.map Value.string)]) (o_cl Tryz.call135 (t_Reverse (ks := t2) (by omega))) rfl (Sq.d1 (Sq.vl [0, 1] [.slice a3 t1.length c4, .slice a5 t2.length c6] ?_))))))))
 refine Sq.e1 [5, 6] (l := [rowR 9 1 (.slice a3 t1.length c4) t1.length (t1.reverse.map Value.string), rowR 9 1 (.slice a5 t2.length c6) t2.length (t2.reverse.map Value.string)]) (o_pushAll (n' := (t1.reverse ++ t2.reverse).length) (xs' := (t1.reverse ++ t2.reverse).map Value.string) (m := t2.length) (news := t2.reverse.map Value.string) (by kernel_rfl) (by kernel_rfl) (fun w S h => ⟨S, Row.cells h⟩) sl_str (by decide) (ones _) (by unfold maxLen; omega) (by omega) (by first | exact List.length_append.symm | simp) (by simp)) rfl ?_; rintro v7 _
 refine Sq.fact (i := 5) (R := rowR 9 1 v7 ((t1.reverse ++ t2.reverse).length) ((t1.reverse ++ t2.reverse).map Value.string)) (by kernel_rfl) row_slice ?_; rintro ⟨a8, c9, rfl, hc9, hc9'⟩
 have hc9'' : c9 ≤ 9223372036854775807 := hc9'
 refine Sq.vl [3] [.slice a8 ((t1.reverse ++ t2.reverse).length) c9] (Sq.d4 (Cd.ret (Ex'.ret Tryz.results87 (RVs.tm (v := .slice a8 ((t1.reverse ++ t2.reverse).length) c9) RVs.nil) (fun w hw => ?_))))
 have e : arcKeys most p t1 t2 b1 b2 = t1.reverse ++ t2.reverse := by unfold arcKeys; rfl
 rw [e]
 exact ⟨_, ⟨_, trivial, rfl, rfl⟩, hw.pk [0, 1, 2, 3, 4, 5]⟩
def arcNew (most0 : Int) : Int × Int × List ByteArray × List ByteArray × List ByteArray × List ByteArray :=
 if (0 : Int) > most0 then (0, 0, [], [], [], []) else (most0, 0, [], [], [], [])
theorem arc_New (most0 : Int) (hmost0 : -9223372036854775808 ≤ most0 ∧ most0 ≤ 9223372036854775807) : Tri Tryz.prog 78 #[iV most0] [] (PostE (ι := Nat × Nat × Nat × Nat × Nat) (fun _ => True) (fun x => pV x.1 0) fun x => arcL x.1 x.2.1 x.2.2.1 x.2.2.2.1 x.2.2.2.2 ((arcNew most0).1) ((arcNew most0).2.1) ((arcNew most0).2.2.1) ((arcNew most0).2.2.2.1) ((arcNew most0).2.2.2.2.1) ((arcNew most0).2.2.2.2.2) 0) := by
 refine Tri.en (args := [iV most0]) Tryz.func78 (fun B wz => ?_)
 refine Cd.s1 (Sq.vl [0] [.pointer none] (Sq.d1 (Sq.vl [0] [iV most0] ?_)))
 by_cases h1 : (0 : Int) > most0
 ·
  refine Sq.v (r := iV (if (0 : Int) > most0 then 0 else most0)) (pureV (by kernel_rfl) rfl fun w => by kernel_rfl) rfl (by kernel_rfl) (Sq.re 4 rfl (by rw [if_pos h1]) ?_)
  refine Sq.e1 [] (l := []) (o_cl Tryz.call126 (t_New)) rfl ?_; rintro b3 _
  refine Sq.e1 [] (l := []) (o_cl Tryz.call126 (t_New)) rfl ?_; rintro b4 _
  refine Sq.e1 [] (l := []) (o_cl Tryz.call126 (t_New)) rfl ?_; rintro b5 _
  refine Sq.e1 [] (l := []) (o_cl Tryz.call126 (t_New)) rfl ?_; rintro b6 _
  refine Sq.vl [6, 7] [.agg #[pV b3 0, pV b4 0, pV b5 0, pV b6 0], .agg #[iV 0, iV 0, pV b3 0, pV b4 0, pV b5 0, pV b6 0]] ?_
  refine Sq.e0 [] (l := []) (o_newBox (v := .agg #[iV 0, iV 0, pV b3 0, pV b4 0, pV b5 0, pV b6 0]) [iV 0, iV 0, pV b3 0, pV b4 0, pV b5 0, pV b6 0] (by kernel_rfl) rfl) rfl ?_; intro b7 _
  refine Sq.vl [9] [pV b7 0] (Sq.d4 (Cd.ret (Ex'.ret Tryz.results78 (RVs.tm (v := pV b7 0) RVs.nil) (fun w hw => ?_))))
  have e : arcNew most0 = (0, 0, [], [], [], []) := by unfold arcNew; rw [if_pos h1]
  rw [e]
  exact ⟨_, ⟨(b7, b3, b4, b5, b6), trivial, rfl, rfl⟩, hw.pk [4, 0, 1, 2, 3]⟩
 ·
  refine Sq.v (r := iV (if (0 : Int) > most0 then 0 else most0)) (pureV (by kernel_rfl) rfl fun w => by kernel_rfl) rfl (by kernel_rfl) (Sq.re 4 rfl (by rw [if_neg h1]) ?_)
  refine Sq.e1 [] (l := []) (o_cl Tryz.call126 (t_New)) rfl ?_; rintro b8 _
  refine Sq.e1 [] (l := []) (o_cl Tryz.call126 (t_New)) rfl ?_; rintro b9 _
  refine Sq.e1 [] (l := []) (o_cl Tryz.call126 (t_New)) rfl ?_; rintro b10 _
  refine Sq.e1 [] (l := []) (o_cl Tryz.call126 (t_New)) rfl ?_; rintro b11 _
  refine Sq.vl [6, 7] [.agg #[pV b8 0, pV b9 0, pV b10 0, pV b11 0], .agg #[iV most0, iV 0, pV b8 0, pV b9 0, pV b10 0, pV b11 0]] ?_
  refine Sq.e0 [] (l := []) (o_newBox (v := .agg #[iV most0, iV 0, pV b8 0, pV b9 0, pV b10 0, pV b11 0]) [iV most0, iV 0, pV b8 0, pV b9 0, pV b10 0, pV b11 0] (by kernel_rfl) rfl) rfl ?_; intro b12 _
  refine Sq.vl [9] [pV b12 0] (Sq.d4 (Cd.ret (Ex'.ret Tryz.results78 (RVs.tm (v := pV b12 0) RVs.nil) (fun w hw => ?_))))
  have e : arcNew most0 = (most0, 0, [], [], [], []) := by unfold arcNew; rw [if_neg h1]
  rw [e]
  exact ⟨_, ⟨(b12, b8, b9, b10, b11), trivial, rfl, rfl⟩, hw.pk [4, 0, 1, 2, 3]⟩
end Go.Proofs.YtholinnmjoelkaaGreatDoor
namespace Go.Proofs.YtholinnmjoelkaaGreatDoor
variable {most p : Int} {t1 t2 b1 b2 : LB} {key : ByteArray}
abbrev Four := LB × LB × LB × LB × ByteArray × Bool
def Room (most : Int) (t1 t2 b1 b2 : LB) (x : Four) : Prop :=
  (x = (t1, t2, b1, b2, ⟨#[]⟩, false) ∧ (t1.length : Int) + t2.length < most) ∨
  (x = (t1.dropLast, t2, fr b1 (lastOf t1), b2, lastOf t1, true) ∧ 0 < t1.length ∧ most ≤ (t1.length : Int) + t2.length) ∨
  (x = (t1, t2.dropLast, b1, fr b2 (lastOf t2), lastOf t2, true) ∧ 0 < t2.length ∧ most ≤ (t1.length : Int) + t2.length)
theorem room_F (h : 0 < most) : Room most t1 t2 b1 b2 (arcRoomF most p t1 t2 b1 b2) := by
  unfold arcRoomF
  have e : arcLen most p t1 t2 b1 b2 = (t1.length : Int) + t2.length := rfl
  rw [e]
  by_cases hl : (t1.length : Int) + t2.length < most
  · rw [if_pos hl]; exact .inl ⟨rfl, hl⟩
  rw [if_neg hl]
  unfold arcYieldF
  by_cases hc : (t1.length : Int) > 0 ∧ ((t1.length : Int) > p ∨ (t2.length : Int) = 0)
  · have h0 : 0 < t1.length := by omega
    simp only [if_pos hc, if_pos h0, decide_eq_true h0]
    exact .inr (.inl ⟨rfl, h0, by omega⟩)
  · have h0 : 0 < t2.length := by omega
    simp only [if_neg hc, if_pos h0, decide_eq_true h0]
    exact .inr (.inr ⟨rfl, h0, by omega⟩)
theorem room_T (h : 0 < most) : Room most t1 t2 b1 b2 (arcRoomT most p t1 t2 b1 b2) := by
  unfold arcRoomT
  have e : arcLen most p t1 t2 b1 b2 = (t1.length : Int) + t2.length := rfl
  rw [e]
  by_cases hl : (t1.length : Int) + t2.length < most
  · rw [if_pos hl]; exact .inl ⟨rfl, hl⟩
  rw [if_neg hl]
  unfold arcYieldT
  by_cases hc : (t1.length : Int) > 0 ∧ ((t1.length : Int) > p ∨ (t1.length : Int) = p ∨ (t2.length : Int) = 0)
  · have h0 : 0 < t1.length := by omega
    simp only [if_pos hc, if_pos h0, decide_eq_true h0]
    exact .inr (.inl ⟨rfl, h0, by omega⟩)
  · have h0 : 0 < t2.length := by omega
    simp only [if_neg hc, if_pos h0, decide_eq_true h0]
    exact .inr (.inr ⟨rfl, h0, by omega⟩)
def Apart (t1 t2 b1 b2 : LB) : Prop := ∀ k, cn t1 k + cn t2 k + cn b1 k + cn b2 k ≤ 1
structure RoomS (most : Int) (t1 t2 b1 b2 : LB) (x : Four) : Prop where
  apart : Apart x.1 x.2.1 x.2.2.1 x.2.2.2.1
  len : (x.1.length : Int) + x.2.1.length < most
  l1 : x.1.length + x.2.2.1.length = t1.length + b1.length
  l2 : x.2.1.length + x.2.2.2.1.length = t2.length + b2.length
  le : x.1.length ≤ t1.length ∧ x.2.1.length ≤ t2.length
  res : ∀ k, cn x.1 k + cn x.2.1 k = cn t1 k + cn t2 k - if x.2.2.2.2.2 = true ∧ k = x.2.2.2.2.1 then 1 else 0
  gho : ∀ k, cn x.2.2.1 k = cn b1 k + (if x.2.2.2.2.2 = true ∧ k = x.2.2.2.2.1 then cn t1 k else 0) ∧ cn x.2.2.2.1 k = cn b2 k + (if x.2.2.2.2.2 = true ∧ k = x.2.2.2.2.1 then cn t2 k else 0)
  out : x.2.2.2.2.2 = true → 0 < cn t1 x.2.2.2.2.1 + cn t2 x.2.2.2.2.1
theorem Room.spec {x : Four} (h : Room most t1 t2 b1 b2 x) (hN : Apart t1 t2 b1 b2) (hl : (t1.length : Int) + t2.length ≤ most) : RoomS most t1 t2 b1 b2 x := by
  rcases h with ⟨rfl, h1⟩ | ⟨rfl, h0, h1⟩ | ⟨rfl, h0, h1⟩
  · exact ⟨hN, h1, rfl, rfl, ⟨Nat.le_refl _, Nat.le_refl _⟩, fun k => by simp, fun k => by simp, fun q => by simp at q⟩
  · have c1 := cn_last h0
    have n1 := hN (lastOf t1)
    have f1 := len_fr b1 (lastOf t1)
    have d1 := len_dl t1
    refine ⟨fun k => ?_, ?_, ?_, rfl, ⟨by dsimp only; omega, Nat.le_refl _⟩, fun k => ?_, fun k => ?_, fun _ => ?_⟩
    · have := hN k; have e := cn_dl h0 k
      simp only [cn_fr]
      by_cases q : k = lastOf t1
      · subst q; simp only [eq_self, if_true] at *; omega
      · rw [if_neg q] at *; omega
    · dsimp only; omega
    · dsimp only; omega
    · have := hN k; have e := cn_dl h0 k
      by_cases q : k = lastOf t1
      · subst q; simp only [eq_self, and_self, if_true] at *; omega
      · simp only [q, and_false, if_false] at *; omega
    · have := hN k; have e := cn_dl h0 k
      simp only [cn_fr]
      by_cases q : k = lastOf t1
      · subst q; simp only [and_self, if_true]; constructor <;> omega
      · simp only [q, and_false, if_false]; omega
    · dsimp only; omega
  · have c1 := cn_last h0
    have n1 := hN (lastOf t2)
    have f1 := len_fr b2 (lastOf t2)
    have d1 := len_dl t2
    refine ⟨fun k => ?_, ?_, rfl, ?_, ⟨Nat.le_refl _, by dsimp only; omega⟩, fun k => ?_, fun k => ?_, fun _ => ?_⟩
    · have := hN k; have e := cn_dl h0 k
      simp only [cn_fr]
      by_cases q : k = lastOf t2
      · subst q; simp only [eq_self, if_true] at *; omega
      · rw [if_neg q] at *; omega
    · dsimp only; omega
    · dsimp only; omega
    · have := hN k; have e := cn_dl h0 k
      by_cases q : k = lastOf t2
      · subst q; simp only [eq_self, and_self, if_true] at *; omega
      · simp only [q, and_false, if_false] at *; omega
    · have := hN k; have e := cn_dl h0 k
      simp only [cn_fr]
      by_cases q : k = lastOf t2
      · subst q; simp only [and_self, if_true]; constructor <;> omega
      · simp only [q, and_false, if_false]; omega
    · dsimp only; omega
def arcUp (most p : Int) (b1 b2 : LB) : Int := if p + (if (b2.length : Int) / (b1.length : Int) > 1 then (b2.length : Int) / (b1.length : Int) else 1) < most then p + (if (b2.length : Int) / (b1.length : Int) > 1 then (b2.length : Int) / (b1.length : Int) else 1) else most
def arcDn (p : Int) (b1 b2 : LB) : Int := if p - (if (b1.length : Int) / (b2.length : Int) > 1 then (b1.length : Int) / (b2.length : Int) else 1) > 0 then p - (if (b1.length : Int) / (b2.length : Int) > 1 then (b1.length : Int) / (b2.length : Int) else 1) else 0
theorem arcUp_le (h : p ≤ most) (h0 : 0 ≤ p) : p ≤ arcUp most p b1 b2 ∧ arcUp most p b1 b2 ≤ most ∧ (p < arcUp most p b1 b2 ∨ p = most) := by
  unfold arcUp
  generalize (b2.length : Int) / (b1.length : Int) = q
  split <;> split at * <;> omega
theorem arcDn_le (h0 : 0 ≤ p) : arcDn p b1 b2 ≤ p ∧ 0 ≤ arcDn p b1 b2 ∧ (arcDn p b1 b2 < p ∨ p = 0) := by
  unfold arcDn
  generalize (b1.length : Int) / (b2.length : Int) = q
  split <;> split at * <;> omega
theorem arcReq_zero (h : most = 0) : arcReq most p t1 t2 b1 b2 key = (p, t1, t2, b1, b2, decide (key ∈ t1 ∨ key ∈ t2), ⟨#[]⟩, false) := by
  unfold arcReq
  by_cases h1 : key ∈ t1
  · simp [h1, h]
  by_cases h2 : key ∈ t2
  · simp [h1, h2, h]
  by_cases h3 : key ∈ b1
  · simp [h1, h2, h3, h]
  by_cases h4 : key ∈ b2 <;> simp [h1, h2, h3, h4, h]
theorem arcReq_t1 (h : most ≠ 0) (h1 : key ∈ t1) : arcReq most p t1 t2 b1 b2 key = (p, rm t1 key, fr t2 key, b1, b2, true, ⟨#[]⟩, false) := by
  unfold arcReq; rw [if_pos h1, if_neg h]
theorem arcReq_t2 (h : most ≠ 0) (h1 : key ∉ t1) (h2 : key ∈ t2) : arcReq most p t1 t2 b1 b2 key = (p, t1, fr (rm t2 key) key, b1, b2, true, ⟨#[]⟩, false) := by
  unfold arcReq; rw [if_neg h1, if_pos h2, if_neg h]
theorem arcReq_b1 (h : most ≠ 0) (h1 : key ∉ t1) (h2 : key ∉ t2) (h3 : key ∈ b1) {x} (hx : arcRoomF most (arcUp most p b1 b2) t1 t2 b1 b2 = x) : arcReq most p t1 t2 b1 b2 key = (arcUp most p b1 b2, x.1, fr x.2.1 key, rm x.2.2.1 key, x.2.2.2.1, false, x.2.2.2.2.1, x.2.2.2.2.2) := by
  subst hx; unfold arcReq; rw [if_neg h1, if_neg h2, if_pos h3, if_neg h]; rfl
theorem arcReq_b2 (h : most ≠ 0) (h1 : key ∉ t1) (h2 : key ∉ t2) (h3 : key ∉ b1) (h4 : key ∈ b2) {x} (hx : arcRoomT most (arcDn p b1 b2) t1 t2 b1 b2 = x) : arcReq most p t1 t2 b1 b2 key = (arcDn p b1 b2, x.1, fr x.2.1 key, x.2.2.1, rm x.2.2.2.1 key, false, x.2.2.2.2.1, x.2.2.2.2.2) := by
  subst hx; unfold arcReq; rw [if_neg h1, if_neg h2, if_neg h3, if_pos h4, if_neg h]; rfl
theorem arcReq_new (h : most ≠ 0) (h1 : key ∉ t1) (h2 : key ∉ t2) (h3 : key ∉ b1) (h4 : key ∉ b2) {x} (hx : arcFresh most p t1 t2 b1 b2 = x) : arcReq most p t1 t2 b1 b2 key = (p, fr x.1 key, x.2.1, x.2.2.1, x.2.2.2.1, false, x.2.2.2.2.1, x.2.2.2.2.2) := by
  subst hx; unfold arcReq; rw [if_neg h1, if_neg h2, if_neg h3, if_neg h4, if_neg h]
theorem arcHas_eq : arcHas most p t1 t2 b1 b2 key = decide (key ∈ t1 ∨ key ∈ t2) := by
  unfold arcHas
  by_cases h1 : key ∈ t1
  · simp [h1]
  by_cases h2 : key ∈ t2
  · simp [h1, h2]
  by_cases h3 : key ∈ b1 <;> by_cases h4 : key ∈ b2 <;> simp [h1, h2, h3, h4]
theorem arcNew_nn {m : Int} (h : 0 ≤ m) : arcNew m = (m, 0, [], [], [], []) := by unfold arcNew; rw [if_neg (by omega)]
end Go.Proofs.YtholinnmjoelkaaGreatDoor
namespace Go.Proofs.YtholinnmjoelkaaGreatDoor
variable {most p : Int} {t1 t2 b1 b2 : LB} {key : ByteArray}
structure ArcI (most p : Int) (t1 t2 b1 b2 : LB) : Prop where
  n : Apart t1 t2 b1 b2
  h0 : 0 ≤ most
  p0 : 0 ≤ p
  pm : p ≤ most
  len : (t1.length : Int) + t2.length ≤ most
  l1 : (t1.length : Int) + b1.length ≤ most
  all : (t1.length : Int) + t2.length + b1.length + b2.length ≤ 2 * most
theorem ArcI.new {m : Int} (h : 0 ≤ m) : ArcI m 0 [] [] [] [] := ⟨fun k => by simp [cn_nil], h, Int.le_refl _, h, by simpa using h, by simpa using h, by simp; omega⟩
theorem not_cn {l : LB} {k : ByteArray} : k ∉ l ↔ cn l k = 0 := by rw [cn_mem]; omega
theorem fresh_cases (h : ArcI most p t1 t2 b1 b2) (hm : 0 < most) {x} (hx : arcFresh most p t1 t2 b1 b2 = x) :
    (most ≤ (t1.length : Int) ∧ x = (t1.dropLast, t2, b1, b2, lastOf t1, true)) ∨
    ∃ c1 c2, ((c1 = b1.dropLast ∧ c2 = b2 ∧ 0 < b1.length) ∨ (c1 = b1 ∧ c2 = b2.dropLast ∧ 0 < b2.length ∧ (t1.length : Int) + b1.length < most) ∨ (c1 = b1 ∧ c2 = b2 ∧ (t1.length : Int) + b1.length < most ∧ (t1.length : Int) + t2.length + b1.length + b2.length < 2 * most)) ∧ Room most t1 t2 c1 c2 x := by
  have g1 := h.len; have g2 := h.l1; have g3 := h.all
  unfold arcFresh at hx
  have e2 : arcAll2 most p t1 t2 b1 b2 = (t1.length : Int) + b1.length := by unfold arcAll2; omega
  have e4 : arcAll4 most p t1 t2 b1 b2 = (t1.length : Int) + t2.length + b1.length + b2.length := by unfold arcAll4; omega
  rw [e2, e4] at hx
  by_cases c1 : (t1.length : Int) + b1.length ≥ most
  · rw [if_pos c1] at hx
    by_cases c2 : (t1.length : Int) ≥ most
    · rw [if_pos c2] at hx
      have h0 : 0 < t1.length := by omega
      rw [decide_eq_true h0] at hx
      exact .inl ⟨c2, hx.symm⟩
    · rw [if_neg c2] at hx
      exact .inr ⟨b1.dropLast, b2, .inl ⟨rfl, rfl, by omega⟩, hx ▸ room_F hm⟩
  · rw [if_neg c1] at hx
    by_cases c3 : (t1.length : Int) + t2.length + b1.length + b2.length - most ≥ most
    · rw [if_pos c3] at hx
      exact .inr ⟨b1, b2.dropLast, .inr (.inl ⟨rfl, rfl, by omega, by omega⟩), hx ▸ room_F hm⟩
    · rw [if_neg c3] at hx
      by_cases c4 : (t1.length : Int) + t2.length + b1.length + b2.length < most
      · rw [if_pos c4] at hx
        exact .inr ⟨b1, b2, .inr (.inr ⟨rfl, rfl, by omega, by omega⟩), .inl ⟨hx.symm, by omega⟩⟩
      · rw [if_neg c4] at hx
        exact .inr ⟨b1, b2, .inr (.inr ⟨rfl, rfl, by omega, by omega⟩), hx ▸ room_F hm⟩
structure ReqS (most p : Int) (t1 t2 b1 b2 : LB) (key : ByteArray) (x : Int × LB × LB × LB × LB × Bool × ByteArray × Bool) : Prop where
  i : ArcI most x.1 x.2.1 x.2.2.1 x.2.2.2.1 x.2.2.2.2.1
  hit : x.2.2.2.2.2.1 = decide (key ∈ t1 ∨ key ∈ t2)
  no : (key ∈ t1 ∨ key ∈ t2) → x.2.2.2.2.2.2.2 = false
  here : 0 < most → key ∈ x.2.1 ∨ key ∈ x.2.2.1
  out : x.2.2.2.2.2.2.2 = true → x.2.2.2.2.2.2.1 ∉ x.2.1 ∧ x.2.2.2.2.2.2.1 ∉ x.2.2.1
theorem cn_dl_le (l : LB) (k : ByteArray) : cn l.dropLast k ≤ cn l k := by
  by_cases h : 0 < l.length
  · rw [cn_dl h]; omega
  · have : l = [] := List.eq_nil_of_length_eq_zero (by omega)
    subst this; exact Nat.le_refl _
theorem RoomS.gone {c1 c2 : LB} {x : Four} (hS : RoomS most t1 t2 c1 c2 x) (hN : Apart t1 t2 c1 c2) (ho : x.2.2.2.2.2 = true) : cn x.1 x.2.2.2.2.1 = 0 ∧ cn x.2.1 x.2.2.2.2.1 = 0 := by
  have a := hS.res x.2.2.2.2.1
  have b := hS.out ho
  have c := hN x.2.2.2.2.1
  rw [if_pos ⟨ho, rfl⟩] at a
  omega
theorem ArcI.req (h : ArcI most p t1 t2 b1 b2) (key : ByteArray) {x} (hx : arcReq most p t1 t2 b1 b2 key = x) : ReqS most p t1 t2 b1 b2 key x := by
  have g0 := h.h0; have g1 := h.len; have g2 := h.l1; have g3 := h.all; have gp := h.p0; have gm := h.pm
  by_cases hm : most = 0
  · rw [arcReq_zero hm] at hx; subst hx
    exact ⟨h, rfl, fun _ => rfl, fun q => by omega, fun q => by simp at q⟩
  have hpos : 0 < most := by omega
  have nk := h.n key
  by_cases h1 : key ∈ t1
  · rw [arcReq_t1 hm h1] at hx; subst hx
    have c1 := cn_mem.1 h1
    have l1 := len_rm t1 key
    have l2 := len_fr t2 key
    refine ⟨⟨fun k => ?_, g0, gp, gm, ?_, ?_, ?_⟩, (decide_eq_true (.inl h1)).symm, fun _ => rfl, fun _ => .inr (mem_fr.2 (.inl rfl)), fun q => by simp at q⟩
    · have := h.n k
      simp only [cn_rm, cn_fr]
      by_cases q : k = key
      · subst q; simp only [eq_self, if_true]; omega
      · simp only [if_neg q]; omega
    · dsimp only; omega
    · dsimp only; omega
    · dsimp only; omega
  by_cases h2 : key ∈ t2
  · rw [arcReq_t2 hm h1 h2] at hx; subst hx
    have c1 := cn_mem.1 h2
    have l1 := len_rm t2 key
    have l2 := len_fr (rm t2 key) key
    have l3 : cn (rm t2 key) key = 0 := by rw [cn_rm, if_pos rfl]
    refine ⟨⟨fun k => ?_, g0, gp, gm, ?_, g2, ?_⟩, (decide_eq_true (.inr h2)).symm, fun _ => rfl, fun _ => .inr (mem_fr.2 (.inl rfl)), fun q => by simp at q⟩
    · have := h.n k
      simp only [cn_rm, cn_fr]
      by_cases q : k = key
      · subst q; simp only [eq_self, if_true]; omega
      · simp only [if_neg q]; omega
    · dsimp only; omega
    · dsimp only; omega
  have z1 := not_cn.1 h1
  have z2 := not_cn.1 h2
  have hno : ¬ (key ∈ t1 ∨ key ∈ t2) := fun q => q.elim h1 h2
  by_cases h3 : key ∈ b1
  · have c3 := cn_mem.1 h3
    have hR := room_F (p := arcUp most p b1 b2) (t1 := t1) (t2 := t2) (b1 := b1) (b2 := b2) hpos
    rw [arcReq_b1 hm h1 h2 h3 rfl] at hx
    obtain ⟨u1, u2, _⟩ := arcUp_le (b1 := b1) (b2 := b2) gm gp
    generalize arcRoomF most (arcUp most p b1 b2) t1 t2 b1 b2 = y at hx hR
    have hS := hR.spec h.n g1
    have ak := hS.apart key
    have gk := (hS.gho key).1
    have s1 := hS.len; have s2 := hS.l1; have s3 := hS.l2
    have f1 := len_fr y.2.1 key
    have f2 := len_rm y.2.2.1 key
    subst hx
    refine ⟨⟨fun k => ?_, g0, by dsimp only; omega, u2, ?_, ?_, ?_⟩, (decide_eq_false hno).symm, fun q => absurd q hno, fun _ => .inr (mem_fr.2 (.inl rfl)), fun q => ?_⟩
    · have := hS.apart k
      simp only [cn_rm, cn_fr]
      by_cases q : k = key
      · subst q; simp only [eq_self, if_true]; omega
      · simp only [if_neg q]; omega
    · dsimp only; omega
    · dsimp only; omega
    · dsimp only; omega
    · have o := hS.gone h.n q
      have ov := hS.out q
      have hv : y.2.2.2.2.1 ≠ key := fun e => by rw [e] at ov; omega
      exact ⟨not_cn.2 o.1, not_cn.2 (by rw [cn_fr, if_neg hv]; exact o.2)⟩
  by_cases h4 : key ∈ b2
  · have c4 := cn_mem.1 h4
    have hR := room_T (p := arcDn p b1 b2) (t1 := t1) (t2 := t2) (b1 := b1) (b2 := b2) hpos
    rw [arcReq_b2 hm h1 h2 h3 h4 rfl] at hx
    obtain ⟨u1, u2, _⟩ := arcDn_le (b1 := b1) (b2 := b2) gp
    generalize arcRoomT most (arcDn p b1 b2) t1 t2 b1 b2 = y at hx hR
    have hS := hR.spec h.n g1
    have ak := hS.apart key
    have gk := (hS.gho key).2
    have s1 := hS.len; have s2 := hS.l1; have s3 := hS.l2
    have f1 := len_fr y.2.1 key
    have f2 := len_rm y.2.2.2.1 key
    subst hx
    refine ⟨⟨fun k => ?_, g0, u2, by dsimp only; omega, ?_, ?_, ?_⟩, (decide_eq_false hno).symm, fun q => absurd q hno, fun _ => .inr (mem_fr.2 (.inl rfl)), fun q => ?_⟩
    · have := hS.apart k
      simp only [cn_rm, cn_fr]
      by_cases q : k = key
      · subst q; simp only [eq_self, if_true]; omega
      · simp only [if_neg q]; omega
    · dsimp only; omega
    · dsimp only; omega
    · dsimp only; omega
    · have o := hS.gone h.n q
      have ov := hS.out q
      have hv : y.2.2.2.2.1 ≠ key := fun e => by rw [e] at ov; omega
      exact ⟨not_cn.2 o.1, not_cn.2 (by rw [cn_fr, if_neg hv]; exact o.2)⟩
  have z3 := not_cn.1 h3
  have z4 := not_cn.1 h4
  rw [arcReq_new hm h1 h2 h3 h4 rfl] at hx
  have hF := fresh_cases h hpos rfl
  generalize arcFresh most p t1 t2 b1 b2 = y at hx hF
  rcases hF with ⟨c, rfl⟩ | ⟨c1, c2, hc, hR⟩
  · have h0 : 0 < t1.length := by omega
    have hd := cn_dl_le t1 key
    have f1 := len_fr t1.dropLast key
    have d1 := len_dl t1
    have vk := cn_last h0
    subst hx
    refine ⟨⟨fun k => ?_, g0, gp, gm, ?_, ?_, ?_⟩, (decide_eq_false hno).symm, fun q => absurd q hno, fun _ => .inl (mem_fr.2 (.inl rfl)), fun q => ?_⟩
    · have := h.n k
      have := cn_dl_le t1 k
      simp only [cn_fr]
      by_cases q : k = key
      · subst q; simp only [eq_self, if_true]; omega
      · simp only [if_neg q]; omega
    · dsimp only; omega
    · dsimp only; omega
    · dsimp only; omega
    · have hv : lastOf t1 ≠ key := fun e => by rw [e] at vk; omega
      have e := cn_dl h0 (lastOf t1)
      have nv := h.n (lastOf t1)
      rw [if_pos rfl] at e
      exact ⟨not_cn.2 (by dsimp only; rw [cn_fr, if_neg hv]; omega), not_cn.2 (by dsimp only; omega)⟩
  · have hN : Apart t1 t2 c1 c2 := fun k => by
      have := h.n k
      have q1 := cn_dl_le b1 k
      have q2 := cn_dl_le b2 k
      rcases hc with ⟨rfl, rfl, _⟩ | ⟨rfl, rfl, _⟩ | ⟨rfl, rfl, _⟩ <;> omega
    have hz : cn c1 key = 0 ∧ cn c2 key = 0 := by
      have q1 := cn_dl_le b1 key
      have q2 := cn_dl_le b2 key
      rcases hc with ⟨rfl, rfl, _⟩ | ⟨rfl, rfl, _⟩ | ⟨rfl, rfl, _⟩ <;> constructor <;> omega
    have hl : (t1.length : Int) + c1.length < most ∧ (t1.length : Int) + t2.length + c1.length + c2.length < 2 * most := by
      have d1 := len_dl b1
      have d2 := len_dl b2
      rcases hc with ⟨rfl, rfl, q⟩ | ⟨rfl, rfl, q⟩ | ⟨rfl, rfl, q⟩ <;> constructor <;> omega
    have hS := hR.spec hN g1
    have rk := hS.res key
    have gk := hS.gho key
    have s1 := hS.len; have s2 := hS.l1; have s3 := hS.l2
    have f1 := len_fr y.1 key
    have k0 : cn y.1 key = 0 ∧ cn y.2.1 key = 0 := by constructor <;> omega
    have k1 : cn y.2.2.1 key = 0 ∧ cn y.2.2.2.1 key = 0 := by
      rw [gk.1, gk.2, hz.1, hz.2, z1, z2]; simp
    subst hx
    refine ⟨⟨fun k => ?_, g0, gp, gm, ?_, ?_, ?_⟩, (decide_eq_false hno).symm, fun q => absurd q hno, fun _ => .inl (mem_fr.2 (.inl rfl)), fun q => ?_⟩
    · have := hS.apart k
      simp only [cn_fr]
      by_cases q : k = key
      · subst q; simp only [eq_self, if_true]; omega
      · simp only [if_neg q]; omega
    · dsimp only; omega
    · dsimp only; omega
    · dsimp only; omega
    · have o := hS.gone hN q
      have ov := hS.out q
      have hv : y.2.2.2.2.1 ≠ key := fun e => by rw [e] at ov; omega
      exact ⟨not_cn.2 (by rw [cn_fr, if_neg hv]; exact o.1), not_cn.2 o.2⟩
end Go.Proofs.YtholinnmjoelkaaGreatDoor
