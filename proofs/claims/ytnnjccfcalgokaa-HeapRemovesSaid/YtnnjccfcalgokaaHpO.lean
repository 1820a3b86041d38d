/- Package heap: its row in its order. -/
import Derived.Test.YtnnjccfcalgokaaHpG
import Derived.Test.YtnnjccfcalgokaaSortS
import Derived.Ground.SlsfProg
set_option linter.unusedVariables false
namespace Go.Proofs.Ytnnjccfcalgokaa
open Go.Shelf Go.RowKit Go.MapKept Go.Lib Go.Sort

theorem take_key {κ : Type} {z : HI κ} {d : List (HI κ)} {k : Nat} (h : k < d.length) : (d.take (k + 1)).map HI.key = (d.take k).map HI.key ++ [(d.getD k z).key] := by
  rw [List.take_add_one, List.getElem?_eq_getElem h, getD_in h, List.map_append]; rfl
set_option maxHeartbeats 8000000 in
set_option maxRecDepth 100000 in
theorem hp_cloneAS   : Tri Try.prog 57 #[.slice none 0 0] [rowR 103 4 (.slice none 0 0) 0 (([] : List (HI ByteArray)).flatMap hcS)] (PostE (fun _ => True) id fun v => [rowR 103 4 (.slice none 0 0) 0 (([] : List (HI ByteArray)).flatMap hcS), rowR 103 4 v 0 (([] : List (HI ByteArray)).flatMap hcS)]) := by
  refine Tri.enter (args := [.slice none 0 0]) Try.func57 rfl rfl rfl (fun B wz => ?_)
  refine Cd.seq ?_
  refine Cd.region rfl ?_
  refine Sq.vals [0] (rest := []) [.slice none 0 0] (fun w => by kernel_rfl) ?_
  refine Sq.done ?_
  refine Ex'.next ?_
  refine Cd.seq ?_
  refine Cd.seq ?_
  refine Cd.region rfl ?_
  refine Sq.vals [0, 1] (rest := []) [.slice none 0 0, bV true] (fun w => by kernel_rfl) ?_
  refine Sq.done ?_
  refine Ex'.next ?_
  refine Cd.condT (by kernel_rfl) ?_
  refine Cd.seq ?_
  refine Cd.region rfl ?_
  refine Sq.vals [0] (rest := []) [.slice none 0 0] (fun w => by kernel_rfl) ?_
  refine Sq.done ?_
  refine Ex'.next ?_
  refine Cd.ret ?_
  refine Ex'.thenRet ?_
  refine Ex'.ret Try.results57 (RVs.tmp (v := .slice none 0 0) (by kernel_rfl) (RVs.nil)) (fun w hw => ?_)
  have hr := hw.nilRow 103 4
  exact ⟨_, ⟨_, trivial, rfl, rfl⟩, hr.pickB [0, 1] (by kernel_rfl) (by kernel_rfl) (by kernel_rfl)⟩

set_option maxHeartbeats 8000000 in
set_option maxRecDepth 100000 in
theorem hp_cloneBS {rb n cap : Nat} {l : List (HI ByteArray)} (hn : n ≤ 1000000000) : Tri Try.prog 57 #[.slice (some ⟨rb, 0, none⟩) n cap] [rowR 103 4 (.slice (some ⟨rb, 0, none⟩) n cap) n (l.flatMap hcS)] (PostE (fun _ => True) id fun v => [rowR 103 4 (.slice (some ⟨rb, 0, none⟩) n cap) n (l.flatMap hcS), rowR 103 4 v n (l.flatMap hcS)]) := by
  refine Tri.enter (args := [.slice (some ⟨rb, 0, none⟩) n cap]) Try.func57 rfl rfl rfl (fun B wz => ?_)
  refine Cd.seq ?_
  refine Cd.region rfl ?_
  refine Sq.vals [0] (rest := []) [.slice none 0 0] (fun w => by kernel_rfl) ?_
  refine Sq.done ?_
  refine Ex'.next ?_
  refine Cd.seq ?_
  refine Cd.seq ?_
  refine Cd.region rfl ?_
  refine Sq.vals [0, 1] (rest := []) [.slice (some ⟨rb, 0, none⟩) n cap, bV false] (fun w => by kernel_rfl) ?_
  refine Sq.done ?_
  refine Ex'.next ?_
  refine Cd.condF (by kernel_rfl) ?_
  refine Cd.skip ?_
  refine Ex'.next ?_
  refine Cd.seq ?_
  refine Cd.region rfl ?_
  refine Sq.ex [] (l := []) (o_lit0 (size := 4) Try.underlying98 (by kernel_rfl)) (by kernel_rfl) rfl (by kernel_rfl) (fun _ => Nat.zero_le _) ?_; intro b1 _
  refine Sq.vals [1] (rest := [2, 3]) [.slice (some ⟨rb, 0, none⟩) n cap] (fun w => by kernel_rfl) ?_
  refine Sq.ex [1, 0] (l := [rowR 103 4 (.slice (some ⟨b1, 0, none⟩) 0 0) 0 (([] : List (HI ByteArray)).flatMap hcS), rowR 103 4 (.slice (some ⟨rb, 0, none⟩) n cap) n (l.flatMap hcS)]) (o_pushAll (n' := n) (xs' := l.flatMap hcS) (m := n) (news := l.flatMap hcS) (by kernel_rfl) (by kernel_rfl) (fun w S h => ⟨S, Row.cells h⟩) sl_itemS (by decide) (recs_one (f := hcS) (fun _ => rfl) _) (by unfold maxLen; omega) (by omega) (by omega) (by first | rfl | rw [List.flatMap_append])) (by kernel_rfl) rfl (by kernel_rfl) (fun _ => Nat.le_of_ble_eq_true (by kernel_rfl)) ?_; rintro v2 _
  refine Sq.fact (i := 1) (R := rowR 103 4 v2 n (l.flatMap hcS)) (by kernel_rfl) row_slice ?_; rintro ⟨a3, c4, rfl, hc4, hc4'⟩
  have hc4'' : c4 ≤ 9223372036854775807 := hc4'
  refine Sq.vals [3] (rest := []) [.slice a3 n c4] (fun w => by kernel_rfl) ?_
  refine Sq.done ?_
  refine Ex'.next ?_
  refine Cd.ret ?_
  refine Ex'.ret Try.results57 (RVs.tmp (v := .slice a3 n c4) (by kernel_rfl) (RVs.nil)) (fun w hw => ?_)
  exact ⟨_, ⟨_, trivial, rfl, rfl⟩, hw.pickB [0, 1] (by kernel_rfl) (by kernel_rfl) (by kernel_rfl)⟩

theorem hp_cloneS {v : Value} {n : Nat} {l : List (HI ByteArray)} (hn : n ≤ 1000000000) (hl : l.length = n) : Tri Try.prog 57 #[v] [rowR 103 4 v n (l.flatMap hcS)] (PostE (fun _ => True) id fun v' => [rowR 103 4 v n (l.flatMap hcS), rowR 103 4 v' n (l.flatMap hcS)]) := by
  refine Tri.rowCases (fun e1 e2 _ => ?_) (fun b cap e _ _ => ?_)
  · subst e1 e2
    have : l = [] := List.eq_nil_of_length_eq_zero hl
    subst this
    exact hp_cloneAS
  · subst e; exact hp_cloneBS hn

instance : Inhabited (HI ByteArray) := ⟨hzS⟩
def Try.sortS_ren : Go.Shelf.Ren := ⟨fun | 6 => 58 | 15 => 72 | 14 => 71 | 28 => 83 | 29 => 84 | 20 => 75 | 21 => 76 | 22 => 77 | 23 => 78 | 24 => 79 | 25 => 80 | 26 => 81 | 27 => 82 | 46 => 93 | 47 => 94 | 48 => 95 | 49 => 96 | 50 => 97 | 57 => 101 | n => n, fun | 22 => 98 | 24 => 103 | 25 => 110 | 3 => 3 | 39 => 129 | 0 => 0 | 53 => 139 | 55 => 141 | 4 => 4 | 46 => 133 | 45 => 132 | 50 => 101 | 5 => 5 | 9 => 9 | 66 => 147 | 70 => 151 | 76 => 155 | 77 => 156 | n => n, fun | n => n⟩
theorem Try.sortS : SlLaysF0.n6 Try.prog Try.sortS_ren := {
  mixed := by kernel_rfl,
  f6 := by first | exact Try.func58.trans (congrArg some (by kernel_rfl)) | exact ⟨Try.f58.name, by decide, Try.func58.trans (congrArg some (by kernel_rfl))⟩,
  f14 := by first | exact Try.func71.trans (congrArg some (by kernel_rfl)) | exact ⟨Try.f71.name, by decide, Try.func71.trans (congrArg some (by kernel_rfl))⟩,
  f15 := by first | exact Try.func72.trans (congrArg some (by kernel_rfl)) | exact ⟨Try.f72.name, by decide, Try.func72.trans (congrArg some (by kernel_rfl))⟩,
  f20 := by first | exact Try.func75.trans (congrArg some (by kernel_rfl)) | exact ⟨Try.f75.name, by decide, Try.func75.trans (congrArg some (by kernel_rfl))⟩,
  f21 := by first | exact Try.func76.trans (congrArg some (by kernel_rfl)) | exact ⟨Try.f76.name, by decide, Try.func76.trans (congrArg some (by kernel_rfl))⟩,
  f22 := by first | exact Try.func77.trans (congrArg some (by kernel_rfl)) | exact ⟨Try.f77.name, by decide, Try.func77.trans (congrArg some (by kernel_rfl))⟩,
  f23 := by first | exact Try.func78.trans (congrArg some (by kernel_rfl)) | exact ⟨Try.f78.name, by decide, Try.func78.trans (congrArg some (by kernel_rfl))⟩,
  f24 := by first | exact Try.func79.trans (congrArg some (by kernel_rfl)) | exact ⟨Try.f79.name, by decide, Try.func79.trans (congrArg some (by kernel_rfl))⟩,
  f25 := by first | exact Try.func80.trans (congrArg some (by kernel_rfl)) | exact ⟨Try.f80.name, by decide, Try.func80.trans (congrArg some (by kernel_rfl))⟩,
  f26 := by first | exact Try.func81.trans (congrArg some (by kernel_rfl)) | exact ⟨Try.f81.name, by decide, Try.func81.trans (congrArg some (by kernel_rfl))⟩,
  f27 := by first | exact Try.func82.trans (congrArg some (by kernel_rfl)) | exact ⟨Try.f82.name, by decide, Try.func82.trans (congrArg some (by kernel_rfl))⟩,
  f28 := by first | exact Try.func83.trans (congrArg some (by kernel_rfl)) | exact ⟨Try.f83.name, by decide, Try.func83.trans (congrArg some (by kernel_rfl))⟩,
  f29 := by first | exact Try.func84.trans (congrArg some (by kernel_rfl)) | exact ⟨Try.f84.name, by decide, Try.func84.trans (congrArg some (by kernel_rfl))⟩,
  f46 := by first | exact Try.func93.trans (congrArg some (by kernel_rfl)) | exact ⟨Try.f93.name, by decide, Try.func93.trans (congrArg some (by kernel_rfl))⟩,
  f47 := by first | exact Try.func94.trans (congrArg some (by kernel_rfl)) | exact ⟨Try.f94.name, by decide, Try.func94.trans (congrArg some (by kernel_rfl))⟩,
  f48 := by first | exact Try.func95.trans (congrArg some (by kernel_rfl)) | exact ⟨Try.f95.name, by decide, Try.func95.trans (congrArg some (by kernel_rfl))⟩,
  f49 := by first | exact Try.func96.trans (congrArg some (by kernel_rfl)) | exact ⟨Try.f96.name, by decide, Try.func96.trans (congrArg some (by kernel_rfl))⟩,
  f50 := by first | exact Try.func97.trans (congrArg some (by kernel_rfl)) | exact ⟨Try.f97.name, by decide, Try.func97.trans (congrArg some (by kernel_rfl))⟩,
  f57 := by first | exact Try.func101.trans (congrArg some (by kernel_rfl)) | exact ⟨Try.f101.name, by decide, Try.func101.trans (congrArg some (by kernel_rfl))⟩,
  t0 := Try.underlying0,
  a0 := Try.isAgg0,
  z0 := Try.sizeOf0,
  v0 := Try.zeroValue0,
  t3 := Try.underlying3,
  a3 := Try.isAgg3,
  z3 := Try.sizeOf3,
  v3 := Try.zeroValue3,
  t4 := Try.underlying4,
  a4 := Try.isAgg4,
  z4 := Try.sizeOf4,
  v4 := Try.zeroValue4,
  t5 := Try.underlying5,
  a5 := Try.isAgg5,
  z5 := Try.sizeOf5,
  v5 := Try.zeroValue5,
  t9 := Try.underlying9,
  a9 := Try.isAgg9,
  z9 := Try.sizeOf9,
  v9 := Try.zeroValue9,
  t22 := Try.underlying98,
  a22 := Try.isAgg98,
  z22 := Try.sizeOf98,
  v22 := Try.zeroValue98,
  t25 := Try.underlying110,
  a25 := Try.isAgg110,
  z25 := Try.sizeOf110,
  v25 := Try.zeroValue110,
  t39 := Try.underlying129,
  a39 := Try.isAgg129,
  z39 := Try.sizeOf129,
  v39 := Try.zeroValue129,
  t45 := Try.underlying132,
  a45 := Try.isAgg132,
  z45 := Try.sizeOf132,
  v45 := Try.zeroValue132,
  t46 := Try.underlying133,
  a46 := Try.isAgg133,
  z46 := Try.sizeOf133,
  v46 := Try.zeroValue133,
  t50 := Try.underlying101,
  a50 := Try.isAgg101,
  z50 := Try.sizeOf101,
  v50 := Try.zeroValue101,
  t53 := Try.underlying139,
  a53 := Try.isAgg139,
  z53 := Try.sizeOf139,
  v53 := Try.zeroValue139,
  t55 := Try.underlying141,
  a55 := Try.isAgg141,
  z55 := Try.sizeOf141,
  v55 := Try.zeroValue141,
  t66 := Try.underlying147,
  a66 := Try.isAgg147,
  z66 := Try.sizeOf147,
  v66 := Try.zeroValue147,
  t70 := Try.underlying151,
  a70 := Try.isAgg151,
  z70 := Try.sizeOf151,
  v70 := Try.zeroValue151,
  t76 := Try.underlying155,
  a76 := Try.isAgg155,
  z76 := Try.sizeOf155,
  v76 := Try.zeroValue155,
  t77 := Try.underlying156,
  a77 := Try.isAgg156,
  z77 := Try.sizeOf156,
  v77 := Try.zeroValue156 }
theorem lt_hcmpS (x y : HI ByteArray) : ltOf hcmpS x y = decide (x.lt y) := by
  unfold ltOf hcmpS
  by_cases h1 : x.lt y
  · simp [h1]
  · by_cases h2 : y.lt x <;> simp [h1, h2]
theorem swo_hcmpS : SWO (ltOf hcmpS) where
  irrefl x := by rw [lt_hcmpS]; simp [HI.irr]
  trans x y z h1 h2 := by rw [lt_hcmpS] at *; simp only [decide_eq_true_eq] at *; exact HI.tr h1 h2
  ntrans x y z h1 h2 := by rw [lt_hcmpS] at *; simp only [decide_eq_false_iff_not] at *; exact HI.le_tr h2 h1
theorem hp_sortS {n b cap : Nat} {l : List (HI ByteArray)} (hn : n ≤ 1000000000) (hl : l.length = n) (h0 : 0 < n) :
    Tri Try.prog 58 #[.slice (some ⟨b, 0, none⟩) n cap, .func (.func 59) #[] #[]] [rowR 103 4 (.slice (some ⟨b, 0, none⟩) n cap) n (l.flatMap hcS)]
      (PostE (ι := List (HI ByteArray)) (fun d => d.Perm l ∧ d.Pairwise fun x y => ltOf hcmpS y x = false) (fun _ => .tuple #[]) fun d => [rowR 103 4 (.slice (some ⟨b, 0, none⟩) n cap) n (d.flatMap hcS)]) := by
  have eg : ∀ args w, (callFunc 59 args).run Try.prog w = .ok (.enter 59 args) w := enters_of Try.func59 (by kernel_rfl) rfl
  have h := tri_sortK (E := 103) Try.sortS Try.isAgg103 Try.sizeOf103 (enc := hcS) (fun _ => rfl) (fun x v hv => by simp at hv; rcases hv with rfl | rfl | rfl | rfl <;> rfl) hcmpS swo_hcmpS 59 eg (fun x y W => cmp_gS x y W) (b := b) (cap := cap) hl h0 hn
  change Tri Try.prog 58 _ _ _ at h
  exact h
theorem hp_sort0S {p : Option Addr} {n cap : Nat} {fv : Value} (hz : n = 0) : Tri Try.prog 58 #[.slice p n cap, fv] [] (Same [] (.tuple #[])) := by
  subst hz
  have h := tri_sort0 Try.sortS p cap fv
  change Tri Try.prog 58 _ _ _ at h
  exact h
theorem sorted_rowS {L d l : List (HI ByteArray)} (h : d.Perm l) (hs : d.Pairwise fun x y => ltOf hcmpS y x = false) (hL : L.Perm l) (h2 : L.Pairwise HI.lt) : d = L := by
  have hnd : (d.map HI.came).Nodup ∨ True := .inr trivial
  have hp : d.Perm L := h.trans hL.symm
  refine HI.eq_of_sorted hp ?_ h2
  have hd : d.Pairwise fun x y => x.lt y ∨ y.lt x := by
    refine (List.Perm.pairwise_iff (fun {x y} q => q.symm) hp).2 (h2.imp fun q => .inl q)
  refine (hs.and hd).imp fun {x y} ⟨q1, q2⟩ => ?_
  rw [lt_hcmpS] at q1
  exact q2.resolve_right (by simpa using q1)

set_option maxHeartbeats 8000000 in
set_option maxRecDepth 100000 in
theorem hp_OrderS {b n : Nat} {S : List (KR ByteArray)} (hn : n ≤ 1000000000) : Tri Try.prog 24 #[pV b 0] [hpS b S n] (PostE (fun _ => True) id fun v => [hpS b S n, rowR 9 1 v (S.map (·.1)).length ((S.map (·.1)).map Value.string)]) := by
  refine Tri.enter (args := [pV b 0]) Try.func24 rfl rfl rfl (fun B wz => ?_)
  refine Cd.openS ?_; intro v mb l mp came hS
  refine Cd.fact (i := 2) rfl row_slice ?_; rintro ⟨a0, cap, rfl, hcap, hcap2⟩
  have hln := hS.ln; have hc0 := hS.c0; have hcn := hS.cn; have hlen := hS.len
  refine Cd.seq ?_
  refine Cd.region rfl ?_
  refine Sq.vals [0] (rest := []) [.slice none 0 0] (fun w => by kernel_rfl) ?_
  refine Sq.done ?_
  refine Ex'.next ?_
  refine Cd.seq ?_
  refine Cd.region rfl ?_
  refine Sq.vals [0, 1, 2] (rest := [3, 4, 5]) [pV b 0, pV b 0, pV b 0] (fun w => by kernel_rfl) ?_
  refine Sq.same [0] (l := [blkR b [.slice a0 l.length cap, .map (some mb), iV came] 100]) (o_load (i := 0) (v := .slice a0 l.length cap) (by kernel_rfl) (by kernel_rfl) (by kernel_rfl)) (by kernel_rfl) rfl (by kernel_rfl) rfl ?_
  refine Sq.ex [2] (l := [rowR 103 4 (.slice a0 l.length cap) l.length (l.flatMap hcS)]) (o_call (by kernel_rfl) Try.call57 (hp_cloneS (v := .slice a0 l.length cap) (n := l.length) (l := l) (by omega) (by omega))) (by kernel_rfl) rfl (by kernel_rfl) (fun _ => Nat.le_of_ble_eq_true (by kernel_rfl)) ?_; rintro v1 _
  refine Sq.fact (i := 3) (R := rowR 103 4 v1 l.length (l.flatMap hcS)) (by kernel_rfl) row_slice ?_; rintro ⟨a2, c3, rfl, hc3, hc3'⟩
  have hc3'' : c3 ≤ 9223372036854775807 := hc3'
  refine Sq.vals [5] (rest := []) [.slice a2 l.length c3] (fun w => by kernel_rfl) ?_
  refine Sq.done ?_
  refine Ex'.next ?_
  refine Cd.seq ?_
  refine Cd.region rfl ?_
  refine Sq.vals [0] (rest := [1]) [.slice a2 l.length c3] (fun w => by kernel_rfl) ?_
  by_cases h4 : 0 < l.length
  ·
    refine Sq.fact (i := 2) (R := rowR 103 4 (.slice a0 l.length cap) l.length (l.flatMap hcS)) (by kernel_rfl) (row_addr (by omega)) ?_; rintro ⟨b5, rfl⟩
    refine Sq.fact (i := 3) (R := rowR 103 4 (.slice a2 l.length c3) l.length (l.flatMap hcS)) (by kernel_rfl) (row_addr (by omega)) ?_; rintro ⟨b6, rfl⟩
    refine Sq.ex [3] (l := [rowR 103 4 (.slice (some ⟨b6, 0, none⟩) l.length c3) l.length (l.flatMap hcS)]) (o_call (by kernel_rfl) Try.call58 (hp_sortS (n := l.length) (l := l) (by omega) (by omega) (by omega))) (by kernel_rfl) rfl (by kernel_rfl) (fun _ => Nat.le_of_ble_eq_true (by kernel_rfl)) ?_; rintro d7 ⟨hd1, hd2⟩
    have hdlen := hd1.length_eq
    refine Sq.done ?_
    refine Ex'.next ?_
    refine Cd.seq ?_
    refine Cd.region rfl ?_
    refine Sq.vals [0] (rest := []) [.slice none 0 0] (fun w => by kernel_rfl) ?_
    refine Sq.done ?_
    refine Ex'.next ?_
    refine Cd.seq ?_
    refine Cd.seq ?_
    refine Cd.region rfl ?_
    refine Sq.vals [0, 1, 2] (rest := []) [.slice (some ⟨b6, 0, none⟩) l.length c3, iV (l.length : Int), iV 0] (fun w => by kernel_rfl) ?_
    refine Sq.done ?_
    refine Ex'.next ?_
    refine Cd.block ?_
    refine Cd.nilRow 9 1 ?_
    refine Cd.loop (ι := Nat × Value × (List ByteArray)) (fun ⟨k, rv, rw⟩ => k ≤ l.length ∧ rw = (d7.take k).map HI.key) (fun ⟨k, rv, rw⟩ => l.length - k) (fun ⟨k, rv, rw⟩ => [(2, .slice none 0 0), (14, .slice (some ⟨b6, 0, none⟩) l.length c3), (15, iV (l.length : Int)), (16, iV ((k : Nat) : Int)), (4, rv)]) (fun ⟨k, rv, rw⟩ => [blkR b [.slice (some ⟨b5, 0, none⟩) l.length cap, .map (some mb), iV came] 100, mapR Value.string (Value.int .i64) mb mp, rowR 103 4 (.slice (some ⟨b5, 0, none⟩) l.length cap) l.length (l.flatMap hcS), rowR 103 4 (.slice (some ⟨b6, 0, none⟩) l.length c3) l.length (d7.flatMap hcS), rowR 9 1 rv rw.length (rw.map Value.string)]) (0, .slice none 0 0, ([] : List ByteArray)) (⟨Nat.zero_le _, rfl⟩) (subB_eq (l := [2, 14, 15, 16, 4]) (by kernel_rfl)) (fun w hw => hw.pickB [0, 1, 2, 3, 4] (by kernel_rfl) (by kernel_rfl) (by kernel_rfl)) ?_
    rintro ⟨k, rv, rw⟩ hL8
    try dsimp only at hL8 ⊢
    obtain ⟨hk, hrw⟩ := hL8
    have hrl : rw.length ≤ l.length := by rw [hrw, List.length_map, List.length_take]; first | omega | (have := hd1.length_eq; omega)
    refine Cd.fact (i := 4) (R := rowR 9 1 rv rw.length (rw.map Value.string)) (by kernel_rfl) row_slice ?_; rintro ⟨a9, c10, rfl, hc10, hc10'⟩
    have hc10'' : c10 ≤ 9223372036854775807 := hc10'
    refine Cd.seq ?_
    refine Cd.region rfl ?_
    refine Sq.vals [0] (rest := []) [bV (decide (((k : Nat) : Int) < (l.length : Int)))] (fun w => by kernel_rfl) ?_
    refine Sq.done ?_
    refine Ex'.next ?_
    refine Cd.seq ?_
    refine Cd.case (p := ((k : Nat) : Int) < (l.length : Int)) (by kernel_rfl) (fun h11 => ?_) (fun h11 => ?_)
    ·
      refine Cd.skip ?_
      refine Ex'.next ?_
      refine Cd.seq ?_
      refine Cd.block ?_
      refine Cd.seq ?_
      refine Cd.region rfl ?_
      refine Sq.v (r := pV b6 (k * 4)) (o_idx (b := b6) (cap := c3) (e := 103) (off := 0) (n := l.length) (kd := .i64) (q := ((k : Nat) : Int)) (i := k) (size := 4) (j := k * 4) (by kernel_rfl) (by kernel_rfl) (by rfl) (by omega) Try.underlying98 (by kernel_rfl) (by omega)) rfl (by kernel_rfl) ?_
      refine Sq.same [3] (l := [rowR 103 4 (.slice (some ⟨b6, 0, none⟩) l.length c3) l.length (d7.flatMap hcS)]) (o_loadRowN (j := k * 4) [sV ((d7.getD k hzS).key), iV ((d7.getD k hzS).one), iV ((d7.getD k hzS).two), iV ((d7.getD k hzS).came)] (by kernel_rfl) (by first | omega | (simp only [List.length_set, List.length_append, List.length_take, List.length_singleton] <;> omega)) (by kernel_rfl) (rec_gets (f := hcS) (k := 4) (z := hzS) (l := d7) (i := k) (o := 0) (fun _ => rfl) (by first | omega | (simp only [List.length_set, List.length_append, List.length_take, List.length_singleton] <;> omega)) (Nat.le_of_ble_eq_true rfl) rfl)) (by kernel_rfl) rfl (by kernel_rfl) rfl ?_
      refine Sq.ex [] (l := []) (o_new [sV ⟨#[]⟩, iV 0, iV 0, iV 0] (fun w => by kernel_rfl)) (by kernel_rfl) rfl (by kernel_rfl) (fun _ => Nat.zero_le _) ?_; intro b12 _
      refine Sq.same [5] (l := [blkR b12 [sV ⟨#[]⟩, iV 0, iV 0, iV 0] 103]) (o_store (i := 0) (v := .agg #[sV ((d7.getD k hzS).key), iV ((d7.getD k hzS).one), iV ((d7.getD k hzS).two), iV ((d7.getD k hzS).came)]) (by kernel_rfl) (by kernel_rfl) (by kernel_rfl) (by kernel_rfl) (by kernel_rfl)) (by kernel_rfl) rfl (by kernel_rfl) rfl ?_
      refine Sq.done ?_
      refine Ex'.next ?_
      refine Cd.region rfl ?_
      refine Sq.vals [0, 1] (rest := [2, 3, 4, 5]) [.slice a9 rw.length c10, pV b12 0] (fun w => by kernel_rfl) ?_
      refine Sq.same [5] (l := [blkR b12 [sV ((d7.getD k hzS).key), iV ((d7.getD k hzS).one), iV ((d7.getD k hzS).two), iV ((d7.getD k hzS).came)] 103]) (o_load (i := 0) (v := sV ((d7.getD k hzS).key)) (by kernel_rfl) (by kernel_rfl) (by kernel_rfl)) (by kernel_rfl) rfl (by kernel_rfl) rfl ?_
      refine Sq.ex [] (l := []) (o_lit (sz := 1) (sV ⟨#[]⟩) [sV ((d7.getD k hzS).key)] Try.underlying47 (by kernel_rfl) (by kernel_rfl) (by kernel_rfl) (by kernel_rfl) (by kernel_rfl)) (by kernel_rfl) rfl (by kernel_rfl) (fun _ => Nat.zero_le _) ?_; intro b13 _
      refine Sq.ex [4, 6] (l := [rowR 9 1 (.slice a9 rw.length c10) rw.length (rw.map Value.string), blkR b13 [sV ((d7.getD k hzS).key)] 9]) (o_push (n' := (rw ++ [(d7.getD k hzS).key]).length) (xs' := (rw ++ [(d7.getD k hzS).key]).map Value.string) (by kernel_rfl) (by kernel_rfl) sl_str (by decide) rfl (by kernel_rfl) (by unfold maxLen; first | omega | (simp only [List.length_nil]; omega)) (by first | omega | (simp only [List.length_nil]; omega)) (by simp) (by simp)) (by kernel_rfl) rfl (by kernel_rfl) (fun _ => Nat.le_of_ble_eq_true (by kernel_rfl)) ?_; rintro v14 _
      refine Sq.fact (i := 4) (R := rowR 9 1 v14 ((rw ++ [(d7.getD k hzS).key]).length) ((rw ++ [(d7.getD k hzS).key]).map Value.string)) (by kernel_rfl) row_slice ?_; rintro ⟨a15, c16, rfl, hc16, hc16'⟩
      have hc16'' : c16 ≤ 9223372036854775807 := hc16'
      have hlen17 : (rw ++ [(d7.getD k hzS).key]).length = rw.length + 1 := by simp
      refine Sq.fact (i := 4) (R := rowR 9 1 (.slice a15 ((rw ++ [(d7.getD k hzS).key]).length) c16) ((rw ++ [(d7.getD k hzS).key]).length) ((rw ++ [(d7.getD k hzS).key]).map Value.string)) (by kernel_rfl) (row_addr (by simp)) ?_; rintro ⟨b18, rfl⟩
      refine Sq.vals [5] (rest := []) [.slice (some ⟨b18, 0, none⟩) ((rw ++ [(d7.getD k hzS).key]).length) c16] (fun w => by kernel_rfl) ?_
      refine Sq.done ?_
      refine Ex'.blockNormal ?_
      refine Ex'.next ?_
      refine Cd.region rfl ?_
      refine Sq.v (r := iV ((k + 1 : Nat) : Int)) (o_add (k := .i64) (a := ((k : Nat) : Int)) (b := 1) (c := ((k + 1 : Nat) : Int)) (by kernel_rfl) (by kernel_rfl) (w64 (by omega) (by omega))) rfl (by kernel_rfl) ?_
      refine Sq.vals [1] (rest := []) [iV ((k + 1 : Nat) : Int)] (fun w => by kernel_rfl) ?_
      refine Sq.done ?_
      refine Ex'.round (g := (k, .slice a9 rw.length c10, rw)) (k + 1, .slice (some ⟨b18, 0, none⟩) ((rw ++ [(d7.getD k hzS).key]).length) c16, rw ++ [(d7.getD k hzS).key]) ?_ ?_ (subB_eq (l := [2, 14, 15, 16, 4]) (by kernel_rfl)) (fun w hw => hw.pickB [0, 1, 2, 3, 4] (by kernel_rfl) (by kernel_rfl) (by kernel_rfl))
      · (try dsimp only); exact ⟨by omega, by rw [hrw, take_key (by first | omega | (have := hd1.length_eq; omega))]⟩
      · dsimp only; omega
    ·
      refine Cd.exit ?_
      refine Ex'.thenExit ?_
      refine Ex'.thenExit ?_
      refine Ex'.blockHit ?_
      refine Ex'.next ?_
      refine Cd.seq ?_
      refine Cd.region rfl ?_
      refine Sq.vals [0, 1] (rest := []) [.slice a9 rw.length c10, .slice a9 rw.length c10] (fun w => by kernel_rfl) ?_
      refine Sq.done ?_
      refine Ex'.next ?_
      refine Cd.ret ?_
      refine Ex'.ret Try.results24 (RVs.tmp (v := .slice a9 rw.length c10) (by kernel_rfl) (RVs.nil)) (fun w hw => ?_)
      obtain ⟨L0, hL1, hL2, hL3, hL4⟩ := hS.row
      have hdl : d7 = L0 := sorted_rowS hd1 hd2 hL1 hL2
      have hfin : rw = S.map (·.1) := by rw [hrw, List.take_of_length_le (by have := hd1.length_eq; omega), hdl, hL3, List.map_map]; rfl
      exact ⟨_, ⟨_, trivial, rfl, rfl⟩, St.hpS (b := b) (v := .slice (some ⟨b5, 0, none⟩) l.length cap) (mb := mb) (l := l) (mp := mp) (came := came) (Δ := [rowR 9 1 (.slice a9 rw.length c10) ((S.map (·.1)).length) ((S.map (·.1)).map Value.string)]) ((hw.conv 4 (R := rowR 9 1 (.slice a9 rw.length c10) rw.length (rw.map Value.string)) (R' := rowR 9 1 (.slice a9 rw.length c10) ((S.map (·.1)).length) ((S.map (·.1)).map Value.string)) (by kernel_rfl) (fun w T q => by rw [← hfin]; exact q)).pickB [0, 1, 2, 4] (by kernel_rfl) (by kernel_rfl) (by kernel_rfl)) hS⟩
  ·
    refine Sq.same [] (l := []) (o_call (by kernel_rfl) Try.call58 (hp_sort0S (p := a2) (n := l.length) (cap := c3) (fv := .func (.func 59) #[] #[]) (by omega))) (by kernel_rfl) rfl (by kernel_rfl) rfl ?_
    refine Sq.done ?_
    refine Ex'.next ?_
    refine Cd.seq ?_
    refine Cd.region rfl ?_
    refine Sq.vals [0] (rest := []) [.slice none 0 0] (fun w => by kernel_rfl) ?_
    refine Sq.done ?_
    refine Ex'.next ?_
    refine Cd.seq ?_
    refine Cd.seq ?_
    refine Cd.region rfl ?_
    refine Sq.vals [0, 1, 2] (rest := []) [.slice a2 l.length c3, iV (l.length : Int), iV 0] (fun w => by kernel_rfl) ?_
    refine Sq.done ?_
    refine Ex'.next ?_
    refine Cd.block ?_
    refine Cd.nilRow 9 1 ?_
    refine Cd.loop (ι := Nat × Value × (List ByteArray)) (fun ⟨k, rv, rw⟩ => k ≤ l.length ∧ rw = (l.take k).map HI.key) (fun ⟨k, rv, rw⟩ => l.length - k) (fun ⟨k, rv, rw⟩ => [(2, .slice none 0 0), (14, .slice a2 l.length c3), (15, iV (l.length : Int)), (16, iV ((k : Nat) : Int)), (4, rv)]) (fun ⟨k, rv, rw⟩ => [blkR b [.slice a0 l.length cap, .map (some mb), iV came] 100, mapR Value.string (Value.int .i64) mb mp, rowR 103 4 (.slice a0 l.length cap) l.length (l.flatMap hcS), rowR 103 4 (.slice a2 l.length c3) l.length (l.flatMap hcS), rowR 9 1 rv rw.length (rw.map Value.string)]) (0, .slice none 0 0, ([] : List ByteArray)) (⟨Nat.zero_le _, rfl⟩) (subB_eq (l := [2, 14, 15, 16, 4]) (by kernel_rfl)) (fun w hw => hw.pickB [0, 1, 2, 3, 4] (by kernel_rfl) (by kernel_rfl) (by kernel_rfl)) ?_
    rintro ⟨k, rv, rw⟩ hL19
    try dsimp only at hL19 ⊢
    obtain ⟨hk, hrw⟩ := hL19
    have hrl : rw.length ≤ l.length := by rw [hrw, List.length_map, List.length_take]; first | omega | (have := hd1.length_eq; omega)
    refine Cd.fact (i := 4) (R := rowR 9 1 rv rw.length (rw.map Value.string)) (by kernel_rfl) row_slice ?_; rintro ⟨a20, c21, rfl, hc21, hc21'⟩
    have hc21'' : c21 ≤ 9223372036854775807 := hc21'
    refine Cd.seq ?_
    refine Cd.region rfl ?_
    refine Sq.vals [0] (rest := []) [bV (decide (((k : Nat) : Int) < (l.length : Int)))] (fun w => by kernel_rfl) ?_
    refine Sq.done ?_
    refine Ex'.next ?_
    refine Cd.seq ?_
    refine Cd.case (p := ((k : Nat) : Int) < (l.length : Int)) (by kernel_rfl) (fun h22 => ?_) (fun h22 => ?_)
    ·
      exfalso; omega
    ·
      refine Cd.exit ?_
      refine Ex'.thenExit ?_
      refine Ex'.thenExit ?_
      refine Ex'.blockHit ?_
      refine Ex'.next ?_
      refine Cd.seq ?_
      refine Cd.region rfl ?_
      refine Sq.vals [0, 1] (rest := []) [.slice a20 rw.length c21, .slice a20 rw.length c21] (fun w => by kernel_rfl) ?_
      refine Sq.done ?_
      refine Ex'.next ?_
      refine Cd.ret ?_
      refine Ex'.ret Try.results24 (RVs.tmp (v := .slice a20 rw.length c21) (by kernel_rfl) (RVs.nil)) (fun w hw => ?_)
      obtain ⟨L0, hL1, hL2, hL3, hL4⟩ := hS.row
      have hl0 : l = [] := List.eq_nil_of_length_eq_zero (by omega)
      have hS0 : S = [] := List.eq_nil_of_length_eq_zero (by omega)
      have hfin : rw = S.map (·.1) := by rw [hrw, hl0, hS0]; simp
      exact ⟨_, ⟨_, trivial, rfl, rfl⟩, St.hpS (b := b) (v := .slice a0 l.length cap) (mb := mb) (l := l) (mp := mp) (came := came) (Δ := [rowR 9 1 (.slice a20 rw.length c21) ((S.map (·.1)).length) ((S.map (·.1)).map Value.string)]) ((hw.conv 4 (R := rowR 9 1 (.slice a20 rw.length c21) rw.length (rw.map Value.string)) (R' := rowR 9 1 (.slice a20 rw.length c21) ((S.map (·.1)).length) ((S.map (·.1)).map Value.string)) (by kernel_rfl) (fun w T q => by rw [← hfin]; exact q)).pickB [0, 1, 2, 4] (by kernel_rfl) (by kernel_rfl) (by kernel_rfl)) hS⟩
set_option maxHeartbeats 8000000 in
set_option maxRecDepth 100000 in
theorem hp_cloneAI   : Tri Try.prog 63 #[.slice none 0 0] [rowR 116 4 (.slice none 0 0) 0 (([] : List (HI Int)).flatMap hcI)] (PostE (fun _ => True) id fun v => [rowR 116 4 (.slice none 0 0) 0 (([] : List (HI Int)).flatMap hcI), rowR 116 4 v 0 (([] : List (HI Int)).flatMap hcI)]) := by
  refine Tri.enter (args := [.slice none 0 0]) Try.func63 rfl rfl rfl (fun B wz => ?_)
  refine Cd.seq ?_
  refine Cd.region rfl ?_
  refine Sq.vals [0] (rest := []) [.slice none 0 0] (fun w => by kernel_rfl) ?_
  refine Sq.done ?_
  refine Ex'.next ?_
  refine Cd.seq ?_
  refine Cd.seq ?_
  refine Cd.region rfl ?_
  refine Sq.vals [0, 1] (rest := []) [.slice none 0 0, bV true] (fun w => by kernel_rfl) ?_
  refine Sq.done ?_
  refine Ex'.next ?_
  refine Cd.condT (by kernel_rfl) ?_
  refine Cd.seq ?_
  refine Cd.region rfl ?_
  refine Sq.vals [0] (rest := []) [.slice none 0 0] (fun w => by kernel_rfl) ?_
  refine Sq.done ?_
  refine Ex'.next ?_
  refine Cd.ret ?_
  refine Ex'.thenRet ?_
  refine Ex'.ret Try.results63 (RVs.tmp (v := .slice none 0 0) (by kernel_rfl) (RVs.nil)) (fun w hw => ?_)
  have hr := hw.nilRow 116 4
  exact ⟨_, ⟨_, trivial, rfl, rfl⟩, hr.pickB [0, 1] (by kernel_rfl) (by kernel_rfl) (by kernel_rfl)⟩

set_option maxHeartbeats 8000000 in
set_option maxRecDepth 100000 in
theorem hp_cloneBI {rb n cap : Nat} {l : List (HI Int)} (hn : n ≤ 1000000000) : Tri Try.prog 63 #[.slice (some ⟨rb, 0, none⟩) n cap] [rowR 116 4 (.slice (some ⟨rb, 0, none⟩) n cap) n (l.flatMap hcI)] (PostE (fun _ => True) id fun v => [rowR 116 4 (.slice (some ⟨rb, 0, none⟩) n cap) n (l.flatMap hcI), rowR 116 4 v n (l.flatMap hcI)]) := by
  refine Tri.enter (args := [.slice (some ⟨rb, 0, none⟩) n cap]) Try.func63 rfl rfl rfl (fun B wz => ?_)
  refine Cd.seq ?_
  refine Cd.region rfl ?_
  refine Sq.vals [0] (rest := []) [.slice none 0 0] (fun w => by kernel_rfl) ?_
  refine Sq.done ?_
  refine Ex'.next ?_
  refine Cd.seq ?_
  refine Cd.seq ?_
  refine Cd.region rfl ?_
  refine Sq.vals [0, 1] (rest := []) [.slice (some ⟨rb, 0, none⟩) n cap, bV false] (fun w => by kernel_rfl) ?_
  refine Sq.done ?_
  refine Ex'.next ?_
  refine Cd.condF (by kernel_rfl) ?_
  refine Cd.skip ?_
  refine Ex'.next ?_
  refine Cd.seq ?_
  refine Cd.region rfl ?_
  refine Sq.ex [] (l := []) (o_lit0 (size := 4) Try.underlying112 (by kernel_rfl)) (by kernel_rfl) rfl (by kernel_rfl) (fun _ => Nat.zero_le _) ?_; intro b1 _
  refine Sq.vals [1] (rest := [2, 3]) [.slice (some ⟨rb, 0, none⟩) n cap] (fun w => by kernel_rfl) ?_
  refine Sq.ex [1, 0] (l := [rowR 116 4 (.slice (some ⟨b1, 0, none⟩) 0 0) 0 (([] : List (HI Int)).flatMap hcI), rowR 116 4 (.slice (some ⟨rb, 0, none⟩) n cap) n (l.flatMap hcI)]) (o_pushAll (n' := n) (xs' := l.flatMap hcI) (m := n) (news := l.flatMap hcI) (by kernel_rfl) (by kernel_rfl) (fun w S h => ⟨S, Row.cells h⟩) sl_itemI (by decide) (recs_one (f := hcI) (fun _ => rfl) _) (by unfold maxLen; omega) (by omega) (by omega) (by first | rfl | rw [List.flatMap_append])) (by kernel_rfl) rfl (by kernel_rfl) (fun _ => Nat.le_of_ble_eq_true (by kernel_rfl)) ?_; rintro v2 _
  refine Sq.fact (i := 1) (R := rowR 116 4 v2 n (l.flatMap hcI)) (by kernel_rfl) row_slice ?_; rintro ⟨a3, c4, rfl, hc4, hc4'⟩
  have hc4'' : c4 ≤ 9223372036854775807 := hc4'
  refine Sq.vals [3] (rest := []) [.slice a3 n c4] (fun w => by kernel_rfl) ?_
  refine Sq.done ?_
  refine Ex'.next ?_
  refine Cd.ret ?_
  refine Ex'.ret Try.results63 (RVs.tmp (v := .slice a3 n c4) (by kernel_rfl) (RVs.nil)) (fun w hw => ?_)
  exact ⟨_, ⟨_, trivial, rfl, rfl⟩, hw.pickB [0, 1] (by kernel_rfl) (by kernel_rfl) (by kernel_rfl)⟩

theorem hp_cloneI {v : Value} {n : Nat} {l : List (HI Int)} (hn : n ≤ 1000000000) (hl : l.length = n) : Tri Try.prog 63 #[v] [rowR 116 4 v n (l.flatMap hcI)] (PostE (fun _ => True) id fun v' => [rowR 116 4 v n (l.flatMap hcI), rowR 116 4 v' n (l.flatMap hcI)]) := by
  refine Tri.rowCases (fun e1 e2 _ => ?_) (fun b cap e _ _ => ?_)
  · subst e1 e2
    have : l = [] := List.eq_nil_of_length_eq_zero hl
    subst this
    exact hp_cloneAI
  · subst e; exact hp_cloneBI hn

instance : Inhabited (HI Int) := ⟨hzI⟩
def Try.sortI_ren : Go.Shelf.Ren := ⟨fun | 6 => 64 | 15 => 72 | 14 => 74 | 28 => 83 | 29 => 84 | 20 => 85 | 21 => 86 | 22 => 87 | 23 => 88 | 24 => 89 | 25 => 90 | 26 => 91 | 27 => 92 | 46 => 98 | 47 => 94 | 48 => 95 | 49 => 99 | 50 => 100 | 57 => 102 | n => n, fun | 22 => 112 | 24 => 116 | 25 => 121 | 3 => 3 | 39 => 129 | 0 => 0 | 53 => 139 | 55 => 141 | 4 => 4 | 46 => 133 | 45 => 132 | 50 => 101 | 5 => 5 | 9 => 9 | 66 => 147 | 70 => 151 | 76 => 155 | 77 => 156 | n => n, fun | n => n⟩
theorem Try.sortI : SlLaysF0.n6 Try.prog Try.sortI_ren := {
  mixed := by kernel_rfl,
  f6 := by first | exact Try.func64.trans (congrArg some (by kernel_rfl)) | exact ⟨Try.f64.name, by decide, Try.func64.trans (congrArg some (by kernel_rfl))⟩,
  f14 := by first | exact Try.func74.trans (congrArg some (by kernel_rfl)) | exact ⟨Try.f74.name, by decide, Try.func74.trans (congrArg some (by kernel_rfl))⟩,
  f15 := by first | exact Try.func72.trans (congrArg some (by kernel_rfl)) | exact ⟨Try.f72.name, by decide, Try.func72.trans (congrArg some (by kernel_rfl))⟩,
  f20 := by first | exact Try.func85.trans (congrArg some (by kernel_rfl)) | exact ⟨Try.f85.name, by decide, Try.func85.trans (congrArg some (by kernel_rfl))⟩,
  f21 := by first | exact Try.func86.trans (congrArg some (by kernel_rfl)) | exact ⟨Try.f86.name, by decide, Try.func86.trans (congrArg some (by kernel_rfl))⟩,
  f22 := by first | exact Try.func87.trans (congrArg some (by kernel_rfl)) | exact ⟨Try.f87.name, by decide, Try.func87.trans (congrArg some (by kernel_rfl))⟩,
  f23 := by first | exact Try.func88.trans (congrArg some (by kernel_rfl)) | exact ⟨Try.f88.name, by decide, Try.func88.trans (congrArg some (by kernel_rfl))⟩,
  f24 := by first | exact Try.func89.trans (congrArg some (by kernel_rfl)) | exact ⟨Try.f89.name, by decide, Try.func89.trans (congrArg some (by kernel_rfl))⟩,
  f25 := by first | exact Try.func90.trans (congrArg some (by kernel_rfl)) | exact ⟨Try.f90.name, by decide, Try.func90.trans (congrArg some (by kernel_rfl))⟩,
  f26 := by first | exact Try.func91.trans (congrArg some (by kernel_rfl)) | exact ⟨Try.f91.name, by decide, Try.func91.trans (congrArg some (by kernel_rfl))⟩,
  f27 := by first | exact Try.func92.trans (congrArg some (by kernel_rfl)) | exact ⟨Try.f92.name, by decide, Try.func92.trans (congrArg some (by kernel_rfl))⟩,
  f28 := by first | exact Try.func83.trans (congrArg some (by kernel_rfl)) | exact ⟨Try.f83.name, by decide, Try.func83.trans (congrArg some (by kernel_rfl))⟩,
  f29 := by first | exact Try.func84.trans (congrArg some (by kernel_rfl)) | exact ⟨Try.f84.name, by decide, Try.func84.trans (congrArg some (by kernel_rfl))⟩,
  f46 := by first | exact Try.func98.trans (congrArg some (by kernel_rfl)) | exact ⟨Try.f98.name, by decide, Try.func98.trans (congrArg some (by kernel_rfl))⟩,
  f47 := by first | exact Try.func94.trans (congrArg some (by kernel_rfl)) | exact ⟨Try.f94.name, by decide, Try.func94.trans (congrArg some (by kernel_rfl))⟩,
  f48 := by first | exact Try.func95.trans (congrArg some (by kernel_rfl)) | exact ⟨Try.f95.name, by decide, Try.func95.trans (congrArg some (by kernel_rfl))⟩,
  f49 := by first | exact Try.func99.trans (congrArg some (by kernel_rfl)) | exact ⟨Try.f99.name, by decide, Try.func99.trans (congrArg some (by kernel_rfl))⟩,
  f50 := by first | exact Try.func100.trans (congrArg some (by kernel_rfl)) | exact ⟨Try.f100.name, by decide, Try.func100.trans (congrArg some (by kernel_rfl))⟩,
  f57 := by first | exact Try.func102.trans (congrArg some (by kernel_rfl)) | exact ⟨Try.f102.name, by decide, Try.func102.trans (congrArg some (by kernel_rfl))⟩,
  t0 := Try.underlying0,
  a0 := Try.isAgg0,
  z0 := Try.sizeOf0,
  v0 := Try.zeroValue0,
  t3 := Try.underlying3,
  a3 := Try.isAgg3,
  z3 := Try.sizeOf3,
  v3 := Try.zeroValue3,
  t4 := Try.underlying4,
  a4 := Try.isAgg4,
  z4 := Try.sizeOf4,
  v4 := Try.zeroValue4,
  t5 := Try.underlying5,
  a5 := Try.isAgg5,
  z5 := Try.sizeOf5,
  v5 := Try.zeroValue5,
  t9 := Try.underlying9,
  a9 := Try.isAgg9,
  z9 := Try.sizeOf9,
  v9 := Try.zeroValue9,
  t22 := Try.underlying112,
  a22 := Try.isAgg112,
  z22 := Try.sizeOf112,
  v22 := Try.zeroValue112,
  t25 := Try.underlying121,
  a25 := Try.isAgg121,
  z25 := Try.sizeOf121,
  v25 := Try.zeroValue121,
  t39 := Try.underlying129,
  a39 := Try.isAgg129,
  z39 := Try.sizeOf129,
  v39 := Try.zeroValue129,
  t45 := Try.underlying132,
  a45 := Try.isAgg132,
  z45 := Try.sizeOf132,
  v45 := Try.zeroValue132,
  t46 := Try.underlying133,
  a46 := Try.isAgg133,
  z46 := Try.sizeOf133,
  v46 := Try.zeroValue133,
  t50 := Try.underlying101,
  a50 := Try.isAgg101,
  z50 := Try.sizeOf101,
  v50 := Try.zeroValue101,
  t53 := Try.underlying139,
  a53 := Try.isAgg139,
  z53 := Try.sizeOf139,
  v53 := Try.zeroValue139,
  t55 := Try.underlying141,
  a55 := Try.isAgg141,
  z55 := Try.sizeOf141,
  v55 := Try.zeroValue141,
  t66 := Try.underlying147,
  a66 := Try.isAgg147,
  z66 := Try.sizeOf147,
  v66 := Try.zeroValue147,
  t70 := Try.underlying151,
  a70 := Try.isAgg151,
  z70 := Try.sizeOf151,
  v70 := Try.zeroValue151,
  t76 := Try.underlying155,
  a76 := Try.isAgg155,
  z76 := Try.sizeOf155,
  v76 := Try.zeroValue155,
  t77 := Try.underlying156,
  a77 := Try.isAgg156,
  z77 := Try.sizeOf156,
  v77 := Try.zeroValue156 }
theorem lt_hcmpI (x y : HI Int) : ltOf hcmpI x y = decide (x.lt y) := by
  unfold ltOf hcmpI
  by_cases h1 : x.lt y
  · simp [h1]
  · by_cases h2 : y.lt x <;> simp [h1, h2]
theorem swo_hcmpI : SWO (ltOf hcmpI) where
  irrefl x := by rw [lt_hcmpI]; simp [HI.irr]
  trans x y z h1 h2 := by rw [lt_hcmpI] at *; simp only [decide_eq_true_eq] at *; exact HI.tr h1 h2
  ntrans x y z h1 h2 := by rw [lt_hcmpI] at *; simp only [decide_eq_false_iff_not] at *; exact HI.le_tr h2 h1
theorem hp_sortI {n b cap : Nat} {l : List (HI Int)} (hn : n ≤ 1000000000) (hl : l.length = n) (h0 : 0 < n) :
    Tri Try.prog 64 #[.slice (some ⟨b, 0, none⟩) n cap, .func (.func 65) #[] #[]] [rowR 116 4 (.slice (some ⟨b, 0, none⟩) n cap) n (l.flatMap hcI)]
      (PostE (ι := List (HI Int)) (fun d => d.Perm l ∧ d.Pairwise fun x y => ltOf hcmpI y x = false) (fun _ => .tuple #[]) fun d => [rowR 116 4 (.slice (some ⟨b, 0, none⟩) n cap) n (d.flatMap hcI)]) := by
  have eg : ∀ args w, (callFunc 65 args).run Try.prog w = .ok (.enter 65 args) w := enters_of Try.func65 (by kernel_rfl) rfl
  have h := tri_sortK (E := 116) Try.sortI Try.isAgg116 Try.sizeOf116 (enc := hcI) (fun _ => rfl) (fun x v hv => by simp at hv; rcases hv with rfl | rfl | rfl | rfl <;> rfl) hcmpI swo_hcmpI 65 eg (fun x y W => cmp_gI x y W) (b := b) (cap := cap) hl h0 hn
  change Tri Try.prog 64 _ _ _ at h
  exact h
theorem hp_sort0I {p : Option Addr} {n cap : Nat} {fv : Value} (hz : n = 0) : Tri Try.prog 64 #[.slice p n cap, fv] [] (Same [] (.tuple #[])) := by
  subst hz
  have h := tri_sort0 Try.sortI p cap fv
  change Tri Try.prog 64 _ _ _ at h
  exact h
theorem sorted_rowI {L d l : List (HI Int)} (h : d.Perm l) (hs : d.Pairwise fun x y => ltOf hcmpI y x = false) (hL : L.Perm l) (h2 : L.Pairwise HI.lt) : d = L := by
  have hnd : (d.map HI.came).Nodup ∨ True := .inr trivial
  have hp : d.Perm L := h.trans hL.symm
  refine HI.eq_of_sorted hp ?_ h2
  have hd : d.Pairwise fun x y => x.lt y ∨ y.lt x := by
    refine (List.Perm.pairwise_iff (fun {x y} q => q.symm) hp).2 (h2.imp fun q => .inl q)
  refine (hs.and hd).imp fun {x y} ⟨q1, q2⟩ => ?_
  rw [lt_hcmpI] at q1
  exact q2.resolve_right (by simpa using q1)

abbrev hcI1 (x : Int) : List Value := [iV x]
theorem sl_intR : ElemT Try.prog 60 3 1 8 := elemT (z := .int .i64 0) Try.underlying60 (by kernel_rfl) rfl
set_option maxHeartbeats 8000000 in
set_option maxRecDepth 100000 in
theorem hp_OrderI {b n : Nat} {S : List (KR Int)} (hn : n ≤ 1000000000) : Tri Try.prog 28 #[pV b 0] [hpI b S n] (PostE (fun _ => True) id fun v => [hpI b S n, rowR 3 1 v (S.map (·.1)).length ((S.map (·.1)).flatMap hcI1)]) := by
  refine Tri.enter (args := [pV b 0]) Try.func28 rfl rfl rfl (fun B wz => ?_)
  refine Cd.openI ?_; intro v mb l mp came hS
  refine Cd.fact (i := 2) rfl row_slice ?_; rintro ⟨a0, cap, rfl, hcap, hcap2⟩
  have hln := hS.ln; have hc0 := hS.c0; have hcn := hS.cn; have hlen := hS.len
  refine Cd.seq ?_
  refine Cd.region rfl ?_
  refine Sq.vals [0] (rest := []) [.slice none 0 0] (fun w => by kernel_rfl) ?_
  refine Sq.done ?_
  refine Ex'.next ?_
  refine Cd.seq ?_
  refine Cd.region rfl ?_
  refine Sq.vals [0, 1, 2] (rest := [3, 4, 5]) [pV b 0, pV b 0, pV b 0] (fun w => by kernel_rfl) ?_
  refine Sq.same [0] (l := [blkR b [.slice a0 l.length cap, .map (some mb), iV came] 114]) (o_load (i := 0) (v := .slice a0 l.length cap) (by kernel_rfl) (by kernel_rfl) (by kernel_rfl)) (by kernel_rfl) rfl (by kernel_rfl) rfl ?_
  refine Sq.ex [2] (l := [rowR 116 4 (.slice a0 l.length cap) l.length (l.flatMap hcI)]) (o_call (by kernel_rfl) Try.call63 (hp_cloneI (v := .slice a0 l.length cap) (n := l.length) (l := l) (by omega) (by omega))) (by kernel_rfl) rfl (by kernel_rfl) (fun _ => Nat.le_of_ble_eq_true (by kernel_rfl)) ?_; rintro v1 _
  refine Sq.fact (i := 3) (R := rowR 116 4 v1 l.length (l.flatMap hcI)) (by kernel_rfl) row_slice ?_; rintro ⟨a2, c3, rfl, hc3, hc3'⟩
  have hc3'' : c3 ≤ 9223372036854775807 := hc3'
  refine Sq.vals [5] (rest := []) [.slice a2 l.length c3] (fun w => by kernel_rfl) ?_
  refine Sq.done ?_
  refine Ex'.next ?_
  refine Cd.seq ?_
  refine Cd.region rfl ?_
  refine Sq.vals [0] (rest := [1]) [.slice a2 l.length c3] (fun w => by kernel_rfl) ?_
  by_cases h4 : 0 < l.length
  ·
    refine Sq.fact (i := 2) (R := rowR 116 4 (.slice a0 l.length cap) l.length (l.flatMap hcI)) (by kernel_rfl) (row_addr (by omega)) ?_; rintro ⟨b5, rfl⟩
    refine Sq.fact (i := 3) (R := rowR 116 4 (.slice a2 l.length c3) l.length (l.flatMap hcI)) (by kernel_rfl) (row_addr (by omega)) ?_; rintro ⟨b6, rfl⟩
    refine Sq.ex [3] (l := [rowR 116 4 (.slice (some ⟨b6, 0, none⟩) l.length c3) l.length (l.flatMap hcI)]) (o_call (by kernel_rfl) Try.call64 (hp_sortI (n := l.length) (l := l) (by omega) (by omega) (by omega))) (by kernel_rfl) rfl (by kernel_rfl) (fun _ => Nat.le_of_ble_eq_true (by kernel_rfl)) ?_; rintro d7 ⟨hd1, hd2⟩
    have hdlen := hd1.length_eq
    refine Sq.done ?_
    refine Ex'.next ?_
    refine Cd.seq ?_
    refine Cd.region rfl ?_
    refine Sq.vals [0] (rest := []) [.slice none 0 0] (fun w => by kernel_rfl) ?_
    refine Sq.done ?_
    refine Ex'.next ?_
    refine Cd.seq ?_
    refine Cd.seq ?_
    refine Cd.region rfl ?_
    refine Sq.vals [0, 1, 2] (rest := []) [.slice (some ⟨b6, 0, none⟩) l.length c3, iV (l.length : Int), iV 0] (fun w => by kernel_rfl) ?_
    refine Sq.done ?_
    refine Ex'.next ?_
    refine Cd.block ?_
    refine Cd.nilRow 3 1 ?_
    refine Cd.loop (ι := Nat × Value × (List Int)) (fun ⟨k, rv, rw⟩ => k ≤ l.length ∧ rw = (d7.take k).map HI.key) (fun ⟨k, rv, rw⟩ => l.length - k) (fun ⟨k, rv, rw⟩ => [(2, .slice none 0 0), (14, .slice (some ⟨b6, 0, none⟩) l.length c3), (15, iV (l.length : Int)), (16, iV ((k : Nat) : Int)), (4, rv)]) (fun ⟨k, rv, rw⟩ => [blkR b [.slice (some ⟨b5, 0, none⟩) l.length cap, .map (some mb), iV came] 114, mapR (Value.int .i64) (Value.int .i64) mb mp, rowR 116 4 (.slice (some ⟨b5, 0, none⟩) l.length cap) l.length (l.flatMap hcI), rowR 116 4 (.slice (some ⟨b6, 0, none⟩) l.length c3) l.length (d7.flatMap hcI), rowR 3 1 rv rw.length (rw.flatMap hcI1)]) (0, .slice none 0 0, ([] : List Int)) (⟨Nat.zero_le _, rfl⟩) (subB_eq (l := [2, 14, 15, 16, 4]) (by kernel_rfl)) (fun w hw => hw.pickB [0, 1, 2, 3, 4] (by kernel_rfl) (by kernel_rfl) (by kernel_rfl)) ?_
    rintro ⟨k, rv, rw⟩ hL8
    try dsimp only at hL8 ⊢
    obtain ⟨hk, hrw⟩ := hL8
    have hrl : rw.length ≤ l.length := by rw [hrw, List.length_map, List.length_take]; first | omega | (have := hd1.length_eq; omega)
    refine Cd.fact (i := 4) (R := rowR 3 1 rv rw.length (rw.flatMap hcI1)) (by kernel_rfl) row_slice ?_; rintro ⟨a9, c10, rfl, hc10, hc10'⟩
    have hc10'' : c10 ≤ 9223372036854775807 := hc10'
    refine Cd.seq ?_
    refine Cd.region rfl ?_
    refine Sq.vals [0] (rest := []) [bV (decide (((k : Nat) : Int) < (l.length : Int)))] (fun w => by kernel_rfl) ?_
    refine Sq.done ?_
    refine Ex'.next ?_
    refine Cd.seq ?_
    refine Cd.case (p := ((k : Nat) : Int) < (l.length : Int)) (by kernel_rfl) (fun h11 => ?_) (fun h11 => ?_)
    ·
      refine Cd.skip ?_
      refine Ex'.next ?_
      refine Cd.seq ?_
      refine Cd.block ?_
      refine Cd.seq ?_
      refine Cd.region rfl ?_
      refine Sq.v (r := pV b6 (k * 4)) (o_idx (b := b6) (cap := c3) (e := 116) (off := 0) (n := l.length) (kd := .i64) (q := ((k : Nat) : Int)) (i := k) (size := 4) (j := k * 4) (by kernel_rfl) (by kernel_rfl) (by rfl) (by omega) Try.underlying112 (by kernel_rfl) (by omega)) rfl (by kernel_rfl) ?_
      refine Sq.same [3] (l := [rowR 116 4 (.slice (some ⟨b6, 0, none⟩) l.length c3) l.length (d7.flatMap hcI)]) (o_loadRowN (j := k * 4) [iV ((d7.getD k hzI).key), iV ((d7.getD k hzI).one), iV ((d7.getD k hzI).two), iV ((d7.getD k hzI).came)] (by kernel_rfl) (by first | omega | (simp only [List.length_set, List.length_append, List.length_take, List.length_singleton] <;> omega)) (by kernel_rfl) (rec_gets (f := hcI) (k := 4) (z := hzI) (l := d7) (i := k) (o := 0) (fun _ => rfl) (by first | omega | (simp only [List.length_set, List.length_append, List.length_take, List.length_singleton] <;> omega)) (Nat.le_of_ble_eq_true rfl) rfl)) (by kernel_rfl) rfl (by kernel_rfl) rfl ?_
      refine Sq.ex [] (l := []) (o_new [iV 0, iV 0, iV 0, iV 0] (fun w => by kernel_rfl)) (by kernel_rfl) rfl (by kernel_rfl) (fun _ => Nat.zero_le _) ?_; intro b12 _
      refine Sq.same [5] (l := [blkR b12 [iV 0, iV 0, iV 0, iV 0] 116]) (o_store (i := 0) (v := .agg #[iV ((d7.getD k hzI).key), iV ((d7.getD k hzI).one), iV ((d7.getD k hzI).two), iV ((d7.getD k hzI).came)]) (by kernel_rfl) (by kernel_rfl) (by kernel_rfl) (by kernel_rfl) (by kernel_rfl)) (by kernel_rfl) rfl (by kernel_rfl) rfl ?_
      refine Sq.done ?_
      refine Ex'.next ?_
      refine Cd.region rfl ?_
      refine Sq.vals [0, 1] (rest := [2, 3, 4, 5]) [.slice a9 rw.length c10, pV b12 0] (fun w => by kernel_rfl) ?_
      refine Sq.same [5] (l := [blkR b12 [iV ((d7.getD k hzI).key), iV ((d7.getD k hzI).one), iV ((d7.getD k hzI).two), iV ((d7.getD k hzI).came)] 116]) (o_load (i := 0) (v := iV ((d7.getD k hzI).key)) (by kernel_rfl) (by kernel_rfl) (by kernel_rfl)) (by kernel_rfl) rfl (by kernel_rfl) rfl ?_
      refine Sq.ex [] (l := []) (o_lit (sz := 1) (iV 0) [iV ((d7.getD k hzI).key)] Try.underlying60 (by kernel_rfl) (by kernel_rfl) (by kernel_rfl) (by kernel_rfl) (by kernel_rfl)) (by kernel_rfl) rfl (by kernel_rfl) (fun _ => Nat.zero_le _) ?_; intro b13 _
      refine Sq.ex [4, 6] (l := [rowR 3 1 (.slice a9 rw.length c10) rw.length (rw.flatMap hcI1), blkR b13 [iV ((d7.getD k hzI).key)] 3]) (o_push (n' := (rw ++ [(d7.getD k hzI).key]).length) (xs' := (rw ++ [(d7.getD k hzI).key]).flatMap hcI1) (by kernel_rfl) (by kernel_rfl) sl_intR (by decide) rfl (by kernel_rfl) (by unfold maxLen; first | omega | (simp only [List.length_nil]; omega)) (by first | omega | (simp only [List.length_nil]; omega)) (by simp) (by rw [List.flatMap_append]; rfl)) (by kernel_rfl) rfl (by kernel_rfl) (fun _ => Nat.le_of_ble_eq_true (by kernel_rfl)) ?_; rintro v14 _
      refine Sq.fact (i := 4) (R := rowR 3 1 v14 ((rw ++ [(d7.getD k hzI).key]).length) ((rw ++ [(d7.getD k hzI).key]).flatMap hcI1)) (by kernel_rfl) row_slice ?_; rintro ⟨a15, c16, rfl, hc16, hc16'⟩
      have hc16'' : c16 ≤ 9223372036854775807 := hc16'
      refine Sq.fact (i := 4) (R := rowR 3 1 (.slice a15 ((rw ++ [(d7.getD k hzI).key]).length) c16) ((rw ++ [(d7.getD k hzI).key]).length) ((rw ++ [(d7.getD k hzI).key]).flatMap hcI1)) (by kernel_rfl) (row_addr (by simp)) ?_; rintro ⟨b17, rfl⟩
      refine Sq.vals [5] (rest := []) [.slice (some ⟨b17, 0, none⟩) ((rw ++ [(d7.getD k hzI).key]).length) c16] (fun w => by kernel_rfl) ?_
      refine Sq.done ?_
      refine Ex'.blockNormal ?_
      refine Ex'.next ?_
      refine Cd.region rfl ?_
      refine Sq.v (r := iV ((k + 1 : Nat) : Int)) (o_add (k := .i64) (a := ((k : Nat) : Int)) (b := 1) (c := ((k + 1 : Nat) : Int)) (by kernel_rfl) (by kernel_rfl) (w64 (by omega) (by omega))) rfl (by kernel_rfl) ?_
      refine Sq.vals [1] (rest := []) [iV ((k + 1 : Nat) : Int)] (fun w => by kernel_rfl) ?_
      refine Sq.done ?_
      refine Ex'.round (g := (k, .slice a9 rw.length c10, rw)) (k + 1, .slice (some ⟨b17, 0, none⟩) ((rw ++ [(d7.getD k hzI).key]).length) c16, rw ++ [(d7.getD k hzI).key]) ?_ ?_ (subB_eq (l := [2, 14, 15, 16, 4]) (by kernel_rfl)) (fun w hw => hw.pickB [0, 1, 2, 3, 4] (by kernel_rfl) (by kernel_rfl) (by kernel_rfl))
      · (try dsimp only); exact ⟨by omega, by rw [hrw, take_key (by first | omega | (have := hd1.length_eq; omega))]⟩
      · dsimp only; omega
    ·
      refine Cd.exit ?_
      refine Ex'.thenExit ?_
      refine Ex'.thenExit ?_
      refine Ex'.blockHit ?_
      refine Ex'.next ?_
      refine Cd.seq ?_
      refine Cd.region rfl ?_
      refine Sq.vals [0, 1] (rest := []) [.slice a9 rw.length c10, .slice a9 rw.length c10] (fun w => by kernel_rfl) ?_
      refine Sq.done ?_
      refine Ex'.next ?_
      refine Cd.ret ?_
      refine Ex'.ret Try.results28 (RVs.tmp (v := .slice a9 rw.length c10) (by kernel_rfl) (RVs.nil)) (fun w hw => ?_)
      obtain ⟨L0, hL1, hL2, hL3, hL4⟩ := hS.row
      have hdl : d7 = L0 := sorted_rowI hd1 hd2 hL1 hL2
      have hfin : rw = S.map (·.1) := by rw [hrw, List.take_of_length_le (by have := hd1.length_eq; omega), hdl, hL3, List.map_map]; rfl
      exact ⟨_, ⟨_, trivial, rfl, rfl⟩, St.hpI (b := b) (v := .slice (some ⟨b5, 0, none⟩) l.length cap) (mb := mb) (l := l) (mp := mp) (came := came) (Δ := [rowR 3 1 (.slice a9 rw.length c10) ((S.map (·.1)).length) ((S.map (·.1)).flatMap hcI1)]) ((hw.conv 4 (R := rowR 3 1 (.slice a9 rw.length c10) rw.length (rw.flatMap hcI1)) (R' := rowR 3 1 (.slice a9 rw.length c10) ((S.map (·.1)).length) ((S.map (·.1)).flatMap hcI1)) (by kernel_rfl) (fun w T q => by rw [← hfin]; exact q)).pickB [0, 1, 2, 4] (by kernel_rfl) (by kernel_rfl) (by kernel_rfl)) hS⟩
  ·
    refine Sq.same [] (l := []) (o_call (by kernel_rfl) Try.call64 (hp_sort0I (p := a2) (n := l.length) (cap := c3) (fv := .func (.func 65) #[] #[]) (by omega))) (by kernel_rfl) rfl (by kernel_rfl) rfl ?_
    refine Sq.done ?_
    refine Ex'.next ?_
    refine Cd.seq ?_
    refine Cd.region rfl ?_
    refine Sq.vals [0] (rest := []) [.slice none 0 0] (fun w => by kernel_rfl) ?_
    refine Sq.done ?_
    refine Ex'.next ?_
    refine Cd.seq ?_
    refine Cd.seq ?_
    refine Cd.region rfl ?_
    refine Sq.vals [0, 1, 2] (rest := []) [.slice a2 l.length c3, iV (l.length : Int), iV 0] (fun w => by kernel_rfl) ?_
    refine Sq.done ?_
    refine Ex'.next ?_
    refine Cd.block ?_
    refine Cd.nilRow 3 1 ?_
    refine Cd.loop (ι := Nat × Value × (List Int)) (fun ⟨k, rv, rw⟩ => k ≤ l.length ∧ rw = (l.take k).map HI.key) (fun ⟨k, rv, rw⟩ => l.length - k) (fun ⟨k, rv, rw⟩ => [(2, .slice none 0 0), (14, .slice a2 l.length c3), (15, iV (l.length : Int)), (16, iV ((k : Nat) : Int)), (4, rv)]) (fun ⟨k, rv, rw⟩ => [blkR b [.slice a0 l.length cap, .map (some mb), iV came] 114, mapR (Value.int .i64) (Value.int .i64) mb mp, rowR 116 4 (.slice a0 l.length cap) l.length (l.flatMap hcI), rowR 116 4 (.slice a2 l.length c3) l.length (l.flatMap hcI), rowR 3 1 rv rw.length (rw.flatMap hcI1)]) (0, .slice none 0 0, ([] : List Int)) (⟨Nat.zero_le _, rfl⟩) (subB_eq (l := [2, 14, 15, 16, 4]) (by kernel_rfl)) (fun w hw => hw.pickB [0, 1, 2, 3, 4] (by kernel_rfl) (by kernel_rfl) (by kernel_rfl)) ?_
    rintro ⟨k, rv, rw⟩ hL18
    try dsimp only at hL18 ⊢
    obtain ⟨hk, hrw⟩ := hL18
    have hrl : rw.length ≤ l.length := by rw [hrw, List.length_map, List.length_take]; first | omega | (have := hd1.length_eq; omega)
    refine Cd.fact (i := 4) (R := rowR 3 1 rv rw.length (rw.flatMap hcI1)) (by kernel_rfl) row_slice ?_; rintro ⟨a19, c20, rfl, hc20, hc20'⟩
    have hc20'' : c20 ≤ 9223372036854775807 := hc20'
    refine Cd.seq ?_
    refine Cd.region rfl ?_
    refine Sq.vals [0] (rest := []) [bV (decide (((k : Nat) : Int) < (l.length : Int)))] (fun w => by kernel_rfl) ?_
    refine Sq.done ?_
    refine Ex'.next ?_
    refine Cd.seq ?_
    refine Cd.case (p := ((k : Nat) : Int) < (l.length : Int)) (by kernel_rfl) (fun h21 => ?_) (fun h21 => ?_)
    ·
      exfalso; omega
    ·
      refine Cd.exit ?_
      refine Ex'.thenExit ?_
      refine Ex'.thenExit ?_
      refine Ex'.blockHit ?_
      refine Ex'.next ?_
      refine Cd.seq ?_
      refine Cd.region rfl ?_
      refine Sq.vals [0, 1] (rest := []) [.slice a19 rw.length c20, .slice a19 rw.length c20] (fun w => by kernel_rfl) ?_
      refine Sq.done ?_
      refine Ex'.next ?_
      refine Cd.ret ?_
      refine Ex'.ret Try.results28 (RVs.tmp (v := .slice a19 rw.length c20) (by kernel_rfl) (RVs.nil)) (fun w hw => ?_)
      obtain ⟨L0, hL1, hL2, hL3, hL4⟩ := hS.row
      have hl0 : l = [] := List.eq_nil_of_length_eq_zero (by omega)
      have hS0 : S = [] := List.eq_nil_of_length_eq_zero (by omega)
      have hfin : rw = S.map (·.1) := by rw [hrw, hl0, hS0]; simp
      exact ⟨_, ⟨_, trivial, rfl, rfl⟩, St.hpI (b := b) (v := .slice a0 l.length cap) (mb := mb) (l := l) (mp := mp) (came := came) (Δ := [rowR 3 1 (.slice a19 rw.length c20) ((S.map (·.1)).length) ((S.map (·.1)).flatMap hcI1)]) ((hw.conv 4 (R := rowR 3 1 (.slice a19 rw.length c20) rw.length (rw.flatMap hcI1)) (R' := rowR 3 1 (.slice a19 rw.length c20) ((S.map (·.1)).length) ((S.map (·.1)).flatMap hcI1)) (by kernel_rfl) (fun w T q => by rw [← hfin]; exact q)).pickB [0, 1, 2, 4] (by kernel_rfl) (by kernel_rfl) (by kernel_rfl)) hS⟩

end Go.Proofs.Ytnnjccfcalgokaa
