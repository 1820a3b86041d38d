/- HpO, LfuW -/
import Derived.Test.YtholinnmjoelkaaGreatDoorM16
import Derived.Ground.SlsfProg
set_option linter.unusedVariables false
set_option linter.unusedSimpArgs false
namespace Go.Proofs.YtholinnmjoelkaaGreatDoor
set_option maxHeartbeats 8000000
set_option maxRecDepth 100000
open Go.Shelf Go.RowKit Go.MapKept Go.Lib Go.Sort
theorem take_key {κ : Type} {z : HI κ} {d : List (HI κ)} {k : Nat} (h : k < d.length) : (d.take (k + 1)).map HI.key = (d.take k).map HI.key ++ [(d.getD k z).key] := by
  rw [List.take_add_one, List.getElem?_eq_getElem h, getD_in h, List.map_append]; rfl
theorem hp_cloneAS   : Tri Tryz.prog 183 #[.slice none 0 0] [rowR 240 4 (.slice none 0 0) 0 (([] : List (HI ByteArray)).flatMap hcS)] (PostE (fun _ => True) id fun v => [rowR 240 4 (.slice none 0 0) 0 (([] : List (HI ByteArray)).flatMap hcS), rowR 240 4 v 0 (([] : List (HI ByteArray)).flatMap hcS)]) := by
  refine Tri.en (args := [.slice none 0 0]) Tryz.func183 (fun B wz => ?_)
  refine Cd.s1 (Sq.vl [0] [.slice none 0 0] (Sq.d4 (Cd.seq (Cd.s1 (Sq.vl [0, 1] [.slice none 0 0, bV true] (Sq.d4 (Cd.cT (Cd.s1 (Sq.vl [0] [.slice none 0 0] ?_)))))))))
  refine Sq.d4 (Cd.ret (Ex'.thenRet (Ex'.ret Tryz.results183 (RVs.tm (v := .slice none 0 0) RVs.nil) (fun w hw => ?_))))
  have hr := hw.nilRow 240 4
  exact ⟨_, ⟨_, trivial, rfl, rfl⟩, hr.pk [0, 1]⟩
theorem hp_cloneBS {rb n cap : Nat} {l : List (HI ByteArray)} (hn : n ≤ 1000000000) : Tri Tryz.prog 183 #[.slice (some ⟨rb, 0, none⟩) n cap] [rowR 240 4 (.slice (some ⟨rb, 0, none⟩) n cap) n (l.flatMap hcS)] (PostE (fun _ => True) id fun v => [rowR 240 4 (.slice (some ⟨rb, 0, none⟩) n cap) n (l.flatMap hcS), rowR 240 4 v n (l.flatMap hcS)]) := by
  refine Tri.en (args := [.slice (some ⟨rb, 0, none⟩) n cap]) Tryz.func183 (fun B wz => ?_)
  refine Cd.s1 (Sq.vl [0] [.slice none 0 0] (Sq.d4 (Cd.seq (Cd.s1 (Sq.vl [0, 1] [.slice (some ⟨rb, 0, none⟩) n cap, bV false] (Sq.d4 (Cd.cF (Cd.skip (Ex'.next (Cd.s1 ?_))))))))))
  refine Sq.e0 [] (l := []) (o_lit0 (size := 4) Tryz.underlying233 (by kernel_rfl)) rfl ?_; intro b1 _
  refine Sq.vl [1] [.slice (some ⟨rb, 0, none⟩) n cap] ?_
  refine Sq.e1 [1, 0] (l := [rowR 240 4 (.slice (some ⟨b1, 0, none⟩) 0 0) 0 (([] : List (HI ByteArray)).flatMap hcS), rowR 240 4 (.slice (some ⟨rb, 0, none⟩) n cap) n (l.flatMap hcS)]) (o_pushAll (n' := n) (xs' := l.flatMap hcS) (m := n) (news := l.flatMap hcS) (by kernel_rfl) (by kernel_rfl) (fun w S h => ⟨S, Row.cells h⟩) sl_itemS (by decide) (recs_one (f := hcS) (fun _ => rfl) _) (by unfold maxLen; omega) (by omega) (by omega) (by first | rfl | rw [List.flatMap_append])) rfl ?_; rintro v2 _
  refine Sq.fact (i := 1) (R := rowR 240 4 v2 n (l.flatMap hcS)) (by kernel_rfl) row_slice ?_; rintro ⟨a3, c4, rfl, hc4, hc4'⟩
  have hc4'' : c4 ≤ 9223372036854775807 := hc4'
  refine Sq.vl [3] [.slice a3 n c4] (Sq.d4 (Cd.ret (Ex'.ret Tryz.results183 (RVs.tm (v := .slice a3 n c4) RVs.nil) (fun w hw => ?_))))
  exact ⟨_, ⟨_, trivial, rfl, rfl⟩, hw.pk [0, 1]⟩
theorem hp_cloneS {v : Value} {n : Nat} {l : List (HI ByteArray)} (hn : n ≤ 1000000000) (hl : l.length = n) : Tri Tryz.prog 183 #[v] [rowR 240 4 v n (l.flatMap hcS)] (PostE (fun _ => True) id fun v' => [rowR 240 4 v n (l.flatMap hcS), rowR 240 4 v' n (l.flatMap hcS)]) := by
  refine Tri.rowCases (fun e1 e2 _ => ?_) (fun b cap e _ _ => ?_)
  · subst e1 e2
    have : l = [] := List.eq_nil_of_length_eq_zero hl
    subst this
    exact hp_cloneAS
  · subst e; exact hp_cloneBS hn
instance : Inhabited (HI ByteArray) := ⟨hzS⟩
def Tryz.sortS_ren : Go.Shelf.Ren := ⟨fun | 6 => 184 | 15 => 194 | 14 => 193 | 28 => 204 | 29 => 205 | 20 => 196 | 21 => 197 | 22 => 198 | 23 => 199 | 24 => 200 | 25 => 201 | 26 => 202 | 27 => 203 | 46 => 206 | 47 => 207 | 48 => 208 | 49 => 209 | 50 => 210 | 57 => 211 | n => n, fun | 22 => 233 | 24 => 240 | 25 => 246 | 3 => 3 | 39 => 251 | 0 => 0 | 53 => 261 | 55 => 263 | 4 => 4 | 46 => 255 | 45 => 254 | 50 => 229 | 5 => 5 | 9 => 9 | 66 => 264 | 70 => 268 | 76 => 270 | 77 => 271 | n => n, fun | n => n⟩
theorem Tryz.sortS : SlLaysF0.n6 Tryz.prog Tryz.sortS_ren := {
  mixed := by kernel_rfl,
  f6 := by first | exact Tryz.func184.trans (congrArg some (by kernel_rfl)) | exact ⟨Tryz.f184.name, by decide, Tryz.func184.trans (congrArg some (by kernel_rfl))⟩,
  f14 := by first | exact Tryz.func193.trans (congrArg some (by kernel_rfl)) | exact ⟨Tryz.f193.name, by decide, Tryz.func193.trans (congrArg some (by kernel_rfl))⟩,
  f15 := by first | exact Tryz.func194.trans (congrArg some (by kernel_rfl)) | exact ⟨Tryz.f194.name, by decide, Tryz.func194.trans (congrArg some (by kernel_rfl))⟩,
  f20 := by first | exact Tryz.func196.trans (congrArg some (by kernel_rfl)) | exact ⟨Tryz.f196.name, by decide, Tryz.func196.trans (congrArg some (by kernel_rfl))⟩,
  f21 := by first | exact Tryz.func197.trans (congrArg some (by kernel_rfl)) | exact ⟨Tryz.f197.name, by decide, Tryz.func197.trans (congrArg some (by kernel_rfl))⟩,
  f22 := by first | exact Tryz.func198.trans (congrArg some (by kernel_rfl)) | exact ⟨Tryz.f198.name, by decide, Tryz.func198.trans (congrArg some (by kernel_rfl))⟩,
  f23 := by first | exact Tryz.func199.trans (congrArg some (by kernel_rfl)) | exact ⟨Tryz.f199.name, by decide, Tryz.func199.trans (congrArg some (by kernel_rfl))⟩,
  f24 := by first | exact Tryz.func200.trans (congrArg some (by kernel_rfl)) | exact ⟨Tryz.f200.name, by decide, Tryz.func200.trans (congrArg some (by kernel_rfl))⟩,
  f25 := by first | exact Tryz.func201.trans (congrArg some (by kernel_rfl)) | exact ⟨Tryz.f201.name, by decide, Tryz.func201.trans (congrArg some (by kernel_rfl))⟩,
  f26 := by first | exact Tryz.func202.trans (congrArg some (by kernel_rfl)) | exact ⟨Tryz.f202.name, by decide, Tryz.func202.trans (congrArg some (by kernel_rfl))⟩,
  f27 := by first | exact Tryz.func203.trans (congrArg some (by kernel_rfl)) | exact ⟨Tryz.f203.name, by decide, Tryz.func203.trans (congrArg some (by kernel_rfl))⟩,
  f28 := by first | exact Tryz.func204.trans (congrArg some (by kernel_rfl)) | exact ⟨Tryz.f204.name, by decide, Tryz.func204.trans (congrArg some (by kernel_rfl))⟩,
  f29 := by first | exact Tryz.func205.trans (congrArg some (by kernel_rfl)) | exact ⟨Tryz.f205.name, by decide, Tryz.func205.trans (congrArg some (by kernel_rfl))⟩,
  f46 := by first | exact Tryz.func206.trans (congrArg some (by kernel_rfl)) | exact ⟨Tryz.f206.name, by decide, Tryz.func206.trans (congrArg some (by kernel_rfl))⟩,
  f47 := by first | exact Tryz.func207.trans (congrArg some (by kernel_rfl)) | exact ⟨Tryz.f207.name, by decide, Tryz.func207.trans (congrArg some (by kernel_rfl))⟩,
  f48 := by first | exact Tryz.func208.trans (congrArg some (by kernel_rfl)) | exact ⟨Tryz.f208.name, by decide, Tryz.func208.trans (congrArg some (by kernel_rfl))⟩,
  f49 := by first | exact Tryz.func209.trans (congrArg some (by kernel_rfl)) | exact ⟨Tryz.f209.name, by decide, Tryz.func209.trans (congrArg some (by kernel_rfl))⟩,
  f50 := by first | exact Tryz.func210.trans (congrArg some (by kernel_rfl)) | exact ⟨Tryz.f210.name, by decide, Tryz.func210.trans (congrArg some (by kernel_rfl))⟩,
  f57 := by first | exact Tryz.func211.trans (congrArg some (by kernel_rfl)) | exact ⟨Tryz.f211.name, by decide, Tryz.func211.trans (congrArg some (by kernel_rfl))⟩,
  t0 := Tryz.underlying0,
  a0 := Tryz.isAgg0,
  z0 := Tryz.sizeOf0,
  v0 := Tryz.zeroValue0,
  t3 := Tryz.underlying3,
  a3 := Tryz.isAgg3,
  z3 := Tryz.sizeOf3,
  v3 := Tryz.zeroValue3,
  t4 := Tryz.underlying4,
  a4 := Tryz.isAgg4,
  z4 := Tryz.sizeOf4,
  v4 := Tryz.zeroValue4,
  t5 := Tryz.underlying5,
  a5 := Tryz.isAgg5,
  z5 := Tryz.sizeOf5,
  v5 := Tryz.zeroValue5,
  t9 := Tryz.underlying9,
  a9 := Tryz.isAgg9,
  z9 := Tryz.sizeOf9,
  v9 := Tryz.zeroValue9,
  t22 := Tryz.underlying233,
  a22 := Tryz.isAgg233,
  z22 := Tryz.sizeOf233,
  v22 := Tryz.zeroValue233,
  t25 := Tryz.underlying246,
  a25 := Tryz.isAgg246,
  z25 := Tryz.sizeOf246,
  v25 := Tryz.zeroValue246,
  t39 := Tryz.underlying251,
  a39 := Tryz.isAgg251,
  z39 := Tryz.sizeOf251,
  v39 := Tryz.zeroValue251,
  t45 := Tryz.underlying254,
  a45 := Tryz.isAgg254,
  z45 := Tryz.sizeOf254,
  v45 := Tryz.zeroValue254,
  t46 := Tryz.underlying255,
  a46 := Tryz.isAgg255,
  z46 := Tryz.sizeOf255,
  v46 := Tryz.zeroValue255,
  t50 := Tryz.underlying229,
  a50 := Tryz.isAgg229,
  z50 := Tryz.sizeOf229,
  v50 := Tryz.zeroValue229,
  t53 := Tryz.underlying261,
  a53 := Tryz.isAgg261,
  z53 := Tryz.sizeOf261,
  v53 := Tryz.zeroValue261,
  t55 := Tryz.underlying263,
  a55 := Tryz.isAgg263,
  z55 := Tryz.sizeOf263,
  v55 := Tryz.zeroValue263,
  t66 := Tryz.underlying264,
  a66 := Tryz.isAgg264,
  z66 := Tryz.sizeOf264,
  v66 := Tryz.zeroValue264,
  t70 := Tryz.underlying268,
  a70 := Tryz.isAgg268,
  z70 := Tryz.sizeOf268,
  v70 := Tryz.zeroValue268,
  t76 := Tryz.underlying270,
  a76 := Tryz.isAgg270,
  z76 := Tryz.sizeOf270,
  v76 := Tryz.zeroValue270,
  t77 := Tryz.underlying271,
  a77 := Tryz.isAgg271,
  z77 := Tryz.sizeOf271,
  v77 := Tryz.zeroValue271 }
theorem lt_hcmpS (x y : HI ByteArray) : ltOf hcmpS x y = decide (x.lt y) := by
  unfold ltOf hcmpS
  by_cases h1 : x.lt y
  · simp [h1]
  · by_cases h2 : y.lt x <;> simp [h1, h2]
theorem swo_hcmpS : SWO (ltOf hcmpS) where
  irrefl x := by rw [lt_hcmpS]; simp [HI.irr]
  trans x y z h1 h2 := by rw [lt_hcmpS] at *; simp only [decide_eq_true_eq] at *; exact HI.tr h1 h2
  ntrans x y z h1 h2 := by rw [lt_hcmpS] at *; simp only [decide_eq_false_iff_not] at *; exact HI.le_tr h2 h1
theorem hp_sortS {n b cap : Nat} {l : List (HI ByteArray)} (hn : n ≤ 1000000000) (hl : l.length = n) (h0 : 0 < n) :
    Tri Tryz.prog 184 #[.slice (some ⟨b, 0, none⟩) n cap, .func (.func 185) #[] #[]] [rowR 240 4 (.slice (some ⟨b, 0, none⟩) n cap) n (l.flatMap hcS)]
      (PostE (ι := List (HI ByteArray)) (fun d => d.Perm l ∧ d.Pairwise fun x y => ltOf hcmpS y x = false) (fun _ => .tuple #[]) fun d => [rowR 240 4 (.slice (some ⟨b, 0, none⟩) n cap) n (d.flatMap hcS)]) := by
  have eg : ∀ args w, (callFunc 185 args).run Tryz.prog w = .ok (.enter 185 args) w := enters_of Tryz.func185 (by kernel_rfl) rfl
  have h := tri_sortK (E := 240) Tryz.sortS Tryz.isAgg240 Tryz.sizeOf240 (enc := hcS) (fun _ => rfl) (fun x v hv => by simp at hv; rcases hv with rfl | rfl | rfl | rfl <;> rfl) hcmpS swo_hcmpS 185 eg (fun x y W => cmp_gS x y W) (b := b) (cap := cap) hl h0 hn
  change Tri Tryz.prog 184 _ _ _ at h
  exact h
theorem hp_sort0S {p : Option Addr} {n cap : Nat} {fv : Value} (hz : n = 0) : Tri Tryz.prog 184 #[.slice p n cap, fv] [] (Same [] (.tuple #[])) := by
  subst hz
  have h := tri_sort0 Tryz.sortS p cap fv
  change Tri Tryz.prog 184 _ _ _ at h
  exact h
theorem sorted_rowS {L d l : List (HI ByteArray)} (h : d.Perm l) (hs : d.Pairwise fun x y => ltOf hcmpS y x = false) (hL : L.Perm l) (h2 : L.Pairwise HI.lt) : d = L := by
  have hnd : (d.map HI.came).Nodup ∨ True := .inr trivial
  have hp : d.Perm L := h.trans hL.symm
  refine HI.eq_of_sorted hp ?_ h2
  have hd : d.Pairwise fun x y => x.lt y ∨ y.lt x := by
    refine (List.Perm.pairwise_iff (fun {x y} q => q.symm) hp).2 (h2.imp fun q => .inl q)
  refine (hs.and hd).imp fun {x y} ⟨q1, q2⟩ => ?_
  rw [lt_hcmpS] at q1
  exact q2.resolve_right (by simpa using q1)
theorem hp_OrderS {b n : Nat} {S : List (KR ByteArray)} (hn : n ≤ 1000000000) : Tri Tryz.prog 144 #[pV b 0] [hpS b S n] (PostE (fun _ => True) id fun v => [hpS b S n, rowR 9 1 v (S.map (·.1)).length ((S.map (·.1)).map Value.string)]) := by
  refine Tri.en (args := [pV b 0]) Tryz.func144 (fun B wz => ?_)
  refine Cd.openS ?_; intro v mb l mp came hS
  refine Cd.fact (i := 2) rfl row_slice ?_; rintro ⟨a0, cap, rfl, hcap, hcap2⟩
  have hln := hS.ln; have hc0 := hS.c0; have hcn := hS.cn; have hlen := hS.len
  refine Cd.s1 (Sq.vl [0] [.slice none 0 0] (Sq.d1 (Sq.vl [0, 1, 2] [pV b 0, pV b 0, pV b 0] (Sq.sm [0] (l := [blkR b [.slice a0 l.length cap, .map (some mb), iV came] 235]) (o_ld (i := 0) (v := .slice a0 l.length cap)) rfl ?_))))
  refine Sq.e1 [2] (l := [rowR 240 4 (.slice a0 l.length cap) l.length (l.flatMap hcS)]) (o_cl Tryz.call183 (hp_cloneS (v := .slice a0 l.length cap) (n := l.length) (l := l) (by omega) (by omega))) rfl ?_; rintro v1 _
  refine Sq.fact (i := 3) (R := rowR 240 4 v1 l.length (l.flatMap hcS)) (by kernel_rfl) row_slice ?_; rintro ⟨a2, c3, rfl, hc3, hc3'⟩
  have hc3'' : c3 ≤ 9223372036854775807 := hc3'
  refine Sq.vl [5] [.slice a2 l.length c3] (Sq.d1 (Sq.vl [0] [.slice a2 l.length c3] ?_))
  by_cases h4 : 0 < l.length
  ·
    refine Sq.fact (i := 2) (R := rowR 240 4 (.slice a0 l.length cap) l.length (l.flatMap hcS)) (by kernel_rfl) (row_addr (by omega)) ?_; rintro ⟨b5, rfl⟩
    refine Sq.fact (i := 3) (R := rowR 240 4 (.slice a2 l.length c3) l.length (l.flatMap hcS)) (by kernel_rfl) (row_addr (by omega)) ?_; rintro ⟨b6, rfl⟩
    refine Sq.e1 [3] (l := [rowR 240 4 (.slice (some ⟨b6, 0, none⟩) l.length c3) l.length (l.flatMap hcS)]) (o_cl Tryz.call184 (hp_sortS (n := l.length) (l := l) (by omega) (by omega) (by omega))) rfl ?_; rintro d7 ⟨hd1, hd2⟩
    have hdlen := hd1.length_eq
    refine Sq.d1 (Sq.vl [0] [.slice none 0 0] (Sq.d4 (Cd.seq (Cd.s1 (Sq.vl [0, 1, 2] [.slice (some ⟨b6, 0, none⟩) l.length c3, iV (l.length : Int), iV 0] (Sq.d4 (Cd.block (Cd.nilRow 9 1 (Cd.loop (ι := Nat × Value × (List ByteArray)) (fun ⟨k, rv, rw⟩ => k ≤ l.length ∧ rw = (d7.take k).map HI.key) (fun ⟨k, rv, rw⟩ => l.length - k) (fun ⟨k, rv, rw⟩ => [(2, .slice none 0 0), (14, .slice (some ⟨b6, 0, none⟩) l.length c3), (15, iV (l.length : Int)), (16, iV ((k : Nat) : Int)), (4, rv)]) (fun ⟨k, rv, rw⟩ => [blkR b [.slice (some ⟨b5, 0, none⟩) l.length cap, .map (some mb), iV came] 235, mapR Value.string (Value.int .i64) mb mp, rowR 240 4 (.slice (some ⟨b5, 0, none⟩) l.length cap) l.length (l.flatMap hcS), rowR 240 4 (.slice (some ⟨b6, 0, none⟩) l.length c3) l.length (d7.flatMap hcS), rowR 9 1 rv rw.length (rw.map Value.string)]) (0, .slice none 0 0, ([] : List ByteArray)) (⟨Nat.zero_le _, rfl⟩) (subB_eq (l := [2, 14, 15, 16, 4]) (by kernel_rfl)) (fun w hw => hw.pk [0, 1, 2, 3, 4]) ?_)))))))))
    rintro ⟨k, rv, rw⟩ hL8
    try dsimp only at hL8 ⊢
    obtain ⟨hk, hrw⟩ := hL8
    have hrl : rw.length ≤ l.length := by rw [hrw, List.length_map, List.length_take]; first | omega | (have := hd1.length_eq; omega)
    refine Cd.fact (i := 4) (R := rowR 9 1 rv rw.length (rw.map Value.string)) (by kernel_rfl) row_slice ?_; rintro ⟨a9, c10, rfl, hc10, hc10'⟩
    have hc10'' : c10 ≤ 9223372036854775807 := hc10'
    refine Cd.s1 (Sq.vl [0] [bV (decide (((k : Nat) : Int) < (l.length : Int)))] (Sq.d4 (Cd.seq ?_)))
    refine Cd.case (p := ((k : Nat) : Int) < (l.length : Int)) (by kernel_rfl) (fun h11 => ?_) (fun h11 => ?_)
    ·
      refine Cd.skip (Ex'.next (Cd.seq (Cd.block (Cd.s1 (Sq.v (r := pV b6 (k * 4)) (o_idx (b := b6) (cap := c3) (e := 240) (off := 0) (n := l.length) (kd := .i64) (q := ((k : Nat) : Int)) (i := k) (size := 4) (j := k * 4) (by kernel_rfl) (by kernel_rfl) (by rfl) (by omega) Tryz.underlying233 (by kernel_rfl) (by omega)) rfl (by kernel_rfl) ?_)))))
      refine Sq.sm [3] (l := [rowR 240 4 (.slice (some ⟨b6, 0, none⟩) l.length c3) l.length (d7.flatMap hcS)]) (o_loadRowN (j := k * 4) [sV ((d7.getD k hzS).key), iV ((d7.getD k hzS).one), iV ((d7.getD k hzS).two), iV ((d7.getD k hzS).came)] (by kernel_rfl) (by first | omega | (simp only [List.length_set, List.length_append, List.length_take, List.length_singleton] <;> omega)) (by kernel_rfl) (rec_gets (f := hcS) (k := 4) (z := hzS) (l := d7) (i := k) (o := 0) (fun _ => rfl) (by first | omega | (simp only [List.length_set, List.length_append, List.length_take, List.length_singleton] <;> omega)) (Nat.le_of_ble_eq_true rfl) rfl)) rfl ?_
      refine Sq.e0 [] (l := []) (o_new [sV ⟨#[]⟩, iV 0, iV 0, iV 0] (fun w => by kernel_rfl)) rfl ?_; intro b12 _
      refine Sq.sm [5] (l := [blkR b12 [sV ⟨#[]⟩, iV 0, iV 0, iV 0] 240]) (o_st (i := 0) (v := .agg #[sV ((d7.getD k hzS).key), iV ((d7.getD k hzS).one), iV ((d7.getD k hzS).two), iV ((d7.getD k hzS).came)])) rfl (Sq.d4 (Cd.s0 (Sq.vl [0, 1] [.slice a9 rw.length c10, pV b12 0] (Sq.sm [5] (l := [blkR b12 [sV ((d7.getD k hzS).key), iV ((d7.getD k hzS).one), iV ((d7.getD k hzS).two), iV ((d7.getD k hzS).came)] 240]) (o_ld (i := 0) (v := sV ((d7.getD k hzS).key))) rfl ?_))))
      refine Sq.e0 [] (l := []) (o_lit (sz := 1) (sV ⟨#[]⟩) [sV ((d7.getD k hzS).key)] Tryz.underlying31 (by kernel_rfl) (by kernel_rfl) (by kernel_rfl) (by kernel_rfl) (by kernel_rfl)) rfl ?_; intro b13 _
      refine Sq.e1 [4, 6] (l := [rowR 9 1 (.slice a9 rw.length c10) rw.length (rw.map Value.string), blkR b13 [sV ((d7.getD k hzS).key)] 9]) (o_push (n' := (rw ++ [(d7.getD k hzS).key]).length) (xs' := (rw ++ [(d7.getD k hzS).key]).map Value.string) (by kernel_rfl) (by kernel_rfl) sl_str (by decide) rfl (by kernel_rfl) (by unfold maxLen; first | omega | (simp only [List.length_nil]; omega)) (by first | omega | (simp only [List.length_nil]; omega)) (by simp) (by simp)) rfl ?_; rintro v14 _
      refine Sq.fact (i := 4) (R := rowR 9 1 v14 ((rw ++ [(d7.getD k hzS).key]).length) ((rw ++ [(d7.getD k hzS).key]).map Value.string)) (by kernel_rfl) row_slice ?_; rintro ⟨a15, c16, rfl, hc16, hc16'⟩
      have hc16'' : c16 ≤ 9223372036854775807 := hc16'
      have hlen17 : (rw ++ [(d7.getD k hzS).key]).length = rw.length + 1 := by simp
      refine Sq.fact (i := 4) (R := rowR 9 1 (.slice a15 ((rw ++ [(d7.getD k hzS).key]).length) c16) ((rw ++ [(d7.getD k hzS).key]).length) ((rw ++ [(d7.getD k hzS).key]).map Value.string)) (by kernel_rfl) (row_addr (by simp)) ?_; rintro ⟨b18, rfl⟩
      refine Sq.vl [5] [.slice (some ⟨b18, 0, none⟩) ((rw ++ [(d7.getD k hzS).key]).length) c16] (Sq.done (Ex'.blockNormal (Ex'.next (Cd.s0 (Sq.v (r := iV ((k + 1 : Nat) : Int)) (o_add (k := .i64) (a := ((k : Nat) : Int)) (b := 1) (c := ((k + 1 : Nat) : Int)) (by kernel_rfl) (by kernel_rfl) (w64 (by omega) (by omega))) rfl (by kernel_rfl) (Sq.vl [1] [iV ((k + 1 : Nat) : Int)] (Sq.done ?_)))))))
      refine Ex'.round (g := (k, .slice a9 rw.length c10, rw)) (k + 1, .slice (some ⟨b18, 0, none⟩) ((rw ++ [(d7.getD k hzS).key]).length) c16, rw ++ [(d7.getD k hzS).key]) ?_ ?_ (subB_eq (l := [2, 14, 15, 16, 4]) (by kernel_rfl)) (fun w hw => hw.pk [0, 1, 2, 3, 4])
      · (try dsimp only); exact ⟨by omega, by rw [hrw, take_key (by first | omega | (have := hd1.length_eq; omega))]⟩
      · dsimp only; omega
    ·
      refine Cd.exit (Ex'.thenExit (Ex'.thenExit (Ex'.blockHit (Ex'.next (Cd.s1 (Sq.vl [0, 1] [.slice a9 rw.length c10, .slice a9 rw.length c10] (Sq.d4 (Cd.ret (Ex'.ret Tryz.results144 (RVs.tm (v := .slice a9 rw.length c10) RVs.nil) (fun w hw => ?_))))))))))
      obtain ⟨L0, hL1, hL2, hL3, hL4⟩ := hS.row
      have hdl : d7 = L0 := sorted_rowS hd1 hd2 hL1 hL2
      have hfin : rw = S.map (·.1) := by rw [hrw, List.take_of_length_le (by have := hd1.length_eq; omega), hdl, hL3, List.map_map]; rfl
      exact ⟨_, ⟨_, trivial, rfl, rfl⟩, St.hpS (b := b) (v := .slice (some ⟨b5, 0, none⟩) l.length cap) (mb := mb) (l := l) (mp := mp) (came := came) (Δ := [rowR 9 1 (.slice a9 rw.length c10) ((S.map (·.1)).length) ((S.map (·.1)).map Value.string)]) ((hw.cv 4 (R := rowR 9 1 (.slice a9 rw.length c10) rw.length (rw.map Value.string)) (R' := rowR 9 1 (.slice a9 rw.length c10) ((S.map (·.1)).length) ((S.map (·.1)).map Value.string)) (fun w T q => by rw [← hfin]; exact q)).pk [0, 1, 2, 4]) hS⟩
  ·
    refine Sq.sm [] (l := []) (o_cl Tryz.call184 (hp_sort0S (p := a2) (n := l.length) (cap := c3) (fv := .func (.func 185) #[] #[]) (by omega))) rfl (Sq.d1 (Sq.vl [0] [.slice none 0 0] (Sq.d4 (Cd.seq (Cd.s1 (Sq.vl [0, 1, 2] [.slice a2 l.length c3, iV (l.length : Int), iV 0] (Sq.d4 (Cd.block (Cd.nilRow 9 1 (Cd.loop (ι := Nat × Value × (List ByteArray)) (fun ⟨k, rv, rw⟩ => k ≤ l.length ∧ rw = (l.take k).map HI.key) (fun ⟨k, rv, rw⟩ => l.length - k) (fun ⟨k, rv, rw⟩ => [(2, .slice none 0 0), (14, .slice a2 l.length c3), (15, iV (l.length : Int)), (16, iV ((k : Nat) : Int)), (4, rv)]) (fun ⟨k, rv, rw⟩ => [blkR b [.slice a0 l.length cap, .map (some mb), iV came] 235, mapR Value.string (Value.int .i64) mb mp, rowR 240 4 (.slice a0 l.length cap) l.length (l.flatMap hcS), rowR 240 4 (.slice a2 l.length c3) l.length (l.flatMap hcS), rowR 9 1 rv rw.length (rw.map Value.string)]) (0, .slice none 0 0, ([] : List ByteArray)) (⟨Nat.zero_le _, rfl⟩) (subB_eq (l := [2, 14, 15, 16, 4]) (by kernel_rfl)) (fun w hw => hw.pk [0, 1, 2, 3, 4]) ?_))))))))))
    rintro ⟨k, rv, rw⟩ hL19
    try dsimp only at hL19 ⊢
    obtain ⟨hk, hrw⟩ := hL19
    have hrl : rw.length ≤ l.length := by rw [hrw, List.length_map, List.length_take]; first | omega | (have := hd1.length_eq; omega)
    refine Cd.fact (i := 4) (R := rowR 9 1 rv rw.length (rw.map Value.string)) (by kernel_rfl) row_slice ?_; rintro ⟨a20, c21, rfl, hc21, hc21'⟩
    have hc21'' : c21 ≤ 9223372036854775807 := hc21'
    refine Cd.s1 (Sq.vl [0] [bV (decide (((k : Nat) : Int) < (l.length : Int)))] (Sq.d4 (Cd.seq ?_)))
    refine Cd.case (p := ((k : Nat) : Int) < (l.length : Int)) (by kernel_rfl) (fun h22 => ?_) (fun h22 => ?_)
    ·
      exfalso; omega
    ·
      refine Cd.exit (Ex'.thenExit (Ex'.thenExit (Ex'.blockHit (Ex'.next (Cd.s1 (Sq.vl [0, 1] [.slice a20 rw.length c21, .slice a20 rw.length c21] (Sq.d4 (Cd.ret (Ex'.ret Tryz.results144 (RVs.tm (v := .slice a20 rw.length c21) RVs.nil) (fun w hw => ?_))))))))))
      obtain ⟨L0, hL1, hL2, hL3, hL4⟩ := hS.row
      have hl0 : l = [] := List.eq_nil_of_length_eq_zero (by omega)
      have hS0 : S = [] := List.eq_nil_of_length_eq_zero (by omega)
      have hfin : rw = S.map (·.1) := by rw [hrw, hl0, hS0]; simp
      exact ⟨_, ⟨_, trivial, rfl, rfl⟩, St.hpS (b := b) (v := .slice a0 l.length cap) (mb := mb) (l := l) (mp := mp) (came := came) (Δ := [rowR 9 1 (.slice a20 rw.length c21) ((S.map (·.1)).length) ((S.map (·.1)).map Value.string)]) ((hw.cv 4 (R := rowR 9 1 (.slice a20 rw.length c21) rw.length (rw.map Value.string)) (R' := rowR 9 1 (.slice a20 rw.length c21) ((S.map (·.1)).length) ((S.map (·.1)).map Value.string)) (fun w T q => by rw [← hfin]; exact q)).pk [0, 1, 2, 4]) hS⟩
end Go.Proofs.YtholinnmjoelkaaGreatDoor
namespace Go.Proofs.YtholinnmjoelkaaGreatDoor
set_option maxHeartbeats 8000000
set_option maxRecDepth 100000
open Go.RowKit Go.MapKept
abbrev lfuB (b qb : Nat) (most now : Int) (churn : Bool) : Res := blkR b [iV most, iV now, bV churn, pV qb 0] 168
abbrev lfuL (b qb : Nat) (most now : Int) (churn : Bool) (S : List (KR ByteArray)) (n : Nat) : List Res := [lfuB b qb most now churn, hpS qb S n]
def tms (S : List (KR ByteArray)) (k : ByteArray) : Int := ((lk S k).getD (0, 0)).1
def TmB (N : Int) (S : List (KR ByteArray)) : Prop := ∀ y ∈ S, 0 ≤ y.2.1 ∧ y.2.1 ≤ N
theorem TmB.at {N : Int} {S : List (KR ByteArray)} (h : TmB N S) (h0 : 0 ≤ N) (k : ByteArray) : 0 ≤ tms S k ∧ tms S k ≤ N := by
 unfold tms
 cases e : lk S k with
 | none => exact ⟨Int.le_refl _, h0⟩
 | some v => exact h (k, v) (lk_mem e)
theorem TmB.tail {N : Int} {S : List (KR ByteArray)} (h : TmB N S) : TmB N S.tail := fun y hy => h y (List.mem_of_mem_tail hy)
theorem o_neg {P : Program} {σ : List (Nat × Value)} {ty xt : TypeId} {dst : Option Tmp} {pos : String} {after : Array Edge} {g : Option (Nat × Bool)} {k : IntKind} {x : Operand} {a c : Int} (hx : ev σ x = some (.int k a)) (hc : k.wrap (-a) = c) : OprV P σ ⟨dst, .unOp .neg xt x, ty, pos, after, g⟩ (.int k c) := oprV_of fun ρ hρ w => by
 subst hc; simp [execOp, hρ x _ hx, Op.unary, Op.intArith, Result.andThen]
def lfuLen (most now : Int) (churn : Bool) (S : List (KR ByteArray))  : Int :=
 (S.length : Int)
theorem lfu_Len {b qb n : Nat} {most now : Int} {churn : Bool} {S : List (KR ByteArray)}  (hb : n ≤ 1000000000) : Tri Tryz.prog 58 #[pV b 0] (lfuL b qb most now churn S n) (Same (lfuL b qb most now churn S n) (iV (lfuLen most now churn S))) := by
 refine Tri.en (args := [pV b 0]) Tryz.func58 (fun B wz => ?_)
 refine Cd.s1 (Sq.vl [0] [iV 0] (Sq.d1 (Sq.vl [0, 1, 2] [pV b 0, pV b 0, pV b 3] (Sq.sm [0] (l := [lfuB b qb most now churn]) (o_ld (i := 3) (v := pV qb 0)) rfl (Sq.sm [1] (l := [hpS qb S n]) (o_cl Tryz.call138 (hp_LenS (S := S) (n := n) (by omega))) rfl (Sq.vl [5] [iV (S.length : Int)] (Sq.d4 (Cd.ret ?_))))))))
 refine Ex'.ret Tryz.results58 (RVs.tm (v := iV (S.length : Int)) RVs.nil) (fun w hw => ?_)
 have e : lfuLen most now churn S = (S.length : Int) := by unfold lfuLen; rfl
 rw [e]
 exact ⟨_, ⟨rfl, rfl⟩, hw.pk [0, 1]⟩
def lfuTimes (most now : Int) (churn : Bool) (S : List (KR ByteArray)) (key : ByteArray) : Int :=
 ((lk S key).getD (0, 0)).1
theorem lfu_Times {b qb n : Nat} {most now : Int} {churn : Bool} {S : List (KR ByteArray)} (key : ByteArray) (hb : n ≤ 1000000000) : Tri Tryz.prog 137 #[pV b 0, sV key] (lfuL b qb most now churn S n) (Same (lfuL b qb most now churn S n) (iV (lfuTimes most now churn S key))) := by
 refine Tri.en (args := [pV b 0, sV key]) Tryz.func137 (fun B wz => ?_)
 refine Cd.s1 (Sq.vl [0] [iV 0] (Sq.d1 (Sq.vl [0, 1, 2] [pV b 0, pV b 0, pV b 3] (Sq.sm [0] (l := [lfuB b qb most now churn]) (o_ld (i := 3) (v := pV qb 0)) rfl (Sq.vl [4] [sV key] (Sq.sm [1] (l := [hpS qb S n]) (o_cl Tryz.call179 (hp_RankS (S := S) (n := n) key (by omega))) rfl (Sq.vl [6, 7, 8] [.tuple #[.agg #[iV (((lk S key).getD (0, 0)).1), iV (((lk S key).getD (0, 0)).2)], bV ((lk S key).isSome)], .agg #[iV (((lk S key).getD (0, 0)).1), iV (((lk S key).getD (0, 0)).2)], bV ((lk S key).isSome)] ?_)))))))
 refine Sq.e0 [] (l := []) (o_new [iV 0, iV 0] (fun w => by kernel_rfl)) rfl ?_; intro b3 _
 refine Sq.sm [2] (l := [blkR b3 [iV 0, iV 0] 171]) (o_st (i := 0) (v := .agg #[iV (((lk S key).getD (0, 0)).1), iV (((lk S key).getD (0, 0)).2)])) rfl (Sq.vl [11] [bV ((lk S key).isSome)] (Sq.d1 (Sq.vl [0] [pV b3 0] (Sq.sm [2] (l := [blkR b3 [iV (((lk S key).getD (0, 0)).1), iV (((lk S key).getD (0, 0)).2)] 171]) (o_ld (i := 0) (v := iV (((lk S key).getD (0, 0)).1))) rfl (Sq.vl [2] [iV (((lk S key).getD (0, 0)).1)] (Sq.d4 (Cd.ret (Ex'.ret Tryz.results137 (RVs.tm (v := iV (((lk S key).getD (0, 0)).1)) RVs.nil) (fun w hw => ?_)))))))))
 have e : lfuTimes most now churn S key = ((lk S key).getD (0, 0)).1 := by unfold lfuTimes; rfl
 rw [e]
 exact ⟨_, ⟨rfl, rfl⟩, hw.pk [0, 1]⟩
def lfuHas (most now : Int) (churn : Bool) (S : List (KR ByteArray)) (key : ByteArray) : Bool :=
 decide (tms S key > 0)
theorem lfu_Has {b qb n : Nat} {most now : Int} {churn : Bool} {S : List (KR ByteArray)} (key : ByteArray) (hb : n ≤ 1000000000) : Tri Tryz.prog 57 #[pV b 0, sV key] (lfuL b qb most now churn S n) (Same (lfuL b qb most now churn S n) (bV (lfuHas most now churn S key))) := by
 refine Tri.en (args := [pV b 0, sV key]) Tryz.func57 (fun B wz => ?_)
 refine Cd.s1 (Sq.vl [0] [bV false] (Sq.d1 (Sq.vl [0, 1] [pV b 0, sV key] (Sq.sm [0, 1] (l := lfuL b qb most now churn S n) (o_cl Tryz.call137 (Tri.eq (l2 := lfuL b qb most now churn S n) (r' := iV (tms S key)) (lfu_Times (n := n) (most := most) (now := now) (churn := churn) (S := S) key (by omega)) (rfl) (rfl))) rfl (Sq.vl [3, 4] [bV (decide (tms S key > 0)), bV (decide (tms S key > 0))] (Sq.d4 (Cd.ret (Ex'.ret Tryz.results57 (RVs.tm (v := bV (decide (tms S key > 0))) RVs.nil) (fun w hw => ?_)))))))))
 have e : lfuHas most now churn S key = decide (tms S key > 0) := by unfold lfuHas; rfl
 rw [e]
 exact ⟨_, ⟨rfl, rfl⟩, hw.pk [0, 1]⟩
def lfuVictim (most now : Int) (churn : Bool) (S : List (KR ByteArray))  : ByteArray × Bool :=
 ((htop (⟨#[]⟩, 0, 0) S).1, decide (0 < S.length))
theorem lfu_Victim {b qb n : Nat} {most now : Int} {churn : Bool} {S : List (KR ByteArray)}  (hb : n ≤ 1000000000) : Tri Tryz.prog 62 #[pV b 0] (lfuL b qb most now churn S n) (Same (lfuL b qb most now churn S n) (.tuple #[sV ((lfuVictim most now churn S).1), bV ((lfuVictim most now churn S).2)])) := by
 refine Tri.en (args := [pV b 0]) Tryz.func62 (fun B wz => ?_)
 refine Cd.s1 (Sq.vl [0, 1] [sV ⟨#[]⟩, bV false] (Sq.d1 (Sq.vl [0, 1, 2] [pV b 0, pV b 0, pV b 3] (Sq.sm [0] (l := [lfuB b qb most now churn]) (o_ld (i := 3) (v := pV qb 0)) rfl (Sq.sm [1] (l := [hpS qb S n]) (o_cl Tryz.call142 (hp_LeastS (S := S) (n := n) (by omega))) rfl (Sq.vl [5, 6, 7, 8] [.tuple #[sV ((htop (⟨#[]⟩, 0, 0) S).1), .agg #[iV ((htop (⟨#[]⟩, 0, 0) S).2.1), iV ((htop (⟨#[]⟩, 0, 0) S).2.2)], bV (decide (0 < S.length))], sV ((htop (⟨#[]⟩, 0, 0) S).1), .agg #[iV ((htop (⟨#[]⟩, 0, 0) S).2.1), iV ((htop (⟨#[]⟩, 0, 0) S).2.2)], bV (decide (0 < S.length))] ?_))))))
 refine Sq.e0 [] (l := []) (o_new [iV 0, iV 0] (fun w => by kernel_rfl)) rfl ?_; intro b3 _
 refine Sq.vl [10] [sV ((htop (⟨#[]⟩, 0, 0) S).1)] (Sq.sm [2] (l := [blkR b3 [iV 0, iV 0] 171]) (o_st (i := 0) (v := .agg #[iV ((htop (⟨#[]⟩, 0, 0) S).2.1), iV ((htop (⟨#[]⟩, 0, 0) S).2.2)])) rfl (Sq.vl [12] [bV (decide (0 < S.length))] (Sq.d1 (Sq.vl [0, 1, 2, 3] [sV ((htop (⟨#[]⟩, 0, 0) S).1), bV (decide (0 < S.length)), sV ((htop (⟨#[]⟩, 0, 0) S).1), bV (decide (0 < S.length))] (Sq.d4 (Cd.ret (Ex'.ret Tryz.results62 (RVs.tm (v := sV ((htop (⟨#[]⟩, 0, 0) S).1)) (RVs.tmp (v := bV (decide (0 < S.length))) (by kernel_rfl) RVs.nil)) (fun w hw => ?_))))))))
 have e : lfuVictim most now churn S = ((htop (⟨#[]⟩, 0, 0) S).1, decide (0 < S.length)) := by unfold lfuVictim; rfl
 rw [e]
 exact ⟨_, ⟨rfl, rfl⟩, hw.pk [0, 1]⟩
def lfuDrop (most now : Int) (churn : Bool) (S : List (KR ByteArray))  : List (KR ByteArray) × ByteArray × Bool :=
 (S.tail, (htop (⟨#[]⟩, 0, 0) S).1, decide (0 < S.length))
def lfuRemove (most now : Int) (churn : Bool) (S : List (KR ByteArray)) (key : ByteArray) : List (KR ByteArray) × Bool :=
 (hrem S key, (lk S key).isSome)
def lfuKeys (most now : Int) (churn : Bool) (S : List (KR ByteArray))  : List ByteArray :=
 S.map (·.1)
theorem lfu_Keys {b qb n : Nat} {most now : Int} {churn : Bool} {S : List (KR ByteArray)}  (hb : n ≤ 1000000000) : Tri Tryz.prog 65 #[pV b 0] (lfuL b qb most now churn S n) (PostE (fun _ => True) id fun v => lfuL b qb most now churn S n ++ [rowR 9 1 v (lfuKeys most now churn S).length ((lfuKeys most now churn S).map Value.string)]) := by
 refine Tri.en (args := [pV b 0]) Tryz.func65 (fun B wz => ?_)
 refine Cd.s1 (Sq.vl [0] [.slice none 0 0] (Sq.d1 (Sq.vl [0, 1, 2] [pV b 0, pV b 0, pV b 3] (Sq.sm [0] (l := [lfuB b qb most now churn]) (o_ld (i := 3) (v := pV qb 0)) rfl ?_))))
 refine Sq.e1 [1] (l := [hpS qb S n]) (o_cl Tryz.call144 (hp_OrderS (S := S) (n := n) (by omega))) rfl ?_; rintro v1 _
 refine Sq.fact (i := 2) (R := rowR 9 1 v1 ((S.map (·.1)).length) ((S.map (·.1)).map Value.string)) (by kernel_rfl) row_slice ?_; rintro ⟨a2, c3, rfl, hc3, hc3'⟩
 have hc3'' : c3 ≤ 9223372036854775807 := hc3'
 refine Sq.vl [5] [.slice a2 ((S.map (·.1)).length) c3] (Sq.d4 (Cd.ret (Ex'.ret Tryz.results65 (RVs.tm (v := .slice a2 ((S.map (·.1)).length) c3) RVs.nil) (fun w hw => ?_))))
 have e : lfuKeys most now churn S = S.map (·.1) := by unfold lfuKeys; rfl
 rw [e]
 exact ⟨_, ⟨_, trivial, rfl, rfl⟩, hw.pk [0, 1, 2]⟩
def lfuAsk (most now : Int) (churn : Bool) (S : List (KR ByteArray)) (key : ByteArray) : Int × List (KR ByteArray) :=
 if churn = true then (now + 1, hset S (key, tms S key + 1, (-(now + 1)))) else (now + 1, hset S (key, tms S key + 1, now + 1))
theorem lfu_ask {b qb n : Nat} {most now : Int} {churn : Bool} {S : List (KR ByteArray)} (key : ByteArray) {n' : Nat} (hb : n + 1 ≤ 1000000000) (hn : n + 1 ≤ n') (hw0 : 0 ≤ now ∧ now ≤ 1000000000) (ht : TmB 1000000000 S) : Tri Tryz.prog 140 #[pV b 0, sV key] (lfuL b qb most now churn S n) (Same (lfuL b qb most ((lfuAsk most now churn S key).1) churn ((lfuAsk most now churn S key).2) n') (.tuple #[])) := by
 refine Tri.en (args := [pV b 0, sV key]) Tryz.func140 (fun B wz => ?_)
 refine Cd.fact (i := 1) rfl hpS.le ?_; rintro ⟨hnd, hlen⟩
 have htk := TmB.at ht (by omega) key
 refine Cd.s1 (Sq.vl [0, 1, 2] [pV b 0, pV b 0, pV b 1] (Sq.sm [0] (l := [lfuB b qb most now churn]) (o_ld (i := 1) (v := iV now)) rfl (Sq.v (r := iV (now + 1)) (o_add (k := .i64) (a := now) (b := 1) (c := now + 1) (by kernel_rfl) (by kernel_rfl) (w64 rfl (by omega))) rfl (by kernel_rfl) (Sq.vl [5, 6] [pV b 0, pV b 1] (Sq.sm [0] (l := [lfuB b qb most now churn]) (o_st (i := 1) (v := iV (now + 1))) rfl (Sq.d1 (Sq.vl [0, 1, 2] [pV b 0, pV b 0, pV b 1] ?_)))))))
 refine Sq.sm [0] (l := [lfuB b qb most (now + 1) churn]) (o_ld (i := 1) (v := iV (now + 1))) rfl (Sq.vl [4] [iV (now + 1)] (Sq.d4 (Cd.seq (Cd.s1 (Sq.vl [0, 1, 2] [pV b 0, pV b 0, pV b 2] (Sq.sm [0] (l := [lfuB b qb most (now + 1) churn]) (o_ld (i := 2) (v := bV churn)) rfl (Sq.d4 ?_)))))))
 refine Cd.cond (t := churn) (by kernel_rfl) (fun h1 => ?_) (fun h1 => ?_)
 ·
  refine Cd.s0 (Sq.vl [0] [iV (now + 1)] (Sq.v (r := iV (-(now + 1))) (o_neg (k := .i64) (a := now + 1) (c := -(now + 1)) (by kernel_rfl) (w64 rfl (by omega))) rfl (by kernel_rfl) (Sq.vl [2] [iV (-(now + 1))] (Sq.d4 ?_))))
  refine Cd.plan [0, 1, 3, 7, 0, 0, 0, 96, 224, 0, 992, 2047] [(3, [(0, false, 0)]), (7, [(0, false, 0), (1, false, 0)]), (11, [(1, true, 0)])] [] [] [(1, 11, fun g => hpS qb (hset S (key, tms S key + 1, (-(now + 1)))) (n + 1))] [fun g => pV b 0, fun g => pV b 0, fun g => pV b 3, fun g => pV qb 0, fun g => sV key, fun g => pV b 0, fun g => sV key, fun g => iV (tms S key), fun g => iV (tms S key + 1), fun g => iV (-(now + 1)), fun g => .agg #[iV (tms S key + 1), iV (-(now + 1))], fun g => .tuple #[]] (by kernel_rfl) (by kernel_rfl) rfl (trivial) ?_ ?_
  · exact ⟨ob_k, ob_k, ob_k, ob_r (l := fun g => [lfuB b qb most (now + 1) churn]) (l' := fun g => [lfuB b qb most (now + 1) churn]) (v := fun g => pV qb 0) (fun g => o_ld (i := 3) (v := pV qb 0)), ob_k, ob_k, ob_k, ob_r (l := fun g => [lfuB b qb most (now + 1) churn, hpS qb S n]) (l' := fun g => [lfuB b qb most (now + 1) churn, hpS qb S n]) (v := fun g => iV (tms S key)) (fun g => o_cl Tryz.call137 (Tri.eq (l2 := lfuL b qb most (now + 1) churn S n) (r' := iV (tms S key)) (lfu_Times (n := n) (most := most) (now := now + 1) (churn := churn) (S := S) key (by omega)) (rfl) (rfl))), ob_w (v := fun g => iV (tms S key + 1)) (fun g => o_add (k := .i64) (a := tms S key) (b := 1) (c := tms S key + 1) (by kernel_rfl) (by kernel_rfl) (w64 rfl (by omega))), ob_k, ob_k, ob_r (l := fun g => [hpS qb S n]) (l' := fun g => [hpS qb (hset S (key, tms S key + 1, (-(now + 1)))) (n + 1)]) (v := fun g => .tuple #[]) (fun g => o_cl Tryz.call180 (hp_SetS (S := S) (n := n) key (tms S key + 1) (-(now + 1)) (by omega))), trivial⟩
  intro g
  refine Ex'.sub (subB_spec []) (Ex'.a1 [0, 1] (σ' := []) (Γ' := [lfuB b qb most (now + 1) churn, hpS qb (hset S (key, tms S key + 1, (-(now + 1)))) (n + 1)]) (Ex'.fin Tryz.results140 (RVs.nil) (fun w hw => ?_)))
  have e : lfuAsk most now churn S key = (now + 1, hset S (key, tms S key + 1, (-(now + 1)))) := by unfold lfuAsk; rw [if_pos h1]
  rw [e]
  exact ⟨_, ⟨rfl, rfl⟩, (hw.cv 1 (R := hpS qb (hset S (key, tms S key + 1, (-(now + 1)))) (n + 1)) (R' := hpS qb (hset S (key, tms S key + 1, (-(now + 1)))) n') (hpS.up (by omega))).pk [0, 1]⟩
 ·
  refine Cd.skip (Ex'.next ?_)
  refine Cd.plan [0, 1, 3, 7, 0, 0, 0, 96, 224, 0, 992, 2047] [(3, [(0, false, 0)]), (7, [(0, false, 0), (1, false, 0)]), (11, [(1, true, 0)])] [] [] [(1, 11, fun g => hpS qb (hset S (key, tms S key + 1, now + 1)) (n + 1))] [fun g => pV b 0, fun g => pV b 0, fun g => pV b 3, fun g => pV qb 0, fun g => sV key, fun g => pV b 0, fun g => sV key, fun g => iV (tms S key), fun g => iV (tms S key + 1), fun g => iV (now + 1), fun g => .agg #[iV (tms S key + 1), iV (now + 1)], fun g => .tuple #[]] (by kernel_rfl) (by kernel_rfl) rfl (trivial) ?_ ?_
  · exact ⟨ob_k, ob_k, ob_k, ob_r (l := fun g => [lfuB b qb most (now + 1) churn]) (l' := fun g => [lfuB b qb most (now + 1) churn]) (v := fun g => pV qb 0) (fun g => o_ld (i := 3) (v := pV qb 0)), ob_k, ob_k, ob_k, ob_r (l := fun g => [lfuB b qb most (now + 1) churn, hpS qb S n]) (l' := fun g => [lfuB b qb most (now + 1) churn, hpS qb S n]) (v := fun g => iV (tms S key)) (fun g => o_cl Tryz.call137 (Tri.eq (l2 := lfuL b qb most (now + 1) churn S n) (r' := iV (tms S key)) (lfu_Times (n := n) (most := most) (now := now + 1) (churn := churn) (S := S) key (by omega)) (rfl) (rfl))), ob_w (v := fun g => iV (tms S key + 1)) (fun g => o_add (k := .i64) (a := tms S key) (b := 1) (c := tms S key + 1) (by kernel_rfl) (by kernel_rfl) (w64 rfl (by omega))), ob_k, ob_k, ob_r (l := fun g => [hpS qb S n]) (l' := fun g => [hpS qb (hset S (key, tms S key + 1, now + 1)) (n + 1)]) (v := fun g => .tuple #[]) (fun g => o_cl Tryz.call180 (hp_SetS (S := S) (n := n) key (tms S key + 1) (now + 1) (by omega))), trivial⟩
  intro g
  refine Ex'.sub (subB_spec []) (Ex'.a1 [0, 1] (σ' := []) (Γ' := [lfuB b qb most (now + 1) churn, hpS qb (hset S (key, tms S key + 1, now + 1)) (n + 1)]) (Ex'.fin Tryz.results140 (RVs.nil) (fun w hw => ?_)))
  have e : lfuAsk most now churn S key = (now + 1, hset S (key, tms S key + 1, now + 1)) := by unfold lfuAsk; rw [if_neg (Bool.eq_false_iff.1 h1)]
  rw [e]
  exact ⟨_, ⟨rfl, rfl⟩, (hw.cv 1 (R := hpS qb (hset S (key, tms S key + 1, now + 1)) (n + 1)) (R' := hpS qb (hset S (key, tms S key + 1, now + 1)) n') (hpS.up (by omega))).pk [0, 1]⟩
def lfuReq (most now : Int) (churn : Bool) (S : List (KR ByteArray)) (key : ByteArray) : Int × List (KR ByteArray) × Bool × ByteArray × Bool :=
 if most = 0 then (now, S, lfuHas most now churn S key, ⟨#[]⟩, false) else if (!(lfuHas most now churn S key)) = true then if (S.length : Int) ≥ most then ((lfuAsk most now churn S.tail key).1, (lfuAsk most now churn S.tail key).2, lfuHas most now churn S key, (htop (⟨#[]⟩, 0, 0) S).1, decide (0 < S.length)) else ((lfuAsk most now churn S key).1, (lfuAsk most now churn S key).2, lfuHas most now churn S key, ⟨#[]⟩, false) else ((lfuAsk most now churn S key).1, (lfuAsk most now churn S key).2, lfuHas most now churn S key, ⟨#[]⟩, false)
theorem lfu_Request {b qb n : Nat} {most now : Int} {churn : Bool} {S : List (KR ByteArray)} (key : ByteArray) {n' : Nat} (hb : n + 1 ≤ 1000000000) (hn : n + 1 ≤ n') (hw0 : 0 ≤ now ∧ now ≤ 1000000000) (ht : TmB 1000000000 S) : Tri Tryz.prog 59 #[pV b 0, sV key] (lfuL b qb most now churn S n) (Same (lfuL b qb most ((lfuReq most now churn S key).1) churn ((lfuReq most now churn S key).2.1) n') (.agg #[bV ((lfuReq most now churn S key).2.2.1), sV ((lfuReq most now churn S key).2.2.2.1), bV ((lfuReq most now churn S key).2.2.2.2)])) := by
 refine Tri.en (args := [pV b 0, sV key]) Tryz.func59 (fun B wz => ?_)
 refine Cd.fact (i := 1) rfl hpS.le ?_; rintro ⟨hnd, hlen⟩
 refine Cd.s1 ?_
 refine Sq.e0 [] (l := []) (o_new [bV false, sV ⟨#[]⟩, bV false] (fun w => by kernel_rfl)) rfl ?_; intro b3 _
 refine Sq.d1 (Sq.vl [0, 1] [pV b 0, sV key] (Sq.sm [0, 1] (l := lfuL b qb most now churn S n) (o_cl Tryz.call57 (lfu_Has (n := n) (most := most) (now := now) (churn := churn) (S := S) key (by omega))) rfl (Sq.vl [3] [.agg #[bV (lfuHas most now churn S key), sV ⟨#[]⟩, bV false]] ?_)))
 refine Sq.e0 [] (l := []) (o_new [bV false, sV ⟨#[]⟩, bV false] (fun w => by kernel_rfl)) rfl ?_; intro b4 _
 refine Sq.sm [3] (l := [blkR b4 [bV false, sV ⟨#[]⟩, bV false] 37]) (o_st (i := 0) (v := .agg #[bV (lfuHas most now churn S key), sV ⟨#[]⟩, bV false])) rfl (Sq.d4 (Cd.seq (Cd.s1 (Sq.vl [0, 1, 2] [pV b 0, pV b 0, pV b 0] (Sq.sm [0] (l := [lfuB b qb most now churn]) (o_ld (i := 0) (v := iV most)) rfl (Sq.v (r := bV (decide (most = 0))) (o_eqI (k := .i64) (a := most) (b := 0) (by kernel_rfl) (by kernel_rfl)) rfl (by kernel_rfl) (Sq.d4 ?_)))))))
 refine Cd.case (p := most = 0) (by kernel_rfl) (fun h5 => ?_) (fun h5 => ?_)
 ·
  refine Cd.s1 (Sq.sm [3] (l := [blkR b4 [bV (lfuHas most now churn S key), sV ⟨#[]⟩, bV false] 37]) (o_lN (i := 0) [bV (lfuHas most now churn S key), sV ⟨#[]⟩, bV false]) rfl (Sq.sm [2] (l := [blkR b3 [bV false, sV ⟨#[]⟩, bV false] 37]) (o_st (i := 0) (v := .agg #[bV (lfuHas most now churn S key), sV ⟨#[]⟩, bV false])) rfl (Sq.d4 (Cd.ret (Ex'.thenRet (Ex'.ret Tryz.results59 (RVs.cN (i := 0) (b := b3) (l := [bV (lfuHas most now churn S key), sV ⟨#[]⟩, bV false]) (E := 37) [bV (lfuHas most now churn S key), sV ⟨#[]⟩, bV false] 2 RVs.nil) (fun w hw => ?_)))))))
  have e : lfuReq most now churn S key = (now, S, lfuHas most now churn S key, ⟨#[]⟩, false) := by unfold lfuReq; rw [if_pos h5]
  rw [e]
  exact ⟨_, ⟨rfl, rfl⟩, (hw.cv 1 (R := hpS qb S n) (R' := hpS qb S n') (hpS.up (by omega))).pk [0, 1]⟩
 ·
  refine Cd.skip (Ex'.next (Cd.seq (Cd.seq ?_)))
  rcases Bool.eq_false_or_eq_true ((!(lfuHas most now churn S key))) with h6 | h6
  ·
   refine Cd.plan [0, 1, 3, 7, 15, 31, 15, 79, 207, 463, 1023, 2047] [(1, [(3, false, 0)]), (5, [(0, false, 0), (1, false, 0)]), (9, [(0, false, 0)])] [] [] [] [fun g => pV b4 0, fun g => bV (lfuHas most now churn S key), fun g => bV true, fun g => bV true, fun g => pV b 0, fun g => iV (S.length : Int), fun g => pV b 0, fun g => pV b 0, fun g => pV b 0, fun g => iV most, fun g => bV (decide ((S.length : Int) ≥ most)), fun g => bV (decide ((S.length : Int) ≥ most))] (by kernel_rfl) (by kernel_rfl) rfl (trivial) ?_ ?_
   · exact ⟨ob_k, ob_r (l := fun g => [blkR b4 [bV (lfuHas most now churn S key), sV ⟨#[]⟩, bV false] 37]) (l' := fun g => [blkR b4 [bV (lfuHas most now churn S key), sV ⟨#[]⟩, bV false] 37]) (v := fun g => bV (lfuHas most now churn S key)) (fun g => o_ld (i := 0) (v := bV (lfuHas most now churn S key))), ob_w (v := fun g => bV true) (fun g => OprV.re (pureV (v := bV (!(lfuHas most now churn S key))) (by kernel_rfl) rfl fun w => by kernel_rfl) (congrArg Value.bool (show (!(lfuHas most now churn S key)) = true from h6))), ob_k, ob_k, ob_r (l := fun g => [lfuB b qb most now churn, hpS qb S n]) (l' := fun g => [lfuB b qb most now churn, hpS qb S n]) (v := fun g => iV (S.length : Int)) (fun g => o_cl Tryz.call58 (Tri.eq (l2 := lfuL b qb most now churn S n) (r' := iV (S.length : Int)) (lfu_Len (n := n) (most := most) (now := now) (churn := churn) (S := S) (by omega)) (rfl) (rfl))), ob_k, ob_k, ob_k, ob_r (l := fun g => [lfuB b qb most now churn]) (l' := fun g => [lfuB b qb most now churn]) (v := fun g => iV most) (fun g => o_ld (i := 0) (v := iV most)), ob_k, ob_k, trivial⟩
   intro g
   refine Ex'.sub (subB_spec [0, 1, 4, 5, 27]) (Ex'.a1 [0, 1, 2, 3] (σ' := [(0, pV b 0), (1, sV key), (4, pV b3 0), (5, pV b4 0), (27, bV (decide ((S.length : Int) ≥ most)))]) (Γ' := [lfuB b qb most now churn, hpS qb S n, blkR b3 [bV false, sV ⟨#[]⟩, bV false] 37, blkR b4 [bV (lfuHas most now churn S key), sV ⟨#[]⟩, bV false] 37]) (Ex'.next ?_))
   refine Cd.case (p := (S.length : Int) ≥ most) (by kernel_rfl) (fun h7 => ?_) (fun h7 => ?_)
   ·
    refine Cd.s0 (Sq.vl [0, 1, 2] [pV b 0, pV b 0, pV b 3] (Sq.sm [0] (l := [lfuB b qb most now churn]) (o_ld (i := 3) (v := pV qb 0)) rfl (Sq.sm [1] (l := [hpS qb S n]) (o_cl Tryz.call139 (hp_PopS (S := S) (n := n) (by omega))) rfl (Sq.vl [5, 6, 7, 8] [.tuple #[sV ((htop (⟨#[]⟩, 0, 0) S).1), bV (decide (0 < S.length))], sV ((htop (⟨#[]⟩, 0, 0) S).1), bV (decide (0 < S.length)), pV b4 1] (Sq.sm [3] (l := [blkR b4 [bV (lfuHas most now churn S key), sV ⟨#[]⟩, bV false] 37]) (o_st (i := 1) (v := sV ((htop (⟨#[]⟩, 0, 0) S).1))) rfl (Sq.vl [10] [pV b4 2] (Sq.sm [3] (l := [blkR b4 [bV (lfuHas most now churn S key), sV ((htop (⟨#[]⟩, 0, 0) S).1), bV false] 37]) (o_st (i := 2) (v := bV (decide (0 < S.length)))) rfl ?_)))))))
    refine Sq.d1 (Sq.vl [0, 1] [pV b 0, sV key] (Sq.sm [0, 1] (l := lfuL b qb most now churn S.tail n) (o_cl Tryz.call140 (lfu_ask (n := n) (n' := n + 1) (most := most) (now := now) (churn := churn) (S := S.tail) key (by omega) (by omega) (by omega) (by exact TmB.tail ht))) rfl (Sq.d1 (Sq.sm [3] (l := [blkR b4 [bV (lfuHas most now churn S key), sV ((htop (⟨#[]⟩, 0, 0) S).1), bV (decide (0 < S.length))] 37]) (o_lN (i := 0) [bV (lfuHas most now churn S key), sV ((htop (⟨#[]⟩, 0, 0) S).1), bV (decide (0 < S.length))]) rfl (Sq.sm [2] (l := [blkR b3 [bV false, sV ⟨#[]⟩, bV false] 37]) (o_st (i := 0) (v := .agg #[bV (lfuHas most now churn S key), sV ((htop (⟨#[]⟩, 0, 0) S).1), bV (decide (0 < S.length))])) rfl (Sq.d4 (Cd.ret (Ex'.ret Tryz.results59 (RVs.cN (i := 0) (b := b3) (l := [bV (lfuHas most now churn S key), sV ((htop (⟨#[]⟩, 0, 0) S).1), bV (decide (0 < S.length))]) (E := 37) [bV (lfuHas most now churn S key), sV ((htop (⟨#[]⟩, 0, 0) S).1), bV (decide (0 < S.length))] 2 RVs.nil) (fun w hw => ?_)))))))))
    have e : lfuReq most now churn S key = ((lfuAsk most now churn S.tail key).1, (lfuAsk most now churn S.tail key).2, lfuHas most now churn S key, (htop (⟨#[]⟩, 0, 0) S).1, decide (0 < S.length)) := by unfold lfuReq; rw [if_neg h5, if_pos h6, if_pos h7]
    rw [e]
    exact ⟨_, ⟨rfl, rfl⟩, (hw.cv 1 (R := hpS qb ((lfuAsk most now churn S.tail key).2) (n + 1)) (R' := hpS qb ((lfuAsk most now churn S.tail key).2) n') (hpS.up (by omega))).pk [0, 1]⟩
   ·
    refine Cd.skip (Ex'.next (Cd.s1 (Sq.vl [0, 1] [pV b 0, sV key] (Sq.sm [0, 1] (l := lfuL b qb most now churn S n) (o_cl Tryz.call140 (lfu_ask (n := n) (n' := n + 1) (most := most) (now := now) (churn := churn) (S := S) key (by omega) (by omega) (by omega) (by exact ht))) rfl (Sq.d1 (Sq.sm [3] (l := [blkR b4 [bV (lfuHas most now churn S key), sV ⟨#[]⟩, bV false] 37]) (o_lN (i := 0) [bV (lfuHas most now churn S key), sV ⟨#[]⟩, bV false]) rfl (Sq.sm [2] (l := [blkR b3 [bV false, sV ⟨#[]⟩, bV false] 37]) (o_st (i := 0) (v := .agg #[bV (lfuHas most now churn S key), sV ⟨#[]⟩, bV false])) rfl (Sq.d4 (Cd.ret (Ex'.ret Tryz.results59 (RVs.cN (i := 0) (b := b3) (l := [bV (lfuHas most now churn S key), sV ⟨#[]⟩, bV false]) (E := 37) [bV (lfuHas most now churn S key), sV ⟨#[]⟩, bV false] 2 RVs.nil) (fun w hw => ?_)))))))))))
    have e : lfuReq most now churn S key = ((lfuAsk most now churn S key).1, (lfuAsk most now churn S key).2, lfuHas most now churn S key, ⟨#[]⟩, false) := by unfold lfuReq; rw [if_neg h5, if_pos h6, if_neg h7]
    rw [e]
    exact ⟨_, ⟨rfl, rfl⟩, (hw.cv 1 (R := hpS qb ((lfuAsk most now churn S key).2) (n + 1)) (R' := hpS qb ((lfuAsk most now churn S key).2) n') (hpS.up (by omega))).pk [0, 1]⟩
  ·
   refine Cd.plan [0, 1, 3, 7, 15, 31, 15, 79, 207, 463, 1023, 2047] [(1, [(3, false, 0)])] [] [] [] [fun g => pV b4 0, fun g => bV (lfuHas most now churn S key), fun g => bV false, fun g => bV false, fun g => undef, fun g => undef, fun g => undef, fun g => undef, fun g => undef, fun g => undef, fun g => undef, fun g => bV false] (by kernel_rfl) (by kernel_rfl) rfl (trivial) ?_ ?_
   · exact ⟨ob_k, ob_r (l := fun g => [blkR b4 [bV (lfuHas most now churn S key), sV ⟨#[]⟩, bV false] 37]) (l' := fun g => [blkR b4 [bV (lfuHas most now churn S key), sV ⟨#[]⟩, bV false] 37]) (v := fun g => bV (lfuHas most now churn S key)) (fun g => o_ld (i := 0) (v := bV (lfuHas most now churn S key))), ob_w (v := fun g => bV false) (fun g => OprV.re (pureV (v := bV (!(lfuHas most now churn S key))) (by kernel_rfl) rfl fun w => by kernel_rfl) (congrArg Value.bool (show (!(lfuHas most now churn S key)) = false from h6))), ob_k, ob_k, ob_k, ob_k, ob_k, ob_k, ob_k, ob_k, ob_k, trivial⟩
   intro g
   refine Ex'.sub (subB_spec [0, 1, 4, 5, 27]) (Ex'.a1 [0, 1, 2, 3] (σ' := [(0, pV b 0), (1, sV key), (4, pV b3 0), (5, pV b4 0), (27, bV false)]) (Γ' := [lfuB b qb most now churn, hpS qb S n, blkR b3 [bV false, sV ⟨#[]⟩, bV false] 37, blkR b4 [bV (lfuHas most now churn S key), sV ⟨#[]⟩, bV false] 37]) (Ex'.next (Cd.cF (Cd.skip (Ex'.next (Cd.s1 (Sq.vl [0, 1] [pV b 0, sV key] (Sq.sm [0, 1] (l := lfuL b qb most now churn S n) (o_cl Tryz.call140 (lfu_ask (n := n) (n' := n + 1) (most := most) (now := now) (churn := churn) (S := S) key (by omega) (by omega) (by omega) (by exact ht))) rfl (Sq.d1 ?_)))))))))
   refine Sq.sm [3] (l := [blkR b4 [bV (lfuHas most now churn S key), sV ⟨#[]⟩, bV false] 37]) (o_lN (i := 0) [bV (lfuHas most now churn S key), sV ⟨#[]⟩, bV false]) rfl (Sq.sm [2] (l := [blkR b3 [bV false, sV ⟨#[]⟩, bV false] 37]) (o_st (i := 0) (v := .agg #[bV (lfuHas most now churn S key), sV ⟨#[]⟩, bV false])) rfl (Sq.d4 (Cd.ret (Ex'.ret Tryz.results59 (RVs.cN (i := 0) (b := b3) (l := [bV (lfuHas most now churn S key), sV ⟨#[]⟩, bV false]) (E := 37) [bV (lfuHas most now churn S key), sV ⟨#[]⟩, bV false] 2 RVs.nil) (fun w hw => ?_)))))
   have e : lfuReq most now churn S key = ((lfuAsk most now churn S key).1, (lfuAsk most now churn S key).2, lfuHas most now churn S key, ⟨#[]⟩, false) := by unfold lfuReq; rw [if_neg h5, if_neg (Bool.eq_false_iff.1 h6)]
   rw [e]
   exact ⟨_, ⟨rfl, rfl⟩, (hw.cv 1 (R := hpS qb ((lfuAsk most now churn S key).2) (n + 1)) (R' := hpS qb ((lfuAsk most now churn S key).2) n') (hpS.up (by omega))).pk [0, 1]⟩
structure ResI (S : List (KR ByteArray)) (T : List (KR ByteArray)) (rw : List ByteArray) (k : Nat) : Prop where
 le : k ≤ S.length
 t : T = S.drop k
 r : rw = (S.take k).map (·.1)
theorem ResI.new {S : List (KR ByteArray)} : ResI S S [] 0 := ⟨Nat.zero_le _, rfl, rfl⟩
theorem ResI.step {S T : List (KR ByteArray)} {rw : List ByteArray} {k : Nat} (h : ResI S T rw k) (h0 : 0 < T.length) : ResI S T.tail (rw ++ [(htop (⟨#[]⟩, 0, 0) T).1]) (k + 1) := by
 obtain ⟨h1, rfl, rfl⟩ := h
 have hk : k < S.length := by rw [List.length_drop] at h0; omega
 refine ⟨hk, by simp, ?_⟩
 rw [List.take_add_one, List.getElem?_eq_getElem hk, List.map_append, List.drop_eq_getElem_cons hk]; rfl
theorem ResI.len {S T : List (KR ByteArray)} {rw : List ByteArray} {k : Nat} (h : ResI S T rw k) : T.length + k = S.length ∧ rw.length = k := by
 obtain ⟨h1, rfl, rfl⟩ := h
 simp; omega
theorem ResI.fin {S T : List (KR ByteArray)} {rw : List ByteArray} {k : Nat} {m : Int} (h : ResI S T rw k) (hm : 0 ≤ m) (h1 : ¬ (T.length : Int) > m) (h2 : 0 < k → ((T.length : Int) + 1 > m)) : T = S.drop (S.length - m.toNat) ∧ rw = (S.take (S.length - m.toNat)).map (·.1) := by
 have hl := h.len.1
 have hk : S.length - m.toNat = k := by
  rcases Nat.eq_zero_or_pos k with e | e
  · omega
  · have := h2 e; omega
 rw [hk]; exact ⟨h.t, h.r⟩
def lfuNew (most0 : Int) (churn0 : Bool) : Int × Int × Bool × List (KR ByteArray) :=
 if (0 : Int) > most0 then (0, 0, churn0, []) else (most0, 0, churn0, [])
theorem lfu_New (most0 : Int) (churn0 : Bool) (hmost0 : -9223372036854775808 ≤ most0 ∧ most0 ≤ 9223372036854775807) : Tri Tryz.prog 56 #[iV most0, bV churn0] [] (PostE (ι := Nat × Nat) (fun _ => True) (fun x => pV x.1 0) fun x => lfuL x.1 x.2 ((lfuNew most0 churn0).1) ((lfuNew most0 churn0).2.1) ((lfuNew most0 churn0).2.2.1) ((lfuNew most0 churn0).2.2.2) 0) := by
 refine Tri.en (args := [iV most0, bV churn0]) Tryz.func56 (fun B wz => ?_)
 refine Cd.s1 (Sq.vl [0] [.pointer none] (Sq.d1 (Sq.vl [0] [iV most0] ?_)))
 by_cases h1 : (0 : Int) > most0
 ·
  refine Sq.v (r := iV (if (0 : Int) > most0 then 0 else most0)) (pureV (by kernel_rfl) rfl fun w => by kernel_rfl) rfl (by kernel_rfl) (Sq.re 6 rfl (by rw [if_pos h1]) (Sq.vl [2] [bV churn0] ?_))
  refine Sq.e1 [] (l := []) (o_cl Tryz.call136 (hp_NewS)) rfl ?_; rintro b3 _
  refine Sq.vl [4] [.agg #[iV 0, iV 0, bV churn0, pV b3 0]] ?_
  refine Sq.e0 [] (l := []) (o_newBox (v := .agg #[iV 0, iV 0, bV churn0, pV b3 0]) [iV 0, iV 0, bV churn0, pV b3 0] (by kernel_rfl) rfl) rfl ?_; intro b4 _
  refine Sq.vl [6] [pV b4 0] (Sq.d4 (Cd.ret (Ex'.ret Tryz.results56 (RVs.tm (v := pV b4 0) RVs.nil) (fun w hw => ?_))))
  have e : lfuNew most0 churn0 = (0, 0, churn0, []) := by unfold lfuNew; rw [if_pos h1]
  rw [e]
  exact ⟨_, ⟨(b4, b3), trivial, rfl, rfl⟩, hw.pk [1, 0]⟩
 ·
  refine Sq.v (r := iV (if (0 : Int) > most0 then 0 else most0)) (pureV (by kernel_rfl) rfl fun w => by kernel_rfl) rfl (by kernel_rfl) (Sq.re 6 rfl (by rw [if_neg h1]) (Sq.vl [2] [bV churn0] ?_))
  refine Sq.e1 [] (l := []) (o_cl Tryz.call136 (hp_NewS)) rfl ?_; rintro b5 _
  refine Sq.vl [4] [.agg #[iV most0, iV 0, bV churn0, pV b5 0]] ?_
  refine Sq.e0 [] (l := []) (o_newBox (v := .agg #[iV most0, iV 0, bV churn0, pV b5 0]) [iV most0, iV 0, bV churn0, pV b5 0] (by kernel_rfl) rfl) rfl ?_; intro b6 _
  refine Sq.vl [6] [pV b6 0] (Sq.d4 (Cd.ret (Ex'.ret Tryz.results56 (RVs.tm (v := pV b6 0) RVs.nil) (fun w hw => ?_))))
  have e : lfuNew most0 churn0 = (most0, 0, churn0, []) := by unfold lfuNew; rw [if_neg h1]
  rw [e]
  exact ⟨_, ⟨(b6, b5), trivial, rfl, rfl⟩, hw.pk [1, 0]⟩
end Go.Proofs.YtholinnmjoelkaaGreatDoor
