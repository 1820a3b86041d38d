/- Package value: what a store has, exactly. -/
import Derived.Test.YtnijaeipkbpibaaDoorValPureB
set_option linter.unusedVariables false
namespace Go.Proofs.YtnijaeipkbpibaaDoor
open Go.RowKit Go.MapKept
abbrev Itm := ByteArray × It
def wt (y : It) : Int := (y.1.size : Int) + (y.2.1.size : Int)
def sumB : List Itm → Int
  | [] => 0
  | y :: M => wt y.2 + sumB M
theorem sumB_app : ∀ (A B : List Itm), sumB (A ++ B) = sumB A + sumB B
  | [], B => by simp [sumB]
  | y :: A, B => by simp [sumB, sumB_app A B]; omega
theorem sumB_del : ∀ {M : List Itm} {k : ByteArray} {v : It}, lk M k = some v → sumB (del M k) = sumB M - wt v
  | [], k, v, h => by simp [lk] at h
  | (y, u) :: M, k, v, h => by
    by_cases e : y = k
    · simp only [lk, if_pos e, Option.some.injEq] at h; subst h; simp only [del, if_pos e, sumB]; omega
    · simp only [lk, if_neg e] at h; simp only [del, if_neg e, sumB, sumB_del h]; omega
theorem sumB_nn : ∀ (M : List Itm), 0 ≤ sumB M
  | [] => Int.le_refl _
  | y :: M => by have := sumB_nn M; simp only [sumB, wt]; omega
theorem mem_del_iff : ∀ {M : List Itm} {k : ByteArray}, (M.map (·.1)).Nodup → ∀ {y : Itm}, y ∈ del M k ↔ y ∈ M ∧ y.1 ≠ k
  | [], k, _, y => by simp [del]
  | (z, u) :: M, k, h, y => by
    simp only [List.map_cons, List.nodup_cons] at h
    by_cases e : z = k
    · subst e
      simp only [del, if_pos]
      refine ⟨fun hy => ⟨List.mem_cons_of_mem _ hy, fun q => h.1 (q ▸ List.mem_map.2 ⟨y, hy, rfl⟩)⟩, fun ⟨hy, hn⟩ => ?_⟩
      rcases List.mem_cons.1 hy with q | q
      · subst q; exact absurd rfl hn
      · exact q
    · simp only [del, if_neg e, List.mem_cons, mem_del_iff h.2]
      constructor
      · rintro (q | ⟨q, r⟩)
        · subst q; exact ⟨.inl rfl, e⟩
        · exact ⟨.inr q, r⟩
      · rintro ⟨q | q, r⟩
        · exact .inl q
        · exact .inr ⟨q, r⟩
theorem del_len {M : List Itm} {k : ByteArray} {v : It} : lk M k = some v → (del M k).length + 1 = M.length := by
  induction M with
  | nil => intro h; simp [lk] at h
  | cons x M ih =>
    obtain ⟨y, u⟩ := x
    intro h
    by_cases e : y = k
    · simp [del, e]
    · simp only [lk, if_neg e] at h; have := ih h; simp [del, e]; omega
/-- A store: its items are right, each once; the bytes; who ends, in order. -/
structure VX (M : List Itm) (S : List (KR ByteArray)) (bys : Int) : Prop where
  ok : ∀ y ∈ M, y.2.1 = y.1 ∧ rightC y.2.1 y.2.2.1 y.2.2.2 = 0
  nd : (M.map (·.1)).Nodup
  by_ : bys = sumB M
  en : ∀ y ∈ S, (∃ v, (y.1, (y.1, v, y.2.1)) ∈ M) ∧ 0 < y.2.1 ∧ y.2.2 = 0
  ne : ∀ y ∈ M, 0 < y.2.2.2 → (y.1, y.2.2.2, 0) ∈ S
  sd : S.Pairwise fun x y => x.2.1 ≤ y.2.1
  sn : (S.map (·.1)).Nodup
variable {M : List Itm} {S : List (KR ByteArray)} {bys d n : Int} {k v : ByteArray}
theorem VX.new : VX [] [] 0 := ⟨by simp, by simp, rfl, by simp, by simp, .nil, by simp⟩
theorem VX.it (h : VX M S bys) : ItB M := fun y hy => by
  obtain ⟨h1, h2⟩ := h.ok y hy
  obtain ⟨_, r1, r2, _⟩ := rightC_ok h2
  exact ⟨h1, r1, r2⟩
theorem VX.ends (h : VX M S bys) : EndsIn M S := fun y hy => by
  obtain ⟨⟨v, hv⟩, _⟩ := h.en y hy
  rw [lk_of_mem h.nd hv]; rfl
theorem VX.b0 (h : VX M S bys) : 0 ≤ bys := by rw [h.by_]; exact sumB_nn M
theorem VX.del (h : VX M S bys) (k : ByteArray) : VX (valDel M S bys k).1 (valDel M S bys k).2.1 (valDel M S bys k).2.2.1 ∧ (valDel M S bys k).1 = Proofs.YtnijaeipkbpibaaDoor.del M k ∧ (valDel M S bys k).2.1 = hrem S k := by
  have e1 : (valDel M S bys k).1 = Proofs.YtnijaeipkbpibaaDoor.del M k := valDel_1
  have e2 : (valDel M S bys k).2.1 = hrem S k := by
    unfold valDel
    split
    · rfl
    · rename_i q
      refine (List.filter_eq_self.2 fun y hy => ?_).symm
      have : (lk M y.1).isSome = true := h.ends y hy
      simp only [decide_eq_true_eq]
      intro e; rw [e] at this; exact q this
  have e3 : (valDel M S bys k).2.2.1 = sumB (Proofs.YtnijaeipkbpibaaDoor.del M k) := by
    unfold valDel
    cases hq : lk M k with
    | none => rw [if_neg (by simp)]; dsimp only; rw [h.by_, del_none hq]
    | some u => rw [if_pos (by simp)]; simp only [Option.getD_some]; rw [sumB_del hq, h.by_]; unfold wt; omega
  refine ⟨?_, e1, e2⟩
  rw [e1, e2, e3]
  refine ⟨fun y hy => h.ok y (mem_del hy), nodup_del h.nd _, rfl, fun y hy => ?_, fun y hy hd => ?_, h.sd.filter _, hrem_nodup h.sn⟩
  · obtain ⟨h1, h2⟩ := hrem_mem.1 hy
    obtain ⟨⟨v, hv⟩, h3⟩ := h.en y h1
    exact ⟨⟨v, (mem_del_iff h.nd).2 ⟨hv, h2⟩⟩, h3⟩
  · obtain ⟨h1, h2⟩ := (mem_del_iff h.nd).1 hy
    exact hrem_mem.2 ⟨h.ne y h1 hd, h2⟩
theorem hins_sd {x : KR ByteArray} : ∀ {S : List (KR ByteArray)}, S.Pairwise (fun x y => x.2.1 ≤ y.2.1) → (hins S x).Pairwise fun x y => x.2.1 ≤ y.2.1
  | [], _ => by simp [hins]
  | y :: S, h => by
    obtain ⟨h1, h2⟩ := List.pairwise_cons.1 h
    unfold hins
    split
    · rename_i q
      have hxy : x.2.1 ≤ y.2.1 := by unfold rlt at q; omega
      refine List.pairwise_cons.2 ⟨fun z hz => ?_, h⟩
      rcases List.mem_cons.1 hz with e | e
      · subst e; exact hxy
      · exact Int.le_trans hxy (h1 z e)
    · rename_i q
      refine List.pairwise_cons.2 ⟨fun z hz => ?_, hins_sd h2⟩
      rcases List.mem_cons.1 ((hins_perm S x).mem_iff.1 hz) with e | e
      · subst e; unfold rlt at q; omega
      · exact h1 z e
theorem VX.put (h : VX M S bys) (hr : rightC k v d = 0) : VX (valPut M S bys k v d).1 (valPut M S bys k v d).2.1 (valPut M S bys k v d).2.2 := by
  obtain ⟨hD, e1, e2⟩ := h.del k
  have hk : lk (Proofs.YtnijaeipkbpibaaDoor.del M k) k = none := by rw [lk_del h.nd, if_pos rfl]
  have hkm : ∀ y ∈ Proofs.YtnijaeipkbpibaaDoor.del M k, y.1 ≠ k := fun y hy => ((mem_del_iff h.nd).1 hy).2
  have f1 : (valPut M S bys k v d).1 = Proofs.YtnijaeipkbpibaaDoor.del M k ++ [(k, (k, v, d))] := by rw [valPut_1, e1, put_new hk]
  have f3 : (valPut M S bys k v d).2.2 = sumB (Proofs.YtnijaeipkbpibaaDoor.del M k) + ((k.size : Int) + (v.size : Int)) := by rw [valPut_3, hD.by_, e1]
  have f2 : (valPut M S bys k v d).2.1 = if 0 < d then hset (hrem S k) (k, d, 0) else hrem S k := by
    rw [← e2]; unfold valPut; split <;> rfl
  rw [e1, e2] at hD
  obtain ⟨_, _, _, r3⟩ := rightC_ok hr
  have base : ∀ S', (∀ y ∈ S', (∃ v', (y.1, (y.1, v', y.2.1)) ∈ Proofs.YtnijaeipkbpibaaDoor.del M k ++ [(k, (k, v, d))]) ∧ 0 < y.2.1 ∧ y.2.2 = 0) → (∀ y ∈ Proofs.YtnijaeipkbpibaaDoor.del M k ++ [(k, (k, v, d))], 0 < y.2.2.2 → (y.1, y.2.2.2, 0) ∈ S') → S'.Pairwise (fun x y => x.2.1 ≤ y.2.1) → (S'.map (·.1)).Nodup →
      VX (Proofs.YtnijaeipkbpibaaDoor.del M k ++ [(k, (k, v, d))]) S' (sumB (Proofs.YtnijaeipkbpibaaDoor.del M k) + ((k.size : Int) + (v.size : Int))) := fun S' a1 a2 a3 a4 => by
    refine ⟨fun y hy => ?_, ?_, by rw [sumB_app]; simp [sumB, wt], a1, a2, a3, a4⟩
    · rcases List.mem_append.1 hy with q | q
      · exact hD.ok y q
      · simp at q; subst q; exact ⟨rfl, hr⟩
    · rw [List.map_append]
      refine List.nodup_append.2 ⟨hD.nd, by simp, fun a ha b hb => ?_⟩
      simp at hb; subst hb
      obtain ⟨y, hy, rfl⟩ := List.mem_map.1 ha
      exact hkm y hy
  rw [f1, f2, f3]
  split
  · rename_i hd
    have hset_eq : hset (hrem S k) (k, d, 0) = hins (hrem S k) (k, d, 0) := by unfold hset; rw [hrem_idem]
    refine base _ (fun y hy => ?_) (fun y hy hyd => ?_) (by rw [hset_eq]; exact hins_sd hD.sd) (hset_nodup hD.sn)
    · rw [hset_eq] at hy
      rcases List.mem_cons.1 ((hins_perm _ _).mem_iff.1 hy) with q | q
      · subst q; exact ⟨⟨v, List.mem_append.2 (.inr (List.mem_singleton.2 rfl))⟩, hd, rfl⟩
      · obtain ⟨⟨v', hv'⟩, h3⟩ := hD.en y q
        exact ⟨⟨v', List.mem_append.2 (.inl hv')⟩, h3⟩
    · rw [hset_eq]
      refine (hins_perm _ _).mem_iff.2 ?_
      rcases List.mem_append.1 hy with q | q
      · exact List.mem_cons_of_mem _ (hD.ne y q hyd)
      · simp at q; subst q; exact List.mem_cons_self ..
  · rename_i hd
    refine base _ (fun y hy => ?_) (fun y hy hyd => ?_) hD.sd hD.sn
    · obtain ⟨⟨v', hv'⟩, h3⟩ := hD.en y hy
      exact ⟨⟨v', List.mem_append.2 (.inl hv')⟩, h3⟩
    · rcases List.mem_append.1 hy with q | q
      · exact hD.ne y q hyd
      · simp at q; subst q; exact absurd hyd hd
/-- What goes at a time. -/
def Due (n : Int) (y : It) : Prop := 0 < y.2.2 ∧ y.2.2 ≤ n
structure ExpS (M : List Itm) (S : List (KR ByteArray)) (n : Int) (r : List Itm × List (KR ByteArray) × Int × List ByteArray) : Prop where
  vx : VX r.1 r.2.1 r.2.2.1
  mem : ∀ y, y ∈ r.1 ↔ y ∈ M ∧ ¬ Due n y.2
  len : r.2.2.2.length + r.1.length = M.length
  gone : ∃ T : List (KR ByteArray), r.2.2.2 = T.map (·.1) ∧ T.Sublist S ∧ ∀ y ∈ T, y.2.1 ≤ n
  left : ∀ y ∈ r.2.1, n < y.2.1
theorem exp_spec : ∀ (f : Nat) (M : List Itm) (S : List (KR ByteArray)) (bys : Int), VX M S bys → S.length ≤ f → ExpS M S n (valExpN f M S bys n) := by
  have stop : ∀ (M : List Itm) (S : List (KR ByteArray)) (bys : Int), VX M S bys → (∀ y ∈ S, n < y.2.1) → ExpS M S n (M, S, bys, []) := fun M S bys h hS => by
    refine ⟨h, fun y => ⟨fun hy => ⟨hy, fun ⟨d1, d2⟩ => ?_⟩, fun hy => hy.1⟩, by simp, ⟨[], rfl, List.nil_sublist _, by simp⟩, hS⟩
    have := hS _ (h.ne y hy d1)
    dsimp only at this
    omega
  intro f
  induction f with
  | zero => intro M S bys h hf; exact stop M S bys h (by have : S = [] := List.eq_nil_of_length_eq_zero (by omega); subst this; simp)
  | succ f ih =>
    intro M S bys h hf
    unfold valExpN
    split
    · rename_i hd
      obtain ⟨x, T, rfl⟩ : ∃ x T, S = x :: T := by cases S with | nil => simp at hd | cons x T => exact ⟨x, T, rfl⟩
      obtain ⟨hD, e1, e2⟩ := h.del x.1
      have ht : hrem (x :: T) x.1 = T := by
        have hn := h.sn
        simp only [List.map_cons, List.nodup_cons] at hn
        unfold hrem
        rw [List.filter_cons_of_neg (by simp)]
        refine List.filter_eq_self.2 fun y hy => ?_
        simp only [decide_eq_true_eq]
        exact fun q => hn.1 (q ▸ List.mem_map.2 ⟨y, hy, rfl⟩)
      have hx2 : x.2.1 ≤ n := hd.2
      obtain ⟨⟨v, hv⟩, hx0, _⟩ := h.en x (List.mem_cons_self ..)
      have hlk := lk_of_mem h.nd hv
      have hm : ∀ y : Itm, y ∈ Proofs.YtnijaeipkbpibaaDoor.del M x.1 ↔ y ∈ M ∧ y.1 ≠ x.1 := fun y => mem_del_iff h.nd
      have hI := ih (valDel M (x :: T) bys x.1).1 (valDel M (x :: T) bys x.1).2.1 (valDel M (x :: T) bys x.1).2.2.1 hD (by rw [e2, ht]; simp at hf; omega)
      have hlenD : (valDel M (x :: T) bys x.1).1.length = (Proofs.YtnijaeipkbpibaaDoor.del M x.1).length := by rw [e1]
      change ExpS M (x :: T) n ((valExpN f (valDel M (x :: T) bys x.1).1 (valDel M (x :: T) bys x.1).2.1 (valDel M (x :: T) bys x.1).2.2.1 n).1, (valExpN f (valDel M (x :: T) bys x.1).1 (valDel M (x :: T) bys x.1).2.1 (valDel M (x :: T) bys x.1).2.2.1 n).2.1, (valExpN f (valDel M (x :: T) bys x.1).1 (valDel M (x :: T) bys x.1).2.1 (valDel M (x :: T) bys x.1).2.2.1 n).2.2.1, x.1 :: (valExpN f (valDel M (x :: T) bys x.1).1 (valDel M (x :: T) bys x.1).2.1 (valDel M (x :: T) bys x.1).2.2.1 n).2.2.2)
      rw [e1, e2, ht] at hI ⊢
      generalize valExpN f (Proofs.YtnijaeipkbpibaaDoor.del M x.1) T _ n = R at hI ⊢
      obtain ⟨i1, i2, i3, ⟨T', t1, t2, t3⟩, i5⟩ := hI
      refine ⟨i1, fun y => ?_, ?_, ⟨x :: T', ?_, t2.cons_cons x, fun y hy => ?_⟩, i5⟩
      · refine (i2 y).trans ?_
        rw [hm]
        constructor
        · rintro ⟨⟨a, _⟩, c⟩; exact ⟨a, c⟩
        · rintro ⟨a, c⟩
          refine ⟨⟨a, fun q => c ?_⟩, c⟩
          have : y.2 = (x.1, v, x.2.1) := by
            have e := lk_of_mem h.nd (show (x.1, y.2) ∈ M from q ▸ a)
            rw [hlk] at e; exact (Option.some.inj e).symm
          rw [this]; exact ⟨hx0, hx2⟩
      · have h2 := del_len hlk
        show R.2.2.2.length + 1 + R.1.length = _
        omega
      · show _ :: _ = _; rw [List.map_cons, ← t1]
      · rcases List.mem_cons.1 hy with q | q
        · subst q; exact hx2
        · exact t3 y q
    · rename_i hd
      refine stop M S bys h fun y hy => ?_
      cases S with
      | nil => simp at hy
      | cons x T =>
        have hx : n < x.2.1 := by
          have : ¬ x.2.1 ≤ n := fun q => hd ⟨by simp, q⟩
          omega
        rcases List.mem_cons.1 hy with q | q
        · subst q; exact hx
        · exact Int.lt_of_lt_of_le hx ((List.pairwise_cons.1 h.sd).1 y q)
theorem valExp_spec (h : VX M S bys) : ExpS M S n (valExp M S bys n) := exp_spec _ _ _ _ h (Nat.le_refl _)
theorem ExpS.again {r : List Itm × List (KR ByteArray) × Int × List ByteArray} (h : ExpS M S n r) : (valExp r.1 r.2.1 r.2.2.1 n).2.2.2 = [] := by
  obtain ⟨T, t1, t2, t3⟩ := (valExp_spec (n := n) h.vx).gone
  have : T = [] := by
    cases T with
    | nil => rfl
    | cons x T => have a := t3 x (List.mem_cons_self ..); have b := h.left x (t2.subset (List.mem_cons_self ..)); omega
  rw [t1, this]; rfl
theorem due_get (h : VX M S bys) {y : Itm} (hy : y ∈ M) : getOk M y.1 n ↔ ¬ Due n y.2 := by
  obtain ⟨h1, h2⟩ := h.ok y hy
  obtain ⟨_, _, _, r3⟩ := rightC_ok h2
  have e := lk_of_mem h.nd (show (y.1, y.2) ∈ M from hy)
  unfold getOk Due
  rw [e]
  simp only [Option.isSome_some, Option.getD_some, true_and]
  omega
end Go.Proofs.YtnijaeipkbpibaaDoor
