/- Package value: its store and the document's row of items. -/
import Derived.Test.YtnijaeipkbpibaaDoorRef15
set_option linter.unusedVariables false
namespace Go.Proofs.YtnijaeipkbpibaaDoor
open Go.Shelf Go.RowKit Go.MapKept Go.Lib Go.Sort
variable {M M0 : List Itm} {S S0 : List (KR ByteArray)} {bys bys0 d n nw : Int} {k v : ByteArray}
section
variable {lt : It → It → Bool}
theorem ins15_filter (O : Ord lt) {p : It → Bool} {x : It} : ∀ {S : List It}, S.Pairwise (fun x y => ¬ lt y x = true) → (ins15 lt S x).filter p = if p x = true then ins15 lt (S.filter p) x else S.filter p
  | [], _ => by by_cases h : p x = true <;> simp [ins15, h]
  | y :: T, hs => by
    obtain ⟨h1, h2⟩ := List.pairwise_cons.1 hs
    have hd : ins15 lt (y :: T) x = if lt x y = true then x :: y :: T else y :: ins15 lt T x := rfl
    rw [hd]
    split
    · rename_i q
      by_cases h : p x = true
      · rw [List.filter_cons_of_pos h, if_pos h, ins15_head]
        intro z hz
        have hz := (List.mem_filter.1 hz).1
        rcases List.mem_cons.1 hz with e | e
        · subst e; exact q
        · exact O.lt_tr _ _ _ q (h1 z e)
      · rw [List.filter_cons_of_neg h, if_neg h]
    · rename_i q
      have ih := ins15_filter O (p := p) (x := x) h2
      by_cases hy : p y = true
      · rw [List.filter_cons_of_pos hy, List.filter_cons_of_pos hy, ih]
        by_cases h : p x = true
        · rw [if_pos h, if_pos h]
          show _ = if lt x y = true then _ else _
          rw [if_neg q]
        · rw [if_neg h, if_neg h]
      · rw [List.filter_cons_of_neg hy, List.filter_cons_of_neg hy, ih]
theorem fold15_filter (O : Ord lt) {p : It → Bool} : ∀ (l S : List It), S.Pairwise (fun x y => ¬ lt y x = true) → (l.foldl (ins15 lt) S).filter p = (l.filter p).foldl (ins15 lt) (S.filter p)
  | [], S, _ => rfl
  | x :: l, S, hs => by
    rw [List.foldl_cons, fold15_filter O l _ (ins15_sd O hs), ins15_filter O hs]
    by_cases h : p x = true
    · rw [if_pos h, List.filter_cons_of_pos h]; rfl
    · rw [if_neg h, List.filter_cons_of_neg h]
theorem sort15_filter (O : Ord lt) {p : It → Bool} (l : List It) : (sort15 lt l).filter p = sort15 lt (l.filter p) := fold15_filter O l [] .nil
end
def kr15 (x : It) : KR ByteArray := (x.1, x.2.2, 0)
theorem hins15 (x : It) : ∀ (S : List It), hins (S.map kr15) (kr15 x) = (ins15 ltD S x).map kr15
  | [] => rfl
  | y :: S => by
    rw [List.map_cons, hins, ins15]
    have e : rlt (kr15 x) (kr15 y) ↔ ltD x y = true := by unfold rlt kr15 ltD; simp
    by_cases h : ltD x y = true
    · rw [if_pos (e.2 h), if_pos h]; rfl
    · rw [if_neg (fun q => h (e.1 q)), if_neg h, hins15 x S]; rfl
def pos15 (l : List It) : List It := l.filter fun x => decide (0 < x.2.2)
def end15 (l : List It) : List It := sort15 ltD (pos15 l)
/-- The store, and its row of items. -/
structure VP (M : List Itm) (S : List (KR ByteArray)) (bys : Int) (m : List It) : Prop where
  vx : VX M S bys
  me : m = M.map (·.2)
  se : S = (end15 m).map kr15
theorem VP.new : VP [] [] 0 [] := ⟨VX.new, rfl, rfl⟩
theorem del_filter : ∀ {M : List Itm} {k : ByteArray}, (M.map (·.1)).Nodup → del M k = M.filter fun y => y.1 ≠ k
  | [], k, _ => rfl
  | (z, u) :: M, k, h => by
    simp only [List.map_cons, List.nodup_cons] at h
    by_cases e : z = k
    · subst e
      rw [List.filter_cons_of_neg (by simp)]
      simp only [del, if_pos]
      refine (List.filter_eq_self.2 fun y hy => ?_).symm
      simp only [decide_eq_true_eq]
      exact fun q => h.1 (q ▸ List.mem_map.2 ⟨y, hy, rfl⟩)
    · rw [List.filter_cons_of_pos (by simp [e])]
      simp only [del, if_neg e, del_filter h.2]
theorem map_filter15 {p : Itm → Bool} {q : It → Bool} (h : ∀ y ∈ M, p y = q y.2) : (M.filter p).map (·.2) = (M.map (·.2)).filter q := by
  rw [List.filter_map]
  congr 1
  exact List.filter_congr fun y hy => h y hy
theorem del15_eq (h : VX M S bys) : del15 (M.map (·.2)) k = (del M k).map (·.2) := by
  unfold del15
  rw [del_filter h.nd]
  exact (map_filter15 fun y hy => by rw [(h.ok y hy).1]).symm
theorem end15_del (m : List It) (k : ByteArray) : hrem ((end15 m).map kr15) k = (end15 (del15 m k)).map kr15 := by
  unfold hrem end15 pos15 del15
  rw [List.filter_map, sort15_filter ordD, List.filter_filter, List.filter_filter]
  congr 2
  exact List.filter_congr fun y _ => by rw [Bool.and_comm]; rfl
theorem end15_put (m : List It) (x : It) : end15 (m ++ [x]) = if 0 < x.2.2 then ins15 ltD (end15 m) x else end15 m := by
  unfold end15 pos15 sort15
  rw [List.filter_append]
  by_cases h : 0 < x.2.2
  · rw [if_pos h, List.filter_cons_of_pos (by simpa using h), List.filter_nil, List.foldl_append]; rfl
  · rw [if_neg h, List.filter_cons_of_neg (by simpa using h), List.filter_nil, List.append_nil]
variable {m : List It}
theorem VP.del (h : VP M S bys m) (k : ByteArray) : VP (valDel M S bys k).1 (valDel M S bys k).2.1 (valDel M S bys k).2.2.1 (del15 m k) := by
  obtain ⟨h1, e1, e2⟩ := h.vx.del k
  refine ⟨h1, by rw [e1, h.me, del15_eq h.vx], ?_⟩
  rw [e2, h.se, end15_del]
theorem valPut_2 : (valPut M S bys k v d).2.1 = if 0 < d then hset (valDel M S bys k).2.1 (k, d, 0) else (valDel M S bys k).2.1 := by
  unfold valPut; split <;> rfl
theorem VP.put (h : VP M S bys m) (hr : rightC k v d = 0) : VP (valPut M S bys k v d).1 (valPut M S bys k v d).2.1 (valPut M S bys k v d).2.2 (del15 m k ++ [(k, v, d)]) := by
  obtain ⟨h1, e1, e2⟩ := h.vx.del k
  have hd := h.del k
  have hk : lk (Proofs.YtnijaeipkbpibaaDoor.del M k) k = none := by rw [lk_del h.vx.nd, if_pos rfl]
  refine ⟨h.vx.put hr, ?_, ?_⟩
  · rw [valPut_1, e1, put_new hk, List.map_append, h.me, del15_eq h.vx]; rfl
  · rw [valPut_2, end15_put, hd.se]
    have e3 : hset ((end15 (del15 m k)).map kr15) (k, d, 0) = hins ((end15 (del15 m k)).map kr15) (k, d, 0) := by
      unfold hset; rw [end15_del]
      congr 3
      unfold del15; rw [List.filter_filter]; simp
    show (if 0 < d then _ else _) = _
    by_cases q : 0 < d
    · rw [if_pos q, if_pos q, e3]; exact hins15 (k, v, d) _
    · rw [if_neg q, if_neg q]
/-- What has expired, whole. -/
structure ExpV (m : List It) (S : List (KR ByteArray)) (n : Int) (r : List Itm × List (KR ByteArray) × Int × List ByteArray) : Prop where
  vp : VP r.1 r.2.1 r.2.2.1 (stay15 m n)
  ks : r.2.2.2 = (S.filter fun x => decide (x.2.1 ≤ n)).map (·.1)
theorem expV : ∀ (f : Nat) (M : List Itm) (S : List (KR ByteArray)) (bys : Int) (m : List It), VP M S bys m → S.length ≤ f → ExpV m S n (valExpN f M S bys n) := by
  have stop : ∀ (M : List Itm) (S : List (KR ByteArray)) (bys : Int) (m : List It), VP M S bys m → (∀ y ∈ S, n < y.2.1) → ExpV m S n (M, S, bys, []) := fun M S bys m h hS => by
    have e : stay15 m n = m := List.filter_eq_self.2 fun x hx => by
      rw [h.me] at hx
      obtain ⟨y, hy, rfl⟩ := List.mem_map.1 hx
      unfold over15
      rw [decide_eq_false]
      · rfl
      · rintro ⟨d1, d2⟩
        have := hS _ (h.vx.ne y hy d1)
        dsimp only at this
        omega
    refine ⟨by rw [e]; exact h, ?_⟩
    rw [List.filter_eq_nil_iff.2 fun y hy => by have := hS y hy; simp; omega]; rfl
  intro f
  induction f with
  | zero => intro M S bys m h hf; exact stop M S bys m h (by have : S = [] := List.eq_nil_of_length_eq_zero (by omega); subst this; simp)
  | succ f ih =>
    intro M S bys m h hf
    unfold valExpN
    split
    · rename_i hd
      obtain ⟨x, T, rfl⟩ : ∃ x T, S = x :: T := by cases S with | nil => simp at hd | cons x T => exact ⟨x, T, rfl⟩
      obtain ⟨_, e1, e2⟩ := h.vx.del x.1
      have hD := h.del x.1
      have ht : hrem (x :: T) x.1 = T := by
        have hn := h.vx.sn
        simp only [List.map_cons, List.nodup_cons] at hn
        unfold hrem
        rw [List.filter_cons_of_neg (by simp)]
        refine List.filter_eq_self.2 fun y hy => ?_
        simp only [decide_eq_true_eq]
        exact fun q => hn.1 (q ▸ List.mem_map.2 ⟨y, hy, rfl⟩)
      have hx2 : x.2.1 ≤ n := hd.2
      obtain ⟨⟨v, hv⟩, hx0, _⟩ := h.vx.en x (List.mem_cons_self ..)
      have hlk := lk_of_mem h.vx.nd hv
      have hI := ih (valDel M (x :: T) bys x.1).1 (valDel M (x :: T) bys x.1).2.1 (valDel M (x :: T) bys x.1).2.2.1 (del15 m x.1) hD (by rw [e2, ht]; simp at hf; omega)
      change ExpV m (x :: T) n ((valExpN f (valDel M (x :: T) bys x.1).1 (valDel M (x :: T) bys x.1).2.1 (valDel M (x :: T) bys x.1).2.2.1 n).1, (valExpN f (valDel M (x :: T) bys x.1).1 (valDel M (x :: T) bys x.1).2.1 (valDel M (x :: T) bys x.1).2.2.1 n).2.1, (valExpN f (valDel M (x :: T) bys x.1).1 (valDel M (x :: T) bys x.1).2.1 (valDel M (x :: T) bys x.1).2.2.1 n).2.2.1, x.1 :: (valExpN f (valDel M (x :: T) bys x.1).1 (valDel M (x :: T) bys x.1).2.1 (valDel M (x :: T) bys x.1).2.2.1 n).2.2.2)
      generalize valExpN f (valDel M (x :: T) bys x.1).1 (valDel M (x :: T) bys x.1).2.1 (valDel M (x :: T) bys x.1).2.2.1 n = R at hI ⊢
      obtain ⟨i1, i2⟩ := hI
      have es : stay15 (del15 m x.1) n = stay15 m n := by
        unfold stay15 del15
        rw [List.filter_filter]
        refine List.filter_congr fun z hz => ?_
        rw [h.me] at hz
        obtain ⟨y, hy, rfl⟩ := List.mem_map.1 hz
        by_cases q : y.2.1 = x.1
        · have e : y.2 = (x.1, v, x.2.1) := by
            have e := lk_of_mem h.vx.nd (show (x.1, y.2) ∈ M from by rw [← q, (h.vx.ok y hy).1]; exact hy)
            rw [hlk] at e; exact (Option.some.inj e).symm
          have : over15 n y.2 = true := by unfold over15; rw [e]; exact decide_eq_true ⟨hx0, hx2⟩
          simp [this]
        · simp [q]
      refine ⟨by rw [← es]; exact i1, ?_⟩
      show x.1 :: R.2.2.2 = _
      rw [i2, e2, ht, List.filter_cons_of_pos (by simpa using hx2)]; rfl
    · rename_i hd
      refine stop M S bys m h fun y hy => ?_
      cases S with
      | nil => simp at hy
      | cons x T =>
        have hx : n < x.2.1 := by
          have : ¬ x.2.1 ≤ n := fun q => hd ⟨by simp, q⟩
          omega
        rcases List.mem_cons.1 hy with q | q
        · subst q; exact hx
        · exact Int.lt_of_lt_of_le hx ((List.pairwise_cons.1 h.vx.sd).1 y q)
theorem VP.exp (h : VP M S bys m) (n : Int) : VP (valExp M S bys n).1 (valExp M S bys n).2.1 (valExp M S bys n).2.2.1 (stay15 m n) ∧ (valExp M S bys n).2.2.2 = gk15 m n := by
  unfold gk15
  obtain ⟨h1, h2⟩ := expV (n := n) S.length M S bys m h (Nat.le_refl _)
  refine ⟨h1, h2.trans ?_⟩
  rw [h.se, List.filter_map]
  unfold end15 gone15 pos15
  rw [sort15_filter ordD, List.filter_filter, List.map_map, show (fun x : KR ByteArray => x.1) ∘ kr15 = fun x : It => x.1 from rfl]
  congr 2
  refine List.filter_congr fun y _ => ?_
  unfold over15
  by_cases a : 0 < y.2.2 <;> by_cases b : y.2.2 ≤ n <;> simp [a, b, kr15]
theorem VP.get (h : VP M S bys m) (key : ByteArray) (n : Int) : gt15 m key n = if getOk M key n then some ((lk M key).getD zIt) else none := by
  unfold gt15
  split
  · rename_i q
    obtain ⟨q1, q2⟩ := q
    obtain ⟨x, hx⟩ := Option.isSome_iff_exists.1 q1
    rw [hx] at q2 ⊢
    simp only [Option.getD_some] at q2 ⊢
    have hmem := lk_mem hx
    have hk : x.1 = key := (h.vx.ok _ hmem).1
    cases e : m.find? (fun x => decide (x.1 = key ∧ ¬ (0 < x.2.2 ∧ x.2.2 ≤ n))) with
    | none =>
      have := List.find?_eq_none.1 e x (by rw [h.me]; exact List.mem_map.2 ⟨_, hmem, rfl⟩)
      simp [hk] at this; omega
    | some z =>
      have hz := List.mem_of_find?_eq_some e
      have hz2 := List.find?_some e
      rw [h.me] at hz
      obtain ⟨y, hy, rfl⟩ := List.mem_map.1 hz
      have hyk : y.1 = key := by rw [← (h.vx.ok y hy).1]; simp at hz2; exact hz2.1
      have e2 := lk_of_mem h.vx.nd (show (key, y.2) ∈ M from hyk ▸ hy)
      rw [hx] at e2; exact e2.symm
  · rename_i q
    refine List.find?_eq_none.2 fun x hx => ?_
    rw [h.me] at hx
    obtain ⟨y, hy, rfl⟩ := List.mem_map.1 hx
    intro hz
    simp only [decide_eq_true_eq] at hz
    obtain ⟨z1, z2⟩ := hz
    have hyk : y.1 = key := by rw [← (h.vx.ok y hy).1]; exact z1
    have := (due_get (n := n) h.vx hy).2 z2
    rw [hyk] at this
    exact q this
theorem VP.len (h : VP M S bys m) : m.length = M.length := by rw [h.me, List.length_map]
theorem VP.hit (h : VP M S bys m) (k : ByteArray) : (valDel M S bys k).2.2.2 = decide (((del15 m k).length : Int) < (m.length : Int)) := by
  have e1 := (h.del k).len
  have e2 := h.len
  rw [valDel_1] at e1
  unfold valDel
  split
  · rename_i q
    obtain ⟨x, hx⟩ := Option.isSome_iff_exists.1 q
    have := del_len hx
    rw [decide_eq_true (by omega)]
    simp [q]
  · rename_i q
    have : Proofs.YtnijaeipkbpibaaDoor.del M k = M := del_none (by simpa using q)
    rw [this] at e1
    rw [decide_eq_false (by omega)]
    simpa using q
theorem VP.bytes (h : VP M S bys m) : byt15 m = bys := by unfold byt15; rw [h.me, sumI_map, h.vx.by_]
theorem VP.small (h : VP M S bys m) : ∀ y ∈ m, (y.1.size : Int) ≤ 64 ∧ (y.2.1.size : Int) ≤ 256 := fun x hx => by
  rw [h.me] at hx
  obtain ⟨y, hy, rfl⟩ := List.mem_map.1 hx
  obtain ⟨_, r1, r2, _⟩ := rightC_ok (h.vx.ok y hy).2
  exact ⟨r1, r2⟩
theorem keys_eq {A B : List It} (h : A.Perm B) (hA : A.Pairwise fun x y => x.1.toList < y.1.toList) (hB : B.Pairwise fun x y => x.1.toList < y.1.toList) : A = B := by
  induction A generalizing B with
  | nil => exact (List.perm_nil.1 h.symm).symm
  | cons x A ih =>
    cases B with
    | nil => exact absurd h.length_eq (by simp)
    | cons y B =>
      obtain ⟨a1, a2⟩ := List.pairwise_cons.1 hA
      obtain ⟨b1, b2⟩ := List.pairwise_cons.1 hB
      have hxy : x = y := by
        rcases List.mem_cons.1 (h.mem_iff.1 (List.mem_cons_self ..)) with e | e
        · exact e
        · rcases List.mem_cons.1 (h.mem_iff.2 (List.mem_cons_self (a := y) (l := B))) with e2 | e2
          · exact e2.symm
          · exact absurd (b1 x e) (List.lt_asymm (a1 y e2))
      subst hxy
      rw [ih (List.perm_cons _ |>.1 h) a2 b2]
theorem VP.sorted (h : VP M S bys m) {wl : List It} (hp : wl.Perm (M.map (·.2))) (hq : wl.Pairwise fun x y => ltOf icmp y x = false) : wl = srt15 m := by
  have nd : ∀ {A : List It}, A.Perm (M.map (·.2)) → A.Pairwise (fun x y => ¬ y.1.toList < x.1.toList) → A.Pairwise fun x y => x.1.toList < y.1.toList := by
    intro A hA hs
    have hn := List.pairwise_map.1 (keys_nd h.vx hA)
    refine (hs.and hn).imp fun {x y} ⟨q1, q2⟩ => ?_
    rcases List.le_iff_lt_or_eq.1 (List.not_lt.1 q1) with q | q
    · exact q
    · rw [ByteArray.toList_eq, ByteArray.toList_eq] at q
      exact absurd (ByteArray.ext (Array.toList_inj.1 q)) q2
  unfold srt15
  have hp2 : (sort15 ltK m).Perm (M.map (·.2)) := h.me ▸ sort15_perm m
  refine keys_eq (hp.trans hp2.symm) (nd hp (hq.imp fun {x y} q => by rw [lt_icmp] at q; simpa using q)) (nd hp2 ((sort15_sd ordK m).imp fun {x y} q => by unfold ltK at q; simpa using q))
end Go.Proofs.YtnijaeipkbpibaaDoor
