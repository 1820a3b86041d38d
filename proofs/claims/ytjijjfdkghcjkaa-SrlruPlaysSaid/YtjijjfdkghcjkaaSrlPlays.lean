/- Package srlru beside the document's: the plain law. -/
import Derived.Test.YtjijjfdkghcjkaaRef07
import Derived.Test.YtjijjfdkghcjkaaSrlPureC
set_option linter.unusedVariables false
namespace Go.Proofs.Ytjijjfdkghcjkaa
variable {most t : Int} {ns cs gs : LB} {ms : Mks} {N A G : List K7} {key : ByteArray} {z : ByteArray → Prop}
abbrev nms (l : List K7) : LB := l.map (·.1)
theorem nms_rem (l : List K7) (s : ByteArray) : nms (rem7 l s) = rm (nms l) s := by
  unfold nms rem7 rm; rw [List.filter_map]; rfl
theorem nms_take (l : List K7) (n : Nat) : nms (l.take n) = (nms l).take n := List.map_take ..
theorem nms_dl (l : List K7) : nms (l.take (l.length - 1)) = (nms l).dropLast := by rw [nms_take, List.dropLast_eq_take, List.length_map]
theorem nms_last {l : List K7} (h : 0 < l.length) : (l.getD (l.length - 1) kz7).1 = lastOf (nms l) := by
  unfold lastOf nms
  rw [List.getLast?_eq_getElem?, List.length_map, List.getElem?_map, getD_lt (by omega), List.getElem?_eq_getElem (show l.length - 1 < l.length by omega)]; rfl
theorem last_in {l : List K7} (h : 0 < l.length) : l.getD (l.length - 1) kz7 ∈ l := by rw [getD_lt (by omega)]; exact List.getElem_mem _
theorem lk_nms (l : List K7) (s : ByteArray) : (lk l s).isSome = true ↔ s ∈ nms l := by
  cases e : lk l s with
  | none => have := lk_none.1 e; simp only [Option.isSome_none, Bool.false_eq_true, false_iff]; exact this
  | some v => have := List.mem_map_of_mem (f := fun y : K7 => y.1) (lk_mem e); simp only [Option.isSome_some, true_iff]; exact this
theorem front_eq (l : List K7) (a : ByteArray) (b c : Bool) : front7 l a b c = (a, b, c) :: l := rfl
/-- The rows of the two are the same, and marks tell what the document's keys bear. -/
structure SR (ns cs gs : LB) (ms : Mks) (N A G : List K7) : Prop where
  n : nms N = ns
  a : nms A = cs
  g : nms G = gs
  mn : ∀ x ∈ N, lk ms x.1 = some x.2
  ma : ∀ x ∈ A, lk ms x.1 = some x.2
  mg : ∀ x ∈ G, (lk ms x.1).map (·.1) = some x.2.1
theorem SR.new : SR [] [] [] [] [] [] [] := ⟨rfl, rfl, rfl, by simp, by simp, by simp⟩
theorem SR.len (h : SR ns cs gs ms N A G) : N.length = ns.length ∧ A.length = cs.length ∧ G.length = gs.length := by
  rw [← h.n, ← h.a, ← h.g]; simp [nms]
theorem SR.marks {ms' : Mks} (h : SR ns cs gs ms N A G) (hm : ∀ k, k ∈ ns ∨ k ∈ cs ∨ k ∈ gs → lk ms' k = lk ms k) : SR ns cs gs ms' N A G := by
  refine ⟨h.n, h.a, h.g, fun x hx => ?_, fun x hx => ?_, fun x hx => ?_⟩
  · rw [hm _ (.inl (h.n ▸ List.mem_map_of_mem hx))]; exact h.mn x hx
  · rw [hm _ (.inr (.inl (h.a ▸ List.mem_map_of_mem hx)))]; exact h.ma x hx
  · rw [hm _ (.inr (.inr (h.g ▸ List.mem_map_of_mem hx)))]; exact h.mg x hx
theorem SR.del_ (h : SR ns cs gs ms N A G) (hn : (ms.map (·.1)).Nodup) {k : ByteArray} (hk : k ∉ ns ∧ k ∉ cs ∧ k ∉ gs) : SR ns cs gs (del ms k) N A G :=
  h.marks fun q hq => by
    rw [lk_del hn, if_neg]
    rintro rfl
    rcases hq with q | q | q
    · exact hk.1 q
    · exact hk.2.1 q
    · exact hk.2.2 q
theorem SR.put_ (h : SR ns cs gs ms N A G) {k : ByteArray} {v : Bool × Bool} (hk : k ∉ ns ∧ k ∉ cs ∧ k ∉ gs) : SR ns cs gs (put ms k v) N A G :=
  h.marks fun q hq => by
    rw [lk_put, if_neg]
    rintro rfl
    rcases hq with q | q | q
    · exact hk.1 q
    · exact hk.2.1 q
    · exact hk.2.2 q
theorem SR.unghost (h : SR ns cs gs ms N A G) (k : ByteArray) : SR ns cs (rm gs k) ms N A (rem7 G k) :=
  ⟨h.n, h.a, by rw [nms_rem, h.g], h.mn, h.ma, fun x hx => h.mg x (List.mem_filter.1 hx).1⟩
theorem SR.takeG (h : SR ns cs gs ms N A G) (n : Nat) : SR ns cs (gs.take n) ms N A (G.take n) :=
  ⟨h.n, h.a, by rw [nms_take, h.g], h.mn, h.ma, fun x hx => h.mg x (List.mem_of_mem_take hx)⟩
theorem SR.has (h : SR ns cs gs ms N A G) (k : ByteArray) : r7Has most t N A G k = decide (k ∈ cs ++ ns) := by
  have h1 := lk_nms N k; have h2 := lk_nms A k
  rw [h.n] at h1; rw [h.a] at h2
  unfold r7Has
  by_cases q1 : k ∈ ns <;> by_cases q2 : k ∈ cs <;> simp [q1, q2, h1, h2]
/-- The victim goes. -/
theorem SR.go (h : SR ns cs gs ms N A G) (h0 : 0 < (cs ++ ns).length) : SR (srlN ns) (srlC ns cs) gs ms (r7Go most t N A G).1 (r7Go most t N A G).2.1 (r7Go most t N A G).2.2.1 ∧ (r7Go most t N A G).2.2.2.1 = lastOf (cs ++ ns) ∧
    lk ms (lastOf (cs ++ ns)) = some ((r7Go most t N A G).2.2.2.2.1, (r7Go most t N A G).2.2.2.2.2) := by
  obtain ⟨l1, l2, l3⟩ := h.len
  rw [List.length_append] at h0
  unfold r7Go srlN srlC
  by_cases hn : 0 < ns.length
  · have hN : (N.length : Int) > 0 := by omega
    simp only [if_pos hN, if_pos hn]
    rw [lastOf_app hn]
    have e := nms_last (l := N) (by omega)
    rw [h.n] at e
    refine ⟨⟨by rw [nms_dl, h.n], h.a, h.g, fun x hx => h.mn x (List.mem_of_mem_take hx), h.ma, h.mg⟩, e, ?_⟩
    rw [← e]; exact h.mn _ (last_in (by omega))
  · have hn0 : ns = [] := List.eq_nil_of_length_eq_zero (by omega)
    have hN : ¬ (N.length : Int) > 0 := by omega
    simp only [if_neg hN, if_neg hn]
    rw [hn0, List.append_nil]
    have e := nms_last (l := A) (by omega)
    rw [h.a] at e
    refine ⟨⟨by rw [h.n, hn0], by rw [nms_dl, h.a], h.g, h.mn, fun x hx => h.ma x (List.mem_of_mem_take hx), h.mg⟩, e, ?_⟩
    rw [← e]; exact h.ma _ (last_in (by omega))
theorem SR.trim (h : SR ns cs gs ms N A G) (hB : SrlB z (cs ++ ns) gs ms) (h0 : 0 ≤ most) (hg : (gs.length : Int) ≤ most + 1) (ns2 cs2 : LB) :
    SR ns cs (srlTrim most t ns2 cs2 gs ms).1 (srlTrim most t ns2 cs2 gs ms).2 (r7Trim most t N A G).1 (r7Trim most t N A G).2.1 (r7Trim most t N A G).2.2 := by
  rw [srlTrim_one h0 hg, r7Trim_eq _ _ _ _ _ h0]
  obtain ⟨l1, l2, l3⟩ := h.len
  by_cases hc : (gs.length : Int) ≤ most
  · rw [if_pos hc, List.take_of_length_le (by omega)]; exact h
  · rw [if_neg hc]
    have hpos : 0 < gs.length := by omega
    have e : gs.dropLast = gs.take most.toNat := by rw [List.dropLast_eq_take]; congr 1; omega
    dsimp only
    have hl := lastMem hpos
    rw [e]
    have h1 := h.takeG most.toNat
    refine h1.del_ hB.mn ⟨fun q => hB.apart _ (List.mem_append_right _ q) hl, fun q => hB.apart _ (List.mem_append_left _ q) hl, fun q => ?_⟩
    rw [← e] at q
    exact last_not_dl hpos hB.ng q
theorem SR.evict (h : SR ns cs gs ms N A G) (hB : SrlB z (cs ++ ns) gs ms) (hp : 0 < (cs ++ ns).length) (h0 : 0 ≤ most) (hg : (gs.length : Int) ≤ most) {t' : Int} {x} (hx : srlEvict most t ns cs gs ms = x) :
    SR x.1 x.2.1 x.2.2.1 x.2.2.2.1 (r7Evict most t' N A G).1 (r7Evict most t' N A G).2.1 (r7Evict most t' N A G).2.2.1 ∧ (r7Evict most t' N A G).2.2.2 = x.2.2.2.2.1 ∧ x.2.2.2.2.2 = true := by
  rw [srlEvict_eq hp] at hx
  subst hx
  obtain ⟨g1, g2, g3⟩ := h.go (most := most) (t := t') hp
  obtain ⟨b1, b2⟩ := hB.gone hp
  unfold r7Evict
  dsimp only
  refine ⟨?_, g2, rfl⟩
  have e1 := (r7Go_len most t' N A G (by obtain ⟨l1, l2, l3⟩ := h.len; rw [List.length_append] at hp; omega)).2
  rw [b2]
  have hs : SR (srlN ns) (srlC ns cs) (lastOf (cs ++ ns) :: gs) ms (r7Go most t' N A G).1 (r7Go most t' N A G).2.1 (front7 (r7Go most t' N A G).2.2.1 (r7Go most t' N A G).2.2.2.1 (r7Go most t' N A G).2.2.2.2.1 false) := by
    refine ⟨g1.n, g1.a, ?_, g1.mn, g1.ma, fun x hx => ?_⟩
    · rw [front_eq]; show (r7Go most t' N A G).2.2.2.1 :: nms (r7Go most t' N A G).2.2.1 = _; rw [g2, g1.g]
    · rw [front_eq] at hx
      rcases List.mem_cons.1 hx with q | q
      · subst q; dsimp only; rw [g2, g3]; rfl
      · exact g1.mg x q
  have b3 : SrlB z (srlC ns cs ++ srlN ns) (lastOf (cs ++ ns) :: gs) ms := by rw [srlCN, ← b2]; exact b1
  have r := hs.trim (most := most) (t := t') (z := z) b3 h0 (by simp only [List.length_cons]; omega) (srlN ns) (srlC ns cs)
  exact r
/-- Those too many of A. -/
theorem SR.dem (t : Int) : ∀ (k : Nat) {ns cs : LB} {ms : Mks} {N A : List K7}, SR ns cs gs ms N A G → (cs ++ ns).Nodup → (∀ q ∈ gs, q ∉ cs) →
    SR (srlDem t k ns cs ms).1 (srlDem t k ns cs ms).2.1 gs (srlDem t k ns cs ms).2.2 (dem7 t k N A).1 (dem7 t k N A).2 G
  | 0, ns, cs, ms, N, A, h, _, _ => h
  | k + 1, ns, cs, ms, N, A, h, hn, hg => by
    obtain ⟨l1, l2, l3⟩ := h.len
    by_cases hc : (cs.length : Int) > (if (1 : Int) > t then 1 else t)
    · have hc2 : (A.length : Int) > t ∧ (A.length : Int) > 1 := by rw [l2]; split at hc <;> omega
      rw [srlDem, if_pos hc, dem7, if_pos hc2]
      have hpos : 0 < cs.length := by omega
      have hl := lastMem hpos
      have e : (A.getD (A.length - 1) kz7).1 = lastOf cs := by rw [nms_last (by omega), h.a]
      have hln : lastOf cs ∉ ns := fun q => (List.nodup_append.1 hn).2.2 _ hl _ q rfl
      have hnc := (List.nodup_append.1 hn).1
      have e1 : fr ns (cs.getLast?.getD ⟨#[]⟩) = lastOf cs :: ns := fr_not hln
      have e2 : cs.dropLast ++ (lastOf cs :: ns) = cs ++ ns := by
        conv => rhs; rw [← perm_last hpos]
        simp
      rw [e1, show cs.getLast?.getD ⟨#[]⟩ = lastOf cs from rfl]
      refine SR.dem t k ?_ (by rw [e2]; exact hn) (fun q hq w => hg q hq (mem_dl w))
      refine ⟨?_, by rw [nms_dl, h.a], h.g, fun x hx => ?_, fun x hx => ?_, fun x hx => ?_⟩
      · show (A.getD (A.length - 1) kz7).1 :: nms N = _; rw [e, h.n]
      · rcases List.mem_cons.1 hx with q | q
        · subst q; dsimp only; rw [e]; exact lk_put_same _ _ _
        · have : x.1 ∈ ns := h.n ▸ List.mem_map_of_mem q
          rw [lk_put_other _ _ (fun w => hln (by show lastOf cs ∈ ns; exact (show x.1 = lastOf cs from w) ▸ this))]; exact h.mn x q
      · have hx2 := List.mem_of_mem_take hx
        have : x.1 ∈ cs.dropLast := by rw [← h.a, ← nms_dl]; exact List.mem_map_of_mem hx
        rw [lk_put_other _ _ (fun w => last_not_dl hpos hnc ((show x.1 = lastOf cs from w) ▸ this))]; exact h.ma x hx2
      · have : x.1 ∈ gs := h.g ▸ List.mem_map_of_mem hx
        rw [lk_put_other _ _ (fun w => hg _ this ((show x.1 = lastOf cs from w) ▸ hl))]; exact h.mg x hx
    · have hc2 : ¬ ((A.length : Int) > t ∧ (A.length : Int) > 1) := by rw [l2]; split at hc <;> omega
      rw [srlDem_stop hc, dem7_stop hc2]; exact h
theorem SR.again (h : SR ns cs gs ms N A G) (hn : (cs ++ ns).Nodup) (hg : ∀ q ∈ cs ++ ns, q ∉ gs) (hk : key ∉ cs ++ ns) (hkg : key ∉ gs) {x} (hx : srlAgain most t ns cs gs ms key = x) :
    SR x.1 x.2.1 gs x.2.2 (r7Again most t N A G key).1 (r7Again most t N A G key).2.1 (r7Again most t N A G key).2.2 := by
  have hkc : key ∉ cs := fun q => hk (List.mem_append_left _ q)
  have hkn : key ∉ ns := fun q => hk (List.mem_append_right _ q)
  have e1 : fr cs key = key :: cs := fr_not hkc
  obtain ⟨l1, l2, l3⟩ := h.len
  subst hx
  unfold srlAgain r7Again
  rw [e1, show ([(key, true, false)] ++ A : List K7).length = (key :: cs).length by simp [l2]]
  dsimp only
  refine SR.dem t _ ?_ (by rw [List.cons_append]; exact nodup_cons' hn hk) (fun q hq w => ?_)
  · have h1 := h.put_ (k := key) (v := (true, false)) ⟨hkn, hkc, hkg⟩
    refine ⟨h1.n, ?_, h1.g, h1.mn, fun x hx => ?_, h1.mg⟩
    · show key :: nms A = _; rw [h.a]
    · rcases List.mem_cons.1 hx with q | q
      · subst q; exact lk_put_same _ _ _
      · exact h1.ma x q
  · rcases List.mem_cons.1 w with w | w
    · exact hkg (w ▸ hq)
    · exact hg q (List.mem_append_left _ w) hq
end Go.Proofs.Ytjijjfdkghcjkaa
