/- Package srlru: what the other calls do. -/
import Derived.Test.YtjijjfdkghcjkaaSrlPureB
set_option linter.unusedVariables false
namespace Go.Proofs.Ytjijjfdkghcjkaa
variable {most target : Int} {ns cs gs L : LB} {ms : Mks} {key : ByteArray} {z : ByteArray → Prop}

theorem srlKeys_eq : srlKeys most target ns cs gs ms = (cs ++ ns).reverse := by unfold srlKeys; rw [List.reverse_append]
theorem SrlI.new {most : Int} (h : 0 ≤ most) : SrlI most (most / 2) [] [] [] [] :=
  ⟨⟨List.nodup_nil, List.nodup_nil, fun k a => by simp at a, fun k => by simp [lk], fun k q => q.elim, List.nodup_nil⟩, h, by omega, by omega, fun q => by omega, by simpa using h, by simpa using h, by simp⟩
theorem SrlI.remove (h : SrlI most target ns cs gs ms) (key : ByteArray) {x} (hx : srlRemove most target ns cs gs ms key = x) :
    SrlI most target x.1 x.2.1 x.2.2.1 x.2.2.2.1 ∧ x.2.1 ++ x.1 = rm (cs ++ ns) key ∧ x.2.2.1 = rm gs key ∧ x.2.2.2.2 = decide (key ∈ cs ++ ns) := by
  have hnd := List.nodup_append.1 h.b.nl
  have e : srlRemove most target ns cs gs ms key = (rm ns key, rm cs key, rm gs key, del ms key, decide (key ∈ cs ++ ns)) := by
    unfold srlRemove
    by_cases hn : key ∈ ns
    · have hc : key ∉ cs := fun q => hnd.2.2 _ q _ hn rfl
      rw [if_pos hn, rm_not hc, decide_eq_true (List.mem_append_right _ hn)]
    · rw [if_neg hn]
      simp [hn]
  rw [e] at hx
  subst hx
  have e0 : rm cs key ++ rm ns key = rm (cs ++ ns) key := (rm_append _ _ _).symm
  have hB : SrlB (fun _ => False) (rm cs key ++ rm ns key) (rm gs key) (del ms key) := by
    rw [e0]
    refine ⟨nodup_rm h.b.nl _, nodup_rm h.b.ng _, fun k a b => h.b.apart k (mem_rm.1 a).1 (mem_rm.1 b).1, fun k => ?_, fun k q => q.elim, nodup_del h.b.mn _⟩
    rw [isSome_del h.b.mn, h.b.mks, mem_rm, mem_rm]
    by_cases e : k = key <;> simp [e]
  have l1 := rm_le cs key
  have l2 := rm_le ns key
  have l3 := rm_le gs key
  have g4 := h.len; have g5 := h.glen; have g6 := h.clen
  refine ⟨⟨hB, h.h0, h.t0, h.tm, h.t1, ?_, ?_, ?_⟩, e0, rfl, rfl⟩
  · rw [List.length_append] at g4 ⊢; dsimp only; omega
  · dsimp only; omega
  · dsimp only; omega
theorem SrlI.adopt (h : SrlI most target ns cs gs ms) (key : ByteArray) {x} (hx : srlAdopt most target ns cs gs ms key = x) :
    SrlI most target x.1 cs x.2.1 x.2.2.1 ∧ (if key ∉ cs ++ ns ∧ ((cs ++ ns).length : Int) < most then x.1 = key :: ns ∧ x.2.1 = rm gs key ∧ x.2.2.2 = true else x = (ns, gs, ms, false)) := by
  have g4 := h.len; have g5 := h.glen
  by_cases hk : key ∈ cs ++ ns
  · have e : srlAdopt most target ns cs gs ms key = (ns, gs, ms, false) := by unfold srlAdopt; rw [srlHas_eq, if_pos (decide_eq_true hk)]
    rw [e] at hx; subst hx
    exact ⟨h, by rw [if_neg (fun q => q.1 hk)]⟩
  by_cases hl : ((cs ++ ns).length : Int) < most
  · have e : srlAdopt most target ns cs gs ms key = (fr ns key, rm gs key, put ms key (false, false), true) := by
      unfold srlAdopt; rw [srlHas_eq, srlLen_eq, decide_eq_false hk, if_neg (by simp), if_neg (by omega)]
    have hkn : key ∉ ns := fun q => hk (List.mem_append_right _ q)
    rw [e, fr_not hkn] at hx; subst hx
    have hB := h.b.unghost hk
    have hnd := List.nodup_append.1 h.b.nl
    have l3 := rm_le gs key
    refine ⟨⟨hB.enter _ (fun k => by simp only [List.mem_append, List.mem_cons]; constructor <;> rintro (a | a | a) <;> simp [a]) (List.nodup_append.2 ⟨hnd.1, nodup_cons' hnd.2.1 hkn, fun a ha b hb e => by
      rcases List.mem_cons.1 hb with q | q
      · exact hk (List.mem_append_left _ (q ▸ e ▸ ha))
      · exact hnd.2.2 a ha b q e⟩) (fun q => (mem_rm.1 q).2 rfl), h.h0, h.t0, h.tm, h.t1, ?_, ?_, h.clen⟩, by rw [if_pos ⟨hk, hl⟩]; exact ⟨rfl, rfl, rfl⟩⟩
    · rw [List.length_append] at hl ⊢; simp only [List.length_cons]; omega
    · dsimp only; omega
  · have e : srlAdopt most target ns cs gs ms key = (ns, gs, ms, false) := by
      unfold srlAdopt; rw [srlHas_eq, srlLen_eq, decide_eq_false hk, if_neg (by simp), if_pos (by omega)]
    rw [e] at hx; subst hx
    exact ⟨h, by rw [if_neg (fun q => hl q.2)]⟩
theorem SrlI.drop (h : SrlI most target ns cs gs ms) {x} (hx : srlDrop most target ns cs gs ms = x) :
    SrlI most target x.1 x.2.1 gs x.2.2.1 ∧ x.2.1 ++ x.1 = (cs ++ ns).dropLast ∧ x.2.2.2 = (lastOf (cs ++ ns), decide (0 < (cs ++ ns).length)) := by
  have g4 := h.len; have g6 := h.clen
  by_cases hp : 0 < (cs ++ ns).length
  · rw [srlDrop_eq hp] at hx; subst hx
    have hB : SrlB (fun _ => False) (srlC ns cs ++ srlN ns) gs (del ms (lastOf (cs ++ ns))) := by
      rw [srlCN]
      refine ⟨nodup_dl h.b.nl, h.b.ng, fun k a => h.b.apart k (mem_dl a), fun k => ?_, fun k q => q.elim, nodup_del h.b.mn _⟩
      rw [isSome_del h.b.mn, h.b.mks, mem_dl_iff hp h.b.nl]
      have := lastMem hp
      constructor
      · rintro ⟨a, b | b | b⟩
        · exact .inl ⟨b, a⟩
        · exact .inr (.inl b)
        · exact b.elim
      · rintro (b | b | b)
        · exact ⟨b.2, .inl b.1⟩
        · exact ⟨fun e => h.b.apart _ this (e ▸ b), .inr (.inl b)⟩
        · exact b.elim
    refine ⟨⟨hB, h.h0, h.t0, h.tm, h.t1, ?_, h.glen, ?_⟩, srlCN _ _, by rw [decide_eq_true hp]⟩
    · dsimp only; rw [srlCN, List.length_dropLast]; omega
    · dsimp only; rw [len_srlC]; omega
  · have e : cs ++ ns = [] := List.eq_nil_of_length_eq_zero (by omega)
    obtain ⟨rfl, rfl⟩ := List.append_eq_nil_iff.1 e
    rw [srlDrop_nil] at hx; subst hx
    exact ⟨h, rfl, rfl⟩
theorem SrlI.nums (h : SrlI most target ns cs gs ms) : 0 ≤ target ∧ target ≤ most ∧ (2 ≤ most → 1 ≤ target) ∧ (cs.length : Int) + ns.length ≤ most ∧ (gs.length : Int) ≤ most ∧ ((cs.length : Int) ≤ target ∨ cs.length ≤ 1) := by
  have := h.len; have := h.clen
  rw [List.length_append] at *
  exact ⟨h.t0, h.tm, h.t1, by omega, h.glen, by omega⟩
theorem srlLen_sum : srlLen most target ns cs gs ms = (cs.length : Int) + ns.length := by unfold srlLen; omega
theorem srlNew_nn {m : Int} (h : 0 ≤ m) : srlNew m = (m, m / 2, [], [], [], []) := by unfold srlNew; rw [if_neg (by omega)]
theorem getD_mem {l : LB} {i : Nat} (h : i < l.length) : l.getD i ⟨#[]⟩ ∈ l := by
  rw [List.getD_eq_getElem?_getD, List.getElem?_eq_getElem h]; exact List.getElem_mem h
end Go.Proofs.Ytjijjfdkghcjkaa
