/- RowPure, SrlPure, SrlRsz -/
import Derived.Test.YtholinnmjoelkaaGreatDoorM18
import Derived.Test.YtholinnmjoelkaaGreatDoorM13
set_option linter.unusedVariables false
set_option linter.unusedSimpArgs false
namespace Go.Proofs.YtholinnmjoelkaaGreatDoor
abbrev LB := List ByteArray
def lastOf (l : LB) : ByteArray := l.getLast?.getD ⟨#[]⟩
theorem perm_last {l : LB} (h : 0 < l.length) : l.dropLast ++ [lastOf l] = l := by
  obtain ⟨l', x, rfl⟩ : ∃ l' x, l = l' ++ [x] := ⟨l.dropLast, l.getLast (by intro e; simp [e] at h), (List.dropLast_concat_getLast _).symm⟩
  simp [lastOf]
theorem lastOf_app {a b : LB} (h : 0 < b.length) : lastOf (a ++ b) = lastOf b := by
  obtain ⟨l', x, rfl⟩ : ∃ l' x, b = l' ++ [x] := ⟨b.dropLast, lastOf b, (perm_last h).symm⟩
  simp [lastOf, ← List.append_assoc]
def cn (l : LB) (k : ByteArray) : Nat := (l.filter (· = k)).length
theorem cn_nil (k : ByteArray) : cn [] k = 0 := rfl
theorem cn_cons (x : ByteArray) (l : LB) (k : ByteArray) : cn (x :: l) k = cn l k + if k = x then 1 else 0 := by
  unfold cn
  rw [List.filter_cons]
  by_cases h : x = k
  · subst h; simp
  · simp [h, Ne.symm h]
theorem cn_app (a b : LB) (k : ByteArray) : cn (a ++ b) k = cn a k + cn b k := by simp [cn]
theorem cn_rev (l : LB) (k : ByteArray) : cn l.reverse k = cn l k := by simp [cn, List.filter_reverse]
theorem cn_mem {l : LB} {k : ByteArray} : k ∈ l ↔ 0 < cn l k := by
  unfold cn
  rw [List.length_pos_iff_exists_mem]
  constructor
  · intro h; exact ⟨k, List.mem_filter.2 ⟨h, by simp⟩⟩
  · rintro ⟨x, hx⟩
    have := List.mem_filter.1 hx
    have e : x = k := by simpa using this.2
    exact e ▸ this.1
theorem cn_rm (l : LB) (a k : ByteArray) : cn (rm l a) k = if k = a then 0 else cn l k := by
  unfold cn rm
  rw [List.filter_filter]
  by_cases h : k = a
  · subst h; rw [if_pos rfl, List.filter_eq_nil_iff.2 (fun x _ => by simp)]; rfl
  · rw [if_neg h]; congr 1
    apply List.filter_congr
    intro x _
    by_cases e : x = k
    · subst e; simp [h]
    · simp [e]
theorem cn_fr (l : LB) (a k : ByteArray) : cn (fr l a) k = if k = a then 1 else cn l k := by
  rw [fr, cn_cons, cn_rm]; split <;> simp
theorem cn_dl {l : LB} (h : 0 < l.length) (k : ByteArray) : cn l k = cn l.dropLast k + if k = lastOf l then 1 else 0 := by
  conv => lhs; rw [← perm_last h]
  rw [cn_app, cn_cons, cn_nil, Nat.zero_add]
theorem len_rm (l : LB) (a : ByteArray) : (rm l a).length + cn l a = l.length := by
  induction l with
  | nil => rfl
  | cons x l ih =>
    rw [cn_cons]
    by_cases h : a = x
    · subst h
      rw [if_pos rfl, show rm (a :: l) a = rm l a by simp [rm]]
      simp only [List.length_cons]; omega
    · rw [if_neg h, show rm (x :: l) a = x :: rm l a by simp [rm, Ne.symm h]]
      simp only [List.length_cons]; omega
theorem len_fr (l : LB) (a : ByteArray) : (fr l a).length + cn l a = l.length + 1 := by
  have := len_rm l a
  show (rm l a).length + 1 + _ = _; omega
theorem len_dl (l : LB) : l.dropLast.length = l.length - 1 := List.length_dropLast
theorem cn_last {l : LB} (h : 0 < l.length) : 0 < cn l (lastOf l) := by rw [cn_dl h, if_pos rfl]; omega
theorem nodup_cn {l : LB} : l.Nodup ↔ ∀ k, cn l k ≤ 1 := by
  induction l with
  | nil => simp [cn_nil]
  | cons x l ih =>
    rw [List.nodup_cons, ih]
    constructor
    · rintro ⟨h1, h2⟩ k
      rw [cn_cons]
      have := h2 k
      by_cases e : k = x
      · subst e; rw [cn_mem] at h1; rw [if_pos rfl]; omega
      · rw [if_neg e]; exact this
    · intro h
      refine ⟨fun q => ?_, fun k => ?_⟩
      · have := h x; rw [cn_cons, if_pos rfl] at this; rw [cn_mem] at q; omega
      · have := h k; rw [cn_cons] at this; omega
theorem getD_mem {l : LB} {i : Nat} (h : i < l.length) : l.getD i ⟨#[]⟩ ∈ l := by
  rw [List.getD_eq_getElem?_getD, List.getElem?_eq_getElem h]; exact List.getElem_mem h
theorem mem_dl {l : LB} {k : ByteArray} (h : k ∈ l.dropLast) : k ∈ l := (List.dropLast_sublist l).subset h
def lastRev (m : Int) (rw : LB) : LB := (rw.drop (rw.length - m.toNat)).reverse
theorem lastRev_length {m : Int} (h : 0 ≤ m) (rw : LB) : ((lastRev m rw).length : Int) = min (rw.length : Int) m := by
  unfold lastRev; rw [List.length_reverse, List.length_drop]; omega
theorem lastRev_push_room {m : Int} {rw : LB} (h : (rw.length : Int) < m) (key : ByteArray) : lastRev m (rw ++ [key]) = key :: lastRev m rw := by
  unfold lastRev
  rw [show (rw ++ [key]).length - m.toNat = 0 by simp; omega, show rw.length - m.toNat = 0 by omega]
  simp
theorem lastRev_push_full {m : Int} {rw : LB} (h1 : 1 ≤ m) (h : m ≤ (rw.length : Int)) (key : ByteArray) : lastRev m (rw ++ [key]) = key :: (lastRev m rw).dropLast ∧ lastOf (lastRev m rw) = rw.getD (rw.length - m.toNat) ⟨#[]⟩ := by
  unfold lastRev
  obtain ⟨i, hi⟩ : ∃ i, rw.length - m.toNat = i := ⟨_, rfl⟩
  have hlt : i < rw.length := by omega
  rw [show (rw ++ [key]).length - m.toNat = i + 1 by simp; omega, hi]
  constructor
  · rw [List.drop_append_of_le_length (by omega), List.reverse_append, List.drop_eq_getElem_cons hlt, List.reverse_cons (a := rw[i]), List.dropLast_concat]
    rfl
  · rw [List.drop_eq_getElem_cons hlt, List.reverse_cons]
    simp [lastOf, hlt]
theorem lastRev_mem {m : Int} {rw : LB} {k : ByteArray} (h : k ∈ lastRev m rw) : k ∈ rw := by
  unfold lastRev at h; rw [List.mem_reverse] at h; exact (List.drop_sublist _ _).subset h
end Go.Proofs.YtholinnmjoelkaaGreatDoor
namespace Go.Proofs.YtholinnmjoelkaaGreatDoor
abbrev Mks := List (ByteArray × (Bool × Bool))
variable {most target : Int} {ns cs gs L : LB} {ms : Mks} {key : ByteArray} {z : ByteArray → Prop}
structure SrlB (z : ByteArray → Prop) (L gs : LB) (ms : Mks) : Prop where
  nl : L.Nodup
  ng : gs.Nodup
  apart : ∀ k, k ∈ L → k ∉ gs
  mks : ∀ k, (lk ms k).isSome = true ↔ k ∈ L ∨ k ∈ gs ∨ z k
  out : ∀ k, z k → k ∉ L ∧ k ∉ gs
  mn : (ms.map (·.1)).Nodup
theorem isSome_put (ms : Mks) (k z : ByteArray) (v : Bool × Bool) : (lk (put ms k v) z).isSome = true ↔ z = k ∨ (lk ms z).isSome = true := by
  rw [lk_put]; by_cases h : z = k <;> simp [h]
theorem isSome_del {ms : Mks} (h : (ms.map (·.1)).Nodup) (k z : ByteArray) : (lk (del ms k) z).isSome = true ↔ z ≠ k ∧ (lk ms z).isSome = true := by
  rw [lk_del h]; by_cases h : z = k <;> simp [h]
theorem mem_split {l : LB} (h : 0 < l.length) {k : ByteArray} : k ∈ l ↔ k ∈ l.dropLast ∨ k = lastOf l := by
  conv => lhs; rw [← perm_last h]
  simp
theorem last_not_dl {l : LB} (h : 0 < l.length) (hn : l.Nodup) : lastOf l ∉ l.dropLast := by
  rw [← perm_last h] at hn
  intro q
  exact (List.nodup_append.1 hn).2.2 _ q _ (List.mem_singleton.2 rfl) rfl
theorem mem_dl_iff {l : LB} (h : 0 < l.length) (hn : l.Nodup) {k : ByteArray} : k ∈ l.dropLast ↔ k ∈ l ∧ k ≠ lastOf l :=
  ⟨fun q => ⟨mem_dl q, fun e => last_not_dl h hn (e ▸ q)⟩, fun q => ((mem_split h).1 q.1).resolve_right q.2⟩
theorem lastMem {l : LB} (h : 0 < l.length) : lastOf l ∈ l := (mem_split h).2 (.inr rfl)
theorem nodup_dl {l : LB} (h : l.Nodup) : l.dropLast.Nodup := h.sublist (List.dropLast_sublist l)
theorem nodup_rm {l : LB} (h : l.Nodup) (k : ByteArray) : (rm l k).Nodup := h.filter _
theorem len_rm_lt {l : LB} (hn : l.Nodup) {k : ByteArray} (h : k ∈ l) : (rm l k).length + 1 = l.length := by
  have := length_rm hn k
  rw [if_pos h] at this
  have : 0 < l.length := List.length_pos_of_mem h
  omega
theorem nodup_cons' {l : LB} {k : ByteArray} (h : l.Nodup) (hk : k ∉ l) : (k :: l).Nodup := List.nodup_cons.2 ⟨hk, h⟩
theorem fr_app {a b : LB} {k : ByteArray} : fr (a ++ b) k = fr a k ++ rm b k := by rw [fr, rm_append]; rfl
theorem srlTrim_one (h0 : 0 ≤ most) (h : (gs.length : Int) ≤ most + 1) : srlTrim most target ns cs gs ms = if (gs.length : Int) ≤ most then (gs, ms) else (gs.dropLast, del ms (lastOf gs)) := by
  unfold srlTrim
  by_cases hc : (gs.length : Int) ≤ most
  · rw [if_pos hc, srlTrimL_stop (by omega)]
  · rw [if_neg hc, srlTrimL_go (by omega) h0, srlTrimL_stop]
    · rfl
    rw [List.length_dropLast]; omega
theorem SrlB.trim (h0 : 0 ≤ most) (h : (gs.length : Int) ≤ most + 1) (hB : SrlB z L gs ms) :
    SrlB z L (srlTrim most target ns cs gs ms).1 (srlTrim most target ns cs gs ms).2 ∧ ((srlTrim most target ns cs gs ms).1.length : Int) ≤ most ∧ (srlTrim most target ns cs gs ms).1 = gs.take most.toNat := by
  rw [srlTrim_one h0 h]
  split
  · rename_i hc; exact ⟨hB, hc, (List.take_of_length_le (by show gs.length ≤ _; omega)).symm⟩
  · rename_i hc
    have hpos : 0 < gs.length := by omega
    refine ⟨⟨hB.nl, nodup_dl hB.ng, fun k a b => hB.apart k a (mem_dl b), fun k => ?_, fun k q => ⟨(hB.out k q).1, fun b => (hB.out k q).2 (mem_dl b)⟩, nodup_del hB.mn _⟩, by simp only [List.length_dropLast]; omega, by
      show gs.dropLast = gs.take most.toNat
      rw [List.dropLast_eq_take]; congr 1; omega⟩
    rw [isSome_del hB.mn, hB.mks, mem_dl_iff hpos hB.ng]
    have hl := lastMem hpos
    constructor
    · rintro ⟨a, b | b | b⟩
      · exact .inl b
      · exact .inr (.inl ⟨b, a⟩)
      · exact .inr (.inr b)
    · rintro (b | b | b)
      · exact ⟨fun e => hB.apart k b (e ▸ hl), .inl b⟩
      · exact ⟨b.2, .inr (.inl b.1)⟩
      · exact ⟨fun e => (hB.out k b).2 (e ▸ hl), .inr (.inr b)⟩
def srlN (ns : LB) : LB := if 0 < ns.length then ns.dropLast else ns
def srlC (ns cs : LB) : LB := if 0 < ns.length then cs else cs.dropLast
theorem srlCN (ns cs : LB) : srlC ns cs ++ srlN ns = (cs ++ ns).dropLast := by
  unfold srlC srlN
  split
  · rename_i h
    rw [List.dropLast_append_of_ne_nil (by intro e; simp [e] at h)]
  · rename_i h
    have : ns = [] := List.eq_nil_of_length_eq_zero (by omega)
    subst this; simp
theorem srlWho (h : 0 < (cs ++ ns).length) : (if 0 < ns.length then ns.getLast?.getD ⟨#[]⟩ else cs.getLast?.getD ⟨#[]⟩) = lastOf (cs ++ ns) := by
  split
  · rename_i h1; rw [lastOf_app h1]; rfl
  · have : ns = [] := List.eq_nil_of_length_eq_zero (by omega)
    subst this; simp [lastOf]
theorem srlEvict_eq (h : 0 < (cs ++ ns).length) : srlEvict most target ns cs gs ms = (srlN ns, srlC ns cs, (srlTrim most target (srlN ns) (srlC ns cs) (fr gs (lastOf (cs ++ ns))) ms).1, (srlTrim most target (srlN ns) (srlC ns cs) (fr gs (lastOf (cs ++ ns))) ms).2, lastOf (cs ++ ns), true) := by
  rw [← srlWho h]
  unfold srlEvict srlN srlC
  rw [List.length_append] at h
  by_cases h1 : 0 < ns.length
  · rw [if_pos (by omega), if_pos h1, if_pos h1, if_pos h1, if_pos h1, decide_eq_true h1]
  · have h2 : 0 < cs.length := by omega
    rw [if_neg (by omega), if_pos h2, if_neg h1, if_neg h1, if_neg h1, decide_eq_true h2]
theorem srlDrop_eq (h : 0 < (cs ++ ns).length) : srlDrop most target ns cs gs ms = (srlN ns, srlC ns cs, del ms (lastOf (cs ++ ns)), lastOf (cs ++ ns), true) := by
  rw [← srlWho h]
  unfold srlDrop srlN srlC
  rw [List.length_append] at h
  by_cases h1 : 0 < ns.length
  · rw [if_pos (by omega), if_pos h1, if_pos h1, if_pos h1, if_pos h1, decide_eq_true h1]
  · have h2 : 0 < cs.length := by omega
    rw [if_neg (by omega), if_pos h2, if_neg h1, if_neg h1, if_neg h1, decide_eq_true h2]
theorem srlDrop_nil : srlDrop most target [] [] gs ms = ([], [], ms, ⟨#[]⟩, false) := by
  unfold srlDrop; simp
theorem len_srlC (ns cs : LB) : (srlC ns cs).length = min cs.length ((cs ++ ns).length - 1) := by
  unfold srlC
  rw [List.length_append]
  split
  · omega
  · simp only [List.length_dropLast]; omega
theorem SrlB.gone (hB : SrlB z L gs ms) (h : 0 < L.length) : SrlB z L.dropLast (fr gs (lastOf L)) ms ∧ fr gs (lastOf L) = lastOf L :: gs := by
  have hw := lastMem h
  have hwg : lastOf L ∉ gs := hB.apart _ hw
  have e : fr gs (lastOf L) = lastOf L :: gs := by rw [fr, rm_not hwg]
  refine ⟨⟨nodup_dl hB.nl, nodup_fr hB.ng _, fun k a b => ?_, fun k => ?_, fun k q => ⟨fun a => (hB.out k q).1 (mem_dl a), fun a => ?_⟩, hB.mn⟩, e⟩
  · rcases mem_fr.1 b with q | q
    · exact last_not_dl h hB.nl (q ▸ a)
    · exact hB.apart k (mem_dl a) q
  · rw [hB.mks, mem_dl_iff h hB.nl, mem_fr]
    by_cases e : k = lastOf L
    · subst e; exact ⟨fun _ => .inr (.inl (.inl rfl)), fun _ => .inl hw⟩
    · constructor
      · rintro (a | a | a)
        · exact .inl ⟨a, e⟩
        · exact .inr (.inl (.inr a))
        · exact .inr (.inr a)
      · rintro (a | (a | a) | a)
        · exact .inl a.1
        · exact absurd a e
        · exact .inr (.inl a)
        · exact .inr (.inr a)
  · rcases mem_fr.1 a with a | a
    · exact (hB.out k q).1 (a ▸ hw)
    · exact (hB.out k q).2 a
theorem SrlB.evict (hB : SrlB z (cs ++ ns) gs ms) (h : 0 < (cs ++ ns).length) (h0 : 0 ≤ most) (hg : (gs.length : Int) ≤ most) {x} (hx : srlEvict most target ns cs gs ms = x) :
    SrlB z (x.2.1 ++ x.1) x.2.2.1 x.2.2.2.1 ∧ x.2.1 ++ x.1 = (cs ++ ns).dropLast ∧ x.2.1 = srlC ns cs ∧ x.2.2.1 = (lastOf (cs ++ ns) :: gs).take most.toNat ∧ x.2.2.2.2.1 = lastOf (cs ++ ns) ∧ x.2.2.2.2.2 = true := by
  rw [srlEvict_eq h] at hx
  subst hx
  obtain ⟨h1, h2⟩ := hB.gone h
  have h3 := SrlB.trim (target := target) (ns := srlN ns) (cs := srlC ns cs) h0 (by rw [h2]; simp only [List.length_cons]; omega) h1
  refine ⟨?_, srlCN _ _, rfl, ?_, rfl, rfl⟩
  · dsimp only; rw [srlCN]; exact h3.1
  · dsimp only; rw [h3.2.2, h2]
theorem SrlB.unghost (hB : SrlB (fun _ => False) L gs ms) (hk : key ∉ L) : SrlB (fun k => k = key ∧ key ∈ gs) L (rm gs key) ms := by
  refine ⟨hB.nl, nodup_rm hB.ng _, fun k a b => hB.apart k a (mem_rm.1 b).1, fun k => ?_, fun k q => ⟨q.1 ▸ hk, fun b => (mem_rm.1 b).2 q.1⟩, hB.mn⟩
  rw [hB.mks, mem_rm]
  by_cases e : k = key
  · subst e; simp
  · simp [e]
theorem SrlB.enter {p : Prop} {L' : LB} (hB : SrlB (fun k => k = key ∧ p) L gs ms) (v : Bool × Bool) (hL : ∀ k, k ∈ L' ↔ k = key ∨ k ∈ L) (hn : L'.Nodup) (hg : key ∉ gs) : SrlB (fun _ => False) L' gs (put ms key v) := by
  refine ⟨hn, hB.ng, fun k a b => ?_, fun k => ?_, fun k q => q.elim, nodup_put hB.mn _ _⟩
  · rcases (hL k).1 a with e | e
    · exact hg (e ▸ b)
    · exact hB.apart k e b
  · rw [isSome_put, hB.mks, hL]
    by_cases e : k = key <;> simp [e]
theorem SrlB.marks {ms' : Mks} (hB : SrlB z L gs ms) (h : ∀ k, (lk ms' k).isSome = (lk ms k).isSome) (hm : (ms'.map (·.1)).Nodup) : SrlB z L gs ms' :=
  ⟨hB.nl, hB.ng, hB.apart, fun k => by rw [h]; exact hB.mks k, hB.out, hm⟩
theorem srlDem_row (t : Int) : ∀ (k : Nat) (ns cs : LB) (ms : Mks), cs.length ≤ k → (cs ++ ns).Nodup → (ms.map (·.1)).Nodup → (∀ x ∈ cs, (lk ms x).isSome = true) →
    (srlDem t k ns cs ms).2.1 ++ (srlDem t k ns cs ms).1 = cs ++ ns ∧ (srlDem t k ns cs ms).2.1.length = min cs.length (max 1 t.toNat) ∧ (∀ x, (lk (srlDem t k ns cs ms).2.2 x).isSome = (lk ms x).isSome) ∧ ((srlDem t k ns cs ms).2.2.map (·.1)).Nodup
  | 0, ns, cs, ms, h, hn, hm, hs => by
    have : cs = [] := List.eq_nil_of_length_eq_zero (by omega)
    subst this; exact ⟨rfl, by simp [srlDem], fun _ => rfl, hm⟩
  | k + 1, ns, cs, ms, h, hn, hm, hs => by
    unfold srlDem
    by_cases hc : (cs.length : Int) > (if (1 : Int) > t then 1 else t)
    · rw [if_pos hc]
      have hpos := srlDem_pos hc
      have hl := lastMem hpos
      have hls : lastOf cs ∉ ns := fun q => (List.nodup_append.1 hn).2.2 _ hl _ q rfl
      have e1 : fr ns (cs.getLast?.getD ⟨#[]⟩) = lastOf cs :: ns := fr_not hls
      have e2 : cs.dropLast ++ fr ns (cs.getLast?.getD ⟨#[]⟩) = cs ++ ns := by
        rw [e1]
        conv => rhs; rw [← perm_last hpos]
        simp
      have hsome : ∀ x, (lk (put ms (cs.getLast?.getD ⟨#[]⟩) (true, true)) x).isSome = (lk ms x).isSome := fun x => by
        rw [lk_put]
        by_cases e : x = cs.getLast?.getD ⟨#[]⟩
        · rw [if_pos e, e]; exact (hs _ hl).symm
        · rw [if_neg e]
      obtain ⟨i1, i2, i3, i4⟩ := srlDem_row t k (fr ns (cs.getLast?.getD ⟨#[]⟩)) cs.dropLast (put ms (cs.getLast?.getD ⟨#[]⟩) (true, true)) (by rw [List.length_dropLast]; omega) (by rw [e2]; exact hn) (nodup_put hm _ _) (fun x q => by rw [hsome]; exact hs x (mem_dl q))
      refine ⟨i1.trans e2, i2.trans ?_, fun x => (i3 x).trans (hsome x), i4⟩
      rw [List.length_dropLast]; split at hc <;> omega
    · rw [if_neg hc]
      refine ⟨rfl, ?_, fun _ => rfl, hm⟩
      show cs.length = _
      split at hc <;> omega
theorem SrlB.again {p : Prop} (hB : SrlB (fun k => k = key ∧ p) (cs ++ ns) gs ms) (hk : key ∉ cs ++ ns) (hg : key ∉ gs) {x} (hx : srlAgain most target ns cs gs ms key = x) :
    SrlB (fun _ => False) (x.2.1 ++ x.1) gs x.2.2 ∧ x.2.1 ++ x.1 = key :: (cs ++ ns) ∧ x.2.1.length = min (cs.length + 1) (max 1 target.toNat) := by
  subst hx
  have hkc : key ∉ cs := fun q => hk (List.mem_append_left _ q)
  have e1 : fr cs key = key :: cs := fr_not hkc
  have hn : (key :: cs ++ ns).Nodup := by rw [List.cons_append]; exact nodup_cons' hB.nl hk
  have hE : SrlB (fun _ => False) (key :: (cs ++ ns)) gs (put ms key (true, false)) := hB.enter _ (fun k => by simp) hn hg
  have := srlDem_row target (fr cs key).length ns (fr cs key) (put ms key (true, false)) (Nat.le_refl _) (by rw [e1]; exact hn) (nodup_put hB.mn _ _) (fun x q => (hE.mks x).2 (.inl (by rw [e1] at q; rw [← List.cons_append]; exact List.mem_append_left _ q)))
  unfold srlAgain
  obtain ⟨i1, i2, i3, i4⟩ := this
  rw [e1] at i1 i2 i3 i4 ⊢
  refine ⟨?_, i1, i2⟩
  rw [i1]; exact hE.marks i3 i4
end Go.Proofs.YtholinnmjoelkaaGreatDoor
namespace Go.Proofs.YtholinnmjoelkaaGreatDoor
open Go.RowKit Go.MapKept
def srlRszL (M t : Int) : Nat → LB → LB → LB → Mks → LB × LB × LB × Mks × LB
  | 0, ns, cs, gs, ms => (ns, cs, gs, ms, [])
  | k + 1, ns, cs, gs, ms => if srlLen M t ns cs gs ms > M then
      ((srlRszL M t k (srlEvict M t ns cs gs ms).1 (srlEvict M t ns cs gs ms).2.1 (srlEvict M t ns cs gs ms).2.2.1 (srlEvict M t ns cs gs ms).2.2.2.1).1, (srlRszL M t k (srlEvict M t ns cs gs ms).1 (srlEvict M t ns cs gs ms).2.1 (srlEvict M t ns cs gs ms).2.2.1 (srlEvict M t ns cs gs ms).2.2.2.1).2.1, (srlRszL M t k (srlEvict M t ns cs gs ms).1 (srlEvict M t ns cs gs ms).2.1 (srlEvict M t ns cs gs ms).2.2.1 (srlEvict M t ns cs gs ms).2.2.2.1).2.2.1, (srlRszL M t k (srlEvict M t ns cs gs ms).1 (srlEvict M t ns cs gs ms).2.1 (srlEvict M t ns cs gs ms).2.2.1 (srlEvict M t ns cs gs ms).2.2.2.1).2.2.2.1,
        (srlEvict M t ns cs gs ms).2.2.2.2.1 :: (srlRszL M t k (srlEvict M t ns cs gs ms).1 (srlEvict M t ns cs gs ms).2.1 (srlEvict M t ns cs gs ms).2.2.1 (srlEvict M t ns cs gs ms).2.2.2.1).2.2.2.2)
    else (ns, cs, gs, ms, [])
theorem srlLen_i (M t : Int) (ns cs gs : LB) (ms : Mks) : srlLen M t ns cs gs ms = (ns.length : Int) + cs.length := by unfold srlLen; omega
theorem srlEvict_len (M t : Int) {ns cs : LB} (gs : LB) (ms : Mks) (h : 0 < ns.length + cs.length) : (srlEvict M t ns cs gs ms).1.length + (srlEvict M t ns cs gs ms).2.1.length + 1 = ns.length + cs.length := by
  rw [srlEvict_eq (by rw [List.length_append]; omega)]
  unfold srlN srlC
  dsimp only
  split
  · rw [List.length_dropLast]; omega
  · rw [List.length_dropLast]; omega
structure SrlZ (M t : Int) (ns cs gs : LB) (ms : Mks) (ns2 cs2 gs2 : LB) (ms2 : Mks) (rw : LB) : Prop where
  e : srlRszL M t (ns.length + cs.length) ns cs gs ms = ((srlRszL M t (ns2.length + cs2.length) ns2 cs2 gs2 ms2).1, (srlRszL M t (ns2.length + cs2.length) ns2 cs2 gs2 ms2).2.1, (srlRszL M t (ns2.length + cs2.length) ns2 cs2 gs2 ms2).2.2.1, (srlRszL M t (ns2.length + cs2.length) ns2 cs2 gs2 ms2).2.2.2.1, rw ++ (srlRszL M t (ns2.length + cs2.length) ns2 cs2 gs2 ms2).2.2.2.2)
  tot : rw.length + ns2.length + cs2.length = ns.length + cs.length
theorem SrlZ.new {M t : Int} {ns cs gs : LB} {ms : Mks} : SrlZ M t ns cs gs ms ns cs gs ms [] := ⟨rfl, by simp⟩
theorem SrlZ.step {M t : Int} {ns cs gs : LB} {ms : Mks} {ns2 cs2 gs2 : LB} {ms2 : Mks} {rw : LB} (h : SrlZ M t ns cs gs ms ns2 cs2 gs2 ms2 rw) (hM : 0 ≤ M) (hc : srlLen M t ns2 cs2 gs2 ms2 > M) :
    SrlZ M t ns cs gs ms (srlEvict M t ns2 cs2 gs2 ms2).1 (srlEvict M t ns2 cs2 gs2 ms2).2.1 (srlEvict M t ns2 cs2 gs2 ms2).2.2.1 (srlEvict M t ns2 cs2 gs2 ms2).2.2.2.1 (rw ++ [(srlEvict M t ns2 cs2 gs2 ms2).2.2.2.2.1]) := by
  obtain ⟨h1, h2⟩ := h
  have hl := srlLen_i M t ns2 cs2 gs2 ms2
  have h4 := srlEvict_len M t gs2 ms2 (show 0 < ns2.length + cs2.length by omega)
  refine ⟨?_, by simp only [List.length_append, List.length_singleton]; omega⟩
  rw [h1, ← h4, srlRszL, if_pos hc]
  simp
end Go.Proofs.YtholinnmjoelkaaGreatDoor
