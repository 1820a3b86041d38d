/- Ring -/
import Derived.Test.YtholinnmjoelkaaGreatDoorM08
set_option linter.unusedVariables false
set_option linter.unusedSimpArgs false
namespace Go.Proofs.YtholinnmjoelkaaGreatDoor
def Chain (N L : Nat → Nat) : Nat → List Nat → Nat → Prop
  | a, [], b => N a = b ∧ L b = a
  | a, x :: l, b => N a = x ∧ L x = a ∧ Chain N L x l b
def upd {β : Type} (f : Nat → β) (i : Nat) (v : β) : Nat → β := fun j => if j = i then v else f j
theorem upd_same {β : Type} (f : Nat → β) (i : Nat) (v : β) : upd f i v i = v := if_pos rfl
theorem upd_other {β : Type} (f : Nat → β) {i j : Nat} (v : β) (h : j ≠ i) : upd f i v j = f j := if_neg h
section
variable {N L N' L' : Nat → Nat}
theorem chain_congr {b : Nat} : ∀ (l : List Nat) (a : Nat), (∀ j, j = a ∨ j ∈ l → N' j = N j) → (∀ j, j ∈ l ∨ j = b → L' j = L j) → Chain N L a l b → Chain N' L' a l b
  | [], a, h1, h2, h => ⟨(h1 a (.inl rfl)).trans h.1, (h2 b (.inr rfl)).trans h.2⟩
  | x :: l, a, h1, h2, h => ⟨(h1 a (.inl rfl)).trans h.1, (h2 x (.inl (by simp))).trans h.2.1,
      chain_congr l x (fun j hj => h1 j (.inr (by rcases hj with rfl | hj <;> simp_all))) (fun j hj => h2 j (by rcases hj with hj | hj <;> simp_all)) h.2.2⟩
theorem chain_split {b x : Nat} {l2 : List Nat} : ∀ (l1 : List Nat) (a : Nat), Chain N L a (l1 ++ x :: l2) b ↔ Chain N L a l1 x ∧ Chain N L x l2 b
  | [], a => by simp [Chain, and_assoc]
  | y :: l1, a => by simp [Chain, chain_split l1 y, and_assoc]
theorem last_cons {α : Type} (l : List α) (x a : α) : (x :: l).getLast?.getD a = l.getLast?.getD x := by
  cases l with
  | nil => rfl
  | cons y l => rw [List.getLast?_cons_cons, List.getLast?_cons]; rfl
theorem last_mem {α : Type} (l : List α) (a : α) : l.getLast?.getD a = a ∨ l.getLast?.getD a ∈ l := by
  cases hg : l.getLast? with
  | none => exact .inl rfl
  | some u => exact .inr (List.mem_of_getLast? hg)
theorem head_mem {α : Type} (l : List α) (b : α) : l.head?.getD b = b ∨ l.head?.getD b ∈ l := by
  cases l with
  | nil => exact .inl rfl
  | cons u l => exact .inr (by simp)
theorem chain_last {b : Nat} : ∀ (l : List Nat) (a : Nat), Chain N L a l b → L b = l.getLast?.getD a
  | [], _, h => h.2
  | x :: l, a, h => by
    rw [chain_last l x h.2.2, last_cons]
theorem chain_first {b : Nat} : ∀ (l : List Nat) (a : Nat), Chain N L a l b → N a = l.head?.getD b
  | [], _, h => h.1
  | _ :: _, _, h => h.1
theorem chain_off {x b : Nat} {l2 : List Nat} : ∀ (l1 : List Nat) (a : Nat), (l1 ++ x :: l2).Nodup → a ∉ l1 ++ x :: l2 → b ∉ l1 ++ x :: l2 → Chain N L a (l1 ++ x :: l2) b →
    Chain (upd N (L x) (N x)) (upd L (N x) (L x)) a (l1 ++ l2) b
  | [], a, hn, ha, hb, h => by
    obtain ⟨h1, h2, h3⟩ := h
    simp only [List.nil_append] at hn ha hb ⊢
    rw [h2]
    cases l2 with
    | nil => obtain ⟨h4, h5⟩ := h3; rw [h4]; exact ⟨upd_same .., upd_same ..⟩
    | cons y l2 =>
      obtain ⟨h4, h5, h6⟩ := h3
      rw [h4]
      simp only [List.mem_cons, not_or, List.nodup_cons] at hn ha hb
      refine ⟨upd_same .., upd_same .., chain_congr l2 y (fun j hj => upd_other _ _ ?_) (fun j hj => upd_other _ _ ?_) h6⟩
      · rintro rfl; rcases hj with rfl | hj
        · exact ha.2.1 rfl
        · exact ha.2.2 hj
      · rintro rfl; rcases hj with hj | rfl
        · exact hn.2.1 hj
        · exact hb.2.1 rfl
  | z :: l1, a, hn, ha, hb, h => by
    obtain ⟨h1, h2, h3⟩ := h
    simp only [List.cons_append, List.nodup_cons, List.mem_cons, not_or] at hn ha hb ⊢
    have hc := (chain_split l1 z).1 h3
    have hl := chain_last l1 z hc.1
    have hf := chain_first l2 x hc.2
    have hLx : L x = z ∨ L x ∈ l1 := by
      rw [hl]; exact last_mem l1 z
    have hNx : N x = b ∨ N x ∈ l2 := by
      rw [hf]; exact head_mem l2 b
    refine ⟨?_, ?_, chain_off l1 z hn.2 hn.1 hb.2 h3⟩
    · rw [upd_other]
      · exact h1
      · rintro rfl
        rcases hLx with e | e
        · exact ha.1 e
        · exact ha.2 (by simp [e])
    · rw [upd_other]
      · exact h2
      · rintro rfl
        rcases hNx with e | e
        · exact hb.1 e.symm
        · exact hn.1 (by simp [e])
theorem chain_in {k b : Nat} {l2 : List Nat} : ∀ (l1 : List Nat) (a : Nat), (l1 ++ l2).Nodup → a ∉ l1 ++ l2 → b ∉ l1 ++ l2 → k ∉ l1 ++ l2 → k ≠ a → k ≠ b → Chain N L a (l1 ++ l2) b →
    Chain (upd (upd N k (l2.head?.getD b)) (l1.getLast?.getD a) k) (upd (upd L k (l1.getLast?.getD a)) (l2.head?.getD b) k) a (l1 ++ k :: l2) b
  | [], a, hn, ha, hb, hk, hka, hkb, h => by
    simp only [List.nil_append, List.getLast?_nil, Option.getD_none] at hn ha hb hk h ⊢
    refine ⟨upd_same .., ?_, ?_⟩
    · rw [upd_other, upd_same]
      rcases head_mem l2 b with e | e
      · rw [e]; exact hkb
      · intro e2; rw [← e2] at e; exact hk e
    · cases l2 with
      | nil => exact ⟨by rw [upd_other _ _ hka, upd_same]; rfl, upd_same ..⟩
      | cons y l2 =>
        obtain ⟨h1, h2, h3⟩ := h
        simp only [List.head?_cons, Option.getD_some]
        simp only [List.mem_cons, not_or, List.nodup_cons] at hn ha hb hk
        refine ⟨by rw [upd_other _ _ hka, upd_same], upd_same .., chain_congr l2 y (fun j hj => ?_) (fun j hj => ?_) h3⟩
        · rw [upd_other, upd_other]
          · rintro rfl; rcases hj with e | e
            · exact hk.1 e
            · exact hk.2 e
          · rintro rfl; rcases hj with e | e
            · exact ha.1 e
            · exact ha.2 e
        · rw [upd_other, upd_other]
          · rintro rfl; rcases hj with e | e
            · exact hk.2 e
            · exact hkb e
          · rintro rfl; rcases hj with e | e
            · exact hn.1 e
            · exact hb.1 e.symm
  | z :: l1, a, hn, ha, hb, hk, hka, hkb, h => by
    obtain ⟨h1, h2, h3⟩ := h
    simp only [List.cons_append, List.nodup_cons, List.mem_cons, not_or] at hn ha hb hk ⊢
    rw [last_cons]
    refine ⟨?_, ?_, chain_in l1 z hn.2 hn.1 hb.2 hk.2 hk.1 hkb h3⟩
    · rw [upd_other, upd_other _ _ (Ne.symm hka)]
      · exact h1
      · intro e
        rcases last_mem l1 z with e2 | e2
        · exact ha.1 (e.trans e2)
        · exact ha.2 (by rw [← e] at e2; simp [e2])
    · rw [upd_other, upd_other _ _ (Ne.symm hk.1)]
      · exact h2
      · intro e
        rcases head_mem l2 b with e2 | e2
        · exact hb.1 (e.trans e2).symm
        · exact hn.1 (by rw [← e] at e2; simp [e2])
end
structure Ring (n : Nat) (K : Nat → ByteArray) (N L : Nat → Nat) (E : List Nat) (m : List (ByteArray × Nat)) (keys : List ByteArray) (idx : List Nat) : Prop where
  chain : Chain N L 0 idx 0
  nodup : idx.Nodup
  zero : 0 ∉ idx
  bound : ∀ i ∈ idx, i < n
  keys_eq : idx.map K = keys
  key0 : K 0 = ⟨#[]⟩
  free : E.Nodup
  freeIn : ∀ e ∈ E, 0 < e ∧ e < n ∧ e ∉ idx
  map : ∀ k i, lk m k = some i ↔ i ∈ idx ∧ K i = k
  uniq : keys.Nodup
  size : m.length = keys.length
  count : n = keys.length + E.length + 1
section
variable {n : Nat} {K : Nat → ByteArray} {N L : Nat → Nat} {E : List Nat} {m : List (ByteArray × Nat)} {keys : List ByteArray} {idx : List Nat}
theorem Ring.new : Ring 1 (fun _ => ⟨#[]⟩) (fun _ => 0) (fun _ => 0) [] [] [] [] where
  chain := ⟨rfl, rfl⟩
  nodup := List.nodup_nil
  zero := by simp
  bound := by simp
  keys_eq := rfl
  key0 := rfl
  free := List.nodup_nil
  freeIn := by simp
  map := by simp [lk]
  uniq := List.nodup_nil
  size := rfl
  count := rfl
theorem Ring.mem_keys (h : Ring n K N L E m keys idx) {k : ByteArray} : k ∈ keys ↔ ∃ i, lk m k = some i := by
  rw [← h.keys_eq, List.mem_map]
  exact ⟨fun ⟨i, h1, h2⟩ => ⟨i, (h.map k i).2 ⟨h1, h2⟩⟩, fun ⟨i, hi⟩ => ⟨i, ((h.map k i).1 hi).1, ((h.map k i).1 hi).2⟩⟩
theorem Ring.next_lt (h : Ring n K N L E m keys idx) : N 0 < n ∧ L 0 < n := by
  have h0 : 0 < n := by have := h.count; omega
  rw [chain_first _ _ h.chain, chain_last _ _ h.chain]
  constructor
  · rcases head_mem idx 0 with e | e
    · rw [e]; exact h0
    · exact h.bound _ e
  · rcases last_mem idx 0 with e | e
    · rw [e]; exact h0
    · exact h.bound _ e
theorem Ring.first (h : Ring n K N L E m keys idx) : K (N 0) = keys.head?.getD ⟨#[]⟩ := by
  rw [chain_first _ _ h.chain, ← h.keys_eq]
  cases idx with
  | nil => exact h.key0
  | cons i l => rfl
theorem Ring.last (h : Ring n K N L E m keys idx) : K (L 0) = keys.getLast?.getD ⟨#[]⟩ := by
  rw [chain_last _ _ h.chain, ← h.keys_eq, List.getLast?_map]
  cases idx.getLast? with
  | none => exact h.key0
  | some i => rfl
theorem inj_of_nodup_map {idx : List Nat} {K : Nat → ByteArray} (h : (idx.map K).Nodup) {i j : Nat} (hi : i ∈ idx) (hj : j ∈ idx) (e : K i = K j) : i = j := by
  induction idx with
  | nil => simp at hi
  | cons x l ih =>
    simp only [List.map_cons, List.nodup_cons, List.mem_map, not_exists, not_and] at h
    rcases List.mem_cons.1 hi with rfl | hi' <;> rcases List.mem_cons.1 hj with rfl | hj'
    · rfl
    · exact absurd e.symm (h.1 j hj')
    · exact absurd e (h.1 i hi')
    · exact ih h.2 hi' hj'
theorem Ring.beside (h : Ring n K N L E m keys idx) {i : Nat} (hi : i ∈ idx) : N i < n ∧ L i < n ∧ N i ≠ i ∧ L i ≠ i ∧ i ≠ 0 ∧ i < n := by
  have h0 : 0 < n := by have := h.count; omega
  obtain ⟨l1, l2, rfl⟩ := List.append_of_mem hi
  have hc := (chain_split l1 0).1 h.chain
  have hn := h.nodup
  have hz := h.zero
  have hb := h.bound
  rw [chain_first _ _ hc.2, chain_last _ _ hc.1]
  simp only [List.mem_append, List.mem_cons, not_or] at hz hb
  rw [List.nodup_append] at hn
  obtain ⟨_, hn2, hn3⟩ := hn
  rw [List.nodup_cons] at hn2
  refine ⟨?_, ?_, ?_, ?_, Ne.symm hz.2.1, hb i (.inr (.inl rfl))⟩
  · rcases head_mem l2 0 with e | e
    · rw [e]; exact h0
    · exact hb _ (.inr (.inr e))
  · rcases last_mem l1 0 with e | e
    · rw [e]; exact h0
    · exact hb _ (.inl e)
  · rcases head_mem l2 0 with e | e
    · rw [e]; exact hz.2.1
    · intro e2; rw [e2] at e; exact hn2.1 e
  · rcases last_mem l1 0 with e | e
    · rw [e]; exact hz.2.1
    · intro e2; rw [e2] at e; exact hn3 i e i (by simp) rfl
theorem Ring.off (h : Ring n K N L E m keys idx) {k : ByteArray} {i : Nat} (hk : lk m k = some i) (hm : (m.map (·.1)).Nodup) :
    Ring n (upd K i ⟨#[]⟩) (upd (upd N (L i) (N i)) i 0) (upd (upd L (N i) (L i)) i 0) (E ++ [i]) (del m k) (keys.filter (· ≠ k)) (idx.filter (· ≠ i)) := by
  obtain ⟨hi, hKi⟩ := (h.map k i).1 hk
  have hbe := h.beside hi
  have huniq : (idx.map K).Nodup := by rw [h.keys_eq]; exact h.uniq
  have hinj : ∀ j ∈ idx, K j = k → j = i := fun j hj e => inj_of_nodup_map huniq hj hi (e.trans hKi.symm)
  have hmapf : ∀ l : List Nat, (∀ j ∈ l, j ∈ idx) → (l.filter (· ≠ i)).map (upd K i ⟨#[]⟩) = (l.map K).filter (· ≠ k) := by
    intro l
    induction l with
    | nil => simp
    | cons j l ih =>
      intro hl
      have ih' := ih fun x hx => hl x (by simp [hx])
      by_cases e : j = i
      · subst e
        have e1 : (j :: l).filter (· ≠ j) = l.filter (· ≠ j) := by simp
        have e2 : ((j :: l).map K).filter (· ≠ k) = (l.map K).filter (· ≠ k) := by simp [hKi]
        rw [e1, e2]; exact ih'
      · have hne : K j ≠ k := fun c => e (hinj j (hl j (by simp)) c)
        have e1 : (j :: l).filter (· ≠ i) = j :: l.filter (· ≠ i) := by simp [e]
        have e2 : ((j :: l).map K).filter (· ≠ k) = K j :: (l.map K).filter (· ≠ k) := by simp [hne]
        rw [e1, e2, List.map_cons, ih', upd_other _ _ e]
  have hkeys : (idx.filter (· ≠ i)).map (upd K i ⟨#[]⟩) = keys.filter (· ≠ k) := by rw [hmapf idx fun _ q => q, h.keys_eq]
  have hlen : (idx.filter (· ≠ i)).length + 1 = idx.length := by
    have := h.nodup
    clear hkeys hmapf hinj huniq
    obtain ⟨l1, l2, rfl⟩ := List.append_of_mem hi
    rw [List.nodup_append] at this
    obtain ⟨_, hn2, hn3⟩ := this
    rw [List.nodup_cons] at hn2
    have e1 : l1.filter (· ≠ i) = l1 := List.filter_eq_self.2 fun x hx => by simpa using hn3 x hx i (by simp)
    have e2 : (i :: l2).filter (· ≠ i) = l2 := by
      have : (i :: l2).filter (· ≠ i) = l2.filter (· ≠ i) := by simp
      rw [this]; exact List.filter_eq_self.2 fun x hx => by simp; rintro rfl; exact hn2.1 hx
    rw [List.filter_append, e1, e2]; simp; omega
  have hkl : (keys.filter (· ≠ k)).length + 1 = keys.length := by rw [← hkeys, List.length_map, hlen, ← h.keys_eq, List.length_map]
  refine ⟨?_, h.nodup.filter _, fun q => h.zero (List.mem_filter.1 q).1, fun j hj => h.bound j (List.mem_filter.1 hj).1, hkeys, ?_, ?_, ?_, ?_, h.uniq.filter _, ?_, ?_⟩
  · have hc := h.chain
    have hn := h.nodup
    have hz := h.zero
    clear hkeys hmapf hinj huniq hlen hkl
    obtain ⟨l1, l2, rfl⟩ := List.append_of_mem hi
    have hn' := hn
    rw [List.nodup_append] at hn
    obtain ⟨_, hn2, hn3⟩ := hn
    rw [List.nodup_cons] at hn2
    have e1 : l1.filter (· ≠ i) = l1 := List.filter_eq_self.2 fun x hx => by simpa using hn3 x hx i (by simp)
    have e2 : (i :: l2).filter (· ≠ i) = l2 := by
      have : (i :: l2).filter (· ≠ i) = l2.filter (· ≠ i) := by simp
      rw [this]; exact List.filter_eq_self.2 fun x hx => by simp; rintro rfl; exact hn2.1 hx
    rw [List.filter_append, e1, e2]
    have hnot : ∀ j, j = 0 ∨ j ∈ l1 ++ l2 → j ≠ i := by
      rintro j (rfl | hj) rfl
      · exact hz hi
      · rcases List.mem_append.1 hj with hj | hj
        · exact hn3 j hj j (by simp) rfl
        · exact hn2.1 hj
    exact chain_congr (l1 ++ l2) 0 (fun j hj => upd_other _ _ (hnot j hj)) (fun j hj => upd_other _ _ (hnot j hj.symm)) (chain_off l1 0 hn' hz hz hc)
  · rw [upd_other _ _ (Ne.symm hbe.2.2.2.2.1)]; exact h.key0
  · exact List.nodup_append.2 ⟨h.free, by simp, fun a ha b hb => by
      simp at hb; subst hb; rintro rfl; exact (h.freeIn a ha).2.2 hi⟩
  · intro e he
    rcases List.mem_append.1 he with he | he
    · have := h.freeIn e he
      exact ⟨this.1, this.2.1, fun q => this.2.2 (List.mem_filter.1 q).1⟩
    · simp at he; subst he
      exact ⟨Nat.pos_of_ne_zero hbe.2.2.2.2.1, hbe.2.2.2.2.2, fun q => by simpa using (List.mem_filter.1 q).2⟩
  · intro k' j
    rw [lk_del hm]
    by_cases e : k' = k
    · subst e
      simp only [if_pos, reduceCtorEq, false_iff, not_and]
      intro hj
      obtain ⟨hj1, hj2⟩ := List.mem_filter.1 hj
      have hji : j ≠ i := by simpa using hj2
      rw [upd_other _ _ hji]
      exact fun c => hji (hinj j hj1 c)
    · rw [if_neg e, h.map]
      constructor
      · rintro ⟨h1, h2⟩
        have hji : j ≠ i := by rintro rfl; exact e (h2.symm.trans hKi)
        exact ⟨List.mem_filter.2 ⟨h1, by simpa using hji⟩, by rw [upd_other _ _ hji]; exact h2⟩
      · rintro ⟨h1, h2⟩
        obtain ⟨hj1, hj2⟩ := List.mem_filter.1 h1
        have hji : j ≠ i := by simpa using hj2
        rw [upd_other _ _ hji] at h2
        exact ⟨hj1, h2⟩
  · rw [length_del, hk]
    have := h.size
    simp only [Option.isSome_some, if_true]; omega
  · have := h.count; simp; simp at hkl; omega
theorem Ring.lay {l1 l2 : List Nat} {k : ByteArray} {kx n' : Nat} {E' : List Nat} (h : Ring n K N L E m keys (l1 ++ l2)) (hk : lk m k = none)
    (hE : (E = E' ++ [kx] ∧ n' = n) ∨ (E = [] ∧ E' = [] ∧ kx = n ∧ n' = n + 1)) :
    Ring n' (upd K kx k) (upd (upd N kx (l2.head?.getD 0)) (l1.getLast?.getD 0) kx) (upd (upd L kx (l1.getLast?.getD 0)) (l2.head?.getD 0) kx) E' (put m k kx) (l1.map K ++ k :: l2.map K) (l1 ++ kx :: l2) := by
  have h0 : 0 < n := by have := h.count; omega
  have hkx : kx ∉ l1 ++ l2 ∧ kx ≠ 0 ∧ kx < n' ∧ n ≤ n' := by
    rcases hE with ⟨rfl, rfl⟩ | ⟨rfl, rfl, rfl, rfl⟩
    · have := h.freeIn kx (by simp)
      exact ⟨this.2.2, by omega, this.2.1, Nat.le_refl _⟩
    · exact ⟨fun q => absurd (h.bound _ q) (Nat.lt_irrefl _), by omega, by omega, by omega⟩
  have hkk : k ∉ keys := fun q => by obtain ⟨i, hi⟩ := h.mem_keys.1 q; rw [hk] at hi; cases hi
  have hkeys := h.keys_eq
  rw [List.map_append] at hkeys
  have hmapo : ∀ l : List Nat, (∀ j ∈ l, j ∈ l1 ++ l2) → l.map (upd K kx k) = l.map K := fun l hl => List.map_congr_left fun j hj => upd_other _ _ (by rintro rfl; exact hkx.1 (hl j hj))
  have hnd := h.nodup
  refine ⟨chain_in l1 0 hnd h.zero h.zero hkx.1 hkx.2.1 hkx.2.1 h.chain, ?_, ?_, ?_, ?_, ?_, ?_, ?_, ?_, ?_, ?_, ?_⟩
  · rw [List.nodup_append] at hnd ⊢
    refine ⟨hnd.1, List.nodup_cons.2 ⟨fun q => hkx.1 (by simp [q]), hnd.2.1⟩, fun a ha b hb => ?_⟩
    rcases List.mem_cons.1 hb with rfl | hb
    · rintro rfl; exact hkx.1 (by simp [ha])
    · exact hnd.2.2 a ha b hb
  · have := h.zero
    simp only [List.mem_append, List.mem_cons, not_or] at this ⊢
    exact ⟨this.1, Ne.symm hkx.2.1, this.2⟩
  · intro i hi
    simp only [List.mem_append, List.mem_cons] at hi
    rcases hi with hi | rfl | hi
    · exact Nat.lt_of_lt_of_le (h.bound i (by simp [hi])) hkx.2.2.2
    · exact hkx.2.2.1
    · exact Nat.lt_of_lt_of_le (h.bound i (by simp [hi])) hkx.2.2.2
  · rw [List.map_append, List.map_cons, upd_same, hmapo l1 fun j hj => by simp [hj], hmapo l2 fun j hj => by simp [hj]]
  · rw [upd_other _ _ (Ne.symm hkx.2.1)]; exact h.key0
  · rcases hE with ⟨rfl, _⟩ | ⟨_, rfl, _⟩
    · have := h.free; rw [List.nodup_append] at this; exact this.1
    · exact List.nodup_nil
  · intro e he
    rcases hE with ⟨rfl, rfl⟩ | ⟨_, rfl, _⟩
    · have h1 := h.freeIn e (by simp [he])
      have h2 := h.free
      rw [List.nodup_append] at h2
      refine ⟨h1.1, h1.2.1, fun q => ?_⟩
      simp only [List.mem_append, List.mem_cons] at q
      rcases q with q | rfl | q
      · exact h1.2.2 (by simp [q])
      · exact h2.2.2 _ he _ (by simp) rfl
      · exact h1.2.2 (by simp [q])
    · simp at he
  · intro k' j
    rw [lk_put]
    have hmem : j ∈ l1 ++ kx :: l2 ↔ j = kx ∨ j ∈ l1 ++ l2 := by
      simp only [List.mem_append, List.mem_cons]
      constructor
      · rintro (q | q | q) <;> simp [q]
      · rintro (q | q | q) <;> simp [q]
    rw [hmem]
    by_cases e : k' = k
    · subst e
      rw [if_pos rfl]
      constructor
      · intro q; injection q with q; subst q; exact ⟨.inl rfl, upd_same ..⟩
      · rintro ⟨rfl | q, q2⟩
        · rfl
        · have hjk : j ≠ kx := by rintro rfl; exact hkx.1 q
          rw [upd_other _ _ hjk] at q2
          exact absurd (h.mem_keys.2 ⟨j, (h.map k' j).2 ⟨q, q2⟩⟩) hkk
    · rw [if_neg e, h.map]
      constructor
      · rintro ⟨q, q2⟩
        have hjk : j ≠ kx := by rintro rfl; exact hkx.1 q
        exact ⟨.inr q, by rw [upd_other _ _ hjk]; exact q2⟩
      · rintro ⟨rfl | q, q2⟩
        · rw [upd_same] at q2; exact absurd q2.symm e
        · have hjk : j ≠ kx := by rintro rfl; exact hkx.1 q
          rw [upd_other _ _ hjk] at q2
          exact ⟨q, q2⟩
  · have := h.uniq
    rw [← hkeys] at this hkk
    rw [List.nodup_append] at this ⊢
    refine ⟨this.1, List.nodup_cons.2 ⟨fun q => hkk (by simp [q]), this.2.1⟩, fun a ha b hb => ?_⟩
    rcases List.mem_cons.1 hb with rfl | hb
    · rintro rfl; exact hkk (by simp [ha])
    · exact this.2.2 a ha b hb
  · rw [length_put, hk]
    have := h.size
    rw [← hkeys] at this
    simp at this ⊢; omega
  · have := h.count
    rw [← hkeys] at this
    rcases hE with ⟨rfl, rfl⟩ | ⟨rfl, rfl, rfl, rfl⟩ <;> simp at this ⊢ <;> omega
end
end Go.Proofs.YtholinnmjoelkaaGreatDoor
