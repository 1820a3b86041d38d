/- What the walks of the statements on package list have in common. -/
import Derived.Test.YthbffkdfahlpdaaListAwake
set_option linter.unusedVariables false
namespace Go.Proofs.Ythbffkdfahlpdaa
open Go.RowKit Go.MapKept

/-- A call of a script over lists: its kind, its key. -/
abbrev LAct := {p : Int × ByteArray // (Lit.int .i64 p.1).wf = true ∧ p.2.size ≤ maxLen}
def LAct.cells (x : LAct) : List Value := [.int .i64 x.1.1, .string x.1.2]
theorem el_lact {H : Type} {enc : TypeId × Value → H} {w : World} {base : Nat} {sp : Nat → Bool} {held : Bool} {n : Nat} {cs : List Value} {y : DataW H × List MemPlace}
    (h : DataW.trod enc Try.prog w base sp held n 53 cs = some y) : ∃ x : LAct, cs = x.cells := by
  obtain ⟨y0, y1, m, _, hl, h0, h1⟩ := ChangeShapes.trod_struct2 Try.underlying53 h
  obtain ⟨a, ha, _, hw⟩ := DataW.trod_int Try.underlying3 h0
  obtain ⟨s, hs, _, hz⟩ := DataW.trod_string Try.underlying9 h1
  have hc : Try.prog.cellsOf 53 = 2 := by kernel_rfl
  have hc0 : Try.prog.cellsOf 3 = 1 := by kernel_rfl
  have hc1 : Try.prog.cellsOf 9 = 1 := by kernel_rfl
  rw [hc] at hl
  match cs, hl with
  | [c0, c1], _ =>
    simp [hc0, hc1] at ha hs
    exact ⟨⟨(a, s), hw, hz⟩, by rw [ha, hs]; rfl⟩

theorem wf_range {a : Int} (h : (Lit.int .i64 a).wf = true) : -9223372036854775808 ≤ a ∧ a ≤ 9223372036854775807 := by
  simp [Lit.wf] at h; exact h

theorem length_rm {ks : List ByteArray} (h : ks.Nodup) (k : ByteArray) : (rm ks k).length = if k ∈ ks then ks.length - 1 else ks.length := by
  have e : rm ks k = ks.erase k := (List.Nodup.erase_eq_filter h k).symm ▸ List.filter_congr fun x _ => by by_cases q : x = k <;> simp [q]
  rw [e, List.length_erase]
theorem rm_not {ks : List ByteArray} {k : ByteArray} (h : k ∉ ks) : rm ks k = ks := List.filter_eq_self.2 fun x hx => by simpa using fun q : x = k => h (q ▸ hx)
theorem rm_rm (ks : List ByteArray) (k : ByteArray) : rm (rm ks k) k = rm ks k := rm_not fun q => (mem_rm.1 q).2 rfl
theorem fr_bk (ks : List ByteArray) (k : ByteArray) : fr (bk ks k) k = fr ks k := by
  rw [fr, bk, rm_append, rm_same, List.append_nil, rm_rm]; rfl
theorem fr_rm (ks : List ByteArray) (k : ByteArray) : fr (rm ks k) k = fr ks k := by rw [fr, rm_rm]; rfl
theorem mem_fr {ks : List ByteArray} {k x : ByteArray} : x ∈ fr ks k ↔ x = k ∨ x ∈ ks := by
  rw [fr, List.mem_cons, mem_rm]
  by_cases e : x = k <;> simp [e]
theorem length_fr {ks : List ByteArray} (h : ks.Nodup) (k : ByteArray) : (fr ks k).length = if k ∈ ks then ks.length else ks.length + 1 := by
  rw [fr, List.length_cons, length_rm h]
  by_cases e : k ∈ ks
  · have := List.length_pos_of_mem e; simp [e]; omega
  · simp [e]
theorem nodup_le {α : Type} [DecidableEq α] : ∀ {l m : List α}, l.Nodup → (∀ x ∈ l, x ∈ m) → l.length ≤ m.length
  | [], _, _, _ => Nat.zero_le _
  | x :: l, m, h, hs => by
    rw [List.nodup_cons] at h
    have hx := hs x (by simp)
    have := nodup_le (m := m.erase x) h.2 fun y hy => (List.mem_erase_of_ne (by rintro rfl; exact h.1 hy)).2 (hs y (by simp [hy]))
    rw [List.length_erase_of_mem hx] at this
    have := List.length_pos_of_mem hx
    simp; omega
theorem nodup_fr {ks : List ByteArray} (h : ks.Nodup) (k : ByteArray) : (fr ks k).Nodup := List.nodup_cons.2 ⟨fun q => (mem_rm.1 q).2 rfl, h.filter _⟩
theorem nodup_bk {ks : List ByteArray} (h : ks.Nodup) (k : ByteArray) : (bk ks k).Nodup := List.nodup_append.2 ⟨h.filter _, by simp, fun a ha b hb => by simp at hb; subst hb; exact (mem_rm.1 ha).2⟩
theorem length_bk (ks : List ByteArray) (k : ByteArray) : (bk ks k).length = (fr ks k).length := by simp [bk, fr]
/-- A set that is kept in a map. -/
def SetOf (l : List (ByteArray × Bool)) (ks : List ByteArray) : Prop := (∀ x, (lk l x).isSome = decide (x ∈ ks)) ∧ l.length = ks.length
theorem SetOf.nil : SetOf [] [] := ⟨fun x => by simp [lk], rfl⟩
theorem SetOf.put {l : List (ByteArray × Bool)} {ks : List ByteArray} (h : SetOf l ks) (hn : ks.Nodup) (k : ByteArray) : SetOf (put l k true) (fr ks k) := by
  refine ⟨fun x => ?_, ?_⟩
  · rw [lk_put, Bool.eq_iff_iff, decide_eq_true_iff, mem_fr]
    by_cases e : x = k
    · simp [e]
    · have := h.1 x
      rw [Bool.eq_iff_iff, decide_eq_true_iff] at this
      simp [e, this]
  · rw [length_put, length_fr hn, h.1 k, h.2]
    simp

section
variable {w0 w w' : World} {own own' : Nat → Nat} {b c pl : Nat} {keys : List ByteArray}
theorem ListAt.keep (h : ListAt w b (fun k => own k = c) keys pl) (K : Keeps w w' own own' c) : ListAt w' b (fun k => own' k = c) keys pl := h.move K.size K.block
theorem ListAt.still (h : ListAt w b (fun k => own k = c) keys pl) (hm : Mod Nil w w') : ListAt w' b (fun k => own k = c) keys pl := h.modNil hm

/-- What a call on c's list leaves. -/
def Next (w0 w w' : World) (own : Nat → Nat) (b c : Nat) (keys : List ByteArray) (pl : Nat) : Prop :=
  ∃ own', Base w0 w' own' ∧ ListAt w' b (fun k => own' k = c) keys pl ∧ ∀ c', c' ≠ c → Keeps w w' own own' c'
theorem next_left (hB : Base w0 w own) (hc : c ≠ 0) (h : Left w w' b (fun k => own k = c) keys pl) : Next w0 w w' own b c keys pl := by
  obtain ⟨hm, S', hs, hl⟩ := h
  exact ⟨paint own w c, hB.turn hc hm, hl.mono fun k _ q => took hs k q, fun c' hne => keeps_turn hm hne⟩
theorem law_Front (hB : Base w0 w own) (hc : c ≠ 0) (h : ListAt w b (fun k => own k = c) keys pl) (hb : pl ≤ 1000000000) (key : ByteArray) :
    Calls Try.prog 29 #[.pointer (some ⟨b, 0, none⟩), .string key] w fun e w' => e = .returned (.tuple #[]) ∧ Next w0 w w' own b c (fr keys key) (max pl (fr keys key).length) :=
  (list_Front h hb key).mono fun _ _ ⟨he, hl⟩ => ⟨he, next_left hB hc hl⟩
theorem law_Back (hB : Base w0 w own) (hc : c ≠ 0) (h : ListAt w b (fun k => own k = c) keys pl) (hb : pl ≤ 1000000000) (key : ByteArray) :
    Calls Try.prog 30 #[.pointer (some ⟨b, 0, none⟩), .string key] w fun e w' => e = .returned (.tuple #[]) ∧ Next w0 w w' own b c (bk keys key) (max pl (bk keys key).length) :=
  (list_Back h hb key).mono fun _ _ ⟨he, hl⟩ => ⟨he, next_left hB hc hl⟩
theorem law_Remove (hB : Base w0 w own) (hc : c ≠ 0) (h : ListAt w b (fun k => own k = c) keys pl) (hb : pl ≤ 1000000000) (key : ByteArray) :
    Calls Try.prog 33 #[.pointer (some ⟨b, 0, none⟩), .string key] w fun e w' => e = .returned (.bool (decide (key ∈ keys))) ∧ Next w0 w w' own b c (rm keys key) pl :=
  (list_Remove h hb key).mono fun _ _ ⟨he, hl⟩ => ⟨he, next_left hB hc hl⟩
theorem law_Pop (hB : Base w0 w own) (hc : c ≠ 0) (h : ListAt w b (fun k => own k = c) keys pl) (hb : pl ≤ 1000000000) :
    Calls Try.prog 38 #[.pointer (some ⟨b, 0, none⟩)] w fun e w' => e = .returned (.tuple #[.string (keys.getLast?.getD ⟨#[]⟩), .bool (decide (0 < keys.length))]) ∧ Next w0 w w' own b c keys.dropLast pl :=
  (list_Pop h hb).mono fun _ _ ⟨he, hl⟩ => ⟨he, next_left hB hc hl⟩
theorem law_Clear (hB : Base w0 w own) (hc : c ≠ 0) (h : ListAt w b (fun k => own k = c) keys pl) :
    Calls Try.prog 46 #[.pointer (some ⟨b, 0, none⟩)] w fun e w' => e = .returned (.tuple #[]) ∧ Next w0 w w' own b c [] 0 :=
  (list_Clear h).mono fun _ _ ⟨he, hl⟩ => ⟨he, next_left hB hc hl⟩
theorem law_New (hB : Base w0 w own) (c : Nat) :
    Calls Try.prog 28 #[] w fun e w' => ∃ b own', e = .returned (.pointer (some ⟨b, 0, none⟩)) ∧ Base w0 w' own' ∧ ListAt w' b (fun k => own' k = c) [] 0 ∧ ∀ c', Keeps w w' own own' c' :=
  list_New.mono fun _ _ ⟨b, he, hm, S', hs, hl⟩ => ⟨b, paint own w c, he, hB.made c hm, hl.mono fun k _ q => paint_new own w c (hs k q), fun c' => keeps_made hm c c'⟩
theorem law_Keys (hB : Base w0 w own) (h : ListAt w b (fun k => own k = c) keys pl) (hb : pl ≤ 1000000000) (c1 : Nat) :
    Calls Try.prog 32 #[.pointer (some ⟨b, 0, none⟩)] w fun e w' => ∃ v' own', e = .returned v' ∧ Base w0 w' own' ∧ Row w' (fun k => own' k = c1) 9 1 v' keys.length (keys.map Value.string) ∧ ∀ c', Keeps w w' own own' c' :=
  law_row (list_Keys h hb) hB c1
end
end Go.Proofs.Ythbffkdfahlpdaa
