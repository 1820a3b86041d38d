/- Package arc: what a request does. -/
import Derived.Test.YtnijaeipkbpibaaArcPure
set_option linter.unusedVariables false
namespace Go.Proofs.Ytnijaeipkbpibaa
variable {most p : Int} {t1 t2 b1 b2 : LB} {key : ByteArray}

structure ArcI (most p : Int) (t1 t2 b1 b2 : LB) : Prop where
  n : Apart t1 t2 b1 b2
  h0 : 0 ≤ most
  p0 : 0 ≤ p
  pm : p ≤ most
  len : (t1.length : Int) + t2.length ≤ most
  l1 : (t1.length : Int) + b1.length ≤ most
  all : (t1.length : Int) + t2.length + b1.length + b2.length ≤ 2 * most
theorem ArcI.new {m : Int} (h : 0 ≤ m) : ArcI m 0 [] [] [] [] := ⟨fun k => by simp [cn_nil], h, Int.le_refl _, h, by simpa using h, by simpa using h, by simp; omega⟩
theorem not_cn {l : LB} {k : ByteArray} : k ∉ l ↔ cn l k = 0 := by rw [cn_mem]; omega
theorem fresh_cases (h : ArcI most p t1 t2 b1 b2) (hm : 0 < most) {x} (hx : arcFresh most p t1 t2 b1 b2 = x) :
    (most ≤ (t1.length : Int) ∧ x = (t1.dropLast, t2, b1, b2, lastOf t1, true)) ∨
    ∃ c1 c2, ((c1 = b1.dropLast ∧ c2 = b2 ∧ 0 < b1.length) ∨ (c1 = b1 ∧ c2 = b2.dropLast ∧ 0 < b2.length ∧ (t1.length : Int) + b1.length < most) ∨ (c1 = b1 ∧ c2 = b2 ∧ (t1.length : Int) + b1.length < most ∧ (t1.length : Int) + t2.length + b1.length + b2.length < 2 * most)) ∧ Room most t1 t2 c1 c2 x := by
  have g1 := h.len; have g2 := h.l1; have g3 := h.all
  unfold arcFresh at hx
  have e2 : arcAll2 most p t1 t2 b1 b2 = (t1.length : Int) + b1.length := by unfold arcAll2; omega
  have e4 : arcAll4 most p t1 t2 b1 b2 = (t1.length : Int) + t2.length + b1.length + b2.length := by unfold arcAll4; omega
  rw [e2, e4] at hx
  by_cases c1 : (t1.length : Int) + b1.length ≥ most
  · rw [if_pos c1] at hx
    by_cases c2 : (t1.length : Int) ≥ most
    · rw [if_pos c2] at hx
      have h0 : 0 < t1.length := by omega
      rw [decide_eq_true h0] at hx
      exact .inl ⟨c2, hx.symm⟩
    · rw [if_neg c2] at hx
      exact .inr ⟨b1.dropLast, b2, .inl ⟨rfl, rfl, by omega⟩, hx ▸ room_F hm⟩
  · rw [if_neg c1] at hx
    by_cases c3 : (t1.length : Int) + t2.length + b1.length + b2.length - most ≥ most
    · rw [if_pos c3] at hx
      exact .inr ⟨b1, b2.dropLast, .inr (.inl ⟨rfl, rfl, by omega, by omega⟩), hx ▸ room_F hm⟩
    · rw [if_neg c3] at hx
      by_cases c4 : (t1.length : Int) + t2.length + b1.length + b2.length < most
      · rw [if_pos c4] at hx
        exact .inr ⟨b1, b2, .inr (.inr ⟨rfl, rfl, by omega, by omega⟩), .inl ⟨hx.symm, by omega⟩⟩
      · rw [if_neg c4] at hx
        exact .inr ⟨b1, b2, .inr (.inr ⟨rfl, rfl, by omega, by omega⟩), hx ▸ room_F hm⟩
/-- What is told of a request's answer. -/
structure ReqS (most p : Int) (t1 t2 b1 b2 : LB) (key : ByteArray) (x : Int × LB × LB × LB × LB × Bool × ByteArray × Bool) : Prop where
  i : ArcI most x.1 x.2.1 x.2.2.1 x.2.2.2.1 x.2.2.2.2.1
  hit : x.2.2.2.2.2.1 = decide (key ∈ t1 ∨ key ∈ t2)
  no : (key ∈ t1 ∨ key ∈ t2) → x.2.2.2.2.2.2.2 = false
  here : 0 < most → key ∈ x.2.1 ∨ key ∈ x.2.2.1
  out : x.2.2.2.2.2.2.2 = true → x.2.2.2.2.2.2.1 ∉ x.2.1 ∧ x.2.2.2.2.2.2.1 ∉ x.2.2.1
theorem cn_dl_le (l : LB) (k : ByteArray) : cn l.dropLast k ≤ cn l k := by
  by_cases h : 0 < l.length
  · rw [cn_dl h]; omega
  · have : l = [] := List.eq_nil_of_length_eq_zero (by omega)
    subst this; exact Nat.le_refl _
theorem RoomS.gone {c1 c2 : LB} {x : Four} (hS : RoomS most t1 t2 c1 c2 x) (hN : Apart t1 t2 c1 c2) (ho : x.2.2.2.2.2 = true) : cn x.1 x.2.2.2.2.1 = 0 ∧ cn x.2.1 x.2.2.2.2.1 = 0 := by
  have a := hS.res x.2.2.2.2.1
  have b := hS.out ho
  have c := hN x.2.2.2.2.1
  rw [if_pos ⟨ho, rfl⟩] at a
  omega
theorem ArcI.req (h : ArcI most p t1 t2 b1 b2) (key : ByteArray) {x} (hx : arcReq most p t1 t2 b1 b2 key = x) : ReqS most p t1 t2 b1 b2 key x := by
  have g0 := h.h0; have g1 := h.len; have g2 := h.l1; have g3 := h.all; have gp := h.p0; have gm := h.pm
  by_cases hm : most = 0
  · rw [arcReq_zero hm] at hx; subst hx
    exact ⟨h, rfl, fun _ => rfl, fun q => by omega, fun q => by simp at q⟩
  have hpos : 0 < most := by omega
  have nk := h.n key
  by_cases h1 : key ∈ t1
  · rw [arcReq_t1 hm h1] at hx; subst hx
    have c1 := cn_mem.1 h1
    have l1 := len_rm t1 key
    have l2 := len_fr t2 key
    refine ⟨⟨fun k => ?_, g0, gp, gm, ?_, ?_, ?_⟩, (decide_eq_true (.inl h1)).symm, fun _ => rfl, fun _ => .inr (mem_fr.2 (.inl rfl)), fun q => by simp at q⟩
    · have := h.n k
      simp only [cn_rm, cn_fr]
      by_cases q : k = key
      · subst q; simp only [eq_self, if_true]; omega
      · simp only [if_neg q]; omega
    · dsimp only; omega
    · dsimp only; omega
    · dsimp only; omega
  by_cases h2 : key ∈ t2
  · rw [arcReq_t2 hm h1 h2] at hx; subst hx
    have c1 := cn_mem.1 h2
    have l1 := len_rm t2 key
    have l2 := len_fr (rm t2 key) key
    have l3 : cn (rm t2 key) key = 0 := by rw [cn_rm, if_pos rfl]
    refine ⟨⟨fun k => ?_, g0, gp, gm, ?_, g2, ?_⟩, (decide_eq_true (.inr h2)).symm, fun _ => rfl, fun _ => .inr (mem_fr.2 (.inl rfl)), fun q => by simp at q⟩
    · have := h.n k
      simp only [cn_rm, cn_fr]
      by_cases q : k = key
      · subst q; simp only [eq_self, if_true]; omega
      · simp only [if_neg q]; omega
    · dsimp only; omega
    · dsimp only; omega
  have z1 := not_cn.1 h1
  have z2 := not_cn.1 h2
  have hno : ¬ (key ∈ t1 ∨ key ∈ t2) := fun q => q.elim h1 h2
  by_cases h3 : key ∈ b1
  · have c3 := cn_mem.1 h3
    have hR := room_F (p := arcUp most p b1 b2) (t1 := t1) (t2 := t2) (b1 := b1) (b2 := b2) hpos
    rw [arcReq_b1 hm h1 h2 h3 rfl] at hx
    obtain ⟨u1, u2, _⟩ := arcUp_le (b1 := b1) (b2 := b2) gm gp
    generalize arcRoomF most (arcUp most p b1 b2) t1 t2 b1 b2 = y at hx hR
    have hS := hR.spec h.n g1
    have ak := hS.apart key
    have gk := (hS.gho key).1
    have s1 := hS.len; have s2 := hS.l1; have s3 := hS.l2
    have f1 := len_fr y.2.1 key
    have f2 := len_rm y.2.2.1 key
    subst hx
    refine ⟨⟨fun k => ?_, g0, by dsimp only; omega, u2, ?_, ?_, ?_⟩, (decide_eq_false hno).symm, fun q => absurd q hno, fun _ => .inr (mem_fr.2 (.inl rfl)), fun q => ?_⟩
    · have := hS.apart k
      simp only [cn_rm, cn_fr]
      by_cases q : k = key
      · subst q; simp only [eq_self, if_true]; omega
      · simp only [if_neg q]; omega
    · dsimp only; omega
    · dsimp only; omega
    · dsimp only; omega
    · have o := hS.gone h.n q
      have ov := hS.out q
      have hv : y.2.2.2.2.1 ≠ key := fun e => by rw [e] at ov; omega
      exact ⟨not_cn.2 o.1, not_cn.2 (by rw [cn_fr, if_neg hv]; exact o.2)⟩
  by_cases h4 : key ∈ b2
  · have c4 := cn_mem.1 h4
    have hR := room_T (p := arcDn p b1 b2) (t1 := t1) (t2 := t2) (b1 := b1) (b2 := b2) hpos
    rw [arcReq_b2 hm h1 h2 h3 h4 rfl] at hx
    obtain ⟨u1, u2, _⟩ := arcDn_le (b1 := b1) (b2 := b2) gp
    generalize arcRoomT most (arcDn p b1 b2) t1 t2 b1 b2 = y at hx hR
    have hS := hR.spec h.n g1
    have ak := hS.apart key
    have gk := (hS.gho key).2
    have s1 := hS.len; have s2 := hS.l1; have s3 := hS.l2
    have f1 := len_fr y.2.1 key
    have f2 := len_rm y.2.2.2.1 key
    subst hx
    refine ⟨⟨fun k => ?_, g0, u2, by dsimp only; omega, ?_, ?_, ?_⟩, (decide_eq_false hno).symm, fun q => absurd q hno, fun _ => .inr (mem_fr.2 (.inl rfl)), fun q => ?_⟩
    · have := hS.apart k
      simp only [cn_rm, cn_fr]
      by_cases q : k = key
      · subst q; simp only [eq_self, if_true]; omega
      · simp only [if_neg q]; omega
    · dsimp only; omega
    · dsimp only; omega
    · dsimp only; omega
    · have o := hS.gone h.n q
      have ov := hS.out q
      have hv : y.2.2.2.2.1 ≠ key := fun e => by rw [e] at ov; omega
      exact ⟨not_cn.2 o.1, not_cn.2 (by rw [cn_fr, if_neg hv]; exact o.2)⟩
  have z3 := not_cn.1 h3
  have z4 := not_cn.1 h4
  rw [arcReq_new hm h1 h2 h3 h4 rfl] at hx
  have hF := fresh_cases h hpos rfl
  generalize arcFresh most p t1 t2 b1 b2 = y at hx hF
  rcases hF with ⟨c, rfl⟩ | ⟨c1, c2, hc, hR⟩
  · have h0 : 0 < t1.length := by omega
    have hd := cn_dl_le t1 key
    have f1 := len_fr t1.dropLast key
    have d1 := len_dl t1
    have vk := cn_last h0
    subst hx
    refine ⟨⟨fun k => ?_, g0, gp, gm, ?_, ?_, ?_⟩, (decide_eq_false hno).symm, fun q => absurd q hno, fun _ => .inl (mem_fr.2 (.inl rfl)), fun q => ?_⟩
    · have := h.n k
      have := cn_dl_le t1 k
      simp only [cn_fr]
      by_cases q : k = key
      · subst q; simp only [eq_self, if_true]; omega
      · simp only [if_neg q]; omega
    · dsimp only; omega
    · dsimp only; omega
    · dsimp only; omega
    · have hv : lastOf t1 ≠ key := fun e => by rw [e] at vk; omega
      have e := cn_dl h0 (lastOf t1)
      have nv := h.n (lastOf t1)
      rw [if_pos rfl] at e
      exact ⟨not_cn.2 (by dsimp only; rw [cn_fr, if_neg hv]; omega), not_cn.2 (by dsimp only; omega)⟩
  · have hN : Apart t1 t2 c1 c2 := fun k => by
      have := h.n k
      have q1 := cn_dl_le b1 k
      have q2 := cn_dl_le b2 k
      rcases hc with ⟨rfl, rfl, _⟩ | ⟨rfl, rfl, _⟩ | ⟨rfl, rfl, _⟩ <;> omega
    have hz : cn c1 key = 0 ∧ cn c2 key = 0 := by
      have q1 := cn_dl_le b1 key
      have q2 := cn_dl_le b2 key
      rcases hc with ⟨rfl, rfl, _⟩ | ⟨rfl, rfl, _⟩ | ⟨rfl, rfl, _⟩ <;> constructor <;> omega
    have hl : (t1.length : Int) + c1.length < most ∧ (t1.length : Int) + t2.length + c1.length + c2.length < 2 * most := by
      have d1 := len_dl b1
      have d2 := len_dl b2
      rcases hc with ⟨rfl, rfl, q⟩ | ⟨rfl, rfl, q⟩ | ⟨rfl, rfl, q⟩ <;> constructor <;> omega
    have hS := hR.spec hN g1
    have rk := hS.res key
    have gk := hS.gho key
    have s1 := hS.len; have s2 := hS.l1; have s3 := hS.l2
    have f1 := len_fr y.1 key
    have k0 : cn y.1 key = 0 ∧ cn y.2.1 key = 0 := by constructor <;> omega
    have k1 : cn y.2.2.1 key = 0 ∧ cn y.2.2.2.1 key = 0 := by
      rw [gk.1, gk.2, hz.1, hz.2, z1, z2]; simp
    subst hx
    refine ⟨⟨fun k => ?_, g0, gp, gm, ?_, ?_, ?_⟩, (decide_eq_false hno).symm, fun q => absurd q hno, fun _ => .inl (mem_fr.2 (.inl rfl)), fun q => ?_⟩
    · have := hS.apart k
      simp only [cn_fr]
      by_cases q : k = key
      · subst q; simp only [eq_self, if_true]; omega
      · simp only [if_neg q]; omega
    · dsimp only; omega
    · dsimp only; omega
    · dsimp only; omega
    · have o := hS.gone hN q
      have ov := hS.out q
      have hv : y.2.2.2.2.1 ≠ key := fun e => by rw [e] at ov; omega
      exact ⟨not_cn.2 (by rw [cn_fr, if_neg hv]; exact o.1), not_cn.2 o.2⟩
end Go.Proofs.Ytnijaeipkbpibaa
