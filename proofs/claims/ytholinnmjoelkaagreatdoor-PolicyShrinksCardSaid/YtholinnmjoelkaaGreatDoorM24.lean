/- ArcQ, SepV, SepW -/
import Derived.Test.YtholinnmjoelkaaGreatDoorM23
set_option linter.unusedVariables false
set_option linter.unusedSimpArgs false
namespace Go.Proofs.YtholinnmjoelkaaGreatDoor
variable {most p : Int} {t1 t2 b1 b2 : LB} {key : ByteArray}
structure GoneR (most : Int) (t1 t2 u1 u2 : LB) (v : ByteArray) (out : Bool) : Prop where
  cn : ∀ k, cn u1 k + Proofs.YtholinnmjoelkaaGreatDoor.cn u2 k = Proofs.YtholinnmjoelkaaGreatDoor.cn t1 k + Proofs.YtholinnmjoelkaaGreatDoor.cn t2 k - if out = true ∧ k = v then 1 else 0
  len : (u1.length : Int) + u2.length = t1.length + t2.length - if out = true then 1 else 0
  outE : out = decide ((t1.length : Int) + t2.length = most)
  vin : out = true → 0 < Proofs.YtholinnmjoelkaaGreatDoor.cn t1 v + Proofs.YtholinnmjoelkaaGreatDoor.cn t2 v
  vno : out = false → v = ⟨#[]⟩
theorem goneR_t1 (h0 : 0 < t1.length) (hm : (t1.length : Int) + t2.length = most) : GoneR most t1 t2 t1.dropLast t2 (lastOf t1) true := by
  have d := len_dl t1
  refine ⟨fun k => ?_, by simp only [if_true]; omega, (decide_eq_true hm).symm, fun _ => by have := cn_last h0; omega, fun q => by cases q⟩
  have := cn_dl h0 k
  by_cases q : k = lastOf t1
  · rw [if_pos q] at this; rw [if_pos ⟨rfl, q⟩]; omega
  · rw [if_neg q] at this; rw [if_neg (fun w => q w.2)]; omega
theorem goneR_t2 (h0 : 0 < t2.length) (hm : (t1.length : Int) + t2.length = most) : GoneR most t1 t2 t1 t2.dropLast (lastOf t2) true := by
  have d := len_dl t2
  refine ⟨fun k => ?_, by simp only [if_true]; omega, (decide_eq_true hm).symm, fun _ => by have := cn_last h0; omega, fun q => by cases q⟩
  have := cn_dl h0 k
  by_cases q : k = lastOf t2
  · rw [if_pos q] at this; rw [if_pos ⟨rfl, q⟩]; omega
  · rw [if_neg q] at this; rw [if_neg (fun w => q w.2)]; omega
theorem Room.gone {c1 c2 : LB} {x : Four} (h : Room most t1 t2 c1 c2 x) (hl : (t1.length : Int) + t2.length ≤ most) : GoneR most t1 t2 x.1 x.2.1 x.2.2.2.2.1 x.2.2.2.2.2 := by
  rcases h with ⟨rfl, h1⟩ | ⟨rfl, h0, h1⟩ | ⟨rfl, h0, h1⟩
  · exact ⟨fun k => by simp, by simp, (decide_eq_false (by omega)).symm, fun q => (by cases q), fun _ => rfl⟩
  · exact goneR_t1 h0 (by omega)
  · exact goneR_t2 h0 (by omega)
theorem goneR_fin {u1 u2 A B : LB} {v : ByteArray} {out : Bool} (h : GoneR most t1 t2 u1 u2 v out) (h1 : key ∉ t1) (h2 : key ∉ t2) (hc : ∀ k, cn A k + cn B k = if k = key then 1 else cn u1 k + cn u2 k) (hl : A.length + B.length = u1.length + u2.length + 1) :
    ReqP most (t1.reverse ++ t2.reverse) key (A.reverse ++ B.reverse) false v out := by
  have hno : key ∉ t1.reverse ++ t2.reverse := fun q => by
    rcases List.mem_append.1 q with q | q
    · exact h1 (List.mem_reverse.1 q)
    · exact h2 (List.mem_reverse.1 q)
  refine ⟨fun k => ?_, ?_, (decide_eq_false hno).symm, ?_, fun q => ?_, h.vno⟩
  · rw [cn_app, cn_app, cn_rev, cn_rev, cn_rev, cn_rev, hc, h.cn]
  · have := h.len
    simp only [List.length_append, List.length_reverse, Bool.false_eq_true, if_false]; omega
  · rw [h.outE, decide_eq_decide]
    simp only [List.length_append, List.length_reverse]
    exact ⟨fun q => ⟨hno, by omega⟩, fun q => by omega⟩
  · have := h.vin q
    exact cn_mem.2 (by rw [cn_app, cn_rev, cn_rev]; exact this)
theorem ArcI.reqP (h : ArcI most p t1 t2 b1 b2) (key : ByteArray) {x} (hx : arcReq most p t1 t2 b1 b2 key = x) : ArcI most x.1 x.2.1 x.2.2.1 x.2.2.2.1 x.2.2.2.2.1 ∧
    (0 < most → ReqP most (t1.reverse ++ t2.reverse) key (x.2.1.reverse ++ x.2.2.1.reverse) x.2.2.2.2.2.1 x.2.2.2.2.2.2.1 x.2.2.2.2.2.2.2) ∧ (most = 0 → x = (p, t1, t2, b1, b2, decide (key ∈ t1.reverse ++ t2.reverse), ⟨#[]⟩, false)) := by
  have g0 := h.h0; have g1 := h.len; have g2 := h.l1; have g3 := h.all; have gp := h.p0; have gm := h.pm
  have hI := (ArcI.req h key hx).i
  refine ⟨hI, fun hpos => ?_, fun hm => ?_⟩
  · have hm : most ≠ 0 := by omega
    have nk := h.n key
    by_cases h1 : key ∈ t1
    · rw [arcReq_t1 hm h1] at hx; subst hx
      have c1 := cn_mem.1 h1
      have l1 := len_rm t1 key
      have l2 := len_fr t2 key
      have hk : key ∈ t1.reverse ++ t2.reverse := List.mem_append_left _ (List.mem_reverse.2 h1)
      refine ⟨fun k => ?_, ?_, (decide_eq_true hk).symm, (decide_eq_false (fun q => q.1 hk)).symm, fun q => (by cases q), fun _ => rfl⟩
      · dsimp only
        rw [cn_app, cn_app, cn_rev, cn_rev, cn_rev, cn_rev, cn_rm, cn_fr]; simp only [Bool.false_eq_true, false_and, if_false, Nat.sub_zero]
        split <;> omega
      · simp only [List.length_append, List.length_reverse, if_true, Bool.false_eq_true, if_false]; omega
    by_cases h2 : key ∈ t2
    · rw [arcReq_t2 hm h1 h2] at hx; subst hx
      have c1 := cn_mem.1 h2
      have z1 := cn_zero h1
      have l1 := len_rm t2 key
      have l2 := len_fr (rm t2 key) key
      have l3 : cn (rm t2 key) key = 0 := by rw [cn_rm, if_pos rfl]
      have hk : key ∈ t1.reverse ++ t2.reverse := List.mem_append_right _ (List.mem_reverse.2 h2)
      refine ⟨fun k => ?_, ?_, (decide_eq_true hk).symm, (decide_eq_false (fun q => q.1 hk)).symm, fun q => (by cases q), fun _ => rfl⟩
      · dsimp only
        rw [cn_app, cn_app]; simp only [cn_rev, cn_fr, cn_rm, Bool.false_eq_true, false_and, if_false, Nat.sub_zero]
        by_cases q : k = key
        · subst q; rw [if_pos rfl, if_pos rfl]; omega
        · rw [if_neg q, if_neg q, if_neg q]
      · simp only [List.length_append, List.length_reverse, if_true, Bool.false_eq_true, if_false]; omega
    have z1 := cn_zero h1
    have z2 := cn_zero h2
    -- the key comes to a row of who is left
    have comeR : ∀ {u1 u2 : LB} {v : ByteArray} {out : Bool}, GoneR most t1 t2 u1 u2 v out → ReqP most (t1.reverse ++ t2.reverse) key (u1.reverse ++ (fr u2 key).reverse) false v out := fun {u1 u2 v out} hG => by
      have e := hG.cn key
      have f1 := len_fr u2 key
      refine goneR_fin hG h1 h2 (fun k => ?_) (by omega)
      rw [cn_fr]
      by_cases q : k = key
      · subst q; rw [if_pos rfl, if_pos rfl]; omega
      · rw [if_neg q, if_neg q]
    have comeL : ∀ {u1 u2 : LB} {v : ByteArray} {out : Bool}, GoneR most t1 t2 u1 u2 v out → ReqP most (t1.reverse ++ t2.reverse) key ((fr u1 key).reverse ++ u2.reverse) false v out := fun {u1 u2 v out} hG => by
      have e := hG.cn key
      have f1 := len_fr u1 key
      refine goneR_fin hG h1 h2 (fun k => ?_) (by omega)
      rw [cn_fr]
      by_cases q : k = key
      · subst q; rw [if_pos rfl, if_pos rfl]; omega
      · rw [if_neg q, if_neg q]
    by_cases h3 : key ∈ b1
    · have hR := room_F (p := arcUp most p b1 b2) (t1 := t1) (t2 := t2) (b1 := b1) (b2 := b2) hpos
      rw [arcReq_b1 hm h1 h2 h3 rfl] at hx
      subst hx
      exact comeR (hR.gone g1)
    by_cases h4 : key ∈ b2
    · have hR := room_T (p := arcDn p b1 b2) (t1 := t1) (t2 := t2) (b1 := b1) (b2 := b2) hpos
      rw [arcReq_b2 hm h1 h2 h3 h4 rfl] at hx
      subst hx
      exact comeR (hR.gone g1)
    rw [arcReq_new hm h1 h2 h3 h4 rfl] at hx
    have hF := fresh_cases h hpos rfl
    generalize arcFresh most p t1 t2 b1 b2 = y at hx hF
    subst hx
    rcases hF with ⟨c, rfl⟩ | ⟨c1, c2, hc, hR⟩
    · exact comeL (goneR_t1 (by omega) (by omega))
    · exact comeL (hR.gone g1)
  · rw [arcReq_zero hm] at hx
    rw [← hx]
    have : decide (key ∈ t1 ∨ key ∈ t2) = decide (key ∈ t1.reverse ++ t2.reverse) := by rw [decide_eq_decide]; simp
    rw [this]
theorem ArcI.remP (h : ArcI most p t1 t2 b1 b2) (key : ByteArray) {x} (hx : arcRemove most p t1 t2 b1 b2 key = x) : ArcI most p x.1 x.2.1 x.2.2.1 x.2.2.2.1 ∧ RemP (t1.reverse ++ t2.reverse) key (x.1.reverse ++ x.2.1.reverse) (x.2.2.1 ++ x.2.2.2.1) x.2.2.2.2 := by
  obtain ⟨hI, e⟩ := ArcI.remove h key hx
  have l1 := len_rm t1 key; have l2 := len_rm t2 key
  rw [e] at hI ⊢
  refine ⟨hI, by dsimp only; rw [decide_eq_decide]; simp, fun k => ?_, ?_, ?_⟩
  · dsimp only; rw [cn_app, cn_app, cn_rev, cn_rev, cn_rev, cn_rev, cn_rm, cn_rm]; split <;> simp
  · dsimp only; rw [cn_app, cn_rev, cn_rev]; simp only [List.length_append, List.length_reverse]; omega
  · intro q
    rcases List.mem_append.1 q with q | q
    · exact (mem_rm.1 q).2 rfl
    · exact (mem_rm.1 q).2 rfl
theorem ArcI.adoP (h : ArcI most p t1 t2 b1 b2) (key : ByteArray) {x} (hx : arcAdopt most p t1 t2 b1 b2 key = x) : ArcI most p x.1 x.2.1 x.2.2.1 x.2.2.2.1 ∧ AdoP most (t1.reverse ++ t2.reverse) key (x.1.reverse ++ x.2.1.reverse) (x.2.2.1 ++ x.2.2.2.1) x.2.2.2.2 := by
  have hI := ArcI.adopt h key hx
  have nk := h.n key
  unfold arcAdopt at hx
  rw [arcHas_eq, show arcLen most p t1 t2 b1 b2 = (t1.length : Int) + t2.length from rfl] at hx
  by_cases q : key ∈ t1 ∨ key ∈ t2
  · rw [if_pos (decide_eq_true q)] at hx
    subst hx
    exact ⟨hI, (decide_eq_false (fun w => w.1 (by simpa using q))).symm, fun q => (by cases q), fun q => (by cases q), fun q => (by cases q), fun _ => rfl⟩
  · rw [if_neg (by rw [decide_eq_true_iff]; exact q)] at hx
    by_cases q2 : (t1.length : Int) + t2.length ≥ most
    · rw [if_pos q2] at hx
      subst hx
      exact ⟨hI, (decide_eq_false (fun w => by have := w.2; simp only [List.length_reverse, List.length_append] at this; omega)).symm, fun q => (by cases q), fun q => (by cases q), fun q => (by cases q), fun _ => rfl⟩
    · rw [if_neg q2, arcRemove_eq h.n] at hx
      dsimp only at hx
      subst hx
      have h1 : key ∉ t1 := fun w => q (.inl w)
      have h2 : key ∉ t2 := fun w => q (.inr w)
      have z1 := cn_zero h1; have z2 := cn_zero h2
      have l1 := len_rm t1 key; have l2 := len_rm t2 key; have f1 := len_fr (rm t1 key) key
      have l3 : cn (rm t1 key) key = 0 := by rw [cn_rm, if_pos rfl]
      refine ⟨hI, (decide_eq_true ⟨fun w => q (by simpa using w), by simp only [List.length_reverse, List.length_append]; omega⟩).symm, fun _ k => ?_, fun _ => ?_, fun _ w => ?_, fun q => by cases q⟩
      · dsimp only
        rw [cn_app, cn_app, cn_rev, cn_rev, cn_rev, cn_rev, cn_fr, cn_rm, cn_rm]
        by_cases e : k = key
        · subst e; simp
        · simp only [if_neg e]
      · dsimp only; simp only [List.length_append, List.length_reverse]; omega
      · rcases List.mem_append.1 w with w | w
        · exact (mem_rm.1 (List.mem_of_mem_take w)).2 rfl
        · exact (mem_rm.1 (List.mem_of_mem_take w)).2 rfl
theorem yieldF_cases (h : 0 < t1.length + t2.length) : (0 < t1.length ∧ arcYieldF most p t1 t2 b1 b2 = (t1.dropLast, t2, fr b1 (lastOf t1), b2, lastOf t1, true)) ∨ (0 < t2.length ∧ arcYieldF most p t1 t2 b1 b2 = (t1, t2.dropLast, b1, fr b2 (lastOf t2), lastOf t2, true)) := by
  unfold arcYieldF
  by_cases hc : (t1.length : Int) > 0 ∧ ((t1.length : Int) > p ∨ (t2.length : Int) = 0)
  · have h0 : 0 < t1.length := by omega
    simp only [if_pos hc, if_pos h0, decide_eq_true h0]
    exact .inl ⟨h0, rfl⟩
  · have h0 : 0 < t2.length := by omega
    simp only [if_neg hc, if_pos h0, decide_eq_true h0]
    exact .inr ⟨h0, rfl⟩
theorem resL_spec (hm : 0 ≤ most) : ∀ (n : Nat) (t1 t2 b1 b2 out : LB), t1.length + t2.length ≤ n →
    (∀ k, cn (arcResL most p n t1 t2 b1 b2 out).1 k + cn (arcResL most p n t1 t2 b1 b2 out).2.1 k + cn (arcResL most p n t1 t2 b1 b2 out).2.2.2.2 k = cn t1 k + cn t2 k + cn out k) ∧
    (arcResL most p n t1 t2 b1 b2 out).1.length + (arcResL most p n t1 t2 b1 b2 out).2.1.length + (arcResL most p n t1 t2 b1 b2 out).2.2.2.2.length = t1.length + t2.length + out.length ∧
    ((arcResL most p n t1 t2 b1 b2 out).2.2.2.2.length : Int) = out.length + if (t1.length : Int) + t2.length - most > 0 then (t1.length : Int) + t2.length - most else 0
  | 0, t1, t2, b1, b2, out, h => ⟨fun k => rfl, rfl, by show (out.length : Int) = _; rw [if_neg (by omega)]; omega⟩
  | n + 1, t1, t2, b1, b2, out, h => by
    rw [arcResL]
    by_cases hc : (t1.length : Int) + t2.length > most
    · rw [if_pos hc]
      rcases yieldF_cases (most := most) (p := p) (t1 := t1) (t2 := t2) (b1 := b1) (b2 := b2) (by omega) with ⟨h0, e⟩ | ⟨h0, e⟩
      · have d := len_dl t1
        rw [e]
        obtain ⟨r1, r2, r3⟩ := resL_spec hm n t1.dropLast t2 (fr b1 (lastOf t1)) b2 (out ++ [lastOf t1]) (by omega)
        dsimp only
        refine ⟨fun k => ?_, ?_, ?_⟩
        · have := r1 k; have e2 := cn_dl h0 k
          rw [this, cn_app, cn_cons, cn_nil]; omega
        · simp only [List.length_append, List.length_singleton] at r2; omega
        · rw [r3]; simp only [List.length_append, List.length_singleton]; split <;> split <;> omega
      · have d := len_dl t2
        rw [e]
        obtain ⟨r1, r2, r3⟩ := resL_spec hm n t1 t2.dropLast b1 (fr b2 (lastOf t2)) (out ++ [lastOf t2]) (by omega)
        dsimp only
        refine ⟨fun k => ?_, ?_, ?_⟩
        · have := r1 k; have e2 := cn_dl h0 k
          rw [this, cn_app, cn_cons, cn_nil]; omega
        · simp only [List.length_append, List.length_singleton] at r2; omega
        · rw [r3]; simp only [List.length_append, List.length_singleton]; split <;> split <;> omega
    · rw [if_neg hc]
      exact ⟨fun k => rfl, rfl, by dsimp only; rw [if_neg (by omega)]; omega⟩
theorem ArcI.rszP (h : ArcI most p t1 t2 b1 b2) {mo : Int} (hmo : 0 ≤ mo) {x} (hx : arcResize most p t1 t2 b1 b2 mo = x) : x.1 = mo ∧ ArcI mo x.2.1 x.2.2.1 x.2.2.2.1 x.2.2.2.2.1 x.2.2.2.2.2.1 ∧ RszP mo (t1.reverse ++ t2.reverse) (x.2.2.1.reverse ++ x.2.2.2.1.reverse) x.2.2.2.2.2.2 := by
  obtain ⟨hI, e⟩ := ArcI.resize h hmo hx
  unfold arcResize at hx
  have eM : arcResM mo = mo := by rw [← hx] at e; exact e
  rw [eM] at hx
  obtain ⟨r1, r2, r3⟩ := resL_spec (p := arcResP mo p) hmo (t1.length + t2.length) t1 t2 b1 b2 [] (Nat.le_refl _)
  refine ⟨e, hI, fun k => ?_, ?_, ?_⟩
  · subst hx; dsimp only
    have := r1 k
    rw [cn_app, cn_app, cn_rev, cn_rev, cn_rev, cn_rev]; rw [cn_nil] at this; omega
  · subst hx; dsimp only
    simp only [List.length_append, List.length_reverse]; simp only [List.length_nil] at r2; omega
  · subst hx; dsimp only
    rw [r3]
    simp only [List.length_append, List.length_reverse, List.length_nil]
    split <;> split <;> omega
def arcVictim (most p : Int) (t1 t2 b1 b2 : LB) : ByteArray × Bool :=
  if (t1.length : Int) ≥ most then (t1.getLast?.getD ⟨#[]⟩, decide (0 < t1.length))
  else if (t1.length : Int) > 0 ∧ ((t1.length : Int) > p ∨ (t2.length : Int) = 0) then (t1.getLast?.getD ⟨#[]⟩, decide (0 < t1.length))
  else (t2.getLast?.getD ⟨#[]⟩, decide (0 < t2.length))
theorem ArcI.droP (h : ArcI most p t1 t2 b1 b2) {x} (hx : arcDrop most p t1 t2 b1 b2 = x) : ArcI most p x.1 x.2.1 b1 b2 ∧ DroP (t1.reverse ++ t2.reverse) (b1 ++ b2) (x.1.reverse ++ x.2.1.reverse) (b1 ++ b2) x.2.2.1 x.2.2.2 ∧ arcVictim most p t1 t2 b1 b2 = x.2.2 := by
  have hI := ArcI.drop h hx
  have key : (0 < t1.length ∧ x = (rm t1 (lastOf t1), t2, lastOf t1, true) ∧ arcVictim most p t1 t2 b1 b2 = (lastOf t1, true)) ∨ (0 < t2.length ∧ x = (t1, rm t2 (lastOf t2), lastOf t2, true) ∧ arcVictim most p t1 t2 b1 b2 = (lastOf t2, true)) ∨ (t1 = [] ∧ t2 = [] ∧ x = ([], [], ⟨#[]⟩, false) ∧ arcVictim most p t1 t2 b1 b2 = (⟨#[]⟩, false)) := by
    have g1 := h.len
    unfold arcDrop at hx
    unfold arcVictim
    by_cases c1 : (t1.length : Int) ≥ most
    · by_cases h0 : 0 < t1.length
      · rw [if_pos c1, if_pos h0, decide_eq_true h0] at hx
        rw [if_pos c1, decide_eq_true h0]
        exact .inl ⟨h0, hx.symm, rfl⟩
      · have e1 : t1 = [] := List.eq_nil_of_length_eq_zero (by omega)
        have e2 : t2 = [] := List.eq_nil_of_length_eq_zero (by omega)
        subst e1 e2
        rw [if_pos c1, if_neg h0] at hx
        rw [if_pos c1]
        exact .inr (.inr ⟨rfl, rfl, hx.symm, rfl⟩)
    · rw [if_neg c1] at hx ⊢
      by_cases c2 : (t1.length : Int) > 0 ∧ ((t1.length : Int) > p ∨ (t2.length : Int) = 0)
      · have h0 : 0 < t1.length := by omega
        rw [if_pos c2, if_pos h0, decide_eq_true h0] at hx
        rw [if_pos c2, decide_eq_true h0]
        exact .inl ⟨h0, hx.symm, rfl⟩
      · rw [if_neg c2] at hx ⊢
        by_cases h0 : 0 < t2.length
        · rw [if_pos h0, decide_eq_true h0] at hx
          rw [decide_eq_true h0]
          have hl := cn_last h0
          have hn := h.n (lastOf t2)
          have n1 : lastOf t2 ∉ t1 := fun q => by have := cn_mem.1 q; omega
          rw [show t2.getLast?.getD ⟨#[]⟩ = lastOf t2 from rfl, if_neg n1] at hx
          exact .inr (.inl ⟨h0, hx.symm, rfl⟩)
        · have e2 : t2 = [] := List.eq_nil_of_length_eq_zero (by omega)
          have e1 : t1 = [] := List.eq_nil_of_length_eq_zero (by omega)
          subst e1 e2
          rw [if_neg h0] at hx
          exact .inr (.inr ⟨rfl, rfl, hx.symm, rfl⟩)
  rcases key with ⟨h0, e, hv⟩ | ⟨h0, e, hv⟩ | ⟨e1, e2, e, hv⟩
  · rw [e] at hI ⊢
    have hl := cn_last h0
    have hn := fun k => h.n k
    have r1 := len_rm t1 (lastOf t1)
    have h9 := hn (lastOf t1)
    refine ⟨hI, ⟨(decide_eq_true (by simp only [List.length_append, List.length_reverse]; omega)).symm, fun _ => cn_mem.2 (by rw [cn_app, cn_rev, cn_rev]; dsimp only; omega), fun _ k => ?_, fun _ => ?_, fun q => (by cases q), rfl⟩, hv⟩
    · dsimp only
      rw [cn_app, cn_app]; simp only [cn_rev, cn_rm, true_and]
      by_cases q : k = lastOf t1
      · subst q; rw [if_pos rfl, if_pos rfl]; omega
      · rw [if_neg q, if_neg q]; omega
    · dsimp only; simp only [List.length_append, List.length_reverse]; omega
  · rw [e] at hI ⊢
    have hl := cn_last h0
    have hn := fun k => h.n k
    have r1 := len_rm t2 (lastOf t2)
    have h9 := hn (lastOf t2)
    refine ⟨hI, ⟨(decide_eq_true (by simp only [List.length_append, List.length_reverse]; omega)).symm, fun _ => cn_mem.2 (by rw [cn_app, cn_rev, cn_rev]; dsimp only; omega), fun _ k => ?_, fun _ => ?_, fun q => (by cases q), rfl⟩, hv⟩
    · dsimp only
      rw [cn_app, cn_app]; simp only [cn_rev, cn_rm, true_and]
      by_cases q : k = lastOf t2
      · subst q; rw [if_pos rfl, if_pos rfl]; omega
      · rw [if_neg q, if_neg q]; omega
    · dsimp only; simp only [List.length_append, List.length_reverse]; omega
  · rw [e] at hI ⊢
    subst e1 e2
    exact ⟨hI, ⟨rfl, fun q => (by cases q), fun q => (by cases q), fun q => (by cases q), fun _ => rfl, rfl⟩, hv⟩
end Go.Proofs.YtholinnmjoelkaaGreatDoor
namespace Go.Proofs.YtholinnmjoelkaaGreatDoor
open Go.RowKit Go.MapKept
section
variable {w : World} {S : Nat → Prop} {n cap size k : Nat} {a : Option Addr} {xs : List Value}
end
section
variable {P : Program} {σ : List (Nat × Value)} {t ty : TypeId} {dst : Option Tmp} {pos : String} {after : Array Edge} {g : Option (Nat × Bool)} {x : Operand} {b off n cap size j : Nat} {xs : List Value}
end
end Go.Proofs.YtholinnmjoelkaaGreatDoor
namespace Go.Proofs.YtholinnmjoelkaaGreatDoor
open Go.RowKit Go.MapKept
end Go.Proofs.YtholinnmjoelkaaGreatDoor
