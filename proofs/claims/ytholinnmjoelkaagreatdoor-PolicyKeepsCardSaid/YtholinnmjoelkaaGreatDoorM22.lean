/- ArcPureC, ArcPureD, ArcPureE, PolSpec -/
import Derived.Test.YtholinnmjoelkaaGreatDoorM21
set_option linter.unusedVariables false
set_option linter.unusedSimpArgs false
namespace Go.Proofs.YtholinnmjoelkaaGreatDoor
variable {most p : Int} {t1 t2 b1 b2 rw : LB} {key : ByteArray}
structure AOnce (m p : Int) (rw t1 t2 b1 b2 : LB) : Prop where
  row : t1 = lastRev m rw
  e2 : t2 = []
  e3 : b1 = []
  e4 : b2 = []
  share : p = 0
theorem AOnce.new {m : Int} : AOnce m 0 [] [] [] [] [] := ⟨by simp [lastRev], rfl, rfl, rfl, rfl⟩
theorem AOnce.step {m p : Int} (h : AOnce m p rw t1 t2 b1 b2) (hm : 1 ≤ m) (hk : key ∉ rw) {x} (hx : arcReq m p t1 t2 b1 b2 key = x) :
    AOnce m x.1 (rw ++ [key]) x.2.1 x.2.2.1 x.2.2.2.1 x.2.2.2.2.1 ∧ x.2.2.2.2.2.1 = false ∧ x.2.2.2.2.2.2.2 = decide (((rw ++ [key]).length : Int) > m) ∧
    (x.2.2.2.2.2.2.2 = true → x.2.2.2.2.2.2.1 = (rw ++ [key]).getD (rw.length - m.toNat) ⟨#[]⟩ ∧ m ≤ (rw.length : Int)) := by
  obtain ⟨rfl, rfl, rfl, rfl, rfl⟩ := h
  have hk1 : key ∉ lastRev m rw := fun q => hk (lastRev_mem q)
  have hl := lastRev_length (show 0 ≤ m by omega) rw
  rw [arcReq_new (by omega) hk1 (by simp) (by simp) (by simp) rfl] at hx
  have e2 : arcAll2 m 0 (lastRev m rw) [] [] [] = ((lastRev m rw).length : Int) := by unfold arcAll2; simp
  have e4 : arcAll4 m 0 (lastRev m rw) [] [] [] = ((lastRev m rw).length : Int) := by unfold arcAll4; simp
  unfold arcFresh at hx
  rw [e2, e4] at hx
  simp only [List.length_append, List.length_singleton]
  by_cases hf : (rw.length : Int) < m
  · rw [if_neg (by omega), if_neg (by omega), if_pos (by omega)] at hx
    subst hx
    refine ⟨⟨?_, rfl, rfl, rfl, rfl⟩, rfl, (decide_eq_false (by omega)).symm, fun q => by simp at q⟩
    dsimp only; rw [fr_not hk1, lastRev_push_room hf]
  · obtain ⟨p1, p2⟩ := lastRev_push_full (m := m) hm (rw := rw) (by omega) key
    have h0 : 0 < (lastRev m rw).length := by omega
    rw [if_pos (by omega), if_pos (by omega), decide_eq_true h0] at hx
    subst hx
    refine ⟨⟨?_, rfl, rfl, rfl, rfl⟩, rfl, (decide_eq_true (by omega)).symm, fun _ => ⟨?_, by omega⟩⟩
    · dsimp only; rw [fr_not (fun q => hk1 (mem_dl q)), p1]
    · show lastOf (lastRev m rw) = _
      rw [p2, List.getD_eq_getElem?_getD, List.getD_eq_getElem?_getD, List.getElem?_append_left (by omega)]
theorem AOnce.keys {m p : Int} (h : AOnce m p rw t1 t2 b1 b2) : t1.reverse ++ t2.reverse = rw.drop (rw.length - m.toNat) := by
  obtain ⟨rfl, rfl, rfl, rfl, rfl⟩ := h
  unfold lastRev; simp
end Go.Proofs.YtholinnmjoelkaaGreatDoor
namespace Go.Proofs.YtholinnmjoelkaaGreatDoor
open Go.RowKit
variable {most p : Int} {t1 t2 b1 b2 : LB} {key : ByteArray}
theorem rm_app (a b : LB) (k : ByteArray) : rm (a ++ b) k = rm a k ++ rm b k := by unfold rm; exact List.filter_append ..
theorem rm_rev (a : LB) (k : ByteArray) : rm a.reverse k = (rm a k).reverse := by unfold rm; exact List.filter_reverse ..
theorem rm_rm1 (a : LB) (k : ByteArray) : rm (rm a k) k = rm a k := by unfold rm; rw [List.filter_filter]; simp
theorem rm_fr (a : LB) (k : ByteArray) : rm (fr a k) k = rm a k := by unfold fr; rw [show rm (k :: rm a k) k = rm (rm a k) k from by simp [rm]]; exact rm_rm1 a k
theorem rm_none {a : LB} {k : ByteArray} (h : k ∉ a) : rm a k = a := by
  unfold rm; rw [List.filter_eq_self]; intro x hx; simp; intro e; exact h (e ▸ hx)
structure HitS (p : Int) (t1 t2 b1 b2 : LB) (key : ByteArray) (x : Int × LB × LB × LB × LB × Bool × ByteArray × Bool) : Prop where
  step : x.2.2.2.2.2 = (true, ⟨#[]⟩, false)
  last : ∃ R : LB, x.2.1.reverse ++ x.2.2.1.reverse = R ++ [key]
  rest : rm (x.2.1.reverse ++ x.2.2.1.reverse) key = rm (t1.reverse ++ t2.reverse) key
  g1 : x.2.2.2.1 = b1
  g2 : x.2.2.2.2.1 = b2
  share : x.1 = p
  len : x.2.1.length + x.2.2.1.length = t1.length + t2.length
  le : x.2.1.length ≤ t1.length
theorem ArcI.hit (h : ArcI most p t1 t2 b1 b2) (hm : 0 < most) (hk : key ∈ t1.reverse ++ t2.reverse) {x} (hx : arcReq most p t1 t2 b1 b2 key = x) : HitS p t1 t2 b1 b2 key x := by
  have hk' : key ∈ t1 ∨ key ∈ t2 := by simpa using hk
  have nk := h.n key
  by_cases h1 : key ∈ t1
  · rw [arcReq_t1 (by omega) h1] at hx; subst hx
    have c1 := cn_mem.1 h1
    have h2 : key ∉ t2 := not_cn.2 (by omega)
    have l1 := len_rm t1 key
    have l2 := len_fr t2 key
    refine ⟨rfl, ⟨(rm t1 key).reverse ++ (rm t2 key).reverse, by simp [fr]⟩, ?_, rfl, rfl, rfl, by dsimp only; omega, by dsimp only; omega⟩
    dsimp only
    rw [rm_app, rm_app, rm_rev, rm_rev, rm_rev, rm_rev, rm_rm1, rm_fr]
  · have h2 := hk'.resolve_left h1
    rw [arcReq_t2 (by omega) h1 h2] at hx; subst hx
    have c1 := cn_mem.1 h2
    have l1 := len_rm t2 key
    have l2 := len_fr (rm t2 key) key
    have l3 : cn (rm t2 key) key = 0 := by rw [cn_rm, if_pos rfl]
    refine ⟨rfl, ⟨t1.reverse ++ (rm t2 key).reverse, by simp [fr, rm_rm1]⟩, ?_, rfl, rfl, rfl, by dsimp only; omega, Nat.le_refl _⟩
    dsimp only
    rw [rm_app, rm_app, rm_rev, rm_rev, rm_rev, rm_fr, rm_rm1]
structure BackS (most p : Int) (t1 t2 b1 b2 : LB) (key : ByteArray) (x : Int × LB × LB × LB × LB × Bool × ByteArray × Bool) : Prop where
  hit : x.2.2.2.2.2.1 = false
  here : key ∈ x.2.2.1
  gone : key ∉ x.2.2.2.1 ++ x.2.2.2.2.1
  last : ∃ R : LB, x.2.1.reverse ++ x.2.2.1.reverse = R ++ [key]
  out : x.2.2.2.2.2.2.2 = true → x.2.2.2.2.2.2.1 ∈ x.2.2.2.1 ++ x.2.2.2.2.1
  up : key ∈ b1 → p ≤ x.1 ∧ (p < x.1 ∨ p = most)
  dn : key ∉ b1 → x.1 ≤ p ∧ (x.1 < p ∨ p = 0)
theorem ArcI.back (h : ArcI most p t1 t2 b1 b2) (hm : 0 < most) (hk : key ∈ b1 ++ b2) {x} (hx : arcReq most p t1 t2 b1 b2 key = x) : BackS most p t1 t2 b1 b2 key x := by
  have nk := h.n key
  have g1 := h.len; have gp := h.p0; have gm := h.pm
  have hk' : key ∈ b1 ∨ key ∈ b2 := by simpa using hk
  have hc : 0 < cn b1 key + cn b2 key := by rcases hk' with q | q <;> (have := cn_mem.1 q; omega)
  have h1 : key ∉ t1 := not_cn.2 (by omega)
  have h2 : key ∉ t2 := not_cn.2 (by omega)
  by_cases h3 : key ∈ b1
  · have c3 := cn_mem.1 h3
    have hR := room_F (p := arcUp most p b1 b2) (t1 := t1) (t2 := t2) (b1 := b1) (b2 := b2) hm
    rw [arcReq_b1 (by omega) h1 h2 h3 rfl] at hx
    obtain ⟨u1, u2, u3⟩ := arcUp_le (b1 := b1) (b2 := b2) gm gp
    generalize arcRoomF most (arcUp most p b1 b2) t1 t2 b1 b2 = y at hx hR
    have hS := hR.spec h.n g1
    have gk := hS.gho key
    have ak := hS.apart key
    subst hx
    refine ⟨rfl, mem_fr.2 (.inl rfl), ?_, ⟨y.1.reverse ++ (rm y.2.1 key).reverse, by simp [fr]⟩, fun q => ?_, fun _ => ⟨u1, u3⟩, fun q => absurd h3 q⟩
    · dsimp only
      rw [List.mem_append, not_or]
      refine ⟨fun q => (mem_rm.1 q).2 rfl, not_cn.2 ?_⟩
      have := cn_mem.1 h3
      have z1 := gk.1; have z2 := gk.2
      have e : 0 < cn y.2.2.1 key := by rw [z1]; omega
      omega
    · dsimp only at q ⊢
      have ov := hS.out q
      have gv := hS.gho y.2.2.2.2.1
      have nv := h.n y.2.2.2.2.1
      have hv : y.2.2.2.2.1 ≠ key := fun e => by rw [e] at ov; have a1 := not_cn.1 h1; have a2 := not_cn.1 h2; omega
      rw [if_pos ⟨q, rfl⟩, if_pos ⟨q, rfl⟩] at gv
      rw [List.mem_append]
      by_cases e : 0 < cn t1 y.2.2.2.2.1
      · exact .inl (mem_rm.2 ⟨cn_mem.2 (by omega), hv⟩)
      · exact .inr (cn_mem.2 (by omega))
  · have h4 := hk'.resolve_left h3
    have c4 := cn_mem.1 h4
    have hR := room_T (p := arcDn p b1 b2) (t1 := t1) (t2 := t2) (b1 := b1) (b2 := b2) hm
    rw [arcReq_b2 (by omega) h1 h2 h3 h4 rfl] at hx
    obtain ⟨u1, u2, u3⟩ := arcDn_le (b1 := b1) (b2 := b2) gp
    generalize arcRoomT most (arcDn p b1 b2) t1 t2 b1 b2 = y at hx hR
    have hS := hR.spec h.n g1
    have gk := hS.gho key
    have ak := hS.apart key
    subst hx
    refine ⟨rfl, mem_fr.2 (.inl rfl), ?_, ⟨y.1.reverse ++ (rm y.2.1 key).reverse, by simp [fr]⟩, fun q => ?_, fun q => absurd q h3, fun _ => ⟨u1, u3⟩⟩
    · dsimp only
      rw [List.mem_append, not_or]
      refine ⟨not_cn.2 ?_, fun q => (mem_rm.1 q).2 rfl⟩
      have z2 := gk.2
      have e : 0 < cn y.2.2.2.1 key := by rw [z2]; omega
      omega
    · dsimp only at q ⊢
      have ov := hS.out q
      have gv := hS.gho y.2.2.2.2.1
      have hv : y.2.2.2.2.1 ≠ key := fun e => by rw [e] at ov; have a1 := not_cn.1 h1; have a2 := not_cn.1 h2; omega
      rw [if_pos ⟨q, rfl⟩, if_pos ⟨q, rfl⟩] at gv
      rw [List.mem_append]
      by_cases e : 0 < cn t1 y.2.2.2.2.1
      · exact .inl (cn_mem.2 (by omega))
      · exact .inr (mem_rm.2 ⟨cn_mem.2 (by omega), hv⟩)
theorem ReqS.some {x : Int × LB × LB × LB × LB × Bool × ByteArray × Bool} (h : ReqS most p t1 t2 b1 b2 key x) (hm : 0 < most) : 0 < x.2.1.length + x.2.2.1.length := by
  rcases h.here hm with q | q
  · have := List.length_pos_of_mem q; omega
  · have := List.length_pos_of_mem q; omega
theorem getD_appL {a b : LB} {i : Nat} (h : i < a.length) : (a ++ b).getD i ⟨#[]⟩ ∈ a := by
  rw [List.getD_eq_getElem?_getD, List.getElem?_append_left h, List.getElem?_eq_getElem h]; exact List.getElem_mem h
theorem getD_appR {a b : LB} {i : Nat} (h : a.length ≤ i) (h2 : i < (a ++ b).length) : (a ++ b).getD i ⟨#[]⟩ ∈ b := by
  have h3 : i - a.length < b.length := by rw [List.length_append] at h2; omega
  rw [List.getD_eq_getElem?_getD, List.getElem?_append_right h, List.getElem?_eq_getElem h3]; exact List.getElem_mem h3
end Go.Proofs.YtholinnmjoelkaaGreatDoor
namespace Go.Proofs.YtholinnmjoelkaaGreatDoor
open Go.RowKit
variable {most p : Int} {t1 t2 b1 b2 : LB} {key : ByteArray}
theorem ArcI.less (h : ArcI most p t1 t2 b1 b2) {u1 u2 c1 c2 : LB} (hc : ∀ k, cn u1 k ≤ cn t1 k ∧ cn u2 k ≤ cn t2 k ∧ cn c1 k ≤ cn b1 k ∧ cn c2 k ≤ cn b2 k) (hl : u1.length ≤ t1.length ∧ u2.length ≤ t2.length ∧ c1.length ≤ b1.length ∧ c2.length ≤ b2.length) : ArcI most p u1 u2 c1 c2 := by
  have g1 := h.len; have g2 := h.l1; have g3 := h.all
  exact ⟨fun k => by have := h.n k; have := hc k; omega, h.h0, h.p0, h.pm, by omega, by omega, by omega⟩
theorem cn_rm_le (l : LB) (a k : ByteArray) : cn (rm l a) k ≤ cn l k := by rw [cn_rm]; split <;> omega
theorem len_rm_le (l : LB) (a : ByteArray) : (rm l a).length ≤ l.length := by have := len_rm l a; omega
theorem ArcI.drop (h : ArcI most p t1 t2 b1 b2) {x} (hx : arcDrop most p t1 t2 b1 b2 = x) : ArcI most p x.1 x.2.1 b1 b2 := by
  have key : ∃ u1 u2 s t, x = (u1, u2, s, t) ∧ (u1 = t1 ∨ ∃ a, u1 = rm t1 a) ∧ (u2 = t2 ∨ ∃ a, u2 = rm t2 a) := by
    subst hx
    unfold arcDrop
    repeat' split
    all_goals first
      | exact ⟨_, _, _, _, rfl, .inl rfl, .inl rfl⟩
      | exact ⟨_, _, _, _, rfl, .inr ⟨_, rfl⟩, .inl rfl⟩
      | exact ⟨_, _, _, _, rfl, .inl rfl, .inr ⟨_, rfl⟩⟩
  obtain ⟨u1, u2, s, t, rfl, q1, q2⟩ := key
  refine h.less (fun k => ?_) ?_
  · rcases q1 with rfl | ⟨a, rfl⟩ <;> rcases q2 with rfl | ⟨c, rfl⟩ <;> simp only [Nat.le_refl, and_true, true_and] <;> first | exact ⟨cn_rm_le _ _ _, cn_rm_le _ _ _⟩ | exact cn_rm_le _ _ _ | trivial
  · rcases q1 with rfl | ⟨a, rfl⟩ <;> rcases q2 with rfl | ⟨c, rfl⟩ <;> simp only [Nat.le_refl, and_true, true_and] <;> first | exact ⟨len_rm_le _ _, len_rm_le _ _⟩ | exact len_rm_le _ _ | trivial
theorem arcRemove_eq (h : Apart t1 t2 b1 b2) : arcRemove most p t1 t2 b1 b2 key = (rm t1 key, rm t2 key, rm b1 key, rm b2 key, decide (key ∈ t1 ∨ key ∈ t2)) := by
  have nk := h key
  unfold arcRemove
  by_cases h1 : key ∈ t1
  · have c := cn_mem.1 h1
    rw [if_pos h1, rm_none (a := t2) (not_cn.2 (by omega)), rm_none (a := b1) (not_cn.2 (by omega)), rm_none (a := b2) (not_cn.2 (by omega))]; simp [h1]
  rw [if_neg h1, rm_none h1]
  by_cases h2 : key ∈ t2
  · have c := cn_mem.1 h2
    rw [if_pos h2, rm_none (a := b1) (not_cn.2 (by omega)), rm_none (a := b2) (not_cn.2 (by omega))]; simp [h2]
  rw [if_neg h2, rm_none h2]
  by_cases h3 : key ∈ b1
  · have c := cn_mem.1 h3
    rw [if_pos h3, rm_none (a := b2) (not_cn.2 (by omega))]; simp [h1, h2]
  rw [if_neg h3, rm_none h3]
  by_cases h4 : key ∈ b2
  · rw [if_pos h4]; simp [h1, h2]
  · rw [if_neg h4, rm_none h4]; simp [h1, h2]
theorem ArcI.remove (h : ArcI most p t1 t2 b1 b2) (key : ByteArray) {x} (hx : arcRemove most p t1 t2 b1 b2 key = x) : ArcI most p x.1 x.2.1 x.2.2.1 x.2.2.2.1 ∧ x = (rm t1 key, rm t2 key, rm b1 key, rm b2 key, decide (key ∈ t1 ∨ key ∈ t2)) := by
  rw [arcRemove_eq h.n] at hx
  subst hx
  exact ⟨h.less (fun k => ⟨cn_rm_le _ _ _, cn_rm_le _ _ _, cn_rm_le _ _ _, cn_rm_le _ _ _⟩) ⟨len_rm_le _ _, len_rm_le _ _, len_rm_le _ _, len_rm_le _ _⟩, rfl⟩
theorem Apart.nodup (h : Apart t1 t2 b1 b2) : (t1.reverse ++ t2.reverse ++ (b1 ++ b2)).Nodup := by
  rw [nodup_cn]
  intro k
  have := h k
  rw [cn_app, cn_app, cn_app, cn_rev, cn_rev]; omega
structure SeenI (l : LB) (sn : List (ByteArray × Bool)) (k : Nat) : Prop where
  le : k ≤ l.length
  sn : ∀ x, (lk sn x).getD false = decide (x ∈ l.take k)
theorem SeenI.new {l : LB} : SeenI l [] 0 := ⟨Nat.zero_le _, fun x => by simp [lk]⟩
theorem take_push {l : LB} {k : Nat} (hk : k < l.length) : l.take (k + 1) = l.take k ++ [l.getD k ⟨#[]⟩] := by
  rw [List.take_add_one, List.getD_eq_getElem?_getD, List.getElem?_eq_getElem hk]; rfl
theorem SeenI.step {l : LB} {sn : List (ByteArray × Bool)} {k : Nat} (h : SeenI l sn k) (hk : k < l.length) : SeenI l (put sn (l.getD k ⟨#[]⟩) true) (k + 1) := by
  refine ⟨hk, fun x => ?_⟩
  rw [lk_put, take_push hk]
  by_cases e : x = l.getD k ⟨#[]⟩
  · rw [if_pos e]; simp [e]
  · rw [if_neg e, h.sn]
    simp only [List.mem_append, List.mem_singleton, e, or_false]
theorem Apart.here (h : Apart t1 t2 b1 b2) {k : Nat} (hk : k < (t1.reverse ++ t2.reverse ++ (b1 ++ b2)).length) :
    ((t1.reverse ++ t2.reverse ++ (b1 ++ b2)).getD k ⟨#[]⟩ ∈ t1 ∨ (t1.reverse ++ t2.reverse ++ (b1 ++ b2)).getD k ⟨#[]⟩ ∈ t2) ↔ k < t1.length + t2.length := by
  constructor
  · intro q
    refine Classical.byContradiction fun hc => ?_
    have := getD_appR (a := t1.reverse ++ t2.reverse) (b := b1 ++ b2) (i := k) (by simp; omega) hk
    have n := h ((t1.reverse ++ t2.reverse ++ (b1 ++ b2)).getD k ⟨#[]⟩)
    rw [cn_mem, cn_app] at this
    rcases q with q | q <;> (have := cn_mem.1 q; omega)
  · intro q
    have := getD_appL (a := t1.reverse ++ t2.reverse) (b := b1 ++ b2) (i := k) (by simp; omega)
    simpa using this
end Go.Proofs.YtholinnmjoelkaaGreatDoor
namespace Go.Proofs.YtholinnmjoelkaaGreatDoor
structure ReqP (most : Int) (K : LB) (key : ByteArray) (K' : LB) (hit : Bool) (vic : ByteArray) (out : Bool) : Prop where
  cn : ∀ k, cn K' k = if k = key then 1 else Proofs.YtholinnmjoelkaaGreatDoor.cn K k - if out = true ∧ k = vic then 1 else 0
  len : (K'.length : Int) = K.length + (if hit = true then 0 else 1) - if out = true then 1 else 0
  hitE : hit = decide (key ∈ K)
  outE : out = decide (key ∉ K ∧ (K.length : Int) = most)
  vin : out = true → vic ∈ K
  vno : out = false → vic = ⟨#[]⟩
structure RemP (K : LB) (key : ByteArray) (K' G' : LB) (was : Bool) : Prop where
  wasE : was = decide (key ∈ K)
  cn : ∀ k, cn K' k = if k = key then 0 else Proofs.YtholinnmjoelkaaGreatDoor.cn K k
  len : K'.length + Proofs.YtholinnmjoelkaaGreatDoor.cn K key = K.length
  gho : key ∉ G'
structure AdoP (most : Int) (K : LB) (key : ByteArray) (K' G' : LB) (ok : Bool) : Prop where
  okE : ok = decide (key ∉ K ∧ (K.length : Int) < most)
  cn : ok = true → ∀ k, cn K' k = if k = key then 1 else Proofs.YtholinnmjoelkaaGreatDoor.cn K k
  len : ok = true → K'.length = K.length + 1
  gho : ok = true → key ∉ G'
  no : ok = false → K' = K
structure DroP (K G : LB) (K' G' : LB) (v : ByteArray) (ok : Bool) : Prop where
  okE : ok = decide (0 < K.length)
  vin : ok = true → v ∈ K
  cn : ok = true → ∀ k, cn K' k = Proofs.YtholinnmjoelkaaGreatDoor.cn K k - if k = v then 1 else 0
  len : ok = true → K'.length + 1 = K.length
  no : ok = false → K' = K
  gho : G' = G
structure RszP (less : Int) (K : LB) (K' out : LB) : Prop where
  cn : ∀ k, cn K' k + cn out k = Proofs.YtholinnmjoelkaaGreatDoor.cn K k
  tot : K'.length + out.length = K.length
  len : (out.length : Int) = if (K.length : Int) - less > 0 then (K.length : Int) - less else 0
theorem cn_zero {l : LB} {k : ByteArray} (h : k ∉ l) : cn l k = 0 := by
  have : ¬ 0 < cn l k := fun q => h (cn_mem.2 q)
  omega
theorem cn_one {l : LB} (h : l.Nodup) {k : ByteArray} (hk : k ∈ l) : cn l k = 1 := by
  have := nodup_cn.1 h k; have := cn_mem.1 hk; omega
section
variable {most : Int} {K K' G G' : LB} {key vic : ByteArray} {hit out was ok : Bool}
theorem ReqP.mem (h : ReqP most K key K' hit vic out) : key ∈ K' := cn_mem.2 (by rw [h.cn, if_pos rfl]; exact Nat.one_pos)
theorem ReqP.gone (h : ReqP most K key K' hit vic out) (hn : K.Nodup) (ho : out = true) : vic ∉ K' := fun q => by
  have h1 := cn_mem.1 q
  have h2 := h.vin ho
  have h3 := cn_one hn h2
  have h4 : key ∉ K := by have := h.outE; rw [ho] at this; exact (of_decide_eq_true this.symm).1
  have h5 : vic ≠ key := fun e => h4 (e ▸ h2)
  rw [h.cn, if_neg h5, if_pos ⟨ho, rfl⟩] at h1
  omega
theorem ReqP.stay (h : ReqP most K key K' hit vic out) (hn : K.Nodup) {k : ByteArray} (hk : k ∈ K) (hno : k ∉ K') : out = true ∧ k = vic := by
  refine Classical.byContradiction fun q => hno (cn_mem.2 ?_)
  rw [h.cn]
  have := cn_mem.1 hk
  rw [if_neg q]
  split <;> omega
theorem ReqP.nodup (h : ReqP most K key K' hit vic out) (hn : K.Nodup) : K'.Nodup := nodup_cn.2 fun k => by
  have := nodup_cn.1 hn k
  rw [h.cn]; split <;> omega
end
end Go.Proofs.YtholinnmjoelkaaGreatDoor
