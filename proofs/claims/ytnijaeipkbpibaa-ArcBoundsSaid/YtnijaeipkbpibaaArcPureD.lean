/- Package arc: hits, and what comes back. -/
import Derived.Test.YtnijaeipkbpibaaArcPureC
set_option linter.unusedVariables false
namespace Go.Proofs.Ytnijaeipkbpibaa
open Go.RowKit
theorem o_rem {P : Program} {σ : List (Nat × Value)} {ty xt yt : TypeId} {dst : Option Tmp} {pos : String} {after : Array Edge} {g : Option (Nat × Bool)} {k : IntKind} {x y : Operand} {a b c : Int} (hx : ev σ x = some (.int k a)) (hy : ev σ y = some (.int k b)) (h0 : b ≠ 0) (hc : a.tmod b = c) : OprV P σ ⟨dst, .binOp .rem xt x y yt, ty, pos, after, g⟩ (.int k c) := oprV_of fun ρ hρ w => by
  subst hc; simp [execOp, hρ x _ hx, hρ y _ hy, binOp, Op.intDiv, eqGuard, Result.andThen, h0]
/-- A number, within a row's length. -/
theorem rem_at {a : Int} {n : Nat} (ha : 0 ≤ a) (hn : 0 < n) : ∃ i : Nat, a.tmod (n : Int) = (i : Int) ∧ i < n := by
  refine ⟨(a % (n : Int)).toNat, ?_, ?_⟩
  · rw [Int.tmod_eq_emod_of_nonneg ha]; have := Int.emod_nonneg a (show (n : Int) ≠ 0 by omega); omega
  · have h1 := Int.emod_nonneg a (show (n : Int) ≠ 0 by omega)
    have h2 := Int.emod_lt_of_pos a (show (0 : Int) < n by omega)
    omega
variable {most p : Int} {t1 t2 b1 b2 : LB} {key : ByteArray}
theorem rm_app (a b : LB) (k : ByteArray) : rm (a ++ b) k = rm a k ++ rm b k := by unfold rm; exact List.filter_append ..
theorem rm_rev (a : LB) (k : ByteArray) : rm a.reverse k = (rm a k).reverse := by unfold rm; exact List.filter_reverse ..
theorem rm_rm1 (a : LB) (k : ByteArray) : rm (rm a k) k = rm a k := by unfold rm; rw [List.filter_filter]; simp
theorem rm_fr (a : LB) (k : ByteArray) : rm (fr a k) k = rm a k := by unfold fr; rw [show rm (k :: rm a k) k = rm (rm a k) k from by simp [rm]]; exact rm_rm1 a k
theorem rm_none {a : LB} {k : ByteArray} (h : k ∉ a) : rm a k = a := by
  unfold rm; rw [List.filter_eq_self]; intro x hx; simp; intro e; exact h (e ▸ hx)
/-- What a hit leaves. -/
structure HitS (p : Int) (t1 t2 b1 b2 : LB) (key : ByteArray) (x : Int × LB × LB × LB × LB × Bool × ByteArray × Bool) : Prop where
  step : x.2.2.2.2.2 = (true, ⟨#[]⟩, false)
  last : ∃ R : LB, x.2.1.reverse ++ x.2.2.1.reverse = R ++ [key]
  rest : rm (x.2.1.reverse ++ x.2.2.1.reverse) key = rm (t1.reverse ++ t2.reverse) key
  g1 : x.2.2.2.1 = b1
  g2 : x.2.2.2.2.1 = b2
  share : x.1 = p
  len : x.2.1.length + x.2.2.1.length = t1.length + t2.length
  le : x.2.1.length ≤ t1.length
theorem ArcI.hit (h : ArcI most p t1 t2 b1 b2) (hm : 0 < most) (hk : key ∈ t1.reverse ++ t2.reverse) {x} (hx : arcReq most p t1 t2 b1 b2 key = x) : HitS p t1 t2 b1 b2 key x := by
  have hk' : key ∈ t1 ∨ key ∈ t2 := by simpa using hk
  have nk := h.n key
  by_cases h1 : key ∈ t1
  · rw [arcReq_t1 (by omega) h1] at hx; subst hx
    have c1 := cn_mem.1 h1
    have h2 : key ∉ t2 := not_cn.2 (by omega)
    have l1 := len_rm t1 key
    have l2 := len_fr t2 key
    refine ⟨rfl, ⟨(rm t1 key).reverse ++ (rm t2 key).reverse, by simp [fr]⟩, ?_, rfl, rfl, rfl, by dsimp only; omega, by dsimp only; omega⟩
    dsimp only
    rw [rm_app, rm_app, rm_rev, rm_rev, rm_rev, rm_rev, rm_rm1, rm_fr]
  · have h2 := hk'.resolve_left h1
    rw [arcReq_t2 (by omega) h1 h2] at hx; subst hx
    have c1 := cn_mem.1 h2
    have l1 := len_rm t2 key
    have l2 := len_fr (rm t2 key) key
    have l3 : cn (rm t2 key) key = 0 := by rw [cn_rm, if_pos rfl]
    refine ⟨rfl, ⟨t1.reverse ++ (rm t2 key).reverse, by simp [fr, rm_rm1]⟩, ?_, rfl, rfl, rfl, by dsimp only; omega, Nat.le_refl _⟩
    dsimp only
    rw [rm_app, rm_app, rm_rev, rm_rev, rm_rev, rm_fr, rm_rm1]
theorem last_getD {l R : LB} {key : ByteArray} (h : l = R ++ [key]) : l.getD (l.length - 1) ⟨#[]⟩ = key ∧ 0 < l.length := by
  subst h; simp [List.getD_eq_getElem?_getD]
/-- What a ghost that comes back leaves. -/
structure BackS (most p : Int) (t1 t2 b1 b2 : LB) (key : ByteArray) (x : Int × LB × LB × LB × LB × Bool × ByteArray × Bool) : Prop where
  hit : x.2.2.2.2.2.1 = false
  here : key ∈ x.2.2.1
  gone : key ∉ x.2.2.2.1 ++ x.2.2.2.2.1
  last : ∃ R : LB, x.2.1.reverse ++ x.2.2.1.reverse = R ++ [key]
  out : x.2.2.2.2.2.2.2 = true → x.2.2.2.2.2.2.1 ∈ x.2.2.2.1 ++ x.2.2.2.2.1
  up : key ∈ b1 → p ≤ x.1 ∧ (p < x.1 ∨ p = most)
  dn : key ∉ b1 → x.1 ≤ p ∧ (x.1 < p ∨ p = 0)
theorem ArcI.back (h : ArcI most p t1 t2 b1 b2) (hm : 0 < most) (hk : key ∈ b1 ++ b2) {x} (hx : arcReq most p t1 t2 b1 b2 key = x) : BackS most p t1 t2 b1 b2 key x := by
  have nk := h.n key
  have g1 := h.len; have gp := h.p0; have gm := h.pm
  have hk' : key ∈ b1 ∨ key ∈ b2 := by simpa using hk
  have hc : 0 < cn b1 key + cn b2 key := by rcases hk' with q | q <;> (have := cn_mem.1 q; omega)
  have h1 : key ∉ t1 := not_cn.2 (by omega)
  have h2 : key ∉ t2 := not_cn.2 (by omega)
  by_cases h3 : key ∈ b1
  · have c3 := cn_mem.1 h3
    have hR := room_F (p := arcUp most p b1 b2) (t1 := t1) (t2 := t2) (b1 := b1) (b2 := b2) hm
    rw [arcReq_b1 (by omega) h1 h2 h3 rfl] at hx
    obtain ⟨u1, u2, u3⟩ := arcUp_le (b1 := b1) (b2 := b2) gm gp
    generalize arcRoomF most (arcUp most p b1 b2) t1 t2 b1 b2 = y at hx hR
    have hS := hR.spec h.n g1
    have gk := hS.gho key
    have ak := hS.apart key
    subst hx
    refine ⟨rfl, mem_fr.2 (.inl rfl), ?_, ⟨y.1.reverse ++ (rm y.2.1 key).reverse, by simp [fr]⟩, fun q => ?_, fun _ => ⟨u1, u3⟩, fun q => absurd h3 q⟩
    · dsimp only
      rw [List.mem_append, not_or]
      refine ⟨fun q => (mem_rm.1 q).2 rfl, not_cn.2 ?_⟩
      have := cn_mem.1 h3
      have z1 := gk.1; have z2 := gk.2
      have e : 0 < cn y.2.2.1 key := by rw [z1]; omega
      omega
    · dsimp only at q ⊢
      have ov := hS.out q
      have gv := hS.gho y.2.2.2.2.1
      have nv := h.n y.2.2.2.2.1
      have hv : y.2.2.2.2.1 ≠ key := fun e => by rw [e] at ov; have a1 := not_cn.1 h1; have a2 := not_cn.1 h2; omega
      rw [if_pos ⟨q, rfl⟩, if_pos ⟨q, rfl⟩] at gv
      rw [List.mem_append]
      by_cases e : 0 < cn t1 y.2.2.2.2.1
      · exact .inl (mem_rm.2 ⟨cn_mem.2 (by omega), hv⟩)
      · exact .inr (cn_mem.2 (by omega))
  · have h4 := hk'.resolve_left h3
    have c4 := cn_mem.1 h4
    have hR := room_T (p := arcDn p b1 b2) (t1 := t1) (t2 := t2) (b1 := b1) (b2 := b2) hm
    rw [arcReq_b2 (by omega) h1 h2 h3 h4 rfl] at hx
    obtain ⟨u1, u2, u3⟩ := arcDn_le (b1 := b1) (b2 := b2) gp
    generalize arcRoomT most (arcDn p b1 b2) t1 t2 b1 b2 = y at hx hR
    have hS := hR.spec h.n g1
    have gk := hS.gho key
    have ak := hS.apart key
    subst hx
    refine ⟨rfl, mem_fr.2 (.inl rfl), ?_, ⟨y.1.reverse ++ (rm y.2.1 key).reverse, by simp [fr]⟩, fun q => ?_, fun q => absurd q h3, fun _ => ⟨u1, u3⟩⟩
    · dsimp only
      rw [List.mem_append, not_or]
      refine ⟨not_cn.2 ?_, fun q => (mem_rm.1 q).2 rfl⟩
      have z2 := gk.2
      have e : 0 < cn y.2.2.2.1 key := by rw [z2]; omega
      omega
    · dsimp only at q ⊢
      have ov := hS.out q
      have gv := hS.gho y.2.2.2.2.1
      have hv : y.2.2.2.2.1 ≠ key := fun e => by rw [e] at ov; have a1 := not_cn.1 h1; have a2 := not_cn.1 h2; omega
      rw [if_pos ⟨q, rfl⟩, if_pos ⟨q, rfl⟩] at gv
      rw [List.mem_append]
      by_cases e : 0 < cn t1 y.2.2.2.2.1
      · exact .inl (cn_mem.2 (by omega))
      · exact .inr (mem_rm.2 ⟨cn_mem.2 (by omega), hv⟩)
/-- Behind a request somebody is there. -/
theorem ReqS.some {x : Int × LB × LB × LB × LB × Bool × ByteArray × Bool} (h : ReqS most p t1 t2 b1 b2 key x) (hm : 0 < most) : 0 < x.2.1.length + x.2.2.1.length := by
  rcases h.here hm with q | q
  · have := List.length_pos_of_mem q; omega
  · have := List.length_pos_of_mem q; omega
theorem getD_memB {l : LB} {i : Nat} (h : i < l.length) : l.getD i ⟨#[]⟩ ∈ l := by
  rw [List.getD_eq_getElem?_getD, List.getElem?_eq_getElem h]; exact List.getElem_mem h
theorem getD_appL {a b : LB} {i : Nat} (h : i < a.length) : (a ++ b).getD i ⟨#[]⟩ ∈ a := by
  rw [List.getD_eq_getElem?_getD, List.getElem?_append_left h, List.getElem?_eq_getElem h]; exact List.getElem_mem h
theorem getD_appR {a b : LB} {i : Nat} (h : a.length ≤ i) (h2 : i < (a ++ b).length) : (a ++ b).getD i ⟨#[]⟩ ∈ b := by
  have h3 : i - a.length < b.length := by rw [List.length_append] at h2; omega
  rw [List.getD_eq_getElem?_getD, List.getElem?_append_right h, List.getElem?_eq_getElem h3]; exact List.getElem_mem h3
end Go.Proofs.Ytnijaeipkbpibaa
