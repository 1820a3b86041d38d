/- Package value: sums over items, their order. -/
import Derived.Test.YtnijaeipkbpibaaDoorValPureD
import Derived.Test.YtnijaeipkbpibaaDoorItemsS
set_option linter.unusedVariables false
namespace Go.Proofs.YtnijaeipkbpibaaDoor
open Go.Shelf Go.RowKit Go.MapKept Go.Lib Go.Sort
variable {M M0 : List Itm} {S S0 : List (KR ByteArray)} {bys bys0 d n nw : Int} {k v : ByteArray}
theorem valDel_len : (valDel M S bys k).1.length ≤ M.length := by
  rw [valDel_1]; have := length_del M k; rw [this]; split <;> omega
def sumI : List It → Int
  | [] => 0
  | y :: l => wt y + sumI l
theorem sumI_app : ∀ (A B : List It), sumI (A ++ B) = sumI A + sumI B
  | [], B => by simp [sumI]
  | y :: A, B => by simp [sumI, sumI_app A B]; omega
theorem sumI_perm {A B : List It} (h : A.Perm B) : sumI A = sumI B := by
  induction h with
  | nil => rfl
  | cons x _ ih => simp [sumI, ih]
  | swap x y l => simp [sumI]; omega
  | trans _ _ a b => exact a.trans b
theorem sumI_map : ∀ (M : List Itm), sumI (M.map (·.2)) = sumB M
  | [] => rfl
  | y :: M => by simp [sumI, sumB, sumI_map M]
theorem at_get {wl : List It} {j : Nat} (hj : j < wl.length) : wl[j]? = some (wl.getD j zIt) := by rw [List.getD_eq_getElem?_getD, List.getElem?_eq_getElem hj]; rfl
theorem right_at {wl : List It} (h : VX M S bys) (hp : wl.Perm (M.map (·.2))) {j : Nat} (hj : j < wl.length) : rightC (wl.getD j zIt).1 (wl.getD j zIt).2.1 (wl.getD j zIt).2.2 = 0 :=
  (h.ok _ (h.val hp (List.mem_of_getElem? (at_get hj)))).2
theorem small_at {wl : List It} (h : VX M S bys) (hp : wl.Perm (M.map (·.2))) {j : Nat} (hj : j < wl.length) : ((wl.getD j zIt).1.size : Int) ≤ 64 ∧ ((wl.getD j zIt).2.1.size : Int) ≤ 256 := by
  obtain ⟨_, r1, r2, _⟩ := rightC_ok (right_at h hp hj); exact ⟨r1, r2⟩
def sumT (wl : List It) (j : Nat) : Int := sumI (wl.take j)
theorem sumT_succ {wl : List It} {j : Nat} (hj : j < wl.length) : sumT wl (j + 1) = sumT wl j + ((wl.getD j zIt).1.size : Int) + ((wl.getD j zIt).2.1.size : Int) := by
  unfold sumT
  rw [List.take_add_one, at_get hj, Option.toList_some, sumI_app]
  simp [sumI, wt]; omega
theorem sumT_le {wl : List It} (h : VX M S bys) (hp : wl.Perm (M.map (·.2))) : ∀ {j : Nat}, j ≤ wl.length → 0 ≤ sumT wl j ∧ sumT wl j ≤ 320 * (j : Int)
  | 0, _ => by simp [sumT, sumI]
  | j + 1, hj => by
    have := sumT_le h hp (j := j) (by omega)
    have := small_at h hp (j := j) (by omega)
    rw [sumT_succ (by omega)]
    omega
theorem sumT_all {wl : List It} (h : VX M S bys) (hp : wl.Perm (M.map (·.2))) {j : Nat} (hj : wl.length ≤ j) : sumT wl j = bys := by
  unfold sumT
  rw [List.take_of_length_le hj, sumI_perm hp, sumI_map, h.by_]
theorem keys_nd {wl : List It} (h : VX M S bys) (hp : wl.Perm (M.map (·.2))) : (wl.map (·.1)).Nodup := by
  have e : (M.map (·.2)).map (·.1) = M.map (·.1) := by
    rw [List.map_map]
    exact List.map_congr_left fun y hy => (h.ok y hy).1
  have := hp.map (fun x : It => x.1)
  rw [e] at this
  exact this.nodup_iff.2 h.nd
theorem lt_at {wl : List It} (h : VX M S bys) (hp : wl.Perm (M.map (·.2))) (hq : wl.Pairwise fun x y => ltOf icmp y x = false) {j : Nat} (hj : j < wl.length) (h0 : 0 < j) : (wl.getD (j - 1) zIt).1.toList < (wl.getD j zIt).1.toList := by
  have e1 := at_get hj
  have e0 := at_get (wl := wl) (j := j - 1) (by omega)
  obtain ⟨k1, g1⟩ := List.getElem?_eq_some_iff.1 e1
  obtain ⟨k0, g0⟩ := List.getElem?_eq_some_iff.1 e0
  have hle := (List.pairwise_iff_getElem.1 hq) (j - 1) j k0 k1 (by omega)
  rw [g0, g1, lt_icmp] at hle
  have hle : ¬ (wl.getD j zIt).1.toList < (wl.getD (j - 1) zIt).1.toList := by simpa using hle
  have hne : (wl.getD (j - 1) zIt).1 ≠ (wl.getD j zIt).1 := by
    have hnd := keys_nd h hp
    have := (List.pairwise_iff_getElem.1 hnd) (j - 1) j (by simpa using k0) (by simpa using k1) (by omega)
    simp only [List.getElem_map] at this
    rwa [g0, g1] at this
  rcases List.le_iff_lt_or_eq.1 (List.not_lt.1 hle) with q | q
  · exact q
  · refine absurd ?_ hne
    rw [ByteArray.toList_eq, ByteArray.toList_eq] at q
    exact ByteArray.ext (Array.toList_inj.1 q)
section
variable {P : Program} {σ : List (Nat × Value)}
theorem o_ltS {ty xt yt : TypeId} {dst : Option Tmp} {pos : String} {after : Array Edge} {g : Option (Nat × Bool)} {x y : Operand} {a b : ByteArray} (hx : ev σ x = some (.string a)) (hy : ev σ y = some (.string b)) : OprV P σ ⟨dst, .binOp .lss xt x y yt, ty, pos, after, g⟩ (.bool (decide (a.toList < b.toList))) := oprV_of fun ρ hρ w => by
  simp [execOp, hρ x _ hx, hρ y _ hy, binOp, Op.stringOp, bytesLess_eq, eqGuard, Result.andThen]
theorem o_geS {ty xt yt : TypeId} {dst : Option Tmp} {pos : String} {after : Array Edge} {g : Option (Nat × Bool)} {x y : Operand} {a b : ByteArray} (hx : ev σ x = some (.string a)) (hy : ev σ y = some (.string b)) : OprV P σ ⟨dst, .binOp .geq xt x y yt, ty, pos, after, g⟩ (.bool (decide (¬ a.toList < b.toList))) := oprV_of fun ρ hρ w => by
  simp [execOp, hρ x _ hx, hρ y _ hy, binOp, Op.stringOp, bytesLess_eq, eqGuard, Result.andThen, ← decide_not, List.not_lt]
end
end Go.Proofs.YtnijaeipkbpibaaDoor
