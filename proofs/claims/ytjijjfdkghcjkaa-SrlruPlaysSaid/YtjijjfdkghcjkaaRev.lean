/- slices.Reverse over strings: a row turned about. -/
import Derived.Test.YtjijjfdkghcjkaaListW
import Derived.RegionTactic
set_option linter.unusedVariables false
namespace Go.Proofs.Ytjijjfdkghcjkaa
open Go.RowKit Go.MapKept

/-- Behind i exchanges. -/
def revAt (ks : List ByteArray) (i p : Nat) : ByteArray := if p < i ∨ ks.length ≤ p + i then (ks[ks.length - 1 - p]?).getD ⟨#[]⟩ else (ks[p]?).getD ⟨#[]⟩
theorem rev_done {ks : List ByteArray} {i : Nat} (h : ks.length ≤ i + i + 1) (p : Nat) (hp : p < ks.length) : ks.reverse[p]? = some (revAt ks i p) := by
  unfold revAt
  rw [List.getElem?_reverse hp]
  split
  · rw [List.getElem?_eq_getElem (by omega)]; rfl
  · have : p = ks.length - 1 - p := by omega
    rw [← this, List.getElem?_eq_getElem hp]; rfl
theorem rev_start {ks : List ByteArray} (p : Nat) (hp : p < ks.length) : ks[p]? = some (revAt ks 0 p) := by
  unfold revAt
  rw [if_neg (by omega), List.getElem?_eq_getElem hp]; rfl
theorem rev_i {ks : List ByteArray} {i : Nat} (h : i + i + 1 < ks.length) : revAt ks i i = (ks[i]?).getD ⟨#[]⟩ ∧ revAt ks i (ks.length - 1 - i) = (ks[ks.length - 1 - i]?).getD ⟨#[]⟩ ∧ revAt ks (i + 1) i = (ks[ks.length - 1 - i]?).getD ⟨#[]⟩ ∧ revAt ks (i + 1) (ks.length - 1 - i) = (ks[i]?).getD ⟨#[]⟩ := by
  unfold revAt
  refine ⟨if_neg (by omega), if_neg (by omega), if_pos (by omega), ?_⟩
  rw [if_pos (by omega)]
  congr 2
  omega
theorem rev_other {ks : List ByteArray} {i p : Nat} (h : i + i + 1 < ks.length) (h1 : p ≠ i) (h2 : p ≠ ks.length - 1 - i) (hp : p < ks.length) : revAt ks (i + 1) p = revAt ks i p := by
  unfold revAt
  by_cases q : p < i ∨ ks.length ≤ p + i
  · rw [if_pos (by omega), if_pos q]
  · rw [if_neg (by omega), if_neg q]

def RevInv (wr : World) (g : Nat) (T : TypeId) (len : Nat) (ks : List ByteArray) (i : Nat) : Prop := ∃ cur : List Value, Blk wr g cur T ∧ cur.length = len ∧ ∀ p, p < ks.length → cur[p]? = some (.string (revAt ks i p))

section
variable {w w' : World} {S S' : Nat → Prop} {b n : Nat} {v : Value} {ks : List ByteArray}
set_option maxHeartbeats 1600000 in
set_option maxRecDepth 100000 in
theorem w_Reverse (h : Row w S 9 1 v ks.length (ks.map Value.string)) (hb : ks.length ≤ 1000000000) :
    Calls Try.prog 65 #[v] w (After S w (.tuple #[]) fun w S => Row w S 9 1 v ks.reverse.length (ks.reverse.map Value.string)) := by
  rcases h.shape with ⟨rfl, h0, h1⟩ | ⟨g, cap, cur, rfl, hS, hB, hn, hc, hl, hx⟩
  · have hk : ks = [] := List.eq_nil_of_length_eq_zero h0
    subst hk
    have H := hid h
    clear h h1 h0
    go_enter Try.func65, Try.ntmps65
    go_wp2_with fail
    go_loop [2, 3] (fun i j => i = .int .i64 0 ∧ j = .int .i64 (-1)) (fun i j => 0)
    case atStart => exact ⟨rfl, rfl⟩
    case round =>
      obtain ⟨rfl, rfl⟩ := hrel
      go_wp2
      go_end0
      exact ⟨rfl, Mod.refl _ _, S, fun _ q => .inl q, H.out⟩
  · unfold maxLen at hc
    have hstart : RevInv w g 9 cap ks 0 := ⟨cur, hB, by omega, fun p hp => by
      have e : (cur.take (ks.length * 1))[p]? = (ks.map Value.string)[p]? := by rw [hx]
      rw [List.getElem?_take, if_pos (by omega), List.getElem?_map, rev_start p hp] at e
      exact e⟩
    have HI := hid hstart
    have HS := hid hS
    clear h hB hx hl hstart hS
    go_enter Try.func65, Try.ntmps65
    go_wp2_with fail
    go_loopw [2, 3] (fun vi vj wr => ∃ i : Nat, i ≤ ks.length ∧ vi = .int .i64 i ∧ vj = .int .i64 ((ks.length : Int) - 1 - i) ∧ (i = 0 ∨ i + i ≤ ks.length + 1) ∧ Mod S w wr ∧ RevInv wr g 9 cap ks i) (fun vi _ _ => ks.length - (intOf vi).toNat)
    case atStart => exact ⟨0, by omega, rfl, congrArg (Value.int .i64) (by omega), .inl rfl, Mod.refl _ _, HI.out⟩
    case round =>
      obtain ⟨i, hi, rfl, rfl, hii, hm, cu, hB, hl, hx⟩ := hrel
      by_cases hlt : (i : Int) < (ks.length : Int) - 1 - i
      · have hlt2 : i + i + 1 < ks.length := by omega
        obtain ⟨r1, r2, r3, r4⟩ := rev_i hlt2
        have e1 : ((ks.length : Int) - 1 - i).toNat = ks.length - 1 - i := by omega
        have e2 : ((i : Int)).toNat = i := by omega
        have p0 := hB.at i _ (hx i (by omega))
        have p1 := hB.at (ks.length - 1 - i) _ (hx (ks.length - 1 - i) (by omega))
        have f0 := hB.free i
        have f1 := hB.free (ks.length - 1 - i)
        have b0 : (0 : Int) ≤ (ks.length : Int) - 1 - i := by omega
        have b1 : (ks.length : Int) - 1 - i < ks.length := by omega
        have b2 : (i : Int) < ks.length := by omega
        have hne : i ≠ ks.length - 1 - i := by omega
        have hlt64 : ((ks.length : Nat) : Int) ≤ 1000000000 := by omega
        obtain ⟨x, hxx⟩ : ∃ x, x = revAt ks i i := ⟨_, rfl⟩
        obtain ⟨y, hyy⟩ : ∃ y, y = revAt ks i (ks.length - 1 - i) := ⟨_, rfl⟩
        rw [← hxx] at p0
        rw [← hyy] at p1
        rw [← hxx] at r1
        rw [← hyy] at r2
        have R1 := hid r1; have R2 := hid r2; have R3 := hid r3; have R4 := hid r4
        have HB := hid hB; have HX := hid hx; have HL := hid hl; have HM := hid hm; have E1 := hid e1
        obtain ⟨j, hj⟩ : ∃ j, j = ks.length - 1 - i := ⟨_, rfl⟩
        obtain ⟨J, hJ⟩ : ∃ J : Int, J = (ks.length : Int) - 1 - i := ⟨_, rfl⟩
        rw [← hj] at p1 f1 e1 hne
        rw [← hJ] at e1 b0 b1 hlt ⊢
        have HJ := hid hj; have HJJ := hid hJ
        clear r1 r2 r3 r4 hB hx hl hm hxx hyy hj hii
        have hJ1 : -9000000000 ≤ J ∧ J ≤ 1000000000 := by omega
        obtain ⟨hJ2, hJ3⟩ := hJ1
        clear hJ
        have HR : Hid (RevInv ((wr.setCell ⟨g, i, none⟩ (.string y)).setCell ⟨g, j, none⟩ (.string x)).drew g 9 cap ks (i + 1)) := hid (by
          refine ⟨_, ((HB.out.set i (.string y)).set j (.string x)).drew, by rw [List.length_set, List.length_set]; exact HL.out, fun p hp => ?_⟩
          have hcl : cu.length = cap := HL.out
          have hje := HJ.out
          by_cases q1 : p = j
          · subst q1
            rw [List.getElem?_set_self (by rw [List.length_set]; omega), HJ.out, R4.out, ← R1.out]
          · rw [List.getElem?_set_ne (Ne.symm q1)]
            by_cases q2 : p = i
            · subst q2
              rw [List.getElem?_set_self (by omega), R3.out, ← R2.out]
            · rw [List.getElem?_set_ne (Ne.symm q2), HX.out p hp, rev_other hlt2 q2 (by omega) hp])
        have HM2 := hid (((HM.out.setCell (p := ⟨g, i, none⟩) (fun _ => HS.out) (.string y)).setCell (p := ⟨g, j, none⟩) (fun _ => HS.out) (.string x)).drew)
        clear HX
        go_wp2_with fail
        go_region
        go_wp2_with fail
        go_roundw
        case rel => exact ⟨i + 1, by omega, by go_num, congrArg (Value.int .i64) (by have := HJJ.out; omega), by omega, HM2.out, HR.out⟩
        case measure => simp [intOf]; omega
      · go_wp2
        go_end0
        refine ⟨rfl, hm, S, fun _ q => .inl q, ?_⟩
        have hl2 : ks.reverse.length = ks.length := List.length_reverse
        show Row wr S 9 1 _ ks.length ((ks.map Value.string).reverse)
        rw [← List.map_reverse]
        refine Row.mk HS.out hB hn (by unfold maxLen; omega) (by omega) ?_
        apply List.ext_getElem?
        intro p
        rw [List.getElem?_take, List.getElem?_map]
        split
        · rename_i hp
          rw [hx p (by omega), rev_done (i := i) (by omega) p (by omega)]; rfl
        · rw [List.getElem?_eq_none (by rw [hl2]; omega)]; rfl
end
end Go.Proofs.Ytjijjfdkghcjkaa
