/- Keys' hashes: of package draw, and of the reference. -/
import Derived.Test.YthbffkdfahlpdaaTapeB
import Derived.Test.YthbffkdfahlpdaaHashA
import Derived.Laws.Bits64
import Derived.Laws.IdiomStrings
set_option linter.unusedVariables false
namespace Go.Proofs.Ythbffkdfahlpdaa
open Go.RowKit Go.MapKept

theorem cell_new (w : World) (C : Array Value) (T : Nat) (fr : Nat × Nat) (j : Nat) : (w.alloc (.cells C T fr)).drew.cell? ⟨w.heap.size, j, none⟩ = C[j]? := by
  have h : (w.alloc (.cells C T fr)).drew.heap[w.heap.size]? = some (.cells C T fr) := by
    show (w.heap.push _)[w.heap.size]? = _
    simp
  simp only [World.cell?, h]
  rfl

set_option maxHeartbeats 1600000 in
set_option maxRecDepth 100000 in
theorem draw_Hash (key : ByteArray) (hk : key.size ≤ 1000000) (w : World) :
    Calls Try.prog 23 #[.string key] w fun e w' => e = .returned (.int .u64 (hashOf key : Nat)) ∧ Mod Nil w w' := by
  have kc := fun w : World => run_bytes_of_string (P := Try.prog) w 9 73 5 key Try.underlying9 Try.underlying73 Try.underlying5
  go_enter Try.func23, Try.ntmps23
  go_wp2_with fail
  clear kc
  have hcell : ∀ W : World, W = (w.alloc (.cells (bytesRow key (grownCap w key.size 0 5)) 5 ((bytesRow key (grownCap w key.size 0 5)).size, (bytesRow key (grownCap w key.size 0 5)).size + 1))).drew →
      ∀ j (hj : j < key.data.size), W.cell? ⟨w.heap.size, j, none⟩ = some (.int .u8 (key.data[j].toNat : Int)) := by
    rintro W rfl j hj
    rw [← bytesRow_at key (grownCap w key.size 0 5) j hj]
    exact cell_new _ _ _ _ _
  have hmod : ∀ W : World, W = (w.alloc (.cells (bytesRow key (grownCap w key.size 0 5)) 5 ((bytesRow key (grownCap w key.size 0 5)).size, (bytesRow key (grownCap w key.size 0 5)).size + 1))).drew → Mod Nil w W := by
    rintro W rfl
    exact ((Mod.refl _ _).alloc _).drew
  generalize (w.alloc (.cells (bytesRow key (grownCap w key.size 0 5)) 5 ((bytesRow key (grownCap w key.size 0 5)).size, (bytesRow key (grownCap w key.size 0 5)).size + 1))).drew = W at hcell hmod ⊢
  have HC := hid (hcell W rfl); have HM := hid (hmod W rfl)
  clear hcell hmod
  have hks : key.size = key.data.toList.length := (Array.length_toList (xs := key.data)).symm
  have HKS := hid hks
  have hi0 := hfold_lt []
  go_loopw [3, 9] (fun vh vi wr => ∃ k : Nat, k ≤ key.size ∧ vi = .int .i64 k ∧ vh = .int .u64 (hfold (key.data.toList.take k) : Nat) ∧ wr = W) (fun _ vi _ => key.size - (intOf vi).toNat)
  case atStart => exact ⟨0, by omega, rfl, by rw [List.take_zero]; unfold hfold; rfl, rfl⟩
  case round =>
    obtain ⟨k, hk2, rfl, rfl, rfl⟩ := hrel
    have hlt64 := hfold_lt (key.data.toList.take k)
    by_cases hlt : k < key.size
    · have p0 := HC.out k hlt
      have hs := hfold_snoc (l := key.data.toList) (k := k) (by rw [← HKS.out]; exact hlt)
      have HS := hid hs
      clear hs hks hi0
      generalize hfold (key.data.toList.take k) = x at *
      obtain ⟨c, hc⟩ : ∃ c, c = key.data.toList[k]'(by rw [← HKS.out]; exact hlt) := ⟨_, rfl⟩
      have hc2 : key.data[k]'hlt = c := by rw [hc, Array.getElem_toList]
      rw [hc2] at p0
      have HS2 : Hid (hfold (key.data.toList.take (k + 1)) = hstep x c) := by rw [hc]; exact HS
      clear hc hc2 HS
      go_wp2_with fail
      go_roundw
      case rel => exact ⟨k + 1, by omega, by go_num, by rw [HS2.out, hstep_val hlt64], trivial⟩
      case measure => simp [intOf]; omega
    · have e : k = key.size := by omega
      have e2 : key.data.toList.take k = key.data.toList := by rw [e, HKS.out, List.take_length]
      rw [e2] at hlt64 ⊢
      clear e2 hks hi0
      have hh : hashOf key = hmix (hfold key.data.toList) ^^^ hmix (hfold key.data.toList) / 8589934592 := by unfold hashOf; rfl
      have HH := hid hh
      clear hh
      generalize hfold key.data.toList = x at *
      have E1 := hid (hmix_val hlt64)
      have E2 := hid (xorShift_u64 (hmix x) 8589934592 (hmix_lt x))
      go_wp2
      go_ret
      refine ⟨?_, HM.out⟩
      show Ending.returned (.int .u64 _) = _
      rw [E1.out, HH.out]
      exact congrArg (fun z => Ending.returned (Value.int .u64 z)) E2.out

set_option maxHeartbeats 1600000 in
set_option maxRecDepth 100000 in
theorem ref02_times (a b : Nat) (w : World) (ha : a < 18446744073709551616) (hb : b < 18446744073709551616) :
    Calls Try.prog 47 #[.int .u64 a, .int .u64 b] w fun e w' => e = .returned (.int .u64 ((a * b % 18446744073709551616 : Nat) : Int)) ∧ w = w' := by
  go_enter Try.func47, Try.ntmps47
  go_wp2_with fail
  go_loopw [0, 1, 5] (fun va vb vp wr => ∃ x y p : Nat, va = .int .u64 x ∧ vb = .int .u64 y ∧ vp = .int .u64 p ∧ x < 18446744073709551616 ∧ y < 18446744073709551616 ∧ p < 18446744073709551616 ∧ (p + x * y) % 18446744073709551616 = a * b % 18446744073709551616 ∧ wr = w) (fun _ vb _ _ => (intOf vb).toNat)
  case atStart => exact ⟨a, b, 0, rfl, rfl, rfl, ha, hb, by omega, by rw [Nat.zero_add], rfl⟩
  case round =>
    obtain ⟨x, y, p, rfl, rfl, rfl, hx, hy, hp, hq, rfl⟩ := hrel
    have HQ := hid hq
    clear hq
    have e2 : ((x : Int) + x) % 18446744073709551616 = (((x + x) % 18446744073709551616 : Nat) : Int) := by omega
    have e3 : ((p : Int) + x) % 18446744073709551616 = (((p + x) % 18446744073709551616 : Nat) : Int) := by omega
    have E2 := hid e2; have E3 := hid e3
    clear e2 e3
    by_cases h0 : 0 < y
    · by_cases h1 : y % 2 = 1
      · go_wp2_with fail
        go_roundw
        case rel => exact ⟨(x + x) % 18446744073709551616, y / 2, (p + x) % 18446744073709551616, by rw [IntKind.wrap_u64, E2.out], rfl, by rw [IntKind.wrap_u64, E3.out], Nat.mod_lt _ big_pos, by omega, Nat.mod_lt _ big_pos, (times_odd _ h1).trans HQ.out, trivial⟩
        case measure => simp [intOf]; omega
      · go_wp2_with fail
        go_roundw
        case rel => exact ⟨(x + x) % 18446744073709551616, y / 2, p, by rw [IntKind.wrap_u64, E2.out], rfl, rfl, Nat.mod_lt _ big_pos, by omega, hp, (times_even _ hp h1).trans HQ.out, trivial⟩
        case measure => simp [intOf]; omega
    · have : y = 0 := by omega
      subst this
      go_wp2
      go_ret
      refine ⟨?_, rfl⟩
      have := HQ.out
      rw [Nat.mul_zero, Nat.add_zero, Nat.mod_eq_of_lt hp] at this
      exact ret_int (congrArg _ this)
end Go.Proofs.Ythbffkdfahlpdaa
