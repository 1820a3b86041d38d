/- Keys' hashes: the reference's; what is sampled. -/
import Derived.Test.YthbffkdfahlpdaaHash
set_option linter.unusedVariables false
namespace Go.Proofs.Ythbffkdfahlpdaa
open Go.RowKit Go.MapKept

set_option maxHeartbeats 1600000 in
set_option maxRecDepth 100000 in
theorem ref02_Hash (key : ByteArray) (hk : key.size ≤ 1000000) (w : World) :
    Calls Try.prog 24 #[.string key] w fun e w' => e = .returned (.int .u64 (hashOf key : Nat)) ∧ w = w' := by
  have hks : key.size = key.data.toList.length := (Array.length_toList (xs := key.data)).symm
  have HKS := hid hks
  clear hks
  go_enter Try.func24, Try.ntmps24
  go_wp2_with fail
  go_loopw [3, 4] (fun vh vi wr => ∃ k : Nat, k ≤ key.size ∧ vi = .int .i64 k ∧ vh = .int .u64 (hfold (key.data.toList.take k) : Nat) ∧ wr = w) (fun _ vi _ => key.size - (intOf vi).toNat)
  case atStart => exact ⟨0, by omega, rfl, by rw [List.take_zero]; unfold hfold; rfl, rfl⟩
  case round =>
    obtain ⟨k, hk2, rfl, rfl, rfl⟩ := hrel
    have hlt64 := hfold_lt (key.data.toList.take k)
    by_cases hlt : k < key.size
    · have hs := hfold_snoc (l := key.data.toList) (k := k) (by rw [← HKS.out]; exact hlt)
      have HS := hid hs
      clear hs
      generalize hfold (key.data.toList.take k) = x at *
      have ht : Calls Try.prog 47 #[.int .u64 (bits .xor .u64 (x : Int) (IntKind.u64.wrap ((key[k]'hlt).toNat : Int))), .int .u64 1099511628211] wr fun e w' => e = .returned (.int .u64 (hstep x (key[k]'hlt) : Nat)) ∧ wr = w' := by
        rw [hxor_val hlt64, ← hstep_def]
        exact ref02_times _ 1099511628211 wr (xor_lt hlt64 (Nat.lt_trans (key[k]'hlt).toNat_lt (by decide))) (by decide)
      have HT := hid ht
      clear ht
      go_wp2_with fail
      with_reducible refine HT.out.mono ?_
      rintro e w' ⟨rfl, rfl⟩
      go_wp2
      go_roundw
      case rel => exact ⟨k + 1, by omega, by go_num, by rw [HS.out]; rfl, trivial⟩
      case measure => simp [intOf]; omega
    · have e : k = key.size := by omega
      have e2 : key.data.toList.take k = key.data.toList := by rw [e, HKS.out, List.take_length]
      rw [e2] at hlt64 ⊢
      clear e2
      have hh : hashOf key = hmix (hfold key.data.toList) ^^^ hmix (hfold key.data.toList) / 8589934592 := by unfold hashOf; rfl
      have HH := hid hh
      clear hh
      generalize hfold key.data.toList = x at *
      have ht : Calls Try.prog 47 #[.int .u64 (bits .xor .u64 (x : Int) ((x : Int) / 8589934592)), .int .u64 18397679294719823053] wr fun e w' => e = .returned (.int .u64 (hmix x : Nat)) ∧ wr = w' := by
        have e3 := xorShift_u64 x 8589934592 hlt64
        rw [show ((8589934592 : Nat) : Int) = 8589934592 from rfl] at e3
        rw [e3, ← hmix_def]
        exact ref02_times _ 18397679294719823053 wr (xor_lt hlt64 (Nat.lt_of_le_of_lt (Nat.div_le_self _ _) hlt64)) (by decide)
      have HT := hid ht
      have E2 := hid (xorShift_u64 (hmix x) 8589934592 (hmix_lt x))
      have hm := hmix_lt x
      clear ht
      go_wp2_with fail
      with_reducible refine HT.out.mono ?_
      rintro e w' ⟨rfl, rfl⟩
      go_wp2
      go_ret
      refine ⟨?_, rfl⟩
      show Ending.returned (.int .u64 _) = _
      rw [HH.out]
      exact congrArg (fun z => Ending.returned (Value.int .u64 z)) E2.out
end Go.Proofs.Ythbffkdfahlpdaa
