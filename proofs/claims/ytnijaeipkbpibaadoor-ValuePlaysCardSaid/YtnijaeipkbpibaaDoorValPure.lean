/- Package value: plain facts. -/
import Derived.Test.YtnijaeipkbpibaaDoorValW
set_option linter.unusedVariables false
namespace Go.Proofs.YtnijaeipkbpibaaDoor
open Go.RowKit Go.MapKept
theorem size_ne {k : ByteArray} (h : ¬ (k.size : Int) = 0) : k ≠ ⟨#[]⟩ := fun q => h (by rw [q]; rfl)
theorem rightC_of {k v : ByteArray} {d : Int} (h0 : ¬ (k.size : Int) = 0) (h1 : (k.size : Int) ≤ 64) (h2 : (v.size : Int) ≤ 256) (h3 : 0 ≤ d) : rightC k v d = 0 := by
  unfold rightC; rw [if_neg (size_ne h0), if_neg (by omega), if_neg (by omega), if_neg (by omega)]
theorem ItB_nil : ItB [] := fun y h => by simp at h
theorem ItB_one {k v : ByteArray} {d : Int} (h1 : (k.size : Int) ≤ 64) (h2 : (v.size : Int) ≤ 256) : ItB [(k, (k, v, d))] := fun y h => by simp at h; subst h; exact ⟨rfl, h1, h2⟩
theorem EndsIn_nil {M : List (ByteArray × It)} : EndsIn M [] := fun y h => by simp at h
theorem EndsIn_one {k v : ByteArray} {d : Int} : EndsIn [(k, (k, v, d))] [(k, d, 0)] := fun y h => by simp at h; subst h; simp [lk]
variable {k v : ByteArray} {d n : Int}
theorem put0 : valPut [] [] 0 k v 0 = ([(k, (k, v, 0))], [], (k.size : Int) + (v.size : Int)) := by simp [valPut, valDel, lk, put]
theorem putD (h : 0 < d) : valPut [] [] 0 k v d = ([(k, (k, v, d))], [(k, d, 0)], (k.size : Int) + (v.size : Int)) := by
  have h2 : d > 0 := h
  simp [valPut, valDel, lk, put, hset, hrem, hins, h2]
theorem putR (h : 0 < d) : valPut [(k, (k, v, d))] [(k, d, 0)] ((k.size : Int) + (v.size : Int)) k v 0 = ([(k, (k, v, 0))], [], (k.size : Int) + (v.size : Int)) := by
  simp [valPut, valDel, lk, put, del, hrem]
theorem get_one (h : 0 < d) : getOk [(k, (k, v, d))] k n ↔ n < d := by
  unfold getOk; simp [lk]; omega
theorem get_one0 : getOk [(k, (k, v, 0))] k n := by
  unfold getOk; simp [lk]
theorem exp0 {M : List (ByteArray × It)} {y : Int} : valExp M [] y n = (M, [], y, []) := rfl
theorem expHit (h : d ≤ n) : valExp [(k, (k, v, d))] [(k, d, 0)] ((k.size : Int) + (v.size : Int)) n = ([], [], 0, [k]) := by
  unfold valExp
  show valExpN 1 _ _ _ _ = _
  rw [valExpN, if_pos ⟨by simp, h⟩]
  simp [valExpN, valDel, htop, lk, del, hrem]
theorem expMiss (h : n < d) {y : Int} {M : List (ByteArray × It)} : valExp M [(k, d, 0)] y n = (M, [(k, d, 0)], y, []) := by
  unfold valExp
  show valExpN 1 _ _ _ _ = _
  rw [valExpN, if_neg (fun q => by have := q.2; simp only [htop, List.headD_cons] at this; omega)]
end Go.Proofs.YtnijaeipkbpibaaDoor
