/- errors.As, errors.Is, over what is owned apart. -/
import Derived.Test.YtnijaeipkbpibaaDoorErrs
import Derived.Test.YtnijaeipkbpibaaDoorErrsIs
import Derived.Test.YtnijaeipkbpibaaDoorSepH
set_option linter.unusedVariables false
namespace Go.Proofs.YtnijaeipkbpibaaDoor
open Go.RowKit Go.MapKept
/-- What the variable errors.errorType holds. -/
abbrev errT (w : World) : Prop := w.cell? ⟨0, 0, none⟩ = some (.iface 121 (.agg #[.pointer (some ⟨1, 30, none⟩)]))
theorem tri_as {w0 : World} (hw0 : errT w0) {e t : Nat} : Tri Tryd.prog 40 #[.iface 83 (pV e 0), .iface 85 (pV t 0)] [oldR w0, blkR t [.pointer none] 83] (Same [oldR w0, blkR t [pV e 0] 83] (bV true)) := by
  intro w own hH hO
  have h0 := hH 0 (oldR w0) rfl
  have h1 : BlkAt w (fun k => own k = 1 + 1) t [.pointer none] 83 := hH 1 (blkR t [.pointer none] 83) rfl
  refine (as_hit ⟨e, 0, none⟩ ⟨t, 0, none⟩ (.pointer none) w (oldR.cell h0 hw0) h1.c0 (h1.fr 0)).mono ?_
  rintro ev w' ⟨rfl, rfl⟩
  have M1 := ((((Mod.refl Nil w).alloc (.cells #[.pointer (some ⟨t, 0, none⟩)] 85)).alloc (.cells #[.pointer (some ⟨1, 85, none⟩), .pointer (some ⟨w.heap.size, 0, none⟩), .int .u64 150] 104)).alloc (.cells #[.pointer (some ⟨1, 85, none⟩), .pointer (some ⟨w.heap.size, 0, none⟩), .int .u64 150] 104)).alloc (.cells #[.pointer (some ⟨e, 0, none⟩)] 83)
  generalize ((((w.alloc (.cells #[.pointer (some ⟨t, 0, none⟩)] 85)).alloc (.cells #[.pointer (some ⟨1, 85, none⟩), .pointer (some ⟨w.heap.size, 0, none⟩), .int .u64 150] 104)).alloc (.cells #[.pointer (some ⟨1, 85, none⟩), .pointer (some ⟨w.heap.size, 0, none⟩), .int .u64 150] 104)).alloc (.cells #[.pointer (some ⟨e, 0, none⟩)] 83)) = W1 at M1 ⊢
  have b1 : BlkAt W1 (fun k => own k = 1 + 1) t [.pointer none] 83 := h1.move M1.size fun k hk hs => ⟨hs, M1.block k hk id⟩
  have M2 : Mod (fun k => k = t) w (W1.setCell ⟨t, 0, none⟩ (.pointer (some ⟨e, 0, none⟩))) := Mod.setCell (S := fun k => k = t) (p := ⟨t, 0, none⟩) (M1.mono fun _ _ q => q.elim) (fun _ => rfl) _
  refine ⟨_, rfl, [oldR w0, blkR t [pV e 0] 83], own, ⟨rfl, rfl⟩, fun i R hi => ?_, M2.mono fun k _ q => ?_, fun _ _ q => q⟩
  · match i, hi with
    | 0, hi => cases hi; exact (oldR w0).mov h0 M2.size fun k hk hs => ⟨hs, M2.block k hk fun q => by subst q; have := h1.2; omega⟩
    | 1, hi => cases hi; exact (blk_sets [pV e 0] 0 _ W1 b1).1
    | n + 2, hi => cases hi
  · subst q; rw [h1.2]; decide
theorem tri_is {pb : Nat} {x y : Value} {c d : Int} : Tri Tryd.prog 41 #[.iface 83 (pV pb 0), .iface 71 (iV d)] [blkR pb [x, y, .iface 71 (iV c)] 87] (Same [blkR pb [x, y, .iface 71 (iV c)] 87] (bV (decide (c = d)))) :=
  tri_same fun w own hH => by
    have h1 : BlkAt w (fun k => own k = 0 + 1) pb [x, y, .iface 71 (iV c)] 87 := hH 0 (blkR pb [x, y, .iface 71 (iV c)] 87) rfl
    exact (is_fault pb c d w h1.c2).mono fun e w' q => ⟨q.1, q.2.symm⟩
end Go.Proofs.YtnijaeipkbpibaaDoor
