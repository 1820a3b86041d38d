/-
  No cell of these rows narrows 'for every input' (looked for: loops, veiled, ifaces, maps, wideKeys, modest, calm, conditions, laid).
  DERIVED. THE GIVEN ROWS OF THIS SEAT. 10 by the template 'for every input the law returns true; each argument reads behind the call as it read before'; 0 by the template 'total and deterministic' (their statements: YtnnjccfcalgokaaTotals.lean).
  GIVEN WITH THE SEED: the statements are not yours to turn. If you find one false, say at which input.
  Laid BY PROGRAM, IN A SANDBOX (cutbox-rows.mjs): the forced cells as the released guide's own fill.sh prints them over the translation 1f0fa12a0f5e7549… (all of the seat's roots in one cut). By AI agents, Wed Nov 11 2026. No macro, syntax, notation, axiom, sorry.
-/
import Derived.Test.YtnnjccfcalgokaaChecked
import GoSem.Claim
import GoSem.ClaimJoined
import GoSem.ClaimMapViews
import Derived.JoinedTies
import Derived.KernelRfl
namespace Go.Proofs.Ytnnjccfcalgokaa
/- THE CELL 'sum', in the pinned program and in every row, IS THE sha256 OF THE DUMP (.gsa) THAT YtnnjccfcalgokaaProg.lean LOADS. Nothing in Lean hashes anything: it is a label: what it is worth is what the hold of that sum in a sandbox is worth. -/
noncomputable def Try.pinned : Pinned := { name := "ytnnjccfcalgokaa", sum := "1f0fa12a0f5e7549f710e611eae5a7226e75b0fcfea3af17b1cf04c5ee92c884", checked := Try.checked }
namespace Rows
def none {H : Type} : Left H := { results := [], args := [] }

/-- 'cachewiselaw04.HeapPlays': WHATEVER THE INPUT: true; the input reads as it did. -/
def heapPlaysSpec : ChangeSpec := { name := "heapPlays", fn := fun _ => fun
  | [d] => { results := [.lit (.bool true)], args := [d] }
  | _ => none }
def heapPlaysRow : OpenClaim := { program := "ytnnjccfcalgokaa", sum := "1f0fa12a0f5e7549f710e611eae5a7226e75b0fcfea3af17b1cf04c5ee92c884", func := "cachewise/cachewiselaw04.HeapPlays", spec := "heapPlays", unfollowed := true, recurses := true, apart := false }
def HeapPlaysSaid : Prop := heapPlaysRow.holds Try.pinned (OpenSpec.ofChange heapPlaysSpec)

/-- ITS FALSE NEIGHBOUR: 'it returns false'. Refute it at one input. -/
def heapPlaysWrong : ChangeSpec := { name := "heapPlays", fn := fun _ => fun
  | [d] => { results := [.lit (.bool false)], args := [d] }
  | _ => none }
def HeapPlaysWrongFalsely : Prop := heapPlaysRow.holds Try.pinned (OpenSpec.ofChange heapPlaysWrong)

/-- 'cachewiselaw04.HeapPops': WHATEVER THE INPUT: true; the input reads as it did. -/
def heapPopsSpec : ChangeSpec := { name := "heapPops", fn := fun _ => fun
  | [d1, d2, d3, d4] => { results := [.lit (.bool true)], args := [d1, d2, d3, d4] }
  | _ => none }
def heapPopsRow : OpenClaim := { program := "ytnnjccfcalgokaa", sum := "1f0fa12a0f5e7549f710e611eae5a7226e75b0fcfea3af17b1cf04c5ee92c884", func := "cachewise/cachewiselaw04.HeapPops", spec := "heapPops", unfollowed := true, recurses := true, apart := false }
def HeapPopsSaid : Prop := heapPopsRow.holds Try.pinned (OpenSpec.ofChange heapPopsSpec)

/-- ITS FALSE NEIGHBOUR: 'it returns false'. Refute it at one input. -/
def heapPopsWrong : ChangeSpec := { name := "heapPops", fn := fun _ => fun
  | [d1, d2, d3, d4] => { results := [.lit (.bool false)], args := [d1, d2, d3, d4] }
  | _ => none }
def HeapPopsWrongFalsely : Prop := heapPopsRow.holds Try.pinned (OpenSpec.ofChange heapPopsWrong)

/-- 'cachewiselaw04.HeapTies': WHATEVER THE INPUT: true; the input reads as it did. -/
def heapTiesSpec : ChangeSpec := { name := "heapTies", fn := fun _ => fun
  | [d1, d2, d3] => { results := [.lit (.bool true)], args := [d1, d2, d3] }
  | _ => none }
def heapTiesRow : OpenClaim := { program := "ytnnjccfcalgokaa", sum := "1f0fa12a0f5e7549f710e611eae5a7226e75b0fcfea3af17b1cf04c5ee92c884", func := "cachewise/cachewiselaw04.HeapTies", spec := "heapTies", unfollowed := true, recurses := true, apart := false }
def HeapTiesSaid : Prop := heapTiesRow.holds Try.pinned (OpenSpec.ofChange heapTiesSpec)

/-- ITS FALSE NEIGHBOUR: 'it returns false'. Refute it at one input. -/
def heapTiesWrong : ChangeSpec := { name := "heapTies", fn := fun _ => fun
  | [d1, d2, d3] => { results := [.lit (.bool false)], args := [d1, d2, d3] }
  | _ => none }
def HeapTiesWrongFalsely : Prop := heapTiesRow.holds Try.pinned (OpenSpec.ofChange heapTiesWrong)

/-- 'cachewiselaw04.HeapRemoves': WHATEVER THE INPUT: true; the input reads as it did. -/
def heapRemovesSpec : ChangeSpec := { name := "heapRemoves", fn := fun _ => fun
  | [d1, d2] => { results := [.lit (.bool true)], args := [d1, d2] }
  | _ => none }
def heapRemovesRow : OpenClaim := { program := "ytnnjccfcalgokaa", sum := "1f0fa12a0f5e7549f710e611eae5a7226e75b0fcfea3af17b1cf04c5ee92c884", func := "cachewise/cachewiselaw04.HeapRemoves", spec := "heapRemoves", unfollowed := true, recurses := true, apart := false }
def HeapRemovesSaid : Prop := heapRemovesRow.holds Try.pinned (OpenSpec.ofChange heapRemovesSpec)

/-- ITS FALSE NEIGHBOUR: 'it returns false'. Refute it at one input. -/
def heapRemovesWrong : ChangeSpec := { name := "heapRemoves", fn := fun _ => fun
  | [d1, d2] => { results := [.lit (.bool false)], args := [d1, d2] }
  | _ => none }
def HeapRemovesWrongFalsely : Prop := heapRemovesRow.holds Try.pinned (OpenSpec.ofChange heapRemovesWrong)

/-- 'cachewiselaw04.HeapKinds': WHATEVER THE INPUT: true; the input reads as it did. -/
def heapKindsSpec : ChangeSpec := { name := "heapKinds", fn := fun _ => fun
  | [d] => { results := [.lit (.bool true)], args := [d] }
  | _ => none }
def heapKindsRow : OpenClaim := { program := "ytnnjccfcalgokaa", sum := "1f0fa12a0f5e7549f710e611eae5a7226e75b0fcfea3af17b1cf04c5ee92c884", func := "cachewise/cachewiselaw04.HeapKinds", spec := "heapKinds", unfollowed := true, recurses := true, apart := false }
def HeapKindsSaid : Prop := heapKindsRow.holds Try.pinned (OpenSpec.ofChange heapKindsSpec)

/-- ITS FALSE NEIGHBOUR: 'it returns false'. Refute it at one input. -/
def heapKindsWrong : ChangeSpec := { name := "heapKinds", fn := fun _ => fun
  | [d] => { results := [.lit (.bool false)], args := [d] }
  | _ => none }
def HeapKindsWrongFalsely : Prop := heapKindsRow.holds Try.pinned (OpenSpec.ofChange heapKindsWrong)

/-- 'cachewiselaw06.LfuFewest': WHATEVER THE INPUT: true; the input reads as it did. -/
def lfuFewestSpec : ChangeSpec := { name := "lfuFewest", fn := fun _ => fun
  | [d1, d2, d3] => { results := [.lit (.bool true)], args := [d1, d2, d3] }
  | _ => none }
def lfuFewestRow : OpenClaim := { program := "ytnnjccfcalgokaa", sum := "1f0fa12a0f5e7549f710e611eae5a7226e75b0fcfea3af17b1cf04c5ee92c884", func := "cachewise/cachewiselaw06.LfuFewest", spec := "lfuFewest", unfollowed := true, recurses := true, apart := false }
def LfuFewestSaid : Prop := lfuFewestRow.holds Try.pinned (OpenSpec.ofChange lfuFewestSpec)

/-- ITS FALSE NEIGHBOUR: 'it returns false'. Refute it at one input. -/
def lfuFewestWrong : ChangeSpec := { name := "lfuFewest", fn := fun _ => fun
  | [d1, d2, d3] => { results := [.lit (.bool false)], args := [d1, d2, d3] }
  | _ => none }
def LfuFewestWrongFalsely : Prop := lfuFewestRow.holds Try.pinned (OpenSpec.ofChange lfuFewestWrong)

/-- 'cachewiselaw06.LfuOnce': WHATEVER THE INPUT: true; the input reads as it did. -/
def lfuOnceSpec : ChangeSpec := { name := "lfuOnce", fn := fun _ => fun
  | [d1, d2] => { results := [.lit (.bool true)], args := [d1, d2] }
  | _ => none }
def lfuOnceRow : OpenClaim := { program := "ytnnjccfcalgokaa", sum := "1f0fa12a0f5e7549f710e611eae5a7226e75b0fcfea3af17b1cf04c5ee92c884", func := "cachewise/cachewiselaw06.LfuOnce", spec := "lfuOnce", unfollowed := true, recurses := true, apart := false }
def LfuOnceSaid : Prop := lfuOnceRow.holds Try.pinned (OpenSpec.ofChange lfuOnceSpec)

/-- ITS FALSE NEIGHBOUR: 'it returns false'. Refute it at one input. -/
def lfuOnceWrong : ChangeSpec := { name := "lfuOnce", fn := fun _ => fun
  | [d1, d2] => { results := [.lit (.bool false)], args := [d1, d2] }
  | _ => none }
def LfuOnceWrongFalsely : Prop := lfuOnceRow.holds Try.pinned (OpenSpec.ofChange lfuOnceWrong)

/-- 'cachewiselaw06.LfuAdopts': WHATEVER THE INPUT: true; the input reads as it did. -/
def lfuAdoptsSpec : ChangeSpec := { name := "lfuAdopts", fn := fun _ => fun
  | [d1, d2, d3, d4] => { results := [.lit (.bool true)], args := [d1, d2, d3, d4] }
  | _ => none }
def lfuAdoptsRow : OpenClaim := { program := "ytnnjccfcalgokaa", sum := "1f0fa12a0f5e7549f710e611eae5a7226e75b0fcfea3af17b1cf04c5ee92c884", func := "cachewise/cachewiselaw06.LfuAdopts", spec := "lfuAdopts", unfollowed := true, recurses := true, apart := false }
def LfuAdoptsSaid : Prop := lfuAdoptsRow.holds Try.pinned (OpenSpec.ofChange lfuAdoptsSpec)

/-- ITS FALSE NEIGHBOUR: 'it returns false'. Refute it at one input. -/
def lfuAdoptsWrong : ChangeSpec := { name := "lfuAdopts", fn := fun _ => fun
  | [d1, d2, d3, d4] => { results := [.lit (.bool false)], args := [d1, d2, d3, d4] }
  | _ => none }
def LfuAdoptsWrongFalsely : Prop := lfuAdoptsRow.holds Try.pinned (OpenSpec.ofChange lfuAdoptsWrong)

/-- 'cachewiselaw06.LfuPlays': WHATEVER THE INPUT: true; the input reads as it did. -/
def lfuPlaysSpec : ChangeSpec := { name := "lfuPlays", fn := fun _ => fun
  | [d1, d2, d3] => { results := [.lit (.bool true)], args := [d1, d2, d3] }
  | _ => none }
def lfuPlaysRow : OpenClaim := { program := "ytnnjccfcalgokaa", sum := "1f0fa12a0f5e7549f710e611eae5a7226e75b0fcfea3af17b1cf04c5ee92c884", func := "cachewise/cachewiselaw06.LfuPlays", spec := "lfuPlays", unfollowed := true, recurses := true, apart := false }
def LfuPlaysSaid : Prop := lfuPlaysRow.holds Try.pinned (OpenSpec.ofChange lfuPlaysSpec)

/-- ITS FALSE NEIGHBOUR: 'it returns false'. Refute it at one input. -/
def lfuPlaysWrong : ChangeSpec := { name := "lfuPlays", fn := fun _ => fun
  | [d1, d2, d3] => { results := [.lit (.bool false)], args := [d1, d2, d3] }
  | _ => none }
def LfuPlaysWrongFalsely : Prop := lfuPlaysRow.holds Try.pinned (OpenSpec.ofChange lfuPlaysWrong)

/-- 'cachewiselaw06.LfuOrder': WHATEVER THE INPUT: true; the input reads as it did. -/
def lfuOrderSpec : ChangeSpec := { name := "lfuOrder", fn := fun _ => fun
  | [d1, d2, d3, d4] => { results := [.lit (.bool true)], args := [d1, d2, d3, d4] }
  | _ => none }
def lfuOrderRow : OpenClaim := { program := "ytnnjccfcalgokaa", sum := "1f0fa12a0f5e7549f710e611eae5a7226e75b0fcfea3af17b1cf04c5ee92c884", func := "cachewise/cachewiselaw06.LfuOrder", spec := "lfuOrder", unfollowed := true, recurses := true, apart := false }
def LfuOrderSaid : Prop := lfuOrderRow.holds Try.pinned (OpenSpec.ofChange lfuOrderSpec)

/-- ITS FALSE NEIGHBOUR: 'it returns false'. Refute it at one input. -/
def lfuOrderWrong : ChangeSpec := { name := "lfuOrder", fn := fun _ => fun
  | [d1, d2, d3, d4] => { results := [.lit (.bool false)], args := [d1, d2, d3, d4] }
  | _ => none }
def LfuOrderWrongFalsely : Prop := lfuOrderRow.holds Try.pinned (OpenSpec.ofChange lfuOrderWrong)

/- THE SECOND FORM. 'bulk': how many values and letters a reading holds, each counted each time it is reached (what is shared counts as often as it is met; a slice's spare places count too). A statement '..UptoSaid' is the law's where the arguments, and the package variables that the reading takes, are together of bulk at most 1048576: NARROWER than '..Said'. Prove '..Said' where nothing that the law and all that it calls make is longer than what came in: it says more and counts as full. Else prove '..UptoSaid'. A law counts once. -/
mutual
def uptoBulk {H : Type} : DataW H → Nat
  | .lit (.string bytes) => bytes.length + 1
  | .lit _ => 1
  | .nil => 1
  | .ptr d => uptoBulk d + 1
  | .slice elems spare => uptoBulkAll elems + uptoBulkAll spare + 1
  | .agg parts => uptoBulkAll parts + 1
  | .iface _ d => uptoBulk d + 1
  | .map entries => uptoBulkEntries entries + 1
  | .held _ => 1
def uptoBulkAll {H : Type} : List (DataW H) → Nat
  | [] => 0
  | d :: r => uptoBulk d + uptoBulkAll r
def uptoBulkEntries {H : Type} : List (Lit × DataW H) → Nat
  | [] => 0
  | x :: r => uptoBulkEntry x + uptoBulkEntries r
def uptoBulkEntry {H : Type} : Lit × DataW H → Nat
  | (.string bytes, d) => bytes.length + uptoBulk d + 1
  | (_, d) => uptoBulk d + 1
 end
def uptoSmall : (H : Type) → List (DataW H) → Bool := fun _ ds => decide (uptoBulkAll ds ≤ 1048576)
def OpenSpec.upto (s : _root_.Go.ChangeSpec) : _root_.Go.OpenSpec := { _root_.Go.OpenSpec.ofChange s with cond := some uptoSmall }

/-- 'cachewiselaw04.HeapPlays', WHERE WHAT IT READS IS OF BULK AT MOST 1048576: true; the input reads as it did. -/
def heapPlaysUptoRow : OpenClaim := { program := "ytnnjccfcalgokaa", sum := "1f0fa12a0f5e7549f710e611eae5a7226e75b0fcfea3af17b1cf04c5ee92c884", func := "cachewise/cachewiselaw04.HeapPlays", spec := "heapPlays", unfollowed := true, recurses := true, apart := false, narrowed := true }
def HeapPlaysUptoSaid : Prop := heapPlaysUptoRow.holds Try.pinned (OpenSpec.upto heapPlaysSpec)

/-- 'cachewiselaw04.HeapPops', WHERE WHAT IT READS IS OF BULK AT MOST 1048576: true; the input reads as it did. -/
def heapPopsUptoRow : OpenClaim := { program := "ytnnjccfcalgokaa", sum := "1f0fa12a0f5e7549f710e611eae5a7226e75b0fcfea3af17b1cf04c5ee92c884", func := "cachewise/cachewiselaw04.HeapPops", spec := "heapPops", unfollowed := true, recurses := true, apart := false, narrowed := true }
def HeapPopsUptoSaid : Prop := heapPopsUptoRow.holds Try.pinned (OpenSpec.upto heapPopsSpec)

/-- 'cachewiselaw04.HeapTies', WHERE WHAT IT READS IS OF BULK AT MOST 1048576: true; the input reads as it did. -/
def heapTiesUptoRow : OpenClaim := { program := "ytnnjccfcalgokaa", sum := "1f0fa12a0f5e7549f710e611eae5a7226e75b0fcfea3af17b1cf04c5ee92c884", func := "cachewise/cachewiselaw04.HeapTies", spec := "heapTies", unfollowed := true, recurses := true, apart := false, narrowed := true }
def HeapTiesUptoSaid : Prop := heapTiesUptoRow.holds Try.pinned (OpenSpec.upto heapTiesSpec)

/-- 'cachewiselaw04.HeapRemoves', WHERE WHAT IT READS IS OF BULK AT MOST 1048576: true; the input reads as it did. -/
def heapRemovesUptoRow : OpenClaim := { program := "ytnnjccfcalgokaa", sum := "1f0fa12a0f5e7549f710e611eae5a7226e75b0fcfea3af17b1cf04c5ee92c884", func := "cachewise/cachewiselaw04.HeapRemoves", spec := "heapRemoves", unfollowed := true, recurses := true, apart := false, narrowed := true }
def HeapRemovesUptoSaid : Prop := heapRemovesUptoRow.holds Try.pinned (OpenSpec.upto heapRemovesSpec)

/-- 'cachewiselaw04.HeapKinds', WHERE WHAT IT READS IS OF BULK AT MOST 1048576: true; the input reads as it did. -/
def heapKindsUptoRow : OpenClaim := { program := "ytnnjccfcalgokaa", sum := "1f0fa12a0f5e7549f710e611eae5a7226e75b0fcfea3af17b1cf04c5ee92c884", func := "cachewise/cachewiselaw04.HeapKinds", spec := "heapKinds", unfollowed := true, recurses := true, apart := false, narrowed := true }
def HeapKindsUptoSaid : Prop := heapKindsUptoRow.holds Try.pinned (OpenSpec.upto heapKindsSpec)

/-- 'cachewiselaw06.LfuFewest', WHERE WHAT IT READS IS OF BULK AT MOST 1048576: true; the input reads as it did. -/
def lfuFewestUptoRow : OpenClaim := { program := "ytnnjccfcalgokaa", sum := "1f0fa12a0f5e7549f710e611eae5a7226e75b0fcfea3af17b1cf04c5ee92c884", func := "cachewise/cachewiselaw06.LfuFewest", spec := "lfuFewest", unfollowed := true, recurses := true, apart := false, narrowed := true }
def LfuFewestUptoSaid : Prop := lfuFewestUptoRow.holds Try.pinned (OpenSpec.upto lfuFewestSpec)

/-- 'cachewiselaw06.LfuOnce', WHERE WHAT IT READS IS OF BULK AT MOST 1048576: true; the input reads as it did. -/
def lfuOnceUptoRow : OpenClaim := { program := "ytnnjccfcalgokaa", sum := "1f0fa12a0f5e7549f710e611eae5a7226e75b0fcfea3af17b1cf04c5ee92c884", func := "cachewise/cachewiselaw06.LfuOnce", spec := "lfuOnce", unfollowed := true, recurses := true, apart := false, narrowed := true }
def LfuOnceUptoSaid : Prop := lfuOnceUptoRow.holds Try.pinned (OpenSpec.upto lfuOnceSpec)

/-- 'cachewiselaw06.LfuAdopts', WHERE WHAT IT READS IS OF BULK AT MOST 1048576: true; the input reads as it did. -/
def lfuAdoptsUptoRow : OpenClaim := { program := "ytnnjccfcalgokaa", sum := "1f0fa12a0f5e7549f710e611eae5a7226e75b0fcfea3af17b1cf04c5ee92c884", func := "cachewise/cachewiselaw06.LfuAdopts", spec := "lfuAdopts", unfollowed := true, recurses := true, apart := false, narrowed := true }
def LfuAdoptsUptoSaid : Prop := lfuAdoptsUptoRow.holds Try.pinned (OpenSpec.upto lfuAdoptsSpec)

/-- 'cachewiselaw06.LfuPlays', WHERE WHAT IT READS IS OF BULK AT MOST 1048576: true; the input reads as it did. -/
def lfuPlaysUptoRow : OpenClaim := { program := "ytnnjccfcalgokaa", sum := "1f0fa12a0f5e7549f710e611eae5a7226e75b0fcfea3af17b1cf04c5ee92c884", func := "cachewise/cachewiselaw06.LfuPlays", spec := "lfuPlays", unfollowed := true, recurses := true, apart := false, narrowed := true }
def LfuPlaysUptoSaid : Prop := lfuPlaysUptoRow.holds Try.pinned (OpenSpec.upto lfuPlaysSpec)

/-- 'cachewiselaw06.LfuOrder', WHERE WHAT IT READS IS OF BULK AT MOST 1048576: true; the input reads as it did. -/
def lfuOrderUptoRow : OpenClaim := { program := "ytnnjccfcalgokaa", sum := "1f0fa12a0f5e7549f710e611eae5a7226e75b0fcfea3af17b1cf04c5ee92c884", func := "cachewise/cachewiselaw06.LfuOrder", spec := "lfuOrder", unfollowed := true, recurses := true, apart := false, narrowed := true }
def LfuOrderUptoSaid : Prop := lfuOrderUptoRow.holds Try.pinned (OpenSpec.upto lfuOrderSpec)

end Rows
end Go.Proofs.Ytnnjccfcalgokaa
