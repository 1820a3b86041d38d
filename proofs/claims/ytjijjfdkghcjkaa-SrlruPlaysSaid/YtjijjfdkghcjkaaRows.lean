/-
  No cell of these rows narrows 'for every input' (looked for: loops, veiled, ifaces, maps, wideKeys, modest, calm, conditions, laid).
  DERIVED. THE GIVEN ROWS OF THIS SEAT. 11 by the template 'for every input the law returns true; each argument reads behind the call as it read before'; 0 by the template 'total and deterministic' (their statements: YtjijjfdkghcjkaaTotals.lean).
  GIVEN WITH THE SEED: the statements are not yours to turn. If you find one false, say at which input.
  Laid BY PROGRAM, IN A SANDBOX (cutbox-rows.mjs): the forced cells as the released guide's own fill.sh prints them over the translation 2aefed4694835ec7… (all of the seat's roots in one cut). By AI agents, Wed Nov 11 2026. No macro, syntax, notation, axiom, sorry.
-/
import Derived.Test.YtjijjfdkghcjkaaChecked
import GoSem.Claim
import GoSem.ClaimJoined
import GoSem.ClaimMapViews
import Derived.JoinedTies
import Derived.KernelRfl
namespace Go.Proofs.Ytjijjfdkghcjkaa
/- THE CELL 'sum', in the pinned program and in every row, IS THE sha256 OF THE DUMP (.gsa) THAT YtjijjfdkghcjkaaProg.lean LOADS. Nothing in Lean hashes anything: it is a label: what it is worth is what the hold of that sum in a sandbox is worth. -/
noncomputable def Try.pinned : Pinned := { name := "ytjijjfdkghcjkaa", sum := "2aefed4694835ec76d89617592dbb70e1c630c0648d697d69c76479641f075fa", checked := Try.checked }
namespace Rows
def none {H : Type} : Left H := { results := [], args := [] }

/-- 'cachewiselaw05.LruStack': WHATEVER THE INPUT: true; the input reads as it did. -/
def lruStackSpec : ChangeSpec := { name := "lruStack", fn := fun _ => fun
  | [d1, d2, d3] => { results := [.lit (.bool true)], args := [d1, d2, d3] }
  | _ => none }
def lruStackRow : OpenClaim := { program := "ytjijjfdkghcjkaa", sum := "2aefed4694835ec76d89617592dbb70e1c630c0648d697d69c76479641f075fa", func := "cachewise/cachewiselaw05.LruStack", spec := "lruStack", unfollowed := true, recurses := true, apart := false }
def LruStackSaid : Prop := lruStackRow.holds Try.pinned (OpenSpec.ofChange lruStackSpec)

/-- ITS FALSE NEIGHBOUR: 'it returns false'. Refute it at one input. -/
def lruStackWrong : ChangeSpec := { name := "lruStack", fn := fun _ => fun
  | [d1, d2, d3] => { results := [.lit (.bool false)], args := [d1, d2, d3] }
  | _ => none }
def LruStackWrongFalsely : Prop := lruStackRow.holds Try.pinned (OpenSpec.ofChange lruStackWrong)

/-- 'cachewiselaw05.LruRecent': WHATEVER THE INPUT: true; the input reads as it did. -/
def lruRecentSpec : ChangeSpec := { name := "lruRecent", fn := fun _ => fun
  | [d1, d2] => { results := [.lit (.bool true)], args := [d1, d2] }
  | _ => none }
def lruRecentRow : OpenClaim := { program := "ytjijjfdkghcjkaa", sum := "2aefed4694835ec76d89617592dbb70e1c630c0648d697d69c76479641f075fa", func := "cachewise/cachewiselaw05.LruRecent", spec := "lruRecent", unfollowed := true, recurses := true, apart := false }
def LruRecentSaid : Prop := lruRecentRow.holds Try.pinned (OpenSpec.ofChange lruRecentSpec)

/-- ITS FALSE NEIGHBOUR: 'it returns false'. Refute it at one input. -/
def lruRecentWrong : ChangeSpec := { name := "lruRecent", fn := fun _ => fun
  | [d1, d2] => { results := [.lit (.bool false)], args := [d1, d2] }
  | _ => none }
def LruRecentWrongFalsely : Prop := lruRecentRow.holds Try.pinned (OpenSpec.ofChange lruRecentWrong)

/-- 'cachewiselaw05.LruResizes': WHATEVER THE INPUT: true; the input reads as it did. -/
def lruResizesSpec : ChangeSpec := { name := "lruResizes", fn := fun _ => fun
  | [d1, d2, d3] => { results := [.lit (.bool true)], args := [d1, d2, d3] }
  | _ => none }
def lruResizesRow : OpenClaim := { program := "ytjijjfdkghcjkaa", sum := "2aefed4694835ec76d89617592dbb70e1c630c0648d697d69c76479641f075fa", func := "cachewise/cachewiselaw05.LruResizes", spec := "lruResizes", unfollowed := true, recurses := true, apart := false }
def LruResizesSaid : Prop := lruResizesRow.holds Try.pinned (OpenSpec.ofChange lruResizesSpec)

/-- ITS FALSE NEIGHBOUR: 'it returns false'. Refute it at one input. -/
def lruResizesWrong : ChangeSpec := { name := "lruResizes", fn := fun _ => fun
  | [d1, d2, d3] => { results := [.lit (.bool false)], args := [d1, d2, d3] }
  | _ => none }
def LruResizesWrongFalsely : Prop := lruResizesRow.holds Try.pinned (OpenSpec.ofChange lruResizesWrong)

/-- 'cachewiselaw05.LruAdopts': WHATEVER THE INPUT: true; the input reads as it did. -/
def lruAdoptsSpec : ChangeSpec := { name := "lruAdopts", fn := fun _ => fun
  | [d1, d2, d3] => { results := [.lit (.bool true)], args := [d1, d2, d3] }
  | _ => none }
def lruAdoptsRow : OpenClaim := { program := "ytjijjfdkghcjkaa", sum := "2aefed4694835ec76d89617592dbb70e1c630c0648d697d69c76479641f075fa", func := "cachewise/cachewiselaw05.LruAdopts", spec := "lruAdopts", unfollowed := true, recurses := true, apart := false }
def LruAdoptsSaid : Prop := lruAdoptsRow.holds Try.pinned (OpenSpec.ofChange lruAdoptsSpec)

/-- ITS FALSE NEIGHBOUR: 'it returns false'. Refute it at one input. -/
def lruAdoptsWrong : ChangeSpec := { name := "lruAdopts", fn := fun _ => fun
  | [d1, d2, d3] => { results := [.lit (.bool false)], args := [d1, d2, d3] }
  | _ => none }
def LruAdoptsWrongFalsely : Prop := lruAdoptsRow.holds Try.pinned (OpenSpec.ofChange lruAdoptsWrong)

/-- 'cachewiselaw05.LruPlays': WHATEVER THE INPUT: true; the input reads as it did. -/
def lruPlaysSpec : ChangeSpec := { name := "lruPlays", fn := fun _ => fun
  | [d1, d2] => { results := [.lit (.bool true)], args := [d1, d2] }
  | _ => none }
def lruPlaysRow : OpenClaim := { program := "ytjijjfdkghcjkaa", sum := "2aefed4694835ec76d89617592dbb70e1c630c0648d697d69c76479641f075fa", func := "cachewise/cachewiselaw05.LruPlays", spec := "lruPlays", unfollowed := true, recurses := true, apart := false }
def LruPlaysSaid : Prop := lruPlaysRow.holds Try.pinned (OpenSpec.ofChange lruPlaysSpec)

/-- ITS FALSE NEIGHBOUR: 'it returns false'. Refute it at one input. -/
def lruPlaysWrong : ChangeSpec := { name := "lruPlays", fn := fun _ => fun
  | [d1, d2] => { results := [.lit (.bool false)], args := [d1, d2] }
  | _ => none }
def LruPlaysWrongFalsely : Prop := lruPlaysRow.holds Try.pinned (OpenSpec.ofChange lruPlaysWrong)

/-- 'cachewiselaw05.LruDrops': WHATEVER THE INPUT: true; the input reads as it did. -/
def lruDropsSpec : ChangeSpec := { name := "lruDrops", fn := fun _ => fun
  | [d1, d2, d3] => { results := [.lit (.bool true)], args := [d1, d2, d3] }
  | _ => none }
def lruDropsRow : OpenClaim := { program := "ytjijjfdkghcjkaa", sum := "2aefed4694835ec76d89617592dbb70e1c630c0648d697d69c76479641f075fa", func := "cachewise/cachewiselaw05.LruDrops", spec := "lruDrops", unfollowed := true, recurses := true, apart := false }
def LruDropsSaid : Prop := lruDropsRow.holds Try.pinned (OpenSpec.ofChange lruDropsSpec)

/-- ITS FALSE NEIGHBOUR: 'it returns false'. Refute it at one input. -/
def lruDropsWrong : ChangeSpec := { name := "lruDrops", fn := fun _ => fun
  | [d1, d2, d3] => { results := [.lit (.bool false)], args := [d1, d2, d3] }
  | _ => none }
def LruDropsWrongFalsely : Prop := lruDropsRow.holds Try.pinned (OpenSpec.ofChange lruDropsWrong)

/-- 'cachewiselaw07.SrlruScan': WHATEVER THE INPUT: true; the input reads as it did. -/
def srlruScanSpec : ChangeSpec := { name := "srlruScan", fn := fun _ => fun
  | [d1, d2, d3] => { results := [.lit (.bool true)], args := [d1, d2, d3] }
  | _ => none }
def srlruScanRow : OpenClaim := { program := "ytjijjfdkghcjkaa", sum := "2aefed4694835ec76d89617592dbb70e1c630c0648d697d69c76479641f075fa", func := "cachewise/cachewiselaw07.SrlruScan", spec := "srlruScan", unfollowed := true, recurses := true, apart := false }
def SrlruScanSaid : Prop := srlruScanRow.holds Try.pinned (OpenSpec.ofChange srlruScanSpec)

/-- ITS FALSE NEIGHBOUR: 'it returns false'. Refute it at one input. -/
def srlruScanWrong : ChangeSpec := { name := "srlruScan", fn := fun _ => fun
  | [d1, d2, d3] => { results := [.lit (.bool false)], args := [d1, d2, d3] }
  | _ => none }
def SrlruScanWrongFalsely : Prop := srlruScanRow.holds Try.pinned (OpenSpec.ofChange srlruScanWrong)

/-- 'cachewiselaw07.SrlruOnce': WHATEVER THE INPUT: true; the input reads as it did. -/
def srlruOnceSpec : ChangeSpec := { name := "srlruOnce", fn := fun _ => fun
  | [d1, d2] => { results := [.lit (.bool true)], args := [d1, d2] }
  | _ => none }
def srlruOnceRow : OpenClaim := { program := "ytjijjfdkghcjkaa", sum := "2aefed4694835ec76d89617592dbb70e1c630c0648d697d69c76479641f075fa", func := "cachewise/cachewiselaw07.SrlruOnce", spec := "srlruOnce", unfollowed := true, recurses := true, apart := false }
def SrlruOnceSaid : Prop := srlruOnceRow.holds Try.pinned (OpenSpec.ofChange srlruOnceSpec)

/-- ITS FALSE NEIGHBOUR: 'it returns false'. Refute it at one input. -/
def srlruOnceWrong : ChangeSpec := { name := "srlruOnce", fn := fun _ => fun
  | [d1, d2] => { results := [.lit (.bool false)], args := [d1, d2] }
  | _ => none }
def SrlruOnceWrongFalsely : Prop := srlruOnceRow.holds Try.pinned (OpenSpec.ofChange srlruOnceWrong)

/-- 'cachewiselaw07.SrlruTargets': WHATEVER THE INPUT: true; the input reads as it did. -/
def srlruTargetsSpec : ChangeSpec := { name := "srlruTargets", fn := fun _ => fun
  | [d1, d2] => { results := [.lit (.bool true)], args := [d1, d2] }
  | _ => none }
def srlruTargetsRow : OpenClaim := { program := "ytjijjfdkghcjkaa", sum := "2aefed4694835ec76d89617592dbb70e1c630c0648d697d69c76479641f075fa", func := "cachewise/cachewiselaw07.SrlruTargets", spec := "srlruTargets", unfollowed := true, recurses := true, apart := false }
def SrlruTargetsSaid : Prop := srlruTargetsRow.holds Try.pinned (OpenSpec.ofChange srlruTargetsSpec)

/-- ITS FALSE NEIGHBOUR: 'it returns false'. Refute it at one input. -/
def srlruTargetsWrong : ChangeSpec := { name := "srlruTargets", fn := fun _ => fun
  | [d1, d2] => { results := [.lit (.bool false)], args := [d1, d2] }
  | _ => none }
def SrlruTargetsWrongFalsely : Prop := srlruTargetsRow.holds Try.pinned (OpenSpec.ofChange srlruTargetsWrong)

/-- 'cachewiselaw07.SrlruDrops': WHATEVER THE INPUT: true; the input reads as it did. -/
def srlruDropsSpec : ChangeSpec := { name := "srlruDrops", fn := fun _ => fun
  | [d1, d2, d3] => { results := [.lit (.bool true)], args := [d1, d2, d3] }
  | _ => none }
def srlruDropsRow : OpenClaim := { program := "ytjijjfdkghcjkaa", sum := "2aefed4694835ec76d89617592dbb70e1c630c0648d697d69c76479641f075fa", func := "cachewise/cachewiselaw07.SrlruDrops", spec := "srlruDrops", unfollowed := true, recurses := true, apart := false }
def SrlruDropsSaid : Prop := srlruDropsRow.holds Try.pinned (OpenSpec.ofChange srlruDropsSpec)

/-- ITS FALSE NEIGHBOUR: 'it returns false'. Refute it at one input. -/
def srlruDropsWrong : ChangeSpec := { name := "srlruDrops", fn := fun _ => fun
  | [d1, d2, d3] => { results := [.lit (.bool false)], args := [d1, d2, d3] }
  | _ => none }
def SrlruDropsWrongFalsely : Prop := srlruDropsRow.holds Try.pinned (OpenSpec.ofChange srlruDropsWrong)

/-- 'cachewiselaw07.SrlruPlays': WHATEVER THE INPUT: true; the input reads as it did. -/
def srlruPlaysSpec : ChangeSpec := { name := "srlruPlays", fn := fun _ => fun
  | [d1, d2] => { results := [.lit (.bool true)], args := [d1, d2] }
  | _ => none }
def srlruPlaysRow : OpenClaim := { program := "ytjijjfdkghcjkaa", sum := "2aefed4694835ec76d89617592dbb70e1c630c0648d697d69c76479641f075fa", func := "cachewise/cachewiselaw07.SrlruPlays", spec := "srlruPlays", unfollowed := true, recurses := true, apart := false }
def SrlruPlaysSaid : Prop := srlruPlaysRow.holds Try.pinned (OpenSpec.ofChange srlruPlaysSpec)

/-- ITS FALSE NEIGHBOUR: 'it returns false'. Refute it at one input. -/
def srlruPlaysWrong : ChangeSpec := { name := "srlruPlays", fn := fun _ => fun
  | [d1, d2] => { results := [.lit (.bool false)], args := [d1, d2] }
  | _ => none }
def SrlruPlaysWrongFalsely : Prop := srlruPlaysRow.holds Try.pinned (OpenSpec.ofChange srlruPlaysWrong)

/- THE SECOND FORM. 'bulk': how many values and letters a reading holds, each counted each time it is reached (what is shared counts as often as it is met; a slice's spare places count too). A statement '..UptoSaid' is the law's where the arguments, and the package variables that the reading takes, are together of bulk at most 1048576: NARROWER than '..Said'. Prove '..Said' where nothing that the law and all that it calls make is longer than what came in: it says more and counts as full. Else prove '..UptoSaid'. A law counts once. -/
mutual
def uptoBulk {H : Type} : DataW H → Nat
  | .lit (.string bytes) => bytes.length + 1
  | .lit _ => 1
  | .nil => 1
  | .ptr d => uptoBulk d + 1
  | .slice elems spare => uptoBulkAll elems + uptoBulkAll spare + 1
  | .agg parts => uptoBulkAll parts + 1
  | .iface _ d => uptoBulk d + 1
  | .map entries => uptoBulkEntries entries + 1
  | .held _ => 1
def uptoBulkAll {H : Type} : List (DataW H) → Nat
  | [] => 0
  | d :: r => uptoBulk d + uptoBulkAll r
def uptoBulkEntries {H : Type} : List (Lit × DataW H) → Nat
  | [] => 0
  | x :: r => uptoBulkEntry x + uptoBulkEntries r
def uptoBulkEntry {H : Type} : Lit × DataW H → Nat
  | (.string bytes, d) => bytes.length + uptoBulk d + 1
  | (_, d) => uptoBulk d + 1
 end
def uptoSmall : (H : Type) → List (DataW H) → Bool := fun _ ds => decide (uptoBulkAll ds ≤ 1048576)
def OpenSpec.upto (s : _root_.Go.ChangeSpec) : _root_.Go.OpenSpec := { _root_.Go.OpenSpec.ofChange s with cond := some uptoSmall }

/-- 'cachewiselaw05.LruStack', WHERE WHAT IT READS IS OF BULK AT MOST 1048576: true; the input reads as it did. -/
def lruStackUptoRow : OpenClaim := { program := "ytjijjfdkghcjkaa", sum := "2aefed4694835ec76d89617592dbb70e1c630c0648d697d69c76479641f075fa", func := "cachewise/cachewiselaw05.LruStack", spec := "lruStack", unfollowed := true, recurses := true, apart := false, narrowed := true }
def LruStackUptoSaid : Prop := lruStackUptoRow.holds Try.pinned (OpenSpec.upto lruStackSpec)

/-- 'cachewiselaw05.LruRecent', WHERE WHAT IT READS IS OF BULK AT MOST 1048576: true; the input reads as it did. -/
def lruRecentUptoRow : OpenClaim := { program := "ytjijjfdkghcjkaa", sum := "2aefed4694835ec76d89617592dbb70e1c630c0648d697d69c76479641f075fa", func := "cachewise/cachewiselaw05.LruRecent", spec := "lruRecent", unfollowed := true, recurses := true, apart := false, narrowed := true }
def LruRecentUptoSaid : Prop := lruRecentUptoRow.holds Try.pinned (OpenSpec.upto lruRecentSpec)

/-- 'cachewiselaw05.LruResizes', WHERE WHAT IT READS IS OF BULK AT MOST 1048576: true; the input reads as it did. -/
def lruResizesUptoRow : OpenClaim := { program := "ytjijjfdkghcjkaa", sum := "2aefed4694835ec76d89617592dbb70e1c630c0648d697d69c76479641f075fa", func := "cachewise/cachewiselaw05.LruResizes", spec := "lruResizes", unfollowed := true, recurses := true, apart := false, narrowed := true }
def LruResizesUptoSaid : Prop := lruResizesUptoRow.holds Try.pinned (OpenSpec.upto lruResizesSpec)

/-- 'cachewiselaw05.LruAdopts', WHERE WHAT IT READS IS OF BULK AT MOST 1048576: true; the input reads as it did. -/
def lruAdoptsUptoRow : OpenClaim := { program := "ytjijjfdkghcjkaa", sum := "2aefed4694835ec76d89617592dbb70e1c630c0648d697d69c76479641f075fa", func := "cachewise/cachewiselaw05.LruAdopts", spec := "lruAdopts", unfollowed := true, recurses := true, apart := false, narrowed := true }
def LruAdoptsUptoSaid : Prop := lruAdoptsUptoRow.holds Try.pinned (OpenSpec.upto lruAdoptsSpec)

/-- 'cachewiselaw05.LruPlays', WHERE WHAT IT READS IS OF BULK AT MOST 1048576: true; the input reads as it did. -/
def lruPlaysUptoRow : OpenClaim := { program := "ytjijjfdkghcjkaa", sum := "2aefed4694835ec76d89617592dbb70e1c630c0648d697d69c76479641f075fa", func := "cachewise/cachewiselaw05.LruPlays", spec := "lruPlays", unfollowed := true, recurses := true, apart := false, narrowed := true }
def LruPlaysUptoSaid : Prop := lruPlaysUptoRow.holds Try.pinned (OpenSpec.upto lruPlaysSpec)

/-- 'cachewiselaw05.LruDrops', WHERE WHAT IT READS IS OF BULK AT MOST 1048576: true; the input reads as it did. -/
def lruDropsUptoRow : OpenClaim := { program := "ytjijjfdkghcjkaa", sum := "2aefed4694835ec76d89617592dbb70e1c630c0648d697d69c76479641f075fa", func := "cachewise/cachewiselaw05.LruDrops", spec := "lruDrops", unfollowed := true, recurses := true, apart := false, narrowed := true }
def LruDropsUptoSaid : Prop := lruDropsUptoRow.holds Try.pinned (OpenSpec.upto lruDropsSpec)

/-- 'cachewiselaw07.SrlruScan', WHERE WHAT IT READS IS OF BULK AT MOST 1048576: true; the input reads as it did. -/
def srlruScanUptoRow : OpenClaim := { program := "ytjijjfdkghcjkaa", sum := "2aefed4694835ec76d89617592dbb70e1c630c0648d697d69c76479641f075fa", func := "cachewise/cachewiselaw07.SrlruScan", spec := "srlruScan", unfollowed := true, recurses := true, apart := false, narrowed := true }
def SrlruScanUptoSaid : Prop := srlruScanUptoRow.holds Try.pinned (OpenSpec.upto srlruScanSpec)

/-- 'cachewiselaw07.SrlruOnce', WHERE WHAT IT READS IS OF BULK AT MOST 1048576: true; the input reads as it did. -/
def srlruOnceUptoRow : OpenClaim := { program := "ytjijjfdkghcjkaa", sum := "2aefed4694835ec76d89617592dbb70e1c630c0648d697d69c76479641f075fa", func := "cachewise/cachewiselaw07.SrlruOnce", spec := "srlruOnce", unfollowed := true, recurses := true, apart := false, narrowed := true }
def SrlruOnceUptoSaid : Prop := srlruOnceUptoRow.holds Try.pinned (OpenSpec.upto srlruOnceSpec)

/-- 'cachewiselaw07.SrlruTargets', WHERE WHAT IT READS IS OF BULK AT MOST 1048576: true; the input reads as it did. -/
def srlruTargetsUptoRow : OpenClaim := { program := "ytjijjfdkghcjkaa", sum := "2aefed4694835ec76d89617592dbb70e1c630c0648d697d69c76479641f075fa", func := "cachewise/cachewiselaw07.SrlruTargets", spec := "srlruTargets", unfollowed := true, recurses := true, apart := false, narrowed := true }
def SrlruTargetsUptoSaid : Prop := srlruTargetsUptoRow.holds Try.pinned (OpenSpec.upto srlruTargetsSpec)

/-- 'cachewiselaw07.SrlruDrops', WHERE WHAT IT READS IS OF BULK AT MOST 1048576: true; the input reads as it did. -/
def srlruDropsUptoRow : OpenClaim := { program := "ytjijjfdkghcjkaa", sum := "2aefed4694835ec76d89617592dbb70e1c630c0648d697d69c76479641f075fa", func := "cachewise/cachewiselaw07.SrlruDrops", spec := "srlruDrops", unfollowed := true, recurses := true, apart := false, narrowed := true }
def SrlruDropsUptoSaid : Prop := srlruDropsUptoRow.holds Try.pinned (OpenSpec.upto srlruDropsSpec)

/-- 'cachewiselaw07.SrlruPlays', WHERE WHAT IT READS IS OF BULK AT MOST 1048576: true; the input reads as it did. -/
def srlruPlaysUptoRow : OpenClaim := { program := "ytjijjfdkghcjkaa", sum := "2aefed4694835ec76d89617592dbb70e1c630c0648d697d69c76479641f075fa", func := "cachewise/cachewiselaw07.SrlruPlays", spec := "srlruPlays", unfollowed := true, recurses := true, apart := false, narrowed := true }
def SrlruPlaysUptoSaid : Prop := srlruPlaysUptoRow.holds Try.pinned (OpenSpec.upto srlruPlaysSpec)

end Rows
end Go.Proofs.Ytjijjfdkghcjkaa
