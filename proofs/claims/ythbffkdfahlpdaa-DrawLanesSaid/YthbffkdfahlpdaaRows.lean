/-
  No cell of these rows narrows 'for every input' (looked for: loops, veiled, ifaces, maps, wideKeys, modest, calm, conditions, laid).
  DERIVED. THE GIVEN ROWS OF THIS SEAT. 11 by the template 'for every input the law returns true; each argument reads behind the call as it read before'; 0 by the template 'total and deterministic' (their statements: YthbffkdfahlpdaaTotals.lean).
  GIVEN WITH THE SEED: the statements are not yours to turn. If you find one false, say at which input.
  Laid BY PROGRAM, IN A SANDBOX (cutbox-rows.mjs): the forced cells as the released guide's own fill.sh prints them over the translation 60470a8edc4b3614… (all of the seat's roots in one cut). By AI agents, Wed Nov 11 2026. No macro, syntax, notation, axiom, sorry.
-/
import Derived.Test.YthbffkdfahlpdaaChecked
import GoSem.Claim
import GoSem.ClaimJoined
import GoSem.ClaimMapViews
import Derived.JoinedTies
import Derived.KernelRfl
namespace Go.Proofs.Ythbffkdfahlpdaa
/- THE CELL 'sum', in the pinned program and in every row, IS THE sha256 OF THE DUMP (.gsa) THAT YthbffkdfahlpdaaProg.lean LOADS. Nothing in Lean hashes anything: it is a label: what it is worth is what the hold of that sum in a sandbox is worth. -/
noncomputable def Try.pinned : Pinned := { name := "ythbffkdfahlpdaa", sum := "60470a8edc4b3614dd423b0de195678ddb2e50213ce9ab1479ff2e80e5cde3ed", checked := Try.checked }
namespace Rows
def none {H : Type} : Left H := { results := [], args := [] }

/-- 'cachewiselaw02.DrawPlays': WHATEVER THE INPUT: true; the input reads as it did. -/
def drawPlaysSpec : ChangeSpec := { name := "drawPlays", fn := fun _ => fun
  | [d1, d2] => { results := [.lit (.bool true)], args := [d1, d2] }
  | _ => none }
def drawPlaysRow : OpenClaim := { program := "ythbffkdfahlpdaa", sum := "60470a8edc4b3614dd423b0de195678ddb2e50213ce9ab1479ff2e80e5cde3ed", func := "cachewise/cachewiselaw02.DrawPlays", spec := "drawPlays", apart := false }
def DrawPlaysSaid : Prop := drawPlaysRow.holds Try.pinned (OpenSpec.ofChange drawPlaysSpec)

/-- ITS FALSE NEIGHBOUR: 'it returns false'. Refute it at one input. -/
def drawPlaysWrong : ChangeSpec := { name := "drawPlays", fn := fun _ => fun
  | [d1, d2] => { results := [.lit (.bool false)], args := [d1, d2] }
  | _ => none }
def DrawPlaysWrongFalsely : Prop := drawPlaysRow.holds Try.pinned (OpenSpec.ofChange drawPlaysWrong)

/-- 'cachewiselaw02.DrawHashes': WHATEVER THE INPUT: true; the input reads as it did. -/
def drawHashesSpec : ChangeSpec := { name := "drawHashes", fn := fun _ => fun
  | [d1, d2] => { results := [.lit (.bool true)], args := [d1, d2] }
  | _ => none }
def drawHashesRow : OpenClaim := { program := "ythbffkdfahlpdaa", sum := "60470a8edc4b3614dd423b0de195678ddb2e50213ce9ab1479ff2e80e5cde3ed", func := "cachewise/cachewiselaw02.DrawHashes", spec := "drawHashes", apart := false }
def DrawHashesSaid : Prop := drawHashesRow.holds Try.pinned (OpenSpec.ofChange drawHashesSpec)

/-- ITS FALSE NEIGHBOUR: 'it returns false'. Refute it at one input. -/
def drawHashesWrong : ChangeSpec := { name := "drawHashes", fn := fun _ => fun
  | [d1, d2] => { results := [.lit (.bool false)], args := [d1, d2] }
  | _ => none }
def DrawHashesWrongFalsely : Prop := drawHashesRow.holds Try.pinned (OpenSpec.ofChange drawHashesWrong)

/-- 'cachewiselaw02.DrawSamples': WHATEVER THE INPUT: true; the input reads as it did. -/
def drawSamplesSpec : ChangeSpec := { name := "drawSamples", fn := fun _ => fun
  | [d1, d2, d3] => { results := [.lit (.bool true)], args := [d1, d2, d3] }
  | _ => none }
def drawSamplesRow : OpenClaim := { program := "ythbffkdfahlpdaa", sum := "60470a8edc4b3614dd423b0de195678ddb2e50213ce9ab1479ff2e80e5cde3ed", func := "cachewise/cachewiselaw02.DrawSamples", spec := "drawSamples", apart := false }
def DrawSamplesSaid : Prop := drawSamplesRow.holds Try.pinned (OpenSpec.ofChange drawSamplesSpec)

/-- ITS FALSE NEIGHBOUR: 'it returns false'. Refute it at one input. -/
def drawSamplesWrong : ChangeSpec := { name := "drawSamples", fn := fun _ => fun
  | [d1, d2, d3] => { results := [.lit (.bool false)], args := [d1, d2, d3] }
  | _ => none }
def DrawSamplesWrongFalsely : Prop := drawSamplesRow.holds Try.pinned (OpenSpec.ofChange drawSamplesWrong)

/-- 'cachewiselaw02.DrawLanes': WHATEVER THE INPUT: true; the input reads as it did. -/
def drawLanesSpec : ChangeSpec := { name := "drawLanes", fn := fun _ => fun
  | [d1, d2] => { results := [.lit (.bool true)], args := [d1, d2] }
  | _ => none }
def drawLanesRow : OpenClaim := { program := "ythbffkdfahlpdaa", sum := "60470a8edc4b3614dd423b0de195678ddb2e50213ce9ab1479ff2e80e5cde3ed", func := "cachewise/cachewiselaw02.DrawLanes", spec := "drawLanes", apart := false }
def DrawLanesSaid : Prop := drawLanesRow.holds Try.pinned (OpenSpec.ofChange drawLanesSpec)

/-- ITS FALSE NEIGHBOUR: 'it returns false'. Refute it at one input. -/
def drawLanesWrong : ChangeSpec := { name := "drawLanes", fn := fun _ => fun
  | [d1, d2] => { results := [.lit (.bool false)], args := [d1, d2] }
  | _ => none }
def DrawLanesWrongFalsely : Prop := drawLanesRow.holds Try.pinned (OpenSpec.ofChange drawLanesWrong)

/-- 'cachewiselaw02.DrawCopies': WHATEVER THE INPUT: true; the input reads as it did. -/
def drawCopiesSpec : ChangeSpec := { name := "drawCopies", fn := fun _ => fun
  | [d1, d2, d3] => { results := [.lit (.bool true)], args := [d1, d2, d3] }
  | _ => none }
def drawCopiesRow : OpenClaim := { program := "ythbffkdfahlpdaa", sum := "60470a8edc4b3614dd423b0de195678ddb2e50213ce9ab1479ff2e80e5cde3ed", func := "cachewise/cachewiselaw02.DrawCopies", spec := "drawCopies", apart := false }
def DrawCopiesSaid : Prop := drawCopiesRow.holds Try.pinned (OpenSpec.ofChange drawCopiesSpec)

/-- ITS FALSE NEIGHBOUR: 'it returns false'. Refute it at one input. -/
def drawCopiesWrong : ChangeSpec := { name := "drawCopies", fn := fun _ => fun
  | [d1, d2, d3] => { results := [.lit (.bool false)], args := [d1, d2, d3] }
  | _ => none }
def DrawCopiesWrongFalsely : Prop := drawCopiesRow.holds Try.pinned (OpenSpec.ofChange drawCopiesWrong)

/-- 'cachewiselaw02.DrawPicks': WHATEVER THE INPUT: true; the input reads as it did. -/
def drawPicksSpec : ChangeSpec := { name := "drawPicks", fn := fun _ => fun
  | [d1, d2, d3] => { results := [.lit (.bool true)], args := [d1, d2, d3] }
  | _ => none }
def drawPicksRow : OpenClaim := { program := "ythbffkdfahlpdaa", sum := "60470a8edc4b3614dd423b0de195678ddb2e50213ce9ab1479ff2e80e5cde3ed", func := "cachewise/cachewiselaw02.DrawPicks", spec := "drawPicks", apart := false }
def DrawPicksSaid : Prop := drawPicksRow.holds Try.pinned (OpenSpec.ofChange drawPicksSpec)

/-- ITS FALSE NEIGHBOUR: 'it returns false'. Refute it at one input. -/
def drawPicksWrong : ChangeSpec := { name := "drawPicks", fn := fun _ => fun
  | [d1, d2, d3] => { results := [.lit (.bool false)], args := [d1, d2, d3] }
  | _ => none }
def DrawPicksWrongFalsely : Prop := drawPicksRow.holds Try.pinned (OpenSpec.ofChange drawPicksWrong)

/-- 'cachewiselaw03.ListOrder': WHATEVER THE INPUT: true; the input reads as it did. -/
def listOrderSpec : ChangeSpec := { name := "listOrder", fn := fun _ => fun
  | [d1, d2] => { results := [.lit (.bool true)], args := [d1, d2] }
  | _ => none }
def listOrderRow : OpenClaim := { program := "ythbffkdfahlpdaa", sum := "60470a8edc4b3614dd423b0de195678ddb2e50213ce9ab1479ff2e80e5cde3ed", func := "cachewise/cachewiselaw03.ListOrder", spec := "listOrder", apart := false }
def ListOrderSaid : Prop := listOrderRow.holds Try.pinned (OpenSpec.ofChange listOrderSpec)

/-- ITS FALSE NEIGHBOUR: 'it returns false'. Refute it at one input. -/
def listOrderWrong : ChangeSpec := { name := "listOrder", fn := fun _ => fun
  | [d1, d2] => { results := [.lit (.bool false)], args := [d1, d2] }
  | _ => none }
def ListOrderWrongFalsely : Prop := listOrderRow.holds Try.pinned (OpenSpec.ofChange listOrderWrong)

/-- 'cachewiselaw03.ListMoves': WHATEVER THE INPUT: true; the input reads as it did. -/
def listMovesSpec : ChangeSpec := { name := "listMoves", fn := fun _ => fun
  | [d1, d2] => { results := [.lit (.bool true)], args := [d1, d2] }
  | _ => none }
def listMovesRow : OpenClaim := { program := "ythbffkdfahlpdaa", sum := "60470a8edc4b3614dd423b0de195678ddb2e50213ce9ab1479ff2e80e5cde3ed", func := "cachewise/cachewiselaw03.ListMoves", spec := "listMoves", apart := false }
def ListMovesSaid : Prop := listMovesRow.holds Try.pinned (OpenSpec.ofChange listMovesSpec)

/-- ITS FALSE NEIGHBOUR: 'it returns false'. Refute it at one input. -/
def listMovesWrong : ChangeSpec := { name := "listMoves", fn := fun _ => fun
  | [d1, d2] => { results := [.lit (.bool false)], args := [d1, d2] }
  | _ => none }
def ListMovesWrongFalsely : Prop := listMovesRow.holds Try.pinned (OpenSpec.ofChange listMovesWrong)

/-- 'cachewiselaw03.ListPops': WHATEVER THE INPUT: true; the input reads as it did. -/
def listPopsSpec : ChangeSpec := { name := "listPops", fn := fun _ => fun
  | [d] => { results := [.lit (.bool true)], args := [d] }
  | _ => none }
def listPopsRow : OpenClaim := { program := "ythbffkdfahlpdaa", sum := "60470a8edc4b3614dd423b0de195678ddb2e50213ce9ab1479ff2e80e5cde3ed", func := "cachewise/cachewiselaw03.ListPops", spec := "listPops", apart := false }
def ListPopsSaid : Prop := listPopsRow.holds Try.pinned (OpenSpec.ofChange listPopsSpec)

/-- ITS FALSE NEIGHBOUR: 'it returns false'. Refute it at one input. -/
def listPopsWrong : ChangeSpec := { name := "listPops", fn := fun _ => fun
  | [d] => { results := [.lit (.bool false)], args := [d] }
  | _ => none }
def ListPopsWrongFalsely : Prop := listPopsRow.holds Try.pinned (OpenSpec.ofChange listPopsWrong)

/-- 'cachewiselaw03.ListPlays': WHATEVER THE INPUT: true; the input reads as it did. -/
def listPlaysSpec : ChangeSpec := { name := "listPlays", fn := fun _ => fun
  | [d] => { results := [.lit (.bool true)], args := [d] }
  | _ => none }
def listPlaysRow : OpenClaim := { program := "ythbffkdfahlpdaa", sum := "60470a8edc4b3614dd423b0de195678ddb2e50213ce9ab1479ff2e80e5cde3ed", func := "cachewise/cachewiselaw03.ListPlays", spec := "listPlays", apart := false }
def ListPlaysSaid : Prop := listPlaysRow.holds Try.pinned (OpenSpec.ofChange listPlaysSpec)

/-- ITS FALSE NEIGHBOUR: 'it returns false'. Refute it at one input. -/
def listPlaysWrong : ChangeSpec := { name := "listPlays", fn := fun _ => fun
  | [d] => { results := [.lit (.bool false)], args := [d] }
  | _ => none }
def ListPlaysWrongFalsely : Prop := listPlaysRow.holds Try.pinned (OpenSpec.ofChange listPlaysWrong)

/-- 'cachewiselaw03.ListPlaces': WHATEVER THE INPUT: true; the input reads as it did. -/
def listPlacesSpec : ChangeSpec := { name := "listPlaces", fn := fun _ => fun
  | [d1, d2] => { results := [.lit (.bool true)], args := [d1, d2] }
  | _ => none }
def listPlacesRow : OpenClaim := { program := "ythbffkdfahlpdaa", sum := "60470a8edc4b3614dd423b0de195678ddb2e50213ce9ab1479ff2e80e5cde3ed", func := "cachewise/cachewiselaw03.ListPlaces", spec := "listPlaces", apart := false }
def ListPlacesSaid : Prop := listPlacesRow.holds Try.pinned (OpenSpec.ofChange listPlacesSpec)

/-- ITS FALSE NEIGHBOUR: 'it returns false'. Refute it at one input. -/
def listPlacesWrong : ChangeSpec := { name := "listPlaces", fn := fun _ => fun
  | [d1, d2] => { results := [.lit (.bool false)], args := [d1, d2] }
  | _ => none }
def ListPlacesWrongFalsely : Prop := listPlacesRow.holds Try.pinned (OpenSpec.ofChange listPlacesWrong)

/- THE SECOND FORM. 'bulk': how many values and letters a reading holds, each counted each time it is reached (what is shared counts as often as it is met; a slice's spare places count too). A statement '..UptoSaid' is the law's where the arguments, and the package variables that the reading takes, are together of bulk at most 1048576: NARROWER than '..Said'. Prove '..Said' where nothing that the law and all that it calls make is longer than what came in: it says more and counts as full. Else prove '..UptoSaid'. A law counts once. -/
mutual
def uptoBulk {H : Type} : DataW H → Nat
  | .lit (.string bytes) => bytes.length + 1
  | .lit _ => 1
  | .nil => 1
  | .ptr d => uptoBulk d + 1
  | .slice elems spare => uptoBulkAll elems + uptoBulkAll spare + 1
  | .agg parts => uptoBulkAll parts + 1
  | .iface _ d => uptoBulk d + 1
  | .map entries => uptoBulkEntries entries + 1
  | .held _ => 1
def uptoBulkAll {H : Type} : List (DataW H) → Nat
  | [] => 0
  | d :: r => uptoBulk d + uptoBulkAll r
def uptoBulkEntries {H : Type} : List (Lit × DataW H) → Nat
  | [] => 0
  | x :: r => uptoBulkEntry x + uptoBulkEntries r
def uptoBulkEntry {H : Type} : Lit × DataW H → Nat
  | (.string bytes, d) => bytes.length + uptoBulk d + 1
  | (_, d) => uptoBulk d + 1
 end
def uptoSmall : (H : Type) → List (DataW H) → Bool := fun _ ds => decide (uptoBulkAll ds ≤ 1048576)
def OpenSpec.upto (s : _root_.Go.ChangeSpec) : _root_.Go.OpenSpec := { _root_.Go.OpenSpec.ofChange s with cond := some uptoSmall }

/-- 'cachewiselaw02.DrawPlays', WHERE WHAT IT READS IS OF BULK AT MOST 1048576: true; the input reads as it did. -/
def drawPlaysUptoRow : OpenClaim := { program := "ythbffkdfahlpdaa", sum := "60470a8edc4b3614dd423b0de195678ddb2e50213ce9ab1479ff2e80e5cde3ed", func := "cachewise/cachewiselaw02.DrawPlays", spec := "drawPlays", apart := false, narrowed := true }
def DrawPlaysUptoSaid : Prop := drawPlaysUptoRow.holds Try.pinned (OpenSpec.upto drawPlaysSpec)

/-- 'cachewiselaw02.DrawHashes', WHERE WHAT IT READS IS OF BULK AT MOST 1048576: true; the input reads as it did. -/
def drawHashesUptoRow : OpenClaim := { program := "ythbffkdfahlpdaa", sum := "60470a8edc4b3614dd423b0de195678ddb2e50213ce9ab1479ff2e80e5cde3ed", func := "cachewise/cachewiselaw02.DrawHashes", spec := "drawHashes", apart := false, narrowed := true }
def DrawHashesUptoSaid : Prop := drawHashesUptoRow.holds Try.pinned (OpenSpec.upto drawHashesSpec)

/-- 'cachewiselaw02.DrawSamples', WHERE WHAT IT READS IS OF BULK AT MOST 1048576: true; the input reads as it did. -/
def drawSamplesUptoRow : OpenClaim := { program := "ythbffkdfahlpdaa", sum := "60470a8edc4b3614dd423b0de195678ddb2e50213ce9ab1479ff2e80e5cde3ed", func := "cachewise/cachewiselaw02.DrawSamples", spec := "drawSamples", apart := false, narrowed := true }
def DrawSamplesUptoSaid : Prop := drawSamplesUptoRow.holds Try.pinned (OpenSpec.upto drawSamplesSpec)

/-- 'cachewiselaw02.DrawLanes', WHERE WHAT IT READS IS OF BULK AT MOST 1048576: true; the input reads as it did. -/
def drawLanesUptoRow : OpenClaim := { program := "ythbffkdfahlpdaa", sum := "60470a8edc4b3614dd423b0de195678ddb2e50213ce9ab1479ff2e80e5cde3ed", func := "cachewise/cachewiselaw02.DrawLanes", spec := "drawLanes", apart := false, narrowed := true }
def DrawLanesUptoSaid : Prop := drawLanesUptoRow.holds Try.pinned (OpenSpec.upto drawLanesSpec)

/-- 'cachewiselaw02.DrawCopies', WHERE WHAT IT READS IS OF BULK AT MOST 1048576: true; the input reads as it did. -/
def drawCopiesUptoRow : OpenClaim := { program := "ythbffkdfahlpdaa", sum := "60470a8edc4b3614dd423b0de195678ddb2e50213ce9ab1479ff2e80e5cde3ed", func := "cachewise/cachewiselaw02.DrawCopies", spec := "drawCopies", apart := false, narrowed := true }
def DrawCopiesUptoSaid : Prop := drawCopiesUptoRow.holds Try.pinned (OpenSpec.upto drawCopiesSpec)

/-- 'cachewiselaw02.DrawPicks', WHERE WHAT IT READS IS OF BULK AT MOST 1048576: true; the input reads as it did. -/
def drawPicksUptoRow : OpenClaim := { program := "ythbffkdfahlpdaa", sum := "60470a8edc4b3614dd423b0de195678ddb2e50213ce9ab1479ff2e80e5cde3ed", func := "cachewise/cachewiselaw02.DrawPicks", spec := "drawPicks", apart := false, narrowed := true }
def DrawPicksUptoSaid : Prop := drawPicksUptoRow.holds Try.pinned (OpenSpec.upto drawPicksSpec)

/-- 'cachewiselaw03.ListOrder', WHERE WHAT IT READS IS OF BULK AT MOST 1048576: true; the input reads as it did. -/
def listOrderUptoRow : OpenClaim := { program := "ythbffkdfahlpdaa", sum := "60470a8edc4b3614dd423b0de195678ddb2e50213ce9ab1479ff2e80e5cde3ed", func := "cachewise/cachewiselaw03.ListOrder", spec := "listOrder", apart := false, narrowed := true }
def ListOrderUptoSaid : Prop := listOrderUptoRow.holds Try.pinned (OpenSpec.upto listOrderSpec)

/-- 'cachewiselaw03.ListMoves', WHERE WHAT IT READS IS OF BULK AT MOST 1048576: true; the input reads as it did. -/
def listMovesUptoRow : OpenClaim := { program := "ythbffkdfahlpdaa", sum := "60470a8edc4b3614dd423b0de195678ddb2e50213ce9ab1479ff2e80e5cde3ed", func := "cachewise/cachewiselaw03.ListMoves", spec := "listMoves", apart := false, narrowed := true }
def ListMovesUptoSaid : Prop := listMovesUptoRow.holds Try.pinned (OpenSpec.upto listMovesSpec)

/-- 'cachewiselaw03.ListPops', WHERE WHAT IT READS IS OF BULK AT MOST 1048576: true; the input reads as it did. -/
def listPopsUptoRow : OpenClaim := { program := "ythbffkdfahlpdaa", sum := "60470a8edc4b3614dd423b0de195678ddb2e50213ce9ab1479ff2e80e5cde3ed", func := "cachewise/cachewiselaw03.ListPops", spec := "listPops", apart := false, narrowed := true }
def ListPopsUptoSaid : Prop := listPopsUptoRow.holds Try.pinned (OpenSpec.upto listPopsSpec)

/-- 'cachewiselaw03.ListPlays', WHERE WHAT IT READS IS OF BULK AT MOST 1048576: true; the input reads as it did. -/
def listPlaysUptoRow : OpenClaim := { program := "ythbffkdfahlpdaa", sum := "60470a8edc4b3614dd423b0de195678ddb2e50213ce9ab1479ff2e80e5cde3ed", func := "cachewise/cachewiselaw03.ListPlays", spec := "listPlays", apart := false, narrowed := true }
def ListPlaysUptoSaid : Prop := listPlaysUptoRow.holds Try.pinned (OpenSpec.upto listPlaysSpec)

/-- 'cachewiselaw03.ListPlaces', WHERE WHAT IT READS IS OF BULK AT MOST 1048576: true; the input reads as it did. -/
def listPlacesUptoRow : OpenClaim := { program := "ythbffkdfahlpdaa", sum := "60470a8edc4b3614dd423b0de195678ddb2e50213ce9ab1479ff2e80e5cde3ed", func := "cachewise/cachewiselaw03.ListPlaces", spec := "listPlaces", apart := false, narrowed := true }
def ListPlacesUptoSaid : Prop := listPlacesUptoRow.holds Try.pinned (OpenSpec.upto listPlacesSpec)

end Rows
end Go.Proofs.Ythbffkdfahlpdaa
