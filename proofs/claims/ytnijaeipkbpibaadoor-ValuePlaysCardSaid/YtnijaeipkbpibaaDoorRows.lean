/-
  NARROWER THAN 'FOR EVERY INPUT', by the rows' own cells (each row's printed sentence says how): ValueLatest: laid · ValueForever: laid · ValueExpires: laid · ValuePlays: laid · ValueBytes: laid.
  DERIVED. THE GIVEN ROWS OF THIS SEAT. 5 by the template 'for every input the law returns true; each argument reads behind the call as it read before'; 0 by the template 'total and deterministic' (their statements: YtnijaeipkbpibaaDoorTotals.lean).
  GIVEN WITH THE SEED: the statements are not yours to turn. If you find one false, say at which input.
  Laid BY PROGRAM, IN A SANDBOX (cutbox-rows.mjs): the forced cells as the released guide's own fill.sh prints them over the translation 0015eb2ac23dcb0e… (all of the seat's roots in one cut). By AI agents, Wed Nov 11 2026. No macro, syntax, notation, axiom, sorry.
-/
import Derived.Test.YtnijaeipkbpibaaDoorChecked
import GoSem.Claim
import GoSem.ClaimJoined
import GoSem.ClaimMapViews
import Derived.JoinedTies
import Derived.KernelRfl
namespace Go.Proofs.YtnijaeipkbpibaaDoor
/- THE CELL 'sum', in the pinned program and in every row, IS THE sha256 OF THE DUMP (.gsa) THAT YtnijaeipkbpibaaDoorProg.lean LOADS. Nothing in Lean hashes anything: it is a label: what it is worth is what the hold of that sum in a sandbox is worth. -/
noncomputable def Tryd.pinned : Pinned := { name := "ytnijaeipkbpibaadoor", sum := "0015eb2ac23dcb0e22241d09ebd7374a148f244015ee496bc2400d8cdc4629e1", checked := Tryd.checked }
namespace Rows
def none {H : Type} : Left H := { results := [], args := [] }

/- WHAT THE LISTED PACKAGE-LEVEL VARIABLES READ AS WHEN THE CALL BEGINS. Each datum BY PROGRAM (the guide's laid-datum.mjs) off the statement by which the dump's own 'gosem.cut.vars' lays the variable. In a bare row this is a premise. The card (YtnijaeipkbpibaaDoorCards.lean) ties it to the program's text. -/
def laid_errors_errorType {H : Type} : DataW H := .iface "internal/reflectlite.rtype" (.agg [.ptr (.lit (.string [101, 114, 114, 111, 114]))])

/-- 'cachewiselaw15.ValueLatest': WHATEVER THE INPUT: true; the input reads as it did. -/
def valueLatestSpec : ChangeSpec := { name := "valueLatest", fn := fun _ => fun
  | [d1, d2, d3, d4] => { results := [.lit (.bool true)], args := [d1, d2, d3, d4] }
  | _ => none }
def valueLatestRow : OpenClaim := { program := "ytnijaeipkbpibaadoor", sum := "0015eb2ac23dcb0e22241d09ebd7374a148f244015ee496bc2400d8cdc4629e1", func := "cachewise/cachewiselaw15.ValueLatest", spec := "valueLatest", inPlace := ["internal/reflectlite.ValueOf", "(internal/reflectlite.Value).Type", "(internal/reflectlite.Value).IsNil", "internal/reflectlite.TypeOf", "(internal/reflectlite.Value).Elem", "(internal/reflectlite.Value).Set"], unfollowed := true, recurses := true, named := ["errors.errorType"], apart := false, laid := [("errors.errorType", laid_errors_errorType)] }
def ValueLatestSaid : Prop := valueLatestRow.holds Tryd.pinned (OpenSpec.ofChange valueLatestSpec)

/-- ITS FALSE NEIGHBOUR: 'it returns false'. Refute it at one input. -/
def valueLatestWrong : ChangeSpec := { name := "valueLatest", fn := fun _ => fun
  | [d1, d2, d3, d4] => { results := [.lit (.bool false)], args := [d1, d2, d3, d4] }
  | _ => none }
def ValueLatestWrongFalsely : Prop := valueLatestRow.holds Tryd.pinned (OpenSpec.ofChange valueLatestWrong)

/-- 'cachewiselaw15.ValueForever': WHATEVER THE INPUT: true; the input reads as it did. -/
def valueForeverSpec : ChangeSpec := { name := "valueForever", fn := fun _ => fun
  | [d1, d2, d3, d4] => { results := [.lit (.bool true)], args := [d1, d2, d3, d4] }
  | _ => none }
def valueForeverRow : OpenClaim := { program := "ytnijaeipkbpibaadoor", sum := "0015eb2ac23dcb0e22241d09ebd7374a148f244015ee496bc2400d8cdc4629e1", func := "cachewise/cachewiselaw15.ValueForever", spec := "valueForever", inPlace := ["internal/reflectlite.ValueOf", "(internal/reflectlite.Value).Type", "(internal/reflectlite.Value).IsNil", "internal/reflectlite.TypeOf", "(internal/reflectlite.Value).Elem", "(internal/reflectlite.Value).Set"], unfollowed := true, recurses := true, named := ["errors.errorType"], apart := false, laid := [("errors.errorType", laid_errors_errorType)] }
def ValueForeverSaid : Prop := valueForeverRow.holds Tryd.pinned (OpenSpec.ofChange valueForeverSpec)

/-- ITS FALSE NEIGHBOUR: 'it returns false'. Refute it at one input. -/
def valueForeverWrong : ChangeSpec := { name := "valueForever", fn := fun _ => fun
  | [d1, d2, d3, d4] => { results := [.lit (.bool false)], args := [d1, d2, d3, d4] }
  | _ => none }
def ValueForeverWrongFalsely : Prop := valueForeverRow.holds Tryd.pinned (OpenSpec.ofChange valueForeverWrong)

/-- 'cachewiselaw15.ValueExpires': WHATEVER THE INPUT: true; the input reads as it did. -/
def valueExpiresSpec : ChangeSpec := { name := "valueExpires", fn := fun _ => fun
  | [d1, d2] => { results := [.lit (.bool true)], args := [d1, d2] }
  | _ => none }
def valueExpiresRow : OpenClaim := { program := "ytnijaeipkbpibaadoor", sum := "0015eb2ac23dcb0e22241d09ebd7374a148f244015ee496bc2400d8cdc4629e1", func := "cachewise/cachewiselaw15.ValueExpires", spec := "valueExpires", inPlace := ["internal/reflectlite.ValueOf", "(internal/reflectlite.Value).Type", "(internal/reflectlite.Value).IsNil", "internal/reflectlite.TypeOf", "(internal/reflectlite.Value).Elem", "(internal/reflectlite.Value).Set"], unfollowed := true, recurses := true, named := ["errors.errorType"], apart := false, laid := [("errors.errorType", laid_errors_errorType)] }
def ValueExpiresSaid : Prop := valueExpiresRow.holds Tryd.pinned (OpenSpec.ofChange valueExpiresSpec)

/-- ITS FALSE NEIGHBOUR: 'it returns false'. Refute it at one input. -/
def valueExpiresWrong : ChangeSpec := { name := "valueExpires", fn := fun _ => fun
  | [d1, d2] => { results := [.lit (.bool false)], args := [d1, d2] }
  | _ => none }
def ValueExpiresWrongFalsely : Prop := valueExpiresRow.holds Tryd.pinned (OpenSpec.ofChange valueExpiresWrong)

/-- 'cachewiselaw15.ValuePlays': WHATEVER THE INPUT: true; the input reads as it did. -/
def valuePlaysSpec : ChangeSpec := { name := "valuePlays", fn := fun _ => fun
  | [d] => { results := [.lit (.bool true)], args := [d] }
  | _ => none }
def valuePlaysRow : OpenClaim := { program := "ytnijaeipkbpibaadoor", sum := "0015eb2ac23dcb0e22241d09ebd7374a148f244015ee496bc2400d8cdc4629e1", func := "cachewise/cachewiselaw15.ValuePlays", spec := "valuePlays", inPlace := ["internal/reflectlite.ValueOf", "(internal/reflectlite.Value).Type", "(internal/reflectlite.Value).IsNil", "internal/reflectlite.TypeOf", "(internal/reflectlite.Value).Elem", "(internal/reflectlite.Value).Set"], unfollowed := true, recurses := true, named := ["errors.errorType"], apart := false, laid := [("errors.errorType", laid_errors_errorType)] }
def ValuePlaysSaid : Prop := valuePlaysRow.holds Tryd.pinned (OpenSpec.ofChange valuePlaysSpec)

/-- ITS FALSE NEIGHBOUR: 'it returns false'. Refute it at one input. -/
def valuePlaysWrong : ChangeSpec := { name := "valuePlays", fn := fun _ => fun
  | [d] => { results := [.lit (.bool false)], args := [d] }
  | _ => none }
def ValuePlaysWrongFalsely : Prop := valuePlaysRow.holds Tryd.pinned (OpenSpec.ofChange valuePlaysWrong)

/-- 'cachewiselaw15.ValueBytes': WHATEVER THE INPUT: true; the input reads as it did. -/
def valueBytesSpec : ChangeSpec := { name := "valueBytes", fn := fun _ => fun
  | [d] => { results := [.lit (.bool true)], args := [d] }
  | _ => none }
def valueBytesRow : OpenClaim := { program := "ytnijaeipkbpibaadoor", sum := "0015eb2ac23dcb0e22241d09ebd7374a148f244015ee496bc2400d8cdc4629e1", func := "cachewise/cachewiselaw15.ValueBytes", spec := "valueBytes", inPlace := ["internal/reflectlite.ValueOf", "(internal/reflectlite.Value).Type", "(internal/reflectlite.Value).IsNil", "internal/reflectlite.TypeOf", "(internal/reflectlite.Value).Elem", "(internal/reflectlite.Value).Set"], unfollowed := true, recurses := true, named := ["errors.errorType"], apart := false, laid := [("errors.errorType", laid_errors_errorType)] }
def ValueBytesSaid : Prop := valueBytesRow.holds Tryd.pinned (OpenSpec.ofChange valueBytesSpec)

/-- ITS FALSE NEIGHBOUR: 'it returns false'. Refute it at one input. -/
def valueBytesWrong : ChangeSpec := { name := "valueBytes", fn := fun _ => fun
  | [d] => { results := [.lit (.bool false)], args := [d] }
  | _ => none }
def ValueBytesWrongFalsely : Prop := valueBytesRow.holds Tryd.pinned (OpenSpec.ofChange valueBytesWrong)

/- THE SECOND FORM. 'bulk': how many values and letters a reading holds, each counted each time it is reached (what is shared counts as often as it is met; a slice's spare places count too). A statement '..UptoSaid' is the law's where the arguments, and the package variables that the reading takes, are together of bulk at most 1048576: NARROWER than '..Said'. Prove '..Said' where nothing that the law and all that it calls make is longer than what came in: it says more and counts as full. Else prove '..UptoSaid'. A law counts once. -/
mutual
def uptoBulk {H : Type} : DataW H → Nat
  | .lit (.string bytes) => bytes.length + 1
  | .lit _ => 1
  | .nil => 1
  | .ptr d => uptoBulk d + 1
  | .slice elems spare => uptoBulkAll elems + uptoBulkAll spare + 1
  | .agg parts => uptoBulkAll parts + 1
  | .iface _ d => uptoBulk d + 1
  | .map entries => uptoBulkEntries entries + 1
  | .held _ => 1
def uptoBulkAll {H : Type} : List (DataW H) → Nat
  | [] => 0
  | d :: r => uptoBulk d + uptoBulkAll r
def uptoBulkEntries {H : Type} : List (Lit × DataW H) → Nat
  | [] => 0
  | x :: r => uptoBulkEntry x + uptoBulkEntries r
def uptoBulkEntry {H : Type} : Lit × DataW H → Nat
  | (.string bytes, d) => bytes.length + uptoBulk d + 1
  | (_, d) => uptoBulk d + 1
 end
def uptoSmall : (H : Type) → List (DataW H) → Bool := fun _ ds => decide (uptoBulkAll ds ≤ 1048576)
def OpenSpec.upto (s : _root_.Go.ChangeSpec) : _root_.Go.OpenSpec := { _root_.Go.OpenSpec.ofChange s with cond := some uptoSmall }

/-- 'cachewiselaw15.ValueLatest', WHERE WHAT IT READS IS OF BULK AT MOST 1048576: true; the input reads as it did. -/
def valueLatestUptoRow : OpenClaim := { program := "ytnijaeipkbpibaadoor", sum := "0015eb2ac23dcb0e22241d09ebd7374a148f244015ee496bc2400d8cdc4629e1", func := "cachewise/cachewiselaw15.ValueLatest", spec := "valueLatest", inPlace := ["internal/reflectlite.ValueOf", "(internal/reflectlite.Value).Type", "(internal/reflectlite.Value).IsNil", "internal/reflectlite.TypeOf", "(internal/reflectlite.Value).Elem", "(internal/reflectlite.Value).Set"], unfollowed := true, recurses := true, named := ["errors.errorType"], apart := false, laid := [("errors.errorType", laid_errors_errorType)], narrowed := true }
def ValueLatestUptoSaid : Prop := valueLatestUptoRow.holds Tryd.pinned (OpenSpec.upto valueLatestSpec)

/-- 'cachewiselaw15.ValueForever', WHERE WHAT IT READS IS OF BULK AT MOST 1048576: true; the input reads as it did. -/
def valueForeverUptoRow : OpenClaim := { program := "ytnijaeipkbpibaadoor", sum := "0015eb2ac23dcb0e22241d09ebd7374a148f244015ee496bc2400d8cdc4629e1", func := "cachewise/cachewiselaw15.ValueForever", spec := "valueForever", inPlace := ["internal/reflectlite.ValueOf", "(internal/reflectlite.Value).Type", "(internal/reflectlite.Value).IsNil", "internal/reflectlite.TypeOf", "(internal/reflectlite.Value).Elem", "(internal/reflectlite.Value).Set"], unfollowed := true, recurses := true, named := ["errors.errorType"], apart := false, laid := [("errors.errorType", laid_errors_errorType)], narrowed := true }
def ValueForeverUptoSaid : Prop := valueForeverUptoRow.holds Tryd.pinned (OpenSpec.upto valueForeverSpec)

/-- 'cachewiselaw15.ValueExpires', WHERE WHAT IT READS IS OF BULK AT MOST 1048576: true; the input reads as it did. -/
def valueExpiresUptoRow : OpenClaim := { program := "ytnijaeipkbpibaadoor", sum := "0015eb2ac23dcb0e22241d09ebd7374a148f244015ee496bc2400d8cdc4629e1", func := "cachewise/cachewiselaw15.ValueExpires", spec := "valueExpires", inPlace := ["internal/reflectlite.ValueOf", "(internal/reflectlite.Value).Type", "(internal/reflectlite.Value).IsNil", "internal/reflectlite.TypeOf", "(internal/reflectlite.Value).Elem", "(internal/reflectlite.Value).Set"], unfollowed := true, recurses := true, named := ["errors.errorType"], apart := false, laid := [("errors.errorType", laid_errors_errorType)], narrowed := true }
def ValueExpiresUptoSaid : Prop := valueExpiresUptoRow.holds Tryd.pinned (OpenSpec.upto valueExpiresSpec)

/-- 'cachewiselaw15.ValuePlays', WHERE WHAT IT READS IS OF BULK AT MOST 1048576: true; the input reads as it did. -/
def valuePlaysUptoRow : OpenClaim := { program := "ytnijaeipkbpibaadoor", sum := "0015eb2ac23dcb0e22241d09ebd7374a148f244015ee496bc2400d8cdc4629e1", func := "cachewise/cachewiselaw15.ValuePlays", spec := "valuePlays", inPlace := ["internal/reflectlite.ValueOf", "(internal/reflectlite.Value).Type", "(internal/reflectlite.Value).IsNil", "internal/reflectlite.TypeOf", "(internal/reflectlite.Value).Elem", "(internal/reflectlite.Value).Set"], unfollowed := true, recurses := true, named := ["errors.errorType"], apart := false, laid := [("errors.errorType", laid_errors_errorType)], narrowed := true }
def ValuePlaysUptoSaid : Prop := valuePlaysUptoRow.holds Tryd.pinned (OpenSpec.upto valuePlaysSpec)

/-- 'cachewiselaw15.ValueBytes', WHERE WHAT IT READS IS OF BULK AT MOST 1048576: true; the input reads as it did. -/
def valueBytesUptoRow : OpenClaim := { program := "ytnijaeipkbpibaadoor", sum := "0015eb2ac23dcb0e22241d09ebd7374a148f244015ee496bc2400d8cdc4629e1", func := "cachewise/cachewiselaw15.ValueBytes", spec := "valueBytes", inPlace := ["internal/reflectlite.ValueOf", "(internal/reflectlite.Value).Type", "(internal/reflectlite.Value).IsNil", "internal/reflectlite.TypeOf", "(internal/reflectlite.Value).Elem", "(internal/reflectlite.Value).Set"], unfollowed := true, recurses := true, named := ["errors.errorType"], apart := false, laid := [("errors.errorType", laid_errors_errorType)], narrowed := true }
def ValueBytesUptoSaid : Prop := valueBytesUptoRow.holds Tryd.pinned (OpenSpec.upto valueBytesSpec)

end Rows
end Go.Proofs.YtnijaeipkbpibaaDoor
