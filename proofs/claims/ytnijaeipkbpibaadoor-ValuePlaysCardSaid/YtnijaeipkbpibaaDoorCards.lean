/-
  DERIVED. GIVEN WITH THE SEED: THE CARDS: each row of YtnijaeipkbpibaaDoorRows.lean that lists a variable, with what it lists TIED to the program's text (the seventh form; the later family's looks); each row that meets fmt, with fmt's text TOLD by the authors' own Lean function (tested against real Go, not proved from fmt's source: count such statements apart). THE CARD IS WHAT COUNTS. Prove the row's statement (the work); the ties are given (YtnijaeipkbpibaaDoorTie.lean); close each card by the builder's one call (the guide's Derived/Test/ToyasCard.lean, 'card_holds'). Laid BY PROGRAM, IN A SANDBOX (cutbox-door.mjs). By AI agents, Wed Nov 11 2026. No macro, syntax, notation, axiom, sorry.
-/
import Derived.Test.YtnijaeipkbpibaaDoorRows
import GoSem.ClaimSeven
namespace Go.Proofs.YtnijaeipkbpibaaDoor
namespace Rows

/-- THE TIED CARD OF 'cachewiselaw15.ValueLatest'. -/
def valueLatestCard : Claim7 := { stood := { row := valueLatestRow, standIns := [], harness := (true, "21e66758dea0cc604de241544d5a6bac71f7fb4f7fc277ef7155f3f91492f52b"), looks := true }, kinds := [], alts := [], laidByText := true, laidKinds := [.handle], laidTests := true, laidLooks := .later }
def ValueLatestCardSaid : Prop := Claim7.holds Tryd.pinned (.plain (OpenSpec.ofChange valueLatestSpec)) valueLatestCard

/-- THE TIED CARD OF 'cachewiselaw15.ValueForever'. -/
def valueForeverCard : Claim7 := { stood := { row := valueForeverRow, standIns := [], harness := (true, "21e66758dea0cc604de241544d5a6bac71f7fb4f7fc277ef7155f3f91492f52b"), looks := true }, kinds := [], alts := [], laidByText := true, laidKinds := [.handle], laidTests := true, laidLooks := .later }
def ValueForeverCardSaid : Prop := Claim7.holds Tryd.pinned (.plain (OpenSpec.ofChange valueForeverSpec)) valueForeverCard

/-- THE TIED CARD OF 'cachewiselaw15.ValueExpires'. -/
def valueExpiresCard : Claim7 := { stood := { row := valueExpiresRow, standIns := [], harness := (true, "21e66758dea0cc604de241544d5a6bac71f7fb4f7fc277ef7155f3f91492f52b"), looks := true }, kinds := [], alts := [], laidByText := true, laidKinds := [.handle], laidTests := true, laidLooks := .later }
def ValueExpiresCardSaid : Prop := Claim7.holds Tryd.pinned (.plain (OpenSpec.ofChange valueExpiresSpec)) valueExpiresCard

/-- THE TIED CARD OF 'cachewiselaw15.ValuePlays'. -/
def valuePlaysCard : Claim7 := { stood := { row := valuePlaysRow, standIns := [], harness := (true, "21e66758dea0cc604de241544d5a6bac71f7fb4f7fc277ef7155f3f91492f52b"), looks := true }, kinds := [], alts := [], laidByText := true, laidKinds := [.handle], laidTests := true, laidLooks := .later }
def ValuePlaysCardSaid : Prop := Claim7.holds Tryd.pinned (.plain (OpenSpec.ofChange valuePlaysSpec)) valuePlaysCard

/-- THE TIED CARD OF 'cachewiselaw15.ValueBytes'. -/
def valueBytesCard : Claim7 := { stood := { row := valueBytesRow, standIns := [], harness := (true, "21e66758dea0cc604de241544d5a6bac71f7fb4f7fc277ef7155f3f91492f52b"), looks := true }, kinds := [], alts := [], laidByText := true, laidKinds := [.handle], laidTests := true, laidLooks := .later }
def ValueBytesCardSaid : Prop := Claim7.holds Tryd.pinned (.plain (OpenSpec.ofChange valueBytesSpec)) valueBytesCard

/-- THE SECOND FORM's CARD OF 'cachewiselaw15.ValueLatest'. -/
def valueLatestUptoCard : Claim7 := { stood := { row := valueLatestUptoRow, standIns := [], harness := (true, "21e66758dea0cc604de241544d5a6bac71f7fb4f7fc277ef7155f3f91492f52b"), looks := true }, kinds := [], alts := [], laidByText := true, laidKinds := [.handle], laidTests := true, laidLooks := .later }
def ValueLatestUptoCardSaid : Prop := Claim7.holds Tryd.pinned (.plain (OpenSpec.upto valueLatestSpec)) valueLatestUptoCard

/-- THE SECOND FORM's CARD OF 'cachewiselaw15.ValueForever'. -/
def valueForeverUptoCard : Claim7 := { stood := { row := valueForeverUptoRow, standIns := [], harness := (true, "21e66758dea0cc604de241544d5a6bac71f7fb4f7fc277ef7155f3f91492f52b"), looks := true }, kinds := [], alts := [], laidByText := true, laidKinds := [.handle], laidTests := true, laidLooks := .later }
def ValueForeverUptoCardSaid : Prop := Claim7.holds Tryd.pinned (.plain (OpenSpec.upto valueForeverSpec)) valueForeverUptoCard

/-- THE SECOND FORM's CARD OF 'cachewiselaw15.ValueExpires'. -/
def valueExpiresUptoCard : Claim7 := { stood := { row := valueExpiresUptoRow, standIns := [], harness := (true, "21e66758dea0cc604de241544d5a6bac71f7fb4f7fc277ef7155f3f91492f52b"), looks := true }, kinds := [], alts := [], laidByText := true, laidKinds := [.handle], laidTests := true, laidLooks := .later }
def ValueExpiresUptoCardSaid : Prop := Claim7.holds Tryd.pinned (.plain (OpenSpec.upto valueExpiresSpec)) valueExpiresUptoCard

/-- THE SECOND FORM's CARD OF 'cachewiselaw15.ValuePlays'. -/
def valuePlaysUptoCard : Claim7 := { stood := { row := valuePlaysUptoRow, standIns := [], harness := (true, "21e66758dea0cc604de241544d5a6bac71f7fb4f7fc277ef7155f3f91492f52b"), looks := true }, kinds := [], alts := [], laidByText := true, laidKinds := [.handle], laidTests := true, laidLooks := .later }
def ValuePlaysUptoCardSaid : Prop := Claim7.holds Tryd.pinned (.plain (OpenSpec.upto valuePlaysSpec)) valuePlaysUptoCard

/-- THE SECOND FORM's CARD OF 'cachewiselaw15.ValueBytes'. -/
def valueBytesUptoCard : Claim7 := { stood := { row := valueBytesUptoRow, standIns := [], harness := (true, "21e66758dea0cc604de241544d5a6bac71f7fb4f7fc277ef7155f3f91492f52b"), looks := true }, kinds := [], alts := [], laidByText := true, laidKinds := [.handle], laidTests := true, laidLooks := .later }
def ValueBytesUptoCardSaid : Prop := Claim7.holds Tryd.pinned (.plain (OpenSpec.upto valueBytesSpec)) valueBytesUptoCard
end Rows
end Go.Proofs.YtnijaeipkbpibaaDoor
