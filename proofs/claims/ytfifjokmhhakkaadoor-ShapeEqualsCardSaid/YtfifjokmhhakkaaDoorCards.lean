/-
  DERIVED. GIVEN WITH THE SEED: THE CARDS: each row of YtfifjokmhhakkaaDoorRows.lean that lists a variable, with what it lists TIED to the program's text (the seventh form; the later family's looks); each row that meets fmt, with fmt's text TOLD by the authors' own Lean function (tested against real Go, not proved from fmt's source: count such statements apart). THE CARD IS WHAT COUNTS. Prove the row's statement (the work); the ties are given (YtfifjokmhhakkaaDoorTie.lean); close each card by the builder's one call (the guide's Derived/Test/ToyasCard.lean, 'card_holds'). Laid BY PROGRAM, IN A SANDBOX (cutbox-door.mjs). By AI agents, Wed Nov 11 2026. No macro, syntax, notation, axiom, sorry.
-/
import Derived.Test.YtfifjokmhhakkaaDoorRows
import GoSem.ClaimSeven
namespace Go.Proofs.YtfifjokmhhakkaaDoor
namespace Rows

/-- THE TIED CARD OF 'intarsialaw02.ShapeStrides'. -/
def shapeStridesCard : Claim7 := { stood := { row := shapeStridesRow, standIns := [], harness := (true, "161efbc76d550eab685ed44d2459be9b3e20bd7f4ba17efcb0d9d8fa343370f9"), looks := false }, kinds := [], alts := [], laidByText := true, laidKinds := [.data, .data, .data], laidTests := true, laidLooks := .later }
def ShapeStridesCardSaid : Prop := Claim7.holds Tryd.pinned (.plain (OpenSpec.ofChange shapeStridesSpec)) shapeStridesCard

/-- THE TIED CARD OF 'intarsialaw02.ShapeEquals'. -/
def shapeEqualsCard : Claim7 := { stood := { row := shapeEqualsRow, standIns := [], harness := (true, "161efbc76d550eab685ed44d2459be9b3e20bd7f4ba17efcb0d9d8fa343370f9"), looks := false }, kinds := [], alts := [], laidByText := true, laidKinds := [.data, .data, .data], laidTests := true, laidLooks := .later }
def ShapeEqualsCardSaid : Prop := Claim7.holds Tryd.pinned (.plain (OpenSpec.ofChange shapeEqualsSpec)) shapeEqualsCard

/-- THE TIED CARD OF 'intarsialaw02.ShapeRight'. -/
def shapeRightCard : Claim7 := { stood := { row := shapeRightRow, standIns := [], harness := (true, "161efbc76d550eab685ed44d2459be9b3e20bd7f4ba17efcb0d9d8fa343370f9"), looks := false }, kinds := [], alts := [], laidByText := true, laidKinds := [.data, .data, .data], laidTests := true, laidLooks := .later }
def ShapeRightCardSaid : Prop := Claim7.holds Tryd.pinned (.plain (OpenSpec.ofChange shapeRightSpec)) shapeRightCard

/-- THE TIED CARD OF 'intarsialaw02.ShapeEdits'. -/
def shapeEditsCard : Claim7 := { stood := { row := shapeEditsRow, standIns := [], harness := (true, "161efbc76d550eab685ed44d2459be9b3e20bd7f4ba17efcb0d9d8fa343370f9"), looks := false }, kinds := [], alts := [], laidByText := true, laidKinds := [.data, .data, .data], laidTests := true, laidLooks := .later }
def ShapeEditsCardSaid : Prop := Claim7.holds Tryd.pinned (.plain (OpenSpec.ofChange shapeEditsSpec)) shapeEditsCard

/-- THE TIED CARD OF 'intarsialaw02.ShapeInverts'. -/
def shapeInvertsCard : Claim7 := { stood := { row := shapeInvertsRow, standIns := [], harness := (true, "161efbc76d550eab685ed44d2459be9b3e20bd7f4ba17efcb0d9d8fa343370f9"), looks := false }, kinds := [], alts := [], laidByText := true, laidKinds := [.data, .data, .data], laidTests := true, laidLooks := .later }
def ShapeInvertsCardSaid : Prop := Claim7.holds Tryd.pinned (.plain (OpenSpec.ofChange shapeInvertsSpec)) shapeInvertsCard

/-- THE SECOND FORM's CARD OF 'intarsialaw02.ShapeStrides'. -/
def shapeStridesUptoCard : Claim7 := { stood := { row := shapeStridesUptoRow, standIns := [], harness := (true, "161efbc76d550eab685ed44d2459be9b3e20bd7f4ba17efcb0d9d8fa343370f9"), looks := false }, kinds := [], alts := [], laidByText := true, laidKinds := [.data, .data, .data], laidTests := true, laidLooks := .later }
def ShapeStridesUptoCardSaid : Prop := Claim7.holds Tryd.pinned (.plain (OpenSpec.upto shapeStridesSpec)) shapeStridesUptoCard

/-- THE SECOND FORM's CARD OF 'intarsialaw02.ShapeEquals'. -/
def shapeEqualsUptoCard : Claim7 := { stood := { row := shapeEqualsUptoRow, standIns := [], harness := (true, "161efbc76d550eab685ed44d2459be9b3e20bd7f4ba17efcb0d9d8fa343370f9"), looks := false }, kinds := [], alts := [], laidByText := true, laidKinds := [.data, .data, .data], laidTests := true, laidLooks := .later }
def ShapeEqualsUptoCardSaid : Prop := Claim7.holds Tryd.pinned (.plain (OpenSpec.upto shapeEqualsSpec)) shapeEqualsUptoCard

/-- THE SECOND FORM's CARD OF 'intarsialaw02.ShapeRight'. -/
def shapeRightUptoCard : Claim7 := { stood := { row := shapeRightUptoRow, standIns := [], harness := (true, "161efbc76d550eab685ed44d2459be9b3e20bd7f4ba17efcb0d9d8fa343370f9"), looks := false }, kinds := [], alts := [], laidByText := true, laidKinds := [.data, .data, .data], laidTests := true, laidLooks := .later }
def ShapeRightUptoCardSaid : Prop := Claim7.holds Tryd.pinned (.plain (OpenSpec.upto shapeRightSpec)) shapeRightUptoCard

/-- THE SECOND FORM's CARD OF 'intarsialaw02.ShapeEdits'. -/
def shapeEditsUptoCard : Claim7 := { stood := { row := shapeEditsUptoRow, standIns := [], harness := (true, "161efbc76d550eab685ed44d2459be9b3e20bd7f4ba17efcb0d9d8fa343370f9"), looks := false }, kinds := [], alts := [], laidByText := true, laidKinds := [.data, .data, .data], laidTests := true, laidLooks := .later }
def ShapeEditsUptoCardSaid : Prop := Claim7.holds Tryd.pinned (.plain (OpenSpec.upto shapeEditsSpec)) shapeEditsUptoCard

/-- THE SECOND FORM's CARD OF 'intarsialaw02.ShapeInverts'. -/
def shapeInvertsUptoCard : Claim7 := { stood := { row := shapeInvertsUptoRow, standIns := [], harness := (true, "161efbc76d550eab685ed44d2459be9b3e20bd7f4ba17efcb0d9d8fa343370f9"), looks := false }, kinds := [], alts := [], laidByText := true, laidKinds := [.data, .data, .data], laidTests := true, laidLooks := .later }
def ShapeInvertsUptoCardSaid : Prop := Claim7.holds Tryd.pinned (.plain (OpenSpec.upto shapeInvertsSpec)) shapeInvertsUptoCard
end Rows
end Go.Proofs.YtfifjokmhhakkaaDoor
