/-
  No cell of these rows narrows 'for every input' (looked for: loops, veiled, ifaces, maps, wideKeys, modest, calm, conditions, laid).
  DERIVED. THE GIVEN ROWS OF THIS SEAT. 15 by the template 'for every input the law returns true; each argument reads behind the call as it read before'; 0 by the template 'total and deterministic' (their statements: YthkfjdhakbjllaaTotals.lean).
  GIVEN WITH THE SEED: the statements are not yours to turn. If you find one false, say at which input.
  Laid BY PROGRAM, IN A SANDBOX (cutbox-rows.mjs): the forced cells as the released guide's own fill.sh prints them over the translation fdd7b797102acdfc… (all of the seat's roots in one cut). By AI agents, Wed Nov 11 2026. No macro, syntax, notation, axiom, sorry.
-/
import Derived.Test.YthkfjdhakbjllaaChecked
import GoSem.Claim
import GoSem.ClaimJoined
import GoSem.ClaimMapViews
import Derived.JoinedTies
import Derived.KernelRfl
namespace Go.Proofs.Ythkfjdhakbjllaa
/- THE CELL 'sum', in the pinned program and in every row, IS THE sha256 OF THE DUMP (.gsa) THAT YthkfjdhakbjllaaProg.lean LOADS. Nothing in Lean hashes anything: it is a label: what it is worth is what the hold of that sum in a sandbox is worth. -/
noncomputable def Try.pinned : Pinned := { name := "ythkfjdhakbjllaa", sum := "fdd7b797102acdfc1fc9a836c9a4939d9a67ce5807a6325df8bc1e68fb70753a", checked := Try.checked }
namespace Rows
def none {H : Type} : Left H := { results := [], args := [] }

/-- 'intarsialaw03.GammaMatchesReference': WHATEVER THE INPUT: true; the input reads as it did. -/
def gammaMatchesReferenceSpec : ChangeSpec := { name := "gammaMatchesReference", fn := fun _ => fun
  | [d1, d2, d3] => { results := [.lit (.bool true)], args := [d1, d2, d3] }
  | _ => none }
def gammaMatchesReferenceRow : OpenClaim := { program := "ythkfjdhakbjllaa", sum := "fdd7b797102acdfc1fc9a836c9a4939d9a67ce5807a6325df8bc1e68fb70753a", func := "intarsia/intarsialaw03.GammaMatchesReference", spec := "gammaMatchesReference", unfollowed := true, recurses := true, apart := false }
def GammaMatchesReferenceSaid : Prop := gammaMatchesReferenceRow.holds Try.pinned (OpenSpec.ofChange gammaMatchesReferenceSpec)

/-- ITS FALSE NEIGHBOUR: 'it returns false'. Refute it at one input. -/
def gammaMatchesReferenceWrong : ChangeSpec := { name := "gammaMatchesReference", fn := fun _ => fun
  | [d1, d2, d3] => { results := [.lit (.bool false)], args := [d1, d2, d3] }
  | _ => none }
def GammaMatchesReferenceWrongFalsely : Prop := gammaMatchesReferenceRow.holds Try.pinned (OpenSpec.ofChange gammaMatchesReferenceWrong)

/-- 'intarsialaw03.GammaDots': WHATEVER THE INPUT: true; the input reads as it did. -/
def gammaDotsSpec : ChangeSpec := { name := "gammaDots", fn := fun _ => fun
  | [d1, d2, d3, d4] => { results := [.lit (.bool true)], args := [d1, d2, d3, d4] }
  | _ => none }
def gammaDotsRow : OpenClaim := { program := "ythkfjdhakbjllaa", sum := "fdd7b797102acdfc1fc9a836c9a4939d9a67ce5807a6325df8bc1e68fb70753a", func := "intarsia/intarsialaw03.GammaDots", spec := "gammaDots", unfollowed := true, recurses := true, apart := false }
def GammaDotsSaid : Prop := gammaDotsRow.holds Try.pinned (OpenSpec.ofChange gammaDotsSpec)

/-- ITS FALSE NEIGHBOUR: 'it returns false'. Refute it at one input. -/
def gammaDotsWrong : ChangeSpec := { name := "gammaDots", fn := fun _ => fun
  | [d1, d2, d3, d4] => { results := [.lit (.bool false)], args := [d1, d2, d3, d4] }
  | _ => none }
def GammaDotsWrongFalsely : Prop := gammaDotsRow.holds Try.pinned (OpenSpec.ofChange gammaDotsWrong)

/-- 'intarsialaw03.GammaReshapes': WHATEVER THE INPUT: true; the input reads as it did. -/
def gammaReshapesSpec : ChangeSpec := { name := "gammaReshapes", fn := fun _ => fun
  | [d1, d2, d3] => { results := [.lit (.bool true)], args := [d1, d2, d3] }
  | _ => none }
def gammaReshapesRow : OpenClaim := { program := "ythkfjdhakbjllaa", sum := "fdd7b797102acdfc1fc9a836c9a4939d9a67ce5807a6325df8bc1e68fb70753a", func := "intarsia/intarsialaw03.GammaReshapes", spec := "gammaReshapes", unfollowed := true, recurses := true, apart := false }
def GammaReshapesSaid : Prop := gammaReshapesRow.holds Try.pinned (OpenSpec.ofChange gammaReshapesSpec)

/-- ITS FALSE NEIGHBOUR: 'it returns false'. Refute it at one input. -/
def gammaReshapesWrong : ChangeSpec := { name := "gammaReshapes", fn := fun _ => fun
  | [d1, d2, d3] => { results := [.lit (.bool false)], args := [d1, d2, d3] }
  | _ => none }
def GammaReshapesWrongFalsely : Prop := gammaReshapesRow.holds Try.pinned (OpenSpec.ofChange gammaReshapesWrong)

/-- 'intarsialaw03.GammaOrders': WHATEVER THE INPUT: true; the input reads as it did. -/
def gammaOrdersSpec : ChangeSpec := { name := "gammaOrders", fn := fun _ => fun
  | [d1, d2, d3] => { results := [.lit (.bool true)], args := [d1, d2, d3] }
  | _ => none }
def gammaOrdersRow : OpenClaim := { program := "ythkfjdhakbjllaa", sum := "fdd7b797102acdfc1fc9a836c9a4939d9a67ce5807a6325df8bc1e68fb70753a", func := "intarsia/intarsialaw03.GammaOrders", spec := "gammaOrders", unfollowed := true, recurses := true, apart := false }
def GammaOrdersSaid : Prop := gammaOrdersRow.holds Try.pinned (OpenSpec.ofChange gammaOrdersSpec)

/-- ITS FALSE NEIGHBOUR: 'it returns false'. Refute it at one input. -/
def gammaOrdersWrong : ChangeSpec := { name := "gammaOrders", fn := fun _ => fun
  | [d1, d2, d3] => { results := [.lit (.bool false)], args := [d1, d2, d3] }
  | _ => none }
def GammaOrdersWrongFalsely : Prop := gammaOrdersRow.holds Try.pinned (OpenSpec.ofChange gammaOrdersWrong)

/-- 'intarsialaw05.ArrayChecks': WHATEVER THE INPUT: true; the input reads as it did. -/
def arrayChecksSpec : ChangeSpec := { name := "arrayChecks", fn := fun _ => fun
  | [d] => { results := [.lit (.bool true)], args := [d] }
  | _ => none }
def arrayChecksRow : OpenClaim := { program := "ythkfjdhakbjllaa", sum := "fdd7b797102acdfc1fc9a836c9a4939d9a67ce5807a6325df8bc1e68fb70753a", func := "intarsia/intarsialaw05.ArrayChecks", spec := "arrayChecks", unfollowed := true, recurses := true, apart := false }
def ArrayChecksSaid : Prop := arrayChecksRow.holds Try.pinned (OpenSpec.ofChange arrayChecksSpec)

/-- ITS FALSE NEIGHBOUR: 'it returns false'. Refute it at one input. -/
def arrayChecksWrong : ChangeSpec := { name := "arrayChecks", fn := fun _ => fun
  | [d] => { results := [.lit (.bool false)], args := [d] }
  | _ => none }
def ArrayChecksWrongFalsely : Prop := arrayChecksRow.holds Try.pinned (OpenSpec.ofChange arrayChecksWrong)

/-- 'intarsialaw05.ArrayCells': WHATEVER THE INPUT: true; the input reads as it did. -/
def arrayCellsSpec : ChangeSpec := { name := "arrayCells", fn := fun _ => fun
  | [d1, d2] => { results := [.lit (.bool true)], args := [d1, d2] }
  | _ => none }
def arrayCellsRow : OpenClaim := { program := "ythkfjdhakbjllaa", sum := "fdd7b797102acdfc1fc9a836c9a4939d9a67ce5807a6325df8bc1e68fb70753a", func := "intarsia/intarsialaw05.ArrayCells", spec := "arrayCells", unfollowed := true, recurses := true, apart := false }
def ArrayCellsSaid : Prop := arrayCellsRow.holds Try.pinned (OpenSpec.ofChange arrayCellsSpec)

/-- ITS FALSE NEIGHBOUR: 'it returns false'. Refute it at one input. -/
def arrayCellsWrong : ChangeSpec := { name := "arrayCells", fn := fun _ => fun
  | [d1, d2] => { results := [.lit (.bool false)], args := [d1, d2] }
  | _ => none }
def ArrayCellsWrongFalsely : Prop := arrayCellsRow.holds Try.pinned (OpenSpec.ofChange arrayCellsWrong)

/-- 'intarsialaw05.ArrayEquals': WHATEVER THE INPUT: true; the input reads as it did. -/
def arrayEqualsSpec : ChangeSpec := { name := "arrayEquals", fn := fun _ => fun
  | [d1, d2, d3] => { results := [.lit (.bool true)], args := [d1, d2, d3] }
  | _ => none }
def arrayEqualsRow : OpenClaim := { program := "ythkfjdhakbjllaa", sum := "fdd7b797102acdfc1fc9a836c9a4939d9a67ce5807a6325df8bc1e68fb70753a", func := "intarsia/intarsialaw05.ArrayEquals", spec := "arrayEquals", unfollowed := true, recurses := true, apart := false }
def ArrayEqualsSaid : Prop := arrayEqualsRow.holds Try.pinned (OpenSpec.ofChange arrayEqualsSpec)

/-- ITS FALSE NEIGHBOUR: 'it returns false'. Refute it at one input. -/
def arrayEqualsWrong : ChangeSpec := { name := "arrayEquals", fn := fun _ => fun
  | [d1, d2, d3] => { results := [.lit (.bool false)], args := [d1, d2, d3] }
  | _ => none }
def ArrayEqualsWrongFalsely : Prop := arrayEqualsRow.holds Try.pinned (OpenSpec.ofChange arrayEqualsWrong)

/-- 'intarsialaw05.ArrayTabulates': WHATEVER THE INPUT: true; the input reads as it did. -/
def arrayTabulatesSpec : ChangeSpec := { name := "arrayTabulates", fn := fun _ => fun
  | [d] => { results := [.lit (.bool true)], args := [d] }
  | _ => none }
def arrayTabulatesRow : OpenClaim := { program := "ythkfjdhakbjllaa", sum := "fdd7b797102acdfc1fc9a836c9a4939d9a67ce5807a6325df8bc1e68fb70753a", func := "intarsia/intarsialaw05.ArrayTabulates", spec := "arrayTabulates", unfollowed := true, recurses := true, apart := false }
def ArrayTabulatesSaid : Prop := arrayTabulatesRow.holds Try.pinned (OpenSpec.ofChange arrayTabulatesSpec)

/-- ITS FALSE NEIGHBOUR: 'it returns false'. Refute it at one input. -/
def arrayTabulatesWrong : ChangeSpec := { name := "arrayTabulates", fn := fun _ => fun
  | [d] => { results := [.lit (.bool false)], args := [d] }
  | _ => none }
def ArrayTabulatesWrongFalsely : Prop := arrayTabulatesRow.holds Try.pinned (OpenSpec.ofChange arrayTabulatesWrong)

/-- 'intarsialaw05.ArrayKeeps': WHATEVER THE INPUT: true; the input reads as it did. -/
def arrayKeepsSpec : ChangeSpec := { name := "arrayKeeps", fn := fun _ => fun
  | [d] => { results := [.lit (.bool true)], args := [d] }
  | _ => none }
def arrayKeepsRow : OpenClaim := { program := "ythkfjdhakbjllaa", sum := "fdd7b797102acdfc1fc9a836c9a4939d9a67ce5807a6325df8bc1e68fb70753a", func := "intarsia/intarsialaw05.ArrayKeeps", spec := "arrayKeeps", unfollowed := true, recurses := true, apart := false }
def ArrayKeepsSaid : Prop := arrayKeepsRow.holds Try.pinned (OpenSpec.ofChange arrayKeepsSpec)

/-- ITS FALSE NEIGHBOUR: 'it returns false'. Refute it at one input. -/
def arrayKeepsWrong : ChangeSpec := { name := "arrayKeeps", fn := fun _ => fun
  | [d] => { results := [.lit (.bool false)], args := [d] }
  | _ => none }
def ArrayKeepsWrongFalsely : Prop := arrayKeepsRow.holds Try.pinned (OpenSpec.ofChange arrayKeepsWrong)

/-- 'intarsialaw06.BoxMatchesReference': WHATEVER THE INPUT: true; the input reads as it did. -/
def boxMatchesReferenceSpec : ChangeSpec := { name := "boxMatchesReference", fn := fun _ => fun
  | [d1, d2, d3] => { results := [.lit (.bool true)], args := [d1, d2, d3] }
  | _ => none }
def boxMatchesReferenceRow : OpenClaim := { program := "ythkfjdhakbjllaa", sum := "fdd7b797102acdfc1fc9a836c9a4939d9a67ce5807a6325df8bc1e68fb70753a", func := "intarsia/intarsialaw06.BoxMatchesReference", spec := "boxMatchesReference", unfollowed := true, recurses := true, apart := false }
def BoxMatchesReferenceSaid : Prop := boxMatchesReferenceRow.holds Try.pinned (OpenSpec.ofChange boxMatchesReferenceSpec)

/-- ITS FALSE NEIGHBOUR: 'it returns false'. Refute it at one input. -/
def boxMatchesReferenceWrong : ChangeSpec := { name := "boxMatchesReference", fn := fun _ => fun
  | [d1, d2, d3] => { results := [.lit (.bool false)], args := [d1, d2, d3] }
  | _ => none }
def BoxMatchesReferenceWrongFalsely : Prop := boxMatchesReferenceRow.holds Try.pinned (OpenSpec.ofChange boxMatchesReferenceWrong)

/-- 'intarsialaw06.BoxCuts': WHATEVER THE INPUT: true; the input reads as it did. -/
def boxCutsSpec : ChangeSpec := { name := "boxCuts", fn := fun _ => fun
  | [d1, d2] => { results := [.lit (.bool true)], args := [d1, d2] }
  | _ => none }
def boxCutsRow : OpenClaim := { program := "ythkfjdhakbjllaa", sum := "fdd7b797102acdfc1fc9a836c9a4939d9a67ce5807a6325df8bc1e68fb70753a", func := "intarsia/intarsialaw06.BoxCuts", spec := "boxCuts", unfollowed := true, recurses := true, apart := false }
def BoxCutsSaid : Prop := boxCutsRow.holds Try.pinned (OpenSpec.ofChange boxCutsSpec)

/-- ITS FALSE NEIGHBOUR: 'it returns false'. Refute it at one input. -/
def boxCutsWrong : ChangeSpec := { name := "boxCuts", fn := fun _ => fun
  | [d1, d2] => { results := [.lit (.bool false)], args := [d1, d2] }
  | _ => none }
def BoxCutsWrongFalsely : Prop := boxCutsRow.holds Try.pinned (OpenSpec.ofChange boxCutsWrong)

/-- 'intarsialaw06.BoxShifts': WHATEVER THE INPUT: true; the input reads as it did. -/
def boxShiftsSpec : ChangeSpec := { name := "boxShifts", fn := fun _ => fun
  | [d1, d2, d3] => { results := [.lit (.bool true)], args := [d1, d2, d3] }
  | _ => none }
def boxShiftsRow : OpenClaim := { program := "ythkfjdhakbjllaa", sum := "fdd7b797102acdfc1fc9a836c9a4939d9a67ce5807a6325df8bc1e68fb70753a", func := "intarsia/intarsialaw06.BoxShifts", spec := "boxShifts", unfollowed := true, recurses := true, apart := false }
def BoxShiftsSaid : Prop := boxShiftsRow.holds Try.pinned (OpenSpec.ofChange boxShiftsSpec)

/-- ITS FALSE NEIGHBOUR: 'it returns false'. Refute it at one input. -/
def boxShiftsWrong : ChangeSpec := { name := "boxShifts", fn := fun _ => fun
  | [d1, d2, d3] => { results := [.lit (.bool false)], args := [d1, d2, d3] }
  | _ => none }
def BoxShiftsWrongFalsely : Prop := boxShiftsRow.holds Try.pinned (OpenSpec.ofChange boxShiftsWrong)

/-- 'intarsialaw06.BoxMeets': WHATEVER THE INPUT: true; the input reads as it did. -/
def boxMeetsSpec : ChangeSpec := { name := "boxMeets", fn := fun _ => fun
  | [d1, d2, d3] => { results := [.lit (.bool true)], args := [d1, d2, d3] }
  | _ => none }
def boxMeetsRow : OpenClaim := { program := "ythkfjdhakbjllaa", sum := "fdd7b797102acdfc1fc9a836c9a4939d9a67ce5807a6325df8bc1e68fb70753a", func := "intarsia/intarsialaw06.BoxMeets", spec := "boxMeets", unfollowed := true, recurses := true, apart := false }
def BoxMeetsSaid : Prop := boxMeetsRow.holds Try.pinned (OpenSpec.ofChange boxMeetsSpec)

/-- ITS FALSE NEIGHBOUR: 'it returns false'. Refute it at one input. -/
def boxMeetsWrong : ChangeSpec := { name := "boxMeets", fn := fun _ => fun
  | [d1, d2, d3] => { results := [.lit (.bool false)], args := [d1, d2, d3] }
  | _ => none }
def BoxMeetsWrongFalsely : Prop := boxMeetsRow.holds Try.pinned (OpenSpec.ofChange boxMeetsWrong)

/-- 'intarsialaw17.AccessReads': WHATEVER THE INPUT: true; the input reads as it did. -/
def accessReadsSpec : ChangeSpec := { name := "accessReads", fn := fun _ => fun
  | [d1, d2, d3] => { results := [.lit (.bool true)], args := [d1, d2, d3] }
  | _ => none }
def accessReadsRow : OpenClaim := { program := "ythkfjdhakbjllaa", sum := "fdd7b797102acdfc1fc9a836c9a4939d9a67ce5807a6325df8bc1e68fb70753a", func := "intarsia/intarsialaw17.AccessReads", spec := "accessReads", unfollowed := true, recurses := true, apart := false }
def AccessReadsSaid : Prop := accessReadsRow.holds Try.pinned (OpenSpec.ofChange accessReadsSpec)

/-- ITS FALSE NEIGHBOUR: 'it returns false'. Refute it at one input. -/
def accessReadsWrong : ChangeSpec := { name := "accessReads", fn := fun _ => fun
  | [d1, d2, d3] => { results := [.lit (.bool false)], args := [d1, d2, d3] }
  | _ => none }
def AccessReadsWrongFalsely : Prop := accessReadsRow.holds Try.pinned (OpenSpec.ofChange accessReadsWrong)

/-- 'intarsialaw17.AccessTurns': WHATEVER THE INPUT: true; the input reads as it did. -/
def accessTurnsSpec : ChangeSpec := { name := "accessTurns", fn := fun _ => fun
  | [d1, d2, d3] => { results := [.lit (.bool true)], args := [d1, d2, d3] }
  | _ => none }
def accessTurnsRow : OpenClaim := { program := "ythkfjdhakbjllaa", sum := "fdd7b797102acdfc1fc9a836c9a4939d9a67ce5807a6325df8bc1e68fb70753a", func := "intarsia/intarsialaw17.AccessTurns", spec := "accessTurns", unfollowed := true, recurses := true, apart := false }
def AccessTurnsSaid : Prop := accessTurnsRow.holds Try.pinned (OpenSpec.ofChange accessTurnsSpec)

/-- ITS FALSE NEIGHBOUR: 'it returns false'. Refute it at one input. -/
def accessTurnsWrong : ChangeSpec := { name := "accessTurns", fn := fun _ => fun
  | [d1, d2, d3] => { results := [.lit (.bool false)], args := [d1, d2, d3] }
  | _ => none }
def AccessTurnsWrongFalsely : Prop := accessTurnsRow.holds Try.pinned (OpenSpec.ofChange accessTurnsWrong)

/- THE SECOND FORM. 'bulk': how many values and letters a reading holds, each counted each time it is reached (what is shared counts as often as it is met; a slice's spare places count too). A statement '..UptoSaid' is the law's where the arguments, and the package variables that the reading takes, are together of bulk at most 1048576: NARROWER than '..Said'. Prove '..Said' where nothing that the law and all that it calls make is longer than what came in: it says more and counts as full. Else prove '..UptoSaid'. A law counts once. -/
mutual
def uptoBulk {H : Type} : DataW H → Nat
  | .lit (.string bytes) => bytes.length + 1
  | .lit _ => 1
  | .nil => 1
  | .ptr d => uptoBulk d + 1
  | .slice elems spare => uptoBulkAll elems + uptoBulkAll spare + 1
  | .agg parts => uptoBulkAll parts + 1
  | .iface _ d => uptoBulk d + 1
  | .map entries => uptoBulkEntries entries + 1
  | .held _ => 1
def uptoBulkAll {H : Type} : List (DataW H) → Nat
  | [] => 0
  | d :: r => uptoBulk d + uptoBulkAll r
def uptoBulkEntries {H : Type} : List (Lit × DataW H) → Nat
  | [] => 0
  | x :: r => uptoBulkEntry x + uptoBulkEntries r
def uptoBulkEntry {H : Type} : Lit × DataW H → Nat
  | (.string bytes, d) => bytes.length + uptoBulk d + 1
  | (_, d) => uptoBulk d + 1
 end
def uptoSmall : (H : Type) → List (DataW H) → Bool := fun _ ds => decide (uptoBulkAll ds ≤ 1048576)
def OpenSpec.upto (s : _root_.Go.ChangeSpec) : _root_.Go.OpenSpec := { _root_.Go.OpenSpec.ofChange s with cond := some uptoSmall }

/-- 'intarsialaw03.GammaMatchesReference', WHERE WHAT IT READS IS OF BULK AT MOST 1048576: true; the input reads as it did. -/
def gammaMatchesReferenceUptoRow : OpenClaim := { program := "ythkfjdhakbjllaa", sum := "fdd7b797102acdfc1fc9a836c9a4939d9a67ce5807a6325df8bc1e68fb70753a", func := "intarsia/intarsialaw03.GammaMatchesReference", spec := "gammaMatchesReference", unfollowed := true, recurses := true, apart := false, narrowed := true }
def GammaMatchesReferenceUptoSaid : Prop := gammaMatchesReferenceUptoRow.holds Try.pinned (OpenSpec.upto gammaMatchesReferenceSpec)

/-- 'intarsialaw03.GammaDots', WHERE WHAT IT READS IS OF BULK AT MOST 1048576: true; the input reads as it did. -/
def gammaDotsUptoRow : OpenClaim := { program := "ythkfjdhakbjllaa", sum := "fdd7b797102acdfc1fc9a836c9a4939d9a67ce5807a6325df8bc1e68fb70753a", func := "intarsia/intarsialaw03.GammaDots", spec := "gammaDots", unfollowed := true, recurses := true, apart := false, narrowed := true }
def GammaDotsUptoSaid : Prop := gammaDotsUptoRow.holds Try.pinned (OpenSpec.upto gammaDotsSpec)

/-- 'intarsialaw03.GammaReshapes', WHERE WHAT IT READS IS OF BULK AT MOST 1048576: true; the input reads as it did. -/
def gammaReshapesUptoRow : OpenClaim := { program := "ythkfjdhakbjllaa", sum := "fdd7b797102acdfc1fc9a836c9a4939d9a67ce5807a6325df8bc1e68fb70753a", func := "intarsia/intarsialaw03.GammaReshapes", spec := "gammaReshapes", unfollowed := true, recurses := true, apart := false, narrowed := true }
def GammaReshapesUptoSaid : Prop := gammaReshapesUptoRow.holds Try.pinned (OpenSpec.upto gammaReshapesSpec)

/-- 'intarsialaw03.GammaOrders', WHERE WHAT IT READS IS OF BULK AT MOST 1048576: true; the input reads as it did. -/
def gammaOrdersUptoRow : OpenClaim := { program := "ythkfjdhakbjllaa", sum := "fdd7b797102acdfc1fc9a836c9a4939d9a67ce5807a6325df8bc1e68fb70753a", func := "intarsia/intarsialaw03.GammaOrders", spec := "gammaOrders", unfollowed := true, recurses := true, apart := false, narrowed := true }
def GammaOrdersUptoSaid : Prop := gammaOrdersUptoRow.holds Try.pinned (OpenSpec.upto gammaOrdersSpec)

/-- 'intarsialaw05.ArrayChecks', WHERE WHAT IT READS IS OF BULK AT MOST 1048576: true; the input reads as it did. -/
def arrayChecksUptoRow : OpenClaim := { program := "ythkfjdhakbjllaa", sum := "fdd7b797102acdfc1fc9a836c9a4939d9a67ce5807a6325df8bc1e68fb70753a", func := "intarsia/intarsialaw05.ArrayChecks", spec := "arrayChecks", unfollowed := true, recurses := true, apart := false, narrowed := true }
def ArrayChecksUptoSaid : Prop := arrayChecksUptoRow.holds Try.pinned (OpenSpec.upto arrayChecksSpec)

/-- 'intarsialaw05.ArrayCells', WHERE WHAT IT READS IS OF BULK AT MOST 1048576: true; the input reads as it did. -/
def arrayCellsUptoRow : OpenClaim := { program := "ythkfjdhakbjllaa", sum := "fdd7b797102acdfc1fc9a836c9a4939d9a67ce5807a6325df8bc1e68fb70753a", func := "intarsia/intarsialaw05.ArrayCells", spec := "arrayCells", unfollowed := true, recurses := true, apart := false, narrowed := true }
def ArrayCellsUptoSaid : Prop := arrayCellsUptoRow.holds Try.pinned (OpenSpec.upto arrayCellsSpec)

/-- 'intarsialaw05.ArrayEquals', WHERE WHAT IT READS IS OF BULK AT MOST 1048576: true; the input reads as it did. -/
def arrayEqualsUptoRow : OpenClaim := { program := "ythkfjdhakbjllaa", sum := "fdd7b797102acdfc1fc9a836c9a4939d9a67ce5807a6325df8bc1e68fb70753a", func := "intarsia/intarsialaw05.ArrayEquals", spec := "arrayEquals", unfollowed := true, recurses := true, apart := false, narrowed := true }
def ArrayEqualsUptoSaid : Prop := arrayEqualsUptoRow.holds Try.pinned (OpenSpec.upto arrayEqualsSpec)

/-- 'intarsialaw05.ArrayTabulates', WHERE WHAT IT READS IS OF BULK AT MOST 1048576: true; the input reads as it did. -/
def arrayTabulatesUptoRow : OpenClaim := { program := "ythkfjdhakbjllaa", sum := "fdd7b797102acdfc1fc9a836c9a4939d9a67ce5807a6325df8bc1e68fb70753a", func := "intarsia/intarsialaw05.ArrayTabulates", spec := "arrayTabulates", unfollowed := true, recurses := true, apart := false, narrowed := true }
def ArrayTabulatesUptoSaid : Prop := arrayTabulatesUptoRow.holds Try.pinned (OpenSpec.upto arrayTabulatesSpec)

/-- 'intarsialaw05.ArrayKeeps', WHERE WHAT IT READS IS OF BULK AT MOST 1048576: true; the input reads as it did. -/
def arrayKeepsUptoRow : OpenClaim := { program := "ythkfjdhakbjllaa", sum := "fdd7b797102acdfc1fc9a836c9a4939d9a67ce5807a6325df8bc1e68fb70753a", func := "intarsia/intarsialaw05.ArrayKeeps", spec := "arrayKeeps", unfollowed := true, recurses := true, apart := false, narrowed := true }
def ArrayKeepsUptoSaid : Prop := arrayKeepsUptoRow.holds Try.pinned (OpenSpec.upto arrayKeepsSpec)

/-- 'intarsialaw06.BoxMatchesReference', WHERE WHAT IT READS IS OF BULK AT MOST 1048576: true; the input reads as it did. -/
def boxMatchesReferenceUptoRow : OpenClaim := { program := "ythkfjdhakbjllaa", sum := "fdd7b797102acdfc1fc9a836c9a4939d9a67ce5807a6325df8bc1e68fb70753a", func := "intarsia/intarsialaw06.BoxMatchesReference", spec := "boxMatchesReference", unfollowed := true, recurses := true, apart := false, narrowed := true }
def BoxMatchesReferenceUptoSaid : Prop := boxMatchesReferenceUptoRow.holds Try.pinned (OpenSpec.upto boxMatchesReferenceSpec)

/-- 'intarsialaw06.BoxCuts', WHERE WHAT IT READS IS OF BULK AT MOST 1048576: true; the input reads as it did. -/
def boxCutsUptoRow : OpenClaim := { program := "ythkfjdhakbjllaa", sum := "fdd7b797102acdfc1fc9a836c9a4939d9a67ce5807a6325df8bc1e68fb70753a", func := "intarsia/intarsialaw06.BoxCuts", spec := "boxCuts", unfollowed := true, recurses := true, apart := false, narrowed := true }
def BoxCutsUptoSaid : Prop := boxCutsUptoRow.holds Try.pinned (OpenSpec.upto boxCutsSpec)

/-- 'intarsialaw06.BoxShifts', WHERE WHAT IT READS IS OF BULK AT MOST 1048576: true; the input reads as it did. -/
def boxShiftsUptoRow : OpenClaim := { program := "ythkfjdhakbjllaa", sum := "fdd7b797102acdfc1fc9a836c9a4939d9a67ce5807a6325df8bc1e68fb70753a", func := "intarsia/intarsialaw06.BoxShifts", spec := "boxShifts", unfollowed := true, recurses := true, apart := false, narrowed := true }
def BoxShiftsUptoSaid : Prop := boxShiftsUptoRow.holds Try.pinned (OpenSpec.upto boxShiftsSpec)

/-- 'intarsialaw06.BoxMeets', WHERE WHAT IT READS IS OF BULK AT MOST 1048576: true; the input reads as it did. -/
def boxMeetsUptoRow : OpenClaim := { program := "ythkfjdhakbjllaa", sum := "fdd7b797102acdfc1fc9a836c9a4939d9a67ce5807a6325df8bc1e68fb70753a", func := "intarsia/intarsialaw06.BoxMeets", spec := "boxMeets", unfollowed := true, recurses := true, apart := false, narrowed := true }
def BoxMeetsUptoSaid : Prop := boxMeetsUptoRow.holds Try.pinned (OpenSpec.upto boxMeetsSpec)

/-- 'intarsialaw17.AccessReads', WHERE WHAT IT READS IS OF BULK AT MOST 1048576: true; the input reads as it did. -/
def accessReadsUptoRow : OpenClaim := { program := "ythkfjdhakbjllaa", sum := "fdd7b797102acdfc1fc9a836c9a4939d9a67ce5807a6325df8bc1e68fb70753a", func := "intarsia/intarsialaw17.AccessReads", spec := "accessReads", unfollowed := true, recurses := true, apart := false, narrowed := true }
def AccessReadsUptoSaid : Prop := accessReadsUptoRow.holds Try.pinned (OpenSpec.upto accessReadsSpec)

/-- 'intarsialaw17.AccessTurns', WHERE WHAT IT READS IS OF BULK AT MOST 1048576: true; the input reads as it did. -/
def accessTurnsUptoRow : OpenClaim := { program := "ythkfjdhakbjllaa", sum := "fdd7b797102acdfc1fc9a836c9a4939d9a67ce5807a6325df8bc1e68fb70753a", func := "intarsia/intarsialaw17.AccessTurns", spec := "accessTurns", unfollowed := true, recurses := true, apart := false, narrowed := true }
def AccessTurnsUptoSaid : Prop := accessTurnsUptoRow.holds Try.pinned (OpenSpec.upto accessTurnsSpec)

end Rows
end Go.Proofs.Ythkfjdhakbjllaa
