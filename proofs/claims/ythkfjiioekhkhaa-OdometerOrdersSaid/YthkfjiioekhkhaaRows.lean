/-
  No cell of these rows narrows 'for every input' (looked for: loops, veiled, ifaces, maps, wideKeys, modest, calm, conditions, laid).
  DERIVED. THE GIVEN ROWS OF THIS SEAT. 9 by the template 'for every input the law returns true; each argument reads behind the call as it read before'; 0 by the template 'total and deterministic' (their statements: YthkfjiioekhkhaaTotals.lean).
  GIVEN WITH THE SEED: the statements are not yours to turn. If you find one false, say at which input.
  Laid BY PROGRAM, IN A SANDBOX (cutbox-rows.mjs): the forced cells as the released guide's own fill.sh prints them over the translation f6295abb8878fbc9… (all of the seat's roots in one cut). By AI agents, Wed Nov 11 2026. No macro, syntax, notation, axiom, sorry.
-/
import Derived.Test.YthkfjiioekhkhaaChecked
import GoSem.Claim
import GoSem.ClaimJoined
import GoSem.ClaimMapViews
import Derived.JoinedTies
import Derived.KernelRfl
namespace Go.Proofs.Ythkfjiioekhkhaa
/- THE CELL 'sum', in the pinned program and in every row, IS THE sha256 OF THE DUMP (.gsa) THAT YthkfjiioekhkhaaProg.lean LOADS. Nothing in Lean hashes anything: it is a label: what it is worth is what the hold of that sum in a sandbox is worth. -/
noncomputable def Try.pinned : Pinned := { name := "ythkfjiioekhkhaa", sum := "f6295abb8878fbc99acfa0e64e31ae8c6da8ceef711c1168957dd54b6c4ddfe0", checked := Try.checked }
namespace Rows
def none {H : Type} : Left H := { results := [], args := [] }

/-- 'intarsialaw04.OdometerOrders': WHATEVER THE INPUT: true; the input reads as it did. -/
def odometerOrdersSpec : ChangeSpec := { name := "odometerOrders", fn := fun _ => fun
  | [d1, d2, d3] => { results := [.lit (.bool true)], args := [d1, d2, d3] }
  | _ => none }
def odometerOrdersRow : OpenClaim := { program := "ythkfjiioekhkhaa", sum := "f6295abb8878fbc99acfa0e64e31ae8c6da8ceef711c1168957dd54b6c4ddfe0", func := "intarsia/intarsialaw04.OdometerOrders", spec := "odometerOrders", unfollowed := true, recurses := true, apart := false }
def OdometerOrdersSaid : Prop := odometerOrdersRow.holds Try.pinned (OpenSpec.ofChange odometerOrdersSpec)

/-- ITS FALSE NEIGHBOUR: 'it returns false'. Refute it at one input. -/
def odometerOrdersWrong : ChangeSpec := { name := "odometerOrders", fn := fun _ => fun
  | [d1, d2, d3] => { results := [.lit (.bool false)], args := [d1, d2, d3] }
  | _ => none }
def OdometerOrdersWrongFalsely : Prop := odometerOrdersRow.holds Try.pinned (OpenSpec.ofChange odometerOrdersWrong)

/-- 'intarsialaw04.OdometerShapes': WHATEVER THE INPUT: true; the input reads as it did. -/
def odometerShapesSpec : ChangeSpec := { name := "odometerShapes", fn := fun _ => fun
  | [d] => { results := [.lit (.bool true)], args := [d] }
  | _ => none }
def odometerShapesRow : OpenClaim := { program := "ythkfjiioekhkhaa", sum := "f6295abb8878fbc99acfa0e64e31ae8c6da8ceef711c1168957dd54b6c4ddfe0", func := "intarsia/intarsialaw04.OdometerShapes", spec := "odometerShapes", unfollowed := true, recurses := true, apart := false }
def OdometerShapesSaid : Prop := odometerShapesRow.holds Try.pinned (OpenSpec.ofChange odometerShapesSpec)

/-- ITS FALSE NEIGHBOUR: 'it returns false'. Refute it at one input. -/
def odometerShapesWrong : ChangeSpec := { name := "odometerShapes", fn := fun _ => fun
  | [d] => { results := [.lit (.bool false)], args := [d] }
  | _ => none }
def OdometerShapesWrongFalsely : Prop := odometerShapesRow.holds Try.pinned (OpenSpec.ofChange odometerShapesWrong)

/-- 'intarsialaw04.OdometerKeeps': WHATEVER THE INPUT: true; the input reads as it did. -/
def odometerKeepsSpec : ChangeSpec := { name := "odometerKeeps", fn := fun _ => fun
  | [d1, d2] => { results := [.lit (.bool true)], args := [d1, d2] }
  | _ => none }
def odometerKeepsRow : OpenClaim := { program := "ythkfjiioekhkhaa", sum := "f6295abb8878fbc99acfa0e64e31ae8c6da8ceef711c1168957dd54b6c4ddfe0", func := "intarsia/intarsialaw04.OdometerKeeps", spec := "odometerKeeps", unfollowed := true, recurses := true, apart := false }
def OdometerKeepsSaid : Prop := odometerKeepsRow.holds Try.pinned (OpenSpec.ofChange odometerKeepsSpec)

/-- ITS FALSE NEIGHBOUR: 'it returns false'. Refute it at one input. -/
def odometerKeepsWrong : ChangeSpec := { name := "odometerKeeps", fn := fun _ => fun
  | [d1, d2] => { results := [.lit (.bool false)], args := [d1, d2] }
  | _ => none }
def OdometerKeepsWrongFalsely : Prop := odometerKeepsRow.holds Try.pinned (OpenSpec.ofChange odometerKeepsWrong)

/-- 'intarsialaw04.OdometerSplits': WHATEVER THE INPUT: true; the input reads as it did. -/
def odometerSplitsSpec : ChangeSpec := { name := "odometerSplits", fn := fun _ => fun
  | [d1, d2, d3, d4] => { results := [.lit (.bool true)], args := [d1, d2, d3, d4] }
  | _ => none }
def odometerSplitsRow : OpenClaim := { program := "ythkfjiioekhkhaa", sum := "f6295abb8878fbc99acfa0e64e31ae8c6da8ceef711c1168957dd54b6c4ddfe0", func := "intarsia/intarsialaw04.OdometerSplits", spec := "odometerSplits", unfollowed := true, recurses := true, apart := false }
def OdometerSplitsSaid : Prop := odometerSplitsRow.holds Try.pinned (OpenSpec.ofChange odometerSplitsSpec)

/-- ITS FALSE NEIGHBOUR: 'it returns false'. Refute it at one input. -/
def odometerSplitsWrong : ChangeSpec := { name := "odometerSplits", fn := fun _ => fun
  | [d1, d2, d3, d4] => { results := [.lit (.bool false)], args := [d1, d2, d3, d4] }
  | _ => none }
def OdometerSplitsWrongFalsely : Prop := odometerSplitsRow.holds Try.pinned (OpenSpec.ofChange odometerSplitsWrong)

/-- 'intarsialaw01.SizeProducts': WHATEVER THE INPUT: true; the input reads as it did. -/
def sizeProductsSpec : ChangeSpec := { name := "sizeProducts", fn := fun _ => fun
  | [d] => { results := [.lit (.bool true)], args := [d] }
  | _ => none }
def sizeProductsRow : OpenClaim := { program := "ythkfjiioekhkhaa", sum := "f6295abb8878fbc99acfa0e64e31ae8c6da8ceef711c1168957dd54b6c4ddfe0", func := "intarsia/intarsialaw01.SizeProducts", spec := "sizeProducts", unfollowed := true, recurses := true, apart := false }
def SizeProductsSaid : Prop := sizeProductsRow.holds Try.pinned (OpenSpec.ofChange sizeProductsSpec)

/-- ITS FALSE NEIGHBOUR: 'it returns false'. Refute it at one input. -/
def sizeProductsWrong : ChangeSpec := { name := "sizeProducts", fn := fun _ => fun
  | [d] => { results := [.lit (.bool false)], args := [d] }
  | _ => none }
def SizeProductsWrongFalsely : Prop := sizeProductsRow.holds Try.pinned (OpenSpec.ofChange sizeProductsWrong)

/-- 'intarsialaw01.SizeSums': WHATEVER THE INPUT: true; the input reads as it did. -/
def sizeSumsSpec : ChangeSpec := { name := "sizeSums", fn := fun _ => fun
  | [d] => { results := [.lit (.bool true)], args := [d] }
  | _ => none }
def sizeSumsRow : OpenClaim := { program := "ythkfjiioekhkhaa", sum := "f6295abb8878fbc99acfa0e64e31ae8c6da8ceef711c1168957dd54b6c4ddfe0", func := "intarsia/intarsialaw01.SizeSums", spec := "sizeSums", unfollowed := true, recurses := true, apart := false }
def SizeSumsSaid : Prop := sizeSumsRow.holds Try.pinned (OpenSpec.ofChange sizeSumsSpec)

/-- ITS FALSE NEIGHBOUR: 'it returns false'. Refute it at one input. -/
def sizeSumsWrong : ChangeSpec := { name := "sizeSums", fn := fun _ => fun
  | [d] => { results := [.lit (.bool false)], args := [d] }
  | _ => none }
def SizeSumsWrongFalsely : Prop := sizeSumsRow.holds Try.pinned (OpenSpec.ofChange sizeSumsWrong)

/-- 'intarsialaw01.SizeMuls': WHATEVER THE INPUT: true; the input reads as it did. -/
def sizeMulsSpec : ChangeSpec := { name := "sizeMuls", fn := fun _ => fun
  | [d1, d2, d3] => { results := [.lit (.bool true)], args := [d1, d2, d3] }
  | _ => none }
def sizeMulsRow : OpenClaim := { program := "ythkfjiioekhkhaa", sum := "f6295abb8878fbc99acfa0e64e31ae8c6da8ceef711c1168957dd54b6c4ddfe0", func := "intarsia/intarsialaw01.SizeMuls", spec := "sizeMuls", unfollowed := true, recurses := true, apart := false }
def SizeMulsSaid : Prop := sizeMulsRow.holds Try.pinned (OpenSpec.ofChange sizeMulsSpec)

/-- ITS FALSE NEIGHBOUR: 'it returns false'. Refute it at one input. -/
def sizeMulsWrong : ChangeSpec := { name := "sizeMuls", fn := fun _ => fun
  | [d1, d2, d3] => { results := [.lit (.bool false)], args := [d1, d2, d3] }
  | _ => none }
def SizeMulsWrongFalsely : Prop := sizeMulsRow.holds Try.pinned (OpenSpec.ofChange sizeMulsWrong)

/-- 'intarsialaw01.SizeNumbers': WHATEVER THE INPUT: true; the input reads as it did. -/
def sizeNumbersSpec : ChangeSpec := { name := "sizeNumbers", fn := fun _ => fun
  | [d] => { results := [.lit (.bool true)], args := [d] }
  | _ => none }
def sizeNumbersRow : OpenClaim := { program := "ythkfjiioekhkhaa", sum := "f6295abb8878fbc99acfa0e64e31ae8c6da8ceef711c1168957dd54b6c4ddfe0", func := "intarsia/intarsialaw01.SizeNumbers", spec := "sizeNumbers", unfollowed := true, recurses := true, apart := false }
def SizeNumbersSaid : Prop := sizeNumbersRow.holds Try.pinned (OpenSpec.ofChange sizeNumbersSpec)

/-- ITS FALSE NEIGHBOUR: 'it returns false'. Refute it at one input. -/
def sizeNumbersWrong : ChangeSpec := { name := "sizeNumbers", fn := fun _ => fun
  | [d] => { results := [.lit (.bool false)], args := [d] }
  | _ => none }
def SizeNumbersWrongFalsely : Prop := sizeNumbersRow.holds Try.pinned (OpenSpec.ofChange sizeNumbersWrong)

/-- 'intarsialaw01.SizeMods': WHATEVER THE INPUT: true; the input reads as it did. -/
def sizeModsSpec : ChangeSpec := { name := "sizeMods", fn := fun _ => fun
  | [d1, d2, d3] => { results := [.lit (.bool true)], args := [d1, d2, d3] }
  | _ => none }
def sizeModsRow : OpenClaim := { program := "ythkfjiioekhkhaa", sum := "f6295abb8878fbc99acfa0e64e31ae8c6da8ceef711c1168957dd54b6c4ddfe0", func := "intarsia/intarsialaw01.SizeMods", spec := "sizeMods", unfollowed := true, recurses := true, apart := false }
def SizeModsSaid : Prop := sizeModsRow.holds Try.pinned (OpenSpec.ofChange sizeModsSpec)

/-- ITS FALSE NEIGHBOUR: 'it returns false'. Refute it at one input. -/
def sizeModsWrong : ChangeSpec := { name := "sizeMods", fn := fun _ => fun
  | [d1, d2, d3] => { results := [.lit (.bool false)], args := [d1, d2, d3] }
  | _ => none }
def SizeModsWrongFalsely : Prop := sizeModsRow.holds Try.pinned (OpenSpec.ofChange sizeModsWrong)

/- THE SECOND FORM. 'bulk': how many values and letters a reading holds, each counted each time it is reached (what is shared counts as often as it is met; a slice's spare places count too). A statement '..UptoSaid' is the law's where the arguments, and the package variables that the reading takes, are together of bulk at most 1048576: NARROWER than '..Said'. Prove '..Said' where nothing that the law and all that it calls make is longer than what came in: it says more and counts as full. Else prove '..UptoSaid'. A law counts once. -/
mutual
def uptoBulk {H : Type} : DataW H → Nat
  | .lit (.string bytes) => bytes.length + 1
  | .lit _ => 1
  | .nil => 1
  | .ptr d => uptoBulk d + 1
  | .slice elems spare => uptoBulkAll elems + uptoBulkAll spare + 1
  | .agg parts => uptoBulkAll parts + 1
  | .iface _ d => uptoBulk d + 1
  | .map entries => uptoBulkEntries entries + 1
  | .held _ => 1
def uptoBulkAll {H : Type} : List (DataW H) → Nat
  | [] => 0
  | d :: r => uptoBulk d + uptoBulkAll r
def uptoBulkEntries {H : Type} : List (Lit × DataW H) → Nat
  | [] => 0
  | x :: r => uptoBulkEntry x + uptoBulkEntries r
def uptoBulkEntry {H : Type} : Lit × DataW H → Nat
  | (.string bytes, d) => bytes.length + uptoBulk d + 1
  | (_, d) => uptoBulk d + 1
 end
def uptoSmall : (H : Type) → List (DataW H) → Bool := fun _ ds => decide (uptoBulkAll ds ≤ 1048576)
def OpenSpec.upto (s : _root_.Go.ChangeSpec) : _root_.Go.OpenSpec := { _root_.Go.OpenSpec.ofChange s with cond := some uptoSmall }

/-- 'intarsialaw04.OdometerOrders', WHERE WHAT IT READS IS OF BULK AT MOST 1048576: true; the input reads as it did. -/
def odometerOrdersUptoRow : OpenClaim := { program := "ythkfjiioekhkhaa", sum := "f6295abb8878fbc99acfa0e64e31ae8c6da8ceef711c1168957dd54b6c4ddfe0", func := "intarsia/intarsialaw04.OdometerOrders", spec := "odometerOrders", unfollowed := true, recurses := true, apart := false, narrowed := true }
def OdometerOrdersUptoSaid : Prop := odometerOrdersUptoRow.holds Try.pinned (OpenSpec.upto odometerOrdersSpec)

/-- 'intarsialaw04.OdometerShapes', WHERE WHAT IT READS IS OF BULK AT MOST 1048576: true; the input reads as it did. -/
def odometerShapesUptoRow : OpenClaim := { program := "ythkfjiioekhkhaa", sum := "f6295abb8878fbc99acfa0e64e31ae8c6da8ceef711c1168957dd54b6c4ddfe0", func := "intarsia/intarsialaw04.OdometerShapes", spec := "odometerShapes", unfollowed := true, recurses := true, apart := false, narrowed := true }
def OdometerShapesUptoSaid : Prop := odometerShapesUptoRow.holds Try.pinned (OpenSpec.upto odometerShapesSpec)

/-- 'intarsialaw04.OdometerKeeps', WHERE WHAT IT READS IS OF BULK AT MOST 1048576: true; the input reads as it did. -/
def odometerKeepsUptoRow : OpenClaim := { program := "ythkfjiioekhkhaa", sum := "f6295abb8878fbc99acfa0e64e31ae8c6da8ceef711c1168957dd54b6c4ddfe0", func := "intarsia/intarsialaw04.OdometerKeeps", spec := "odometerKeeps", unfollowed := true, recurses := true, apart := false, narrowed := true }
def OdometerKeepsUptoSaid : Prop := odometerKeepsUptoRow.holds Try.pinned (OpenSpec.upto odometerKeepsSpec)

/-- 'intarsialaw04.OdometerSplits', WHERE WHAT IT READS IS OF BULK AT MOST 1048576: true; the input reads as it did. -/
def odometerSplitsUptoRow : OpenClaim := { program := "ythkfjiioekhkhaa", sum := "f6295abb8878fbc99acfa0e64e31ae8c6da8ceef711c1168957dd54b6c4ddfe0", func := "intarsia/intarsialaw04.OdometerSplits", spec := "odometerSplits", unfollowed := true, recurses := true, apart := false, narrowed := true }
def OdometerSplitsUptoSaid : Prop := odometerSplitsUptoRow.holds Try.pinned (OpenSpec.upto odometerSplitsSpec)

/-- 'intarsialaw01.SizeProducts', WHERE WHAT IT READS IS OF BULK AT MOST 1048576: true; the input reads as it did. -/
def sizeProductsUptoRow : OpenClaim := { program := "ythkfjiioekhkhaa", sum := "f6295abb8878fbc99acfa0e64e31ae8c6da8ceef711c1168957dd54b6c4ddfe0", func := "intarsia/intarsialaw01.SizeProducts", spec := "sizeProducts", unfollowed := true, recurses := true, apart := false, narrowed := true }
def SizeProductsUptoSaid : Prop := sizeProductsUptoRow.holds Try.pinned (OpenSpec.upto sizeProductsSpec)

/-- 'intarsialaw01.SizeSums', WHERE WHAT IT READS IS OF BULK AT MOST 1048576: true; the input reads as it did. -/
def sizeSumsUptoRow : OpenClaim := { program := "ythkfjiioekhkhaa", sum := "f6295abb8878fbc99acfa0e64e31ae8c6da8ceef711c1168957dd54b6c4ddfe0", func := "intarsia/intarsialaw01.SizeSums", spec := "sizeSums", unfollowed := true, recurses := true, apart := false, narrowed := true }
def SizeSumsUptoSaid : Prop := sizeSumsUptoRow.holds Try.pinned (OpenSpec.upto sizeSumsSpec)

/-- 'intarsialaw01.SizeMuls', WHERE WHAT IT READS IS OF BULK AT MOST 1048576: true; the input reads as it did. -/
def sizeMulsUptoRow : OpenClaim := { program := "ythkfjiioekhkhaa", sum := "f6295abb8878fbc99acfa0e64e31ae8c6da8ceef711c1168957dd54b6c4ddfe0", func := "intarsia/intarsialaw01.SizeMuls", spec := "sizeMuls", unfollowed := true, recurses := true, apart := false, narrowed := true }
def SizeMulsUptoSaid : Prop := sizeMulsUptoRow.holds Try.pinned (OpenSpec.upto sizeMulsSpec)

/-- 'intarsialaw01.SizeNumbers', WHERE WHAT IT READS IS OF BULK AT MOST 1048576: true; the input reads as it did. -/
def sizeNumbersUptoRow : OpenClaim := { program := "ythkfjiioekhkhaa", sum := "f6295abb8878fbc99acfa0e64e31ae8c6da8ceef711c1168957dd54b6c4ddfe0", func := "intarsia/intarsialaw01.SizeNumbers", spec := "sizeNumbers", unfollowed := true, recurses := true, apart := false, narrowed := true }
def SizeNumbersUptoSaid : Prop := sizeNumbersUptoRow.holds Try.pinned (OpenSpec.upto sizeNumbersSpec)

/-- 'intarsialaw01.SizeMods', WHERE WHAT IT READS IS OF BULK AT MOST 1048576: true; the input reads as it did. -/
def sizeModsUptoRow : OpenClaim := { program := "ythkfjiioekhkhaa", sum := "f6295abb8878fbc99acfa0e64e31ae8c6da8ceef711c1168957dd54b6c4ddfe0", func := "intarsia/intarsialaw01.SizeMods", spec := "sizeMods", unfollowed := true, recurses := true, apart := false, narrowed := true }
def SizeModsUptoSaid : Prop := sizeModsUptoRow.holds Try.pinned (OpenSpec.upto sizeModsSpec)

end Rows
end Go.Proofs.Ythkfjiioekhkhaa
