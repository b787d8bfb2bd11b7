/-
  NARROWER THAN 'FOR EVERY INPUT', by the rows' own cells (each row's printed sentence says how): TreeRight: loops · TreeMeasures: loops · TreeSteps: loops · TreeKeeps: loops · TreeCounts: loops.
  DERIVED. THE GIVEN ROWS OF THIS SEAT. 5 by the template 'for every input the law returns true; each argument reads behind the call as it read before'; 0 by the template 'total and deterministic' (their statements: YtjehgcmcphgofaaTotals.lean).
  GIVEN WITH THE SEED: the statements are not yours to turn. If you find one false, say at which input.
  Laid BY PROGRAM, IN A SANDBOX (cutbox-rows.mjs): the forced cells as the released guide's own fill.sh prints them over the translation d034f40fbfc30846… (all of the seat's roots in one cut). By AI agents, Wed Nov 11 2026. No macro, syntax, notation, axiom, sorry.
-/
import Derived.Test.YtjehgcmcphgofaaChecked
import GoSem.Claim
import GoSem.ClaimJoined
import GoSem.ClaimMapViews
import Derived.JoinedTies
import Derived.KernelRfl
namespace Go.Proofs.Ytjehgcmcphgofaa
/- THE CELL 'sum', in the pinned program and in every row, IS THE sha256 OF THE DUMP (.gsa) THAT YtjehgcmcphgofaaProg.lean LOADS. Nothing in Lean hashes anything: it is a label: what it is worth is what the hold of that sum in a sandbox is worth. -/
noncomputable def Try.pinned : Pinned := { name := "ytjehgcmcphgofaa", sum := "d034f40fbfc30846e1b8a657309ed68a5f428eeebbd707530d172e5002cd8904", checked := Try.checked }
namespace Rows
def none {H : Type} : Left H := { results := [], args := [] }

/-- 'intarsialaw08.TreeRight': WHATEVER THE INPUT: true; the input reads as it did. -/
def treeRightSpec : ChangeSpec := { name := "treeRight", fn := fun _ => fun
  | [d] => { results := [.lit (.bool true)], args := [d] }
  | _ => none }
def treeRightRow : OpenClaim := { program := "ytjehgcmcphgofaa", sum := "d034f40fbfc30846e1b8a657309ed68a5f428eeebbd707530d172e5002cd8904", func := "intarsia/intarsialaw08.TreeRight", spec := "treeRight", unfollowed := true, recurses := true, loops := true, apart := false }
def TreeRightSaid : Prop := treeRightRow.holds Try.pinned (OpenSpec.ofChange treeRightSpec)

/-- ITS FALSE NEIGHBOUR: 'it returns false'. Refute it at one input. -/
def treeRightWrong : ChangeSpec := { name := "treeRight", fn := fun _ => fun
  | [d] => { results := [.lit (.bool false)], args := [d] }
  | _ => none }
def TreeRightWrongFalsely : Prop := treeRightRow.holds Try.pinned (OpenSpec.ofChange treeRightWrong)

/-- 'intarsialaw08.TreeMeasures': WHATEVER THE INPUT: true; the input reads as it did. -/
def treeMeasuresSpec : ChangeSpec := { name := "treeMeasures", fn := fun _ => fun
  | [d1, d2] => { results := [.lit (.bool true)], args := [d1, d2] }
  | _ => none }
def treeMeasuresRow : OpenClaim := { program := "ytjehgcmcphgofaa", sum := "d034f40fbfc30846e1b8a657309ed68a5f428eeebbd707530d172e5002cd8904", func := "intarsia/intarsialaw08.TreeMeasures", spec := "treeMeasures", unfollowed := true, recurses := true, loops := true, apart := false }
def TreeMeasuresSaid : Prop := treeMeasuresRow.holds Try.pinned (OpenSpec.ofChange treeMeasuresSpec)

/-- ITS FALSE NEIGHBOUR: 'it returns false'. Refute it at one input. -/
def treeMeasuresWrong : ChangeSpec := { name := "treeMeasures", fn := fun _ => fun
  | [d1, d2] => { results := [.lit (.bool false)], args := [d1, d2] }
  | _ => none }
def TreeMeasuresWrongFalsely : Prop := treeMeasuresRow.holds Try.pinned (OpenSpec.ofChange treeMeasuresWrong)

/-- 'intarsialaw08.TreeSteps': WHATEVER THE INPUT: true; the input reads as it did. -/
def treeStepsSpec : ChangeSpec := { name := "treeSteps", fn := fun _ => fun
  | [d1, d2] => { results := [.lit (.bool true)], args := [d1, d2] }
  | _ => none }
def treeStepsRow : OpenClaim := { program := "ytjehgcmcphgofaa", sum := "d034f40fbfc30846e1b8a657309ed68a5f428eeebbd707530d172e5002cd8904", func := "intarsia/intarsialaw08.TreeSteps", spec := "treeSteps", unfollowed := true, recurses := true, loops := true, apart := false }
def TreeStepsSaid : Prop := treeStepsRow.holds Try.pinned (OpenSpec.ofChange treeStepsSpec)

/-- ITS FALSE NEIGHBOUR: 'it returns false'. Refute it at one input. -/
def treeStepsWrong : ChangeSpec := { name := "treeSteps", fn := fun _ => fun
  | [d1, d2] => { results := [.lit (.bool false)], args := [d1, d2] }
  | _ => none }
def TreeStepsWrongFalsely : Prop := treeStepsRow.holds Try.pinned (OpenSpec.ofChange treeStepsWrong)

/-- 'intarsialaw08.TreeKeeps': WHATEVER THE INPUT: true; the input reads as it did. -/
def treeKeepsSpec : ChangeSpec := { name := "treeKeeps", fn := fun _ => fun
  | [d] => { results := [.lit (.bool true)], args := [d] }
  | _ => none }
def treeKeepsRow : OpenClaim := { program := "ytjehgcmcphgofaa", sum := "d034f40fbfc30846e1b8a657309ed68a5f428eeebbd707530d172e5002cd8904", func := "intarsia/intarsialaw08.TreeKeeps", spec := "treeKeeps", unfollowed := true, recurses := true, loops := true, apart := false }
def TreeKeepsSaid : Prop := treeKeepsRow.holds Try.pinned (OpenSpec.ofChange treeKeepsSpec)

/-- ITS FALSE NEIGHBOUR: 'it returns false'. Refute it at one input. -/
def treeKeepsWrong : ChangeSpec := { name := "treeKeeps", fn := fun _ => fun
  | [d] => { results := [.lit (.bool false)], args := [d] }
  | _ => none }
def TreeKeepsWrongFalsely : Prop := treeKeepsRow.holds Try.pinned (OpenSpec.ofChange treeKeepsWrong)

/-- 'intarsialaw08.TreeCounts': WHATEVER THE INPUT: true; the input reads as it did. -/
def treeCountsSpec : ChangeSpec := { name := "treeCounts", fn := fun _ => fun
  | [d] => { results := [.lit (.bool true)], args := [d] }
  | _ => none }
def treeCountsRow : OpenClaim := { program := "ytjehgcmcphgofaa", sum := "d034f40fbfc30846e1b8a657309ed68a5f428eeebbd707530d172e5002cd8904", func := "intarsia/intarsialaw08.TreeCounts", spec := "treeCounts", unfollowed := true, recurses := true, loops := true, apart := false }
def TreeCountsSaid : Prop := treeCountsRow.holds Try.pinned (OpenSpec.ofChange treeCountsSpec)

/-- ITS FALSE NEIGHBOUR: 'it returns false'. Refute it at one input. -/
def treeCountsWrong : ChangeSpec := { name := "treeCounts", fn := fun _ => fun
  | [d] => { results := [.lit (.bool false)], args := [d] }
  | _ => none }
def TreeCountsWrongFalsely : Prop := treeCountsRow.holds Try.pinned (OpenSpec.ofChange treeCountsWrong)

/- THE SECOND FORM. 'bulk': how many values and letters a reading holds, each counted each time it is reached (what is shared counts as often as it is met; a slice's spare places count too). A statement '..UptoSaid' is the law's where the arguments, and the package variables that the reading takes, are together of bulk at most 1048576: NARROWER than '..Said'. Prove '..Said' where nothing that the law and all that it calls make is longer than what came in: it says more and counts as full. Else prove '..UptoSaid'. A law counts once. -/
mutual
def uptoBulk {H : Type} : DataW H → Nat
  | .lit (.string bytes) => bytes.length + 1
  | .lit _ => 1
  | .nil => 1
  | .ptr d => uptoBulk d + 1
  | .slice elems spare => uptoBulkAll elems + uptoBulkAll spare + 1
  | .agg parts => uptoBulkAll parts + 1
  | .iface _ d => uptoBulk d + 1
  | .map entries => uptoBulkEntries entries + 1
  | .held _ => 1
def uptoBulkAll {H : Type} : List (DataW H) → Nat
  | [] => 0
  | d :: r => uptoBulk d + uptoBulkAll r
def uptoBulkEntries {H : Type} : List (Lit × DataW H) → Nat
  | [] => 0
  | x :: r => uptoBulkEntry x + uptoBulkEntries r
def uptoBulkEntry {H : Type} : Lit × DataW H → Nat
  | (.string bytes, d) => bytes.length + uptoBulk d + 1
  | (_, d) => uptoBulk d + 1
 end
def uptoSmall : (H : Type) → List (DataW H) → Bool := fun _ ds => decide (uptoBulkAll ds ≤ 1048576)
def OpenSpec.upto (s : _root_.Go.ChangeSpec) : _root_.Go.OpenSpec := { _root_.Go.OpenSpec.ofChange s with cond := some uptoSmall }

/-- 'intarsialaw08.TreeRight', WHERE WHAT IT READS IS OF BULK AT MOST 1048576: true; the input reads as it did. -/
def treeRightUptoRow : OpenClaim := { program := "ytjehgcmcphgofaa", sum := "d034f40fbfc30846e1b8a657309ed68a5f428eeebbd707530d172e5002cd8904", func := "intarsia/intarsialaw08.TreeRight", spec := "treeRight", unfollowed := true, recurses := true, loops := true, apart := false, narrowed := true }
def TreeRightUptoSaid : Prop := treeRightUptoRow.holds Try.pinned (OpenSpec.upto treeRightSpec)

/-- 'intarsialaw08.TreeMeasures', WHERE WHAT IT READS IS OF BULK AT MOST 1048576: true; the input reads as it did. -/
def treeMeasuresUptoRow : OpenClaim := { program := "ytjehgcmcphgofaa", sum := "d034f40fbfc30846e1b8a657309ed68a5f428eeebbd707530d172e5002cd8904", func := "intarsia/intarsialaw08.TreeMeasures", spec := "treeMeasures", unfollowed := true, recurses := true, loops := true, apart := false, narrowed := true }
def TreeMeasuresUptoSaid : Prop := treeMeasuresUptoRow.holds Try.pinned (OpenSpec.upto treeMeasuresSpec)

/-- 'intarsialaw08.TreeSteps', WHERE WHAT IT READS IS OF BULK AT MOST 1048576: true; the input reads as it did. -/
def treeStepsUptoRow : OpenClaim := { program := "ytjehgcmcphgofaa", sum := "d034f40fbfc30846e1b8a657309ed68a5f428eeebbd707530d172e5002cd8904", func := "intarsia/intarsialaw08.TreeSteps", spec := "treeSteps", unfollowed := true, recurses := true, loops := true, apart := false, narrowed := true }
def TreeStepsUptoSaid : Prop := treeStepsUptoRow.holds Try.pinned (OpenSpec.upto treeStepsSpec)

/-- 'intarsialaw08.TreeKeeps', WHERE WHAT IT READS IS OF BULK AT MOST 1048576: true; the input reads as it did. -/
def treeKeepsUptoRow : OpenClaim := { program := "ytjehgcmcphgofaa", sum := "d034f40fbfc30846e1b8a657309ed68a5f428eeebbd707530d172e5002cd8904", func := "intarsia/intarsialaw08.TreeKeeps", spec := "treeKeeps", unfollowed := true, recurses := true, loops := true, apart := false, narrowed := true }
def TreeKeepsUptoSaid : Prop := treeKeepsUptoRow.holds Try.pinned (OpenSpec.upto treeKeepsSpec)

/-- 'intarsialaw08.TreeCounts', WHERE WHAT IT READS IS OF BULK AT MOST 1048576: true; the input reads as it did. -/
def treeCountsUptoRow : OpenClaim := { program := "ytjehgcmcphgofaa", sum := "d034f40fbfc30846e1b8a657309ed68a5f428eeebbd707530d172e5002cd8904", func := "intarsia/intarsialaw08.TreeCounts", spec := "treeCounts", unfollowed := true, recurses := true, loops := true, apart := false, narrowed := true }
def TreeCountsUptoSaid : Prop := treeCountsUptoRow.holds Try.pinned (OpenSpec.upto treeCountsSpec)

end Rows
end Go.Proofs.Ytjehgcmcphgofaa
