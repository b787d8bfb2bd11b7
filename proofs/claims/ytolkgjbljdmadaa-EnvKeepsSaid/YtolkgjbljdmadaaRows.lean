/-
  No cell of these rows narrows 'for every input' (looked for: loops, veiled, ifaces, maps, wideKeys, modest, calm, conditions, laid).
  DERIVED. THE GIVEN ROWS OF THIS SEAT. 8 by the template 'for every input the law returns true; each argument reads behind the call as it read before'; 0 by the template 'total and deterministic' (their statements: YtolkgjbljdmadaaTotals.lean).
  GIVEN WITH THE SEED: the statements are not yours to turn. If you find one false, say at which input.
  Laid BY PROGRAM, IN A SANDBOX (cutbox-rows.mjs): the forced cells as the released guide's own fill.sh prints them over the translation 077debae5240ad52… (all of the seat's roots in one cut). By AI agents, Wed Nov 11 2026. No macro, syntax, notation, axiom, sorry.
-/
import Derived.Test.YtolkgjbljdmadaaChecked
import GoSem.Claim
import GoSem.ClaimJoined
import GoSem.ClaimMapViews
import Derived.JoinedTies
import Derived.KernelRfl
namespace Go.Proofs.Ytolkgjbljdmadaa
/- THE CELL 'sum', in the pinned program and in every row, IS THE sha256 OF THE DUMP (.gsa) THAT YtolkgjbljdmadaaProg.lean LOADS. Nothing in Lean hashes anything: it is a label: what it is worth is what the hold of that sum in a sandbox is worth. -/
noncomputable def Try.pinned : Pinned := { name := "ytolkgjbljdmadaa", sum := "077debae5240ad52d21953f67eeb136968a1f8d2b74a7ce2fa2cdc2a616dc94a", checked := Try.checked }
namespace Rows
def none {H : Type} : Left H := { results := [], args := [] }

/-- 'intarsialaw12.SpecAxes': WHATEVER THE INPUT: true; the input reads as it did. -/
def specAxesSpec : ChangeSpec := { name := "specAxes", fn := fun _ => fun
  | [d1, d2] => { results := [.lit (.bool true)], args := [d1, d2] }
  | _ => none }
def specAxesRow : OpenClaim := { program := "ytolkgjbljdmadaa", sum := "077debae5240ad52d21953f67eeb136968a1f8d2b74a7ce2fa2cdc2a616dc94a", func := "intarsia/intarsialaw12.SpecAxes", spec := "specAxes", unfollowed := true, recurses := true, apart := false }
def SpecAxesSaid : Prop := specAxesRow.holds Try.pinned (OpenSpec.ofChange specAxesSpec)

/-- ITS FALSE NEIGHBOUR: 'it returns false'. Refute it at one input. -/
def specAxesWrong : ChangeSpec := { name := "specAxes", fn := fun _ => fun
  | [d1, d2] => { results := [.lit (.bool false)], args := [d1, d2] }
  | _ => none }
def SpecAxesWrongFalsely : Prop := specAxesRow.holds Try.pinned (OpenSpec.ofChange specAxesWrong)

/-- 'intarsialaw12.SpecShapes': WHATEVER THE INPUT: true; the input reads as it did. -/
def specShapesSpec : ChangeSpec := { name := "specShapes", fn := fun _ => fun
  | [d] => { results := [.lit (.bool true)], args := [d] }
  | _ => none }
def specShapesRow : OpenClaim := { program := "ytolkgjbljdmadaa", sum := "077debae5240ad52d21953f67eeb136968a1f8d2b74a7ce2fa2cdc2a616dc94a", func := "intarsia/intarsialaw12.SpecShapes", spec := "specShapes", unfollowed := true, recurses := true, apart := false }
def SpecShapesSaid : Prop := specShapesRow.holds Try.pinned (OpenSpec.ofChange specShapesSpec)

/-- ITS FALSE NEIGHBOUR: 'it returns false'. Refute it at one input. -/
def specShapesWrong : ChangeSpec := { name := "specShapes", fn := fun _ => fun
  | [d] => { results := [.lit (.bool false)], args := [d] }
  | _ => none }
def SpecShapesWrongFalsely : Prop := specShapesRow.holds Try.pinned (OpenSpec.ofChange specShapesWrong)

/-- 'intarsialaw12.SpecNumbers': WHATEVER THE INPUT: true; the input reads as it did. -/
def specNumbersSpec : ChangeSpec := { name := "specNumbers", fn := fun _ => fun
  | [d1, d2] => { results := [.lit (.bool true)], args := [d1, d2] }
  | _ => none }
def specNumbersRow : OpenClaim := { program := "ytolkgjbljdmadaa", sum := "077debae5240ad52d21953f67eeb136968a1f8d2b74a7ce2fa2cdc2a616dc94a", func := "intarsia/intarsialaw12.SpecNumbers", spec := "specNumbers", unfollowed := true, recurses := true, apart := false }
def SpecNumbersSaid : Prop := specNumbersRow.holds Try.pinned (OpenSpec.ofChange specNumbersSpec)

/-- ITS FALSE NEIGHBOUR: 'it returns false'. Refute it at one input. -/
def specNumbersWrong : ChangeSpec := { name := "specNumbers", fn := fun _ => fun
  | [d1, d2] => { results := [.lit (.bool false)], args := [d1, d2] }
  | _ => none }
def SpecNumbersWrongFalsely : Prop := specNumbersRow.holds Try.pinned (OpenSpec.ofChange specNumbersWrong)

/-- 'intarsialaw11.EnvBinds': WHATEVER THE INPUT: true; the input reads as it did. -/
def envBindsSpec : ChangeSpec := { name := "envBinds", fn := fun _ => fun
  | [d1, d2, d3] => { results := [.lit (.bool true)], args := [d1, d2, d3] }
  | _ => none }
def envBindsRow : OpenClaim := { program := "ytolkgjbljdmadaa", sum := "077debae5240ad52d21953f67eeb136968a1f8d2b74a7ce2fa2cdc2a616dc94a", func := "intarsia/intarsialaw11.EnvBinds", spec := "envBinds", unfollowed := true, recurses := true, apart := false }
def EnvBindsSaid : Prop := envBindsRow.holds Try.pinned (OpenSpec.ofChange envBindsSpec)

/-- ITS FALSE NEIGHBOUR: 'it returns false'. Refute it at one input. -/
def envBindsWrong : ChangeSpec := { name := "envBinds", fn := fun _ => fun
  | [d1, d2, d3] => { results := [.lit (.bool false)], args := [d1, d2, d3] }
  | _ => none }
def EnvBindsWrongFalsely : Prop := envBindsRow.holds Try.pinned (OpenSpec.ofChange envBindsWrong)

/-- 'intarsialaw11.EnvScripts': WHATEVER THE INPUT: true; the input reads as it did. -/
def envScriptsSpec : ChangeSpec := { name := "envScripts", fn := fun _ => fun
  | [d] => { results := [.lit (.bool true)], args := [d] }
  | _ => none }
def envScriptsRow : OpenClaim := { program := "ytolkgjbljdmadaa", sum := "077debae5240ad52d21953f67eeb136968a1f8d2b74a7ce2fa2cdc2a616dc94a", func := "intarsia/intarsialaw11.EnvScripts", spec := "envScripts", unfollowed := true, recurses := true, apart := false }
def EnvScriptsSaid : Prop := envScriptsRow.holds Try.pinned (OpenSpec.ofChange envScriptsSpec)

/-- ITS FALSE NEIGHBOUR: 'it returns false'. Refute it at one input. -/
def envScriptsWrong : ChangeSpec := { name := "envScripts", fn := fun _ => fun
  | [d] => { results := [.lit (.bool false)], args := [d] }
  | _ => none }
def EnvScriptsWrongFalsely : Prop := envScriptsRow.holds Try.pinned (OpenSpec.ofChange envScriptsWrong)

/-- 'intarsialaw11.EnvMatchesReference': WHATEVER THE INPUT: true; the input reads as it did. -/
def envMatchesReferenceSpec : ChangeSpec := { name := "envMatchesReference", fn := fun _ => fun
  | [d1, d2] => { results := [.lit (.bool true)], args := [d1, d2] }
  | _ => none }
def envMatchesReferenceRow : OpenClaim := { program := "ytolkgjbljdmadaa", sum := "077debae5240ad52d21953f67eeb136968a1f8d2b74a7ce2fa2cdc2a616dc94a", func := "intarsia/intarsialaw11.EnvMatchesReference", spec := "envMatchesReference", unfollowed := true, recurses := true, apart := false }
def EnvMatchesReferenceSaid : Prop := envMatchesReferenceRow.holds Try.pinned (OpenSpec.ofChange envMatchesReferenceSpec)

/-- ITS FALSE NEIGHBOUR: 'it returns false'. Refute it at one input. -/
def envMatchesReferenceWrong : ChangeSpec := { name := "envMatchesReference", fn := fun _ => fun
  | [d1, d2] => { results := [.lit (.bool false)], args := [d1, d2] }
  | _ => none }
def EnvMatchesReferenceWrongFalsely : Prop := envMatchesReferenceRow.holds Try.pinned (OpenSpec.ofChange envMatchesReferenceWrong)

/-- 'intarsialaw11.EnvKeeps': WHATEVER THE INPUT: true; the input reads as it did. -/
def envKeepsSpec : ChangeSpec := { name := "envKeeps", fn := fun _ => fun
  | [d] => { results := [.lit (.bool true)], args := [d] }
  | _ => none }
def envKeepsRow : OpenClaim := { program := "ytolkgjbljdmadaa", sum := "077debae5240ad52d21953f67eeb136968a1f8d2b74a7ce2fa2cdc2a616dc94a", func := "intarsia/intarsialaw11.EnvKeeps", spec := "envKeeps", unfollowed := true, recurses := true, apart := false }
def EnvKeepsSaid : Prop := envKeepsRow.holds Try.pinned (OpenSpec.ofChange envKeepsSpec)

/-- ITS FALSE NEIGHBOUR: 'it returns false'. Refute it at one input. -/
def envKeepsWrong : ChangeSpec := { name := "envKeeps", fn := fun _ => fun
  | [d] => { results := [.lit (.bool false)], args := [d] }
  | _ => none }
def EnvKeepsWrongFalsely : Prop := envKeepsRow.holds Try.pinned (OpenSpec.ofChange envKeepsWrong)

/-- 'intarsialaw12.SpecNames': WHATEVER THE INPUT: true; the input reads as it did. -/
def specNamesSpec : ChangeSpec := { name := "specNames", fn := fun _ => fun
  | [d1, d2] => { results := [.lit (.bool true)], args := [d1, d2] }
  | _ => none }
def specNamesRow : OpenClaim := { program := "ytolkgjbljdmadaa", sum := "077debae5240ad52d21953f67eeb136968a1f8d2b74a7ce2fa2cdc2a616dc94a", func := "intarsia/intarsialaw12.SpecNames", spec := "specNames", unfollowed := true, recurses := true, apart := false }
def SpecNamesSaid : Prop := specNamesRow.holds Try.pinned (OpenSpec.ofChange specNamesSpec)

/-- ITS FALSE NEIGHBOUR: 'it returns false'. Refute it at one input. -/
def specNamesWrong : ChangeSpec := { name := "specNames", fn := fun _ => fun
  | [d1, d2] => { results := [.lit (.bool false)], args := [d1, d2] }
  | _ => none }
def SpecNamesWrongFalsely : Prop := specNamesRow.holds Try.pinned (OpenSpec.ofChange specNamesWrong)

/- THE SECOND FORM. 'bulk': how many values and letters a reading holds, each counted each time it is reached (what is shared counts as often as it is met; a slice's spare places count too). A statement '..UptoSaid' is the law's where the arguments, and the package variables that the reading takes, are together of bulk at most 1048576: NARROWER than '..Said'. Prove '..Said' where nothing that the law and all that it calls make is longer than what came in: it says more and counts as full. Else prove '..UptoSaid'. A law counts once. -/
mutual
def uptoBulk {H : Type} : DataW H → Nat
  | .lit (.string bytes) => bytes.length + 1
  | .lit _ => 1
  | .nil => 1
  | .ptr d => uptoBulk d + 1
  | .slice elems spare => uptoBulkAll elems + uptoBulkAll spare + 1
  | .agg parts => uptoBulkAll parts + 1
  | .iface _ d => uptoBulk d + 1
  | .map entries => uptoBulkEntries entries + 1
  | .held _ => 1
def uptoBulkAll {H : Type} : List (DataW H) → Nat
  | [] => 0
  | d :: r => uptoBulk d + uptoBulkAll r
def uptoBulkEntries {H : Type} : List (Lit × DataW H) → Nat
  | [] => 0
  | x :: r => uptoBulkEntry x + uptoBulkEntries r
def uptoBulkEntry {H : Type} : Lit × DataW H → Nat
  | (.string bytes, d) => bytes.length + uptoBulk d + 1
  | (_, d) => uptoBulk d + 1
 end
def uptoSmall : (H : Type) → List (DataW H) → Bool := fun _ ds => decide (uptoBulkAll ds ≤ 1048576)
def OpenSpec.upto (s : _root_.Go.ChangeSpec) : _root_.Go.OpenSpec := { _root_.Go.OpenSpec.ofChange s with cond := some uptoSmall }

/-- 'intarsialaw12.SpecAxes', WHERE WHAT IT READS IS OF BULK AT MOST 1048576: true; the input reads as it did. -/
def specAxesUptoRow : OpenClaim := { program := "ytolkgjbljdmadaa", sum := "077debae5240ad52d21953f67eeb136968a1f8d2b74a7ce2fa2cdc2a616dc94a", func := "intarsia/intarsialaw12.SpecAxes", spec := "specAxes", unfollowed := true, recurses := true, apart := false, narrowed := true }
def SpecAxesUptoSaid : Prop := specAxesUptoRow.holds Try.pinned (OpenSpec.upto specAxesSpec)

/-- 'intarsialaw12.SpecShapes', WHERE WHAT IT READS IS OF BULK AT MOST 1048576: true; the input reads as it did. -/
def specShapesUptoRow : OpenClaim := { program := "ytolkgjbljdmadaa", sum := "077debae5240ad52d21953f67eeb136968a1f8d2b74a7ce2fa2cdc2a616dc94a", func := "intarsia/intarsialaw12.SpecShapes", spec := "specShapes", unfollowed := true, recurses := true, apart := false, narrowed := true }
def SpecShapesUptoSaid : Prop := specShapesUptoRow.holds Try.pinned (OpenSpec.upto specShapesSpec)

/-- 'intarsialaw12.SpecNumbers', WHERE WHAT IT READS IS OF BULK AT MOST 1048576: true; the input reads as it did. -/
def specNumbersUptoRow : OpenClaim := { program := "ytolkgjbljdmadaa", sum := "077debae5240ad52d21953f67eeb136968a1f8d2b74a7ce2fa2cdc2a616dc94a", func := "intarsia/intarsialaw12.SpecNumbers", spec := "specNumbers", unfollowed := true, recurses := true, apart := false, narrowed := true }
def SpecNumbersUptoSaid : Prop := specNumbersUptoRow.holds Try.pinned (OpenSpec.upto specNumbersSpec)

/-- 'intarsialaw11.EnvBinds', WHERE WHAT IT READS IS OF BULK AT MOST 1048576: true; the input reads as it did. -/
def envBindsUptoRow : OpenClaim := { program := "ytolkgjbljdmadaa", sum := "077debae5240ad52d21953f67eeb136968a1f8d2b74a7ce2fa2cdc2a616dc94a", func := "intarsia/intarsialaw11.EnvBinds", spec := "envBinds", unfollowed := true, recurses := true, apart := false, narrowed := true }
def EnvBindsUptoSaid : Prop := envBindsUptoRow.holds Try.pinned (OpenSpec.upto envBindsSpec)

/-- 'intarsialaw11.EnvScripts', WHERE WHAT IT READS IS OF BULK AT MOST 1048576: true; the input reads as it did. -/
def envScriptsUptoRow : OpenClaim := { program := "ytolkgjbljdmadaa", sum := "077debae5240ad52d21953f67eeb136968a1f8d2b74a7ce2fa2cdc2a616dc94a", func := "intarsia/intarsialaw11.EnvScripts", spec := "envScripts", unfollowed := true, recurses := true, apart := false, narrowed := true }
def EnvScriptsUptoSaid : Prop := envScriptsUptoRow.holds Try.pinned (OpenSpec.upto envScriptsSpec)

/-- 'intarsialaw11.EnvMatchesReference', WHERE WHAT IT READS IS OF BULK AT MOST 1048576: true; the input reads as it did. -/
def envMatchesReferenceUptoRow : OpenClaim := { program := "ytolkgjbljdmadaa", sum := "077debae5240ad52d21953f67eeb136968a1f8d2b74a7ce2fa2cdc2a616dc94a", func := "intarsia/intarsialaw11.EnvMatchesReference", spec := "envMatchesReference", unfollowed := true, recurses := true, apart := false, narrowed := true }
def EnvMatchesReferenceUptoSaid : Prop := envMatchesReferenceUptoRow.holds Try.pinned (OpenSpec.upto envMatchesReferenceSpec)

/-- 'intarsialaw11.EnvKeeps', WHERE WHAT IT READS IS OF BULK AT MOST 1048576: true; the input reads as it did. -/
def envKeepsUptoRow : OpenClaim := { program := "ytolkgjbljdmadaa", sum := "077debae5240ad52d21953f67eeb136968a1f8d2b74a7ce2fa2cdc2a616dc94a", func := "intarsia/intarsialaw11.EnvKeeps", spec := "envKeeps", unfollowed := true, recurses := true, apart := false, narrowed := true }
def EnvKeepsUptoSaid : Prop := envKeepsUptoRow.holds Try.pinned (OpenSpec.upto envKeepsSpec)

/-- 'intarsialaw12.SpecNames', WHERE WHAT IT READS IS OF BULK AT MOST 1048576: true; the input reads as it did. -/
def specNamesUptoRow : OpenClaim := { program := "ytolkgjbljdmadaa", sum := "077debae5240ad52d21953f67eeb136968a1f8d2b74a7ce2fa2cdc2a616dc94a", func := "intarsia/intarsialaw12.SpecNames", spec := "specNames", unfollowed := true, recurses := true, apart := false, narrowed := true }
def SpecNamesUptoSaid : Prop := specNamesUptoRow.holds Try.pinned (OpenSpec.upto specNamesSpec)

end Rows
end Go.Proofs.Ytolkgjbljdmadaa
