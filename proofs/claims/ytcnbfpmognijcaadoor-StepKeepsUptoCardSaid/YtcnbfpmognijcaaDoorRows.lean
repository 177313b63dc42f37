/-
  NARROWER THAN 'FOR EVERY INPUT', by the rows' own cells (each row's printed sentence says how): StepLocal: laid · StepNames: laid · StepLanguage: laid · StepPlaces: laid · StepTiles: laid · StepWalks: laid · StepKeeps: laid.
  DERIVED. THE GIVEN ROWS OF THIS SEAT. 7 by the template 'for every input the law returns true; each argument reads behind the call as it read before'; 0 by the template 'total and deterministic' (their statements: YtcnbfpmognijcaaDoorTotals.lean).
  GIVEN WITH THE SEED: the statements are not yours to turn. If you find one false, say at which input.
  Laid BY PROGRAM, IN A SANDBOX (cutbox-rows.mjs): the forced cells as the released guide's own fill.sh prints them over the translation 6c2574a7bd229c92… (all of the seat's roots in one cut). By AI agents, Wed Nov 11 2026. No macro, syntax, notation, axiom, sorry.
-/
import Derived.Test.YtcnbfpmognijcaaDoorChecked
import GoSem.Claim
import GoSem.ClaimJoined
import GoSem.ClaimMapViews
import Derived.JoinedTies
import Derived.KernelRfl
namespace Go.Proofs.YtcnbfpmognijcaaDoor
/- THE CELL 'sum', in the pinned program and in every row, IS THE sha256 OF THE DUMP (.gsa) THAT YtcnbfpmognijcaaDoorProg.lean LOADS. Nothing in Lean hashes anything: it is a label: what it is worth is what the hold of that sum in a sandbox is worth. -/
noncomputable def Tryd.pinned : Pinned := { name := "ytcnbfpmognijcaadoor", sum := "6c2574a7bd229c92ae5a5181f13d2d227b5edc79f2b12e394fdb8c27917ac9a7", checked := Tryd.checked }
namespace Rows
def none {H : Type} : Left H := { results := [], args := [] }

/- WHAT THE LISTED PACKAGE-LEVEL VARIABLES READ AS WHEN THE CALL BEGINS. Each datum BY PROGRAM (the guide's laid-datum.mjs) off the statement by which the dump's own 'gosem.cut.vars' lays the variable. In a bare row this is a premise. The card (YtcnbfpmognijcaaDoorCards.lean) ties it to the program's text. -/
def laid_galley_step_bad {H : Type} : DataW H := .agg [.lit (.int .i32 65533), .lit (.int .i64 1), .lit (.bool false)]

/-- 'galleylaw02.StepLocal': WHATEVER THE INPUT: true; the input reads as it did. -/
def stepLocalSpec : ChangeSpec := { name := "stepLocal", fn := fun _ => fun
  | [d1, d2, d3] => { results := [.lit (.bool true)], args := [d1, d2, d3] }
  | _ => none }
def stepLocalRow : OpenClaim := { program := "ytcnbfpmognijcaadoor", sum := "6c2574a7bd229c92ae5a5181f13d2d227b5edc79f2b12e394fdb8c27917ac9a7", func := "galley/galleylaw02.StepLocal", spec := "stepLocal", named := ["galley/step.bad"], apart := false, laid := [("galley/step.bad", laid_galley_step_bad)] }
def StepLocalSaid : Prop := stepLocalRow.holds Tryd.pinned (OpenSpec.ofChange stepLocalSpec)

/-- ITS FALSE NEIGHBOUR: 'it returns false'. Refute it at one input. -/
def stepLocalWrong : ChangeSpec := { name := "stepLocal", fn := fun _ => fun
  | [d1, d2, d3] => { results := [.lit (.bool false)], args := [d1, d2, d3] }
  | _ => none }
def StepLocalWrongFalsely : Prop := stepLocalRow.holds Tryd.pinned (OpenSpec.ofChange stepLocalWrong)

/-- 'galleylaw02.StepNames': WHATEVER THE INPUT: true; the input reads as it did. -/
def stepNamesSpec : ChangeSpec := { name := "stepNames", fn := fun _ => fun
  | [] => { results := [.lit (.bool true)], args := [] }
  | _ => none }
def stepNamesRow : OpenClaim := { program := "ytcnbfpmognijcaadoor", sum := "6c2574a7bd229c92ae5a5181f13d2d227b5edc79f2b12e394fdb8c27917ac9a7", func := "galley/galleylaw02.StepNames", spec := "stepNames", unfollowed := true, recurses := true, named := ["galley/step.bad"], apart := false, laid := [("galley/step.bad", laid_galley_step_bad)] }
def StepNamesSaid : Prop := stepNamesRow.holds Tryd.pinned (OpenSpec.ofChange stepNamesSpec)

/-- ITS FALSE NEIGHBOUR: 'it returns false'. Refute it at one input. -/
def stepNamesWrong : ChangeSpec := { name := "stepNames", fn := fun _ => fun
  | [] => { results := [.lit (.bool false)], args := [] }
  | _ => none }
def StepNamesWrongFalsely : Prop := stepNamesRow.holds Tryd.pinned (OpenSpec.ofChange stepNamesWrong)

/-- 'galleylaw02.StepLanguage': WHATEVER THE INPUT: true; the input reads as it did. -/
def stepLanguageSpec : ChangeSpec := { name := "stepLanguage", fn := fun _ => fun
  | [d] => { results := [.lit (.bool true)], args := [d] }
  | _ => none }
def stepLanguageRow : OpenClaim := { program := "ytcnbfpmognijcaadoor", sum := "6c2574a7bd229c92ae5a5181f13d2d227b5edc79f2b12e394fdb8c27917ac9a7", func := "galley/galleylaw02.StepLanguage", spec := "stepLanguage", unfollowed := true, recurses := true, named := ["galley/step.bad"], apart := false, laid := [("galley/step.bad", laid_galley_step_bad)] }
def StepLanguageSaid : Prop := stepLanguageRow.holds Tryd.pinned (OpenSpec.ofChange stepLanguageSpec)

/-- ITS FALSE NEIGHBOUR: 'it returns false'. Refute it at one input. -/
def stepLanguageWrong : ChangeSpec := { name := "stepLanguage", fn := fun _ => fun
  | [d] => { results := [.lit (.bool false)], args := [d] }
  | _ => none }
def StepLanguageWrongFalsely : Prop := stepLanguageRow.holds Tryd.pinned (OpenSpec.ofChange stepLanguageWrong)

/-- 'galleylaw02.StepPlaces': WHATEVER THE INPUT: true; the input reads as it did. -/
def stepPlacesSpec : ChangeSpec := { name := "stepPlaces", fn := fun _ => fun
  | [d1, d2] => { results := [.lit (.bool true)], args := [d1, d2] }
  | _ => none }
def stepPlacesRow : OpenClaim := { program := "ytcnbfpmognijcaadoor", sum := "6c2574a7bd229c92ae5a5181f13d2d227b5edc79f2b12e394fdb8c27917ac9a7", func := "galley/galleylaw02.StepPlaces", spec := "stepPlaces", named := ["galley/step.bad"], apart := false, laid := [("galley/step.bad", laid_galley_step_bad)] }
def StepPlacesSaid : Prop := stepPlacesRow.holds Tryd.pinned (OpenSpec.ofChange stepPlacesSpec)

/-- ITS FALSE NEIGHBOUR: 'it returns false'. Refute it at one input. -/
def stepPlacesWrong : ChangeSpec := { name := "stepPlaces", fn := fun _ => fun
  | [d1, d2] => { results := [.lit (.bool false)], args := [d1, d2] }
  | _ => none }
def StepPlacesWrongFalsely : Prop := stepPlacesRow.holds Tryd.pinned (OpenSpec.ofChange stepPlacesWrong)

/-- 'galleylaw02.StepTiles': WHATEVER THE INPUT: true; the input reads as it did. -/
def stepTilesSpec : ChangeSpec := { name := "stepTiles", fn := fun _ => fun
  | [d] => { results := [.lit (.bool true)], args := [d] }
  | _ => none }
def stepTilesRow : OpenClaim := { program := "ytcnbfpmognijcaadoor", sum := "6c2574a7bd229c92ae5a5181f13d2d227b5edc79f2b12e394fdb8c27917ac9a7", func := "galley/galleylaw02.StepTiles", spec := "stepTiles", unfollowed := true, recurses := true, named := ["galley/step.bad"], apart := false, laid := [("galley/step.bad", laid_galley_step_bad)] }
def StepTilesSaid : Prop := stepTilesRow.holds Tryd.pinned (OpenSpec.ofChange stepTilesSpec)

/-- ITS FALSE NEIGHBOUR: 'it returns false'. Refute it at one input. -/
def stepTilesWrong : ChangeSpec := { name := "stepTiles", fn := fun _ => fun
  | [d] => { results := [.lit (.bool false)], args := [d] }
  | _ => none }
def StepTilesWrongFalsely : Prop := stepTilesRow.holds Tryd.pinned (OpenSpec.ofChange stepTilesWrong)

/-- 'galleylaw02.StepWalks': WHATEVER THE INPUT: true; the input reads as it did. -/
def stepWalksSpec : ChangeSpec := { name := "stepWalks", fn := fun _ => fun
  | [d1, d2] => { results := [.lit (.bool true)], args := [d1, d2] }
  | _ => none }
def stepWalksRow : OpenClaim := { program := "ytcnbfpmognijcaadoor", sum := "6c2574a7bd229c92ae5a5181f13d2d227b5edc79f2b12e394fdb8c27917ac9a7", func := "galley/galleylaw02.StepWalks", spec := "stepWalks", unfollowed := true, recurses := true, named := ["galley/step.bad"], apart := false, laid := [("galley/step.bad", laid_galley_step_bad)] }
def StepWalksSaid : Prop := stepWalksRow.holds Tryd.pinned (OpenSpec.ofChange stepWalksSpec)

/-- ITS FALSE NEIGHBOUR: 'it returns false'. Refute it at one input. -/
def stepWalksWrong : ChangeSpec := { name := "stepWalks", fn := fun _ => fun
  | [d1, d2] => { results := [.lit (.bool false)], args := [d1, d2] }
  | _ => none }
def StepWalksWrongFalsely : Prop := stepWalksRow.holds Tryd.pinned (OpenSpec.ofChange stepWalksWrong)

/-- 'galleylaw02.StepKeeps': WHATEVER THE INPUT: true; the input reads as it did. -/
def stepKeepsSpec : ChangeSpec := { name := "stepKeeps", fn := fun _ => fun
  | [d] => { results := [.lit (.bool true)], args := [d] }
  | _ => none }
def stepKeepsRow : OpenClaim := { program := "ytcnbfpmognijcaadoor", sum := "6c2574a7bd229c92ae5a5181f13d2d227b5edc79f2b12e394fdb8c27917ac9a7", func := "galley/galleylaw02.StepKeeps", spec := "stepKeeps", unfollowed := true, recurses := true, named := ["galley/step.bad"], apart := false, laid := [("galley/step.bad", laid_galley_step_bad)] }
def StepKeepsSaid : Prop := stepKeepsRow.holds Tryd.pinned (OpenSpec.ofChange stepKeepsSpec)

/-- ITS FALSE NEIGHBOUR: 'it returns false'. Refute it at one input. -/
def stepKeepsWrong : ChangeSpec := { name := "stepKeeps", fn := fun _ => fun
  | [d] => { results := [.lit (.bool false)], args := [d] }
  | _ => none }
def StepKeepsWrongFalsely : Prop := stepKeepsRow.holds Tryd.pinned (OpenSpec.ofChange stepKeepsWrong)

/- THE SECOND FORM. 'bulk': how many values and letters a reading holds, each counted each time it is reached (what is shared counts as often as it is met; a slice's spare places count too). A statement '..UptoSaid' is the law's where the arguments, and the package variables that the reading takes, are together of bulk at most 1048576: NARROWER than '..Said'. Prove '..Said' where nothing that the law and all that it calls make is longer than what came in: it says more and counts as full. Else prove '..UptoSaid'. A law counts once. -/
mutual
def uptoBulk {H : Type} : DataW H → Nat
  | .lit (.string bytes) => bytes.length + 1
  | .lit _ => 1
  | .nil => 1
  | .ptr d => uptoBulk d + 1
  | .slice elems spare => uptoBulkAll elems + uptoBulkAll spare + 1
  | .agg parts => uptoBulkAll parts + 1
  | .iface _ d => uptoBulk d + 1
  | .map entries => uptoBulkEntries entries + 1
  | .held _ => 1
def uptoBulkAll {H : Type} : List (DataW H) → Nat
  | [] => 0
  | d :: r => uptoBulk d + uptoBulkAll r
def uptoBulkEntries {H : Type} : List (Lit × DataW H) → Nat
  | [] => 0
  | x :: r => uptoBulkEntry x + uptoBulkEntries r
def uptoBulkEntry {H : Type} : Lit × DataW H → Nat
  | (.string bytes, d) => bytes.length + uptoBulk d + 1
  | (_, d) => uptoBulk d + 1
 end
def uptoSmall : (H : Type) → List (DataW H) → Bool := fun _ ds => decide (uptoBulkAll ds ≤ 1048576)
def OpenSpec.upto (s : _root_.Go.ChangeSpec) : _root_.Go.OpenSpec := { _root_.Go.OpenSpec.ofChange s with cond := some uptoSmall }

/-- 'galleylaw02.StepLocal', WHERE WHAT IT READS IS OF BULK AT MOST 1048576: true; the input reads as it did. -/
def stepLocalUptoRow : OpenClaim := { program := "ytcnbfpmognijcaadoor", sum := "6c2574a7bd229c92ae5a5181f13d2d227b5edc79f2b12e394fdb8c27917ac9a7", func := "galley/galleylaw02.StepLocal", spec := "stepLocal", named := ["galley/step.bad"], apart := false, laid := [("galley/step.bad", laid_galley_step_bad)], narrowed := true }
def StepLocalUptoSaid : Prop := stepLocalUptoRow.holds Tryd.pinned (OpenSpec.upto stepLocalSpec)

/-- 'galleylaw02.StepNames', WHERE WHAT IT READS IS OF BULK AT MOST 1048576: true; the input reads as it did. -/
def stepNamesUptoRow : OpenClaim := { program := "ytcnbfpmognijcaadoor", sum := "6c2574a7bd229c92ae5a5181f13d2d227b5edc79f2b12e394fdb8c27917ac9a7", func := "galley/galleylaw02.StepNames", spec := "stepNames", unfollowed := true, recurses := true, named := ["galley/step.bad"], apart := false, laid := [("galley/step.bad", laid_galley_step_bad)], narrowed := true }
def StepNamesUptoSaid : Prop := stepNamesUptoRow.holds Tryd.pinned (OpenSpec.upto stepNamesSpec)

/-- 'galleylaw02.StepLanguage', WHERE WHAT IT READS IS OF BULK AT MOST 1048576: true; the input reads as it did. -/
def stepLanguageUptoRow : OpenClaim := { program := "ytcnbfpmognijcaadoor", sum := "6c2574a7bd229c92ae5a5181f13d2d227b5edc79f2b12e394fdb8c27917ac9a7", func := "galley/galleylaw02.StepLanguage", spec := "stepLanguage", unfollowed := true, recurses := true, named := ["galley/step.bad"], apart := false, laid := [("galley/step.bad", laid_galley_step_bad)], narrowed := true }
def StepLanguageUptoSaid : Prop := stepLanguageUptoRow.holds Tryd.pinned (OpenSpec.upto stepLanguageSpec)

/-- 'galleylaw02.StepPlaces', WHERE WHAT IT READS IS OF BULK AT MOST 1048576: true; the input reads as it did. -/
def stepPlacesUptoRow : OpenClaim := { program := "ytcnbfpmognijcaadoor", sum := "6c2574a7bd229c92ae5a5181f13d2d227b5edc79f2b12e394fdb8c27917ac9a7", func := "galley/galleylaw02.StepPlaces", spec := "stepPlaces", named := ["galley/step.bad"], apart := false, laid := [("galley/step.bad", laid_galley_step_bad)], narrowed := true }
def StepPlacesUptoSaid : Prop := stepPlacesUptoRow.holds Tryd.pinned (OpenSpec.upto stepPlacesSpec)

/-- 'galleylaw02.StepTiles', WHERE WHAT IT READS IS OF BULK AT MOST 1048576: true; the input reads as it did. -/
def stepTilesUptoRow : OpenClaim := { program := "ytcnbfpmognijcaadoor", sum := "6c2574a7bd229c92ae5a5181f13d2d227b5edc79f2b12e394fdb8c27917ac9a7", func := "galley/galleylaw02.StepTiles", spec := "stepTiles", unfollowed := true, recurses := true, named := ["galley/step.bad"], apart := false, laid := [("galley/step.bad", laid_galley_step_bad)], narrowed := true }
def StepTilesUptoSaid : Prop := stepTilesUptoRow.holds Tryd.pinned (OpenSpec.upto stepTilesSpec)

/-- 'galleylaw02.StepWalks', WHERE WHAT IT READS IS OF BULK AT MOST 1048576: true; the input reads as it did. -/
def stepWalksUptoRow : OpenClaim := { program := "ytcnbfpmognijcaadoor", sum := "6c2574a7bd229c92ae5a5181f13d2d227b5edc79f2b12e394fdb8c27917ac9a7", func := "galley/galleylaw02.StepWalks", spec := "stepWalks", unfollowed := true, recurses := true, named := ["galley/step.bad"], apart := false, laid := [("galley/step.bad", laid_galley_step_bad)], narrowed := true }
def StepWalksUptoSaid : Prop := stepWalksUptoRow.holds Tryd.pinned (OpenSpec.upto stepWalksSpec)

/-- 'galleylaw02.StepKeeps', WHERE WHAT IT READS IS OF BULK AT MOST 1048576: true; the input reads as it did. -/
def stepKeepsUptoRow : OpenClaim := { program := "ytcnbfpmognijcaadoor", sum := "6c2574a7bd229c92ae5a5181f13d2d227b5edc79f2b12e394fdb8c27917ac9a7", func := "galley/galleylaw02.StepKeeps", spec := "stepKeeps", unfollowed := true, recurses := true, named := ["galley/step.bad"], apart := false, laid := [("galley/step.bad", laid_galley_step_bad)], narrowed := true }
def StepKeepsUptoSaid : Prop := stepKeepsUptoRow.holds Tryd.pinned (OpenSpec.upto stepKeepsSpec)

end Rows
end Go.Proofs.YtcnbfpmognijcaaDoor
