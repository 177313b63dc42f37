/-
  No cell of these rows narrows 'for every input' (looked for: loops, veiled, ifaces, maps, wideKeys, modest, calm, conditions, laid).
  DERIVED. THE GIVEN ROWS OF THIS SEAT. 6 by the template 'for every input the law returns true; each argument reads behind the call as it read before'; 0 by the template 'total and deterministic' (their statements: YtihfkoomimohbaaTotals.lean).
  GIVEN WITH THE SEED: the statements are not yours to turn. If you find one false, say at which input.
  Laid BY PROGRAM, IN A SANDBOX (cutbox-rows.mjs): the forced cells as the released guide's own fill.sh prints them over the translation 272ea70c65267d05… (all of the seat's roots in one cut). By AI agents, Wed Nov 11 2026. No macro, syntax, notation, axiom, sorry.
-/
import Derived.Test.YtihfkoomimohbaaChecked
import GoSem.Claim
import GoSem.ClaimJoined
import GoSem.ClaimMapViews
import Derived.JoinedTies
import Derived.KernelRfl
namespace Go.Proofs.Ytihfkoomimohbaa
/- THE CELL 'sum', in the pinned program and in every row, IS THE sha256 OF THE DUMP (.gsa) THAT YtihfkoomimohbaaProg.lean LOADS. Nothing in Lean hashes anything: it is a label: what it is worth is what the hold of that sum in a sandbox is worth. -/
noncomputable def Try.pinned : Pinned := { name := "ytihfkoomimohbaa", sum := "272ea70c65267d05716c174889ea3c5d65a3d2f51b50d1445930921fe5dafe01", checked := Try.checked }
namespace Rows
def none {H : Type} : Left H := { results := [], args := [] }

/-- 'galleylaw17.PastNames': WHATEVER THE INPUT: true; the input reads as it did. -/
def pastNamesSpec : ChangeSpec := { name := "pastNames", fn := fun _ => fun
  | [] => { results := [.lit (.bool true)], args := [] }
  | _ => none }
def pastNamesRow : OpenClaim := { program := "ytihfkoomimohbaa", sum := "272ea70c65267d05716c174889ea3c5d65a3d2f51b50d1445930921fe5dafe01", func := "galley/galleylaw17.PastNames", spec := "pastNames", apart := false }
def PastNamesSaid : Prop := pastNamesRow.holds Try.pinned (OpenSpec.ofChange pastNamesSpec)

/-- ITS FALSE NEIGHBOUR: 'it returns false'. Refute it at one input. -/
def pastNamesWrong : ChangeSpec := { name := "pastNames", fn := fun _ => fun
  | [] => { results := [.lit (.bool false)], args := [] }
  | _ => none }
def PastNamesWrongFalsely : Prop := pastNamesRow.holds Try.pinned (OpenSpec.ofChange pastNamesWrong)

/-- 'galleylaw17.PastPlays': WHATEVER THE INPUT: true; the input reads as it did. -/
def pastPlaysSpec : ChangeSpec := { name := "pastPlays", fn := fun _ => fun
  | [d1, d2, d3] => { results := [.lit (.bool true)], args := [d1, d2, d3] }
  | _ => none }
def pastPlaysRow : OpenClaim := { program := "ytihfkoomimohbaa", sum := "272ea70c65267d05716c174889ea3c5d65a3d2f51b50d1445930921fe5dafe01", func := "galley/galleylaw17.PastPlays", spec := "pastPlays", unfollowed := true, recurses := true, apart := false }
def PastPlaysSaid : Prop := pastPlaysRow.holds Try.pinned (OpenSpec.ofChange pastPlaysSpec)

/-- ITS FALSE NEIGHBOUR: 'it returns false'. Refute it at one input. -/
def pastPlaysWrong : ChangeSpec := { name := "pastPlays", fn := fun _ => fun
  | [d1, d2, d3] => { results := [.lit (.bool false)], args := [d1, d2, d3] }
  | _ => none }
def PastPlaysWrongFalsely : Prop := pastPlaysRow.holds Try.pinned (OpenSpec.ofChange pastPlaysWrong)

/-- 'galleylaw17.PastThere': WHATEVER THE INPUT: true; the input reads as it did. -/
def pastThereSpec : ChangeSpec := { name := "pastThere", fn := fun _ => fun
  | [d1, d2, d3] => { results := [.lit (.bool true)], args := [d1, d2, d3] }
  | _ => none }
def pastThereRow : OpenClaim := { program := "ytihfkoomimohbaa", sum := "272ea70c65267d05716c174889ea3c5d65a3d2f51b50d1445930921fe5dafe01", func := "galley/galleylaw17.PastThere", spec := "pastThere", apart := false }
def PastThereSaid : Prop := pastThereRow.holds Try.pinned (OpenSpec.ofChange pastThereSpec)

/-- ITS FALSE NEIGHBOUR: 'it returns false'. Refute it at one input. -/
def pastThereWrong : ChangeSpec := { name := "pastThere", fn := fun _ => fun
  | [d1, d2, d3] => { results := [.lit (.bool false)], args := [d1, d2, d3] }
  | _ => none }
def PastThereWrongFalsely : Prop := pastThereRow.holds Try.pinned (OpenSpec.ofChange pastThereWrong)

/-- 'galleylaw17.PastDoes': WHATEVER THE INPUT: true; the input reads as it did. -/
def pastDoesSpec : ChangeSpec := { name := "pastDoes", fn := fun _ => fun
  | [d1, d2, d3] => { results := [.lit (.bool true)], args := [d1, d2, d3] }
  | _ => none }
def pastDoesRow : OpenClaim := { program := "ytihfkoomimohbaa", sum := "272ea70c65267d05716c174889ea3c5d65a3d2f51b50d1445930921fe5dafe01", func := "galley/galleylaw17.PastDoes", spec := "pastDoes", apart := false }
def PastDoesSaid : Prop := pastDoesRow.holds Try.pinned (OpenSpec.ofChange pastDoesSpec)

/-- ITS FALSE NEIGHBOUR: 'it returns false'. Refute it at one input. -/
def pastDoesWrong : ChangeSpec := { name := "pastDoes", fn := fun _ => fun
  | [d1, d2, d3] => { results := [.lit (.bool false)], args := [d1, d2, d3] }
  | _ => none }
def PastDoesWrongFalsely : Prop := pastDoesRow.holds Try.pinned (OpenSpec.ofChange pastDoesWrong)

/-- 'galleylaw17.PastGroups': WHATEVER THE INPUT: true; the input reads as it did. -/
def pastGroupsSpec : ChangeSpec := { name := "pastGroups", fn := fun _ => fun
  | [d1, d2, d3] => { results := [.lit (.bool true)], args := [d1, d2, d3] }
  | _ => none }
def pastGroupsRow : OpenClaim := { program := "ytihfkoomimohbaa", sum := "272ea70c65267d05716c174889ea3c5d65a3d2f51b50d1445930921fe5dafe01", func := "galley/galleylaw17.PastGroups", spec := "pastGroups", apart := false }
def PastGroupsSaid : Prop := pastGroupsRow.holds Try.pinned (OpenSpec.ofChange pastGroupsSpec)

/-- ITS FALSE NEIGHBOUR: 'it returns false'. Refute it at one input. -/
def pastGroupsWrong : ChangeSpec := { name := "pastGroups", fn := fun _ => fun
  | [d1, d2, d3] => { results := [.lit (.bool false)], args := [d1, d2, d3] }
  | _ => none }
def PastGroupsWrongFalsely : Prop := pastGroupsRow.holds Try.pinned (OpenSpec.ofChange pastGroupsWrong)

/-- 'galleylaw17.PastMemory': WHATEVER THE INPUT: true; the input reads as it did. -/
def pastMemorySpec : ChangeSpec := { name := "pastMemory", fn := fun _ => fun
  | [d1, d2] => { results := [.lit (.bool true)], args := [d1, d2] }
  | _ => none }
def pastMemoryRow : OpenClaim := { program := "ytihfkoomimohbaa", sum := "272ea70c65267d05716c174889ea3c5d65a3d2f51b50d1445930921fe5dafe01", func := "galley/galleylaw17.PastMemory", spec := "pastMemory", apart := false }
def PastMemorySaid : Prop := pastMemoryRow.holds Try.pinned (OpenSpec.ofChange pastMemorySpec)

/-- ITS FALSE NEIGHBOUR: 'it returns false'. Refute it at one input. -/
def pastMemoryWrong : ChangeSpec := { name := "pastMemory", fn := fun _ => fun
  | [d1, d2] => { results := [.lit (.bool false)], args := [d1, d2] }
  | _ => none }
def PastMemoryWrongFalsely : Prop := pastMemoryRow.holds Try.pinned (OpenSpec.ofChange pastMemoryWrong)

/- THE SECOND FORM. 'bulk': how many values and letters a reading holds, each counted each time it is reached (what is shared counts as often as it is met; a slice's spare places count too). A statement '..UptoSaid' is the law's where the arguments, and the package variables that the reading takes, are together of bulk at most 1048576: NARROWER than '..Said'. Prove '..Said' where nothing that the law and all that it calls make is longer than what came in: it says more and counts as full. Else prove '..UptoSaid'. A law counts once. -/
mutual
def uptoBulk {H : Type} : DataW H → Nat
  | .lit (.string bytes) => bytes.length + 1
  | .lit _ => 1
  | .nil => 1
  | .ptr d => uptoBulk d + 1
  | .slice elems spare => uptoBulkAll elems + uptoBulkAll spare + 1
  | .agg parts => uptoBulkAll parts + 1
  | .iface _ d => uptoBulk d + 1
  | .map entries => uptoBulkEntries entries + 1
  | .held _ => 1
def uptoBulkAll {H : Type} : List (DataW H) → Nat
  | [] => 0
  | d :: r => uptoBulk d + uptoBulkAll r
def uptoBulkEntries {H : Type} : List (Lit × DataW H) → Nat
  | [] => 0
  | x :: r => uptoBulkEntry x + uptoBulkEntries r
def uptoBulkEntry {H : Type} : Lit × DataW H → Nat
  | (.string bytes, d) => bytes.length + uptoBulk d + 1
  | (_, d) => uptoBulk d + 1
 end
def uptoSmall : (H : Type) → List (DataW H) → Bool := fun _ ds => decide (uptoBulkAll ds ≤ 1048576)
def OpenSpec.upto (s : _root_.Go.ChangeSpec) : _root_.Go.OpenSpec := { _root_.Go.OpenSpec.ofChange s with cond := some uptoSmall }

/-- 'galleylaw17.PastNames', WHERE WHAT IT READS IS OF BULK AT MOST 1048576: true; the input reads as it did. -/
def pastNamesUptoRow : OpenClaim := { program := "ytihfkoomimohbaa", sum := "272ea70c65267d05716c174889ea3c5d65a3d2f51b50d1445930921fe5dafe01", func := "galley/galleylaw17.PastNames", spec := "pastNames", apart := false, narrowed := true }
def PastNamesUptoSaid : Prop := pastNamesUptoRow.holds Try.pinned (OpenSpec.upto pastNamesSpec)

/-- 'galleylaw17.PastPlays', WHERE WHAT IT READS IS OF BULK AT MOST 1048576: true; the input reads as it did. -/
def pastPlaysUptoRow : OpenClaim := { program := "ytihfkoomimohbaa", sum := "272ea70c65267d05716c174889ea3c5d65a3d2f51b50d1445930921fe5dafe01", func := "galley/galleylaw17.PastPlays", spec := "pastPlays", unfollowed := true, recurses := true, apart := false, narrowed := true }
def PastPlaysUptoSaid : Prop := pastPlaysUptoRow.holds Try.pinned (OpenSpec.upto pastPlaysSpec)

/-- 'galleylaw17.PastThere', WHERE WHAT IT READS IS OF BULK AT MOST 1048576: true; the input reads as it did. -/
def pastThereUptoRow : OpenClaim := { program := "ytihfkoomimohbaa", sum := "272ea70c65267d05716c174889ea3c5d65a3d2f51b50d1445930921fe5dafe01", func := "galley/galleylaw17.PastThere", spec := "pastThere", apart := false, narrowed := true }
def PastThereUptoSaid : Prop := pastThereUptoRow.holds Try.pinned (OpenSpec.upto pastThereSpec)

/-- 'galleylaw17.PastDoes', WHERE WHAT IT READS IS OF BULK AT MOST 1048576: true; the input reads as it did. -/
def pastDoesUptoRow : OpenClaim := { program := "ytihfkoomimohbaa", sum := "272ea70c65267d05716c174889ea3c5d65a3d2f51b50d1445930921fe5dafe01", func := "galley/galleylaw17.PastDoes", spec := "pastDoes", apart := false, narrowed := true }
def PastDoesUptoSaid : Prop := pastDoesUptoRow.holds Try.pinned (OpenSpec.upto pastDoesSpec)

/-- 'galleylaw17.PastGroups', WHERE WHAT IT READS IS OF BULK AT MOST 1048576: true; the input reads as it did. -/
def pastGroupsUptoRow : OpenClaim := { program := "ytihfkoomimohbaa", sum := "272ea70c65267d05716c174889ea3c5d65a3d2f51b50d1445930921fe5dafe01", func := "galley/galleylaw17.PastGroups", spec := "pastGroups", apart := false, narrowed := true }
def PastGroupsUptoSaid : Prop := pastGroupsUptoRow.holds Try.pinned (OpenSpec.upto pastGroupsSpec)

/-- 'galleylaw17.PastMemory', WHERE WHAT IT READS IS OF BULK AT MOST 1048576: true; the input reads as it did. -/
def pastMemoryUptoRow : OpenClaim := { program := "ytihfkoomimohbaa", sum := "272ea70c65267d05716c174889ea3c5d65a3d2f51b50d1445930921fe5dafe01", func := "galley/galleylaw17.PastMemory", spec := "pastMemory", apart := false, narrowed := true }
def PastMemoryUptoSaid : Prop := pastMemoryUptoRow.holds Try.pinned (OpenSpec.upto pastMemorySpec)

end Rows
end Go.Proofs.Ytihfkoomimohbaa
