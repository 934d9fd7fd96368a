/-
  No cell of these rows narrows 'for every input' (looked for: loops, veiled, ifaces, maps, wideKeys, modest, calm, conditions, laid).
  DERIVED. THE GIVEN ROWS OF THIS SEAT. 3 by the template 'for every input the law returns true; each argument reads behind the call as it read before'; 0 by the template 'total and deterministic' (their statements: YtbdedbhafciilaaTotals.lean).
  GIVEN WITH THE SEED: the statements are not yours to turn. If you find one false, say at which input.
  Laid BY PROGRAM, IN A SANDBOX (cutbox-rows.mjs): the forced cells as the released guide's own fill.sh prints them over the translation 06ef79207abfa062… (all of the seat's roots in one cut). By AI agents, Wed Nov 11 2026. No macro, syntax, notation, axiom, sorry.
-/
import Derived.Test.YtbdedbhafciilaaChecked
import GoSem.Claim
import GoSem.ClaimJoined
import GoSem.ClaimMapViews
import Derived.JoinedTies
import Derived.KernelRfl
namespace Go.Proofs.Ytbdedbhafciilaa
/- THE CELL 'sum', in the pinned program and in every row, IS THE sha256 OF THE DUMP (.gsa) THAT YtbdedbhafciilaaProg.lean LOADS. Nothing in Lean hashes anything: it is a label: what it is worth is what the hold of that sum in a sandbox is worth. -/
noncomputable def Try.pinned : Pinned := { name := "ytbdedbhafciilaa", sum := "06ef79207abfa06247fe51a07cff135b581476307f1f6e9dd0d07ad5d9dba70e", checked := Try.checked }
namespace Rows
def none {H : Type} : Left H := { results := [], args := [] }

/-- 'trencherlaw06.ClassesOf': WHATEVER THE INPUT: true; the input reads as it did. -/
def classesOfSpec : ChangeSpec := { name := "classesOf", fn := fun _ => fun
  | [d1, d2] => { results := [.lit (.bool true)], args := [d1, d2] }
  | _ => none }
def classesOfRow : OpenClaim := { program := "ytbdedbhafciilaa", sum := "06ef79207abfa06247fe51a07cff135b581476307f1f6e9dd0d07ad5d9dba70e", func := "trencher/trencherlaw06.ClassesOf", spec := "classesOf", apart := false }
def ClassesOfSaid : Prop := classesOfRow.holds Try.pinned (OpenSpec.ofChange classesOfSpec)

/-- ITS FALSE NEIGHBOUR: 'it returns false'. Refute it at one input. -/
def classesOfWrong : ChangeSpec := { name := "classesOf", fn := fun _ => fun
  | [d1, d2] => { results := [.lit (.bool false)], args := [d1, d2] }
  | _ => none }
def ClassesOfWrongFalsely : Prop := classesOfRow.holds Try.pinned (OpenSpec.ofChange classesOfWrong)

/-- 'trencherlaw06.ClassesNames': WHATEVER THE INPUT: true; the input reads as it did. -/
def classesNamesSpec : ChangeSpec := { name := "classesNames", fn := fun _ => fun
  | [d] => { results := [.lit (.bool true)], args := [d] }
  | _ => none }
def classesNamesRow : OpenClaim := { program := "ytbdedbhafciilaa", sum := "06ef79207abfa06247fe51a07cff135b581476307f1f6e9dd0d07ad5d9dba70e", func := "trencher/trencherlaw06.ClassesNames", spec := "classesNames", apart := false }
def ClassesNamesSaid : Prop := classesNamesRow.holds Try.pinned (OpenSpec.ofChange classesNamesSpec)

/-- ITS FALSE NEIGHBOUR: 'it returns false'. Refute it at one input. -/
def classesNamesWrong : ChangeSpec := { name := "classesNames", fn := fun _ => fun
  | [d] => { results := [.lit (.bool false)], args := [d] }
  | _ => none }
def ClassesNamesWrongFalsely : Prop := classesNamesRow.holds Try.pinned (OpenSpec.ofChange classesNamesWrong)

/-- 'trencherlaw31.TextsPack': WHATEVER THE INPUT: true; the input reads as it did. -/
def textsPackSpec : ChangeSpec := { name := "textsPack", fn := fun _ => fun
  | [d1, d2] => { results := [.lit (.bool true)], args := [d1, d2] }
  | _ => none }
def textsPackRow : OpenClaim := { program := "ytbdedbhafciilaa", sum := "06ef79207abfa06247fe51a07cff135b581476307f1f6e9dd0d07ad5d9dba70e", func := "trencher/trencherlaw31.TextsPack", spec := "textsPack", unfollowed := true, recurses := true, apart := false }
def TextsPackSaid : Prop := textsPackRow.holds Try.pinned (OpenSpec.ofChange textsPackSpec)

/-- ITS FALSE NEIGHBOUR: 'it returns false'. Refute it at one input. -/
def textsPackWrong : ChangeSpec := { name := "textsPack", fn := fun _ => fun
  | [d1, d2] => { results := [.lit (.bool false)], args := [d1, d2] }
  | _ => none }
def TextsPackWrongFalsely : Prop := textsPackRow.holds Try.pinned (OpenSpec.ofChange textsPackWrong)

/- THE SECOND FORM. 'bulk': how many values and letters a reading holds, each counted each time it is reached (what is shared counts as often as it is met; a slice's spare places count too). A statement '..UptoSaid' is the law's where the arguments, and the package variables that the reading takes, are together of bulk at most 1048576: NARROWER than '..Said'. Prove '..Said' where nothing that the law and all that it calls make is longer than what came in: it says more and counts as full. Else prove '..UptoSaid'. A law counts once. -/
mutual
def uptoBulk {H : Type} : DataW H → Nat
  | .lit (.string bytes) => bytes.length + 1
  | .lit _ => 1
  | .nil => 1
  | .ptr d => uptoBulk d + 1
  | .slice elems spare => uptoBulkAll elems + uptoBulkAll spare + 1
  | .agg parts => uptoBulkAll parts + 1
  | .iface _ d => uptoBulk d + 1
  | .map entries => uptoBulkEntries entries + 1
  | .held _ => 1
def uptoBulkAll {H : Type} : List (DataW H) → Nat
  | [] => 0
  | d :: r => uptoBulk d + uptoBulkAll r
def uptoBulkEntries {H : Type} : List (Lit × DataW H) → Nat
  | [] => 0
  | x :: r => uptoBulkEntry x + uptoBulkEntries r
def uptoBulkEntry {H : Type} : Lit × DataW H → Nat
  | (.string bytes, d) => bytes.length + uptoBulk d + 1
  | (_, d) => uptoBulk d + 1
 end
def uptoSmall : (H : Type) → List (DataW H) → Bool := fun _ ds => decide (uptoBulkAll ds ≤ 1048576)
def OpenSpec.upto (s : _root_.Go.ChangeSpec) : _root_.Go.OpenSpec := { _root_.Go.OpenSpec.ofChange s with cond := some uptoSmall }

/-- 'trencherlaw06.ClassesOf', WHERE WHAT IT READS IS OF BULK AT MOST 1048576: true; the input reads as it did. -/
def classesOfUptoRow : OpenClaim := { program := "ytbdedbhafciilaa", sum := "06ef79207abfa06247fe51a07cff135b581476307f1f6e9dd0d07ad5d9dba70e", func := "trencher/trencherlaw06.ClassesOf", spec := "classesOf", apart := false, narrowed := true }
def ClassesOfUptoSaid : Prop := classesOfUptoRow.holds Try.pinned (OpenSpec.upto classesOfSpec)

/-- 'trencherlaw06.ClassesNames', WHERE WHAT IT READS IS OF BULK AT MOST 1048576: true; the input reads as it did. -/
def classesNamesUptoRow : OpenClaim := { program := "ytbdedbhafciilaa", sum := "06ef79207abfa06247fe51a07cff135b581476307f1f6e9dd0d07ad5d9dba70e", func := "trencher/trencherlaw06.ClassesNames", spec := "classesNames", apart := false, narrowed := true }
def ClassesNamesUptoSaid : Prop := classesNamesUptoRow.holds Try.pinned (OpenSpec.upto classesNamesSpec)

/-- 'trencherlaw31.TextsPack', WHERE WHAT IT READS IS OF BULK AT MOST 1048576: true; the input reads as it did. -/
def textsPackUptoRow : OpenClaim := { program := "ytbdedbhafciilaa", sum := "06ef79207abfa06247fe51a07cff135b581476307f1f6e9dd0d07ad5d9dba70e", func := "trencher/trencherlaw31.TextsPack", spec := "textsPack", unfollowed := true, recurses := true, apart := false, narrowed := true }
def TextsPackUptoSaid : Prop := textsPackUptoRow.holds Try.pinned (OpenSpec.upto textsPackSpec)

end Rows
end Go.Proofs.Ytbdedbhafciilaa
