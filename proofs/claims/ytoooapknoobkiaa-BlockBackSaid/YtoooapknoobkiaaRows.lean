/-
  No cell of these rows narrows 'for every input' (looked for: loops, veiled, ifaces, maps, wideKeys, modest, calm, conditions, laid).
  DERIVED. THE GIVEN ROWS OF THIS SEAT. 4 by the template 'for every input the law returns true; each argument reads behind the call as it read before'; 0 by the template 'total and deterministic' (their statements: YtoooapknoobkiaaTotals.lean).
  GIVEN WITH THE SEED: the statements are not yours to turn. If you find one false, say at which input.
  Laid BY PROGRAM, IN A SANDBOX (cutbox-rows.mjs): the forced cells as the released guide's own fill.sh prints them over the translation a71c43e6e9b24ce9… (all of the seat's roots in one cut). By AI agents, Wed Nov 11 2026. No macro, syntax, notation, axiom, sorry.
-/
import Derived.Test.YtoooapknoobkiaaChecked
import GoSem.Claim
import GoSem.ClaimJoined
import GoSem.ClaimMapViews
import Derived.JoinedTies
import Derived.KernelRfl
namespace Go.Proofs.Ytoooapknoobkiaa
/- THE CELL 'sum', in the pinned program and in every row, IS THE sha256 OF THE DUMP (.gsa) THAT YtoooapknoobkiaaProg.lean LOADS. Nothing in Lean hashes anything: it is a label: what it is worth is what the hold of that sum in a sandbox is worth. -/
noncomputable def Try.pinned : Pinned := { name := "ytoooapknoobkiaa", sum := "a71c43e6e9b24ce9e9a0e914886ab3b8924536ae528227e997761e01ebab5d5e", checked := Try.checked }
namespace Rows
def none {H : Type} : Left H := { results := [], args := [] }

/-- 'trencherlaw09.BlockMore': WHATEVER THE INPUT: true; the input reads as it did. -/
def blockMoreSpec : ChangeSpec := { name := "blockMore", fn := fun _ => fun
  | [d1, d2] => { results := [.lit (.bool true)], args := [d1, d2] }
  | _ => none }
def blockMoreRow : OpenClaim := { program := "ytoooapknoobkiaa", sum := "a71c43e6e9b24ce9e9a0e914886ab3b8924536ae528227e997761e01ebab5d5e", func := "trencher/trencherlaw09.BlockMore", spec := "blockMore", unfollowed := true, recurses := true, apart := false }
def BlockMoreSaid : Prop := blockMoreRow.holds Try.pinned (OpenSpec.ofChange blockMoreSpec)

/-- ITS FALSE NEIGHBOUR: 'it returns false'. Refute it at one input. -/
def blockMoreWrong : ChangeSpec := { name := "blockMore", fn := fun _ => fun
  | [d1, d2] => { results := [.lit (.bool false)], args := [d1, d2] }
  | _ => none }
def BlockMoreWrongFalsely : Prop := blockMoreRow.holds Try.pinned (OpenSpec.ofChange blockMoreWrong)

/-- 'trencherlaw09.BlockParts': WHATEVER THE INPUT: true; the input reads as it did. -/
def blockPartsSpec : ChangeSpec := { name := "blockParts", fn := fun _ => fun
  | [d1, d2, d3] => { results := [.lit (.bool true)], args := [d1, d2, d3] }
  | _ => none }
def blockPartsRow : OpenClaim := { program := "ytoooapknoobkiaa", sum := "a71c43e6e9b24ce9e9a0e914886ab3b8924536ae528227e997761e01ebab5d5e", func := "trencher/trencherlaw09.BlockParts", spec := "blockParts", unfollowed := true, recurses := true, apart := false }
def BlockPartsSaid : Prop := blockPartsRow.holds Try.pinned (OpenSpec.ofChange blockPartsSpec)

/-- ITS FALSE NEIGHBOUR: 'it returns false'. Refute it at one input. -/
def blockPartsWrong : ChangeSpec := { name := "blockParts", fn := fun _ => fun
  | [d1, d2, d3] => { results := [.lit (.bool false)], args := [d1, d2, d3] }
  | _ => none }
def BlockPartsWrongFalsely : Prop := blockPartsRow.holds Try.pinned (OpenSpec.ofChange blockPartsWrong)

/-- 'trencherlaw09.BlockWords': WHATEVER THE INPUT: true; the input reads as it did. -/
def blockWordsSpec : ChangeSpec := { name := "blockWords", fn := fun _ => fun
  | [d1, d2, d3] => { results := [.lit (.bool true)], args := [d1, d2, d3] }
  | _ => none }
def blockWordsRow : OpenClaim := { program := "ytoooapknoobkiaa", sum := "a71c43e6e9b24ce9e9a0e914886ab3b8924536ae528227e997761e01ebab5d5e", func := "trencher/trencherlaw09.BlockWords", spec := "blockWords", unfollowed := true, recurses := true, apart := false }
def BlockWordsSaid : Prop := blockWordsRow.holds Try.pinned (OpenSpec.ofChange blockWordsSpec)

/-- ITS FALSE NEIGHBOUR: 'it returns false'. Refute it at one input. -/
def blockWordsWrong : ChangeSpec := { name := "blockWords", fn := fun _ => fun
  | [d1, d2, d3] => { results := [.lit (.bool false)], args := [d1, d2, d3] }
  | _ => none }
def BlockWordsWrongFalsely : Prop := blockWordsRow.holds Try.pinned (OpenSpec.ofChange blockWordsWrong)

/-- 'trencherlaw09.BlockBack': WHATEVER THE INPUT: true; the input reads as it did. -/
def blockBackSpec : ChangeSpec := { name := "blockBack", fn := fun _ => fun
  | [d1, d2] => { results := [.lit (.bool true)], args := [d1, d2] }
  | _ => none }
def blockBackRow : OpenClaim := { program := "ytoooapknoobkiaa", sum := "a71c43e6e9b24ce9e9a0e914886ab3b8924536ae528227e997761e01ebab5d5e", func := "trencher/trencherlaw09.BlockBack", spec := "blockBack", unfollowed := true, recurses := true, apart := false }
def BlockBackSaid : Prop := blockBackRow.holds Try.pinned (OpenSpec.ofChange blockBackSpec)

/-- ITS FALSE NEIGHBOUR: 'it returns false'. Refute it at one input. -/
def blockBackWrong : ChangeSpec := { name := "blockBack", fn := fun _ => fun
  | [d1, d2] => { results := [.lit (.bool false)], args := [d1, d2] }
  | _ => none }
def BlockBackWrongFalsely : Prop := blockBackRow.holds Try.pinned (OpenSpec.ofChange blockBackWrong)

/- THE SECOND FORM. 'bulk': how many values and letters a reading holds, each counted each time it is reached (what is shared counts as often as it is met; a slice's spare places count too). A statement '..UptoSaid' is the law's where the arguments, and the package variables that the reading takes, are together of bulk at most 1048576: NARROWER than '..Said'. Prove '..Said' where nothing that the law and all that it calls make is longer than what came in: it says more and counts as full. Else prove '..UptoSaid'. A law counts once. -/
mutual
def uptoBulk {H : Type} : DataW H → Nat
  | .lit (.string bytes) => bytes.length + 1
  | .lit _ => 1
  | .nil => 1
  | .ptr d => uptoBulk d + 1
  | .slice elems spare => uptoBulkAll elems + uptoBulkAll spare + 1
  | .agg parts => uptoBulkAll parts + 1
  | .iface _ d => uptoBulk d + 1
  | .map entries => uptoBulkEntries entries + 1
  | .held _ => 1
def uptoBulkAll {H : Type} : List (DataW H) → Nat
  | [] => 0
  | d :: r => uptoBulk d + uptoBulkAll r
def uptoBulkEntries {H : Type} : List (Lit × DataW H) → Nat
  | [] => 0
  | x :: r => uptoBulkEntry x + uptoBulkEntries r
def uptoBulkEntry {H : Type} : Lit × DataW H → Nat
  | (.string bytes, d) => bytes.length + uptoBulk d + 1
  | (_, d) => uptoBulk d + 1
 end
def uptoSmall : (H : Type) → List (DataW H) → Bool := fun _ ds => decide (uptoBulkAll ds ≤ 1048576)
def OpenSpec.upto (s : _root_.Go.ChangeSpec) : _root_.Go.OpenSpec := { _root_.Go.OpenSpec.ofChange s with cond := some uptoSmall }

/-- 'trencherlaw09.BlockMore', WHERE WHAT IT READS IS OF BULK AT MOST 1048576: true; the input reads as it did. -/
def blockMoreUptoRow : OpenClaim := { program := "ytoooapknoobkiaa", sum := "a71c43e6e9b24ce9e9a0e914886ab3b8924536ae528227e997761e01ebab5d5e", func := "trencher/trencherlaw09.BlockMore", spec := "blockMore", unfollowed := true, recurses := true, apart := false, narrowed := true }
def BlockMoreUptoSaid : Prop := blockMoreUptoRow.holds Try.pinned (OpenSpec.upto blockMoreSpec)

/-- 'trencherlaw09.BlockParts', WHERE WHAT IT READS IS OF BULK AT MOST 1048576: true; the input reads as it did. -/
def blockPartsUptoRow : OpenClaim := { program := "ytoooapknoobkiaa", sum := "a71c43e6e9b24ce9e9a0e914886ab3b8924536ae528227e997761e01ebab5d5e", func := "trencher/trencherlaw09.BlockParts", spec := "blockParts", unfollowed := true, recurses := true, apart := false, narrowed := true }
def BlockPartsUptoSaid : Prop := blockPartsUptoRow.holds Try.pinned (OpenSpec.upto blockPartsSpec)

/-- 'trencherlaw09.BlockWords', WHERE WHAT IT READS IS OF BULK AT MOST 1048576: true; the input reads as it did. -/
def blockWordsUptoRow : OpenClaim := { program := "ytoooapknoobkiaa", sum := "a71c43e6e9b24ce9e9a0e914886ab3b8924536ae528227e997761e01ebab5d5e", func := "trencher/trencherlaw09.BlockWords", spec := "blockWords", unfollowed := true, recurses := true, apart := false, narrowed := true }
def BlockWordsUptoSaid : Prop := blockWordsUptoRow.holds Try.pinned (OpenSpec.upto blockWordsSpec)

/-- 'trencherlaw09.BlockBack', WHERE WHAT IT READS IS OF BULK AT MOST 1048576: true; the input reads as it did. -/
def blockBackUptoRow : OpenClaim := { program := "ytoooapknoobkiaa", sum := "a71c43e6e9b24ce9e9a0e914886ab3b8924536ae528227e997761e01ebab5d5e", func := "trencher/trencherlaw09.BlockBack", spec := "blockBack", unfollowed := true, recurses := true, apart := false, narrowed := true }
def BlockBackUptoSaid : Prop := blockBackUptoRow.holds Try.pinned (OpenSpec.upto blockBackSpec)

end Rows
end Go.Proofs.Ytoooapknoobkiaa
