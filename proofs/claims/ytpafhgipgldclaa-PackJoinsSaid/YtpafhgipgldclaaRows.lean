/-
  No cell of these rows narrows 'for every input' (looked for: loops, veiled, ifaces, maps, wideKeys, modest, calm, conditions, laid).
  DERIVED. THE GIVEN ROWS OF THIS SEAT. 4 by the template 'for every input the law returns true; each argument reads behind the call as it read before'; 0 by the template 'total and deterministic' (their statements: YtpafhgipgldclaaTotals.lean).
  GIVEN WITH THE SEED: the statements are not yours to turn. If you find one false, say at which input.
  Laid BY PROGRAM, IN A SANDBOX (cutbox-rows.mjs): the forced cells as the released guide's own fill.sh prints them over the translation 3d50887edadce46d… (all of the seat's roots in one cut). By AI agents, Wed Nov 11 2026. No macro, syntax, notation, axiom, sorry.
-/
import Derived.Test.YtpafhgipgldclaaChecked
import GoSem.Claim
import GoSem.ClaimJoined
import GoSem.ClaimMapViews
import Derived.JoinedTies
import Derived.KernelRfl
namespace Go.Proofs.Ytpafhgipgldclaa
/- THE CELL 'sum', in the pinned program and in every row, IS THE sha256 OF THE DUMP (.gsa) THAT YtpafhgipgldclaaProg.lean LOADS. Nothing in Lean hashes anything: it is a label: what it is worth is what the hold of that sum in a sandbox is worth. -/
noncomputable def Try.pinned : Pinned := { name := "ytpafhgipgldclaa", sum := "3d50887edadce46d9a7610ca7001b8be92a0fad7d64fa8cd251fec89658bfd92", checked := Try.checked }
namespace Rows
def none {H : Type} : Left H := { results := [], args := [] }

/-- 'trencherlaw02.PackFields': WHATEVER THE INPUT: true; the input reads as it did. -/
def packFieldsSpec : ChangeSpec := { name := "packFields", fn := fun _ => fun
  | [d1, d2, d3, d4] => { results := [.lit (.bool true)], args := [d1, d2, d3, d4] }
  | _ => none }
def packFieldsRow : OpenClaim := { program := "ytpafhgipgldclaa", sum := "3d50887edadce46d9a7610ca7001b8be92a0fad7d64fa8cd251fec89658bfd92", func := "trencher/trencherlaw02.PackFields", spec := "packFields", unfollowed := true, recurses := true, apart := false }
def PackFieldsSaid : Prop := packFieldsRow.holds Try.pinned (OpenSpec.ofChange packFieldsSpec)

/-- ITS FALSE NEIGHBOUR: 'it returns false'. Refute it at one input. -/
def packFieldsWrong : ChangeSpec := { name := "packFields", fn := fun _ => fun
  | [d1, d2, d3, d4] => { results := [.lit (.bool false)], args := [d1, d2, d3, d4] }
  | _ => none }
def PackFieldsWrongFalsely : Prop := packFieldsRow.holds Try.pinned (OpenSpec.ofChange packFieldsWrong)

/-- 'trencherlaw02.PackApart': WHATEVER THE INPUT: true; the input reads as it did. -/
def packApartSpec : ChangeSpec := { name := "packApart", fn := fun _ => fun
  | [d1, d2, d3, d4, d5, d6] => { results := [.lit (.bool true)], args := [d1, d2, d3, d4, d5, d6] }
  | _ => none }
def packApartRow : OpenClaim := { program := "ytpafhgipgldclaa", sum := "3d50887edadce46d9a7610ca7001b8be92a0fad7d64fa8cd251fec89658bfd92", func := "trencher/trencherlaw02.PackApart", spec := "packApart", unfollowed := true, recurses := true, apart := false }
def PackApartSaid : Prop := packApartRow.holds Try.pinned (OpenSpec.ofChange packApartSpec)

/-- ITS FALSE NEIGHBOUR: 'it returns false'. Refute it at one input. -/
def packApartWrong : ChangeSpec := { name := "packApart", fn := fun _ => fun
  | [d1, d2, d3, d4, d5, d6] => { results := [.lit (.bool false)], args := [d1, d2, d3, d4, d5, d6] }
  | _ => none }
def PackApartWrongFalsely : Prop := packApartRow.holds Try.pinned (OpenSpec.ofChange packApartWrong)

/-- 'trencherlaw02.PackJoins': WHATEVER THE INPUT: true; the input reads as it did. -/
def packJoinsSpec : ChangeSpec := { name := "packJoins", fn := fun _ => fun
  | [d1, d2] => { results := [.lit (.bool true)], args := [d1, d2] }
  | _ => none }
def packJoinsRow : OpenClaim := { program := "ytpafhgipgldclaa", sum := "3d50887edadce46d9a7610ca7001b8be92a0fad7d64fa8cd251fec89658bfd92", func := "trencher/trencherlaw02.PackJoins", spec := "packJoins", unfollowed := true, recurses := true, apart := false }
def PackJoinsSaid : Prop := packJoinsRow.holds Try.pinned (OpenSpec.ofChange packJoinsSpec)

/-- ITS FALSE NEIGHBOUR: 'it returns false'. Refute it at one input. -/
def packJoinsWrong : ChangeSpec := { name := "packJoins", fn := fun _ => fun
  | [d1, d2] => { results := [.lit (.bool false)], args := [d1, d2] }
  | _ => none }
def PackJoinsWrongFalsely : Prop := packJoinsRow.holds Try.pinned (OpenSpec.ofChange packJoinsWrong)

/-- 'trencherlaw02.PackSplits': WHATEVER THE INPUT: true; the input reads as it did. -/
def packSplitsSpec : ChangeSpec := { name := "packSplits", fn := fun _ => fun
  | [d1, d2] => { results := [.lit (.bool true)], args := [d1, d2] }
  | _ => none }
def packSplitsRow : OpenClaim := { program := "ytpafhgipgldclaa", sum := "3d50887edadce46d9a7610ca7001b8be92a0fad7d64fa8cd251fec89658bfd92", func := "trencher/trencherlaw02.PackSplits", spec := "packSplits", unfollowed := true, recurses := true, apart := false }
def PackSplitsSaid : Prop := packSplitsRow.holds Try.pinned (OpenSpec.ofChange packSplitsSpec)

/-- ITS FALSE NEIGHBOUR: 'it returns false'. Refute it at one input. -/
def packSplitsWrong : ChangeSpec := { name := "packSplits", fn := fun _ => fun
  | [d1, d2] => { results := [.lit (.bool false)], args := [d1, d2] }
  | _ => none }
def PackSplitsWrongFalsely : Prop := packSplitsRow.holds Try.pinned (OpenSpec.ofChange packSplitsWrong)

/- THE SECOND FORM. 'bulk': how many values and letters a reading holds, each counted each time it is reached (what is shared counts as often as it is met; a slice's spare places count too). A statement '..UptoSaid' is the law's where the arguments, and the package variables that the reading takes, are together of bulk at most 1048576: NARROWER than '..Said'. Prove '..Said' where nothing that the law and all that it calls make is longer than what came in: it says more and counts as full. Else prove '..UptoSaid'. A law counts once. -/
mutual
def uptoBulk {H : Type} : DataW H → Nat
  | .lit (.string bytes) => bytes.length + 1
  | .lit _ => 1
  | .nil => 1
  | .ptr d => uptoBulk d + 1
  | .slice elems spare => uptoBulkAll elems + uptoBulkAll spare + 1
  | .agg parts => uptoBulkAll parts + 1
  | .iface _ d => uptoBulk d + 1
  | .map entries => uptoBulkEntries entries + 1
  | .held _ => 1
def uptoBulkAll {H : Type} : List (DataW H) → Nat
  | [] => 0
  | d :: r => uptoBulk d + uptoBulkAll r
def uptoBulkEntries {H : Type} : List (Lit × DataW H) → Nat
  | [] => 0
  | x :: r => uptoBulkEntry x + uptoBulkEntries r
def uptoBulkEntry {H : Type} : Lit × DataW H → Nat
  | (.string bytes, d) => bytes.length + uptoBulk d + 1
  | (_, d) => uptoBulk d + 1
 end
def uptoSmall : (H : Type) → List (DataW H) → Bool := fun _ ds => decide (uptoBulkAll ds ≤ 1048576)
def OpenSpec.upto (s : _root_.Go.ChangeSpec) : _root_.Go.OpenSpec := { _root_.Go.OpenSpec.ofChange s with cond := some uptoSmall }

/-- 'trencherlaw02.PackFields', WHERE WHAT IT READS IS OF BULK AT MOST 1048576: true; the input reads as it did. -/
def packFieldsUptoRow : OpenClaim := { program := "ytpafhgipgldclaa", sum := "3d50887edadce46d9a7610ca7001b8be92a0fad7d64fa8cd251fec89658bfd92", func := "trencher/trencherlaw02.PackFields", spec := "packFields", unfollowed := true, recurses := true, apart := false, narrowed := true }
def PackFieldsUptoSaid : Prop := packFieldsUptoRow.holds Try.pinned (OpenSpec.upto packFieldsSpec)

/-- 'trencherlaw02.PackApart', WHERE WHAT IT READS IS OF BULK AT MOST 1048576: true; the input reads as it did. -/
def packApartUptoRow : OpenClaim := { program := "ytpafhgipgldclaa", sum := "3d50887edadce46d9a7610ca7001b8be92a0fad7d64fa8cd251fec89658bfd92", func := "trencher/trencherlaw02.PackApart", spec := "packApart", unfollowed := true, recurses := true, apart := false, narrowed := true }
def PackApartUptoSaid : Prop := packApartUptoRow.holds Try.pinned (OpenSpec.upto packApartSpec)

/-- 'trencherlaw02.PackJoins', WHERE WHAT IT READS IS OF BULK AT MOST 1048576: true; the input reads as it did. -/
def packJoinsUptoRow : OpenClaim := { program := "ytpafhgipgldclaa", sum := "3d50887edadce46d9a7610ca7001b8be92a0fad7d64fa8cd251fec89658bfd92", func := "trencher/trencherlaw02.PackJoins", spec := "packJoins", unfollowed := true, recurses := true, apart := false, narrowed := true }
def PackJoinsUptoSaid : Prop := packJoinsUptoRow.holds Try.pinned (OpenSpec.upto packJoinsSpec)

/-- 'trencherlaw02.PackSplits', WHERE WHAT IT READS IS OF BULK AT MOST 1048576: true; the input reads as it did. -/
def packSplitsUptoRow : OpenClaim := { program := "ytpafhgipgldclaa", sum := "3d50887edadce46d9a7610ca7001b8be92a0fad7d64fa8cd251fec89658bfd92", func := "trencher/trencherlaw02.PackSplits", spec := "packSplits", unfollowed := true, recurses := true, apart := false, narrowed := true }
def PackSplitsUptoSaid : Prop := packSplitsUptoRow.holds Try.pinned (OpenSpec.upto packSplitsSpec)

end Rows
end Go.Proofs.Ytpafhgipgldclaa
