/-
  No cell of these rows narrows 'for every input' (looked for: loops, veiled, ifaces, maps, wideKeys, modest, calm, conditions, laid).
  DERIVED. THE GIVEN ROWS OF THIS SEAT. 3 by the template 'for every input the law returns true; each argument reads behind the call as it read before'; 0 by the template 'total and deterministic' (their statements: YtpefbnhicfflpaaTotals.lean).
  GIVEN WITH THE SEED: the statements are not yours to turn. If you find one false, say at which input.
  Laid BY PROGRAM, IN A SANDBOX (cutbox-rows.mjs): the forced cells as the released guide's own fill.sh prints them over the translation 52c96df7e2ba0ba7… (all of the seat's roots in one cut). By AI agents, Wed Nov 11 2026. No macro, syntax, notation, axiom, sorry.
-/
import Derived.Test.YtpefbnhicfflpaaChecked
import GoSem.Claim
import GoSem.ClaimJoined
import GoSem.ClaimMapViews
import Derived.JoinedTies
import Derived.KernelRfl
namespace Go.Proofs.Ytpefbnhicfflpaa
/- THE CELL 'sum', in the pinned program and in every row, IS THE sha256 OF THE DUMP (.gsa) THAT YtpefbnhicfflpaaProg.lean LOADS. Nothing in Lean hashes anything: it is a label: what it is worth is what the hold of that sum in a sandbox is worth. -/
noncomputable def Try.pinned : Pinned := { name := "ytpefbnhicfflpaa", sum := "52c96df7e2ba0ba7eba8ee947554378e11f65c8bccd613d35dec136c23135a65", checked := Try.checked }
namespace Rows
def none {H : Type} : Left H := { results := [], args := [] }

/-- 'trencherlaw15.LocksOne': WHATEVER THE INPUT: true; the input reads as it did. -/
def locksOneSpec : ChangeSpec := { name := "locksOne", fn := fun _ => fun
  | [d1, d2, d3, d4] => { results := [.lit (.bool true)], args := [d1, d2, d3, d4] }
  | _ => none }
def locksOneRow : OpenClaim := { program := "ytpefbnhicfflpaa", sum := "52c96df7e2ba0ba7eba8ee947554378e11f65c8bccd613d35dec136c23135a65", func := "trencher/trencherlaw15.LocksOne", spec := "locksOne", inPlace := ["sync/atomic.AddInt64"], unfollowed := true, recurses := true, apart := false }
def LocksOneSaid : Prop := locksOneRow.holds Try.pinned (OpenSpec.ofChange locksOneSpec)

/-- ITS FALSE NEIGHBOUR: 'it returns false'. Refute it at one input. -/
def locksOneWrong : ChangeSpec := { name := "locksOne", fn := fun _ => fun
  | [d1, d2, d3, d4] => { results := [.lit (.bool false)], args := [d1, d2, d3, d4] }
  | _ => none }
def LocksOneWrongFalsely : Prop := locksOneRow.holds Try.pinned (OpenSpec.ofChange locksOneWrong)

/-- 'trencherlaw15.LocksBack': WHATEVER THE INPUT: true; the input reads as it did. -/
def locksBackSpec : ChangeSpec := { name := "locksBack", fn := fun _ => fun
  | [d1, d2, d3] => { results := [.lit (.bool true)], args := [d1, d2, d3] }
  | _ => none }
def locksBackRow : OpenClaim := { program := "ytpefbnhicfflpaa", sum := "52c96df7e2ba0ba7eba8ee947554378e11f65c8bccd613d35dec136c23135a65", func := "trencher/trencherlaw15.LocksBack", spec := "locksBack", inPlace := ["sync/atomic.AddInt64"], unfollowed := true, recurses := true, apart := false }
def LocksBackSaid : Prop := locksBackRow.holds Try.pinned (OpenSpec.ofChange locksBackSpec)

/-- ITS FALSE NEIGHBOUR: 'it returns false'. Refute it at one input. -/
def locksBackWrong : ChangeSpec := { name := "locksBack", fn := fun _ => fun
  | [d1, d2, d3] => { results := [.lit (.bool false)], args := [d1, d2, d3] }
  | _ => none }
def LocksBackWrongFalsely : Prop := locksBackRow.holds Try.pinned (OpenSpec.ofChange locksBackWrong)

/-- 'trencherlaw04.PmemKeeps': WHATEVER THE INPUT: true; the input reads as it did. -/
def pmemKeepsSpec : ChangeSpec := { name := "pmemKeeps", fn := fun _ => fun
  | [d1, d2, d3, d4, d5] => { results := [.lit (.bool true)], args := [d1, d2, d3, d4, d5] }
  | _ => none }
def pmemKeepsRow : OpenClaim := { program := "ytpefbnhicfflpaa", sum := "52c96df7e2ba0ba7eba8ee947554378e11f65c8bccd613d35dec136c23135a65", func := "trencher/trencherlaw04.PmemKeeps", spec := "pmemKeeps", unfollowed := true, recurses := true, apart := false }
def PmemKeepsSaid : Prop := pmemKeepsRow.holds Try.pinned (OpenSpec.ofChange pmemKeepsSpec)

/-- ITS FALSE NEIGHBOUR: 'it returns false'. Refute it at one input. -/
def pmemKeepsWrong : ChangeSpec := { name := "pmemKeeps", fn := fun _ => fun
  | [d1, d2, d3, d4, d5] => { results := [.lit (.bool false)], args := [d1, d2, d3, d4, d5] }
  | _ => none }
def PmemKeepsWrongFalsely : Prop := pmemKeepsRow.holds Try.pinned (OpenSpec.ofChange pmemKeepsWrong)

/- THE SECOND FORM. 'bulk': how many values and letters a reading holds, each counted each time it is reached (what is shared counts as often as it is met; a slice's spare places count too). A statement '..UptoSaid' is the law's where the arguments, and the package variables that the reading takes, are together of bulk at most 1048576: NARROWER than '..Said'. Prove '..Said' where nothing that the law and all that it calls make is longer than what came in: it says more and counts as full. Else prove '..UptoSaid'. A law counts once. -/
mutual
def uptoBulk {H : Type} : DataW H → Nat
  | .lit (.string bytes) => bytes.length + 1
  | .lit _ => 1
  | .nil => 1
  | .ptr d => uptoBulk d + 1
  | .slice elems spare => uptoBulkAll elems + uptoBulkAll spare + 1
  | .agg parts => uptoBulkAll parts + 1
  | .iface _ d => uptoBulk d + 1
  | .map entries => uptoBulkEntries entries + 1
  | .held _ => 1
def uptoBulkAll {H : Type} : List (DataW H) → Nat
  | [] => 0
  | d :: r => uptoBulk d + uptoBulkAll r
def uptoBulkEntries {H : Type} : List (Lit × DataW H) → Nat
  | [] => 0
  | x :: r => uptoBulkEntry x + uptoBulkEntries r
def uptoBulkEntry {H : Type} : Lit × DataW H → Nat
  | (.string bytes, d) => bytes.length + uptoBulk d + 1
  | (_, d) => uptoBulk d + 1
 end
def uptoSmall : (H : Type) → List (DataW H) → Bool := fun _ ds => decide (uptoBulkAll ds ≤ 1048576)
def OpenSpec.upto (s : _root_.Go.ChangeSpec) : _root_.Go.OpenSpec := { _root_.Go.OpenSpec.ofChange s with cond := some uptoSmall }

/-- 'trencherlaw15.LocksOne', WHERE WHAT IT READS IS OF BULK AT MOST 1048576: true; the input reads as it did. -/
def locksOneUptoRow : OpenClaim := { program := "ytpefbnhicfflpaa", sum := "52c96df7e2ba0ba7eba8ee947554378e11f65c8bccd613d35dec136c23135a65", func := "trencher/trencherlaw15.LocksOne", spec := "locksOne", inPlace := ["sync/atomic.AddInt64"], unfollowed := true, recurses := true, apart := false, narrowed := true }
def LocksOneUptoSaid : Prop := locksOneUptoRow.holds Try.pinned (OpenSpec.upto locksOneSpec)

/-- 'trencherlaw15.LocksBack', WHERE WHAT IT READS IS OF BULK AT MOST 1048576: true; the input reads as it did. -/
def locksBackUptoRow : OpenClaim := { program := "ytpefbnhicfflpaa", sum := "52c96df7e2ba0ba7eba8ee947554378e11f65c8bccd613d35dec136c23135a65", func := "trencher/trencherlaw15.LocksBack", spec := "locksBack", inPlace := ["sync/atomic.AddInt64"], unfollowed := true, recurses := true, apart := false, narrowed := true }
def LocksBackUptoSaid : Prop := locksBackUptoRow.holds Try.pinned (OpenSpec.upto locksBackSpec)

/-- 'trencherlaw04.PmemKeeps', WHERE WHAT IT READS IS OF BULK AT MOST 1048576: true; the input reads as it did. -/
def pmemKeepsUptoRow : OpenClaim := { program := "ytpefbnhicfflpaa", sum := "52c96df7e2ba0ba7eba8ee947554378e11f65c8bccd613d35dec136c23135a65", func := "trencher/trencherlaw04.PmemKeeps", spec := "pmemKeeps", unfollowed := true, recurses := true, apart := false, narrowed := true }
def PmemKeepsUptoSaid : Prop := pmemKeepsUptoRow.holds Try.pinned (OpenSpec.upto pmemKeepsSpec)

end Rows
end Go.Proofs.Ytpefbnhicfflpaa
