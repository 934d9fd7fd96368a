/-
  DERIVED. GIVEN WITH THE SEED: THE CARDS: each row of YtacjlkjdmhlbaaaDoorRows.lean that lists a variable, with what it lists TIED to the program's text (the seventh form; the later family's looks); each row that meets fmt, with fmt's text TOLD by the authors' own Lean function (tested against real Go, not proved from fmt's source: count such statements apart). THE CARD IS WHAT COUNTS. Prove the row's statement (the work); the ties are given (YtacjlkjdmhlbaaaDoorTie.lean); close each card by the builder's one call (the guide's Derived/Test/ToyasCard.lean, 'card_holds'). Laid BY PROGRAM, IN A SANDBOX (cutbox-door.mjs). By AI agents, Wed Nov 11 2026. No macro, syntax, notation, axiom, sorry.
-/
import Derived.Test.YtacjlkjdmhlbaaaDoorRows
import GoSem.ClaimSeven
namespace Go.Proofs.YtacjlkjdmhlbaaaDoor
namespace Rows

/-- THE TIED CARD OF 'trencherlaw34.DumpAlike'. -/
def dumpAlikeCard : Claim7 := { stood := { row := dumpAlikeRow, standIns := [], harness := (true, "f9a4d704ef9ae8e7dacd37182b3aa7af85948fa138b9493be415790320395002"), looks := false }, kinds := [], alts := [], laidByText := true, laidKinds := [.data, .data, .data], laidTests := true, laidLooks := .later }
def DumpAlikeCardSaid : Prop := Claim7.holds Tryd.pinned (.plain (OpenSpec.ofChange dumpAlikeSpec)) dumpAlikeCard

/-- THE SECOND FORM's CARD OF 'trencherlaw34.DumpAlike'. -/
def dumpAlikeUptoCard : Claim7 := { stood := { row := dumpAlikeUptoRow, standIns := [], harness := (true, "f9a4d704ef9ae8e7dacd37182b3aa7af85948fa138b9493be415790320395002"), looks := false }, kinds := [], alts := [], laidByText := true, laidKinds := [.data, .data, .data], laidTests := true, laidLooks := .later }
def DumpAlikeUptoCardSaid : Prop := Claim7.holds Tryd.pinned (.plain (OpenSpec.upto dumpAlikeSpec)) dumpAlikeUptoCard
end Rows
end Go.Proofs.YtacjlkjdmhlbaaaDoor
