/-
  DERIVED. GIVEN WITH THE SEED: THE CARDS: each row of YtbdedbhafciilaaDoorRows.lean that lists a variable, with what it lists TIED to the program's text (the seventh form; the later family's looks); each row that meets fmt, with fmt's text TOLD by the authors' own Lean function (tested against real Go, not proved from fmt's source: count such statements apart). THE CARD IS WHAT COUNTS. Prove the row's statement (the work); the ties are given (YtbdedbhafciilaaDoorTie.lean); close each card by the builder's one call (the guide's Derived/Test/ToyasCard.lean, 'card_holds'). Laid BY PROGRAM, IN A SANDBOX (cutbox-door.mjs). By AI agents, Wed Nov 11 2026. No macro, syntax, notation, axiom, sorry.
-/
import Derived.Test.YtbdedbhafciilaaDoorRows
import GoSem.ClaimSeven
namespace Go.Proofs.YtbdedbhafciilaaDoor
namespace Rows

/-- THE TIED CARD OF 'trencherlaw01.BitsFirst'. -/
def bitsFirstCard : Claim7 := { stood := { row := bitsFirstRow, standIns := [], harness := (true, "86937796dbbe8294078b6742b71218d4e327c9f136d9f0a0fbfbeb127007f382"), looks := false }, kinds := [], alts := [], laidByText := true, laidKinds := [.data], laidTests := true, laidLooks := .later }
def BitsFirstCardSaid : Prop := Claim7.holds Tryd.pinned (.plain (OpenSpec.ofChange bitsFirstSpec)) bitsFirstCard

/-- THE TIED CARD OF 'trencherlaw01.BitsSets'. -/
def bitsSetsCard : Claim7 := { stood := { row := bitsSetsRow, standIns := [], harness := (true, "86937796dbbe8294078b6742b71218d4e327c9f136d9f0a0fbfbeb127007f382"), looks := false }, kinds := [], alts := [], laidByText := true, laidKinds := [.data], laidTests := true, laidLooks := .later }
def BitsSetsCardSaid : Prop := Claim7.holds Tryd.pinned (.plain (OpenSpec.ofChange bitsSetsSpec)) bitsSetsCard

/-- THE TIED CARD OF 'trencherlaw01.BitsAll'. -/
def bitsAllCard : Claim7 := { stood := { row := bitsAllRow, standIns := [], harness := (true, "86937796dbbe8294078b6742b71218d4e327c9f136d9f0a0fbfbeb127007f382"), looks := false }, kinds := [], alts := [], laidByText := true, laidKinds := [.data], laidTests := true, laidLooks := .later }
def BitsAllCardSaid : Prop := Claim7.holds Tryd.pinned (.plain (OpenSpec.ofChange bitsAllSpec)) bitsAllCard

/-- THE TIED CARD OF 'trencherlaw01.BitsBack'. -/
def bitsBackCard : Claim7 := { stood := { row := bitsBackRow, standIns := [], harness := (true, "86937796dbbe8294078b6742b71218d4e327c9f136d9f0a0fbfbeb127007f382"), looks := false }, kinds := [], alts := [], laidByText := true, laidKinds := [.data], laidTests := true, laidLooks := .later }
def BitsBackCardSaid : Prop := Claim7.holds Tryd.pinned (.plain (OpenSpec.ofChange bitsBackSpec)) bitsBackCard

/-- THE SECOND FORM's CARD OF 'trencherlaw01.BitsFirst'. -/
def bitsFirstUptoCard : Claim7 := { stood := { row := bitsFirstUptoRow, standIns := [], harness := (true, "86937796dbbe8294078b6742b71218d4e327c9f136d9f0a0fbfbeb127007f382"), looks := false }, kinds := [], alts := [], laidByText := true, laidKinds := [.data], laidTests := true, laidLooks := .later }
def BitsFirstUptoCardSaid : Prop := Claim7.holds Tryd.pinned (.plain (OpenSpec.upto bitsFirstSpec)) bitsFirstUptoCard

/-- THE SECOND FORM's CARD OF 'trencherlaw01.BitsSets'. -/
def bitsSetsUptoCard : Claim7 := { stood := { row := bitsSetsUptoRow, standIns := [], harness := (true, "86937796dbbe8294078b6742b71218d4e327c9f136d9f0a0fbfbeb127007f382"), looks := false }, kinds := [], alts := [], laidByText := true, laidKinds := [.data], laidTests := true, laidLooks := .later }
def BitsSetsUptoCardSaid : Prop := Claim7.holds Tryd.pinned (.plain (OpenSpec.upto bitsSetsSpec)) bitsSetsUptoCard

/-- THE SECOND FORM's CARD OF 'trencherlaw01.BitsAll'. -/
def bitsAllUptoCard : Claim7 := { stood := { row := bitsAllUptoRow, standIns := [], harness := (true, "86937796dbbe8294078b6742b71218d4e327c9f136d9f0a0fbfbeb127007f382"), looks := false }, kinds := [], alts := [], laidByText := true, laidKinds := [.data], laidTests := true, laidLooks := .later }
def BitsAllUptoCardSaid : Prop := Claim7.holds Tryd.pinned (.plain (OpenSpec.upto bitsAllSpec)) bitsAllUptoCard

/-- THE SECOND FORM's CARD OF 'trencherlaw01.BitsBack'. -/
def bitsBackUptoCard : Claim7 := { stood := { row := bitsBackUptoRow, standIns := [], harness := (true, "86937796dbbe8294078b6742b71218d4e327c9f136d9f0a0fbfbeb127007f382"), looks := false }, kinds := [], alts := [], laidByText := true, laidKinds := [.data], laidTests := true, laidLooks := .later }
def BitsBackUptoCardSaid : Prop := Claim7.holds Tryd.pinned (.plain (OpenSpec.upto bitsBackSpec)) bitsBackUptoCard
end Rows
end Go.Proofs.YtbdedbhafciilaaDoor
