/-
  DERIVED. GIVEN WITH THE SEED: THE CARDS: each row of YtgbmlkmkfigolaaDoorRows.lean that lists a variable, with what it lists TIED to the program's text (the seventh form; the later family's looks); each row that meets fmt, with fmt's text TOLD by the authors' own Lean function (tested against real Go, not proved from fmt's source: count such statements apart). THE CARD IS WHAT COUNTS. Prove the row's statement (the work); the ties are given (YtgbmlkmkfigolaaDoorTie.lean); close each card by the builder's one call (the guide's Derived/Test/ToyasCard.lean, 'card_holds'). Laid BY PROGRAM, IN A SANDBOX (cutbox-door.mjs). By AI agents, Wed Nov 11 2026. No macro, syntax, notation, axiom, sorry.
-/
import Derived.Test.YtgbmlkmkfigolaaDoorRows
import GoSem.ClaimSeven
namespace Go.Proofs.YtgbmlkmkfigolaaDoor
namespace Rows

/-- THE TIED CARD OF 'greenwoodlaw09.MatroidTells'. -/
def matroidTellsCard : Claim7 := { stood := { row := matroidTellsRow, standIns := [], harness := (true, "98ad5df1a27f6819b852abcb711e70f66d05fd5b7ded191d6cd989e1cf7f6eee"), looks := true }, kinds := [], alts := [], laidByText := true, laidKinds := [.handle], laidTests := true, laidLooks := .later }
def MatroidTellsCardSaid : Prop := Claim7.holds Tryd.pinned (.plain (OpenSpec.ofChange matroidTellsSpec)) matroidTellsCard

/-- THE TIED CARD OF 'greenwoodlaw09.MatroidBounds'. -/
def matroidBoundsCard : Claim7 := { stood := { row := matroidBoundsRow, standIns := [], harness := (true, "98ad5df1a27f6819b852abcb711e70f66d05fd5b7ded191d6cd989e1cf7f6eee"), looks := true }, kinds := [], alts := [], laidByText := true, laidKinds := [.handle], laidTests := true, laidLooks := .later }
def MatroidBoundsCardSaid : Prop := Claim7.holds Tryd.pinned (.plain (OpenSpec.ofChange matroidBoundsSpec)) matroidBoundsCard

/-- THE TIED CARD OF 'greenwoodlaw09.MatroidSums'. -/
def matroidSumsCard : Claim7 := { stood := { row := matroidSumsRow, standIns := [], harness := (true, "98ad5df1a27f6819b852abcb711e70f66d05fd5b7ded191d6cd989e1cf7f6eee"), looks := true }, kinds := [], alts := [], laidByText := true, laidKinds := [.handle], laidTests := true, laidLooks := .later }
def MatroidSumsCardSaid : Prop := Claim7.holds Tryd.pinned (.plain (OpenSpec.ofChange matroidSumsSpec)) matroidSumsCard

/-- THE TIED CARD OF 'greenwoodlaw09.MatroidParts'. -/
def matroidPartsCard : Claim7 := { stood := { row := matroidPartsRow, standIns := [], harness := (true, "98ad5df1a27f6819b852abcb711e70f66d05fd5b7ded191d6cd989e1cf7f6eee"), looks := true }, kinds := [], alts := [], laidByText := true, laidKinds := [.handle], laidTests := true, laidLooks := .later }
def MatroidPartsCardSaid : Prop := Claim7.holds Tryd.pinned (.plain (OpenSpec.ofChange matroidPartsSpec)) matroidPartsCard

/-- THE TIED CARD OF 'greenwoodlaw09.MatroidTags'. -/
def matroidTagsCard : Claim7 := { stood := { row := matroidTagsRow, standIns := [], harness := (true, "98ad5df1a27f6819b852abcb711e70f66d05fd5b7ded191d6cd989e1cf7f6eee"), looks := true }, kinds := [], alts := [], laidByText := true, laidKinds := [.handle], laidTests := true, laidLooks := .later }
def MatroidTagsCardSaid : Prop := Claim7.holds Tryd.pinned (.plain (OpenSpec.ofChange matroidTagsSpec)) matroidTagsCard

/-- THE SECOND FORM's CARD OF 'greenwoodlaw09.MatroidTells'. -/
def matroidTellsUptoCard : Claim7 := { stood := { row := matroidTellsUptoRow, standIns := [], harness := (true, "98ad5df1a27f6819b852abcb711e70f66d05fd5b7ded191d6cd989e1cf7f6eee"), looks := true }, kinds := [], alts := [], laidByText := true, laidKinds := [.handle], laidTests := true, laidLooks := .later }
def MatroidTellsUptoCardSaid : Prop := Claim7.holds Tryd.pinned (.plain (OpenSpec.upto matroidTellsSpec)) matroidTellsUptoCard

/-- THE SECOND FORM's CARD OF 'greenwoodlaw09.MatroidBounds'. -/
def matroidBoundsUptoCard : Claim7 := { stood := { row := matroidBoundsUptoRow, standIns := [], harness := (true, "98ad5df1a27f6819b852abcb711e70f66d05fd5b7ded191d6cd989e1cf7f6eee"), looks := true }, kinds := [], alts := [], laidByText := true, laidKinds := [.handle], laidTests := true, laidLooks := .later }
def MatroidBoundsUptoCardSaid : Prop := Claim7.holds Tryd.pinned (.plain (OpenSpec.upto matroidBoundsSpec)) matroidBoundsUptoCard

/-- THE SECOND FORM's CARD OF 'greenwoodlaw09.MatroidSums'. -/
def matroidSumsUptoCard : Claim7 := { stood := { row := matroidSumsUptoRow, standIns := [], harness := (true, "98ad5df1a27f6819b852abcb711e70f66d05fd5b7ded191d6cd989e1cf7f6eee"), looks := true }, kinds := [], alts := [], laidByText := true, laidKinds := [.handle], laidTests := true, laidLooks := .later }
def MatroidSumsUptoCardSaid : Prop := Claim7.holds Tryd.pinned (.plain (OpenSpec.upto matroidSumsSpec)) matroidSumsUptoCard

/-- THE SECOND FORM's CARD OF 'greenwoodlaw09.MatroidParts'. -/
def matroidPartsUptoCard : Claim7 := { stood := { row := matroidPartsUptoRow, standIns := [], harness := (true, "98ad5df1a27f6819b852abcb711e70f66d05fd5b7ded191d6cd989e1cf7f6eee"), looks := true }, kinds := [], alts := [], laidByText := true, laidKinds := [.handle], laidTests := true, laidLooks := .later }
def MatroidPartsUptoCardSaid : Prop := Claim7.holds Tryd.pinned (.plain (OpenSpec.upto matroidPartsSpec)) matroidPartsUptoCard

/-- THE SECOND FORM's CARD OF 'greenwoodlaw09.MatroidTags'. -/
def matroidTagsUptoCard : Claim7 := { stood := { row := matroidTagsUptoRow, standIns := [], harness := (true, "98ad5df1a27f6819b852abcb711e70f66d05fd5b7ded191d6cd989e1cf7f6eee"), looks := true }, kinds := [], alts := [], laidByText := true, laidKinds := [.handle], laidTests := true, laidLooks := .later }
def MatroidTagsUptoCardSaid : Prop := Claim7.holds Tryd.pinned (.plain (OpenSpec.upto matroidTagsSpec)) matroidTagsUptoCard
end Rows
end Go.Proofs.YtgbmlkmkfigolaaDoor
