/-
  DERIVED. GIVEN WITH THE SEED: THE CARDS: each row of YtlekdhejgdfnpaaDoorRows.lean that lists a variable, with what it lists TIED to the program's text (the seventh form; the later family's looks); each row that meets fmt, with fmt's text TOLD by the authors' own Lean function (tested against real Go, not proved from fmt's source: count such statements apart). THE CARD IS WHAT COUNTS. Prove the row's statement (the work); the ties are given (YtlekdhejgdfnpaaDoorTie.lean); close each card by the builder's one call (the guide's Derived/Test/ToyasCard.lean, 'card_holds'). Laid BY PROGRAM, IN A SANDBOX (cutbox-door.mjs). By AI agents, Wed Nov 11 2026. No macro, syntax, notation, axiom, sorry.
-/
import Derived.Test.YtlekdhejgdfnpaaDoorRows
import GoSem.ClaimSeven
namespace Go.Proofs.YtlekdhejgdfnpaaDoor
namespace Rows

/-- THE TIED CARD OF 'greenwoodlaw23.AnswerTells'. -/
def answerTellsCard : Claim7 := { stood := { row := answerTellsRow, standIns := [], harness := (true, "9582bd5c24a5177b2369408d6c93280507b1b492b7e6085e0a81435d6730fcfe"), looks := true }, kinds := [], alts := [], laidByText := true, laidKinds := [.handle], laidTests := true, laidLooks := .later }
def AnswerTellsCardSaid : Prop := Claim7.holds Tryd.pinned (.plain (OpenSpec.ofChange answerTellsSpec)) answerTellsCard

/-- THE TIED CARD OF 'greenwoodlaw23.AnswerBack'. -/
def answerBackCard : Claim7 := { stood := { row := answerBackRow, standIns := [], harness := (true, "9582bd5c24a5177b2369408d6c93280507b1b492b7e6085e0a81435d6730fcfe"), looks := true }, kinds := [], alts := [], laidByText := true, laidKinds := [.handle], laidTests := true, laidLooks := .later }
def AnswerBackCardSaid : Prop := Claim7.holds Tryd.pinned (.plain (OpenSpec.ofChange answerBackSpec)) answerBackCard

/-- THE TIED CARD OF 'greenwoodlaw23.AnswerCut'. -/
def answerCutCard : Claim7 := { stood := { row := answerCutRow, standIns := [], harness := (true, "9582bd5c24a5177b2369408d6c93280507b1b492b7e6085e0a81435d6730fcfe"), looks := true }, kinds := [], alts := [], laidByText := true, laidKinds := [.handle], laidTests := true, laidLooks := .later }
def AnswerCutCardSaid : Prop := Claim7.holds Tryd.pinned (.plain (OpenSpec.ofChange answerCutSpec)) answerCutCard

/-- THE TIED CARD OF 'greenwoodlaw23.AnswerNumbers'. -/
def answerNumbersCard : Claim7 := { stood := { row := answerNumbersRow, standIns := [], harness := (true, "9582bd5c24a5177b2369408d6c93280507b1b492b7e6085e0a81435d6730fcfe"), looks := true }, kinds := [], alts := [], laidByText := true, laidKinds := [.handle], laidTests := true, laidLooks := .later }
def AnswerNumbersCardSaid : Prop := Claim7.holds Tryd.pinned (.plain (OpenSpec.ofChange answerNumbersSpec)) answerNumbersCard

/-- THE SECOND FORM's CARD OF 'greenwoodlaw23.AnswerTells'. -/
def answerTellsUptoCard : Claim7 := { stood := { row := answerTellsUptoRow, standIns := [], harness := (true, "9582bd5c24a5177b2369408d6c93280507b1b492b7e6085e0a81435d6730fcfe"), looks := true }, kinds := [], alts := [], laidByText := true, laidKinds := [.handle], laidTests := true, laidLooks := .later }
def AnswerTellsUptoCardSaid : Prop := Claim7.holds Tryd.pinned (.plain (OpenSpec.upto answerTellsSpec)) answerTellsUptoCard

/-- THE SECOND FORM's CARD OF 'greenwoodlaw23.AnswerBack'. -/
def answerBackUptoCard : Claim7 := { stood := { row := answerBackUptoRow, standIns := [], harness := (true, "9582bd5c24a5177b2369408d6c93280507b1b492b7e6085e0a81435d6730fcfe"), looks := true }, kinds := [], alts := [], laidByText := true, laidKinds := [.handle], laidTests := true, laidLooks := .later }
def AnswerBackUptoCardSaid : Prop := Claim7.holds Tryd.pinned (.plain (OpenSpec.upto answerBackSpec)) answerBackUptoCard

/-- THE SECOND FORM's CARD OF 'greenwoodlaw23.AnswerCut'. -/
def answerCutUptoCard : Claim7 := { stood := { row := answerCutUptoRow, standIns := [], harness := (true, "9582bd5c24a5177b2369408d6c93280507b1b492b7e6085e0a81435d6730fcfe"), looks := true }, kinds := [], alts := [], laidByText := true, laidKinds := [.handle], laidTests := true, laidLooks := .later }
def AnswerCutUptoCardSaid : Prop := Claim7.holds Tryd.pinned (.plain (OpenSpec.upto answerCutSpec)) answerCutUptoCard

/-- THE SECOND FORM's CARD OF 'greenwoodlaw23.AnswerNumbers'. -/
def answerNumbersUptoCard : Claim7 := { stood := { row := answerNumbersUptoRow, standIns := [], harness := (true, "9582bd5c24a5177b2369408d6c93280507b1b492b7e6085e0a81435d6730fcfe"), looks := true }, kinds := [], alts := [], laidByText := true, laidKinds := [.handle], laidTests := true, laidLooks := .later }
def AnswerNumbersUptoCardSaid : Prop := Claim7.holds Tryd.pinned (.plain (OpenSpec.upto answerNumbersSpec)) answerNumbersUptoCard
end Rows
end Go.Proofs.YtlekdhejgdfnpaaDoor
