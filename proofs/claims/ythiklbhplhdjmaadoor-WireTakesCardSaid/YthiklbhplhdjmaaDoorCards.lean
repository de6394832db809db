/-
  DERIVED. GIVEN WITH THE SEED: THE CARDS: each row of YthiklbhplhdjmaaDoorRows.lean that lists a variable, with what it lists TIED to the program's text (the seventh form; the later family's looks); each row that meets fmt, with fmt's text TOLD by the authors' own Lean function (tested against real Go, not proved from fmt's source: count such statements apart). THE CARD IS WHAT COUNTS. Prove the row's statement (the work); the ties are given (YthiklbhplhdjmaaDoorTie.lean); close each card by the builder's one call (the guide's Derived/Test/ToyasCard.lean, 'card_holds'). Laid BY PROGRAM, IN A SANDBOX (cutbox-door.mjs). By AI agents, Wed Nov 11 2026. No macro, syntax, notation, axiom, sorry.
-/
import Derived.Test.YthiklbhplhdjmaaDoorRows
import GoSem.ClaimSeven
namespace Go.Proofs.YthiklbhplhdjmaaDoor
namespace Rows

/-- THE TIED CARD OF 'greenwoodlaw01.WireTakes'. -/
def wireTakesCard : Claim7 := { stood := { row := wireTakesRow, standIns := [], harness := (true, "dc25a971b40c4d51331120a95b56f883da14b76e21833ab96bd8170de587550a"), looks := true }, kinds := [], alts := [], laidByText := true, laidKinds := [.handle], laidTests := true, laidLooks := .later }
def WireTakesCardSaid : Prop := Claim7.holds Tryd.pinned (.plain (OpenSpec.ofChange wireTakesSpec)) wireTakesCard

/-- THE TIED CARD OF 'greenwoodlaw01.WireWrites'. -/
def wireWritesCard : Claim7 := { stood := { row := wireWritesRow, standIns := [], harness := (true, "dc25a971b40c4d51331120a95b56f883da14b76e21833ab96bd8170de587550a"), looks := true }, kinds := [], alts := [], laidByText := true, laidKinds := [.handle], laidTests := true, laidLooks := .later }
def WireWritesCardSaid : Prop := Claim7.holds Tryd.pinned (.plain (OpenSpec.ofChange wireWritesSpec)) wireWritesCard

/-- THE TIED CARD OF 'greenwoodlaw01.WireBack'. -/
def wireBackCard : Claim7 := { stood := { row := wireBackRow, standIns := [], harness := (true, "dc25a971b40c4d51331120a95b56f883da14b76e21833ab96bd8170de587550a"), looks := true }, kinds := [], alts := [], laidByText := true, laidKinds := [.handle], laidTests := true, laidLooks := .later }
def WireBackCardSaid : Prop := Claim7.holds Tryd.pinned (.plain (OpenSpec.ofChange wireBackSpec)) wireBackCard

/-- THE TIED CARD OF 'greenwoodlaw01.WireOne'. -/
def wireOneCard : Claim7 := { stood := { row := wireOneRow, standIns := [], harness := (true, "dc25a971b40c4d51331120a95b56f883da14b76e21833ab96bd8170de587550a"), looks := true }, kinds := [], alts := [], laidByText := true, laidKinds := [.handle], laidTests := true, laidLooks := .later }
def WireOneCardSaid : Prop := Claim7.holds Tryd.pinned (.plain (OpenSpec.ofChange wireOneSpec)) wireOneCard

/-- THE TIED CARD OF 'greenwoodlaw01.WireSigns'. -/
def wireSignsCard : Claim7 := { stood := { row := wireSignsRow, standIns := [], harness := (true, "dc25a971b40c4d51331120a95b56f883da14b76e21833ab96bd8170de587550a"), looks := true }, kinds := [], alts := [], laidByText := true, laidKinds := [.handle], laidTests := true, laidLooks := .later }
def WireSignsCardSaid : Prop := Claim7.holds Tryd.pinned (.plain (OpenSpec.ofChange wireSignsSpec)) wireSignsCard

/-- THE TIED CARD OF 'greenwoodlaw01.WireCut'. -/
def wireCutCard : Claim7 := { stood := { row := wireCutRow, standIns := [], harness := (true, "dc25a971b40c4d51331120a95b56f883da14b76e21833ab96bd8170de587550a"), looks := true }, kinds := [], alts := [], laidByText := true, laidKinds := [.handle], laidTests := true, laidLooks := .later }
def WireCutCardSaid : Prop := Claim7.holds Tryd.pinned (.plain (OpenSpec.ofChange wireCutSpec)) wireCutCard

/-- THE TIED CARD OF 'greenwoodlaw01.WireMany'. -/
def wireManyCard : Claim7 := { stood := { row := wireManyRow, standIns := [], harness := (true, "dc25a971b40c4d51331120a95b56f883da14b76e21833ab96bd8170de587550a"), looks := true }, kinds := [], alts := [], laidByText := true, laidKinds := [.handle], laidTests := true, laidLooks := .later }
def WireManyCardSaid : Prop := Claim7.holds Tryd.pinned (.plain (OpenSpec.ofChange wireManySpec)) wireManyCard

/-- THE SECOND FORM's CARD OF 'greenwoodlaw01.WireTakes'. -/
def wireTakesUptoCard : Claim7 := { stood := { row := wireTakesUptoRow, standIns := [], harness := (true, "dc25a971b40c4d51331120a95b56f883da14b76e21833ab96bd8170de587550a"), looks := true }, kinds := [], alts := [], laidByText := true, laidKinds := [.handle], laidTests := true, laidLooks := .later }
def WireTakesUptoCardSaid : Prop := Claim7.holds Tryd.pinned (.plain (OpenSpec.upto wireTakesSpec)) wireTakesUptoCard

/-- THE SECOND FORM's CARD OF 'greenwoodlaw01.WireWrites'. -/
def wireWritesUptoCard : Claim7 := { stood := { row := wireWritesUptoRow, standIns := [], harness := (true, "dc25a971b40c4d51331120a95b56f883da14b76e21833ab96bd8170de587550a"), looks := true }, kinds := [], alts := [], laidByText := true, laidKinds := [.handle], laidTests := true, laidLooks := .later }
def WireWritesUptoCardSaid : Prop := Claim7.holds Tryd.pinned (.plain (OpenSpec.upto wireWritesSpec)) wireWritesUptoCard

/-- THE SECOND FORM's CARD OF 'greenwoodlaw01.WireBack'. -/
def wireBackUptoCard : Claim7 := { stood := { row := wireBackUptoRow, standIns := [], harness := (true, "dc25a971b40c4d51331120a95b56f883da14b76e21833ab96bd8170de587550a"), looks := true }, kinds := [], alts := [], laidByText := true, laidKinds := [.handle], laidTests := true, laidLooks := .later }
def WireBackUptoCardSaid : Prop := Claim7.holds Tryd.pinned (.plain (OpenSpec.upto wireBackSpec)) wireBackUptoCard

/-- THE SECOND FORM's CARD OF 'greenwoodlaw01.WireOne'. -/
def wireOneUptoCard : Claim7 := { stood := { row := wireOneUptoRow, standIns := [], harness := (true, "dc25a971b40c4d51331120a95b56f883da14b76e21833ab96bd8170de587550a"), looks := true }, kinds := [], alts := [], laidByText := true, laidKinds := [.handle], laidTests := true, laidLooks := .later }
def WireOneUptoCardSaid : Prop := Claim7.holds Tryd.pinned (.plain (OpenSpec.upto wireOneSpec)) wireOneUptoCard

/-- THE SECOND FORM's CARD OF 'greenwoodlaw01.WireSigns'. -/
def wireSignsUptoCard : Claim7 := { stood := { row := wireSignsUptoRow, standIns := [], harness := (true, "dc25a971b40c4d51331120a95b56f883da14b76e21833ab96bd8170de587550a"), looks := true }, kinds := [], alts := [], laidByText := true, laidKinds := [.handle], laidTests := true, laidLooks := .later }
def WireSignsUptoCardSaid : Prop := Claim7.holds Tryd.pinned (.plain (OpenSpec.upto wireSignsSpec)) wireSignsUptoCard

/-- THE SECOND FORM's CARD OF 'greenwoodlaw01.WireCut'. -/
def wireCutUptoCard : Claim7 := { stood := { row := wireCutUptoRow, standIns := [], harness := (true, "dc25a971b40c4d51331120a95b56f883da14b76e21833ab96bd8170de587550a"), looks := true }, kinds := [], alts := [], laidByText := true, laidKinds := [.handle], laidTests := true, laidLooks := .later }
def WireCutUptoCardSaid : Prop := Claim7.holds Tryd.pinned (.plain (OpenSpec.upto wireCutSpec)) wireCutUptoCard

/-- THE SECOND FORM's CARD OF 'greenwoodlaw01.WireMany'. -/
def wireManyUptoCard : Claim7 := { stood := { row := wireManyUptoRow, standIns := [], harness := (true, "dc25a971b40c4d51331120a95b56f883da14b76e21833ab96bd8170de587550a"), looks := true }, kinds := [], alts := [], laidByText := true, laidKinds := [.handle], laidTests := true, laidLooks := .later }
def WireManyUptoCardSaid : Prop := Claim7.holds Tryd.pinned (.plain (OpenSpec.upto wireManySpec)) wireManyUptoCard
end Rows
end Go.Proofs.YthiklbhplhdjmaaDoor
