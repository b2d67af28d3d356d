/-
  DERIVED. GIVEN WITH THE SEED: THE CARDS: each row of YteiajndkjnlmiaaGreatDoorRows.lean that lists a variable, with what it lists TIED to the program's text (the seventh form; the later family's looks); each row that meets fmt, with fmt's text TOLD by the authors' own Lean function (tested against real Go, not proved from fmt's source: count such statements apart). THE CARD IS WHAT COUNTS. Prove the row's statement (the work); the ties are given (YteiajndkjnlmiaaGreatDoorTie.lean); close each card by the builder's one call (the guide's Derived/Test/ToyasCard.lean, 'card_holds'). Laid BY PROGRAM, IN A SANDBOX (cutbox-door.mjs). By AI agents, Wed Nov 11 2026. No macro, syntax, notation, axiom, sorry.
-/
import Derived.Test.YteiajndkjnlmiaaGreatDoorRows
import GoSem.ClaimSeven
namespace Go.Proofs.YteiajndkjnlmiaaGreatDoor
namespace Rows

/-- THE TIED CARD OF 'confluentlaw09.CellsNumbers'. -/
def cellsNumbersCard : Claim7 := { stood := { row := cellsNumbersRow, standIns := [], harness := (true, "8cf489a0dad7b8f61f272620b807e26129d053f000146b1324ede23b4376d089"), looks := true }, kinds := [], alts := [], laidByText := true, laidKinds := [.data, .data, .data, .sentinel, .sentinel, .listed, .data], laidTests := true, laidLooks := .later }
def CellsNumbersCardSaid : Prop := Claim7.holds Tryz.pinned (.plain (OpenSpec.ofChange cellsNumbersSpec)) cellsNumbersCard

/-- THE TIED CARD OF 'confluentlaw09.CellsInverse'. -/
def cellsInverseCard : Claim7 := { stood := { row := cellsInverseRow, standIns := [], harness := (true, "8cf489a0dad7b8f61f272620b807e26129d053f000146b1324ede23b4376d089"), looks := true }, kinds := [], alts := [], laidByText := true, laidKinds := [.data, .data, .data, .sentinel, .sentinel, .listed, .data], laidTests := true, laidLooks := .later }
def CellsInverseCardSaid : Prop := Claim7.holds Tryz.pinned (.plain (OpenSpec.ofChange cellsInverseSpec)) cellsInverseCard

/-- THE TIED CARD OF 'confluentlaw09.CellsReads'. -/
def cellsReadsCard : Claim7 := { stood := { row := cellsReadsRow, standIns := [], harness := (true, "8cf489a0dad7b8f61f272620b807e26129d053f000146b1324ede23b4376d089"), looks := true }, kinds := [], alts := [], laidByText := true, laidKinds := [.data, .data, .data, .sentinel, .sentinel, .listed, .data], laidTests := true, laidLooks := .later }
def CellsReadsCardSaid : Prop := Claim7.holds Tryz.pinned (.plain (OpenSpec.ofChange cellsReadsSpec)) cellsReadsCard

/-- THE TIED CARD OF 'confluentlaw09.CellsLayouts'. -/
def cellsLayoutsCard : Claim7 := { stood := { row := cellsLayoutsRow, standIns := [], harness := (true, "8cf489a0dad7b8f61f272620b807e26129d053f000146b1324ede23b4376d089"), looks := true }, kinds := [], alts := [], laidByText := true, laidKinds := [.data, .data, .data, .sentinel, .sentinel, .listed, .data], laidTests := true, laidLooks := .later }
def CellsLayoutsCardSaid : Prop := Claim7.holds Tryz.pinned (.plain (OpenSpec.ofChange cellsLayoutsSpec)) cellsLayoutsCard

/-- THE TIED CARD OF 'confluentlaw09.CellsTuples'. -/
def cellsTuplesCard : Claim7 := { stood := { row := cellsTuplesRow, standIns := [], harness := (true, "8cf489a0dad7b8f61f272620b807e26129d053f000146b1324ede23b4376d089"), looks := true }, kinds := [], alts := [], laidByText := true, laidKinds := [.data, .data, .data, .sentinel, .sentinel, .listed, .data], laidTests := true, laidLooks := .later }
def CellsTuplesCardSaid : Prop := Claim7.holds Tryz.pinned (.plain (OpenSpec.ofChange cellsTuplesSpec)) cellsTuplesCard

/-- THE SECOND FORM's CARD OF 'confluentlaw09.CellsNumbers'. -/
def cellsNumbersUptoCard : Claim7 := { stood := { row := cellsNumbersUptoRow, standIns := [], harness := (true, "8cf489a0dad7b8f61f272620b807e26129d053f000146b1324ede23b4376d089"), looks := true }, kinds := [], alts := [], laidByText := true, laidKinds := [.data, .data, .data, .sentinel, .sentinel, .listed, .data], laidTests := true, laidLooks := .later }
def CellsNumbersUptoCardSaid : Prop := Claim7.holds Tryz.pinned (.plain (OpenSpec.upto cellsNumbersSpec)) cellsNumbersUptoCard

/-- THE SECOND FORM's CARD OF 'confluentlaw09.CellsInverse'. -/
def cellsInverseUptoCard : Claim7 := { stood := { row := cellsInverseUptoRow, standIns := [], harness := (true, "8cf489a0dad7b8f61f272620b807e26129d053f000146b1324ede23b4376d089"), looks := true }, kinds := [], alts := [], laidByText := true, laidKinds := [.data, .data, .data, .sentinel, .sentinel, .listed, .data], laidTests := true, laidLooks := .later }
def CellsInverseUptoCardSaid : Prop := Claim7.holds Tryz.pinned (.plain (OpenSpec.upto cellsInverseSpec)) cellsInverseUptoCard

/-- THE SECOND FORM's CARD OF 'confluentlaw09.CellsReads'. -/
def cellsReadsUptoCard : Claim7 := { stood := { row := cellsReadsUptoRow, standIns := [], harness := (true, "8cf489a0dad7b8f61f272620b807e26129d053f000146b1324ede23b4376d089"), looks := true }, kinds := [], alts := [], laidByText := true, laidKinds := [.data, .data, .data, .sentinel, .sentinel, .listed, .data], laidTests := true, laidLooks := .later }
def CellsReadsUptoCardSaid : Prop := Claim7.holds Tryz.pinned (.plain (OpenSpec.upto cellsReadsSpec)) cellsReadsUptoCard

/-- THE SECOND FORM's CARD OF 'confluentlaw09.CellsLayouts'. -/
def cellsLayoutsUptoCard : Claim7 := { stood := { row := cellsLayoutsUptoRow, standIns := [], harness := (true, "8cf489a0dad7b8f61f272620b807e26129d053f000146b1324ede23b4376d089"), looks := true }, kinds := [], alts := [], laidByText := true, laidKinds := [.data, .data, .data, .sentinel, .sentinel, .listed, .data], laidTests := true, laidLooks := .later }
def CellsLayoutsUptoCardSaid : Prop := Claim7.holds Tryz.pinned (.plain (OpenSpec.upto cellsLayoutsSpec)) cellsLayoutsUptoCard

/-- THE SECOND FORM's CARD OF 'confluentlaw09.CellsTuples'. -/
def cellsTuplesUptoCard : Claim7 := { stood := { row := cellsTuplesUptoRow, standIns := [], harness := (true, "8cf489a0dad7b8f61f272620b807e26129d053f000146b1324ede23b4376d089"), looks := true }, kinds := [], alts := [], laidByText := true, laidKinds := [.data, .data, .data, .sentinel, .sentinel, .listed, .data], laidTests := true, laidLooks := .later }
def CellsTuplesUptoCardSaid : Prop := Claim7.holds Tryz.pinned (.plain (OpenSpec.upto cellsTuplesSpec)) cellsTuplesUptoCard
end Rows
end Go.Proofs.YteiajndkjnlmiaaGreatDoor
