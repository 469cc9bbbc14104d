/-
  DERIVED. GIVEN WITH THE SEED: THE CARDS: each row of YtejdlelhlpnabaaDoorRows.lean that lists a variable, with what it lists TIED to the program's text (the seventh form; the later family's looks); each row that meets fmt, with fmt's text TOLD by the authors' own Lean function (tested against real Go, not proved from fmt's source: count such statements apart). THE CARD IS WHAT COUNTS. Prove the row's statement (the work); the ties are given (YtejdlelhlpnabaaDoorTie.lean); close each card by the builder's one call (the guide's Derived/Test/ToyasCard.lean, 'card_holds'). Laid BY PROGRAM, IN A SANDBOX (cutbox-door.mjs). By AI agents, Wed Nov 11 2026. No macro, syntax, notation, axiom, sorry.
-/
import Derived.Test.YtejdlelhlpnabaaDoorRows
import GoSem.ClaimSeven
namespace Go.Proofs.YtejdlelhlpnabaaDoor
namespace Rows

/-- THE TIED CARD OF 'raddlelaw06.NormOrder'. -/
def normOrderCard : Claim7 := { stood := { row := normOrderRow, standIns := [], harness := (true, "920e4dba6ff1cece3e1da5a9ef535b38d91df77b4dd67c1dac4c824e56301445"), looks := false }, kinds := [], alts := [], laidByText := true, laidKinds := [.data], laidTests := true, laidLooks := .later }
def NormOrderCardSaid : Prop := Claim7.holds Tryd.pinned (.plain (OpenSpec.ofChange normOrderSpec)) normOrderCard

/-- THE TIED CARD OF 'raddlelaw06.NormTells'. -/
def normTellsCard : Claim7 := { stood := { row := normTellsRow, standIns := [], harness := (true, "920e4dba6ff1cece3e1da5a9ef535b38d91df77b4dd67c1dac4c824e56301445"), looks := false }, kinds := [], alts := [], laidByText := true, laidKinds := [.data], laidTests := true, laidLooks := .later }
def NormTellsCardSaid : Prop := Claim7.holds Tryd.pinned (.plain (OpenSpec.ofChange normTellsSpec)) normTellsCard

/-- THE TIED CARD OF 'raddlelaw06.NormEmpty'. -/
def normEmptyCard : Claim7 := { stood := { row := normEmptyRow, standIns := [], harness := (true, "920e4dba6ff1cece3e1da5a9ef535b38d91df77b4dd67c1dac4c824e56301445"), looks := false }, kinds := [], alts := [], laidByText := true, laidKinds := [.data], laidTests := true, laidLooks := .later }
def NormEmptyCardSaid : Prop := Claim7.holds Tryd.pinned (.plain (OpenSpec.ofChange normEmptySpec)) normEmptyCard

/-- THE TIED CARD OF 'raddlelaw06.NormFold'. -/
def normFoldCard : Claim7 := { stood := { row := normFoldRow, standIns := [], harness := (true, "920e4dba6ff1cece3e1da5a9ef535b38d91df77b4dd67c1dac4c824e56301445"), looks := false }, kinds := [], alts := [], laidByText := true, laidKinds := [.data], laidTests := true, laidLooks := .later }
def NormFoldCardSaid : Prop := Claim7.holds Tryd.pinned (.plain (OpenSpec.ofChange normFoldSpec)) normFoldCard

/-- THE SECOND FORM's CARD OF 'raddlelaw06.NormOrder'. -/
def normOrderUptoCard : Claim7 := { stood := { row := normOrderUptoRow, standIns := [], harness := (true, "920e4dba6ff1cece3e1da5a9ef535b38d91df77b4dd67c1dac4c824e56301445"), looks := false }, kinds := [], alts := [], laidByText := true, laidKinds := [.data], laidTests := true, laidLooks := .later }
def NormOrderUptoCardSaid : Prop := Claim7.holds Tryd.pinned (.plain (OpenSpec.upto normOrderSpec)) normOrderUptoCard

/-- THE SECOND FORM's CARD OF 'raddlelaw06.NormTells'. -/
def normTellsUptoCard : Claim7 := { stood := { row := normTellsUptoRow, standIns := [], harness := (true, "920e4dba6ff1cece3e1da5a9ef535b38d91df77b4dd67c1dac4c824e56301445"), looks := false }, kinds := [], alts := [], laidByText := true, laidKinds := [.data], laidTests := true, laidLooks := .later }
def NormTellsUptoCardSaid : Prop := Claim7.holds Tryd.pinned (.plain (OpenSpec.upto normTellsSpec)) normTellsUptoCard

/-- THE SECOND FORM's CARD OF 'raddlelaw06.NormEmpty'. -/
def normEmptyUptoCard : Claim7 := { stood := { row := normEmptyUptoRow, standIns := [], harness := (true, "920e4dba6ff1cece3e1da5a9ef535b38d91df77b4dd67c1dac4c824e56301445"), looks := false }, kinds := [], alts := [], laidByText := true, laidKinds := [.data], laidTests := true, laidLooks := .later }
def NormEmptyUptoCardSaid : Prop := Claim7.holds Tryd.pinned (.plain (OpenSpec.upto normEmptySpec)) normEmptyUptoCard

/-- THE SECOND FORM's CARD OF 'raddlelaw06.NormFold'. -/
def normFoldUptoCard : Claim7 := { stood := { row := normFoldUptoRow, standIns := [], harness := (true, "920e4dba6ff1cece3e1da5a9ef535b38d91df77b4dd67c1dac4c824e56301445"), looks := false }, kinds := [], alts := [], laidByText := true, laidKinds := [.data], laidTests := true, laidLooks := .later }
def NormFoldUptoCardSaid : Prop := Claim7.holds Tryd.pinned (.plain (OpenSpec.upto normFoldSpec)) normFoldUptoCard
end Rows
end Go.Proofs.YtejdlelhlpnabaaDoor
