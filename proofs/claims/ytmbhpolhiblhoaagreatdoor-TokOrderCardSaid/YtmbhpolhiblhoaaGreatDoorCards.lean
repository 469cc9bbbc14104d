/-
  DERIVED. GIVEN WITH THE SEED: THE CARDS: each row of YtmbhpolhiblhoaaGreatDoorRows.lean that lists a variable, with what it lists TIED to the program's text (the seventh form; the later family's looks); each row that meets fmt, with fmt's text TOLD by the authors' own Lean function (tested against real Go, not proved from fmt's source: count such statements apart). THE CARD IS WHAT COUNTS. Prove the row's statement (the work); the ties are given (YtmbhpolhiblhoaaGreatDoorTie.lean); close each card by the builder's one call (the guide's Derived/Test/ToyasCard.lean, 'card_holds'). Laid BY PROGRAM, IN A SANDBOX (cutbox-door.mjs). By AI agents, Wed Nov 11 2026. No macro, syntax, notation, axiom, sorry.
-/
import Derived.Test.YtmbhpolhiblhoaaGreatDoorRows
import GoSem.ClaimSeven
namespace Go.Proofs.YtmbhpolhiblhoaaGreatDoor
namespace Rows

/-- THE TIED CARD OF 'raddlelaw17.TokOrder'. -/
def tokOrderCard : Claim7 := { stood := { row := tokOrderRow, standIns := [], harness := (true, "5d9d6d963b18f64243ad1efadcf7b34dc9366d0b95d161a46689558d05e4d5af"), looks := false }, kinds := [], alts := [], laidByText := true, laidKinds := [.data], laidTests := true, laidLooks := .later }
def TokOrderCardSaid : Prop := Claim7.holds Tryz.pinned (.plain (OpenSpec.ofChange tokOrderSpec)) tokOrderCard

/-- THE TIED CARD OF 'raddlelaw17.TokNone'. -/
def tokNoneCard : Claim7 := { stood := { row := tokNoneRow, standIns := [], harness := (true, "5d9d6d963b18f64243ad1efadcf7b34dc9366d0b95d161a46689558d05e4d5af"), looks := false }, kinds := [], alts := [], laidByText := true, laidKinds := [.data], laidTests := true, laidLooks := .later }
def TokNoneCardSaid : Prop := Claim7.holds Tryz.pinned (.plain (OpenSpec.ofChange tokNoneSpec)) tokNoneCard

/-- THE TIED CARD OF 'raddlelaw17.TokTells'. -/
def tokTellsCard : Claim7 := { stood := { row := tokTellsRow, standIns := [], harness := (true, "5d9d6d963b18f64243ad1efadcf7b34dc9366d0b95d161a46689558d05e4d5af"), looks := false }, kinds := [], alts := [], laidByText := true, laidKinds := [.data], laidTests := true, laidLooks := .later }
def TokTellsCardSaid : Prop := Claim7.holds Tryz.pinned (.plain (OpenSpec.ofChange tokTellsSpec)) tokTellsCard

/-- THE TIED CARD OF 'raddlelaw17.TokOnce'. -/
def tokOnceCard : Claim7 := { stood := { row := tokOnceRow, standIns := [], harness := (true, "5d9d6d963b18f64243ad1efadcf7b34dc9366d0b95d161a46689558d05e4d5af"), looks := false }, kinds := [], alts := [], laidByText := true, laidKinds := [.data], laidTests := true, laidLooks := .later }
def TokOnceCardSaid : Prop := Claim7.holds Tryz.pinned (.plain (OpenSpec.ofChange tokOnceSpec)) tokOnceCard

/-- THE TIED CARD OF 'raddlelaw17.TokLongest'. -/
def tokLongestCard : Claim7 := { stood := { row := tokLongestRow, standIns := [], harness := (true, "5d9d6d963b18f64243ad1efadcf7b34dc9366d0b95d161a46689558d05e4d5af"), looks := false }, kinds := [], alts := [], laidByText := true, laidKinds := [.data], laidTests := true, laidLooks := .later }
def TokLongestCardSaid : Prop := Claim7.holds Tryz.pinned (.plain (OpenSpec.ofChange tokLongestSpec)) tokLongestCard

/-- THE TIED CARD OF 'raddlelaw17.TokEnds'. -/
def tokEndsCard : Claim7 := { stood := { row := tokEndsRow, standIns := [], harness := (true, "5d9d6d963b18f64243ad1efadcf7b34dc9366d0b95d161a46689558d05e4d5af"), looks := false }, kinds := [], alts := [], laidByText := true, laidKinds := [.data], laidTests := true, laidLooks := .later }
def TokEndsCardSaid : Prop := Claim7.holds Tryz.pinned (.plain (OpenSpec.ofChange tokEndsSpec)) tokEndsCard

/-- THE TIED CARD OF 'raddlelaw15.FileParts'. -/
def filePartsCard : Claim7 := { stood := { row := filePartsRow, standIns := [], harness := (true, "5d9d6d963b18f64243ad1efadcf7b34dc9366d0b95d161a46689558d05e4d5af"), looks := false }, kinds := [], alts := [], laidByText := true, laidKinds := [.data, .pinned], laidTests := true, laidLooks := .later }
def FilePartsCardSaid : Prop := Claim7.holds Tryz.pinned (.plain (OpenSpec.ofChange filePartsSpec)) filePartsCard

/-- THE TIED CARD OF 'raddlelaw15.FileOne'. -/
def fileOneCard : Claim7 := { stood := { row := fileOneRow, standIns := [], harness := (true, "5d9d6d963b18f64243ad1efadcf7b34dc9366d0b95d161a46689558d05e4d5af"), looks := false }, kinds := [], alts := [], laidByText := true, laidKinds := [.data, .pinned], laidTests := true, laidLooks := .later }
def FileOneCardSaid : Prop := Claim7.holds Tryz.pinned (.plain (OpenSpec.ofChange fileOneSpec)) fileOneCard

/-- THE TIED CARD OF 'raddlelaw15.FileNone'. -/
def fileNoneCard : Claim7 := { stood := { row := fileNoneRow, standIns := [], harness := (true, "5d9d6d963b18f64243ad1efadcf7b34dc9366d0b95d161a46689558d05e4d5af"), looks := false }, kinds := [], alts := [], laidByText := true, laidKinds := [.data, .pinned], laidTests := true, laidLooks := .later }
def FileNoneCardSaid : Prop := Claim7.holds Tryz.pinned (.plain (OpenSpec.ofChange fileNoneSpec)) fileNoneCard

/-- THE TIED CARD OF 'raddlelaw15.FileRights'. -/
def fileRightsCard : Claim7 := { stood := { row := fileRightsRow, standIns := [], harness := (true, "5d9d6d963b18f64243ad1efadcf7b34dc9366d0b95d161a46689558d05e4d5af"), looks := false }, kinds := [], alts := [], laidByText := true, laidKinds := [.data, .data, .pinned], laidTests := true, laidLooks := .later }
def FileRightsCardSaid : Prop := Claim7.holds Tryz.pinned (.plain (OpenSpec.ofChange fileRightsSpec)) fileRightsCard

/-- THE TIED CARD OF 'raddlelaw15.FileRight'. -/
def fileRightCard : Claim7 := { stood := { row := fileRightRow, standIns := [], harness := (true, "5d9d6d963b18f64243ad1efadcf7b34dc9366d0b95d161a46689558d05e4d5af"), looks := false }, kinds := [], alts := [], laidByText := true, laidKinds := [.data, .data, .pinned], laidTests := true, laidLooks := .later }
def FileRightCardSaid : Prop := Claim7.holds Tryz.pinned (.plain (OpenSpec.ofChange fileRightSpec)) fileRightCard

/-- THE SECOND FORM's CARD OF 'raddlelaw17.TokOrder'. -/
def tokOrderUptoCard : Claim7 := { stood := { row := tokOrderUptoRow, standIns := [], harness := (true, "5d9d6d963b18f64243ad1efadcf7b34dc9366d0b95d161a46689558d05e4d5af"), looks := false }, kinds := [], alts := [], laidByText := true, laidKinds := [.data], laidTests := true, laidLooks := .later }
def TokOrderUptoCardSaid : Prop := Claim7.holds Tryz.pinned (.plain (OpenSpec.upto tokOrderSpec)) tokOrderUptoCard

/-- THE SECOND FORM's CARD OF 'raddlelaw17.TokNone'. -/
def tokNoneUptoCard : Claim7 := { stood := { row := tokNoneUptoRow, standIns := [], harness := (true, "5d9d6d963b18f64243ad1efadcf7b34dc9366d0b95d161a46689558d05e4d5af"), looks := false }, kinds := [], alts := [], laidByText := true, laidKinds := [.data], laidTests := true, laidLooks := .later }
def TokNoneUptoCardSaid : Prop := Claim7.holds Tryz.pinned (.plain (OpenSpec.upto tokNoneSpec)) tokNoneUptoCard

/-- THE SECOND FORM's CARD OF 'raddlelaw17.TokTells'. -/
def tokTellsUptoCard : Claim7 := { stood := { row := tokTellsUptoRow, standIns := [], harness := (true, "5d9d6d963b18f64243ad1efadcf7b34dc9366d0b95d161a46689558d05e4d5af"), looks := false }, kinds := [], alts := [], laidByText := true, laidKinds := [.data], laidTests := true, laidLooks := .later }
def TokTellsUptoCardSaid : Prop := Claim7.holds Tryz.pinned (.plain (OpenSpec.upto tokTellsSpec)) tokTellsUptoCard

/-- THE SECOND FORM's CARD OF 'raddlelaw17.TokOnce'. -/
def tokOnceUptoCard : Claim7 := { stood := { row := tokOnceUptoRow, standIns := [], harness := (true, "5d9d6d963b18f64243ad1efadcf7b34dc9366d0b95d161a46689558d05e4d5af"), looks := false }, kinds := [], alts := [], laidByText := true, laidKinds := [.data], laidTests := true, laidLooks := .later }
def TokOnceUptoCardSaid : Prop := Claim7.holds Tryz.pinned (.plain (OpenSpec.upto tokOnceSpec)) tokOnceUptoCard

/-- THE SECOND FORM's CARD OF 'raddlelaw17.TokLongest'. -/
def tokLongestUptoCard : Claim7 := { stood := { row := tokLongestUptoRow, standIns := [], harness := (true, "5d9d6d963b18f64243ad1efadcf7b34dc9366d0b95d161a46689558d05e4d5af"), looks := false }, kinds := [], alts := [], laidByText := true, laidKinds := [.data], laidTests := true, laidLooks := .later }
def TokLongestUptoCardSaid : Prop := Claim7.holds Tryz.pinned (.plain (OpenSpec.upto tokLongestSpec)) tokLongestUptoCard

/-- THE SECOND FORM's CARD OF 'raddlelaw17.TokEnds'. -/
def tokEndsUptoCard : Claim7 := { stood := { row := tokEndsUptoRow, standIns := [], harness := (true, "5d9d6d963b18f64243ad1efadcf7b34dc9366d0b95d161a46689558d05e4d5af"), looks := false }, kinds := [], alts := [], laidByText := true, laidKinds := [.data], laidTests := true, laidLooks := .later }
def TokEndsUptoCardSaid : Prop := Claim7.holds Tryz.pinned (.plain (OpenSpec.upto tokEndsSpec)) tokEndsUptoCard

/-- THE SECOND FORM's CARD OF 'raddlelaw15.FileParts'. -/
def filePartsUptoCard : Claim7 := { stood := { row := filePartsUptoRow, standIns := [], harness := (true, "5d9d6d963b18f64243ad1efadcf7b34dc9366d0b95d161a46689558d05e4d5af"), looks := false }, kinds := [], alts := [], laidByText := true, laidKinds := [.data, .pinned], laidTests := true, laidLooks := .later }
def FilePartsUptoCardSaid : Prop := Claim7.holds Tryz.pinned (.plain (OpenSpec.upto filePartsSpec)) filePartsUptoCard

/-- THE SECOND FORM's CARD OF 'raddlelaw15.FileOne'. -/
def fileOneUptoCard : Claim7 := { stood := { row := fileOneUptoRow, standIns := [], harness := (true, "5d9d6d963b18f64243ad1efadcf7b34dc9366d0b95d161a46689558d05e4d5af"), looks := false }, kinds := [], alts := [], laidByText := true, laidKinds := [.data, .pinned], laidTests := true, laidLooks := .later }
def FileOneUptoCardSaid : Prop := Claim7.holds Tryz.pinned (.plain (OpenSpec.upto fileOneSpec)) fileOneUptoCard

/-- THE SECOND FORM's CARD OF 'raddlelaw15.FileNone'. -/
def fileNoneUptoCard : Claim7 := { stood := { row := fileNoneUptoRow, standIns := [], harness := (true, "5d9d6d963b18f64243ad1efadcf7b34dc9366d0b95d161a46689558d05e4d5af"), looks := false }, kinds := [], alts := [], laidByText := true, laidKinds := [.data, .pinned], laidTests := true, laidLooks := .later }
def FileNoneUptoCardSaid : Prop := Claim7.holds Tryz.pinned (.plain (OpenSpec.upto fileNoneSpec)) fileNoneUptoCard

/-- THE SECOND FORM's CARD OF 'raddlelaw15.FileRights'. -/
def fileRightsUptoCard : Claim7 := { stood := { row := fileRightsUptoRow, standIns := [], harness := (true, "5d9d6d963b18f64243ad1efadcf7b34dc9366d0b95d161a46689558d05e4d5af"), looks := false }, kinds := [], alts := [], laidByText := true, laidKinds := [.data, .data, .pinned], laidTests := true, laidLooks := .later }
def FileRightsUptoCardSaid : Prop := Claim7.holds Tryz.pinned (.plain (OpenSpec.upto fileRightsSpec)) fileRightsUptoCard

/-- THE SECOND FORM's CARD OF 'raddlelaw15.FileRight'. -/
def fileRightUptoCard : Claim7 := { stood := { row := fileRightUptoRow, standIns := [], harness := (true, "5d9d6d963b18f64243ad1efadcf7b34dc9366d0b95d161a46689558d05e4d5af"), looks := false }, kinds := [], alts := [], laidByText := true, laidKinds := [.data, .data, .pinned], laidTests := true, laidLooks := .later }
def FileRightUptoCardSaid : Prop := Claim7.holds Tryz.pinned (.plain (OpenSpec.upto fileRightSpec)) fileRightUptoCard
end Rows
end Go.Proofs.YtmbhpolhiblhoaaGreatDoor
