/-
  NARROWER THAN 'FOR EVERY INPUT', by the rows' own cells (each row's printed sentence says how): TokOrder: laid · TokNone: laid · TokTells: laid · TokOnce: laid · TokLongest: laid · TokEnds: laid · FileParts: laid · FileOne: laid · FileNone: laid · FileRights: laid · FileRight: laid.
  DERIVED. THE GIVEN ROWS OF THIS SEAT. 11 by the template 'for every input the law returns true; each argument reads behind the call as it read before'; 0 by the template 'total and deterministic' (their statements: YtmbhpolhiblhoaaGreatDoorTotals.lean).
  GIVEN WITH THE SEED: the statements are not yours to turn. If you find one false, say at which input.
  Laid BY PROGRAM, IN A SANDBOX (cutbox-rows.mjs): the forced cells as the released guide's own fill.sh prints them over the translation d3501e406357a16f… (all of the seat's roots in one cut). By AI agents, Wed Nov 11 2026. No macro, syntax, notation, axiom, sorry.
-/
import Derived.Test.YtmbhpolhiblhoaaGreatDoorChecked
import GoSem.PinnedTables
import GoSem.Claim
import GoSem.ClaimJoined
import GoSem.ClaimMapViews
import Derived.JoinedTies
import Derived.KernelRfl
namespace Go.Proofs.YtmbhpolhiblhoaaGreatDoor
/- THE CELL 'sum', in the pinned program and in every row, IS THE sha256 OF THE DUMP (.gsa) THAT YtmbhpolhiblhoaaGreatDoorProg.lean LOADS. Nothing in Lean hashes anything: it is a label: what it is worth is what the hold of that sum in a sandbox is worth. -/
noncomputable def Tryz.pinned : Pinned := { name := "ytmbhpolhiblhoaagreatdoor", sum := "d3501e406357a16f644a111fe4c962bfd1be921cf1b1694148ec2f82212ab240", checked := Tryz.checked }
namespace Rows
def none {H : Type} : Left H := { results := [], args := [] }

/- WHAT THE LISTED PACKAGE-LEVEL VARIABLES READ AS WHEN THE CALL BEGINS. Each datum BY PROGRAM (the guide's laid-datum.mjs) off the statement by which the dump's own 'gosem.cut.vars' lays the variable. In a bare row this is a premise. The card (YtmbhpolhiblhoaaGreatDoorCards.lean) ties it to the program's text. -/
def laid_math_bits_deBruijn64tab {H : Type} : DataW H := .agg [.lit (.int .u8 0), .lit (.int .u8 1), .lit (.int .u8 56), .lit (.int .u8 2), .lit (.int .u8 57), .lit (.int .u8 49), .lit (.int .u8 28), .lit (.int .u8 3), .lit (.int .u8 61), .lit (.int .u8 58), .lit (.int .u8 42), .lit (.int .u8 50), .lit (.int .u8 38), .lit (.int .u8 29), .lit (.int .u8 17), .lit (.int .u8 4), .lit (.int .u8 62), .lit (.int .u8 47), .lit (.int .u8 59), .lit (.int .u8 36), .lit (.int .u8 45), .lit (.int .u8 43), .lit (.int .u8 51), .lit (.int .u8 22), .lit (.int .u8 53), .lit (.int .u8 39), .lit (.int .u8 33), .lit (.int .u8 30), .lit (.int .u8 24), .lit (.int .u8 18), .lit (.int .u8 12), .lit (.int .u8 5), .lit (.int .u8 63), .lit (.int .u8 55), .lit (.int .u8 48), .lit (.int .u8 27), .lit (.int .u8 60), .lit (.int .u8 41), .lit (.int .u8 37), .lit (.int .u8 16), .lit (.int .u8 46), .lit (.int .u8 35), .lit (.int .u8 44), .lit (.int .u8 21), .lit (.int .u8 52), .lit (.int .u8 32), .lit (.int .u8 23), .lit (.int .u8 11), .lit (.int .u8 54), .lit (.int .u8 26), .lit (.int .u8 40), .lit (.int .u8 15), .lit (.int .u8 34), .lit (.int .u8 20), .lit (.int .u8 31), .lit (.int .u8 10), .lit (.int .u8 25), .lit (.int .u8 14), .lit (.int .u8 19), .lit (.int .u8 9), .lit (.int .u8 13), .lit (.int .u8 8), .lit (.int .u8 7), .lit (.int .u8 6)]
def laid_unicode_utf8_acceptRanges {H : Type} : DataW H := .agg [.agg [.lit (.int .u8 128), .lit (.int .u8 191)], .agg [.lit (.int .u8 160), .lit (.int .u8 191)], .agg [.lit (.int .u8 128), .lit (.int .u8 159)], .agg [.lit (.int .u8 144), .lit (.int .u8 191)], .agg [.lit (.int .u8 128), .lit (.int .u8 143)], .agg [.lit (.int .u8 0), .lit (.int .u8 0)], .agg [.lit (.int .u8 0), .lit (.int .u8 0)], .agg [.lit (.int .u8 0), .lit (.int .u8 0)], .agg [.lit (.int .u8 0), .lit (.int .u8 0)], .agg [.lit (.int .u8 0), .lit (.int .u8 0)], .agg [.lit (.int .u8 0), .lit (.int .u8 0)], .agg [.lit (.int .u8 0), .lit (.int .u8 0)], .agg [.lit (.int .u8 0), .lit (.int .u8 0)], .agg [.lit (.int .u8 0), .lit (.int .u8 0)], .agg [.lit (.int .u8 0), .lit (.int .u8 0)], .agg [.lit (.int .u8 0), .lit (.int .u8 0)]]
/-- One of Go's own tables, pinned by name: the form's constant. -/
def laid_unicode_utf8_first : DataW Unit := Go.Pinned.utf8First

/-- 'raddlelaw17.TokOrder': WHATEVER THE INPUT: true; the input reads as it did. -/
def tokOrderSpec : ChangeSpec := { name := "tokOrder", fn := fun _ => fun
  | [d1, d2] => { results := [.lit (.bool true)], args := [d1, d2] }
  | _ => none }
def tokOrderRow : OpenClaim := { program := "ytmbhpolhiblhoaagreatdoor", sum := "d3501e406357a16f644a111fe4c962bfd1be921cf1b1694148ec2f82212ab240", func := "raddle/raddlelaw17.TokOrder", spec := "tokOrder", unfollowed := true, recurses := true, named := ["math/bits.deBruijn64tab"], apart := false, laid := [("math/bits.deBruijn64tab", laid_math_bits_deBruijn64tab)] }
def TokOrderSaid : Prop := tokOrderRow.holds Tryz.pinned (OpenSpec.ofChange tokOrderSpec)

/-- ITS FALSE NEIGHBOUR: 'it returns false'. Refute it at one input. -/
def tokOrderWrong : ChangeSpec := { name := "tokOrder", fn := fun _ => fun
  | [d1, d2] => { results := [.lit (.bool false)], args := [d1, d2] }
  | _ => none }
def TokOrderWrongFalsely : Prop := tokOrderRow.holds Tryz.pinned (OpenSpec.ofChange tokOrderWrong)

/-- 'raddlelaw17.TokNone': WHATEVER THE INPUT: true; the input reads as it did. -/
def tokNoneSpec : ChangeSpec := { name := "tokNone", fn := fun _ => fun
  | [d] => { results := [.lit (.bool true)], args := [d] }
  | _ => none }
def tokNoneRow : OpenClaim := { program := "ytmbhpolhiblhoaagreatdoor", sum := "d3501e406357a16f644a111fe4c962bfd1be921cf1b1694148ec2f82212ab240", func := "raddle/raddlelaw17.TokNone", spec := "tokNone", unfollowed := true, recurses := true, named := ["math/bits.deBruijn64tab"], apart := false, laid := [("math/bits.deBruijn64tab", laid_math_bits_deBruijn64tab)] }
def TokNoneSaid : Prop := tokNoneRow.holds Tryz.pinned (OpenSpec.ofChange tokNoneSpec)

/-- ITS FALSE NEIGHBOUR: 'it returns false'. Refute it at one input. -/
def tokNoneWrong : ChangeSpec := { name := "tokNone", fn := fun _ => fun
  | [d] => { results := [.lit (.bool false)], args := [d] }
  | _ => none }
def TokNoneWrongFalsely : Prop := tokNoneRow.holds Tryz.pinned (OpenSpec.ofChange tokNoneWrong)

/-- 'raddlelaw17.TokTells': WHATEVER THE INPUT: true; the input reads as it did. -/
def tokTellsSpec : ChangeSpec := { name := "tokTells", fn := fun _ => fun
  | [d1, d2, d3, d4] => { results := [.lit (.bool true)], args := [d1, d2, d3, d4] }
  | _ => none }
def tokTellsRow : OpenClaim := { program := "ytmbhpolhiblhoaagreatdoor", sum := "d3501e406357a16f644a111fe4c962bfd1be921cf1b1694148ec2f82212ab240", func := "raddle/raddlelaw17.TokTells", spec := "tokTells", unfollowed := true, recurses := true, named := ["math/bits.deBruijn64tab"], apart := false, laid := [("math/bits.deBruijn64tab", laid_math_bits_deBruijn64tab)] }
def TokTellsSaid : Prop := tokTellsRow.holds Tryz.pinned (OpenSpec.ofChange tokTellsSpec)

/-- ITS FALSE NEIGHBOUR: 'it returns false'. Refute it at one input. -/
def tokTellsWrong : ChangeSpec := { name := "tokTells", fn := fun _ => fun
  | [d1, d2, d3, d4] => { results := [.lit (.bool false)], args := [d1, d2, d3, d4] }
  | _ => none }
def TokTellsWrongFalsely : Prop := tokTellsRow.holds Tryz.pinned (OpenSpec.ofChange tokTellsWrong)

/-- 'raddlelaw17.TokOnce': WHATEVER THE INPUT: true; the input reads as it did. -/
def tokOnceSpec : ChangeSpec := { name := "tokOnce", fn := fun _ => fun
  | [d1, d2] => { results := [.lit (.bool true)], args := [d1, d2] }
  | _ => none }
def tokOnceRow : OpenClaim := { program := "ytmbhpolhiblhoaagreatdoor", sum := "d3501e406357a16f644a111fe4c962bfd1be921cf1b1694148ec2f82212ab240", func := "raddle/raddlelaw17.TokOnce", spec := "tokOnce", unfollowed := true, recurses := true, named := ["math/bits.deBruijn64tab"], apart := false, laid := [("math/bits.deBruijn64tab", laid_math_bits_deBruijn64tab)] }
def TokOnceSaid : Prop := tokOnceRow.holds Tryz.pinned (OpenSpec.ofChange tokOnceSpec)

/-- ITS FALSE NEIGHBOUR: 'it returns false'. Refute it at one input. -/
def tokOnceWrong : ChangeSpec := { name := "tokOnce", fn := fun _ => fun
  | [d1, d2] => { results := [.lit (.bool false)], args := [d1, d2] }
  | _ => none }
def TokOnceWrongFalsely : Prop := tokOnceRow.holds Tryz.pinned (OpenSpec.ofChange tokOnceWrong)

/-- 'raddlelaw17.TokLongest': WHATEVER THE INPUT: true; the input reads as it did. -/
def tokLongestSpec : ChangeSpec := { name := "tokLongest", fn := fun _ => fun
  | [d1, d2, d3, d4] => { results := [.lit (.bool true)], args := [d1, d2, d3, d4] }
  | _ => none }
def tokLongestRow : OpenClaim := { program := "ytmbhpolhiblhoaagreatdoor", sum := "d3501e406357a16f644a111fe4c962bfd1be921cf1b1694148ec2f82212ab240", func := "raddle/raddlelaw17.TokLongest", spec := "tokLongest", unfollowed := true, recurses := true, named := ["math/bits.deBruijn64tab"], apart := false, laid := [("math/bits.deBruijn64tab", laid_math_bits_deBruijn64tab)] }
def TokLongestSaid : Prop := tokLongestRow.holds Tryz.pinned (OpenSpec.ofChange tokLongestSpec)

/-- ITS FALSE NEIGHBOUR: 'it returns false'. Refute it at one input. -/
def tokLongestWrong : ChangeSpec := { name := "tokLongest", fn := fun _ => fun
  | [d1, d2, d3, d4] => { results := [.lit (.bool false)], args := [d1, d2, d3, d4] }
  | _ => none }
def TokLongestWrongFalsely : Prop := tokLongestRow.holds Tryz.pinned (OpenSpec.ofChange tokLongestWrong)

/-- 'raddlelaw17.TokEnds': WHATEVER THE INPUT: true; the input reads as it did. -/
def tokEndsSpec : ChangeSpec := { name := "tokEnds", fn := fun _ => fun
  | [d1, d2, d3, d4] => { results := [.lit (.bool true)], args := [d1, d2, d3, d4] }
  | _ => none }
def tokEndsRow : OpenClaim := { program := "ytmbhpolhiblhoaagreatdoor", sum := "d3501e406357a16f644a111fe4c962bfd1be921cf1b1694148ec2f82212ab240", func := "raddle/raddlelaw17.TokEnds", spec := "tokEnds", unfollowed := true, recurses := true, named := ["math/bits.deBruijn64tab"], apart := false, laid := [("math/bits.deBruijn64tab", laid_math_bits_deBruijn64tab)] }
def TokEndsSaid : Prop := tokEndsRow.holds Tryz.pinned (OpenSpec.ofChange tokEndsSpec)

/-- ITS FALSE NEIGHBOUR: 'it returns false'. Refute it at one input. -/
def tokEndsWrong : ChangeSpec := { name := "tokEnds", fn := fun _ => fun
  | [d1, d2, d3, d4] => { results := [.lit (.bool false)], args := [d1, d2, d3, d4] }
  | _ => none }
def TokEndsWrongFalsely : Prop := tokEndsRow.holds Tryz.pinned (OpenSpec.ofChange tokEndsWrong)

/-- 'raddlelaw15.FileParts': WHATEVER THE INPUT: true; the input reads as it did. -/
def filePartsSpec : ChangeSpec := { name := "fileParts", fn := fun _ => fun
  | [d1, d2] => { results := [.lit (.bool true)], args := [d1, d2] }
  | _ => none }
def filePartsRow : OpenClaim := { program := "ytmbhpolhiblhoaagreatdoor", sum := "d3501e406357a16f644a111fe4c962bfd1be921cf1b1694148ec2f82212ab240", func := "raddle/raddlelaw15.FileParts", spec := "fileParts", inPlace := ["internal/bytealg.IndexByteString", "internal/bytealg.IndexString", "internal/bytealg.CountString"], unfollowed := true, recurses := true, named := ["unicode/utf8.first", "unicode/utf8.acceptRanges", "internal/bytealg.MaxLen"], apart := false, laid := [("unicode/utf8.acceptRanges", laid_unicode_utf8_acceptRanges), ("unicode/utf8.first", laid_unicode_utf8_first)] }
def FilePartsSaid : Prop := filePartsRow.holds Tryz.pinned (OpenSpec.ofChange filePartsSpec)

/-- ITS FALSE NEIGHBOUR: 'it returns false'. Refute it at one input. -/
def filePartsWrong : ChangeSpec := { name := "fileParts", fn := fun _ => fun
  | [d1, d2] => { results := [.lit (.bool false)], args := [d1, d2] }
  | _ => none }
def FilePartsWrongFalsely : Prop := filePartsRow.holds Tryz.pinned (OpenSpec.ofChange filePartsWrong)

/-- 'raddlelaw15.FileOne': WHATEVER THE INPUT: true; the input reads as it did. -/
def fileOneSpec : ChangeSpec := { name := "fileOne", fn := fun _ => fun
  | [d1, d2] => { results := [.lit (.bool true)], args := [d1, d2] }
  | _ => none }
def fileOneRow : OpenClaim := { program := "ytmbhpolhiblhoaagreatdoor", sum := "d3501e406357a16f644a111fe4c962bfd1be921cf1b1694148ec2f82212ab240", func := "raddle/raddlelaw15.FileOne", spec := "fileOne", inPlace := ["internal/bytealg.IndexByteString", "internal/bytealg.IndexString", "internal/bytealg.CountString"], unfollowed := true, recurses := true, named := ["unicode/utf8.first", "unicode/utf8.acceptRanges", "internal/bytealg.MaxLen"], apart := false, laid := [("unicode/utf8.acceptRanges", laid_unicode_utf8_acceptRanges), ("unicode/utf8.first", laid_unicode_utf8_first)] }
def FileOneSaid : Prop := fileOneRow.holds Tryz.pinned (OpenSpec.ofChange fileOneSpec)

/-- ITS FALSE NEIGHBOUR: 'it returns false'. Refute it at one input. -/
def fileOneWrong : ChangeSpec := { name := "fileOne", fn := fun _ => fun
  | [d1, d2] => { results := [.lit (.bool false)], args := [d1, d2] }
  | _ => none }
def FileOneWrongFalsely : Prop := fileOneRow.holds Tryz.pinned (OpenSpec.ofChange fileOneWrong)

/-- 'raddlelaw15.FileNone': WHATEVER THE INPUT: true; the input reads as it did. -/
def fileNoneSpec : ChangeSpec := { name := "fileNone", fn := fun _ => fun
  | [d] => { results := [.lit (.bool true)], args := [d] }
  | _ => none }
def fileNoneRow : OpenClaim := { program := "ytmbhpolhiblhoaagreatdoor", sum := "d3501e406357a16f644a111fe4c962bfd1be921cf1b1694148ec2f82212ab240", func := "raddle/raddlelaw15.FileNone", spec := "fileNone", inPlace := ["internal/bytealg.IndexByteString", "internal/bytealg.IndexString", "internal/bytealg.CountString"], unfollowed := true, recurses := true, named := ["unicode/utf8.first", "unicode/utf8.acceptRanges", "internal/bytealg.MaxLen"], apart := false, laid := [("unicode/utf8.acceptRanges", laid_unicode_utf8_acceptRanges), ("unicode/utf8.first", laid_unicode_utf8_first)] }
def FileNoneSaid : Prop := fileNoneRow.holds Tryz.pinned (OpenSpec.ofChange fileNoneSpec)

/-- ITS FALSE NEIGHBOUR: 'it returns false'. Refute it at one input. -/
def fileNoneWrong : ChangeSpec := { name := "fileNone", fn := fun _ => fun
  | [d] => { results := [.lit (.bool false)], args := [d] }
  | _ => none }
def FileNoneWrongFalsely : Prop := fileNoneRow.holds Tryz.pinned (OpenSpec.ofChange fileNoneWrong)

/-- 'raddlelaw15.FileRights': WHATEVER THE INPUT: true; the input reads as it did. -/
def fileRightsSpec : ChangeSpec := { name := "fileRights", fn := fun _ => fun
  | [d1, d2] => { results := [.lit (.bool true)], args := [d1, d2] }
  | _ => none }
def fileRightsRow : OpenClaim := { program := "ytmbhpolhiblhoaagreatdoor", sum := "d3501e406357a16f644a111fe4c962bfd1be921cf1b1694148ec2f82212ab240", func := "raddle/raddlelaw15.FileRights", spec := "fileRights", inPlace := ["internal/bytealg.IndexByteString", "internal/bytealg.IndexString", "internal/bytealg.CountString"], unfollowed := true, recurses := true, named := ["math/bits.deBruijn64tab", "unicode/utf8.first", "unicode/utf8.acceptRanges", "internal/bytealg.MaxLen"], apart := false, laid := [("math/bits.deBruijn64tab", laid_math_bits_deBruijn64tab), ("unicode/utf8.acceptRanges", laid_unicode_utf8_acceptRanges), ("unicode/utf8.first", laid_unicode_utf8_first)] }
def FileRightsSaid : Prop := fileRightsRow.holds Tryz.pinned (OpenSpec.ofChange fileRightsSpec)

/-- ITS FALSE NEIGHBOUR: 'it returns false'. Refute it at one input. -/
def fileRightsWrong : ChangeSpec := { name := "fileRights", fn := fun _ => fun
  | [d1, d2] => { results := [.lit (.bool false)], args := [d1, d2] }
  | _ => none }
def FileRightsWrongFalsely : Prop := fileRightsRow.holds Tryz.pinned (OpenSpec.ofChange fileRightsWrong)

/-- 'raddlelaw15.FileRight': WHATEVER THE INPUT: true; the input reads as it did. -/
def fileRightSpec : ChangeSpec := { name := "fileRight", fn := fun _ => fun
  | [d] => { results := [.lit (.bool true)], args := [d] }
  | _ => none }
def fileRightRow : OpenClaim := { program := "ytmbhpolhiblhoaagreatdoor", sum := "d3501e406357a16f644a111fe4c962bfd1be921cf1b1694148ec2f82212ab240", func := "raddle/raddlelaw15.FileRight", spec := "fileRight", inPlace := ["internal/bytealg.IndexByteString", "internal/bytealg.IndexString", "internal/bytealg.CountString"], unfollowed := true, recurses := true, named := ["unicode/utf8.first", "unicode/utf8.acceptRanges", "internal/bytealg.MaxLen", "math/bits.deBruijn64tab"], apart := false, laid := [("math/bits.deBruijn64tab", laid_math_bits_deBruijn64tab), ("unicode/utf8.acceptRanges", laid_unicode_utf8_acceptRanges), ("unicode/utf8.first", laid_unicode_utf8_first)] }
def FileRightSaid : Prop := fileRightRow.holds Tryz.pinned (OpenSpec.ofChange fileRightSpec)

/-- ITS FALSE NEIGHBOUR: 'it returns false'. Refute it at one input. -/
def fileRightWrong : ChangeSpec := { name := "fileRight", fn := fun _ => fun
  | [d] => { results := [.lit (.bool false)], args := [d] }
  | _ => none }
def FileRightWrongFalsely : Prop := fileRightRow.holds Tryz.pinned (OpenSpec.ofChange fileRightWrong)

/- THE SECOND FORM. 'bulk': how many values and letters a reading holds, each counted each time it is reached (what is shared counts as often as it is met; a slice's spare places count too). A statement '..UptoSaid' is the law's where the arguments, and the package variables that the reading takes, are together of bulk at most 1048576: NARROWER than '..Said'. Prove '..Said' where nothing that the law and all that it calls make is longer than what came in: it says more and counts as full. Else prove '..UptoSaid'. A law counts once. -/
mutual
def uptoBulk {H : Type} : DataW H → Nat
  | .lit (.string bytes) => bytes.length + 1
  | .lit _ => 1
  | .nil => 1
  | .ptr d => uptoBulk d + 1
  | .slice elems spare => uptoBulkAll elems + uptoBulkAll spare + 1
  | .agg parts => uptoBulkAll parts + 1
  | .iface _ d => uptoBulk d + 1
  | .map entries => uptoBulkEntries entries + 1
  | .held _ => 1
def uptoBulkAll {H : Type} : List (DataW H) → Nat
  | [] => 0
  | d :: r => uptoBulk d + uptoBulkAll r
def uptoBulkEntries {H : Type} : List (Lit × DataW H) → Nat
  | [] => 0
  | x :: r => uptoBulkEntry x + uptoBulkEntries r
def uptoBulkEntry {H : Type} : Lit × DataW H → Nat
  | (.string bytes, d) => bytes.length + uptoBulk d + 1
  | (_, d) => uptoBulk d + 1
 end
def uptoSmall : (H : Type) → List (DataW H) → Bool := fun _ ds => decide (uptoBulkAll ds ≤ 1048576)
def OpenSpec.upto (s : _root_.Go.ChangeSpec) : _root_.Go.OpenSpec := { _root_.Go.OpenSpec.ofChange s with cond := some uptoSmall }

/-- 'raddlelaw17.TokOrder', WHERE WHAT IT READS IS OF BULK AT MOST 1048576: true; the input reads as it did. -/
def tokOrderUptoRow : OpenClaim := { program := "ytmbhpolhiblhoaagreatdoor", sum := "d3501e406357a16f644a111fe4c962bfd1be921cf1b1694148ec2f82212ab240", func := "raddle/raddlelaw17.TokOrder", spec := "tokOrder", unfollowed := true, recurses := true, named := ["math/bits.deBruijn64tab"], apart := false, laid := [("math/bits.deBruijn64tab", laid_math_bits_deBruijn64tab)], narrowed := true }
def TokOrderUptoSaid : Prop := tokOrderUptoRow.holds Tryz.pinned (OpenSpec.upto tokOrderSpec)

/-- 'raddlelaw17.TokNone', WHERE WHAT IT READS IS OF BULK AT MOST 1048576: true; the input reads as it did. -/
def tokNoneUptoRow : OpenClaim := { program := "ytmbhpolhiblhoaagreatdoor", sum := "d3501e406357a16f644a111fe4c962bfd1be921cf1b1694148ec2f82212ab240", func := "raddle/raddlelaw17.TokNone", spec := "tokNone", unfollowed := true, recurses := true, named := ["math/bits.deBruijn64tab"], apart := false, laid := [("math/bits.deBruijn64tab", laid_math_bits_deBruijn64tab)], narrowed := true }
def TokNoneUptoSaid : Prop := tokNoneUptoRow.holds Tryz.pinned (OpenSpec.upto tokNoneSpec)

/-- 'raddlelaw17.TokTells', WHERE WHAT IT READS IS OF BULK AT MOST 1048576: true; the input reads as it did. -/
def tokTellsUptoRow : OpenClaim := { program := "ytmbhpolhiblhoaagreatdoor", sum := "d3501e406357a16f644a111fe4c962bfd1be921cf1b1694148ec2f82212ab240", func := "raddle/raddlelaw17.TokTells", spec := "tokTells", unfollowed := true, recurses := true, named := ["math/bits.deBruijn64tab"], apart := false, laid := [("math/bits.deBruijn64tab", laid_math_bits_deBruijn64tab)], narrowed := true }
def TokTellsUptoSaid : Prop := tokTellsUptoRow.holds Tryz.pinned (OpenSpec.upto tokTellsSpec)

/-- 'raddlelaw17.TokOnce', WHERE WHAT IT READS IS OF BULK AT MOST 1048576: true; the input reads as it did. -/
def tokOnceUptoRow : OpenClaim := { program := "ytmbhpolhiblhoaagreatdoor", sum := "d3501e406357a16f644a111fe4c962bfd1be921cf1b1694148ec2f82212ab240", func := "raddle/raddlelaw17.TokOnce", spec := "tokOnce", unfollowed := true, recurses := true, named := ["math/bits.deBruijn64tab"], apart := false, laid := [("math/bits.deBruijn64tab", laid_math_bits_deBruijn64tab)], narrowed := true }
def TokOnceUptoSaid : Prop := tokOnceUptoRow.holds Tryz.pinned (OpenSpec.upto tokOnceSpec)

/-- 'raddlelaw17.TokLongest', WHERE WHAT IT READS IS OF BULK AT MOST 1048576: true; the input reads as it did. -/
def tokLongestUptoRow : OpenClaim := { program := "ytmbhpolhiblhoaagreatdoor", sum := "d3501e406357a16f644a111fe4c962bfd1be921cf1b1694148ec2f82212ab240", func := "raddle/raddlelaw17.TokLongest", spec := "tokLongest", unfollowed := true, recurses := true, named := ["math/bits.deBruijn64tab"], apart := false, laid := [("math/bits.deBruijn64tab", laid_math_bits_deBruijn64tab)], narrowed := true }
def TokLongestUptoSaid : Prop := tokLongestUptoRow.holds Tryz.pinned (OpenSpec.upto tokLongestSpec)

/-- 'raddlelaw17.TokEnds', WHERE WHAT IT READS IS OF BULK AT MOST 1048576: true; the input reads as it did. -/
def tokEndsUptoRow : OpenClaim := { program := "ytmbhpolhiblhoaagreatdoor", sum := "d3501e406357a16f644a111fe4c962bfd1be921cf1b1694148ec2f82212ab240", func := "raddle/raddlelaw17.TokEnds", spec := "tokEnds", unfollowed := true, recurses := true, named := ["math/bits.deBruijn64tab"], apart := false, laid := [("math/bits.deBruijn64tab", laid_math_bits_deBruijn64tab)], narrowed := true }
def TokEndsUptoSaid : Prop := tokEndsUptoRow.holds Tryz.pinned (OpenSpec.upto tokEndsSpec)

/-- 'raddlelaw15.FileParts', WHERE WHAT IT READS IS OF BULK AT MOST 1048576: true; the input reads as it did. -/
def filePartsUptoRow : OpenClaim := { program := "ytmbhpolhiblhoaagreatdoor", sum := "d3501e406357a16f644a111fe4c962bfd1be921cf1b1694148ec2f82212ab240", func := "raddle/raddlelaw15.FileParts", spec := "fileParts", inPlace := ["internal/bytealg.IndexByteString", "internal/bytealg.IndexString", "internal/bytealg.CountString"], unfollowed := true, recurses := true, named := ["unicode/utf8.first", "unicode/utf8.acceptRanges", "internal/bytealg.MaxLen"], apart := false, laid := [("unicode/utf8.acceptRanges", laid_unicode_utf8_acceptRanges), ("unicode/utf8.first", laid_unicode_utf8_first)], narrowed := true }
def FilePartsUptoSaid : Prop := filePartsUptoRow.holds Tryz.pinned (OpenSpec.upto filePartsSpec)

/-- 'raddlelaw15.FileOne', WHERE WHAT IT READS IS OF BULK AT MOST 1048576: true; the input reads as it did. -/
def fileOneUptoRow : OpenClaim := { program := "ytmbhpolhiblhoaagreatdoor", sum := "d3501e406357a16f644a111fe4c962bfd1be921cf1b1694148ec2f82212ab240", func := "raddle/raddlelaw15.FileOne", spec := "fileOne", inPlace := ["internal/bytealg.IndexByteString", "internal/bytealg.IndexString", "internal/bytealg.CountString"], unfollowed := true, recurses := true, named := ["unicode/utf8.first", "unicode/utf8.acceptRanges", "internal/bytealg.MaxLen"], apart := false, laid := [("unicode/utf8.acceptRanges", laid_unicode_utf8_acceptRanges), ("unicode/utf8.first", laid_unicode_utf8_first)], narrowed := true }
def FileOneUptoSaid : Prop := fileOneUptoRow.holds Tryz.pinned (OpenSpec.upto fileOneSpec)

/-- 'raddlelaw15.FileNone', WHERE WHAT IT READS IS OF BULK AT MOST 1048576: true; the input reads as it did. -/
def fileNoneUptoRow : OpenClaim := { program := "ytmbhpolhiblhoaagreatdoor", sum := "d3501e406357a16f644a111fe4c962bfd1be921cf1b1694148ec2f82212ab240", func := "raddle/raddlelaw15.FileNone", spec := "fileNone", inPlace := ["internal/bytealg.IndexByteString", "internal/bytealg.IndexString", "internal/bytealg.CountString"], unfollowed := true, recurses := true, named := ["unicode/utf8.first", "unicode/utf8.acceptRanges", "internal/bytealg.MaxLen"], apart := false, laid := [("unicode/utf8.acceptRanges", laid_unicode_utf8_acceptRanges), ("unicode/utf8.first", laid_unicode_utf8_first)], narrowed := true }
def FileNoneUptoSaid : Prop := fileNoneUptoRow.holds Tryz.pinned (OpenSpec.upto fileNoneSpec)

/-- 'raddlelaw15.FileRights', WHERE WHAT IT READS IS OF BULK AT MOST 1048576: true; the input reads as it did. -/
def fileRightsUptoRow : OpenClaim := { program := "ytmbhpolhiblhoaagreatdoor", sum := "d3501e406357a16f644a111fe4c962bfd1be921cf1b1694148ec2f82212ab240", func := "raddle/raddlelaw15.FileRights", spec := "fileRights", inPlace := ["internal/bytealg.IndexByteString", "internal/bytealg.IndexString", "internal/bytealg.CountString"], unfollowed := true, recurses := true, named := ["math/bits.deBruijn64tab", "unicode/utf8.first", "unicode/utf8.acceptRanges", "internal/bytealg.MaxLen"], apart := false, laid := [("math/bits.deBruijn64tab", laid_math_bits_deBruijn64tab), ("unicode/utf8.acceptRanges", laid_unicode_utf8_acceptRanges), ("unicode/utf8.first", laid_unicode_utf8_first)], narrowed := true }
def FileRightsUptoSaid : Prop := fileRightsUptoRow.holds Tryz.pinned (OpenSpec.upto fileRightsSpec)

/-- 'raddlelaw15.FileRight', WHERE WHAT IT READS IS OF BULK AT MOST 1048576: true; the input reads as it did. -/
def fileRightUptoRow : OpenClaim := { program := "ytmbhpolhiblhoaagreatdoor", sum := "d3501e406357a16f644a111fe4c962bfd1be921cf1b1694148ec2f82212ab240", func := "raddle/raddlelaw15.FileRight", spec := "fileRight", inPlace := ["internal/bytealg.IndexByteString", "internal/bytealg.IndexString", "internal/bytealg.CountString"], unfollowed := true, recurses := true, named := ["unicode/utf8.first", "unicode/utf8.acceptRanges", "internal/bytealg.MaxLen", "math/bits.deBruijn64tab"], apart := false, laid := [("math/bits.deBruijn64tab", laid_math_bits_deBruijn64tab), ("unicode/utf8.acceptRanges", laid_unicode_utf8_acceptRanges), ("unicode/utf8.first", laid_unicode_utf8_first)], narrowed := true }
def FileRightUptoSaid : Prop := fileRightUptoRow.holds Tryz.pinned (OpenSpec.upto fileRightSpec)

end Rows
end Go.Proofs.YtmbhpolhiblhoaaGreatDoor
