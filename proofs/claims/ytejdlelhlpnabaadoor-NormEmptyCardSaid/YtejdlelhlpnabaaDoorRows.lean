/-
  NARROWER THAN 'FOR EVERY INPUT', by the rows' own cells (each row's printed sentence says how): NormOrder: laid · NormTells: laid · NormEmpty: laid · NormFold: laid.
  DERIVED. THE GIVEN ROWS OF THIS SEAT. 4 by the template 'for every input the law returns true; each argument reads behind the call as it read before'; 0 by the template 'total and deterministic' (their statements: YtejdlelhlpnabaaDoorTotals.lean).
  GIVEN WITH THE SEED: the statements are not yours to turn. If you find one false, say at which input.
  Laid BY PROGRAM, IN A SANDBOX (cutbox-rows.mjs): the forced cells as the released guide's own fill.sh prints them over the translation 88e627923d7288ba… (all of the seat's roots in one cut). By AI agents, Wed Nov 11 2026. No macro, syntax, notation, axiom, sorry.
-/
import Derived.Test.YtejdlelhlpnabaaDoorChecked
import GoSem.Claim
import GoSem.ClaimJoined
import GoSem.ClaimMapViews
import Derived.JoinedTies
import Derived.KernelRfl
namespace Go.Proofs.YtejdlelhlpnabaaDoor
/- THE CELL 'sum', in the pinned program and in every row, IS THE sha256 OF THE DUMP (.gsa) THAT YtejdlelhlpnabaaDoorProg.lean LOADS. Nothing in Lean hashes anything: it is a label: what it is worth is what the hold of that sum in a sandbox is worth. -/
noncomputable def Tryd.pinned : Pinned := { name := "ytejdlelhlpnabaadoor", sum := "88e627923d7288bab6ef1dce0de8a36e9522882da724e061e89cebe5c1d80fdc", checked := Tryd.checked }
namespace Rows
def none {H : Type} : Left H := { results := [], args := [] }

/- WHAT THE LISTED PACKAGE-LEVEL VARIABLES READ AS WHEN THE CALL BEGINS. Each datum BY PROGRAM (the guide's laid-datum.mjs) off the statement by which the dump's own 'gosem.cut.vars' lays the variable. In a bare row this is a premise. The card (YtejdlelhlpnabaaDoorCards.lean) ties it to the program's text. -/
def laid_math_bits_deBruijn64tab {H : Type} : DataW H := .agg [.lit (.int .u8 0), .lit (.int .u8 1), .lit (.int .u8 56), .lit (.int .u8 2), .lit (.int .u8 57), .lit (.int .u8 49), .lit (.int .u8 28), .lit (.int .u8 3), .lit (.int .u8 61), .lit (.int .u8 58), .lit (.int .u8 42), .lit (.int .u8 50), .lit (.int .u8 38), .lit (.int .u8 29), .lit (.int .u8 17), .lit (.int .u8 4), .lit (.int .u8 62), .lit (.int .u8 47), .lit (.int .u8 59), .lit (.int .u8 36), .lit (.int .u8 45), .lit (.int .u8 43), .lit (.int .u8 51), .lit (.int .u8 22), .lit (.int .u8 53), .lit (.int .u8 39), .lit (.int .u8 33), .lit (.int .u8 30), .lit (.int .u8 24), .lit (.int .u8 18), .lit (.int .u8 12), .lit (.int .u8 5), .lit (.int .u8 63), .lit (.int .u8 55), .lit (.int .u8 48), .lit (.int .u8 27), .lit (.int .u8 60), .lit (.int .u8 41), .lit (.int .u8 37), .lit (.int .u8 16), .lit (.int .u8 46), .lit (.int .u8 35), .lit (.int .u8 44), .lit (.int .u8 21), .lit (.int .u8 52), .lit (.int .u8 32), .lit (.int .u8 23), .lit (.int .u8 11), .lit (.int .u8 54), .lit (.int .u8 26), .lit (.int .u8 40), .lit (.int .u8 15), .lit (.int .u8 34), .lit (.int .u8 20), .lit (.int .u8 31), .lit (.int .u8 10), .lit (.int .u8 25), .lit (.int .u8 14), .lit (.int .u8 19), .lit (.int .u8 9), .lit (.int .u8 13), .lit (.int .u8 8), .lit (.int .u8 7), .lit (.int .u8 6)]

/-- 'raddlelaw06.NormOrder': WHATEVER THE INPUT: true; the input reads as it did. -/
def normOrderSpec : ChangeSpec := { name := "normOrder", fn := fun _ => fun
  | [d1, d2] => { results := [.lit (.bool true)], args := [d1, d2] }
  | _ => none }
def normOrderRow : OpenClaim := { program := "ytejdlelhlpnabaadoor", sum := "88e627923d7288bab6ef1dce0de8a36e9522882da724e061e89cebe5c1d80fdc", func := "raddle/raddlelaw06.NormOrder", spec := "normOrder", recurses := true, named := ["math/bits.deBruijn64tab"], apart := false, laid := [("math/bits.deBruijn64tab", laid_math_bits_deBruijn64tab)] }
def NormOrderSaid : Prop := normOrderRow.holds Tryd.pinned (OpenSpec.ofChange normOrderSpec)

/-- ITS FALSE NEIGHBOUR: 'it returns false'. Refute it at one input. -/
def normOrderWrong : ChangeSpec := { name := "normOrder", fn := fun _ => fun
  | [d1, d2] => { results := [.lit (.bool false)], args := [d1, d2] }
  | _ => none }
def NormOrderWrongFalsely : Prop := normOrderRow.holds Tryd.pinned (OpenSpec.ofChange normOrderWrong)

/-- 'raddlelaw06.NormTells': WHATEVER THE INPUT: true; the input reads as it did. -/
def normTellsSpec : ChangeSpec := { name := "normTells", fn := fun _ => fun
  | [d1, d2] => { results := [.lit (.bool true)], args := [d1, d2] }
  | _ => none }
def normTellsRow : OpenClaim := { program := "ytejdlelhlpnabaadoor", sum := "88e627923d7288bab6ef1dce0de8a36e9522882da724e061e89cebe5c1d80fdc", func := "raddle/raddlelaw06.NormTells", spec := "normTells", unfollowed := true, recurses := true, named := ["math/bits.deBruijn64tab"], apart := false, laid := [("math/bits.deBruijn64tab", laid_math_bits_deBruijn64tab)] }
def NormTellsSaid : Prop := normTellsRow.holds Tryd.pinned (OpenSpec.ofChange normTellsSpec)

/-- ITS FALSE NEIGHBOUR: 'it returns false'. Refute it at one input. -/
def normTellsWrong : ChangeSpec := { name := "normTells", fn := fun _ => fun
  | [d1, d2] => { results := [.lit (.bool false)], args := [d1, d2] }
  | _ => none }
def NormTellsWrongFalsely : Prop := normTellsRow.holds Tryd.pinned (OpenSpec.ofChange normTellsWrong)

/-- 'raddlelaw06.NormEmpty': WHATEVER THE INPUT: true; the input reads as it did. -/
def normEmptySpec : ChangeSpec := { name := "normEmpty", fn := fun _ => fun
  | [d1, d2] => { results := [.lit (.bool true)], args := [d1, d2] }
  | _ => none }
def normEmptyRow : OpenClaim := { program := "ytejdlelhlpnabaadoor", sum := "88e627923d7288bab6ef1dce0de8a36e9522882da724e061e89cebe5c1d80fdc", func := "raddle/raddlelaw06.NormEmpty", spec := "normEmpty", unfollowed := true, recurses := true, named := ["math/bits.deBruijn64tab"], apart := false, laid := [("math/bits.deBruijn64tab", laid_math_bits_deBruijn64tab)] }
def NormEmptySaid : Prop := normEmptyRow.holds Tryd.pinned (OpenSpec.ofChange normEmptySpec)

/-- ITS FALSE NEIGHBOUR: 'it returns false'. Refute it at one input. -/
def normEmptyWrong : ChangeSpec := { name := "normEmpty", fn := fun _ => fun
  | [d1, d2] => { results := [.lit (.bool false)], args := [d1, d2] }
  | _ => none }
def NormEmptyWrongFalsely : Prop := normEmptyRow.holds Tryd.pinned (OpenSpec.ofChange normEmptyWrong)

/-- 'raddlelaw06.NormFold': WHATEVER THE INPUT: true; the input reads as it did. -/
def normFoldSpec : ChangeSpec := { name := "normFold", fn := fun _ => fun
  | [d] => { results := [.lit (.bool true)], args := [d] }
  | _ => none }
def normFoldRow : OpenClaim := { program := "ytejdlelhlpnabaadoor", sum := "88e627923d7288bab6ef1dce0de8a36e9522882da724e061e89cebe5c1d80fdc", func := "raddle/raddlelaw06.NormFold", spec := "normFold", unfollowed := true, recurses := true, named := ["math/bits.deBruijn64tab"], apart := false, laid := [("math/bits.deBruijn64tab", laid_math_bits_deBruijn64tab)] }
def NormFoldSaid : Prop := normFoldRow.holds Tryd.pinned (OpenSpec.ofChange normFoldSpec)

/-- ITS FALSE NEIGHBOUR: 'it returns false'. Refute it at one input. -/
def normFoldWrong : ChangeSpec := { name := "normFold", fn := fun _ => fun
  | [d] => { results := [.lit (.bool false)], args := [d] }
  | _ => none }
def NormFoldWrongFalsely : Prop := normFoldRow.holds Tryd.pinned (OpenSpec.ofChange normFoldWrong)

/- THE SECOND FORM. 'bulk': how many values and letters a reading holds, each counted each time it is reached (what is shared counts as often as it is met; a slice's spare places count too). A statement '..UptoSaid' is the law's where the arguments, and the package variables that the reading takes, are together of bulk at most 1048576: NARROWER than '..Said'. Prove '..Said' where nothing that the law and all that it calls make is longer than what came in: it says more and counts as full. Else prove '..UptoSaid'. A law counts once. -/
mutual
def uptoBulk {H : Type} : DataW H → Nat
  | .lit (.string bytes) => bytes.length + 1
  | .lit _ => 1
  | .nil => 1
  | .ptr d => uptoBulk d + 1
  | .slice elems spare => uptoBulkAll elems + uptoBulkAll spare + 1
  | .agg parts => uptoBulkAll parts + 1
  | .iface _ d => uptoBulk d + 1
  | .map entries => uptoBulkEntries entries + 1
  | .held _ => 1
def uptoBulkAll {H : Type} : List (DataW H) → Nat
  | [] => 0
  | d :: r => uptoBulk d + uptoBulkAll r
def uptoBulkEntries {H : Type} : List (Lit × DataW H) → Nat
  | [] => 0
  | x :: r => uptoBulkEntry x + uptoBulkEntries r
def uptoBulkEntry {H : Type} : Lit × DataW H → Nat
  | (.string bytes, d) => bytes.length + uptoBulk d + 1
  | (_, d) => uptoBulk d + 1
 end
def uptoSmall : (H : Type) → List (DataW H) → Bool := fun _ ds => decide (uptoBulkAll ds ≤ 1048576)
def OpenSpec.upto (s : _root_.Go.ChangeSpec) : _root_.Go.OpenSpec := { _root_.Go.OpenSpec.ofChange s with cond := some uptoSmall }

/-- 'raddlelaw06.NormOrder', WHERE WHAT IT READS IS OF BULK AT MOST 1048576: true; the input reads as it did. -/
def normOrderUptoRow : OpenClaim := { program := "ytejdlelhlpnabaadoor", sum := "88e627923d7288bab6ef1dce0de8a36e9522882da724e061e89cebe5c1d80fdc", func := "raddle/raddlelaw06.NormOrder", spec := "normOrder", recurses := true, named := ["math/bits.deBruijn64tab"], apart := false, laid := [("math/bits.deBruijn64tab", laid_math_bits_deBruijn64tab)], narrowed := true }
def NormOrderUptoSaid : Prop := normOrderUptoRow.holds Tryd.pinned (OpenSpec.upto normOrderSpec)

/-- 'raddlelaw06.NormTells', WHERE WHAT IT READS IS OF BULK AT MOST 1048576: true; the input reads as it did. -/
def normTellsUptoRow : OpenClaim := { program := "ytejdlelhlpnabaadoor", sum := "88e627923d7288bab6ef1dce0de8a36e9522882da724e061e89cebe5c1d80fdc", func := "raddle/raddlelaw06.NormTells", spec := "normTells", unfollowed := true, recurses := true, named := ["math/bits.deBruijn64tab"], apart := false, laid := [("math/bits.deBruijn64tab", laid_math_bits_deBruijn64tab)], narrowed := true }
def NormTellsUptoSaid : Prop := normTellsUptoRow.holds Tryd.pinned (OpenSpec.upto normTellsSpec)

/-- 'raddlelaw06.NormEmpty', WHERE WHAT IT READS IS OF BULK AT MOST 1048576: true; the input reads as it did. -/
def normEmptyUptoRow : OpenClaim := { program := "ytejdlelhlpnabaadoor", sum := "88e627923d7288bab6ef1dce0de8a36e9522882da724e061e89cebe5c1d80fdc", func := "raddle/raddlelaw06.NormEmpty", spec := "normEmpty", unfollowed := true, recurses := true, named := ["math/bits.deBruijn64tab"], apart := false, laid := [("math/bits.deBruijn64tab", laid_math_bits_deBruijn64tab)], narrowed := true }
def NormEmptyUptoSaid : Prop := normEmptyUptoRow.holds Tryd.pinned (OpenSpec.upto normEmptySpec)

/-- 'raddlelaw06.NormFold', WHERE WHAT IT READS IS OF BULK AT MOST 1048576: true; the input reads as it did. -/
def normFoldUptoRow : OpenClaim := { program := "ytejdlelhlpnabaadoor", sum := "88e627923d7288bab6ef1dce0de8a36e9522882da724e061e89cebe5c1d80fdc", func := "raddle/raddlelaw06.NormFold", spec := "normFold", unfollowed := true, recurses := true, named := ["math/bits.deBruijn64tab"], apart := false, laid := [("math/bits.deBruijn64tab", laid_math_bits_deBruijn64tab)], narrowed := true }
def NormFoldUptoSaid : Prop := normFoldUptoRow.holds Tryd.pinned (OpenSpec.upto normFoldSpec)

end Rows
end Go.Proofs.YtejdlelhlpnabaaDoor
