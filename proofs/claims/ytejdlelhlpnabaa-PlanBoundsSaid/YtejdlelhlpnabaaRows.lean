/-
  No cell of these rows narrows 'for every input' (looked for: loops, veiled, ifaces, maps, wideKeys, modest, calm, conditions, laid).
  DERIVED. THE GIVEN ROWS OF THIS SEAT. 10 by the template 'for every input the law returns true; each argument reads behind the call as it read before'; 0 by the template 'total and deterministic' (their statements: YtejdlelhlpnabaaTotals.lean).
  GIVEN WITH THE SEED: the statements are not yours to turn. If you find one false, say at which input.
  Laid BY PROGRAM, IN A SANDBOX (cutbox-rows.mjs): the forced cells as the released guide's own fill.sh prints them over the translation f25225cd84fe8607… (all of the seat's roots in one cut). By AI agents, Wed Nov 11 2026. No macro, syntax, notation, axiom, sorry.
-/
import Derived.Test.YtejdlelhlpnabaaChecked
import GoSem.Claim
import GoSem.ClaimJoined
import GoSem.ClaimMapViews
import Derived.JoinedTies
import Derived.KernelRfl
namespace Go.Proofs.Ytejdlelhlpnabaa
/- THE CELL 'sum', in the pinned program and in every row, IS THE sha256 OF THE DUMP (.gsa) THAT YtejdlelhlpnabaaProg.lean LOADS. Nothing in Lean hashes anything: it is a label: what it is worth is what the hold of that sum in a sandbox is worth. -/
noncomputable def Try.pinned : Pinned := { name := "ytejdlelhlpnabaa", sum := "f25225cd84fe860748bc552a15f47361eb29943cc006d3357198e9b866c03e21", checked := Try.checked }
namespace Rows
def none {H : Type} : Left H := { results := [], args := [] }

/-- 'raddlelaw06.NormPlain': WHATEVER THE INPUT: true; the input reads as it did. -/
def normPlainSpec : ChangeSpec := { name := "normPlain", fn := fun _ => fun
  | [d1, d2] => { results := [.lit (.bool true)], args := [d1, d2] }
  | _ => none }
def normPlainRow : OpenClaim := { program := "ytejdlelhlpnabaa", sum := "f25225cd84fe860748bc552a15f47361eb29943cc006d3357198e9b866c03e21", func := "raddle/raddlelaw06.NormPlain", spec := "normPlain", recurses := true, apart := false }
def NormPlainSaid : Prop := normPlainRow.holds Try.pinned (OpenSpec.ofChange normPlainSpec)

/-- ITS FALSE NEIGHBOUR: 'it returns false'. Refute it at one input. -/
def normPlainWrong : ChangeSpec := { name := "normPlain", fn := fun _ => fun
  | [d1, d2] => { results := [.lit (.bool false)], args := [d1, d2] }
  | _ => none }
def NormPlainWrongFalsely : Prop := normPlainRow.holds Try.pinned (OpenSpec.ofChange normPlainWrong)

/-- 'raddlelaw06.NormName': WHATEVER THE INPUT: true; the input reads as it did. -/
def normNameSpec : ChangeSpec := { name := "normName", fn := fun _ => fun
  | [d] => { results := [.lit (.bool true)], args := [d] }
  | _ => none }
def normNameRow : OpenClaim := { program := "ytejdlelhlpnabaa", sum := "f25225cd84fe860748bc552a15f47361eb29943cc006d3357198e9b866c03e21", func := "raddle/raddlelaw06.NormName", spec := "normName", unfollowed := true, recurses := true, apart := false }
def NormNameSaid : Prop := normNameRow.holds Try.pinned (OpenSpec.ofChange normNameSpec)

/-- ITS FALSE NEIGHBOUR: 'it returns false'. Refute it at one input. -/
def normNameWrong : ChangeSpec := { name := "normName", fn := fun _ => fun
  | [d] => { results := [.lit (.bool false)], args := [d] }
  | _ => none }
def NormNameWrongFalsely : Prop := normNameRow.holds Try.pinned (OpenSpec.ofChange normNameWrong)

/-- 'raddlelaw06.NormLong': WHATEVER THE INPUT: true; the input reads as it did. -/
def normLongSpec : ChangeSpec := { name := "normLong", fn := fun _ => fun
  | [d1, d2] => { results := [.lit (.bool true)], args := [d1, d2] }
  | _ => none }
def normLongRow : OpenClaim := { program := "ytejdlelhlpnabaa", sum := "f25225cd84fe860748bc552a15f47361eb29943cc006d3357198e9b866c03e21", func := "raddle/raddlelaw06.NormLong", spec := "normLong", recurses := true, apart := false }
def NormLongSaid : Prop := normLongRow.holds Try.pinned (OpenSpec.ofChange normLongSpec)

/-- ITS FALSE NEIGHBOUR: 'it returns false'. Refute it at one input. -/
def normLongWrong : ChangeSpec := { name := "normLong", fn := fun _ => fun
  | [d1, d2] => { results := [.lit (.bool false)], args := [d1, d2] }
  | _ => none }
def NormLongWrongFalsely : Prop := normLongRow.holds Try.pinned (OpenSpec.ofChange normLongWrong)

/-- 'raddlelaw08.PlanMeans': WHATEVER THE INPUT: true; the input reads as it did. -/
def planMeansSpec : ChangeSpec := { name := "planMeans", fn := fun _ => fun
  | [d1, d2, d3] => { results := [.lit (.bool true)], args := [d1, d2, d3] }
  | _ => none }
def planMeansRow : OpenClaim := { program := "ytejdlelhlpnabaa", sum := "f25225cd84fe860748bc552a15f47361eb29943cc006d3357198e9b866c03e21", func := "raddle/raddlelaw08.PlanMeans", spec := "planMeans", recurses := true, apart := false }
def PlanMeansSaid : Prop := planMeansRow.holds Try.pinned (OpenSpec.ofChange planMeansSpec)

/-- ITS FALSE NEIGHBOUR: 'it returns false'. Refute it at one input. -/
def planMeansWrong : ChangeSpec := { name := "planMeans", fn := fun _ => fun
  | [d1, d2, d3] => { results := [.lit (.bool false)], args := [d1, d2, d3] }
  | _ => none }
def PlanMeansWrongFalsely : Prop := planMeansRow.holds Try.pinned (OpenSpec.ofChange planMeansWrong)

/-- 'raddlelaw08.PlanAgain': WHATEVER THE INPUT: true; the input reads as it did. -/
def planAgainSpec : ChangeSpec := { name := "planAgain", fn := fun _ => fun
  | [d1, d2] => { results := [.lit (.bool true)], args := [d1, d2] }
  | _ => none }
def planAgainRow : OpenClaim := { program := "ytejdlelhlpnabaa", sum := "f25225cd84fe860748bc552a15f47361eb29943cc006d3357198e9b866c03e21", func := "raddle/raddlelaw08.PlanAgain", spec := "planAgain", recurses := true, apart := false }
def PlanAgainSaid : Prop := planAgainRow.holds Try.pinned (OpenSpec.ofChange planAgainSpec)

/-- ITS FALSE NEIGHBOUR: 'it returns false'. Refute it at one input. -/
def planAgainWrong : ChangeSpec := { name := "planAgain", fn := fun _ => fun
  | [d1, d2] => { results := [.lit (.bool false)], args := [d1, d2] }
  | _ => none }
def PlanAgainWrongFalsely : Prop := planAgainRow.holds Try.pinned (OpenSpec.ofChange planAgainWrong)

/-- 'raddlelaw08.PlanRight': WHATEVER THE INPUT: true; the input reads as it did. -/
def planRightSpec : ChangeSpec := { name := "planRight", fn := fun _ => fun
  | [d1, d2] => { results := [.lit (.bool true)], args := [d1, d2] }
  | _ => none }
def planRightRow : OpenClaim := { program := "ytejdlelhlpnabaa", sum := "f25225cd84fe860748bc552a15f47361eb29943cc006d3357198e9b866c03e21", func := "raddle/raddlelaw08.PlanRight", spec := "planRight", recurses := true, apart := false }
def PlanRightSaid : Prop := planRightRow.holds Try.pinned (OpenSpec.ofChange planRightSpec)

/-- ITS FALSE NEIGHBOUR: 'it returns false'. Refute it at one input. -/
def planRightWrong : ChangeSpec := { name := "planRight", fn := fun _ => fun
  | [d1, d2] => { results := [.lit (.bool false)], args := [d1, d2] }
  | _ => none }
def PlanRightWrongFalsely : Prop := planRightRow.holds Try.pinned (OpenSpec.ofChange planRightWrong)

/-- 'raddlelaw08.PlanTells': WHATEVER THE INPUT: true; the input reads as it did. -/
def planTellsSpec : ChangeSpec := { name := "planTells", fn := fun _ => fun
  | [d1, d2] => { results := [.lit (.bool true)], args := [d1, d2] }
  | _ => none }
def planTellsRow : OpenClaim := { program := "ytejdlelhlpnabaa", sum := "f25225cd84fe860748bc552a15f47361eb29943cc006d3357198e9b866c03e21", func := "raddle/raddlelaw08.PlanTells", spec := "planTells", recurses := true, apart := false }
def PlanTellsSaid : Prop := planTellsRow.holds Try.pinned (OpenSpec.ofChange planTellsSpec)

/-- ITS FALSE NEIGHBOUR: 'it returns false'. Refute it at one input. -/
def planTellsWrong : ChangeSpec := { name := "planTells", fn := fun _ => fun
  | [d1, d2] => { results := [.lit (.bool false)], args := [d1, d2] }
  | _ => none }
def PlanTellsWrongFalsely : Prop := planTellsRow.holds Try.pinned (OpenSpec.ofChange planTellsWrong)

/-- 'raddlelaw08.PlanBounds': WHATEVER THE INPUT: true; the input reads as it did. -/
def planBoundsSpec : ChangeSpec := { name := "planBounds", fn := fun _ => fun
  | [d1, d2, d3] => { results := [.lit (.bool true)], args := [d1, d2, d3] }
  | _ => none }
def planBoundsRow : OpenClaim := { program := "ytejdlelhlpnabaa", sum := "f25225cd84fe860748bc552a15f47361eb29943cc006d3357198e9b866c03e21", func := "raddle/raddlelaw08.PlanBounds", spec := "planBounds", recurses := true, apart := false }
def PlanBoundsSaid : Prop := planBoundsRow.holds Try.pinned (OpenSpec.ofChange planBoundsSpec)

/-- ITS FALSE NEIGHBOUR: 'it returns false'. Refute it at one input. -/
def planBoundsWrong : ChangeSpec := { name := "planBounds", fn := fun _ => fun
  | [d1, d2, d3] => { results := [.lit (.bool false)], args := [d1, d2, d3] }
  | _ => none }
def PlanBoundsWrongFalsely : Prop := planBoundsRow.holds Try.pinned (OpenSpec.ofChange planBoundsWrong)

/-- 'raddlelaw08.PlanNone': WHATEVER THE INPUT: true; the input reads as it did. -/
def planNoneSpec : ChangeSpec := { name := "planNone", fn := fun _ => fun
  | [d1, d2] => { results := [.lit (.bool true)], args := [d1, d2] }
  | _ => none }
def planNoneRow : OpenClaim := { program := "ytejdlelhlpnabaa", sum := "f25225cd84fe860748bc552a15f47361eb29943cc006d3357198e9b866c03e21", func := "raddle/raddlelaw08.PlanNone", spec := "planNone", recurses := true, apart := false }
def PlanNoneSaid : Prop := planNoneRow.holds Try.pinned (OpenSpec.ofChange planNoneSpec)

/-- ITS FALSE NEIGHBOUR: 'it returns false'. Refute it at one input. -/
def planNoneWrong : ChangeSpec := { name := "planNone", fn := fun _ => fun
  | [d1, d2] => { results := [.lit (.bool false)], args := [d1, d2] }
  | _ => none }
def PlanNoneWrongFalsely : Prop := planNoneRow.holds Try.pinned (OpenSpec.ofChange planNoneWrong)

/-- 'raddlelaw08.PlanCopies': WHATEVER THE INPUT: true; the input reads as it did. -/
def planCopiesSpec : ChangeSpec := { name := "planCopies", fn := fun _ => fun
  | [d1, d2, d3] => { results := [.lit (.bool true)], args := [d1, d2, d3] }
  | _ => none }
def planCopiesRow : OpenClaim := { program := "ytejdlelhlpnabaa", sum := "f25225cd84fe860748bc552a15f47361eb29943cc006d3357198e9b866c03e21", func := "raddle/raddlelaw08.PlanCopies", spec := "planCopies", recurses := true, apart := false }
def PlanCopiesSaid : Prop := planCopiesRow.holds Try.pinned (OpenSpec.ofChange planCopiesSpec)

/-- ITS FALSE NEIGHBOUR: 'it returns false'. Refute it at one input. -/
def planCopiesWrong : ChangeSpec := { name := "planCopies", fn := fun _ => fun
  | [d1, d2, d3] => { results := [.lit (.bool false)], args := [d1, d2, d3] }
  | _ => none }
def PlanCopiesWrongFalsely : Prop := planCopiesRow.holds Try.pinned (OpenSpec.ofChange planCopiesWrong)

/- THE SECOND FORM. 'bulk': how many values and letters a reading holds, each counted each time it is reached (what is shared counts as often as it is met; a slice's spare places count too). A statement '..UptoSaid' is the law's where the arguments, and the package variables that the reading takes, are together of bulk at most 1048576: NARROWER than '..Said'. Prove '..Said' where nothing that the law and all that it calls make is longer than what came in: it says more and counts as full. Else prove '..UptoSaid'. A law counts once. -/
mutual
def uptoBulk {H : Type} : DataW H → Nat
  | .lit (.string bytes) => bytes.length + 1
  | .lit _ => 1
  | .nil => 1
  | .ptr d => uptoBulk d + 1
  | .slice elems spare => uptoBulkAll elems + uptoBulkAll spare + 1
  | .agg parts => uptoBulkAll parts + 1
  | .iface _ d => uptoBulk d + 1
  | .map entries => uptoBulkEntries entries + 1
  | .held _ => 1
def uptoBulkAll {H : Type} : List (DataW H) → Nat
  | [] => 0
  | d :: r => uptoBulk d + uptoBulkAll r
def uptoBulkEntries {H : Type} : List (Lit × DataW H) → Nat
  | [] => 0
  | x :: r => uptoBulkEntry x + uptoBulkEntries r
def uptoBulkEntry {H : Type} : Lit × DataW H → Nat
  | (.string bytes, d) => bytes.length + uptoBulk d + 1
  | (_, d) => uptoBulk d + 1
 end
def uptoSmall : (H : Type) → List (DataW H) → Bool := fun _ ds => decide (uptoBulkAll ds ≤ 1048576)
def OpenSpec.upto (s : _root_.Go.ChangeSpec) : _root_.Go.OpenSpec := { _root_.Go.OpenSpec.ofChange s with cond := some uptoSmall }

/-- 'raddlelaw06.NormPlain', WHERE WHAT IT READS IS OF BULK AT MOST 1048576: true; the input reads as it did. -/
def normPlainUptoRow : OpenClaim := { program := "ytejdlelhlpnabaa", sum := "f25225cd84fe860748bc552a15f47361eb29943cc006d3357198e9b866c03e21", func := "raddle/raddlelaw06.NormPlain", spec := "normPlain", recurses := true, apart := false, narrowed := true }
def NormPlainUptoSaid : Prop := normPlainUptoRow.holds Try.pinned (OpenSpec.upto normPlainSpec)

/-- 'raddlelaw06.NormName', WHERE WHAT IT READS IS OF BULK AT MOST 1048576: true; the input reads as it did. -/
def normNameUptoRow : OpenClaim := { program := "ytejdlelhlpnabaa", sum := "f25225cd84fe860748bc552a15f47361eb29943cc006d3357198e9b866c03e21", func := "raddle/raddlelaw06.NormName", spec := "normName", unfollowed := true, recurses := true, apart := false, narrowed := true }
def NormNameUptoSaid : Prop := normNameUptoRow.holds Try.pinned (OpenSpec.upto normNameSpec)

/-- 'raddlelaw06.NormLong', WHERE WHAT IT READS IS OF BULK AT MOST 1048576: true; the input reads as it did. -/
def normLongUptoRow : OpenClaim := { program := "ytejdlelhlpnabaa", sum := "f25225cd84fe860748bc552a15f47361eb29943cc006d3357198e9b866c03e21", func := "raddle/raddlelaw06.NormLong", spec := "normLong", recurses := true, apart := false, narrowed := true }
def NormLongUptoSaid : Prop := normLongUptoRow.holds Try.pinned (OpenSpec.upto normLongSpec)

/-- 'raddlelaw08.PlanMeans', WHERE WHAT IT READS IS OF BULK AT MOST 1048576: true; the input reads as it did. -/
def planMeansUptoRow : OpenClaim := { program := "ytejdlelhlpnabaa", sum := "f25225cd84fe860748bc552a15f47361eb29943cc006d3357198e9b866c03e21", func := "raddle/raddlelaw08.PlanMeans", spec := "planMeans", recurses := true, apart := false, narrowed := true }
def PlanMeansUptoSaid : Prop := planMeansUptoRow.holds Try.pinned (OpenSpec.upto planMeansSpec)

/-- 'raddlelaw08.PlanAgain', WHERE WHAT IT READS IS OF BULK AT MOST 1048576: true; the input reads as it did. -/
def planAgainUptoRow : OpenClaim := { program := "ytejdlelhlpnabaa", sum := "f25225cd84fe860748bc552a15f47361eb29943cc006d3357198e9b866c03e21", func := "raddle/raddlelaw08.PlanAgain", spec := "planAgain", recurses := true, apart := false, narrowed := true }
def PlanAgainUptoSaid : Prop := planAgainUptoRow.holds Try.pinned (OpenSpec.upto planAgainSpec)

/-- 'raddlelaw08.PlanRight', WHERE WHAT IT READS IS OF BULK AT MOST 1048576: true; the input reads as it did. -/
def planRightUptoRow : OpenClaim := { program := "ytejdlelhlpnabaa", sum := "f25225cd84fe860748bc552a15f47361eb29943cc006d3357198e9b866c03e21", func := "raddle/raddlelaw08.PlanRight", spec := "planRight", recurses := true, apart := false, narrowed := true }
def PlanRightUptoSaid : Prop := planRightUptoRow.holds Try.pinned (OpenSpec.upto planRightSpec)

/-- 'raddlelaw08.PlanTells', WHERE WHAT IT READS IS OF BULK AT MOST 1048576: true; the input reads as it did. -/
def planTellsUptoRow : OpenClaim := { program := "ytejdlelhlpnabaa", sum := "f25225cd84fe860748bc552a15f47361eb29943cc006d3357198e9b866c03e21", func := "raddle/raddlelaw08.PlanTells", spec := "planTells", recurses := true, apart := false, narrowed := true }
def PlanTellsUptoSaid : Prop := planTellsUptoRow.holds Try.pinned (OpenSpec.upto planTellsSpec)

/-- 'raddlelaw08.PlanBounds', WHERE WHAT IT READS IS OF BULK AT MOST 1048576: true; the input reads as it did. -/
def planBoundsUptoRow : OpenClaim := { program := "ytejdlelhlpnabaa", sum := "f25225cd84fe860748bc552a15f47361eb29943cc006d3357198e9b866c03e21", func := "raddle/raddlelaw08.PlanBounds", spec := "planBounds", recurses := true, apart := false, narrowed := true }
def PlanBoundsUptoSaid : Prop := planBoundsUptoRow.holds Try.pinned (OpenSpec.upto planBoundsSpec)

/-- 'raddlelaw08.PlanNone', WHERE WHAT IT READS IS OF BULK AT MOST 1048576: true; the input reads as it did. -/
def planNoneUptoRow : OpenClaim := { program := "ytejdlelhlpnabaa", sum := "f25225cd84fe860748bc552a15f47361eb29943cc006d3357198e9b866c03e21", func := "raddle/raddlelaw08.PlanNone", spec := "planNone", recurses := true, apart := false, narrowed := true }
def PlanNoneUptoSaid : Prop := planNoneUptoRow.holds Try.pinned (OpenSpec.upto planNoneSpec)

/-- 'raddlelaw08.PlanCopies', WHERE WHAT IT READS IS OF BULK AT MOST 1048576: true; the input reads as it did. -/
def planCopiesUptoRow : OpenClaim := { program := "ytejdlelhlpnabaa", sum := "f25225cd84fe860748bc552a15f47361eb29943cc006d3357198e9b866c03e21", func := "raddle/raddlelaw08.PlanCopies", spec := "planCopies", recurses := true, apart := false, narrowed := true }
def PlanCopiesUptoSaid : Prop := planCopiesUptoRow.holds Try.pinned (OpenSpec.upto planCopiesSpec)

end Rows
end Go.Proofs.Ytejdlelhlpnabaa
