/- PlanNone holds: for any bounds, with most as great as may be nothing is counted, and with most 1 all repetitions of a byte from 2 times on that have an end are. No condition. -/
import Derived.Test.YtejdlelhlpnabaaKL08a
set_option linter.all false
namespace Go.Rad
open Go Go.Proofs
theorem contractPlanNone (xs : List AVal) (h : typedAll LL [5, 5] xs) : ACall Try.prog 11 xs [] fun r _ => r = .bool true := by
  obtain ⟨x1, r1, rfl, h1, x2, r2, rfl, h2, rfl⟩ := h
  obtain ⟨n1, e1, f1⟩ := ty_int (i := .u8) (k := 8) rfl (ty_one rfl h1)
  obtain ⟨n2, e2, f2⟩ := ty_int (i := .u8) (k := 8) rfl (ty_one rfl h2)
  simp only [List.cons.injEq, and_true] at e1 e2
  subst e1 e2
  exact planNone_c n1 n2 f1 f2
end Go.Rad
namespace Go.Proofs.Ytejdlelhlpnabaa
open Go Go.Rad
set_option maxRecDepth 100000 in
theorem readsPlanNone (os : Os) {H : Type} (enc : TypeId × Value → H) : ∃ places, DataW.whole enc Try.prog ((World.holding Try.prog os ⟨#[], #[.int .u8 0, .int .u8 0], []⟩).forCall (fun _ _ => 0) ⟨#[], #[.int .u8 0, .int .u8 0], []⟩).memory Try.f11.params.toList Rows.planNoneSpec.vars false (#[.int .u8 0, .int .u8 0] : Array Value).toList 8 = some ([.lit (.int .u8 0), .lit (.int .u8 0)], [], places) :=
  ⟨[], by kernel_rfl⟩
set_option maxRecDepth 100000 in
theorem liftedPlanNone (os : Os) (started : os.Started) (H : Type) (enc : TypeId × Value → H) (F : Stop.Interp) :
    ReturnsInHanded {} Try.checked os 11 .any ((OpenSpec.ofChange Rows.planNoneSpec).preRow enc Try.prog Try.f11 Rows.planNoneRow.domain false Rows.planNoneRow.laid) (((OpenSpec.ofChange Rows.planNoneSpec).at F).post enc Try.prog Try.f11 false true false false) := by
  obtain ⟨places, hx⟩ := readsPlanNone os enc
  refine returnsInHanded_of_row (C := Try.checked) (s := OpenSpec.ofChange Rows.planNoneSpec) ownF started (by kernel_rfl) Try.func11
    (witness_row_at (enc := enc) (C := Try.checked) false (World.holding Try.prog os ⟨#[], #[.int .u8 0, .int .u8 0], []⟩) #[.int .u8 0, .int .u8 0] rfl (by kernel_rfl) (by kernel_rfl) (by kernel_rfl)
      (OpenSpec.preRow_of_cond 8 hx (by kernel_rfl) (fun k hk => by cases hk) (by kernel_rfl) (laidMetH_nil _ _))) ?_
  intro W base args ds gs before hval hW _ _ _ _ _ _
  exact law_contract LL_ok laidF (ts := [5, 5]) (tb := 4) rfl rfl Try.underlying4 rfl (fun H ds h => by
    match ds, h with | [a, b], _ => rfl) (by kernel_rfl) contractPlanNone H enc W base args ds gs before hval hW rfl (fun _ _ h => by cases h)
theorem planNone_holds : Rows.PlanNoneSaid :=
  OpenClaim.holds_of_cond 11 Try.f11 rfl rfl rfl rfl rfl rfl rfl ⟨rfl, rfl, rfl, rfl, rfl⟩ rfl rfl rfl rfl rfl (by kernel_rfl) Try.func11 (by kernel_rfl)
    (of_decide_eq_true (by kernel_rfl)) (by unfold Func.isWrapper; first | (rw [if_pos (by decide +kernel)]; kernel_rfl) | (rw [if_neg (by decide +kernel)]; exact ⟨rfl, rfl⟩))
    (fun os started H enc _ F => by rw [OpenClaim.pre_eq_preRow]; exact liftedPlanNone os started H enc F)
#print axioms planNone_holds
end Go.Proofs.Ytejdlelhlpnabaa
