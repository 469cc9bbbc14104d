/- PlanCopies holds: for any bounds, a repetition that is written out has as many nodes as it must have. No condition. -/
import Derived.Test.YtejdlelhlpnabaaKL08a
set_option linter.all false
namespace Go.Rad
open Go Go.Proofs
theorem contractPlanCopies (xs : List AVal) (h : typedAll LL [5, 5, 4] xs) : ACall Try.prog 12 xs [] fun r _ => r = .bool true := by
  obtain ⟨x1, r1, rfl, h1, x2, r2, rfl, h2, x3, r3, rfl, h3, rfl⟩ := h
  obtain ⟨n1, e1, f1⟩ := ty_int (i := .u8) (k := 8) rfl (ty_one rfl h1)
  obtain ⟨n2, e2, f2⟩ := ty_int (i := .u8) (k := 8) rfl (ty_one rfl h2)
  obtain ⟨b3, e3⟩ := ty_bool (k := 8) rfl (ty_one rfl h3)
  simp only [List.cons.injEq, and_true] at e1 e2 e3
  subst e1 e2 e3
  exact planCopies_c n1 n2 b3 f1 f2
end Go.Rad
namespace Go.Proofs.Ytejdlelhlpnabaa
open Go Go.Rad
set_option maxRecDepth 100000 in
theorem readsPlanCopies (os : Os) {H : Type} (enc : TypeId × Value → H) : ∃ places, DataW.whole enc Try.prog ((World.holding Try.prog os ⟨#[], #[.int .u8 0, .int .u8 0, .bool false], []⟩).forCall (fun _ _ => 0) ⟨#[], #[.int .u8 0, .int .u8 0, .bool false], []⟩).memory Try.f12.params.toList Rows.planCopiesSpec.vars false (#[.int .u8 0, .int .u8 0, .bool false] : Array Value).toList 8 = some ([.lit (.int .u8 0), .lit (.int .u8 0), .lit (.bool false)], [], places) :=
  ⟨[], by kernel_rfl⟩
set_option maxRecDepth 100000 in
theorem liftedPlanCopies (os : Os) (started : os.Started) (H : Type) (enc : TypeId × Value → H) (F : Stop.Interp) :
    ReturnsInHanded {} Try.checked os 12 .any ((OpenSpec.ofChange Rows.planCopiesSpec).preRow enc Try.prog Try.f12 Rows.planCopiesRow.domain false Rows.planCopiesRow.laid) (((OpenSpec.ofChange Rows.planCopiesSpec).at F).post enc Try.prog Try.f12 false true false false) := by
  obtain ⟨places, hx⟩ := readsPlanCopies os enc
  refine returnsInHanded_of_row (C := Try.checked) (s := OpenSpec.ofChange Rows.planCopiesSpec) ownF started (by kernel_rfl) Try.func12
    (witness_row_at (enc := enc) (C := Try.checked) false (World.holding Try.prog os ⟨#[], #[.int .u8 0, .int .u8 0, .bool false], []⟩) #[.int .u8 0, .int .u8 0, .bool false] rfl (by kernel_rfl) (by kernel_rfl) (by kernel_rfl)
      (OpenSpec.preRow_of_cond 8 hx (by kernel_rfl) (fun k hk => by cases hk) (by kernel_rfl) (laidMetH_nil _ _))) ?_
  intro W base args ds gs before hval hW _ _ _ _ _ _
  exact law_contract LL_ok laidF (ts := [5, 5, 4]) (tb := 4) rfl rfl Try.underlying4 rfl (fun H ds h => by
    match ds, h with | [a, b, c], _ => rfl) (by kernel_rfl) contractPlanCopies H enc W base args ds gs before hval hW rfl (fun _ _ h => by cases h)
theorem planCopies_holds : Rows.PlanCopiesSaid :=
  OpenClaim.holds_of_cond 12 Try.f12 rfl rfl rfl rfl rfl rfl rfl ⟨rfl, rfl, rfl, rfl, rfl⟩ rfl rfl rfl rfl rfl (by kernel_rfl) Try.func12 (by kernel_rfl)
    (of_decide_eq_true (by kernel_rfl)) (by unfold Func.isWrapper; first | (rw [if_pos (by decide +kernel)]; kernel_rfl) | (rw [if_neg (by decide +kernel)]; exact ⟨rfl, rfl⟩))
    (fun os started H enc _ F => by rw [OpenClaim.pre_eq_preRow]; exact liftedPlanCopies os started H enc F)
#print axioms planCopies_holds
end Go.Proofs.Ytejdlelhlpnabaa
