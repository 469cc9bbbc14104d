/- PlanRight holds: for any nodes and any most, a plan is one, its counted bounds are above most, and a tree without repetitions stays. No condition. -/
import Derived.Test.YtejdlelhlpnabaaKL08a
set_option linter.all false
namespace Go.Rad
open Go Go.Proofs
theorem contractPlanRight (xs : List AVal) (h : typedAll LL [22, 43] xs) : ACall Try.prog 8 xs [] fun r _ => r = .bool true := by
  obtain ⟨x1, r1, rfl, h1, x2, r2, rfl, h2, rfl⟩ := h
  obtain ⟨l1, e1, a1, b1⟩ := ty_nodes (k := 5) rfl nodeT (ty_one rfl h1)
  obtain ⟨n2, e2, f2⟩ := ty_int (i := .u16) (k := 8) rfl (ty_one rfl h2)
  simp only [List.cons.injEq, and_true] at e1 e2
  subst e1 e2
  exact planRight_c l1 n2 f2 a1 b1
end Go.Rad
namespace Go.Proofs.Ytejdlelhlpnabaa
open Go Go.Rad
set_option maxRecDepth 100000 in
theorem readsPlanRight (os : Os) {H : Type} (enc : TypeId × Value → H) : ∃ places, DataW.whole enc Try.prog ((World.holding Try.prog os ⟨#[], #[.slice none 0 0, .int .u16 0], []⟩).forCall (fun _ _ => 0) ⟨#[], #[.slice none 0 0, .int .u16 0], []⟩).memory Try.f8.params.toList Rows.planRightSpec.vars false (#[.slice none 0 0, .int .u16 0] : Array Value).toList 8 = some ([.nil, .lit (.int .u16 0)], [], places) :=
  ⟨[], by kernel_rfl⟩
set_option maxRecDepth 100000 in
theorem liftedPlanRight (os : Os) (started : os.Started) (H : Type) (enc : TypeId × Value → H) (F : Stop.Interp) :
    ReturnsInHanded {} Try.checked os 8 .any ((OpenSpec.ofChange Rows.planRightSpec).preRow enc Try.prog Try.f8 Rows.planRightRow.domain false Rows.planRightRow.laid) (((OpenSpec.ofChange Rows.planRightSpec).at F).post enc Try.prog Try.f8 false true false false) := by
  obtain ⟨places, hx⟩ := readsPlanRight os enc
  refine returnsInHanded_of_row (C := Try.checked) (s := OpenSpec.ofChange Rows.planRightSpec) ownF started (by kernel_rfl) Try.func8
    (witness_row_at (enc := enc) (C := Try.checked) false (World.holding Try.prog os ⟨#[], #[.slice none 0 0, .int .u16 0], []⟩) #[.slice none 0 0, .int .u16 0] rfl (by kernel_rfl) (by kernel_rfl) (by kernel_rfl)
      (OpenSpec.preRow_of_cond 8 hx (by kernel_rfl) (fun k hk => by cases hk) (by kernel_rfl) (laidMetH_nil _ _))) ?_
  intro W base args ds gs before hval hW _ _ _ _ _ _
  exact law_contract LL_ok laidF (ts := [22, 43]) (tb := 4) rfl rfl Try.underlying4 rfl (fun H ds h => by
    match ds, h with | [a, b], _ => rfl) (by kernel_rfl) contractPlanRight H enc W base args ds gs before hval hW rfl (fun _ _ h => by cases h)
theorem planRight_holds : Rows.PlanRightSaid :=
  OpenClaim.holds_of_cond 8 Try.f8 rfl rfl rfl rfl rfl rfl rfl ⟨rfl, rfl, rfl, rfl, rfl⟩ rfl rfl rfl rfl rfl (by kernel_rfl) Try.func8 (by kernel_rfl)
    (of_decide_eq_true (by kernel_rfl)) (by unfold Func.isWrapper; first | (rw [if_pos (by decide +kernel)]; kernel_rfl) | (rw [if_neg (by decide +kernel)]; exact ⟨rfl, rfl⟩))
    (fun os started H enc _ F => by rw [OpenClaim.pre_eq_preRow]; exact liftedPlanRight os started H enc F)
#print axioms planRight_holds
end Go.Proofs.Ytejdlelhlpnabaa
