/- PlanBounds holds: for any nodes, any most and any greater bounds, bounds above most that are others change nothing but these bounds. No condition. -/
import Derived.Test.YtejdlelhlpnabaaKL08e
import Derived.Test.YtejdlelhlpnabaaKL08a
set_option linter.all false
namespace Go.Rad
open Go Go.Proofs
theorem contractPlanBounds (xs : List AVal) (h : typedAll LL [22, 43, 51] xs) : ACall Try.prog 10 xs [] fun r _ => r = .bool true := by
  obtain ⟨x1, r1, rfl, h1, x2, r2, rfl, h2, x3, r3, rfl, h3, rfl⟩ := h
  obtain ⟨l1, e1, a1, b1⟩ := ty_nodes (k := 5) rfl nodeT (ty_one rfl h1)
  obtain ⟨n2, e2, f2⟩ := ty_int (i := .u16) (k := 8) rfl (ty_one rfl h2)
  obtain ⟨l3, e3, a3, f3⟩ := ty_ks (k := 7) (i := .u16) rfl rfl (ty_one rfl h3)
  simp only [List.cons.injEq, and_true] at e1 e2 e3
  subst e1 e2 e3
  exact planBounds_c l1 n2 l3 f2 a1 b1 a3 f3
end Go.Rad
namespace Go.Proofs.Ytejdlelhlpnabaa
open Go Go.Rad
set_option maxRecDepth 100000 in
theorem readsPlanBounds (os : Os) {H : Type} (enc : TypeId × Value → H) : ∃ places, DataW.whole enc Try.prog ((World.holding Try.prog os ⟨#[], #[.slice none 0 0, .int .u16 0, .slice none 0 0], []⟩).forCall (fun _ _ => 0) ⟨#[], #[.slice none 0 0, .int .u16 0, .slice none 0 0], []⟩).memory Try.f10.params.toList Rows.planBoundsSpec.vars false (#[.slice none 0 0, .int .u16 0, .slice none 0 0] : Array Value).toList 8 = some ([.nil, .lit (.int .u16 0), .nil], [], places) :=
  ⟨[], by kernel_rfl⟩
set_option maxRecDepth 100000 in
theorem liftedPlanBounds (os : Os) (started : os.Started) (H : Type) (enc : TypeId × Value → H) (F : Stop.Interp) :
    ReturnsInHanded {} Try.checked os 10 .any ((OpenSpec.ofChange Rows.planBoundsSpec).preRow enc Try.prog Try.f10 Rows.planBoundsRow.domain false Rows.planBoundsRow.laid) (((OpenSpec.ofChange Rows.planBoundsSpec).at F).post enc Try.prog Try.f10 false true false false) := by
  obtain ⟨places, hx⟩ := readsPlanBounds os enc
  refine returnsInHanded_of_row (C := Try.checked) (s := OpenSpec.ofChange Rows.planBoundsSpec) ownF started (by kernel_rfl) Try.func10
    (witness_row_at (enc := enc) (C := Try.checked) false (World.holding Try.prog os ⟨#[], #[.slice none 0 0, .int .u16 0, .slice none 0 0], []⟩) #[.slice none 0 0, .int .u16 0, .slice none 0 0] rfl (by kernel_rfl) (by kernel_rfl) (by kernel_rfl)
      (OpenSpec.preRow_of_cond 8 hx (by kernel_rfl) (fun k hk => by cases hk) (by kernel_rfl) (laidMetH_nil _ _))) ?_
  intro W base args ds gs before hval hW _ _ _ _ _ _
  exact law_contract LL_ok laidF (ts := [22, 43, 51]) (tb := 4) rfl rfl Try.underlying4 rfl (fun H ds h => by
    match ds, h with | [a, b, c], _ => rfl) (by kernel_rfl) contractPlanBounds H enc W base args ds gs before hval hW rfl (fun _ _ h => by cases h)
theorem planBounds_holds : Rows.PlanBoundsSaid :=
  OpenClaim.holds_of_cond 10 Try.f10 rfl rfl rfl rfl rfl rfl rfl ⟨rfl, rfl, rfl, rfl, rfl⟩ rfl rfl rfl rfl rfl (by kernel_rfl) Try.func10 (by kernel_rfl)
    (of_decide_eq_true (by kernel_rfl)) (by unfold Func.isWrapper; first | (rw [if_pos (by decide +kernel)]; kernel_rfl) | (rw [if_neg (by decide +kernel)]; exact ⟨rfl, rfl⟩))
    (fun os started H enc _ F => by rw [OpenClaim.pre_eq_preRow]; exact liftedPlanBounds os started H enc F)
#print axioms planBounds_holds
end Go.Proofs.Ytejdlelhlpnabaa
