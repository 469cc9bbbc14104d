/- NormName holds: for any nodes, a name alone stands for its tree, and a name that nothing has, or that stands for itself, is told so. No condition. -/
import Derived.Test.YtejdlelhlpnabaaKL06n
import Derived.Test.YtejdlelhlpnabaaKL06p
set_option linter.all false
namespace Go.Rad
open Go Go.Proofs
theorem argsName {xs : List AVal} (h : typedAll LL [22] xs) : ∃ l, xs = [.sl true false (nodes l)] ∧ nodesOk l := by
  obtain ⟨x, r, rfl, h1, rfl⟩ := h
  obtain ⟨l, hl, a, b⟩ := ty_nodes (k := 5) rfl node38 (ty_one rfl h1)
  simp only [List.cons.injEq, and_true] at hl
  subst hl
  exact ⟨l, rfl, a, b⟩
theorem contractName (xs : List AVal) (h : typedAll LL [22] xs) : ACall Try.prog 4 xs [] fun r _ => r = .bool true := by
  obtain ⟨l, rfl, h1⟩ := argsName h
  exact normName_c l h1
end Go.Rad
namespace Go.Proofs.Ytejdlelhlpnabaa
open Go Go.Rad
set_option maxRecDepth 100000 in
theorem readsName (os : Os) {H : Type} (enc : TypeId × Value → H) : ∃ places, DataW.whole enc Try.prog ((World.holding Try.prog os ⟨#[], #[.slice none 0 0], []⟩).forCall (fun _ _ => 0) ⟨#[], #[.slice none 0 0], []⟩).memory Try.f4.params.toList Rows.normNameSpec.vars false #[Value.slice none 0 0].toList 8 = some ([.nil], [], places) :=
  ⟨[], by kernel_rfl⟩
set_option maxRecDepth 100000 in
theorem liftedName (os : Os) (started : os.Started) (H : Type) (enc : TypeId × Value → H) (F : Stop.Interp) :
    ReturnsInHanded {} Try.checked os 4 .any ((OpenSpec.ofChange Rows.normNameSpec).preRow enc Try.prog Try.f4 Rows.normNameRow.domain false Rows.normNameRow.laid) (((OpenSpec.ofChange Rows.normNameSpec).at F).post enc Try.prog Try.f4 false true false false) := by
  obtain ⟨places, hx⟩ := readsName os enc
  refine returnsInHanded_of_row (C := Try.checked) (s := OpenSpec.ofChange Rows.normNameSpec) own6 started (by kernel_rfl) Try.func4
    (witness_row_at (enc := enc) (C := Try.checked) false (World.holding Try.prog os ⟨#[], #[.slice none 0 0], []⟩) #[.slice none 0 0] rfl (by kernel_rfl) (by kernel_rfl) (by kernel_rfl)
      (OpenSpec.preRow_of_cond 8 hx (by kernel_rfl) (fun k hk => by cases hk) (by kernel_rfl) (laidMetH_nil _ _))) ?_
  intro W base args ds gs before hval hW _ _ _ _ _ _
  exact law_contract LL_ok laidOut6 (ts := [22]) (tb := 4) rfl rfl Try.underlying4 rfl (fun H ds h => by
    match ds, h with | [a], _ => rfl) (by kernel_rfl) contractName H enc W base args ds gs before hval hW rfl

theorem normName_holds : Rows.NormNameSaid :=
  OpenClaim.holds_of_cond 4 Try.f4 rfl rfl rfl rfl rfl rfl rfl ⟨rfl, rfl, rfl, rfl, rfl⟩ rfl rfl rfl rfl rfl (by kernel_rfl) Try.func4 (by kernel_rfl)
    (of_decide_eq_true (by kernel_rfl)) (by unfold Func.isWrapper; first | (rw [if_pos (by decide +kernel)]; kernel_rfl) | (rw [if_neg (by decide +kernel)]; exact ⟨rfl, rfl⟩))
    (fun os started H enc _ F => by rw [OpenClaim.pre_eq_preRow]; exact liftedName os started H enc F)
end Go.Proofs.Ytejdlelhlpnabaa
