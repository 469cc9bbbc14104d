/- GlushRights holds: for any places, whether places may be so is the document's. No condition. -/
import Derived.Test.YtjhcamnmfjkidaaKP09i
set_option linter.all false
namespace Go.Rad
open Go Go.Proofs
theorem contractGlushRights (xs : List AVal) (h : typedAll LL [28] xs) : ACall Try.prog 7 xs [] fun r _ => r = .bool true := by
  obtain ⟨x1, r1, rfl, h1, rfl⟩ := h
  obtain ⟨z1, rfl, g1⟩ := (show ∃ ys, x1 = .agg ys ∧ typed LL 9 28 ys from h1)
  obtain ⟨fi1, ps1, rfl, a1, b1, c1⟩ := ty_glush (k := 4) (L := LL) ⟨_, _, _, _, rfl, rfl, rfl, rfl, ⟨_, _, _, _, _, rfl, rfl, rfl, rfl, rfl, rfl⟩⟩ g1
  exact glushRights_c fi1 ps1 a1 b1 c1
end Go.Rad
namespace Go.Proofs.Ytjhcamnmfjkidaa
open Go Go.Rad
set_option maxRecDepth 100000 in
theorem readsGlushRights (os : Os) {H : Type} (enc : TypeId × Value → H) : ∃ places, DataW.whole enc Try.prog ((World.holding Try.prog os ⟨#[], #[.agg #[.slice none 0 0, .slice none 0 0]], []⟩).forCall (fun _ _ => 0) ⟨#[], #[.agg #[.slice none 0 0, .slice none 0 0]], []⟩).memory Try.f7.params.toList Rows.glushRightsSpec.vars false (#[.agg #[.slice none 0 0, .slice none 0 0]] : Array Value).toList 8 = some ([.agg [.nil, .nil]], [], places) :=
  ⟨[], by kernel_rfl⟩
set_option maxRecDepth 100000 in
theorem liftedGlushRights (os : Os) (started : os.Started) (H : Type) (enc : TypeId × Value → H) (F : Stop.Interp) :
    ReturnsInHanded {} Try.checked os 7 .any ((OpenSpec.ofChange Rows.glushRightsSpec).preRow enc Try.prog Try.f7 Rows.glushRightsRow.domain false Rows.glushRightsRow.laid) (((OpenSpec.ofChange Rows.glushRightsSpec).at F).post enc Try.prog Try.f7 false true false false) := by
  obtain ⟨places, hx⟩ := readsGlushRights os enc
  refine returnsInHanded_of_row (C := Try.checked) (s := OpenSpec.ofChange Rows.glushRightsSpec) ownF started (by kernel_rfl) Try.func7
    (witness_row_at (enc := enc) (C := Try.checked) false (World.holding Try.prog os ⟨#[], #[.agg #[.slice none 0 0, .slice none 0 0]], []⟩) #[.agg #[.slice none 0 0, .slice none 0 0]] rfl (by kernel_rfl) (by kernel_rfl) (by kernel_rfl)
      (OpenSpec.preRow_of_cond 8 hx (by kernel_rfl) (fun k hk => by cases hk) (by kernel_rfl) (laidMetH_nil _ _))) ?_
  intro W base args ds gs before hval hW _ _ _ _ _ _
  exact law_contract LL_ok laidF (ts := [28]) (tb := 4) rfl rfl Try.underlying4 rfl (fun H ds h => by
    match ds, h with | [a], _ => rfl) (by kernel_rfl) contractGlushRights H enc W base args ds gs before hval hW rfl (fun _ _ h => by cases h)
theorem glushRights_holds : Rows.GlushRightsSaid :=
  OpenClaim.holds_of_cond 7 Try.f7 rfl rfl rfl rfl rfl rfl rfl ⟨rfl, rfl, rfl, rfl, rfl⟩ rfl rfl rfl rfl rfl (by kernel_rfl) Try.func7 (by kernel_rfl)
    (of_decide_eq_true (by kernel_rfl)) (by unfold Func.isWrapper; first | (rw [if_pos (by decide +kernel)]; kernel_rfl) | (rw [if_neg (by decide +kernel)]; exact ⟨rfl, rfl⟩))
    (fun os started H enc _ F => by rw [OpenClaim.pre_eq_preRow]; exact liftedGlushRights os started H enc F)
#print axioms glushRights_holds
end Go.Proofs.Ytjhcamnmfjkidaa
