/- GlushStar holds: for any plan, a star over it has its places, the same first and last ones, and these follow each other there, besides what followed. No condition. -/
import Derived.Test.YtjhcamnmfjkidaaKL09g
set_option linter.all false
namespace Go.Rad
open Go Go.Proofs
theorem contractGlushStar (xs : List AVal) (h : typedAll LL [32] xs) : ACall Try.prog 4 xs [] fun r _ => r = .bool true := by
  obtain ⟨x1, r1, rfl, h1, rfl⟩ := h
  obtain ⟨l1, e1, a1, b1⟩ := ty_nodes (k := 5) rfl nodeT (ty_one rfl h1)
  simp only [List.cons.injEq, and_true] at e1
  subst e1
  exact glushStar_c l1 a1 b1
end Go.Rad
namespace Go.Proofs.Ytjhcamnmfjkidaa
open Go Go.Rad
set_option maxRecDepth 100000 in
theorem readsGlushStar (os : Os) {H : Type} (enc : TypeId × Value → H) : ∃ places, DataW.whole enc Try.prog ((World.holding Try.prog os ⟨#[], #[.slice none 0 0], []⟩).forCall (fun _ _ => 0) ⟨#[], #[.slice none 0 0], []⟩).memory Try.f4.params.toList Rows.glushStarSpec.vars false (#[.slice none 0 0] : Array Value).toList 8 = some ([.nil], [], places) :=
  ⟨[], by kernel_rfl⟩
set_option maxRecDepth 100000 in
theorem liftedGlushStar (os : Os) (started : os.Started) (H : Type) (enc : TypeId × Value → H) (F : Stop.Interp) :
    ReturnsInHanded {} Try.checked os 4 .any ((OpenSpec.ofChange Rows.glushStarSpec).preRow enc Try.prog Try.f4 Rows.glushStarRow.domain false Rows.glushStarRow.laid) (((OpenSpec.ofChange Rows.glushStarSpec).at F).post enc Try.prog Try.f4 false true false false) := by
  obtain ⟨places, hx⟩ := readsGlushStar os enc
  refine returnsInHanded_of_row (C := Try.checked) (s := OpenSpec.ofChange Rows.glushStarSpec) ownF started (by kernel_rfl) Try.func4
    (witness_row_at (enc := enc) (C := Try.checked) false (World.holding Try.prog os ⟨#[], #[.slice none 0 0], []⟩) #[.slice none 0 0] rfl (by kernel_rfl) (by kernel_rfl) (by kernel_rfl)
      (OpenSpec.preRow_of_cond 8 hx (by kernel_rfl) (fun k hk => by cases hk) (by kernel_rfl) (laidMetH_nil _ _))) ?_
  intro W base args ds gs before hval hW _ _ _ _ _ _
  exact law_contract LL_ok laidF (ts := [32]) (tb := 4) rfl rfl Try.underlying4 rfl (fun H ds h => by
    match ds, h with | [a], _ => rfl) (by kernel_rfl) contractGlushStar H enc W base args ds gs before hval hW rfl (fun _ _ h => by cases h)
theorem glushStar_holds : Rows.GlushStarSaid :=
  OpenClaim.holds_of_cond 4 Try.f4 rfl rfl rfl rfl rfl rfl rfl ⟨rfl, rfl, rfl, rfl, rfl⟩ rfl rfl rfl rfl rfl (by kernel_rfl) Try.func4 (by kernel_rfl)
    (of_decide_eq_true (by kernel_rfl)) (by unfold Func.isWrapper; first | (rw [if_pos (by decide +kernel)]; kernel_rfl) | (rw [if_neg (by decide +kernel)]; exact ⟨rfl, rfl⟩))
    (fun os started H enc _ F => by rw [OpenClaim.pre_eq_preRow]; exact liftedGlushStar os started H enc F)
#print axioms glushStar_holds
end Go.Proofs.Ytjhcamnmfjkidaa
