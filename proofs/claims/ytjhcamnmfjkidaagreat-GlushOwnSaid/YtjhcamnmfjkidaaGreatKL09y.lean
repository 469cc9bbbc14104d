/- GlushOwn holds: for any nodes, places are Right, one follows only one of the same Rule, and there are as many as bytes that are not counted, and counted repetitions. No condition. -/
import Derived.Test.YtjhcamnmfjkidaaGreatKRGlushA
import Derived.Test.YtjhcamnmfjkidaaGreatKRSet
set_option linter.all false
namespace Go.Rad
open Go Go.Proofs
theorem contractGlushOwn (xs : List AVal) (h : typedAll LL [22] xs) : ACall Tryz.prog 4 xs [] fun r _ => r = .bool true := by
  obtain ⟨x1, r1, rfl, h1, rfl⟩ := h
  obtain ⟨l1, e1, a1, b1⟩ := ty_trees (k := 4) rfl rfl nodeT (ty_one rfl h1)
  simp only [List.cons.injEq, and_true] at e1
  subst e1
  exact glushOwn_c l1 a1 b1
end Go.Rad
namespace Go.Proofs.YtjhcamnmfjkidaaGreat
open Go Go.Rad
set_option maxRecDepth 100000 in
theorem readsGlushOwn (os : Os) {H : Type} (enc : TypeId × Value → H) : ∃ places, DataW.whole enc Tryz.prog ((World.holding Tryz.prog os ⟨#[], #[.slice none 0 0], []⟩).forCall (fun _ _ => 0) ⟨#[], #[.slice none 0 0], []⟩).memory Tryz.f4.params.toList Rows.glushOwnSpec.vars false (#[.slice none 0 0] : Array Value).toList 8 = some ([.nil], [], places) :=
  ⟨[], by kernel_rfl⟩
set_option maxRecDepth 100000 in
theorem liftedGlushOwn (os : Os) (started : os.Started) (H : Type) (enc : TypeId × Value → H) (F : Stop.Interp) :
    ReturnsInHanded {} Tryz.checked os 4 .any ((OpenSpec.ofChange Rows.glushOwnSpec).preRow enc Tryz.prog Tryz.f4 Rows.glushOwnRow.domain false Rows.glushOwnRow.laid) (((OpenSpec.ofChange Rows.glushOwnSpec).at F).post enc Tryz.prog Tryz.f4 false true false false) := by
  obtain ⟨places, hx⟩ := readsGlushOwn os enc
  refine returnsInHanded_of_row (C := Tryz.checked) (s := OpenSpec.ofChange Rows.glushOwnSpec) ownF started (by kernel_rfl) Tryz.func4
    (witness_row_at (enc := enc) (C := Tryz.checked) false (World.holding Tryz.prog os ⟨#[], #[.slice none 0 0], []⟩) #[.slice none 0 0] rfl (by kernel_rfl) (by kernel_rfl) (by kernel_rfl)
      (OpenSpec.preRow_of_cond 8 hx (by kernel_rfl) (fun k hk => by cases hk) (by kernel_rfl) (laidMetH_nil _ _))) ?_
  intro W base args ds gs before hval hW _ _ _ _ _ _
  exact law_contract LL_ok laidF (ts := [22]) (tb := 4) rfl rfl Tryz.underlying4 rfl (fun H ds h => by
    match ds, h with | [a], _ => rfl) (by kernel_rfl) contractGlushOwn H enc W base args ds gs before hval hW rfl (fun _ _ h => by cases h)
theorem glushOwn_holds : Rows.GlushOwnSaid :=
  OpenClaim.holds_of_cond 4 Tryz.f4 rfl rfl rfl rfl rfl rfl rfl ⟨rfl, rfl, rfl, rfl, rfl⟩ rfl rfl rfl rfl rfl (by kernel_rfl) Tryz.func4 (by kernel_rfl)
    (of_decide_eq_true (by kernel_rfl)) (by unfold Func.isWrapper; first | (rw [if_pos (by decide +kernel)]; kernel_rfl) | (rw [if_neg (by decide +kernel)]; exact ⟨rfl, rfl⟩))
    (fun os started H enc _ F => by rw [OpenClaim.pre_eq_preRow]; exact liftedGlushOwn os started H enc F)
#print axioms glushOwn_holds
end Go.Proofs.YtjhcamnmfjkidaaGreat
