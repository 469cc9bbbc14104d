/- GlushTells holds: for any nodes, the places of plans, and what may follow what, are the document's. No condition. -/
import Derived.Test.YtjhcamnmfjkidaaGreatKL09e
set_option linter.all false
namespace Go.Rad
open Go Go.Proofs
theorem contractGlushTells (xs : List AVal) (h : typedAll LL [22] xs) : ACall Tryz.prog 3 xs [] fun r _ => r = .bool true := by
  obtain ⟨x1, r1, rfl, h1, rfl⟩ := h
  obtain ⟨l1, e1, a1, b1⟩ := ty_trees (k := 4) rfl rfl nodeT (ty_one rfl h1)
  simp only [List.cons.injEq, and_true] at e1
  subst e1
  exact glushTells_c l1 a1 b1
end Go.Rad
namespace Go.Proofs.YtjhcamnmfjkidaaGreat
open Go Go.Rad
set_option maxRecDepth 100000 in
theorem readsGlushTells (os : Os) {H : Type} (enc : TypeId × Value → H) : ∃ places, DataW.whole enc Tryz.prog ((World.holding Tryz.prog os ⟨#[], #[.slice none 0 0], []⟩).forCall (fun _ _ => 0) ⟨#[], #[.slice none 0 0], []⟩).memory Tryz.f3.params.toList Rows.glushTellsSpec.vars false (#[.slice none 0 0] : Array Value).toList 8 = some ([.nil], [], places) :=
  ⟨[], by kernel_rfl⟩
set_option maxRecDepth 100000 in
theorem liftedGlushTells (os : Os) (started : os.Started) (H : Type) (enc : TypeId × Value → H) (F : Stop.Interp) :
    ReturnsInHanded {} Tryz.checked os 3 .any ((OpenSpec.ofChange Rows.glushTellsSpec).preRow enc Tryz.prog Tryz.f3 Rows.glushTellsRow.domain false Rows.glushTellsRow.laid) (((OpenSpec.ofChange Rows.glushTellsSpec).at F).post enc Tryz.prog Tryz.f3 false true false false) := by
  obtain ⟨places, hx⟩ := readsGlushTells os enc
  refine returnsInHanded_of_row (C := Tryz.checked) (s := OpenSpec.ofChange Rows.glushTellsSpec) ownF started (by kernel_rfl) Tryz.func3
    (witness_row_at (enc := enc) (C := Tryz.checked) false (World.holding Tryz.prog os ⟨#[], #[.slice none 0 0], []⟩) #[.slice none 0 0] rfl (by kernel_rfl) (by kernel_rfl) (by kernel_rfl)
      (OpenSpec.preRow_of_cond 8 hx (by kernel_rfl) (fun k hk => by cases hk) (by kernel_rfl) (laidMetH_nil _ _))) ?_
  intro W base args ds gs before hval hW _ _ _ _ _ _
  exact law_contract LL_ok laidF (ts := [22]) (tb := 4) rfl rfl Tryz.underlying4 rfl (fun H ds h => by
    match ds, h with | [a], _ => rfl) (by kernel_rfl) contractGlushTells H enc W base args ds gs before hval hW rfl (fun _ _ h => by cases h)
theorem glushTells_holds : Rows.GlushTellsSaid :=
  OpenClaim.holds_of_cond 3 Tryz.f3 rfl rfl rfl rfl rfl rfl rfl ⟨rfl, rfl, rfl, rfl, rfl⟩ rfl rfl rfl rfl rfl (by kernel_rfl) Tryz.func3 (by kernel_rfl)
    (of_decide_eq_true (by kernel_rfl)) (by unfold Func.isWrapper; first | (rw [if_pos (by decide +kernel)]; kernel_rfl) | (rw [if_neg (by decide +kernel)]; exact ⟨rfl, rfl⟩))
    (fun os started H enc _ F => by rw [OpenClaim.pre_eq_preRow]; exact liftedGlushTells os started H enc F)
#print axioms glushTells_holds
end Go.Proofs.YtjhcamnmfjkidaaGreat
