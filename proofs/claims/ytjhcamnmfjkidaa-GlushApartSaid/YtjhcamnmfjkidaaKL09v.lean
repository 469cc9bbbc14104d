/- GlushApart holds: for any nodes, places of plans together are those of each alone, one behind the other. No condition. -/
import Derived.Test.YtjhcamnmfjkidaaKL09d
set_option linter.all false
namespace Go.Rad
open Go Go.Proofs
theorem contractGlushApart (xs : List AVal) (h : typedAll LL [22] xs) : ACall Try.prog 3 xs [] fun r _ => r = .bool true := by
  obtain ⟨x1, r1, rfl, h1, rfl⟩ := h
  obtain ⟨l1, e1, a1, b1⟩ := ty_trees (k := 4) rfl rfl nodeT (ty_one rfl h1)
  simp only [List.cons.injEq, and_true] at e1
  subst e1
  exact glushApart_c l1 a1 b1
end Go.Rad
namespace Go.Proofs.Ytjhcamnmfjkidaa
open Go Go.Rad
set_option maxRecDepth 100000 in
theorem readsGlushApart (os : Os) {H : Type} (enc : TypeId × Value → H) : ∃ places, DataW.whole enc Try.prog ((World.holding Try.prog os ⟨#[], #[.slice none 0 0], []⟩).forCall (fun _ _ => 0) ⟨#[], #[.slice none 0 0], []⟩).memory Try.f3.params.toList Rows.glushApartSpec.vars false (#[.slice none 0 0] : Array Value).toList 8 = some ([.nil], [], places) :=
  ⟨[], by kernel_rfl⟩
set_option maxRecDepth 100000 in
theorem liftedGlushApart (os : Os) (started : os.Started) (H : Type) (enc : TypeId × Value → H) (F : Stop.Interp) :
    ReturnsInHanded {} Try.checked os 3 .any ((OpenSpec.ofChange Rows.glushApartSpec).preRow enc Try.prog Try.f3 Rows.glushApartRow.domain false Rows.glushApartRow.laid) (((OpenSpec.ofChange Rows.glushApartSpec).at F).post enc Try.prog Try.f3 false true false false) := by
  obtain ⟨places, hx⟩ := readsGlushApart os enc
  refine returnsInHanded_of_row (C := Try.checked) (s := OpenSpec.ofChange Rows.glushApartSpec) ownF started (by kernel_rfl) Try.func3
    (witness_row_at (enc := enc) (C := Try.checked) false (World.holding Try.prog os ⟨#[], #[.slice none 0 0], []⟩) #[.slice none 0 0] rfl (by kernel_rfl) (by kernel_rfl) (by kernel_rfl)
      (OpenSpec.preRow_of_cond 8 hx (by kernel_rfl) (fun k hk => by cases hk) (by kernel_rfl) (laidMetH_nil _ _))) ?_
  intro W base args ds gs before hval hW _ _ _ _ _ _
  exact law_contract LL_ok laidF (ts := [22]) (tb := 4) rfl rfl Try.underlying4 rfl (fun H ds h => by
    match ds, h with | [a], _ => rfl) (by kernel_rfl) contractGlushApart H enc W base args ds gs before hval hW rfl (fun _ _ h => by cases h)
theorem glushApart_holds : Rows.GlushApartSaid :=
  OpenClaim.holds_of_cond 3 Try.f3 rfl rfl rfl rfl rfl rfl rfl ⟨rfl, rfl, rfl, rfl, rfl⟩ rfl rfl rfl rfl rfl (by kernel_rfl) Try.func3 (by kernel_rfl)
    (of_decide_eq_true (by kernel_rfl)) (by unfold Func.isWrapper; first | (rw [if_pos (by decide +kernel)]; kernel_rfl) | (rw [if_neg (by decide +kernel)]; exact ⟨rfl, rfl⟩))
    (fun os started H enc _ F => by rw [OpenClaim.pre_eq_preRow]; exact liftedGlushApart os started H enc F)
#print axioms glushApart_holds
end Go.Proofs.Ytjhcamnmfjkidaa
