/- GlushCounts holds: for any bounds and any set, a counted repetition of one set is one place with these bounds. No condition. -/
import Derived.Test.YtjhcamnmfjkidaaKL09a
set_option linter.all false
namespace Go.Rad
open Go Go.Proofs
theorem contractGlushCounts (xs : List AVal) (h : typedAll LL [47, 47, 35] xs) : ACall Try.prog 6 xs [] fun r _ => r = .bool true := by
  obtain ⟨x1, r1, rfl, h1, x2, r2, rfl, h2, x3, r3, rfl, h3, rfl⟩ := h
  obtain ⟨n1, e1, f1⟩ := ty_int (i := .u16) (k := 8) rfl (ty_one rfl h1)
  obtain ⟨n2, e2, f2⟩ := ty_int (i := .u16) (k := 8) rfl (ty_one rfl h2)
  obtain ⟨z3, rfl, g3⟩ := (show ∃ ys, x3 = .agg ys ∧ typed LL 9 35 ys from h3)
  obtain ⟨s3, rfl, f3⟩ := ty_setF (k := 7) rfl rfl g3
  simp only [List.cons.injEq, and_true] at e1 e2
  subst e1 e2
  exact glushCounts_c n1 n2 s3 f1 f2
end Go.Rad
namespace Go.Proofs.Ytjhcamnmfjkidaa
open Go Go.Rad
set_option maxRecDepth 100000 in
theorem readsGlushCounts (os : Os) {H : Type} (enc : TypeId × Value → H) : ∃ places, DataW.whole enc Try.prog ((World.holding Try.prog os ⟨#[], #[.int .u16 0, .int .u16 0, .agg #[.int .u64 0, .int .u64 0, .int .u64 0, .int .u64 0]], []⟩).forCall (fun _ _ => 0) ⟨#[], #[.int .u16 0, .int .u16 0, .agg #[.int .u64 0, .int .u64 0, .int .u64 0, .int .u64 0]], []⟩).memory Try.f6.params.toList Rows.glushCountsSpec.vars false (#[.int .u16 0, .int .u16 0, .agg #[.int .u64 0, .int .u64 0, .int .u64 0, .int .u64 0]] : Array Value).toList 8 = some ([.lit (.int .u16 0), .lit (.int .u16 0), .agg [.lit (.int .u64 0), .lit (.int .u64 0), .lit (.int .u64 0), .lit (.int .u64 0)]], [], places) :=
  ⟨[], by kernel_rfl⟩
set_option maxRecDepth 100000 in
theorem liftedGlushCounts (os : Os) (started : os.Started) (H : Type) (enc : TypeId × Value → H) (F : Stop.Interp) :
    ReturnsInHanded {} Try.checked os 6 .any ((OpenSpec.ofChange Rows.glushCountsSpec).preRow enc Try.prog Try.f6 Rows.glushCountsRow.domain false Rows.glushCountsRow.laid) (((OpenSpec.ofChange Rows.glushCountsSpec).at F).post enc Try.prog Try.f6 false true false false) := by
  obtain ⟨places, hx⟩ := readsGlushCounts os enc
  refine returnsInHanded_of_row (C := Try.checked) (s := OpenSpec.ofChange Rows.glushCountsSpec) ownF started (by kernel_rfl) Try.func6
    (witness_row_at (enc := enc) (C := Try.checked) false (World.holding Try.prog os ⟨#[], #[.int .u16 0, .int .u16 0, .agg #[.int .u64 0, .int .u64 0, .int .u64 0, .int .u64 0]], []⟩) #[.int .u16 0, .int .u16 0, .agg #[.int .u64 0, .int .u64 0, .int .u64 0, .int .u64 0]] rfl (by kernel_rfl) (by kernel_rfl) (by kernel_rfl)
      (OpenSpec.preRow_of_cond 8 hx (by kernel_rfl) (fun k hk => by cases hk) (by kernel_rfl) (laidMetH_nil _ _))) ?_
  intro W base args ds gs before hval hW _ _ _ _ _ _
  exact law_contract LL_ok laidF (ts := [47, 47, 35]) (tb := 4) rfl rfl Try.underlying4 rfl (fun H ds h => by
    match ds, h with | [a, b, c], _ => rfl) (by kernel_rfl) contractGlushCounts H enc W base args ds gs before hval hW rfl (fun _ _ h => by cases h)
theorem glushCounts_holds : Rows.GlushCountsSaid :=
  OpenClaim.holds_of_cond 6 Try.f6 rfl rfl rfl rfl rfl rfl rfl ⟨rfl, rfl, rfl, rfl, rfl⟩ rfl rfl rfl rfl rfl (by kernel_rfl) Try.func6 (by kernel_rfl)
    (of_decide_eq_true (by kernel_rfl)) (by unfold Func.isWrapper; first | (rw [if_pos (by decide +kernel)]; kernel_rfl) | (rw [if_neg (by decide +kernel)]; exact ⟨rfl, rfl⟩))
    (fun os started H enc _ F => by rw [OpenClaim.pre_eq_preRow]; exact liftedGlushCounts os started H enc F)
#print axioms glushCounts_holds
end Go.Proofs.Ytjhcamnmfjkidaa
