/- LangRows holds: for any two trees, any text and any place, two in a row end where the second may from where the first may, and an alternative ends where either may. No condition. -/
import Derived.Test.YtapigofiboihiaaKL07b
set_option linter.all false
namespace Go.Rad
open Go Go.Proofs
theorem contractLangRows (xs : List AVal) (h : typedAll LL [22, 22, 9, 5] xs) : ACall Try.prog 3 xs [] fun r _ => r = .bool true := by
  obtain ⟨x1, r1, rfl, h1, x2, r2, rfl, h2, x3, r3, rfl, h3, x4, r4, rfl, h4, rfl⟩ := h
  obtain ⟨l1, e1, a1, b1⟩ := ty_nodesF (k := 5) rfl nodeT (ty_one rfl h1)
  obtain ⟨l2, e2, a2, b2⟩ := ty_nodesF (k := 5) rfl nodeT (ty_one rfl h2)
  obtain ⟨s3, e3, f3⟩ := ty_str (k := 8) rfl (ty_one rfl h3)
  obtain ⟨n4, e4, f4⟩ := ty_int (i := .u8) (k := 8) rfl (ty_one rfl h4)
  simp only [List.cons.injEq, and_true] at e1 e2 e3 e4
  subst e1 e2 e3 e4
  exact langRows_c l1 l2 s3 n4 a1 b1 a2 b2 f3 f4
end Go.Rad
namespace Go.Proofs.Ytapigofiboihiaa
open Go Go.Rad
set_option maxRecDepth 100000 in
theorem readsLangRows (os : Os) {H : Type} (enc : TypeId × Value → H) : ∃ places, DataW.whole enc Try.prog ((World.holding Try.prog os ⟨#[], #[.slice none 0 0, .slice none 0 0, .string ⟨#[]⟩, .int .u8 0], []⟩).forCall (fun _ _ => 0) ⟨#[], #[.slice none 0 0, .slice none 0 0, .string ⟨#[]⟩, .int .u8 0], []⟩).memory Try.f3.params.toList Rows.langRowsSpec.vars false (#[.slice none 0 0, .slice none 0 0, .string ⟨#[]⟩, .int .u8 0] : Array Value).toList 8 = some ([.nil, .nil, .lit (.string []), .lit (.int .u8 0)], [], places) :=
  ⟨[], by kernel_rfl⟩
set_option maxRecDepth 100000 in
theorem liftedLangRows (os : Os) (started : os.Started) (H : Type) (enc : TypeId × Value → H) (F : Stop.Interp) :
    ReturnsInHanded {} Try.checked os 3 .any ((OpenSpec.ofChange Rows.langRowsSpec).preRow enc Try.prog Try.f3 Rows.langRowsRow.domain false Rows.langRowsRow.laid) (((OpenSpec.ofChange Rows.langRowsSpec).at F).post enc Try.prog Try.f3 false true false false) := by
  obtain ⟨places, hx⟩ := readsLangRows os enc
  refine returnsInHanded_of_row (C := Try.checked) (s := OpenSpec.ofChange Rows.langRowsSpec) ownF started (by kernel_rfl) Try.func3
    (witness_row_at (enc := enc) (C := Try.checked) false (World.holding Try.prog os ⟨#[], #[.slice none 0 0, .slice none 0 0, .string ⟨#[]⟩, .int .u8 0], []⟩) #[.slice none 0 0, .slice none 0 0, .string ⟨#[]⟩, .int .u8 0] rfl (by kernel_rfl) (by kernel_rfl) (by kernel_rfl)
      (OpenSpec.preRow_of_cond 8 hx (by kernel_rfl) (fun k hk => by cases hk) (by kernel_rfl) (laidMetH_nil _ _))) ?_
  intro W base args ds gs before hval hW _ _ _ _ _ _
  exact law_contract LL_ok laidF (ts := [22, 22, 9, 5]) (tb := 4) rfl rfl Try.underlying4 rfl (fun H ds h => by
    match ds, h with | [a, b, c, d], _ => rfl) (by kernel_rfl) contractLangRows H enc W base args ds gs before hval hW rfl (fun _ _ h => by cases h)
theorem langRows_holds : Rows.LangRowsSaid :=
  OpenClaim.holds_of_cond 3 Try.f3 rfl rfl rfl rfl rfl rfl rfl ⟨rfl, rfl, rfl, rfl, rfl⟩ rfl rfl rfl rfl rfl (by kernel_rfl) Try.func3 (by kernel_rfl)
    (of_decide_eq_true (by kernel_rfl)) (by unfold Func.isWrapper; first | (rw [if_pos (by decide +kernel)]; kernel_rfl) | (rw [if_neg (by decide +kernel)]; exact ⟨rfl, rfl⟩))
    (fun os started H enc _ F => by rw [OpenClaim.pre_eq_preRow]; exact liftedLangRows os started H enc F)
#print axioms langRows_holds
end Go.Proofs.Ytapigofiboihiaa
