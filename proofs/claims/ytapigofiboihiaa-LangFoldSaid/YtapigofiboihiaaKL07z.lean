/- LangFold holds: for any tree, any text and any cases of its letters, a folded tree takes a text just if it takes it with other cases of its letters. No condition. -/
import Derived.Test.YtapigofiboihiaaKL07g
set_option linter.all false
namespace Go.Rad
open Go Go.Proofs
theorem contractLangFold (xs : List AVal) (h : typedAll LL [22, 9, 48] xs) : ACall Try.prog 9 xs [] fun r _ => r = .bool true := by
  obtain ⟨x1, r1, rfl, h1, x2, r2, rfl, h2, x3, r3, rfl, h3, rfl⟩ := h
  obtain ⟨l1, e1, a1, b1⟩ := ty_nodesF (k := 5) rfl nodeT (ty_one rfl h1)
  obtain ⟨s2, e2, f2⟩ := ty_str (k := 8) rfl (ty_one rfl h2)
  obtain ⟨n3, e3, f3⟩ := ty_int (i := .u32) (k := 8) rfl (ty_one rfl h3)
  simp only [List.cons.injEq, and_true] at e1 e2 e3
  subst e1 e2 e3
  exact langFold_c l1 s2 n3 a1 b1 f2 f3
end Go.Rad
namespace Go.Proofs.Ytapigofiboihiaa
open Go Go.Rad
set_option maxRecDepth 100000 in
theorem readsLangFold (os : Os) {H : Type} (enc : TypeId × Value → H) : ∃ places, DataW.whole enc Try.prog ((World.holding Try.prog os ⟨#[], #[.slice none 0 0, .string ⟨#[]⟩, .int .u32 0], []⟩).forCall (fun _ _ => 0) ⟨#[], #[.slice none 0 0, .string ⟨#[]⟩, .int .u32 0], []⟩).memory Try.f9.params.toList Rows.langFoldSpec.vars false (#[.slice none 0 0, .string ⟨#[]⟩, .int .u32 0] : Array Value).toList 8 = some ([.nil, .lit (.string []), .lit (.int .u32 0)], [], places) :=
  ⟨[], by kernel_rfl⟩
set_option maxRecDepth 100000 in
theorem liftedLangFold (os : Os) (started : os.Started) (H : Type) (enc : TypeId × Value → H) (F : Stop.Interp) :
    ReturnsInHanded {} Try.checked os 9 .any ((OpenSpec.ofChange Rows.langFoldSpec).preRow enc Try.prog Try.f9 Rows.langFoldRow.domain false Rows.langFoldRow.laid) (((OpenSpec.ofChange Rows.langFoldSpec).at F).post enc Try.prog Try.f9 false true false false) := by
  obtain ⟨places, hx⟩ := readsLangFold os enc
  refine returnsInHanded_of_row (C := Try.checked) (s := OpenSpec.ofChange Rows.langFoldSpec) ownF started (by kernel_rfl) Try.func9
    (witness_row_at (enc := enc) (C := Try.checked) false (World.holding Try.prog os ⟨#[], #[.slice none 0 0, .string ⟨#[]⟩, .int .u32 0], []⟩) #[.slice none 0 0, .string ⟨#[]⟩, .int .u32 0] rfl (by kernel_rfl) (by kernel_rfl) (by kernel_rfl)
      (OpenSpec.preRow_of_cond 8 hx (by kernel_rfl) (fun k hk => by cases hk) (by kernel_rfl) (laidMetH_nil _ _))) ?_
  intro W base args ds gs before hval hW _ _ _ _ _ _
  exact law_contract LL_ok laidF (ts := [22, 9, 48]) (tb := 4) rfl rfl Try.underlying4 rfl (fun H ds h => by
    match ds, h with | [a, b, c], _ => rfl) (by kernel_rfl) contractLangFold H enc W base args ds gs before hval hW rfl (fun _ _ h => by cases h)
theorem langFold_holds : Rows.LangFoldSaid :=
  OpenClaim.holds_of_cond 9 Try.f9 rfl rfl rfl rfl rfl rfl rfl ⟨rfl, rfl, rfl, rfl, rfl⟩ rfl rfl rfl rfl rfl (by kernel_rfl) Try.func9 (by kernel_rfl)
    (of_decide_eq_true (by kernel_rfl)) (by unfold Func.isWrapper; first | (rw [if_pos (by decide +kernel)]; kernel_rfl) | (rw [if_neg (by decide +kernel)]; exact ⟨rfl, rfl⟩))
    (fun os started H enc _ F => by rw [OpenClaim.pre_eq_preRow]; exact liftedLangFold os started H enc F)
#print axioms langFold_holds
end Go.Proofs.Ytapigofiboihiaa
