/- LangJoin holds: for any two trees, any text and any cut, a text that is one of a tree, behind another one that is, is one of both in a row. No condition. -/
import Derived.Test.YtapigofiboihiaaKRSet
set_option linter.all false
namespace Go.Rad
open Go Go.Proofs
theorem contractLangJoin (xs : List AVal) (h : typedAll LL [22, 22, 9, 5] xs) : ACall Try.prog 8 xs [] fun r _ => r = .bool true := by
  obtain ⟨x1, r1, rfl, h1, x2, r2, rfl, h2, x3, r3, rfl, h3, x4, r4, rfl, h4, rfl⟩ := h
  obtain ⟨l1, e1, a1, b1⟩ := ty_nodesF (k := 5) rfl nodeT (ty_one rfl h1)
  obtain ⟨l2, e2, a2, b2⟩ := ty_nodesF (k := 5) rfl nodeT (ty_one rfl h2)
  obtain ⟨s3, e3, f3⟩ := ty_str (k := 8) rfl (ty_one rfl h3)
  obtain ⟨n4, e4, f4⟩ := ty_int (i := .u8) (k := 8) rfl (ty_one rfl h4)
  simp only [List.cons.injEq, and_true] at e1 e2 e3 e4
  subst e1 e2 e3 e4
  exact langJoin_c l1 l2 s3 n4 a1 b1 a2 b2 f3 f4
end Go.Rad
namespace Go.Proofs.Ytapigofiboihiaa
open Go Go.Rad
set_option maxRecDepth 100000 in
theorem readsLangJoin (os : Os) {H : Type} (enc : TypeId × Value → H) : ∃ places, DataW.whole enc Try.prog ((World.holding Try.prog os ⟨#[], #[.slice none 0 0, .slice none 0 0, .string ⟨#[]⟩, .int .u8 0], []⟩).forCall (fun _ _ => 0) ⟨#[], #[.slice none 0 0, .slice none 0 0, .string ⟨#[]⟩, .int .u8 0], []⟩).memory Try.f8.params.toList Rows.langJoinSpec.vars false (#[.slice none 0 0, .slice none 0 0, .string ⟨#[]⟩, .int .u8 0] : Array Value).toList 8 = some ([.nil, .nil, .lit (.string []), .lit (.int .u8 0)], [], places) :=
  ⟨[], by kernel_rfl⟩
set_option maxRecDepth 100000 in
theorem liftedLangJoin (os : Os) (started : os.Started) (H : Type) (enc : TypeId × Value → H) (F : Stop.Interp) :
    ReturnsInHanded {} Try.checked os 8 .any ((OpenSpec.ofChange Rows.langJoinSpec).preRow enc Try.prog Try.f8 Rows.langJoinRow.domain false Rows.langJoinRow.laid) (((OpenSpec.ofChange Rows.langJoinSpec).at F).post enc Try.prog Try.f8 false true false false) := by
  obtain ⟨places, hx⟩ := readsLangJoin os enc
  refine returnsInHanded_of_row (C := Try.checked) (s := OpenSpec.ofChange Rows.langJoinSpec) ownF started (by kernel_rfl) Try.func8
    (witness_row_at (enc := enc) (C := Try.checked) false (World.holding Try.prog os ⟨#[], #[.slice none 0 0, .slice none 0 0, .string ⟨#[]⟩, .int .u8 0], []⟩) #[.slice none 0 0, .slice none 0 0, .string ⟨#[]⟩, .int .u8 0] rfl (by kernel_rfl) (by kernel_rfl) (by kernel_rfl)
      (OpenSpec.preRow_of_cond 8 hx (by kernel_rfl) (fun k hk => by cases hk) (by kernel_rfl) (laidMetH_nil _ _))) ?_
  intro W base args ds gs before hval hW _ _ _ _ _ _
  exact law_contract LL_ok laidF (ts := [22, 22, 9, 5]) (tb := 4) rfl rfl Try.underlying4 rfl (fun H ds h => by
    match ds, h with | [a, b, c, d], _ => rfl) (by kernel_rfl) contractLangJoin H enc W base args ds gs before hval hW rfl (fun _ _ h => by cases h)
theorem langJoin_holds : Rows.LangJoinSaid :=
  OpenClaim.holds_of_cond 8 Try.f8 rfl rfl rfl rfl rfl rfl rfl ⟨rfl, rfl, rfl, rfl, rfl⟩ rfl rfl rfl rfl rfl (by kernel_rfl) Try.func8 (by kernel_rfl)
    (of_decide_eq_true (by kernel_rfl)) (by unfold Func.isWrapper; first | (rw [if_pos (by decide +kernel)]; kernel_rfl) | (rw [if_neg (by decide +kernel)]; exact ⟨rfl, rfl⟩))
    (fun os started H enc _ F => by rw [OpenClaim.pre_eq_preRow]; exact liftedLangJoin os started H enc F)
#print axioms langJoin_holds
end Go.Proofs.Ytapigofiboihiaa
