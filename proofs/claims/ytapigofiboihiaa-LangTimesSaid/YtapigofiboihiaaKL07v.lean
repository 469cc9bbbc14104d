/- LangTimes holds: for any tree, any text, any place and any bounds, a repetition by one more at most is it, and one time more behind it. No condition. -/
import Derived.Test.YtapigofiboihiaaKRSet
set_option linter.all false
namespace Go.Rad
open Go Go.Proofs
theorem contractLangTimes (xs : List AVal) (h : typedAll LL [22, 9, 5, 5, 5] xs) : ACall Try.prog 4 xs [] fun r _ => r = .bool true := by
  obtain ⟨x1, r1, rfl, h1, x2, r2, rfl, h2, x3, r3, rfl, h3, x4, r4, rfl, h4, x5, r5, rfl, h5, rfl⟩ := h
  obtain ⟨l1, e1, a1, b1⟩ := ty_nodesF (k := 5) rfl nodeT (ty_one rfl h1)
  obtain ⟨s2, e2, f2⟩ := ty_str (k := 8) rfl (ty_one rfl h2)
  obtain ⟨n3, e3, f3⟩ := ty_int (i := .u8) (k := 8) rfl (ty_one rfl h3)
  obtain ⟨n4, e4, f4⟩ := ty_int (i := .u8) (k := 8) rfl (ty_one rfl h4)
  obtain ⟨n5, e5, f5⟩ := ty_int (i := .u8) (k := 8) rfl (ty_one rfl h5)
  simp only [List.cons.injEq, and_true] at e1 e2 e3 e4 e5
  subst e1 e2 e3 e4 e5
  exact langTimes_c l1 s2 n3 n4 n5 a1 b1 f2 f3 f4 f5
end Go.Rad
namespace Go.Proofs.Ytapigofiboihiaa
open Go Go.Rad
set_option maxRecDepth 100000 in
theorem readsLangTimes (os : Os) {H : Type} (enc : TypeId × Value → H) : ∃ places, DataW.whole enc Try.prog ((World.holding Try.prog os ⟨#[], #[.slice none 0 0, .string ⟨#[]⟩, .int .u8 0, .int .u8 0, .int .u8 0], []⟩).forCall (fun _ _ => 0) ⟨#[], #[.slice none 0 0, .string ⟨#[]⟩, .int .u8 0, .int .u8 0, .int .u8 0], []⟩).memory Try.f4.params.toList Rows.langTimesSpec.vars false (#[.slice none 0 0, .string ⟨#[]⟩, .int .u8 0, .int .u8 0, .int .u8 0] : Array Value).toList 8 = some ([.nil, .lit (.string []), .lit (.int .u8 0), .lit (.int .u8 0), .lit (.int .u8 0)], [], places) :=
  ⟨[], by kernel_rfl⟩
set_option maxRecDepth 100000 in
theorem liftedLangTimes (os : Os) (started : os.Started) (H : Type) (enc : TypeId × Value → H) (F : Stop.Interp) :
    ReturnsInHanded {} Try.checked os 4 .any ((OpenSpec.ofChange Rows.langTimesSpec).preRow enc Try.prog Try.f4 Rows.langTimesRow.domain false Rows.langTimesRow.laid) (((OpenSpec.ofChange Rows.langTimesSpec).at F).post enc Try.prog Try.f4 false true false false) := by
  obtain ⟨places, hx⟩ := readsLangTimes os enc
  refine returnsInHanded_of_row (C := Try.checked) (s := OpenSpec.ofChange Rows.langTimesSpec) ownF started (by kernel_rfl) Try.func4
    (witness_row_at (enc := enc) (C := Try.checked) false (World.holding Try.prog os ⟨#[], #[.slice none 0 0, .string ⟨#[]⟩, .int .u8 0, .int .u8 0, .int .u8 0], []⟩) #[.slice none 0 0, .string ⟨#[]⟩, .int .u8 0, .int .u8 0, .int .u8 0] rfl (by kernel_rfl) (by kernel_rfl) (by kernel_rfl)
      (OpenSpec.preRow_of_cond 8 hx (by kernel_rfl) (fun k hk => by cases hk) (by kernel_rfl) (laidMetH_nil _ _))) ?_
  intro W base args ds gs before hval hW _ _ _ _ _ _
  exact law_contract LL_ok laidF (ts := [22, 9, 5, 5, 5]) (tb := 4) rfl rfl Try.underlying4 rfl (fun H ds h => by
    match ds, h with | [a, b, c, d, e], _ => rfl) (by kernel_rfl) contractLangTimes H enc W base args ds gs before hval hW rfl (fun _ _ h => by cases h)
theorem langTimes_holds : Rows.LangTimesSaid :=
  OpenClaim.holds_of_cond 4 Try.f4 rfl rfl rfl rfl rfl rfl rfl ⟨rfl, rfl, rfl, rfl, rfl⟩ rfl rfl rfl rfl rfl (by kernel_rfl) Try.func4 (by kernel_rfl)
    (of_decide_eq_true (by kernel_rfl)) (by unfold Func.isWrapper; first | (rw [if_pos (by decide +kernel)]; kernel_rfl) | (rw [if_neg (by decide +kernel)]; exact ⟨rfl, rfl⟩))
    (fun os started H enc _ F => by rw [OpenClaim.pre_eq_preRow]; exact liftedLangTimes os started H enc F)
#print axioms langTimes_holds
end Go.Proofs.Ytapigofiboihiaa
