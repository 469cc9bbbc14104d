/- NormLong holds: for any two numbers, a tree that would have more than MaxNodes nodes is refused, and one that has not is not. No condition. -/
import Derived.Test.YtejdlelhlpnabaaKL06l
import Derived.Test.YtejdlelhlpnabaaKL06p
set_option linter.all false
namespace Go.Rad
open Go Go.Proofs
theorem argsLong {xs : List AVal} (h : typedAll LL [43, 43] xs) : ∃ a b : Nat, xs = [.int .u16 a, .int .u16 b] ∧ a ≤ 65535 ∧ b ≤ 65535 := by
  obtain ⟨x, r, rfl, h1, y, r2, rfl, h2, rfl⟩ := h
  obtain ⟨a, ha, a1, a2⟩ := ty_int (i := .u16) (k := 8) rfl (ty_one rfl h1)
  obtain ⟨b, hb, b1, b2⟩ := ty_int (i := .u16) (k := 8) rfl (ty_one rfl h2)
  simp only [List.cons.injEq, and_true] at ha hb
  subst ha hb
  have m1 : IntKind.u16.min = 0 := by kernel_rfl
  have m2 : IntKind.u16.max = 65535 := by kernel_rfl
  rw [m1] at a1 b1
  rw [m2] at a2 b2
  refine ⟨a.toNat, b.toNat, ?_, by omega, by omega⟩
  rw [Int.toNat_of_nonneg a1, Int.toNat_of_nonneg b1]
theorem contractLong (xs : List AVal) (h : typedAll LL [43, 43] xs) : ACall Try.prog 5 xs [] fun r _ => r = .bool true := by
  obtain ⟨a, b, rfl, h1, h2⟩ := argsLong h
  exact normLong_c a b h1 h2
end Go.Rad
namespace Go.Proofs.Ytejdlelhlpnabaa
open Go Go.Rad
set_option maxRecDepth 100000 in
theorem readsLong (os : Os) {H : Type} (enc : TypeId × Value → H) : ∃ places, DataW.whole enc Try.prog ((World.holding Try.prog os ⟨#[], #[.int .u16 0, .int .u16 0], []⟩).forCall (fun _ _ => 0) ⟨#[], #[.int .u16 0, .int .u16 0], []⟩).memory Try.f5.params.toList Rows.normLongSpec.vars false #[Value.int .u16 0, .int .u16 0].toList 8 = some ([.lit (.int .u16 0), .lit (.int .u16 0)], [], places) :=
  ⟨[], by kernel_rfl⟩
set_option maxRecDepth 100000 in
theorem liftedLong (os : Os) (started : os.Started) (H : Type) (enc : TypeId × Value → H) (F : Stop.Interp) :
    ReturnsInHanded {} Try.checked os 5 .any ((OpenSpec.ofChange Rows.normLongSpec).preRow enc Try.prog Try.f5 Rows.normLongRow.domain false Rows.normLongRow.laid) (((OpenSpec.ofChange Rows.normLongSpec).at F).post enc Try.prog Try.f5 false true false false) := by
  obtain ⟨places, hx⟩ := readsLong os enc
  refine returnsInHanded_of_row (C := Try.checked) (s := OpenSpec.ofChange Rows.normLongSpec) own6 started (by kernel_rfl) Try.func5
    (witness_row_at (enc := enc) (C := Try.checked) false (World.holding Try.prog os ⟨#[], #[.int .u16 0, .int .u16 0], []⟩) #[.int .u16 0, .int .u16 0] rfl (by kernel_rfl) (by kernel_rfl) (by kernel_rfl)
      (OpenSpec.preRow_of_cond 8 hx (by kernel_rfl) (fun k hk => by cases hk) (by kernel_rfl) (laidMetH_nil _ _))) ?_
  intro W base args ds gs before hval hW _ _ _ _ _ _
  exact law_contract LL_ok laidOut6 (ts := [43, 43]) (tb := 4) rfl rfl Try.underlying4 rfl (fun H ds h => by
    match ds, h with | [a, b], _ => rfl) (by kernel_rfl) contractLong H enc W base args ds gs before hval hW rfl

theorem normLong_holds : Rows.NormLongSaid :=
  OpenClaim.holds_of_cond 5 Try.f5 rfl rfl rfl rfl rfl rfl rfl ⟨rfl, rfl, rfl, rfl, rfl⟩ rfl rfl rfl rfl rfl (by kernel_rfl) Try.func5 (by kernel_rfl)
    (of_decide_eq_true (by kernel_rfl)) (by unfold Func.isWrapper; first | (rw [if_pos (by decide +kernel)]; kernel_rfl) | (rw [if_neg (by decide +kernel)]; exact ⟨rfl, rfl⟩))
    (fun os started H enc _ F => by rw [OpenClaim.pre_eq_preRow]; exact liftedLong os started H enc F)
end Go.Proofs.Ytejdlelhlpnabaa
