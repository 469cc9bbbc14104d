/- NormPlain holds: for any nodes and any names that stand for trees, what Expand tells is a tree without names, and it stays. No condition. -/
import Derived.Test.YtejdlelhlpnabaaKL06s
import Derived.Test.YtejdlelhlpnabaaRows
import Derived.Test.YtejdlelhlpnabaaKRText
set_option linter.all false
namespace Go.Rad
open Go Go.Proofs
theorem node38 : NodeTy LL 38 := ⟨5, 35, 36, 3, 9, 33, rfl, rfl, rfl, rfl, rfl, rfl, rfl⟩
theorem def41 : DefTy LL 41 := ⟨9, 22, 38, rfl, rfl, rfl, node38⟩
theorem args6 {xs : List AVal} (h : typedAll LL [22, 23] xs) : ∃ l ds, xs = [.sl true false (nodes l), .sl true false (defs ds)] ∧ nodesOk l ∧ dfsOk ds := by
  obtain ⟨x, r, rfl, h1, y, r2, rfl, h2, rfl⟩ := h
  obtain ⟨l, hl, a, b⟩ := ty_nodes (k := 5) rfl node38 (ty_one rfl h1)
  obtain ⟨ds, hd, c, d⟩ := ty_defs (k := 3) rfl def41 (ty_one rfl h2)
  simp only [List.cons.injEq, and_true] at hl hd
  subst hl hd
  exact ⟨l, ds, rfl, ⟨a, b⟩, c, fun x hx => ⟨(d x hx).1, (d x hx).2⟩⟩
theorem own6 : ownKnob Try.prog.godebug = none := by kernel_rfl
theorem laidOut6 : laidOutB Try.prog = true := by kernel_rfl
theorem contractPlain (xs : List AVal) (h : typedAll LL [22, 23] xs) : ACall Try.prog 3 xs [] fun r _ => r = .bool true := by
  obtain ⟨l, ds, rfl, h1, h2⟩ := args6 h
  exact normPlain_c shown6uc l ds h1 h2
end Go.Rad
namespace Go.Proofs.Ytejdlelhlpnabaa
open Go Go.Rad
set_option maxRecDepth 100000 in
theorem readsPlain (os : Os) {H : Type} (enc : TypeId × Value → H) : ∃ places, DataW.whole enc Try.prog ((World.holding Try.prog os ⟨#[], #[.slice none 0 0, .slice none 0 0], []⟩).forCall (fun _ _ => 0) ⟨#[], #[.slice none 0 0, .slice none 0 0], []⟩).memory Try.f3.params.toList Rows.normPlainSpec.vars false #[Value.slice none 0 0, .slice none 0 0].toList 8 = some ([.nil, .nil], [], places) :=
  ⟨[], by kernel_rfl⟩
set_option maxRecDepth 100000 in
theorem liftedPlain (os : Os) (started : os.Started) (H : Type) (enc : TypeId × Value → H) (F : Stop.Interp) :
    ReturnsInHanded {} Try.checked os 3 .any ((OpenSpec.ofChange Rows.normPlainSpec).preRow enc Try.prog Try.f3 Rows.normPlainRow.domain false Rows.normPlainRow.laid) (((OpenSpec.ofChange Rows.normPlainSpec).at F).post enc Try.prog Try.f3 false true false false) := by
  obtain ⟨places, hx⟩ := readsPlain os enc
  refine returnsInHanded_of_row (C := Try.checked) (s := OpenSpec.ofChange Rows.normPlainSpec) own6 started (by kernel_rfl) Try.func3
    (witness_row_at (enc := enc) (C := Try.checked) false (World.holding Try.prog os ⟨#[], #[.slice none 0 0, .slice none 0 0], []⟩) #[.slice none 0 0, .slice none 0 0] rfl (by kernel_rfl) (by kernel_rfl) (by kernel_rfl)
      (OpenSpec.preRow_of_cond 8 hx (by kernel_rfl) (fun k hk => by cases hk) (by kernel_rfl) (laidMetH_nil _ _))) ?_
  intro W base args ds gs before hval hW _ _ _ _ _ _
  exact law_contract LL_ok laidOut6 (ts := [22, 23]) (tb := 4) rfl rfl Try.underlying4 rfl (fun H ds h => by
    match ds, h with | [a, b], _ => rfl) (by kernel_rfl) contractPlain H enc W base args ds gs before hval hW rfl

theorem normPlain_holds : Rows.NormPlainSaid :=
  OpenClaim.holds_of_cond 3 Try.f3 rfl rfl rfl rfl rfl rfl rfl ⟨rfl, rfl, rfl, rfl, rfl⟩ rfl rfl rfl rfl rfl (by kernel_rfl) Try.func3 (by kernel_rfl)
    (of_decide_eq_true (by kernel_rfl)) (by unfold Func.isWrapper; first | (rw [if_pos (by decide +kernel)]; kernel_rfl) | (rw [if_neg (by decide +kernel)]; exact ⟨rfl, rfl⟩))
    (fun os started H enc _ F => by rw [OpenClaim.pre_eq_preRow]; exact liftedPlain os started H enc F)
end Go.Proofs.Ytejdlelhlpnabaa
