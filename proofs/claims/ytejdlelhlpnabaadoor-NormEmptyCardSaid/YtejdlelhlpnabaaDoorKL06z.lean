/- NormEmpty holds: for any two trees, what may be nothing of repetitions, alternatives and rows is as it must be. The one package variable that its road reads is tied to the program's text by its card. -/
import Derived.Test.YtejdlelhlpnabaaDoorKL06e
import Derived.Test.YtejdlelhlpnabaaDoorKRRunC
set_option linter.all false
namespace Go.Rad
open Go Go.Proofs
theorem contractEmpty (xs : List AVal) (h : typedAll LL [22, 22] xs) : ACall Tryd.prog 5 xs [] fun r _ => r = .bool true := by
  obtain ⟨l, m, rfl, h1, h2, h3, h4⟩ := args6two h
  exact normEmpty_c shown6uc l m h1 h2 h3 h4
end Go.Rad
namespace Go.Proofs.YtejdlelhlpnabaaDoor
open Go Go.Rad
set_option maxRecDepth 100000 in
theorem readsEmpty (os : Os) {H : Type} (enc : TypeId × Value → H) : ∃ places, DataW.whole enc Tryd.prog ((World.doorLaid Tryd.prog 14 os).forCall (fun _ _ => 0) ⟨#[], #[.slice none 0 0, .slice none 0 0], []⟩).memory Tryd.f5.params.toList Rows.normEmptySpec.vars false (#[.slice none 0 0, .slice none 0 0] : Array Value).toList 8 = some ([.nil, .nil], [], places) :=
  ⟨[], by kernel_rfl⟩
set_option maxRecDepth 100000 in
theorem liftedEmpty (os : Os) (started : os.Started) (H : Type) (enc : TypeId × Value → H) (F : Stop.Interp) :
    ReturnsInHanded {} Tryd.checked os 5 .any ((OpenSpec.ofChange Rows.normEmptySpec).preRow enc Tryd.prog Tryd.f5 Rows.normEmptyRow.domain false Rows.normEmptyRow.laid) (((OpenSpec.ofChange Rows.normEmptySpec).at F).post enc Tryd.prog Tryd.f5 false true false false) := by
  obtain ⟨places, hx⟩ := readsEmpty os enc
  refine returnsInHanded_of_row (C := Tryd.checked) (s := OpenSpec.ofChange Rows.normEmptySpec) own6 started (by kernel_rfl) Tryd.func5
    (witness_row_at (enc := enc) (C := Tryd.checked) false (World.doorLaid Tryd.prog 14 os) #[.slice none 0 0, .slice none 0 0] rfl (by kernel_rfl) (by kernel_rfl) (by kernel_rfl)
      (OpenSpec.preRow_of_cond 8 hx (by kernel_rfl) (fun k hk => by cases hk) (by kernel_rfl) (door_met os _))) ?_
  intro W base args ds gs before hval hW _ _ _ hL _ _
  exact law_contract LL_ok laidOut6 (ts := [22, 22]) (tb := 4) rfl rfl Tryd.underlying4 rfl (fun H ds h => by
    match ds, h with | [a, b], _ => rfl) (by kernel_rfl) contractEmpty H enc W base args ds gs before hval hW rfl (globIn6 hL)
theorem normEmpty_row : Rows.NormEmptySaid :=
  OpenClaim.holds_of_cond 5 Tryd.f5 rfl rfl rfl rfl rfl rfl rfl ⟨rfl, rfl, rfl, rfl, rfl⟩ rfl rfl rfl rfl rfl (by kernel_rfl) Tryd.func5 (by kernel_rfl)
    (of_decide_eq_true (by kernel_rfl)) (by unfold Func.isWrapper; first | (rw [if_pos (by decide +kernel)]; kernel_rfl) | (rw [if_neg (by decide +kernel)]; exact ⟨rfl, rfl⟩))
    (fun os started H enc _ F => by rw [OpenClaim.pre_eq_preRow]; exact liftedEmpty os started H enc F)
theorem normEmpty_holds : Rows.NormEmptyCardSaid :=
  Claim7.holds_tied_plain_at .later [] [.data] true (true, "920e4dba6ff1cece3e1da5a9ef535b38d91df77b4dd67c1dac4c824e56301445") false
    normEmpty_row (fun _ h => by cases h) (by kernel_rfl) (fun _ h => by cases h) normEmpty_row_tie rfl ⟨rfl, rfl⟩ (by kernel_rfl) rfl
    (fun f fn hf hfn => by
      obtain rfl : f = 5 := Option.some.inj ((show Tryd.prog.funcNamed "raddle/raddlelaw06.NormEmpty" = some 5 by kernel_rfl).symm.trans hf) |>.symm
      obtain rfl : fn = Tryd.f5 := (Option.some.inj (Tryd.func5.symm.trans hfn)).symm
      exact ⟨by kernel_rfl, fun j t ht => by
        rw [Tryd.params5] at ht
        have hm : t ∈ [22, 22] := by simpa using Array.mem_of_getElem? ht
        have hall : ([22, 22].all fun u => !Tryd.prog.wantsStandIn u) = true := by kernel_rfl
        exact (show Tryd.prog.wantsStandIn t = false by simpa using List.all_eq_true.1 hall t hm)⟩)
    (by kernel_rfl)
#print axioms normEmpty_holds
end Go.Proofs.YtejdlelhlpnabaaDoor
