/- NormFold holds: for any tree, folding twice is folding once, and changes nothing but sets, and not whether the tree may be nothing. The one package variable that its road reads is tied to the program's text by its card. -/
import Derived.Test.YtejdlelhlpnabaaDoorKL06u
import Derived.Test.YtejdlelhlpnabaaDoorKL06w
set_option linter.all false
namespace Go.Rad
open Go Go.Proofs
theorem contractFold (xs : List AVal) (h : typedAll LL [22] xs) : ACall Tryd.prog 6 xs [] fun r _ => r = .bool true := by
  obtain ⟨l, rfl, h1, h2⟩ := args6one h
  exact normFold_c shown6uc l h1 h2
end Go.Rad
namespace Go.Proofs.YtejdlelhlpnabaaDoor
open Go Go.Rad
set_option maxRecDepth 100000 in
theorem readsFold (os : Os) {H : Type} (enc : TypeId × Value → H) : ∃ places, DataW.whole enc Tryd.prog ((World.doorLaid Tryd.prog 14 os).forCall (fun _ _ => 0) ⟨#[], #[.slice none 0 0], []⟩).memory Tryd.f6.params.toList Rows.normFoldSpec.vars false (#[.slice none 0 0] : Array Value).toList 8 = some ([.nil], [], places) :=
  ⟨[], by kernel_rfl⟩
set_option maxRecDepth 100000 in
theorem liftedFold (os : Os) (started : os.Started) (H : Type) (enc : TypeId × Value → H) (F : Stop.Interp) :
    ReturnsInHanded {} Tryd.checked os 6 .any ((OpenSpec.ofChange Rows.normFoldSpec).preRow enc Tryd.prog Tryd.f6 Rows.normFoldRow.domain false Rows.normFoldRow.laid) (((OpenSpec.ofChange Rows.normFoldSpec).at F).post enc Tryd.prog Tryd.f6 false true false false) := by
  obtain ⟨places, hx⟩ := readsFold os enc
  refine returnsInHanded_of_row (C := Tryd.checked) (s := OpenSpec.ofChange Rows.normFoldSpec) own6 started (by kernel_rfl) Tryd.func6
    (witness_row_at (enc := enc) (C := Tryd.checked) false (World.doorLaid Tryd.prog 14 os) #[.slice none 0 0] rfl (by kernel_rfl) (by kernel_rfl) (by kernel_rfl)
      (OpenSpec.preRow_of_cond 8 hx (by kernel_rfl) (fun k hk => by cases hk) (by kernel_rfl) (door_met os _))) ?_
  intro W base args ds gs before hval hW _ _ _ hL _ _
  exact law_contract LL_ok laidOut6 (ts := [22]) (tb := 4) rfl rfl Tryd.underlying4 rfl (fun H ds h => by
    match ds, h with | [a], _ => rfl) (by kernel_rfl) contractFold H enc W base args ds gs before hval hW rfl (globIn6 hL)
theorem normFold_row : Rows.NormFoldSaid :=
  OpenClaim.holds_of_cond 6 Tryd.f6 rfl rfl rfl rfl rfl rfl rfl ⟨rfl, rfl, rfl, rfl, rfl⟩ rfl rfl rfl rfl rfl (by kernel_rfl) Tryd.func6 (by kernel_rfl)
    (of_decide_eq_true (by kernel_rfl)) (by unfold Func.isWrapper; first | (rw [if_pos (by decide +kernel)]; kernel_rfl) | (rw [if_neg (by decide +kernel)]; exact ⟨rfl, rfl⟩))
    (fun os started H enc _ F => by rw [OpenClaim.pre_eq_preRow]; exact liftedFold os started H enc F)
theorem normFold_holds : Rows.NormFoldCardSaid :=
  Claim7.holds_tied_plain_at .later [] [.data] true (true, "920e4dba6ff1cece3e1da5a9ef535b38d91df77b4dd67c1dac4c824e56301445") false
    normFold_row (fun _ h => by cases h) (by kernel_rfl) (fun _ h => by cases h) normFold_row_tie rfl ⟨rfl, rfl⟩ (by kernel_rfl) rfl
    (fun f fn hf hfn => by
      obtain rfl : f = 6 := Option.some.inj ((show Tryd.prog.funcNamed "raddle/raddlelaw06.NormFold" = some 6 by kernel_rfl).symm.trans hf) |>.symm
      obtain rfl : fn = Tryd.f6 := (Option.some.inj (Tryd.func6.symm.trans hfn)).symm
      exact ⟨by kernel_rfl, fun j t ht => by
        rw [Tryd.params6] at ht
        have hm : t ∈ [22] := by simpa using Array.mem_of_getElem? ht
        have hall : ([22].all fun u => !Tryd.prog.wantsStandIn u) = true := by kernel_rfl
        exact (show Tryd.prog.wantsStandIn t = false by simpa using List.all_eq_true.1 hall t hm)⟩)
    (by kernel_rfl)
#print axioms normFold_holds
end Go.Proofs.YtejdlelhlpnabaaDoor
