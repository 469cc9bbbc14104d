/- TokOrder holds: for any file and text, tokens stand in their order, apart, and each is of a rule whose pattern means it, or of none. No condition. The one package variable that its road reads is tied to the program's text by its card. -/
import Derived.Test.YtmbhpolhiblhoaaGreatDoorKRRunC
set_option linter.all false
namespace Go.Rad
open Go Go.Proofs
theorem kT (xs : List aa) (h : kJ LL [26, 9] xs) : ah Tryz.prog 3 xs [] fun r _ => r = .bool true := by
 obtain ⟨x1, r1, rfl, h1, x2, r2, rfl, h2, rfl⟩ := h
 obtain ⟨z1, rfl, g1⟩ := (show ∃ ys, x1 = .agg ys ∧ typed LL 9 26 ys from h1)
 obtain ⟨F1, rfl, f1⟩ := DQ (k := 2) flT g1
 obtain ⟨s2, e2, f2⟩ := oJ (k := 8) rfl (JN rfl h2)
 simp only [List.cons.injEq, and_true] at e2
 subst e2
 exact va F1 s2 f1 f2
end Go.Rad
namespace Go.Proofs.YtmbhpolhiblhoaaGreatDoor
open Go Go.Rad
set_option maxRecDepth 100000 in
theorem pc (os : Os) {H : Type} (enc : TypeId × Value → H) : ∃ places, DataW.whole enc Tryz.prog ((World.doorLaid Tryz.prog 14 os).forCall (fun _ _ => 0) ⟨#[], #[.agg #[.slice none 0 0, .slice none 0 0, .slice none 0 0], .string ⟨#[]⟩], []⟩).memory Tryz.f3.params.toList Rows.tokOrderSpec.vars false (#[.agg #[.slice none 0 0, .slice none 0 0, .slice none 0 0], .string ⟨#[]⟩] : Array Value).toList 8 = some ([.agg [.nil, .nil, .nil], .lit (.string [])], [], places) :=
 ⟨[], by kernel_rfl⟩
set_option maxRecDepth 100000 in
theorem nQ (os : Os) (started : os.Started) (H : Type) (enc : TypeId × Value → H) (F : Stop.Interp) :
  ReturnsInHanded {} Tryz.checked os 3 .any ((OpenSpec.ofChange Rows.tokOrderSpec).preRow enc Tryz.prog Tryz.f3 Rows.tokOrderRow.domain false Rows.tokOrderRow.laid) (((OpenSpec.ofChange Rows.tokOrderSpec).at F).post enc Tryz.prog Tryz.f3 false true false false) := by
 obtain ⟨places, hx⟩ := pc os enc
 refine returnsInHanded_of_row (C := Tryz.checked) (s := OpenSpec.ofChange Rows.tokOrderSpec) own6 started (by kernel_rfl) Tryz.func3
  (witness_row_at (enc := enc) (C := Tryz.checked) false (World.doorLaid Tryz.prog 14 os) #[.agg #[.slice none 0 0, .slice none 0 0, .slice none 0 0], .string ⟨#[]⟩] rfl (by kernel_rfl) (by kernel_rfl) (by kernel_rfl)
   (OpenSpec.preRow_of_cond 8 hx (by kernel_rfl) (fun k hk => by cases hk) (by kernel_rfl) (zh os _))) ?_
 intro W base args ds gs before hval hW _ _ _ hL _ _
 exact qN gX zN (ts := [26, 9]) (tb := 4) rfl rfl Tryz.underlying4 rfl (fun H ds h => by
  match ds, h with | [a, b], _ => rfl) (by kernel_rfl) kT H enc W base args ds gs before hval hW rfl (Cs hL)
theorem rB : Rows.TokOrderSaid :=
 OpenClaim.holds_of_cond 3 Tryz.f3 rfl rfl rfl rfl rfl rfl rfl ⟨rfl, rfl, rfl, rfl, rfl⟩ rfl rfl rfl rfl rfl (by kernel_rfl) Tryz.func3 (by kernel_rfl)
  (of_decide_eq_true (by kernel_rfl)) (by unfold Func.isWrapper; first | (rw [if_pos (by decide +kernel)]; kernel_rfl) | (rw [if_neg (by decide +kernel)]; exact ⟨rfl, rfl⟩))
  (fun os started H enc _ F => by rw [OpenClaim.pre_eq_preRow]; exact nQ os started H enc F)
theorem tokOrder_holds : Rows.TokOrderCardSaid :=
 Claim7.holds_tied_plain_at .later [] [.data] true (true, "5d9d6d963b18f64243ad1efadcf7b34dc9366d0b95d161a46689558d05e4d5af") false
  rB (fun _ h => by cases h) (by kernel_rfl) (fun _ h => by cases h) tokOrder_row_tie rfl ⟨rfl, rfl⟩ (by kernel_rfl) rfl
  (fun f fn hf hfn => by
   obtain rfl : f = 3 := Option.some.inj ((show Tryz.prog.funcNamed "raddle/raddlelaw17.TokOrder" = some 3 by kernel_rfl).symm.trans hf) |>.symm
   obtain rfl : fn = Tryz.f3 := (Option.some.inj (Tryz.func3.symm.trans hfn)).symm
   exact ⟨by kernel_rfl, fun j t ht => by
    rw [Tryz.params3] at ht
    have hm : t ∈ [26, 9] := by simpa using Array.mem_of_getElem? ht
    have hall : ([26, 9].all fun u => !Tryz.prog.wantsStandIn u) = true := by kernel_rfl
    exact (show Tryz.prog.wantsStandIn t = false by simpa using List.all_eq_true.1 hall t hm)⟩)
  (by kernel_rfl)
#print axioms tokOrder_holds
end Go.Proofs.YtmbhpolhiblhoaaGreatDoor
