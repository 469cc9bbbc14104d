/- TokTells holds: for any file, text, place and condition, the tokens of a text, and the one that begins at a place, are the document's. No condition. The one package variable that its road reads is tied to the program's text by its card. -/
import Derived.Test.YtmbhpolhiblhoaaGreatDoorKRRunC
set_option linter.all false
namespace Go.Rad
open Go Go.Proofs
theorem kW (xs : List aa) (h : kL LL [26, 9, 3, 3] xs) : ah Tryz.prog 5 xs [] fun r _ => r = .bool true := by
 obtain ⟨x1, r1, rfl, h1, x2, r2, rfl, h2, x3, r3, rfl, h3, x4, r4, rfl, h4, rfl⟩ := h
 obtain ⟨z1, rfl, g1⟩ := (show ∃ ys, x1 = .agg ys ∧ typed LL 9 26 ys from h1)
 obtain ⟨F1, rfl, f1⟩ := DZ (k := 2) flT g1
 obtain ⟨s2, e2, f2⟩ := oO (k := 8) rfl (vk rfl h2)
 obtain ⟨n3, e3, f3⟩ := er (i := .i64) (k := 8) rfl (vk rfl h3)
 obtain ⟨n4, e4, f4⟩ := er (i := .i64) (k := 8) rfl (vk rfl h4)
 simp only [List.cons.injEq, and_true] at e2 e3 e4
 subst e2 e3 e4
 exact vj F1 s2 n3 n4 f1 f2
end Go.Rad
namespace Go.Proofs.YtmbhpolhiblhoaaGreatDoor
open Go Go.Rad
set_option maxRecDepth 100000 in
theorem pq (os : Os) {H : Type} (enc : TypeId × Value → H) : ∃ places, DataW.whole enc Tryz.prog ((World.doorLaid Tryz.prog 14 os).forCall (fun _ _ => 0) ⟨#[], #[.agg #[.slice none 0 0, .slice none 0 0, .slice none 0 0], .string ⟨#[]⟩, .int .i64 0, .int .i64 0], []⟩).memory Tryz.f5.params.toList Rows.tokTellsSpec.vars false (#[.agg #[.slice none 0 0, .slice none 0 0, .slice none 0 0], .string ⟨#[]⟩, .int .i64 0, .int .i64 0] : Array Value).toList 8 = some ([.agg [.nil, .nil, .nil], .lit (.string []), .lit (.int .i64 0), .lit (.int .i64 0)], [], places) :=
 ⟨[], by kernel_rfl⟩
set_option maxRecDepth 100000 in
theorem nW (os : Os) (started : os.Started) (H : Type) (enc : TypeId × Value → H) (F : Stop.Interp) :
  ReturnsInHanded {} Tryz.checked os 5 .any ((OpenSpec.ofChange Rows.tokTellsSpec).preRow enc Tryz.prog Tryz.f5 Rows.tokTellsRow.domain false Rows.tokTellsRow.laid) (((OpenSpec.ofChange Rows.tokTellsSpec).at F).post enc Tryz.prog Tryz.f5 false true false false) := by
 obtain ⟨places, hx⟩ := pq os enc
 refine returnsInHanded_of_row (C := Tryz.checked) (s := OpenSpec.ofChange Rows.tokTellsSpec) own6 started (by kernel_rfl) Tryz.func5
  (witness_row_at (enc := enc) (C := Tryz.checked) false (World.doorLaid Tryz.prog 14 os) #[.agg #[.slice none 0 0, .slice none 0 0, .slice none 0 0], .string ⟨#[]⟩, .int .i64 0, .int .i64 0] rfl (by kernel_rfl) (by kernel_rfl) (by kernel_rfl)
   (OpenSpec.preRow_of_cond 8 hx (by kernel_rfl) (fun k hk => by cases hk) (by kernel_rfl) (zt os _))) ?_
 intro W base args ds gs before hval hW _ _ _ hL _ _
 exact qY gY zX (ts := [26, 9, 3, 3]) (tb := 4) rfl rfl Tryz.underlying4 rfl (fun H ds h => by
  match ds, h with | [a, b, c, d], _ => rfl) (by kernel_rfl) kW H enc W base args ds gs before hval hW rfl (CD hL)
theorem rN : Rows.TokTellsSaid :=
 OpenClaim.holds_of_cond 5 Tryz.f5 rfl rfl rfl rfl rfl rfl rfl ⟨rfl, rfl, rfl, rfl, rfl⟩ rfl rfl rfl rfl rfl (by kernel_rfl) Tryz.func5 (by kernel_rfl)
  (of_decide_eq_true (by kernel_rfl)) (by unfold Func.isWrapper; first | (rw [if_pos (by decide +kernel)]; kernel_rfl) | (rw [if_neg (by decide +kernel)]; exact ⟨rfl, rfl⟩))
  (fun os started H enc _ F => by rw [OpenClaim.pre_eq_preRow]; exact nW os started H enc F)
theorem tokTells_holds : Rows.TokTellsCardSaid :=
 Claim7.holds_tied_plain_at .later [] [.data] true (true, "5d9d6d963b18f64243ad1efadcf7b34dc9366d0b95d161a46689558d05e4d5af") false
  rN (fun _ h => by cases h) (by kernel_rfl) (fun _ h => by cases h) tokTells_row_tie rfl ⟨rfl, rfl⟩ (by kernel_rfl) rfl
  (fun f fn hf hfn => by
   obtain rfl : f = 5 := Option.some.inj ((show Tryz.prog.funcNamed "raddle/raddlelaw17.TokTells" = some 5 by kernel_rfl).symm.trans hf) |>.symm
   obtain rfl : fn = Tryz.f5 := (Option.some.inj (Tryz.func5.symm.trans hfn)).symm
   exact ⟨by kernel_rfl, fun j t ht => by
    rw [Tryz.params5] at ht
    have hm : t ∈ [26, 9, 3, 3] := by simpa using Array.mem_of_getElem? ht
    have hall : ([26, 9, 3, 3].all fun u => !Tryz.prog.wantsStandIn u) = true := by kernel_rfl
    exact (show Tryz.prog.wantsStandIn t = false by simpa using List.all_eq_true.1 hall t hm)⟩)
  (by kernel_rfl)
#print axioms tokTells_holds
end Go.Proofs.YtmbhpolhiblhoaaGreatDoor
