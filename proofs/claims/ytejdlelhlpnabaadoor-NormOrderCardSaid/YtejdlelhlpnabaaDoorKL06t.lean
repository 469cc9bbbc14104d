/- NormOrder holds: for any nodes and any names that stand for trees, the order of the names counts nothing, and cases of letters may be folded ahead of names, or behind. The one package variable that its road reads is tied to the program's text by its card. -/
import Derived.Test.YtejdlelhlpnabaaDoorKL06s
import Derived.Test.YtejdlelhlpnabaaDoorKL06o
import Derived.Test.YtejdlelhlpnabaaDoorCards
import Derived.Test.YtejdlelhlpnabaaDoorTie
import Derived.Test.YtejdlelhlpnabaaDoorKRText
import Derived.Lib.LaidTab
import Derived.LaidMore
set_option linter.all false
namespace Go.Rad
open Go Go.Proofs
theorem node41 : NodeTy LL 41 := ⟨5, 38, 39, 3, 9, 36, rfl, rfl, rfl, rfl, rfl, rfl, rfl⟩
theorem def27 : DefTy LL 27 := ⟨9, 22, 41, rfl, rfl, rfl, node41⟩
theorem args6 {xs : List AVal} (h : typedAll LL [22, 23] xs) : ∃ l ds, xs = [.sl true false (nodes l), .sl true false (defs ds)] ∧ nodesOk l ∧ dfsOk ds ∧ (∀ n ∈ l, n.s.okI) ∧ ∀ d ∈ ds, ∀ n ∈ d.l, n.s.okI := by
  obtain ⟨x, r, rfl, h1, y, r2, rfl, h2, rfl⟩ := h
  obtain ⟨l, hl, a, b⟩ := ty_nodesF (k := 5) rfl node41 (ty_one rfl h1)
  obtain ⟨ds, hd, c, d⟩ := ty_defsF (k := 3) rfl def27 (ty_one rfl h2)
  simp only [List.cons.injEq, and_true] at hl hd
  subst hl hd
  exact ⟨l, ds, rfl, ⟨a, fun n hn => (b n hn).1⟩, ⟨c, fun x hx => ⟨(d x hx).1, (d x hx).2.1, fun n hn => ((d x hx).2.2 n hn).1⟩⟩, fun n hn => (b n hn).2, fun x hx n hn => ((d x hx).2.2 n hn).2⟩
theorem own6 : ownKnob Tryd.prog.godebug = none := by kernel_rfl
theorem laidOut6 : laidOutB Tryd.prog = true := by kernel_rfl
theorem gTab : Tryd.prog.globalNamed "math/bits.deBruijn64tab" = some 0 := by kernel_rfl
theorem tTab : (Tryd.prog.globals[0]?).map (·.type) = some 87 := by kernel_rfl
theorem cT8 : Tryd.prog.cellsOf 5 = 1 := by kernel_rfl
theorem cTab : Tryd.prog.cellsOf 87 = 64 := by kernel_rfl
theorem bruijn_fits : ∀ x ∈ bruijn, fits .u8 x := by
  have m1 : IntKind.u8.min = 0 := by kernel_rfl
  have m2 : IntKind.u8.max = 255 := by kernel_rfl
  have : ∀ x ∈ bruijn, 0 ≤ x ∧ x ≤ 255 := by decide
  intro x hx
  unfold fits
  rw [m1, m2]; exact this x hx
theorem globIn_of {W : World} (h : Lib.TabIs Tryd.prog W "math/bits.deBruijn64tab" .u8 bruijn) : GlobIn W := by
  intro g l hg
  unfold globU8 at hg
  split at hg
  · rename_i e
    subst e
    cases hg
    unfold Lib.TabIs World.var? at h
    rw [gTab] at h
    simp only [Option.bind_some] at h
    split at h
    · rename_i cs e fr hh
      obtain rfl := Option.some.inj h
      refine .ref (.inl trivial) (e := e) (fr := fr) (c := (bruijn.map fun z => Value.int .u8 z).toArray) hh (by simp [globC]) (fun j x hx => ?_) (fun j x hx => ?_)
      · simp only [globC, List.getElem?_map] at hx
        obtain ⟨y, _, rfl⟩ := Option.map_eq_some_iff.1 hx
        rfl
      · simp only [globC, List.getElem?_map] at hx
        obtain ⟨y, hy, rfl⟩ := Option.map_eq_some_iff.1 hx
        have e2 : ((bruijn.map fun z => Value.int .u8 z).toArray).getD (0 + j) undef = .int .u8 y := by
          simp [Array.getD_eq_getD_getElem?, hy]
        rw [e2]
        exact .int (bruijn_fits y (List.mem_of_getElem? hy))
    · cases h
  · cases hg
theorem contractOrder (xs : List AVal) (h : typedAll LL [22, 23] xs) : ACall Tryd.prog 3 xs [] fun r _ => r = .bool true := by
  obtain ⟨l, ds, rfl, h1, h2, h3, h4⟩ := args6 h
  exact normOrder_c shown6uc l ds h1 h2 h3 h4
end Go.Rad
namespace Go.Proofs.YtejdlelhlpnabaaDoor
open Go Go.Rad
theorem globIn6 {W : World} (h : laidMetH Tryd.prog [("math/bits.deBruijn64tab", Rows.laid_math_bits_deBruijn64tab)] W) : GlobIn W := by
  rw [MakeChecks.laidMetH_plain _ _ _ (by kernel_rfl)] at h
  exact globIn_of (Lib.tabIs_of_head (zs := bruijn) (rest := []) gTab tTab Tryd.underlying87 Tryd.underlying5 cT8 cTab h)
theorem door_met (os : Os) (args : Array Value) : laidMetH Tryd.prog [("math/bits.deBruijn64tab", Rows.laid_math_bits_deBruijn64tab)] ((World.doorLaid Tryd.prog 14 os).forCall (fun _ _ => 0) ⟨#[], args, []⟩).memory :=
  laidMetH_of_parts3 (fuel := 8) (laidMet_of_run' 8 (by kernel_rfl) (by kernel_rfl)) (by kernel_rfl) (by kernel_rfl)
set_option maxRecDepth 100000 in
theorem readsOrder (os : Os) {H : Type} (enc : TypeId × Value → H) : ∃ places, DataW.whole enc Tryd.prog ((World.doorLaid Tryd.prog 14 os).forCall (fun _ _ => 0) ⟨#[], #[.slice none 0 0, .slice none 0 0], []⟩).memory Tryd.f3.params.toList Rows.normOrderSpec.vars false #[Value.slice none 0 0, .slice none 0 0].toList 8 = some ([.nil, .nil], [], places) :=
  ⟨[], by kernel_rfl⟩
set_option maxRecDepth 100000 in
theorem liftedOrder (os : Os) (started : os.Started) (H : Type) (enc : TypeId × Value → H) (F : Stop.Interp) :
    ReturnsInHanded {} Tryd.checked os 3 .any ((OpenSpec.ofChange Rows.normOrderSpec).preRow enc Tryd.prog Tryd.f3 Rows.normOrderRow.domain false Rows.normOrderRow.laid) (((OpenSpec.ofChange Rows.normOrderSpec).at F).post enc Tryd.prog Tryd.f3 false true false false) := by
  obtain ⟨places, hx⟩ := readsOrder os enc
  refine returnsInHanded_of_row (C := Tryd.checked) (s := OpenSpec.ofChange Rows.normOrderSpec) own6 started (by kernel_rfl) Tryd.func3
    (witness_row_at (enc := enc) (C := Tryd.checked) false (World.doorLaid Tryd.prog 14 os) #[.slice none 0 0, .slice none 0 0] rfl (by kernel_rfl) (by kernel_rfl) (by kernel_rfl)
      (OpenSpec.preRow_of_cond 8 hx (by kernel_rfl) (fun k hk => by cases hk) (by kernel_rfl) (door_met os _))) ?_
  intro W base args ds gs before hval hW _ _ _ hL _ _
  exact law_contract LL_ok laidOut6 (ts := [22, 23]) (tb := 4) rfl rfl Tryd.underlying4 rfl (fun H ds h => by
    match ds, h with | [a, b], _ => rfl) (by kernel_rfl) contractOrder H enc W base args ds gs before hval hW rfl (globIn6 hL)
theorem normOrder_row : Rows.NormOrderSaid :=
  OpenClaim.holds_of_cond 3 Tryd.f3 rfl rfl rfl rfl rfl rfl rfl ⟨rfl, rfl, rfl, rfl, rfl⟩ rfl rfl rfl rfl rfl (by kernel_rfl) Tryd.func3 (by kernel_rfl)
    (of_decide_eq_true (by kernel_rfl)) (by unfold Func.isWrapper; first | (rw [if_pos (by decide +kernel)]; kernel_rfl) | (rw [if_neg (by decide +kernel)]; exact ⟨rfl, rfl⟩))
    (fun os started H enc _ F => by rw [OpenClaim.pre_eq_preRow]; exact liftedOrder os started H enc F)
theorem normOrder_holds : Rows.NormOrderCardSaid :=
  Claim7.holds_tied_plain_at .later [] [.data] true (true, "920e4dba6ff1cece3e1da5a9ef535b38d91df77b4dd67c1dac4c824e56301445") false
    normOrder_row (fun _ h => by cases h) (by kernel_rfl) (fun _ h => by cases h) normOrder_row_tie rfl ⟨rfl, rfl⟩ (by kernel_rfl) rfl
    (fun f fn hf hfn => by
      obtain rfl : f = 3 := Option.some.inj ((show Tryd.prog.funcNamed "raddle/raddlelaw06.NormOrder" = some 3 by kernel_rfl).symm.trans hf) |>.symm
      obtain rfl : fn = Tryd.f3 := (Option.some.inj (Tryd.func3.symm.trans hfn)).symm
      exact ⟨by kernel_rfl, fun j t ht => by
        rw [Tryd.params3] at ht
        have hm : t ∈ [22, 23] := by simpa using Array.mem_of_getElem? ht
        have hall : ([22, 23].all fun u => !Tryd.prog.wantsStandIn u) = true := by kernel_rfl
        exact (show Tryd.prog.wantsStandIn t = false by simpa using List.all_eq_true.1 hall t hm)⟩)
    (by kernel_rfl)
#print axioms normOrder_holds
end Go.Proofs.YtejdlelhlpnabaaDoor
