/- What the cards of this seat lean on: arguments by content, and the one variable that is tied. -/
import Derived.Test.YtejdlelhlpnabaaDoorKL06s
import Derived.Test.YtejdlelhlpnabaaDoorCards
import Derived.Test.YtejdlelhlpnabaaDoorTie
import Derived.Test.YtejdlelhlpnabaaDoorKRText
import Derived.Lib.LaidTab
import Derived.LaidMore
set_option linter.all false
namespace Go.Rad
open Go Go.Proofs
theorem node41 : NodeTy LL 41 := ⟨5, 38, 39, 3, 9, 36, rfl, rfl, rfl, rfl, rfl, rfl, rfl⟩
theorem def27 : DefTy LL 27 := ⟨9, 22, 41, rfl, rfl, rfl, node41⟩
theorem args6 {xs : List AVal} (h : typedAll LL [22, 23] xs) : ∃ l ds, xs = [.sl true false (nodes l), .sl true false (defs ds)] ∧ nodesOk l ∧ dfsOk ds ∧ (∀ n ∈ l, n.s.okI) ∧ ∀ d ∈ ds, ∀ n ∈ d.l, n.s.okI := by
  obtain ⟨x, r, rfl, h1, y, r2, rfl, h2, rfl⟩ := h
  obtain ⟨l, hl, a, b⟩ := ty_nodesF (k := 5) rfl node41 (ty_one rfl h1)
  obtain ⟨ds, hd, c, d⟩ := ty_defsF (k := 3) rfl def27 (ty_one rfl h2)
  simp only [List.cons.injEq, and_true] at hl hd
  subst hl hd
  exact ⟨l, ds, rfl, ⟨a, fun n hn => (b n hn).1⟩, ⟨c, fun x hx => ⟨(d x hx).1, (d x hx).2.1, fun n hn => ((d x hx).2.2 n hn).1⟩⟩, fun n hn => (b n hn).2, fun x hx n hn => ((d x hx).2.2 n hn).2⟩
theorem nodes6 {y : List AVal} {x : AVal} (hy : y = [x]) (h : typedP LL 22 x) : ∃ l, x = .sl true false (nodes l) ∧ nodesOk l ∧ ∀ n ∈ l, n.s.okI := by
  obtain ⟨l, hl, a, b⟩ := ty_nodesF (k := 5) rfl node41 (ty_one rfl h)
  simp only [List.cons.injEq, and_true] at hl
  exact ⟨l, hl, ⟨a, fun n hn => (b n hn).1⟩, fun n hn => (b n hn).2⟩
theorem args6one {xs : List AVal} (h : typedAll LL [22] xs) : ∃ l, xs = [.sl true false (nodes l)] ∧ nodesOk l ∧ ∀ n ∈ l, n.s.okI := by
  obtain ⟨x, r, rfl, h1, rfl⟩ := h
  obtain ⟨l, rfl, a, b⟩ := nodes6 rfl h1
  exact ⟨l, rfl, a, b⟩
theorem args6two {xs : List AVal} (h : typedAll LL [22, 22] xs) : ∃ l m, xs = [.sl true false (nodes l), .sl true false (nodes m)] ∧ nodesOk l ∧ nodesOk m ∧ (∀ n ∈ l, n.s.okI) ∧ ∀ n ∈ m, n.s.okI := by
  obtain ⟨x, r, rfl, h1, y, r2, rfl, h2, rfl⟩ := h
  obtain ⟨l, rfl, a, b⟩ := nodes6 rfl h1
  obtain ⟨m, rfl, c, d⟩ := nodes6 rfl h2
  exact ⟨l, m, rfl, a, c, b, d⟩
theorem own6 : ownKnob Tryd.prog.godebug = none := by kernel_rfl
theorem laidOut6 : laidOutB Tryd.prog = true := by kernel_rfl
theorem gTab : Tryd.prog.globalNamed "math/bits.deBruijn64tab" = some 0 := by kernel_rfl
theorem tTab : (Tryd.prog.globals[0]?).map (·.type) = some 87 := by kernel_rfl
theorem cT8 : Tryd.prog.cellsOf 5 = 1 := by kernel_rfl
theorem cTab : Tryd.prog.cellsOf 87 = 64 := by kernel_rfl
theorem bruijn_fits : ∀ x ∈ bruijn, fits .u8 x := by
  have m1 : IntKind.u8.min = 0 := by kernel_rfl
  have m2 : IntKind.u8.max = 255 := by kernel_rfl
  have : ∀ x ∈ bruijn, 0 ≤ x ∧ x ≤ 255 := by decide
  intro x hx
  unfold fits
  rw [m1, m2]; exact this x hx
theorem globIn_of {W : World} (h : Lib.TabIs Tryd.prog W "math/bits.deBruijn64tab" .u8 bruijn) : GlobIn W := by
  intro g l hg
  unfold globU8 at hg
  split at hg
  · rename_i e
    subst e
    cases hg
    unfold Lib.TabIs World.var? at h
    rw [gTab] at h
    simp only [Option.bind_some] at h
    split at h
    · rename_i cs e fr hh
      obtain rfl := Option.some.inj h
      refine .ref (.inl trivial) (e := e) (fr := fr) (c := (bruijn.map fun z => Value.int .u8 z).toArray) hh (by simp [globC]) (fun j x hx => ?_) (fun j x hx => ?_)
      · simp only [globC, List.getElem?_map] at hx
        obtain ⟨y, _, rfl⟩ := Option.map_eq_some_iff.1 hx
        rfl
      · simp only [globC, List.getElem?_map] at hx
        obtain ⟨y, hy, rfl⟩ := Option.map_eq_some_iff.1 hx
        have e2 : ((bruijn.map fun z => Value.int .u8 z).toArray).getD (0 + j) undef = .int .u8 y := by
          simp [Array.getD_eq_getD_getElem?, hy]
        rw [e2]
        exact .int (bruijn_fits y (List.mem_of_getElem? hy))
    · cases h
  · cases hg
end Go.Rad
namespace Go.Proofs.YtejdlelhlpnabaaDoor
open Go Go.Rad
theorem globIn6 {W : World} (h : laidMetH Tryd.prog [("math/bits.deBruijn64tab", Rows.laid_math_bits_deBruijn64tab)] W) : GlobIn W := by
  rw [MakeChecks.laidMetH_plain _ _ _ (by kernel_rfl)] at h
  exact globIn_of (Lib.tabIs_of_head (zs := bruijn) (rest := []) gTab tTab Tryd.underlying87 Tryd.underlying5 cT8 cTab h)
theorem door_met (os : Os) (args : Array Value) : laidMetH Tryd.prog [("math/bits.deBruijn64tab", Rows.laid_math_bits_deBruijn64tab)] ((World.doorLaid Tryd.prog 14 os).forCall (fun _ _ => 0) ⟨#[], args, []⟩).memory :=
  laidMetH_of_parts3 (fuel := 8) (laidMet_of_run' 8 (by kernel_rfl) (by kernel_rfl)) (by kernel_rfl) (by kernel_rfl)
end Go.Proofs.YtejdlelhlpnabaaDoor
