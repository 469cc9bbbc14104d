/- The library's sort of integers, as a contract over an own row. -/
import Derived.Test.YtapigofiboihiaaKRNode
import Derived.Sort.Grow
import Derived.Lib.SlicesCompact
import Derived.Shelf.Small.Bits
import Derived.Shelf.Small.Wraps
import Derived.Shelf.Strconv.Itoa0
import Derived.Shelf.Sort.Plain
import Derived.Shelf.Slices.Equal
import Derived.Ground.Names2Prog
import Derived.Shelf.Slices.Clone
import Derived.Shelf.Slices.CompactI
import Derived.Shelf.Slices.SearchI
import Derived.Shelf.Slices.Cells
import Derived.Shelf.Slices.In.SortNone
import Derived.Shelf.Slices.Empties
import Derived.Shelf.Slices.Empties2
import Derived.Ground.SlgnProg
import Derived.Shelf.SlicesE.Clone
import Derived.Test.YtapigofiboihiaaProg
import Derived.Test.YtapigofiboihiaaKRNorm
import Derived.Deep.Draws
import Derived.Shelf.SlGeneric
import Derived.Shelf.Spec.SlicesGrow
import Derived.Ground.Names8Prog
import Derived.Test.YtapigofiboihiaaKC06b
set_option linter.all false
namespace Go.Rad
open Go Go.Sort
abbrev sortI (l : List Int) : List Int := l.mergeSort fun x y => decide (x ≤ y)
/-- What the library's sort does, over the machine. -/
def SortRuns (P : Program) (f : Nat) : Prop := ∀ (blk off cap : Nat) (zs : List Int) (w : World), Holds (Value.int .i64) w blk off zs.toArray → blk < w.heap.size → zs.length < 4611686018427387904 →
  Calls P f #[.slice (some ⟨blk, off, none⟩) zs.length cap] w fun e w' => e = .returned (.tuple #[]) ∧ ∃ n os, w' = grow (putRow (Value.int .i64) (Sort.ahead w n) blk off (sortI zs).toArray) os
theorem heap_sorted {w : World} {g n : Nat} {os : Array Obj} {cur : Array Value} {e : TypeId} {fr : Nat × Nat} (d : Array Int) (hb : w.heap[g]? = some (.cells cur e fr)) :
    (grow (putRow (Value.int .i64) (Sort.ahead w n) g 0 d) os).heap[g]? = some (.cells (putCells (Value.int .i64) 0 d cur) e fr) := by
  have hg : g < w.heap.size := (Array.getElem?_eq_some_iff.1 hb).1
  rw [heap_grow_old _ _ (by simpa [putRow, mapBlock, Sort.ahead] using hg)]
  simp [putRow, mapBlock, Sort.ahead, Array.getElem?_modify, hb, onCells]
/-- A call that writes integers over an own row of integers and cuts it. -/
theorem ACall.putInts {P : Program} {f : Nat} (able : Callable P f) (id g : Nat) {l full : List Int} (n' : Nat) (hl : l ≠ []) (hfl : full.length = l.length) (hn' : n' ≤ full.length) (hfit : ∀ k ∈ full, k ∈ l ∨ k = 0) (res : AVal) (val : Nat → Nat → Value)
    (hval : ∀ G b cap, G.M id g = some ⟨some b, cap, 1⟩ → n' ≤ cap → n' ≤ bigLen → Rep G true res (val b cap))
    (hS : ∀ (blk cap : Nat) (w : World), Holds (Value.int .i64) w blk 0 l.toArray → blk < w.heap.size → l.length < 4611686018427387904 → l.length ≤ cap →
      Calls P f #[.slice (some ⟨blk, 0, none⟩) l.length cap] w fun e w' => e = .returned (val blk cap) ∧ ∃ n os, w' = grow (putRow (Value.int .i64) (Sort.ahead w n) blk 0 full.toArray) os) :
    ACall P f [.osl id g 0 l.length] [(id, (g, .row 1 (ints l)))] fun r s => r = res ∧ s = [(id, (g, .row 1 (ints (full.take n'))))] := by
  refine ⟨able, fun G w cargs hw hs ha => ?_⟩
  have hget : sget [(id, (g, AObj.row 1 (ints l)))] id = some (g, .row 1 (ints l)) := by simp [sget]
  have hlen : 0 < l.length := List.length_pos_iff.2 hl
  obtain ⟨ob, cap, esz, a, hv, hM, hcap, hbig, hcn, _, ha0⟩ := Rep.osl_inv' (ha.2 0 _ rfl)
  obtain ⟨ob', cap', hM', o1, o2, _, _, _, o6, o7⟩ := hs.obj _ _ _ hget
  rw [hM] at hM'
  simp only [Option.some.injEq, Hd.mk.injEq] at hM'
  obtain ⟨rfl, rfl, rfl⟩ := hM'
  obtain ⟨b, rfl⟩ : ∃ b, ob = some b := by
    cases ob with
    | none => have := hcn rfl; omega
    | some b => exact ⟨b, rfl⟩
  have hadr := ha0 b rfl rfl
  subst hadr
  obtain ⟨hF, hcm, c, e, ⟨fr, hb, hfr⟩, hcs, hrep⟩ := o7 b rfl
  have hsz : cargs = #[.slice (some ⟨b, 0, none⟩) l.length cap] := by
    have h1 : cargs.size = 1 := by have := ha.1; simp at this; omega
    refine Array.ext (by simp [h1]) fun i h2 h3 => ?_
    have : i = 0 := by simp at h3; omega
    subst this
    simpa [Array.getD, h1] using hv
  have hcell : ∀ (j : Nat) (x : Int), l[j]? = some x → c[j]? = some (.int .i64 x) ∧ fits .i64 x := by
    intro j x hx
    have hj := (List.getElem?_eq_some_iff.1 hx).1
    have h1 := hrep j 0 [.int .i64 x] (.int .i64 x) (by simp [hx]) rfl
    obtain ⟨h2, h3⟩ := Rep.int_inv' h1
    have hlt : j < c.size := by rw [hcs]; omega
    rw [show j * 1 + 0 = j by omega, Array.getD_eq_getD_getElem?, Array.getElem?_eq_getElem hlt] at h2
    exact ⟨by rw [Array.getElem?_eq_getElem hlt]; exact congrArg some h2, h3⟩
  have hblt : b < w.heap.size := (Array.getElem?_eq_some_iff.1 hb).1
  have hH : Holds (Value.int .i64) w b 0 l.toArray := by
    intro j hj
    have hj' : j < l.length := by simpa using hj
    have h1 := (hcell j l[j] (List.getElem?_eq_getElem hj')).1
    refine ⟨?_, ?_⟩
    rotate_left
    · obtain ⟨lo, hi'⟩ := fr
      have hlt : j < c.size := by rw [hcs]; omega
      simp only at hfr
      simp only [World.frozen?, hb, Bool.and_eq_false_iff, decide_eq_false_iff_not]
      omega
    rw [cell_of_row w b (0 + j) c e fr hb, Nat.zero_add, h1]
    simp [hj']
  rw [hsz]
  have hcl := hS b cap w hH hblt (by unfold bigLen at hbig; omega) (by omega)
  refine hcl.mono fun en w' h => ?_
  obtain ⟨rfl, n, os, rfl⟩ := h
  have hsl : (full.take n').length ≤ l.length := by simp; omega
  have htl : (full.take n').length = n' := by simp; omega
  have hints : ∀ (l' : List Int) (i : Nat) (x : List AVal), (ints l')[i]? = some x → ∃ k, l'[i]? = some k ∧ x = [.int .i64 k] := fun l' i x hx => by
    obtain ⟨k, h1, h2⟩ := ints_get _ _ _ hx; exact ⟨k, h1, h2⟩
  have hobj : ObjOk G (grow (putRow (Value.int .i64) (Sort.ahead w n) b 0 full.toArray) os) id g (.row 1 (ints (full.take n'))) := by
    refine ⟨some b, cap, hM, ?_, ?_, Nat.one_pos, ?_, ?_, ?_, ?_⟩
    · simp only [List.length_map]; omega
    · simp only [List.length_map] at o2 ⊢; omega
    · intro i x hx; obtain ⟨k, _, rfl⟩ := hints _ _ _ hx; rfl
    · intro i j x y hx hy
      obtain ⟨k, _, rfl⟩ := hints _ _ _ hx
      cases j with
      | zero => simp only [List.getElem?_cons_zero, Option.some.injEq] at hy; subst hy; rfl
      | succ j => simp at hy
    · intro h; cases h
    · intro b' hb'
      have : b' = b := by cases hb'; rfl
      subst this
      refine ⟨hF, hcm, _, e, ⟨fr, heap_sorted full.toArray hb, by simpa [putCells] using hfr⟩, ?_, ?_⟩
      · simp [putCells, hcs]
      · intro i j x y hx hy
        obtain ⟨k, hk, rfl⟩ := hints _ _ _ hx
        cases j with
        | succ j => simp at hy
        | zero =>
          simp only [List.getElem?_cons_zero, Option.some.injEq] at hy
          subst hy
          have hi := (List.getElem?_eq_some_iff.1 hk).1
          have hil : i < c.size := by rw [hcs]; omega
          have hkf : full[i]? = some k := by rw [List.getElem?_take] at hk; split at hk <;> first | exact hk | cases hk
          have hif := (List.getElem?_eq_some_iff.1 hkf).1
          have hft : fits .i64 k := by
            rcases hfit k (List.mem_of_getElem? hkf) with hmem | rfl
            · obtain ⟨j2, hj2⟩ := List.mem_iff_getElem?.1 hmem
              exact (hcell j2 k hj2).2
            · unfold fits; simp [IntKind.wrap]; decide
          have e1 : (putCells (Value.int .i64) 0 full.toArray c).getD (i * 1 + 0) undef = .int .i64 k := by
            rw [show i * 1 + 0 = i by omega, Array.getD_eq_getD_getElem?]
            have hi2 : i < l.length := by omega
            simp [putCells, hil, hif]
            exact (List.getElem?_eq_some_iff.1 hkf).2
          rw [e1]
          exact .int hft
  obtain ⟨w1, s1⟩ := sto_write (w := w) (w' := grow (putRow (Value.int .i64) (Sort.ahead w n) b 0 full.toArray) os) (o' := .row 1 (ints (full.take n'))) ⟨rfl, rfl⟩ hw hs hget (by simp [grow, putRow, mapBlock, Sort.ahead])
    (fun k hk hne => by
      have hkb : b ≠ k := fun e => hne (by simp [blkOf, hM, e])
      rw [heap_grow_old _ _ (by simpa [putRow, mapBlock, Sort.ahead] using hk)]
      simp [putRow, mapBlock, Sort.ahead, Array.getElem?_modify, hkb])
    hobj
  refine ⟨G, _, res, _, rfl, .refl G, w1, s1, hval G b cap hM (by omega) (by omega), rfl, ?_⟩
  simp [sput]
/-- A call that leaves an own row of no elements. -/
theorem ACall.sameInts {P : Program} {f : Nat} (able : Callable P f) (id g : Nat) (res : AVal) (val : Option Addr → Nat → Value)
    (hval : ∀ G a cap, Rep G true (.osl id g 0 0) (.slice a 0 cap) → True → Rep G true res (val a cap))
    (hS : ∀ (a : Option Addr) (cap : Nat) (w : World), Calls P f #[.slice a 0 cap] w fun e w' => e = .returned (val a cap) ∧ w' = w) :
    ACall P f [.osl id g 0 0] [(id, (g, .row 1 (ints [])))] fun r s => r = res ∧ s = [(id, (g, .row 1 (ints [])))] := by
  refine ⟨able, fun G w cargs hw hs ha => ?_⟩
  have hrep := ha.2 0 _ rfl
  obtain ⟨ob, cap, esz, a, hv, _⟩ := Rep.osl_inv' hrep
  have hsz : cargs = #[.slice a 0 cap] := by
    have h1 : cargs.size = 1 := by have := ha.1; simp at this; omega
    refine Array.ext (by simp [h1]) fun i h2 h3 => ?_
    have : i = 0 := by simp at h3; omega
    subst this
    simpa [Array.getD, h1] using hv
  rw [hv] at hrep
  rw [hsz]
  refine (hS a cap w).mono fun e w' h => ?_
  obtain ⟨rfl, rfl⟩ := h
  exact ⟨G, _, res, _, rfl, .refl G, hw, hs, hval G a cap hrep trivial, rfl, rfl⟩
theorem sortI_len (l : List Int) : (sortI l).length = l.length := (List.mergeSort_perm l _).length_eq
theorem ACall.sortInts {P : Program} {f : Nat} (able : Callable P f) (hS : SortRuns P f) (h0 : ∀ (a : Option Addr) (cap : Nat) (w : World), Calls P f #[.slice a 0 cap] w fun e w' => e = .returned (.tuple #[]) ∧ w' = w) (id g : Nat) (l : List Int) :
    ACall P f [.osl id g 0 l.length] [(id, (g, .row 1 (ints l)))] fun r s => r = .tup [] ∧ s = [(id, (g, .row 1 (ints (sortI l))))] := by
  rcases List.eq_nil_or_concat l with rfl | hl
  · rw [show sortI [] = [] by simp [sortI]]
    exact ACall.sameInts able id g (.tup []) (fun _ _ => .tuple #[]) (fun G a cap _ _ => .tup (by simp) (fun j x hx => by simp at hx)) fun a cap w => h0 a cap w
  · have hl : l ≠ [] := by obtain ⟨a, b, rfl⟩ := hl; simp
    have := ACall.putInts (P := P) (f := f) able id g (full := sortI l) l.length hl (sortI_len l) (by rw [sortI_len]; exact Nat.le_refl _) (fun k hk => .inl ((List.mergeSort_perm l _).mem_iff.1 hk)) (.tup []) (fun _ _ => .tuple #[]) (fun _ _ _ _ _ _ => .tup (by simp) (fun j x hx => by simp at hx)) fun blk cap w h1 h2 h3 _ => hS blk 0 cap l w h1 h2 h3
    rw [show (sortI l).take l.length = sortI l by rw [← sortI_len l, List.take_length]] at this
    exact this
def CompactRuns (P : Program) (f : Nat) : Prop := ∀ (blk off cap : Nat) (zs : List Int) (w : World), Holds (Value.int .i64) w blk off zs.toArray → zs.length ≤ 9223372036854775807 → zs.length ≤ cap →
  Calls P f #[.slice (some ⟨blk, off, none⟩) zs.length cap] w fun e w' => e = .returned (.slice (some ⟨blk, off, none⟩) (Lib.compact zs).length cap) ∧ ∃ q, w' = putRow (Value.int .i64) (Sort.ahead w q) blk off (Lib.compact zs ++ List.replicate (zs.length - (Lib.compact zs).length) 0).toArray
theorem compact_len (l : List Int) : (Lib.compact l).length ≤ l.length := by
  unfold Lib.compact Lib.compactUpTo
  simp only [List.length_map]
  exact Nat.le_trans (List.length_filter_le _ _) (by simp)
theorem compact_mem {l : List Int} {k : Int} (h : k ∈ Lib.compact l) : k ∈ l := by
  unfold Lib.compact Lib.compactUpTo at h
  obtain ⟨i, hi, rfl⟩ := List.mem_map.1 h
  have hi := List.mem_range.1 (List.mem_filter.1 hi).1
  simp [hi]
theorem ACall.compactInts {P : Program} {f : Nat} (able : Callable P f) (hC : CompactRuns P f) (h0 : ∀ (a : Option Addr) (cap : Nat) (w : World), Calls P f #[.slice a 0 cap] w fun e w' => e = .returned (.slice a 0 cap) ∧ w' = w) (id g : Nat) (l : List Int) :
    ACall P f [.osl id g 0 l.length] [(id, (g, .row 1 (ints l)))] fun r s => r = .osl id g 0 (Lib.compact l).length ∧ s = [(id, (g, .row 1 (ints (Lib.compact l))))] := by
  rcases List.eq_nil_or_concat l with rfl | hl
  · exact ACall.sameInts able id g (.osl id g 0 0) (fun a cap => .slice a 0 cap) (fun G a cap h _ => h) fun a cap w => h0 a cap w
  · have hl : l ≠ [] := by obtain ⟨a, b, rfl⟩ := hl; simp
    have hle := compact_len l
    have := ACall.putInts (P := P) (f := f) able id g (full := Lib.compact l ++ List.replicate (l.length - (Lib.compact l).length) 0) (Lib.compact l).length hl (by simp; omega) (by simp)
      (fun k hk => by
        rcases List.mem_append.1 hk with h | h
        · exact .inl (compact_mem h)
        · exact .inr (List.mem_replicate.1 h).2) (.osl id g 0 (Lib.compact l).length) (fun b cap => .slice (some ⟨b, 0, none⟩) (Lib.compact l).length cap)
      (fun G b cap h h1 h2 => .osl h (by omega) h2 (fun h => nomatch h) (fun b' hb _ => by cases hb; rfl) (fun b' hb _ => by cases hb; rfl)) fun blk cap w h1 h2 h3 h4 => (hC blk 0 cap l w h1 (by omega) h4).mono fun e w' h => by
        obtain ⟨h, q, rfl⟩ := h
        exact ⟨h, q, #[], by simp⟩
    rw [List.take_left] at this
    exact this
end Go.Rad
/- The library's Grow at an empty list, as a contract: a new own row of no elements. -/
namespace Go.Rad
open Go
def GrowRuns (P : Program) (f : Nat) : Prop := (∀ (a : Option Addr) (w : World), Calls P f #[.slice a 0 0, .int .i64 0] w fun e w' => e = .returned (.slice a 0 0) ∧ w' = w) ∧
  ∀ (a : Option Addr) (n : Nat) (w : World), 0 < n → n * 8 ≤ 140737488355328 → Calls P f #[.slice a 0 0, .int .i64 n] w fun e w' => ∃ (cap : Nat) (cs : Array Value) (t : TypeId), cap ≤ maxLen ∧ cs.size = cap ∧ e = .returned (.slice (some ⟨w.heap.size, 0, none⟩) 0 cap) ∧ w' = w.drew.alloc (.cells cs t)
theorem ACall.growNil {P : Program} {f : Nat} (able : Callable P f) (hG : GrowRuns P f) (d : Nat) (n : Nat) (hn : n * 8 ≤ 140737488355328) :
    ACall P f [.sl true true [], .int .i64 n] [] fun r s => ∃ g, r = .osl d g 0 0 ∧ s = [(d, (g, .row 1 []))] := by
  refine ⟨able, fun G w cargs hw hs ha => ?_⟩
  obtain ⟨a, cap, hv, _, _, hfull⟩ := Rep.sl_len (ha.2 0 _ rfl)
  have hcap : cap = 0 := hfull rfl
  subst hcap
  obtain ⟨h2, h3⟩ := Rep.int_inv' (ha.2 1 _ rfl)
  have hsz : cargs = #[.slice a 0 0, .int .i64 n] := by
    have h1 : cargs.size = 2 := by have := ha.1; simp at this; omega
    refine Array.ext (by simp [h1]) fun i h4 h5 => ?_
    have : i = 0 ∨ i = 1 := by simp at h5; omega
    rcases this with rfl | rfl
    · simpa [Array.getD, h1] using hv
    · simpa [Array.getD, h1] using h2
  rw [hsz]
  rcases Nat.eq_zero_or_pos n with rfl | h0
  · refine (hG.1 a w).mono fun e w' h => ?_
    obtain ⟨rfl, rfl⟩ := h
    obtain ⟨b1, b2, b3⟩ := sto_put (w := w') (w' := w') (id := d) (o := .row 1 []) (hd := ⟨none, 0, 1⟩) (Kept.refl _) hw hs (Nat.le_refl _) (fun _ _ _ => rfl) (fun b hb => by cases hb)
      ⟨none, 0, newG_M _ _ _, Nat.le_refl _, Nat.zero_le _, Nat.one_pos, fun i x hx => by simp at hx, fun i j x y hx => by simp at hx, fun _ => rfl, fun b hb => by cases hb⟩
    exact ⟨_, _, .osl d G.N 0 0, _, rfl, b1, b2, b3, .osl (newG_M _ _ _) (Nat.le_refl _) (Nat.zero_le _) (fun _ => rfl) (fun b hb => by cases hb) (fun b hb => by cases hb), G.N, rfl, rfl⟩
  · refine (hG.2 a n w h0 hn).mono fun e w' h => ?_
    obtain ⟨cap, cs, t, h1, h2, rfl, rfl⟩ := h
    obtain ⟨b1, b2, b3⟩ := sto_put (w := w) (w' := w.drew.alloc (.cells cs t)) (id := d) (o := .row 1 []) (hd := ⟨some w.heap.size, cap, 1⟩) ((Kept.drew w).trans (Kept.alloc _ _ _)) hw hs (by simp) (fun b hb _ => by first | exact heap_alloc_old w.drew _ b hb | exact heap_alloc_old w.drew _ hb) (fun b hb => by cases hb; exact ⟨by simp, .inl (Nat.le_refl _)⟩)
      ⟨some w.heap.size, cap, newG_M _ _ _, Nat.zero_le _, Nat.zero_le _, Nat.one_pos, fun i x hx => by simp at hx, fun i j x y hx => by simp at hx, fun h => (nomatch h), fun b hb => by
        cases hb
        exact ⟨show G.F w.heap.size = none from fresh_none hw, h1, cs, t, .zero (heap_alloc_new w.drew _), by simp [h2], fun i j x y hx => by simp at hx⟩⟩
    exact ⟨_, _, .osl d G.N 0 0, _, rfl, b1, b2, b3, .osl (newG_M _ _ _) (Nat.zero_le _) (Nat.zero_le _) (fun h => nomatch h) (fun b hb _ => by cases hb; rfl) (fun b hb _ => by cases hb; rfl), G.N, rfl, rfl⟩
/-- A result that is an own row, given away. -/
theorem ACall.give {P : Program} {f : Nat} {args : List AVal} {sto0 : Sto} {id : Nat} {l : List (List AVal)} (h : ACall P f args sto0 fun r s => ∃ g, r = .osl id g 0 l.length ∧ s = [(id, (g, .row 1 l))]) : ACall P f args sto0 fun r s => r = .sl true false l ∧ s = [] :=
  ⟨h.able, fun G w cargs hw hs ha => (h.calls G w cargs hw hs ha).mono fun e w' p => by
    obtain ⟨H, cr, r, s, rfl, hx, hw', hs', hr, g, rfl, rfl⟩ := p
    obtain ⟨G', hext, hw2, hs2, hR⟩ := sto_freeze (id := id) hw' hs' (g := g) (esz := 1) (l := l) (by simp [sget])
    have h1 := hR 0 l.length cr (by omega) hr
    rw [List.drop_zero, List.take_of_length_le (Nat.le_refl _)] at h1
    exact ⟨G', cr, _, _, rfl, hx.trans hext, hw2, by simpa [sdel] using hs2, h1, rfl, rfl⟩⟩
end Go.Rad
/- Contracts of the library laid at this program: the plain text of the shelf's tools, the part that is used. -/
namespace Go.Proofs
open Go.Shelf
def Try.lays189uren : Go.Shelf.Ren := ⟨fun | 189 => 60 | 125 => 73 | 257 => 72 | 128 => 88 | 129 => 89 | 294 => 80 | 295 => 81 | 296 => 82 | 297 => 83 | 298 => 84 | 299 => 85 | 216 => 48 | 300 => 86 | 301 => 87 | 328 => 99 | 329 => 100 | 330 => 101 | 331 => 102 | 332 => 103 | 215 => 64 | 343 => 108 | n => n, fun | 28 => 27 | 3 => 3 | 46 => 75 | 0 => 0 | 51 => 48 | 53 => 34 | 4 => 4 | 183 => 110 | 182 => 109 | 131 => 41 | 5 => 5 | 9 => 9 | 218 => 121 | 222 => 125 | 228 => 131 | 229 => 105 | n => n, fun | n => n⟩
theorem Try.lays189 : Go.Proofs.Lays.n189 Try.prog Try.lays189uren := {
  mixed := by kernel_rfl
  f125 := Try.func73.trans (congrArg some (by kernel_rfl))
  f128 := Try.func88.trans (congrArg some (by kernel_rfl))
  f129 := Try.func89.trans (congrArg some (by kernel_rfl))
  f189 := Try.func60.trans (congrArg some (by kernel_rfl))
  f215 := Try.func64.trans (congrArg some (by kernel_rfl))
  f216 := Try.func48.trans (congrArg some (by kernel_rfl))
  f257 := Try.func72.trans (congrArg some (by kernel_rfl))
  f294 := Try.func80.trans (congrArg some (by kernel_rfl))
  f295 := Try.func81.trans (congrArg some (by kernel_rfl))
  f296 := Try.func82.trans (congrArg some (by kernel_rfl))
  f297 := Try.func83.trans (congrArg some (by kernel_rfl))
  f298 := Try.func84.trans (congrArg some (by kernel_rfl))
  f299 := Try.func85.trans (congrArg some (by kernel_rfl))
  f300 := Try.func86.trans (congrArg some (by kernel_rfl))
  f301 := Try.func87.trans (congrArg some (by kernel_rfl))
  f328 := Try.func99.trans (congrArg some (by kernel_rfl))
  f329 := Try.func100.trans (congrArg some (by kernel_rfl))
  f330 := Try.func101.trans (congrArg some (by kernel_rfl))
  f331 := Try.func102.trans (congrArg some (by kernel_rfl))
  f332 := Try.func103.trans (congrArg some (by kernel_rfl))
  f343 := Try.func108.trans (congrArg some (by kernel_rfl))
  t0 := Try.underlying0
  a0 := Try.isAgg0
  z0 := Try.sizeOf0
  v0 := Try.zeroValue0
  t3 := Try.underlying3
  a3 := Try.isAgg3
  z3 := Try.sizeOf3
  v3 := Try.zeroValue3
  t4 := Try.underlying4
  a4 := Try.isAgg4
  z4 := Try.sizeOf4
  v4 := Try.zeroValue4
  t5 := Try.underlying5
  a5 := Try.isAgg5
  z5 := Try.sizeOf5
  v5 := Try.zeroValue5
  t9 := Try.underlying9
  a9 := Try.isAgg9
  z9 := Try.sizeOf9
  v9 := Try.zeroValue9
  t28 := Try.underlying27
  a28 := Try.isAgg27
  z28 := Try.sizeOf27
  v28 := Try.zeroValue27
  t46 := Try.underlying75
  a46 := Try.isAgg75
  z46 := Try.sizeOf75
  v46 := Try.zeroValue75
  t51 := Try.underlying48
  a51 := Try.isAgg48
  z51 := Try.sizeOf48
  v51 := Try.zeroValue48
  t53 := Try.underlying34
  a53 := Try.isAgg34
  z53 := Try.sizeOf34
  v53 := Try.zeroValue34
  t131 := Try.underlying41
  a131 := Try.isAgg41
  z131 := Try.sizeOf41
  v131 := Try.zeroValue41
  t182 := Try.underlying109
  a182 := Try.isAgg109
  z182 := Try.sizeOf109
  v182 := Try.zeroValue109
  t183 := Try.underlying110
  a183 := Try.isAgg110
  z183 := Try.sizeOf110
  v183 := Try.zeroValue110
  t218 := Try.underlying121
  a218 := Try.isAgg121
  z218 := Try.sizeOf121
  v218 := Try.zeroValue121
  t222 := Try.underlying125
  a222 := Try.isAgg125
  z222 := Try.sizeOf125
  v222 := Try.zeroValue125
  t228 := Try.underlying131
  a228 := Try.isAgg131
  z228 := Try.sizeOf131
  v228 := Try.zeroValue131
  t229 := Try.underlying105
  a229 := Try.isAgg105
  z229 := Try.sizeOf105
  v229 := Try.zeroValue105 }
open Go.Sort Go.RowKit in
theorem Try.slices_Sort_int (blk off cap : Nat) (zs : List Int) (w : World) (hH : Holds (Value.int .i64) w blk off zs.toArray) (hblk : blk < w.heap.size) (hsz : zs.length < 4611686018427387904) :
    Calls Try.prog 60 #[.slice (some ⟨blk, off, none⟩) zs.length cap] w fun e w' =>
      e = .returned (.tuple #[]) ∧ ∃ n os, w' = grow (putRow (Value.int .i64) (Sort.ahead w n) blk off (zs.mergeSort fun x y => decide (x ≤ y)).toArray) os := Any.slices_Sort_int Try.lays189 blk off cap zs w hH hblk hsz
open Go.RowKit Go.Sort in
theorem Try.slices_Sort_int_none (p : Option Addr) (cap : Nat) (w : World) :
    Calls Try.prog 60 #[.slice p 0 cap] w fun e w' => e = .returned (.tuple #[]) ∧ w' = w := Any.slices_Sort_int_none Try.lays189 p cap w
def Try.laysNm220uren : Go.Shelf.Ren := ⟨fun | 20 => 61 | n => n, fun | 22 => 27 | 3 => 3 | 4 => 4 | 0 => 0 | n => n, fun | n => n⟩
theorem Try.laysNm220 : Go.Proofs.Lays2.n20 Try.prog Try.laysNm220uren := {
  mixed := by kernel_rfl
  f20 := Try.func61.trans (congrArg some (by kernel_rfl))
  t0 := Try.underlying0
  a0 := Try.isAgg0
  z0 := Try.sizeOf0
  v0 := Try.zeroValue0
  t3 := Try.underlying3
  a3 := Try.isAgg3
  z3 := Try.sizeOf3
  v3 := Try.zeroValue3
  t4 := Try.underlying4
  a4 := Try.isAgg4
  z4 := Try.sizeOf4
  v4 := Try.zeroValue4
  t22 := Try.underlying27
  a22 := Try.isAgg27
  z22 := Try.sizeOf27
  v22 := Try.zeroValue27
  i3 := by kernel_rfl }
open Go.RowKit Go.Lib Go.Sort in
theorem Try.slices_Compact_int (blk off cap : Nat) (zs : List Int) (w : World) (hH : Holds (Value.int .i64) w blk off zs.toArray) (hsz : zs.length ≤ 9223372036854775807) (hcap : zs.length ≤ cap) :
    Calls Try.prog 61 #[.slice (some ⟨blk, off, none⟩) zs.length cap] w fun e w' => e = .returned (.slice (some ⟨blk, off, none⟩) (Lib.compact zs).length cap) ∧ ∃ q, w' = putRow (Value.int .i64) (Sort.ahead w q) blk off (Lib.compact zs ++ List.replicate (zs.length - (Lib.compact zs).length) 0).toArray := Any.slices_Compact_int Try.laysNm220 blk off cap zs w hH hsz hcap
open Go.RowKit Go.Lib Go.Sort in
theorem Try.slices_Compact_int_empty (a : Option Addr) (cap : Nat) (w : World) :
    Calls Try.prog 61 #[.slice a 0 cap] w fun e w' => e = .returned (.slice a 0 cap) ∧ w' = w := Any.slices_Compact_int_empty Try.laysNm220 a cap w
def Try.lays111uren : Go.Shelf.Ren := ⟨fun | 111 => 62 | n => n, fun | 28 => 27 | 3 => 3 | 4 => 4 | 0 => 0 | n => n, fun | n => n⟩
theorem Try.lays111 : Go.Proofs.Lays.n111 Try.prog Try.lays111uren := {
  mixed := by kernel_rfl
  f111 := Try.func62.trans (congrArg some (by kernel_rfl))
  t0 := Try.underlying0
  a0 := Try.isAgg0
  z0 := Try.sizeOf0
  v0 := Try.zeroValue0
  t3 := Try.underlying3
  a3 := Try.isAgg3
  z3 := Try.sizeOf3
  v3 := Try.zeroValue3
  t4 := Try.underlying4
  a4 := Try.isAgg4
  z4 := Try.sizeOf4
  v4 := Try.zeroValue4
  t28 := Try.underlying27
  a28 := Try.isAgg27
  z28 := Try.sizeOf27
  v28 := Try.zeroValue27 }
open Go.RowKit Go.Lib in
theorem Try.slices_Equal_int (b1 o1 n c b2 o2 m d : Nat) (xs ys : List Int) (w : World) (hx : n ≤ xs.length) (hy : m ≤ ys.length) (hbig : n ≤ 9223372036854775807) (hbig2 : m ≤ 9223372036854775807) (hc1 : ∀ j, j < xs.length → w.cell? ⟨b1, o1 + j, none⟩ = some (.int .i64 (xs.getD j 0))) (hc2 : ∀ j, j < ys.length → w.cell? ⟨b2, o2 + j, none⟩ = some (.int .i64 (ys.getD j 0))) :
    Calls Try.prog 62 #[.slice (some ⟨b1, o1, none⟩) n c, .slice (some ⟨b2, o2, none⟩) m d] w fun e w' => e = .returned (.bool (xs.take n == ys.take m)) ∧ ∃ q, w' = w.drewN q := Any.slices_Equal_int Try.lays111 b1 o1 n c b2 o2 m d xs ys w hx hy hbig hbig2 hc1 hc2
open Go.RowKit Go.Lib in
theorem Try.slices_Equal_int_empty (a1 a2 : Option Addr) (c m d : Nat) (w : World) (hbig2 : m ≤ 9223372036854775807) :
    Calls Try.prog 62 #[.slice a1 0 c, .slice a2 m d] w fun e w' => e = .returned (.bool (decide (m = 0))) ∧ w' = w := Any.slices_Equal_int_empty Try.lays111 a1 a2 c m d w hbig2
open Go.RowKit Go.Lib in
theorem Try.slices_Equal_int_lens (a1 a2 : Option Addr) (n c m d : Nat) (w : World) (hnm : n ≠ m) :
    Calls Try.prog 62 #[.slice a1 n c, .slice a2 m d] w fun e w' => e = .returned (.bool false) ∧ w' = w := Any.slices_Equal_int_lens Try.lays111 a1 a2 n c m d w hnm
def Try.laysNm225uren : Go.Shelf.Ren := ⟨fun | 25 => 34 | 31 => 48 | 32 => 49 | 37 => 64 | n => n, fun | 22 => 27 | 3 => 3 | 4 => 4 | 40 => 75 | 0 => 0 | n => n, fun | n => n⟩
theorem Try.laysNm225 : Go.Proofs.Lays2.n25 Try.prog Try.laysNm225uren := {
  mixed := by kernel_rfl
  f25 := Try.func34.trans (congrArg some (by kernel_rfl))
  f31 := Try.func48.trans (congrArg some (by kernel_rfl))
  f32 := Try.func49.trans (congrArg some (by kernel_rfl))
  f37 := Try.func64.trans (congrArg some (by kernel_rfl))
  t0 := Try.underlying0
  a0 := Try.isAgg0
  z0 := Try.sizeOf0
  v0 := Try.zeroValue0
  t3 := Try.underlying3
  a3 := Try.isAgg3
  z3 := Try.sizeOf3
  v3 := Try.zeroValue3
  t4 := Try.underlying4
  a4 := Try.isAgg4
  z4 := Try.sizeOf4
  v4 := Try.zeroValue4
  t22 := Try.underlying27
  a22 := Try.isAgg27
  z22 := Try.sizeOf27
  v22 := Try.zeroValue27
  t40 := Try.underlying75
  a40 := Try.isAgg75
  z40 := Try.sizeOf75
  v40 := Try.zeroValue75 }
open Go.RowKit Go.Lib in
theorem Try.slices_BinarySearch_int (b off n c : Nat) (zs : List Int) (x : Int) (w : World) (hz : n ≤ zs.length) (hbig : n < 4611686018427387904) (hc : ∀ j, j < zs.length → w.cell? ⟨b, off + j, none⟩ = some (.int .i64 (zs.getD j 0))) (hs : (zs.take n).Pairwise (· ≤ ·)) :
    Calls Try.prog 34 #[.slice (some ⟨b, off, none⟩) n c, .int .i64 x] w fun e w' => e = .returned (.tuple #[.int .i64 ((zs.take n).countP (· < x) : Nat), .bool ((zs.take n).contains x)]) ∧ ∃ q, w' = w.drewN q := Any.slices_BinarySearch_int Try.laysNm225 b off n c zs x w hz hbig hc hs
open Go.RowKit Go.Lib in
theorem Try.slices_BinarySearch_int_empty (a : Option Addr) (c : Nat) (x : Int) (w : World) :
    Calls Try.prog 34 #[.slice a 0 c, .int .i64 x] w fun e w' => e = .returned (.tuple #[.int .i64 0, .bool false]) ∧ w' = w := Any.slices_BinarySearch_int_empty Try.laysNm225 a c x w
end Go.Proofs
/- Contracts: lists of numbers put together, sorted, cleared of doubles: merge. -/
namespace Go.Rad
open Go Go.Proofs
set_option linter.all false
set_option maxRecDepth 20000
set_option maxHeartbeats 4000000

def lsV (ls : List (Bool × Bool × List Int)) : List (List AVal) := ls.map fun x => [.sl x.1 x.2.1 (ints x.2.2)]
theorem lsV_len (ls : List (Bool × Bool × List Int)) : (lsV ls).length = ls.length := by simp [lsV]
def catL (ls : List (Bool × Bool × List Int)) : List Int := ls.flatMap (·.2.2)
theorem catL_one {ls : List (Bool × Bool × List Int)} {i : Nat} {q f : Bool} {l : List Int} (h : ls[i]? = some (q, f, l)) : catL (ls.take (i + 1)) = catL (ls.take i) ++ l ∧ (catL (ls.take (i + 1))).length ≤ (catL ls).length := by
  have h1 : catL (ls.take (i + 1)) = catL (ls.take i) ++ l := by rw [take_one h]; simp [catL]
  refine ⟨h1, ?_⟩
  have : catL ls = catL (ls.take (i + 1)) ++ catL (ls.drop (i + 1)) := by rw [catL, catL, catL, ← List.flatMap_append, List.take_append_drop]
  rw [this, List.length_append]; omega
theorem concat_c (hG : GrowRuns Try.prog 71) (ls : List (Bool × Bool × List Int)) (q f : Bool) (hn : ls.length ≤ 1000) (hb : (catL ls).length ≤ 100000000) : ACall Try.prog 59 [.sl q f (lsV ls)] [] fun r s => ∃ g, r = .osl 24 g 0 (catL ls).length ∧ s = [(24, (g, .row 1 (ints (catL ls))))] := by
  have hlen := lsV_len ls
  have hgr : ACall Try.prog 71 [.sl true true [], .int .i64 ((catL ls).length : Nat)] [] fun r s => ∃ g, r = .osl 1000 g 0 0 ∧ s = [(1000, (g, .row 1 []))] := ACall.growNil ⟨_, Try.func71, by kernel_rfl, rfl⟩ hG 1000 (catL ls).length (by omega)
  have e0 : ([] : List (List AVal)) = ints [] := rfl
  refine ACall.enter Try.func59 rfl (by kernel_rfl) (Nat.le_of_ble_eq_true rfl) ?_; simp only [initTm, Nat.reduceAdd]
  repeat' (first
  | refine gSq ?_ | refine gSk ?_ | refine gBl ?_ | refine gIb ?_ | refine gEx rfl ?_
  | ((first
  | (refine gRg [] [0, 2, 3, 5, 6, 8, 9, 10, 11, 12, 20, 25, 26, 27, 28] ?_; intro K hK)
  | (refine gd_split ?_ ?_ <;> intro hb <;> (try simp only [bls] at hb) <;> (try simp only [hb]))
  | refine gRt [] [.tmp 2] rfl ?_ | refine gDn [] [.tmp 2] rfl ?_) <;> (try simp only [go_sem, simprocAttr, hlen]))
  | (refine hK _ _ ?_; clear hK K; simp only [go_sem, simprocAttr])
  | refine gCd (by simp only [go_sem, simprocAttr]; rfl) rfl ?_
  | refine brT ?_ | refine brF ?_
  | (refine brS ?_ ?_ <;> intro hc <;> (try simp only [bls] at hc) <;> (try simp only [hc, bls]))
  | intro _ | refine And.intro ?_ ?_)
  all_goals first | omega | (unfold bigLen; omega) | exact ⟨_, _, ⟨rfl, rfl⟩, rfl⟩ | exact ⟨_, rfl⟩ | (rename_i hy; simp only [List.mem_singleton] at hy; subst hy; rfl) | with_reducible rfl | skip
  refine AGood.prune [0, 2, 3, 9, 10, 11] ?_; simp only [go_sem, simprocAttr]
  refine AGood.loopInv (α := Nat) (fun i => ([(0, .sl q f (lsV ls)), (2, .sl true true []), (3, .int .i64 (catL (ls.take i)).length), (9, .sl q f (lsV ls)), (10, .int .i64 ls.length), (11, .int .i64 i)], [])) (fun i => i ≤ ls.length) (fun i => ls.length - i) 0 (Nat.zero_le _) (by simp [catL]) ?_
  rintro i hi ih
  simp only at hi ih ⊢
  by_cases hle : i < ls.length
  · have e4 : (i : Int) < ls.length := by omega
    have e5 : (0 : Int) ≤ i := by omega
    have e7 : (i : Int) + 1 = ((i + 1 : Nat) : Int) := by omega
    obtain ⟨⟨q1, f1, l1⟩, hx⟩ : ∃ x, ls[i]? = some x := ⟨_, List.getElem?_eq_getElem hle⟩
    have hv : (lsV ls)[i]? = some [.sl q1 f1 (ints l1)] := by simp [lsV, hx]
    obtain ⟨hc, hs⟩ := catL_one hx
    have e8 : ((catL (ls.take i)).length : Int) + (l1.length : Int) = ((catL (ls.take (i + 1))).length : Int) := by rw [hc]; simp
    have e9 : ¬ ((catL (ls.take (i + 1))).length : Int) < 0 := by omega
    have e10 : (ints l1).length = l1.length := by simp
    repeat' (first
  | refine gSq ?_ | refine gSk ?_ | refine gBl ?_ | refine gIb ?_ | refine gEx rfl ?_
  | ((first
  | (refine gRg [] [0, 2, 3, 5, 6, 8, 9, 10, 11, 12, 20, 25, 26, 27, 28] ?_; intro K hK)
  | (refine gd_split ?_ ?_ <;> intro hb <;> (try simp only [bls] at hb) <;> (try simp only [hb]))
  | refine gRt [] [.tmp 2] rfl ?_ | refine gDn [] [.tmp 2] rfl ?_) <;> (try simp only [go_sem, simprocAttr, hlen, e4, e5, e7, e8, e9, e10, hv, ixA_sl, Option.some.injEq, forall_eq']))
  | (refine hK _ _ ?_; clear hK K; simp only [go_sem, simprocAttr])
  | refine gCd (by simp only [go_sem, simprocAttr]; rfl) rfl ?_
  | refine brT ?_ | refine brF ?_
  | (refine brS ?_ ?_ <;> intro hc <;> (try simp only [bls] at hc) <;> (try simp only [hc, bls]))
  | intro _ | refine And.intro ?_ ?_)
    all_goals first | omega | (unfold bigLen; omega) | exact ⟨_, _, ⟨rfl, rfl⟩, rfl⟩ | exact ⟨_, rfl⟩ | (rename_i hy; simp only [List.mem_singleton] at hy; subst hy; rfl) | with_reducible rfl | skip
    refine AGood.filt [] ?_
    simp only [sf_cons, sf_nil, go_sem, simprocAttr]
    refine AGood.prune [0, 2, 3, 9, 10, 11] ?_; simp only [go_sem, simprocAttr]
    exact (ih (i + 1) (by omega) (by omega)).cast rfl rfl
  · have e4 : ¬ (i : Int) < ls.length := by omega
    rw [List.take_of_length_le (by omega)]
    clear ih
    repeat' (first
  | refine gSq ?_ | refine gSk ?_ | refine gBl ?_ | refine gIb ?_ | refine gEx rfl ?_
  | ((first
  | (refine gRg [] [0, 2, 3, 5, 6, 8, 9, 10, 11, 12, 20, 25, 26, 27, 28] ?_; intro K hK)
  | (refine ACall.use [(1000, 24)] [] rfl hgr rfl rfl rfl ?_; rintro _ _ ⟨h24, rfl, rfl⟩; refine ⟨.inl rfl, rfl, ?_⟩; simp only [bk, bk2, bk1, bkS, bkO, idOf, delAll, go_sem, simprocAttr])
  | (refine gd_split ?_ ?_ <;> intro hb <;> (try simp only [bls] at hb) <;> (try simp only [hb]))
  | refine gRt [] [.tmp 2] rfl ?_ | refine gDn [] [.tmp 2] rfl ?_) <;> (try simp only [go_sem, simprocAttr, hlen, e4]))
  | (refine hK _ _ ?_; clear hK K; simp only [go_sem, simprocAttr])
  | refine gCd (by simp only [go_sem, simprocAttr]; rfl) rfl ?_
  | refine brT ?_ | refine brF ?_
  | (refine brS ?_ ?_ <;> intro hc <;> (try simp only [bls] at hc) <;> (try simp only [hc, bls]))
  | intro _ | refine And.intro ?_ ?_)
    all_goals first | omega | (unfold bigLen; omega) | exact ⟨_, _, ⟨rfl, rfl⟩, rfl⟩ | exact ⟨_, rfl⟩ | (rename_i hy; simp only [List.mem_singleton] at hy; subst hy; rfl) | with_reducible rfl | skip
    refine AGood.prune [6, 25, 26, 27] ?_; simp only [go_sem, simprocAttr]
    refine AGood.loopInv (α := Nat × Nat) (fun x => ([(6, .osl 24 x.2 0 (catL (ls.take x.1)).length), (25, .sl q f (lsV ls)), (26, .int .i64 ls.length), (27, .int .i64 x.1)], [(24, (x.2, .row 1 (ints (catL (ls.take x.1)))))])) (fun x => x.1 ≤ ls.length) (fun x => ls.length - x.1) (0, h24) (Nat.zero_le _) (by simp [catL]) ?_
    rintro ⟨i, g⟩ hi ih
    simp only at hi ih ⊢
    by_cases hle : i < ls.length
    · have e4 : (i : Int) < ls.length := by omega
      have e5 : (0 : Int) ≤ i := by omega
      have e7 : (i : Int) + 1 = ((i + 1 : Nat) : Int) := by omega
      obtain ⟨⟨q1, f1, l1⟩, hx⟩ : ∃ x, ls[i]? = some x := ⟨_, List.getElem?_eq_getElem hle⟩
      have hv : (lsV ls)[i]? = some [.sl q1 f1 (ints l1)] := by simp [lsV, hx]
      obtain ⟨hc, hs⟩ := catL_one hx
      have e8 : (ints (catL (ls.take i))).length + (ints l1).length = (catL (ls.take (i + 1))).length := by rw [hc]; simp
      have e9 : (ints (catL (ls.take i))).length = (catL (ls.take i)).length := by simp
      repeat' (first
  | refine gSq ?_ | refine gSk ?_ | refine gBl ?_ | refine gIb ?_ | refine gEx rfl ?_
  | ((first
  | (refine gRg [] [0, 2, 3, 5, 6, 8, 9, 10, 11, 12, 20, 25, 26, 27, 28] ?_; intro K hK)
  | (refine gd_split ?_ ?_ <;> intro hb <;> (try simp only [bls] at hb) <;> (try simp only [hb]))
  | refine gRt [] [.tmp 2] rfl ?_ | refine gDn [] [.tmp 2] rfl ?_) <;> (try simp only [go_sem, simprocAttr, hlen, e4, e5, e7, hv, ixA_sl, Option.some.injEq, forall_eq']))
  | (refine hK _ _ ?_; clear hK K; simp only [go_sem, simprocAttr])
  | refine gCd (by simp only [go_sem, simprocAttr]; rfl) rfl ?_
  | refine brT ?_ | refine brF ?_
  | (refine brS ?_ ?_ <;> intro hc <;> (try simp only [bls] at hc) <;> (try simp only [hc, bls]))
  | intro _ | refine And.intro ?_ ?_)
      all_goals first | omega | (unfold bigLen; omega) | exact ⟨_, _, ⟨rfl, rfl⟩, rfl⟩ | exact ⟨_, rfl⟩ | (rename_i hy; simp only [List.mem_singleton] at hy; subst hy; rfl) | with_reducible rfl | skip
      · rename_i y hy; obtain ⟨x, _, rfl⟩ := List.mem_map.1 hy; rfl
      · rename_i y hy; obtain ⟨x, _, rfl⟩ := List.mem_map.1 hy; rfl
      · have h9 : (catL (ls.take (i + 1))).length = (catL (ls.take i)).length + l1.length := by rw [hc]; simp
        unfold bigLen; omega
      · have h9 : (catL (ls.take (i + 1))).length = (catL (ls.take i)).length + l1.length := by rw [hc]; simp
        unfold bigLen; omega
      rename_i h9
      refine AGood.filt [24] ?_
      simp only [sf_cons, sf_nil, go_sem, simprocAttr]
      refine AGood.prune [6, 25, 26, 27] ?_; simp only [go_sem, simprocAttr]
      exact AGood.cast (ih (i + 1, h9) (by simp only; omega) (by simp only; omega)) (by simp [hc]) (by simp [hc])
    · have e4 : ¬ (i : Int) < ls.length := by omega
      rw [List.take_of_length_le (by omega)]
      clear ih
      repeat' (first
  | refine gSq ?_ | refine gSk ?_ | refine gBl ?_ | refine gIb ?_ | refine gEx rfl ?_
  | ((first
  | (refine gRg [] [0, 2, 3, 5, 6, 8, 9, 10, 11, 12, 20, 25, 26, 27, 28] ?_; intro K hK)
  | (refine gd_split ?_ ?_ <;> intro hb <;> (try simp only [bls] at hb) <;> (try simp only [hb]))
  | refine gRt [24] [.tmp 2] rfl ?_ | refine gDn [24] [.tmp 2] rfl ?_) <;> (try simp only [go_sem, simprocAttr, hlen, e4]))
  | (refine hK _ _ ?_; clear hK K; simp only [go_sem, simprocAttr])
  | refine gCd (by simp only [go_sem, simprocAttr]; rfl) rfl ?_
  | refine brT ?_ | refine brF ?_
  | (refine brS ?_ ?_ <;> intro hc <;> (try simp only [bls] at hc) <;> (try simp only [hc, bls]))
  | intro _ | refine And.intro ?_ ?_)
      all_goals first | omega | (unfold bigLen; omega) | exact ⟨_, _, ⟨rfl, rfl⟩, rfl⟩ | exact ⟨_, rfl⟩ | (rename_i hy; simp only [List.mem_singleton] at hy; subst hy; rfl) | with_reducible rfl | skip
      exact ⟨_, rfl, rfl⟩
theorem merge_c (hG : GrowRuns Try.prog 71) (q f q' f' : Bool) (a b : List Int) (h : a.length + b.length ≤ 100000000) : ACall Try.prog 43 [.sl q f (ints a), .sl q' f' (ints b)] [] fun r s => r = .sl true false (ints (Lib.compact (sortI (a ++ b)))) ∧ s = [] := by
  obtain ⟨X, hX⟩ : ∃ X, X = a ++ b := ⟨_, rfl⟩
  have hcc : ∀ q0 f0, ACall Try.prog 59 [.sl q0 f0 [[.sl q false (ints a)], [.sl q' false (ints b)]]] [] fun r s => ∃ g, r = .osl 24 g 0 X.length ∧ s = [(24, (g, .row 1 (ints X)))] := fun q0 f0 => by
    have := concat_c hG [(q, false, a), (q', false, b)] q0 f0 (by simp) (by simp [catL]; omega)
    have hc : catL [(q, false, a), (q', false, b)] = X := by rw [hX]; simp [catL]
    rw [hc] at this
    exact this
  rw [← hX]
  obtain ⟨Y, hY⟩ : ∃ Y, Y = sortI X := ⟨_, rfl⟩
  have hYl : Y.length = X.length := by rw [hY, sortI_len]
  have hso : ∀ g, ACall Try.prog 60 [.osl 1000 g 0 X.length] [(1000, (g, .row 1 (ints X)))] fun r s => r = .tup [] ∧ s = [(1000, (g, .row 1 (ints Y)))] := fun g => by
    rw [hY]
    exact ACall.sortInts ⟨_, Try.func60, by kernel_rfl, rfl⟩ Try.slices_Sort_int Try.slices_Sort_int_none 1000 g X
  have hco : ∀ g, ACall Try.prog 61 [.osl 1000 g 0 X.length] [(1000, (g, .row 1 (ints Y)))] fun r s => r = .osl 1000 g 0 (Lib.compact Y).length ∧ s = [(1000, (g, .row 1 (ints (Lib.compact Y))))] := fun g => by
    rw [← hYl]
    exact ACall.compactInts ⟨_, Try.func61, by kernel_rfl, rfl⟩ Try.slices_Compact_int Try.slices_Compact_int_empty 1000 g Y
  rw [← hY]
  generalize Lib.compact Y = Z at hco ⊢
  have hZ : (ints Z).length = Z.length := by simp
  refine ACall.give (id := 9) (ACall.mono (R := fun r s => ∃ g, r = .osl 9 g 0 Z.length ∧ s = [(9, (g, .row 1 (ints Z)))]) ?_ fun r s h => by rw [hZ]; exact h)
  clear hG hX hY hYl hZ
  refine ACall.enter Try.func43 rfl (by kernel_rfl) (Nat.le_of_ble_eq_true rfl) ?_; simp only [initTm, Nat.reduceAdd]
  repeat' (first
  | refine gSq ?_ | refine gSk ?_ | refine gBl ?_ | refine gIb ?_ | refine gEx rfl ?_
  | ((first
  | (refine gRg [8] [0, 1, 4, 5] ?_; intro K hK)
  | (refine ACall.use [(24, 9)] [] rfl (hcc _ _) rfl rfl rfl ?_; rintro _ _ ⟨h9, rfl, rfl⟩; refine ⟨.inl rfl, rfl, ?_⟩; simp only [bk, bk2, bk1, bkS, bkO, idOf, delAll, go_sem, simprocAttr])
  | (refine ACall.use [(1000, 9)] [] rfl (hso _) rfl rfl rfl ?_; rintro _ _ ⟨rfl, rfl⟩; refine ⟨.inl rfl, rfl, ?_⟩; simp only [bk, bk2, bk1, bkS, bkO, idOf, delAll, go_sem, simprocAttr])
  | (refine ACall.use [(1000, 9)] [] rfl (hco _) rfl rfl rfl ?_; rintro _ _ ⟨rfl, rfl⟩; refine ⟨.inl rfl, rfl, ?_⟩; simp only [bk, bk2, bk1, bkS, bkO, idOf, delAll, go_sem, simprocAttr])
  | (refine gd_split ?_ ?_ <;> intro hb <;> (try simp only [bls] at hb) <;> (try simp only [hb]))
  | refine gRt [9] [.tmp 4] rfl ?_ | refine gDn [9] [.tmp 4] rfl ?_) <;> (try simp only [go_sem, simprocAttr]))
  | (refine hK _ _ ?_; clear hK K; simp only [go_sem, simprocAttr])
  | refine gCd (by simp only [go_sem, simprocAttr]; rfl) rfl ?_
  | refine brT ?_ | refine brF ?_
  | (refine brS ?_ ?_ <;> intro hc <;> (try simp only [bls] at hc) <;> (try simp only [hc, bls]))
  | intro _ | refine And.intro ?_ ?_)
  all_goals first | omega | (unfold bigLen; omega) | exact ⟨_, _, ⟨rfl, rfl⟩, rfl⟩ | exact ⟨_, rfl⟩ | (rename_i hy; simp only [List.mem_singleton] at hy; subst hy; rfl) | with_reducible rfl | skip
  exact ⟨_, rfl, rfl⟩
end Go.Rad
/- The library's Equal and BinarySearch at lists of integers, as contracts over frozen lists. -/
namespace Go.Rad
open Go
theorem ints_rep {G : Gh} {w : World} (hw : WOk G w) {q full : Bool} {l : List Int} {v : Value} (h : Rep G true (.sl q full (ints l)) v) :
    ∃ a cap, v = .slice a l.length cap ∧ l.length ≤ maxLen ∧ (l ≠ [] → ∃ b off, a = some ⟨b, off, none⟩ ∧ ∀ j, j < l.length → w.cell? ⟨b, off + j, none⟩ = some (.int .i64 (l.getD j 0))) := by
  rcases List.eq_nil_or_concat l with rfl | hl
  · obtain ⟨a, cap, h1, _, h3, _⟩ := Rep.sl_len h
    exact ⟨a, cap, h1, h3, fun h => absurd rfl h⟩
  · have hl : l ≠ [] := by obtain ⟨a, b, rfl⟩ := hl; simp
    generalize hx : ints l = xs at h
    cases h with
    | slnil _ => exact absurd (by simpa using hx) hl
    | sl h1 h2 h3 h4 h5 h6 h7 h8 h9 =>
      rename_i cap b off c e fr esz
      subst hx
      have hlen : (ints l).length = l.length := by simp
      refine ⟨_, cap, by rw [hlen], by rw [← hlen]; exact h3, fun _ => ⟨b, off, rfl, fun j hj => ?_⟩⟩
      have hj2 : (ints l)[j]? = some [.int .i64 l[j]] := by simp [hj]
      have he : esz = 1 := (h7 j _ hj2).symm
      subst he
      have hr := h9 j 0 [.int .i64 l[j]] (.int .i64 l[j]) hj2 rfl
      obtain ⟨h10, _⟩ := Rep.int_inv' hr
      have hb := hw.F b _ h5
      have hlt : off + j < c.size := by rw [hlen] at h6; omega
      rw [show off + j * 1 + 0 = off + j by omega, Array.getD_eq_getD_getElem?, Array.getElem?_eq_getElem hlt, Option.getD_some] at h10
      rw [cell_of_row w b (off + j) c e fr hb, Array.getElem?_eq_getElem hlt, h10]
      simp [hj]
def EqualRuns (P : Program) (f : Nat) : Prop :=
  (∀ (a1 a2 : Option Addr) (n c m d : Nat) (w : World), n ≠ m → Calls P f #[.slice a1 n c, .slice a2 m d] w fun e w' => e = .returned (.bool false) ∧ w' = w) ∧
  (∀ (a1 a2 : Option Addr) (c m d : Nat) (w : World), m ≤ 9223372036854775807 → Calls P f #[.slice a1 0 c, .slice a2 m d] w fun e w' => e = .returned (.bool (decide (m = 0))) ∧ w' = w) ∧
  ∀ (b1 o1 n c b2 o2 m d : Nat) (xs ys : List Int) (w : World), n ≤ xs.length → m ≤ ys.length → n ≤ 9223372036854775807 → m ≤ 9223372036854775807 →
    (∀ j, j < xs.length → w.cell? ⟨b1, o1 + j, none⟩ = some (.int .i64 (xs.getD j 0))) → (∀ j, j < ys.length → w.cell? ⟨b2, o2 + j, none⟩ = some (.int .i64 (ys.getD j 0))) →
    Calls P f #[.slice (some ⟨b1, o1, none⟩) n c, .slice (some ⟨b2, o2, none⟩) m d] w fun e w' => e = .returned (.bool (xs.take n == ys.take m)) ∧ ∃ q, w' = w.drewN q
theorem two_args {G : Gh} {x y : AVal} {cargs : Array Value} {v u : Value} (ha : ArgsRep G [x, y] cargs) (h0 : cargs.getD 0 undef = v) (h1 : cargs.getD 1 undef = u) : cargs = #[v, u] := by
  have hs : cargs.size = 2 := by have := ha.1; simp at this; omega
  refine Array.ext (by simp [hs]) fun i h4 h5 => ?_
  have : i = 0 ∨ i = 1 := by simp at h5; omega
  rcases this with rfl | rfl
  · simpa [Array.getD, hs] using h0
  · simpa [Array.getD, hs] using h1
theorem drewN_ok {G : Gh} {w : World} {sto : Sto} (hw : WOk G w) (hs : StoOk G w sto) (q : Nat) : WOk G (w.drewN q) ∧ StoOk G (w.drewN q) sto :=
  world_grown (w := w) (w' := w.drewN q) ⟨rfl, rfl⟩ hw hs (Nat.le_refl _) (fun _ _ => rfl)
theorem ACall.equalInts {P : Program} {f : Nat} (able : Callable P f) (hE : EqualRuns P f) (q1 f1 q2 f2 : Bool) (a b : List Int) : ACall P f [.sl q1 f1 (ints a), .sl q2 f2 (ints b)] [] fun r s => r = .bool (decide (a = b)) ∧ s = [] := by
  refine ⟨able, fun G w cargs hw hs ha => ?_⟩
  obtain ⟨p1, c1, hv1, hm1, hc1⟩ := ints_rep hw (ha.2 0 _ rfl)
  obtain ⟨p2, c2, hv2, hm2, hc2⟩ := ints_rep hw (ha.2 1 _ rfl)
  rw [two_args ha hv1 hv2]
  by_cases hl : a.length = b.length
  · rcases List.eq_nil_or_concat a with rfl | hne
    · refine (hE.2.1 p1 p2 c1 b.length c2 w hm2).mono fun e w' h => ?_
      obtain ⟨rfl, rfl⟩ := h
      have : b = [] := List.eq_nil_of_length_eq_zero hl.symm
      subst this
      exact ⟨G, _, .bool true, [], rfl, .refl G, hw, hs, .bool, rfl, rfl⟩
    · have hne : a ≠ [] := by obtain ⟨x, y, rfl⟩ := hne; simp
      have hne2 : b ≠ [] := fun e => hne (List.eq_nil_of_length_eq_zero (by rw [hl, e]; rfl))
      obtain ⟨b1, o1, rfl, hx⟩ := hc1 hne
      obtain ⟨b2, o2, rfl, hy⟩ := hc2 hne2
      refine (hE.2.2 b1 o1 a.length c1 b2 o2 b.length c2 a b w (Nat.le_refl _) (Nat.le_refl _) hm1 hm2 hx hy).mono fun e w' h => ?_
      obtain ⟨rfl, n, rfl⟩ := h
      obtain ⟨h1, h2⟩ := drewN_ok hw hs n
      refine ⟨G, _, .bool (decide (a = b)), [], rfl, .refl G, h1, h2, ?_, rfl, rfl⟩
      rw [List.take_length, List.take_length, show (a == b) = decide (a = b) by by_cases h : a = b <;> simp [h]]
      exact .bool
  · refine (hE.1 p1 p2 a.length c1 b.length c2 w hl).mono fun e w' h => ?_
    obtain ⟨rfl, rfl⟩ := h
    exact ⟨G, _, .bool false, [], rfl, .refl G, hw, hs, .bool, by rw [decide_eq_false fun e => hl (by rw [e])], rfl⟩
def SeekRuns (P : Program) (f : Nat) : Prop :=
  (∀ (a : Option Addr) (c : Nat) (x : Int) (w : World), Calls P f #[.slice a 0 c, .int .i64 x] w fun e w' => e = .returned (.tuple #[.int .i64 0, .bool false]) ∧ w' = w) ∧
  ∀ (b off n c : Nat) (zs : List Int) (x : Int) (w : World), n ≤ zs.length → n < 4611686018427387904 → (∀ j, j < zs.length → w.cell? ⟨b, off + j, none⟩ = some (.int .i64 (zs.getD j 0))) → (zs.take n).Pairwise (· ≤ ·) →
    Calls P f #[.slice (some ⟨b, off, none⟩) n c, .int .i64 x] w fun e w' => e = .returned (.tuple #[.int .i64 ((zs.take n).countP (· < x) : Nat), .bool ((zs.take n).contains x)]) ∧ ∃ q, w' = w.drewN q
theorem ACall.seekInts {P : Program} {f : Nat} (able : Callable P f) (hE : SeekRuns P f) (q1 f1 : Bool) (a : List Int) (x : Int) (hl : a.length ≤ 1000000000) (hs : a.Pairwise (· ≤ ·)) : ACall P f [.sl q1 f1 (ints a), .int .i64 x] [] fun r s => r = .tup [.int .i64 (a.countP (· < x) : Nat), .bool (a.contains x)] ∧ s = [] := by
  refine ⟨able, fun G w cargs hw hst ha => ?_⟩
  obtain ⟨p1, c1, hv1, _, hc1⟩ := ints_rep hw (ha.2 0 _ rfl)
  obtain ⟨hv2, _⟩ := Rep.int_inv' (ha.2 1 _ rfl)
  rw [two_args ha hv1 hv2]
  have rep : ∀ (n : Nat) (t : Bool), n ≤ 1000000000 → Rep G true (.tup [.int .i64 (n : Int), .bool t]) (.tuple #[.int .i64 (n : Int), .bool t]) := fun n t hn => .tup rfl fun j y hy => by
    match j, hy with
    | 0, hy => cases hy; exact .int ⟨by show (-9223372036854775808 : Int) ≤ _; omega, by show _ ≤ (9223372036854775807 : Int); omega⟩
    | 1, hy => cases hy; exact .bool
  rcases List.eq_nil_or_concat a with rfl | hne
  · refine (hE.1 p1 c1 x w).mono fun e w' h => ?_
    obtain ⟨rfl, rfl⟩ := h
    exact ⟨G, _, _, [], rfl, .refl G, hw, hst, rep 0 false (by omega), rfl, rfl⟩
  · have hne : a ≠ [] := by obtain ⟨x, y, rfl⟩ := hne; simp
    obtain ⟨b1, o1, rfl, hx⟩ := hc1 hne
    refine (hE.2 b1 o1 a.length c1 a x w (Nat.le_refl _) (by omega) hx (by rw [List.take_length]; exact hs)).mono fun e w' h => ?_
    obtain ⟨rfl, n, rfl⟩ := h
    obtain ⟨h1, h2⟩ := drewN_ok hw hst n
    refine ⟨G, _, _, [], rfl, .refl G, h1, h2, rep _ _ ?_, ?_, rfl⟩
    · rw [List.take_length]; exact Nat.le_trans (List.countP_le_length) hl
    · rw [List.take_length]
end Go.Rad
/- The library's Grow at this program: the laying in the plain words of the shelf's tools; what it does at an empty list. -/
namespace Go.Proofs
open Go.Shelf
def Try.growI_ren : Go.Shelf.Ren := ⟨fun | 4 => 71 | n => n, fun | 22 => 27 | 25 => 3 | 3 => 3 | 4 => 4 | 9 => 9 | 20 => 20 | 0 => 0 | n => n, fun | n => n⟩
theorem Try.growI : Go.Proofs.Lays8.n4 Try.prog Try.growI_ren := {
  mixed := by kernel_rfl
  f4 := ⟨Try.f71.name, by decide, Try.func71.trans (congrArg some (by kernel_rfl))⟩
  t0 := Try.underlying0
  a0 := Try.isAgg0
  z0 := Try.sizeOf0
  v0 := Try.zeroValue0
  t3 := Try.underlying3
  a3 := Try.isAgg3
  z3 := Try.sizeOf3
  v3 := Try.zeroValue3
  t4 := Try.underlying4
  a4 := Try.isAgg4
  z4 := Try.sizeOf4
  v4 := Try.zeroValue4
  t9 := Try.underlying9
  a9 := Try.isAgg9
  z9 := Try.sizeOf9
  v9 := Try.zeroValue9
  t20 := Try.underlying20
  a20 := Try.isAgg20
  z20 := Try.sizeOf20
  v20 := Try.zeroValue20
  t22 := Try.underlying27
  a22 := Try.isAgg27
  z22 := Try.sizeOf27
  v22 := Try.zeroValue27 }
end Go.Proofs
namespace Go.Rad
open Go Go.Proofs
theorem growRuns : GrowRuns Try.prog 71 := by
  refine ⟨fun a w => ?_, fun a n w h0 hn => ?_⟩
  · exact Any8.slices_Grow_room Try.growI a 0 0 0 w (Nat.le_refl _) (by omega) (by omega) (Nat.le_refl _)
  · have h := Any8.slices_Grow_grow Try.growI Try.t3 (.int .i64 0) (by kernel_rfl) (by kernel_rfl) (by decide) a 0 0 n [] w (Nat.le_refl _) (by omega) (by show (0 + n) * 8 ≤ _; omega) (by omega) rfl (fun _ => rfl) (fun _ _ j v hv => by simp at hv)
    refine h.mono fun e w' h => ?_
    obtain ⟨h1, h2⟩ := h
    have hg := grown_facts (w := w) (need := 0 + n) (old := 0) (e := Try.growI_ren.t 25) (by unfold bigLen; omega)
    refine ⟨_, _, _, hg.2, ?_, h1, h2⟩
    have hz : (Value.int IntKind.i64 0).cells.size = 1 := rfl
    simp only [Array.size_append, Go.size_zeroCells, hz]
    generalize grownCap w (0 + n) 0 (Try.growI_ren.t 25) = C at hg ⊢
    simp
    omega
theorem equalI_c (q f q' f' : Bool) (a b : List Int) : ACall Try.prog 62 [.sl q f (ints a), .sl q' f' (ints b)] [] fun r s => r = .bool (decide (a = b)) ∧ s = [] :=
  ACall.equalInts ⟨_, Try.func62, by kernel_rfl, rfl⟩ ⟨Try.slices_Equal_int_lens, Try.slices_Equal_int_empty, fun b1 o1 n c b2 o2 m d xs ys w h1 h2 h3 h4 h5 h6 => Try.slices_Equal_int b1 o1 n c b2 o2 m d xs ys w h1 h2 h3 h4 h5 h6⟩ q f q' f' a b
theorem seekI_c (q f : Bool) (a : List Int) (x : Int) (hl : a.length ≤ 1000000000) (hs : a.Pairwise (· ≤ ·)) : ACall Try.prog 34 [.sl q f (ints a), .int .i64 x] [] fun r s => r = .tup [.int .i64 (a.countP (· < x) : Nat), .bool (a.contains x)] ∧ s = [] :=
  ACall.seekInts ⟨_, Try.func34, by kernel_rfl, rfl⟩ ⟨Try.slices_BinarySearch_int_empty, fun b off n c zs x w h1 h2 h3 h4 => Try.slices_BinarySearch_int b off n c zs x w h1 h2 h3 h4⟩ q f a x hl hs
end Go.Rad
/- Rising lists of integers: what sorting and clearing of doubles leaves. -/
namespace Go.Rad
open Go
theorem rise_ext : ∀ {a b : List Int}, a.Pairwise (· < ·) → b.Pairwise (· < ·) → (∀ x, x ∈ a ↔ x ∈ b) → a = b
  | [], [], _, _, _ => rfl
  | [], y :: b, _, _, h => absurd ((h y).2 (by simp)) (by simp)
  | x :: a, [], _, _, h => absurd ((h x).1 (by simp)) (by simp)
  | x :: a, y :: b, ha, hb, h => by
    rw [List.pairwise_cons] at ha hb
    have hxy : x = y := by
      have h1 : x = y ∨ x ∈ b := by simpa using (h x).1 (by simp)
      have h2 : y = x ∨ y ∈ a := by simpa using (h y).2 (by simp)
      rcases h1 with h1 | h1
      · exact h1
      · rcases h2 with h2 | h2
        · exact h2.symm
        · have := ha.1 y h2; have := hb.1 x h1; omega
    subst hxy
    refine congrArg (x :: ·) (rise_ext ha.2 hb.2 fun z => ?_)
    have hz := h z
    simp only [List.mem_cons] at hz
    constructor
    · intro hm
      rcases hz.1 (.inr hm) with rfl | h1
      · have := ha.1 z hm; omega
      · exact h1
    · intro hm
      rcases hz.2 (.inr hm) with rfl | h1
      · have := hb.1 z hm; omega
      · exact h1
theorem sortI_mem {l : List Int} {x : Int} : x ∈ sortI l ↔ x ∈ l := (List.mergeSort_perm l _).mem_iff
theorem sortI_rise (l : List Int) : (sortI l).Pairwise (· ≤ ·) := by
  have := List.pairwise_mergeSort (le := fun x y : Int => decide (x ≤ y)) (fun a b c h1 h2 => by simp at *; omega) (fun a b => by simp; omega) l
  exact this.imp fun h => by simpa using h
theorem compact_rise {l : List Int} (h : l.Pairwise (· ≤ ·)) : (Lib.compact l).Pairwise (· < ·) ∧ ∀ x, x ∈ Lib.compact l ↔ x ∈ l := by
  have hle : ∀ i j (hi : i < l.length) (hj : j < l.length), i ≤ j → l[i] ≤ l[j] := fun i j hi hj hij => by
    rcases Nat.lt_or_eq_of_le hij with h1 | h1
    · exact List.pairwise_iff_getElem.1 h i j hi hj h1
    · subst h1; exact Int.le_refl _
  refine ⟨?_, fun x => ⟨compact_mem, fun hx => ?_⟩⟩
  · unfold Lib.compact Lib.compactUpTo
    rw [List.pairwise_map]
    refine (List.pairwise_iff_forall_sublist.2 fun {i j} hs => ?_)
    have hm : ∀ k ∈ [i, j], k ∈ (List.range l.length).filter (Lib.keeps l.toArray) := fun k hk => hs.subset hk
    have hij : i < j := by
      have hp : ((List.range l.length).filter (Lib.keeps l.toArray)).Pairwise (· < ·) := (List.pairwise_lt_range).filter _
      exact List.pairwise_iff_forall_sublist.1 hp hs
    have hi := List.mem_filter.1 (hm i (by simp))
    have hj := List.mem_filter.1 (hm j (by simp))
    have hil : i < l.length := by simpa using hi.1
    have hjl : j < l.length := by simpa using hj.1
    have hk := hj.2
    simp only [Lib.keeps, Bool.or_eq_true, decide_eq_true_eq, bne_iff_ne, ne_eq, beq_iff_eq] at hk
    have h1 := hle i (j - 1) hil (by omega) (by omega)
    have h2 := hle (j - 1) j (by omega) hjl (by omega)
    simp only [List.getElem!_toArray, List.getElem!_eq_getElem?_getD, List.getElem?_eq_getElem hil, List.getElem?_eq_getElem hjl, List.getElem?_eq_getElem (show j - 1 < l.length by omega), Option.getD_some] at hk ⊢
    omega
  · obtain ⟨j, hj, rfl⟩ := List.getElem_of_mem hx
    induction j with
    | zero =>
      unfold Lib.compact Lib.compactUpTo
      exact List.mem_map.2 ⟨0, List.mem_filter.2 ⟨by simpa using hj, by simp [Lib.keeps]⟩, by simp [hj]⟩
    | succ j ih =>
      by_cases he : l[j + 1] = l[j]'(by omega)
      · rw [he]; exact ih (by omega) (List.getElem_mem _)
      · unfold Lib.compact Lib.compactUpTo
        refine List.mem_map.2 ⟨j + 1, List.mem_filter.2 ⟨by simpa using hj, ?_⟩, by simp [hj]⟩
        have hj0 : j < l.length := by omega
        simp [Lib.keeps, hj, hj0, he]
theorem compact_sort {l m : List Int} (hm : m.Pairwise (· < ·)) (h : ∀ x, x ∈ l ↔ x ∈ m) : Lib.compact (sortI l) = m := by
  obtain ⟨h1, h2⟩ := compact_rise (sortI_rise l)
  exact rise_ext h1 hm fun x => by rw [h2, sortI_mem, h]
end Go.Rad
/- Merge of two lists of places. -/
namespace Go.Rad
open Go Go.Proofs
theorem posS_rise (s : List Bool) : (posS s).Pairwise (· < ·) := by
  unfold posS posN
  rw [List.pairwise_map]
  exact (List.pairwise_lt_range.filter _).imp fun h => by omega
theorem posS_mem {s : List Bool} {x : Int} : x ∈ posS s ↔ ∃ i : Nat, x = i ∧ s.getD i false = true := by
  unfold posS posN
  simp only [List.mem_map, List.mem_filter, List.mem_range]
  constructor
  · rintro ⟨i, ⟨_, h⟩, rfl⟩; exact ⟨i, rfl, h⟩
  · rintro ⟨i, rfl, h⟩
    refine ⟨i, ⟨?_, h⟩, rfl⟩
    rcases Nat.lt_or_ge i s.length with h1 | h1
    · exact h1
    · simp [List.getD_eq_getElem?_getD, List.getElem?_eq_none h1] at h
theorem merge_pos {a b : List Bool} (h : a.length = b.length) : Lib.compact (sortI (posS a ++ posS b)) = posS (orB a b) := by
  refine compact_sort (posS_rise _) fun x => ?_
  rw [List.mem_append, posS_mem, posS_mem, posS_mem]
  have hg := orB_get (a := a) (b := b) rfl h.symm
  constructor
  · rintro (⟨i, h1, h2⟩ | ⟨i, h1, h2⟩)
    · exact ⟨i, h1, by rw [hg, h2]; rfl⟩
    · exact ⟨i, h1, by rw [hg, h2]; simp⟩
  · rintro ⟨i, h1, h2⟩
    rw [hg, Bool.or_eq_true] at h2
    rcases h2 with h2 | h2
    · exact .inl ⟨i, h1, h2⟩
    · exact .inr ⟨i, h1, h2⟩
theorem mergeP_c (q f q' f' : Bool) (a b : List Bool) (h : a.length = b.length) (hl : a.length ≤ 1000001) : ACall Try.prog 43 [.sl q f (ints (posS a)), .sl q' f' (ints (posS b))] [] fun r s => r = .sl true false (ints (posS (orB a b))) ∧ s = [] := by
  have h1 := posS_len a
  have h2 := posS_len b
  have := merge_c growRuns q f q' f' (posS a) (posS b) (by omega)
  rwa [merge_pos h] at this
end Go.Rad
/- A frozen list's flag may be forgotten. -/
namespace Go.Rad
open Go
theorem rep_unfull {G : Gh} {o q f : Bool} {l : List (List AVal)} {v : Value} (h : Rep G o (.sl q f l) v) : Rep G o (.sl q false l) v := by
  cases h with
  | slnil _ => exact .slnil (fun h => nomatch h)
  | sl h1 h2 h3 h4 h5 h6 h7 h8 h9 => exact .sl h1 (fun h => nomatch h) h3 h4 h5 h6 h7 h8 h9
theorem AGood.unfull {P : Program} {f : Nat} {fn : Func} {df : List DDel} {k : List Item} {tm : Tm} {sto : Sto} {R : AVal → Sto → Prop} (t : Nat) {q e : Bool} {l : List (List AVal)} (ht : lk tm t = .sl q e l) (h : AGood P f fn df k ((t, .sl q false l) :: tm) sto R) : AGood P f fn df k tm sto R := by
  refine ⟨fun E G a w b h1 h2 h3 h4 h5 h6 h7 h8 h9 => h.go E G a w b h1 h2 h3 h4 h5 h6 h7 h8 fun t' => ?_⟩
  simp only [lk]
  split
  · rename_i e; subst e
    have h0 := h9 t
    rw [ht] at h0
    exact rep_unfull h0
  · exact h9 t'
theorem ACall.unfull {P : Program} {f : Nat} {a b : AVal} {q e : Bool} {l : List (List AVal)} {sto : Sto} {T : AVal → Sto → Prop} (h : ACall P f [a, b, .sl q false l] sto T) : ACall P f [a, b, .sl q e l] sto T :=
  ⟨h.able, fun G w cargs hw hs ha => h.calls G w cargs hw hs ⟨by simpa using ha.1, fun j x hx => by
    match j, hx with
    | 0, hx => exact ha.2 0 x hx
    | 1, hx => exact ha.2 1 x hx
    | 2, hx => cases hx; exact rep_unfull (ha.2 2 _ rfl)⟩⟩
end Go.Rad
/- Places of a text as rising lists: one byte's step; a frozen list's flag may be forgotten. -/
namespace Go.Rad
open Go Go.Proofs
/-- The places behind a byte of the set. -/
def stepN (s : ISet) (w : ByteArray) (l : List Nat) : List Nat := (l.filter fun i => decide (i < w.size) && hasI s (byteAt w i)).map (· + 1)
theorem posN_rise (s : List Bool) : (posN s).Pairwise (· < ·) := List.pairwise_lt_range.filter _
theorem step_pos (s : ISet) (w : ByteArray) (fr : List Bool) (hf : fr.length = w.size + 1) : (stepN s w (posN fr)).map (fun (i : Nat) => (i : Int)) = posS (oneB s w fr) := by
  refine rise_ext ?_ (posS_rise _) fun x => ?_
  · unfold stepN
    rw [List.pairwise_map, List.pairwise_map]
    exact ((posN_rise fr).filter _).imp fun h => by omega
  · rw [posS_mem]
    simp only [stepN, List.mem_map, List.mem_filter, Bool.and_eq_true, decide_eq_true_eq]
    have hone : ∀ i, (oneB s w fr).getD (i + 1) false = (decide (i < w.size) && hit s w fr i) := fun i => by
      simp only [oneB, List.getD_eq_getElem?_getD, List.getElem?_cons_succ, List.getElem?_map]
      by_cases h : i < w.size <;> simp [h, List.getElem?_range]
    constructor
    · rintro ⟨k, ⟨i, ⟨h1, h2, h3⟩, rfl⟩, rfl⟩
      refine ⟨i + 1, rfl, ?_⟩
      have h4 : fr.getD i false = true := (List.mem_filter.1 h1).2
      rw [hone, hit, h4, h3]; simp [h2]
    · rintro ⟨k, rfl, hk⟩
      cases k with
      | zero => simp [oneB] at hk
      | succ i =>
        rw [hone, hit] at hk
        simp only [Bool.and_eq_true, decide_eq_true_eq] at hk
        refine ⟨i + 1, ⟨i, ⟨List.mem_filter.2 ⟨List.mem_range.2 (by omega), hk.2.1⟩, hk.1, hk.2.2⟩, rfl⟩, rfl⟩
end Go.Rad
/- Sets by bits, as the program's own package has them. -/
namespace Go.Rad
open Go

/-- A call's arguments are what their kinds hold. -/
theorem ACall.fit {P : Program} {f : Nat} {args : List AVal} {sto : Sto} {R : AVal → Sto → Prop} (i j : Nat) {cs : List AVal} {k : IntKind} {n : Int} (able : Callable P f) (hi : args[i]? = some (.agg cs)) (hj : cs[j]? = some (.int k n)) (h : fits k n → ACall P f args sto R) : ACall P f args sto R := by
  refine ⟨able, fun G w cargs hw hs ha => ?_⟩
  have hr := ha.2 i _ hi
  generalize cargs.getD i undef = v at hr
  cases hr with
  | agg a b c =>
    have h2 := c j _ hj
    generalize Array.getD _ j undef = u at h2
    cases h2 with
    | int hf => exact (h hf).calls G w cargs hw hs ha
theorem ACall.fitI {P : Program} {f : Nat} {args : List AVal} {sto : Sto} {R : AVal → Sto → Prop} (i : Nat) {k : IntKind} {n : Int} (able : Callable P f) (hi : args[i]? = some (.int k n)) (h : fits k n → ACall P f args sto R) : ACall P f args sto R := by
  refine ⟨able, fun G w cargs hw hs ha => ?_⟩
  have hr := ha.2 i _ hi
  generalize cargs.getD i undef = v at hr
  cases hr with
  | int hf => exact (h hf).calls G w cargs hw hs ha
theorem fit64 {n : Int} (h : fits .u64 n) : ∃ m : Nat, n = m ∧ m < 18446744073709551616 := by
  have m1 : IntKind.u64.min = 0 := by kernel_rfl
  have m2 : IntKind.u64.max = 18446744073709551615 := by kernel_rfl
  obtain ⟨a, b⟩ := h
  rw [m1] at a
  rw [m2] at b
  exact ⟨n.toNat, by omega, by omega⟩
theorem able_of {P : Program} {f : Nat} {fn : Func} (hf : P.funcs[f]? = some fn) (hn : (fn.name == "runtime.NumGoroutine") = false) (hb : fn.body.isNone = false) : Callable P f := ⟨fn, hf, hn, hb⟩

theorem bits_and {a b : Nat} (ha : a < 18446744073709551616) (hb : b < 18446744073709551616) : bitsOf .and .u64 a b = ((a &&& b : Nat) : Int) := by
  have h1 : (BitVec.ofInt IntKind.u64.bits (a : Int)).toNat = a := by
    simp only [IntKind.bits, BitVec.toNat_ofInt]; omega
  have h2 : (BitVec.ofInt IntKind.u64.bits (b : Int)).toNat = b := by
    simp only [IntKind.bits, BitVec.toNat_ofInt]; omega
  simp only [bitsOf, BitVec.toNat_and, h1, h2]
  have : a &&& b ≤ a := Nat.and_le_left
  exact wr_u64 (by omega) (by omega)
theorem bits_or {a b : Nat} (ha : a < 18446744073709551616) (hb : b < 18446744073709551616) : bitsOf .or .u64 a b = ((a ||| b : Nat) : Int) := by
  have h1 : (BitVec.ofInt IntKind.u64.bits (a : Int)).toNat = a := by
    simp only [IntKind.bits, BitVec.toNat_ofInt]; omega
  have h2 : (BitVec.ofInt IntKind.u64.bits (b : Int)).toNat = b := by
    simp only [IntKind.bits, BitVec.toNat_ofInt]; omega
  simp only [bitsOf, BitVec.toNat_or, h1, h2]
  have : a ||| b < 2 ^ 64 := Nat.or_lt_two_pow (by simpa using ha) (by simpa using hb)
  exact wr_u64 (by omega) (by omega)

/-- Words of a set, as naturals. -/
structure NSet where
  a : Nat
  b : Nat
  c : Nat
  d : Nat
  deriving DecidableEq
abbrev NSet.I (s : NSet) : ISet := ⟨s.a, s.b, s.c, s.d⟩
def NSet.ok (s : NSet) : Prop := s.a < 18446744073709551616 ∧ s.b < 18446744073709551616 ∧ s.c < 18446744073709551616 ∧ s.d < 18446744073709551616
def NSet.or (s t : NSet) : NSet := ⟨s.a ||| t.a, s.b ||| t.b, s.c ||| t.c, s.d ||| t.d⟩
def NSet.and (s t : NSet) : NSet := ⟨s.a &&& t.a, s.b &&& t.b, s.c &&& t.c, s.d &&& t.d⟩
def nzero : NSet := ⟨0, 0, 0, 0⟩
def nfull : NSet := ⟨18446744073709551615, 18446744073709551615, 18446744073709551615, 18446744073709551615⟩
def NSet.word (s : NSet) (i : Nat) : Nat := match i with | 0 => s.a | 1 => s.b | 2 => s.c | _ => s.d
/-- One byte more. -/
def NSet.add (s : NSet) (n : Nat) : NSet :=
  match n / 64 with
  | 0 => { s with a := s.a ||| 2 ^ (n % 64) }
  | 1 => { s with b := s.b ||| 2 ^ (n % 64) }
  | 2 => { s with c := s.c ||| 2 ^ (n % 64) }
  | _ => { s with d := s.d ||| 2 ^ (n % 64) }
def ofS (l : List Nat) : NSet := l.foldl NSet.add nzero
def rangeS (lo hi : Nat) : NSet := (List.range (hi + 1 - lo)).foldl (fun s i => s.add (lo + i)) nzero
theorem add_ok {s : NSet} {n : Nat} (h : s.ok) : (s.add n).ok := by
  have hb : 2 ^ (n % 64) < 18446744073709551616 := by
    have : 2 ^ (n % 64) < 2 ^ 64 := Nat.pow_lt_pow_right (by decide) (Nat.mod_lt _ (by decide))
    simpa using this
  have ho : ∀ x : Nat, x < 18446744073709551616 → x ||| 2 ^ (n % 64) < 18446744073709551616 := by
    intro x hx
    have : x ||| 2 ^ (n % 64) < 2 ^ 64 := Nat.or_lt_two_pow (by simpa using hx) (by simpa using hb)
    simpa using this
  obtain ⟨h1, h2, h3, h4⟩ := h
  unfold NSet.add
  split
  · exact ⟨ho _ h1, h2, h3, h4⟩
  · exact ⟨h1, ho _ h2, h3, h4⟩
  · exact ⟨h1, h2, ho _ h3, h4⟩
  · exact ⟨h1, h2, h3, ho _ h4⟩
theorem or_ok {s t : NSet} (h : s.ok) (k : t.ok) : (s.or t).ok := by
  have ho : ∀ x y : Nat, x < 18446744073709551616 → y < 18446744073709551616 → x ||| y < 18446744073709551616 := by
    intro x y hx hy
    have : x ||| y < 2 ^ 64 := Nat.or_lt_two_pow (by simpa using hx) (by simpa using hy)
    simpa using this
  exact ⟨ho _ _ h.1 k.1, ho _ _ h.2.1 k.2.1, ho _ _ h.2.2.1 k.2.2.1, ho _ _ h.2.2.2 k.2.2.2⟩
theorem and_ok {s t : NSet} (h : s.ok) : (s.and t).ok := by
  have ho : ∀ x y : Nat, x < 18446744073709551616 → x &&& y < 18446744073709551616 := fun x y hx => Nat.lt_of_le_of_lt Nat.and_le_left hx
  exact ⟨ho _ _ h.1, ho _ _ h.2.1, ho _ _ h.2.2.1, ho _ _ h.2.2.2⟩

theorem AGood.loopAt {P : Program} {f : Nat} {fn : Func} {df : List DDel} {k : List Item} {tm : Tm} {sto : Sto} {R : AVal → Sto → Prop} (id : Nat) {ops : Array Oper} {b : Bool} {r : Code} (h : AGood P f fn df (.code (.seq (.region id ops b) r) :: .inLoop (.seq (.region id ops b) r) :: k) tm sto R) : AGood P f fn df (.code (.loop (.seq (.region id ops b) r)) :: k) tm sto R := .loop h
theorem AGood.inLoopAt {P : Program} {f : Nat} {fn : Func} {df : List DDel} {k : List Item} {tm : Tm} {sto : Sto} {R : AVal → Sto → Prop} (id : Nat) {ops : Array Oper} {b : Bool} {r : Code} (h : AGood P f fn df (.code (.seq (.region id ops b) r) :: .inLoop (.seq (.region id ops b) r) :: k) tm sto R) : AGood P f fn df (.inLoop (.seq (.region id ops b) r) :: k) tm sto R := .inLoop h
abbrev nsets (l : List NSet) : List (List AVal) := l.map fun s => s.I.cells
end Go.Rad
/- The bits of a word, one by one from the lowest. -/
namespace Go.Rad
open Go
theorem clear_low {n k : Nat} (hd : 2 ^ k ∣ n) (h0 : n ≠ 0) : 2 ^ (k + 1) ∣ n &&& (n - 1) := by
  obtain ⟨q, rfl⟩ := hd
  have hq : q ≠ 0 := by rintro rfl; simp at h0
  have hp : 0 < 2 ^ k := Nat.pow_pos (by decide)
  refine Nat.dvd_of_mod_eq_zero (Nat.eq_of_testBit_eq fun i => ?_)
  rw [Nat.testBit_mod_two_pow, Nat.zero_testBit, Nat.testBit_and]
  by_cases hi : i < k + 1
  · simp only [hi, decide_true, Bool.true_and]
    rcases Nat.lt_or_ge i k with h | h
    · rw [Nat.testBit_two_pow_mul]
      simp [Nat.not_le.2 h]
    · have : i = k := by omega
      subst this
      have e : 2 ^ i * q - 1 = 2 ^ i * (q - 1) + (2 ^ i - 1) := by
        have : 2 ^ i * q = 2 ^ i * (q - 1) + 2 ^ i := by
          rw [← Nat.mul_succ]; congr 1; omega
        omega
      rw [Nat.testBit_two_pow_mul, e, Nat.testBit_two_pow_mul_add _ (by omega)]
      simp only [Nat.le_refl, decide_true, Nat.sub_self, Nat.lt_irrefl, if_false, Bool.true_and]
      simp only [Nat.testBit_zero]
      by_cases h1 : q % 2 = 1
      · have : ¬ (q - 1) % 2 = 1 := by omega
        simp [this]
      · simp [h1]
  · simp [hi]
theorem clear_lt {n : Nat} (h0 : n ≠ 0) : n &&& (n - 1) < n := Nat.lt_of_le_of_lt Nat.and_le_right (by omega)
theorem dvd_lt {n k : Nat} (hd : 2 ^ k ∣ n) (h0 : n ≠ 0) (hn : n < 18446744073709551616) : k < 64 := by
  have h1 := Nat.le_of_dvd (Nat.pos_of_ne_zero h0) hd
  rcases Nat.lt_or_ge k 64 with h | h
  · exact h
  · exfalso
    have : 2 ^ 64 ≤ 2 ^ k := Nat.pow_le_pow_right (by decide) h
    have h64 : (2 : Nat) ^ 64 = 18446744073709551616 := by decide
    rw [h64] at this
    omega
end Go.Rad
/- Contracts: bset.Has. -/
namespace Go.Rad
open Go Go.Proofs
set_option linter.all false
set_option maxRecDepth 20000
set_option maxHeartbeats 4000000

theorem and_one {a : Int} (h : 0 ≤ a) : bitsOf .and .u64 a 1 = a.tmod 2 := by
  obtain ⟨n, rfl⟩ : ∃ n : Nat, a = n := ⟨a.toNat, by omega⟩
  unfold bitsOf
  simp
  have h1 : n % 2 ^ IntKind.u64.bits &&& 1 % 2 ^ IntKind.u64.bits = n % 2 := by
    show n % 18446744073709551616 &&& 1 = n % 2
    rw [Nat.and_one_is_mod]; omega
  rw [h1, Int.tmod_eq_emod_of_nonneg h]
  have h2 : n % 2 = 0 ∨ n % 2 = 1 := by omega
  rcases h2 with h2 | h2
  · rw [h2, show (n : Int) % 2 = 0 by omega]; rfl
  · rw [h2, show (n : Int) % 2 = 1 by omega]; rfl
theorem hasS_c (s : ISet) (hs : ∀ k, 0 ≤ s.word k) (n : Nat) (h1 : n ≤ 255) : ACall Try.prog 42 [.agg s.cells, .int .u8 n] [] fun r s' => r = .bool (hasI s n) ∧ s' = [] := by
  obtain ⟨s0, s1, s2, s3⟩ := s
  simp only [ISet.cells]
  have h4 : n / 64 = 0 ∨ n / 64 = 1 ∨ n / 64 = 2 ∨ n / 64 = 3 := by omega
  rcases h4 with h4 | h4 | h4 | h4
  all_goals
    (first | refine div64 (c := 0) h4 rfl fun hd hm hmin => ?_ | refine div64 (c := 1) h4 rfl fun hd hm hmin => ?_ | refine div64 (c := 2) h4 rfl fun hd hm hmin => ?_ | refine div64 (c := 3) h4 rfl fun hd hm hmin => ?_)
    have hw := hs (n / 64)
    simp only [h4, ISet.word] at hw
    have ha := and_one (a := Int.fdiv _ (2 ^ (n % 64))) (Int.fdiv_nonneg hw (Int.le_of_lt (Int.pow_pos (by omega))))
    simp only [hasI, h4, ISet.word]
    refine ACall.enter Try.func42 rfl (by kernel_rfl) (Nat.le_of_ble_eq_true rfl) ?_; simp only [initTm, Nat.reduceAdd]
    repeat' (first
  | refine gSq ?_ | refine gSk ?_ | refine gBl ?_ | refine gIb ?_ | refine gEx rfl ?_
  | ((first
  | (refine gRg [] [0, 1, 2, 4] ?_; intro K hK)
  | (refine gd_split ?_ ?_ <;> intro hb <;> (try simp only [bls] at hb) <;> (try simp only [hb]))
  | refine gRt [] [.tmp 4] rfl ?_ | refine gDn [] [.tmp 4] rfl ?_) <;> (try simp only [go_sem, simprocAttr, hd, hm, hmin, ha, wr_u8, IntKind.bits, Int.toNat_natCast, Int.natCast_nonneg]))
  | (refine hK _ _ ?_; clear hK K; simp only [go_sem, simprocAttr])
  | refine gCd (by simp only [go_sem, simprocAttr]; rfl) rfl ?_
  | refine brT ?_ | refine brF ?_
  | (refine brS ?_ ?_ <;> intro hc <;> (try simp only [bls] at hc) <;> (try simp only [hc, bls]))
  | intro _ | refine And.intro ?_ ?_)
  all_goals (try exact ⟨rfl, rfl⟩)
  all_goals trace_state
end Go.Rad
/- Contracts: the places behind a byte. -/
namespace Go.Rad
open Go Go.Proofs
set_option linter.all false
set_option maxRecDepth 20000
set_option maxHeartbeats 4000000

theorem ends2uc {q f : Bool} {ns : List Node} {w : ByteArray} (hw : w.size ≤ 1000000) (n : Node) (i : Nat) (h1 : ns[i]? = some n) (h2 : n.op = 2) (hss : ∀ k, 0 ≤ n.s.word k) (s : List Bool) (hs : s.length = w.size + 1) :
    ACall Try.prog 31 [.agg [.sl q f (nodes ns), .str w], .int .i64 i, .sl true false (ints (posS s))] [] fun r s' => r = .sl true false (ints (posS (oneB n.s w s))) ∧ s' = [] := by
  have hi := (List.getElem?_eq_some_iff.1 h1).1
  have e1 : (i : Int) < ns.length := by omega
  have e2 : (0 : Int) ≤ i := by omega
  have hsp := step_pos n.s w s hs
  have hpl : (posN s).length ≤ w.size + 1 := by have := posS_len s; simpa [hs] using this
  have hpm : ∀ k ∈ posN s, k ≤ w.size := fun k hk => by have := List.mem_range.1 (List.mem_filter.1 hk).1; omega
  rw [← hsp]
  unfold posS
  clear hsp
  generalize posN s = P at hpl hpm ⊢
  have hh := fun k hk => hasS_c n.s hss k hk
  obtain ⟨xo, ⟨xa, xb, xc, xd⟩, xl, xlo, xhi, xn⟩ := n
  simp only [ISet.cells] at h2 hh
  refine ACall.enter Try.func31 rfl (by kernel_rfl) (Nat.le_of_ble_eq_true rfl) ?_; simp only [initTm, Nat.reduceAdd]
  repeat' (first
  | refine gSq ?_ | refine gSk ?_ | refine gBl ?_ | refine gIb ?_ | refine gEx rfl ?_
  | ((first
  | (refine gRg [] [0, 1, 2, 3, 6, 7, 8, 10, 12, 13, 15, 22, 23, 25, 26, 27, 28, 44, 52, 55, 56, 57, 58, 67, 70, 71, 72, 73, 84] ?_; intro K hK)
  | (refine gDr 8 [] 14 [0, 1, 2, 3, 4, 5, 6, 7, 8, 9, 10, 11, 12, 13] [0, 1, 2, 3, 6, 7, 8, 10, 12, 13, 15, 22, 23, 25, 26, 27, 28, 44, 52, 55, 56, 57, 58, 67, 70, 71, 72, 73, 84] rfl ?_; intro K hK)
  | (refine gd_split ?_ ?_ <;> intro hb <;> (try simp only [bls] at hb) <;> (try simp only [hb]))
  | refine gRt [] [.tmp 6] rfl ?_ | refine gDn [] [.tmp 6] rfl ?_) <;> (try simp only [go_sem, simprocAttr, e1, e2, h1, eq_true h2, Option.some.injEq, forall_eq']))
  | (refine hK _ _ ?_; clear hK K; simp only [go_sem, simprocAttr])
  | refine gCd (by simp only [go_sem, simprocAttr]; rfl) rfl ?_
  | refine brT ?_ | refine brF ?_
  | (refine brS ?_ ?_ <;> intro hc <;> (try simp only [bls] at hc) <;> (try simp only [hc, bls]))
  | intro _ | refine And.intro ?_ ?_)
  all_goals first | omega | (unfold bigLen; omega) | exact ⟨_, _, ⟨rfl, rfl⟩, rfl⟩ | exact ⟨_, rfl⟩ | (rename_i hy; simp only [List.mem_singleton] at hy; subst hy; rfl) | with_reducible rfl | skip
  rename_i h3 h7
  refine AGood.ownTm 8 900 1 (by decide) rfl fun g => ?_
  refine AGood.prune [3, 6, 7, 8, 25, 26, 27] ?_; simp only [go_sem, simprocAttr]
  refine AGood.loopInv (α := Nat × Nat) (fun z => ([(3, .bx 3 h3 0), (6, .sl true true []), (7, .bx 7 h7 0), (8, .osl 900 z.2 0 (stepN ⟨xa, xb, xc, xd⟩ w (P.take z.1)).length), (25, .sl true false (ints (P.map fun (i : Nat) => (i : Int)))), (26, .int .i64 P.length), (27, .int .i64 z.1)], [(3, h3, .box [.sl q f (nodes ns), .str w]), (7, h7, .box [.int .u8 xo, .int .u64 xa, .int .u64 xb, .int .u64 xc, .int .u64 xd, .sl true false (ints xl), .int .i64 xlo, .int .i64 xhi, .str xn]), (900, (z.2, .row 1 (ints ((stepN ⟨xa, xb, xc, xd⟩ w (P.take z.1)).map fun (i : Nat) => (i : Int)))))])) (fun z => z.1 ≤ P.length) (fun z => P.length - z.1) (0, g) (Nat.zero_le _) (by simp [stepN]) ?_
  rintro ⟨j, g⟩ hj ih
  simp only at hj ih ⊢
  by_cases hle : j < P.length
  · have f4 : (j : Int) < P.length := by omega
    have f5 : (0 : Int) ≤ j := by omega
    have f6 : (j : Int) + 1 = ((j + 1 : Nat) : Int) := by omega
    obtain ⟨k, hk⟩ : ∃ k, P[j]? = some k := ⟨_, List.getElem?_eq_getElem hle⟩
    have hkw := hpm k (List.mem_of_getElem? hk)
    have hx : (P.map fun (i : Nat) => (i : Int))[j]? = some (k : Int) := by simp [hk]
    have hst : stepN ⟨xa, xb, xc, xd⟩ w (P.take (j + 1)) = stepN ⟨xa, xb, xc, xd⟩ w (P.take j) ++ (if decide (k < w.size) && hasI ⟨xa, xb, xc, xd⟩ (byteAt w k) then [k + 1] else []) := by
      rw [take_one hk]
      unfold stepN
      rw [List.filter_append, List.map_append]
      cases h : (decide (k < w.size) && hasI ⟨xa, xb, xc, xd⟩ (byteAt w k)) <;> simp [h]
    have hsl : (stepN ⟨xa, xb, xc, xd⟩ w (P.take j)).length ≤ j := by
      unfold stepN
      rw [List.length_map]
      exact Nat.le_trans (List.length_filter_le _ _) (by simp; omega)
    have f8 : (0 : Int) ≤ k := by omega
    have f9 : (k : Int) + 1 = ((k + 1 : Nat) : Int) := by omega
    have hc := hh (byteAt w k) (byteAt_le w k)
    by_cases hkw2 : k < w.size
    · have f7 : (k : Int) < w.size := by omega
      cases hb : hasI ⟨xa, xb, xc, xd⟩ (byteAt w k)
      · rw [hb, decide_eq_true hkw2] at hst
        rw [hb] at hc
        simp only [Bool.and_false, Bool.false_eq_true, if_false, List.append_nil] at hst
        repeat' (first
  | refine gSq ?_ | refine gSk ?_ | refine gBl ?_ | refine gIb ?_ | refine gEx rfl ?_
  | ((first
  | (refine gRg [] [0, 1, 2, 3, 6, 7, 8, 10, 12, 13, 15, 22, 23, 25, 26, 27, 28, 44, 52, 55, 56, 57, 58, 67, 70, 71, 72, 73, 84] ?_; intro K hK)
  | (refine gDr 8 [] 14 [0, 1, 2, 3, 4, 5, 6, 7, 8, 9, 10, 11, 12, 13] [0, 1, 2, 3, 6, 7, 8, 10, 12, 13, 15, 22, 23, 25, 26, 27, 28, 44, 52, 55, 56, 57, 58, 67, 70, 71, 72, 73, 84] rfl ?_; intro K hK)
  | refine ⟨_, ACall.alone (hc) rfl rfl rfl, ?_⟩
  | (refine gd_split ?_ ?_ <;> intro hb <;> (try simp only [bls] at hb) <;> (try simp only [hb]))
  | refine gRt [] [.tmp 6] rfl ?_ | refine gDn [] [.tmp 6] rfl ?_) <;> (try simp only [go_sem, simprocAttr, f4, f5, f6, f7, f8, f9, hx, sbyte_at, Option.some.injEq, forall_eq']))
  | (refine hK _ _ ?_; clear hK K; simp only [go_sem, simprocAttr])
  | refine gCd (by simp only [go_sem, simprocAttr]; rfl) rfl ?_
  | refine brT ?_ | refine brF ?_
  | (refine brS ?_ ?_ <;> intro hc <;> (try simp only [bls] at hc) <;> (try simp only [hc, bls]))
  | intro _ | refine And.intro ?_ ?_)
        all_goals first | omega | (unfold bigLen; omega) | exact ⟨_, _, ⟨rfl, rfl⟩, rfl⟩ | exact ⟨_, rfl⟩ | (rename_i hy; simp only [List.mem_singleton] at hy; subst hy; rfl) | with_reducible rfl | skip
        all_goals (refine AGood.filt [3, 7, 900] ?_; simp only [sf_cons, sf_nil, go_sem, simprocAttr]; refine AGood.prune [3, 6, 7, 8, 25, 26, 27] ?_; simp only [go_sem, simprocAttr]; exact AGood.cast (ih (j + 1, g) (by simp only; omega) (by simp only; omega)) (by simp only [hst]) (by simp only [hst]))
      · rw [hb, decide_eq_true hkw2] at hst
        rw [hb] at hc
        simp only [Bool.and_true, if_true] at hst
        repeat' (first
  | refine gSq ?_ | refine gSk ?_ | refine gBl ?_ | refine gIb ?_ | refine gEx rfl ?_
  | ((first
  | (refine gRg [48] [0, 1, 2, 3, 6, 7, 8, 10, 12, 13, 15, 22, 23, 25, 26, 27, 28, 44, 52, 55, 56, 57, 58, 67, 70, 71, 72, 73, 84] ?_; intro K hK)
  | (refine gDr 8 [48] 14 [0, 1, 2, 3, 4, 5, 6, 7, 8, 9, 10, 11, 12, 13] [0, 1, 2, 3, 6, 7, 8, 10, 12, 13, 15, 22, 23, 25, 26, 27, 28, 44, 52, 55, 56, 57, 58, 67, 70, 71, 72, 73, 84] rfl ?_; intro K hK)
  | refine ⟨_, ACall.alone (hc) rfl rfl rfl, ?_⟩
  | (refine gd_split ?_ ?_ <;> intro hb <;> (try simp only [bls] at hb) <;> (try simp only [hb]))
  | refine gRt [] [.tmp 6] rfl ?_ | refine gDn [] [.tmp 6] rfl ?_) <;> (try simp only [go_sem, simprocAttr, f4, f5, f6, f7, f8, f9, hx, sbyte_at, Option.some.injEq, forall_eq']))
  | (refine hK _ _ ?_; clear hK K; simp only [go_sem, simprocAttr])
  | refine gCd (by simp only [go_sem, simprocAttr]; rfl) rfl ?_
  | refine brT ?_ | refine brF ?_
  | (refine brS ?_ ?_ <;> intro hc <;> (try simp only [bls] at hc) <;> (try simp only [hc, bls]))
  | intro _ | refine And.intro ?_ ?_)
        all_goals first | omega | (unfold bigLen; omega) | exact ⟨_, _, ⟨rfl, rfl⟩, rfl⟩ | exact ⟨_, rfl⟩ | (rename_i hy; simp only [List.mem_singleton] at hy; subst hy; rfl) | with_reducible rfl | skip
        rename_i h'
        refine AGood.filt [3, 7, 900] ?_; simp only [sf_cons, sf_nil, go_sem, simprocAttr]; refine AGood.prune [3, 6, 7, 8, 25, 26, 27] ?_; simp only [go_sem, simprocAttr]
        exact AGood.cast (ih (j + 1, h') (by simp only; omega) (by simp only; omega)) (by simp only [hst]; simp) (by simp only [hst]; simp)
    · have f7 : ¬ (k : Int) < w.size := by omega
      rw [decide_eq_false hkw2] at hst
      simp only [Bool.false_and, Bool.false_eq_true, if_false, List.append_nil] at hst
      repeat' (first
  | refine gSq ?_ | refine gSk ?_ | refine gBl ?_ | refine gIb ?_ | refine gEx rfl ?_
  | ((first
  | (refine gRg [] [0, 1, 2, 3, 6, 7, 8, 10, 12, 13, 15, 22, 23, 25, 26, 27, 28, 44, 52, 55, 56, 57, 58, 67, 70, 71, 72, 73, 84] ?_; intro K hK)
  | (refine gDr 8 [] 14 [0, 1, 2, 3, 4, 5, 6, 7, 8, 9, 10, 11, 12, 13] [0, 1, 2, 3, 6, 7, 8, 10, 12, 13, 15, 22, 23, 25, 26, 27, 28, 44, 52, 55, 56, 57, 58, 67, 70, 71, 72, 73, 84] rfl ?_; intro K hK)
  | refine ⟨_, ACall.alone (hc) rfl rfl rfl, ?_⟩
  | (refine gd_split ?_ ?_ <;> intro hb <;> (try simp only [bls] at hb) <;> (try simp only [hb]))
  | refine gRt [] [.tmp 6] rfl ?_ | refine gDn [] [.tmp 6] rfl ?_) <;> (try simp only [go_sem, simprocAttr, f4, f5, f6, f7, f8, f9, hx, sbyte_at, Option.some.injEq, forall_eq']))
  | (refine hK _ _ ?_; clear hK K; simp only [go_sem, simprocAttr])
  | refine gCd (by simp only [go_sem, simprocAttr]; rfl) rfl ?_
  | refine brT ?_ | refine brF ?_
  | (refine brS ?_ ?_ <;> intro hc <;> (try simp only [bls] at hc) <;> (try simp only [hc, bls]))
  | intro _ | refine And.intro ?_ ?_)
      all_goals first | omega | (unfold bigLen; omega) | exact ⟨_, _, ⟨rfl, rfl⟩, rfl⟩ | exact ⟨_, rfl⟩ | (rename_i hy; simp only [List.mem_singleton] at hy; subst hy; rfl) | with_reducible rfl | skip
      all_goals (refine AGood.filt [3, 7, 900] ?_; simp only [sf_cons, sf_nil, go_sem, simprocAttr]; refine AGood.prune [3, 6, 7, 8, 25, 26, 27] ?_; simp only [go_sem, simprocAttr]; exact AGood.cast (ih (j + 1, g) (by simp only; omega) (by simp only; omega)) (by simp only [hst]) (by simp only [hst]))
  · have f4 : ¬ (j : Int) < P.length := by omega
    rw [List.take_of_length_le (by omega)]
    clear ih
    repeat' (first
  | refine gSq ?_ | refine gSk ?_ | refine gBl ?_ | refine gIb ?_ | refine gEx rfl ?_
  | ((first
  | (refine AGood.at 11 ?_; (refine AGood.freeze 900 rfl ?_; simp only [rfT, rfS, rfO, rf, rf1, Nat.le_refl, true_and, go_sem, simprocAttr]); (refine gRg [] [0, 1, 2, 3, 6, 7, 8, 10, 12, 13, 15, 22, 23, 25, 26, 27, 28, 44, 52, 55, 56, 57, 58, 67, 70, 71, 72, 73, 84] ?_; intro K hK))
  | (refine gRg [] [0, 1, 2, 3, 6, 7, 8, 10, 12, 13, 15, 22, 23, 25, 26, 27, 28, 44, 52, 55, 56, 57, 58, 67, 70, 71, 72, 73, 84] ?_; intro K hK)
  | (refine gDr 8 [] 14 [0, 1, 2, 3, 4, 5, 6, 7, 8, 9, 10, 11, 12, 13] [0, 1, 2, 3, 6, 7, 8, 10, 12, 13, 15, 22, 23, 25, 26, 27, 28, 44, 52, 55, 56, 57, 58, 67, 70, 71, 72, 73, 84] rfl ?_; intro K hK)
  | (refine gd_split ?_ ?_ <;> intro hb <;> (try simp only [bls] at hb) <;> (try simp only [hb]))
  | refine gRt [] [.tmp 6] rfl ?_ | refine gDn [] [.tmp 6] rfl ?_) <;> (try simp only [go_sem, simprocAttr, f4]))
  | (refine hK _ _ ?_; clear hK K; simp only [go_sem, simprocAttr])
  | refine gCd (by simp only [go_sem, simprocAttr]; rfl) rfl ?_
  | refine brT ?_ | refine brF ?_
  | (refine brS ?_ ?_ <;> intro hc <;> (try simp only [bls] at hc) <;> (try simp only [hc, bls]))
  | intro _ | refine And.intro ?_ ?_)
    all_goals first | omega | (unfold bigLen; omega) | exact ⟨_, _, ⟨rfl, rfl⟩, rfl⟩ | exact ⟨_, rfl⟩ | (rename_i hy; simp only [List.mem_singleton] at hy; subst hy; rfl) | with_reducible rfl | skip
    exact congrArg (AVal.sl true false) (List.take_of_length_le (by simp))
end Go.Rad
