/- A part of the proof. -/
import Derived.Shelf.SlGeneric
import Derived.Shelf.Spec.SlicesGrow
import Derived.Ground.Names8Prog
import Derived.Test.YtmbhpolhiblhoaaGreatDoorProg
import Derived.Test.YtmbhpolhiblhoaaGreatDoorKP15c
import Derived.Test.YtmbhpolhiblhoaaGreatDoorKP07a
import Derived.Test.YtmbhpolhiblhoaaGreatDoorKP15b
import Derived.Test.YtmbhpolhiblhoaaGreatDoorKC05a
import Derived.Test.YtmbhpolhiblhoaaGreatDoorKC03c
import Derived.Test.YtmbhpolhiblhoaaGreatDoorKRDefer
set_option linter.all false
namespace Go.Proofs
open Go.Shelf
def Tryz.lf : Go.Shelf.Ren := ⟨fun | 4 => 175 | n => n, fun | 22 => 39 | 25 => 3 | 3 => 3 | 4 => 4 | 9 => 9 | 20 => 20 | 0 => 0 | n => n, fun | n => n⟩
theorem Tryz.Et : Go.Proofs.Lays8.n4 Tryz.prog Tryz.lf := {
 mixed := by kernel_rfl
 f4 := ⟨Tryz.f175.name, by decide, Tryz.func175.trans (congrArg some (by kernel_rfl))⟩
 t0 := Tryz.underlying0
 a0 := Tryz.isAgg0
 z0 := Tryz.sizeOf0
 v0 := Tryz.zeroValue0
 t3 := Tryz.underlying3
 a3 := Tryz.isAgg3
 z3 := Tryz.sizeOf3
 v3 := Tryz.zeroValue3
 t4 := Tryz.underlying4
 a4 := Tryz.isAgg4
 z4 := Tryz.sizeOf4
 v4 := Tryz.zeroValue4
 t9 := Tryz.underlying9
 a9 := Tryz.isAgg9
 z9 := Tryz.sizeOf9
 v9 := Tryz.zeroValue9
 t20 := Tryz.underlying20
 a20 := Tryz.isAgg20
 z20 := Tryz.sizeOf20
 v20 := Tryz.zeroValue20
 t22 := Tryz.underlying39
 a22 := Tryz.isAgg39
 z22 := Tryz.sizeOf39
 v22 := Tryz.zeroValue39 }
end Go.Proofs
namespace Go.Rad
open Go Go.Proofs
theorem zJ : jS Tryz.prog 175 := by
 refine ⟨fun a w => ?_, fun a n w h0 hn => ?_⟩
 ·exact Any8.slices_Grow_room Tryz.Et a 0 0 0 w (Nat.le_refl _) (by omega) (by omega) (Nat.le_refl _)
 ·have h := Any8.slices_Grow_grow Tryz.Et Tryz.t3 (.int .i64 0) (by kernel_rfl) (by kernel_rfl) (by decide) a 0 0 n [] w (Nat.le_refl _) (by omega) (by show (0 + n) * 8 ≤ _; omega) (by omega) rfl (fun _ => rfl) (fun _ _ j v hv => by simp at hv)
  refine h.mono fun e w' h => ?_
  obtain ⟨h1, h2⟩ := h
  have hg := fq (w := w) (need := 0 + n) (old := 0) (e := Tryz.lf.t 25) (by unfold aq; omega)
  refine ⟨_, _, _, hg.2, ?_, h1, h2⟩
  have hz : (Value.int IntKind.i64 0).cells.size = 1 := rfl
  simp only [Array.size_append, Go.size_zeroCells, hz]
  generalize grownCap w (0 + n) 0 (Tryz.lf.t 25) = C at hg ⊢
  simp
  omega
theorem zA (q f q' f' : Bool) (a b : List Int) : ah Tryz.prog 108 [.sl q f (ints a), .sl q' f' (ints b)] [] fun r s => r = .bool (decide (a = b)) ∧ s = [] :=
 ah.xr ⟨_, Tryz.func108, by kernel_rfl, rfl⟩ ⟨Tryz.slices_Equal_int_lens, Tryz.slices_Equal_int_empty, fun b1 o1 n c b2 o2 m d xs ys w h1 h2 h3 h4 h5 h6 => Tryz.slices_Equal_int b1 o1 n c b2 o2 m d xs ys w h1 h2 h3 h4 h5 h6⟩ q f q' f' a b
end Go.Rad
namespace Go.Rad
open Go
theorem kx : ∀ {a b : List Int}, a.Pairwise (· < ·) → b.Pairwise (· < ·) → (∀ x, x ∈ a ↔ x ∈ b) → a = b
 | [], [], _, _, _ => rfl
 | [], y :: b, _, _, h => absurd ((h y).2 (by simp)) (by simp)
 | x :: a, [], _, _, h => absurd ((h x).1 (by simp)) (by simp)
 | x :: a, y :: b, ha, hb, h => by
  rw [List.pairwise_cons] at ha hb
  have hxy : x = y := by
   have h1 : x = y ∨ x ∈ b := by simpa using (h x).1 (by simp)
   have h2 : y = x ∨ y ∈ a := by simpa using (h y).2 (by simp)
   rcases h1 with h1 | h1
   ·exact h1
   ·rcases h2 with h2 | h2
    ·exact h2.symm
    ·have := ha.1 y h2; have := hb.1 x h1; omega
  subst hxy
  refine congrArg (x :: ·) (kx ha.2 hb.2 fun z => ?_)
  have hz := h z
  simp only [List.mem_cons] at hz
  constructor
  ·intro hm
   rcases hz.1 (.inr hm) with rfl | h1
   ·have := ha.1 z hm; omega
   ·exact h1
  ·intro hm
   rcases hz.2 (.inr hm) with rfl | h1
   ·have := hb.1 z hm; omega
   ·exact h1
theorem yw {l : List Int} {x : Int} : x ∈ fx l ↔ x ∈ l := (List.mergeSort_perm l _).mem_iff
theorem ve (l : List Int) : (fx l).Pairwise (· ≤ ·) := by
 have := List.pairwise_mergeSort (le := fun x y : Int => decide (x ≤ y)) (fun a b c h1 h2 => by simp at *; omega) (fun a b => by simp; omega) l
 exact this.imp fun h => by simpa using h
theorem qE {l : List Int} (h : l.Pairwise (· ≤ ·)) : (Lib.compact l).Pairwise (· < ·) ∧ ∀ x, x ∈ Lib.compact l ↔ x ∈ l := by
 have hle : ∀ i j (hi : i < l.length) (hj : j < l.length), i ≤ j → l[i] ≤ l[j] := fun i j hi hj hij => by
  rcases Nat.lt_or_eq_of_le hij with h1 | h1
  ·exact List.pairwise_iff_getElem.1 h i j hi hj h1
  ·subst h1; exact Int.le_refl _
 refine ⟨?_, fun x => ⟨lM, fun hx => ?_⟩⟩
 ·unfold Lib.compact Lib.compactUpTo
  rw [List.pairwise_map]
  refine (List.pairwise_iff_forall_sublist.2 fun {i j} hs => ?_)
  have hm : ∀ k ∈ [i, j], k ∈ (List.range l.length).filter (Lib.keeps l.toArray) := fun k hk => hs.subset hk
  have hij : i < j := by
   have hp : ((List.range l.length).filter (Lib.keeps l.toArray)).Pairwise (· < ·) := (List.pairwise_lt_range).filter _
   exact List.pairwise_iff_forall_sublist.1 hp hs
  have hi := List.mem_filter.1 (hm i (by simp))
  have hj := List.mem_filter.1 (hm j (by simp))
  have hil : i < l.length := by simpa using hi.1
  have hjl : j < l.length := by simpa using hj.1
  have hk := hj.2
  simp only [Lib.keeps, Bool.or_eq_true, decide_eq_true_eq, bne_iff_ne, ne_eq, beq_iff_eq] at hk
  have h1 := hle i (j - 1) hil (by omega) (by omega)
  have h2 := hle (j - 1) j (by omega) hjl (by omega)
  simp only [List.getElem!_toArray, List.getElem!_eq_getElem?_getD, List.getElem?_eq_getElem hil, List.getElem?_eq_getElem hjl, List.getElem?_eq_getElem (show j - 1 < l.length by omega), Option.getD_some] at hk ⊢
  omega
 ·obtain ⟨j, hj, rfl⟩ := List.getElem_of_mem hx
  induction j with
  | zero =>
   unfold Lib.compact Lib.compactUpTo
   exact List.mem_map.2 ⟨0, List.mem_filter.2 ⟨by simpa using hj, by simp [Lib.keeps]⟩, by simp [hj]⟩
  | succ j ih =>
   by_cases he : l[j + 1] = l[j]'(by omega)
   ·rw [he]; exact ih (by omega) (List.getElem_mem _)
   ·unfold Lib.compact Lib.compactUpTo
    refine List.mem_map.2 ⟨j + 1, List.mem_filter.2 ⟨by simpa using hj, ?_⟩, by simp [hj]⟩
    have hj0 : j < l.length := by omega
    simp [Lib.keeps, hj, hj0, he]
theorem qF {l m : List Int} (hm : m.Pairwise (· < ·)) (h : ∀ x, x ∈ l ↔ x ∈ m) : Lib.compact (fx l) = m := by
 obtain ⟨h1, h2⟩ := qE (ve l)
 exact kx h1 hm fun x => by rw [h2, yw, h]
end Go.Rad
namespace Go.Rad
open Go Go.Proofs
theorem lq (s : List Bool) : (bP s).Pairwise (· < ·) := by
 unfold bP lp
 rw [List.pairwise_map]
 exact (List.pairwise_lt_range.filter _).imp fun h => by omega
theorem eV {s : List Bool} {x : Int} : x ∈ bP s ↔ ∃ i : Nat, x = i ∧ s.getD i false = true := by
 unfold bP lp
 simp only [List.mem_map, List.mem_filter, List.mem_range]
 constructor
 ·rintro ⟨i, ⟨_, h⟩, rfl⟩; exact ⟨i, rfl, h⟩
 ·rintro ⟨i, rfl, h⟩
  refine ⟨i, ⟨?_, h⟩, rfl⟩
  rcases Nat.lt_or_ge i s.length with h1 | h1
  ·exact h1
  ·simp [List.getD_eq_getElem?_getD, List.getElem?_eq_none h1] at h
theorem xS {a b : List Bool} (h : a.length = b.length) : Lib.compact (fx (bP a ++ bP b)) = bP (orB a b) := by
 refine qF (lq _) fun x => ?_
 rw [List.mem_append, eV, eV, eV]
 have hg := cx (a := a) (b := b) rfl h.symm
 constructor
 ·rintro (⟨i, h1, h2⟩ | ⟨i, h1, h2⟩)
  ·exact ⟨i, h1, by rw [hg, h2]; rfl⟩
  ·exact ⟨i, h1, by rw [hg, h2]; simp⟩
 ·rintro ⟨i, h1, h2⟩
  rw [hg, Bool.or_eq_true] at h2
  rcases h2 with h2 | h2
  ·exact .inl ⟨i, h1, h2⟩
  ·exact .inr ⟨i, h1, h2⟩
theorem tf (q f q' f' : Bool) (a b : List Bool) (h : a.length = b.length) (hl : a.length ≤ 1000001) : ah Tryz.prog 138 [.sl q f (ints (bP a)), .sl q' f' (ints (bP b))] [] fun r s => r = .sl true false (ints (bP (orB a b))) ∧ s = [] := by
 have h1 := iA a
 have h2 := iA b
 have := De zJ q f q' f' (bP a) (bP b) (by omega)
 rwa [xS h] at this
end Go.Rad
namespace Go.Rad
open Go Go.Proofs
def oH (s : aw) (w : ByteArray) (l : List Nat) : List Nat := (l.filter fun i => decide (i < w.size) && dA s (ch w i)).map (· + 1)
theorem ye (s : List Bool) : (lp s).Pairwise (· < ·) := List.pairwise_lt_range.filter _
theorem step_pos (s : aw) (w : ByteArray) (fr : List Bool) (hf : fr.length = w.size + 1) : (oH s w (lp fr)).map (fun (i : Nat) => (i : Int)) = bP (eD s w fr) := by
 refine kx ?_ (lq _) fun x => ?_
 ·unfold oH
  rw [List.pairwise_map, List.pairwise_map]
  exact ((ye fr).filter _).imp fun h => by omega
 ·rw [eV]
  simp only [oH, List.mem_map, List.mem_filter, Bool.and_eq_true, decide_eq_true_eq]
  have hone : ∀ i, (eD s w fr).getD (i + 1) false = (decide (i < w.size) && hit s w fr i) := fun i => by
   simp only [eD, List.getD_eq_getElem?_getD, List.getElem?_cons_succ, List.getElem?_map]
   by_cases h : i < w.size <;> simp [h, List.getElem?_range]
  constructor
  ·rintro ⟨k, ⟨i, ⟨h1, h2, h3⟩, rfl⟩, rfl⟩
   refine ⟨i + 1, rfl, ?_⟩
   have h4 : fr.getD i false = true := (List.mem_filter.1 h1).2
   rw [hone, hit, h4, h3]; simp [h2]
  ·rintro ⟨k, rfl, hk⟩
   cases k with
   | zero => simp [eD] at hk
   | succ i =>
    rw [hone, hit] at hk
    simp only [Bool.and_eq_true, decide_eq_true_eq] at hk
    refine ⟨i + 1, ⟨i, ⟨List.mem_filter.2 ⟨List.mem_range.2 (by omega), hk.2.1⟩, hk.1, hk.2.2⟩, rfl⟩, rfl⟩
end Go.Rad
namespace Go.Rad
open Go Go.Proofs
set_option linter.all false
set_option maxRecDepth 20000
set_option maxHeartbeats 4000000
theorem BR {a : Int} (h : 0 ≤ a) : bitsOf .and .u64 a 1 = a.tmod 2 := by
 obtain ⟨n, rfl⟩ : ∃ n : Nat, a = n := ⟨a.toNat, by omega⟩
 unfold bitsOf
 simp
 have h1 : n % 2 ^ IntKind.u64.bits &&& 1 % 2 ^ IntKind.u64.bits = n % 2 := by
  show n % 18446744073709551616 &&& 1 = n % 2
  rw [Nat.and_one_is_mod]; omega
 rw [h1, Int.tmod_eq_emod_of_nonneg h]
 have h2 : n % 2 = 0 ∨ n % 2 = 1 := by omega
 rcases h2 with h2 | h2
 ·rw [h2, show (n : Int) % 2 = 0 by omega]; rfl
 ·rw [h2, show (n : Int) % 2 = 1 by omega]; rfl
theorem Im (s : aw) (hs : ∀ k, 0 ≤ s.word k) (n : Nat) (h1 : n ≤ 255) : ah Tryz.prog 137 [.agg s.cells, .int .u8 n] [] fun r s' => r = .bool (dA s n) ∧ s' = [] := by
 obtain ⟨s0, s1, s2, s3⟩ := s
 simp only [aw.cells]
 have h4 : n / 64 = 0 ∨ n / 64 = 1 ∨ n / 64 = 2 ∨ n / 64 = 3 := by omega
 rcases h4 with h4 | h4 | h4 | h4
 all_goals
  (first | refine ew (c := 0) h4 rfl fun hd hm hmin => ?_ | refine ew (c := 1) h4 rfl fun hd hm hmin => ?_ | refine ew (c := 2) h4 rfl fun hd hm hmin => ?_ | refine ew (c := 3) h4 rfl fun hd hm hmin => ?_)
  have hw := hs (n / 64)
  simp only [h4, aw.word] at hw
  have ha := BR (a := Int.fdiv _ (2 ^ (n % 64))) (Int.fdiv_nonneg hw (Int.le_of_lt (Int.pow_pos (by omega))))
  simp only [dA, h4, aw.word]
  refine ah.enter Tryz.func137 rfl (by kernel_rfl) (Nat.le_of_ble_eq_true rfl) ?_; simp only [ai, Nat.reduceAdd]
  repeat' (first
 | refine gCt rfl ?_
 | ((first
 | ((first | refine gR fp137 ?_); intro K hK)
 | (refine ab ?_ ?_ <;> intro hb <;> (try simp only [bls] at hb) <;> (try simp only [hb]))
 | refine gRe [] [.tmp 4] rfl rfl ?_) <;> (try simp only [go_sem, simprocAttr, hd, hm, hmin, ha, mh, IntKind.bits, Int.toNat_natCast, Int.natCast_nonneg]))
 | (refine hK _ _ ?_; clear hK K; simp only [go_sem, simprocAttr])
 | refine gCd ?_ | refine brT ?_ | refine brF ?_
 | (refine brS ?_ ?_ <;> intro hc <;> (try simp only [bls] at hc) <;> (try simp only [hc, bls]))
 | intro _ | refine And.intro ?_ ?_)
 all_goals (try exact ⟨rfl, rfl⟩)
 all_goals trace_state
end Go.Rad
namespace Go.Rad
open Go Go.Proofs
set_option linter.all false
set_option maxRecDepth 20000
set_option maxHeartbeats 4000000
theorem Ce {q f : Bool} {ns : List Node} {w : ByteArray} (hw : w.size ≤ 1000000) (n : Node) (i : Nat) (h1 : ns[i]? = some n) (h2 : n.op = 2) (hss : ∀ k, 0 ≤ n.s.word k) (s : List Bool) (hs : s.length = w.size + 1) :
  ah Tryz.prog 119 [.agg [.sl q f (nodes ns), .str w], .int .i64 i, .sl true false (ints (bP s))] [] fun r s' => r = .sl true false (ints (bP (eD n.s w s))) ∧ s' = [] := by
 have hi := (List.getElem?_eq_some_iff.1 h1).1
 have e1 : (i : Int) < ns.length := by omega
 have e2 : (0 : Int) ≤ i := by omega
 have hsp := step_pos n.s w s hs
 have hpl : (lp s).length ≤ w.size + 1 := by have := iA s; simpa [hs] using this
 have hpm : ∀ k ∈ lp s, k ≤ w.size := fun k hk => by have := List.mem_range.1 (List.mem_filter.1 hk).1; omega
 rw [← hsp]
 unfold bP
 clear hsp
 generalize lp s = P at hpl hpm ⊢
 have hh := fun k hk => Im n.s hss k hk
 obtain ⟨xo, ⟨xa, xb, xc, xd⟩, xl, xlo, xhi, xn⟩ := n
 simp only [aw.cells] at h2 hh
 refine ah.enter Tryz.func119 rfl (by kernel_rfl) (Nat.le_of_ble_eq_true rfl) ?_; simp only [ai, Nat.reduceAdd]
 repeat' (first
 | refine gCt rfl ?_
 | ((first
 | ((first | refine gR fp119 ?_ | refine gD 8 14 ed fp119 ?_); intro K hK)
 | (refine ab ?_ ?_ <;> intro hb <;> (try simp only [bls] at hb) <;> (try simp only [hb]))
 | refine gRe [] [.tmp 6] rfl rfl ?_) <;> (try simp only [go_sem, simprocAttr, e1, e2, h1, eq_true h2, Option.some.injEq, forall_eq']))
 | (refine hK _ _ ?_; clear hK K; simp only [go_sem, simprocAttr])
 | refine gCd ?_ | refine brT ?_ | refine brF ?_
 | (refine brS ?_ ?_ <;> intro hc <;> (try simp only [bls] at hc) <;> (try simp only [hc, bls]))
 | intro _ | refine And.intro ?_ ?_)
 all_goals try exact zsd
 rename_i h3 h7
 refine ae.jr 8 900 1 (by decide) rfl fun g => ?_
 refine ae.prune [3, 6, 7, 8, 25, 26, 27] ?_; simp only [go_sem, simprocAttr]
 refine ae.al (α := Nat × Nat) (fun z => ([(3, .bx 3 h3 0), (6, .sl true true []), (7, .bx 7 h7 0), (8, .osl 900 z.2 0 (oH ⟨xa, xb, xc, xd⟩ w (P.take z.1)).length), (25, .sl true false (ints (P.map fun (i : Nat) => (i : Int)))), (26, .int .i64 P.length), (27, .int .i64 z.1)], [(3, h3, .box [.sl q f (nodes ns), .str w]), (7, h7, .box [.int .u8 xo, .int .u64 xa, .int .u64 xb, .int .u64 xc, .int .u64 xd, .sl true false (ints xl), .int .i64 xlo, .int .i64 xhi, .str xn]), (900, (z.2, .row 1 (ints ((oH ⟨xa, xb, xc, xd⟩ w (P.take z.1)).map fun (i : Nat) => (i : Int)))))])) (fun z => z.1 ≤ P.length) (fun z => P.length - z.1) (0, g) (Nat.zero_le _) (by simp [oH]) ?_
 rintro ⟨j, g⟩ hj ih
 simp only at hj ih ⊢
 by_cases hle : j < P.length
 ·have f4 : (j : Int) < P.length := by omega
  have f5 : (0 : Int) ≤ j := by omega
  have f6 : (j : Int) + 1 = ((j + 1 : Nat) : Int) := by omega
  obtain ⟨k, hk⟩ : ∃ k, P[j]? = some k := ⟨_, List.getElem?_eq_getElem hle⟩
  have hkw := hpm k (List.mem_of_getElem? hk)
  have hx : (P.map fun (i : Nat) => (i : Int))[j]? = some (k : Int) := by simp [hk]
  have hst : oH ⟨xa, xb, xc, xd⟩ w (P.take (j + 1)) = oH ⟨xa, xb, xc, xd⟩ w (P.take j) ++ (if decide (k < w.size) && dA ⟨xa, xb, xc, xd⟩ (ch w k) then [k + 1] else []) := by
   rw [take_one hk]
   unfold oH
   rw [List.filter_append, List.map_append]
   cases h : (decide (k < w.size) && dA ⟨xa, xb, xc, xd⟩ (ch w k)) <;> simp [h]
  have hsl : (oH ⟨xa, xb, xc, xd⟩ w (P.take j)).length ≤ j := by
   unfold oH
   rw [List.length_map]
   exact Nat.le_trans (List.length_filter_le _ _) (by simp; omega)
  have f8 : (0 : Int) ≤ k := by omega
  have f9 : (k : Int) + 1 = ((k + 1 : Nat) : Int) := by omega
  have hc := hh (ch w k) (pF w k)
  by_cases hkw2 : k < w.size
  ·have f7 : (k : Int) < w.size := by omega
   cases hb : dA ⟨xa, xb, xc, xd⟩ (ch w k)
   ·rw [hb, decide_eq_true hkw2] at hst
    rw [hb] at hc
    simp only [Bool.and_false, Bool.false_eq_true, if_false, List.append_nil] at hst
    repeat' (first
 | refine gCt rfl ?_
 | ((first
 | ((first | refine gR fp119 ?_ | refine gD 8 14 ed fp119 ?_); intro K hK)
 | refine ⟨_, ah.alone (hc) rfl rfl rfl, ?_⟩
 | (refine ab ?_ ?_ <;> intro hb <;> (try simp only [bls] at hb) <;> (try simp only [hb]))
 | refine gRe [] [.tmp 6] rfl rfl ?_) <;> (try simp only [go_sem, simprocAttr, f4, f5, f6, f7, f8, f9, hx, eZ, Option.some.injEq, forall_eq']))
 | (refine hK _ _ ?_; clear hK K; simp only [go_sem, simprocAttr])
 | refine gCd ?_ | refine brT ?_ | refine brF ?_
 | (refine brS ?_ ?_ <;> intro hc <;> (try simp only [bls] at hc) <;> (try simp only [hc, bls]))
 | intro _ | refine And.intro ?_ ?_)
    all_goals try exact zsd
    all_goals (refine ae.bh [3, 7, 900] ?_; simp only [ao, au, go_sem, simprocAttr]; refine ae.prune [3, 6, 7, 8, 25, 26, 27] ?_; simp only [go_sem, simprocAttr]; exact ae.cast (ih (j + 1, g) (by simp only; omega) (by simp only; omega)) (by simp only [hst]) (by simp only [hst]))
   ·rw [hb, decide_eq_true hkw2] at hst
    rw [hb] at hc
    simp only [Bool.and_true, if_true] at hst
    repeat' (first
 | refine gCt rfl ?_
 | ((first
 | ((first | refine gRg [48] fp119 ?_ | refine gDr 8 [48] 14 ed fp119 rfl ?_); intro K hK)
 | refine ⟨_, ah.alone (hc) rfl rfl rfl, ?_⟩
 | (refine ab ?_ ?_ <;> intro hb <;> (try simp only [bls] at hb) <;> (try simp only [hb]))
 | refine gRe [] [.tmp 6] rfl rfl ?_) <;> (try simp only [go_sem, simprocAttr, f4, f5, f6, f7, f8, f9, hx, eZ, Option.some.injEq, forall_eq']))
 | (refine hK _ _ ?_; clear hK K; simp only [go_sem, simprocAttr])
 | refine gCd ?_ | refine brT ?_ | refine brF ?_
 | (refine brS ?_ ?_ <;> intro hc <;> (try simp only [bls] at hc) <;> (try simp only [hc, bls]))
 | intro _ | refine And.intro ?_ ?_)
    all_goals try exact zsd
    rename_i h'
    refine ae.bh [3, 7, 900] ?_; simp only [ao, au, go_sem, simprocAttr]; refine ae.prune [3, 6, 7, 8, 25, 26, 27] ?_; simp only [go_sem, simprocAttr]
    exact ae.cast (ih (j + 1, h') (by simp only; omega) (by simp only; omega)) (by simp only [hst]; simp) (by simp only [hst]; simp)
  ·have f7 : ¬ (k : Int) < w.size := by omega
   rw [decide_eq_false hkw2] at hst
   simp only [Bool.false_and, Bool.false_eq_true, if_false, List.append_nil] at hst
   repeat' (first
 | refine gCt rfl ?_
 | ((first
 | ((first | refine gR fp119 ?_ | refine gD 8 14 ed fp119 ?_); intro K hK)
 | refine ⟨_, ah.alone (hc) rfl rfl rfl, ?_⟩
 | (refine ab ?_ ?_ <;> intro hb <;> (try simp only [bls] at hb) <;> (try simp only [hb]))
 | refine gRe [] [.tmp 6] rfl rfl ?_) <;> (try simp only [go_sem, simprocAttr, f4, f5, f6, f7, f8, f9, hx, eZ, Option.some.injEq, forall_eq']))
 | (refine hK _ _ ?_; clear hK K; simp only [go_sem, simprocAttr])
 | refine gCd ?_ | refine brT ?_ | refine brF ?_
 | (refine brS ?_ ?_ <;> intro hc <;> (try simp only [bls] at hc) <;> (try simp only [hc, bls]))
 | intro _ | refine And.intro ?_ ?_)
   all_goals try exact zsd
   all_goals (refine ae.bh [3, 7, 900] ?_; simp only [ao, au, go_sem, simprocAttr]; refine ae.prune [3, 6, 7, 8, 25, 26, 27] ?_; simp only [go_sem, simprocAttr]; exact ae.cast (ih (j + 1, g) (by simp only; omega) (by simp only; omega)) (by simp only [hst]) (by simp only [hst]))
 ·have f4 : ¬ (j : Int) < P.length := by omega
  rw [List.take_of_length_le (by omega)]
  clear ih
  repeat' (first
 | refine gCt rfl ?_
 | ((first
 | (refine ae.at 11 ?_; (refine ae.freeze 900 rfl ?_; simp only [rfT, rfS, rfO, rf, rf1, Nat.le_refl, true_and, go_sem, simprocAttr]); refine gR fp119 ?_; intro K hK)
 | ((first | refine gR fp119 ?_ | refine gD 8 14 ed fp119 ?_); intro K hK)
 | (refine ab ?_ ?_ <;> intro hb <;> (try simp only [bls] at hb) <;> (try simp only [hb]))
 | refine gRe [] [.tmp 6] rfl rfl ?_) <;> (try simp only [go_sem, simprocAttr, f4]))
 | (refine hK _ _ ?_; clear hK K; simp only [go_sem, simprocAttr])
 | refine gCd ?_ | refine brT ?_ | refine brF ?_
 | (refine brS ?_ ?_ <;> intro hc <;> (try simp only [bls] at hc) <;> (try simp only [hc, bls]))
 | intro _ | refine And.intro ?_ ?_)
  all_goals try exact zsd
  exact congrArg (aa.sl true false) (List.take_of_length_le (by simp))
end Go.Rad
namespace Go.Rad
open Go Go.Proofs
set_option linter.all false
set_option maxRecDepth 20000
set_option maxHeartbeats 4000000
theorem wK (s : List Bool) : (bP s).length = c7 s := by
 have h : s = (List.range s.length).map fun i => s.getD i false := by
  refine List.ext_getElem (by simp) fun i h1 h2 => ?_
  simp [List.getD, h1]
 rw [bP, List.length_map, lp, ← List.countP_eq_length_filter]
 conv => rhs; rw [h, c7, List.countP_map]
 rfl
theorem DA {a b : List Bool} (h : a.length = b.length) (e : bP a = bP b) : a = b := by
 refine fN h fun i => ?_
 have key : ∀ s : List Bool, s.getD i false = true ↔ (i : Int) ∈ bP s := fun s => by
  rw [eV]
  exact ⟨fun h => ⟨i, rfl, h⟩, fun ⟨k, h1, h2⟩ => by rw [show i = k by omega]; exact h2⟩
 have := (key a).trans (e ▸ (key b).symm)
 cases ha : a.getD i false with
 | true => exact (this.1 ha).symm
 | false =>
  cases hb : b.getD i false with
  | false => rfl
  | true => rw [this.2 hb] at ha; exact ha.symm
def En (P : Program) (fno : Nat) (q f : Bool) (ns : List Node) (w : ByteArray) (kd : Int) (g : List Bool → List Bool) : Prop :=
 ∀ s : List Bool, s.length = w.size + 1 → ah P fno [.agg [.sl q f (nodes ns), .str w], .int .i64 kd, .sl true false (ints (bP s))] [] fun r s' => r = .sl true false (ints (bP (g s))) ∧ s' = []
theorem DU {q f : Bool} {ns : List Node} {w : ByteArray} (hw : w.size ≤ 1000000) (n : Node) (kid : Int) (g : List Bool → List Bool) (hn : n.l = [kid]) (hlo : 0 ≤ n.lo ∧ n.lo ≤ 4096) (hhi : n.hi = -1 ∨ n.lo ≤ n.hi ∧ n.hi ≤ 4096) (hk : En Tryz.prog 119 q f ns w kid g) (hg : Add (w.size + 1) g) (s : List Bool) (hs : s.length = w.size + 1) :
  ah Tryz.prog 139 [.agg [.sl q f (nodes ns), .str w], .agg n.cells, .sl true false (ints (bP s))] [] fun r s' => r = .sl true false (ints (bP (ko w n.lo n.hi g s))) ∧ s' = [] := by
 obtain ⟨xo, ⟨xa, xb, xc, xd⟩, xl, xlo, xhi, xn⟩ := n
 simp only at hn hlo hhi
 have hx0 : xl[0]? = some kid := by rw [hn]; rfl
 have e0 : (0 : Int) < xl.length := by rw [hn]; exact Int.one_pos
 clear hn
 obtain ⟨lo, rfl⟩ : ∃ lo : Nat, xlo = lo := ⟨xlo.toNat, by omega⟩
 simp only [Node.cells, Node.eL]
 obtain ⟨S1, hS1⟩ : ∃ S1, S1 = itB g lo s := ⟨_, rfl⟩
 have hS1l : S1.length = w.size + 1 := by rw [hS1]; exact dj hg hs lo
 obtain ⟨M, hM⟩ : ∃ M : Nat, M = if xhi = -1 then w.size + 1 else (xhi - lo).toNat := ⟨_, rfl⟩
 have hrep : ko w lo xhi g s = uB g M S1 := by rw [ko, ← hM, Int.toNat_natCast, ← hS1]
 rw [hrep]
 clear hrep
 refine ah.enter Tryz.func139 rfl (by kernel_rfl) (Nat.le_of_ble_eq_true rfl) ?_; simp only [ai, Nat.reduceAdd]
 repeat' (first
 | refine gCt rfl ?_
 | ((first
 | ((first | refine gR fp139 ?_ | refine gD 3 8 ro8 fp139 ?_ | refine gD 11 8 ro8 fp139 ?_); intro K hK)
 | (refine ab ?_ ?_ <;> intro hb <;> (try simp only [bls] at hb) <;> (try simp only [hb]))
 | refine gRe [] [.tmp 6] rfl rfl ?_) <;> (try simp only [go_sem, simprocAttr]))
 | (refine hK _ _ ?_; clear hK K; simp only [go_sem, simprocAttr])
 | refine gCd ?_ | refine brT ?_ | refine brF ?_
 | (refine brS ?_ ?_ <;> intro hc <;> (try simp only [bls] at hc) <;> (try simp only [hc, bls]))
 | intro _ | refine And.intro ?_ ?_)
 all_goals try exact zsd
 rename_i h3 h4
 refine ae.prune [2, 3, 4, 6, 12, 13] ?_; simp only [go_sem, simprocAttr]
 apply hv0
 case main =>
  intro key
  refine ae.al (α := Nat) (fun i => ([(2, .sl true false (ints (bP (itB g i s)))), (3, .bx 3 h3 0), (4, .bx 4 h4 0), (6, .sl true true []), (12, .int .i64 lo), (13, .int .i64 i)], [(3, h3, .box [.sl q f (nodes ns), .str w]), (4, h4, .box [.int .u8 xo, .int .u64 xa, .int .u64 xb, .int .u64 xc, .int .u64 xd, .sl true false (ints xl), .int .i64 lo, .int .i64 xhi, .str xn])]))
   (fun i => i ≤ lo) (fun i => lo - i) 0 (Nat.zero_le _) rfl ?_
  rintro i hi ih
  simp only at hi ih ⊢
  have hil := dj hg hs i
  by_cases hle : i < lo
  ·have e4 : (i : Int) < lo := by omega
   have e6 : (i : Int) + 1 = ((i + 1 : Nat) : Int) := by omega
   have hc := hk (itB g i s) hil
   rw [← gq g] at hc
   have hsm := zA true false true false (bP (itB g (i + 1) s)) (bP (itB g i s))
   by_cases hst : bP (itB g (i + 1) s) = bP (itB g i s)
   ·rw [decide_eq_true hst] at hsm
    have hst := DA (by rw [dj hg hs, hil]) hst
    have hfin : itB g i s = S1 := by
     have := wb (g := g) (s := s) (i := i) (show g (itB g i s) = itB g i s by rw [← gq g]; exact hst) (lo - i)
     rw [show i + (lo - i) = lo by omega] at this
     rw [hS1, this]
    rw [hst] at hc hsm
    rw [hfin] at hc hsm ⊢
    repeat' (first
 | (refine ae.at 7 ?_; (refine ae.prune [2, 3, 4, 6] ?_; simp only [go_sem, simprocAttr]; refine lX ?_))
 | refine gCt rfl ?_
 | ((first
 | ((first | refine gR fp139 ?_ | refine gD 3 8 ro8 fp139 ?_ | refine gD 11 8 ro8 fp139 ?_); intro K hK)
 | refine cAl (hsm) rfl rfl rfl ?_
 | refine ⟨_, ah.alone (hc) rfl rfl rfl, ?_⟩
 | (refine ab ?_ ?_ <;> intro hb <;> (try simp only [bls] at hb) <;> (try simp only [hb]))
 | refine gRe [] [.tmp 6] rfl rfl ?_) <;> (try simp only [go_sem, simprocAttr, e4, e6, hx0, e0, Option.some.injEq, forall_eq']))
 | (refine hK _ _ ?_; clear hK K; simp only [go_sem, simprocAttr])
 | refine gCd ?_ | refine brT ?_ | refine brF ?_
 | (refine brS ?_ ?_ <;> intro hc <;> (try simp only [bls] at hc) <;> (try simp only [hc, bls]))
 | intro _ | refine And.intro ?_ ?_)
    all_goals try exact zsd
    refine lW ?_; exact key.out
   ·rw [decide_eq_false hst] at hsm
    repeat' (first
 | refine gCt rfl ?_
 | ((first
 | ((first | refine gR fp139 ?_ | refine gD 3 8 ro8 fp139 ?_ | refine gD 11 8 ro8 fp139 ?_); intro K hK)
 | refine cAl (hsm) rfl rfl rfl ?_
 | refine ⟨_, ah.alone (hc) rfl rfl rfl, ?_⟩
 | (refine ab ?_ ?_ <;> intro hb <;> (try simp only [bls] at hb) <;> (try simp only [hb]))
 | refine gRe [] [.tmp 6] rfl rfl ?_) <;> (try simp only [go_sem, simprocAttr, e4, e6, hx0, e0, Option.some.injEq, forall_eq']))
 | (refine hK _ _ ?_; clear hK K; simp only [go_sem, simprocAttr])
 | refine gCd ?_ | refine brT ?_ | refine brF ?_
 | (refine brS ?_ ?_ <;> intro hc <;> (try simp only [bls] at hc) <;> (try simp only [hc, bls]))
 | intro _ | refine And.intro ?_ ?_)
    all_goals try exact zsd
    refine ae.bh [3, 4] ?_
    simp only [ao, au, go_sem, simprocAttr]
    refine ae.prune [2, 3, 4, 6, 12, 13] ?_; simp only [go_sem, simprocAttr]
    exact (ih (i + 1) (by omega) (by omega)).cast rfl rfl
  ·have e4 : ¬ (i : Int) < lo := by omega
   have hfin : itB g i s = S1 := by rw [hS1, show i = lo by omega]
   rw [hfin]
   repeat' (first
 | (refine ae.at 7 ?_; (refine ae.prune [2, 3, 4, 6] ?_; simp only [go_sem, simprocAttr]; refine lX ?_))
 | refine gCt rfl ?_
 | ((first
 | ((first | refine gR fp139 ?_ | refine gD 3 8 ro8 fp139 ?_ | refine gD 11 8 ro8 fp139 ?_); intro K hK)
 | (refine ab ?_ ?_ <;> intro hb <;> (try simp only [bls] at hb) <;> (try simp only [hb]))
 | refine gRe [] [.tmp 6] rfl rfl ?_) <;> (try simp only [go_sem, simprocAttr, e4]))
 | (refine hK _ _ ?_; clear hK K; simp only [go_sem, simprocAttr])
 | refine gCd ?_ | refine brT ?_ | refine brF ?_
 | (refine brS ?_ ?_ <;> intro hc <;> (try simp only [bls] at hc) <;> (try simp only [hc, bls]))
 | intro _ | refine And.intro ?_ ?_)
   refine lW ?_; exact key.out
 case key =>
  clear hS1 hs
  repeat' (first
 | refine gCt rfl ?_
 | ((first
 | ((first | refine gR fp139 ?_ | refine gD 3 8 ro8 fp139 ?_ | refine gD 11 8 ro8 fp139 ?_); intro K hK)
 | (refine ab ?_ ?_ <;> intro hb <;> (try simp only [bls] at hb) <;> (try simp only [hb]))
 | refine gRe [] [.tmp 6] rfl rfl ?_) <;> (try simp only [go_sem, simprocAttr]))
 | (refine hK _ _ ?_; clear hK K; simp only [go_sem, simprocAttr])
 | refine gCd ?_ | refine brT ?_ | refine brF ?_
 | (refine brS ?_ ?_ <;> intro hc <;> (try simp only [bls] at hc) <;> (try simp only [hc, bls]))
 | intro _ | refine And.intro ?_ ?_)
  refine ae.prune [2, 3, 4, 6, 8, 9] ?_; simp only [go_sem, simprocAttr]
  refine ae.al (α := Nat) (fun k => ([(2, .sl true false (ints (bP (itB g k S1)))), (3, .bx 3 h3 0), (4, .bx 4 h4 0), (6, .sl true true []), (8, .sl true false (ints (bP (uB g k S1)))), (9, .int .i64 (lo + k : Nat))], [(3, h3, .box [.sl q f (nodes ns), .str w]), (4, h4, .box [.int .u8 xo, .int .u64 xa, .int .u64 xb, .int .u64 xc, .int .u64 xd, .sl true false (ints xl), .int .i64 lo, .int .i64 xhi, .str xn])]))
   (fun k => k ≤ c7 (uB g k S1) ∧ (xhi = -1 ∨ k ≤ M)) (fun k => w.size + 1 - k) 0 ⟨Nat.zero_le _, .inr (Nat.zero_le _)⟩ rfl ?_
  rintro k ⟨hkc, hkM⟩ ih
  simp only at hkc hkM ih ⊢
  have hul := jv hg hS1l k
  have hil := dj hg hS1l k
  have hcl : c7 (uB g k S1) ≤ w.size + 1 := by rw [← hul]; exact nu
  by_cases hgo : xhi = -1 ∨ k < M
  ·have e6 : ((lo + k : Nat) : Int) + 1 = ((lo + (k + 1) : Nat) : Int) := by omega
   have hc := hk (itB g k S1) hil
   rw [← gq g] at hc
   have ho := tf true false true false (uB g k S1) (itB g (k + 1) S1) (by rw [hul, dj hg hS1l]) (by omega)
   rw [← oQ hg hS1l] at ho
   have hgr := qD hul (dj hg hS1l (k + 1))
   rw [← oQ hg hS1l] at hgr
   have e7 : ¬ ((lo + k : Nat) : Int) = xhi := by
    by_cases h1 : xhi = -1
    ·omega
    ·rw [if_neg h1] at hM; omega
   by_cases hst : uB g (k + 1) S1 = uB g k S1
   ·have hfin : uB g M S1 = uB g k S1 := by
     rcases hgo with h1 | h1
     ·rw [hM, if_pos h1]; exact EF hg hS1l hst
     ·have := jP hg hS1l hst (M - k)
      rw [show k + (M - k) = M by omega] at this
      exact this
    rw [hfin]
    rw [hst] at ho
    repeat' (first
 | refine gCt rfl ?_
 | ((first
 | ((first | refine gR fp139 ?_ | refine gD 3 8 ro8 fp139 ?_ | refine gD 11 8 ro8 fp139 ?_); intro K hK)
 | refine cAl (ho) rfl rfl rfl ?_
 | refine ⟨_, ah.alone (hc) rfl rfl rfl, ?_⟩
 | (refine ab ?_ ?_ <;> intro hb <;> (try simp only [bls] at hb) <;> (try simp only [hb]))
 | refine gRe [] [.tmp 6] rfl rfl ?_) <;> (try simp only [go_sem, simprocAttr, e6, e7, hx0, e0, Option.some.injEq, forall_eq']))
 | (refine hK _ _ ?_; clear hK K; simp only [go_sem, simprocAttr])
 | refine gCd ?_ | refine brT ?_ | refine brF ?_
 | (refine brS ?_ ?_ <;> intro hc <;> (try simp only [bls] at hc) <;> (try simp only [hc, bls]))
 | intro _ | refine And.intro ?_ ?_)
    all_goals try exact zsd
   ·have hlt : c7 (uB g k S1) ≠ c7 (uB g (k + 1) S1) := fun e => hst (hgr.2 e)
    have hcl2 : c7 (uB g (k + 1) S1) ≤ w.size + 1 := by rw [← jv hg hS1l (k + 1)]; exact nu
    have e8 : ¬ ((lp (uB g (k + 1) S1)).length : Int) = ((lp (uB g k S1)).length : Int) := by
     have a1 := wK (uB g (k + 1) S1)
     have a2 := wK (uB g k S1)
     rw [bP, List.length_map] at a1 a2
     omega
    repeat' (first
 | refine gCt rfl ?_
 | ((first
 | ((first | refine gR fp139 ?_ | refine gD 3 8 ro8 fp139 ?_ | refine gD 11 8 ro8 fp139 ?_); intro K hK)
 | refine cAl (ho) rfl rfl rfl ?_
 | refine ⟨_, ah.alone (hc) rfl rfl rfl, ?_⟩
 | (refine ab ?_ ?_ <;> intro hb <;> (try simp only [bls] at hb) <;> (try simp only [hb]))
 | refine gRe [] [.tmp 6] rfl rfl ?_) <;> (try simp only [go_sem, simprocAttr, e6, e7, e8, hx0, e0, Option.some.injEq, forall_eq']))
 | (refine hK _ _ ?_; clear hK K; simp only [go_sem, simprocAttr])
 | refine gCd ?_ | refine brT ?_ | refine brF ?_
 | (refine brS ?_ ?_ <;> intro hc <;> (try simp only [bls] at hc) <;> (try simp only [hc, bls]))
 | intro _ | refine And.intro ?_ ?_)
    all_goals try exact zsd
    refine ae.bh [3, 4] ?_
    simp only [ao, au, go_sem, simprocAttr]
    refine ae.prune [2, 3, 4, 6, 8, 9] ?_; simp only [go_sem, simprocAttr]
    exact (ih (k + 1) ⟨by omega, by omega⟩ (by omega)).cast rfl rfl
  ·have h1 : ¬ xhi = -1 := fun h => hgo (.inl h)
   have e7 : ((lo + k : Nat) : Int) = xhi := by rw [if_neg h1] at hM; omega
   have hkm : k = M := by omega
   subst hkm
   clear ih
   repeat' (first
 | refine gCt rfl ?_
 | ((first
 | ((first | refine gR fp139 ?_ | refine gD 3 8 ro8 fp139 ?_ | refine gD 11 8 ro8 fp139 ?_); intro K hK)
 | (refine ab ?_ ?_ <;> intro hb <;> (try simp only [bls] at hb) <;> (try simp only [hb]))
 | refine gRe [] [.tmp 6] rfl rfl ?_) <;> (try simp only [go_sem, simprocAttr, eq_true e7]))
 | (refine hK _ _ ?_; clear hK K; simp only [go_sem, simprocAttr])
 | refine gCd ?_ | refine brT ?_ | refine brF ?_
 | (refine brS ?_ ?_ <;> intro hc <;> (try simp only [bls] at hc) <;> (try simp only [hc, bls]))
 | intro _ | refine And.intro ?_ ?_)
   all_goals try exact zsd
end Go.Rad
namespace Go.Rad
open Go Go.Proofs
set_option linter.all false
set_option maxRecDepth 20000
set_option maxHeartbeats 4000000
theorem qL {q f : Bool} {ns : List Node} {w : ByteArray} (hw : w.size ≤ 1000000) (hll : ns.length ≤ 1000000) (hss : ∀ n ∈ ns, ∀ k, 0 ≤ n.s.word k) : ∀ (fo : Fo) (ks : List Int), fo.Sub ns ks → fo.cO = true → fo.size ≤ 1000000 → ∀ (j : Nat) (kd : Int) (g : List Bool → List Bool), ks[j]? = some kd → (sem w fo)[j]? = some g → En Tryz.prog 119 q f ns w kd g
 | .nil, ks, hs, _, _, j, kd, g, hj, hg => by simp [sem] at hg
 | .node b k r, ks, hsub, hsh, hsz, j, kd, g, hj, hg => by
  obtain ⟨i, n, ks', rfl, h1, h2, h3, h4⟩ := hsub
  simp only [Fo.cO, Fo.all, Bool.and_eq_true] at hsh
  simp only [Fo.size] at hsz
  cases j with
  | succ j => exact qL hw hll hss r ks' h4 hsh.2 (by omega) j kd g (by simpa using hj) (by simpa [sem] using hg)
  | zero =>
   simp only [List.getElem?_cons_zero, Option.some.injEq, sem] at hj hg
   subst hj hg
   have ih := qL (q := q) (f := f) hw hll hss k n.l h3 hsh.1.2 (by omega)
   have hlen := h3.len
   have hsl := ja w k
   have hadd := iZ w k
   have hkd : k.deg ≤ 1000000 := Nat.le_trans (Fo.uC k) (by omega)
   generalize sem w k = fs at ih hsl hadd
   have hshape := hsh.1.1
   have hlk : n.l.length = fs.length := by omega
   rw [← hlen] at hshape
   clear h3 h4 hsh
   intro s hs
   have hi := (List.getElem?_eq_some_iff.1 h1).1
   have e1 : (i : Int) < ns.length := by omega
   have e2 : (0 : Int) ≤ i := by omega
   have hbyte := fun h => Ce (q := q) (f := f) hw n i h1 h (hss n (List.mem_of_getElem? h1)) s hs
   clear hss
   obtain ⟨xo, ⟨xa, xb, xc, xd⟩, xl, xlo, xhi, xn⟩ := n
   subst h2
   simp only at hshape ih hlk hlen hbyte
   simp only [da]
   by_cases h2 : xo = 2
   ·rw [if_pos h2]
    exact hbyte h2
   ·rw [if_neg h2]
    clear hbyte
    by_cases h3 : xo = 3
    ·rw [if_pos h3]
     obtain ⟨S, hS⟩ : ∃ S, S = fs.foldl (fun s f => f s) s := ⟨_, rfl⟩
     rw [← hS]
     refine ah.enter Tryz.func119 rfl (by kernel_rfl) (Nat.le_of_ble_eq_true rfl) ?_; simp only [ai, Nat.reduceAdd]
     repeat' (first
 | refine gCt rfl ?_
 | ((first
 | ((first | refine gR fp119 ?_ | refine gD 8 14 ed fp119 ?_); intro K hK)
 | (refine ab ?_ ?_ <;> intro hb <;> (try simp only [bls] at hb) <;> (try simp only [hb]))
 | refine gRe [] [.tmp 6] rfl rfl ?_) <;> (try simp only [go_sem, simprocAttr, e1, e2, h1, h2, eq_true h3, Option.some.injEq, forall_eq']))
 | (refine hK _ _ ?_; clear hK K; simp only [go_sem, simprocAttr])
 | refine gCd ?_ | refine brT ?_ | refine brF ?_
 | (refine brS ?_ ?_ <;> intro hc <;> (try simp only [bls] at hc) <;> (try simp only [hc, bls]))
 | intro _ | refine And.intro ?_ ?_)
     all_goals try exact zsd
     rename_i m3 m7
     refine ae.bh [3] ?_
     simp only [ao, au, go_sem, simprocAttr]
     refine ae.prune [2, 3, 6, 55, 56, 57] ?_; simp only [go_sem, simprocAttr]
     refine ae.al (α := Nat × List Bool) (fun z => ([(2, .sl true false (ints (bP z.2))), (3, .bx 3 m3 0), (6, .sl true true []), (55, .sl true false (ints xl)), (56, .int .i64 xl.length), (57, .int .i64 z.1)], [(3, m3, .box [.sl q f (nodes ns), .str w])]))
      (fun z => z.1 ≤ xl.length ∧ z.2.length = w.size + 1 ∧ S = (fs.drop z.1).foldl (fun s f => f s) z.2) (fun z => xl.length - z.1) (0, s) ⟨Nat.zero_le _, hs, hS⟩ rfl ?_
     rintro ⟨j, t⟩ ⟨hj, ht, hrun⟩ ih2
     simp only at hj ht hrun ih2 ⊢
     by_cases hle : j < xl.length
     ·have f4 : (j : Int) < xl.length := by omega
      have f5 : (0 : Int) ≤ j := by omega
      have f6 : (j : Int) + 1 = ((j + 1 : Nat) : Int) := by omega
      have hx : xl[j]? = some xl[j] := List.getElem?_eq_getElem hle
      have hfx : fs[j]? = some (fs[j]'(by omega)) := List.getElem?_eq_getElem (by omega)
      have hc := ih j _ _ hx hfx t ht
      rw [List.drop_eq_getElem_cons (by omega : j < fs.length), List.foldl_cons] at hrun
      have ha := (hadd (fs[j]'(by omega)) (List.getElem_mem _)).len t ht
      generalize (fs[j]'(by omega)) t = u at hc hrun ha
      generalize xl[j] = kd at hx hc
      repeat' (first
 | refine gCt rfl ?_
 | ((first
 | ((first | refine gR fp119 ?_ | refine gD 8 14 ed fp119 ?_); intro K hK)
 | refine cAl (hc) rfl rfl rfl ?_
 | (refine ab ?_ ?_ <;> intro hb <;> (try simp only [bls] at hb) <;> (try simp only [hb]))
 | refine gRe [] [.tmp 6] rfl rfl ?_) <;> (try simp only [go_sem, simprocAttr, f4, f5, f6, hx, Option.some.injEq, forall_eq']))
 | (refine hK _ _ ?_; clear hK K; simp only [go_sem, simprocAttr])
 | refine gCd ?_ | refine brT ?_ | refine brF ?_
 | (refine brS ?_ ?_ <;> intro hc <;> (try simp only [bls] at hc) <;> (try simp only [hc, bls]))
 | intro _ | refine And.intro ?_ ?_)
      all_goals try exact zsd
      refine ae.bh [3] ?_
      simp only [ao, au, go_sem, simprocAttr]
      refine ae.prune [2, 3, 6, 55, 56, 57] ?_; simp only [go_sem, simprocAttr]
      exact (ih2 (j + 1, u) ⟨by simp only; omega, ha, hrun⟩ (by simp only; omega)).cast rfl rfl
     ·have f4 : ¬ (j : Int) < xl.length := by omega
      rw [List.drop_eq_nil_of_le (by omega)] at hrun
      simp only [List.foldl_nil] at hrun
      subst hrun
      clear ih2
      repeat' (first
 | refine gCt rfl ?_
 | ((first
 | ((first | refine gR fp119 ?_ | refine gD 8 14 ed fp119 ?_); intro K hK)
 | (refine ab ?_ ?_ <;> intro hb <;> (try simp only [bls] at hb) <;> (try simp only [hb]))
 | refine gRe [] [.tmp 6] rfl rfl ?_) <;> (try simp only [go_sem, simprocAttr, f4]))
 | (refine hK _ _ ?_; clear hK K; simp only [go_sem, simprocAttr])
 | refine gCd ?_ | refine brT ?_ | refine brF ?_
 | (refine brS ?_ ?_ <;> intro hc <;> (try simp only [bls] at hc) <;> (try simp only [hc, bls]))
 | intro _ | refine And.intro ?_ ?_)
      all_goals try exact zsd
    ·rw [if_neg h3]
     by_cases h4 : xo = 4
     ·rw [if_pos h4]
      obtain ⟨S, hS⟩ : ∃ S, S = fs.foldl (fun o f => orB o (f s)) (aY (w.size + 1)) := ⟨_, rfl⟩
      rw [← hS]
      have hp0 : ints (bP (aY (w.size + 1))) = [] := by
       have : bP (aY (w.size + 1)) = [] := by
        rw [bP, lp, List.filter_eq_nil_iff.2 fun i _ => by rw [eN]; exact Bool.false_ne_true]
        rfl
       rw [this]; rfl
      refine ah.enter Tryz.func119 rfl (by kernel_rfl) (Nat.le_of_ble_eq_true rfl) ?_; simp only [ai, Nat.reduceAdd]
      repeat' (first
 | refine gCt rfl ?_
 | ((first
 | ((first | refine gR fp119 ?_ | refine gD 8 14 ed fp119 ?_); intro K hK)
 | (refine ab ?_ ?_ <;> intro hb <;> (try simp only [bls] at hb) <;> (try simp only [hb]))
 | refine gRe [] [.tmp 6] rfl rfl ?_) <;> (try simp only [go_sem, simprocAttr, e1, e2, h1, h2, h3, eq_true h4, Option.some.injEq, forall_eq']))
 | (refine hK _ _ ?_; clear hK K; simp only [go_sem, simprocAttr])
 | refine gCd ?_ | refine brT ?_ | refine brF ?_
 | (refine brS ?_ ?_ <;> intro hc <;> (try simp only [bls] at hc) <;> (try simp only [hc, bls]))
 | intro _ | refine And.intro ?_ ?_)
      all_goals try exact zsd
      rename_i m3 m7
      refine ae.vl 13 (by rfl) ?_
      refine ae.bh [3] ?_
      simp only [ao, au, go_sem, simprocAttr]
      refine ae.prune [2, 3, 6, 13, 70, 71, 72] ?_; simp only [go_sem, simprocAttr]
      refine ae.al (α := Nat × List Bool) (fun z => ([(2, .sl true false (ints (bP s))), (3, .bx 3 m3 0), (6, .sl true true []), (13, .sl true false (ints (bP z.2))), (70, .sl true false (ints xl)), (71, .int .i64 xl.length), (72, .int .i64 z.1)], [(3, m3, .box [.sl q f (nodes ns), .str w])]))
       (fun z => z.1 ≤ xl.length ∧ z.2.length = w.size + 1 ∧ S = (fs.drop z.1).foldl (fun o f => orB o (f s)) z.2) (fun z => xl.length - z.1) (0, aY (w.size + 1)) ⟨Nat.zero_le _, bZ _, hS⟩ (by simp only [hp0]; rfl) ?_
      rintro ⟨j, t⟩ ⟨hj, ht, hrun⟩ ih2
      simp only at hj ht hrun ih2 ⊢
      by_cases hle : j < xl.length
      ·have f4 : (j : Int) < xl.length := by omega
       have f5 : (0 : Int) ≤ j := by omega
       have f6 : (j : Int) + 1 = ((j + 1 : Nat) : Int) := by omega
       have hx : xl[j]? = some xl[j] := List.getElem?_eq_getElem hle
       have hfx : fs[j]? = some (fs[j]'(by omega)) := List.getElem?_eq_getElem (by omega)
       have hc := ih j _ _ hx hfx s hs
       rw [List.drop_eq_getElem_cons (by omega : j < fs.length), List.foldl_cons] at hrun
       have ha := (hadd (fs[j]'(by omega)) (List.getElem_mem _)).len s hs
       generalize (fs[j]'(by omega)) s = u at hc hrun ha
       generalize xl[j] = kd at hx hc
       have ho := tf true false true false t u (by omega) (by omega)
       have hol := bB ht ha
       repeat' (first
 | refine gCt rfl ?_
 | ((first
 | ((first | refine gR fp119 ?_ | refine gD 8 14 ed fp119 ?_); intro K hK)
 | refine cAl (hc) rfl rfl rfl ?_
 | refine cAl (ho) rfl rfl rfl ?_
 | (refine ab ?_ ?_ <;> intro hb <;> (try simp only [bls] at hb) <;> (try simp only [hb]))
 | refine gRe [] [.tmp 6] rfl rfl ?_) <;> (try simp only [go_sem, simprocAttr, f4, f5, f6, hx, Option.some.injEq, forall_eq']))
 | (refine hK _ _ ?_; clear hK K; simp only [go_sem, simprocAttr])
 | refine gCd ?_ | refine brT ?_ | refine brF ?_
 | (refine brS ?_ ?_ <;> intro hc <;> (try simp only [bls] at hc) <;> (try simp only [hc, bls]))
 | intro _ | refine And.intro ?_ ?_)
       all_goals try exact zsd
       refine ae.bh [3] ?_
       simp only [ao, au, go_sem, simprocAttr]
       refine ae.prune [2, 3, 6, 13, 70, 71, 72] ?_; simp only [go_sem, simprocAttr]
       exact (ih2 (j + 1, orB t u) ⟨by simp only; omega, hol, hrun⟩ (by simp only; omega)).cast rfl rfl
      ·have f4 : ¬ (j : Int) < xl.length := by omega
       rw [List.drop_eq_nil_of_le (by omega)] at hrun
       simp only [List.foldl_nil] at hrun
       subst hrun
       clear ih2
       repeat' (first
 | refine gCt rfl ?_
 | ((first
 | ((first | refine gR fp119 ?_ | refine gD 8 14 ed fp119 ?_); intro K hK)
 | (refine ab ?_ ?_ <;> intro hb <;> (try simp only [bls] at hb) <;> (try simp only [hb]))
 | refine gRe [] [.tmp 6] rfl rfl ?_) <;> (try simp only [go_sem, simprocAttr, f4]))
 | (refine hK _ _ ?_; clear hK K; simp only [go_sem, simprocAttr])
 | refine gCd ?_ | refine brT ?_ | refine brF ?_
 | (refine brS ?_ ?_ <;> intro hc <;> (try simp only [bls] at hc) <;> (try simp only [hc, bls]))
 | intro _ | refine And.intro ?_ ?_)
       all_goals try exact zsd
     ·rw [if_neg h4]
      by_cases h5 : xo = 5
      ·rw [if_pos h5]
       obtain ⟨q1, _, _, q4, q5, q6⟩ := gJ hshape h5
       simp only at q1 q4 q5 q6
       obtain ⟨kd, hkd⟩ : ∃ kd, xl = [kd] := List.length_eq_one_iff.1 q1
       obtain ⟨g, hg⟩ : ∃ g, fs = [g] := List.length_eq_one_iff.1 (by omega)
       have hc := DU (q := q) (f := f) (ns := ns) hw ⟨xo, ⟨xa, xb, xc, xd⟩, xl, xlo, xhi, xn⟩ kd g hkd ⟨q4, q5⟩ (by simp only; omega) (ih 0 kd g (by rw [hkd]; rfl) (by rw [hg]; rfl)) (hadd g (by rw [hg]; simp)) s hs
       rw [hg, List.headD_cons]
       simp only [Node.cells, Node.eL] at hc
       clear hkd hg
       refine ah.enter Tryz.func119 rfl (by kernel_rfl) (Nat.le_of_ble_eq_true rfl) ?_; simp only [ai, Nat.reduceAdd]
       repeat' (first
 | refine gCt rfl ?_
 | ((first
 | ((first | refine gR fp119 ?_ | refine gD 8 14 ed fp119 ?_); intro K hK)
 | refine cAl (hc) rfl rfl rfl ?_
 | (refine ab ?_ ?_ <;> intro hb <;> (try simp only [bls] at hb) <;> (try simp only [hb]))
 | refine gRe [] [.tmp 6] rfl rfl ?_) <;> (try simp only [go_sem, simprocAttr, e1, e2, h1, h2, h3, h4, eq_true h5, Option.some.injEq, forall_eq']))
 | (refine hK _ _ ?_; clear hK K; simp only [go_sem, simprocAttr])
 | refine gCd ?_ | refine brT ?_ | refine brF ?_
 | (refine brS ?_ ?_ <;> intro hc <;> (try simp only [bls] at hc) <;> (try simp only [hc, bls]))
 | intro _ | refine And.intro ?_ ?_)
       all_goals try exact zsd
      ·rw [if_neg h5]
       refine ah.enter Tryz.func119 rfl (by kernel_rfl) (Nat.le_of_ble_eq_true rfl) ?_; simp only [ai, Nat.reduceAdd]
       repeat' (first
 | refine gCt rfl ?_
 | ((first
 | ((first | refine gR fp119 ?_ | refine gD 8 14 ed fp119 ?_); intro K hK)
 | (refine ab ?_ ?_ <;> intro hb <;> (try simp only [bls] at hb) <;> (try simp only [hb]))
 | refine gRe [] [.tmp 6] rfl rfl ?_) <;> (try simp only [go_sem, simprocAttr, e1, e2, h1, h2, h3, h4, h5, Option.some.injEq, forall_eq']))
 | (refine hK _ _ ?_; clear hK K; simp only [go_sem, simprocAttr])
 | refine gCd ?_ | refine brT ?_ | refine brF ?_
 | (refine brS ?_ ?_ <;> intro hc <;> (try simp only [bls] at hc) <;> (try simp only [hc, bls]))
 | intro _ | refine And.intro ?_ ?_)
       all_goals try exact zsd
end Go.Rad
namespace Go.Rad
open Go Fo
abbrev Lan := List Nat → Prop
def jh (w : ByteArray) (i k : Nat) : List Nat := ((w.data.toList.map UInt8.toNat).drop i).take (k - i)
theorem xj (w : ByteArray) : (w.data.toList.map UInt8.toNat).length = w.size := by rw [List.length_map, Array.length_toList]; rfl
theorem iI {w : ByteArray} {i k : Nat} (h : i ≤ k) (hk : k ≤ w.size) : (jh w i k).length = k - i := by
 have := xj w
 simp only [jh, List.length_take, List.length_drop]
 omega
theorem A5 (w : ByteArray) (i : Nat) : jh w i i = [] := by simp [jh]
theorem tU {w : ByteArray} {i j k : Nat} (h1 : i ≤ j) (h2 : j ≤ k) : jh w i k = jh w i j ++ jh w j k := by
 unfold jh
 rw [show k - i = (j - i) + (k - j) by omega, List.take_add, List.drop_drop, show i + (j - i) = j by omega]
theorem A4 {w : ByteArray} {i k : Nat} {a b : List Nat} (h : i ≤ k) (hk : k ≤ w.size) (e : jh w i k = a ++ b) : ∃ j, i ≤ j ∧ j ≤ k ∧ a = jh w i j ∧ b = jh w j k := by
 have hl := iI h hk
 rw [e, List.length_append] at hl
 have e2 := tU (w := w) (show i ≤ i + a.length by omega) (show i + a.length ≤ k by omega)
 rw [e] at e2
 have hl2 := iI (w := w) (show i ≤ i + a.length by omega) (show i + a.length ≤ w.size by omega)
 obtain ⟨h1, h2⟩ := List.append_inj e2 (by omega)
 exact ⟨i + a.length, by omega, by omega, h1, h2⟩
theorem uz {w : ByteArray} {i : Nat} (h : i < w.size) : (w.data.toList.map UInt8.toNat)[i]? = some (ch w i) := by
 have h' : i < w.data.toList.length := by rw [Array.length_toList]; exact h
 rw [List.getElem?_map, ch, List.getElem?_eq_getElem h']
 rfl
theorem tV {w : ByteArray} {i : Nat} (h : i < w.size) : jh w i (i + 1) = [ch w i] := by
 have hb := uz h
 obtain ⟨h1, h2⟩ := List.getElem?_eq_some_iff.1 hb
 rw [jh, show i + 1 - i = 1 by omega, List.drop_eq_getElem_cons h1, List.take_succ_cons, List.take_zero, h2]
def B0 (A B : Lan) : Lan := fun u => ∃ a b, u = a ++ b ∧ A a ∧ B b
def zv : Lan := fun u => u = []
def u5 (A : Lan) : Nat → Lan
 | 0 => zv
 | n + 1 => B0 A (u5 A n)
def JG : List Lan → Lan
 | [] => zv
 | A :: l => B0 A (JG l)
def repW (lo hi : Int) (A : Lan) : Lan := fun u => ∃ k : Nat, lo.toNat ≤ k ∧ (hi = -1 ∨ (k : Int) ≤ hi) ∧ u5 A k u
def gv (b : Lb) (ls : List Lan) : Lan := fun u =>
 if b.op = 2 then ∃ c, u = [c] ∧ dA b.s c = true
 else if b.op = 3 then JG ls u
 else if b.op = 4 then ∃ A ∈ ls, A u
 else if b.op = 5 then repW b.lo b.hi (ls.headD zv) u
 else u = []
def lan : Fo → List Lan
 | .nil => []
 | .node b k r => gv b (lan k) :: lan r
structure aS (w : ByteArray) (g : List Bool → List Bool) (A : Lan) : Prop where
 len : ∀ s, s.length = w.size + 1 → (g s).length = w.size + 1
 iff : ∀ s, s.length = w.size + 1 → ∀ k, (g s).getD k false = true ↔ k ≤ w.size ∧ ∃ i, i ≤ k ∧ s.getD i false = true ∧ A (jh w i k)
theorem CC {s : List Bool} {i : Nat} (h : s.getD i false = true) : i < s.length := by
 rcases Nat.lt_or_ge i s.length with h1 | h1
 ·exact h1
 ·simp [List.getD_eq_getElem?_getD, List.getElem?_eq_none h1] at h
section
variable {w : ByteArray}
theorem aS.congr {f g : List Bool → List Bool} {A B : Lan} (h : aS w f A) (e : ∀ s, s.length = w.size + 1 → f s = g s) (hab : ∀ u, A u ↔ B u) : aS w g B :=
 ⟨fun s hs => by rw [← e s hs]; exact h.len s hs, fun s hs k => by rw [← e s hs, h.iff s hs]; simp only [hab]⟩
theorem aS.eps : aS w id zv := ⟨fun _ h => h, fun s hs k => by
 constructor
 ·intro h
  have : k < s.length := CC h
  exact ⟨by omega, k, Nat.le_refl _, h, A5 w k⟩
 ·rintro ⟨h1, i, h2, h3, h4⟩
  have := iI (w := w) h2 h1
  rw [show jh w i k = [] from h4] at this
  have : i = k := by simp at this; omega
  subst this; exact h3⟩
theorem aS.one {s : aw} : aS w (eD s w) fun u => ∃ c, u = [c] ∧ dA s c = true := by
 refine ⟨fun fr _ => by simp [eD], fun fr hf k => ?_⟩
 cases k with
 | zero =>
  simp only [eD, List.getD_cons_zero, Bool.false_eq_true, false_iff]
  rintro ⟨_, i, h2, _, c, h4, _⟩
  have := iI (w := w) h2 (by omega)
  rw [h4] at this
  simp at this
 | succ k =>
  have hone : (eD s w fr).getD (k + 1) false = (decide (k < w.size) && hit s w fr k) := by
   simp only [eD, List.getD_eq_getElem?_getD, List.getElem?_cons_succ, List.getElem?_map]
   by_cases h : k < w.size <;> simp [h]
  rw [hone, hit]
  simp only [Bool.and_eq_true, decide_eq_true_eq]
  constructor
  ·rintro ⟨h1, h2, h3⟩
   exact ⟨by omega, k, by omega, h2, _, tV h1, h3⟩
  ·rintro ⟨h1, i, h2, h3, c, h4, h5⟩
   have := iI (w := w) h2 (by omega)
   rw [h4] at this
   simp only [List.length_cons, List.length_nil] at this
   have hi : i = k := by omega
   subst hi
   rw [tV (by omega)] at h4
   simp only [List.cons.injEq, and_true] at h4
   exact ⟨by omega, h3, by rw [h4]; exact h5⟩
theorem aS.comp {f g : List Bool → List Bool} {A B : Lan} (hf : aS w f A) (hg : aS w g B) : aS w (fun s => g (f s)) (B0 A B) := by
 refine ⟨fun s h => hg.len _ (hf.len s h), fun s hs k => ?_⟩
 rw [hg.iff _ (hf.len s hs)]
 constructor
 ·rintro ⟨h1, j, h2, h3, h4⟩
  obtain ⟨_, i, h6, h7, h8⟩ := (hf.iff s hs j).1 h3
  exact ⟨h1, i, by omega, h7, _, _, tU h6 h2, h8, h4⟩
 ·rintro ⟨h1, i, h2, h3, a, b, h4, h5, h6⟩
  obtain ⟨j, h7, h8, rfl, rfl⟩ := A4 h2 h1 h4
  exact ⟨h1, j, h8, (hf.iff s hs j).2 ⟨by omega, i, h7, h3, h5⟩, h6⟩
theorem aS.or {f g : List Bool → List Bool} {A B : Lan} (hf : aS w f A) (hg : aS w g B) : aS w (fun s => orB (f s) (g s)) fun u => A u ∨ B u := by
 refine ⟨fun s h => bB (hf.len s h) (hg.len s h), fun s hs k => ?_⟩
 rw [cx (hf.len s hs) (hg.len s hs), Bool.or_eq_true, hf.iff s hs, hg.iff s hs]
 constructor
 ·rintro (⟨h1, i, h2, h3, h4⟩ | ⟨h1, i, h2, h3, h4⟩)
  ·exact ⟨h1, i, h2, h3, .inl h4⟩
  ·exact ⟨h1, i, h2, h3, .inr h4⟩
 ·rintro ⟨h1, i, h2, h3, h4 | h4⟩
  ·exact .inl ⟨h1, i, h2, h3, h4⟩
  ·exact .inr ⟨h1, i, h2, h3, h4⟩
def oJ (w : ByteArray) : List (List Bool → List Bool) → List Lan → Prop
 | [], [] => True
 | g :: gs, A :: l => aS w g A ∧ oJ w gs l
 | _, _ => False
theorem aS.row : ∀ {gs : List (List Bool → List Bool)} {l : List Lan}, oJ w gs l → aS w (fun s => gs.foldl (fun s f => f s) s) (JG l)
 | [], [], _ => aS.eps
 | _ :: _, _ :: _, ⟨h1, h2⟩ => h1.comp (aS.row h2)
theorem aS.alt : ∀ {gs : List (List Bool → List Bool)} {l : List Lan} {o : List Bool → List Bool} {B : Lan}, aS w o B → oJ w gs l → aS w (fun s => gs.foldl (fun o f => orB o (f s)) (o s)) fun u => B u ∨ ∃ A ∈ l, A u
 | [], [], o, B, ho, _ => ho.congr (fun _ _ => rfl) fun u => by simp
 | g :: gs, A :: l, o, B, ho, ⟨h1, h2⟩ => (aS.alt (o := fun s => orB (o s) (g s)) (ho.or h1) h2).congr (fun _ _ => rfl) fun u => by simp [or_assoc]
theorem aS.none : aS w (fun _ => aY (w.size + 1)) fun _ => False :=
 ⟨fun _ _ => bZ _, fun s _ k => by rw [eN]; simp⟩
theorem aS.pow {g : List Bool → List Bool} {A : Lan} (hg : aS w g A) : ∀ n, aS w (itB g n) (u5 A n)
 | 0 => aS.eps
 | n + 1 => hg.comp (aS.pow hg n)
theorem aS.upto {g : List Bool → List Bool} {A : Lan} (hg : aS w g A) : ∀ n, aS w (uB g n) fun u => ∃ k, k ≤ n ∧ u5 A k u
 | 0 => aS.eps.congr (fun _ _ => rfl) fun u => ⟨fun h => ⟨0, Nat.le_refl _, h⟩, fun ⟨k, h, h2⟩ => by
   have : k = 0 := by omega
   subst this; exact h2⟩
 | n + 1 => (aS.eps.or (hg.comp (aS.upto hg n))).congr (fun _ _ => rfl) fun u => by
   constructor
   ·rintro (h | ⟨a, b, rfl, h1, k, h2, h3⟩)
    ·exact ⟨0, Nat.zero_le _, h⟩
    ·exact ⟨k + 1, by omega, a, b, rfl, h1, h3⟩
   ·rintro ⟨k, h, h2⟩
    cases k with
    | zero => exact .inl h2
    | succ k =>
     obtain ⟨a, b, rfl, h3, h4⟩ := h2
     exact .inr ⟨a, b, rfl, h3, k, by omega, h4⟩
theorem pow_add {A : Lan} : ∀ (m n : Nat) (u : List Nat), u5 A (m + n) u ↔ B0 (u5 A m) (u5 A n) u
 | 0, n, u => by
  rw [Nat.zero_add]
  exact ⟨fun h => ⟨[], u, rfl, rfl, h⟩, fun ⟨a, b, h1, h2, h3⟩ => by rw [show a = [] from h2] at h1; rw [h1]; exact h3⟩
 | m + 1, n, u => by
  rw [show m + 1 + n = (m + n) + 1 by omega]
  constructor
  ·rintro ⟨a, b, rfl, h1, h2⟩
   obtain ⟨c, d, rfl, h3, h4⟩ := (pow_add m n b).1 h2
   exact ⟨a ++ c, d, by simp, ⟨a, c, rfl, h1, h3⟩, h4⟩
  ·rintro ⟨_, d, rfl, ⟨a, c, rfl, h1, h3⟩, h4⟩
   exact ⟨a, c ++ d, by simp, h1, (pow_add m n _).2 ⟨c, d, rfl, h3, h4⟩⟩
theorem aS.rep {g : List Bool → List Bool} {A : Lan} (hg : aS w g A) (ha : Add (w.size + 1) g) {lo hi : Int} (hl : 0 ≤ lo) (hh : hi = -1 ∨ lo ≤ hi) : aS w (ko w lo hi g) (repW lo hi A) := by
 by_cases h : hi = -1
 ·have h0 := (hg.pow lo.toNat)
  refine ⟨fun s hs => (Add.rep ha).len s hs, fun s hs k => ?_⟩
  have key : ∀ M, w.size + 1 ≤ M → uB g M (itB g lo.toNat s) = ko w lo hi g s := fun M hM => by
   rw [ko, if_pos h]
   have hl := h0.len s hs
   have := jP ha hl (Bf ha hl) (M - (w.size + 1))
   rwa [show w.size + 1 + (M - (w.size + 1)) = M by omega] at this
  constructor
  ·intro h1
   rw [← key _ (Nat.le_refl _)] at h1
   obtain ⟨h2, i, h3, h4, a, b, h5, h6, m, _, h8⟩ := ((h0.comp (hg.upto (w.size + 1))).iff s hs k).1 h1
   exact ⟨h2, i, h3, h4, lo.toNat + m, by omega, .inl h, (pow_add _ _ _).2 ⟨a, b, h5, h6, h8⟩⟩
  ·rintro ⟨h2, i, h3, h4, m, h5, _, h7⟩
   obtain ⟨d, rfl⟩ : ∃ d, m = lo.toNat + d := ⟨m - lo.toNat, by omega⟩
   obtain ⟨a, b, h8, h9, h10⟩ := (pow_add _ _ _).1 h7
   rw [← key (w.size + 1 + d) (by omega)]
   exact ((h0.comp (hg.upto (w.size + 1 + d))).iff s hs k).2 ⟨h2, i, h3, h4, a, b, h8, h9, d, by omega, h10⟩
 ·have e : ∀ s, s.length = w.size + 1 → uB g (hi - lo).toNat (itB g lo.toNat s) = ko w lo hi g s := fun s _ => by rw [ko, if_neg h]
  refine ((hg.pow lo.toNat).comp (hg.upto (hi - lo).toNat)).congr e fun u => ?_
  constructor
  ·rintro ⟨a, b, h5, h6, m, h7, h8⟩
   exact ⟨lo.toNat + m, by omega, .inr (by omega), (pow_add _ _ _).2 ⟨a, b, h5, h6, h8⟩⟩
  ·rintro ⟨m, h5, h6, h7⟩
   obtain ⟨d, rfl⟩ : ∃ d, m = lo.toNat + d := ⟨m - lo.toNat, by omega⟩
   obtain ⟨a, b, h8, h9, h10⟩ := (pow_add _ _ _).1 h7
   exact ⟨a, b, h8, h9, d, by omega, h10⟩
theorem aS.node {b : Lb} {gs : List (List Bool → List Bool)} {l : List Lan} (h : oJ w gs l) (ha : ∀ g ∈ gs, Add (w.size + 1) g) (hd : gs ≠ [] ∨ b.op ≠ 5) (hb : b.op = 5 → 0 ≤ b.lo ∧ (b.hi = -1 ∨ b.lo ≤ b.hi)) : aS w (da w b gs) (gv b l) := by
 by_cases h2 : b.op = 2
 ·exact aS.one.congr (fun s _ => by rw [da, if_pos h2]) fun u => by rw [gv, if_pos h2]
 by_cases h3 : b.op = 3
 ·exact (aS.row h).congr (fun s _ => by rw [da, if_neg h2, if_pos h3]) fun u => by rw [gv, if_neg h2, if_pos h3]
 by_cases h4 : b.op = 4
 ·exact (aS.alt aS.none h).congr (fun s _ => by rw [da, if_neg h2, if_neg h3, if_pos h4]) fun u => by rw [gv, if_neg h2, if_neg h3, if_pos h4]; simp
 by_cases h5 : b.op = 5
 ·match gs, l, h with
  | [], _, _ => rcases hd with hd | hd; exact absurd rfl hd; exact absurd h5 hd
  | g :: gs, A :: l, ⟨h6, _⟩ =>
   obtain ⟨h7, h8⟩ := hb h5
   exact (h6.rep (ha g (by simp)) h7 h8).congr (fun s _ => by rw [da, if_neg h2, if_neg h3, if_neg h4, if_pos h5]; rfl) fun u => by rw [gv, if_neg h2, if_neg h3, if_neg h4, if_pos h5]; rfl
 ·exact aS.eps.congr (fun s _ => by rw [da, if_neg h2, if_neg h3, if_neg h4, if_neg h5]; rfl) fun u => by rw [gv, if_neg h2, if_neg h3, if_neg h4, if_neg h5]; rfl
theorem lD : ∀ f : Fo, f.cO = true → oJ w (sem w f) (lan f)
 | .nil, _ => trivial
 | .node b k r, h => by
  simp only [Fo.cO, Fo.all, Bool.and_eq_true] at h
  refine ⟨aS.node (lD k h.1.2) (iZ w k) ?_ fun h5 => ?_, lD r h.2⟩
  ·by_cases h5 : b.op = 5
   ·refine .inl fun e => ?_
    have := (gJ h.1.1 h5).1
    have h7 := ja w k
    rw [e] at h7
    simp at h7; omega
   ·exact .inr h5
  ·obtain ⟨_, _, _, q4, q5, q6⟩ := gJ h.1.1 h5
   exact ⟨q4, by omega⟩
end
end Go.Rad
namespace Go.Rad
open Go Go.Proofs
set_option linter.all false
set_option maxRecDepth 20000
set_option maxHeartbeats 4000000
theorem zl (q f : Bool) (l : List Int) (hl : l.length ≤ 1000000) : ah Tryz.prog 82 [.sl q f (ints l)] [] fun r s => r = .sl true false (ints l) ∧ s = [] := by
 refine (my q f l hl).nN ?_
 rintro r s (⟨rfl, rfl, rfl⟩ | ⟨h, rfl, rfl⟩)
 ·exact .inr (.inl ⟨_, _, _, rfl, rfl, rfl⟩)
 ·exact .inl ⟨5, h, 1, ints l, by simp, rfl, rfl, rfl⟩
theorem z7 (q f : Bool) (l : List Node) (hl : ∀ n ∈ l, n.name.size ≤ maxLen ∧ n.l.length ≤ maxLen) : ah Tryz.prog 118 [.sl q f (nodes l)] [] fun r s => r = .bool (cy l) ∧ s = [] := by
 have he := nG q f true true l [] hl (by simp) (fun d hd => by simp at hd)
 rw [← yc]
 generalize ay l [] = x at he
 refine ah.enter Tryz.func118 rfl (by kernel_rfl) (Nat.le_of_ble_eq_true rfl) ?_; simp only [ai, Nat.reduceAdd]
 repeat' (first
 | refine gCt rfl ?_
 | ((first
 | ((first | refine gR fp118 ?_); intro K hK)
 | (refine ah.use [] [] rfl he rfl rfl rfl ?_; rintro _ _ ⟨⟨fl, rfl⟩, rfl⟩; refine ⟨.inl rfl, rfl, ?_⟩; simp only [bk, bk2, bk1, bkS, bkO, bC, aH, go_sem, simprocAttr])
 | (refine ab ?_ ?_ <;> intro hb <;> (try simp only [bls] at hb) <;> (try simp only [hb]))
 | refine gRe [] [.tmp 2] rfl rfl ?_) <;> (try simp only [go_sem, simprocAttr]))
 | (refine hK _ _ ?_; clear hK K; simp only [go_sem, simprocAttr])
 | refine gCd ?_ | refine brT ?_ | refine brF ?_
 | (refine brS ?_ ?_ <;> intro hc <;> (try simp only [bls] at hc) <;> (try simp only [hc, bls]))
 | intro _ | refine And.intro ?_ ?_)
 all_goals try exact zsd
theorem ll (n i k : Nat) : (bS n i).getD k false = (decide (k = i) && decide (i < n)) := by
 simp only [bS, List.getD_eq_getElem?_getD, List.getElem?_set, bZ]
 by_cases h : i = k
 ·subst h
  by_cases h2 : i < n <;> simp [h2]
 ·have h3 := eN n k
  rw [List.getD_eq_getElem?_getD] at h3
  have h4 : ¬ k = i := fun e => h e.symm
  simp [h, h3, h4]
theorem yd {n i : Nat} (h : i < n) : bP (bS n i) = [(i : Int)] := by
 refine kx (lq _) (by simp) fun x => ?_
 rw [eV]
 simp only [ll, Bool.and_eq_true, decide_eq_true_eq, List.mem_singleton]
 constructor
 ·rintro ⟨k, rfl, rfl, _⟩; rfl
 ·rintro rfl; exact ⟨i, rfl, rfl, h⟩
theorem pI {w : ByteArray} (hw : w.size ≤ 900000) (f : Bool) (fo : Fo) (hd : fo.deg = 1) (hsh : fo.cO = true) (hz : fo.size ≤ 1024) (h6 : no6 fo = true) (hss : ∀ n ∈ fo.lay 0, ∀ k, 0 ≤ n.s.word k) (fr : Nat) (hfr : fr ≤ w.size) :
  ah Tryz.prog 92 [.sl true f (nodes (fo.lay 0)), .str w, .int .i64 fr] [] fun r s => r = .sl true false (ints (bP (kE w fo (bS (w.size + 1) fr)))) ∧ s = [] := by
 have hp : cy (fo.lay 0) = true := (oe _).2 ⟨fo, hd, rfl, hsh, hz, h6⟩
 obtain ⟨n1, n2⟩ := lj hp
 have hpl := z7 true f (fo.lay 0) n1
 rw [hp] at hpl
 have hsub := Fo.wQ hd
 have hsl := ja w fo
 rw [hd] at hsl
 obtain ⟨g, hg⟩ : ∃ g, sem w fo = [g] := List.length_eq_one_iff.1 hsl
 have hcall := qL (q := true) (f := f) (show w.size ≤ 1000000 by omega) (by omega) hss fo _ hsub hsh (by omega) 0 _ g rfl (by rw [hg]; rfl) (bS (w.size + 1) fr) (cz _ _)
 have hel := oy hd (cz (w.size + 1) fr)
 have hsg : kE w fo (bS (w.size + 1) fr) = g (bS (w.size + 1) fr) := by rw [kE, hg]; rfl
 rw [← hsg, yd (by omega)] at hcall
 have hcall : ∀ e, ah _ _ [_, _, .sl true e [[.int .i64 fr]]] _ _ := fun e => hcall.vl
 have hpe := iA (kE w fo (bS (w.size + 1) fr))
 rw [hel] at hpe
 generalize bP (kE w fo (bS (w.size + 1) fr)) = E at hcall hpe
 have hcl := zl true false E (by omega)
 have hln : (fo.lay 0).length = fo.size := Fo.cT _ _
 have hsp := Fo.size_pos hd
 rw [← hln] at hcall
 generalize fo.lay 0 = l at hpl hcall hln
 clear hsub hg hsg hp n1 n2 hsl hsh h6 hss hel
 have e1 : ¬ (fr : Int) < 0 := by omega
 have e2 : ¬ (w.size : Int) < fr := by omega
 have e8 : (1 : Int) ≤ l.length := by omega
 refine ah.enter Tryz.func92 rfl (by kernel_rfl) (Nat.le_of_ble_eq_true rfl) ?_; simp only [ai, Nat.reduceAdd]
 repeat' (first
 | refine gCt rfl ?_
 | ((first
 | ((first | refine gRg [27] fp92 ?_); intro K hK)
 | refine cAl (hpl) rfl rfl rfl ?_
 | refine cAl (hcall _) rfl rfl rfl ?_
 | refine cAl (hcl) rfl rfl rfl ?_
 | (refine ab ?_ ?_ <;> intro hb <;> (try simp only [bls] at hb) <;> (try simp only [hb]))
 | refine gRe [] [.tmp 6] rfl rfl ?_) <;> (try simp only [go_sem, simprocAttr, e1, e2, e8]))
 | (refine hK _ _ ?_; clear hK K; simp only [go_sem, simprocAttr])
 | refine gCd ?_ | refine brT ?_ | refine brF ?_
 | (refine brS ?_ ?_ <;> intro hc <;> (try simp only [bls] at hc) <;> (try simp only [hc, bls]))
 | intro _ | refine And.intro ?_ ?_)
 all_goals try exact zsd
end Go.Rad
namespace Go.Rad
open Go Go.Proofs
set_option linter.all false
set_option maxRecDepth 20000
set_option maxHeartbeats 4000000
def fT (E : List Int) (fr : Int) : Int × Bool := match E.getLast? with
 | none => (0, false)
 | some x => if x ≤ fr then (0, false) else (x, true)
theorem ta (fr : Int) : fT [] fr = (0, false) := rfl
theorem pU {E : List Int} {m : Nat} {x : Int} (hl : E.length = m + 1) (h : E[m]? = some x) (fr : Int) : fT E fr = if x ≤ fr then (0, false) else (x, true) := by
 have : E.getLast? = some x := by rw [List.getLast?_eq_getElem?, hl]; exact h
 rw [fT, this]
section
variable {b f : Bool} {l : List Node} {w : ByteArray} {E : List Int}
theorem pW {fr : Int} (hE : ah Tryz.prog 92 [.sl true f (nodes l), .str w, .int .i64 fr] [] fun r s => r = .sl true b (ints E) ∧ s = []) (hb : E.length ≤ 1000001) (h : ∀ x ∈ E, fr ≤ x) :
  ah Tryz.prog 67 [.sl true f (nodes l), .str w, .int .i64 fr] [] fun r s => r = .tup [.int .i64 (fT E fr).1, .bool (fT E fr).2] ∧ s = [] := by
 cases hl : E.length with
 | zero =>
  have h0 : E = [] := List.length_eq_zero_iff.1 hl
  subst h0
  rw [ta]
  refine ah.enter Tryz.func67 rfl (by kernel_rfl) (Nat.le_of_ble_eq_true rfl) ?_; simp only [ai, Nat.reduceAdd]
  repeat' (first
 | refine gCt rfl ?_
 | ((first
 | ((first | refine gR fp67 ?_); intro K hK)
 | refine cAl (hE) rfl rfl rfl ?_
 | (refine ab ?_ ?_ <;> intro hb <;> (try simp only [bls] at hb) <;> (try simp only [hb]))
 | refine gRe [] [.tmp 6, .tmp 7] rfl rfl ?_) <;> (try simp only [go_sem, simprocAttr]))
 | (refine hK _ _ ?_; clear hK K; simp only [go_sem, simprocAttr])
 | refine gCd ?_ | refine brT ?_ | refine brF ?_
 | (refine brS ?_ ?_ <;> intro hc <;> (try simp only [bls] at hc) <;> (try simp only [hc, bls]))
 | intro _ | refine And.intro ?_ ?_)
  all_goals try exact zsd
 | succ m =>
  have hx : E[m]? = some (E[m]'(by omega)) := List.getElem?_eq_getElem (by omega)
  have hf := h _ (List.getElem_mem (by omega : m < E.length))
  generalize E[m]'(by omega) = x at hx hf
  rw [pU hl hx]
  have e1 : ¬ (E.length : Int) = 0 := by omega
  have e2 : (E.length : Int) - 1 = (m : Nat) := by omega
  have e3 : (m : Int) < E.length := by omega
  have e4 : (0 : Int) ≤ m := by omega
  by_cases c : x ≤ fr
  ·have e5 : x = fr := by omega
   rw [if_pos c]
   refine ah.enter Tryz.func67 rfl (by kernel_rfl) (Nat.le_of_ble_eq_true rfl) ?_; simp only [ai, Nat.reduceAdd]
   repeat' (first
 | refine gCt rfl ?_
 | ((first
 | ((first | refine gR fp67 ?_); intro K hK)
 | refine cAl (hE) rfl rfl rfl ?_
 | (refine ab ?_ ?_ <;> intro hb <;> (try simp only [bls] at hb) <;> (try simp only [hb]))
 | refine gRe [] [.tmp 6, .tmp 7] rfl rfl ?_) <;> (try simp only [go_sem, simprocAttr, e1, e2, e3, e4, eq_true e5, hx, Option.some.injEq, forall_eq']))
 | (refine hK _ _ ?_; clear hK K; simp only [go_sem, simprocAttr])
 | refine gCd ?_ | refine brT ?_ | refine brF ?_
 | (refine brS ?_ ?_ <;> intro hc <;> (try simp only [bls] at hc) <;> (try simp only [hc, bls]))
 | intro _ | refine And.intro ?_ ?_)
   all_goals try exact zsd
  ·have e5 : ¬ x = fr := by omega
   rw [if_neg c]
   refine ah.enter Tryz.func67 rfl (by kernel_rfl) (Nat.le_of_ble_eq_true rfl) ?_; simp only [ai, Nat.reduceAdd]
   repeat' (first
 | refine gCt rfl ?_
 | ((first
 | ((first | refine gR fp67 ?_); intro K hK)
 | refine cAl (hE) rfl rfl rfl ?_
 | (refine ab ?_ ?_ <;> intro hb <;> (try simp only [bls] at hb) <;> (try simp only [hb]))
 | refine gRe [] [.tmp 6, .tmp 7] rfl rfl ?_) <;> (try simp only [go_sem, simprocAttr, e1, e2, e3, e4, e5, hx, Option.some.injEq, forall_eq']))
 | (refine hK _ _ ?_; clear hK K; simp only [go_sem, simprocAttr])
 | refine gCd ?_ | refine brT ?_ | refine brF ?_
 | (refine brS ?_ ?_ <;> intro hc <;> (try simp only [bls] at hc) <;> (try simp only [hc, bls]))
 | intro _ | refine And.intro ?_ ?_)
   all_goals try exact zsd
theorem uP {fr : Int} (hE : ah Tryz.prog 45 [.sl true f (nodes l), .str w, .int .i64 fr] [] fun r s => r = .sl true b (ints E) ∧ s = []) (hb : E.length ≤ 1000001) :
  ah Tryz.prog 25 [.sl true f (nodes l), .str w, .int .i64 fr] [] fun r s => r = .tup [.int .i64 (fT E fr).1, .bool (fT E fr).2] ∧ s = [] := by
 cases hl : E.length with
 | zero =>
  have h0 : E = [] := List.length_eq_zero_iff.1 hl
  subst h0
  rw [ta]
  refine ah.enter Tryz.func25 rfl (by kernel_rfl) (Nat.le_of_ble_eq_true rfl) ?_; simp only [ai, Nat.reduceAdd]
  repeat' (first
 | refine gCt rfl ?_
 | ((first
 | ((first | refine gR fp25 ?_); intro K hK)
 | refine cAl (hE) rfl rfl rfl ?_
 | (refine ab ?_ ?_ <;> intro hb <;> (try simp only [bls] at hb) <;> (try simp only [hb]))
 | refine gRe [] [.tmp 6, .tmp 7] rfl rfl ?_) <;> (try simp only [go_sem, simprocAttr]))
 | (refine hK _ _ ?_; clear hK K; simp only [go_sem, simprocAttr])
 | refine gCd ?_ | refine brT ?_ | refine brF ?_
 | (refine brS ?_ ?_ <;> intro hc <;> (try simp only [bls] at hc) <;> (try simp only [hc, bls]))
 | intro _ | refine And.intro ?_ ?_)
  all_goals try exact zsd
 | succ m =>
  have hx : E[m]? = some (E[m]'(by omega)) := List.getElem?_eq_getElem (by omega)
  generalize E[m]'(by omega) = x at hx
  rw [pU hl hx]
  have e1 : ¬ (E.length : Int) = 0 := by omega
  have e2 : (E.length : Int) - 1 = (m : Nat) := by omega
  have e3 : (m : Int) < E.length := by omega
  have e4 : (0 : Int) ≤ m := by omega
  by_cases c : x ≤ fr
  ·have e5 : ¬ fr < x := by omega
   rw [if_pos c]
   refine ah.enter Tryz.func25 rfl (by kernel_rfl) (Nat.le_of_ble_eq_true rfl) ?_; simp only [ai, Nat.reduceAdd]
   repeat' (first
 | refine gCt rfl ?_
 | ((first
 | ((first | refine gR fp25 ?_); intro K hK)
 | refine cAl (hE) rfl rfl rfl ?_
 | (refine ab ?_ ?_ <;> intro hb <;> (try simp only [bls] at hb) <;> (try simp only [hb]))
 | refine gRe [] [.tmp 6, .tmp 7] rfl rfl ?_) <;> (try simp only [go_sem, simprocAttr, e1, e2, e3, e4, c, e5, hx, Option.some.injEq, forall_eq']))
 | (refine hK _ _ ?_; clear hK K; simp only [go_sem, simprocAttr])
 | refine gCd ?_ | refine brT ?_ | refine brF ?_
 | (refine brS ?_ ?_ <;> intro hc <;> (try simp only [bls] at hc) <;> (try simp only [hc, bls]))
 | intro _ | refine And.intro ?_ ?_)
   all_goals try exact zsd
  ·have e5 : fr < x := by omega
   rw [if_neg c]
   refine ah.enter Tryz.func25 rfl (by kernel_rfl) (Nat.le_of_ble_eq_true rfl) ?_; simp only [ai, Nat.reduceAdd]
   repeat' (first
 | refine gCt rfl ?_
 | ((first
 | ((first | refine gR fp25 ?_); intro K hK)
 | refine cAl (hE) rfl rfl rfl ?_
 | (refine ab ?_ ?_ <;> intro hb <;> (try simp only [bls] at hb) <;> (try simp only [hb]))
 | refine gRe [] [.tmp 6, .tmp 7] rfl rfl ?_) <;> (try simp only [go_sem, simprocAttr, e1, e2, e3, e4, c, e5, hx, Option.some.injEq, forall_eq']))
 | (refine hK _ _ ?_; clear hK K; simp only [go_sem, simprocAttr])
 | refine gCd ?_ | refine brT ?_ | refine brF ?_
 | (refine brS ?_ ?_ <;> intro hc <;> (try simp only [bls] at hc) <;> (try simp only [hc, bls]))
 | intro _ | refine And.intro ?_ ?_)
   all_goals try exact zsd
end
end Go.Rad
namespace Go.Rad
open Go Go.Proofs
set_option linter.all false
set_option maxRecDepth 20000
set_option maxHeartbeats 4000000
def lanT (f : Fo) : Lan := (lan f).headD zv
theorem oz {w : ByteArray} {fo : Fo} (hd : fo.deg = 1) (hs : fo.cO = true) : aS w (kE w fo) (lanT fo) := by
 match fo, hd with
 | .node b k .nil, _ => exact (lD (w := w) _ hs).1
def pb (w : ByteArray) (fo : Fo) (i : Nat) : List Int := bP (kE w fo (bS (w.size + 1) i))
theorem jX {w : ByteArray} {fo : Fo} (hd : fo.deg = 1) (hs : fo.cO = true) (i : Nat) (x : Int) : x ∈ pb w fo i ↔ ∃ k : Nat, x = k ∧ i ≤ k ∧ k ≤ w.size ∧ lanT fo (jh w i k) := by
 rw [pb, eV]
 constructor
 ·rintro ⟨k, rfl, h⟩
  obtain ⟨h1, j, h2, h3, h4⟩ := ((oz hd hs).iff _ (cz _ _) k).1 h
  simp only [ll, Bool.and_eq_true, decide_eq_true_eq] at h3
  obtain ⟨rfl, _⟩ := h3
  exact ⟨k, rfl, h2, h1, h4⟩
 ·rintro ⟨k, rfl, h1, h2, h3⟩
  refine ⟨k, rfl, ((oz hd hs).iff _ (cz _ _) k).2 ⟨h2, i, h1, ?_, h3⟩⟩
  simp only [ll, Bool.and_eq_true, decide_eq_true_eq]
  exact ⟨trivial, by omega⟩
theorem nB {w : ByteArray} {fo : Fo} (hd : fo.deg = 1) (i : Nat) : (pb w fo i).length ≤ w.size + 1 := by
 have := iA (kE w fo (bS (w.size + 1) i))
 rwa [oy hd (cz _ _)] at this
structure Both (P : Program) (fa fb : Nat) (f : Bool) (l : List Node) (w : ByteArray) (fr : Int) (b1 b2 : Bool) (E : List Int) : Prop where
 a : ah P fa [.sl true f (nodes l), .str w, .int .i64 fr] [] fun r s => r = .sl true b1 (ints E) ∧ s = []
 b : ah P fb [.sl true f (nodes l), .str w, .int .i64 fr] [] fun r s => r = .sl true b2 (ints E) ∧ s = []
 from' : ∀ x ∈ E, fr ≤ x
 upto : ∀ x ∈ E, x ≤ (w.size : Int)
 rise : E.Pairwise (· < ·)
 len : E.length ≤ 1000001
end Go.Rad
namespace Go.Rad
open Go
def ruT (r : Ru) : Prop := r.kind.size ≤ maxLen ∧ r.conds.length ≤ maxLen ∧ r.l.length ≤ maxLen ∧ ∀ n ∈ r.l, gC n
structure FlT (F : Fl) : Prop where
 c : F.conds.length ≤ maxLen
 cs : ∀ s ∈ F.conds, s.size ≤ maxLen
 d : F.defs.length ≤ maxLen
 ds : ∀ d ∈ F.defs, d.name.size ≤ maxLen ∧ d.l.length ≤ maxLen ∧ ∀ n ∈ d.l, gC n
 r : F.rules.length ≤ maxLen
 rs : ∀ r ∈ F.rules, ruT r
section
variable {L : Lay} {k t : Nat} {y : List aa}
structure Ho (L : Lay) (t : Nat) : Prop where
 ex : ∃ a b s i l n : Nat, (L t).ty = .struct [(0, a), (1, b), (2, b), (3, s), (4, i), (5, i), (6, l)] ∧ (L a).ty = .slice i ∧ (L i).ty = .int .i64 ∧ (L b).ty = .bool ∧ (L s).ty = .string ∧ (L l).ty = .slice n ∧ mT L n
theorem MI (hn : Ho L t) (h : typed L (k + 5) t y) : ∃ r : Ru, y = r.cells ∧ ruT r := by
 obtain ⟨a, b, s, i, l, n, h1, h2, h3, h4, h5, h6, h7⟩ := hn.ex
 have h := jd h1 h
 obtain ⟨x1, r1, rfl, p1, x2, r2, rfl, p2, x3, r3, rfl, p3, x4, r4, rfl, p4, x5, r5, rfl, p5, x6, r6, rfl, p6, x7, r7, rfl, p7, rfl⟩ := h
 obtain ⟨cs, rfl, hc⟩ := wT h2 h3 p1
 obtain ⟨fo, rfl⟩ := wS h4 p2
 obtain ⟨li, rfl⟩ := wS h4 p3
 obtain ⟨kd, rfl, hk⟩ := oO h5 p4
 obtain ⟨to, rfl, _⟩ := er h3 p5
 obtain ⟨po, rfl, _⟩ := er h3 p6
 obtain ⟨ns, rfl, h8, h9⟩ := qp h6 h7 p7
 exact ⟨⟨cs, fo, li, kd, to, po, ns⟩, rfl, hk, hc, h8, h9⟩
structure FlTy (L : Lay) (t : Nat) : Prop where
 ex : ∃ c s d e r f : Nat, (L t).ty = .struct [(0, c), (1, d), (2, r)] ∧ (L c).ty = .slice s ∧ (L s).ty = .string ∧ (L d).ty = .slice e ∧ yZ L e ∧ (L r).ty = .slice f ∧ Ho L f
theorem DZ (hn : FlTy L t) (h : typed L (k + 7) t y) : ∃ F : Fl, y = F.cells ∧ FlT F := by
 obtain ⟨c, s, d, e, r, f, h1, h2, h3, h4, h5, h6, h7⟩ := hn.ex
 have h := jd h1 h
 obtain ⟨x1, r1, rfl, p1, x2, r2, rfl, p2, x3, r3, rfl, p3, rfl⟩ := h
 obtain ⟨l, rfl, hl, hx⟩ := iK h2 p1
 obtain ⟨cs, rfl, hcs⟩ := iU (F := fun s : ByteArray => [aa.str s]) (P := fun s => s.size ≤ maxLen) fun x hx' => by
  obtain ⟨s, rfl, h⟩ := oO h3 (hx x hx')
  exact ⟨s, rfl, h⟩
 obtain ⟨ds, rfl, hd1, hd2⟩ := Bc h4 h5 p2
 obtain ⟨l2, rfl, hl2, hx2⟩ := iK h6 p3
 obtain ⟨rs, rfl, hrs⟩ := iU (F := Ru.cells) (P := ruT) fun x hx' => MI h7 (hx2 x hx')
 exact ⟨⟨cs, ds, rs⟩, rfl, by simpa using hl, hcs, hd1, hd2, by simpa using hl2, hrs⟩
end
end Go.Rad
namespace Go.Rad
open Go Go.Proofs
set_option linter.all false
set_option maxRecDepth 20000
set_option maxHeartbeats 4000000
theorem tj : aw.none.okI := ⟨⟨by decide, by decide⟩, ⟨by decide, by decide⟩, ⟨by decide, by decide⟩, ⟨by decide, by decide⟩⟩
theorem wy {α : Type} {l : List α} {g : α → α} (h : ∀ x ∈ l, g x = x) : l.map g = l := by
 conv => rhs; rw [← List.map_id l]
 exact List.map_congr_left h
open Classical in
theorem uH {l : List Node} {ds : List Df} (hl : ∀ n ∈ l, n.s.okI) (hd : ∀ d ∈ ds, ∀ n ∈ d.l, n.s.okI) : ∀ n ∈ (ay l ds).1, n.s.okI := by
 have hn := tj
 let φ : aw → aw := fun s => if s.okI then s else aw.none
 have hφ : ∀ s : aw, s.okI → φ s = s := fun s h => if_pos h
 have hid : ∀ {m : List Node}, (∀ n ∈ m, n.s.okI) → m.map (eR φ) = m := fun {m} h => wy fun n hn => by
  show ({ n with s := φ n.s } : Node) = n
  rw [hφ _ (h n hn)]
 have hk : ∀ {m : List Node}, (∀ n ∈ m, n.s.okI) → mS φ m := fun h n hn => by rw [hφ _ (h n hn)]
 have h := sF (φ := φ) (hk hl) (fun d h => hk (hd d h))
 rw [hid hl] at h
 have hds : ds.map (Aa φ) = ds := wy fun d h => by
  show (⟨d.name, d.l.map (eR φ)⟩ : Df) = d
  rw [hid (hd d h)]
 rw [hds] at h
 intro n hm
 rw [h] at hm
 obtain ⟨m, _, rfl⟩ := List.mem_map.1 hm
 show (φ m.s).okI
 by_cases hc : m.s.okI
 ·rw [hφ _ hc]; exact hc
 ·rw [show φ m.s = aw.none from if_neg hc]; exact hn
theorem je {s : aw} (h : s.okI) (k : Nat) : 0 ≤ s.word k := by
 obtain ⟨h1, h2, h3, h4⟩ := h
 obtain ⟨h1, _⟩ := h1
 obtain ⟨h2, _⟩ := h2
 obtain ⟨h3, _⟩ := h3
 obtain ⟨h4, _⟩ := h4
 simp only [IntKind.min] at h1 h2 h3 h4
 unfold aw.word
 split <;> first | exact h1 | exact h2 | exact h3 | exact h4
theorem Ea (s : ax) (k : Nat) : 0 ≤ s.I.word k := by
 obtain ⟨a, b, c, d⟩ := s
 unfold aw.word ax.I
 split <;> simp only <;> omega
theorem nJ {F : Fl} (h : FlT F) (hd : F.defs.length ≤ 900000) : eP F :=
 ⟨h.c, h.cs, hd, fun d hm => ⟨(h.ds d hm).1, fun n hn => ((h.ds d hm).2.2 n hn).1⟩, h.r, fun r hm => ⟨(h.rs r hm).1, (h.rs r hm).2.1, fun n hn => ((h.rs r hm).2.2.2 n hn).1⟩⟩
theorem tp {x : List Node} (h1 : az x = true) (h2 : ∀ n ∈ x, okN n) : cy x = true := by
 rw [cy, Bool.and_eq_true, ← dF]
 exact ⟨List.all_eq_true.2 fun n hn => by simp [iz, (h2 n hn).2], h1⟩
theorem oN {F : Fl} (hT : FlT F) (h : ba F = true) {i : Nat} (hi : i < F.rules.length) : cy (cd F i).1 = true ∧ ∀ n ∈ (cd F i).1, ∀ k, 0 ≤ n.s.word k := by
 have hm := List.getElem_mem hi
 have he := rK (gI h hm)
 have hok := uH (fun n hn => ((hT.rs _ hm).2.2.2 n hn).2) (fun d hd n hn => ((hT.ds d hd).2.2 n hn).2) (l := F.rules[i].l) (ds := F.defs)
 obtain ⟨X, hX⟩ : ∃ X, X = (ay F.rules[i].l F.defs).1 := ⟨_, rfl⟩
 obtain ⟨_, _, h3, h4⟩ := iS (show ay F.rules[i].l F.defs = (X, 0) by rw [hX, ← he])
 have ht : cd F i = (if F.rules[i].fold = true then ec X else X, 0) := by
  unfold cd
  have h1 : ¬ (i : Int) < 0 := by omega
  rw [if_pos h]
  simp only [h1, decide_false, Bool.false_eq_true, if_false, Int.toNat_natCast, List.getElem?_eq_getElem hi, ← hX]
 rw [← hX] at hok
 rw [ht]
 simp only
 split
 ·rw [xA h3]
  refine ⟨tp (by rw [iB (qb hok)]; exact h3) fun n hn => ?_, fun n hn k => ?_⟩
  ·obtain ⟨m, hm, rfl⟩ := List.mem_map.1 hn
   exact ⟨(oC (qb hok m hm)).trans (h4 m hm).1, (h4 m hm).2⟩
  ·obtain ⟨m, hm, rfl⟩ := List.mem_map.1 hn
   exact Ea _ k
 ·exact ⟨tp h3 h4, fun n hn k => je (hok n hn) k⟩
noncomputable def nL (x : List Node) : Fo := open Classical in if h : ∃ f : Fo, f.deg = 1 ∧ x = f.lay 0 ∧ f.cO = true ∧ f.size ≤ 1024 ∧ no6 f = true then Classical.choose h else .nil
theorem xy {x : List Node} (h : cy x = true) : (nL x).deg = 1 ∧ x = (nL x).lay 0 ∧ (nL x).cO = true ∧ (nL x).size ≤ 1024 ∧ no6 (nL x) = true := by
 have h := (oe x).1 h
 unfold nL
 rw [dif_pos h]
 exact Classical.choose_spec h
noncomputable def gW (w : ByteArray) (n : Nat) (x : List Node) : Int × Bool := fT (pb w (nL x) n) n
theorem pV {E : List Int} {fr x : Int} (h : fT E fr = (x, true)) : x ∈ E ∧ fr < x ∧ E.getLast? = some x := by
 unfold fT at h
 split at h
 ·cases h
 ·rename_i y hy
  split at h
  ·cases h
  ·cases h
   exact ⟨List.mem_of_getLast? hy, by omega, hy⟩
theorem xR {F : Fl} {x : List Node} (h : x ∈ bF F) : ∃ i, i < F.rules.length ∧ x = (cd F i).1 := by
 obtain ⟨i, hi, rfl⟩ := List.mem_map.1 h
 exact ⟨i, List.mem_range.1 hi, rfl⟩
theorem C8 {F : Fl} {w : ByteArray} (hT : FlT F) (hd : F.defs.length ≤ 900000) (h : ba F = true) (hw : w.size ≤ 900000) : hJ F w (gW w) ∧ jT Tryz.prog 67 F w (gW w) ∧ jT Tryz.prog 25 F w (gW w) := by
 refine ⟨⟨nJ hT hd, h, hw, fun n hn x hx h2 => ?_⟩, fun n hn x hx => ?_, fun n hn x hx => ?_⟩
 all_goals obtain ⟨i, hi, rfl⟩ := xR hx
 all_goals obtain ⟨hp, hs⟩ := oN hT h hi
 all_goals generalize (cd F i).1 = x at *
 all_goals obtain ⟨f1, f2, f3, f4, f5⟩ := xy hp
 ·obtain ⟨⟨y, b⟩, hy⟩ : ∃ p, gW w n x = p := ⟨_, rfl⟩
  rw [hy] at h2 ⊢
  simp only at h2
  subst h2
  obtain ⟨h3, h4, _⟩ := pV hy
  obtain ⟨k, rfl, h5, h6, _⟩ := (jX f1 f3 n y).1 h3
  exact ⟨k, rfl, by omega, h6⟩
 ·have hE := pI hw false (nL x) f1 f3 f4 f5 (by rw [← f2]; exact hs) n (by omega)
  rw [← f2] at hE
  refine pW hE (by have := nB (w := w) f1 n; show (pb w (nL x) n).length ≤ _; omega) fun y hy => ?_
  obtain ⟨k, rfl, h5, _⟩ := (jX f1 f3 n y).1 hy
  omega
 ·have hE := uG (by omega) false (nL x) f1 f3 f4 f5 n (by omega : n ≤ w.size)
  rw [← f2] at hE
  exact uP hE (by have := nB (w := w) f1 n; show (pb w (nL x) n).length ≤ _; omega)
theorem A6 (w : ByteArray) (hw : w.size ≤ maxLen) : ah Tryz.prog 16 [.str w] [] fun r s => r = .str (w.extract 0 (min w.size 30)) ∧ s = [] := by
 unfold maxLen at hw
 obtain ⟨k, hk⟩ : ∃ k : Nat, k = min w.size 30 := ⟨_, rfl⟩
 have c2 : min (w.size : Int) 30 = (k : Int) := by omega
 have c3 : (0 : Int) ≤ k := by omega
 have c4 : k ≤ w.size := by omega
 rw [← hk]
 obtain ⟨t, ht0⟩ : ∃ t, w.extract 0 k = t := ⟨_, rfl⟩
 rw [ht0]
 refine ah.enter Tryz.func16 rfl (by kernel_rfl) (Nat.le_of_ble_eq_true rfl) ?_; simp only [ai, Nat.reduceAdd]
 repeat' (first
 | refine gCt rfl ?_
 | ((first
 | ((first | refine gR fp16 ?_); intro K hK)
 | (refine ab ?_ ?_ <;> intro hb <;> (try simp only [bls] at hb) <;> (try simp only [hb]))
 | refine gRe [] [.tmp 2] rfl rfl ?_) <;> (try simp only [go_sem, simprocAttr, c2, c3, c4, ht0]))
 | (refine hK _ _ ?_; clear hK K; simp only [go_sem, simprocAttr])
 | refine gCd ?_ | refine brT ?_ | refine brF ?_
 | (refine brS ?_ ?_ <;> intro hc <;> (try simp only [bls] at hc) <;> (try simp only [hc, bls]))
 | intro _ | refine And.intro ?_ ?_)
 all_goals try exact zsd
end Go.Rad
