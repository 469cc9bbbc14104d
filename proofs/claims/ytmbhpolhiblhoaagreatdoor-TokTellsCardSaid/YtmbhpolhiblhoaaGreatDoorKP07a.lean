/- A part of the proof. -/
import Derived.Test.YtmbhpolhiblhoaaGreatDoorKRDefer
import Derived.Test.YtmbhpolhiblhoaaGreatDoorKP15c
import Derived.Test.YtmbhpolhiblhoaaGreatDoorKP15a
import Derived.Test.YtmbhpolhiblhoaaGreatDoorKC03c
import Derived.Test.YtmbhpolhiblhoaaGreatDoorKP15b
import Derived.Shelf.Small.Bits
import Derived.Shelf.Small.Wraps
import Derived.Shelf.Strconv.Itoa0
import Derived.Shelf.Sort.Plain
import Derived.Shelf.Slices.Equal
import Derived.Ground.Names2Prog
import Derived.Shelf.Slices.Clone
import Derived.Shelf.Slices.CompactI
import Derived.Shelf.Slices.Cells
import Derived.Shelf.Slices.In.SortNone
import Derived.Shelf.Slices.Empties2
import Derived.Ground.SlgnProg
import Derived.Shelf.SlicesE.Clone
import Derived.Test.YtmbhpolhiblhoaaGreatDoorProg
import Derived.Deep.Draws
set_option linter.all false
namespace Go.Rad
open Go Go.Proofs
set_option linter.all false
set_option maxRecDepth 20000
set_option maxHeartbeats 4000000
theorem od (w : ByteArray) (hw : w.size ≤ 1000000) : ah Tryz.prog 72 [.str w] [] fun r s => ∃ h, r = .osl 6 h 0 (w.size + 1) ∧ s = [(6, (h, .row 1 (bw (aY (w.size + 1)))))] := by
 have e1 : (w.size : Int) + 1 = ((w.size + 1 : Nat) : Int) := by omega
 have e2 : List.map (List.map c8) (List.replicate (w.size + 1) [aa.bool false]) = bw (aY (w.size + 1)) := by simp [aY, c8]
 refine ah.enter Tryz.func72 rfl (by kernel_rfl) (Nat.le_of_ble_eq_true rfl) ?_; simp only [ai, Nat.reduceAdd]
 repeat' (first
 | refine gCt rfl ?_
 | ((first
 | ((first | refine gR fp72 ?_); intro K hK)
 | (refine ab ?_ ?_ <;> intro hb <;> (try simp only [bls] at hb) <;> (try simp only [hb]))
 | refine gRe [6] [.tmp 2] rfl rfl ?_) <;> (try simp only [go_sem, simprocAttr, e1, e2]))
 | (refine hK _ _ ?_; clear hK K; simp only [go_sem, simprocAttr])
 | refine gCd ?_ | refine brT ?_ | refine brF ?_
 | (refine brS ?_ ?_ <;> intro hc <;> (try simp only [bls] at hc) <;> (try simp only [hc, bls]))
 | intro _ | refine And.intro ?_ ?_)
 all_goals try exact zsd
 rename_i h
 exact ⟨h, rfl, by simp [aY, c8, List.replicate_succ]⟩
theorem wN (q f q' f' : Bool) (a b : List Bool) (h : a.length = b.length) (hl : a.length ≤ 1000001) : ah Tryz.prog 120 [.sl q f (bw a), .sl q' f' (bw b)] [] fun r s => r = .bool (decide (a = b)) ∧ s = [] := by
 obtain ⟨S, hS⟩ : ∃ S : Bool, S = decide (a = b) := ⟨_, rfl⟩
 rw [← hS]
 refine ah.enter Tryz.func120 rfl (by kernel_rfl) (Nat.le_of_ble_eq_true rfl) ?_; simp only [ai, Nat.reduceAdd]
 repeat' (first
 | refine gCt rfl ?_
 | ((first
 | ((first | refine gR fp120 ?_ | refine gD 4 9 ro9 fp120 ?_); intro K hK)
 | (refine ab ?_ ?_ <;> intro hb <;> (try simp only [bls] at hb) <;> (try simp only [hb]))
 | refine gRe [] [.tmp 4] rfl rfl ?_) <;> (try simp only [go_sem, simprocAttr]))
 | (refine hK _ _ ?_; clear hK K; simp only [go_sem, simprocAttr])
 | refine gCd ?_ | refine brT ?_ | refine brF ?_
 | (refine brS ?_ ?_ <;> intro hc <;> (try simp only [bls] at hc) <;> (try simp only [hc, bls]))
 | intro _ | refine And.intro ?_ ?_)
 all_goals try exact zsd
 refine ae.prune [0, 1, 4, 5] ?_; simp only [go_sem, simprocAttr]
 refine ae.al (α := Nat) (fun i => ([(0, .sl q f (bw a)), (1, .sl q' f' (bw b)), (4, .bool false), (5, .int .i64 i)], [])) (fun i => i ≤ a.length ∧ S = decide (a.drop i = b.drop i)) (fun i => a.length - i) 0 ⟨Nat.zero_le _, by simpa using hS⟩ rfl ?_
 rintro i ⟨hi, hrun⟩ ih
 simp only at hi hrun ih ⊢
 by_cases hle : i < a.length
 ·have e4 : (i : Int) < a.length := by omega
  have e5 : (0 : Int) ≤ i := by omega
  have e6 : (i : Int) < b.length := by omega
  have e7 : (i : Int) + 1 = ((i + 1 : Nat) : Int) := by omega
  have ha : a[i]? = some a[i] := List.getElem?_eq_getElem hle
  have hb : b[i]? = some (b[i]'(by omega)) := List.getElem?_eq_getElem (by omega)
  rw [List.drop_eq_getElem_cons hle, List.drop_eq_getElem_cons (by omega : i < b.length)] at hrun
  generalize a[i] = x at ha hrun
  generalize b[i]'(by omega) = y at hb hrun
  by_cases hxy : x = y
  ·subst hxy
   simp only [List.cons.injEq, true_and] at hrun
   repeat' (first
 | refine gCt rfl ?_
 | ((first
 | ((first | refine gR fp120 ?_ | refine gD 4 9 ro9 fp120 ?_); intro K hK)
 | (refine ab ?_ ?_ <;> intro hb <;> (try simp only [bls] at hb) <;> (try simp only [hb]))
 | refine gRe [] [.tmp 4] rfl rfl ?_) <;> (try simp only [go_sem, simprocAttr, e4, e5, e6, e7, ha, hb, bne_self_eq_false, beq_self_eq_true, Option.some.injEq, forall_eq']))
 | (refine hK _ _ ?_; clear hK K; simp only [go_sem, simprocAttr])
 | refine gCd ?_ | refine brT ?_ | refine brF ?_
 | (refine brS ?_ ?_ <;> intro hc <;> (try simp only [bls] at hc) <;> (try simp only [hc, bls]))
 | intro _ | refine And.intro ?_ ?_)
   all_goals try exact zsd
   refine ae.bh [] ?_
   simp only [ao, au, go_sem, simprocAttr]
   refine ae.prune [0, 1, 4, 5] ?_; simp only [go_sem, simprocAttr]
   exact (ih (i + 1) ⟨by omega, hrun⟩ (by omega)).cast rfl rfl
  ·rw [decide_eq_false (fun h => hxy (List.cons.inj h).1)] at hrun
   subst hrun
   have hb1 : (x == y) = false := by simpa using hxy
   repeat' (first
 | refine gCt rfl ?_
 | ((first
 | ((first | refine gR fp120 ?_ | refine gD 4 9 ro9 fp120 ?_); intro K hK)
 | (refine ab ?_ ?_ <;> intro hb <;> (try simp only [bls] at hb) <;> (try simp only [hb]))
 | refine gRe [] [.tmp 4] rfl rfl ?_) <;> (try simp only [go_sem, simprocAttr, e4, e5, e6, e7, ha, hb, hb1, Option.some.injEq, forall_eq']))
 | (refine hK _ _ ?_; clear hK K; simp only [go_sem, simprocAttr])
 | refine gCd ?_ | refine brT ?_ | refine brF ?_
 | (refine brS ?_ ?_ <;> intro hc <;> (try simp only [bls] at hc) <;> (try simp only [hc, bls]))
 | intro _ | refine And.intro ?_ ?_)
   all_goals try exact zsd
 ·have e4 : ¬ (i : Int) < a.length := by omega
  rw [List.drop_eq_nil_of_le (by omega), List.drop_eq_nil_of_le (by omega), decide_eq_true rfl] at hrun
  subst hrun
  clear ih
  repeat' (first
 | refine gCt rfl ?_
 | ((first
 | ((first | refine gR fp120 ?_ | refine gD 4 9 ro9 fp120 ?_); intro K hK)
 | (refine ab ?_ ?_ <;> intro hb <;> (try simp only [bls] at hb) <;> (try simp only [hb]))
 | refine gRe [] [.tmp 4] rfl rfl ?_) <;> (try simp only [go_sem, simprocAttr, e4]))
 | (refine hK _ _ ?_; clear hK K; simp only [go_sem, simprocAttr])
 | refine gCd ?_ | refine brT ?_ | refine brF ?_
 | (refine brS ?_ ?_ <;> intro hc <;> (try simp only [bls] at hc) <;> (try simp only [hc, bls]))
 | intro _ | refine And.intro ?_ ?_)
  all_goals try exact zsd
def orP (a b : List Bool) (i : Nat) : List Bool := (orB a b).take i ++ a.drop i
theorem Dy {a b : List Bool} (h : a.length = b.length) {i : Nat} (hi : i ≤ a.length) : (orP a b i).length = a.length := by
 simp only [orP, List.length_append, List.length_take, List.length_drop, orB, List.length_zipWith]; omega
theorem Dx {a b : List Bool} (h : a.length = b.length) {i : Nat} {x y : Bool} (ha : a[i]? = some x) (hb : b[i]? = some y) : (orP a b i)[i]? = some x ∧ (orP a b i).set i (x || y) = orP a b (i + 1) := by
 have hi := (List.getElem?_eq_some_iff.1 ha).1
 have hl : ((orB a b).take i).length = i := by simp only [List.length_take, orB, List.length_zipWith]; omega
 have hd : a.drop i = x :: a.drop (i + 1) := by
  rw [List.drop_eq_getElem_cons hi]
  rw [List.getElem?_eq_getElem hi] at ha
  rw [Option.some.inj ha]
 have ho : (orB a b)[i]? = some (x || y) := by simp [orB, List.getElem?_zipWith, ha, hb]
 refine ⟨?_, ?_⟩
 ·rw [orP, List.getElem?_append_right (by omega), hl, Nat.sub_self, hd]; rfl
 ·rw [orP, List.set_append_right _ _ (by omega), hl, Nat.sub_self, hd, List.set_cons_zero, orP, take_one ho]
  simp
theorem EE (q f q' f' : Bool) (a b : List Bool) (h : a.length = b.length) (hl : a.length ≤ 1000001) : ah Tryz.prog 97 [.sl q f (bw a), .sl q' f' (bw b)] [] fun r s => r = .sl true false (bw (orB a b)) ∧ s = [] := by
 refine ah.enter Tryz.func97 rfl (by kernel_rfl) (Nat.le_of_ble_eq_true rfl) ?_; simp only [ai, Nat.reduceAdd]
 repeat' (first
 | refine gCt rfl ?_
 | ((first
 | ((first | refine gR fp97 ?_); intro K hK)
 | (refine ab ?_ ?_ <;> intro hb <;> (try simp only [bls] at hb) <;> (try simp only [hb]))
 | refine gRe [] [.tmp 4] rfl rfl ?_) <;> (try simp only [go_sem, simprocAttr]))
 | (refine hK _ _ ?_; clear hK K; simp only [go_sem, simprocAttr])
 | refine gCd ?_ | refine brT ?_ | refine brF ?_
 | (refine brS ?_ ?_ <;> intro hc <;> (try simp only [bls] at hc) <;> (try simp only [hc, bls]))
 | intro _ | refine And.intro ?_ ?_)
 all_goals try exact zsd
 ·rename_i y hy; obtain ⟨x, _, rfl⟩ := List.mem_map.1 hy; rfl
 ·rename_i y hy; obtain ⟨x, _, rfl⟩ := List.mem_map.1 hy; rfl
 rename_i h7
 refine ae.prune [0, 1, 4, 5, 6] ?_; simp only [go_sem, simprocAttr]
 refine ae.al (α := Nat) (fun i => ([(0, .sl q f (bw a)), (1, .sl q' f' (bw b)), (4, .sl true true []), (5, .osl 7 h7 0 a.length), (6, .int .i64 i)], [(7, h7, .row 1 (bw (orP a b i)))])) (fun i => i ≤ a.length) (fun i => a.length - i) 0 (Nat.zero_le _) (by simp [orP]) ?_
 rintro i hi ih
 simp only at hi ih ⊢
 have hol := Dy h hi
 by_cases hle : i < a.length
 ·have e4 : (i : Int) < b.length := by omega
  have e4' : (i : Int) < a.length := by omega
  have e5 : (0 : Int) ≤ i := by omega
  have e6 : i < (orP a b i).length := by omega
  have e7 : (i : Int) + 1 = ((i + 1 : Nat) : Int) := by omega
  have ha : a[i]? = some a[i] := List.getElem?_eq_getElem hle
  have hb : b[i]? = some (b[i]'(by omega)) := List.getElem?_eq_getElem (by omega)
  generalize a[i] = x at ha
  generalize b[i]'(by omega) = y at hb
  obtain ⟨hg, hs⟩ := Dx h ha hb
  cases x
  ·simp only [Bool.false_or] at hs
   repeat' (first
 | refine gCt rfl ?_
 | ((first
 | ((first | refine gR fp97 ?_); intro K hK)
 | (refine ab ?_ ?_ <;> intro hb <;> (try simp only [bls] at hb) <;> (try simp only [hb]))
 | refine gRe [] [.tmp 4] rfl rfl ?_) <;> (try simp only [go_sem, simprocAttr, e4, e4', e5, e6, e7, hg, hb, Option.some.injEq, forall_eq']))
 | (refine hK _ _ ?_; clear hK K; simp only [go_sem, simprocAttr])
 | refine gCd ?_ | refine brT ?_ | refine brF ?_
 | (refine brS ?_ ?_ <;> intro hc <;> (try simp only [bls] at hc) <;> (try simp only [hc, bls]))
 | intro _ | refine And.intro ?_ ?_)
   all_goals try exact zsd
   rename_i z hz
   have hz2 : z = [.bool false] := by rw [List.getElem?_map, hg] at hz; exact (Option.some.inj hz).symm
   subst hz2
   refine ae.bh [7] ?_
   simp only [ao, au, go_sem, simprocAttr]
   refine ae.prune [0, 1, 4, 5, 6] ?_; simp only [go_sem, simprocAttr]
   exact ae.cast (ih (i + 1) (by omega) (by omega)) rfl (by rw [← hs]; simp [List.map_set])
  ·simp only [Bool.true_or] at hs
   repeat' (first
 | refine gCt rfl ?_
 | ((first
 | ((first | refine gR fp97 ?_); intro K hK)
 | (refine ab ?_ ?_ <;> intro hb <;> (try simp only [bls] at hb) <;> (try simp only [hb]))
 | refine gRe [] [.tmp 4] rfl rfl ?_) <;> (try simp only [go_sem, simprocAttr, e4, e4', e5, e6, e7, hg, hb, Option.some.injEq, forall_eq']))
 | (refine hK _ _ ?_; clear hK K; simp only [go_sem, simprocAttr])
 | refine gCd ?_ | refine brT ?_ | refine brF ?_
 | (refine brS ?_ ?_ <;> intro hc <;> (try simp only [bls] at hc) <;> (try simp only [hc, bls]))
 | intro _ | refine And.intro ?_ ?_)
   all_goals try exact zsd
   rename_i z hz
   have hz2 : z = [.bool true] := by rw [List.getElem?_map, hg] at hz; exact (Option.some.inj hz).symm
   subst hz2
   refine ae.bh [7] ?_
   simp only [ao, au, go_sem, simprocAttr]
   refine ae.prune [0, 1, 4, 5, 6] ?_; simp only [go_sem, simprocAttr]
   exact ae.cast (ih (i + 1) (by omega) (by omega)) rfl (by rw [← hs]; simp [List.map_set])
 ·have e4 : ¬ (i : Int) < b.length := by omega
  have e8 : orP a b i = orB a b := by
   rw [orP, List.take_of_length_le (by simp [orB]; omega), List.drop_eq_nil_of_le (by omega), List.append_nil]
  rw [e8]
  have e9 : (orB a b).length = a.length := by simp [orB]; omega
  have e15 : (bw (orB a b)).take a.length = bw (orB a b) := List.take_of_length_le (by simp [e9])
  clear ih
  repeat' (first
 | refine gCt rfl ?_
 | ((first
 | (refine ae.at 6 ?_; (refine ae.freeze 7 rfl ?_; simp only [rfT, rfS, rfO, rf, rf1, e15, e9, Nat.le_refl, true_and, go_sem, simprocAttr]); refine gR fp97 ?_; intro K hK)
 | ((first | refine gR fp97 ?_); intro K hK)
 | (refine ab ?_ ?_ <;> intro hb <;> (try simp only [bls] at hb) <;> (try simp only [hb]))
 | refine gRe [] [.tmp 4] rfl rfl ?_) <;> (try simp only [go_sem, simprocAttr, e4]))
 | (refine hK _ _ ?_; clear hK K; simp only [go_sem, simprocAttr])
 | refine gCd ?_ | refine brT ?_ | refine brF ?_
 | (refine brS ?_ ?_ <;> intro hc <;> (try simp only [bls] at hc) <;> (try simp only [hc, bls]))
 | intro _ | refine And.intro ?_ ?_)
  all_goals try exact zsd
def gV (s : aw) (w : ByteArray) (fr : List Bool) (i : Nat) : List Bool := (false :: (List.range i).map (hit s w fr)) ++ aY (w.size - i)
theorem xX {s : aw} {w : ByteArray} {fr : List Bool} {i : Nat} (hi : i < w.size) : (gV s w fr i).length = w.size + 1 ∧ (gV s w fr i)[i + 1]? = some false ∧ (gV s w fr i).set (i + 1) (hit s w fr i) = gV s w fr (i + 1) := by
 have hl : (false :: (List.range i).map (hit s w fr)).length = i + 1 := by simp
 obtain ⟨k, hk⟩ : ∃ k, w.size - i = k + 1 := ⟨w.size - i - 1, by omega⟩
 have hk2 : w.size - (i + 1) = k := by omega
 refine ⟨by simp only [gV, List.length_append, hl, bZ]; omega, ?_, ?_⟩
 ·rw [gV, List.getElem?_append_right (by omega), hl, Nat.sub_self, hk]; rfl
 ·rw [gV, List.set_append_right _ _ (by omega), hl, Nat.sub_self, hk, gV, hk2, List.range_succ, List.map_append]
  simp [aY, List.replicate_succ]
theorem Jy (s : aw) (q f : Bool) (w : ByteArray) (fr : List Bool) (hw : w.size ≤ 1000000) (hf : fr.length = w.size + 1) : ah Tryz.prog 96 [.agg s.cells, .str w, .sl q f (bw fr)] [] fun r s' => r = .sl true false (bw (eD s w fr)) ∧ s' = [] := by
 have hpl := od w hw
 have hh := fun b hb => pL s.a s.b s.c s.d b hb
 obtain ⟨sa, sb, sc, sd⟩ := s
 simp only [aw.cells]
 simp only at hh
 obtain ⟨S, hS⟩ : ∃ S : aw, S = ⟨sa, sb, sc, sd⟩ := ⟨_, rfl⟩
 rw [← hS] at hh ⊢
 have h0 : gV S w fr 0 = aY (w.size + 1) := by simp [gV, aY, List.replicate_succ]
 refine ah.enter Tryz.func96 rfl (by kernel_rfl) (Nat.le_of_ble_eq_true rfl) ?_; simp only [ai, Nat.reduceAdd]
 repeat' (first
 | refine gCt rfl ?_
 | ((first
 | ((first | refine gR fp96 ?_ | refine gD 5 11 cG fp96 ?_); intro K hK)
 | (refine ah.use [(6, 10)] [] rfl hpl rfl rfl rfl ?_; rintro _ _ ⟨h6, rfl, rfl⟩; refine ⟨.inl rfl, rfl, ?_⟩; simp only [bk, bk2, bk1, bkS, bkO, bC, aH, go_sem, simprocAttr])
 | (refine ab ?_ ?_ <;> intro hb <;> (try simp only [bls] at hb) <;> (try simp only [hb]))
 | refine gRe [] [.tmp 6] rfl rfl ?_) <;> (try simp only [go_sem, simprocAttr]))
 | (refine hK _ _ ?_; clear hK K; simp only [go_sem, simprocAttr])
 | refine gCd ?_ | refine brT ?_ | refine brF ?_
 | (refine brS ?_ ?_ <;> intro hc <;> (try simp only [bls] at hc) <;> (try simp only [hc, bls]))
 | intro _ | refine And.intro ?_ ?_)
 all_goals try exact zsd
 rename_i h3
 refine ae.prune [1, 2, 3, 6, 7, 8] ?_; simp only [go_sem, simprocAttr]
 refine ae.al (α := Nat) (fun i => ([(1, .str w), (2, .sl q f (bw fr)), (3, .bx 3 h3 0), (6, .sl true true []), (7, .osl 10 h6 0 (w.size + 1)), (8, .int .i64 i)], [(3, h3, .box [.int .u64 sa, .int .u64 sb, .int .u64 sc, .int .u64 sd]), (10, h6, .row 1 (bw (gV S w fr i)))])) (fun i => i ≤ w.size) (fun i => w.size - i) 0 (Nat.zero_le _) (by rw [h0]; rfl) ?_
 rintro i hi ih
 simp only at hi ih ⊢
 by_cases hle : i < w.size
 ·have e4 : (i : Int) < w.size := by omega
  have e5 : (0 : Int) ≤ i := by omega
  have e6 : (i : Int) + 1 = ((i + 1 : Nat) : Int) := by omega
  have e7 : (i : Int) < fr.length := by omega
  have e8 := eZ w i
  obtain ⟨o1, o2, o3⟩ := xX (s := S) (fr := fr) hle
  have e9 : i + 1 < (gV S w fr i).length := by omega
  have e10 : ((i + 1 : Nat) : Int) < ((w.size + 1 : Nat) : Int) := by omega
  have e11 : (0 : Int) ≤ ((i + 1 : Nat) : Int) := by omega
  have hfr : fr[i]? = some (fr[i]'(by omega)) := List.getElem?_eq_getElem (by omega)
  have hgd : fr.getD i false = fr[i]'(by omega) := by simp [List.getD, hf, show i < w.size + 1 by omega]
  have hc := hh (ch w i) (pF w i)
  rw [hit, hgd] at o3
  generalize fr[i]'(by omega) = x at hfr o3
  cases x
  ·rw [Bool.false_and] at o3
   have o4 : gV S w fr (i + 1) = gV S w fr i := by
    rw [← o3]
    refine List.ext_getElem? fun j => ?_
    rw [List.getElem?_set]
    split
    ·rename_i e; subst e; first | exact o2.symm | (split <;> first | exact o2.symm | (rename_i h; exact absurd e9 h))
    ·rfl
   repeat' (first
 | refine gCt rfl ?_
 | ((first
 | ((first | refine gR fp96 ?_ | refine gD 5 11 cG fp96 ?_); intro K hK)
 | (refine ab ?_ ?_ <;> intro hb <;> (try simp only [bls] at hb) <;> (try simp only [hb]))
 | refine gRe [] [.tmp 6] rfl rfl ?_) <;> (try simp only [go_sem, simprocAttr, e4, e5, e6, e7, hfr, Option.some.injEq, forall_eq']))
 | (refine hK _ _ ?_; clear hK K; simp only [go_sem, simprocAttr])
 | refine gCd ?_ | refine brT ?_ | refine brF ?_
 | (refine brS ?_ ?_ <;> intro hc <;> (try simp only [bls] at hc) <;> (try simp only [hc, bls]))
 | intro _ | refine And.intro ?_ ?_)
   all_goals try exact zsd
   refine ae.bh [3, 10] ?_
   simp only [ao, au, go_sem, simprocAttr]
   refine ae.prune [1, 2, 3, 6, 7, 8] ?_; simp only [go_sem, simprocAttr]
   exact ae.cast (ih (i + 1) (by omega) (by omega)) rfl (by rw [o4])
  ·rw [Bool.true_and] at o3
   cases hb : dA S (ch w i)
   ·rw [hb] at hc o3
    have o4 : gV S w fr (i + 1) = gV S w fr i := by
     rw [← o3]
     refine List.ext_getElem? fun j => ?_
     rw [List.getElem?_set]
     split
     ·rename_i e; subst e; first | exact o2.symm | (split <;> first | exact o2.symm | (rename_i h; exact absurd e9 h))
     ·rfl
    repeat' (first
 | refine gCt rfl ?_
 | ((first
 | ((first | refine gR fp96 ?_ | refine gD 5 11 cG fp96 ?_); intro K hK)
 | refine ⟨_, ah.alone (hc) rfl rfl rfl, ?_⟩
 | (refine ab ?_ ?_ <;> intro hb <;> (try simp only [bls] at hb) <;> (try simp only [hb]))
 | refine gRe [] [.tmp 6] rfl rfl ?_) <;> (try simp only [go_sem, simprocAttr, e4, e5, e6, e7, e8, hfr, Option.some.injEq, forall_eq']))
 | (refine hK _ _ ?_; clear hK K; simp only [go_sem, simprocAttr])
 | refine gCd ?_ | refine brT ?_ | refine brF ?_
 | (refine brS ?_ ?_ <;> intro hc <;> (try simp only [bls] at hc) <;> (try simp only [hc, bls]))
 | intro _ | refine And.intro ?_ ?_)
    all_goals try exact zsd
    refine ae.bh [3, 10] ?_
    simp only [ao, au, go_sem, simprocAttr]
    refine ae.prune [1, 2, 3, 6, 7, 8] ?_; simp only [go_sem, simprocAttr]
    exact ae.cast (ih (i + 1) (by omega) (by omega)) rfl (by rw [o4])
   ·rw [hb] at hc o3
    repeat' (first
 | refine gCt rfl ?_
 | ((first
 | ((first | refine gR fp96 ?_ | refine gD 5 11 cG fp96 ?_); intro K hK)
 | refine ⟨_, ah.alone (hc) rfl rfl rfl, ?_⟩
 | (refine ab ?_ ?_ <;> intro hb <;> (try simp only [bls] at hb) <;> (try simp only [hb]))
 | refine gRe [] [.tmp 6] rfl rfl ?_) <;> (try simp only [go_sem, simprocAttr, e4, e5, e6, e7, e8, e9, e10, e11, hfr, Option.some.injEq, forall_eq']))
 | (refine hK _ _ ?_; clear hK K; simp only [go_sem, simprocAttr])
 | refine gCd ?_ | refine brT ?_ | refine brF ?_
 | (refine brS ?_ ?_ <;> intro hc <;> (try simp only [bls] at hc) <;> (try simp only [hc, bls]))
 | intro _ | refine And.intro ?_ ?_)
    all_goals try exact zsd
    rename_i z hz
    have hz2 : z = [.bool false] := by rw [List.getElem?_map, o2] at hz; exact (Option.some.inj hz).symm
    subst hz2
    refine ae.bh [3, 10] ?_
    simp only [ao, au, go_sem, simprocAttr]
    refine ae.prune [1, 2, 3, 6, 7, 8] ?_; simp only [go_sem, simprocAttr]
    exact ae.cast (ih (i + 1) (by omega) (by omega)) rfl (by rw [← o3]; simp [List.map_set])
 ·have e4 : ¬ (i : Int) < w.size := by omega
  have e12 : gV S w fr i = eD S w fr := by
   have : i = w.size := by omega
   subst this
   simp [gV, eD, aY]
  rw [e12]
  have e13 : (eD S w fr).length = w.size + 1 := by simp [eD]
  have e15 : (bw (eD S w fr)).take (w.size + 1) = bw (eD S w fr) := List.take_of_length_le (by simp [e13])
  clear ih
  repeat' (first
 | refine gCt rfl ?_
 | ((first
 | (refine ae.at 7 ?_; (refine ae.freeze 10 rfl ?_; simp only [rfT, rfS, rfO, rf, rf1, e15, e13, Nat.le_refl, true_and, go_sem, simprocAttr]); refine gR fp96 ?_; intro K hK)
 | ((first | refine gR fp96 ?_ | refine gD 5 11 cG fp96 ?_); intro K hK)
 | (refine ab ?_ ?_ <;> intro hb <;> (try simp only [bls] at hb) <;> (try simp only [hb]))
 | refine gRe [] [.tmp 6] rfl rfl ?_) <;> (try simp only [go_sem, simprocAttr, e4]))
 | (refine hK _ _ ?_; clear hK K; simp only [go_sem, simprocAttr])
 | refine gCd ?_ | refine brT ?_ | refine brF ?_
 | (refine brS ?_ ?_ <;> intro hc <;> (try simp only [bls] at hc) <;> (try simp only [hc, bls]))
 | intro _ | refine And.intro ?_ ?_)
  all_goals try exact zsd
end Go.Rad
namespace Go.Rad
open Go
end Go.Rad
namespace Go.Rad
open Go Fo
abbrev RS := List Node × Bool
abbrev RO := RS × Int
def Az (n : Node) (s : RS) : RO := if 1024 ≤ s.1.length then ((s.1, true), 0) else ((s.1 ++ [n], s.2), s.1.length)
def PBR (pl : RS → RO) : Prop := ∀ s, s.1.length ≤ 1024 → (pl s).1.1.length ≤ 1024
section
variable {pl : RS → RO} (hb : PBR pl)
include hb
end
abbrev RF := RS → RS × List Int
def ROk (s : RF) (f : Fo) : Prop := (∀ out, out.length ≤ 1024 → (out.length + f.size ≤ 1024 → s (out, false) = ((out ++ f.lay out.length, false), f.roots out.length)) ∧ (1024 < out.length + f.size → (s (out, false)).1.2 = true)) ∧ ∀ out, (s (out, true)).1.2 = true
def AS (s t : RF) (x : RS) : RS × List Int := ((t (s x).1).1, (s x).2 ++ (t (s x).1).2)
abbrev sgR (pl : RS → RO) : RF := fun x => ((pl x).1, [(pl x).2])
def ug (b : Lb) (s : RF) : RF := sgR fun x => Az (b.node (s x).2) (s x).1
abbrev nilR : RF := fun x => (x, [])
theorem qc (n : Node) (out : List Node) : (Az n (out, true)).1.2 = true := by unfold Az; split <;> rfl
theorem jc {x : RS} (h : x.2 = true) : x = (x.1, true) := Prod.ext rfl h
theorem ROk.nil : ROk nilR .nil := ⟨fun out h => ⟨fun _ => by simp [lay, roots], fun h2 => by simp only [size] at h2; omega⟩, fun out => rfl⟩
theorem ROk.seq {s t : RF} {f g : Fo} (hs : ROk s f) (ht : ROk t g) : ROk (AS s t) (f.app g) := by
 refine ⟨fun out h => ?_, fun out => ?_⟩
 ·rw [tP]
  by_cases h1 : out.length + f.size ≤ 1024
  ·have e := (hs.1 out h).1 h1
   have el : (out ++ f.lay out.length).length = out.length + f.size := by simp [cT]
   obtain ⟨t1, t2⟩ := ht.1 (out ++ f.lay out.length) (by omega)
   rw [el] at t1 t2
   refine ⟨fun h => ?_, fun h => ?_⟩
   ·simp only [AS, e]
    rw [t1 (by omega), wg, qg]
    simp
   ·simp only [AS, e]
    exact t2 (by omega)
  ·have e := (hs.1 out h).2 (by omega)
   refine ⟨fun h => by omega, fun _ => ?_⟩
   simp only [AS]
   rw [jc e]
   exact ht.2 _
 ·simp only [AS]
  rw [jc (hs.2 out)]
  exact ht.2 _
theorem ROk.wrap {s : RF} {f : Fo} (b : Lb) (hs : ROk s f) : ROk (ug b s) (one b f) := by
 refine ⟨fun out h => ?_, fun out => ?_⟩
 ·simp only [size, Nat.add_zero]
  by_cases h1 : out.length + f.size ≤ 1024
  ·have e := (hs.1 out h).1 h1
   have el : (out ++ f.lay out.length).length = out.length + f.size := by simp [cT]
   refine ⟨fun h2 => ?_, fun h2 => ?_⟩
   ·simp only [ug, sgR, e, Az, el]
    rw [if_neg (by omega)]
    simp [lay, roots]
   ·simp only [ug, sgR, e, Az, el]
    rw [if_pos (by omega)]
  ·have e := (hs.1 out h).2 (by omega)
   refine ⟨fun h => by omega, fun _ => ?_⟩
   simp only [ug, sgR]
   rw [jc e]
   exact qc _ _
 ·simp only [ug, sgR]
  rw [jc (hs.2 out)]
  exact qc _ _
theorem ROk.guard {s s' : RF} {f : Fo} (h : ∀ out, out.length ≤ 1024 → s' (out, false) = s (out, false) ∨ ((s' (out, false)).1.2 = true ∧ 1024 < out.length + f.size)) (ht : ∀ out, (s' (out, true)).1.2 = true) (hs : ROk s f) : ROk s' f := by
 refine ⟨fun out ho => ?_, ht⟩
 rcases h out ho with e | ⟨e1, e2⟩
 ·rw [e]; exact hs.1 out ho
 ·exact ⟨fun h => by omega, fun _ => e1⟩
end Go.Rad
namespace Go.Rad
open Go Fo
theorem gJ {b : Lb} {d : Nat} (h : iD b d = true) (h5 : b.op = 5) : d = 1 ∧ b.s = aw.none ∧ b.name = ByteArray.empty ∧ 0 ≤ b.lo ∧ b.lo ≤ 4096 ∧ (b.hi = -1 ∨ 1 ≤ b.hi ∧ b.hi ≤ 4096 ∧ b.lo ≤ b.hi) := by
 simp only [iD, aD, h5] at h
 simp only [show ¬ (5 : Int) = 1 by decide, show ¬ (5 : Int) = 2 by decide, show ¬ ((5 : Int) = 3 ∨ (5 : Int) = 4) by decide, if_false, if_true, Bool.and_eq_true, Bool.not_eq_true', decide_eq_true_eq, decide_eq_false_iff_not, Decidable.not_not, List.length_replicate] at h
 obtain ⟨⟨⟨⟨h1, h2⟩, h3⟩, h4⟩, h6⟩ := h
 exact ⟨h3, h1, h2, h4.1, h4.2, h6⟩
abbrev no6 (f : Fo) : Bool := f.all fun b _ => decide (b.op ≠ 6)
theorem oe (l : List Node) : cy l = true ↔ ∃ f : Fo, f.deg = 1 ∧ l = f.lay 0 ∧ f.cO = true ∧ f.size ≤ 1024 ∧ no6 f = true := by
 have hno : ∀ f : Fo, (f.lay 0).all iz = no6 f := fun f => zY fun n k _ => rfl
 constructor
 ·intro h
  simp only [cy, Bool.and_eq_true] at h
  obtain ⟨h1, h2⟩ := h
  rw [← dF] at h2
  obtain ⟨f, a, rfl, b, c⟩ := qf.1 h2
  exact ⟨f, a, rfl, b, c, by rw [← hno]; exact h1⟩
 ·rintro ⟨f, a, rfl, b, c, d⟩
  simp only [cy, Bool.and_eq_true]
  exact ⟨by rw [hno]; exact d, by rw [← dF]; exact qf.2 ⟨f, a, rfl, b, c⟩⟩
def LX (most : Int) (b : Lb) (k : Fo) : Bool := iD b k.deg && decide (b.op ≠ 6) && decide (b.op = 5 → b = repL 0 (-1) ∨ (b = repL b.lo b.hi ∧ k.CL = true ∧ 1 ≤ b.lo ∧ 2 ≤ b.hi ∧ most < b.hi))
abbrev LY (most : Int) (f : Fo) : Bool := f.all (LX most)
section
variable {most : Int} {p : Fo} (hp : LY most p = true) (hd : p.deg = 1)
include hp hd
end
theorem lj {l : List Node} (h : cy l = true) : (∀ n ∈ l, n.name.size ≤ maxLen ∧ n.l.length ≤ maxLen) ∧ l.length ≤ 1024 := by
 simp only [cy, Bool.and_eq_true] at h
 have hr := h.2
 rw [← dF] at hr
 exact ⟨dW hr, (bI hr).2.2.2⟩
end Go.Rad
namespace Go.Rad
open Go Fo
abbrev BF := List Bool → List Bool
section
variable {n : Nat}
end
section
variable {w : ByteArray} {p : Fo} {g : BF} (hp : sem w p = [g]) (hg : Add (w.size + 1) g)
include hp
include hg
end
def kE (w : ByteArray) (f : Fo) (s : List Bool) : List Bool := (sem w f).headD id s
end Go.Rad
namespace Go.Rad
open Go Go.Proofs
set_option linter.all false
set_option maxRecDepth 20000
set_option maxHeartbeats 4000000
def Em (P : Program) (fno : Nat) (q f : Bool) (ns : List Node) (w : ByteArray) (kd : Int) (g : List Bool → List Bool) : Prop :=
 ∀ s : List Bool, s.length = w.size + 1 → ah P fno [.sl q f (nodes ns), .int .i64 kd, .str w, .sl true false (bw s)] [] fun r s' => r = .sl true false (bw (g s)) ∧ s' = []
theorem JB {q f : Bool} {ns : List Node} {w : ByteArray} (hw : w.size ≤ 1000000) (n : Node) (kid : Int) (g : List Bool → List Bool) (hn : n.l = [kid]) (hlo : 0 ≤ n.lo ∧ n.lo ≤ 4096) (hhi : n.hi = -1 ∨ n.lo ≤ n.hi ∧ n.hi ≤ 4096) (hk : Em Tryz.prog 73 q f ns w kid g) (hg : Add (w.size + 1) g) (s : List Bool) (hs : s.length = w.size + 1) :
  ah Tryz.prog 98 [.sl q f (nodes ns), .agg n.cells, .str w, .sl true false (bw s)] [] fun r s' => r = .sl true false (bw (ko w n.lo n.hi g s)) ∧ s' = [] := by
 obtain ⟨xo, ⟨xa, xb, xc, xd⟩, xl, xlo, xhi, xn⟩ := n
 simp only at hn hlo hhi
 have hx0 : xl[0]? = some kid := by rw [hn]; rfl
 have e0 : (0 : Int) < xl.length := by rw [hn]; exact Int.one_pos
 clear hn
 obtain ⟨lo, rfl⟩ : ∃ lo : Nat, xlo = lo := ⟨xlo.toNat, by omega⟩
 simp only [Node.cells, Node.eL]
 obtain ⟨S1, hS1⟩ : ∃ S1, S1 = itB g lo s := ⟨_, rfl⟩
 have hS1l : S1.length = w.size + 1 := by rw [hS1]; exact dj hg hs lo
 obtain ⟨M, hM⟩ : ∃ M : Nat, M = if xhi = -1 then w.size + 1 else (xhi - lo).toNat := ⟨_, rfl⟩
 have hrep : ko w lo xhi g s = uB g M S1 := by rw [ko, ← hM, Int.toNat_natCast, ← hS1]
 rw [hrep]
 clear hrep
 refine ah.enter Tryz.func98 rfl (by kernel_rfl) (Nat.le_of_ble_eq_true rfl) ?_; simp only [ai, Nat.reduceAdd]
 repeat' (first
 | refine gCt rfl ?_
 | ((first
 | ((first | refine gR fp98 ?_); intro K hK)
 | (refine ab ?_ ?_ <;> intro hb <;> (try simp only [bls] at hb) <;> (try simp only [hb]))
 | refine gRe [] [.tmp 8] rfl rfl ?_) <;> (try simp only [go_sem, simprocAttr]))
 | (refine hK _ _ ?_; clear hK K; simp only [go_sem, simprocAttr])
 | refine gCd ?_ | refine brT ?_ | refine brF ?_
 | (refine brS ?_ ?_ <;> intro hc <;> (try simp only [bls] at hc) <;> (try simp only [hc, bls]))
 | intro _ | refine And.intro ?_ ?_)
 all_goals try exact zsd
 rename_i h5
 refine ae.prune [0, 2, 3, 5, 8, 9] ?_; simp only [go_sem, simprocAttr]
 apply hv0
 case main =>
  intro key
  refine ae.al (α := Nat) (fun i => ([(0, .sl q f (nodes ns)), (2, .str w), (3, .sl true false (bw (itB g i s))), (5, .bx 5 h5 0), (8, .sl true true []), (9, .int .i64 i)], [(5, h5, .box [.int .u8 xo, .int .u64 xa, .int .u64 xb, .int .u64 xc, .int .u64 xd, .sl true false (ints xl), .int .i64 lo, .int .i64 xhi, .str xn])]))
   (fun i => i ≤ lo) (fun i => lo - i) 0 (Nat.zero_le _) rfl ?_
  rintro i hi ih
  simp only at hi ih ⊢
  have hil := dj hg hs i
  by_cases hle : i < lo
  ·have e4 : (i : Int) < lo := by omega
   have e6 : (i : Int) + 1 = ((i + 1 : Nat) : Int) := by omega
   have hc := hk (itB g i s) hil
   rw [← gq g] at hc
   have hsm := wN true false true false (itB g (i + 1) s) (itB g i s) (by rw [dj hg hs, hil]) (by rw [dj hg hs]; omega)
   by_cases hst : itB g (i + 1) s = itB g i s
   ·rw [decide_eq_true hst] at hsm
    have hfin : itB g i s = S1 := by
     have := wb (g := g) (s := s) (i := i) (show g (itB g i s) = itB g i s by rw [← gq g]; exact hst) (lo - i)
     rw [show i + (lo - i) = lo by omega] at this
     rw [hS1, this]
    rw [hst] at hc hsm
    rw [hfin] at hc hsm ⊢
    repeat' (first
 | (refine ae.at 7 ?_; (refine ae.prune [0, 2, 3, 5, 8] ?_; simp only [go_sem, simprocAttr]; refine lX ?_))
 | refine gCt rfl ?_
 | ((first
 | ((first | refine gR fp98 ?_); intro K hK)
 | refine cAl (hc) rfl rfl rfl ?_
 | refine cAl (hsm) rfl rfl rfl ?_
 | (refine ab ?_ ?_ <;> intro hb <;> (try simp only [bls] at hb) <;> (try simp only [hb]))
 | refine gRe [] [.tmp 8] rfl rfl ?_) <;> (try simp only [go_sem, simprocAttr, e4, e6, hx0, e0, Option.some.injEq, forall_eq']))
 | (refine hK _ _ ?_; clear hK K; simp only [go_sem, simprocAttr])
 | refine gCd ?_ | refine brT ?_ | refine brF ?_
 | (refine brS ?_ ?_ <;> intro hc <;> (try simp only [bls] at hc) <;> (try simp only [hc, bls]))
 | intro _ | refine And.intro ?_ ?_)
    all_goals try exact zsd
    refine lW ?_; exact key.out
   ·rw [decide_eq_false hst] at hsm
    repeat' (first
 | refine gCt rfl ?_
 | ((first
 | ((first | refine gR fp98 ?_); intro K hK)
 | refine cAl (hc) rfl rfl rfl ?_
 | refine cAl (hsm) rfl rfl rfl ?_
 | (refine ab ?_ ?_ <;> intro hb <;> (try simp only [bls] at hb) <;> (try simp only [hb]))
 | refine gRe [] [.tmp 8] rfl rfl ?_) <;> (try simp only [go_sem, simprocAttr, e4, e6, hx0, e0, Option.some.injEq, forall_eq']))
 | (refine hK _ _ ?_; clear hK K; simp only [go_sem, simprocAttr])
 | refine gCd ?_ | refine brT ?_ | refine brF ?_
 | (refine brS ?_ ?_ <;> intro hc <;> (try simp only [bls] at hc) <;> (try simp only [hc, bls]))
 | intro _ | refine And.intro ?_ ?_)
    all_goals try exact zsd
    refine ae.bh [5] ?_
    simp only [ao, au, go_sem, simprocAttr]
    refine ae.prune [0, 2, 3, 5, 8, 9] ?_; simp only [go_sem, simprocAttr]
    exact (ih (i + 1) (by omega) (by omega)).cast rfl rfl
  ·have e4 : ¬ (i : Int) < lo := by omega
   have hfin : itB g i s = S1 := by rw [hS1, show i = lo by omega]
   rw [hfin]
   repeat' (first
 | (refine ae.at 7 ?_; (refine ae.prune [0, 2, 3, 5, 8] ?_; simp only [go_sem, simprocAttr]; refine lX ?_))
 | refine gCt rfl ?_
 | ((first
 | ((first | refine gR fp98 ?_); intro K hK)
 | (refine ab ?_ ?_ <;> intro hb <;> (try simp only [bls] at hb) <;> (try simp only [hb]))
 | refine gRe [] [.tmp 8] rfl rfl ?_) <;> (try simp only [go_sem, simprocAttr, e4]))
 | (refine hK _ _ ?_; clear hK K; simp only [go_sem, simprocAttr])
 | refine gCd ?_ | refine brT ?_ | refine brF ?_
 | (refine brS ?_ ?_ <;> intro hc <;> (try simp only [bls] at hc) <;> (try simp only [hc, bls]))
 | intro _ | refine And.intro ?_ ?_)
   refine lW ?_; exact key.out
 case key =>
  clear hS1 hs
  repeat' (first
 | refine gCt rfl ?_
 | ((first
 | ((first | refine gR fp98 ?_); intro K hK)
 | (refine ab ?_ ?_ <;> intro hb <;> (try simp only [bls] at hb) <;> (try simp only [hb]))
 | refine gRe [] [.tmp 8] rfl rfl ?_) <;> (try simp only [go_sem, simprocAttr]))
 | (refine hK _ _ ?_; clear hK K; simp only [go_sem, simprocAttr])
 | refine gCd ?_ | refine brT ?_ | refine brF ?_
 | (refine brS ?_ ?_ <;> intro hc <;> (try simp only [bls] at hc) <;> (try simp only [hc, bls]))
 | intro _ | refine And.intro ?_ ?_)
  refine ae.prune [0, 2, 3, 5, 8, 11, 12] ?_; simp only [go_sem, simprocAttr]
  refine ae.al (α := Nat) (fun k => ([(0, .sl q f (nodes ns)), (2, .str w), (3, .sl true false (bw (itB g k S1))), (5, .bx 5 h5 0), (8, .sl true true []), (11, .sl true false (bw (uB g k S1))), (12, .int .i64 (lo + k : Nat))], [(5, h5, .box [.int .u8 xo, .int .u64 xa, .int .u64 xb, .int .u64 xc, .int .u64 xd, .sl true false (ints xl), .int .i64 lo, .int .i64 xhi, .str xn])]))
   (fun k => k ≤ c7 (uB g k S1) ∧ (xhi = -1 ∨ k ≤ M)) (fun k => w.size + 1 - k) 0 ⟨Nat.zero_le _, .inr (Nat.zero_le _)⟩ rfl ?_
  rintro k ⟨hkc, hkM⟩ ih
  simp only at hkc hkM ih ⊢
  have hul := jv hg hS1l k
  have hil := dj hg hS1l k
  have hcl : c7 (uB g k S1) ≤ w.size + 1 := by rw [← hul]; exact nu
  by_cases hgo : xhi = -1 ∨ k < M
  ·have e6 : ((lo + k : Nat) : Int) + 1 = ((lo + (k + 1) : Nat) : Int) := by omega
   have hc := hk (itB g k S1) hil
   rw [← gq g] at hc
   have ho := EE true false true false (uB g k S1) (itB g (k + 1) S1) (by rw [hul, dj hg hS1l]) (by omega)
   rw [← oQ hg hS1l] at ho
   have hsm := wN true false true false (uB g (k + 1) S1) (uB g k S1) (by rw [hul, jv hg hS1l]) (by rw [jv hg hS1l]; omega)
   have hgr := qD hul (dj hg hS1l (k + 1))
   rw [← oQ hg hS1l] at hgr
   by_cases hst : uB g (k + 1) S1 = uB g k S1
   ·rw [decide_eq_true hst] at hsm
    have hfin : uB g M S1 = uB g k S1 := by
     rcases hgo with h1 | h1
     ·rw [hM, if_pos h1]; exact EF hg hS1l hst
     ·have := jP hg hS1l hst (M - k)
      rw [show k + (M - k) = M by omega] at this
      exact this
    rw [hfin]
    rw [hst] at ho hsm
    by_cases h1 : xhi = -1
    ·have e7 : ¬ ((lo + k : Nat) : Int) < xhi := by omega
     repeat' (first
 | refine gCt rfl ?_
 | ((first
 | ((first | refine gR fp98 ?_); intro K hK)
 | refine cAl (hc) rfl rfl rfl ?_
 | refine cAl (ho) rfl rfl rfl ?_
 | refine cAl (hsm) rfl rfl rfl ?_
 | (refine ab ?_ ?_ <;> intro hb <;> (try simp only [bls] at hb) <;> (try simp only [hb]))
 | refine gRe [] [.tmp 8] rfl rfl ?_) <;> (try simp only [go_sem, simprocAttr, e6, e7, eq_true h1, hx0, e0, Option.some.injEq, forall_eq']))
 | (refine hK _ _ ?_; clear hK K; simp only [go_sem, simprocAttr])
 | refine gCd ?_ | refine brT ?_ | refine brF ?_
 | (refine brS ?_ ?_ <;> intro hc <;> (try simp only [bls] at hc) <;> (try simp only [hc, bls]))
 | intro _ | refine And.intro ?_ ?_)
     all_goals try exact zsd
    ·have e7 : ((lo + k : Nat) : Int) < xhi := by rw [if_neg h1] at hM; omega
     repeat' (first
 | refine gCt rfl ?_
 | ((first
 | ((first | refine gR fp98 ?_); intro K hK)
 | refine cAl (hc) rfl rfl rfl ?_
 | refine cAl (ho) rfl rfl rfl ?_
 | refine cAl (hsm) rfl rfl rfl ?_
 | (refine ab ?_ ?_ <;> intro hb <;> (try simp only [bls] at hb) <;> (try simp only [hb]))
 | refine gRe [] [.tmp 8] rfl rfl ?_) <;> (try simp only [go_sem, simprocAttr, e6, e7, h1, hx0, e0, Option.some.injEq, forall_eq']))
 | (refine hK _ _ ?_; clear hK K; simp only [go_sem, simprocAttr])
 | refine gCd ?_ | refine brT ?_ | refine brF ?_
 | (refine brS ?_ ?_ <;> intro hc <;> (try simp only [bls] at hc) <;> (try simp only [hc, bls]))
 | intro _ | refine And.intro ?_ ?_)
     all_goals try exact zsd
   ·rw [decide_eq_false hst] at hsm
    have hlt : c7 (uB g k S1) ≠ c7 (uB g (k + 1) S1) := fun e => hst (hgr.2 e)
    have hcl2 : c7 (uB g (k + 1) S1) ≤ w.size + 1 := by rw [← jv hg hS1l (k + 1)]; exact nu
    by_cases h1 : xhi = -1
    ·have e7 : ¬ ((lo + k : Nat) : Int) < xhi := by omega
     repeat' (first
 | refine gCt rfl ?_
 | ((first
 | ((first | refine gR fp98 ?_); intro K hK)
 | refine cAl (hc) rfl rfl rfl ?_
 | refine cAl (ho) rfl rfl rfl ?_
 | refine cAl (hsm) rfl rfl rfl ?_
 | (refine ab ?_ ?_ <;> intro hb <;> (try simp only [bls] at hb) <;> (try simp only [hb]))
 | refine gRe [] [.tmp 8] rfl rfl ?_) <;> (try simp only [go_sem, simprocAttr, e6, e7, eq_true h1, hx0, e0, Option.some.injEq, forall_eq']))
 | (refine hK _ _ ?_; clear hK K; simp only [go_sem, simprocAttr])
 | refine gCd ?_ | refine brT ?_ | refine brF ?_
 | (refine brS ?_ ?_ <;> intro hc <;> (try simp only [bls] at hc) <;> (try simp only [hc, bls]))
 | intro _ | refine And.intro ?_ ?_)
     all_goals try exact zsd
     refine ae.bh [5] ?_
     simp only [ao, au, go_sem, simprocAttr]
     refine ae.prune [0, 2, 3, 5, 8, 11, 12] ?_; simp only [go_sem, simprocAttr]
     exact (ih (k + 1) ⟨by omega, .inl h1⟩ (by omega)).cast rfl rfl
    ·have e7 : ((lo + k : Nat) : Int) < xhi := by rw [if_neg h1] at hM; omega
     repeat' (first
 | refine gCt rfl ?_
 | ((first
 | ((first | refine gR fp98 ?_); intro K hK)
 | refine cAl (hc) rfl rfl rfl ?_
 | refine cAl (ho) rfl rfl rfl ?_
 | refine cAl (hsm) rfl rfl rfl ?_
 | (refine ab ?_ ?_ <;> intro hb <;> (try simp only [bls] at hb) <;> (try simp only [hb]))
 | refine gRe [] [.tmp 8] rfl rfl ?_) <;> (try simp only [go_sem, simprocAttr, e6, e7, h1, hx0, e0, Option.some.injEq, forall_eq']))
 | (refine hK _ _ ?_; clear hK K; simp only [go_sem, simprocAttr])
 | refine gCd ?_ | refine brT ?_ | refine brF ?_
 | (refine brS ?_ ?_ <;> intro hc <;> (try simp only [bls] at hc) <;> (try simp only [hc, bls]))
 | intro _ | refine And.intro ?_ ?_)
     all_goals try exact zsd
     refine ae.bh [5] ?_
     simp only [ao, au, go_sem, simprocAttr]
     refine ae.prune [0, 2, 3, 5, 8, 11, 12] ?_; simp only [go_sem, simprocAttr]
     exact (ih (k + 1) ⟨by omega, .inr (by omega)⟩ (by omega)).cast rfl rfl
  ·have h1 : ¬ xhi = -1 := fun h => hgo (.inl h)
   have e7 : ¬ ((lo + k : Nat) : Int) < xhi := by rw [if_neg h1] at hM; omega
   have hkm : k = M := by omega
   subst hkm
   clear ih
   repeat' (first
 | refine gCt rfl ?_
 | ((first
 | ((first | refine gR fp98 ?_); intro K hK)
 | (refine ab ?_ ?_ <;> intro hb <;> (try simp only [bls] at hb) <;> (try simp only [hb]))
 | refine gRe [] [.tmp 8] rfl rfl ?_) <;> (try simp only [go_sem, simprocAttr, e7, h1]))
 | (refine hK _ _ ?_; clear hK K; simp only [go_sem, simprocAttr])
 | refine gCd ?_ | refine brT ?_ | refine brF ?_
 | (refine brS ?_ ?_ <;> intro hc <;> (try simp only [bls] at hc) <;> (try simp only [hc, bls]))
 | intro _ | refine And.intro ?_ ?_)
   all_goals try exact zsd
theorem qK {q f : Bool} {ns : List Node} {w : ByteArray} (hw : w.size ≤ 1000000) (hll : ns.length ≤ 1000000) : ∀ (fo : Fo) (ks : List Int), fo.Sub ns ks → fo.cO = true → fo.size ≤ 1000000 → ∀ (j : Nat) (kd : Int) (g : List Bool → List Bool), ks[j]? = some kd → (sem w fo)[j]? = some g → Em Tryz.prog 73 q f ns w kd g
 | .nil, ks, hs, _, _, j, kd, g, hj, hg => by simp [sem] at hg
 | .node b k r, ks, hsub, hsh, hsz, j, kd, g, hj, hg => by
  obtain ⟨i, n, ks', rfl, h1, h2, h3, h4⟩ := hsub
  simp only [Fo.cO, Fo.all, Bool.and_eq_true] at hsh
  simp only [Fo.size] at hsz
  cases j with
  | succ j => exact qK hw hll r ks' h4 hsh.2 (by omega) j kd g (by simpa using hj) (by simpa [sem] using hg)
  | zero =>
   simp only [List.getElem?_cons_zero, Option.some.injEq, sem] at hj hg
   subst hj hg
   have ih := qK (q := q) (f := f) hw hll k n.l h3 hsh.1.2 (by omega)
   have hlen := h3.len
   have hsl := ja w k
   have hadd := iZ w k
   have hkd : k.deg ≤ 1000000 := Nat.le_trans (Fo.uC k) (by omega)
   generalize sem w k = fs at ih hsl hadd
   have hshape := hsh.1.1
   have hlk : n.l.length = fs.length := by omega
   rw [← hlen] at hshape
   clear h3 h4 hsh
   intro s hs
   have hi := (List.getElem?_eq_some_iff.1 h1).1
   have e1 : (i : Int) < ns.length := by omega
   have e2 : (0 : Int) ≤ i := by omega
   obtain ⟨xo, ⟨xa, xb, xc, xd⟩, xl, xlo, xhi, xn⟩ := n
   subst h2
   simp only at hshape ih hlk hlen
   simp only [da]
   by_cases h2 : xo = 2
   ·rw [if_pos h2]
    have hc := Jy ⟨xa, xb, xc, xd⟩ true false w s hw hs
    simp only [aw.cells] at hc
    refine ah.enter Tryz.func73 rfl (by kernel_rfl) (Nat.le_of_ble_eq_true rfl) ?_; simp only [ai, Nat.reduceAdd]
    repeat' (first
 | refine gCt rfl ?_
 | ((first
 | ((first | refine gR fp73 ?_); intro K hK)
 | refine cAl (hc) rfl rfl rfl ?_
 | (refine ab ?_ ?_ <;> intro hb <;> (try simp only [bls] at hb) <;> (try simp only [hb]))
 | refine gRe [] [.tmp 8] rfl rfl ?_) <;> (try simp only [go_sem, simprocAttr, e1, e2, h1, eq_true h2, Option.some.injEq, forall_eq']))
 | (refine hK _ _ ?_; clear hK K; simp only [go_sem, simprocAttr])
 | refine gCd ?_ | refine brT ?_ | refine brF ?_
 | (refine brS ?_ ?_ <;> intro hc <;> (try simp only [bls] at hc) <;> (try simp only [hc, bls]))
 | intro _ | refine And.intro ?_ ?_)
    all_goals try exact zsd
   ·rw [if_neg h2]
    by_cases h3 : xo = 3
    ·rw [if_pos h3]
     obtain ⟨S, hS⟩ : ∃ S, S = fs.foldl (fun s f => f s) s := ⟨_, rfl⟩
     rw [← hS]
     refine ah.enter Tryz.func73 rfl (by kernel_rfl) (Nat.le_of_ble_eq_true rfl) ?_; simp only [ai, Nat.reduceAdd]
     repeat' (first
 | refine gCt rfl ?_
 | ((first
 | ((first | refine gR fp73 ?_); intro K hK)
 | (refine ab ?_ ?_ <;> intro hb <;> (try simp only [bls] at hb) <;> (try simp only [hb]))
 | refine gRe [] [.tmp 8] rfl rfl ?_) <;> (try simp only [go_sem, simprocAttr, e1, e2, h1, h2, eq_true h3, Option.some.injEq, forall_eq']))
 | (refine hK _ _ ?_; clear hK K; simp only [go_sem, simprocAttr])
 | refine gCd ?_ | refine brT ?_ | refine brF ?_
 | (refine brS ?_ ?_ <;> intro hc <;> (try simp only [bls] at hc) <;> (try simp only [hc, bls]))
 | intro _ | refine And.intro ?_ ?_)
     all_goals try exact zsd
     rename_i h9
     refine ae.prune [0, 2, 3, 8, 9, 10] ?_; simp only [go_sem, simprocAttr]
     refine ae.al (α := Nat × List Bool) (fun z => ([(0, .sl q f (nodes ns)), (2, .str w), (3, .sl true false (bw z.2)), (8, .sl true true []), (9, .bx 9 h9 0), (10, .int .i64 z.1)], [(9, h9, .box [.int .u8 xo, .int .u64 xa, .int .u64 xb, .int .u64 xc, .int .u64 xd, .sl true false (ints xl), .int .i64 xlo, .int .i64 xhi, .str xn])]))
      (fun z => z.1 ≤ xl.length ∧ z.2.length = w.size + 1 ∧ S = (fs.drop z.1).foldl (fun s f => f s) z.2) (fun z => xl.length - z.1) (0, s) ⟨Nat.zero_le _, hs, hS⟩ rfl ?_
     rintro ⟨j, t⟩ ⟨hj, ht, hrun⟩ ih2
     simp only at hj ht hrun ih2 ⊢
     by_cases hle : j < xl.length
     ·have f4 : (j : Int) < xl.length := by omega
      have f5 : (0 : Int) ≤ j := by omega
      have f6 : (j : Int) + 1 = ((j + 1 : Nat) : Int) := by omega
      have hx : xl[j]? = some xl[j] := List.getElem?_eq_getElem hle
      have hfx : fs[j]? = some (fs[j]'(by omega)) := List.getElem?_eq_getElem (by omega)
      have hc := ih j _ _ hx hfx t ht
      rw [List.drop_eq_getElem_cons (by omega : j < fs.length), List.foldl_cons] at hrun
      have ha := (hadd (fs[j]'(by omega)) (List.getElem_mem _)).len t ht
      generalize (fs[j]'(by omega)) t = u at hc hrun ha
      generalize xl[j] = kd at hx hc
      repeat' (first
 | refine gCt rfl ?_
 | ((first
 | ((first | refine gR fp73 ?_); intro K hK)
 | refine cAl (hc) rfl rfl rfl ?_
 | (refine ab ?_ ?_ <;> intro hb <;> (try simp only [bls] at hb) <;> (try simp only [hb]))
 | refine gRe [] [.tmp 8] rfl rfl ?_) <;> (try simp only [go_sem, simprocAttr, f4, f5, f6, hx, Option.some.injEq, forall_eq']))
 | (refine hK _ _ ?_; clear hK K; simp only [go_sem, simprocAttr])
 | refine gCd ?_ | refine brT ?_ | refine brF ?_
 | (refine brS ?_ ?_ <;> intro hc <;> (try simp only [bls] at hc) <;> (try simp only [hc, bls]))
 | intro _ | refine And.intro ?_ ?_)
      all_goals try exact zsd
      refine ae.bh [9] ?_
      simp only [ao, au, go_sem, simprocAttr]
      refine ae.prune [0, 2, 3, 8, 9, 10] ?_; simp only [go_sem, simprocAttr]
      exact (ih2 (j + 1, u) ⟨by simp only; omega, ha, hrun⟩ (by simp only; omega)).cast rfl rfl
     ·have f4 : ¬ (j : Int) < xl.length := by omega
      rw [List.drop_eq_nil_of_le (by omega)] at hrun
      simp only [List.foldl_nil] at hrun
      subst hrun
      clear ih2
      repeat' (first
 | refine gCt rfl ?_
 | ((first
 | ((first | refine gR fp73 ?_); intro K hK)
 | (refine ab ?_ ?_ <;> intro hb <;> (try simp only [bls] at hb) <;> (try simp only [hb]))
 | refine gRe [] [.tmp 8] rfl rfl ?_) <;> (try simp only [go_sem, simprocAttr, f4]))
 | (refine hK _ _ ?_; clear hK K; simp only [go_sem, simprocAttr])
 | refine gCd ?_ | refine brT ?_ | refine brF ?_
 | (refine brS ?_ ?_ <;> intro hc <;> (try simp only [bls] at hc) <;> (try simp only [hc, bls]))
 | intro _ | refine And.intro ?_ ?_)
      all_goals try exact zsd
    ·rw [if_neg h3]
     by_cases h4 : xo = 4
     ·rw [if_pos h4]
      obtain ⟨S, hS⟩ : ∃ S, S = fs.foldl (fun o f => orB o (f s)) (aY (w.size + 1)) := ⟨_, rfl⟩
      rw [← hS]
      have hpl := od w hw
      have e15 : (bw (aY (w.size + 1))).take (w.size + 1) = bw (aY (w.size + 1)) := List.take_of_length_le (by simp [bZ])
      have e16 : (aY (w.size + 1)).length = w.size + 1 := bZ _
      refine ah.enter Tryz.func73 rfl (by kernel_rfl) (Nat.le_of_ble_eq_true rfl) ?_; simp only [ai, Nat.reduceAdd]
      repeat' (first
 | refine gCt rfl ?_
 | ((first
 | (refine ae.at 12 ?_; (refine ae.freeze 11 rfl ?_; simp only [rfT, rfS, rfO, rf, rf1, e15, e16, Nat.le_refl, true_and, go_sem, simprocAttr]); refine gR fp73 ?_; intro K hK)
 | ((first | refine gR fp73 ?_); intro K hK)
 | (refine ah.use [(6, 11)] [] rfl hpl rfl rfl rfl ?_; rintro _ _ ⟨h6, rfl, rfl⟩; refine ⟨.inl rfl, rfl, ?_⟩; simp only [bk, bk2, bk1, bkS, bkO, bC, aH, go_sem, simprocAttr])
 | (refine ab ?_ ?_ <;> intro hb <;> (try simp only [bls] at hb) <;> (try simp only [hb]))
 | refine gRe [] [.tmp 8] rfl rfl ?_) <;> (try simp only [go_sem, simprocAttr, e1, e2, h1, h2, h3, eq_true h4, Option.some.injEq, forall_eq']))
 | (refine hK _ _ ?_; clear hK K; simp only [go_sem, simprocAttr])
 | refine gCd ?_ | refine brT ?_ | refine brF ?_
 | (refine brS ?_ ?_ <;> intro hc <;> (try simp only [bls] at hc) <;> (try simp only [hc, bls]))
 | intro _ | refine And.intro ?_ ?_)
      all_goals try exact zsd
      rename_i h9
      refine ae.prune [0, 2, 3, 8, 9, 11, 12] ?_; simp only [go_sem, simprocAttr]
      refine ae.al (α := Nat × List Bool) (fun z => ([(0, .sl q f (nodes ns)), (2, .str w), (3, .sl true false (bw s)), (8, .sl true true []), (9, .bx 9 h9 0), (11, .sl true false (bw z.2)), (12, .int .i64 z.1)], [(9, h9, .box [.int .u8 xo, .int .u64 xa, .int .u64 xb, .int .u64 xc, .int .u64 xd, .sl true false (ints xl), .int .i64 xlo, .int .i64 xhi, .str xn])]))
       (fun z => z.1 ≤ xl.length ∧ z.2.length = w.size + 1 ∧ S = (fs.drop z.1).foldl (fun o f => orB o (f s)) z.2) (fun z => xl.length - z.1) (0, aY (w.size + 1)) ⟨Nat.zero_le _, bZ _, hS⟩ rfl ?_
      rintro ⟨j, t⟩ ⟨hj, ht, hrun⟩ ih2
      simp only at hj ht hrun ih2 ⊢
      by_cases hle : j < xl.length
      ·have f4 : (j : Int) < xl.length := by omega
       have f5 : (0 : Int) ≤ j := by omega
       have f6 : (j : Int) + 1 = ((j + 1 : Nat) : Int) := by omega
       have hx : xl[j]? = some xl[j] := List.getElem?_eq_getElem hle
       have hfx : fs[j]? = some (fs[j]'(by omega)) := List.getElem?_eq_getElem (by omega)
       have hc := ih j _ _ hx hfx s hs
       rw [List.drop_eq_getElem_cons (by omega : j < fs.length), List.foldl_cons] at hrun
       have ha := (hadd (fs[j]'(by omega)) (List.getElem_mem _)).len s hs
       generalize (fs[j]'(by omega)) s = u at hc hrun ha
       generalize xl[j] = kd at hx hc
       have ho := EE true false true false t u (by omega) (by omega)
       have hol := bB ht ha
       repeat' (first
 | refine gCt rfl ?_
 | ((first
 | ((first | refine gR fp73 ?_); intro K hK)
 | refine cAl (hc) rfl rfl rfl ?_
 | refine cAl (ho) rfl rfl rfl ?_
 | (refine ab ?_ ?_ <;> intro hb <;> (try simp only [bls] at hb) <;> (try simp only [hb]))
 | refine gRe [] [.tmp 8] rfl rfl ?_) <;> (try simp only [go_sem, simprocAttr, f4, f5, f6, hx, Option.some.injEq, forall_eq']))
 | (refine hK _ _ ?_; clear hK K; simp only [go_sem, simprocAttr])
 | refine gCd ?_ | refine brT ?_ | refine brF ?_
 | (refine brS ?_ ?_ <;> intro hc <;> (try simp only [bls] at hc) <;> (try simp only [hc, bls]))
 | intro _ | refine And.intro ?_ ?_)
       all_goals try exact zsd
       refine ae.bh [9] ?_
       simp only [ao, au, go_sem, simprocAttr]
       refine ae.prune [0, 2, 3, 8, 9, 11, 12] ?_; simp only [go_sem, simprocAttr]
       exact (ih2 (j + 1, orB t u) ⟨by simp only; omega, hol, hrun⟩ (by simp only; omega)).cast rfl rfl
      ·have f4 : ¬ (j : Int) < xl.length := by omega
       rw [List.drop_eq_nil_of_le (by omega)] at hrun
       simp only [List.foldl_nil] at hrun
       subst hrun
       clear ih2
       repeat' (first
 | refine gCt rfl ?_
 | ((first
 | ((first | refine gR fp73 ?_); intro K hK)
 | (refine ab ?_ ?_ <;> intro hb <;> (try simp only [bls] at hb) <;> (try simp only [hb]))
 | refine gRe [] [.tmp 8] rfl rfl ?_) <;> (try simp only [go_sem, simprocAttr, f4]))
 | (refine hK _ _ ?_; clear hK K; simp only [go_sem, simprocAttr])
 | refine gCd ?_ | refine brT ?_ | refine brF ?_
 | (refine brS ?_ ?_ <;> intro hc <;> (try simp only [bls] at hc) <;> (try simp only [hc, bls]))
 | intro _ | refine And.intro ?_ ?_)
       all_goals try exact zsd
     ·rw [if_neg h4]
      by_cases h5 : xo = 5
      ·rw [if_pos h5]
       obtain ⟨q1, _, _, q4, q5, q6⟩ := gJ hshape h5
       simp only at q1 q4 q5 q6
       obtain ⟨kd, hkd⟩ : ∃ kd, xl = [kd] := List.length_eq_one_iff.1 q1
       obtain ⟨g, hg⟩ : ∃ g, fs = [g] := List.length_eq_one_iff.1 (by omega)
       have hc := JB (q := q) (f := f) (ns := ns) hw ⟨xo, ⟨xa, xb, xc, xd⟩, xl, xlo, xhi, xn⟩ kd g hkd ⟨q4, q5⟩ (by simp only; omega) (ih 0 kd g (by rw [hkd]; rfl) (by rw [hg]; rfl)) (hadd g (by rw [hg]; simp)) s hs
       rw [hg, List.headD_cons]
       simp only [Node.cells, Node.eL] at hc
       clear hkd hg
       refine ah.enter Tryz.func73 rfl (by kernel_rfl) (Nat.le_of_ble_eq_true rfl) ?_; simp only [ai, Nat.reduceAdd]
       repeat' (first
 | refine gCt rfl ?_
 | ((first
 | ((first | refine gR fp73 ?_); intro K hK)
 | refine cAl (hc) rfl rfl rfl ?_
 | (refine ab ?_ ?_ <;> intro hb <;> (try simp only [bls] at hb) <;> (try simp only [hb]))
 | refine gRe [] [.tmp 8] rfl rfl ?_) <;> (try simp only [go_sem, simprocAttr, e1, e2, h1, h2, h3, h4, eq_true h5, Option.some.injEq, forall_eq']))
 | (refine hK _ _ ?_; clear hK K; simp only [go_sem, simprocAttr])
 | refine gCd ?_ | refine brT ?_ | refine brF ?_
 | (refine brS ?_ ?_ <;> intro hc <;> (try simp only [bls] at hc) <;> (try simp only [hc, bls]))
 | intro _ | refine And.intro ?_ ?_)
       all_goals try exact zsd
      ·rw [if_neg h5]
       refine ah.enter Tryz.func73 rfl (by kernel_rfl) (Nat.le_of_ble_eq_true rfl) ?_; simp only [ai, Nat.reduceAdd]
       repeat' (first
 | refine gCt rfl ?_
 | ((first
 | ((first | refine gR fp73 ?_); intro K hK)
 | (refine ab ?_ ?_ <;> intro hb <;> (try simp only [bls] at hb) <;> (try simp only [hb]))
 | refine gRe [] [.tmp 8] rfl rfl ?_) <;> (try simp only [go_sem, simprocAttr, e1, e2, h1, h2, h3, h4, h5, Option.some.injEq, forall_eq']))
 | (refine hK _ _ ?_; clear hK K; simp only [go_sem, simprocAttr])
 | refine gCd ?_ | refine brT ?_ | refine brF ?_
 | (refine brS ?_ ?_ <;> intro hc <;> (try simp only [bls] at hc) <;> (try simp only [hc, bls]))
 | intro _ | refine And.intro ?_ ?_)
       all_goals try exact zsd
end Go.Rad
namespace Go.Rad
open Go Go.Proofs
set_option linter.all false
set_option maxRecDepth 20000
set_option maxHeartbeats 4000000
theorem Dz (f : Bool) (l : List Node) (hlen : l.length ≤ maxLen) (hl : ∀ n ∈ l, n.l.length ≤ maxLen ∧ n.name.size ≤ maxLen) : ah Tryz.prog 35 [.sl true f (nodes l)] [] fun r s => r = .bool (cy l) ∧ s = [] := by
 unfold maxLen at hlen
 have hr := ku true f l hl
 refine ah.enter Tryz.func35 rfl (by kernel_rfl) (Nat.le_of_ble_eq_true rfl) ?_; simp only [ai, Nat.reduceAdd]
 repeat' (first
 | refine gCt rfl ?_
 | ((first
 | ((first | refine gR fp35 ?_); intro K hK)
 | (refine ab ?_ ?_ <;> intro hb <;> (try simp only [bls] at hb) <;> (try simp only [hb]))
 | refine gRe [] [.tmp 2] rfl rfl ?_) <;> (try simp only [go_sem, simprocAttr]))
 | (refine hK _ _ ?_; clear hK K; simp only [go_sem, simprocAttr])
 | refine gCd ?_ | refine brT ?_ | refine brF ?_
 | (refine brS ?_ ?_ <;> intro hc <;> (try simp only [bls] at hc) <;> (try simp only [hc, bls]))
 | intro _ | refine And.intro ?_ ?_)
 refine ae.prune [0, 2, 3] ?_; simp only [go_sem, simprocAttr]
 refine ae.al (α := Nat) (fun i => ([(0, .sl true f (nodes l)), (2, .bool false), (3, .int .i64 i)], [])) (fun i => i ≤ l.length ∧ (l.take i).all iz = true) (fun i => l.length - i) 0 ⟨Nat.zero_le _, rfl⟩ rfl ?_
 rintro i ⟨hi, hall⟩ ih
 simp only
 by_cases hle : i < l.length
 ·have e4 : (i : Int) < l.length := by omega
  have e5 : (0 : Int) ≤ i := by omega
  have hx : l[i]? = some l[i] := List.getElem?_eq_getElem hle
  generalize l[i] = x at hx
  by_cases h6 : x.op = 6
  ·have hno : cy l = false := by
    have : l.all iz = false := List.all_eq_false.2 ⟨x, List.mem_of_getElem? hx, by simp [iz, h6]⟩
    simp [cy, this]
   rw [hno]
   obtain ⟨xo, ⟨xa, xb, xc, xd⟩, xl, xlo, xhi, xn⟩ := x
   simp only at h6
   subst h6
   repeat' (first
 | refine gCt rfl ?_
 | ((first
 | ((first | refine gR fp35 ?_); intro K hK)
 | (refine ab ?_ ?_ <;> intro hb <;> (try simp only [bls] at hb) <;> (try simp only [hb]))
 | refine gRe [] [.tmp 2] rfl rfl ?_) <;> (try simp only [go_sem, simprocAttr, e4, e5, hx, Option.some.injEq, forall_eq']))
 | (refine hK _ _ ?_; clear hK K; simp only [go_sem, simprocAttr])
 | refine gCd ?_ | refine brT ?_ | refine brF ?_
 | (refine brS ?_ ?_ <;> intro hc <;> (try simp only [bls] at hc) <;> (try simp only [hc, bls]))
 | intro _ | refine And.intro ?_ ?_)
  ·have hyes : iz x = true := by simp [iz, h6]
   obtain ⟨xo, ⟨xa, xb, xc, xd⟩, xl, xlo, xhi, xn⟩ := x
   simp only at h6
   repeat' (first
 | refine gCt rfl ?_
 | ((first
 | ((first | refine gR fp35 ?_); intro K hK)
 | (refine ab ?_ ?_ <;> intro hb <;> (try simp only [bls] at hb) <;> (try simp only [hb]))
 | refine gRe [] [.tmp 2] rfl rfl ?_) <;> (try simp only [go_sem, simprocAttr, e4, e5, hx, h6, Option.some.injEq, forall_eq']))
 | (refine hK _ _ ?_; clear hK K; simp only [go_sem, simprocAttr])
 | refine gCd ?_ | refine brT ?_ | refine brF ?_
 | (refine brS ?_ ?_ <;> intro hc <;> (try simp only [bls] at hc) <;> (try simp only [hc, bls]))
 | intro _ | refine And.intro ?_ ?_)
   all_goals try exact zsd
   refine ae.prune [0, 2, 3] ?_; simp only [go_sem, simprocAttr]
   exact (ih (i + 1) ⟨by omega, by rw [take_one hx, List.all_append, hall]; simp [hyes]⟩ (by omega)).cast rfl rfl
 ·have e4 : ¬ (i : Int) < l.length := by omega
  rw [List.take_of_length_le (by omega)] at hall
  repeat' (first
 | refine gCt rfl ?_
 | ((first
 | ((first | refine gR fp35 ?_); intro K hK)
 | refine cAl (hr) rfl rfl rfl ?_
 | (refine ab ?_ ?_ <;> intro hb <;> (try simp only [bls] at hb) <;> (try simp only [hb]))
 | refine gRe [] [.tmp 2] rfl rfl ?_) <;> (try simp only [go_sem, simprocAttr, e4]))
 | (refine hK _ _ ?_; clear hK K; simp only [go_sem, simprocAttr])
 | refine gCd ?_ | refine brT ?_ | refine brF ?_
 | (refine brS ?_ ?_ <;> intro hc <;> (try simp only [bls] at hc) <;> (try simp only [hc, bls]))
 | intro _ | refine And.intro ?_ ?_)
  simp [cy, hall]
end Go.Rad
namespace Go.Rad
open Go Go.Proofs
set_option linter.all false
set_option maxRecDepth 20000
set_option maxHeartbeats 4000000
def lp (s : List Bool) : List Nat := (List.range s.length).filter fun i => s.getD i false
abbrev bP (s : List Bool) : List Int := (lp s).map fun (i : Nat) => (i : Int)
theorem iA (s : List Bool) : (bP s).length ≤ s.length := by
 rw [bP, List.length_map]
 refine Nat.le_trans (List.length_filter_le _ _) ?_
 simp
def bS (n i : Nat) : List Bool := (aY n).set i true
theorem cz (n i : Nat) : (bS n i).length = n := by simp [bS, aY]
theorem oy {w : ByteArray} {fo : Fo} (hd : fo.deg = 1) {s : List Bool} (hs : s.length = w.size + 1) : (kE w fo s).length = w.size + 1 := by
 have hl := ja w fo
 rw [hd] at hl
 unfold kE
 match h : sem w fo, hl with
 | [g], _ => exact (iZ w fo g (by rw [h]; simp)).len s hs
theorem uG {w : ByteArray} (hw : w.size ≤ 1000000) (f : Bool) (fo : Fo) (hd : fo.deg = 1) (hsh : fo.cO = true) (hz : fo.size ≤ 1024) (h6 : no6 fo = true) (fr : Nat) (hfr : fr ≤ w.size) :
  ah Tryz.prog 45 [.sl true f (nodes (fo.lay 0)), .str w, .int .i64 fr] [] fun r s => r = .sl true false (ints (bP (kE w fo (bS (w.size + 1) fr)))) ∧ s = [] := by
 have hp : cy (fo.lay 0) = true := (oe _).2 ⟨fo, hd, rfl, hsh, hz, h6⟩
 obtain ⟨n1, n2⟩ := lj hp
 have hpl := Dz f (fo.lay 0) (by unfold maxLen; omega) (fun n hn => (n1 n hn).symm)
 rw [hp] at hpl
 have hsub := Fo.wQ hd
 have hsl := ja w fo
 rw [hd] at hsl
 obtain ⟨g, hg⟩ : ∃ g, sem w fo = [g] := List.length_eq_one_iff.1 hsl
 have hcall := qK (q := true) (f := f) hw (by omega) fo _ hsub hsh (by omega) 0 _ g rfl (by rw [hg]; rfl) (bS (w.size + 1) fr) (cz _ _)
 have hel := oy hd (cz (w.size + 1) fr)
 have hsg : kE w fo (bS (w.size + 1) fr) = g (bS (w.size + 1) fr) := by rw [kE, hg]; rfl
 rw [← hsg] at hcall
 generalize kE w fo (bS (w.size + 1) fr) = E at hcall hel
 have hln : (fo.lay 0).length = fo.size := Fo.cT _ _
 have hsp := Fo.size_pos hd
 rw [← hln] at hcall
 generalize fo.lay 0 = l at hpl hcall hln
 clear hsub hg hsg hp n1 n2 hsl hsh h6
 have hpc := od w hw
 have e1 : ¬ (fr : Int) < 0 := by omega
 have e2 : ¬ (w.size : Int) < fr := by omega
 have e3 : (0 : Int) ≤ fr := by omega
 have e4 : (fr : Int) < ((w.size + 1 : Nat) : Int) := by omega
 have e5 : fr < (aY (w.size + 1)).length := by rw [bZ]; omega
 have e6 : (aY (w.size + 1))[fr]? = some false := by
  rw [List.getElem?_eq_getElem e5]; simp [aY]
 have e7 : (bw (aY (w.size + 1))).set fr [.bool true] = bw (bS (w.size + 1) fr) := by simp [bS, List.map_set]
 have e15 : (bw (bS (w.size + 1) fr)).take (w.size + 1) = bw (bS (w.size + 1) fr) := List.take_of_length_le (by simp [cz])
 have e16 := cz (w.size + 1) fr
 refine ah.enter Tryz.func45 rfl (by kernel_rfl) (Nat.le_of_ble_eq_true rfl) ?_; simp only [ai, Nat.reduceAdd]
 repeat' (first
 | (refine ae.at 5 ?_; (refine lX ?_))
 | refine gCt rfl ?_
 | ((first
 | ((first | refine gR fp45 ?_); intro K hK)
 | refine cAl (hpl) rfl rfl rfl ?_
 | refine cAl (hcall) rfl rfl rfl ?_
 | (refine ah.use [(6, 7)] [] rfl hpc rfl rfl rfl ?_; rintro _ _ ⟨h6, rfl, rfl⟩; refine ⟨.inl rfl, rfl, ?_⟩; simp only [bk, bk2, bk1, bkS, bkO, bC, aH, go_sem, simprocAttr])
 | (refine ab ?_ ?_ <;> intro hb <;> (try simp only [bls] at hb) <;> (try simp only [hb]))
 | refine gRe [] [.tmp 6] rfl rfl ?_) <;> (try simp only [go_sem, simprocAttr, e1, e2, e3, e4, e5, e6, Option.some.injEq, forall_eq']))
 | (refine hK _ _ ?_; clear hK K; simp only [go_sem, simprocAttr])
 | refine gCd ?_ | refine brT ?_ | refine brF ?_
 | (refine brS ?_ ?_ <;> intro hc <;> (try simp only [bls] at hc) <;> (try simp only [hc, bls]))
 | intro _ | refine And.intro ?_ ?_)
 all_goals try exact zsd
 rename_i z hz
 have hz2 : z = [.bool false] := by rw [List.getElem?_map, e6] at hz; exact (Option.some.inj hz).symm
 subst hz2
 refine lW ?_
 refine ae.Mz 7 (bw (bS (w.size + 1) fr)) rfl (by rw [← e7]; rfl) ?_
 simp only [go_sem, simprocAttr]
 refine ae.freeze 7 rfl ?_
 simp only [rfT, rfS, rfO, rf, rf1, e15, e16, List.length_map, Nat.le_refl, true_and, go_sem, simprocAttr]
 have e8 : (1 : Int) ≤ l.length := by omega
 repeat' (first
 | refine gCt rfl ?_
 | ((first
 | ((first | refine gR fp45 ?_); intro K hK)
 | refine cAl (hcall) rfl rfl rfl ?_
 | (refine ab ?_ ?_ <;> intro hb <;> (try simp only [bls] at hb) <;> (try simp only [hb]))
 | refine gRe [] [.tmp 6] rfl rfl ?_) <;> (try simp only [go_sem, simprocAttr, e8]))
 | (refine hK _ _ ?_; clear hK K; simp only [go_sem, simprocAttr])
 | refine gCd ?_ | refine brT ?_ | refine brF ?_
 | (refine brS ?_ ?_ <;> intro hc <;> (try simp only [bls] at hc) <;> (try simp only [hc, bls]))
 | intro _ | refine And.intro ?_ ?_)
 all_goals try exact zsd
 refine ae.jr 9 900 1 (by decide) rfl fun g9 => ?_
 simp only [go_sem, simprocAttr]
 refine ae.prune [6, 8, 9, 10] ?_; simp only [go_sem, simprocAttr]
 obtain ⟨PS, hPS⟩ : ∃ PS : Nat → List Nat, PS = fun i => (List.range i).filter fun j => E.getD j false := ⟨_, rfl⟩
 have hp0 : PS 0 = [] := by rw [hPS]; rfl
 have hp1 : ∀ i, PS (i + 1) = PS i ++ (if E.getD i false = true then [i] else []) := by
  intro i
  rw [hPS]
  simp only [List.range_succ, List.filter_append]
  cases hb : E.getD i false <;> (rw [List.getD_eq_getElem?_getD] at hb; simp [hb])
 have hpE : lp E = PS E.length := by rw [hPS]; rfl
 have hpl2 : ∀ i, (PS i).length ≤ i := fun i => by
  rw [hPS]
  refine Nat.le_trans (List.length_filter_le _ _) ?_
  simp
 clear hPS
 rw [show bP E = (PS E.length).map fun (i : Nat) => (i : Int) from by rw [bP, hpE]]
 refine ae.al (α := Nat × Nat) (fun x => ([(6, .sl true true []), (8, .sl true false (bw E)), (9, .osl 900 x.2 0 (PS x.1).length), (10, .int .i64 x.1)], [(900, x.2, .row 1 (ints ((PS x.1).map fun (i : Nat) => (i : Int))))])) (fun x => x.1 ≤ E.length) (fun x => E.length - x.1) (0, g9) (Nat.zero_le _) (by simp only [hp0]; rfl) ?_
 rintro ⟨i, g⟩ hi ih
 simp only at hi ih ⊢
 have hl9 := hpl2 i
 by_cases hle : i < E.length
 ·have f4 : (i : Int) < E.length := by omega
  have f5 : (0 : Int) ≤ i := by omega
  have f6 : (i : Int) + 1 = ((i + 1 : Nat) : Int) := by omega
  have hE : E[i]? = some E[i] := List.getElem?_eq_getElem hle
  have hgd : E.getD i false = E[i] := by simp [List.getD, hle]
  have h1 := hp1 i
  rw [hgd] at h1
  generalize E[i] = x at hE h1
  cases x
  ·simp only [Bool.false_eq_true, if_false, List.append_nil] at h1
   repeat' (first
 | refine gCt rfl ?_
 | ((first
 | ((first | refine gR fp45 ?_); intro K hK)
 | (refine ab ?_ ?_ <;> intro hb <;> (try simp only [bls] at hb) <;> (try simp only [hb]))
 | refine gRe [] [.tmp 6] rfl rfl ?_) <;> (try simp only [go_sem, simprocAttr, f4, f5, f6, hE, Option.some.injEq, forall_eq']))
 | (refine hK _ _ ?_; clear hK K; simp only [go_sem, simprocAttr])
 | refine gCd ?_ | refine brT ?_ | refine brF ?_
 | (refine brS ?_ ?_ <;> intro hc <;> (try simp only [bls] at hc) <;> (try simp only [hc, bls]))
 | intro _ | refine And.intro ?_ ?_)
   all_goals try exact zsd
   refine ae.bh [900] ?_
   simp only [ao, au, go_sem, simprocAttr]
   refine ae.prune [6, 8, 9, 10] ?_; simp only [go_sem, simprocAttr]
   exact ae.cast (ih (i + 1, g) (by simp only; omega) (by simp only; omega)) (by simp only [h1]) (by simp only [h1])
  ·simp only [if_true] at h1
   repeat' (first
 | refine gCt rfl ?_
 | ((first
 | ((first | refine gRg [48] fp45 ?_); intro K hK)
 | (refine ab ?_ ?_ <;> intro hb <;> (try simp only [bls] at hb) <;> (try simp only [hb]))
 | refine gRe [] [.tmp 6] rfl rfl ?_) <;> (try simp only [go_sem, simprocAttr, f4, f5, f6, hE, Option.some.injEq, forall_eq']))
 | (refine hK _ _ ?_; clear hK K; simp only [go_sem, simprocAttr])
 | refine gCd ?_ | refine brT ?_ | refine brF ?_
 | (refine brS ?_ ?_ <;> intro hc <;> (try simp only [bls] at hc) <;> (try simp only [hc, bls]))
 | intro _ | refine And.intro ?_ ?_)
   all_goals try exact zsd
   rename_i h'
   refine ae.bh [900] ?_
   simp only [ao, au, go_sem, simprocAttr]
   refine ae.prune [6, 8, 9, 10] ?_; simp only [go_sem, simprocAttr]
   exact ae.cast (ih (i + 1, h') (by simp only; omega) (by simp only; omega)) (by simp only [h1]; simp) (by simp only [h1]; simp)
 ·have f4 : ¬ (i : Int) < E.length := by omega
  have hin : i = E.length := by omega
  rw [hin]
  rw [hin] at f4 ih
  clear ih
  have g15 : (ints ((PS E.length).map fun (i : Nat) => (i : Int))).take (PS E.length).length = ints ((PS E.length).map fun (i : Nat) => (i : Int)) := List.take_of_length_le (by simp)
  repeat' (first
 | refine gCt rfl ?_
 | ((first
 | (refine ae.at 12 ?_; (refine ae.freeze 900 rfl ?_; simp only [rfT, rfS, rfO, rf, rf1, g15, List.length_map, Nat.le_refl, true_and, go_sem, simprocAttr]); refine gR fp45 ?_; intro K hK)
 | ((first | refine gR fp45 ?_); intro K hK)
 | (refine ab ?_ ?_ <;> intro hb <;> (try simp only [bls] at hb) <;> (try simp only [hb]))
 | refine gRe [] [.tmp 6] rfl rfl ?_) <;> (try simp only [go_sem, simprocAttr, f4]))
 | (refine hK _ _ ?_; clear hK K; simp only [go_sem, simprocAttr])
 | refine gCd ?_ | refine brT ?_ | refine brF ?_
 | (refine brS ?_ ?_ <;> intro hc <;> (try simp only [bls] at hc) <;> (try simp only [hc, bls]))
 | intro _ | refine And.intro ?_ ?_)
  all_goals try exact zsd
end Go.Rad
namespace Go.Proofs
open Go.Shelf
def Tryz.s7 : Go.Shelf.Ren := ⟨fun | 189 => 148 | 125 => 170 | 257 => 169 | 128 => 192 | 129 => 193 | 294 => 183 | 295 => 184 | 296 => 185 | 297 => 186 | 298 => 187 | 299 => 188 | 216 => 189 | 300 => 190 | 301 => 191 | 328 => 199 | 329 => 200 | 330 => 201 | 331 => 202 | 332 => 203 | 215 => 204 | 343 => 207 | n => n, fun | 28 => 39 | 3 => 3 | 46 => 200 | 0 => 0 | 51 => 223 | 53 => 44 | 4 => 4 | 183 => 231 | 182 => 230 | 131 => 54 | 5 => 5 | 9 => 9 | 218 => 238 | 222 => 242 | 228 => 247 | 229 => 184 | n => n, fun | n => n⟩
theorem Tryz.wi : Go.Proofs.Lays.n189 Tryz.prog Tryz.s7 := {
 mixed := by kernel_rfl
 f125 := Tryz.func170.trans (congrArg some (by kernel_rfl))
 f128 := Tryz.func192.trans (congrArg some (by kernel_rfl))
 f129 := Tryz.func193.trans (congrArg some (by kernel_rfl))
 f189 := Tryz.func148.trans (congrArg some (by kernel_rfl))
 f215 := Tryz.func204.trans (congrArg some (by kernel_rfl))
 f216 := Tryz.func189.trans (congrArg some (by kernel_rfl))
 f257 := Tryz.func169.trans (congrArg some (by kernel_rfl))
 f294 := Tryz.func183.trans (congrArg some (by kernel_rfl))
 f295 := Tryz.func184.trans (congrArg some (by kernel_rfl))
 f296 := Tryz.func185.trans (congrArg some (by kernel_rfl))
 f297 := Tryz.func186.trans (congrArg some (by kernel_rfl))
 f298 := Tryz.func187.trans (congrArg some (by kernel_rfl))
 f299 := Tryz.func188.trans (congrArg some (by kernel_rfl))
 f300 := Tryz.func190.trans (congrArg some (by kernel_rfl))
 f301 := Tryz.func191.trans (congrArg some (by kernel_rfl))
 f328 := Tryz.func199.trans (congrArg some (by kernel_rfl))
 f329 := Tryz.func200.trans (congrArg some (by kernel_rfl))
 f330 := Tryz.func201.trans (congrArg some (by kernel_rfl))
 f331 := Tryz.func202.trans (congrArg some (by kernel_rfl))
 f332 := Tryz.func203.trans (congrArg some (by kernel_rfl))
 f343 := Tryz.func207.trans (congrArg some (by kernel_rfl))
 t0 := Tryz.underlying0
 a0 := Tryz.isAgg0
 z0 := Tryz.sizeOf0
 v0 := Tryz.zeroValue0
 t3 := Tryz.underlying3
 a3 := Tryz.isAgg3
 z3 := Tryz.sizeOf3
 v3 := Tryz.zeroValue3
 t4 := Tryz.underlying4
 a4 := Tryz.isAgg4
 z4 := Tryz.sizeOf4
 v4 := Tryz.zeroValue4
 t5 := Tryz.underlying5
 a5 := Tryz.isAgg5
 z5 := Tryz.sizeOf5
 v5 := Tryz.zeroValue5
 t9 := Tryz.underlying9
 a9 := Tryz.isAgg9
 z9 := Tryz.sizeOf9
 v9 := Tryz.zeroValue9
 t28 := Tryz.underlying39
 a28 := Tryz.isAgg39
 z28 := Tryz.sizeOf39
 v28 := Tryz.zeroValue39
 t46 := Tryz.underlying200
 a46 := Tryz.isAgg200
 z46 := Tryz.sizeOf200
 v46 := Tryz.zeroValue200
 t51 := Tryz.underlying223
 a51 := Tryz.isAgg223
 z51 := Tryz.sizeOf223
 v51 := Tryz.zeroValue223
 t53 := Tryz.underlying44
 a53 := Tryz.isAgg44
 z53 := Tryz.sizeOf44
 v53 := Tryz.zeroValue44
 t131 := Tryz.underlying54
 a131 := Tryz.isAgg54
 z131 := Tryz.sizeOf54
 v131 := Tryz.zeroValue54
 t182 := Tryz.underlying230
 a182 := Tryz.isAgg230
 z182 := Tryz.sizeOf230
 v182 := Tryz.zeroValue230
 t183 := Tryz.underlying231
 a183 := Tryz.isAgg231
 z183 := Tryz.sizeOf231
 v183 := Tryz.zeroValue231
 t218 := Tryz.underlying238
 a218 := Tryz.isAgg238
 z218 := Tryz.sizeOf238
 v218 := Tryz.zeroValue238
 t222 := Tryz.underlying242
 a222 := Tryz.isAgg242
 z222 := Tryz.sizeOf242
 v222 := Tryz.zeroValue242
 t228 := Tryz.underlying247
 a228 := Tryz.isAgg247
 z228 := Tryz.sizeOf247
 v228 := Tryz.zeroValue247
 t229 := Tryz.underlying184
 a229 := Tryz.isAgg184
 z229 := Tryz.sizeOf184
 v229 := Tryz.zeroValue184 }
open Go.Sort Go.RowKit in
theorem Tryz.slices_Sort_int (blk off cap : Nat) (zs : List Int) (w : World) (hH : Holds (Value.int .i64) w blk off zs.toArray) (hblk : blk < w.heap.size) (hsz : zs.length < 4611686018427387904) :
  Calls Tryz.prog 148 #[.slice (some ⟨blk, off, none⟩) zs.length cap] w fun e w' =>
   e = .returned (.tuple #[]) ∧ ∃ n os, w' = grow (putRow (Value.int .i64) (Sort.ahead w n) blk off (zs.mergeSort fun x y => decide (x ≤ y)).toArray) os := Any.slices_Sort_int Tryz.wi blk off cap zs w hH hblk hsz
open Go.RowKit Go.Sort in
theorem Tryz.slices_Sort_int_none (p : Option Addr) (cap : Nat) (w : World) :
  Calls Tryz.prog 148 #[.slice p 0 cap] w fun e w' => e = .returned (.tuple #[]) ∧ w' = w := Any.slices_Sort_int_none Tryz.wi p cap w
def Tryz.pf : Go.Shelf.Ren := ⟨fun | 20 => 149 | n => n, fun | 22 => 39 | 3 => 3 | 4 => 4 | 0 => 0 | n => n, fun | n => n⟩
theorem Tryz.pQ : Go.Proofs.Lays2.n20 Tryz.prog Tryz.pf := {
 mixed := by kernel_rfl
 f20 := Tryz.func149.trans (congrArg some (by kernel_rfl))
 t0 := Tryz.underlying0
 a0 := Tryz.isAgg0
 z0 := Tryz.sizeOf0
 v0 := Tryz.zeroValue0
 t3 := Tryz.underlying3
 a3 := Tryz.isAgg3
 z3 := Tryz.sizeOf3
 v3 := Tryz.zeroValue3
 t4 := Tryz.underlying4
 a4 := Tryz.isAgg4
 z4 := Tryz.sizeOf4
 v4 := Tryz.zeroValue4
 t22 := Tryz.underlying39
 a22 := Tryz.isAgg39
 z22 := Tryz.sizeOf39
 v22 := Tryz.zeroValue39
 i3 := by kernel_rfl }
open Go.RowKit Go.Lib Go.Sort in
theorem Tryz.slices_Compact_int (blk off cap : Nat) (zs : List Int) (w : World) (hH : Holds (Value.int .i64) w blk off zs.toArray) (hsz : zs.length ≤ 9223372036854775807) (hcap : zs.length ≤ cap) :
  Calls Tryz.prog 149 #[.slice (some ⟨blk, off, none⟩) zs.length cap] w fun e w' => e = .returned (.slice (some ⟨blk, off, none⟩) (Lib.compact zs).length cap) ∧ ∃ q, w' = putRow (Value.int .i64) (Sort.ahead w q) blk off (Lib.compact zs ++ List.replicate (zs.length - (Lib.compact zs).length) 0).toArray := Any.slices_Compact_int Tryz.pQ blk off cap zs w hH hsz hcap
open Go.RowKit Go.Lib Go.Sort in
theorem Tryz.slices_Compact_int_empty (a : Option Addr) (cap : Nat) (w : World) :
  Calls Tryz.prog 149 #[.slice a 0 cap] w fun e w' => e = .returned (.slice a 0 cap) ∧ w' = w := Any.slices_Compact_int_empty Tryz.pQ a cap w
def Tryz.s6 : Go.Shelf.Ren := ⟨fun | 111 => 108 | n => n, fun | 28 => 39 | 3 => 3 | 4 => 4 | 0 => 0 | n => n, fun | n => n⟩
theorem Tryz.qZ : Go.Proofs.Lays.n111 Tryz.prog Tryz.s6 := {
 mixed := by kernel_rfl
 f111 := Tryz.func108.trans (congrArg some (by kernel_rfl))
 t0 := Tryz.underlying0
 a0 := Tryz.isAgg0
 z0 := Tryz.sizeOf0
 v0 := Tryz.zeroValue0
 t3 := Tryz.underlying3
 a3 := Tryz.isAgg3
 z3 := Tryz.sizeOf3
 v3 := Tryz.zeroValue3
 t4 := Tryz.underlying4
 a4 := Tryz.isAgg4
 z4 := Tryz.sizeOf4
 v4 := Tryz.zeroValue4
 t28 := Tryz.underlying39
 a28 := Tryz.isAgg39
 z28 := Tryz.sizeOf39
 v28 := Tryz.zeroValue39 }
open Go.RowKit Go.Lib in
theorem Tryz.slices_Equal_int (b1 o1 n c b2 o2 m d : Nat) (xs ys : List Int) (w : World) (hx : n ≤ xs.length) (hy : m ≤ ys.length) (hbig : n ≤ 9223372036854775807) (hbig2 : m ≤ 9223372036854775807) (hc1 : ∀ j, j < xs.length → w.cell? ⟨b1, o1 + j, none⟩ = some (.int .i64 (xs.getD j 0))) (hc2 : ∀ j, j < ys.length → w.cell? ⟨b2, o2 + j, none⟩ = some (.int .i64 (ys.getD j 0))) :
  Calls Tryz.prog 108 #[.slice (some ⟨b1, o1, none⟩) n c, .slice (some ⟨b2, o2, none⟩) m d] w fun e w' => e = .returned (.bool (xs.take n == ys.take m)) ∧ ∃ q, w' = w.drewN q := Any.slices_Equal_int Tryz.qZ b1 o1 n c b2 o2 m d xs ys w hx hy hbig hbig2 hc1 hc2
open Go.RowKit Go.Lib in
theorem Tryz.slices_Equal_int_empty (a1 a2 : Option Addr) (c m d : Nat) (w : World) (hbig2 : m ≤ 9223372036854775807) :
  Calls Tryz.prog 108 #[.slice a1 0 c, .slice a2 m d] w fun e w' => e = .returned (.bool (decide (m = 0))) ∧ w' = w := Any.slices_Equal_int_empty Tryz.qZ a1 a2 c m d w hbig2
open Go.RowKit Go.Lib in
theorem Tryz.slices_Equal_int_lens (a1 a2 : Option Addr) (n c m d : Nat) (w : World) (hnm : n ≠ m) :
  Calls Tryz.prog 108 #[.slice a1 n c, .slice a2 m d] w fun e w' => e = .returned (.bool false) ∧ w' = w := Any.slices_Equal_int_lens Tryz.qZ a1 a2 n c m d w hnm
end Go.Proofs
namespace Go.Rad
open Go Go.Proofs
set_option linter.all false
set_option maxRecDepth 20000
set_option maxHeartbeats 4000000
def lsV (ls : List (Bool × Bool × List Int)) : List (List aa) := ls.map fun x => [.sl x.1 x.2.1 (ints x.2.2)]
theorem C9 (ls : List (Bool × Bool × List Int)) : (lsV ls).length = ls.length := by simp [lsV]
def cD (ls : List (Bool × Bool × List Int)) : List Int := ls.flatMap (·.2.2)
theorem sA {ls : List (Bool × Bool × List Int)} {i : Nat} {q f : Bool} {l : List Int} (h : ls[i]? = some (q, f, l)) : cD (ls.take (i + 1)) = cD (ls.take i) ++ l ∧ (cD (ls.take (i + 1))).length ≤ (cD ls).length := by
 have h1 : cD (ls.take (i + 1)) = cD (ls.take i) ++ l := by rw [take_one h]; simp [cD]
 refine ⟨h1, ?_⟩
 have : cD ls = cD (ls.take (i + 1)) ++ cD (ls.drop (i + 1)) := by rw [cD, cD, cD, ← List.flatMap_append, List.take_append_drop]
 rw [this, List.length_append]; omega
theorem zo (hG : jS Tryz.prog 175) (ls : List (Bool × Bool × List Int)) (q f : Bool) (hn : ls.length ≤ 1000) (hb : (cD ls).length ≤ 100000000) : ah Tryz.prog 159 [.sl q f (lsV ls)] [] fun r s => ∃ g, r = .osl 24 g 0 (cD ls).length ∧ s = [(24, (g, .row 1 (ints (cD ls))))] := by
 have hlen := C9 ls
 have hgr : ah Tryz.prog 175 [.sl true true [], .int .i64 ((cD ls).length : Nat)] [] fun r s => ∃ g, r = .osl 1000 g 0 0 ∧ s = [(1000, (g, .row 1 []))] := ah.CE ⟨_, Tryz.func175, by kernel_rfl, rfl⟩ hG 1000 (cD ls).length (by omega)
 have e0 : ([] : List (List aa)) = ints [] := rfl
 refine ah.enter Tryz.func159 rfl (by kernel_rfl) (Nat.le_of_ble_eq_true rfl) ?_; simp only [ai, Nat.reduceAdd]
 repeat' (first
 | refine gCt rfl ?_
 | ((first
 | ((first | refine gR fp159 ?_); intro K hK)
 | (refine ab ?_ ?_ <;> intro hb <;> (try simp only [bls] at hb) <;> (try simp only [hb]))
 | refine gRe [] [.tmp 2] rfl rfl ?_) <;> (try simp only [go_sem, simprocAttr, hlen]))
 | (refine hK _ _ ?_; clear hK K; simp only [go_sem, simprocAttr])
 | refine gCd ?_ | refine brT ?_ | refine brF ?_
 | (refine brS ?_ ?_ <;> intro hc <;> (try simp only [bls] at hc) <;> (try simp only [hc, bls]))
 | intro _ | refine And.intro ?_ ?_)
 all_goals try exact zsd
 refine ae.prune [0, 2, 3, 9, 10, 11] ?_; simp only [go_sem, simprocAttr]
 refine ae.al (α := Nat) (fun i => ([(0, .sl q f (lsV ls)), (2, .sl true true []), (3, .int .i64 (cD (ls.take i)).length), (9, .sl q f (lsV ls)), (10, .int .i64 ls.length), (11, .int .i64 i)], [])) (fun i => i ≤ ls.length) (fun i => ls.length - i) 0 (Nat.zero_le _) (by simp [cD]) ?_
 rintro i hi ih
 simp only at hi ih ⊢
 by_cases hle : i < ls.length
 ·have e4 : (i : Int) < ls.length := by omega
  have e5 : (0 : Int) ≤ i := by omega
  have e7 : (i : Int) + 1 = ((i + 1 : Nat) : Int) := by omega
  obtain ⟨⟨q1, f1, l1⟩, hx⟩ : ∃ x, ls[i]? = some x := ⟨_, List.getElem?_eq_getElem hle⟩
  have hv : (lsV ls)[i]? = some [.sl q1 f1 (ints l1)] := by simp [lsV, hx]
  obtain ⟨hc, hs⟩ := sA hx
  have e8 : ((cD (ls.take i)).length : Int) + (l1.length : Int) = ((cD (ls.take (i + 1))).length : Int) := by rw [hc]; simp
  have e9 : ¬ ((cD (ls.take (i + 1))).length : Int) < 0 := by omega
  have e10 : (ints l1).length = l1.length := by simp
  repeat' (first
 | refine gCt rfl ?_
 | ((first
 | ((first | refine gR fp159 ?_); intro K hK)
 | (refine ab ?_ ?_ <;> intro hb <;> (try simp only [bls] at hb) <;> (try simp only [hb]))
 | refine gRe [] [.tmp 2] rfl rfl ?_) <;> (try simp only [go_sem, simprocAttr, hlen, e4, e5, e7, e8, e9, e10, hv, lg, Option.some.injEq, forall_eq']))
 | (refine hK _ _ ?_; clear hK K; simp only [go_sem, simprocAttr])
 | refine gCd ?_ | refine brT ?_ | refine brF ?_
 | (refine brS ?_ ?_ <;> intro hc <;> (try simp only [bls] at hc) <;> (try simp only [hc, bls]))
 | intro _ | refine And.intro ?_ ?_)
  all_goals try exact zsd
  refine ae.bh [] ?_
  simp only [ao, au, go_sem, simprocAttr]
  refine ae.prune [0, 2, 3, 9, 10, 11] ?_; simp only [go_sem, simprocAttr]
  exact (ih (i + 1) (by omega) (by omega)).cast rfl rfl
 ·have e4 : ¬ (i : Int) < ls.length := by omega
  rw [List.take_of_length_le (by omega)]
  clear ih
  repeat' (first
 | refine gCt rfl ?_
 | ((first
 | ((first | refine gR fp159 ?_); intro K hK)
 | (refine ah.use [(1000, 24)] [] rfl hgr rfl rfl rfl ?_; rintro _ _ ⟨h24, rfl, rfl⟩; refine ⟨.inl rfl, rfl, ?_⟩; simp only [bk, bk2, bk1, bkS, bkO, bC, aH, go_sem, simprocAttr])
 | (refine ab ?_ ?_ <;> intro hb <;> (try simp only [bls] at hb) <;> (try simp only [hb]))
 | refine gRe [] [.tmp 2] rfl rfl ?_) <;> (try simp only [go_sem, simprocAttr, hlen, e4]))
 | (refine hK _ _ ?_; clear hK K; simp only [go_sem, simprocAttr])
 | refine gCd ?_ | refine brT ?_ | refine brF ?_
 | (refine brS ?_ ?_ <;> intro hc <;> (try simp only [bls] at hc) <;> (try simp only [hc, bls]))
 | intro _ | refine And.intro ?_ ?_)
  all_goals try exact zsd
  refine ae.prune [6, 25, 26, 27] ?_; simp only [go_sem, simprocAttr]
  refine ae.al (α := Nat × Nat) (fun x => ([(6, .osl 24 x.2 0 (cD (ls.take x.1)).length), (25, .sl q f (lsV ls)), (26, .int .i64 ls.length), (27, .int .i64 x.1)], [(24, (x.2, .row 1 (ints (cD (ls.take x.1)))))])) (fun x => x.1 ≤ ls.length) (fun x => ls.length - x.1) (0, h24) (Nat.zero_le _) (by simp [cD]) ?_
  rintro ⟨i, g⟩ hi ih
  simp only at hi ih ⊢
  by_cases hle : i < ls.length
  ·have e4 : (i : Int) < ls.length := by omega
   have e5 : (0 : Int) ≤ i := by omega
   have e7 : (i : Int) + 1 = ((i + 1 : Nat) : Int) := by omega
   obtain ⟨⟨q1, f1, l1⟩, hx⟩ : ∃ x, ls[i]? = some x := ⟨_, List.getElem?_eq_getElem hle⟩
   have hv : (lsV ls)[i]? = some [.sl q1 f1 (ints l1)] := by simp [lsV, hx]
   obtain ⟨hc, hs⟩ := sA hx
   have e8 : (ints (cD (ls.take i))).length + (ints l1).length = (cD (ls.take (i + 1))).length := by rw [hc]; simp
   have e9 : (ints (cD (ls.take i))).length = (cD (ls.take i)).length := by simp
   repeat' (first
 | refine gCt rfl ?_
 | ((first
 | ((first | refine gR fp159 ?_); intro K hK)
 | (refine ab ?_ ?_ <;> intro hb <;> (try simp only [bls] at hb) <;> (try simp only [hb]))
 | refine gRe [] [.tmp 2] rfl rfl ?_) <;> (try simp only [go_sem, simprocAttr, hlen, e4, e5, e7, hv, lg, Option.some.injEq, forall_eq']))
 | (refine hK _ _ ?_; clear hK K; simp only [go_sem, simprocAttr])
 | refine gCd ?_ | refine brT ?_ | refine brF ?_
 | (refine brS ?_ ?_ <;> intro hc <;> (try simp only [bls] at hc) <;> (try simp only [hc, bls]))
 | intro _ | refine And.intro ?_ ?_)
   all_goals try exact zsd
   ·rename_i y hy; obtain ⟨x, _, rfl⟩ := List.mem_map.1 hy; rfl
   ·rename_i y hy; obtain ⟨x, _, rfl⟩ := List.mem_map.1 hy; rfl
   ·have h9 : (cD (ls.take (i + 1))).length = (cD (ls.take i)).length + l1.length := by rw [hc]; simp
    unfold aq; omega
   ·have h9 : (cD (ls.take (i + 1))).length = (cD (ls.take i)).length + l1.length := by rw [hc]; simp
    unfold aq; omega
   rename_i h9
   refine ae.bh [24] ?_
   simp only [ao, au, go_sem, simprocAttr]
   refine ae.prune [6, 25, 26, 27] ?_; simp only [go_sem, simprocAttr]
   exact ae.cast (ih (i + 1, h9) (by simp only; omega) (by simp only; omega)) (by simp [hc]) (by simp [hc])
  ·have e4 : ¬ (i : Int) < ls.length := by omega
   rw [List.take_of_length_le (by omega)]
   clear ih
   repeat' (first
 | refine gCt rfl ?_
 | ((first
 | ((first | refine gR fp159 ?_); intro K hK)
 | (refine ab ?_ ?_ <;> intro hb <;> (try simp only [bls] at hb) <;> (try simp only [hb]))
 | refine gRe [24] [.tmp 2] rfl rfl ?_) <;> (try simp only [go_sem, simprocAttr, hlen, e4]))
 | (refine hK _ _ ?_; clear hK K; simp only [go_sem, simprocAttr])
 | refine gCd ?_ | refine brT ?_ | refine brF ?_
 | (refine brS ?_ ?_ <;> intro hc <;> (try simp only [bls] at hc) <;> (try simp only [hc, bls]))
 | intro _ | refine And.intro ?_ ?_)
   all_goals try exact zsd
   exact ⟨_, rfl, rfl⟩
theorem De (hG : jS Tryz.prog 175) (q f q' f' : Bool) (a b : List Int) (h : a.length + b.length ≤ 100000000) : ah Tryz.prog 138 [.sl q f (ints a), .sl q' f' (ints b)] [] fun r s => r = .sl true false (ints (Lib.compact (fx (a ++ b)))) ∧ s = [] := by
 obtain ⟨X, hX⟩ : ∃ X, X = a ++ b := ⟨_, rfl⟩
 have hcc : ∀ q0 f0, ah Tryz.prog 159 [.sl q0 f0 [[.sl q false (ints a)], [.sl q' false (ints b)]]] [] fun r s => ∃ g, r = .osl 24 g 0 X.length ∧ s = [(24, (g, .row 1 (ints X)))] := fun q0 f0 => by
  have := zo hG [(q, false, a), (q', false, b)] q0 f0 (by simp) (by simp [cD]; omega)
  have hc : cD [(q, false, a), (q', false, b)] = X := by rw [hX]; simp [cD]
  rw [hc] at this
  exact this
 rw [← hX]
 obtain ⟨Y, hY⟩ : ∃ Y, Y = fx X := ⟨_, rfl⟩
 have hYl : Y.length = X.length := by rw [hY, jb]
 have hso : ∀ g, ah Tryz.prog 148 [.osl 1000 g 0 X.length] [(1000, (g, .row 1 (ints X)))] fun r s => r = .tup [] ∧ s = [(1000, (g, .row 1 (ints Y)))] := fun g => by
  rw [hY]
  exact ah.AY ⟨_, Tryz.func148, by kernel_rfl, rfl⟩ Tryz.slices_Sort_int Tryz.slices_Sort_int_none 1000 g X
 have hco : ∀ g, ah Tryz.prog 149 [.osl 1000 g 0 X.length] [(1000, (g, .row 1 (ints Y)))] fun r s => r = .osl 1000 g 0 (Lib.compact Y).length ∧ s = [(1000, (g, .row 1 (ints (Lib.compact Y))))] := fun g => by
  rw [← hYl]
  exact ah.sB ⟨_, Tryz.func149, by kernel_rfl, rfl⟩ Tryz.slices_Compact_int Tryz.slices_Compact_int_empty 1000 g Y
 rw [← hY]
 generalize Lib.compact Y = Z at hco ⊢
 have hZ : (ints Z).length = Z.length := by simp
 refine ah.give (id := 9) (ah.mono (R := fun r s => ∃ g, r = .osl 9 g 0 Z.length ∧ s = [(9, (g, .row 1 (ints Z)))]) ?_ fun r s h => by rw [hZ]; exact h)
 clear hG hX hY hYl hZ
 refine ah.enter Tryz.func138 rfl (by kernel_rfl) (Nat.le_of_ble_eq_true rfl) ?_; simp only [ai, Nat.reduceAdd]
 repeat' (first
 | refine gCt rfl ?_
 | ((first
 | ((first | refine gRg [8] fp138 ?_); intro K hK)
 | (refine ah.use [(24, 9)] [] rfl (hcc _ _) rfl rfl rfl ?_; rintro _ _ ⟨h9, rfl, rfl⟩; refine ⟨.inl rfl, rfl, ?_⟩; simp only [bk, bk2, bk1, bkS, bkO, bC, aH, go_sem, simprocAttr])
 | (refine ah.use [(1000, 9)] [] rfl (hso _) rfl rfl rfl ?_; rintro _ _ ⟨rfl, rfl⟩; refine ⟨.inl rfl, rfl, ?_⟩; simp only [bk, bk2, bk1, bkS, bkO, bC, aH, go_sem, simprocAttr])
 | (refine ah.use [(1000, 9)] [] rfl (hco _) rfl rfl rfl ?_; rintro _ _ ⟨rfl, rfl⟩; refine ⟨.inl rfl, rfl, ?_⟩; simp only [bk, bk2, bk1, bkS, bkO, bC, aH, go_sem, simprocAttr])
 | (refine ab ?_ ?_ <;> intro hb <;> (try simp only [bls] at hb) <;> (try simp only [hb]))
 | refine gRe [9] [.tmp 4] rfl rfl ?_) <;> (try simp only [go_sem, simprocAttr]))
 | (refine hK _ _ ?_; clear hK K; simp only [go_sem, simprocAttr])
 | refine gCd ?_ | refine brT ?_ | refine brF ?_
 | (refine brS ?_ ?_ <;> intro hc <;> (try simp only [bls] at hc) <;> (try simp only [hc, bls]))
 | intro _ | refine And.intro ?_ ?_)
 all_goals try exact zsd
 exact ⟨_, rfl, rfl⟩
end Go.Rad
namespace Go.Rad
open Go
theorem sW {G : Gh} {w : World} (hw : WOk G w) {q full : Bool} {l : List Int} {v : Value} (h : Rep G true (.sl q full (ints l)) v) :
  ∃ a cap, v = .slice a l.length cap ∧ l.length ≤ maxLen ∧ (l ≠ [] → ∃ b off, a = some ⟨b, off, none⟩ ∧ ∀ j, j < l.length → w.cell? ⟨b, off + j, none⟩ = some (.int .i64 (l.getD j 0))) := by
 rcases List.eq_nil_or_concat l with rfl | hl
 ·obtain ⟨a, cap, h1, _, h3, _⟩ := Rep.fH h
  exact ⟨a, cap, h1, h3, fun h => absurd rfl h⟩
 ·have hl : l ≠ [] := by obtain ⟨a, b, rfl⟩ := hl; simp
  generalize hx : ints l = xs at h
  cases h with
  | slnil _ => exact absurd (by simpa using hx) hl
  | sl h1 h2 h3 h4 h5 h6 h7 h8 h9 =>
   rename_i cap b off c e fr esz
   subst hx
   have hlen : (ints l).length = l.length := by simp
   refine ⟨_, cap, by rw [hlen], by rw [← hlen]; exact h3, fun _ => ⟨b, off, rfl, fun j hj => ?_⟩⟩
   have hj2 : (ints l)[j]? = some [.int .i64 l[j]] := by simp [hj]
   have he : esz = 1 := (h7 j _ hj2).symm
   subst he
   have hr := h9 j 0 [.int .i64 l[j]] (.int .i64 l[j]) hj2 rfl
   obtain ⟨h10, _⟩ := Rep.aK hr
   have hb := hw.F b _ h5
   have hlt : off + j < c.size := by rw [hlen] at h6; omega
   rw [show off + j * 1 + 0 = off + j by omega, Array.getD_eq_getD_getElem?, Array.getElem?_eq_getElem hlt, Option.getD_some] at h10
   rw [cell_of_row w b (off + j) c e fr hb, Array.getElem?_eq_getElem hlt, h10]
   simp [hj]
def w6 (P : Program) (f : Nat) : Prop :=
 (∀ (a1 a2 : Option Addr) (n c m d : Nat) (w : World), n ≠ m → Calls P f #[.slice a1 n c, .slice a2 m d] w fun e w' => e = .returned (.bool false) ∧ w' = w) ∧
 (∀ (a1 a2 : Option Addr) (c m d : Nat) (w : World), m ≤ 9223372036854775807 → Calls P f #[.slice a1 0 c, .slice a2 m d] w fun e w' => e = .returned (.bool (decide (m = 0))) ∧ w' = w) ∧
 ∀ (b1 o1 n c b2 o2 m d : Nat) (xs ys : List Int) (w : World), n ≤ xs.length → m ≤ ys.length → n ≤ 9223372036854775807 → m ≤ 9223372036854775807 →
   (∀ j, j < xs.length → w.cell? ⟨b1, o1 + j, none⟩ = some (.int .i64 (xs.getD j 0))) → (∀ j, j < ys.length → w.cell? ⟨b2, o2 + j, none⟩ = some (.int .i64 (ys.getD j 0))) →
   Calls P f #[.slice (some ⟨b1, o1, none⟩) n c, .slice (some ⟨b2, o2, none⟩) m d] w fun e w' => e = .returned (.bool (xs.take n == ys.take m)) ∧ ∃ q, w' = w.drewN q
theorem Ba {G : Gh} {x y : aa} {cargs : Array Value} {v u : Value} (ha : qw G [x, y] cargs) (h0 : cargs.getD 0 undef = v) (h1 : cargs.getD 1 undef = u) : cargs = #[v, u] := by
 have hs : cargs.size = 2 := by have := ha.1; simp at this; omega
 refine Array.ext (by simp [hs]) fun i h4 h5 => ?_
 have : i = 0 ∨ i = 1 := by simp at h5; omega
 rcases this with rfl | rfl
 ·simpa [Array.getD, hs] using h0
 ·simpa [Array.getD, hs] using h1
theorem zu {G : Gh} {w : World} {sto : Sto} (hw : WOk G w) (hs : an G w sto) (q : Nat) : WOk G (w.drewN q) ∧ an G (w.drewN q) sto :=
 iO (w := w) (w' := w.drewN q) ⟨rfl, rfl⟩ hw hs (Nat.le_refl _) (fun _ _ => rfl)
theorem ah.xr {P : Program} {f : Nat} (able : dv P f) (hE : w6 P f) (q1 f1 q2 f2 : Bool) (a b : List Int) : ah P f [.sl q1 f1 (ints a), .sl q2 f2 (ints b)] [] fun r s => r = .bool (decide (a = b)) ∧ s = [] := by
 refine ⟨able, fun G w cargs hw hs ha => ?_⟩
 obtain ⟨p1, c1, hv1, hm1, hc1⟩ := sW hw (ha.2 0 _ rfl)
 obtain ⟨p2, c2, hv2, hm2, hc2⟩ := sW hw (ha.2 1 _ rfl)
 rw [Ba ha hv1 hv2]
 by_cases hl : a.length = b.length
 ·rcases List.eq_nil_or_concat a with rfl | hne
  ·refine (hE.2.1 p1 p2 c1 b.length c2 w hm2).mono fun e w' h => ?_
   obtain ⟨rfl, rfl⟩ := h
   have : b = [] := List.eq_nil_of_length_eq_zero hl.symm
   subst this
   exact ⟨G, _, .bool true, [], rfl, .refl G, hw, hs, .bool, rfl, rfl⟩
  ·have hne : a ≠ [] := by obtain ⟨x, y, rfl⟩ := hne; simp
   have hne2 : b ≠ [] := fun e => hne (List.eq_nil_of_length_eq_zero (by rw [hl, e]; rfl))
   obtain ⟨b1, o1, rfl, hx⟩ := hc1 hne
   obtain ⟨b2, o2, rfl, hy⟩ := hc2 hne2
   refine (hE.2.2 b1 o1 a.length c1 b2 o2 b.length c2 a b w (Nat.le_refl _) (Nat.le_refl _) hm1 hm2 hx hy).mono fun e w' h => ?_
   obtain ⟨rfl, n, rfl⟩ := h
   obtain ⟨h1, h2⟩ := zu hw hs n
   refine ⟨G, _, .bool (decide (a = b)), [], rfl, .refl G, h1, h2, ?_, rfl, rfl⟩
   rw [List.take_length, List.take_length, show (a == b) = decide (a = b) by by_cases h : a = b <;> simp [h]]
   exact .bool
 ·refine (hE.1 p1 p2 a.length c1 b.length c2 w hl).mono fun e w' h => ?_
  obtain ⟨rfl, rfl⟩ := h
  exact ⟨G, _, .bool false, [], rfl, .refl G, hw, hs, .bool, by rw [decide_eq_false fun e => hl (by rw [e])], rfl⟩
end Go.Rad
