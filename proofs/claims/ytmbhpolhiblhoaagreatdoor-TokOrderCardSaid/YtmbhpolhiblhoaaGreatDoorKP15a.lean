/- A part of the proof. -/
import Derived.Test.YtmbhpolhiblhoaaGreatDoorKRDefer
import Derived.Test.YtmbhpolhiblhoaaGreatDoorKRDraw
set_option linter.all false
namespace Go.Rad
open Go Go.Proofs
set_option linter.all false
set_option maxRecDepth 20000
set_option maxHeartbeats 4000000
theorem Ie (q f : Bool) (l : List ByteArray) (s : ByteArray) (hl : l.length ≤ 1000000) :
  ah Tryz.prog 55 [.sl q f (cz l), .str s] [] fun r s' => r = .int .i64 (jB s l 0) ∧ s' = [] := by
 obtain ⟨S, hS⟩ : ∃ S, S = jB s l 0 := ⟨_, rfl⟩
 rw [← hS]
 refine ah.enter Tryz.func55 rfl (by kernel_rfl) (Nat.le_of_ble_eq_true rfl) ?_; simp only [ai, Nat.reduceAdd]
 repeat' (first
 | refine gCt rfl ?_
 | ((first
 | ((first | refine gR fp55 ?_); intro K hK)
 | (refine ab ?_ ?_ <;> intro hb <;> (try simp only [bls] at hb) <;> (try simp only [hb]))
 | refine gRe [] [.tmp 4] rfl rfl ?_) <;> (try simp only [go_sem, simprocAttr]))
 | (refine hK _ _ ?_; clear hK K; simp only [go_sem, simprocAttr])
 | refine gCd ?_ | refine brT ?_ | refine brF ?_
 | (refine brS ?_ ?_ <;> intro hc <;> (try simp only [bls] at hc) <;> (try simp only [hc, bls]))
 | intro _ | refine And.intro ?_ ?_)
 refine ae.prune [0, 1, 4, 7, 8] ?_; simp only [go_sem, simprocAttr]
 refine ae.al (α := Nat) (fun i => ([(0, .sl q f (cz l)), (1, .str s), (4, .int .i64 0), (7, .int .i64 l.length), (8, .int .i64 i)], [])) (fun i => i ≤ l.length ∧ S = jB s (l.drop i) i) (fun i => l.length - i) 0 ⟨Nat.zero_le _, hS⟩ rfl ?_
 rintro i ⟨hi, hrun⟩ ih
 simp only
 by_cases hle : i < l.length
 ·have e4 : (i : Int) < l.length := by omega
  have e5 : (0 : Int) ≤ i := by omega
  have e6 : (i : Int) + 1 = ((i + 1 : Nat) : Int) := by omega
  have hx : l[i]? = some l[i] := List.getElem?_eq_getElem hle
  have hdr : l.drop i = l[i] :: l.drop (i + 1) := List.drop_eq_getElem_cons hle
  rw [hdr, jB] at hrun
  generalize l[i] = k at hx hrun
  by_cases hp : s = k
  ·simp only [hp, decide_true, if_true] at hrun
   repeat' (first
 | refine gCt rfl ?_
 | ((first
 | ((first | refine gR fp55 ?_); intro K hK)
 | (refine ab ?_ ?_ <;> intro hb <;> (try simp only [bls] at hb) <;> (try simp only [hb]))
 | refine gRe [] [.tmp 4] rfl rfl ?_) <;> (try simp only [go_sem, simprocAttr, e4, e5, e6, hx, hp, Option.some.injEq, forall_eq']))
 | (refine hK _ _ ?_; clear hK K; simp only [go_sem, simprocAttr])
 | refine gCd ?_ | refine brT ?_ | refine brF ?_
 | (refine brS ?_ ?_ <;> intro hc <;> (try simp only [bls] at hc) <;> (try simp only [hc, bls]))
 | intro _ | refine And.intro ?_ ?_)
   all_goals try exact zsd
   all_goals rw [hrun]
  ·simp only [hp, decide_false, Bool.false_eq_true, if_false] at hrun
   repeat' (first
 | refine gCt rfl ?_
 | ((first
 | ((first | refine gR fp55 ?_); intro K hK)
 | (refine ab ?_ ?_ <;> intro hb <;> (try simp only [bls] at hb) <;> (try simp only [hb]))
 | refine gRe [] [.tmp 4] rfl rfl ?_) <;> (try simp only [go_sem, simprocAttr, e4, e5, e6, hx, hp, Option.some.injEq, forall_eq']))
 | (refine hK _ _ ?_; clear hK K; simp only [go_sem, simprocAttr])
 | refine gCd ?_ | refine brT ?_ | refine brF ?_
 | (refine brS ?_ ?_ <;> intro hc <;> (try simp only [bls] at hc) <;> (try simp only [hc, bls]))
 | intro _ | refine And.intro ?_ ?_)
   all_goals try exact zsd
   refine ae.prune [0, 1, 4, 7, 8] ?_; simp only [go_sem, simprocAttr]
   exact (ih (i + 1) ⟨by omega, hrun⟩ (by omega)).cast rfl rfl
 ·have e4 : ¬ (i : Int) < l.length := by omega
  rw [List.drop_of_length_le (by omega), jB] at hrun
  subst hrun
  repeat' (first
 | refine gCt rfl ?_
 | ((first
 | ((first | refine gR fp55 ?_); intro K hK)
 | (refine ab ?_ ?_ <;> intro hb <;> (try simp only [bls] at hb) <;> (try simp only [hb]))
 | refine gRe [] [.tmp 4] rfl rfl ?_) <;> (try simp only [go_sem, simprocAttr, e4]))
 | (refine hK _ _ ?_; clear hK K; simp only [go_sem, simprocAttr])
 | refine gCd ?_ | refine brT ?_ | refine brF ?_
 | (refine brS ?_ ?_ <;> intro hc <;> (try simp only [bls] at hc) <;> (try simp only [hc, bls]))
 | intro _ | refine And.intro ?_ ?_)
theorem Ic (q f : Bool) (l : List Int) (s : Int) (hl : l.length ≤ 1000000) :
  ah Tryz.prog 117 [.sl q f (ints l), .int .i64 s] [] fun r s' => r = .int .i64 (qK s l 0) ∧ s' = [] := by
 obtain ⟨S, hS⟩ : ∃ S, S = qK s l 0 := ⟨_, rfl⟩
 rw [← hS]
 refine ah.enter Tryz.func117 rfl (by kernel_rfl) (Nat.le_of_ble_eq_true rfl) ?_; simp only [ai, Nat.reduceAdd]
 repeat' (first
 | refine gCt rfl ?_
 | ((first
 | ((first | refine gR fp117 ?_); intro K hK)
 | (refine ab ?_ ?_ <;> intro hb <;> (try simp only [bls] at hb) <;> (try simp only [hb]))
 | refine gRe [] [.tmp 4] rfl rfl ?_) <;> (try simp only [go_sem, simprocAttr]))
 | (refine hK _ _ ?_; clear hK K; simp only [go_sem, simprocAttr])
 | refine gCd ?_ | refine brT ?_ | refine brF ?_
 | (refine brS ?_ ?_ <;> intro hc <;> (try simp only [bls] at hc) <;> (try simp only [hc, bls]))
 | intro _ | refine And.intro ?_ ?_)
 refine ae.prune [0, 1, 4, 7, 8] ?_; simp only [go_sem, simprocAttr]
 refine ae.al (α := Nat) (fun i => ([(0, .sl q f (ints l)), (1, .int .i64 s), (4, .int .i64 0), (7, .int .i64 l.length), (8, .int .i64 i)], [])) (fun i => i ≤ l.length ∧ S = qK s (l.drop i) i) (fun i => l.length - i) 0 ⟨Nat.zero_le _, hS⟩ rfl ?_
 rintro i ⟨hi, hrun⟩ ih
 simp only
 by_cases hle : i < l.length
 ·have e4 : (i : Int) < l.length := by omega
  have e5 : (0 : Int) ≤ i := by omega
  have e6 : (i : Int) + 1 = ((i + 1 : Nat) : Int) := by omega
  have hx : l[i]? = some l[i] := List.getElem?_eq_getElem hle
  have hdr : l.drop i = l[i] :: l.drop (i + 1) := List.drop_eq_getElem_cons hle
  rw [hdr, qK] at hrun
  generalize l[i] = k at hx hrun
  by_cases hp : s = k
  ·simp only [hp, decide_true, if_true] at hrun
   repeat' (first
 | refine gCt rfl ?_
 | ((first
 | ((first | refine gR fp117 ?_); intro K hK)
 | (refine ab ?_ ?_ <;> intro hb <;> (try simp only [bls] at hb) <;> (try simp only [hb]))
 | refine gRe [] [.tmp 4] rfl rfl ?_) <;> (try simp only [go_sem, simprocAttr, e4, e5, e6, hx, hp, Option.some.injEq, forall_eq']))
 | (refine hK _ _ ?_; clear hK K; simp only [go_sem, simprocAttr])
 | refine gCd ?_ | refine brT ?_ | refine brF ?_
 | (refine brS ?_ ?_ <;> intro hc <;> (try simp only [bls] at hc) <;> (try simp only [hc, bls]))
 | intro _ | refine And.intro ?_ ?_)
   all_goals try exact zsd
   all_goals rw [hrun]
  ·simp only [hp, decide_false, Bool.false_eq_true, if_false] at hrun
   repeat' (first
 | refine gCt rfl ?_
 | ((first
 | ((first | refine gR fp117 ?_); intro K hK)
 | (refine ab ?_ ?_ <;> intro hb <;> (try simp only [bls] at hb) <;> (try simp only [hb]))
 | refine gRe [] [.tmp 4] rfl rfl ?_) <;> (try simp only [go_sem, simprocAttr, e4, e5, e6, hx, hp, Option.some.injEq, forall_eq']))
 | (refine hK _ _ ?_; clear hK K; simp only [go_sem, simprocAttr])
 | refine gCd ?_ | refine brT ?_ | refine brF ?_
 | (refine brS ?_ ?_ <;> intro hc <;> (try simp only [bls] at hc) <;> (try simp only [hc, bls]))
 | intro _ | refine And.intro ?_ ?_)
   all_goals try exact zsd
   refine ae.prune [0, 1, 4, 7, 8] ?_; simp only [go_sem, simprocAttr]
   exact (ih (i + 1) ⟨by omega, hrun⟩ (by omega)).cast rfl rfl
 ·have e4 : ¬ (i : Int) < l.length := by omega
  rw [List.drop_of_length_le (by omega), qK] at hrun
  subst hrun
  repeat' (first
 | refine gCt rfl ?_
 | ((first
 | ((first | refine gR fp117 ?_); intro K hK)
 | (refine ab ?_ ?_ <;> intro hb <;> (try simp only [bls] at hb) <;> (try simp only [hb]))
 | refine gRe [] [.tmp 4] rfl rfl ?_) <;> (try simp only [go_sem, simprocAttr, e4]))
 | (refine hK _ _ ?_; clear hK K; simp only [go_sem, simprocAttr])
 | refine gCd ?_ | refine brT ?_ | refine brF ?_
 | (refine brS ?_ ?_ <;> intro hc <;> (try simp only [bls] at hc) <;> (try simp only [hc, bls]))
 | intro _ | refine And.intro ?_ ?_)
theorem Ia (q f : Bool) (l : List Int) (s : Int) (hl : l.length ≤ 1000000) :
  ah Tryz.prog 91 [.sl q f (ints l), .int .i64 s] [] fun r s' => r = .bool (decide (s ∈ l)) ∧ s' = [] := by
 have hc := fun q f => Ic q f l s hl
 rw [← sH s l 0]
 generalize qK s l 0 = S at hc
 refine ah.enter Tryz.func91 rfl (by kernel_rfl) (Nat.le_of_ble_eq_true rfl) ?_; simp only [ai, Nat.reduceAdd]
 repeat' (first
 | refine gCt rfl ?_
 | ((first
 | ((first | refine gR fp91 ?_); intro K hK)
 | refine cAl (hc _ _) rfl rfl rfl ?_
 | (refine ab ?_ ?_ <;> intro hb <;> (try simp only [bls] at hb) <;> (try simp only [hb]))
 | refine gRe [] [.tmp 4] rfl rfl ?_) <;> (try simp only [go_sem, simprocAttr]))
 | (refine hK _ _ ?_; clear hK K; simp only [go_sem, simprocAttr])
 | refine gCd ?_ | refine brT ?_ | refine brF ?_
 | (refine brS ?_ ?_ <;> intro hc <;> (try simp only [bls] at hc) <;> (try simp only [hc, bls]))
 | intro _ | refine And.intro ?_ ?_)
 all_goals try exact zsd
theorem Cc (q f : Bool) (l : List ByteArray) (s : ByteArray) (hl : l.length ≤ 1000000) :
  ah Tryz.prog 41 [.sl q f (cz l), .str s] [] fun r s' => r = .int .i64 (jB s l 0) ∧ s' = [] := by
 obtain ⟨S, hS⟩ : ∃ S, S = jB s l 0 := ⟨_, rfl⟩
 rw [← hS]
 refine ah.enter Tryz.func41 rfl (by kernel_rfl) (Nat.le_of_ble_eq_true rfl) ?_; simp only [ai, Nat.reduceAdd]
 repeat' (first
 | refine gCt rfl ?_
 | ((first
 | ((first | refine gR fp41 ?_); intro K hK)
 | (refine ab ?_ ?_ <;> intro hb <;> (try simp only [bls] at hb) <;> (try simp only [hb]))
 | refine gRe [] [.tmp 4] rfl rfl ?_) <;> (try simp only [go_sem, simprocAttr]))
 | (refine hK _ _ ?_; clear hK K; simp only [go_sem, simprocAttr])
 | refine gCd ?_ | refine brT ?_ | refine brF ?_
 | (refine brS ?_ ?_ <;> intro hc <;> (try simp only [bls] at hc) <;> (try simp only [hc, bls]))
 | intro _ | refine And.intro ?_ ?_)
 refine ae.prune [0, 1, 4, 5] ?_; simp only [go_sem, simprocAttr]
 refine ae.al (α := Nat) (fun i => ([(0, .sl q f (cz l)), (1, .str s), (4, .int .i64 0), (5, .int .i64 i)], [])) (fun i => i ≤ l.length ∧ S = jB s (l.drop i) i) (fun i => l.length - i) 0 ⟨Nat.zero_le _, hS⟩ rfl ?_
 rintro i ⟨hi, hrun⟩ ih
 simp only
 by_cases hle : i < l.length
 ·have e4 : (i : Int) < l.length := by omega
  have e5 : (0 : Int) ≤ i := by omega
  have e6 : (i : Int) + 1 = ((i + 1 : Nat) : Int) := by omega
  have hx : l[i]? = some l[i] := List.getElem?_eq_getElem hle
  have hdr : l.drop i = l[i] :: l.drop (i + 1) := List.drop_eq_getElem_cons hle
  rw [hdr, jB] at hrun
  generalize l[i] = k at hx hrun
  by_cases hp : s = k
  ·simp only [hp, decide_true, if_true] at hrun
   repeat' (first
 | refine gCt rfl ?_
 | ((first
 | ((first | refine gR fp41 ?_); intro K hK)
 | (refine ab ?_ ?_ <;> intro hb <;> (try simp only [bls] at hb) <;> (try simp only [hb]))
 | refine gRe [] [.tmp 4] rfl rfl ?_) <;> (try simp only [go_sem, simprocAttr, e4, e5, e6, hx, hp, Option.some.injEq, forall_eq']))
 | (refine hK _ _ ?_; clear hK K; simp only [go_sem, simprocAttr])
 | refine gCd ?_ | refine brT ?_ | refine brF ?_
 | (refine brS ?_ ?_ <;> intro hc <;> (try simp only [bls] at hc) <;> (try simp only [hc, bls]))
 | intro _ | refine And.intro ?_ ?_)
   all_goals try exact zsd
   all_goals rw [hrun]
  ·simp only [hp, decide_false, Bool.false_eq_true, if_false] at hrun
   have hp' : ¬ k = s := fun e => hp e.symm
   repeat' (first
 | refine gCt rfl ?_
 | ((first
 | ((first | refine gR fp41 ?_); intro K hK)
 | (refine ab ?_ ?_ <;> intro hb <;> (try simp only [bls] at hb) <;> (try simp only [hb]))
 | refine gRe [] [.tmp 4] rfl rfl ?_) <;> (try simp only [go_sem, simprocAttr, e4, e5, e6, hx, hp', Option.some.injEq, forall_eq']))
 | (refine hK _ _ ?_; clear hK K; simp only [go_sem, simprocAttr])
 | refine gCd ?_ | refine brT ?_ | refine brF ?_
 | (refine brS ?_ ?_ <;> intro hc <;> (try simp only [bls] at hc) <;> (try simp only [hc, bls]))
 | intro _ | refine And.intro ?_ ?_)
   all_goals try exact zsd
   refine ae.prune [0, 1, 4, 5] ?_; simp only [go_sem, simprocAttr]
   exact (ih (i + 1) ⟨by omega, hrun⟩ (by omega)).cast rfl rfl
 ·have e4 : ¬ (i : Int) < l.length := by omega
  rw [List.drop_of_length_le (by omega), jB] at hrun
  subst hrun
  repeat' (first
 | refine gCt rfl ?_
 | ((first
 | ((first | refine gR fp41 ?_); intro K hK)
 | (refine ab ?_ ?_ <;> intro hb <;> (try simp only [bls] at hb) <;> (try simp only [hb]))
 | refine gRe [] [.tmp 4] rfl rfl ?_) <;> (try simp only [go_sem, simprocAttr, e4]))
 | (refine hK _ _ ?_; clear hK K; simp only [go_sem, simprocAttr])
 | refine gCd ?_ | refine brT ?_ | refine brF ?_
 | (refine brS ?_ ?_ <;> intro hc <;> (try simp only [bls] at hc) <;> (try simp only [hc, bls]))
 | intro _ | refine And.intro ?_ ?_)
  all_goals try exact zsd
theorem zC (F : Nat) (C : List aa) (p : Ru → Bool) (q f : Bool) (l : List Ru) (hl : l.length ≤ 1000000)
  (hF : ∀ x ∈ l, ah Tryz.prog F [.agg x.cells, .ref true C] [] fun r s => r = .bool (p x) ∧ s = []) :
  ah Tryz.prog 85 [.sl q f (bm l), .fn F [.ref true C]] [] fun r s => r = .int .i64 (qL p l 0) ∧ s = [] := by
 obtain ⟨S, hS⟩ : ∃ S, S = qL p l 0 := ⟨_, rfl⟩
 rw [← hS]
 refine ah.enter Tryz.func85 rfl (by kernel_rfl) (Nat.le_of_ble_eq_true rfl) ?_; simp only [ai, Nat.reduceAdd]
 repeat' (first
 | refine gCt rfl ?_
 | ((first
 | ((first | refine gR fp85 ?_); intro K hK)
 | (refine ab ?_ ?_ <;> intro hb <;> (try simp only [bls] at hb) <;> (try simp only [hb]))
 | refine gRe [] [.tmp 4] rfl rfl ?_) <;> (try simp only [go_sem, simprocAttr]))
 | (refine hK _ _ ?_; clear hK K; simp only [go_sem, simprocAttr])
 | refine gCd ?_ | refine brT ?_ | refine brF ?_
 | (refine brS ?_ ?_ <;> intro hc <;> (try simp only [bls] at hc) <;> (try simp only [hc, bls]))
 | intro _ | refine And.intro ?_ ?_)
 refine ae.prune [0, 1, 4, 7, 8] ?_; simp only [go_sem, simprocAttr]
 refine ae.al (α := Nat) (fun i => ([(0, .sl q f (bm l)), (1, .fn F [.ref true C]), (4, .int .i64 0), (7, .int .i64 l.length), (8, .int .i64 i)], [])) (fun i => i ≤ l.length ∧ S = qL p (l.drop i) i) (fun i => l.length - i) 0 ⟨Nat.zero_le _, hS⟩ rfl ?_
 rintro i ⟨hi, hrun⟩ ih
 simp only
 by_cases hle : i < l.length
 ·have e4 : (i : Int) < l.length := by omega
  have e5 : (0 : Int) ≤ i := by omega
  have e6 : (i : Int) + 1 = ((i + 1 : Nat) : Int) := by omega
  have hx : l[i]? = some l[i] := List.getElem?_eq_getElem hle
  have hc := hF l[i] (List.getElem_mem hle)
  have hdr : l.drop i = l[i] :: l.drop (i + 1) := List.drop_eq_getElem_cons hle
  rw [hdr, qL] at hrun
  generalize l[i] = k at hx hc hrun
  cases hp : p k <;> rw [hp] at hrun hc <;> simp only [if_true, Bool.false_eq_true, if_false] at hrun
  ·repeat' (first
 | refine gCt rfl ?_
 | ((first
 | ((first | refine gR fp85 ?_); intro K hK)
 | (refine ah.mono hc ?_; rintro _ _ ⟨rfl, rfl⟩)
 | (refine ab ?_ ?_ <;> intro hb <;> (try simp only [bls] at hb) <;> (try simp only [hb]))
 | refine gRe [] [.tmp 4] rfl rfl ?_) <;> (try simp only [go_sem, simprocAttr, e4, e5, e6, hx, Option.some.injEq, forall_eq']))
 | (refine hK _ _ ?_; clear hK K; simp only [go_sem, simprocAttr])
 | refine gCd ?_ | refine brT ?_ | refine brF ?_
 | (refine brS ?_ ?_ <;> intro hc <;> (try simp only [bls] at hc) <;> (try simp only [hc, bls]))
 | intro _ | refine And.intro ?_ ?_)
   all_goals try exact zsd
   refine ae.prune [0, 1, 4, 7, 8] ?_; simp only [go_sem, simprocAttr]
   exact (ih (i + 1) ⟨by omega, hrun⟩ (by omega)).cast rfl rfl
  ·repeat' (first
 | refine gCt rfl ?_
 | ((first
 | ((first | refine gR fp85 ?_); intro K hK)
 | (refine ah.mono hc ?_; rintro _ _ ⟨rfl, rfl⟩)
 | (refine ab ?_ ?_ <;> intro hb <;> (try simp only [bls] at hb) <;> (try simp only [hb]))
 | refine gRe [] [.tmp 4] rfl rfl ?_) <;> (try simp only [go_sem, simprocAttr, e4, e5, e6, hx, Option.some.injEq, forall_eq']))
 | (refine hK _ _ ?_; clear hK K; simp only [go_sem, simprocAttr])
 | refine gCd ?_ | refine brT ?_ | refine brF ?_
 | (refine brS ?_ ?_ <;> intro hc <;> (try simp only [bls] at hc) <;> (try simp only [hc, bls]))
 | intro _ | refine And.intro ?_ ?_)
   all_goals try exact zsd
   rw [hrun]
 ·have e4 : ¬ (i : Int) < l.length := by omega
  rw [List.drop_of_length_le (by omega), qL] at hrun
  subst hrun
  repeat' (first
 | refine gCt rfl ?_
 | ((first
 | ((first | refine gR fp85 ?_); intro K hK)
 | (refine ab ?_ ?_ <;> intro hb <;> (try simp only [bls] at hb) <;> (try simp only [hb]))
 | refine gRe [] [.tmp 4] rfl rfl ?_) <;> (try simp only [go_sem, simprocAttr, e4]))
 | (refine hK _ _ ?_; clear hK K; simp only [go_sem, simprocAttr])
 | refine gCd ?_ | refine brT ?_ | refine brF ?_
 | (refine brS ?_ ?_ <;> intro hc <;> (try simp only [bls] at hc) <;> (try simp only [hc, bls]))
 | intro _ | refine And.intro ?_ ?_)
theorem Hg (F : Nat) (C : List aa) (p : Ru → Bool) (q f : Bool) (l : List Ru) (hl : l.length ≤ 1000000)
  (hF : ∀ x ∈ l, ah Tryz.prog F [.agg x.cells, .ref true C] [] fun r s => r = .bool (p x) ∧ s = []) :
  ah Tryz.prog 56 [.sl q f (bm l), .fn F [.ref true C]] [] fun r s => r = .bool (l.any p) ∧ s = [] := by
 have hc := fun q f => zC F C p q f l hl hF
 rw [← sI p l 0]
 generalize qL p l 0 = S at hc
 refine ah.enter Tryz.func56 rfl (by kernel_rfl) (Nat.le_of_ble_eq_true rfl) ?_; simp only [ai, Nat.reduceAdd]
 repeat' (first
 | refine gCt rfl ?_
 | ((first
 | ((first | refine gR fp56 ?_); intro K hK)
 | refine cAl (hc _ _) rfl rfl rfl ?_
 | (refine ab ?_ ?_ <;> intro hb <;> (try simp only [bls] at hb) <;> (try simp only [hb]))
 | refine gRe [] [.tmp 4] rfl rfl ?_) <;> (try simp only [go_sem, simprocAttr]))
 | (refine hK _ _ ?_; clear hK K; simp only [go_sem, simprocAttr])
 | refine gCd ?_ | refine brT ?_ | refine brF ?_
 | (refine brS ?_ ?_ <;> intro hc <;> (try simp only [bls] at hc) <;> (try simp only [hc, bls]))
 | intro _ | refine And.intro ?_ ?_)
 all_goals try exact zsd
theorem Dz (q f : Bool) (l : List Int) (n : Int) (hl : l.length ≤ maxLen) :
  ah Tryz.prog 43 [.sl q f (ints l), .int .i64 n] [] fun r s' => r = .bool (upI n (-1) l) ∧ s' = [] := by
 obtain ⟨S, hS⟩ : ∃ S, S = upI n (-1) l := ⟨_, rfl⟩
 rw [← hS]
 have hl' : l.length ≤ 9223372036854775807 := Nat.le_trans hl (by decide)
 clear hl
 refine ah.enter Tryz.func43 rfl (by kernel_rfl) (Nat.le_of_ble_eq_true rfl) ?_; simp only [ai, Nat.reduceAdd]
 repeat' (first
 | refine gCt rfl ?_
 | ((first
 | ((first | refine gR fp43 ?_ | refine gD 4 29 rj fp43 ?_); intro K hK)
 | (refine ab ?_ ?_ <;> intro hb <;> (try simp only [bls] at hb) <;> (try simp only [hb]))
 | refine gRe [] [.tmp 4] rfl rfl ?_) <;> (try simp only [go_sem, simprocAttr]))
 | (refine hK _ _ ?_; clear hK K; simp only [go_sem, simprocAttr])
 | refine gCd ?_ | refine brT ?_ | refine brF ?_
 | (refine brS ?_ ?_ <;> intro hc <;> (try simp only [bls] at hc) <;> (try simp only [hc, bls]))
 | intro _ | refine And.intro ?_ ?_)
 refine ae.prune [0, 1, 4, 5] ?_; simp only [go_sem, simprocAttr]
 refine ae.al (α := Nat) (fun i => ([(0, .sl q f (ints l)), (1, .int .i64 n), (4, .bool false), (5, .int .i64 i)], [])) (fun i => i ≤ l.length ∧ ∃ a : Int, (i = 0 → a = -1) ∧ (0 < i → 0 ≤ a ∧ l[i - 1]? = some a) ∧ S = upI n a (l.drop i)) (fun i => l.length - i) 0 ⟨Nat.zero_le _, -1, fun _ => rfl, fun h => absurd h (by omega), hS⟩ rfl ?_
 rintro i ⟨hi, a, ha0, ha1, hrun⟩ ih
 simp only
 by_cases hle : i < l.length
 ·have e4 : (i : Int) < l.length := by omega
  have e5 : (0 : Int) ≤ i := by omega
  have e6 : (i : Int) + 1 = ((i + 1 : Nat) : Int) := by omega
  have hx : l[i]? = some l[i] := List.getElem?_eq_getElem hle
  have hdr : l.drop i = l[i] :: l.drop (i + 1) := List.drop_eq_getElem_cons hle
  rw [hdr, upI] at hrun
  generalize l[i] = k at hx hrun
  rcases Nat.eq_zero_or_pos i with h0 | h0
  ·have g1 := ha0 h0
   subst h0 g1
   have g2 : ¬ (0 : Int) < ((0 : Nat) : Int) := by omega
   by_cases k1 : k < 0
   ·have k2 : k ≤ -1 := by omega
    simp only [k2, decide_true, if_true] at hrun
    subst hrun
    repeat' (first
 | refine gCt rfl ?_
 | ((first
 | ((first | refine gR fp43 ?_ | refine gD 4 29 rj fp43 ?_); intro K hK)
 | (refine ab ?_ ?_ <;> intro hb <;> (try simp only [bls] at hb) <;> (try simp only [hb]))
 | refine gRe [] [.tmp 4] rfl rfl ?_) <;> (try simp only [go_sem, simprocAttr, e4, e5, e6, hx, k1, Option.some.injEq, forall_eq']))
 | (refine hK _ _ ?_; clear hK K; simp only [go_sem, simprocAttr])
 | refine gCd ?_ | refine brT ?_ | refine brF ?_
 | (refine brS ?_ ?_ <;> intro hc <;> (try simp only [bls] at hc) <;> (try simp only [hc, bls]))
 | intro _ | refine And.intro ?_ ?_)
    all_goals try exact zsd
   have k2 : ¬ k ≤ -1 := by omega
   simp only [k2, decide_false, Bool.false_eq_true, if_false] at hrun
   by_cases k3 : n ≤ k
   ·simp only [k3, decide_true, if_true] at hrun
    subst hrun
    repeat' (first
 | refine gCt rfl ?_
 | ((first
 | ((first | refine gR fp43 ?_ | refine gD 4 29 rj fp43 ?_); intro K hK)
 | (refine ab ?_ ?_ <;> intro hb <;> (try simp only [bls] at hb) <;> (try simp only [hb]))
 | refine gRe [] [.tmp 4] rfl rfl ?_) <;> (try simp only [go_sem, simprocAttr, e4, e5, e6, hx, k1, k3, g2, Option.some.injEq, forall_eq']))
 | (refine hK _ _ ?_; clear hK K; simp only [go_sem, simprocAttr])
 | refine gCd ?_ | refine brT ?_ | refine brF ?_
 | (refine brS ?_ ?_ <;> intro hc <;> (try simp only [bls] at hc) <;> (try simp only [hc, bls]))
 | intro _ | refine And.intro ?_ ?_)
    all_goals try exact zsd
   simp only [k3, decide_false, Bool.false_eq_true, if_false] at hrun
   repeat' (first
 | refine gCt rfl ?_
 | ((first
 | ((first | refine gR fp43 ?_ | refine gD 4 29 rj fp43 ?_); intro K hK)
 | (refine ab ?_ ?_ <;> intro hb <;> (try simp only [bls] at hb) <;> (try simp only [hb]))
 | refine gRe [] [.tmp 4] rfl rfl ?_) <;> (try simp only [go_sem, simprocAttr, e4, e5, e6, hx, k1, k3, g2, Option.some.injEq, forall_eq']))
 | (refine hK _ _ ?_; clear hK K; simp only [go_sem, simprocAttr])
 | refine gCd ?_ | refine brT ?_ | refine brF ?_
 | (refine brS ?_ ?_ <;> intro hc <;> (try simp only [bls] at hc) <;> (try simp only [hc, bls]))
 | intro _ | refine And.intro ?_ ?_)
   all_goals try exact zsd
   refine ae.prune [0, 1, 4, 5] ?_; simp only [go_sem, simprocAttr]
   exact (ih 1 ⟨by omega, k, fun h => absurd h (by omega), fun _ => ⟨by omega, hx⟩, hrun⟩ (by omega)).cast rfl rfl
  ·obtain ⟨g1, g3⟩ := ha1 h0
   have g2 : (0 : Int) < (i : Int) := by omega
   have g4 : (i : Int) - 1 = ((i - 1 : Nat) : Int) := by omega
   have g5 : ((i - 1 : Nat) : Int) < l.length := by omega
   have g6 : (0 : Int) ≤ ((i - 1 : Nat) : Int) := by omega
   have g7 : (i : Int) - 1 ≤ 9223372036854775807 := by omega
   by_cases k1 : k < 0
   ·have k2 : k ≤ a := by omega
    simp only [k2, decide_true, if_true] at hrun
    subst hrun
    repeat' (first
 | refine gCt rfl ?_
 | ((first
 | ((first | refine gR fp43 ?_ | refine gD 4 29 rj fp43 ?_); intro K hK)
 | (refine ab ?_ ?_ <;> intro hb <;> (try simp only [bls] at hb) <;> (try simp only [hb]))
 | refine gRe [] [.tmp 4] rfl rfl ?_) <;> (try simp only [go_sem, simprocAttr, e4, e5, e6, hx, k1, g2, g3, g4, g5, g6, Option.some.injEq, forall_eq']))
 | (refine hK _ _ ?_; clear hK K; simp only [go_sem, simprocAttr])
 | refine gCd ?_ | refine brT ?_ | refine brF ?_
 | (refine brS ?_ ?_ <;> intro hc <;> (try simp only [bls] at hc) <;> (try simp only [hc, bls]))
 | intro _ | refine And.intro ?_ ?_)
    all_goals try exact zsd
   by_cases k3 : n ≤ k
   ·have hz : S = false := by rw [hrun]; split <;> simp [k3]
    subst hz
    repeat' (first
 | refine gCt rfl ?_
 | ((first
 | ((first | refine gR fp43 ?_ | refine gD 4 29 rj fp43 ?_); intro K hK)
 | (refine ab ?_ ?_ <;> intro hb <;> (try simp only [bls] at hb) <;> (try simp only [hb]))
 | refine gRe [] [.tmp 4] rfl rfl ?_) <;> (try simp only [go_sem, simprocAttr, e4, e5, e6, hx, k1, k3, g2, g3, g4, g5, g6, Option.some.injEq, forall_eq']))
 | (refine hK _ _ ?_; clear hK K; simp only [go_sem, simprocAttr])
 | refine gCd ?_ | refine brT ?_ | refine brF ?_
 | (refine brS ?_ ?_ <;> intro hc <;> (try simp only [bls] at hc) <;> (try simp only [hc, bls]))
 | intro _ | refine And.intro ?_ ?_)
    all_goals try exact zsd
   by_cases k2 : k ≤ a
   ·simp only [k2, decide_true, if_true] at hrun
    subst hrun
    repeat' (first
 | refine gCt rfl ?_
 | ((first
 | ((first | refine gR fp43 ?_ | refine gD 4 29 rj fp43 ?_); intro K hK)
 | (refine ab ?_ ?_ <;> intro hb <;> (try simp only [bls] at hb) <;> (try simp only [hb]))
 | refine gRe [] [.tmp 4] rfl rfl ?_) <;> (try simp only [go_sem, simprocAttr, e4, e5, e6, hx, k1, k3, k2, g2, g3, g4, g5, g6, Option.some.injEq, forall_eq']))
 | (refine hK _ _ ?_; clear hK K; simp only [go_sem, simprocAttr])
 | refine gCd ?_ | refine brT ?_ | refine brF ?_
 | (refine brS ?_ ?_ <;> intro hc <;> (try simp only [bls] at hc) <;> (try simp only [hc, bls]))
 | intro _ | refine And.intro ?_ ?_)
    all_goals try exact zsd
   ·simp only [k2, k3, decide_false, Bool.false_eq_true, if_false] at hrun
    repeat' (first
 | refine gCt rfl ?_
 | ((first
 | ((first | refine gR fp43 ?_ | refine gD 4 29 rj fp43 ?_); intro K hK)
 | (refine ab ?_ ?_ <;> intro hb <;> (try simp only [bls] at hb) <;> (try simp only [hb]))
 | refine gRe [] [.tmp 4] rfl rfl ?_) <;> (try simp only [go_sem, simprocAttr, e4, e5, e6, hx, k1, k3, k2, g2, g3, g4, g5, g6, Option.some.injEq, forall_eq']))
 | (refine hK _ _ ?_; clear hK K; simp only [go_sem, simprocAttr])
 | refine gCd ?_ | refine brT ?_ | refine brF ?_
 | (refine brS ?_ ?_ <;> intro hc <;> (try simp only [bls] at hc) <;> (try simp only [hc, bls]))
 | intro _ | refine And.intro ?_ ?_)
    all_goals try exact zsd
    refine ae.prune [0, 1, 4, 5] ?_; simp only [go_sem, simprocAttr]
    exact (ih (i + 1) ⟨by omega, k, fun h => absurd h (by omega), fun _ => ⟨by omega, by rw [Nat.add_sub_cancel]; exact hx⟩, hrun⟩ (by omega)).cast rfl rfl
 ·have e4 : ¬ (i : Int) < l.length := by omega
  rw [List.drop_of_length_le (by omega), upI] at hrun
  subst hrun
  repeat' (first
 | refine gCt rfl ?_
 | ((first
 | ((first | refine gR fp43 ?_ | refine gD 4 29 rj fp43 ?_); intro K hK)
 | (refine ab ?_ ?_ <;> intro hb <;> (try simp only [bls] at hb) <;> (try simp only [hb]))
 | refine gRe [] [.tmp 4] rfl rfl ?_) <;> (try simp only [go_sem, simprocAttr, e4]))
 | (refine hK _ _ ?_; clear hK K; simp only [go_sem, simprocAttr])
 | refine gCd ?_ | refine brT ?_ | refine brF ?_
 | (refine brS ?_ ?_ <;> intro hc <;> (try simp only [bls] at hc) <;> (try simp only [hc, bls]))
 | intro _ | refine And.intro ?_ ?_)
  all_goals try exact zsd
end Go.Rad
namespace Go.Rad
open Go
def iv (n : Node) : Bool := decide (n.op ≠ 6)
def cg (l : List Node) : Bool := l.all iv && eV l
theorem mC {a b : List Node} (h : a <+: b) (i : Nat) (n : Node) (hi : a[i]? = some n) : b[i]? = some n := by
 obtain ⟨t, rfl⟩ := h
 rw [List.getElem?_append_left (List.getElem?_eq_some_iff.1 hi).1]
 exact hi
theorem ox {n : Node} (h : aD n = true) : n.name.size ≤ 32 := by
 have h0 : ByteArray.empty.size = 0 := rfl
 simp only [aD] at h
 split at h
 ·simp only [Bool.and_eq_true, Bool.not_eq_true', decide_eq_false_iff_not, Decidable.not_not] at h; rw [h.1.2, h0]; omega
 ·split at h
  ·simp only [Bool.and_eq_true, Bool.not_eq_true', decide_eq_false_iff_not, Decidable.not_not] at h; rw [h.1.2, h0]; omega
  ·split at h
   ·simp only [Bool.and_eq_true, Bool.not_eq_true', decide_eq_false_iff_not, Decidable.not_not] at h; rw [h.1.2, h0]; omega
   ·split at h
    ·simp only [Bool.and_eq_true, Bool.not_eq_true', decide_eq_false_iff_not, Decidable.not_not] at h; rw [h.1.1.1.2, h0]; omega
    ·split at h
     ·simp only [Bool.and_eq_true, bl, decide_eq_true_eq] at h; exact h.1.2.2
     ·cases h
theorem dT {l : List Node} (h : az l = true) : ∀ n ∈ l, n.name.size ≤ maxLen ∧ n.l.length ≤ maxLen := by
 intro n hn
 obtain ⟨_, hall, _, _⟩ := bH h
 have hs := ox (List.all_eq_true.1 hall n hn)
 obtain ⟨i, hi⟩ := List.mem_iff_getElem?.1 hn
 have := (dp h (fun n hn => by have := ox (List.all_eq_true.1 hall n hn); unfold maxLen; omega)).2 i n hi
 unfold maxLen
 omega
theorem ye {n : Node} {F : Int → Int} (h : aD n = true) : aD { n with l := n.l.map F } = true := by
 simp only [aD, List.length_map] at h ⊢
 exact h
theorem BN {A : List Int} {v : Int} : atF (A ++ [v]) (A.length : Nat) = v := by
 simp [atF, List.getD]
theorem C2 {A : List Int} {B : List Int} {l : List Int} (h : ∀ k ∈ l, 0 ≤ k ∧ k < (A.length : Int)) : l.map (atF (A ++ B)) = l.map (atF A) :=
 List.map_congr_left fun k hk => qp (h k hk).1 (h k hk).2
def okN (n : Node) : Prop := aD n = true ∧ n.op ≠ 6
def He (nm : ByteArray → List Node → Out) : Prop := ∀ s out o2 v, (∀ n ∈ out, okN n) → nm s out = (o2, v, 0) → out <+: o2 ∧ (∀ n ∈ o2, okN n) ∧ Kids o2 out.length [v] o2.length
theorem sD {nm : ByteArray → List Node → Out} (hnm : He nm) : ∀ (ns : List Node) (i : Nat) (st st' : List Int) (A : List Int) (out : List Node) (b : Nat) (o2 : List Node) (v : Int),
  ed ns i st = some st' → A.length = i → (∀ k ∈ st, 0 ≤ k ∧ k < (i : Int)) → Kids out b (st.map (atF A)) out.length → (∀ n ∈ out, okN n) → goT nm ns A out = (o2, v, 0) →
  out <+: o2 ∧ (∀ n ∈ o2, okN n) ∧ ∃ A2, A2.length = i + ns.length ∧ v = A2.getLastD 0 ∧ (∀ k ∈ st', 0 ≤ k ∧ k < ((i + ns.length : Nat) : Int)) ∧ Kids o2 b (st'.map (atF A2)) o2.length
 | [], i, st, st', A, out, b, o2, v, hst, hA, hk, hkid, hok, h => by
  simp only [ed, Option.some.injEq] at hst
  simp only [goT, Prod.mk.injEq] at h
  obtain ⟨rfl, rfl, _⟩ := h
  subst hst
  exact ⟨List.prefix_rfl, hok, A, by simpa using hA, rfl, by simpa using hk, hkid⟩
 | n :: ns, i, st, st', A, out, b, o2, v, hst, hA, hk, hkid, hok, h => by
  simp only [ed] at hst
  split at hst
  ·rename_i hc
   obtain ⟨hsh, hle, hdr⟩ := hc
   rw [goT] at h
   split at h
   ·rename_i he
    rcases hs : stepT nm n A out with ⟨u, w, e⟩
    rw [hs] at h he
    simp only at h he
    subst he
    have e1 : st = st.take (st.length - n.l.length) ++ n.l := by
     conv => lhs; rw [← List.take_append_drop (st.length - n.l.length) st]
     rw [hdr]
    have hk1 : ∀ k ∈ st.take (st.length - n.l.length), 0 ≤ k ∧ k < (A.length : Int) := fun k hk2 => by have := hk k (List.mem_of_mem_take hk2); omega
    have hnew : out <+: u ∧ (∀ n ∈ u, okN n) ∧ Kids u b ((st.take (st.length - n.l.length)).map (atF A) ++ [w]) u.length := by
     rw [e1, List.map_append] at hkid
     obtain ⟨m, q1, q2⟩ := hkid.split
     unfold stepT at hs
     split at hs
     ·rename_i h6
      have hl0 : n.l = [] := by
       simp only [aD, h6] at hsh
       simp only [show ¬ (6 : Int) = 1 by decide, show ¬ (6 : Int) = 2 by decide, show ¬ ((6 : Int) = 3 ∨ (6 : Int) = 4) by decide, show ¬ (6 : Int) = 5 by decide, if_false, if_true, Bool.and_eq_true, decide_eq_true_eq] at hsh
       exact List.eq_nil_of_length_eq_zero hsh.2
      obtain ⟨r1, r3, r2⟩ := hnm _ _ _ _ hok hs
      rw [hl0, List.map_nil] at q2
      cases q2
      exact ⟨r1, r3, (q1.mono (mC r1)).append r2⟩
     ·rename_i h6
      unfold ek at hs
      split at hs
      ·simp at hs
      ·simp only [Prod.mk.injEq] at hs
       obtain ⟨rfl, rfl, _⟩ := hs
       have hp : out <+: out ++ [{ n with l := n.l.map (atF A) }] := List.prefix_append _ _
       refine ⟨hp, fun x hx => ?_, ?_⟩
       ·rcases List.mem_append.1 hx with hx | hx
        ·exact hok x hx
        ·simp only [List.mem_singleton] at hx
         subst hx
         exact ⟨ye hsh, h6⟩
       ·refine (q1.mono (mC hp)).append ?_
        have hc : Kids (out ++ [{ n with l := n.l.map (atF A) }]) m [((out.length : Nat) : Int)] (out.length + 1) := .cons (n := { n with l := n.l.map (atF A) }) (by simp) (q2.mono (mC hp)) .nil
        simpa using hc
    obtain ⟨n1, n2, n3⟩ := hnew
    have e2 : (st.take (st.length - n.l.length) ++ [(i : Int)]).map (atF (A ++ [w])) = (st.take (st.length - n.l.length)).map (atF A) ++ [w] := by
     rw [List.map_append, C2 hk1, List.map_cons, List.map_nil, ← hA, BN]
    obtain ⟨p1, p2, A2, p3, p4, p5, p6⟩ := sD hnm ns (i + 1) _ st' (A ++ [w]) u b o2 v hst (by simp [hA]) (fun k hk2 => by
     rcases List.mem_append.1 hk2 with hk2 | hk2
     ·have := hk k (List.mem_of_mem_take hk2); omega
     ·simp only [List.mem_singleton] at hk2; omega) (by rw [e2]; exact n3) n2 h
    refine ⟨n1.trans p1, p2, A2, by rw [p3]; simp; omega, p4, fun k hk2 => ?_, p6⟩
    have := p5 k hk2
    simp only [List.length_cons]; omega
   ·rename_i he
    simp only [Prod.mk.injEq] at h
    exact absurd h.2.2 he
  ·cases hst
theorem sE {nm : ByteArray → List Node → Out} (hnm : He nm) {l : List Node} (hl : az l = true) {out o2 : List Node} {v : Int} (hok : ∀ n ∈ out, okN n) (h : goT nm l [] out = (o2, v, 0)) : out <+: o2 ∧ (∀ n ∈ o2, okN n) ∧ Kids o2 out.length [v] o2.length := by
 obtain ⟨hkl, _, h1, h2⟩ := bH hl
 simp only [az, Bool.and_eq_true] at hl
 obtain ⟨_, h3⟩ := hl
 split at h3
 ·rename_i st hst
  obtain ⟨p1, p2, A2, p3, p4, p5, p6⟩ := sD hnm l 0 [] st [] out out.length o2 v hst rfl (fun k hk => by simp at hk) (by rw [List.map_nil]; exact .nil) hok h
  have hk := oB l l 0 [] st rfl hst .nil
  rw [Nat.zero_add] at hk
  simp only [decide_eq_true_eq] at h3
  match st, h3, hk, p6 with
  | [k], _, hk, p6 =>
   have e := hk.one.1
   refine ⟨p1, p2, ?_⟩
   rw [List.map_cons, List.map_nil] at p6
   have : atF A2 k = v := by
    rw [p4, e]
    obtain ⟨m, hm⟩ : ∃ m, l.length = m + 1 := ⟨l.length - 1, by omega⟩
    rw [hm, List.getLastD_eq_getLast?, List.getLast?_eq_getElem?, p3, hm]
    simp [atF, List.getD]
   rw [this] at p6
   exact p6
 ·cases h3
theorem Af {ds : List Df} (hds : ∀ d ∈ ds, az d.l = true) : ∀ (f : Nat) (op : List ByteArray), He (aP ds f op) := by
 intro f
 induction f with
 | zero => intro op s out o2 v _ h; simp [aP] at h
 | succ f ih =>
  intro op s out o2 v hok h
  rw [aP] at h
  split at h
  ·simp at h
  ·rename_i d hf
   split at h
   ·simp at h
   ·exact sE (ih _) (hds d (List.mem_of_find?_eq_some hf)) hok h
theorem pC {nm : ByteArray → List Node → Out} {l : List Node} (hp : ∀ n ∈ l, n.op ≠ 6) (hlen : l.length ≤ 1024) (hk : ∀ (i : Nat) (n : Node), l[i]? = some n → ∀ k ∈ n.l, 0 ≤ k ∧ k < (i : Int)) :
  ∀ (r i : Nat), i + r = l.length → goT nm (l.drop i) (rg i) (l.take i) = (l, (rg l.length).getLastD 0, 0)
 | 0, i, h => by
  have : i = l.length := by omega
  subst this
  simp [goT]
 | r + 1, i, h => by
  have hlt : i < l.length := by omega
  have hx : l[i]? = some l[i] := List.getElem?_eq_getElem hlt
  have hmap : l[i].l.map (atF (rg i)) = l[i].l := by
   conv => rhs; rw [← List.map_id l[i].l]
   refine List.map_congr_left fun k hk2 => ?_
   have := hk i _ hx k hk2
   obtain ⟨m, rfl⟩ : ∃ m : Nat, k = m := ⟨k.toNat, by omega⟩
   have hm : m < i := by omega
   simp [atF, List.getD, List.getElem?_range, hm]
  have hs : stepT nm l[i] (rg i) (l.take i) = (l.take (i + 1), (i : Int), 0) := by
   rw [stepT, if_neg (hp _ (List.getElem_mem hlt)), ek, if_neg (by simp; omega), hmap, take_one hx]
   have e : (l.take i).length = i := by rw [List.length_take]; omega
   rw [e]
  rw [List.drop_eq_getElem_cons hlt, goT, hs]
  simp only [if_true]
  rw [← mE]
  exact pC hp hlen hk r (i + 1) (by omega)
theorem qD {l : List Node} {ds : List Df} (hp : ∀ n ∈ l, n.op ≠ 6) (hr : az l = true) (hd : bz [] ds = true) : ay l ds = (l, 0) := by
 have hn := fun n hn => (dT hr n hn).1
 have ht := dp hr hn
 obtain ⟨_, _, h1, h2⟩ := bH hr
 have := pC (nm := aP ds (ds.length + 1) []) hp h2 (fun i n hi => (ht.2 i n hi).2.2) l.length 0 (by omega)
 simp only [List.drop_zero, List.take_zero] at this
 rw [show rg 0 = [] from rfl] at this
 rw [ay, if_pos ⟨hr, hd⟩, this]
 simp
theorem iP {l : List Node} {ds : List Df} {x : List Node} (h : ay l ds = (x, 0)) : az l = true ∧ bz [] ds = true ∧ az x = true ∧ ∀ n ∈ x, okN n := by
 rw [ay] at h
 split at h
 ·rename_i hc
  split at h
  ·rename_i he
   simp only [Prod.mk.injEq, and_true] at h
   rcases hg : goT (aP ds (ds.length + 1) []) l [] [] with ⟨o2, v, e⟩
   rw [hg] at he h
   simp only at he h
   subst he h
   obtain ⟨hf1, _⟩ := gG ds [] hc.2
   obtain ⟨p1, p2, p3⟩ := sE (Af (fun d hd => (hf1 d hd).2.2) (ds.length + 1) []) hc.1 (by simp) hg
   have hlen := qH (nm := aP ds (ds.length + 1) []) (fun s out h => fV ds _ _ s out h) l [] [] (by simp)
   rw [hg] at hlen
   exact ⟨hc.1, hc.2, ik p3 (List.all_eq_true.2 fun n hn => (p2 n hn).1) hlen, p2⟩
  ·rename_i he
   simp only [Prod.mk.injEq] at h
   exact absurd h.2 he
 ·simp at h
end Go.Rad
namespace Go.Rad
open Go
structure Lb where
 op : Int
 s : av
 lo : Int
 hi : Int
 name : ByteArray
 deriving DecidableEq, Inhabited
abbrev Lb.node (b : Lb) (l : List Int) : Node := ⟨b.op, b.s, l, b.lo, b.hi, b.name⟩
abbrev Node.lb (n : Node) : Lb := ⟨n.op, n.s, n.lo, n.hi, n.name⟩
inductive Fo where
 | nil
 | node (b : Lb) (k r : Fo)
namespace Fo
def size : Fo → Nat
 | .nil => 0
 | .node _ k r => k.size + 1 + r.size
def deg : Fo → Nat
 | .nil => 0
 | .node _ _ r => r.deg + 1
def app : Fo → Fo → Fo
 | .nil, g => g
 | .node b k r, g => .node b k (r.app g)
abbrev one (b : Lb) (k : Fo) : Fo := .node b k .nil
def roots : Fo → Nat → List Int
 | .nil, _ => []
 | .node _ k r, i => ((i + k.size : Nat) : Int) :: r.roots (i + k.size + 1)
def lay : Fo → Nat → List Node
 | .nil, _ => []
 | .node b k r, i => k.lay i ++ b.node (k.roots i) :: r.lay (i + k.size + 1)
theorem tC (f g : Fo) : (f.app g).size = f.size + g.size := by
 induction f with
 | nil => simp [app, size]
 | node b k r _ ih => simp only [app, size, ih]; omega
theorem pZ (f g : Fo) (i : Nat) : (f.app g).roots i = f.roots i ++ g.roots (i + f.size) := by
 induction f generalizing i with
 | nil => simp [app, roots, size]
 | node b k r _ ih => simp only [app, roots, ih, size, List.cons_append]; congr 3; omega
theorem vV (f g : Fo) (i : Nat) : (f.app g).lay i = f.lay i ++ g.lay (i + f.size) := by
 induction f generalizing i with
 | nil => simp [app, lay, size]
 | node b k r _ ih => simp only [app, lay, ih, size, List.append_assoc, List.cons_append]; congr 4; omega
theorem cS (f : Fo) (i : Nat) : (f.lay i).length = f.size := by
 induction f generalizing i with
 | nil => rfl
 | node b k r ih1 ih2 => simp only [lay, List.length_append, List.length_cons, ih1, ih2, size]; omega
theorem xZ (f : Fo) (i : Nat) : (f.roots i).length = f.deg := by
 induction f generalizing i with
 | nil => rfl
 | node b k r ih1 ih2 => simp only [roots, List.length_cons, ih2, deg]
theorem ur (f : Fo) : f.deg ≤ f.size := by
 induction f with
 | nil => exact Nat.le_refl _
 | node b k r _ ih => simp only [deg, size]; omega
theorem p0 {f : Fo} (h : f.deg = 1) (i : Nat) : f.roots i = [((i + f.size : Nat) : Int) - 1] := by
 match f, h with
 | .node b k .nil, _ => simp only [roots, size]; congr 1; omega
theorem size_pos {f : Fo} (h : f.deg = 1) : 1 ≤ f.size := by have := ur f; omega
def Sub (ns : List Node) : Fo → List Int → Prop
 | .nil, ks => ks = []
 | .node b k r, ks => ∃ (i : Nat) (n : Node) (ks' : List Int), ks = (i : Int) :: ks' ∧ ns[i]? = some n ∧ n.lb = b ∧ k.Sub ns n.l ∧ r.Sub ns ks'
theorem Sub.len {ns : List Node} {f : Fo} {ks : List Int} (h : f.Sub ns ks) : ks.length = f.deg := by
 induction f generalizing ks with
 | nil => simp only [Sub] at h; subst h; rfl
 | node b k r _ ih => obtain ⟨i, n, ks', rfl, _, _, _, h⟩ := h; simp only [List.length_cons, deg, ih h]
theorem Sub.mono {ns ns' : List Node} (hm : ∀ (i : Nat) (n : Node), ns[i]? = some n → ns'[i]? = some n) {f : Fo} {ks : List Int} (h : f.Sub ns ks) : f.Sub ns' ks := by
 induction f generalizing ks with
 | nil => exact h
 | node b k r ih1 ih2 =>
  obtain ⟨i, n, ks', e, h1, h2, h3, h4⟩ := h
  exact ⟨i, n, ks', e, hm _ _ h1, h2, ih1 h3, ih2 h4⟩
theorem Dk {ns : List Node} {lo hi : Nat} {ks : List Int} (h : Kids ns lo ks hi) : ∃ f : Fo, f.Sub ns ks ∧ ks = f.roots lo ∧ hi = lo + f.size ∧ ns.take lo ++ f.lay lo = ns.take hi := by
 induction h with
 | nil => exact ⟨.nil, rfl, rfl, rfl, by simp [lay]⟩
 | @cons lo k hi n ks h1 h2 h3 ih1 ih2 =>
  obtain ⟨f, a1, a2, a3, a4⟩ := ih1
  obtain ⟨g, b1, b2, b3, b4⟩ := ih2
  refine ⟨.node n.lb f g, ⟨k, n, ks, rfl, h1, rfl, a1, b1⟩, ?_, ?_, ?_⟩
  ·simp only [roots, ← a3]; rw [← b2]
  ·simp only [size]; omega
  ·simp only [lay, ← a3]
   rw [← List.append_assoc, a4, ← b4, take_one h1, List.append_assoc, List.cons_append, List.nil_append, show n.lb.node (f.roots lo) = n by rw [← a2]]
theorem kH {ns : List Node} : ∀ (f : Fo) (pre : List Node), pre ++ f.lay pre.length <+: ns → Kids ns pre.length (f.roots pre.length) (pre.length + f.size) ∧ f.Sub ns (f.roots pre.length)
 | .nil, pre, _ => ⟨.nil, rfl⟩
 | .node b k r, pre, h => by
  simp only [lay, ← List.append_assoc] at h
  have h' : pre ++ k.lay pre.length ++ [b.node (k.roots pre.length)] ++ r.lay (pre.length + k.size + 1) <+: ns := by simpa using h
  have h1 : pre ++ k.lay pre.length <+: ns := (List.prefix_append _ _).trans h
  obtain ⟨a1, a2⟩ := kH k pre h1
  have e : (pre ++ k.lay pre.length ++ [b.node (k.roots pre.length)]).length = pre.length + k.size + 1 := by simp [cS]; omega
  obtain ⟨b1, b2⟩ := kH r (pre ++ k.lay pre.length ++ [b.node (k.roots pre.length)]) (by rw [e]; exact h')
  rw [e] at b1 b2
  have hn : ns[pre.length + k.size]? = some (b.node (k.roots pre.length)) := by
   refine mC ((List.prefix_append _ _).trans h') _ _ ?_
   rw [List.getElem?_append_right (by simp [cS])]
   simp [cS]
  refine ⟨?_, _, _, _, rfl, hn, rfl, a2, b2⟩
  simp only [roots, size]
  rw [show pre.length + (k.size + 1 + r.size) = pre.length + k.size + 1 + r.size by omega]
  exact .cons hn a1 b1
theorem Aj {l : List Node} (h : az l = true) : ∃ b k, l = (one b k).lay 0 ∧ (one b k).Sub l [(l.length : Int) - 1] ∧ (one b k).size = l.length := by
 obtain ⟨h1, _, h2, _⟩ := bH h
 obtain ⟨f, a1, a2, a3, a4⟩ := Dk h1
 have hd := a1.len
 match f, hd with
 | .node b k .nil, _ =>
  refine ⟨b, k, ?_, a1, by show (Fo.node b k .nil).size = _; omega⟩
  simpa using a4.symm
theorem AX {f : Fo} (hd : f.deg = 1) (hs : (f.lay 0).all aD = true) (h1 : f.size ≤ 1024) : az (f.lay 0) = true := by
 obtain ⟨a, _⟩ := kH f [] (List.prefix_rfl)
 simp only [List.length_nil, p0 hd, Nat.zero_add] at a
 exact ik (by simpa [cS] using a) hs (by rw [cS]; exact h1)
theorem wF {f : Fo} (hd : f.deg = 1) : f.Sub (f.lay 0) [(f.size : Int) - 1] := by
 obtain ⟨_, a⟩ := kH f [] (List.prefix_rfl)
 simpa [p0 hd] using a
def iA (b : Lb) (d : Nat) : Bool := aD (b.node (List.replicate d 0))
theorem yd {b : Lb} {l : List Int} : aD (b.node l) = iA b l.length := by
 simp only [iA, aD, List.length_replicate]
def all (P : Lb → Fo → Bool) : Fo → Bool
 | .nil => true
 | .node b k r => P b k && k.all P && r.all P
abbrev cM (f : Fo) : Bool := f.all fun b k => iA b k.deg
theorem pH (f : Fo) (i : Nat) : (f.lay i).all aD = f.cM := by
 induction f generalizing i with
 | nil => rfl
 | node b k r ih1 ih2 =>
  simp only [lay, List.all_append, List.all_cons, ih1, ih2, yd, xZ, cM, all]
  cases iA b k.deg <;> cases k.all (fun b k => iA b k.deg) <;> rfl
theorem lay_all {ns : List Node} {P : Lb → Fo → Bool} {Q : Node → Bool} (hPQ : ∀ (n : Node) (k : Fo), k.Sub ns n.l → Q n = P n.lb k) : ∀ (f : Fo) (pre : List Node), pre ++ f.lay pre.length <+: ns → (f.lay pre.length).all Q = f.all P
 | .nil, _, _ => rfl
 | .node b k r, pre, h => by
  simp only [lay, ← List.append_assoc] at h
  have h' : pre ++ k.lay pre.length ++ [b.node (k.roots pre.length)] ++ r.lay (pre.length + k.size + 1) <+: ns := by simpa using h
  have h1 : pre ++ k.lay pre.length <+: ns := (List.prefix_append _ _).trans h
  obtain ⟨_, a2⟩ := kH k pre h1
  have e : (pre ++ k.lay pre.length ++ [b.node (k.roots pre.length)]).length = pre.length + k.size + 1 := by simp [cS]; omega
  have b1 := lay_all hPQ r (pre ++ k.lay pre.length ++ [b.node (k.roots pre.length)]) (by rw [e]; exact h')
  rw [e] at b1
  have c1 := lay_all hPQ k pre h1
  simp only [lay, List.all_append, List.all_cons, c1, b1, all, hPQ (b.node (k.roots pre.length)) k a2]
  cases P b k <;> cases k.all P <;> rfl
theorem zP {P : Lb → Fo → Bool} {Q : Node → Bool} {f : Fo} (hPQ : ∀ (n : Node) (k : Fo), k.Sub (f.lay 0) n.l → Q n = P n.lb k) : (f.lay 0).all Q = f.all P :=
 lay_all hPQ f [] List.prefix_rfl
theorem pY {l : List Node} : az l = true ↔ ∃ f : Fo, f.deg = 1 ∧ l = f.lay 0 ∧ f.cM = true ∧ f.size ≤ 1024 := by
 constructor
 ·intro h
  obtain ⟨_, h2, h3, h4⟩ := bH h
  obtain ⟨b, k, h1, _, h5⟩ := Aj h
  exact ⟨one b k, rfl, h1, by rw [← pH _ 0, ← h1]; exact h2, by rw [h5]; exact h4⟩
 ·rintro ⟨f, h1, rfl, h2, h3⟩
  exact AX h1 (by rw [pH]; exact h2) h3
end Fo
end Go.Rad
namespace Go.Rad
open Go Fo
abbrev br (l : List Bool) : List (List aa) := l.map fun b => [.bool b]
def aY (n : Nat) : List Bool := List.replicate n false
def orB (a b : List Bool) : List Bool := List.zipWith (· || ·) a b
def cd (w : ByteArray) (i : Nat) : Nat := ((w.data.toList[i]?).getD 0).toNat
theorem eX (w : ByteArray) (i : Nat) : kB w i = (cd w i : Int) := rfl
theorem pw (w : ByteArray) (i : Nat) : cd w i ≤ 255 := by
 unfold cd
 have := ((w.data.toList[i]?).getD 0).toNat_lt
 omega
def hit (s : av) (w : ByteArray) (fr : List Bool) (i : Nat) : Bool := fr.getD i false && dz s (cd w i)
def eA (s : av) (w : ByteArray) (fr : List Bool) : List Bool := false :: (List.range w.size).map (hit s w fr)
def itB (g : List Bool → List Bool) : Nat → List Bool → List Bool
 | 0, s => s
 | n + 1, s => itB g n (g s)
def uB (g : List Bool → List Bool) : Nat → List Bool → List Bool
 | 0, s => s
 | n + 1, s => orB s (uB g n (g s))
def km (w : ByteArray) (lo hi : Int) (g : List Bool → List Bool) (s : List Bool) : List Bool := uB g (if hi = -1 then w.size + 1 else (hi - lo).toNat) (itB g lo.toNat s)
def da (w : ByteArray) (b : Lb) (fs : List (List Bool → List Bool)) (s : List Bool) : List Bool :=
 if b.op = 2 then eA b.s w s
 else if b.op = 3 then fs.foldl (fun s f => f s) s
 else if b.op = 4 then fs.foldl (fun o f => orB o (f s)) (aY (w.size + 1))
 else if b.op = 5 then km w b.lo b.hi (fs.headD id) s
 else s
def sem (w : ByteArray) : Fo → List (List Bool → List Bool)
 | .nil => []
 | .node b k r => da w b (sem w k) :: sem w r
theorem bA {a b : List Bool} {n : Nat} (ha : a.length = n) (hb : b.length = n) : (orB a b).length = n := by simp [orB, ha, hb]
theorem cu {a b : List Bool} {n : Nat} (ha : a.length = n) (hb : b.length = n) (i : Nat) : (orB a b).getD i false = (a.getD i false || b.getD i false) := by
 simp only [orB, List.getD_eq_getElem?_getD, List.getElem?_zipWith]
 by_cases h : i < n
 ·rw [List.getElem?_eq_getElem (by omega), List.getElem?_eq_getElem (by omega)]; rfl
 ·rw [List.getElem?_eq_none (by omega : a.length ≤ i), List.getElem?_eq_none (by omega : b.length ≤ i)]; rfl
theorem fM {a b : List Bool} (h : a.length = b.length) (hg : ∀ i, a.getD i false = b.getD i false) : a = b := by
 refine List.ext_getElem h fun i h1 h2 => ?_
 have := hg i
 simpa [List.getD, h1, h2] using this
theorem bZ (n : Nat) : (aY n).length = n := by simp [aY]
theorem eM (n i : Nat) : (aY n).getD i false = false := by
 simp only [aY, List.getD_eq_getElem?_getD, List.getElem?_replicate]
 split <;> rfl
theorem xO {a b c : List Bool} {n : Nat} (ha : a.length = n) (hb : b.length = n) (hc : c.length = n) : orB (orB a b) c = orB a (orB b c) := by
 refine fM (by rw [bA (bA ha hb) hc, bA ha (bA hb hc)]) fun i => ?_
 rw [cu (bA ha hb) hc, cu ha hb, cu ha (bA hb hc), cu hb hc, Bool.or_assoc]
theorem Am {a b c d : List Bool} {n : Nat} (ha : a.length = n) (hb : b.length = n) (hc : c.length = n) (hd : d.length = n) : orB (orB a b) (orB c d) = orB (orB a c) (orB b d) := by
 refine fM (by rw [bA (bA ha hb) (bA hc hd), bA (bA ha hc) (bA hb hd)]) fun i => ?_
 rw [cu (bA ha hb) (bA hc hd), cu ha hb, cu hc hd, cu (bA ha hc) (bA hb hd), cu ha hc, cu hb hd]
 cases a.getD i false <;> cases b.getD i false <;> cases c.getD i false <;> cases d.getD i false <;> rfl
structure Add (n : Nat) (g : List Bool → List Bool) : Prop where
 len : ∀ s, s.length = n → (g s).length = n
 or : ∀ s t, s.length = n → t.length = n → g (orB s t) = orB (g s) (g t)
 none : g (aY n) = aY n
theorem Add.same (n : Nat) : Add n id := ⟨fun _ h => h, fun _ _ _ _ => rfl, rfl⟩
theorem Add.comp {n : Nat} {f g : List Bool → List Bool} (hf : Add n f) (hg : Add n g) : Add n fun s => f (g s) :=
 ⟨fun s h => hf.len _ (hg.len s h), fun s t hs ht => by rw [hg.or s t hs ht, hf.or _ _ (hg.len s hs) (hg.len t ht)], by rw [hg.none, hf.none]⟩
theorem s7 {a : List Bool} : orB a a = a := by
 refine fM (by rw [bA rfl rfl]) fun i => ?_
 rw [cu rfl rfl, Bool.or_self]
theorem Add.sum {n : Nat} {f g : List Bool → List Bool} (hf : Add n f) (hg : Add n g) : Add n fun s => orB (f s) (g s) :=
 ⟨fun s h => bA (hf.len s h) (hg.len s h), fun s t hs ht => by rw [hf.or s t hs ht, hg.or s t hs ht, Am (hf.len s hs) (hf.len t ht) (hg.len s hs) (hg.len t ht)], by rw [hf.none, hg.none, s7]⟩
theorem Add.it {n : Nat} {g : List Bool → List Bool} (hg : Add n g) : ∀ k, Add n (itB g k)
 | 0 => Add.same n
 | k + 1 => (Add.it hg k).comp hg
theorem Add.u {n : Nat} {g : List Bool → List Bool} (hg : Add n g) : ∀ k, Add n (uB g k)
 | 0 => Add.same n
 | k + 1 => (Add.same n).sum ((Add.u hg k).comp hg)
theorem Add.one {s : av} {w : ByteArray} : Add (w.size + 1) (eA s w) := by
 have hl : ∀ fr, (eA s w fr).length = w.size + 1 := fun fr => by simp [eA]
 refine ⟨fun fr _ => hl fr, fun a b ha hb => ?_, ?_⟩
 ·refine fM (by rw [hl, bA (hl a) (hl b)]) fun i => ?_
  rw [cu (hl a) (hl b)]
  cases i with
  | zero => rfl
  | succ i =>
   simp only [eA, List.getD_cons_succ]
   simp only [List.getD_eq_getElem?_getD, List.getElem?_map, List.getElem?_range]
   by_cases h : i < w.size
   ·simp only [h, getElem?_pos, List.getElem?_range, Option.map_some, Option.getD_some, hit]
    rw [cu ha hb, Bool.and_or_distrib_right]
   ·simp [h]
 ·refine fM (by rw [hl, bZ]) fun i => ?_
  rw [eM]
  cases i with
  | zero => rfl
  | succ i =>
   simp only [eA, List.getD_cons_succ]
   simp only [List.getD_eq_getElem?_getD, List.getElem?_map]
   cases h : (List.range w.size)[i]? with
   | none => rfl
   | some j => simp only [Option.map_some, Option.getD_some, hit, eM, Bool.false_and]
theorem Add.row {n : Nat} : ∀ {fs : List (List Bool → List Bool)}, (∀ f ∈ fs, Add n f) → Add n fun s => fs.foldl (fun s f => f s) s
 | [], _ => Add.same n
 | f :: fs, h => (Add.row (fs := fs) fun g hg => h g (by simp [hg])).comp (h f (by simp))
theorem Add.alt {n : Nat} : ∀ {fs : List (List Bool → List Bool)} {o : List Bool → List Bool}, Add n o → (∀ f ∈ fs, Add n f) → Add n fun s => fs.foldl (fun o f => orB o (f s)) (o s)
 | [], _, ho, _ => ho
 | f :: fs, o, ho, h => Add.alt (fs := fs) (o := fun s => orB (o s) (f s)) (ho.sum (h f (by simp))) fun g hg => h g (by simp [hg])
theorem Add.const (n : Nat) : Add n fun _ => aY n := ⟨fun _ _ => bZ n, fun _ _ _ _ => s7.symm, rfl⟩
theorem Add.rep {w : ByteArray} {lo hi : Int} {g : List Bool → List Bool} (hg : Add (w.size + 1) g) : Add (w.size + 1) (km w lo hi g) := (Add.u hg _).comp (Add.it hg _)
theorem Add.node {w : ByteArray} {b : Lb} {fs : List (List Bool → List Bool)} (h : ∀ f ∈ fs, Add (w.size + 1) f) : Add (w.size + 1) (da w b fs) := by
 have e : da w b fs = if b.op = 2 then eA b.s w else if b.op = 3 then (fun s => fs.foldl (fun s f => f s) s) else if b.op = 4 then (fun s => fs.foldl (fun o f => orB o (f s)) (aY (w.size + 1))) else if b.op = 5 then km w b.lo b.hi (fs.headD id) else id := by
  funext s
  unfold da
  split
  ·rfl
  ·split
   ·rfl
   ·split
    ·rfl
    ·split <;> rfl
 rw [e]
 split
 ·exact Add.one
 ·split
  ·exact Add.row h
  ·split
   ·exact Add.alt (Add.const _) h
   ·split
    ·refine Add.rep ?_
     cases fs with
     | nil => exact Add.same _
     | cons f fs => exact h f (by simp)
    ·exact Add.same _
theorem iX (w : ByteArray) : ∀ (f : Fo), ∀ g ∈ sem w f, Add (w.size + 1) g
 | .nil, g, h => by simp [sem] at h
 | .node b k r, g, h => by
  simp only [sem, List.mem_cons] at h
  rcases h with rfl | h
  ·exact Add.node (iX w k)
  ·exact iX w r g h
section
variable {n : Nat} {g : List Bool → List Bool} (hg : Add n g) {s : List Bool} (hs : s.length = n)
theorem zF (g : List Bool → List Bool) : ∀ (i j : Nat) (s : List Bool), itB g (i + j) s = itB g j (itB g i s)
 | 0, j, s => by simp [itB]
 | i + 1, j, s => by rw [Nat.add_right_comm, itB, zF g i j, itB]
theorem gq (g : List Bool → List Bool) (i : Nat) (s : List Bool) : itB g (i + 1) s = g (itB g i s) := zF g i 1 s
theorem vS {g : List Bool → List Bool} {s : List Bool} {i : Nat} (h : g (itB g i s) = itB g i s) (j : Nat) : itB g (i + j) s = itB g i s := by
 induction j with
 | zero => rfl
 | succ j ih => rw [← Nat.add_assoc, gq, ih, h]
include hg hs
theorem di (i : Nat) : (itB g i s).length = n := (Add.it hg i).len s hs
theorem jr (i : Nat) : (uB g i s).length = n := (Add.u hg i).len s hs
theorem oL : ∀ (i : Nat), uB g (i + 1) s = orB (uB g i s) (itB g (i + 1) s) := by
 intro i
 induction i generalizing s with
 | zero => rfl
 | succ i ih =>
  rw [uB, ih (hg.len s hs), ← xO hs (jr hg (hg.len s hs) i) (di hg (hg.len s hs) (i + 1))]
  rfl
theorem JR : ∀ (i : Nat), g (uB g i s) = uB g i (g s) := by
 intro i
 induction i generalizing s with
 | zero => rfl
 | succ i ih => rw [uB, hg.or _ _ hs (jr hg (hg.len s hs) i), ih (hg.len s hs), uB]
theorem A7 (i : Nat) : uB g (i + 1) s = orB s (g (uB g i s)) := by rw [uB, JR hg hs]
theorem jM {i : Nat} (h : uB g (i + 1) s = uB g i s) (j : Nat) : uB g (i + j) s = uB g i s := by
 induction j with
 | zero => rfl
 | succ j ih => rw [← Nat.add_assoc, A7 hg hs, ih, ← A7 hg hs, h]
end
def c7 (s : List Bool) : Nat := s.countP id
theorem qq {n : Nat} : ∀ {a b : List Bool}, a.length = n → b.length = n → c7 a ≤ c7 (orB a b) ∧ (c7 a = c7 (orB a b) → orB a b = a)
 | [], [], _, _ => ⟨Nat.le_refl _, fun _ => rfl⟩
 | x :: a, y :: b, ha, hb => by
  obtain ⟨h1, h2⟩ := qq (n := a.length) (a := a) (b := b) rfl (by simp only [List.length_cons] at ha hb; omega)
  simp only [c7, orB, List.zipWith_cons_cons, List.countP_cons] at h1 h2 ⊢
  cases x <;> cases y <;> simp only [Bool.or_true, Bool.or_false, Bool.false_or, Bool.true_or, id] at h1 h2 ⊢ <;> simp only [Bool.false_eq_true, if_false, if_true] at h1 h2 ⊢ <;> refine ⟨by omega, fun h => ?_⟩ <;> first | omega | rw [h2 (by omega)]
 | [], _ :: _, ha, hb => by simp at ha hb; omega
 | _ :: _, [], ha, hb => by simp at ha hb; omega
theorem ng {a : List Bool} : c7 a ≤ a.length := List.countP_le_length
theorem A6 {n : Nat} {g : List Bool → List Bool} (hg : Add n g) {s : List Bool} (hs : s.length = n) : uB g (n + 1) s = uB g n s := by
 have key : ∀ k, (∀ i, i < k → uB g (i + 1) s ≠ uB g i s) → k ≤ c7 (uB g k s) := by
  intro k
  induction k with
  | zero => intro _; exact Nat.zero_le _
  | succ k ih =>
   intro h
   have h1 := ih fun i hi => h i (by omega)
   have h2 := h k (by omega)
   rw [oL hg hs] at h2 ⊢
   obtain ⟨a, b⟩ := qq (jr hg hs k) (di hg hs (k + 1))
   have : c7 (uB g k s) ≠ c7 (orB (uB g k s) (itB g (k + 1) s)) := fun e => h2 (b e)
   omega
 by_cases h : ∃ i, i < n + 1 ∧ uB g (i + 1) s = uB g i s
 ·obtain ⟨i, hi, e⟩ := h
  have e1 := jM hg hs e (n - i)
  have e2 := jM hg hs e (n + 1 - i)
  rw [show i + (n - i) = n by omega] at e1
  rw [show i + (n + 1 - i) = n + 1 by omega] at e2
  rw [e1, e2]
 ·have := key (n + 1) fun i hi e => h ⟨i, hi, e⟩
  have h2 := ng (a := uB g (n + 1) s)
  rw [jr hg hs] at h2
  omega
theorem Ew {n : Nat} {g : List Bool → List Bool} (hg : Add n g) {s : List Bool} (hs : s.length = n) {k : Nat} (h : uB g (k + 1) s = uB g k s) : uB g n s = uB g k s := by
 rcases Nat.le_total k n with hk | hk
 ·have := jM hg hs h (n - k)
  rw [show k + (n - k) = n by omega] at this
  exact this
 ·have := jM hg hs (A6 hg hs) (k - n)
  rw [show n + (k - n) = k by omega] at this
  exact this.symm
theorem iY (w : ByteArray) (f : Fo) : (sem w f).length = f.deg := by
 induction f with
 | nil => rfl
 | node b k r _ ih => simp only [sem, List.length_cons, ih, deg]
end Go.Rad
namespace Go.Rad
open Go
theorem ae.Mr {P : Program} {f : Nat} {fn : Func} {df : List dt} {k : List Item} {tm : Tm} {sto : Sto} {R : aa → Sto → Prop} (id : Nat) {g esz : Nat} {l : List (List aa)} (l' : List (List aa)) (hg : ak sto id = some (g, .row esz l)) (hl : l = l') (h : ae P f fn df k tm (aF sto id (g, .row esz l')) R) : ae P f fn df k tm sto R := by
 subst hl
 have hs : ∀ i, ak (aF sto id (g, .row esz l)) i = ak sto i := by
  intro i
  rw [bD]
  split
  ·rename_i e; subst e; exact hg.symm
  ·rfl
 refine ⟨fun E G a w b h1 h2 h3 h4 h5 h6 h7 h8 h9 => h.go E G a w b h1 h2 h3 h4 h5 h6 h7 ⟨fun i g' o hi => ?_, fun i i' g1 g2 o o' hi hi' => ?_⟩ h9⟩
 ·rw [hs] at hi; exact h8.obj _ _ _ hi
 ·rw [hs] at hi hi'; exact h8.apart _ _ _ _ _ _ hi hi'
end Go.Rad
namespace Go.Rad
open Go Go.Proofs
set_option linter.all false
set_option maxRecDepth 20000
set_option maxHeartbeats 4000000
abbrev lB (ls : List (List Node)) : List (List aa) := ls.map fun x => [.sl true false (nodes x)]
structure Tk where
 rule : Int
 a : Int
 b : Int
deriving DecidableEq
abbrev Tk.cells (t : Tk) : List aa := [.int .i64 t.rule, .int .i64 t.a, .int .i64 t.b]
abbrev fY (l : List Tk) : List (List aa) := l.map Tk.cells
abbrev mkV (F : Fl) (T : List (List Node)) (w : ByteArray) : List aa := [.sl true false (cz F.conds), .sl true false (defs F.defs), .sl true false (bm F.rules), .sl true false (lB T), .str w]
def mS (w : ByteArray) (r : Ru) (n : Nat) (c : Int) : Bool := decide (c ∈ r.conds) && (!r.line || (decide (n = 0) || decide (cd w (n - 1) = 10)))
theorem BM (F : Fl) (T : List (List Node)) (w : ByteArray) (r : Ru) (n : Nat) (c : Int) (hw : w.size ≤ 900000) (hn : n ≤ w.size) (hc : r.conds.length ≤ 1000000) :
  ah Tryz.prog 66 [.agg (mkV F T w), .agg r.cells, .int .i64 n, .int .i64 c] [] fun v s => v = .bool (mS w r n c) ∧ s = [] := by
 have hI := Ia true false r.conds c hc
 obtain ⟨O, hO⟩ : ∃ O, O = mS w r n c := ⟨_, rfl⟩
 rw [← hO]
 unfold mS at hO
 obtain ⟨cs, ds, rs⟩ := F
 obtain ⟨rc, rf, rl, rk, rt, rp, rn⟩ := r
 simp only at *
 generalize decide (c ∈ rc) = B at hI hO
 cases B
 ·rw [Bool.false_and] at hO
  subst hO
  refine ah.enter Tryz.func66 rfl (by kernel_rfl) (Nat.le_of_ble_eq_true rfl) ?_; simp only [ai, Nat.reduceAdd]
  repeat' (first
 | refine gCt rfl ?_
 | ((first
 | ((first | refine gR fp66 ?_); intro K hK)
 | refine cAl (hI) rfl rfl rfl ?_
 | (refine ab ?_ ?_ <;> intro hb <;> (try simp only [bls] at hb) <;> (try simp only [hb]))
 | refine gRe [] [.tmp 8] rfl rfl ?_) <;> (try simp only [go_sem, simprocAttr]))
 | (refine hK _ _ ?_; clear hK K; simp only [go_sem, simprocAttr])
 | refine gCd ?_ | refine brT ?_ | refine brF ?_
 | (refine brS ?_ ?_ <;> intro hc <;> (try simp only [bls] at hc) <;> (try simp only [hc, bls]))
 | intro _ | refine And.intro ?_ ?_)
  all_goals try exact zsd
 rw [Bool.true_and] at hO
 cases rl
 ·simp only [Bool.not_false, Bool.true_or] at hO
  subst hO
  refine ah.enter Tryz.func66 rfl (by kernel_rfl) (Nat.le_of_ble_eq_true rfl) ?_; simp only [ai, Nat.reduceAdd]
  repeat' (first
 | refine gCt rfl ?_
 | ((first
 | ((first | refine gR fp66 ?_); intro K hK)
 | refine cAl (hI) rfl rfl rfl ?_
 | (refine ab ?_ ?_ <;> intro hb <;> (try simp only [bls] at hb) <;> (try simp only [hb]))
 | refine gRe [] [.tmp 8] rfl rfl ?_) <;> (try simp only [go_sem, simprocAttr]))
 | (refine hK _ _ ?_; clear hK K; simp only [go_sem, simprocAttr])
 | refine gCd ?_ | refine brT ?_ | refine brF ?_
 | (refine brS ?_ ?_ <;> intro hc <;> (try simp only [bls] at hc) <;> (try simp only [hc, bls]))
 | intro _ | refine And.intro ?_ ?_)
  all_goals try exact zsd
 simp only [Bool.not_true, Bool.false_or] at hO
 rcases Nat.eq_zero_or_pos n with h0 | h0
 ·subst h0
  simp only [decide_true, Bool.true_or] at hO
  subst hO
  have e1 : (((0 : Nat) : Int) = 0) := rfl
  refine ah.enter Tryz.func66 rfl (by kernel_rfl) (Nat.le_of_ble_eq_true rfl) ?_; simp only [ai, Nat.reduceAdd]
  repeat' (first
 | refine gCt rfl ?_
 | ((first
 | ((first | refine gR fp66 ?_); intro K hK)
 | refine cAl (hI) rfl rfl rfl ?_
 | (refine ab ?_ ?_ <;> intro hb <;> (try simp only [bls] at hb) <;> (try simp only [hb]))
 | refine gRe [] [.tmp 8] rfl rfl ?_) <;> (try simp only [go_sem, simprocAttr, e1]))
 | (refine hK _ _ ?_; clear hK K; simp only [go_sem, simprocAttr])
 | refine gCd ?_ | refine brT ?_ | refine brF ?_
 | (refine brS ?_ ?_ <;> intro hc <;> (try simp only [bls] at hc) <;> (try simp only [hc, bls]))
 | intro _ | refine And.intro ?_ ?_)
  all_goals try exact zsd
 ·have e1 : ¬ (n : Int) = 0 := by omega
  have e2 : (n : Int) - 1 = ((n - 1 : Nat) : Int) := by omega
  have e3 : ((n - 1 : Nat) : Int) < w.size := by omega
  have e5 : (0 : Int) ≤ ((n - 1 : Nat) : Int) := by omega
  have e6 : ¬ n = 0 := by omega
  simp only [e6, decide_false, Bool.false_or] at hO
  have e7 : decide ((cd w (n - 1) : Int) = 10) = O := by rw [hO]; exact decide_eq_decide.2 (by omega)
  refine ah.enter Tryz.func66 rfl (by kernel_rfl) (Nat.le_of_ble_eq_true rfl) ?_; simp only [ai, Nat.reduceAdd]
  repeat' (first
 | refine gCt rfl ?_
 | ((first
 | ((first | refine gR fp66 ?_); intro K hK)
 | refine cAl (hI) rfl rfl rfl ?_
 | (refine ab ?_ ?_ <;> intro hb <;> (try simp only [bls] at hb) <;> (try simp only [hb]))
 | refine gRe [] [.tmp 8] rfl rfl ?_) <;> (try simp only [go_sem, simprocAttr, e1, e2, e3, e5, eX, e7]))
 | (refine hK _ _ ?_; clear hK K; simp only [go_sem, simprocAttr])
 | refine gCd ?_ | refine brT ?_ | refine brF ?_
 | (refine brS ?_ ?_ <;> intro hc <;> (try simp only [bls] at hc) <;> (try simp only [hc, bls]))
 | intro _ | refine And.intro ?_ ?_)
  all_goals try exact zsd
def fW (w : ByteArray) (n : Nat) (c : Int) : List (Ru × List Node) → Nat → List (Nat × List Node)
 | [], _ => []
 | x :: l, i => if mS w x.1 n c = true then (i, x.2) :: fW w n c l (i + 1) else fW w n c l (i + 1)
def oA (g : List Node → Int × Bool) (b : Int × Int) (p : Nat × List Node) : Int × Int := if (g p.2).2 = true then (if decide (b.2 < (g p.2).1) = true then ((p.1 : Int), (g p.2).1) else b) else b
def jT (w : ByteArray) (g : List Node → Int × Bool) (n : Nat) (c : Int) (l : List (Ru × List Node)) : Int × Int := (fW w n c l 0).foldl (oA g) (-1, (n : Int))
theorem wy {w : ByteArray} {n : Nat} {c : Int} : ∀ {l : List (Ru × List Node)} {i : Nat} {p : Nat × List Node}, p ∈ fW w n c l i → i ≤ p.1 ∧ ∃ x, l[p.1 - i]? = some x ∧ x.2 = p.2 ∧ mS w x.1 n c = true
 | [], i, p, h => by simp [fW] at h
 | x :: l, i, p, h => by
  have hs : p ∈ fW w n c l (i + 1) → i ≤ p.1 ∧ ∃ y, (x :: l)[p.1 - i]? = some y ∧ y.2 = p.2 ∧ mS w y.1 n c = true := fun h => by
   obtain ⟨h1, y, h2, h3⟩ := wy h
   refine ⟨by omega, y, ?_, h3⟩
   rw [show p.1 - i = (p.1 - (i + 1)) + 1 by omega, List.getElem?_cons_succ]; exact h2
  rw [fW] at h
  split at h
  ·rename_i ha
   rcases List.mem_cons.1 h with rfl | h
   ·exact ⟨Nat.le_refl _, x, by simp, rfl, ha⟩
   ·exact hs h
  ·exact hs h
theorem vO {g : List Node → Int × Bool} : ∀ {l : List (Nat × List Node)} {b : Int × Int}, l.foldl (oA g) b = b ∨ ∃ p ∈ l, l.foldl (oA g) b = ((p.1 : Int), (g p.2).1) ∧ (g p.2).2 = true
 | [], b => .inl rfl
 | x :: l, b => by
  rw [List.foldl_cons]
  rcases vO (g := g) (l := l) (b := oA g b x) with h | ⟨p, hp, h⟩
  ·rw [h, oA]
   split
   ·rename_i h1
    split
    ·exact .inr ⟨x, List.mem_cons_self, rfl, h1⟩
    ·exact .inl rfl
   ·exact .inl rfl
  ·exact .inr ⟨p, List.mem_cons_of_mem _ hp, h⟩
def kg (w : ByteArray) (g : List Node → Int × Bool) (l : List (Ru × List Node)) (n : Nat) (c : Int) : Tk × Int :=
 if decide ((jT w g n c l).1 = -1) = true then (⟨-1, n, ((n + 1 : Nat) : Int)⟩, c)
 else (⟨(jT w g n c l).1, n, (jT w g n c l).2⟩, match l[(jT w g n c l).1.toNat]? with | some x => if decide (0 ≤ x.1.to) = true then x.1.to else c | none => c)
theorem kR {w : ByteArray} {g : List Node → Int × Bool} {l : List (Ru × List Node)} {n : Nat} {c : Int} : jT w g n c l = (-1, (n : Int)) ∨ ∃ (m : Nat) (x : Ru × List Node), l[m]? = some x ∧ jT w g n c l = ((m : Int), (g x.2).1) ∧ (g x.2).2 = true ∧ mS w x.1 n c = true := by
 unfold jT
 rcases vO (g := g) (l := fW w n c l 0) (b := (-1, (n : Int))) with h | ⟨p, hp, h1, h2⟩
 ·exact .inl h
 ·obtain ⟨_, x, hx, hx2, ha⟩ := wy hp
  exact .inr ⟨p.1, x, by simpa using hx, by rw [hx2]; exact h1, by rw [hx2]; exact h2, ha⟩
theorem xQ {w : ByteArray} {n : Nat} {c : Int} {x : Ru × List Node} {l : List (Ru × List Node)} {i : Nat} : fW w n c (x :: l) i = if mS w x.1 n c = true then (i, x.2) :: fW w n c l (i + 1) else fW w n c l (i + 1) := rfl
end Go.Rad
namespace Go.Rad
open Go Go.Proofs
set_option linter.all false
set_option maxRecDepth 20000
set_option maxHeartbeats 4000000
theorem I5 (F : Fl) (T : List (List Node)) (w : ByteArray) (g : List Node → Int × Bool) (n : Nat) (c : Int) (hw : w.size ≤ 900000) (hn : n < w.size) (hl : F.rules.length ≤ 1000000) (hT : T.length = F.rules.length)
  (hrc : ∀ r ∈ F.rules, r.conds.length ≤ 1000000) (hg : ∀ x ∈ T, ah Tryz.prog 67 [.sl true false (nodes x), .str w, .int .i64 n] [] fun r s => r = .tup [.int .i64 (g x).1, .bool (g x).2] ∧ s = []) :
  ah Tryz.prog 38 [.agg (mkV F T w), .int .i64 n, .int .i64 c] [] fun r s => r = .tup [.agg (kg w g (F.rules.zip T) n c).1.cells, .int .i64 (kg w g (F.rules.zip T) n c).2] ∧ s = [] := by
 have hA := fun r (h : r ∈ F.rules) => BM F T w r n c hw (by omega) (hrc r h)
 have hbr := kR (w := w) (g := g) (l := F.rules.zip T) (n := n) (c := c)
 obtain ⟨O, hO⟩ : ∃ O, O = kg w g (F.rules.zip T) n c := ⟨_, rfl⟩
 rw [← hO]
 unfold kg at hO
 obtain ⟨S, hS⟩ : ∃ S, S = jT w g n c (F.rules.zip T) := ⟨_, rfl⟩
 rw [← hS] at hO hbr
 unfold jT at hS
 have hzl : (F.rules.zip T).length = F.rules.length := by rw [List.length_zip, hT, Nat.min_self]
 have hzg : ∀ i (r : Ru) x, F.rules[i]? = some r → T[i]? = some x → (F.rules.zip T)[i]? = some (r, x) := fun i r x h1 h2 => by rw [List.getElem?_zip_eq_some]; exact ⟨h1, h2⟩
 have hzu : ∀ i (x : Ru × List Node), (F.rules.zip T)[i]? = some x → F.rules[i]? = some x.1 := fun i x h => (List.getElem?_zip_eq_some.1 h).1
 generalize F.rules.zip T = Z at *
 obtain ⟨cs, ds, rs⟩ := F
 simp only at *
 have e10 : (n : Int) + 1 = ((n + 1 : Nat) : Int) := by omega
 refine ah.enter Tryz.func38 rfl (by kernel_rfl) (Nat.le_of_ble_eq_true rfl) ?_; simp only [ai, Nat.reduceAdd]
 repeat' (first
 | refine gCt rfl ?_
 | ((first
 | (refine ae.at 2 ?_; (refine ae.eI 3 3 rfl rfl rfl ?_; simp only [go_sem, simprocAttr]); refine gR fp38 ?_; intro K hK)
 | ((first | refine gR fp38 ?_ | refine gD 6 8 eb fp38 ?_); intro K hK)
 | (refine ab ?_ ?_ <;> intro hb <;> (try simp only [bls] at hb) <;> (try simp only [hb]))
 | refine gRe [] [.cell 6 35, .tmp 7] rfl rfl ?_) <;> (try simp only [go_sem, simprocAttr]))
 | (refine hK _ _ ?_; clear hK K; simp only [go_sem, simprocAttr])
 | refine gCd ?_ | refine brT ?_ | refine brF ?_
 | (refine brS ?_ ?_ <;> intro hc <;> (try simp only [bls] at hc) <;> (try simp only [hc, bls]))
 | intro _ | refine And.intro ?_ ?_)
 all_goals try exact zsd
 rename_i h6 h8
 refine ae.prune [1, 2, 3, 6, 7, 8, 19, 20, 21] ?_; simp only [go_sem, simprocAttr]
 refine ae.al (α := Nat × Int × Int) (fun i => ([(1, .int .i64 n), (2, .int .i64 c), (3, .ref true [.sl true false (cz cs), .sl true false (defs ds), .sl true false (bm rs), .sl true false (lB T), .str w]), (6, .bx 6 h6 0), (7, .int .i64 0), (8, .bx 8 h8 0), (19, .sl true false (bm rs)), (20, .int .i64 rs.length), (21, .int .i64 i.1)],
  [(6, h6, .box [.int .i64 0, .int .i64 0, .int .i64 0]), (8, h8, .box [.int .i64 i.2.1, .int .i64 n, .int .i64 i.2.2])])) (fun i => i.1 ≤ rs.length ∧ S = (fW w n c (Z.drop i.1) i.1).foldl (oA g) i.2) (fun i => rs.length - i.1) (0, -1, n) ⟨Nat.zero_le _, hS⟩ rfl ?_
 rintro ⟨i, b1, b2⟩ ⟨hi, hs⟩ ih
 simp only at hi hs ih ⊢
 by_cases hle : i < rs.length
 ·have e4 : (i : Int) < rs.length := by omega
  have e5 : (0 : Int) ≤ i := by omega
  have e6 : (i : Int) + 1 = ((i + 1 : Nat) : Int) := by omega
  have hle2 : i < T.length := by omega
  have e7 : (i : Int) < T.length := by omega
  have hx : rs[i]? = some rs[i] := List.getElem?_eq_getElem hle
  have hy : T[i]? = some T[i] := List.getElem?_eq_getElem hle2
  have ha := hA _ (List.getElem_mem hle)
  have hlg := hg _ (List.getElem_mem hle2)
  have hz := hzg _ _ _ hx hy
  have hdr : Z.drop i = (rs[i], T[i]) :: Z.drop (i + 1) := by
   obtain ⟨h1, h2⟩ := List.getElem?_eq_some_iff.1 hz
   rw [← h2]; exact List.drop_eq_getElem_cons h1
  rw [hdr, xQ] at hs
  clear hA hg hzg hzu hbr hO hrc hdr hz hS
  generalize rs[i] = r at hx ha hs
  generalize T[i] = x at hy hlg hs
  obtain ⟨rc, rf, rl, rk, rt, rp, rn⟩ := r
  simp only at ha hs
  generalize mS w ⟨rc, rf, rl, rk, rt, rp, rn⟩ n c = A at ha hs
  cases A
  ·simp only [Bool.false_eq_true, if_false] at hs
   repeat' (first
 | refine gCt rfl ?_
 | ((first
 | ((first | refine gR fp38 ?_ | refine gD 6 8 eb fp38 ?_); intro K hK)
 | refine cAl (ha) rfl rfl rfl ?_
 | (refine ab ?_ ?_ <;> intro hb <;> (try simp only [bls] at hb) <;> (try simp only [hb]))
 | refine gRe [] [.cell 6 35, .tmp 7] rfl rfl ?_) <;> (try simp only [go_sem, simprocAttr, e4, e5, e6, hx, Option.some.injEq, forall_eq']))
 | (refine hK _ _ ?_; clear hK K; simp only [go_sem, simprocAttr])
 | refine gCd ?_ | refine brT ?_ | refine brF ?_
 | (refine brS ?_ ?_ <;> intro hc <;> (try simp only [bls] at hc) <;> (try simp only [hc, bls]))
 | intro _ | refine And.intro ?_ ?_)
   all_goals try exact zsd
   refine ae.bC [6, 8] ?_
   simp only [aq, ax, go_sem, simprocAttr]
   refine ae.prune [1, 2, 3, 6, 7, 8, 19, 20, 21] ?_; simp only [go_sem, simprocAttr]
   exact (ih (i + 1, b1, b2) ⟨by simp only; omega, hs⟩ (by simp only; omega)).cast rfl rfl
  simp only [if_true, List.foldl_cons, oA] at hs
  generalize g x = gx at hlg hs
  obtain ⟨to, ok⟩ := gx
  simp only at hlg hs
  cases ok
  ·simp only [Bool.false_eq_true, if_false] at hs
   repeat' (first
 | refine gCt rfl ?_
 | ((first
 | ((first | refine gR fp38 ?_ | refine gD 6 14 eb fp38 ?_); intro K hK)
 | refine cAl (ha) rfl rfl rfl ?_
 | refine ⟨_, ah.alone (hlg) rfl rfl rfl, ?_⟩
 | (refine ab ?_ ?_ <;> intro hb <;> (try simp only [bls] at hb) <;> (try simp only [hb]))
 | refine gRe [] [.cell 6 35, .tmp 7] rfl rfl ?_) <;> (try simp only [go_sem, simprocAttr, e4, e5, e6, e7, hx, hy, Option.some.injEq, forall_eq']))
 | (refine hK _ _ ?_; clear hK K; simp only [go_sem, simprocAttr])
 | refine gCd ?_ | refine brT ?_ | refine brF ?_
 | (refine brS ?_ ?_ <;> intro hc <;> (try simp only [bls] at hc) <;> (try simp only [hc, bls]))
 | intro _ | refine And.intro ?_ ?_)
   all_goals try exact zsd
   refine ae.bC [6, 8] ?_
   simp only [aq, ax, go_sem, simprocAttr]
   refine ae.prune [1, 2, 3, 6, 7, 8, 19, 20, 21] ?_; simp only [go_sem, simprocAttr]
   exact (ih (i + 1, b1, b2) ⟨by simp only; omega, hs⟩ (by simp only; omega)).cast rfl rfl
  simp only [if_true] at hs
  by_cases k1 : b2 < to
  ·simp only [k1, decide_true, if_true] at hs
   repeat' (first
 | refine gCt rfl ?_
 | ((first
 | ((first | refine gR fp38 ?_ | refine gD 6 14 eb fp38 ?_); intro K hK)
 | refine cAl (ha) rfl rfl rfl ?_
 | refine ⟨_, ah.alone (hlg) rfl rfl rfl, ?_⟩
 | (refine ab ?_ ?_ <;> intro hb <;> (try simp only [bls] at hb) <;> (try simp only [hb]))
 | refine gRe [] [.cell 6 35, .tmp 7] rfl rfl ?_) <;> (try simp only [go_sem, simprocAttr, e4, e5, e6, e7, hx, hy, k1, Option.some.injEq, forall_eq']))
 | (refine hK _ _ ?_; clear hK K; simp only [go_sem, simprocAttr])
 | refine gCd ?_ | refine brT ?_ | refine brF ?_
 | (refine brS ?_ ?_ <;> intro hc <;> (try simp only [bls] at hc) <;> (try simp only [hc, bls]))
 | intro _ | refine And.intro ?_ ?_)
   all_goals try exact zsd
   refine ae.bC [6, 8] ?_
   simp only [aq, ax, go_sem, simprocAttr]
   refine ae.prune [1, 2, 3, 6, 7, 8, 19, 20, 21] ?_; simp only [go_sem, simprocAttr]
   exact (ih (i + 1, i, to) ⟨by simp only; omega, hs⟩ (by simp only; omega)).cast rfl rfl
  ·simp only [k1, decide_false, Bool.false_eq_true, if_false] at hs
   repeat' (first
 | refine gCt rfl ?_
 | ((first
 | ((first | refine gR fp38 ?_ | refine gD 6 14 eb fp38 ?_); intro K hK)
 | refine cAl (ha) rfl rfl rfl ?_
 | refine ⟨_, ah.alone (hlg) rfl rfl rfl, ?_⟩
 | (refine ab ?_ ?_ <;> intro hb <;> (try simp only [bls] at hb) <;> (try simp only [hb]))
 | refine gRe [] [.cell 6 35, .tmp 7] rfl rfl ?_) <;> (try simp only [go_sem, simprocAttr, e4, e5, e6, e7, hx, hy, k1, Option.some.injEq, forall_eq']))
 | (refine hK _ _ ?_; clear hK K; simp only [go_sem, simprocAttr])
 | refine gCd ?_ | refine brT ?_ | refine brF ?_
 | (refine brS ?_ ?_ <;> intro hc <;> (try simp only [bls] at hc) <;> (try simp only [hc, bls]))
 | intro _ | refine And.intro ?_ ?_)
   all_goals try exact zsd
   refine ae.bC [6, 8] ?_
   simp only [aq, ax, go_sem, simprocAttr]
   refine ae.prune [1, 2, 3, 6, 7, 8, 19, 20, 21] ?_; simp only [go_sem, simprocAttr]
   exact (ih (i + 1, b1, b2) ⟨by simp only; omega, hs⟩ (by simp only; omega)).cast rfl rfl
 ·have e4 : ¬ (i : Int) < rs.length := by omega
  rw [List.drop_of_length_le (by omega)] at hs
  simp only [fW, List.foldl_nil] at hs
  clear hA hg hzg hrc hS ih
  subst hs
  simp only at hO hbr
  rcases hbr with hb | ⟨m, x, hm, hb, _, _⟩
  ·simp only [Prod.mk.injEq] at hb
   obtain ⟨rfl, rfl⟩ := hb
   simp only [decide_true, if_true] at hO
   subst hO
   repeat' (first
 | refine gCt rfl ?_
 | ((first
 | ((first | refine gR fp38 ?_ | refine gD 6 8 eb fp38 ?_); intro K hK)
 | (refine ab ?_ ?_ <;> intro hb <;> (try simp only [bls] at hb) <;> (try simp only [hb]))
 | refine gRe [] [.cell 6 35, .tmp 7] rfl rfl ?_) <;> (try simp only [go_sem, simprocAttr, e4, e10]))
 | (refine hK _ _ ?_; clear hK K; simp only [go_sem, simprocAttr])
 | refine gCd ?_ | refine brT ?_ | refine brF ?_
 | (refine brS ?_ ?_ <;> intro hc <;> (try simp only [bls] at hc) <;> (try simp only [hc, bls]))
 | intro _ | refine And.intro ?_ ?_)
   all_goals try exact zsd
  ·simp only [Prod.mk.injEq] at hb
   obtain ⟨rfl, rfl⟩ := hb
   have hx := hzu _ _ hm
   have e1 : ¬ (m : Int) = -1 := by omega
   have hlt : m < rs.length := (List.getElem?_eq_some_iff.1 hx).1
   have e2 : (m : Int) < rs.length := by omega
   have e3 : (0 : Int) ≤ m := by omega
   simp only [e1, decide_false, Bool.false_eq_true, if_false, Int.toNat_natCast, hm] at hO
   clear hzu hm
   obtain ⟨⟨rc, rf, rl, rk, rt, rp, rn⟩, y⟩ := x
   simp only at hO hx
   by_cases k1 : 0 ≤ rt
   ·simp only [k1, decide_true, if_true] at hO
    subst hO
    repeat' (first
 | refine gCt rfl ?_
 | ((first
 | ((first | refine gR fp38 ?_ | refine gD 6 8 eb fp38 ?_); intro K hK)
 | (refine ab ?_ ?_ <;> intro hb <;> (try simp only [bls] at hb) <;> (try simp only [hb]))
 | refine gRe [] [.cell 6 35, .tmp 7] rfl rfl ?_) <;> (try simp only [go_sem, simprocAttr, e4, e1, e2, e3, hx, k1, Option.some.injEq, forall_eq']))
 | (refine hK _ _ ?_; clear hK K; simp only [go_sem, simprocAttr])
 | refine gCd ?_ | refine brT ?_ | refine brF ?_
 | (refine brS ?_ ?_ <;> intro hc <;> (try simp only [bls] at hc) <;> (try simp only [hc, bls]))
 | intro _ | refine And.intro ?_ ?_)
    all_goals try exact zsd
   ·simp only [k1, decide_false, Bool.false_eq_true, if_false] at hO
    subst hO
    repeat' (first
 | refine gCt rfl ?_
 | ((first
 | ((first | refine gR fp38 ?_ | refine gD 6 8 eb fp38 ?_); intro K hK)
 | (refine ab ?_ ?_ <;> intro hb <;> (try simp only [bls] at hb) <;> (try simp only [hb]))
 | refine gRe [] [.cell 6 35, .tmp 7] rfl rfl ?_) <;> (try simp only [go_sem, simprocAttr, e4, e1, e2, e3, hx, k1, Option.some.injEq, forall_eq']))
 | (refine hK _ _ ?_; clear hK K; simp only [go_sem, simprocAttr])
 | refine gCd ?_ | refine brT ?_ | refine brF ?_
 | (refine brS ?_ ?_ <;> intro hc <;> (try simp only [bls] at hc) <;> (try simp only [hc, bls]))
 | intro _ | refine And.intro ?_ ?_)
    all_goals try exact zsd
end Go.Rad
namespace Go.Rad
open Go Go.Proofs
set_option linter.all false
set_option maxRecDepth 20000
set_option maxHeartbeats 4000000
theorem xA (c : Nat) : ah Tryz.prog 68 [.int .u8 c] [] fun r s => r = .bool (jZ c) ∧ s = [] := by
 refine ah.enter Tryz.func68 rfl (by kernel_rfl) (Nat.le_of_ble_eq_true rfl) ?_; simp only [ai, Nat.reduceAdd]
 repeat' (first
 | refine gCt rfl ?_
 | ((first
 | ((first | refine gR fp68 ?_); intro K hK)
 | (refine ab ?_ ?_ <;> intro hb <;> (try simp only [bls] at hb) <;> (try simp only [hb]))
 | refine gRe [] [.tmp 2] rfl rfl ?_) <;> (try simp only [go_sem, simprocAttr]))
 | (refine hK _ _ ?_; clear hK K; simp only [go_sem, simprocAttr])
 | refine gCd ?_ | refine brT ?_ | refine brF ?_
 | (refine brS ?_ ?_ <;> intro hc <;> (try simp only [bls] at hc) <;> (try simp only [hc, bls]))
 | intro _ | refine And.intro ?_ ?_)
 all_goals (refine congrArg aa.bool ?_; rw [Bool.eq_iff_iff]; simp [jZ] <;> omega)
theorem zf (c : Nat) : ah Tryz.prog 69 [.int .u8 c] [] fun r s => r = .bool (nr c) ∧ s = [] := by
 refine ah.enter Tryz.func69 rfl (by kernel_rfl) (Nat.le_of_ble_eq_true rfl) ?_; simp only [ai, Nat.reduceAdd]
 repeat' (first
 | refine gCt rfl ?_
 | ((first
 | ((first | refine gR fp69 ?_); intro K hK)
 | (refine ab ?_ ?_ <;> intro hb <;> (try simp only [bls] at hb) <;> (try simp only [hb]))
 | refine gRe [] [.tmp 2] rfl rfl ?_) <;> (try simp only [go_sem, simprocAttr]))
 | (refine hK _ _ ?_; clear hK K; simp only [go_sem, simprocAttr])
 | refine gCd ?_ | refine brT ?_ | refine brF ?_
 | (refine brS ?_ ?_ <;> intro hc <;> (try simp only [bls] at hc) <;> (try simp only [hc, bls]))
 | intro _ | refine And.intro ?_ ?_)
 all_goals (refine congrArg aa.bool ?_; rw [Bool.eq_iff_iff]; simp [nr] <;> omega)
theorem j8 (s : ByteArray) (hs : s.size ≤ maxLen) : ah Tryz.prog 40 [.str s] [] fun r s' => r = .bool (bl s) ∧ s' = [] := by
 unfold maxLen at hs
 refine ah.enter Tryz.func40 rfl (by kernel_rfl) (Nat.le_of_ble_eq_true rfl) ?_; simp only [ai, Nat.reduceAdd]
 repeat' (first
 | refine gCt rfl ?_
 | ((first
 | ((first | refine gR fp40 ?_); intro K hK)
 | (refine ab ?_ ?_ <;> intro hb <;> (try simp only [bls] at hb) <;> (try simp only [hb]))
 | refine gRe [] [.tmp 2] rfl rfl ?_) <;> (try simp only [go_sem, simprocAttr]))
 | (refine hK _ _ ?_; clear hK K; simp only [go_sem, simprocAttr])
 | refine gCd ?_ | refine brT ?_ | refine brF ?_
 | (refine brS ?_ ?_ <;> intro hc <;> (try simp only [bls] at hc) <;> (try simp only [hc, bls]))
 | intro _ | refine And.intro ?_ ?_)
 refine ae.prune [0, 2, 3] ?_; simp only [go_sem, simprocAttr]
 refine ae.al (α := Nat) (fun i => ([(0, .str s), (2, .bool false), (3, .int .i64 i)], [])) (fun i => i ≤ s.size ∧ (List.range i).all (nmB s) = true) (fun i => s.size - i) 0 ⟨Nat.zero_le _, rfl⟩ rfl ?_
 rintro i ⟨hi, hall⟩ ih
 simp only
 by_cases hle : i < s.size
 ·have e4 : (i : Int) < s.size := by omega
  have e6 : (0 : Int) ≤ i := by omega
  repeat' (first
 | refine gCt rfl ?_
 | ((first
 | ((first | refine gR fp40 ?_); intro K hK)
 | refine cAl (xA _) rfl rfl rfl ?_
 | refine cAl (zf _) rfl rfl rfl ?_
 | (refine ab ?_ ?_ <;> intro hb <;> (try simp only [bls] at hb) <;> (try simp only [hb]))
 | refine gRe [] [.tmp 2] rfl rfl ?_) <;> (try simp only [go_sem, simprocAttr, e4, e6, kC]))
 | (refine hK _ _ ?_; clear hK K; simp only [go_sem, simprocAttr])
 | refine gCd ?_ | refine brT ?_ | refine brF ?_
 | (refine brS ?_ ?_ <;> intro hc <;> (try simp only [bls] at hc) <;> (try simp only [hc, bls]))
 | intro _ | refine And.intro ?_ ?_)
  all_goals first
   | omega
   | exact congrArg aa.bool (wq hle (by simp [nmB, *]; try omega))
   | (refine ae.prune [0, 2, 3] ?_; simp only [go_sem, simprocAttr]
      exact (ih (i + 1) ⟨by omega, all_succ hall (by simp [nmB, *]; try omega)⟩ (by omega)).cast rfl rfl)
 ·have e4 : ¬ (i : Int) < s.size := by omega
  have e5 : i = s.size := by omega
  subst e5
  repeat' (first
 | refine gCt rfl ?_
 | ((first
 | ((first | refine gR fp40 ?_); intro K hK)
 | (refine ab ?_ ?_ <;> intro hb <;> (try simp only [bls] at hb) <;> (try simp only [hb]))
 | refine gRe [] [.tmp 2] rfl rfl ?_) <;> (try simp only [go_sem, simprocAttr, e4]))
 | (refine hK _ _ ?_; clear hK K; simp only [go_sem, simprocAttr])
 | refine gCd ?_ | refine brT ?_ | refine brF ?_
 | (refine brS ?_ ?_ <;> intro hc <;> (try simp only [bls] at hc) <;> (try simp only [hc, bls]))
 | intro _ | refine And.intro ?_ ?_)
  all_goals (refine congrArg aa.bool ?_; rw [Bool.eq_iff_iff]; simp [bl, hall] <;> omega)
end Go.Rad
