/- A part of the proof. -/
import Derived.Test.YtmbhpolhiblhoaaGreatDoorKP15a
import Derived.Test.YtmbhpolhiblhoaaGreatDoorKRDefer
set_option linter.all false
namespace Go.Rad
open Go Go.Proofs
set_option linter.all false
set_option maxRecDepth 20000
set_option maxHeartbeats 4000000
theorem xB (c : Nat) : ah Tryz.prog 83 [.int .u8 c] [] fun r s => r = .bool (jZ c) ∧ s = [] := by
 refine ah.enter Tryz.func83 rfl (by kernel_rfl) (Nat.le_of_ble_eq_true rfl) ?_; simp only [ai, Nat.reduceAdd]
 repeat' (first
 | refine gCt rfl ?_
 | ((first
 | ((first | refine gR fp83 ?_); intro K hK)
 | (refine ab ?_ ?_ <;> intro hb <;> (try simp only [bls] at hb) <;> (try simp only [hb]))
 | refine gRe [] [.tmp 2] rfl rfl ?_) <;> (try simp only [go_sem, simprocAttr]))
 | (refine hK _ _ ?_; clear hK K; simp only [go_sem, simprocAttr])
 | refine gCd ?_ | refine brT ?_ | refine brF ?_
 | (refine brS ?_ ?_ <;> intro hc <;> (try simp only [bls] at hc) <;> (try simp only [hc, bls]))
 | intro _ | refine And.intro ?_ ?_)
 all_goals (refine congrArg aa.bool ?_; rw [Bool.eq_iff_iff]; simp [jZ] <;> omega)
theorem zg (c : Nat) : ah Tryz.prog 84 [.int .u8 c] [] fun r s => r = .bool (nr c) ∧ s = [] := by
 refine ah.enter Tryz.func84 rfl (by kernel_rfl) (Nat.le_of_ble_eq_true rfl) ?_; simp only [ai, Nat.reduceAdd]
 repeat' (first
 | refine gCt rfl ?_
 | ((first
 | ((first | refine gR fp84 ?_); intro K hK)
 | (refine ab ?_ ?_ <;> intro hb <;> (try simp only [bls] at hb) <;> (try simp only [hb]))
 | refine gRe [] [.tmp 2] rfl rfl ?_) <;> (try simp only [go_sem, simprocAttr]))
 | (refine hK _ _ ?_; clear hK K; simp only [go_sem, simprocAttr])
 | refine gCd ?_ | refine brT ?_ | refine brF ?_
 | (refine brS ?_ ?_ <;> intro hc <;> (try simp only [bls] at hc) <;> (try simp only [hc, bls]))
 | intro _ | refine And.intro ?_ ?_)
 all_goals (refine congrArg aa.bool ?_; rw [Bool.eq_iff_iff]; simp [nr] <;> omega)
theorem mA (s : ByteArray) (hs : s.size ≤ maxLen) : ah Tryz.prog 54 [.str s] [] fun r s' => r = .bool (bl s) ∧ s' = [] := by
 unfold maxLen at hs
 refine ah.enter Tryz.func54 rfl (by kernel_rfl) (Nat.le_of_ble_eq_true rfl) ?_; simp only [ai, Nat.reduceAdd]
 repeat' (first
 | refine gCt rfl ?_
 | ((first
 | ((first | refine gR fp54 ?_); intro K hK)
 | (refine ab ?_ ?_ <;> intro hb <;> (try simp only [bls] at hb) <;> (try simp only [hb]))
 | refine gRe [] [.tmp 2] rfl rfl ?_) <;> (try simp only [go_sem, simprocAttr]))
 | (refine hK _ _ ?_; clear hK K; simp only [go_sem, simprocAttr])
 | refine gCd ?_ | refine brT ?_ | refine brF ?_
 | (refine brS ?_ ?_ <;> intro hc <;> (try simp only [bls] at hc) <;> (try simp only [hc, bls]))
 | intro _ | refine And.intro ?_ ?_)
 refine ae.prune [0, 2, 5, 6] ?_; simp only [go_sem, simprocAttr]
 refine ae.al (α := Nat) (fun i => ([(0, .str s), (2, .bool false), (5, .int .i64 s.size), (6, .int .i64 i)], [])) (fun i => i ≤ s.size ∧ (List.range i).all (nmB s) = true) (fun i => s.size - i) 0 ⟨Nat.zero_le _, rfl⟩ rfl ?_
 rintro i ⟨hi, hall⟩ ih
 simp only
 by_cases hle : i < s.size
 ·have e4 : (i : Int) < s.size := by omega
  have e6 : (0 : Int) ≤ i := by omega
  repeat' (first
 | refine gCt rfl ?_
 | ((first
 | ((first | refine gR fp54 ?_); intro K hK)
 | refine cAl (xB _) rfl rfl rfl ?_
 | refine cAl (zg _) rfl rfl rfl ?_
 | (refine ab ?_ ?_ <;> intro hb <;> (try simp only [bls] at hb) <;> (try simp only [hb]))
 | refine gRe [] [.tmp 2] rfl rfl ?_) <;> (try simp only [go_sem, simprocAttr, e4, e6, kC]))
 | (refine hK _ _ ?_; clear hK K; simp only [go_sem, simprocAttr])
 | refine gCd ?_ | refine brT ?_ | refine brF ?_
 | (refine brS ?_ ?_ <;> intro hc <;> (try simp only [bls] at hc) <;> (try simp only [hc, bls]))
 | intro _ | refine And.intro ?_ ?_)
  all_goals first
   | omega
   | exact congrArg aa.bool (wq hle (by simp [nmB, *]; try omega))
   | (refine ae.prune [0, 2, 5, 6] ?_; simp only [go_sem, simprocAttr]
      exact (ih (i + 1) ⟨by omega, all_succ hall (by simp [nmB, *]; try omega)⟩ (by omega)).cast rfl rfl)
 ·have e4 : ¬ (i : Int) < s.size := by omega
  have e5 : i = s.size := by omega
  subst e5
  repeat' (first
 | refine gCt rfl ?_
 | ((first
 | ((first | refine gR fp54 ?_); intro K hK)
 | (refine ab ?_ ?_ <;> intro hb <;> (try simp only [bls] at hb) <;> (try simp only [hb]))
 | refine gRe [] [.tmp 2] rfl rfl ?_) <;> (try simp only [go_sem, simprocAttr, e4]))
 | (refine hK _ _ ?_; clear hK K; simp only [go_sem, simprocAttr])
 | refine gCd ?_ | refine brT ?_ | refine brF ?_
 | (refine brS ?_ ?_ <;> intro hc <;> (try simp only [bls] at hc) <;> (try simp only [hc, bls]))
 | intro _ | refine And.intro ?_ ?_)
  all_goals (refine congrArg aa.bool ?_; rw [Bool.eq_iff_iff]; simp [bl, hall] <;> omega)
theorem vM (q f q' f' : Bool) (a b : List Int) (ha : a.length ≤ maxLen) : ah Tryz.prog 108 [.sl q f (ints a), .sl q' f' (ints b)] [] fun r s => r = .bool (decide (a = b)) ∧ s = [] := by
 unfold maxLen at ha
 refine ah.enter Tryz.func108 rfl (by kernel_rfl) (Nat.le_of_ble_eq_true rfl) ?_; simp only [ai, Nat.reduceAdd]
 repeat' (first
 | refine gCt rfl ?_
 | ((first
 | ((first | refine gR fp108 ?_ | refine gD 6 9 ro9 fp108 ?_); intro K hK)
 | (refine ab ?_ ?_ <;> intro hb <;> (try simp only [bls] at hb) <;> (try simp only [hb]))
 | refine gRe [] [.tmp 4] rfl rfl ?_) <;> (try simp only [go_sem, simprocAttr]))
 | (refine hK _ _ ?_; clear hK K; simp only [go_sem, simprocAttr])
 | refine gCd ?_ | refine brT ?_ | refine brF ?_
 | (refine brS ?_ ?_ <;> intro hc <;> (try simp only [bls] at hc) <;> (try simp only [hc, bls]))
 | intro _ | refine And.intro ?_ ?_)
 ·exact congrArg aa.bool (by simp only [Bool.false_eq, decide_eq_false_iff_not]; rintro rfl; exact hc rfl)
 have hab : a.length = b.length := by omega
 refine ae.prune [0, 1, 4, 12, 13] ?_; simp only [go_sem, simprocAttr]
 refine ae.al (α := Nat) (fun i => ([(0, .sl q f (ints a)), (1, .sl q' f' (ints b)), (4, .bool false), (12, .int .i64 a.length), (13, .int .i64 i)], [])) (fun i => i ≤ a.length ∧ a.take i = b.take i) (fun i => a.length - i) 0 ⟨Nat.zero_le _, rfl⟩ rfl ?_
 rintro i ⟨hi, htk⟩ ih
 simp only
 by_cases hle : i < a.length
 ·have e4 : (i : Int) < a.length := by omega
  have e6 : (0 : Int) ≤ i := by omega
  have e7 : (i : Int) < b.length := by omega
  have hx : a[i]? = some a[i] := List.getElem?_eq_getElem hle
  have hy : b[i]? = some b[i] := List.getElem?_eq_getElem (by omega)
  generalize a[i] = x at hx
  generalize b[i] = y at hy
  by_cases hxy : x = y
  ·subst hxy
   repeat' (first
 | refine gCt rfl ?_
 | ((first
 | ((first | refine gR fp108 ?_ | refine gD 6 9 ro9 fp108 ?_); intro K hK)
 | (refine ab ?_ ?_ <;> intro hb <;> (try simp only [bls] at hb) <;> (try simp only [hb]))
 | refine gRe [] [.tmp 4] rfl rfl ?_) <;> (try simp only [go_sem, simprocAttr, e4, e6, e7, hx, hy, Option.some.injEq, forall_eq']))
 | (refine hK _ _ ?_; clear hK K; simp only [go_sem, simprocAttr])
 | refine gCd ?_ | refine brT ?_ | refine brF ?_
 | (refine brS ?_ ?_ <;> intro hc <;> (try simp only [bls] at hc) <;> (try simp only [hc, bls]))
 | intro _ | refine And.intro ?_ ?_)
   all_goals first | omega | skip
   refine ae.prune [0, 1, 4, 12, 13] ?_; simp only [go_sem, simprocAttr]
   exact (ih (i + 1) ⟨by omega, by rw [take_one hx, take_one hy, htk]⟩ (by omega)).cast rfl rfl
  ·repeat' (first
 | refine gCt rfl ?_
 | ((first
 | ((first | refine gR fp108 ?_ | refine gD 6 9 ro9 fp108 ?_); intro K hK)
 | (refine ab ?_ ?_ <;> intro hb <;> (try simp only [bls] at hb) <;> (try simp only [hb]))
 | refine gRe [] [.tmp 4] rfl rfl ?_) <;> (try simp only [go_sem, simprocAttr, e4, e6, e7, hx, hy, hxy, Option.some.injEq, forall_eq']))
 | (refine hK _ _ ?_; clear hK K; simp only [go_sem, simprocAttr])
 | refine gCd ?_ | refine brT ?_ | refine brF ?_
 | (refine brS ?_ ?_ <;> intro hc <;> (try simp only [bls] at hc) <;> (try simp only [hc, bls]))
 | intro _ | refine And.intro ?_ ?_)
   refine congrArg aa.bool ?_
   simp only [Bool.false_eq, decide_eq_false_iff_not]
   rintro rfl
   rw [hx] at hy; exact hxy (Option.some.inj hy)
 ·rw [List.take_of_length_le (by omega), List.take_of_length_le (by omega)] at htk
  have e4 : ¬ (i : Int) < a.length := by omega
  repeat' (first
 | refine gCt rfl ?_
 | ((first
 | ((first | refine gR fp108 ?_ | refine gD 6 9 ro9 fp108 ?_); intro K hK)
 | (refine ab ?_ ?_ <;> intro hb <;> (try simp only [bls] at hb) <;> (try simp only [hb]))
 | refine gRe [] [.tmp 4] rfl rfl ?_) <;> (try simp only [go_sem, simprocAttr, e4]))
 | (refine hK _ _ ?_; clear hK K; simp only [go_sem, simprocAttr])
 | refine gCd ?_ | refine brT ?_ | refine brF ?_
 | (refine brS ?_ ?_ <;> intro hc <;> (try simp only [bls] at hc) <;> (try simp only [hc, bls]))
 | intro _ | refine And.intro ?_ ?_)
  simp [htk]
end Go.Rad
namespace Go.Rad
open Go Go.Proofs
set_option linter.all false
set_option maxRecDepth 20000
set_option maxHeartbeats 4000000
theorem wT : (ByteArray.mk #[]) = ByteArray.empty := Eq.trans rfl rfl
theorem AP (fl : Bool) (n : Node) (hn : n.name.size ≤ maxLen ∧ n.l.length ≤ maxLen) : ah Tryz.prog 107 [.agg (n.eJ fl)] [] fun r s' => r = .bool (aD n) ∧ s' = [] := by
 obtain ⟨hn, hm⟩ := hn
 unfold maxLen at hm
 obtain ⟨no, ⟨na, nb, nc, nd⟩, nl, nlo, nhi, nn⟩ := n
 simp only at hn hm
 simp only [Node.eJ]
 refine ah.enter Tryz.func107 rfl (by kernel_rfl) (Nat.le_of_ble_eq_true rfl) ?_; simp only [ai, Nat.reduceAdd]
 repeat' (first
 | refine gCt rfl ?_
 | ((first
 | (refine ae.at 10 ?_; refine ae.eI 1 1 rfl rfl rfl ?_; simp only [go_sem, simprocAttr]; refine gDl 10 [] 5 ro8 [] [26] fp107 rfl ?_; intro K hK)
 | ((first | refine gR fp107 ?_); intro K hK)
 | refine cAl (mA _ hn) rfl rfl rfl ?_
 | (refine ab ?_ ?_ <;> intro hb <;> (try simp only [bls] at hb) <;> (try simp only [hb]))
 | refine gRe [] [.tmp 2] rfl rfl ?_) <;> (try simp only [go_sem, simprocAttr, wT]))
 | (refine hK _ _ ?_; clear hK K; simp only [go_sem, simprocAttr])
 | refine gCd ?_ | refine brT ?_ | refine brF ?_
 | (refine brS ?_ ?_ <;> intro hc <;> (try simp only [bls] at hc) <;> (try simp only [hc, bls]))
 | intro _ | refine And.intro ?_ ?_)
 all_goals first
  | omega
  | (refine congrArg aa.bool ?_; rw [Bool.eq_iff_iff]; simp_all [aD, av.none] <;> first | omega | (have h1 : nl.length = 1 := (by omega); have h2 : 1 ≤ nhi ∧ nlo ≤ nhi := (by omega); simp [h1, h2]))
end Go.Rad
namespace Go.Rad
open Go Go.Proofs
set_option linter.all false
set_option maxRecDepth 20000
set_option maxHeartbeats 4000000
theorem u5 {ns : List Node} {i : Nat} {st : List Int} {n : Node} (h : ¬ (aD n = true ∧ n.l.length ≤ st.length ∧ st.drop (st.length - n.l.length) = n.l)) : ed (n :: ns) i st = none := by
 rw [ed, if_neg h]
theorem lx {l : List Node} (h : ed l 0 [] = none) : false = az l := by
 simp [az, h]
theorem od (q f : Bool) (ns : List Node) (hl : ∀ n ∈ ns, n.name.size ≤ maxLen ∧ n.l.length ≤ maxLen) : ah Tryz.prog 79 [.sl q f (nodes ns)] [] fun r s => r = .bool (az ns) ∧ s = [] := by
 refine ah.enter Tryz.func79 rfl (by kernel_rfl) (Nat.le_of_ble_eq_true rfl) ?_; simp only [ai, Nat.reduceAdd]
 repeat' (first
 | refine gCt rfl ?_
 | ((first
 | ((first | refine gR fp79 ?_ | refine gD 10 7 ro7 fp79 ?_); intro K hK)
 | (refine ab ?_ ?_ <;> intro hb <;> (try simp only [bls] at hb) <;> (try simp only [hb]))
 | refine gRe [] [.tmp 2] rfl rfl ?_) <;> (try simp only [go_sem, simprocAttr]))
 | (refine hK _ _ ?_; clear hK K; simp only [go_sem, simprocAttr])
 | refine gCd ?_ | refine brT ?_ | refine brF ?_
 | (refine brS ?_ ?_ <;> intro hc <;> (try simp only [bls] at hc) <;> (try simp only [hc, bls]))
 | intro _ | refine And.intro ?_ ?_)
 ·refine congrArg aa.bool ?_; simp only [az]; rw [show decide (1 ≤ ns.length ∧ ns.length ≤ 1024) = false from by simp; omega, Bool.false_and]
 ·have hn1 : 1 ≤ ns.length ∧ ns.length ≤ 1024 := by omega
  refine ae.lQ 3 900 1 (by decide) rfl fun g => ?_
  simp only [go_sem, simprocAttr]
  refine ae.prune [0, 2, 3, 15, 16, 17] ?_; simp only [go_sem, simprocAttr]
  refine ae.al (α := Nat × List Int × Nat) (fun x => ([(0, .sl q f (nodes ns)), (2, .bool false), (3, .osl 900 x.2.2 0 x.2.1.length), (15, .sl q f (nodes ns)), (16, .int .i64 ns.length), (17, .int .i64 x.1)], [(900, (x.2.2, .row 1 (ints x.2.1)))])) (fun x => x.1 ≤ ns.length ∧ x.2.1.length ≤ x.1 ∧ ed ns 0 [] = ed (ns.drop x.1) x.1 x.2.1) (fun x => ns.length - x.1) (0, [], g) ⟨Nat.zero_le _, Nat.zero_le _, rfl⟩ rfl ?_
  rintro ⟨i, st, g⟩ ⟨hi, hst, hrun⟩ ih
  simp only at hi hst hrun ih ⊢
  by_cases hle : i < ns.length
  ·have e4 : (i : Int) < ns.length := by omega
   have e5 : (0 : Int) ≤ i := by omega
   have hx : ns[i]? = some ns[i] := List.getElem?_eq_getElem hle
   have hm := hl ns[i] (List.getElem_mem hle)
   have hd : ns.drop i = ns[i] :: ns.drop (i + 1) := List.drop_eq_getElem_cons hle
   rw [hd] at hrun
   generalize ns[i] = x at hx hm hrun
   have hsh := AP false x hm
   by_cases hok : aD x = true
   ·by_cases hlt : st.length < x.l.length
    ·have hno := u5 (ns := ns.drop (i + 1)) (i := i) (st := st) (n := x) (by rintro ⟨_, h, _⟩; omega)
     rw [hno] at hrun
     rw [hok] at hsh
     obtain ⟨xo, ⟨xa, xb, xc, xd⟩, xl, xlo, xhi, xn⟩ := x
     simp only at hlt
     have e6 : (st.length : Int) < xl.length := by omega
     repeat' (first
 | refine gCt rfl ?_
 | ((first
 | ((first | refine gR fp79 ?_ | refine gD 10 7 ro7 fp79 ?_); intro K hK)
 | refine cAl (hsh) rfl rfl rfl ?_
 | (refine ab ?_ ?_ <;> intro hb <;> (try simp only [bls] at hb) <;> (try simp only [hb]))
 | refine gRe [] [.tmp 2] rfl rfl ?_) <;> (try simp only [go_sem, simprocAttr, e4, e5, e6, hx, Option.some.injEq, forall_eq']))
 | (refine hK _ _ ?_; clear hK K; simp only [go_sem, simprocAttr])
 | refine gCd ?_ | refine brT ?_ | refine brF ?_
 | (refine brS ?_ ?_ <;> intro hc <;> (try simp only [bls] at hc) <;> (try simp only [hc, bls]))
 | intro _ | refine And.intro ?_ ?_)
     exact congrArg aa.bool (lx hrun)
    ·obtain ⟨m, hm2⟩ : ∃ m, st.length = m + x.l.length := ⟨st.length - x.l.length, by omega⟩
     have hmm : st.length - x.l.length = m := by omega
     by_cases heq : st.drop m = x.l
     ·rw [ed, if_pos ⟨hok, by omega, by rw [hmm]; exact heq⟩, hmm] at hrun
      rw [hok] at hsh
      have ih := fun g' => ih (i + 1, st.take m ++ [(i : Int)], g') ⟨by simp only; omega, by simp; omega, hrun⟩ (by simp only; omega)
      obtain ⟨xo, ⟨xa, xb, xc, xd⟩, xl, xlo, xhi, xn⟩ := x
      simp only at hlt hm2 hmm heq hm
      have e6 : ¬ (st.length : Int) < xl.length := by omega
      have e7 : (st.length : Int) - xl.length = (m : Nat) := by omega
      have e8 : min m st.length = m := by omega
      have hcall := vM false false true false (st.drop m) xl (by unfold maxLen; rw [List.length_drop]; omega)
      rw [heq, decide_eq_true rfl] at hcall
      repeat' (first
 | refine gCt rfl ?_
 | ((first
 | (refine ae.at 12 ?_; (refine ae.shrink 900 m rfl ?_; simp only [go_sem, simprocAttr, ← List.map_take]); refine gR fp79 ?_; intro K hK)
 | ((first | refine gR fp79 ?_ | refine gD 10 7 ro7 fp79 ?_); intro K hK)
 | refine cAl (hsh) rfl rfl rfl ?_
 | (refine ⟨.bool true, ah.IN [900] hcall (we ((mH rfl rfl rfl (by simp; omega)).trans ((congrArg (aa.sl false false) (iQ _ _ _)).trans (mG (by rw [List.take_of_length_le (by simp), heq])))) rfl) rfl rfl rfl, ?_⟩)
 | (refine ab ?_ ?_ <;> intro hb <;> (try simp only [bls] at hb) <;> (try simp only [hb]))
 | refine gRe [] [.tmp 2] rfl rfl ?_) <;> (try simp only [go_sem, simprocAttr, e4, e5, e6, e7, e8, hx, Option.some.injEq, forall_eq', List.length_take]))
 | (refine hK _ _ ?_; clear hK K; simp only [go_sem, simprocAttr])
 | refine gCd ?_ | refine brT ?_ | refine brF ?_
 | (refine brS ?_ ?_ <;> intro hc <;> (try simp only [bls] at hc) <;> (try simp only [hc, bls]))
 | intro _ | refine And.intro ?_ ?_)
      all_goals try exact zsd
      rename_i h'
      refine ae.bC [900] ?_
      simp only [aq, ax, go_sem, simprocAttr]
      refine ae.prune [0, 2, 3, 15, 16, 17] ?_; simp only [go_sem, simprocAttr]
      exact (ih h').cast (by simp; omega) (by simp)
     ·have hno := u5 (ns := ns.drop (i + 1)) (i := i) (st := st) (n := x) (by rintro ⟨_, _, h⟩; rw [hmm] at h; exact heq h)
      rw [hno] at hrun
      rw [hok] at hsh
      obtain ⟨xo, ⟨xa, xb, xc, xd⟩, xl, xlo, xhi, xn⟩ := x
      simp only at hlt hm2 hmm heq hm
      have e6 : ¬ (st.length : Int) < xl.length := by omega
      have e7 : (st.length : Int) - xl.length = (m : Nat) := by omega
      have hcall := vM false false true false (st.drop m) xl (by unfold maxLen; rw [List.length_drop]; omega)
      rw [decide_eq_false heq] at hcall
      repeat' (first
 | refine gCt rfl ?_
 | ((first
 | ((first | refine gR fp79 ?_ | refine gD 10 7 ro7 fp79 ?_); intro K hK)
 | refine cAl (hsh) rfl rfl rfl ?_
 | (refine ⟨.bool false, ah.IN [900] hcall (we ((mH rfl rfl rfl (by simp; omega)).trans ((congrArg (aa.sl false false) (iQ _ _ _)).trans (mG (by rw [List.take_of_length_le (by simp)])))) rfl) rfl rfl rfl, ?_⟩)
 | (refine ab ?_ ?_ <;> intro hb <;> (try simp only [bls] at hb) <;> (try simp only [hb]))
 | refine gRe [] [.tmp 2] rfl rfl ?_) <;> (try simp only [go_sem, simprocAttr, e4, e5, e6, e7, hx, Option.some.injEq, forall_eq', List.length_take]))
 | (refine hK _ _ ?_; clear hK K; simp only [go_sem, simprocAttr])
 | refine gCd ?_ | refine brT ?_ | refine brF ?_
 | (refine brS ?_ ?_ <;> intro hc <;> (try simp only [bls] at hc) <;> (try simp only [hc, bls]))
 | intro _ | refine And.intro ?_ ?_)
      all_goals try exact zsd
      exact congrArg aa.bool (lx hrun)
   ·have hno := u5 (ns := ns.drop (i + 1)) (i := i) (st := st) (n := x) (by rintro ⟨h, _⟩; exact hok h)
    rw [hno] at hrun
    rw [show aD x = false from by simpa using hok] at hsh
    obtain ⟨xo, ⟨xa, xb, xc, xd⟩, xl, xlo, xhi, xn⟩ := x
    repeat' (first
 | refine gCt rfl ?_
 | ((first
 | ((first | refine gR fp79 ?_ | refine gD 10 7 ro7 fp79 ?_); intro K hK)
 | refine cAl (hsh) rfl rfl rfl ?_
 | (refine ab ?_ ?_ <;> intro hb <;> (try simp only [bls] at hb) <;> (try simp only [hb]))
 | refine gRe [] [.tmp 2] rfl rfl ?_) <;> (try simp only [go_sem, simprocAttr, e4, e5, hx, Option.some.injEq, forall_eq']))
 | (refine hK _ _ ?_; clear hK K; simp only [go_sem, simprocAttr])
 | refine gCd ?_ | refine brT ?_ | refine brF ?_
 | (refine brS ?_ ?_ <;> intro hc <;> (try simp only [bls] at hc) <;> (try simp only [hc, bls]))
 | intro _ | refine And.intro ?_ ?_)
    exact congrArg aa.bool (lx hrun)
  ·have e4 : ¬ (i : Int) < ns.length := by omega
   have hin : i = ns.length := by omega
   subst hin
   rw [List.drop_length] at hrun
   repeat' (first
 | refine gCt rfl ?_
 | ((first
 | ((first | refine gR fp79 ?_ | refine gD 10 7 ro7 fp79 ?_); intro K hK)
 | (refine ab ?_ ?_ <;> intro hb <;> (try simp only [bls] at hb) <;> (try simp only [hb]))
 | refine gRe [] [.tmp 2] rfl rfl ?_) <;> (try simp only [go_sem, simprocAttr, e4]))
 | (refine hK _ _ ?_; clear hK K; simp only [go_sem, simprocAttr])
 | refine gCd ?_ | refine brT ?_ | refine brF ?_
 | (refine brS ?_ ?_ <;> intro hc <;> (try simp only [bls] at hc) <;> (try simp only [hc, bls]))
 | intro _ | refine And.intro ?_ ?_)
   refine congrArg aa.bool ?_
   simp only [az, hrun, ed, hn1, and_self, decide_true, Bool.true_and]
   rw [decide_eq_decide]
   omega
 ·refine congrArg aa.bool ?_; simp only [az]; rw [show decide (1 ≤ ns.length ∧ ns.length ≤ 1024) = false from by simp; omega, Bool.false_and]
end Go.Rad
namespace Go.Rad
open Go Go.Proofs
set_option linter.all false
set_option maxRecDepth 20000
set_option maxHeartbeats 4000000
theorem mu (q f : Bool) (l : List Int) (hl : l.length ≤ 1000000) : ah Tryz.prog 82 [.sl q f (ints l)] [] fun r s => (l = [] ∧ r = .sl true true [] ∧ s = []) ∨ (∃ h, r = .osl 5 h 0 l.length ∧ s = [(5, (h, .row 1 (ints l)))]) := by
 refine ah.enter Tryz.func82 rfl (by kernel_rfl) (Nat.le_of_ble_eq_true rfl) ?_; simp only [ai, Nat.reduceAdd]
 repeat' (first
 | refine gCt rfl ?_
 | ((first
 | ((first | refine gR fp82 ?_); intro K hK)
 | (refine ab ?_ ?_ <;> intro hb <;> (try simp only [bls] at hb) <;> (try simp only [hb]))
 | refine gRe [5] [.tmp 2] rfl rfl ?_) <;> (try simp only [go_sem, simprocAttr]))
 | (refine hK _ _ ?_; clear hK K; simp only [go_sem, simprocAttr])
 | refine gCd ?_ | refine brT ?_ | refine brF ?_
 | (refine brS ?_ ?_ <;> intro hc <;> (try simp only [bls] at hc) <;> (try simp only [hc, bls]))
 | intro _ | refine And.intro ?_ ?_)
 all_goals try exact zsd
 ·rename_i h; exact .inl (by simpa using h hc)
 ·rename_i y hy; obtain ⟨k, _, rfl⟩ := List.mem_map.1 hy; rfl
 ·rename_i y hy; obtain ⟨k, _, rfl⟩ := List.mem_map.1 hy; rfl
 ·rename_i h; exact .inr ⟨h, by simp⟩
abbrev BE (g2 g3 g1 n : Nat) : bc := .box [.map 1002 g2, .map 1003 g3, .osl 1001 g1 0 n]
abbrev mq (g g1 g2 g3 : Nat) (dm om : List (ByteArray × aa)) (out : List Node) : Sto := [(1000, (g, BE g2 g3 g1 out.length)), (1001, (g1, .row 9 (nodes out))), (1002, (g2, .mp dm)), (1003, (g3, .mp om))]
theorem Mp (n : Node) (q f : Bool) (A : List Int) (out : List Node) (g g1 g2 g3 : Nat) (dm om : List (ByteArray × aa)) (hk : ∀ k ∈ n.l, 0 ≤ k ∧ k < A.length) (hn : n.l.length ≤ 1000000) (ho : out.length ≤ 1000000) :
  ah Tryz.prog 110 [.bx 1000 g 0, .agg n.cells, .sl q f (ints A)] (mq g g1 g2 g3 dm om out) fun r s => r = .tup [.int .i64 (ek n A out).2.1, .int .i64 (ek n A out).2.2] ∧ ∃ h1, s = mq g h1 g2 g3 dm om (ek n A out).1 := by
 obtain ⟨xo, ⟨xa, xb, xc, xd⟩, xl, xlo, xhi, xn⟩ := n
 simp only at hk hn
 simp only [mq, BE, Node.cells, Node.eJ]
 refine ah.enter Tryz.func110 rfl (by kernel_rfl) (Nat.le_of_ble_eq_true rfl) ?_; simp only [ai, Nat.reduceAdd]
 by_cases hlong : 1024 ≤ out.length
 ·have e1 : (1024 : Int) ≤ out.length := by omega
  repeat' (first
 | refine gCt rfl ?_
 | ((first
 | ((first | refine gRg [43] fp110 ?_ | refine gDr 7 [43] 8 ro9 fp110 rfl ?_ | refine gDr 9 [43] 7 ea fp110 rfl ?_); intro K hK)
 | (refine ab ?_ ?_ <;> intro hb <;> (try simp only [bls] at hb) <;> (try simp only [hb]))
 | refine gRe [1000, 1001, 1002, 1003] [.tmp 6, .tmp 7] rfl rfl ?_) <;> (try simp only [go_sem, simprocAttr, e1]))
 | (refine hK _ _ ?_; clear hK K; simp only [go_sem, simprocAttr])
 | refine gCd ?_ | refine brT ?_ | refine brF ?_
 | (refine brS ?_ ?_ <;> intro hc <;> (try simp only [bls] at hc) <;> (try simp only [hc, bls]))
 | intro _ | refine And.intro ?_ ?_)
  ·simp [ek, hlong]
  ·exact ⟨g1, by simp [ek, hlong]⟩
 ·have e1 : ¬ (1024 : Int) ≤ out.length := by omega
  have hp : ek ⟨xo, ⟨xa, xb, xc, xd⟩, xl, xlo, xhi, xn⟩ A out = (out ++ [⟨xo, ⟨xa, xb, xc, xd⟩, xl.map (atF A), xlo, xhi, xn⟩], (out.length : Int), 0) := by simp only [ek, if_neg hlong]
  rw [hp]; clear hp
  simp only
  repeat' (first
 | refine gCt rfl ?_
 | ((first
 | ((first | refine gRg [43] fp110 ?_ | refine gDr 7 [43] 8 ro9 fp110 rfl ?_ | refine gDr 9 [43] 7 ea fp110 rfl ?_); intro K hK)
 | (refine ah.use [(5, 18)] [] rfl (mu true false xl hn) rfl rfl rfl ?_; rintro _ _ (⟨rfl, rfl, rfl⟩ | ⟨h5, rfl, rfl⟩) <;> refine ⟨.inl rfl, rfl, ?_⟩ <;> simp only [bk, bk2, bk1, bkS, bkO, bw, aH, go_sem, simprocAttr])
 | (refine ab ?_ ?_ <;> intro hb <;> (try simp only [bls] at hb) <;> (try simp only [hb]))
 | refine gRe [1000, 1001, 1002, 1003] [.tmp 6, .tmp 7] rfl rfl ?_) <;> (try simp only [go_sem, simprocAttr, e1]))
 | (refine hK _ _ ?_; clear hK K; simp only [go_sem, simprocAttr])
 | refine gCd ?_ | refine brT ?_ | refine brF ?_
 | (refine brS ?_ ?_ <;> intro hc <;> (try simp only [bls] at hc) <;> (try simp only [hc, bls]))
 | intro _ | refine And.intro ?_ ?_)
  ·refine ae.loop ?_
   repeat' (first
 | refine gCt rfl ?_
 | ((first
 | ((first | refine gRg [43] fp110 ?_ | refine gDr 7 [43] 8 ro9 fp110 rfl ?_ | refine gDr 9 [43] 7 ea fp110 rfl ?_); intro K hK)
 | (refine ab ?_ ?_ <;> intro hb <;> (try simp only [bls] at hb) <;> (try simp only [hb]))
 | refine gRe [1000, 1001, 1002, 1003] [.tmp 6, .tmp 7] rfl rfl ?_) <;> (try simp only [go_sem, simprocAttr, e1]))
 | (refine hK _ _ ?_; clear hK K; simp only [go_sem, simprocAttr])
 | refine gCd ?_ | refine brT ?_ | refine brF ?_
 | (refine brS ?_ ?_ <;> intro hc <;> (try simp only [bls] at hc) <;> (try simp only [hc, bls]))
 | intro _ | refine And.intro ?_ ?_)
   all_goals try exact zsd
   ·simp
   ·rename_i h' ; exact ⟨h', by simp⟩
  ·rename_i h4
   refine ae.prune [0, 2, 4, 21, 22, 23] ?_; simp only [go_sem, simprocAttr]
   refine ae.al (α := Nat × List Int) (fun x => ([(0, .bx 1000 g 0), (2, .sl q f (ints A)), (4, .bx 4 h4 0), (21, .osl 18 h5 0 xl.length), (22, .int .i64 xl.length), (23, .int .i64 x.1)],
    [(4, h4, .box [.int .u8 xo, .int .u64 xa, .int .u64 xb, .int .u64 xc, .int .u64 xd, .osl 18 h5 0 xl.length, .int .i64 xlo, .int .i64 xhi, .str xn]), (18, h5, .row 1 (ints x.2)), (1000, g, .box [.map 1002 g2, .map 1003 g3, .osl 1001 g1 0 out.length]), (1001, g1, .row 9 (nodes out)), (1002, g2, .mp dm), (1003, g3, .mp om)]))
    (fun x => x.1 ≤ xl.length ∧ x.2 = (xl.take x.1).map (atF A) ++ xl.drop x.1) (fun x => xl.length - x.1) (0, xl) ⟨Nat.zero_le _, by simp⟩ rfl ?_
   rintro ⟨i, W⟩ ⟨hi, hW⟩ ih
   simp only at hi hW ih ⊢
   by_cases hle : i < xl.length
   ·have e4 : (i : Int) < xl.length := by omega
    have e5 : (0 : Int) ≤ i := by omega
    have hk2 : xl[i]? = some xl[i] := List.getElem?_eq_getElem hle
    have hmem := hk xl[i] (List.getElem_mem hle)
    generalize xl[i] = k at hk2 hmem
    obtain ⟨w1, w2, w3⟩ := Ds hW hk2
    have e6 : i < W.length := by omega
    obtain ⟨m, rfl⟩ : ∃ m : Nat, k = m := ⟨k.toNat, by omega⟩
    have e7 : (m : Int) < A.length := hmem.2
    have e8 : (0 : Int) ≤ m := by omega
    have hA : A[m]? = some (atF A m) := by
     have : m < A.length := by omega
     simp [atF, List.getElem?_eq_getElem this]
    repeat' (first
 | refine gCt rfl ?_
 | ((first
 | ((first | refine gRg [43] fp110 ?_ | refine gDr 7 [43] 8 ro9 fp110 rfl ?_ | refine gDr 9 [43] 7 ea fp110 rfl ?_); intro K hK)
 | (refine ab ?_ ?_ <;> intro hb <;> (try simp only [bls] at hb) <;> (try simp only [hb]))
 | refine gRe [1000, 1001, 1002, 1003] [.tmp 6, .tmp 7] rfl rfl ?_) <;> (try simp only [go_sem, simprocAttr, e1, e4, e5, e6, e7, e8, w2, hA, Option.some.injEq, forall_eq']))
 | (refine hK _ _ ?_; clear hK K; simp only [go_sem, simprocAttr])
 | refine gCd ?_ | refine brT ?_ | refine brF ?_
 | (refine brS ?_ ?_ <;> intro hc <;> (try simp only [bls] at hc) <;> (try simp only [hc, bls]))
 | intro _ | refine And.intro ?_ ?_)
    all_goals try exact zsd
    rename_i y hy
    have hy2 : y = [.int .i64 m] := by
     rw [List.getElem?_map, w2] at hy
     simpa using hy.symm
    subst hy2
    refine ae.prune [0, 2, 4, 21, 22, 23] ?_; simp only [go_sem, simprocAttr]
    exact (ih (i + 1, W.set i (atF A m)) ⟨by simp only; omega, w3⟩ (by simp only; omega)).cast rfl (by simp [ints, List.map_set])
   ·have e4 : ¬ (i : Int) < xl.length := by omega
    have hin : i = xl.length := by omega
    subst hin
    simp only [List.take_length, List.drop_length, List.append_nil] at hW
    subst hW
    have e5 : (ints (xl.map (atF A))).take xl.length = ints (xl.map (atF A)) := List.take_of_length_le (by simp)
    repeat' (first
 | refine gCt rfl ?_
 | ((first
 | (refine ae.at 9 ?_; (refine ae.freeze 18 rfl ?_; simp only [rfT, rfS, rfO, rf, rf1, e5, true_and, go_sem, simprocAttr]); refine gDr 9 [43] 7 ea fp110 rfl ?_; intro K hK)
 | ((first | refine gRg [43] fp110 ?_ | refine gDr 7 [43] 8 ro9 fp110 rfl ?_); intro K hK)
 | (refine ab ?_ ?_ <;> intro hb <;> (try simp only [bls] at hb) <;> (try simp only [hb]))
 | refine gRe [1000, 1001, 1002, 1003] [.tmp 6, .tmp 7] rfl rfl ?_) <;> (try simp only [go_sem, simprocAttr, e1, e4]))
 | (refine hK _ _ ?_; clear hK K; simp only [go_sem, simprocAttr])
 | refine gCd ?_ | refine brT ?_ | refine brF ?_
 | (refine brS ?_ ?_ <;> intro hc <;> (try simp only [bls] at hc) <;> (try simp only [hc, bls]))
 | intro _ | refine And.intro ?_ ?_)
    all_goals try exact zsd
    ·simp
    ·rename_i h'; exact ⟨h', by simp⟩
end Go.Rad
namespace Go.Rad
open Go
theorem vN {n : Int} (h : fits .u64 n) : ∃ m : Nat, n = m ∧ m < 18446744073709551616 := by
 have m1 : IntKind.u64.min = 0 := by kernel_rfl
 have m2 : IntKind.u64.max = 18446744073709551615 := by kernel_rfl
 obtain ⟨a, b⟩ := h
 rw [m1] at a
 rw [m2] at b
 exact ⟨n.toNat, by omega, by omega⟩
theorem vD {P : Program} {f : Nat} {fn : Func} (hf : P.funcs[f]? = some fn) (hn : (fn.name == "runtime.NumGoroutine") = false) (hb : fn.body.isNone = false) : du P f := ⟨fn, hf, hn, hb⟩
theorem dv {a b : Nat} (ha : a < 18446744073709551616) (hb : b < 18446744073709551616) : bitsOf .and .u64 a b = ((a &&& b : Nat) : Int) := by
 have h1 : (BitVec.ofInt IntKind.u64.bits (a : Int)).toNat = a := by
  simp only [IntKind.bits, BitVec.toNat_ofInt]; omega
 have h2 : (BitVec.ofInt IntKind.u64.bits (b : Int)).toNat = b := by
  simp only [IntKind.bits, BitVec.toNat_ofInt]; omega
 simp only [bitsOf, BitVec.toNat_and, h1, h2]
 have : a &&& b ≤ a := Nat.and_le_left
 exact gM (by omega) (by omega)
theorem c9 {a b : Nat} (ha : a < 18446744073709551616) (hb : b < 18446744073709551616) : bitsOf .or .u64 a b = ((a ||| b : Nat) : Int) := by
 have h1 : (BitVec.ofInt IntKind.u64.bits (a : Int)).toNat = a := by
  simp only [IntKind.bits, BitVec.toNat_ofInt]; omega
 have h2 : (BitVec.ofInt IntKind.u64.bits (b : Int)).toNat = b := by
  simp only [IntKind.bits, BitVec.toNat_ofInt]; omega
 simp only [bitsOf, BitVec.toNat_or, h1, h2]
 have : a ||| b < 2 ^ 64 := Nat.or_lt_two_pow (by simpa using ha) (by simpa using hb)
 exact gM (by omega) (by omega)
structure aw where
 a : Nat
 b : Nat
 c : Nat
 d : Nat
 deriving DecidableEq
abbrev aw.I (s : aw) : av := ⟨s.a, s.b, s.c, s.d⟩
def aw.ok (s : aw) : Prop := s.a < 18446744073709551616 ∧ s.b < 18446744073709551616 ∧ s.c < 18446744073709551616 ∧ s.d < 18446744073709551616
def aw.or (s t : aw) : aw := ⟨s.a ||| t.a, s.b ||| t.b, s.c ||| t.c, s.d ||| t.d⟩
def aw.and (s t : aw) : aw := ⟨s.a &&& t.a, s.b &&& t.b, s.c &&& t.c, s.d &&& t.d⟩
def aQ : aw := ⟨0, 0, 0, 0⟩
def b9 : aw := ⟨18446744073709551615, 18446744073709551615, 18446744073709551615, 18446744073709551615⟩
def aw.word (s : aw) (i : Nat) : Nat := match i with | 0 => s.a | 1 => s.b | 2 => s.c | _ => s.d
def aw.add (s : aw) (n : Nat) : aw :=
 match n / 64 with
 | 0 => { s with a := s.a ||| 2 ^ (n % 64) }
 | 1 => { s with b := s.b ||| 2 ^ (n % 64) }
 | 2 => { s with c := s.c ||| 2 ^ (n % 64) }
 | _ => { s with d := s.d ||| 2 ^ (n % 64) }
def ofS (l : List Nat) : aw := l.foldl aw.add aQ
def dN (lo hi : Nat) : aw := (List.range (hi + 1 - lo)).foldl (fun s i => s.add (lo + i)) aQ
theorem jw {s : aw} {n : Nat} (h : s.ok) : (s.add n).ok := by
 have hb : 2 ^ (n % 64) < 18446744073709551616 := by
  have : 2 ^ (n % 64) < 2 ^ 64 := Nat.pow_lt_pow_right (by decide) (Nat.mod_lt _ (by decide))
  simpa using this
 have ho : ∀ x : Nat, x < 18446744073709551616 → x ||| 2 ^ (n % 64) < 18446744073709551616 := by
  intro x hx
  have : x ||| 2 ^ (n % 64) < 2 ^ 64 := Nat.or_lt_two_pow (by simpa using hx) (by simpa using hb)
  simpa using this
 obtain ⟨h1, h2, h3, h4⟩ := h
 unfold aw.add
 split
 ·exact ⟨ho _ h1, h2, h3, h4⟩
 ·exact ⟨h1, ho _ h2, h3, h4⟩
 ·exact ⟨h1, h2, ho _ h3, h4⟩
 ·exact ⟨h1, h2, h3, ho _ h4⟩
theorem jm {s t : aw} (h : s.ok) (k : t.ok) : (s.or t).ok := by
 have ho : ∀ x y : Nat, x < 18446744073709551616 → y < 18446744073709551616 → x ||| y < 18446744073709551616 := by
  intro x y hx hy
  have : x ||| y < 2 ^ 64 := Nat.or_lt_two_pow (by simpa using hx) (by simpa using hy)
  simpa using this
 exact ⟨ho _ _ h.1 k.1, ho _ _ h.2.1 k.2.1, ho _ _ h.2.2.1 k.2.2.1, ho _ _ h.2.2.2 k.2.2.2⟩
theorem gf {s t : aw} (h : s.ok) : (s.and t).ok := by
 have ho : ∀ x y : Nat, x < 18446744073709551616 → x &&& y < 18446744073709551616 := fun x y hx => Nat.lt_of_le_of_lt Nat.and_le_left hx
 exact ⟨ho _ _ h.1, ho _ _ h.2.1, ho _ _ h.2.2.1, ho _ _ h.2.2.2⟩
theorem ae.uH {P : Program} {f : Nat} {fn : Func} {df : List dt} {k : List Item} {tm : Tm} {sto : Sto} {R : aa → Sto → Prop} (id : Nat) {ops : Array Oper} {b : Bool} {r : Code} (h : ae P f fn df (.code (.seq (.region id ops b) r) :: .inLoop (.seq (.region id ops b) r) :: k) tm sto R) : ae P f fn df (.code (.loop (.seq (.region id ops b) r)) :: k) tm sto R := .loop h
theorem ae.nO {P : Program} {f : Nat} {fn : Func} {df : List dt} {k : List Item} {tm : Tm} {sto : Sto} {R : aa → Sto → Prop} (id : Nat) {ops : Array Oper} {b : Bool} {r : Code} (h : ae P f fn df (.code (.seq (.region id ops b) r) :: .inLoop (.seq (.region id ops b) r) :: k) tm sto R) : ae P f fn df (.inLoop (.seq (.region id ops b) r) :: k) tm sto R := .inLoop h
abbrev nW (l : List aw) : List (List aa) := l.map fun s => s.I.cells
end Go.Rad
namespace Go.Rad
open Go Go.Proofs
set_option linter.all false
set_option maxRecDepth 20000
set_option maxHeartbeats 4000000
def tzI (n : Nat) : Nat := (n &&& (18446744073709551616 - n)) * 285870213051353865 % 18446744073709551616 / 288230376151711744
def tzS (n : Nat) : Int := if n = 0 then 64 else bI.getD (tzI n) 0
theorem JO (n : Nat) : tzI n < 64 := by unfold tzI; omega
theorem pt (i : Nat) : 0 ≤ bI.getD i 0 ∧ bI.getD i 0 ≤ 63 := by
 have h : bI.all (fun x => decide (0 ≤ x ∧ x ≤ 63)) = true := by decide
 rw [List.getD_eq_getElem?_getD]
 cases hx : bI[i]? with
 | none => decide
 | some x =>
  have := List.all_eq_true.1 h x (List.mem_of_getElem? hx)
  simpa using this
theorem xq {i : Nat} (h : i < 64) : ∃ r, (fP bI).drop i = .int .u8 (bI.getD i 0) :: r := by
 have hl : i < bI.length := h
 refine ⟨(fP bI).drop (i + 1), ?_⟩
 have hl2 : i < (fP bI).length := h
 have e : (fP bI)[i] = .int .u8 (bI.getD i 0) := by
  simp [fP, List.getD_eq_getElem?_getD, List.getElem?_eq_getElem hl]
 rw [List.drop_eq_getElem_cons hl2, e]
theorem B9 {tm : Tm} : ev tm (.global 0) = .ref true (fP bI) := Eq.trans rfl rfl
theorem xk : (fP bI).length = 64 := Eq.trans (List.length_map _) (Eq.trans rfl rfl)
theorem MB {n : Nat} (hn : n < 18446744073709551616) (h0 : ¬ n = 0) : IntKind.u64.wrap (0 - (n : Int)) = ((18446744073709551616 - n : Nat) : Int) := by
 simp [IntKind.wrap, IntKind.signed, IntKind.bits]
 omega
theorem MC (n : Nat) : IntKind.u64.wrap (((n &&& (18446744073709551616 - n) : Nat) : Int) * 285870213051353865) = (((n &&& (18446744073709551616 - n)) * 285870213051353865 % 18446744073709551616 : Nat) : Int) := by
 generalize n &&& (18446744073709551616 - n) = m
 simp [IntKind.wrap, IntKind.signed, IntKind.bits]
theorem MD (n : Nat) : (((n &&& (18446744073709551616 - n)) * 285870213051353865 % 18446744073709551616 : Nat) : Int).fdiv 288230376151711744 = ((tzI n : Nat) : Int) := by
 unfold tzI
 generalize (n &&& (18446744073709551616 - n)) * 285870213051353865 % 18446744073709551616 = m
 rw [Int.fdiv_eq_ediv_of_nonneg _ (by decide)]
 omega
theorem A5 {n : Nat} (hn : n < 18446744073709551616) (h0 : ¬ n = 0) : ∃ c k m i : Nat, IntKind.u64.wrap (0 - (n : Int)) = (c : Int) ∧ bitsOf .and .u64 n c = (k : Int) ∧ IntKind.u64.wrap ((k : Int) * 285870213051353865) = (m : Int) ∧ (m : Int).fdiv 288230376151711744 = (i : Int) ∧ i = tzI n :=
 ⟨_, _, _, _, MB hn h0, dv hn (Nat.sub_lt (by decide) (Nat.pos_of_ne_zero h0)), MC n, MD n, rfl⟩
theorem DS (n : Nat) (hn : n < 18446744073709551616) : ah Tryz.prog 135 [.int .u64 n] [] fun r s => r = .int .i64 (tzS n) ∧ s = [] := by
 by_cases h0 : n = 0
 ·subst h0
  refine ah.enter Tryz.func135 rfl (by kernel_rfl) (Nat.le_of_ble_eq_true rfl) ?_; simp only [ai, Nat.reduceAdd]
  repeat' (first
 | refine gCt rfl ?_
 | ((first
 | ((first | refine gR fp135 ?_); intro K hK)
 | (refine ab ?_ ?_ <;> intro hb <;> (try simp only [bls] at hb) <;> (try simp only [hb]))
 | refine gRe [] [.tmp 2] rfl rfl ?_) <;> (try simp only [go_sem, simprocAttr]))
 | (refine hK _ _ ?_; clear hK K; simp only [go_sem, simprocAttr])
 | refine gCd ?_ | refine brT ?_ | refine brF ?_
 | (refine brS ?_ ?_ <;> intro hc <;> (try simp only [bls] at hc) <;> (try simp only [hc, bls]))
 | intro _ | refine And.intro ?_ ?_)
  all_goals rfl
 ·have e0 : ¬ (n : Int) = 0 := by omega
  have hts : tzS n = bI.getD (tzI n) 0 := if_neg h0
  rw [hts]
  obtain ⟨c, k, m, i, e1, e2, e3, e4, hi⟩ := A5 hn h0
  have e5 := JO n
  rw [← hi] at e5 ⊢
  clear hi
  have f58 : (2 : Int) ^ min 58 64 = 288230376151711744 := by decide
  have e6 : (i : Int) < 64 := by omega
  have e7 : (0 : Int) ≤ (i : Nat) := by omega
  have e11 : i ≤ 64 := by omega
  obtain ⟨r, e8⟩ := xq e5
  have e9 := pt i
  have e10 : IntKind.i64.wrap (bI.getD i 0) = bI.getD i 0 := Bm (by unfold gS; omega)
  refine ah.enter Tryz.func135 rfl (by kernel_rfl) (Nat.le_of_ble_eq_true rfl) ?_; simp only [ai, Nat.reduceAdd]
  repeat' (first
 | refine gCt rfl ?_
 | ((first
 | ((first | refine gR fp135 ?_); intro K hK)
 | (refine ab ?_ ?_ <;> intro hb <;> (try simp only [bls] at hb) <;> (try simp only [hb]))
 | refine gRe [] [.tmp 2] rfl rfl ?_) <;> (try simp only [go_sem, simprocAttr, e0, e1, e2, e3, f58, e4, e6, e7, e8, e10, B9, xk, Nat.mul_one, IntKind.bits]))
 | (refine hK _ _ ?_; clear hK K; simp only [go_sem, simprocAttr])
 | refine gCd ?_ | refine brT ?_ | refine brF ?_
 | (refine brS ?_ ?_ <;> intro hc <;> (try simp only [bls] at hc) <;> (try simp only [hc, bls]))
 | intro _ | refine And.intro ?_ ?_)
  all_goals try exact zsd
end Go.Rad
namespace Go.Rad
open Go Go.Proofs
set_option linter.all false
set_option maxRecDepth 20000
set_option maxHeartbeats 4000000
theorem pn {b : Nat} (_ : b ≤ 255) : ∃ p : Nat, p < 18446744073709551616 ∧ p = 2 ^ (b % 64) ∧ IntKind.u64.wrap (1 * 2 ^ (b % 64)) = (p : Int) := by
 have h : 2 ^ (b % 64) < 18446744073709551616 := by
  have : 2 ^ (b % 64) < 2 ^ 64 := Nat.pow_lt_pow_right (by decide) (Nat.mod_lt _ (by decide))
  simpa using this
 refine ⟨2 ^ (b % 64), h, rfl, ?_⟩
 rw [Int.one_mul]
 have e : ((2 : Int) ^ (b % 64)) = ((2 ^ (b % 64) : Nat) : Int) := by simp
 rw [e]
 generalize 2 ^ (b % 64) = p at h
 exact gM (by omega) (by omega)
theorem Et (q f : Bool) (l : List Nat) (h : ∀ x ∈ l, x ≤ 255) (hl : l.length ≤ 1000000) : ah Tryz.prog 115 [.sl q f (cp l)] [] fun r s' => r = .agg (ofS l).I.cells ∧ s' = [] := by
 refine ah.enter Tryz.func115 rfl (by kernel_rfl) (Nat.le_of_ble_eq_true rfl) ?_; simp only [ai, Nat.reduceAdd]
 repeat' (first
 | refine gCt rfl ?_
 | ((first
 | ((first | refine gR fp115 ?_); intro K hK)
 | (refine ab ?_ ?_ <;> intro hb <;> (try simp only [bls] at hb) <;> (try simp only [hb]))
 | refine gRe [] [.cell 2 46] rfl rfl ?_) <;> (try simp only [go_sem, simprocAttr]))
 | (refine hK _ _ ?_; clear hK K; simp only [go_sem, simprocAttr])
 | refine gCd ?_ | refine brT ?_ | refine brF ?_
 | (refine brS ?_ ?_ <;> intro hc <;> (try simp only [bls] at hc) <;> (try simp only [hc, bls]))
 | intro _ | refine And.intro ?_ ?_)
 rename_i h2 h3
 refine ae.prune [0, 2, 3, 6, 7, 8] ?_; simp only [go_sem, simprocAttr]
 refine ae.al (α := Nat) (fun i => ([(0, .sl q f (cp l)), (2, .bx 2 h2 0), (3, .bx 3 h3 0), (6, .sl q f (cp l)), (7, .int .i64 l.length), (8, .int .i64 i)], [(2, h2, .box av.none.cells), (3, h3, .box (ofS (l.take i)).I.cells)])) (fun i => i ≤ l.length ∧ (ofS (l.take i)).ok) (fun i => l.length - i) 0 ⟨Nat.zero_le _, by simp [ofS, aQ, aw.ok]⟩ rfl ?_
 rintro i ⟨hi, hok⟩ ih
 simp only
 by_cases hle : i < l.length
 ·have e4 : (i : Int) < l.length := by omega
  have e5 : (0 : Int) ≤ i := by omega
  have hx : l[i]? = some l[i] := List.getElem?_eq_getElem hle
  have hb := h l[i] (List.getElem_mem hle)
  have ht : ofS (l.take (i + 1)) = (ofS (l.take i)).add l[i] := by simp only [ofS]; rw [take_one hx, List.foldl_append]; rfl
  generalize l[i] = b at hx hb ht
  have hok2 : (ofS (l.take (i + 1))).ok := by rw [ht]; exact jw hok
  have ih := ih (i + 1) ⟨by omega, hok2⟩ (by omega)
  simp only [ht] at ih
  generalize ofS (l.take i) = s at hok ih ⊢
  obtain ⟨s0, s1, s2, s3⟩ := s
  obtain ⟨k0, k1, k2, k3⟩ := hok
  simp only at k0 k1 k2 k3
  obtain ⟨p, hp, hpe, hsh⟩ := pn hb
  have h4 : b / 64 = 0 ∨ b / 64 = 1 ∨ b / 64 = 2 ∨ b / 64 = 3 := by omega
  rcases h4 with h4 | h4 | h4 | h4
  all_goals
   simp only [aw.add, h4, ← hpe] at ih
   (first | refine ep (c := 0) h4 rfl fun hd hm hmin => ?_ | refine ep (c := 1) h4 rfl fun hd hm hmin => ?_ | refine ep (c := 2) h4 rfl fun hd hm hmin => ?_ | refine ep (c := 3) h4 rfl fun hd hm hmin => ?_)
  ·have ho := c9 k0 hp
   repeat' (first
 | refine gCt rfl ?_
 | ((first
 | ((first | refine gR fp115 ?_); intro K hK)
 | (refine ab ?_ ?_ <;> intro hb <;> (try simp only [bls] at hb) <;> (try simp only [hb]))
 | refine gRe [] [.cell 2 46] rfl rfl ?_) <;> (try simp only [go_sem, simprocAttr, e4, e5, hx, hd, hm, hmin, hsh, ho, Option.some.injEq, forall_eq', IntKind.bits, ma]))
 | (refine hK _ _ ?_; clear hK K; simp only [go_sem, simprocAttr])
 | refine gCd ?_ | refine brT ?_ | refine brF ?_
 | (refine brS ?_ ?_ <;> intro hc <;> (try simp only [bls] at hc) <;> (try simp only [hc, bls]))
 | intro _ | refine And.intro ?_ ?_)
   all_goals try exact zsd
   refine ae.prune [0, 2, 3, 6, 7, 8] ?_; simp only [go_sem, simprocAttr]
   exact ih.cast rfl rfl
  ·have ho := c9 k1 hp
   repeat' (first
 | refine gCt rfl ?_
 | ((first
 | ((first | refine gR fp115 ?_); intro K hK)
 | (refine ab ?_ ?_ <;> intro hb <;> (try simp only [bls] at hb) <;> (try simp only [hb]))
 | refine gRe [] [.cell 2 46] rfl rfl ?_) <;> (try simp only [go_sem, simprocAttr, e4, e5, hx, hd, hm, hmin, hsh, ho, Option.some.injEq, forall_eq', IntKind.bits, ma]))
 | (refine hK _ _ ?_; clear hK K; simp only [go_sem, simprocAttr])
 | refine gCd ?_ | refine brT ?_ | refine brF ?_
 | (refine brS ?_ ?_ <;> intro hc <;> (try simp only [bls] at hc) <;> (try simp only [hc, bls]))
 | intro _ | refine And.intro ?_ ?_)
   all_goals try exact zsd
   refine ae.prune [0, 2, 3, 6, 7, 8] ?_; simp only [go_sem, simprocAttr]
   exact ih.cast rfl rfl
  ·have ho := c9 k2 hp
   repeat' (first
 | refine gCt rfl ?_
 | ((first
 | ((first | refine gR fp115 ?_); intro K hK)
 | (refine ab ?_ ?_ <;> intro hb <;> (try simp only [bls] at hb) <;> (try simp only [hb]))
 | refine gRe [] [.cell 2 46] rfl rfl ?_) <;> (try simp only [go_sem, simprocAttr, e4, e5, hx, hd, hm, hmin, hsh, ho, Option.some.injEq, forall_eq', IntKind.bits, ma]))
 | (refine hK _ _ ?_; clear hK K; simp only [go_sem, simprocAttr])
 | refine gCd ?_ | refine brT ?_ | refine brF ?_
 | (refine brS ?_ ?_ <;> intro hc <;> (try simp only [bls] at hc) <;> (try simp only [hc, bls]))
 | intro _ | refine And.intro ?_ ?_)
   all_goals try exact zsd
   refine ae.prune [0, 2, 3, 6, 7, 8] ?_; simp only [go_sem, simprocAttr]
   exact ih.cast rfl rfl
  ·have ho := c9 k3 hp
   repeat' (first
 | refine gCt rfl ?_
 | ((first
 | ((first | refine gR fp115 ?_); intro K hK)
 | (refine ab ?_ ?_ <;> intro hb <;> (try simp only [bls] at hb) <;> (try simp only [hb]))
 | refine gRe [] [.cell 2 46] rfl rfl ?_) <;> (try simp only [go_sem, simprocAttr, e4, e5, hx, hd, hm, hmin, hsh, ho, Option.some.injEq, forall_eq', IntKind.bits, ma]))
 | (refine hK _ _ ?_; clear hK K; simp only [go_sem, simprocAttr])
 | refine gCd ?_ | refine brT ?_ | refine brF ?_
 | (refine brS ?_ ?_ <;> intro hc <;> (try simp only [bls] at hc) <;> (try simp only [hc, bls]))
 | intro _ | refine And.intro ?_ ?_)
   all_goals try exact zsd
   refine ae.prune [0, 2, 3, 6, 7, 8] ?_; simp only [go_sem, simprocAttr]
   exact ih.cast rfl rfl
 ·have e4 : ¬ (i : Int) < l.length := by omega
  rw [List.take_of_length_le (by omega)]
  generalize ofS l = s
  obtain ⟨s0, s1, s2, s3⟩ := s
  repeat' (first
 | refine gCt rfl ?_
 | ((first
 | ((first | refine gR fp115 ?_); intro K hK)
 | (refine ab ?_ ?_ <;> intro hb <;> (try simp only [bls] at hb) <;> (try simp only [hb]))
 | refine gRe [] [.cell 2 46] rfl rfl ?_) <;> (try simp only [go_sem, simprocAttr, e4]))
 | (refine hK _ _ ?_; clear hK K; simp only [go_sem, simprocAttr])
 | refine gCd ?_ | refine brT ?_ | refine brF ?_
 | (refine brS ?_ ?_ <;> intro hc <;> (try simp only [bls] at hc) <;> (try simp only [hc, bls]))
 | intro _ | refine And.intro ?_ ?_)
theorem fq {b : Nat} (h : b ≤ 255) {k : Nat} (h4 : b / 64 = k) {c : Int} (hk : (k : Int) = c) : (b : Int).tdiv 64 = c ∧ (b : Int).tmod 64 = ((b % 64 : Nat) : Int) ∧ min (b % 64) 64 = b % 64 :=
 ⟨(tL b 64).trans (by rw [h4]; exact hk), oF b 64, by omega⟩
theorem tc (lo hi : Nat) (hl : lo ≤ 255) (hh : hi ≤ 255) : ah Tryz.prog 113 [.int .u8 lo, .int .u8 hi] [] fun r s' => r = .agg (dN lo hi).I.cells ∧ s' = [] := by
 have w1 := mJ (n := lo) (by omega)
 have w2 := mJ (n := hi) (by omega)
 refine ah.enter Tryz.func113 rfl (by kernel_rfl) (Nat.le_of_ble_eq_true rfl) ?_; simp only [ai, Nat.reduceAdd]
 repeat' (first
 | refine gCt rfl ?_
 | ((first
 | ((first | refine gR fp113 ?_ | refine gD 5 9 uZ fp113 ?_); intro K hK)
 | (refine ab ?_ ?_ <;> intro hb <;> (try simp only [bls] at hb) <;> (try simp only [hb]))
 | refine gRe [] [.cell 4 46] rfl rfl ?_) <;> (try simp only [go_sem, simprocAttr, w1, w2]))
 | (refine hK _ _ ?_; clear hK K; simp only [go_sem, simprocAttr])
 | refine gCd ?_ | refine brT ?_ | refine brF ?_
 | (refine brS ?_ ?_ <;> intro hc <;> (try simp only [bls] at hc) <;> (try simp only [hc, bls]))
 | intro _ | refine And.intro ?_ ?_)
 rename_i h4 h5
 refine ae.prune [0, 1, 4, 5, 6] ?_; simp only [go_sem, simprocAttr]
 refine ae.al (α := Nat) (fun i => ([(0, .int .u8 lo), (1, .int .u8 hi), (4, .bx 4 h4 0), (5, .bx 5 h5 0), (6, .int .i64 (lo + i : Nat))], [(4, h4, .box av.none.cells), (5, h5, .box ((List.range i).foldl (fun s i => s.add (lo + i)) aQ).I.cells)])) (fun i => i ≤ hi + 1 - lo ∧ ((List.range i).foldl (fun s i => s.add (lo + i)) aQ).ok) (fun i => hi + 1 - lo - i) 0 ⟨Nat.zero_le _, by simp [aQ, aw.ok]⟩ rfl ?_
 rintro i ⟨hi', hok⟩ ih
 simp only
 by_cases hle : lo + i ≤ hi
 ·have e4 : ((lo + i : Nat) : Int) ≤ (hi : Int) := by omega
  have hb : lo + i ≤ 255 := by omega
  have hok2 : ((List.range (i + 1)).foldl (fun s i => s.add (lo + i)) aQ).ok := by rw [List.range_succ, List.foldl_append]; exact jw hok
  have ih := ih (i + 1) ⟨by omega, hok2⟩ (by omega)
  simp only [List.range_succ, List.foldl_append, List.foldl_cons, List.foldl_nil] at ih
  generalize (List.range i).foldl (fun s i => s.add (lo + i)) aQ = s at hok ih ⊢
  obtain ⟨s0, s1, s2, s3⟩ := s
  obtain ⟨k0, k1, k2, k3⟩ := hok
  simp only at k0 k1 k2 k3
  have e7 : ((lo + i : Nat) : Int) + 1 = ((lo + (i + 1) : Nat) : Int) := by omega
  generalize hbe : lo + i = b at hb ih e4 e7 ⊢
  obtain ⟨p, hp, hpe, hsh⟩ := pn hb
  have h64 : b / 64 = 0 ∨ b / 64 = 1 ∨ b / 64 = 2 ∨ b / 64 = 3 := by omega
  rcases h64 with h64 | h64 | h64 | h64
  all_goals
   simp only [aw.add, h64, ← hpe] at ih
  ·obtain ⟨hd, hm, hmin⟩ := fq hb h64 (c := 0) rfl
   have ho := c9 k0 hp
   repeat' (first
 | refine gCt rfl ?_
 | ((first
 | ((first | refine gR fp113 ?_ | refine gD 5 9 uZ fp113 ?_); intro K hK)
 | (refine ab ?_ ?_ <;> intro hb <;> (try simp only [bls] at hb) <;> (try simp only [hb]))
 | refine gRe [] [.cell 4 46] rfl rfl ?_) <;> (try simp only [go_sem, simprocAttr, w2, e4, e7, hd, hm, hmin, hsh, ho, IntKind.bits]))
 | (refine hK _ _ ?_; clear hK K; simp only [go_sem, simprocAttr])
 | refine gCd ?_ | refine brT ?_ | refine brF ?_
 | (refine brS ?_ ?_ <;> intro hc <;> (try simp only [bls] at hc) <;> (try simp only [hc, bls]))
 | intro _ | refine And.intro ?_ ?_)
   all_goals try exact zsd
   refine ae.prune [0, 1, 4, 5, 6] ?_; simp only [go_sem, simprocAttr]
   exact ih.cast rfl rfl
  ·obtain ⟨hd, hm, hmin⟩ := fq hb h64 (c := 1) rfl
   have ho := c9 k1 hp
   repeat' (first
 | refine gCt rfl ?_
 | ((first
 | ((first | refine gR fp113 ?_ | refine gD 5 9 uZ fp113 ?_); intro K hK)
 | (refine ab ?_ ?_ <;> intro hb <;> (try simp only [bls] at hb) <;> (try simp only [hb]))
 | refine gRe [] [.cell 4 46] rfl rfl ?_) <;> (try simp only [go_sem, simprocAttr, w2, e4, e7, hd, hm, hmin, hsh, ho, IntKind.bits]))
 | (refine hK _ _ ?_; clear hK K; simp only [go_sem, simprocAttr])
 | refine gCd ?_ | refine brT ?_ | refine brF ?_
 | (refine brS ?_ ?_ <;> intro hc <;> (try simp only [bls] at hc) <;> (try simp only [hc, bls]))
 | intro _ | refine And.intro ?_ ?_)
   all_goals try exact zsd
   refine ae.prune [0, 1, 4, 5, 6] ?_; simp only [go_sem, simprocAttr]
   exact ih.cast rfl rfl
  ·obtain ⟨hd, hm, hmin⟩ := fq hb h64 (c := 2) rfl
   have ho := c9 k2 hp
   repeat' (first
 | refine gCt rfl ?_
 | ((first
 | ((first | refine gR fp113 ?_ | refine gD 5 9 uZ fp113 ?_); intro K hK)
 | (refine ab ?_ ?_ <;> intro hb <;> (try simp only [bls] at hb) <;> (try simp only [hb]))
 | refine gRe [] [.cell 4 46] rfl rfl ?_) <;> (try simp only [go_sem, simprocAttr, w2, e4, e7, hd, hm, hmin, hsh, ho, IntKind.bits]))
 | (refine hK _ _ ?_; clear hK K; simp only [go_sem, simprocAttr])
 | refine gCd ?_ | refine brT ?_ | refine brF ?_
 | (refine brS ?_ ?_ <;> intro hc <;> (try simp only [bls] at hc) <;> (try simp only [hc, bls]))
 | intro _ | refine And.intro ?_ ?_)
   all_goals try exact zsd
   refine ae.prune [0, 1, 4, 5, 6] ?_; simp only [go_sem, simprocAttr]
   exact ih.cast rfl rfl
  ·obtain ⟨hd, hm, hmin⟩ := fq hb h64 (c := 3) rfl
   have ho := c9 k3 hp
   repeat' (first
 | refine gCt rfl ?_
 | ((first
 | ((first | refine gR fp113 ?_ | refine gD 5 9 uZ fp113 ?_); intro K hK)
 | (refine ab ?_ ?_ <;> intro hb <;> (try simp only [bls] at hb) <;> (try simp only [hb]))
 | refine gRe [] [.cell 4 46] rfl rfl ?_) <;> (try simp only [go_sem, simprocAttr, w2, e4, e7, hd, hm, hmin, hsh, ho, IntKind.bits]))
 | (refine hK _ _ ?_; clear hK K; simp only [go_sem, simprocAttr])
 | refine gCd ?_ | refine brT ?_ | refine brF ?_
 | (refine brS ?_ ?_ <;> intro hc <;> (try simp only [bls] at hc) <;> (try simp only [hc, bls]))
 | intro _ | refine And.intro ?_ ?_)
   all_goals try exact zsd
   refine ae.prune [0, 1, 4, 5, 6] ?_; simp only [go_sem, simprocAttr]
   exact ih.cast rfl rfl
 ·have e4 : ¬ ((lo + i : Nat) : Int) ≤ (hi : Int) := by omega
  have e5 : i = hi + 1 - lo := by omega
  subst e5
  simp only [dN]
  generalize (List.range (hi + 1 - lo)).foldl (fun s i => s.add (lo + i)) aQ = s
  obtain ⟨s0, s1, s2, s3⟩ := s
  repeat' (first
 | refine gCt rfl ?_
 | ((first
 | ((first | refine gR fp113 ?_ | refine gD 5 9 uZ fp113 ?_); intro K hK)
 | (refine ab ?_ ?_ <;> intro hb <;> (try simp only [bls] at hb) <;> (try simp only [hb]))
 | refine gRe [] [.cell 4 46] rfl rfl ?_) <;> (try simp only [go_sem, simprocAttr, w1, w2, e4]))
 | (refine hK _ _ ?_; clear hK K; simp only [go_sem, simprocAttr])
 | refine gCd ?_ | refine brT ?_ | refine brF ?_
 | (refine brS ?_ ?_ <;> intro hc <;> (try simp only [bls] at hc) <;> (try simp only [hc, bls]))
 | intro _ | refine And.intro ?_ ?_)
theorem I6 : ah Tryz.prog 136 [.agg aQ.I.cells] [] fun r s' => r = .agg b9.I.cells ∧ s' = [] := by
 have hx : bitsOf .xor .u64 IntKind.u64.max 0 = 18446744073709551615 := by kernel_rfl
 have hs : IntKind.u64.signed = false := rfl
 simp only [aQ, Int.natCast_zero]
 refine ah.enter Tryz.func136 rfl (by kernel_rfl) (Nat.le_of_ble_eq_true rfl) ?_; simp only [ai, Nat.reduceAdd]
 repeat' (first
 | refine ae.uH 2 ?_ | refine ae.nO 2 ?_
 | refine gCt rfl ?_
 | ((first
 | ((first | refine gR fp136 ?_); intro K hK)
 | (refine ab ?_ ?_ <;> intro hb <;> (try simp only [bls] at hb) <;> (try simp only [hb]))
 | refine gRe [] [.cell 2 46] rfl rfl ?_) <;> (try simp only [go_sem, simprocAttr, hx, hs]))
 | (refine hK _ _ ?_; clear hK K; simp only [go_sem, simprocAttr])
 | refine gCd ?_ | refine brT ?_ | refine brF ?_
 | (refine brS ?_ ?_ <;> intro hc <;> (try simp only [bls] at hc) <;> (try simp only [hc, bls]))
 | intro _ | refine And.intro ?_ ?_)
 all_goals try exact zsd
 rfl
theorem Eu (q f : Bool) (l : List aw) (hok : ∀ s ∈ l, s.ok) (hl : l.length ≤ 1000000) : ah Tryz.prog 114 [.sl q f (nW l)] [] fun r s' => r = .agg (l.foldl aw.or aQ).I.cells ∧ s' = [] := by
 refine ah.enter Tryz.func114 rfl (by kernel_rfl) (Nat.le_of_ble_eq_true rfl) ?_; simp only [ai, Nat.reduceAdd]
 repeat' (first
 | refine gCt rfl ?_
 | ((first
 | ((first | refine gR fp114 ?_); intro K hK)
 | (refine ab ?_ ?_ <;> intro hb <;> (try simp only [bls] at hb) <;> (try simp only [hb]))
 | refine gRe [] [.cell 2 46] rfl rfl ?_) <;> (try simp only [go_sem, simprocAttr]))
 | (refine hK _ _ ?_; clear hK K; simp only [go_sem, simprocAttr])
 | refine gCd ?_ | refine brT ?_ | refine brF ?_
 | (refine brS ?_ ?_ <;> intro hc <;> (try simp only [bls] at hc) <;> (try simp only [hc, bls]))
 | intro _ | refine And.intro ?_ ?_)
 rename_i h2 h3
 refine ae.prune [0, 2, 3, 8, 9, 10] ?_; simp only [go_sem, simprocAttr]
 refine ae.al (α := Nat) (fun i => ([(0, .sl q f (nW l)), (2, .bx 2 h2 0), (3, .bx 3 h3 0), (8, .sl q f (nW l)), (9, .int .i64 l.length), (10, .int .i64 i)], [(2, h2, .box av.none.cells), (3, h3, .box ((l.take i).foldl aw.or aQ).I.cells)])) (fun i => i ≤ l.length ∧ ((l.take i).foldl aw.or aQ).ok) (fun i => l.length - i) 0 ⟨Nat.zero_le _, by simp [aQ, aw.ok]⟩ rfl ?_
 rintro i ⟨hi, hk⟩ ih
 simp only
 by_cases hle : i < l.length
 ·have e4 : (i : Int) < l.length := by omega
  have e5 : (0 : Int) ≤ i := by omega
  have hx : l[i]? = some l[i] := List.getElem?_eq_getElem hle
  have hb := hok l[i] (List.getElem_mem hle)
  have ht : (l.take (i + 1)).foldl aw.or aQ = ((l.take i).foldl aw.or aQ).or l[i] := by rw [take_one hx, List.foldl_append]; rfl
  generalize l[i] = b at hx hb ht
  have hok2 : ((l.take (i + 1)).foldl aw.or aQ).ok := by rw [ht]; exact jm hk hb
  have ih := ih (i + 1) ⟨by omega, hok2⟩ (by omega)
  simp only [ht] at ih
  generalize (l.take i).foldl aw.or aQ = s at hk ih ⊢
  obtain ⟨s0, s1, s2, s3⟩ := s
  obtain ⟨b0, b1, b2, b3⟩ := b
  obtain ⟨k0, k1, k2, k3⟩ := hk
  obtain ⟨j0, j1, j2, j3⟩ := hb
  simp only at k0 k1 k2 k3 j0 j1 j2 j3
  have o0 := c9 k0 j0
  have o1 := c9 k1 j1
  have o2 := c9 k2 j2
  have o3 := c9 k3 j3
  repeat' (first
 | refine ae.uH 6 ?_ | refine ae.nO 6 ?_
 | refine gCt rfl ?_
 | ((first
 | ((first | refine gR fp114 ?_); intro K hK)
 | (refine ab ?_ ?_ <;> intro hb <;> (try simp only [bls] at hb) <;> (try simp only [hb]))
 | refine gRe [] [.cell 2 46] rfl rfl ?_) <;> (try simp only [go_sem, simprocAttr, e4, e5, hx, o0, o1, o2, o3, Option.some.injEq, forall_eq']))
 | (refine hK _ _ ?_; clear hK K; simp only [go_sem, simprocAttr])
 | refine gCd ?_ | refine brT ?_ | refine brF ?_
 | (refine brS ?_ ?_ <;> intro hc <;> (try simp only [bls] at hc) <;> (try simp only [hc, bls]))
 | intro _ | refine And.intro ?_ ?_)
  all_goals try exact zsd
  refine ae.bC [2, 3] ?_
  simp only [aq, ax, go_sem, simprocAttr]
  refine ae.prune [0, 2, 3, 8, 9, 10] ?_; simp only [go_sem, simprocAttr]
  exact ih.cast rfl rfl
 ·have e4 : ¬ (i : Int) < l.length := by omega
  rw [List.take_of_length_le (by omega)]
  generalize l.foldl aw.or aQ = s
  obtain ⟨s0, s1, s2, s3⟩ := s
  repeat' (first
 | refine gCt rfl ?_
 | ((first
 | ((first | refine gR fp114 ?_); intro K hK)
 | (refine ab ?_ ?_ <;> intro hb <;> (try simp only [bls] at hb) <;> (try simp only [hb]))
 | refine gRe [] [.cell 2 46] rfl rfl ?_) <;> (try simp only [go_sem, simprocAttr, e4]))
 | (refine hK _ _ ?_; clear hK K; simp only [go_sem, simprocAttr])
 | refine gCd ?_ | refine brT ?_ | refine brF ?_
 | (refine brS ?_ ?_ <;> intro hc <;> (try simp only [bls] at hc) <;> (try simp only [hc, bls]))
 | intro _ | refine And.intro ?_ ?_)
theorem yS (q f : Bool) (l : List aw) (hok : ∀ s ∈ l, s.ok) (hl : l.length ≤ 1000000) : ah Tryz.prog 112 [.sl q f (nW l)] [] fun r s' => r = .agg (l.foldl aw.and b9).I.cells ∧ s' = [] := by
 have hnot := I6
 simp only [aQ, b9, Int.natCast_zero] at hnot
 refine ah.enter Tryz.func112 rfl (by kernel_rfl) (Nat.le_of_ble_eq_true rfl) ?_; simp only [ai, Nat.reduceAdd]
 repeat' (first
 | refine gCt rfl ?_
 | ((first
 | ((first | refine gR fp112 ?_); intro K hK)
 | refine cAl (hnot) rfl rfl rfl ?_
 | (refine ab ?_ ?_ <;> intro hb <;> (try simp only [bls] at hb) <;> (try simp only [hb]))
 | refine gRe [] [.cell 2 46] rfl rfl ?_) <;> (try simp only [go_sem, simprocAttr]))
 | (refine hK _ _ ?_; clear hK K; simp only [go_sem, simprocAttr])
 | refine gCd ?_ | refine brT ?_ | refine brF ?_
 | (refine brS ?_ ?_ <;> intro hc <;> (try simp only [bls] at hc) <;> (try simp only [hc, bls]))
 | intro _ | refine And.intro ?_ ?_)
 rename_i h2 h3
 refine ae.prune [0, 2, 3, 10, 11, 12] ?_; simp only [go_sem, simprocAttr]
 refine ae.al (α := Nat) (fun i => ([(0, .sl q f (nW l)), (2, .bx 2 h2 0), (3, .bx 3 h3 0), (10, .sl q f (nW l)), (11, .int .i64 l.length), (12, .int .i64 i)], [(2, h2, .box av.none.cells), (3, h3, .box ((l.take i).foldl aw.and b9).I.cells)])) (fun i => i ≤ l.length ∧ ((l.take i).foldl aw.and b9).ok) (fun i => l.length - i) 0 ⟨Nat.zero_le _, by simp [b9, aw.ok]⟩ rfl ?_
 rintro i ⟨hi, hk⟩ ih
 simp only
 by_cases hle : i < l.length
 ·have e4 : (i : Int) < l.length := by omega
  have e5 : (0 : Int) ≤ i := by omega
  have hx : l[i]? = some l[i] := List.getElem?_eq_getElem hle
  have hb := hok l[i] (List.getElem_mem hle)
  have ht : (l.take (i + 1)).foldl aw.and b9 = ((l.take i).foldl aw.and b9).and l[i] := by rw [take_one hx, List.foldl_append]; rfl
  generalize l[i] = b at hx hb ht
  have hok2 : ((l.take (i + 1)).foldl aw.and b9).ok := by rw [ht]; exact gf hk
  have ih := ih (i + 1) ⟨by omega, hok2⟩ (by omega)
  simp only [ht] at ih
  generalize (l.take i).foldl aw.and b9 = s at hk ih ⊢
  obtain ⟨s0, s1, s2, s3⟩ := s
  obtain ⟨b0, b1, b2, b3⟩ := b
  obtain ⟨k0, k1, k2, k3⟩ := hk
  obtain ⟨j0, j1, j2, j3⟩ := hb
  simp only at k0 k1 k2 k3 j0 j1 j2 j3
  have o0 := dv k0 j0
  have o1 := dv k1 j1
  have o2 := dv k2 j2
  have o3 := dv k3 j3
  repeat' (first
 | refine ae.uH 6 ?_ | refine ae.nO 6 ?_
 | refine gCt rfl ?_
 | ((first
 | ((first | refine gR fp112 ?_); intro K hK)
 | (refine ab ?_ ?_ <;> intro hb <;> (try simp only [bls] at hb) <;> (try simp only [hb]))
 | refine gRe [] [.cell 2 46] rfl rfl ?_) <;> (try simp only [go_sem, simprocAttr, e4, e5, hx, o0, o1, o2, o3, Option.some.injEq, forall_eq']))
 | (refine hK _ _ ?_; clear hK K; simp only [go_sem, simprocAttr])
 | refine gCd ?_ | refine brT ?_ | refine brF ?_
 | (refine brS ?_ ?_ <;> intro hc <;> (try simp only [bls] at hc) <;> (try simp only [hc, bls]))
 | intro _ | refine And.intro ?_ ?_)
  all_goals try exact zsd
  refine ae.bC [2, 3] ?_
  simp only [aq, ax, go_sem, simprocAttr]
  refine ae.prune [0, 2, 3, 10, 11, 12] ?_; simp only [go_sem, simprocAttr]
  exact ih.cast rfl rfl
 ·have e4 : ¬ (i : Int) < l.length := by omega
  rw [List.take_of_length_le (by omega)]
  generalize l.foldl aw.and b9 = s
  obtain ⟨s0, s1, s2, s3⟩ := s
  repeat' (first
 | refine gCt rfl ?_
 | ((first
 | ((first | refine gR fp112 ?_); intro K hK)
 | (refine ab ?_ ?_ <;> intro hb <;> (try simp only [bls] at hb) <;> (try simp only [hb]))
 | refine gRe [] [.cell 2 46] rfl rfl ?_) <;> (try simp only [go_sem, simprocAttr, e4]))
 | (refine hK _ _ ?_; clear hK K; simp only [go_sem, simprocAttr])
 | refine gCd ?_ | refine brT ?_ | refine brF ?_
 | (refine brS ?_ ?_ <;> intro hc <;> (try simp only [bls] at hc) <;> (try simp only [hc, bls]))
 | intro _ | refine And.intro ?_ ?_)
end Go.Rad
namespace Go.Rad
open Go
theorem fN {n k : Nat} (hd : 2 ^ k ∣ n) (h0 : n ≠ 0) : 2 ^ (k + 1) ∣ n &&& (n - 1) := by
 obtain ⟨q, rfl⟩ := hd
 have hq : q ≠ 0 := by rintro rfl; simp at h0
 have hp : 0 < 2 ^ k := Nat.pow_pos (by decide)
 refine Nat.dvd_of_mod_eq_zero (Nat.eq_of_testBit_eq fun i => ?_)
 rw [Nat.testBit_mod_two_pow, Nat.zero_testBit, Nat.testBit_and]
 by_cases hi : i < k + 1
 ·simp only [hi, decide_true, Bool.true_and]
  rcases Nat.lt_or_ge i k with h | h
  ·rw [Nat.testBit_two_pow_mul]
   simp [Nat.not_le.2 h]
  ·have : i = k := by omega
   subst this
   have e : 2 ^ i * q - 1 = 2 ^ i * (q - 1) + (2 ^ i - 1) := by
    have : 2 ^ i * q = 2 ^ i * (q - 1) + 2 ^ i := by
     rw [← Nat.mul_succ]; congr 1; omega
    omega
   rw [Nat.testBit_two_pow_mul, e, Nat.testBit_two_pow_mul_add _ (by omega)]
   simp only [Nat.le_refl, decide_true, Nat.sub_self, Nat.lt_irrefl, if_false, Bool.true_and]
   simp only [Nat.testBit_zero]
   by_cases h1 : q % 2 = 1
   ·have : ¬ (q - 1) % 2 = 1 := by omega
    simp [this]
   ·simp [h1]
 ·simp [hi]
theorem dw {n : Nat} (h0 : n ≠ 0) : n &&& (n - 1) < n := Nat.lt_of_le_of_lt Nat.and_le_right (by omega)
theorem nv {n k : Nat} (hd : 2 ^ k ∣ n) (h0 : n ≠ 0) (hn : n < 18446744073709551616) : k < 64 := by
 have h1 := Nat.le_of_dvd (Nat.pos_of_ne_zero h0) hd
 rcases Nat.lt_or_ge k 64 with h | h
 ·exact h
 ·exfalso
  have : 2 ^ 64 ≤ 2 ^ k := Nat.pow_le_pow_right (by decide) h
  have h64 : (2 : Nat) ^ 64 = 18446744073709551616 := by decide
  rw [h64] at this
  omega
end Go.Rad
namespace Go.Rad
open Go Go.Proofs
set_option linter.all false
set_option maxRecDepth 20000
set_option maxHeartbeats 4000000
def tzN (n : Nat) : Nat := (tzS n).toNat
theorem rF (n : Nat) : tzN n ≤ 64 ∧ tzS n = (tzN n : Int) := by
 have h : 0 ≤ tzS n ∧ tzS n ≤ 64 := by
  unfold tzS
  split
  ·decide
  ·have := pt (tzI n); omega
 unfold tzN
 omega
def cY : Nat → Nat → Nat → List Nat → List Nat
 | 0, _, _, acc => acc
 | f + 1, i, n, acc => if n = 0 then acc else cY f i (n &&& (n - 1)) (acc ++ [(64 * i + tzN n) % 256])
theorem pK : ∀ (f i n : Nat) (acc : List Nat), (cY f i n acc).length ≤ acc.length + f
 | 0, _, _, acc => Nat.le_refl _
 | f + 1, i, n, acc => by
  rw [cY]
  split
  ·omega
  ·have := pK f i (n &&& (n - 1)) (acc ++ [(64 * i + tzN n) % 256])
   simp only [List.length_append, List.length_cons, List.length_nil] at this
   omega
theorem sS : ∀ (f i n : Nat) (acc : List Nat), (∀ x ∈ acc, x ≤ 255) → ∀ x ∈ cY f i n acc, x ≤ 255
 | 0, _, _, acc, h => h
 | f + 1, i, n, acc, h => by
  rw [cY]
  split
  ·exact h
  ·refine sS f i _ _ fun x hx => ?_
   rcases List.mem_append.1 hx with hx | hx
   ·exact h x hx
   ·simp only [List.mem_singleton] at hx; omega
def bQ (s : aw) (m : Nat) : List Nat := (List.range m).foldl (fun acc i => cY 65 i (s.word i) acc) []
def jj (s : aw) : List Nat := bQ s 4
theorem b6 (s : aw) (m : Nat) : bQ s (m + 1) = cY 65 m (s.word m) (bQ s m) := by
 simp [bQ, List.range_succ]
theorem gy (s : aw) : ∀ m, (bQ s m).length ≤ 65 * m
 | 0 => Nat.le_refl _
 | m + 1 => by
  rw [b6]
  have := pK 65 m (s.word m) (bQ s m)
  have := gy s m
  omega
theorem il (s : aw) : ∀ m, ∀ x ∈ bQ s m, x ≤ 255
 | 0, x, h => by simp [bQ] at h
 | m + 1, x, h => by
  rw [b6] at h
  exact sS _ _ _ _ (il s m) x h
theorem kK {s : aw} (h : s.ok) (i : Nat) : s.word i < 18446744073709551616 := by
 obtain ⟨a, b, c, d⟩ := h
 unfold aw.word
 split <;> assumption
theorem vZ (s : aw) (hok : s.ok) : ah Tryz.prog 111 [.agg s.I.cells] [] fun r s' => r = .sl true false (cp (jj s)) ∧ s' = [] := by
 obtain ⟨s0, s1, s2, s3⟩ := s
 obtain ⟨k0, k1, k2, k3⟩ := hok
 simp only at k0 k1 k2 k3
 refine ah.enter Tryz.func111 rfl (by kernel_rfl) (Nat.le_of_ble_eq_true rfl) ?_; simp only [ai, Nat.reduceAdd]
 repeat' (first
 | refine gCt rfl ?_
 | ((first
 | ((first | refine gR fp111 ?_); intro K hK)
 | (refine ab ?_ ?_ <;> intro hb <;> (try simp only [bls] at hb) <;> (try simp only [hb]))
 | refine gRe [] [.tmp 2] rfl rfl ?_) <;> (try simp only [go_sem, simprocAttr]))
 | (refine hK _ _ ?_; clear hK K; simp only [go_sem, simprocAttr])
 | refine gCd ?_ | refine brT ?_ | refine brF ?_
 | (refine brS ?_ ?_ <;> intro hc <;> (try simp only [bls] at hc) <;> (try simp only [hc, bls]))
 | intro _ | refine And.intro ?_ ?_)
 refine ae.lQ 3 900 1 (by decide) rfl fun g => ?_
 simp only [go_sem, simprocAttr]
 refine ae.bC [900] ?_
 simp only [aq, ax, go_sem, simprocAttr]
 refine ae.prune [2, 3, 6, 7] ?_; simp only [go_sem, simprocAttr]
 refine ae.al (α := Nat × List Nat × Nat) (fun x => ([(2, .sl true true []), (3, .osl 900 x.2.2 0 x.2.1.length), (6, .agg [.int .u64 s0, .int .u64 s1, .int .u64 s2, .int .u64 s3]), (7, .int .i64 x.1)], [(900, (x.2.2, .row 1 (cp x.2.1)))])) (fun x => x.1 ≤ 4 ∧ bQ ⟨s0, s1, s2, s3⟩ x.1 = x.2.1 ∧ x.2.1.length ≤ 65 * x.1) (fun x => 4 - x.1) (0, [], g) ⟨Nat.zero_le _, rfl, Nat.le_refl _⟩ rfl ?_
 rintro ⟨i, acc, g⟩ ⟨hi, hacc, hlen⟩ ih
 simp only at hi hacc hlen ih ⊢
 have hcase : i = 0 ∨ i = 1 ∨ i = 2 ∨ i = 3 ∨ i = 4 := by omega
 rcases hcase with rfl | rfl | rfl | rfl | rfl
 ·repeat' (first
 | refine gCt rfl ?_
 | ((first
 | ((first | refine gR fp111 ?_); intro K hK)
 | (refine ab ?_ ?_ <;> intro hb <;> (try simp only [bls] at hb) <;> (try simp only [hb]))
 | refine gRe [] [.tmp 2] rfl rfl ?_) <;> (try simp only [go_sem, simprocAttr, Int.natCast_zero]))
 | (refine hK _ _ ?_; clear hK K; simp only [go_sem, simprocAttr])
 | refine gCd ?_ | refine brT ?_ | refine brF ?_
 | (refine brS ?_ ?_ <;> intro hc <;> (try simp only [bls] at hc) <;> (try simp only [hc, bls]))
 | intro _ | refine And.intro ?_ ?_)
  all_goals try exact zsd
  refine ae.prune [2, 3, 4, 5, 6, 7] ?_; simp only [go_sem, simprocAttr]
  simp only [cp]
  refine ae.al (α := Nat × Nat × List Nat × Nat) (fun x => ([(2, .sl true true []), (3, .osl 900 x.2.2.2 0 x.2.2.1.length), (4, .int .i64 (0 : Nat)), (5, .int .u64 x.2.1), (6, .agg [.int .u64 s0, .int .u64 s1, .int .u64 s2, .int .u64 s3]), (7, .int .i64 (0 : Nat))], [(900, (x.2.2.2, .row 1 (cp x.2.2.1)))])) (fun x => x.1 ≤ 64 ∧ 2 ^ x.1 ∣ x.2.1 ∧ x.2.1 < 18446744073709551616 ∧ x.2.2.1.length ≤ 65 * 0 + x.1 ∧ bQ ⟨s0, s1, s2, s3⟩ (0 + 1) = cY (65 - x.1) 0 x.2.1 x.2.2.1) (fun x => x.2.1) (0, s0, acc, g) ⟨Nat.zero_le _, Nat.one_dvd _, k0, by simp only; omega, by rw [b6, hacc]; rfl⟩ rfl ?_
  rintro ⟨k, n, ac, gg⟩ ⟨h1, h2, h3, h4, h5⟩ ih2
  simp only at h1 h2 h3 h4 h5 ih2 ⊢
  by_cases h0 : n = 0
  ·subst h0
   obtain ⟨f, hf⟩ : ∃ f, 65 - k = f + 1 := ⟨64 - k, by omega⟩
   rw [hf, cY, if_pos rfl] at h5
   repeat' (first
 | refine gCt rfl ?_
 | ((first
 | ((first | refine gR fp111 ?_); intro K hK)
 | (refine ab ?_ ?_ <;> intro hb <;> (try simp only [bls] at hb) <;> (try simp only [hb]))
 | refine gRe [] [.tmp 2] rfl rfl ?_) <;> (try simp only [go_sem, simprocAttr, Int.natCast_zero]))
 | (refine hK _ _ ?_; clear hK K; simp only [go_sem, simprocAttr])
 | refine gCd ?_ | refine brT ?_ | refine brF ?_
 | (refine brS ?_ ?_ <;> intro hc <;> (try simp only [bls] at hc) <;> (try simp only [hc, bls]))
 | intro _ | refine And.intro ?_ ?_)
   all_goals try exact zsd
   refine ae.prune [2, 3, 6, 7] ?_; simp only [go_sem, simprocAttr]
   exact (ih (0 + 1, ac, gg) ⟨by simp only; omega, h5, by simp only; omega⟩ (by simp only; omega)).cast rfl rfl
  ·have e0 : ¬ (n : Int) = 0 := by omega
   have hk := nv h2 h0 h3
   obtain ⟨f, hf⟩ : ∃ f, 65 - k = f + 1 := ⟨64 - k, by omega⟩
   have hf2 : 65 - (k + 1) = f := by omega
   rw [hf, cY, if_neg h0, ← hf2] at h5
   have htz := DS n h3
   obtain ⟨t1, t2⟩ := rF n
   rw [t2] at htz
   have ih2 := fun g' => ih2 (k + 1, n &&& (n - 1), ac ++ [(64 * 0 + tzN n) % 256], g') ⟨by simp only; omega, fN h2 h0, Nat.lt_trans (dw h0) h3, by simp; omega, h5⟩ (dw h0)
   generalize tzN n = t at htz t1 ih2
   have f1 : (64 : Int) * (0 : Nat) = ((64 * 0 : Nat) : Int) := by omega
   have f2 : ((64 * 0 : Nat) : Int) + (t : Nat) = ((64 * 0 + t : Nat) : Int) := by omega
   have f3 : IntKind.u8.wrap ((64 * 0 + t : Nat) : Int) = (((64 * 0 + t) % 256 : Nat) : Int) := by
    simp [IntKind.wrap, IntKind.signed, IntKind.bits]
   have f4 : IntKind.u64.wrap ((n : Int) - 1) = ((n - 1 : Nat) : Int) := by
    rw [show ((n : Int) - 1) = ((n - 1 : Nat) : Int) by omega]
    exact gM (by omega) (by omega)
   have f5 := dv h3 (show n - 1 < 18446744073709551616 by omega)
   repeat' (first
 | refine gCt rfl ?_
 | ((first
 | ((first | refine gR fp111 ?_); intro K hK)
 | refine cAl (htz) rfl rfl rfl ?_
 | (refine ab ?_ ?_ <;> intro hb <;> (try simp only [bls] at hb) <;> (try simp only [hb]))
 | refine gRe [] [.tmp 2] rfl rfl ?_) <;> (try simp only [go_sem, simprocAttr, e0, f1, f2, f3, f4, f5]))
 | (refine hK _ _ ?_; clear hK K; simp only [go_sem, simprocAttr])
 | refine gCd ?_ | refine brT ?_ | refine brF ?_
 | (refine brS ?_ ?_ <;> intro hc <;> (try simp only [bls] at hc) <;> (try simp only [hc, bls]))
 | intro _ | refine And.intro ?_ ?_)
   all_goals try exact zsd
   rename_i hh
   refine ae.bC [900] ?_
   simp only [aq, ax, go_sem, simprocAttr]
   refine ae.prune [2, 3, 4, 5, 6, 7] ?_; simp only [go_sem, simprocAttr]
   have f6 : ∀ z : Int, IntKind.u8.wrap z = z % 256 := by intro z; simp [IntKind.wrap, IntKind.signed, IntKind.bits]
   exact (ih2 hh).cast (by simp) (by simp [f6])
 ·repeat' (first
 | refine gCt rfl ?_
 | ((first
 | ((first | refine gR fp111 ?_); intro K hK)
 | (refine ab ?_ ?_ <;> intro hb <;> (try simp only [bls] at hb) <;> (try simp only [hb]))
 | refine gRe [] [.tmp 2] rfl rfl ?_) <;> (try simp only [go_sem, simprocAttr, Int.natCast_zero]))
 | (refine hK _ _ ?_; clear hK K; simp only [go_sem, simprocAttr])
 | refine gCd ?_ | refine brT ?_ | refine brF ?_
 | (refine brS ?_ ?_ <;> intro hc <;> (try simp only [bls] at hc) <;> (try simp only [hc, bls]))
 | intro _ | refine And.intro ?_ ?_)
  all_goals try exact zsd
  refine ae.prune [2, 3, 4, 5, 6, 7] ?_; simp only [go_sem, simprocAttr]
  simp only [cp]
  refine ae.al (α := Nat × Nat × List Nat × Nat) (fun x => ([(2, .sl true true []), (3, .osl 900 x.2.2.2 0 x.2.2.1.length), (4, .int .i64 (1 : Nat)), (5, .int .u64 x.2.1), (6, .agg [.int .u64 s0, .int .u64 s1, .int .u64 s2, .int .u64 s3]), (7, .int .i64 (1 : Nat))], [(900, (x.2.2.2, .row 1 (cp x.2.2.1)))])) (fun x => x.1 ≤ 64 ∧ 2 ^ x.1 ∣ x.2.1 ∧ x.2.1 < 18446744073709551616 ∧ x.2.2.1.length ≤ 65 * 1 + x.1 ∧ bQ ⟨s0, s1, s2, s3⟩ (1 + 1) = cY (65 - x.1) 1 x.2.1 x.2.2.1) (fun x => x.2.1) (0, s1, acc, g) ⟨Nat.zero_le _, Nat.one_dvd _, k1, by simp only; omega, by rw [b6, hacc]; rfl⟩ rfl ?_
  rintro ⟨k, n, ac, gg⟩ ⟨h1, h2, h3, h4, h5⟩ ih2
  simp only at h1 h2 h3 h4 h5 ih2 ⊢
  by_cases h0 : n = 0
  ·subst h0
   obtain ⟨f, hf⟩ : ∃ f, 65 - k = f + 1 := ⟨64 - k, by omega⟩
   rw [hf, cY, if_pos rfl] at h5
   repeat' (first
 | refine gCt rfl ?_
 | ((first
 | ((first | refine gR fp111 ?_); intro K hK)
 | (refine ab ?_ ?_ <;> intro hb <;> (try simp only [bls] at hb) <;> (try simp only [hb]))
 | refine gRe [] [.tmp 2] rfl rfl ?_) <;> (try simp only [go_sem, simprocAttr, Int.natCast_zero]))
 | (refine hK _ _ ?_; clear hK K; simp only [go_sem, simprocAttr])
 | refine gCd ?_ | refine brT ?_ | refine brF ?_
 | (refine brS ?_ ?_ <;> intro hc <;> (try simp only [bls] at hc) <;> (try simp only [hc, bls]))
 | intro _ | refine And.intro ?_ ?_)
   all_goals try exact zsd
   refine ae.prune [2, 3, 6, 7] ?_; simp only [go_sem, simprocAttr]
   exact (ih (1 + 1, ac, gg) ⟨by simp only; omega, h5, by simp only; omega⟩ (by simp only; omega)).cast rfl rfl
  ·have e0 : ¬ (n : Int) = 0 := by omega
   have hk := nv h2 h0 h3
   obtain ⟨f, hf⟩ : ∃ f, 65 - k = f + 1 := ⟨64 - k, by omega⟩
   have hf2 : 65 - (k + 1) = f := by omega
   rw [hf, cY, if_neg h0, ← hf2] at h5
   have htz := DS n h3
   obtain ⟨t1, t2⟩ := rF n
   rw [t2] at htz
   have ih2 := fun g' => ih2 (k + 1, n &&& (n - 1), ac ++ [(64 * 1 + tzN n) % 256], g') ⟨by simp only; omega, fN h2 h0, Nat.lt_trans (dw h0) h3, by simp; omega, h5⟩ (dw h0)
   generalize tzN n = t at htz t1 ih2
   have f1 : (64 : Int) * (1 : Nat) = ((64 * 1 : Nat) : Int) := by omega
   have f2 : ((64 * 1 : Nat) : Int) + (t : Nat) = ((64 * 1 + t : Nat) : Int) := by omega
   have f3 : IntKind.u8.wrap ((64 * 1 + t : Nat) : Int) = (((64 * 1 + t) % 256 : Nat) : Int) := by
    simp [IntKind.wrap, IntKind.signed, IntKind.bits]
   have f4 : IntKind.u64.wrap ((n : Int) - 1) = ((n - 1 : Nat) : Int) := by
    rw [show ((n : Int) - 1) = ((n - 1 : Nat) : Int) by omega]
    exact gM (by omega) (by omega)
   have f5 := dv h3 (show n - 1 < 18446744073709551616 by omega)
   repeat' (first
 | refine gCt rfl ?_
 | ((first
 | ((first | refine gR fp111 ?_); intro K hK)
 | refine cAl (htz) rfl rfl rfl ?_
 | (refine ab ?_ ?_ <;> intro hb <;> (try simp only [bls] at hb) <;> (try simp only [hb]))
 | refine gRe [] [.tmp 2] rfl rfl ?_) <;> (try simp only [go_sem, simprocAttr, e0, f1, f2, f3, f4, f5]))
 | (refine hK _ _ ?_; clear hK K; simp only [go_sem, simprocAttr])
 | refine gCd ?_ | refine brT ?_ | refine brF ?_
 | (refine brS ?_ ?_ <;> intro hc <;> (try simp only [bls] at hc) <;> (try simp only [hc, bls]))
 | intro _ | refine And.intro ?_ ?_)
   all_goals try exact zsd
   rename_i hh
   refine ae.bC [900] ?_
   simp only [aq, ax, go_sem, simprocAttr]
   refine ae.prune [2, 3, 4, 5, 6, 7] ?_; simp only [go_sem, simprocAttr]
   have f6 : ∀ z : Int, IntKind.u8.wrap z = z % 256 := by intro z; simp [IntKind.wrap, IntKind.signed, IntKind.bits]
   exact (ih2 hh).cast (by simp) (by simp [f6])
 ·repeat' (first
 | refine gCt rfl ?_
 | ((first
 | ((first | refine gR fp111 ?_); intro K hK)
 | (refine ab ?_ ?_ <;> intro hb <;> (try simp only [bls] at hb) <;> (try simp only [hb]))
 | refine gRe [] [.tmp 2] rfl rfl ?_) <;> (try simp only [go_sem, simprocAttr, Int.natCast_zero]))
 | (refine hK _ _ ?_; clear hK K; simp only [go_sem, simprocAttr])
 | refine gCd ?_ | refine brT ?_ | refine brF ?_
 | (refine brS ?_ ?_ <;> intro hc <;> (try simp only [bls] at hc) <;> (try simp only [hc, bls]))
 | intro _ | refine And.intro ?_ ?_)
  all_goals try exact zsd
  refine ae.prune [2, 3, 4, 5, 6, 7] ?_; simp only [go_sem, simprocAttr]
  simp only [cp]
  refine ae.al (α := Nat × Nat × List Nat × Nat) (fun x => ([(2, .sl true true []), (3, .osl 900 x.2.2.2 0 x.2.2.1.length), (4, .int .i64 (2 : Nat)), (5, .int .u64 x.2.1), (6, .agg [.int .u64 s0, .int .u64 s1, .int .u64 s2, .int .u64 s3]), (7, .int .i64 (2 : Nat))], [(900, (x.2.2.2, .row 1 (cp x.2.2.1)))])) (fun x => x.1 ≤ 64 ∧ 2 ^ x.1 ∣ x.2.1 ∧ x.2.1 < 18446744073709551616 ∧ x.2.2.1.length ≤ 65 * 2 + x.1 ∧ bQ ⟨s0, s1, s2, s3⟩ (2 + 1) = cY (65 - x.1) 2 x.2.1 x.2.2.1) (fun x => x.2.1) (0, s2, acc, g) ⟨Nat.zero_le _, Nat.one_dvd _, k2, by simp only; omega, by rw [b6, hacc]; rfl⟩ rfl ?_
  rintro ⟨k, n, ac, gg⟩ ⟨h1, h2, h3, h4, h5⟩ ih2
  simp only at h1 h2 h3 h4 h5 ih2 ⊢
  by_cases h0 : n = 0
  ·subst h0
   obtain ⟨f, hf⟩ : ∃ f, 65 - k = f + 1 := ⟨64 - k, by omega⟩
   rw [hf, cY, if_pos rfl] at h5
   repeat' (first
 | refine gCt rfl ?_
 | ((first
 | ((first | refine gR fp111 ?_); intro K hK)
 | (refine ab ?_ ?_ <;> intro hb <;> (try simp only [bls] at hb) <;> (try simp only [hb]))
 | refine gRe [] [.tmp 2] rfl rfl ?_) <;> (try simp only [go_sem, simprocAttr, Int.natCast_zero]))
 | (refine hK _ _ ?_; clear hK K; simp only [go_sem, simprocAttr])
 | refine gCd ?_ | refine brT ?_ | refine brF ?_
 | (refine brS ?_ ?_ <;> intro hc <;> (try simp only [bls] at hc) <;> (try simp only [hc, bls]))
 | intro _ | refine And.intro ?_ ?_)
   all_goals try exact zsd
   refine ae.prune [2, 3, 6, 7] ?_; simp only [go_sem, simprocAttr]
   exact (ih (2 + 1, ac, gg) ⟨by simp only; omega, h5, by simp only; omega⟩ (by simp only; omega)).cast rfl rfl
  ·have e0 : ¬ (n : Int) = 0 := by omega
   have hk := nv h2 h0 h3
   obtain ⟨f, hf⟩ : ∃ f, 65 - k = f + 1 := ⟨64 - k, by omega⟩
   have hf2 : 65 - (k + 1) = f := by omega
   rw [hf, cY, if_neg h0, ← hf2] at h5
   have htz := DS n h3
   obtain ⟨t1, t2⟩ := rF n
   rw [t2] at htz
   have ih2 := fun g' => ih2 (k + 1, n &&& (n - 1), ac ++ [(64 * 2 + tzN n) % 256], g') ⟨by simp only; omega, fN h2 h0, Nat.lt_trans (dw h0) h3, by simp; omega, h5⟩ (dw h0)
   generalize tzN n = t at htz t1 ih2
   have f1 : (64 : Int) * (2 : Nat) = ((64 * 2 : Nat) : Int) := by omega
   have f2 : ((64 * 2 : Nat) : Int) + (t : Nat) = ((64 * 2 + t : Nat) : Int) := by omega
   have f3 : IntKind.u8.wrap ((64 * 2 + t : Nat) : Int) = (((64 * 2 + t) % 256 : Nat) : Int) := by
    simp [IntKind.wrap, IntKind.signed, IntKind.bits]
   have f4 : IntKind.u64.wrap ((n : Int) - 1) = ((n - 1 : Nat) : Int) := by
    rw [show ((n : Int) - 1) = ((n - 1 : Nat) : Int) by omega]
    exact gM (by omega) (by omega)
   have f5 := dv h3 (show n - 1 < 18446744073709551616 by omega)
   repeat' (first
 | refine gCt rfl ?_
 | ((first
 | ((first | refine gR fp111 ?_); intro K hK)
 | refine cAl (htz) rfl rfl rfl ?_
 | (refine ab ?_ ?_ <;> intro hb <;> (try simp only [bls] at hb) <;> (try simp only [hb]))
 | refine gRe [] [.tmp 2] rfl rfl ?_) <;> (try simp only [go_sem, simprocAttr, e0, f1, f2, f3, f4, f5]))
 | (refine hK _ _ ?_; clear hK K; simp only [go_sem, simprocAttr])
 | refine gCd ?_ | refine brT ?_ | refine brF ?_
 | (refine brS ?_ ?_ <;> intro hc <;> (try simp only [bls] at hc) <;> (try simp only [hc, bls]))
 | intro _ | refine And.intro ?_ ?_)
   all_goals try exact zsd
   rename_i hh
   refine ae.bC [900] ?_
   simp only [aq, ax, go_sem, simprocAttr]
   refine ae.prune [2, 3, 4, 5, 6, 7] ?_; simp only [go_sem, simprocAttr]
   have f6 : ∀ z : Int, IntKind.u8.wrap z = z % 256 := by intro z; simp [IntKind.wrap, IntKind.signed, IntKind.bits]
   exact (ih2 hh).cast (by simp) (by simp [f6])
 ·repeat' (first
 | refine gCt rfl ?_
 | ((first
 | ((first | refine gR fp111 ?_); intro K hK)
 | (refine ab ?_ ?_ <;> intro hb <;> (try simp only [bls] at hb) <;> (try simp only [hb]))
 | refine gRe [] [.tmp 2] rfl rfl ?_) <;> (try simp only [go_sem, simprocAttr, Int.natCast_zero]))
 | (refine hK _ _ ?_; clear hK K; simp only [go_sem, simprocAttr])
 | refine gCd ?_ | refine brT ?_ | refine brF ?_
 | (refine brS ?_ ?_ <;> intro hc <;> (try simp only [bls] at hc) <;> (try simp only [hc, bls]))
 | intro _ | refine And.intro ?_ ?_)
  all_goals try exact zsd
  refine ae.prune [2, 3, 4, 5, 6, 7] ?_; simp only [go_sem, simprocAttr]
  simp only [cp]
  refine ae.al (α := Nat × Nat × List Nat × Nat) (fun x => ([(2, .sl true true []), (3, .osl 900 x.2.2.2 0 x.2.2.1.length), (4, .int .i64 (3 : Nat)), (5, .int .u64 x.2.1), (6, .agg [.int .u64 s0, .int .u64 s1, .int .u64 s2, .int .u64 s3]), (7, .int .i64 (3 : Nat))], [(900, (x.2.2.2, .row 1 (cp x.2.2.1)))])) (fun x => x.1 ≤ 64 ∧ 2 ^ x.1 ∣ x.2.1 ∧ x.2.1 < 18446744073709551616 ∧ x.2.2.1.length ≤ 65 * 3 + x.1 ∧ bQ ⟨s0, s1, s2, s3⟩ (3 + 1) = cY (65 - x.1) 3 x.2.1 x.2.2.1) (fun x => x.2.1) (0, s3, acc, g) ⟨Nat.zero_le _, Nat.one_dvd _, k3, by simp only; omega, by rw [b6, hacc]; rfl⟩ rfl ?_
  rintro ⟨k, n, ac, gg⟩ ⟨h1, h2, h3, h4, h5⟩ ih2
  simp only at h1 h2 h3 h4 h5 ih2 ⊢
  by_cases h0 : n = 0
  ·subst h0
   obtain ⟨f, hf⟩ : ∃ f, 65 - k = f + 1 := ⟨64 - k, by omega⟩
   rw [hf, cY, if_pos rfl] at h5
   repeat' (first
 | refine gCt rfl ?_
 | ((first
 | ((first | refine gR fp111 ?_); intro K hK)
 | (refine ab ?_ ?_ <;> intro hb <;> (try simp only [bls] at hb) <;> (try simp only [hb]))
 | refine gRe [] [.tmp 2] rfl rfl ?_) <;> (try simp only [go_sem, simprocAttr, Int.natCast_zero]))
 | (refine hK _ _ ?_; clear hK K; simp only [go_sem, simprocAttr])
 | refine gCd ?_ | refine brT ?_ | refine brF ?_
 | (refine brS ?_ ?_ <;> intro hc <;> (try simp only [bls] at hc) <;> (try simp only [hc, bls]))
 | intro _ | refine And.intro ?_ ?_)
   all_goals try exact zsd
   refine ae.prune [2, 3, 6, 7] ?_; simp only [go_sem, simprocAttr]
   exact (ih (3 + 1, ac, gg) ⟨by simp only; omega, h5, by simp only; omega⟩ (by simp only; omega)).cast rfl rfl
  ·have e0 : ¬ (n : Int) = 0 := by omega
   have hk := nv h2 h0 h3
   obtain ⟨f, hf⟩ : ∃ f, 65 - k = f + 1 := ⟨64 - k, by omega⟩
   have hf2 : 65 - (k + 1) = f := by omega
   rw [hf, cY, if_neg h0, ← hf2] at h5
   have htz := DS n h3
   obtain ⟨t1, t2⟩ := rF n
   rw [t2] at htz
   have ih2 := fun g' => ih2 (k + 1, n &&& (n - 1), ac ++ [(64 * 3 + tzN n) % 256], g') ⟨by simp only; omega, fN h2 h0, Nat.lt_trans (dw h0) h3, by simp; omega, h5⟩ (dw h0)
   generalize tzN n = t at htz t1 ih2
   have f1 : (64 : Int) * (3 : Nat) = ((64 * 3 : Nat) : Int) := by omega
   have f2 : ((64 * 3 : Nat) : Int) + (t : Nat) = ((64 * 3 + t : Nat) : Int) := by omega
   have f3 : IntKind.u8.wrap ((64 * 3 + t : Nat) : Int) = (((64 * 3 + t) % 256 : Nat) : Int) := by
    simp [IntKind.wrap, IntKind.signed, IntKind.bits]
   have f4 : IntKind.u64.wrap ((n : Int) - 1) = ((n - 1 : Nat) : Int) := by
    rw [show ((n : Int) - 1) = ((n - 1 : Nat) : Int) by omega]
    exact gM (by omega) (by omega)
   have f5 := dv h3 (show n - 1 < 18446744073709551616 by omega)
   repeat' (first
 | refine gCt rfl ?_
 | ((first
 | ((first | refine gR fp111 ?_); intro K hK)
 | refine cAl (htz) rfl rfl rfl ?_
 | (refine ab ?_ ?_ <;> intro hb <;> (try simp only [bls] at hb) <;> (try simp only [hb]))
 | refine gRe [] [.tmp 2] rfl rfl ?_) <;> (try simp only [go_sem, simprocAttr, e0, f1, f2, f3, f4, f5]))
 | (refine hK _ _ ?_; clear hK K; simp only [go_sem, simprocAttr])
 | refine gCd ?_ | refine brT ?_ | refine brF ?_
 | (refine brS ?_ ?_ <;> intro hc <;> (try simp only [bls] at hc) <;> (try simp only [hc, bls]))
 | intro _ | refine And.intro ?_ ?_)
   all_goals try exact zsd
   rename_i hh
   refine ae.bC [900] ?_
   simp only [aq, ax, go_sem, simprocAttr]
   refine ae.prune [2, 3, 4, 5, 6, 7] ?_; simp only [go_sem, simprocAttr]
   have f6 : ∀ z : Int, IntKind.u8.wrap z = z % 256 := by intro z; simp [IntKind.wrap, IntKind.signed, IntKind.bits]
   exact (ih2 hh).cast (by simp) (by simp [f6])
 ·repeat' (first
 | refine gCt rfl ?_
 | ((first
 | (refine ae.at 9 ?_; (refine ae.freeze 900 rfl ?_; simp only [rfT, rfS, rfO, rf, rf1, true_and, go_sem, simprocAttr]); refine gR fp111 ?_; intro K hK)
 | ((first | refine gR fp111 ?_); intro K hK)
 | (refine ab ?_ ?_ <;> intro hb <;> (try simp only [bls] at hb) <;> (try simp only [hb]))
 | refine gRe [] [.tmp 2] rfl rfl ?_) <;> (try simp only [go_sem, simprocAttr, Int.natCast_zero]))
 | (refine hK _ _ ?_; clear hK K; simp only [go_sem, simprocAttr])
 | refine gCd ?_ | refine brT ?_ | refine brF ?_
 | (refine brS ?_ ?_ <;> intro hc <;> (try simp only [bls] at hc) <;> (try simp only [hc, bls]))
 | intro _ | refine And.intro ?_ ?_)
  rw [jj, hacc, List.take_of_length_le (by simp)]
end Go.Rad
