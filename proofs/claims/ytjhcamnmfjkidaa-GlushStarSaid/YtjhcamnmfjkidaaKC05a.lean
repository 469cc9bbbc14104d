/- Contracts: syntax: names, nodes, trees. -/
import Derived.Test.YtjhcamnmfjkidaaKP09b
import Derived.Test.YtjhcamnmfjkidaaKRNode
import Derived.Test.YtjhcamnmfjkidaaKRNorm
set_option linter.all false
namespace Go.Rad
open Go Go.Proofs
set_option linter.all false
set_option maxRecDepth 20000
set_option maxHeartbeats 4000000

theorem letterS_c (c : Nat) : ACall Try.prog 95 [.int .u8 c] [] fun r s => r = .bool (letterN c) ∧ s = [] := by
  refine ACall.enter Try.func95 rfl (by kernel_rfl) (Nat.le_of_ble_eq_true rfl) ?_; simp only [initTm, Nat.reduceAdd]
  repeat' (first
  | refine gSq ?_ | refine gSk ?_ | refine gBl ?_ | refine gIb ?_ | refine gEx rfl ?_
  | ((first
  | (refine gRg [] [0, 2] ?_; intro K hK)
  | (refine gd_split ?_ ?_ <;> intro hb <;> (try simp only [bls] at hb) <;> (try simp only [hb]))
  | refine gRt [] [.tmp 2] rfl ?_ | refine gDn [] [.tmp 2] rfl ?_) <;> (try simp only [go_sem, simprocAttr]))
  | (refine hK _ _ ?_; clear hK K; simp only [go_sem, simprocAttr])
  | refine gCd (by simp only [go_sem, simprocAttr]; rfl) rfl ?_
  | refine brT ?_ | refine brF ?_
  | (refine brS ?_ ?_ <;> intro hc <;> (try simp only [bls] at hc) <;> (try simp only [hc, bls]))
  | intro _ | refine And.intro ?_ ?_)
  all_goals (refine congrArg AVal.bool ?_; rw [Bool.eq_iff_iff]; simp [letterN] <;> omega)
theorem digitS_c (c : Nat) : ACall Try.prog 96 [.int .u8 c] [] fun r s => r = .bool (digitN c) ∧ s = [] := by
  refine ACall.enter Try.func96 rfl (by kernel_rfl) (Nat.le_of_ble_eq_true rfl) ?_; simp only [initTm, Nat.reduceAdd]
  repeat' (first
  | refine gSq ?_ | refine gSk ?_ | refine gBl ?_ | refine gIb ?_ | refine gEx rfl ?_
  | ((first
  | (refine gRg [] [0, 2] ?_; intro K hK)
  | (refine gd_split ?_ ?_ <;> intro hb <;> (try simp only [bls] at hb) <;> (try simp only [hb]))
  | refine gRt [] [.tmp 2] rfl ?_ | refine gDn [] [.tmp 2] rfl ?_) <;> (try simp only [go_sem, simprocAttr]))
  | (refine hK _ _ ?_; clear hK K; simp only [go_sem, simprocAttr])
  | refine gCd (by simp only [go_sem, simprocAttr]; rfl) rfl ?_
  | refine brT ?_ | refine brF ?_
  | (refine brS ?_ ?_ <;> intro hc <;> (try simp only [bls] at hc) <;> (try simp only [hc, bls]))
  | intro _ | refine And.intro ?_ ?_)
  all_goals (refine congrArg AVal.bool ?_; rw [Bool.eq_iff_iff]; simp [digitN] <;> omega)
theorem nameS_c (s : ByteArray) (hs : s.size ≤ maxLen) : ACall Try.prog 84 [.str s] [] fun r s' => r = .bool (nameOk s) ∧ s' = [] := by
  unfold maxLen at hs
  refine ACall.enter Try.func84 rfl (by kernel_rfl) (Nat.le_of_ble_eq_true rfl) ?_; simp only [initTm, Nat.reduceAdd]
  repeat' (first
  | refine gSq ?_ | refine gSk ?_ | refine gBl ?_ | refine gIb ?_ | refine gEx rfl ?_
  | ((first
  | (refine gRg [] [0, 2, 3, 5, 6, 7, 24] ?_; intro K hK)
  | (refine gd_split ?_ ?_ <;> intro hb <;> (try simp only [bls] at hb) <;> (try simp only [hb]))
  | refine gRt [] [.tmp 2] rfl ?_ | refine gDn [] [.tmp 2] rfl ?_) <;> (try simp only [go_sem, simprocAttr]))
  | (refine hK _ _ ?_; clear hK K; simp only [go_sem, simprocAttr])
  | refine gCd (by simp only [go_sem, simprocAttr]; rfl) rfl ?_
  | refine brT ?_ | refine brF ?_
  | (refine brS ?_ ?_ <;> intro hc <;> (try simp only [bls] at hc) <;> (try simp only [hc, bls]))
  | intro _ | refine And.intro ?_ ?_)
  refine AGood.prune [0, 2, 5, 6] ?_; simp only [go_sem, simprocAttr]
  refine AGood.loopInv (α := Nat) (fun i => ([(0, .str s), (2, .bool false), (5, .int .i64 s.size), (6, .int .i64 i)], [])) (fun i => i ≤ s.size ∧ (List.range i).all (nmB s) = true) (fun i => s.size - i) 0 ⟨Nat.zero_le _, rfl⟩ rfl ?_
  rintro i ⟨hi, hall⟩ ih
  simp only
  by_cases hle : i < s.size
  · have e4 : (i : Int) < s.size := by omega
    have e6 : (0 : Int) ≤ i := by omega
    repeat' (first
  | refine gSq ?_ | refine gSk ?_ | refine gBl ?_ | refine gIb ?_ | refine gEx rfl ?_
  | ((first
  | (refine gRg [] [0, 2, 3, 5, 6, 7, 24] ?_; intro K hK)
  | refine cAl (letterS_c _) rfl rfl rfl ?_
  | refine cAl (digitS_c _) rfl rfl rfl ?_
  | (refine gd_split ?_ ?_ <;> intro hb <;> (try simp only [bls] at hb) <;> (try simp only [hb]))
  | refine gRt [] [.tmp 2] rfl ?_ | refine gDn [] [.tmp 2] rfl ?_) <;> (try simp only [go_sem, simprocAttr, e4, e6, sbyte_bt]))
  | (refine hK _ _ ?_; clear hK K; simp only [go_sem, simprocAttr])
  | refine gCd (by simp only [go_sem, simprocAttr]; rfl) rfl ?_
  | refine brT ?_ | refine brF ?_
  | (refine brS ?_ ?_ <;> intro hc <;> (try simp only [bls] at hc) <;> (try simp only [hc, bls]))
  | intro _ | refine And.intro ?_ ?_)
    all_goals first
      | omega
      | exact congrArg AVal.bool (name_no hle (by simp [nmB, *]; try omega))
      | (refine AGood.prune [0, 2, 5, 6] ?_; simp only [go_sem, simprocAttr]
         exact (ih (i + 1) ⟨by omega, all_succ hall (by simp [nmB, *]; try omega)⟩ (by omega)).cast rfl rfl)
  · have e4 : ¬ (i : Int) < s.size := by omega
    have e5 : i = s.size := by omega
    subst e5
    repeat' (first
  | refine gSq ?_ | refine gSk ?_ | refine gBl ?_ | refine gIb ?_ | refine gEx rfl ?_
  | ((first
  | (refine gRg [] [0, 2, 3, 5, 6, 7, 24] ?_; intro K hK)
  | (refine gd_split ?_ ?_ <;> intro hb <;> (try simp only [bls] at hb) <;> (try simp only [hb]))
  | refine gRt [] [.tmp 2] rfl ?_ | refine gDn [] [.tmp 2] rfl ?_) <;> (try simp only [go_sem, simprocAttr, e4]))
  | (refine hK _ _ ?_; clear hK K; simp only [go_sem, simprocAttr])
  | refine gCd (by simp only [go_sem, simprocAttr]; rfl) rfl ?_
  | refine brT ?_ | refine brF ?_
  | (refine brS ?_ ?_ <;> intro hc <;> (try simp only [bls] at hc) <;> (try simp only [hc, bls]))
  | intro _ | refine And.intro ?_ ?_)
    all_goals (refine congrArg AVal.bool ?_; rw [Bool.eq_iff_iff]; simp [nameOk, hall] <;> omega)

theorem equal_c (q f q' f' : Bool) (a b : List Int) (ha : a.length ≤ maxLen) : ACall Try.prog 83 [.sl q f (ints a), .sl q' f' (ints b)] [] fun r s => r = .bool (decide (a = b)) ∧ s = [] := by
  unfold maxLen at ha
  refine ACall.enter Try.func83 rfl (by kernel_rfl) (Nat.le_of_ble_eq_true rfl) ?_; simp only [initTm, Nat.reduceAdd]
  repeat' (first
  | refine gSq ?_ | refine gSk ?_ | refine gBl ?_ | refine gIb ?_ | refine gEx rfl ?_
  | ((first
  | (refine gRg [] [0, 1, 4, 5, 10, 12, 13, 14, 24] ?_; intro K hK)
  | (refine gDr 6 [] 9 [0, 1, 2, 3, 4, 5, 6, 7, 8] [0, 1, 4, 5, 10, 12, 13, 14, 24] rfl ?_; intro K hK)
  | (refine gd_split ?_ ?_ <;> intro hb <;> (try simp only [bls] at hb) <;> (try simp only [hb]))
  | refine gRt [] [.tmp 4] rfl ?_ | refine gDn [] [.tmp 4] rfl ?_) <;> (try simp only [go_sem, simprocAttr]))
  | (refine hK _ _ ?_; clear hK K; simp only [go_sem, simprocAttr])
  | refine gCd (by simp only [go_sem, simprocAttr]; rfl) rfl ?_
  | refine brT ?_ | refine brF ?_
  | (refine brS ?_ ?_ <;> intro hc <;> (try simp only [bls] at hc) <;> (try simp only [hc, bls]))
  | intro _ | refine And.intro ?_ ?_)
  · exact congrArg AVal.bool (by simp only [Bool.false_eq, decide_eq_false_iff_not]; rintro rfl; exact hc rfl)
  have hab : a.length = b.length := by omega
  refine AGood.prune [0, 1, 4, 12, 13] ?_; simp only [go_sem, simprocAttr]
  refine AGood.loopInv (α := Nat) (fun i => ([(0, .sl q f (ints a)), (1, .sl q' f' (ints b)), (4, .bool false), (12, .int .i64 a.length), (13, .int .i64 i)], [])) (fun i => i ≤ a.length ∧ a.take i = b.take i) (fun i => a.length - i) 0 ⟨Nat.zero_le _, rfl⟩ rfl ?_
  rintro i ⟨hi, htk⟩ ih
  simp only
  by_cases hle : i < a.length
  · have e4 : (i : Int) < a.length := by omega
    have e6 : (0 : Int) ≤ i := by omega
    have e7 : (i : Int) < b.length := by omega
    have hx : a[i]? = some a[i] := List.getElem?_eq_getElem hle
    have hy : b[i]? = some b[i] := List.getElem?_eq_getElem (by omega)
    generalize a[i] = x at hx
    generalize b[i] = y at hy
    by_cases hxy : x = y
    · subst hxy
      repeat' (first
  | refine gSq ?_ | refine gSk ?_ | refine gBl ?_ | refine gIb ?_ | refine gEx rfl ?_
  | ((first
  | (refine gRg [] [0, 1, 4, 5, 10, 12, 13, 14, 24] ?_; intro K hK)
  | (refine gDr 6 [] 9 [0, 1, 2, 3, 4, 5, 6, 7, 8] [0, 1, 4, 5, 10, 12, 13, 14, 24] rfl ?_; intro K hK)
  | (refine gd_split ?_ ?_ <;> intro hb <;> (try simp only [bls] at hb) <;> (try simp only [hb]))
  | refine gRt [] [.tmp 4] rfl ?_ | refine gDn [] [.tmp 4] rfl ?_) <;> (try simp only [go_sem, simprocAttr, e4, e6, e7, hx, hy, Option.some.injEq, forall_eq']))
  | (refine hK _ _ ?_; clear hK K; simp only [go_sem, simprocAttr])
  | refine gCd (by simp only [go_sem, simprocAttr]; rfl) rfl ?_
  | refine brT ?_ | refine brF ?_
  | (refine brS ?_ ?_ <;> intro hc <;> (try simp only [bls] at hc) <;> (try simp only [hc, bls]))
  | intro _ | refine And.intro ?_ ?_)
      all_goals first | omega | skip
      refine AGood.prune [0, 1, 4, 12, 13] ?_; simp only [go_sem, simprocAttr]
      exact (ih (i + 1) ⟨by omega, by rw [take_one hx, take_one hy, htk]⟩ (by omega)).cast rfl rfl
    · repeat' (first
  | refine gSq ?_ | refine gSk ?_ | refine gBl ?_ | refine gIb ?_ | refine gEx rfl ?_
  | ((first
  | (refine gRg [] [0, 1, 4, 5, 10, 12, 13, 14, 24] ?_; intro K hK)
  | (refine gDr 6 [] 9 [0, 1, 2, 3, 4, 5, 6, 7, 8] [0, 1, 4, 5, 10, 12, 13, 14, 24] rfl ?_; intro K hK)
  | (refine gd_split ?_ ?_ <;> intro hb <;> (try simp only [bls] at hb) <;> (try simp only [hb]))
  | refine gRt [] [.tmp 4] rfl ?_ | refine gDn [] [.tmp 4] rfl ?_) <;> (try simp only [go_sem, simprocAttr, e4, e6, e7, hx, hy, hxy, Option.some.injEq, forall_eq']))
  | (refine hK _ _ ?_; clear hK K; simp only [go_sem, simprocAttr])
  | refine gCd (by simp only [go_sem, simprocAttr]; rfl) rfl ?_
  | refine brT ?_ | refine brF ?_
  | (refine brS ?_ ?_ <;> intro hc <;> (try simp only [bls] at hc) <;> (try simp only [hc, bls]))
  | intro _ | refine And.intro ?_ ?_)
      refine congrArg AVal.bool ?_
      simp only [Bool.false_eq, decide_eq_false_iff_not]
      rintro rfl
      rw [hx] at hy; exact hxy (Option.some.inj hy)
  · rw [List.take_of_length_le (by omega), List.take_of_length_le (by omega)] at htk
    have e4 : ¬ (i : Int) < a.length := by omega
    repeat' (first
  | refine gSq ?_ | refine gSk ?_ | refine gBl ?_ | refine gIb ?_ | refine gEx rfl ?_
  | ((first
  | (refine gRg [] [0, 1, 4, 5, 10, 12, 13, 14, 24] ?_; intro K hK)
  | (refine gDr 6 [] 9 [0, 1, 2, 3, 4, 5, 6, 7, 8] [0, 1, 4, 5, 10, 12, 13, 14, 24] rfl ?_; intro K hK)
  | (refine gd_split ?_ ?_ <;> intro hb <;> (try simp only [bls] at hb) <;> (try simp only [hb]))
  | refine gRt [] [.tmp 4] rfl ?_ | refine gDn [] [.tmp 4] rfl ?_) <;> (try simp only [go_sem, simprocAttr, e4]))
  | (refine hK _ _ ?_; clear hK K; simp only [go_sem, simprocAttr])
  | refine gCd (by simp only [go_sem, simprocAttr]; rfl) rfl ?_
  | refine brT ?_ | refine brF ?_
  | (refine brS ?_ ?_ <;> intro hc <;> (try simp only [bls] at hc) <;> (try simp only [hc, bls]))
  | intro _ | refine And.intro ?_ ?_)
    simp [htk]
end Go.Rad
/- Contracts: syntax: what a node has; whether nodes are a tree. -/
namespace Go.Rad
open Go Go.Proofs
set_option linter.all false
set_option maxRecDepth 20000
set_option maxHeartbeats 4000000

theorem ba_emptyS : (ByteArray.mk #[]) = ByteArray.empty := Eq.trans rfl rfl
theorem shaped_c (fl : Bool) (n : Node) (hn : n.name.size ≤ maxLen ∧ n.l.length ≤ maxLen) : ACall Try.prog 82 [.agg (n.cellsF fl)] [] fun r s' => r = .bool (shapeOk n) ∧ s' = [] := by
  obtain ⟨hn, hm⟩ := hn
  unfold maxLen at hm
  obtain ⟨no, ⟨na, nb, nc, nd⟩, nl, nlo, nhi, nn⟩ := n
  simp only at hn hm
  simp only [Node.cellsF]
  refine ACall.enter Try.func82 rfl (by kernel_rfl) (Nat.le_of_ble_eq_true rfl) ?_; simp only [initTm, Nat.reduceAdd]
  repeat' (first
  | refine gSq ?_ | refine gSk ?_ | refine gBl ?_ | refine gIb ?_ | refine gEx rfl ?_
  | ((first
  | (refine AGood.at 10 ?_; refine AGood.boxRef 1 1 rfl rfl rfl ?_; simp only [go_sem, simprocAttr]; (refine gDl 10 [] 5 [0, 1, 2, 3, 4, 5, 6, 7] [] [26] [0, 1, 2, 3, 4, 12, 13, 21, 22, 55, 58, 62, 63, 71, 72] rfl ?_; intro K hK))
  | (refine gRg [] [0, 1, 2, 3, 4, 12, 13, 21, 22, 55, 58, 62, 63, 71, 72] ?_; intro K hK)
  | refine cAl (nameS_c _ hn) rfl rfl rfl ?_
  | (refine gd_split ?_ ?_ <;> intro hb <;> (try simp only [bls] at hb) <;> (try simp only [hb]))
  | refine gRt [] [.tmp 2] rfl ?_ | refine gDn [] [.tmp 2] rfl ?_) <;> (try simp only [go_sem, simprocAttr, ba_emptyS]))
  | (refine hK _ _ ?_; clear hK K; simp only [go_sem, simprocAttr])
  | refine gCd (by simp only [go_sem, simprocAttr]; rfl) rfl ?_
  | refine brT ?_ | refine brF ?_
  | (refine brS ?_ ?_ <;> intro hc <;> (try simp only [bls] at hc) <;> (try simp only [hc, bls]))
  | intro _ | refine And.intro ?_ ?_)
  all_goals first
    | omega
    | (refine congrArg AVal.bool ?_; rw [Bool.eq_iff_iff]; simp_all [shapeOk, ISet.none] <;> first | omega | (have h1 : nl.length = 1 := (by omega); have h2 : 1 ≤ nhi ∧ nlo ≤ nhi := (by omega); simp [h1, h2]))
end Go.Rad
/- Contracts: syntax: whether nodes are a tree. -/
namespace Go.Rad
open Go Go.Proofs
set_option linter.all false
set_option maxRecDepth 20000
set_option maxHeartbeats 4000000

theorem stk_no {ns : List Node} {i : Nat} {st : List Int} {n : Node} (h : ¬ (shapeOk n = true ∧ n.l.length ≤ st.length ∧ st.drop (st.length - n.l.length) = n.l)) : stkS (n :: ns) i st = none := by
  rw [stkS, if_neg h]
theorem rightS_no {l : List Node} (h : stkS l 0 [] = none) : false = rightS l := by
  simp [rightS, h]
theorem rightS_c (q f : Bool) (ns : List Node) (hl : ∀ n ∈ ns, n.name.size ≤ maxLen ∧ n.l.length ≤ maxLen) : ACall Try.prog 62 [.sl q f (nodes ns)] [] fun r s => r = .bool (rightS ns) ∧ s = [] := by
  refine ACall.enter Try.func62 rfl (by kernel_rfl) (Nat.le_of_ble_eq_true rfl) ?_; simp only [initTm, Nat.reduceAdd]
  repeat' (first
  | refine gSq ?_ | refine gSk ?_ | refine gBl ?_ | refine gIb ?_ | refine gEx rfl ?_
  | ((first
  | (refine gRg [] [0, 2, 3, 4, 5, 6, 14, 15, 16, 17, 18, 32, 45] ?_; intro K hK)
  | (refine gDr 10 [] 7 [0, 1, 2, 3, 4, 5, 6] [0, 2, 3, 4, 5, 6, 14, 15, 16, 17, 18, 32, 45] rfl ?_; intro K hK)
  | (refine gd_split ?_ ?_ <;> intro hb <;> (try simp only [bls] at hb) <;> (try simp only [hb]))
  | refine gRt [] [.tmp 2] rfl ?_ | refine gDn [] [.tmp 2] rfl ?_) <;> (try simp only [go_sem, simprocAttr]))
  | (refine hK _ _ ?_; clear hK K; simp only [go_sem, simprocAttr])
  | refine gCd (by simp only [go_sem, simprocAttr]; rfl) rfl ?_
  | refine brT ?_ | refine brF ?_
  | (refine brS ?_ ?_ <;> intro hc <;> (try simp only [bls] at hc) <;> (try simp only [hc, bls]))
  | intro _ | refine And.intro ?_ ?_)
  · refine congrArg AVal.bool ?_; simp only [rightS]; rw [show decide (1 ≤ ns.length ∧ ns.length ≤ 1024) = false from by simp; omega, Bool.false_and]
  · have hn1 : 1 ≤ ns.length ∧ ns.length ≤ 1024 := by omega
    refine AGood.ownTm 3 900 1 (by decide) rfl fun g => ?_
    simp only [go_sem, simprocAttr]
    refine AGood.prune [0, 2, 3, 15, 16, 17] ?_; simp only [go_sem, simprocAttr]
    refine AGood.loopInv (α := Nat × List Int × Nat) (fun x => ([(0, .sl q f (nodes ns)), (2, .bool false), (3, .osl 900 x.2.2 0 x.2.1.length), (15, .sl q f (nodes ns)), (16, .int .i64 ns.length), (17, .int .i64 x.1)], [(900, (x.2.2, .row 1 (ints x.2.1)))])) (fun x => x.1 ≤ ns.length ∧ x.2.1.length ≤ x.1 ∧ stkS ns 0 [] = stkS (ns.drop x.1) x.1 x.2.1) (fun x => ns.length - x.1) (0, [], g) ⟨Nat.zero_le _, Nat.zero_le _, rfl⟩ rfl ?_
    rintro ⟨i, st, g⟩ ⟨hi, hst, hrun⟩ ih
    simp only at hi hst hrun ih ⊢
    by_cases hle : i < ns.length
    · have e4 : (i : Int) < ns.length := by omega
      have e5 : (0 : Int) ≤ i := by omega
      have hx : ns[i]? = some ns[i] := List.getElem?_eq_getElem hle
      have hm := hl ns[i] (List.getElem_mem hle)
      have hd : ns.drop i = ns[i] :: ns.drop (i + 1) := List.drop_eq_getElem_cons hle
      rw [hd] at hrun
      generalize ns[i] = x at hx hm hrun
      have hsh := shaped_c false x hm
      by_cases hok : shapeOk x = true
      · by_cases hlt : st.length < x.l.length
        · have hno := stk_no (ns := ns.drop (i + 1)) (i := i) (st := st) (n := x) (by rintro ⟨_, h, _⟩; omega)
          rw [hno] at hrun
          rw [hok] at hsh
          obtain ⟨xo, ⟨xa, xb, xc, xd⟩, xl, xlo, xhi, xn⟩ := x
          simp only at hlt
          have e6 : (st.length : Int) < xl.length := by omega
          repeat' (first
  | refine gSq ?_ | refine gSk ?_ | refine gBl ?_ | refine gIb ?_ | refine gEx rfl ?_
  | ((first
  | (refine gRg [] [0, 2, 3, 4, 5, 6, 14, 15, 16, 17, 18, 32, 45] ?_; intro K hK)
  | (refine gDr 10 [] 7 [0, 1, 2, 3, 4, 5, 6] [0, 2, 3, 4, 5, 6, 14, 15, 16, 17, 18, 32, 45] rfl ?_; intro K hK)
  | refine cAl (hsh) rfl rfl rfl ?_
  | (refine gd_split ?_ ?_ <;> intro hb <;> (try simp only [bls] at hb) <;> (try simp only [hb]))
  | refine gRt [] [.tmp 2] rfl ?_ | refine gDn [] [.tmp 2] rfl ?_) <;> (try simp only [go_sem, simprocAttr, e4, e5, e6, hx, Option.some.injEq, forall_eq']))
  | (refine hK _ _ ?_; clear hK K; simp only [go_sem, simprocAttr])
  | refine gCd (by simp only [go_sem, simprocAttr]; rfl) rfl ?_
  | refine brT ?_ | refine brF ?_
  | (refine brS ?_ ?_ <;> intro hc <;> (try simp only [bls] at hc) <;> (try simp only [hc, bls]))
  | intro _ | refine And.intro ?_ ?_)
          exact congrArg AVal.bool (rightS_no hrun)
        · obtain ⟨m, hm2⟩ : ∃ m, st.length = m + x.l.length := ⟨st.length - x.l.length, by omega⟩
          have hmm : st.length - x.l.length = m := by omega
          by_cases heq : st.drop m = x.l
          · rw [stkS, if_pos ⟨hok, by omega, by rw [hmm]; exact heq⟩, hmm] at hrun
            rw [hok] at hsh
            have ih := fun g' => ih (i + 1, st.take m ++ [(i : Int)], g') ⟨by simp only; omega, by simp; omega, hrun⟩ (by simp only; omega)
            obtain ⟨xo, ⟨xa, xb, xc, xd⟩, xl, xlo, xhi, xn⟩ := x
            simp only at hlt hm2 hmm heq hm
            have e6 : ¬ (st.length : Int) < xl.length := by omega
            have e7 : (st.length : Int) - xl.length = (m : Nat) := by omega
            have e8 : min m st.length = m := by omega
            have hcall := equal_c false false true false (st.drop m) xl (by unfold maxLen; rw [List.length_drop]; omega)
            rw [heq, decide_eq_true rfl] at hcall
            repeat' (first
  | refine gSq ?_ | refine gSk ?_ | refine gBl ?_ | refine gIb ?_ | refine gEx rfl ?_
  | ((first
  | (refine AGood.at 12 ?_; (refine AGood.shrink 900 m rfl ?_; simp only [go_sem, simprocAttr, ← List.map_take]); (refine gRg [] [0, 2, 3, 4, 5, 6, 14, 15, 16, 17, 18, 32, 45] ?_; intro K hK))
  | (refine gRg [] [0, 2, 3, 4, 5, 6, 14, 15, 16, 17, 18, 32, 45] ?_; intro K hK)
  | (refine gDr 10 [] 7 [0, 1, 2, 3, 4, 5, 6] [0, 2, 3, 4, 5, 6, 14, 15, 16, 17, 18, 32, 45] rfl ?_; intro K hK)
  | refine cAl (hsh) rfl rfl rfl ?_
  | (refine ⟨.bool true, ACall.lent [900] hcall (map_two ((tr_lent rfl rfl rfl (by simp; omega)).trans ((congrArg (AVal.sl false false) (ints_part _ _ _)).trans (sl_ints (by rw [List.take_of_length_le (by simp), heq])))) rfl) rfl rfl rfl, ?_⟩)
  | (refine gd_split ?_ ?_ <;> intro hb <;> (try simp only [bls] at hb) <;> (try simp only [hb]))
  | refine gRt [] [.tmp 2] rfl ?_ | refine gDn [] [.tmp 2] rfl ?_) <;> (try simp only [go_sem, simprocAttr, e4, e5, e6, e7, e8, hx, Option.some.injEq, forall_eq', List.length_take]))
  | (refine hK _ _ ?_; clear hK K; simp only [go_sem, simprocAttr])
  | refine gCd (by simp only [go_sem, simprocAttr]; rfl) rfl ?_
  | refine brT ?_ | refine brF ?_
  | (refine brS ?_ ?_ <;> intro hc <;> (try simp only [bls] at hc) <;> (try simp only [hc, bls]))
  | intro _ | refine And.intro ?_ ?_)
            all_goals first | omega | (unfold bigLen; omega) | exact ⟨_, _, ⟨rfl, rfl⟩, rfl⟩ | exact ⟨_, rfl⟩ | (rename_i hy; simp only [List.mem_singleton] at hy; subst hy; rfl) | with_reducible rfl | skip
            rename_i h'
            refine AGood.filt [900] ?_
            simp only [sf_cons, sf_nil, go_sem, simprocAttr]
            refine AGood.prune [0, 2, 3, 15, 16, 17] ?_; simp only [go_sem, simprocAttr]
            exact (ih h').cast (by simp; omega) (by simp)
          · have hno := stk_no (ns := ns.drop (i + 1)) (i := i) (st := st) (n := x) (by rintro ⟨_, _, h⟩; rw [hmm] at h; exact heq h)
            rw [hno] at hrun
            rw [hok] at hsh
            obtain ⟨xo, ⟨xa, xb, xc, xd⟩, xl, xlo, xhi, xn⟩ := x
            simp only at hlt hm2 hmm heq hm
            have e6 : ¬ (st.length : Int) < xl.length := by omega
            have e7 : (st.length : Int) - xl.length = (m : Nat) := by omega
            have hcall := equal_c false false true false (st.drop m) xl (by unfold maxLen; rw [List.length_drop]; omega)
            rw [decide_eq_false heq] at hcall
            repeat' (first
  | refine gSq ?_ | refine gSk ?_ | refine gBl ?_ | refine gIb ?_ | refine gEx rfl ?_
  | ((first
  | (refine gRg [] [0, 2, 3, 4, 5, 6, 14, 15, 16, 17, 18, 32, 45] ?_; intro K hK)
  | (refine gDr 10 [] 7 [0, 1, 2, 3, 4, 5, 6] [0, 2, 3, 4, 5, 6, 14, 15, 16, 17, 18, 32, 45] rfl ?_; intro K hK)
  | refine cAl (hsh) rfl rfl rfl ?_
  | (refine ⟨.bool false, ACall.lent [900] hcall (map_two ((tr_lent rfl rfl rfl (by simp; omega)).trans ((congrArg (AVal.sl false false) (ints_part _ _ _)).trans (sl_ints (by rw [List.take_of_length_le (by simp)])))) rfl) rfl rfl rfl, ?_⟩)
  | (refine gd_split ?_ ?_ <;> intro hb <;> (try simp only [bls] at hb) <;> (try simp only [hb]))
  | refine gRt [] [.tmp 2] rfl ?_ | refine gDn [] [.tmp 2] rfl ?_) <;> (try simp only [go_sem, simprocAttr, e4, e5, e6, e7, hx, Option.some.injEq, forall_eq', List.length_take]))
  | (refine hK _ _ ?_; clear hK K; simp only [go_sem, simprocAttr])
  | refine gCd (by simp only [go_sem, simprocAttr]; rfl) rfl ?_
  | refine brT ?_ | refine brF ?_
  | (refine brS ?_ ?_ <;> intro hc <;> (try simp only [bls] at hc) <;> (try simp only [hc, bls]))
  | intro _ | refine And.intro ?_ ?_)
            all_goals first | omega | (unfold bigLen; omega) | exact ⟨_, _, ⟨rfl, rfl⟩, rfl⟩ | exact ⟨_, rfl⟩ | (rename_i hy; simp only [List.mem_singleton] at hy; subst hy; rfl) | with_reducible rfl | skip
            exact congrArg AVal.bool (rightS_no hrun)
      · have hno := stk_no (ns := ns.drop (i + 1)) (i := i) (st := st) (n := x) (by rintro ⟨h, _⟩; exact hok h)
        rw [hno] at hrun
        rw [show shapeOk x = false from by simpa using hok] at hsh
        obtain ⟨xo, ⟨xa, xb, xc, xd⟩, xl, xlo, xhi, xn⟩ := x
        repeat' (first
  | refine gSq ?_ | refine gSk ?_ | refine gBl ?_ | refine gIb ?_ | refine gEx rfl ?_
  | ((first
  | (refine gRg [] [0, 2, 3, 4, 5, 6, 14, 15, 16, 17, 18, 32, 45] ?_; intro K hK)
  | (refine gDr 10 [] 7 [0, 1, 2, 3, 4, 5, 6] [0, 2, 3, 4, 5, 6, 14, 15, 16, 17, 18, 32, 45] rfl ?_; intro K hK)
  | refine cAl (hsh) rfl rfl rfl ?_
  | (refine gd_split ?_ ?_ <;> intro hb <;> (try simp only [bls] at hb) <;> (try simp only [hb]))
  | refine gRt [] [.tmp 2] rfl ?_ | refine gDn [] [.tmp 2] rfl ?_) <;> (try simp only [go_sem, simprocAttr, e4, e5, hx, Option.some.injEq, forall_eq']))
  | (refine hK _ _ ?_; clear hK K; simp only [go_sem, simprocAttr])
  | refine gCd (by simp only [go_sem, simprocAttr]; rfl) rfl ?_
  | refine brT ?_ | refine brF ?_
  | (refine brS ?_ ?_ <;> intro hc <;> (try simp only [bls] at hc) <;> (try simp only [hc, bls]))
  | intro _ | refine And.intro ?_ ?_)
        exact congrArg AVal.bool (rightS_no hrun)
    · have e4 : ¬ (i : Int) < ns.length := by omega
      have hin : i = ns.length := by omega
      subst hin
      rw [List.drop_length] at hrun
      repeat' (first
  | refine gSq ?_ | refine gSk ?_ | refine gBl ?_ | refine gIb ?_ | refine gEx rfl ?_
  | ((first
  | (refine gRg [] [0, 2, 3, 4, 5, 6, 14, 15, 16, 17, 18, 32, 45] ?_; intro K hK)
  | (refine gDr 10 [] 7 [0, 1, 2, 3, 4, 5, 6] [0, 2, 3, 4, 5, 6, 14, 15, 16, 17, 18, 32, 45] rfl ?_; intro K hK)
  | (refine gd_split ?_ ?_ <;> intro hb <;> (try simp only [bls] at hb) <;> (try simp only [hb]))
  | refine gRt [] [.tmp 2] rfl ?_ | refine gDn [] [.tmp 2] rfl ?_) <;> (try simp only [go_sem, simprocAttr, e4]))
  | (refine hK _ _ ?_; clear hK K; simp only [go_sem, simprocAttr])
  | refine gCd (by simp only [go_sem, simprocAttr]; rfl) rfl ?_
  | refine brT ?_ | refine brF ?_
  | (refine brS ?_ ?_ <;> intro hc <;> (try simp only [bls] at hc) <;> (try simp only [hc, bls]))
  | intro _ | refine And.intro ?_ ?_)
      refine congrArg AVal.bool ?_
      simp only [rightS, hrun, stkS, hn1, and_self, decide_true, Bool.true_and]
      rw [decide_eq_decide]
      omega
  · refine congrArg AVal.bool ?_; simp only [rightS]; rw [show decide (1 ≤ ns.length ∧ ns.length ≤ 1024) = false from by simp; omega, Bool.false_and]
end Go.Rad
/- Contracts: norm: a node is put. -/
namespace Go.Rad
open Go Go.Proofs
set_option linter.all false
set_option maxRecDepth 20000
set_option maxHeartbeats 4000000

theorem clone_c (q f : Bool) (l : List Int) (hl : l.length ≤ 1000000) : ACall Try.prog 97 [.sl q f (ints l)] [] fun r s => (l = [] ∧ r = .sl true true [] ∧ s = []) ∨ (∃ h, r = .osl 5 h 0 l.length ∧ s = [(5, (h, .row 1 (ints l)))]) := by
  refine ACall.enter Try.func97 rfl (by kernel_rfl) (Nat.le_of_ble_eq_true rfl) ?_; simp only [initTm, Nat.reduceAdd]
  repeat' (first
  | refine gSq ?_ | refine gSk ?_ | refine gBl ?_ | refine gIb ?_ | refine gEx rfl ?_
  | ((first
  | (refine gRg [] [0, 2, 4] ?_; intro K hK)
  | (refine gd_split ?_ ?_ <;> intro hb <;> (try simp only [bls] at hb) <;> (try simp only [hb]))
  | refine gRt [5] [.tmp 2] rfl ?_ | refine gDn [5] [.tmp 2] rfl ?_) <;> (try simp only [go_sem, simprocAttr]))
  | (refine hK _ _ ?_; clear hK K; simp only [go_sem, simprocAttr])
  | refine gCd (by simp only [go_sem, simprocAttr]; rfl) rfl ?_
  | refine brT ?_ | refine brF ?_
  | (refine brS ?_ ?_ <;> intro hc <;> (try simp only [bls] at hc) <;> (try simp only [hc, bls]))
  | intro _ | refine And.intro ?_ ?_)
  all_goals first | omega | (unfold bigLen; omega) | exact ⟨_, _, ⟨rfl, rfl⟩, rfl⟩ | exact ⟨_, rfl⟩ | (rename_i hy; simp only [List.mem_singleton] at hy; subst hy; rfl) | with_reducible rfl | skip
  · rename_i h; exact .inl (by simpa using h hc)
  · rename_i y hy; obtain ⟨k, _, rfl⟩ := List.mem_map.1 hy; rfl
  · rename_i y hy; obtain ⟨k, _, rfl⟩ := List.mem_map.1 hy; rfl
  · rename_i h; exact .inr ⟨h, by simp⟩

abbrev xbox (g2 g3 g1 n : Nat) : AObj := .box [.map 1002 g2, .map 1003 g3, .osl 1001 g1 0 n]
abbrev xsto (g g1 g2 g3 : Nat) (dm om : List (ByteArray × AVal)) (out : List Node) : Sto := [(1000, (g, xbox g2 g3 g1 out.length)), (1001, (g1, .row 9 (nodes out))), (1002, (g2, .mp dm)), (1003, (g3, .mp om))]
theorem put_c (n : Node) (q f : Bool) (A : List Int) (out : List Node) (g g1 g2 g3 : Nat) (dm om : List (ByteArray × AVal)) (hk : ∀ k ∈ n.l, 0 ≤ k ∧ k < A.length) (hn : n.l.length ≤ 1000000) (ho : out.length ≤ 1000000) :
    ACall Try.prog 86 [.bx 1000 g 0, .agg n.cells, .sl q f (ints A)] (xsto g g1 g2 g3 dm om out) fun r s => r = .tup [.int .i64 (putS n A out).2.1, .int .i64 (putS n A out).2.2] ∧ ∃ h1, s = xsto g h1 g2 g3 dm om (putS n A out).1 := by
  obtain ⟨xo, ⟨xa, xb, xc, xd⟩, xl, xlo, xhi, xn⟩ := n
  simp only at hk hn
  simp only [xsto, xbox, Node.cells, Node.cellsF]
  refine ACall.enter Try.func86 rfl (by kernel_rfl) (Nat.le_of_ble_eq_true rfl) ?_; simp only [initTm, Nat.reduceAdd]
  by_cases hlong : 1024 ≤ out.length
  · have e1 : (1024 : Int) ≤ out.length := by omega
    repeat' (first
  | refine gSq ?_ | refine gSk ?_ | refine gBl ?_ | refine gIb ?_ | refine gEx rfl ?_
  | ((first
  | (refine gRg [43] [0, 1, 2, 4, 6, 7, 8, 9, 15, 21, 22, 23, 24] ?_; intro K hK)
  | (refine gDr 7 [43] 8 [0, 1, 2, 3, 4, 5, 6, 7, 8] [0, 1, 2, 4, 6, 7, 8, 9, 15, 21, 22, 23, 24] rfl ?_; intro K hK)
  | (refine gDr 9 [43] 7 [0, 1, 2, 3, 4, 5, 6, 7, 8, 9, 10] [0, 1, 2, 4, 6, 7, 8, 9, 15, 21, 22, 23, 24] rfl ?_; intro K hK)
  | (refine gd_split ?_ ?_ <;> intro hb <;> (try simp only [bls] at hb) <;> (try simp only [hb]))
  | refine gRt [1000, 1001, 1002, 1003] [.tmp 6, .tmp 7] rfl ?_ | refine gDn [1000, 1001, 1002, 1003] [.tmp 6, .tmp 7] rfl ?_) <;> (try simp only [go_sem, simprocAttr, e1]))
  | (refine hK _ _ ?_; clear hK K; simp only [go_sem, simprocAttr])
  | refine gCd (by simp only [go_sem, simprocAttr]; rfl) rfl ?_
  | refine brT ?_ | refine brF ?_
  | (refine brS ?_ ?_ <;> intro hc <;> (try simp only [bls] at hc) <;> (try simp only [hc, bls]))
  | intro _ | refine And.intro ?_ ?_)
    · simp [putS, hlong]
    · exact ⟨g1, by simp [putS, hlong]⟩
  · have e1 : ¬ (1024 : Int) ≤ out.length := by omega
    have hp : putS ⟨xo, ⟨xa, xb, xc, xd⟩, xl, xlo, xhi, xn⟩ A out = (out ++ [⟨xo, ⟨xa, xb, xc, xd⟩, xl.map (atF A), xlo, xhi, xn⟩], (out.length : Int), 0) := by simp only [putS, if_neg hlong]
    rw [hp]; clear hp
    simp only
    repeat' (first
  | refine gSq ?_ | refine gSk ?_ | refine gBl ?_ | refine gIb ?_ | refine gEx rfl ?_
  | ((first
  | (refine gRg [43] [0, 1, 2, 4, 6, 7, 8, 9, 15, 21, 22, 23, 24] ?_; intro K hK)
  | (refine gDr 7 [43] 8 [0, 1, 2, 3, 4, 5, 6, 7, 8] [0, 1, 2, 4, 6, 7, 8, 9, 15, 21, 22, 23, 24] rfl ?_; intro K hK)
  | (refine gDr 9 [43] 7 [0, 1, 2, 3, 4, 5, 6, 7, 8, 9, 10] [0, 1, 2, 4, 6, 7, 8, 9, 15, 21, 22, 23, 24] rfl ?_; intro K hK)
  | (refine ACall.use [(5, 18)] [] rfl (clone_c true false xl hn) rfl rfl rfl ?_; rintro _ _ (⟨rfl, rfl, rfl⟩ | ⟨h5, rfl, rfl⟩) <;> refine ⟨.inl rfl, rfl, ?_⟩ <;> simp only [bk, bk2, bk1, bkS, bkO, idOf, delAll, go_sem, simprocAttr])
  | (refine gd_split ?_ ?_ <;> intro hb <;> (try simp only [bls] at hb) <;> (try simp only [hb]))
  | refine gRt [1000, 1001, 1002, 1003] [.tmp 6, .tmp 7] rfl ?_ | refine gDn [1000, 1001, 1002, 1003] [.tmp 6, .tmp 7] rfl ?_) <;> (try simp only [go_sem, simprocAttr, e1]))
  | (refine hK _ _ ?_; clear hK K; simp only [go_sem, simprocAttr])
  | refine gCd (by simp only [go_sem, simprocAttr]; rfl) rfl ?_
  | refine brT ?_ | refine brF ?_
  | (refine brS ?_ ?_ <;> intro hc <;> (try simp only [bls] at hc) <;> (try simp only [hc, bls]))
  | intro _ | refine And.intro ?_ ?_)
    · refine AGood.loop ?_
      repeat' (first
  | refine gSq ?_ | refine gSk ?_ | refine gBl ?_ | refine gIb ?_ | refine gEx rfl ?_
  | ((first
  | (refine gRg [43] [0, 1, 2, 4, 6, 7, 8, 9, 15, 21, 22, 23, 24] ?_; intro K hK)
  | (refine gDr 7 [43] 8 [0, 1, 2, 3, 4, 5, 6, 7, 8] [0, 1, 2, 4, 6, 7, 8, 9, 15, 21, 22, 23, 24] rfl ?_; intro K hK)
  | (refine gDr 9 [43] 7 [0, 1, 2, 3, 4, 5, 6, 7, 8, 9, 10] [0, 1, 2, 4, 6, 7, 8, 9, 15, 21, 22, 23, 24] rfl ?_; intro K hK)
  | (refine gd_split ?_ ?_ <;> intro hb <;> (try simp only [bls] at hb) <;> (try simp only [hb]))
  | refine gRt [1000, 1001, 1002, 1003] [.tmp 6, .tmp 7] rfl ?_ | refine gDn [1000, 1001, 1002, 1003] [.tmp 6, .tmp 7] rfl ?_) <;> (try simp only [go_sem, simprocAttr, e1]))
  | (refine hK _ _ ?_; clear hK K; simp only [go_sem, simprocAttr])
  | refine gCd (by simp only [go_sem, simprocAttr]; rfl) rfl ?_
  | refine brT ?_ | refine brF ?_
  | (refine brS ?_ ?_ <;> intro hc <;> (try simp only [bls] at hc) <;> (try simp only [hc, bls]))
  | intro _ | refine And.intro ?_ ?_)
      all_goals first | omega | (unfold bigLen; omega) | exact ⟨_, _, ⟨rfl, rfl⟩, rfl⟩ | exact ⟨_, rfl⟩ | (rename_i hy; simp only [List.mem_singleton] at hy; subst hy; rfl) | with_reducible rfl | skip
      · simp
      · rename_i h' ; exact ⟨h', by simp⟩
    · rename_i h4
      refine AGood.prune [0, 2, 4, 21, 22, 23] ?_; simp only [go_sem, simprocAttr]
      refine AGood.loopInv (α := Nat × List Int) (fun x => ([(0, .bx 1000 g 0), (2, .sl q f (ints A)), (4, .bx 4 h4 0), (21, .osl 18 h5 0 xl.length), (22, .int .i64 xl.length), (23, .int .i64 x.1)],
        [(4, h4, .box [.int .u8 xo, .int .u64 xa, .int .u64 xb, .int .u64 xc, .int .u64 xd, .osl 18 h5 0 xl.length, .int .i64 xlo, .int .i64 xhi, .str xn]), (18, h5, .row 1 (ints x.2)), (1000, g, .box [.map 1002 g2, .map 1003 g3, .osl 1001 g1 0 out.length]), (1001, g1, .row 9 (nodes out)), (1002, g2, .mp dm), (1003, g3, .mp om)]))
        (fun x => x.1 ≤ xl.length ∧ x.2 = (xl.take x.1).map (atF A) ++ xl.drop x.1) (fun x => xl.length - x.1) (0, xl) ⟨Nat.zero_le _, by simp⟩ rfl ?_
      rintro ⟨i, W⟩ ⟨hi, hW⟩ ih
      simp only at hi hW ih ⊢
      by_cases hle : i < xl.length
      · have e4 : (i : Int) < xl.length := by omega
        have e5 : (0 : Int) ≤ i := by omega
        have hk2 : xl[i]? = some xl[i] := List.getElem?_eq_getElem hle
        have hmem := hk xl[i] (List.getElem_mem hle)
        generalize xl[i] = k at hk2 hmem
        obtain ⟨w1, w2, w3⟩ := put_row hW hk2
        have e6 : i < W.length := by omega
        obtain ⟨m, rfl⟩ : ∃ m : Nat, k = m := ⟨k.toNat, by omega⟩
        have e7 : (m : Int) < A.length := hmem.2
        have e8 : (0 : Int) ≤ m := by omega
        have hA : A[m]? = some (atF A m) := by
          have : m < A.length := by omega
          simp [atF, List.getElem?_eq_getElem this]
        repeat' (first
  | refine gSq ?_ | refine gSk ?_ | refine gBl ?_ | refine gIb ?_ | refine gEx rfl ?_
  | ((first
  | (refine gRg [43] [0, 1, 2, 4, 6, 7, 8, 9, 15, 21, 22, 23, 24] ?_; intro K hK)
  | (refine gDr 7 [43] 8 [0, 1, 2, 3, 4, 5, 6, 7, 8] [0, 1, 2, 4, 6, 7, 8, 9, 15, 21, 22, 23, 24] rfl ?_; intro K hK)
  | (refine gDr 9 [43] 7 [0, 1, 2, 3, 4, 5, 6, 7, 8, 9, 10] [0, 1, 2, 4, 6, 7, 8, 9, 15, 21, 22, 23, 24] rfl ?_; intro K hK)
  | (refine gd_split ?_ ?_ <;> intro hb <;> (try simp only [bls] at hb) <;> (try simp only [hb]))
  | refine gRt [1000, 1001, 1002, 1003] [.tmp 6, .tmp 7] rfl ?_ | refine gDn [1000, 1001, 1002, 1003] [.tmp 6, .tmp 7] rfl ?_) <;> (try simp only [go_sem, simprocAttr, e1, e4, e5, e6, e7, e8, w2, hA, Option.some.injEq, forall_eq']))
  | (refine hK _ _ ?_; clear hK K; simp only [go_sem, simprocAttr])
  | refine gCd (by simp only [go_sem, simprocAttr]; rfl) rfl ?_
  | refine brT ?_ | refine brF ?_
  | (refine brS ?_ ?_ <;> intro hc <;> (try simp only [bls] at hc) <;> (try simp only [hc, bls]))
  | intro _ | refine And.intro ?_ ?_)
        all_goals first | omega | (unfold bigLen; omega) | exact ⟨_, _, ⟨rfl, rfl⟩, rfl⟩ | exact ⟨_, rfl⟩ | (rename_i hy; simp only [List.mem_singleton] at hy; subst hy; rfl) | with_reducible rfl | skip
        rename_i y hy
        have hy2 : y = [.int .i64 m] := by
          rw [List.getElem?_map, w2] at hy
          simpa using hy.symm
        subst hy2
        refine AGood.prune [0, 2, 4, 21, 22, 23] ?_; simp only [go_sem, simprocAttr]
        exact (ih (i + 1, W.set i (atF A m)) ⟨by simp only; omega, w3⟩ (by simp only; omega)).cast rfl (by simp [ints, List.map_set])
      · have e4 : ¬ (i : Int) < xl.length := by omega
        have hin : i = xl.length := by omega
        subst hin
        simp only [List.take_length, List.drop_length, List.append_nil] at hW
        subst hW
        have e5 : (ints (xl.map (atF A))).take xl.length = ints (xl.map (atF A)) := List.take_of_length_le (by simp)
        repeat' (first
  | refine gSq ?_ | refine gSk ?_ | refine gBl ?_ | refine gIb ?_ | refine gEx rfl ?_
  | ((first
  | (refine AGood.at 9 ?_; (refine AGood.freeze 18 rfl ?_; simp only [rfT, rfS, rfO, rf, rf1, e5, true_and, go_sem, simprocAttr]); (refine gDr 9 [43] 7 [0, 1, 2, 3, 4, 5, 6, 7, 8, 9, 10] [0, 1, 2, 4, 6, 7, 8, 9, 15, 21, 22, 23, 24] rfl ?_; intro K hK))
  | (refine gRg [43] [0, 1, 2, 4, 6, 7, 8, 9, 15, 21, 22, 23, 24] ?_; intro K hK)
  | (refine gDr 7 [43] 8 [0, 1, 2, 3, 4, 5, 6, 7, 8] [0, 1, 2, 4, 6, 7, 8, 9, 15, 21, 22, 23, 24] rfl ?_; intro K hK)
  | (refine gd_split ?_ ?_ <;> intro hb <;> (try simp only [bls] at hb) <;> (try simp only [hb]))
  | refine gRt [1000, 1001, 1002, 1003] [.tmp 6, .tmp 7] rfl ?_ | refine gDn [1000, 1001, 1002, 1003] [.tmp 6, .tmp 7] rfl ?_) <;> (try simp only [go_sem, simprocAttr, e1, e4]))
  | (refine hK _ _ ?_; clear hK K; simp only [go_sem, simprocAttr])
  | refine gCd (by simp only [go_sem, simprocAttr]; rfl) rfl ?_
  | refine brT ?_ | refine brF ?_
  | (refine brS ?_ ?_ <;> intro hc <;> (try simp only [bls] at hc) <;> (try simp only [hc, bls]))
  | intro _ | refine And.intro ?_ ?_)
        all_goals first | omega | (unfold bigLen; omega) | exact ⟨_, _, ⟨rfl, rfl⟩, rfl⟩ | exact ⟨_, rfl⟩ | (rename_i hy; simp only [List.mem_singleton] at hy; subst hy; rfl) | with_reducible rfl | skip
        · simp
        · rename_i h'; exact ⟨h', by simp⟩
end Go.Rad
/- Contracts: norm: a tree with what its names stand for. -/
namespace Go.Rad
open Go Go.Proofs
set_option linter.all false
set_option maxRecDepth 20000
set_option maxHeartbeats 4000000

theorem tree_c (nm : ByteArray → List Node → Out) (g g2 g3 : Nat) (dm om : List (ByteArray × AVal)) (hdm : cleanM dm = true) (hom : cleanM om = true)
    (hlen : ∀ s out, out.length ≤ 1024 → (nm s out).1.length ≤ 1024)
    (hname : ∀ s out g1, s.size ≤ maxLen → out.length ≤ 1024 → ACall Try.prog 85 [.bx 1000 g 0, .str s] (xsto g g1 g2 g3 dm om out) fun r s' => r = .tup [.int .i64 (nm s out).2.1, .int .i64 (nm s out).2.2] ∧ ∃ h1, s' = xsto g h1 g2 g3 dm om (nm s out).1)
    (q f : Bool) (l : List Node) (hl : 1 ≤ l.length ∧ l.length ≤ 1000000) (hk : ∀ (i : Nat) (n : Node), l[i]? = some n → n.name.size ≤ maxLen ∧ n.l.length ≤ 1000000 ∧ ∀ k ∈ n.l, 0 ≤ k ∧ k < (i : Int)) (out : List Node) (ho : out.length ≤ 1024) (g1 : Nat) :
    ACall Try.prog 64 [.bx 1000 g 0, .sl q f (nodes l)] (xsto g g1 g2 g3 dm om out) fun r s => r = .tup [.int .i64 (goT nm l [] out).2.1, .int .i64 (goT nm l [] out).2.2] ∧ ∃ h1, s = xsto g h1 g2 g3 dm om (goT nm l [] out).1 := by
  simp only [xsto, xbox] at hname ⊢
  obtain ⟨S, hS⟩ : ∃ S, S = goT nm l [] out := ⟨_, rfl⟩
  rw [← hS]
  refine ACall.enter Try.func64 rfl (by kernel_rfl) (Nat.le_of_ble_eq_true rfl) ?_; simp only [initTm, Nat.reduceAdd]
  repeat' (first
  | refine gSq ?_ | refine gSk ?_ | refine gBl ?_ | refine gIb ?_ | refine gEx rfl ?_
  | ((first
  | (refine gRg [] [0, 1, 4, 5, 6, 7, 8, 9, 13, 14, 15, 16, 22, 44] ?_; intro K hK)
  | (refine gd_split ?_ ?_ <;> intro hb <;> (try simp only [bls] at hb) <;> (try simp only [hb]))
  | refine gRt [1000, 1001, 1002, 1003] [.tmp 4, .tmp 5] rfl ?_ | refine gDn [1000, 1001, 1002, 1003] [.tmp 4, .tmp 5] rfl ?_) <;> (try simp only [go_sem, simprocAttr]))
  | (refine hK _ _ ?_; clear hK K; simp only [go_sem, simprocAttr])
  | refine gCd (by simp only [go_sem, simprocAttr]; rfl) rfl ?_
  | refine brT ?_ | refine brF ?_
  | (refine brS ?_ ?_ <;> intro hc <;> (try simp only [bls] at hc) <;> (try simp only [hc, bls]))
  | intro _ | refine And.intro ?_ ?_)
  all_goals first | omega | (unfold bigLen; omega) | exact ⟨_, _, ⟨rfl, rfl⟩, rfl⟩ | exact ⟨_, rfl⟩ | (rename_i hy; simp only [List.mem_singleton] at hy; subst hy; rfl) | with_reducible rfl | skip
  rename_i h12
  refine AGood.prune [0, 1, 6, 13, 14, 15] ?_; simp only [go_sem, simprocAttr]
  refine AGood.loopInv (α := Nat × List Int × List Node × Nat) (fun x => ([(0, .bx 1000 g 0), (1, .sl q f (nodes l)), (6, .osl 12 h12 0 l.length), (13, .sl q f (nodes l)), (14, .int .i64 l.length), (15, .int .i64 x.1)],
      [(12, h12, .row 1 (ints (x.2.1 ++ List.replicate (l.length - x.1) 0))), (1000, g, .box [.map 1002 g2, .map 1003 g3, .osl 1001 x.2.2.2 0 x.2.2.1.length]), (1001, x.2.2.2, .row 9 (nodes x.2.2.1)), (1002, g2, .mp dm), (1003, g3, .mp om)]))
    (fun x => x.1 ≤ l.length ∧ x.2.1.length = x.1 ∧ x.2.2.1.length ≤ 1024 ∧ S = goT nm (l.drop x.1) x.2.1 x.2.2.1) (fun x => l.length - x.1) (0, [], out, g1) ⟨Nat.zero_le _, rfl, ho, hS⟩ (by simp only [ints, List.nil_append, List.map_replicate, Nat.sub_zero]; rfl) ?_
  rintro ⟨i, A, o, gg⟩ ⟨hi, hA, ho', hrun⟩ ih
  simp only at hi hA ho' hrun ih ⊢
  generalize hW : A ++ List.replicate (l.length - i) 0 = W
  have hWl : W.length = l.length := by subst hW; simp; omega
  by_cases hle : i < l.length
  · have e4 : (i : Int) < l.length := by omega
    have e5 : (0 : Int) ≤ i := by omega
    have e6 : i < W.length := by omega
    have hx : l[i]? = some l[i] := List.getElem?_eq_getElem hle
    have hm := hk i _ hx
    have hd : l.drop i = l[i] :: l.drop (i + 1) := List.drop_eq_getElem_cons hle
    rw [hd, goT] at hrun
    generalize l[i] = x at hx hm hrun
    have hWi : W[i]? = some 0 := by
      subst hW
      rw [List.getElem?_append_right (by omega), hA, Nat.sub_self, List.getElem?_replicate, if_pos (by omega)]
    have hset : ∀ v, W.set i v = (A ++ [v]) ++ List.replicate (l.length - (i + 1)) 0 := by
      intro v
      subst hW
      rw [List.set_append_right _ _ (by omega), hA, Nat.sub_self, show l.length - i = (l.length - (i + 1)) + 1 by omega, List.replicate_succ, List.set_cons_zero]
      simp
    have hst : (stepT nm x A o).1.length ≤ 1024 := by
      unfold stepT
      split
      · exact hlen _ _ ho'
      · exact putS_len ho'
    by_cases h6 : x.op = 6
    · have hs : stepT nm x A o = nm x.name o := by simp [stepT, h6]
      rw [hs] at hst hrun
      have hcall := hname x.name o gg hm.1 ho'
      clear hs hm
      obtain ⟨xo, ⟨xa, xb, xc, xd⟩, xl, xlo, xhi, xn⟩ := x
      simp only at h6 hcall hst hrun
      subst h6
      rcases hres : nm xn o with ⟨o2, v, e⟩
      rw [hres] at hcall hst hrun
      simp only at hcall hst hrun
      by_cases he : e = 0
      · subst he
        simp only [if_true] at hrun
        repeat' (first
  | refine gSq ?_ | refine gSk ?_ | refine gBl ?_ | refine gIb ?_ | refine gEx rfl ?_
  | ((first
  | (refine gRg [] [0, 1, 4, 5, 6, 7, 8, 9, 13, 14, 15, 16, 22, 44] ?_; intro K hK)
  | (refine ACall.use [(1000, 1000), (1001, 1001), (1002, 1002), (1003, 1003)] [] rfl hcall rfl rfl rfl ?_; rintro _ _ ⟨rfl, h1, rfl⟩; refine ⟨.inl rfl, rfl, ?_⟩; simp only [bk, bk2, bk1, bkS, bkO, idOf, delAll, go_sem, simprocAttr])
  | (refine gd_split ?_ ?_ <;> intro hb <;> (try simp only [bls] at hb) <;> (try simp only [hb]))
  | refine gRt [1000, 1001, 1002, 1003] [.tmp 4, .tmp 5] rfl ?_ | refine gDn [1000, 1001, 1002, 1003] [.tmp 4, .tmp 5] rfl ?_) <;> (try simp only [go_sem, simprocAttr, e4, e5, e6, hx, Option.some.injEq, forall_eq']))
  | (refine hK _ _ ?_; clear hK K; simp only [go_sem, simprocAttr])
  | refine gCd (by simp only [go_sem, simprocAttr]; rfl) rfl ?_
  | refine brT ?_ | refine brF ?_
  | (refine brS ?_ ?_ <;> intro hc <;> (try simp only [bls] at hc) <;> (try simp only [hc, bls]))
  | intro _ | refine And.intro ?_ ?_)
        all_goals first | omega | (unfold bigLen; omega) | exact ⟨_, _, ⟨rfl, rfl⟩, rfl⟩ | exact ⟨_, rfl⟩ | (rename_i hy; simp only [List.mem_singleton] at hy; subst hy; rfl) | with_reducible rfl | skip
        rename_i y hy
        have hy2 : y = [.int .i64 0] := by
          rw [List.getElem?_map, hWi] at hy
          simpa using hy.symm
        subst hy2
        refine AGood.filt [12, 1000, 1001, 1002, 1003] ?_
        simp only [sf_cons, sf_nil, go_sem, simprocAttr]
        refine AGood.prune [0, 1, 6, 13, 14, 15] ?_; simp only [go_sem, simprocAttr]
        refine AGood.cast (ih (i + 1, A ++ [v], o2, h1) ⟨by simp only; omega, by simp [hA], hst, hrun⟩ (by simp only; omega)) rfl ?_
        simp only [← hset v]
        simp [ints, List.map_set]
      · simp only [if_neg he] at hrun
        subst hrun
        repeat' (first
  | refine gSq ?_ | refine gSk ?_ | refine gBl ?_ | refine gIb ?_ | refine gEx rfl ?_
  | ((first
  | (refine gRg [] [0, 1, 4, 5, 6, 7, 8, 9, 13, 14, 15, 16, 22, 44] ?_; intro K hK)
  | (refine ACall.use [(1000, 1000), (1001, 1001), (1002, 1002), (1003, 1003)] [] rfl hcall rfl rfl rfl ?_; rintro _ _ ⟨rfl, h1, rfl⟩; refine ⟨.inl rfl, rfl, ?_⟩; simp only [bk, bk2, bk1, bkS, bkO, idOf, delAll, go_sem, simprocAttr])
  | (refine gd_split ?_ ?_ <;> intro hb <;> (try simp only [bls] at hb) <;> (try simp only [hb]))
  | refine gRt [1000, 1001, 1002, 1003] [.tmp 4, .tmp 5] rfl ?_ | refine gDn [1000, 1001, 1002, 1003] [.tmp 4, .tmp 5] rfl ?_) <;> (try simp only [go_sem, simprocAttr, e4, e5, e6, hx, he, Option.some.injEq, forall_eq']))
  | (refine hK _ _ ?_; clear hK K; simp only [go_sem, simprocAttr])
  | refine gCd (by simp only [go_sem, simprocAttr]; rfl) rfl ?_
  | refine brT ?_ | refine brF ?_
  | (refine brS ?_ ?_ <;> intro hc <;> (try simp only [bls] at hc) <;> (try simp only [hc, bls]))
  | intro _ | refine And.intro ?_ ?_)
        all_goals first | omega | (unfold bigLen; omega) | exact ⟨_, _, ⟨rfl, rfl⟩, rfl⟩ | exact ⟨_, rfl⟩ | (rename_i hy; simp only [List.mem_singleton] at hy; subst hy; rfl) | with_reducible rfl | skip
    · have hs : stepT nm x A o = putS x A o := by simp [stepT, h6]
      rw [hs] at hst hrun
      have hcall := put_c x false false W o g gg g2 g3 dm om (fun k hk => by have := hm.2.2 k hk; omega) hm.2.1 (by omega)
      rw [putS_ext (A := A) (W := W) (fun k hk => by have := hm.2.2 k hk; subst hW; exact atF_app this.1 (by omega))] at hcall
      clear hs hm
      obtain ⟨xo, ⟨xa, xb, xc, xd⟩, xl, xlo, xhi, xn⟩ := x
      simp only [xsto, xbox, Node.cells, Node.cellsF] at h6 hcall hst hrun
      rcases hres : putS ⟨xo, ⟨xa, xb, xc, xd⟩, xl, xlo, xhi, xn⟩ A o with ⟨o2, v, e⟩
      rw [hres] at hcall hst hrun
      simp only at hcall hst hrun
      by_cases he : e = 0
      · subst he
        simp only [if_true] at hrun
        repeat' (first
  | refine gSq ?_ | refine gSk ?_ | refine gBl ?_ | refine gIb ?_ | refine gEx rfl ?_
  | ((first
  | (refine gRg [] [0, 1, 4, 5, 6, 7, 8, 9, 13, 14, 15, 16, 22, 44] ?_; intro K hK)
  | (refine ACall.use [(1000, 1000), (1001, 1001), (1002, 1002), (1003, 1003)] [12] rfl hcall (map_three rfl rfl ((tr_lent rfl rfl rfl (by simp; omega)).trans ((congrArg (AVal.sl false false) (ints_part _ _ _)).trans (sl_ints (by rw [List.drop_zero, List.take_of_length_le (by omega)]))))) rfl rfl ?_; rintro _ _ ⟨rfl, h1, rfl⟩; refine ⟨.inr ⟨rfl, by simp only [cleanS, cleanO, cleanL, clean, clean_nodes, hdm, hom, Bool.and_self]⟩, rfl, ?_⟩; simp only [bk, bk2, bk1, bkS, bkO, idOf, delAll, go_sem, simprocAttr])
  | (refine gd_split ?_ ?_ <;> intro hb <;> (try simp only [bls] at hb) <;> (try simp only [hb]))
  | refine gRt [1000, 1001, 1002, 1003] [.tmp 4, .tmp 5] rfl ?_ | refine gDn [1000, 1001, 1002, 1003] [.tmp 4, .tmp 5] rfl ?_) <;> (try simp only [go_sem, simprocAttr, e4, e5, e6, hx, h6, Option.some.injEq, forall_eq']))
  | (refine hK _ _ ?_; clear hK K; simp only [go_sem, simprocAttr])
  | refine gCd (by simp only [go_sem, simprocAttr]; rfl) rfl ?_
  | refine brT ?_ | refine brF ?_
  | (refine brS ?_ ?_ <;> intro hc <;> (try simp only [bls] at hc) <;> (try simp only [hc, bls]))
  | intro _ | refine And.intro ?_ ?_)
        all_goals first | omega | (unfold bigLen; omega) | exact ⟨_, _, ⟨rfl, rfl⟩, rfl⟩ | exact ⟨_, rfl⟩ | (rename_i hy; simp only [List.mem_singleton] at hy; subst hy; rfl) | with_reducible rfl | skip
        rename_i y hy
        have hy2 : y = [.int .i64 0] := by
          rw [List.getElem?_map, hWi] at hy
          simpa using hy.symm
        subst hy2
        refine AGood.filt [12, 1000, 1001, 1002, 1003] ?_
        simp only [sf_cons, sf_nil, go_sem, simprocAttr]
        refine AGood.prune [0, 1, 6, 13, 14, 15] ?_; simp only [go_sem, simprocAttr]
        refine AGood.cast (ih (i + 1, A ++ [v], o2, h1) ⟨by simp only; omega, by simp [hA], hst, hrun⟩ (by simp only; omega)) rfl ?_
        simp only [← hset v]
        simp [ints, List.map_set]
      · simp only [if_neg he] at hrun
        subst hrun
        repeat' (first
  | refine gSq ?_ | refine gSk ?_ | refine gBl ?_ | refine gIb ?_ | refine gEx rfl ?_
  | ((first
  | (refine gRg [] [0, 1, 4, 5, 6, 7, 8, 9, 13, 14, 15, 16, 22, 44] ?_; intro K hK)
  | (refine ACall.use [(1000, 1000), (1001, 1001), (1002, 1002), (1003, 1003)] [12] rfl hcall (map_three rfl rfl ((tr_lent rfl rfl rfl (by simp; omega)).trans ((congrArg (AVal.sl false false) (ints_part _ _ _)).trans (sl_ints (by rw [List.drop_zero, List.take_of_length_le (by omega)]))))) rfl rfl ?_; rintro _ _ ⟨rfl, h1, rfl⟩; refine ⟨.inr ⟨rfl, by simp only [cleanS, cleanO, cleanL, clean, clean_nodes, hdm, hom, Bool.and_self]⟩, rfl, ?_⟩; simp only [bk, bk2, bk1, bkS, bkO, idOf, delAll, go_sem, simprocAttr])
  | (refine gd_split ?_ ?_ <;> intro hb <;> (try simp only [bls] at hb) <;> (try simp only [hb]))
  | refine gRt [1000, 1001, 1002, 1003] [.tmp 4, .tmp 5] rfl ?_ | refine gDn [1000, 1001, 1002, 1003] [.tmp 4, .tmp 5] rfl ?_) <;> (try simp only [go_sem, simprocAttr, e4, e5, e6, hx, he, h6, Option.some.injEq, forall_eq']))
  | (refine hK _ _ ?_; clear hK K; simp only [go_sem, simprocAttr])
  | refine gCd (by simp only [go_sem, simprocAttr]; rfl) rfl ?_
  | refine brT ?_ | refine brF ?_
  | (refine brS ?_ ?_ <;> intro hc <;> (try simp only [bls] at hc) <;> (try simp only [hc, bls]))
  | intro _ | refine And.intro ?_ ?_)
        all_goals first | omega | (unfold bigLen; omega) | exact ⟨_, _, ⟨rfl, rfl⟩, rfl⟩ | exact ⟨_, rfl⟩ | (rename_i hy; simp only [List.mem_singleton] at hy; subst hy; rfl) | with_reducible rfl | skip
  · have e4 : ¬ (i : Int) < l.length := by omega
    have hin : i = l.length := by omega
    subst hin
    obtain ⟨m, hm⟩ : ∃ m, l.length = m + 1 := ⟨l.length - 1, by omega⟩
    have e5 : (l.length : Int) - 1 = (m : Nat) := by omega
    have e6 : (m : Int) < l.length := by omega
    have e7 : (0 : Int) ≤ m := by omega
    have e8 : m < W.length := by omega
    have hlast : W[m]? = some (A.getLastD 0) := by
      subst hW
      rw [Nat.sub_self, List.replicate_zero, List.append_nil, List.getLastD_eq_getLast?, List.getLast?_eq_getElem?, show A.length - 1 = m by omega, List.getElem?_eq_getElem (by omega)]
      rfl
    simp only [List.drop_length, goT] at hrun
    subst hrun
    repeat' (first
  | refine gSq ?_ | refine gSk ?_ | refine gBl ?_ | refine gIb ?_ | refine gEx rfl ?_
  | ((first
  | (refine gRg [] [0, 1, 4, 5, 6, 7, 8, 9, 13, 14, 15, 16, 22, 44] ?_; intro K hK)
  | (refine gd_split ?_ ?_ <;> intro hb <;> (try simp only [bls] at hb) <;> (try simp only [hb]))
  | refine gRt [1000, 1001, 1002, 1003] [.tmp 4, .tmp 5] rfl ?_ | refine gDn [1000, 1001, 1002, 1003] [.tmp 4, .tmp 5] rfl ?_) <;> (try simp only [go_sem, simprocAttr, e4, e5, e6, e7, e8, hlast, Option.some.injEq, forall_eq']))
  | (refine hK _ _ ?_; clear hK K; simp only [go_sem, simprocAttr])
  | refine gCd (by simp only [go_sem, simprocAttr]; rfl) rfl ?_
  | refine brT ?_ | refine brF ?_
  | (refine brS ?_ ?_ <;> intro hc <;> (try simp only [bls] at hc) <;> (try simp only [hc, bls]))
  | intro _ | refine And.intro ?_ ?_)
    all_goals first | omega | (unfold bigLen; omega) | exact ⟨_, _, ⟨rfl, rfl⟩, rfl⟩ | exact ⟨_, rfl⟩ | (rename_i hy; simp only [List.mem_singleton] at hy; subst hy; rfl) | with_reducible rfl | skip
end Go.Rad
/- Contracts: norm: what a name stands for. -/
namespace Go.Rad
open Go Go.Proofs
set_option linter.all false
set_option maxRecDepth 20000
set_option maxHeartbeats 4000000

def remS (ds : List Df) (op : List ByteArray) : Nat := (ds.filter fun d => !hasB op d.name).length
theorem rem_lt {ds : List Df} {op : List ByteArray} {d : Df} {s : ByteArray} (hd : d ∈ ds) (hs : d.name = s) (h : hasB op s = false) : remS ds (op ++ [s]) < remS ds op := by
  have hle : ∀ ds : List Df, remS ds (op ++ [s]) ≤ remS ds op := by
    intro ds
    induction ds with
    | nil => exact Nat.le_refl _
    | cons x ds ih =>
      simp only [remS, List.filter_cons, hasB, List.any_append] at ih ⊢
      cases h1 : (op.any fun y => decide (y = x.name))
      · simp only [Bool.false_or]
        split
        · simp only [Bool.not_false, if_true, List.length_cons]; omega
        · simp only [Bool.not_false, if_true, List.length_cons]; omega
      · simp only [Bool.true_or, Bool.not_true, Bool.false_eq_true, if_false]; exact ih
  induction ds with
  | nil => simp at hd
  | cons x ds ih =>
    have ih := ih
    have hle := hle ds
    simp only [remS, List.filter_cons] at ih hle ⊢
    rcases List.mem_cons.1 hd with rfl | hd
    · have e1 : hasB op d.name = false := by rw [hs]; exact h
      have e2 : hasB (op ++ [s]) d.name = true := by simp [hasB, hs]
      simp only [e1, e2, Bool.not_true, Bool.not_false, Bool.false_eq_true, if_false, if_true, List.length_cons]
      omega
    · have ih := ih hd
      have e : hasB op x.name = true → hasB (op ++ [s]) x.name = true := by
        intro h; simp only [hasB, List.any_append] at h ⊢; rw [h]; rfl
      cases h1 : hasB op x.name
      · cases h2 : hasB (op ++ [s]) x.name
        · simp only [Bool.not_false, if_true, List.length_cons]; omega
        · simp only [Bool.not_true, Bool.not_false, Bool.false_eq_true, if_false, if_true, List.length_cons]; omega
      · simp only [e h1, Bool.not_true, Bool.false_eq_true, if_false]; exact ih
theorem dfind_some {ds : List Df} {s : ByteArray} {d : Df} (h : dfind ds s = some d) : d ∈ ds ∧ d.name = s :=
  ⟨List.mem_of_find?_eq_some h, by simpa using List.find?_some h⟩
theorem name_c (ds : List Df) (hds : ∀ d ∈ ds, treeOk d.l) (g g2 g3 : Nat) : ∀ (fuel : Nat) (op : List ByteArray), remS ds op < fuel → op.length + fuel ≤ 1000000 → ∀ (s : ByteArray) (out : List Node) (g1 : Nat), s.size ≤ maxLen → out.length ≤ 1024 →
    ACall Try.prog 85 [.bx 1000 g 0, .str s] (xsto g g1 g2 g3 (dmap ds) (omap op) out) fun r s' => r = .tup [.int .i64 (nameT ds fuel op s out).2.1, .int .i64 (nameT ds fuel op s out).2.2] ∧ ∃ h1, s' = xsto g h1 g2 g3 (dmap ds) (omap op) (nameT ds fuel op s out).1 := by
  intro fuel
  induction fuel with
  | zero => intro op h; omega
  | succ fuel ih =>
    intro op hrem hop s out g1 hs ho
    simp only [xsto, xbox]
    have hmf := mfind_dmap ds s
    have hmo := mfind_omap op s
    have hol : (omap op).length = op.length := by simp [omap]
    cases hf : dfind ds s with
    | none =>
      have hn : nameT ds (fuel + 1) op s out = (out, 0, 60) := by rw [nameT, hf]
      rw [hn]
      rw [hf] at hmf
      simp only [Option.map_none] at hmf
      refine ACall.enter Try.func85 rfl (by kernel_rfl) (Nat.le_of_ble_eq_true rfl) ?_; simp only [initTm, Nat.reduceAdd]
      repeat' (first
  | refine gSq ?_ | refine gSk ?_ | refine gBl ?_ | refine gIb ?_ | refine gEx rfl ?_
  | ((first
  | (refine gRg [] [0, 1, 4, 5, 6, 7, 17, 20] ?_; intro K hK)
  | (refine gd_split ?_ ?_ <;> intro hb <;> (try simp only [bls] at hb) <;> (try simp only [hb]))
  | refine gRt [1000, 1001, 1002, 1003] [.tmp 4, .tmp 5] rfl ?_ | refine gDn [1000, 1001, 1002, 1003] [.tmp 4, .tmp 5] rfl ?_) <;> (try simp only [go_sem, simprocAttr, hmf]))
  | (refine hK _ _ ?_; clear hK K; simp only [go_sem, simprocAttr])
  | refine gCd (by simp only [go_sem, simprocAttr]; rfl) rfl ?_
  | refine brT ?_ | refine brF ?_
  | (refine brS ?_ ?_ <;> intro hc <;> (try simp only [bls] at hc) <;> (try simp only [hc, bls]))
  | intro _ | refine And.intro ?_ ?_)
      all_goals first | omega | (unfold bigLen; omega) | exact ⟨_, _, ⟨rfl, rfl⟩, rfl⟩ | exact ⟨_, rfl⟩ | (rename_i hy; simp only [List.mem_singleton] at hy; subst hy; rfl) | with_reducible rfl | skip
    | some d =>
      rw [hf] at hmf
      simp only [Option.map_some] at hmf
      obtain ⟨hd, hdn⟩ := dfind_some hf
      cases hb : hasB op s
      · have hmp := mput_omap (hasB_no.1 hb)
        have hmd := mdel_omap (hasB_no.1 hb)
        have hn : nameT ds (fuel + 1) op s out = goT (nameT ds fuel (op ++ [s])) d.l [] out := by rw [nameT, hf]; simp [hb]
        rw [hn]
        rw [hb] at hmo
        simp only [Bool.false_eq_true, if_false] at hmo
        have hcall := fun g1 => tree_c (nameT ds fuel (op ++ [s])) g g2 g3 (dmap ds) (omap (op ++ [s])) (clean_dmap ds) (clean_omap _) (fun s out h => nameT_len ds fuel _ s out h)
          (fun s' out g1 h1 h2 => ih (op ++ [s]) (by have := rem_lt hd hdn hb; omega) (by simp; omega) s' out g1 h1 h2) true false d.l (hds d hd).1 (hds d hd).2 out ho g1
        refine ACall.enter Try.func85 rfl (by kernel_rfl) (Nat.le_of_ble_eq_true rfl) ?_; simp only [initTm, Nat.reduceAdd]
        repeat' (first
  | refine gSq ?_ | refine gSk ?_ | refine gBl ?_ | refine gIb ?_ | refine gEx rfl ?_
  | ((first
  | (refine AGood.at 7 ?_; refine AGood.regDeferN LL_ok [] 5 [0, 1, 4, 5, 6, 7, 17, 20] rfl rfl rfl (by kernel_rfl) ?_; intro K hK; simp only [hmf, hmo, hmp, hmd, go_sem, simprocAttr])
  | (refine AGood.retD LL_ok [1000, 1001, 1002, 1003] [.tmp 4, .tmp 5] rfl (by kernel_rfl) ?_; simp only [runDf])
  | (refine gRg [] [0, 1, 4, 5, 6, 7, 17, 20] ?_; intro K hK)
  | (refine ACall.mono (hcall _) ?_; rintro _ _ ⟨rfl, h1, rfl⟩)
  | (refine gd_split ?_ ?_ <;> intro hb <;> (try simp only [bls] at hb) <;> (try simp only [hb]))
  | refine gRt [1000, 1001, 1002, 1003] [.tmp 4, .tmp 5] rfl ?_ | refine gDn [1000, 1001, 1002, 1003] [.tmp 4, .tmp 5] rfl ?_) <;> (try simp only [go_sem, simprocAttr, hmf, hmo, hmp, hmd, hol]))
  | (refine hK _ _ ?_; clear hK K; simp only [go_sem, simprocAttr])
  | refine gCd (by simp only [go_sem, simprocAttr]; rfl) rfl ?_
  | refine brT ?_ | refine brF ?_
  | (refine brS ?_ ?_ <;> intro hc <;> (try simp only [bls] at hc) <;> (try simp only [hc, bls]))
  | intro _ | refine And.intro ?_ ?_)
        all_goals first | omega | (unfold bigLen; omega) | exact ⟨_, _, ⟨rfl, rfl⟩, rfl⟩ | exact ⟨_, rfl⟩ | (rename_i hy; simp only [List.mem_singleton] at hy; subst hy; rfl) | with_reducible rfl | skip
      · have hn : nameT ds (fuel + 1) op s out = (out, 0, 61) := by rw [nameT, hf]; simp [hb]
        rw [hn]
        rw [hb] at hmo
        simp only [if_true] at hmo
        refine ACall.enter Try.func85 rfl (by kernel_rfl) (Nat.le_of_ble_eq_true rfl) ?_; simp only [initTm, Nat.reduceAdd]
        repeat' (first
  | refine gSq ?_ | refine gSk ?_ | refine gBl ?_ | refine gIb ?_ | refine gEx rfl ?_
  | ((first
  | (refine gRg [] [0, 1, 4, 5, 6, 7, 17, 20] ?_; intro K hK)
  | (refine gd_split ?_ ?_ <;> intro hb <;> (try simp only [bls] at hb) <;> (try simp only [hb]))
  | refine gRt [1000, 1001, 1002, 1003] [.tmp 4, .tmp 5] rfl ?_ | refine gDn [1000, 1001, 1002, 1003] [.tmp 4, .tmp 5] rfl ?_) <;> (try simp only [go_sem, simprocAttr, hmf, hmo]))
  | (refine hK _ _ ?_; clear hK K; simp only [go_sem, simprocAttr])
  | refine gCd (by simp only [go_sem, simprocAttr]; rfl) rfl ?_
  | refine brT ?_ | refine brF ?_
  | (refine brS ?_ ?_ <;> intro hc <;> (try simp only [bls] at hc) <;> (try simp only [hc, bls]))
  | intro _ | refine And.intro ?_ ?_)
        all_goals first | omega | (unfold bigLen; omega) | exact ⟨_, _, ⟨rfl, rfl⟩, rfl⟩ | exact ⟨_, rfl⟩ | (rename_i hy; simp only [List.mem_singleton] at hy; subst hy; rfl) | with_reducible rfl | skip
end Go.Rad
/- Contracts: norm: Right, Expand. -/
namespace Go.Rad
open Go Go.Proofs
set_option linter.all false
set_option maxRecDepth 20000
set_option maxHeartbeats 4000000

def dfOk (d : Df) : Prop := d.name.size ≤ maxLen ∧ ∀ n ∈ d.l, n.name.size ≤ maxLen ∧ n.l.length ≤ maxLen
theorem rightD_c (q f : Bool) (ds : List Df) (hl : ds.length ≤ 1000000) (hd : ∀ d ∈ ds, dfOk d) : ACall Try.prog 63 [.sl q f (defs ds)] [] fun r s => r = .bool (rightD [] ds) ∧ s = [] := by
  obtain ⟨S, hS⟩ : ∃ S, S = rightD [] ds := ⟨_, rfl⟩
  rw [← hS]
  refine ACall.enter Try.func63 rfl (by kernel_rfl) (Nat.le_of_ble_eq_true rfl) ?_; simp only [initTm, Nat.reduceAdd]
  repeat' (first
  | refine gSq ?_ | refine gSk ?_ | refine gBl ?_ | refine gIb ?_ | refine gEx rfl ?_
  | ((first
  | (refine gRg [] [0, 2, 3, 5, 7, 8, 9, 10, 28] ?_; intro K hK)
  | (refine gd_split ?_ ?_ <;> intro hb <;> (try simp only [bls] at hb) <;> (try simp only [hb]))
  | refine gRt [] [.tmp 2] rfl ?_ | refine gDn [] [.tmp 2] rfl ?_) <;> (try simp only [go_sem, simprocAttr]))
  | (refine hK _ _ ?_; clear hK K; simp only [go_sem, simprocAttr])
  | refine gCd (by simp only [go_sem, simprocAttr]; rfl) rfl ?_
  | refine brT ?_ | refine brF ?_
  | (refine brS ?_ ?_ <;> intro hc <;> (try simp only [bls] at hc) <;> (try simp only [hc, bls]))
  | intro _ | refine And.intro ?_ ?_)
  all_goals first | omega | (unfold bigLen; omega) | exact ⟨_, _, ⟨rfl, rfl⟩, rfl⟩ | exact ⟨_, rfl⟩ | (rename_i hy; simp only [List.mem_singleton] at hy; subst hy; rfl) | with_reducible rfl | skip
  rename_i h6
  refine AGood.prune [0, 2, 3, 7, 8, 9] ?_; simp only [go_sem, simprocAttr]
  refine AGood.loopInv (α := Nat × List ByteArray) (fun x => ([(0, .sl q f (defs ds)), (2, .bool false), (3, .map 6 h6), (7, .sl q f (defs ds)), (8, .int .i64 ds.length), (9, .int .i64 x.1)], [(6, h6, .mp (omap x.2))]))
    (fun x => x.1 ≤ ds.length ∧ x.2.length = x.1 ∧ S = rightD x.2 (ds.drop x.1)) (fun x => ds.length - x.1) (0, []) ⟨Nat.zero_le _, rfl, hS⟩ rfl ?_
  rintro ⟨i, seen⟩ ⟨hi, hsl, hrun⟩ ih
  simp only at hi hsl hrun ih ⊢
  by_cases hle : i < ds.length
  · have e4 : (i : Int) < ds.length := by omega
    have e5 : (0 : Int) ≤ i := by omega
    have hx : ds[i]? = some ds[i] := List.getElem?_eq_getElem hle
    have hm := hd ds[i] (List.getElem_mem hle)
    have hdr : ds.drop i = ds[i] :: ds.drop (i + 1) := List.drop_eq_getElem_cons hle
    rw [hdr, rightD] at hrun
    generalize ds[i] = x at hx hm hrun
    obtain ⟨xn, xl⟩ := x
    obtain ⟨hm1, hm2⟩ := hm
    simp only at hm1 hm2 hrun
    have hmo := mfind_omap seen xn
    have hol : (omap seen).length = seen.length := by simp [omap]
    have hn := nameS_c xn hm1
    have hr := rightS_c true false xl hm2
    by_cases hc : hasB seen xn = true ∨ nameOk xn = false ∨ rightS xl = false
    · rw [if_pos hc] at hrun
      subst hrun
      rcases hc with h | h | h
      · rw [h] at hmo
        simp only [if_true] at hmo
        repeat' (first
  | refine gSq ?_ | refine gSk ?_ | refine gBl ?_ | refine gIb ?_ | refine gEx rfl ?_
  | ((first
  | (refine gRg [] [0, 2, 3, 5, 7, 8, 9, 10, 28] ?_; intro K hK)
  | refine cAl (hn) rfl rfl rfl ?_
  | refine cAl (hr) rfl rfl rfl ?_
  | (refine gd_split ?_ ?_ <;> intro hb <;> (try simp only [bls] at hb) <;> (try simp only [hb]))
  | refine gRt [] [.tmp 2] rfl ?_ | refine gDn [] [.tmp 2] rfl ?_) <;> (try simp only [go_sem, simprocAttr, e4, e5, hx, hmo, Option.some.injEq, forall_eq']))
  | (refine hK _ _ ?_; clear hK K; simp only [go_sem, simprocAttr])
  | refine gCd (by simp only [go_sem, simprocAttr]; rfl) rfl ?_
  | refine brT ?_ | refine brF ?_
  | (refine brS ?_ ?_ <;> intro hc <;> (try simp only [bls] at hc) <;> (try simp only [hc, bls]))
  | intro _ | refine And.intro ?_ ?_)
      · rw [h] at hn
        cases hb : hasB seen xn <;> rw [hb] at hmo <;> simp only [if_true, Bool.false_eq_true, if_false] at hmo
        all_goals repeat' (first
  | refine gSq ?_ | refine gSk ?_ | refine gBl ?_ | refine gIb ?_ | refine gEx rfl ?_
  | ((first
  | (refine gRg [] [0, 2, 3, 5, 7, 8, 9, 10, 28] ?_; intro K hK)
  | refine cAl (hn) rfl rfl rfl ?_
  | refine cAl (hr) rfl rfl rfl ?_
  | (refine gd_split ?_ ?_ <;> intro hb <;> (try simp only [bls] at hb) <;> (try simp only [hb]))
  | refine gRt [] [.tmp 2] rfl ?_ | refine gDn [] [.tmp 2] rfl ?_) <;> (try simp only [go_sem, simprocAttr, e4, e5, hx, hmo, Option.some.injEq, forall_eq']))
  | (refine hK _ _ ?_; clear hK K; simp only [go_sem, simprocAttr])
  | refine gCd (by simp only [go_sem, simprocAttr]; rfl) rfl ?_
  | refine brT ?_ | refine brF ?_
  | (refine brS ?_ ?_ <;> intro hc <;> (try simp only [bls] at hc) <;> (try simp only [hc, bls]))
  | intro _ | refine And.intro ?_ ?_)
      · rw [h] at hr
        cases hb : hasB seen xn <;> rw [hb] at hmo <;> simp only [if_true, Bool.false_eq_true, if_false] at hmo
        all_goals cases hnn : nameOk xn <;> rw [hnn] at hn
        all_goals repeat' (first
  | refine gSq ?_ | refine gSk ?_ | refine gBl ?_ | refine gIb ?_ | refine gEx rfl ?_
  | ((first
  | (refine gRg [] [0, 2, 3, 5, 7, 8, 9, 10, 28] ?_; intro K hK)
  | refine cAl (hn) rfl rfl rfl ?_
  | refine cAl (hr) rfl rfl rfl ?_
  | (refine gd_split ?_ ?_ <;> intro hb <;> (try simp only [bls] at hb) <;> (try simp only [hb]))
  | refine gRt [] [.tmp 2] rfl ?_ | refine gDn [] [.tmp 2] rfl ?_) <;> (try simp only [go_sem, simprocAttr, e4, e5, hx, hmo, Option.some.injEq, forall_eq']))
  | (refine hK _ _ ?_; clear hK K; simp only [go_sem, simprocAttr])
  | refine gCd (by simp only [go_sem, simprocAttr]; rfl) rfl ?_
  | refine brT ?_ | refine brF ?_
  | (refine brS ?_ ?_ <;> intro hc <;> (try simp only [bls] at hc) <;> (try simp only [hc, bls]))
  | intro _ | refine And.intro ?_ ?_)
    · rw [if_neg hc] at hrun
      simp only [not_or, Bool.not_eq_true, Bool.not_eq_false] at hc
      obtain ⟨h1, h2, h3⟩ := hc
      rw [h1] at hmo
      simp only [Bool.false_eq_true, if_false] at hmo
      rw [h2] at hn
      rw [h3] at hr
      have hmp := mput_omap (hasB_no.1 h1)
      repeat' (first
  | refine gSq ?_ | refine gSk ?_ | refine gBl ?_ | refine gIb ?_ | refine gEx rfl ?_
  | ((first
  | (refine gRg [] [0, 2, 3, 5, 7, 8, 9, 10, 28] ?_; intro K hK)
  | refine cAl (hn) rfl rfl rfl ?_
  | refine cAl (hr) rfl rfl rfl ?_
  | (refine gd_split ?_ ?_ <;> intro hb <;> (try simp only [bls] at hb) <;> (try simp only [hb]))
  | refine gRt [] [.tmp 2] rfl ?_ | refine gDn [] [.tmp 2] rfl ?_) <;> (try simp only [go_sem, simprocAttr, e4, e5, hx, hmo, hmp, hol, Option.some.injEq, forall_eq']))
  | (refine hK _ _ ?_; clear hK K; simp only [go_sem, simprocAttr])
  | refine gCd (by simp only [go_sem, simprocAttr]; rfl) rfl ?_
  | refine brT ?_ | refine brF ?_
  | (refine brS ?_ ?_ <;> intro hc <;> (try simp only [bls] at hc) <;> (try simp only [hc, bls]))
  | intro _ | refine And.intro ?_ ?_)
      all_goals first | omega | (unfold bigLen; omega) | exact ⟨_, _, ⟨rfl, rfl⟩, rfl⟩ | exact ⟨_, rfl⟩ | (rename_i hy; simp only [List.mem_singleton] at hy; subst hy; rfl) | with_reducible rfl | skip
      refine AGood.filt [6] ?_
      simp only [sf_cons, sf_nil, go_sem, simprocAttr]
      refine AGood.prune [0, 2, 3, 7, 8, 9] ?_; simp only [go_sem, simprocAttr]
      exact (ih (i + 1, seen ++ [xn]) ⟨by simp only; omega, by simp [hsl], hrun⟩ (by simp only; omega)).cast rfl rfl
  · have e4 : ¬ (i : Int) < ds.length := by omega
    rw [List.drop_of_length_le (by omega), rightD] at hrun
    subst hrun
    repeat' (first
  | refine gSq ?_ | refine gSk ?_ | refine gBl ?_ | refine gIb ?_ | refine gEx rfl ?_
  | ((first
  | (refine gRg [] [0, 2, 3, 5, 7, 8, 9, 10, 28] ?_; intro K hK)
  | (refine gd_split ?_ ?_ <;> intro hb <;> (try simp only [bls] at hb) <;> (try simp only [hb]))
  | refine gRt [] [.tmp 2] rfl ?_ | refine gDn [] [.tmp 2] rfl ?_) <;> (try simp only [go_sem, simprocAttr, e4]))
  | (refine hK _ _ ?_; clear hK K; simp only [go_sem, simprocAttr])
  | refine gCd (by simp only [go_sem, simprocAttr]; rfl) rfl ?_
  | refine brT ?_ | refine brF ?_
  | (refine brS ?_ ?_ <;> intro hc <;> (try simp only [bls] at hc) <;> (try simp only [hc, bls]))
  | intro _ | refine And.intro ?_ ?_)

theorem expand_c (q f q' f' : Bool) (l : List Node) (ds : List Df) (hl : ∀ n ∈ l, n.name.size ≤ maxLen ∧ n.l.length ≤ maxLen) (hdl : ds.length ≤ 900000) (hd : ∀ d ∈ ds, dfOk d) :
    ACall Try.prog 53 [.sl q f (nodes l), .sl q' f' (defs ds)] [] fun r s => (∃ fl, r = .tup [.sl true fl (nodes (expandS l ds).1), .int .i64 (expandS l ds).2]) ∧ s = [] := by
  have hr := rightS_c q f l hl
  have hr2 := rightD_c q' f' ds (by omega) hd
  refine ACall.enter Try.func53 rfl (by kernel_rfl) (Nat.le_of_ble_eq_true rfl) ?_; simp only [initTm, Nat.reduceAdd]
  by_cases hok : rightS l = true ∧ rightD [] ds = true
  · obtain ⟨h1, h2⟩ := hok
    have htree := rightS_ok h1 (fun n h => (hl n h).1)
    obtain ⟨hf1, hf2⟩ := rightD_facts ds [] h2
    have hds : ∀ d ∈ ds, treeOk d.l := fun d h => rightS_ok (hf1 d h).2.2 (fun n hn => ((hd d h).2 n hn).1)
    have hcall := fun g g1 g2 g3 => tree_c (nameT ds (ds.length + 1) []) g g2 g3 (dmap ds) (omap []) (clean_dmap ds) (clean_omap _) (fun s out h => nameT_len ds _ _ s out h)
      (fun s out g1 h1 h2 => name_c ds hds g g2 g3 (ds.length + 1) [] (Nat.lt_succ_of_le (List.length_filter_le _ _)) (by simp; omega) s out g1 h1 h2) q f l htree.1 htree.2 [] (by simp) g1
    have hexp : expandS l ds = if (goT (nameT ds (ds.length + 1) []) l [] []).2.2 = 0 then ((goT (nameT ds (ds.length + 1) []) l [] []).1, 0) else ([], (goT (nameT ds (ds.length + 1) []) l [] []).2.2) := by
      rw [expandS, if_pos ⟨h1, h2⟩]
    rw [h1] at hr
    rw [h2] at hr2
    rw [hexp]
    rcases hres : goT (nameT ds (ds.length + 1) []) l [] [] with ⟨o2, v, e⟩
    rw [hres] at hcall
    simp only at hcall ⊢
    repeat' (first
  | refine gSq ?_ | refine gSk ?_ | refine gBl ?_ | refine gIb ?_ | refine gEx rfl ?_
  | ((first
  | (refine AGood.at 4 ?_; (refine AGood.ownBox 22 2 901 9 (by decide) rfl rfl (by decide) ?_; intro g901; simp only [List.set_cons_succ, List.set_cons_zero, go_sem, simprocAttr]); (refine gRg [] [0, 1, 4, 5, 6, 8, 10, 18, 23, 24, 25, 26, 45] ?_; intro K hK))
  | (refine gRg [] [0, 1, 4, 5, 6, 8, 10, 18, 23, 24, 25, 26, 45] ?_; intro K hK)
  | (refine gDr 7 [] 8 [0, 1, 2, 3, 4, 5, 6, 7, 8] [0, 1, 4, 5, 6, 8, 10, 18, 23, 24, 25, 26, 45] rfl ?_; intro K hK)
  | refine cAl (hr) rfl rfl rfl ?_
  | refine cAl (hr2) rfl rfl rfl ?_
  | (refine gd_split ?_ ?_ <;> intro hb <;> (try simp only [bls] at hb) <;> (try simp only [hb]))
  | refine gRt [] [.tmp 4, .tmp 5] rfl ?_ | refine gDn [] [.tmp 4, .tmp 5] rfl ?_) <;> (try simp only [go_sem, simprocAttr]))
  | (refine hK _ _ ?_; clear hK K; simp only [go_sem, simprocAttr])
  | refine gCd (by simp only [go_sem, simprocAttr]; rfl) rfl ?_
  | refine brT ?_ | refine brF ?_
  | (refine brS ?_ ?_ <;> intro hc <;> (try simp only [bls] at hc) <;> (try simp only [hc, bls]))
  | intro _ | refine And.intro ?_ ?_)
    all_goals first | omega | (unfold bigLen; omega) | exact ⟨_, _, ⟨rfl, rfl⟩, rfl⟩ | exact ⟨_, rfl⟩ | (rename_i hy; simp only [List.mem_singleton] at hy; subst hy; rfl) | with_reducible rfl | skip
    rename_i h19 h20 h22
    refine AGood.prune [0, 1, 6, 23, 24, 25] ?_; simp only [go_sem, simprocAttr]
    refine AGood.loopInv (α := Nat) (fun i => ([(0, .sl q f (nodes l)), (1, .sl q' f' (defs ds)), (6, .bx 22 h22 0), (23, .sl q' f' (defs ds)), (24, .int .i64 ds.length), (25, .int .i64 i)],
      [(19, h19, .mp (dmap (ds.take i))), (20, h20, .mp []), (22, h22, .box [.map 19 h19, .map 20 h20, .osl 901 g901 0 0]), (901, g901, .row 9 [])])) (fun i => i ≤ ds.length) (fun i => ds.length - i) 0 (Nat.zero_le _) rfl ?_
    intro i hi ih
    simp only
    by_cases hle : i < ds.length
    · have e4 : (i : Int) < ds.length := by omega
      have e5 : (0 : Int) ≤ i := by omega
      have hx : ds[i]? = some ds[i] := List.getElem?_eq_getElem hle
      have ht := take_one hx
      have hne := hf2 i _ hx
      generalize ds[i] = x at hx hne ht
      have hmp := mput_dmap hne
      rw [← ht] at hmp
      obtain ⟨xn, xl⟩ := x
      simp only at hmp
      have hol : (dmap (ds.take i)).length = min i ds.length := by simp [dmap]
      repeat' (first
  | refine gSq ?_ | refine gSk ?_ | refine gBl ?_ | refine gIb ?_ | refine gEx rfl ?_
  | ((first
  | (refine gRg [] [0, 1, 4, 5, 6, 8, 10, 18, 23, 24, 25, 26, 45] ?_; intro K hK)
  | (refine gDr 7 [] 8 [0, 1, 2, 3, 4, 5, 6, 7, 8] [0, 1, 4, 5, 6, 8, 10, 18, 23, 24, 25, 26, 45] rfl ?_; intro K hK)
  | (refine gd_split ?_ ?_ <;> intro hb <;> (try simp only [bls] at hb) <;> (try simp only [hb]))
  | refine gRt [] [.tmp 4, .tmp 5] rfl ?_ | refine gDn [] [.tmp 4, .tmp 5] rfl ?_) <;> (try simp only [go_sem, simprocAttr, e4, e5, hx, hmp, hol, Option.some.injEq, forall_eq']))
  | (refine hK _ _ ?_; clear hK K; simp only [go_sem, simprocAttr])
  | refine gCd (by simp only [go_sem, simprocAttr]; rfl) rfl ?_
  | refine brT ?_ | refine brF ?_
  | (refine brS ?_ ?_ <;> intro hc <;> (try simp only [bls] at hc) <;> (try simp only [hc, bls]))
  | intro _ | refine And.intro ?_ ?_)
      all_goals first | omega | (unfold bigLen; omega) | exact ⟨_, _, ⟨rfl, rfl⟩, rfl⟩ | exact ⟨_, rfl⟩ | (rename_i hy; simp only [List.mem_singleton] at hy; subst hy; rfl) | with_reducible rfl | skip
      refine AGood.filt [19, 20, 22, 901] ?_
      simp only [sf_cons, sf_nil, go_sem, simprocAttr]
      refine AGood.prune [0, 1, 6, 23, 24, 25] ?_; simp only [go_sem, simprocAttr]
      exact (ih (i + 1) (by omega) (by omega)).cast rfl rfl
    · have e4 : ¬ (i : Int) < ds.length := by omega
      rw [List.take_of_length_le (by omega)]
      have huse := hcall h22 g901 h19 h20
      by_cases he : e = 0
      · subst he
        simp only [if_true]
        have e9 : ∀ o : List Node, (nodes o).take o.length = nodes o := fun o => List.take_of_length_le (by simp)
        repeat' (first
  | refine gSq ?_ | refine gSk ?_ | refine gBl ?_ | refine gIb ?_ | refine gEx rfl ?_
  | ((first
  | (refine AGood.at 12 ?_; (refine AGood.freeze 901 rfl ?_; simp only [rfT, rfS, rfO, rf, rf1, e9, true_and, go_sem, simprocAttr]); (refine gRg [] [0, 1, 4, 5, 6, 8, 10, 18, 23, 24, 25, 26, 45] ?_; intro K hK))
  | (refine gRg [] [0, 1, 4, 5, 6, 8, 10, 18, 23, 24, 25, 26, 45] ?_; intro K hK)
  | (refine gDr 7 [] 8 [0, 1, 2, 3, 4, 5, 6, 7, 8] [0, 1, 4, 5, 6, 8, 10, 18, 23, 24, 25, 26, 45] rfl ?_; intro K hK)
  | (refine ACall.use [(1000, 22), (1001, 901), (1002, 19), (1003, 20)] [] rfl huse rfl rfl rfl ?_; rintro _ _ ⟨rfl, h1, rfl⟩; refine ⟨.inl rfl, rfl, ?_⟩; simp only [bk, bk2, bk1, bkS, bkO, idOf, delAll, go_sem, simprocAttr])
  | (refine gd_split ?_ ?_ <;> intro hb <;> (try simp only [bls] at hb) <;> (try simp only [hb]))
  | refine gRt [] [.tmp 4, .tmp 5] rfl ?_ | refine gDn [] [.tmp 4, .tmp 5] rfl ?_) <;> (try simp only [go_sem, simprocAttr, e4]))
  | (refine hK _ _ ?_; clear hK K; simp only [go_sem, simprocAttr])
  | refine gCd (by simp only [go_sem, simprocAttr]; rfl) rfl ?_
  | refine brT ?_ | refine brF ?_
  | (refine brS ?_ ?_ <;> intro hc <;> (try simp only [bls] at hc) <;> (try simp only [hc, bls]))
  | intro _ | refine And.intro ?_ ?_)
        exact ⟨_, rfl⟩
      · simp only [if_neg he]
        repeat' (first
  | refine gSq ?_ | refine gSk ?_ | refine gBl ?_ | refine gIb ?_ | refine gEx rfl ?_
  | ((first
  | (refine gRg [] [0, 1, 4, 5, 6, 8, 10, 18, 23, 24, 25, 26, 45] ?_; intro K hK)
  | (refine gDr 7 [] 8 [0, 1, 2, 3, 4, 5, 6, 7, 8] [0, 1, 4, 5, 6, 8, 10, 18, 23, 24, 25, 26, 45] rfl ?_; intro K hK)
  | (refine ACall.use [(1000, 22), (1001, 901), (1002, 19), (1003, 20)] [] rfl huse rfl rfl rfl ?_; rintro _ _ ⟨rfl, h1, rfl⟩; refine ⟨.inl rfl, rfl, ?_⟩; simp only [bk, bk2, bk1, bkS, bkO, idOf, delAll, go_sem, simprocAttr])
  | (refine gd_split ?_ ?_ <;> intro hb <;> (try simp only [bls] at hb) <;> (try simp only [hb]))
  | refine gRt [] [.tmp 4, .tmp 5] rfl ?_ | refine gDn [] [.tmp 4, .tmp 5] rfl ?_) <;> (try simp only [go_sem, simprocAttr, e4, he]))
  | (refine hK _ _ ?_; clear hK K; simp only [go_sem, simprocAttr])
  | refine gCd (by simp only [go_sem, simprocAttr]; rfl) rfl ?_
  | refine brT ?_ | refine brF ?_
  | (refine brS ?_ ?_ <;> intro hc <;> (try simp only [bls] at hc) <;> (try simp only [hc, bls]))
  | intro _ | refine And.intro ?_ ?_)
        exact ⟨_, rfl⟩
  · have hexp : expandS l ds = ([], 1) := by rw [expandS, if_neg hok]
    rw [hexp]
    by_cases h1 : rightS l = true
    · have h2 : rightD [] ds = false := by simpa [h1] using hok
      rw [h1] at hr
      rw [h2] at hr2
      repeat' (first
  | refine gSq ?_ | refine gSk ?_ | refine gBl ?_ | refine gIb ?_ | refine gEx rfl ?_
  | ((first
  | (refine gRg [] [0, 1, 4, 5, 6, 8, 10, 18, 23, 24, 25, 26, 45] ?_; intro K hK)
  | (refine gDr 7 [] 8 [0, 1, 2, 3, 4, 5, 6, 7, 8] [0, 1, 4, 5, 6, 8, 10, 18, 23, 24, 25, 26, 45] rfl ?_; intro K hK)
  | refine cAl (hr) rfl rfl rfl ?_
  | refine cAl (hr2) rfl rfl rfl ?_
  | (refine gd_split ?_ ?_ <;> intro hb <;> (try simp only [bls] at hb) <;> (try simp only [hb]))
  | refine gRt [] [.tmp 4, .tmp 5] rfl ?_ | refine gDn [] [.tmp 4, .tmp 5] rfl ?_) <;> (try simp only [go_sem, simprocAttr]))
  | (refine hK _ _ ?_; clear hK K; simp only [go_sem, simprocAttr])
  | refine gCd (by simp only [go_sem, simprocAttr]; rfl) rfl ?_
  | refine brT ?_ | refine brF ?_
  | (refine brS ?_ ?_ <;> intro hc <;> (try simp only [bls] at hc) <;> (try simp only [hc, bls]))
  | intro _ | refine And.intro ?_ ?_)
      exact ⟨_, rfl⟩
    · rw [show rightS l = false from by simpa using h1] at hr
      repeat' (first
  | refine gSq ?_ | refine gSk ?_ | refine gBl ?_ | refine gIb ?_ | refine gEx rfl ?_
  | ((first
  | (refine gRg [] [0, 1, 4, 5, 6, 8, 10, 18, 23, 24, 25, 26, 45] ?_; intro K hK)
  | (refine gDr 7 [] 8 [0, 1, 2, 3, 4, 5, 6, 7, 8] [0, 1, 4, 5, 6, 8, 10, 18, 23, 24, 25, 26, 45] rfl ?_; intro K hK)
  | refine cAl (hr) rfl rfl rfl ?_
  | refine cAl (hr2) rfl rfl rfl ?_
  | (refine gd_split ?_ ?_ <;> intro hb <;> (try simp only [bls] at hb) <;> (try simp only [hb]))
  | refine gRt [] [.tmp 4, .tmp 5] rfl ?_ | refine gDn [] [.tmp 4, .tmp 5] rfl ?_) <;> (try simp only [go_sem, simprocAttr]))
  | (refine hK _ _ ?_; clear hK K; simp only [go_sem, simprocAttr])
  | refine gCd (by simp only [go_sem, simprocAttr]; rfl) rfl ?_
  | refine brT ?_ | refine brF ?_
  | (refine brS ?_ ?_ <;> intro hc <;> (try simp only [bls] at hc) <;> (try simp only [hc, bls]))
  | intro _ | refine And.intro ?_ ?_)
      exact ⟨_, rfl⟩
end Go.Rad
