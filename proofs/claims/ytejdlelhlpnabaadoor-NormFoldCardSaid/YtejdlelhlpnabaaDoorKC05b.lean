/- Contracts: syntax: what a node has; whether nodes are a tree. -/
import Derived.Test.YtejdlelhlpnabaaDoorKC05a
import Derived.Test.YtejdlelhlpnabaaDoorKRText
set_option linter.all false
namespace Go.Rad
open Go Go.Proofs
set_option linter.all false
set_option maxRecDepth 20000
set_option maxHeartbeats 4000000

theorem ba_emptyS : (ByteArray.mk #[]) = ByteArray.empty := Eq.trans rfl rfl
theorem shaped_c (fl : Bool) (n : Node) (hn : n.name.size ≤ maxLen ∧ n.l.length ≤ maxLen) : ACall Tryd.prog 38 [.agg (n.cellsF fl)] [] fun r s' => r = .bool (shapeOk n) ∧ s' = [] := by
  obtain ⟨hn, hm⟩ := hn
  unfold maxLen at hm
  obtain ⟨no, ⟨na, nb, nc, nd⟩, nl, nlo, nhi, nn⟩ := n
  simp only at hn hm
  simp only [Node.cellsF]
  refine ACall.enter Tryd.func38 rfl (by kernel_rfl) (Nat.le_of_ble_eq_true rfl) ?_; simp only [initTm, Nat.reduceAdd]
  repeat' (first
    | refine AGood.seq ?_ | refine AGood.skip ?_ | refine AGood.block ?_ | refine AGood.inBlock ?_ | refine AGood.exit rfl ?_
    | ((first
    | (refine AGood.at 10 ?_; refine AGood.boxRef 1 1 rfl rfl rfl ?_; simp only [go_sem, Nat.reduceAdd, Nat.reduceSub, Nat.reduceMul, Nat.reduceLT, Nat.reduceLeDiff, Nat.reduceEqDiff, Nat.reduceDiv, Nat.reduceBEq, Int.reduceNeg, reduceCtorEq, ↓reduceIte, Int.reduceEq, Int.reduceLT, Int.reduceLE, Int.reduceToNat, Int.reduceAdd, Int.reduceSub, Int.reduceMul, Nat.reducePow, Nat.reduceBNe]; (refine AGood.drawnL LL_ok mixed [] 5 [0, 1, 2, 3, 4, 5, 6, 7] [] [26] [0, 1, 2, 3, 4, 12, 13, 21, 22, 55, 58, 62, 63, 71, 72] (by kernel_rfl) (by rfl) ?_; intro K hK))
    | (refine AGood.reg LL_ok [] [0, 1, 2, 3, 4, 12, 13, 21, 22, 55, 58, 62, 63, 71, 72] (by kernel_rfl) ?_; intro K hK)
    | (refine ACall.mono (ACall.alone (nameS_c _ hn) rfl rfl rfl) ?_; rintro _ _ ⟨rfl, rfl⟩)
    | (refine gd_split ?_ ?_ <;> intro hb <;> (try simp only [Bool.not_eq_true', Bool.not_eq_false', decide_eq_true_eq, decide_eq_false_iff_not, Bool.not_true, Bool.not_false, Bool.not_eq_true, Bool.not_eq_false] at hb) <;> (try simp only [hb]))
    | refine AGood.retF LL_ok [] [.tmp 2] rfl ?_
    | refine AGood.doneF LL_ok [] [.tmp 2] rfl ?_) <;> (try simp only [go_sem, Nat.reduceAdd, Nat.reduceSub, Nat.reduceMul, Nat.reduceLT, Nat.reduceLeDiff, Nat.reduceEqDiff, Nat.reduceDiv, Nat.reduceBEq, Int.reduceNeg, reduceCtorEq, ↓reduceIte, Int.reduceEq, Int.reduceLT, Int.reduceLE, Int.reduceToNat, Int.reduceAdd, Int.reduceSub, Int.reduceMul, Nat.reducePow, Nat.reduceBNe, ba_emptyS]))
    | (refine hK _ _ ?_; clear hK K; simp only [prune, List.map_cons, List.map_nil, lk_hit, lk_miss, lk_nil, ne_eq, Nat.reduceEqDiff, not_false_eq_true])
    | (refine AGood.condT ?_ rfl ?_; focus (simp only [ev_tmp, ev_const, oc_bool, lk_hit, lk_miss, ne_eq, Nat.reduceEqDiff, not_false_eq_true]; done))
    | (refine AGood.condF ?_ rfl ?_; focus (simp only [ev_tmp, ev_const, oc_bool, lk_hit, lk_miss, ne_eq, Nat.reduceEqDiff, not_false_eq_true]; done))
    | (refine AGood.cond (by simp only [ev_tmp, ev_const, oc_bool, lk_hit, lk_miss, ne_eq, Nat.reduceEqDiff, not_false_eq_true]; rfl) rfl ?_ ?_ <;> intro hc <;> (try simp only [Bool.not_eq_true', Bool.not_eq_false', decide_eq_true_eq, decide_eq_false_iff_not, Bool.not_true, Bool.not_false, Bool.not_eq_true, Bool.not_eq_false] at hc) <;> (try simp only [hc, decide_true, decide_false, Bool.not_true, Bool.not_false]))
    | (intro _)
    | (refine And.intro ?_ ?_))
  all_goals first
    | omega
    | (refine congrArg AVal.bool ?_; rw [Bool.eq_iff_iff]; simp_all [shapeOk, ISet.none] <;> first | omega | (have h1 : nl.length = 1 := (by omega); have h2 : 1 ≤ nhi ∧ nlo ≤ nhi := (by omega); simp [h1, h2]))
end Go.Rad
