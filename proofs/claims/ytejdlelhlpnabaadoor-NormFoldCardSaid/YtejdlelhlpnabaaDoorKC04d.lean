/- Contracts: the document's reader of patterns: its small parts. -/
import Derived.Test.YtejdlelhlpnabaaDoorKC04c
import Derived.Test.YtejdlelhlpnabaaDoorKRText
set_option linter.all false
namespace Go.Rad
open Go Go.Proofs
set_option linter.all false
set_option maxRecDepth 20000
set_option maxHeartbeats 4000000

theorem ends_c (s : ByteArray) (r : Rd) (g g1 : Nat) : ACall Tryd.prog 36 [.bx 1000 g 0] (rsto g g1 s r) fun v s' => v = .bool (endsB s r) ∧ s' = rsto g g1 s r := by
  obtain ⟨p, ns, deep, e, wh⟩ := r
  simp only [rsto]
  by_cases h : s.size ≤ p
  · have e1 : (s.size : Int) ≤ p := by omega
    refine ACall.enter Tryd.func36 rfl (by kernel_rfl) (Nat.le_of_ble_eq_true rfl) ?_; simp only [initTm, Nat.reduceAdd]
    repeat' (first
    | refine AGood.seq ?_ | refine AGood.skip ?_ | refine AGood.block ?_ | refine AGood.inBlock ?_ | refine AGood.exit rfl ?_
    | ((first
    | (refine AGood.reg LL_ok [] [0, 2] (by kernel_rfl) ?_; intro K hK)
    | (refine AGood.drawn LL_ok mixed [] 18 [0, 1, 2, 3, 4, 5, 6, 7, 8, 9, 10, 11, 12, 13, 14, 15, 16, 17] [0, 2] (by kernel_rfl) (by rfl) ?_; intro K hK)
    | (refine gd_split ?_ ?_ <;> intro hb <;> (try simp only [Bool.not_eq_true', Bool.not_eq_false', decide_eq_true_eq, decide_eq_false_iff_not, Bool.not_true, Bool.not_false, Bool.not_eq_true, Bool.not_eq_false] at hb) <;> (try simp only [hb]))
    | refine AGood.retF LL_ok [1000, 1001] [.tmp 2] rfl ?_
    | refine AGood.doneF LL_ok [1000, 1001] [.tmp 2] rfl ?_) <;> (try simp only [go_sem, Nat.reduceAdd, Nat.reduceSub, Nat.reduceMul, Nat.reduceLT, Nat.reduceLeDiff, Nat.reduceEqDiff, Nat.reduceDiv, Nat.reduceBEq, Int.reduceNeg, reduceCtorEq, ↓reduceIte, Int.reduceEq, Int.reduceLT, Int.reduceLE, Int.reduceToNat, Int.reduceAdd, Int.reduceSub, Int.reduceMul, Nat.reducePow, Nat.reduceBNe, e1]))
    | (refine hK _ _ ?_; clear hK K; simp only [prune, List.map_cons, List.map_nil, lk_hit, lk_miss, lk_nil, ne_eq, Nat.reduceEqDiff, not_false_eq_true])
    | (refine AGood.condT ?_ rfl ?_; focus (simp only [ev_tmp, ev_const, oc_bool, lk_hit, lk_miss, ne_eq, Nat.reduceEqDiff, not_false_eq_true]; done))
    | (refine AGood.condF ?_ rfl ?_; focus (simp only [ev_tmp, ev_const, oc_bool, lk_hit, lk_miss, ne_eq, Nat.reduceEqDiff, not_false_eq_true]; done))
    | (refine AGood.cond (by simp only [ev_tmp, ev_const, oc_bool, lk_hit, lk_miss, ne_eq, Nat.reduceEqDiff, not_false_eq_true]; rfl) rfl ?_ ?_ <;> intro hc <;> (try simp only [Bool.not_eq_true', Bool.not_eq_false', decide_eq_true_eq, decide_eq_false_iff_not, Bool.not_true, Bool.not_false, Bool.not_eq_true, Bool.not_eq_false] at hc) <;> (try simp only [hc, decide_true, decide_false, Bool.not_true, Bool.not_false]))
    | (intro _)
    | (refine And.intro ?_ ?_))
    all_goals simp [endsB, h]
  · have e1 : ¬ (s.size : Int) ≤ p := by omega
    refine ACall.enter Tryd.func36 rfl (by kernel_rfl) (Nat.le_of_ble_eq_true rfl) ?_; simp only [initTm, Nat.reduceAdd]
    repeat' (first
    | refine AGood.seq ?_ | refine AGood.skip ?_ | refine AGood.block ?_ | refine AGood.inBlock ?_ | refine AGood.exit rfl ?_
    | ((first
    | (refine AGood.reg LL_ok [] [0, 2] (by kernel_rfl) ?_; intro K hK)
    | (refine AGood.drawn LL_ok mixed [] 18 [0, 1, 2, 3, 4, 5, 6, 7, 8, 9, 10, 11, 12, 13, 14, 15, 16, 17] [0, 2] (by kernel_rfl) (by rfl) ?_; intro K hK)
    | (refine gd_split ?_ ?_ <;> intro hb <;> (try simp only [Bool.not_eq_true', Bool.not_eq_false', decide_eq_true_eq, decide_eq_false_iff_not, Bool.not_true, Bool.not_false, Bool.not_eq_true, Bool.not_eq_false] at hb) <;> (try simp only [hb]))
    | refine AGood.retF LL_ok [1000, 1001] [.tmp 2] rfl ?_
    | refine AGood.doneF LL_ok [1000, 1001] [.tmp 2] rfl ?_) <;> (try simp only [go_sem, Nat.reduceAdd, Nat.reduceSub, Nat.reduceMul, Nat.reduceLT, Nat.reduceLeDiff, Nat.reduceEqDiff, Nat.reduceDiv, Nat.reduceBEq, Int.reduceNeg, reduceCtorEq, ↓reduceIte, Int.reduceEq, Int.reduceLT, Int.reduceLE, Int.reduceToNat, Int.reduceAdd, Int.reduceSub, Int.reduceMul, Nat.reducePow, Nat.reduceBNe, e1]))
    | (refine hK _ _ ?_; clear hK K; simp only [prune, List.map_cons, List.map_nil, lk_hit, lk_miss, lk_nil, ne_eq, Nat.reduceEqDiff, not_false_eq_true])
    | (refine AGood.condT ?_ rfl ?_; focus (simp only [ev_tmp, ev_const, oc_bool, lk_hit, lk_miss, ne_eq, Nat.reduceEqDiff, not_false_eq_true]; done))
    | (refine AGood.condF ?_ rfl ?_; focus (simp only [ev_tmp, ev_const, oc_bool, lk_hit, lk_miss, ne_eq, Nat.reduceEqDiff, not_false_eq_true]; done))
    | (refine AGood.cond (by simp only [ev_tmp, ev_const, oc_bool, lk_hit, lk_miss, ne_eq, Nat.reduceEqDiff, not_false_eq_true]; rfl) rfl ?_ ?_ <;> intro hc <;> (try simp only [Bool.not_eq_true', Bool.not_eq_false', decide_eq_true_eq, decide_eq_false_iff_not, Bool.not_true, Bool.not_false, Bool.not_eq_true, Bool.not_eq_false] at hc) <;> (try simp only [hc, decide_true, decide_false, Bool.not_true, Bool.not_false]))
    | (intro _)
    | (refine And.intro ?_ ?_))
    all_goals simp [endsB, h]
theorem fail_c (s : ByteArray) (r : Rd) (g g1 : Nat) (er w : Int) : ACall Tryd.prog 37 [.bx 1000 g 0, .int .i64 er, .int .i64 w] (rsto g g1 s r) fun v s' => v = .tup [] ∧ s' = rsto g g1 s (failS r er w) := by
  obtain ⟨p, ns, deep, e, wh⟩ := r
  simp only [rsto]
  by_cases h : e = 0
  · subst h
    refine ACall.enter Tryd.func37 rfl (by kernel_rfl) (Nat.le_of_ble_eq_true rfl) ?_; simp only [initTm, Nat.reduceAdd]
    repeat' (first
    | refine AGood.seq ?_ | refine AGood.skip ?_ | refine AGood.block ?_ | refine AGood.inBlock ?_ | refine AGood.exit rfl ?_
    | ((first
    | (refine AGood.reg LL_ok [] [0, 1, 2, 10] (by kernel_rfl) ?_; intro K hK)
    | (refine gd_split ?_ ?_ <;> intro hb <;> (try simp only [Bool.not_eq_true', Bool.not_eq_false', decide_eq_true_eq, decide_eq_false_iff_not, Bool.not_true, Bool.not_false, Bool.not_eq_true, Bool.not_eq_false] at hb) <;> (try simp only [hb]))
    | refine AGood.retF LL_ok [1000, 1001] [] rfl ?_
    | refine AGood.doneF LL_ok [1000, 1001] [] rfl ?_) <;> (try simp only [go_sem, Nat.reduceAdd, Nat.reduceSub, Nat.reduceMul, Nat.reduceLT, Nat.reduceLeDiff, Nat.reduceEqDiff, Nat.reduceDiv, Nat.reduceBEq, Int.reduceNeg, reduceCtorEq, ↓reduceIte, Int.reduceEq, Int.reduceLT, Int.reduceLE, Int.reduceToNat, Int.reduceAdd, Int.reduceSub, Int.reduceMul, Nat.reducePow, Nat.reduceBNe]))
    | (refine hK _ _ ?_; clear hK K; simp only [prune, List.map_cons, List.map_nil, lk_hit, lk_miss, lk_nil, ne_eq, Nat.reduceEqDiff, not_false_eq_true])
    | (refine AGood.condT ?_ rfl ?_; focus (simp only [ev_tmp, ev_const, oc_bool, lk_hit, lk_miss, ne_eq, Nat.reduceEqDiff, not_false_eq_true]; done))
    | (refine AGood.condF ?_ rfl ?_; focus (simp only [ev_tmp, ev_const, oc_bool, lk_hit, lk_miss, ne_eq, Nat.reduceEqDiff, not_false_eq_true]; done))
    | (refine AGood.cond (by simp only [ev_tmp, ev_const, oc_bool, lk_hit, lk_miss, ne_eq, Nat.reduceEqDiff, not_false_eq_true]; rfl) rfl ?_ ?_ <;> intro hc <;> (try simp only [Bool.not_eq_true', Bool.not_eq_false', decide_eq_true_eq, decide_eq_false_iff_not, Bool.not_true, Bool.not_false, Bool.not_eq_true, Bool.not_eq_false] at hc) <;> (try simp only [hc, decide_true, decide_false, Bool.not_true, Bool.not_false]))
    | (intro _)
    | (refine And.intro ?_ ?_))
    all_goals simp [failS]
  · refine ACall.enter Tryd.func37 rfl (by kernel_rfl) (Nat.le_of_ble_eq_true rfl) ?_; simp only [initTm, Nat.reduceAdd]
    repeat' (first
    | refine AGood.seq ?_ | refine AGood.skip ?_ | refine AGood.block ?_ | refine AGood.inBlock ?_ | refine AGood.exit rfl ?_
    | ((first
    | (refine AGood.reg LL_ok [] [0, 1, 2, 10] (by kernel_rfl) ?_; intro K hK)
    | (refine gd_split ?_ ?_ <;> intro hb <;> (try simp only [Bool.not_eq_true', Bool.not_eq_false', decide_eq_true_eq, decide_eq_false_iff_not, Bool.not_true, Bool.not_false, Bool.not_eq_true, Bool.not_eq_false] at hb) <;> (try simp only [hb]))
    | refine AGood.retF LL_ok [1000, 1001] [] rfl ?_
    | refine AGood.doneF LL_ok [1000, 1001] [] rfl ?_) <;> (try simp only [go_sem, Nat.reduceAdd, Nat.reduceSub, Nat.reduceMul, Nat.reduceLT, Nat.reduceLeDiff, Nat.reduceEqDiff, Nat.reduceDiv, Nat.reduceBEq, Int.reduceNeg, reduceCtorEq, ↓reduceIte, Int.reduceEq, Int.reduceLT, Int.reduceLE, Int.reduceToNat, Int.reduceAdd, Int.reduceSub, Int.reduceMul, Nat.reducePow, Nat.reduceBNe, h]))
    | (refine hK _ _ ?_; clear hK K; simp only [prune, List.map_cons, List.map_nil, lk_hit, lk_miss, lk_nil, ne_eq, Nat.reduceEqDiff, not_false_eq_true])
    | (refine AGood.condT ?_ rfl ?_; focus (simp only [ev_tmp, ev_const, oc_bool, lk_hit, lk_miss, ne_eq, Nat.reduceEqDiff, not_false_eq_true]; done))
    | (refine AGood.condF ?_ rfl ?_; focus (simp only [ev_tmp, ev_const, oc_bool, lk_hit, lk_miss, ne_eq, Nat.reduceEqDiff, not_false_eq_true]; done))
    | (refine AGood.cond (by simp only [ev_tmp, ev_const, oc_bool, lk_hit, lk_miss, ne_eq, Nat.reduceEqDiff, not_false_eq_true]; rfl) rfl ?_ ?_ <;> intro hc <;> (try simp only [Bool.not_eq_true', Bool.not_eq_false', decide_eq_true_eq, decide_eq_false_iff_not, Bool.not_true, Bool.not_false, Bool.not_eq_true, Bool.not_eq_false] at hc) <;> (try simp only [hc, decide_true, decide_false, Bool.not_true, Bool.not_false]))
    | (intro _)
    | (refine And.intro ?_ ?_))
    all_goals simp [failS, h]
theorem putR_c (s : ByteArray) (r : Rd) (g g1 : Nat) (n : Node) (fl : Bool) (hn : r.nodes.length ≤ 1000000) : ACall Tryd.prog 56 [.bx 1000 g 0, .agg (n.cellsF fl)] (rsto g g1 s r) fun v s' => v = .int .i64 r.nodes.length ∧ ∃ h1, s' = rsto g h1 s (putR r n) := by
  obtain ⟨p, ns, deep, e, wh⟩ := r
  obtain ⟨no, ⟨na, nb, nc, nd⟩, nl, nlo, nhi, nn⟩ := n
  simp only at hn
  simp only [rsto, Node.cellsF]
  refine ACall.enter Tryd.func56 rfl (by kernel_rfl) (Nat.le_of_ble_eq_true rfl) ?_; simp only [initTm, Nat.reduceAdd]
  repeat' (first
    | refine AGood.seq ?_ | refine AGood.skip ?_ | refine AGood.block ?_ | refine AGood.inBlock ?_ | refine AGood.exit rfl ?_
    | ((first
    | (refine AGood.reg LL_ok [11] [0, 1, 3, 4] (by kernel_rfl) ?_; intro K hK)
    | (refine AGood.drawn LL_ok mixed [11] 7 [0, 1, 2, 3, 4, 5, 6, 7, 8, 9, 10] [0, 1, 3, 4] (by kernel_rfl) (by rfl) ?_; intro K hK)
    | (refine gd_split ?_ ?_ <;> intro hb <;> (try simp only [Bool.not_eq_true', Bool.not_eq_false', decide_eq_true_eq, decide_eq_false_iff_not, Bool.not_true, Bool.not_false, Bool.not_eq_true, Bool.not_eq_false] at hb) <;> (try simp only [hb]))
    | refine AGood.retF LL_ok [1000, 1001] [.tmp 4] rfl ?_
    | refine AGood.doneF LL_ok [1000, 1001] [.tmp 4] rfl ?_) <;> (try simp only [go_sem, Nat.reduceAdd, Nat.reduceSub, Nat.reduceMul, Nat.reduceLT, Nat.reduceLeDiff, Nat.reduceEqDiff, Nat.reduceDiv, Nat.reduceBEq, Int.reduceNeg, reduceCtorEq, ↓reduceIte, Int.reduceEq, Int.reduceLT, Int.reduceLE, Int.reduceToNat, Int.reduceAdd, Int.reduceSub, Int.reduceMul, Nat.reducePow, Nat.reduceBNe]))
    | (refine hK _ _ ?_; clear hK K; simp only [prune, List.map_cons, List.map_nil, lk_hit, lk_miss, lk_nil, ne_eq, Nat.reduceEqDiff, not_false_eq_true])
    | (refine AGood.condT ?_ rfl ?_; focus (simp only [ev_tmp, ev_const, oc_bool, lk_hit, lk_miss, ne_eq, Nat.reduceEqDiff, not_false_eq_true]; done))
    | (refine AGood.condF ?_ rfl ?_; focus (simp only [ev_tmp, ev_const, oc_bool, lk_hit, lk_miss, ne_eq, Nat.reduceEqDiff, not_false_eq_true]; done))
    | (refine AGood.cond (by simp only [ev_tmp, ev_const, oc_bool, lk_hit, lk_miss, ne_eq, Nat.reduceEqDiff, not_false_eq_true]; rfl) rfl ?_ ?_ <;> intro hc <;> (try simp only [Bool.not_eq_true', Bool.not_eq_false', decide_eq_true_eq, decide_eq_false_iff_not, Bool.not_true, Bool.not_false, Bool.not_eq_true, Bool.not_eq_false] at hc) <;> (try simp only [hc, decide_true, decide_false, Bool.not_true, Bool.not_false]))
    | (intro _)
    | (refine And.intro ?_ ?_))
  all_goals first | omega | (unfold bigLen; omega) | exact ⟨_, _, ⟨rfl, rfl⟩, rfl⟩ | exact ⟨_, rfl⟩ | (rename_i hy; simp only [List.mem_singleton] at hy; subst hy; rfl) | skip
  · simp
  · rename_i h'; exact ⟨h', by simp [putR]⟩
theorem in_no {c : Nat} {l : ByteArray} {i : Nat} (h : i < l.size) (hc : bt l i = c) : inS c l = true := by
  simp only [inS, List.any_eq_true, List.mem_range, decide_eq_true_eq]
  exact ⟨i, h, hc⟩
theorem in4uc (c : Nat) (l : ByteArray) (hl : l.size ≤ 1000000) : ACall Tryd.prog 67 [.int .u8 c, .str l] [] fun r s => r = .bool (inS c l) ∧ s = [] := by
  refine ACall.enter Tryd.func67 rfl (by kernel_rfl) (Nat.le_of_ble_eq_true rfl) ?_; simp only [initTm, Nat.reduceAdd]
  repeat' (first
    | refine AGood.seq ?_ | refine AGood.skip ?_ | refine AGood.block ?_ | refine AGood.inBlock ?_ | refine AGood.exit rfl ?_
    | ((first
    | (refine AGood.reg LL_ok [] [0, 1, 4, 5, 9, 16] (by kernel_rfl) ?_; intro K hK)
    | (refine gd_split ?_ ?_ <;> intro hb <;> (try simp only [Bool.not_eq_true', Bool.not_eq_false', decide_eq_true_eq, decide_eq_false_iff_not, Bool.not_true, Bool.not_false, Bool.not_eq_true, Bool.not_eq_false] at hb) <;> (try simp only [hb]))
    | refine AGood.retF LL_ok [] [.tmp 4] rfl ?_
    | refine AGood.doneF LL_ok [] [.tmp 4] rfl ?_) <;> (try simp only [go_sem, Nat.reduceAdd, Nat.reduceSub, Nat.reduceMul, Nat.reduceLT, Nat.reduceLeDiff, Nat.reduceEqDiff, Nat.reduceDiv, Nat.reduceBEq, Int.reduceNeg, reduceCtorEq, ↓reduceIte, Int.reduceEq, Int.reduceLT, Int.reduceLE, Int.reduceToNat, Int.reduceAdd, Int.reduceSub, Int.reduceMul, Nat.reducePow, Nat.reduceBNe]))
    | (refine hK _ _ ?_; clear hK K; simp only [prune, List.map_cons, List.map_nil, lk_hit, lk_miss, lk_nil, ne_eq, Nat.reduceEqDiff, not_false_eq_true])
    | (refine AGood.condT ?_ rfl ?_; focus (simp only [ev_tmp, ev_const, oc_bool, lk_hit, lk_miss, ne_eq, Nat.reduceEqDiff, not_false_eq_true]; done))
    | (refine AGood.condF ?_ rfl ?_; focus (simp only [ev_tmp, ev_const, oc_bool, lk_hit, lk_miss, ne_eq, Nat.reduceEqDiff, not_false_eq_true]; done))
    | (refine AGood.cond (by simp only [ev_tmp, ev_const, oc_bool, lk_hit, lk_miss, ne_eq, Nat.reduceEqDiff, not_false_eq_true]; rfl) rfl ?_ ?_ <;> intro hc <;> (try simp only [Bool.not_eq_true', Bool.not_eq_false', decide_eq_true_eq, decide_eq_false_iff_not, Bool.not_true, Bool.not_false, Bool.not_eq_true, Bool.not_eq_false] at hc) <;> (try simp only [hc, decide_true, decide_false, Bool.not_true, Bool.not_false]))
    | (intro _)
    | (refine And.intro ?_ ?_))
  refine AGood.prune [0, 1, 4, 5] ?_; simp only [prune, List.map_cons, List.map_nil, lk_hit, lk_miss, lk_nil, ne_eq, Nat.reduceEqDiff, not_false_eq_true]
  refine AGood.loopInv (α := Nat) (fun i => ([(0, .int .u8 c), (1, .str l), (4, .bool false), (5, .int .i64 i)], [])) (fun i => i ≤ l.size ∧ (List.range i).any (fun i => decide (bt l i = c)) = false) (fun i => l.size - i) 0 ⟨Nat.zero_le _, rfl⟩ rfl ?_
  rintro i ⟨hi, hall⟩ ih
  simp only
  by_cases hle : i < l.size
  · have e4 : (i : Int) < l.size := by omega
    have e5 : (0 : Int) ≤ i := by omega
    by_cases hc : bt l i = c
    · rw [in_no hle hc]
      have e6 : (bt l i : Int) = c := by omega
      repeat' (first
    | refine AGood.seq ?_ | refine AGood.skip ?_ | refine AGood.block ?_ | refine AGood.inBlock ?_ | refine AGood.exit rfl ?_
    | ((first
    | (refine AGood.reg LL_ok [] [0, 1, 4, 5, 9, 16] (by kernel_rfl) ?_; intro K hK)
    | (refine gd_split ?_ ?_ <;> intro hb <;> (try simp only [Bool.not_eq_true', Bool.not_eq_false', decide_eq_true_eq, decide_eq_false_iff_not, Bool.not_true, Bool.not_false, Bool.not_eq_true, Bool.not_eq_false] at hb) <;> (try simp only [hb]))
    | refine AGood.retF LL_ok [] [.tmp 4] rfl ?_
    | refine AGood.doneF LL_ok [] [.tmp 4] rfl ?_) <;> (try simp only [go_sem, Nat.reduceAdd, Nat.reduceSub, Nat.reduceMul, Nat.reduceLT, Nat.reduceLeDiff, Nat.reduceEqDiff, Nat.reduceDiv, Nat.reduceBEq, Int.reduceNeg, reduceCtorEq, ↓reduceIte, Int.reduceEq, Int.reduceLT, Int.reduceLE, Int.reduceToNat, Int.reduceAdd, Int.reduceSub, Int.reduceMul, Nat.reducePow, Nat.reduceBNe, e4, e5, e6, sbyte_bt]))
    | (refine hK _ _ ?_; clear hK K; simp only [prune, List.map_cons, List.map_nil, lk_hit, lk_miss, lk_nil, ne_eq, Nat.reduceEqDiff, not_false_eq_true])
    | (refine AGood.condT ?_ rfl ?_; focus (simp only [ev_tmp, ev_const, oc_bool, lk_hit, lk_miss, ne_eq, Nat.reduceEqDiff, not_false_eq_true]; done))
    | (refine AGood.condF ?_ rfl ?_; focus (simp only [ev_tmp, ev_const, oc_bool, lk_hit, lk_miss, ne_eq, Nat.reduceEqDiff, not_false_eq_true]; done))
    | (refine AGood.cond (by simp only [ev_tmp, ev_const, oc_bool, lk_hit, lk_miss, ne_eq, Nat.reduceEqDiff, not_false_eq_true]; rfl) rfl ?_ ?_ <;> intro hc <;> (try simp only [Bool.not_eq_true', Bool.not_eq_false', decide_eq_true_eq, decide_eq_false_iff_not, Bool.not_true, Bool.not_false, Bool.not_eq_true, Bool.not_eq_false] at hc) <;> (try simp only [hc, decide_true, decide_false, Bool.not_true, Bool.not_false]))
    | (intro _)
    | (refine And.intro ?_ ?_))
    · have e6 : ¬ (bt l i : Int) = c := by omega
      repeat' (first
    | refine AGood.seq ?_ | refine AGood.skip ?_ | refine AGood.block ?_ | refine AGood.inBlock ?_ | refine AGood.exit rfl ?_
    | ((first
    | (refine AGood.reg LL_ok [] [0, 1, 4, 5, 9, 16] (by kernel_rfl) ?_; intro K hK)
    | (refine gd_split ?_ ?_ <;> intro hb <;> (try simp only [Bool.not_eq_true', Bool.not_eq_false', decide_eq_true_eq, decide_eq_false_iff_not, Bool.not_true, Bool.not_false, Bool.not_eq_true, Bool.not_eq_false] at hb) <;> (try simp only [hb]))
    | refine AGood.retF LL_ok [] [.tmp 4] rfl ?_
    | refine AGood.doneF LL_ok [] [.tmp 4] rfl ?_) <;> (try simp only [go_sem, Nat.reduceAdd, Nat.reduceSub, Nat.reduceMul, Nat.reduceLT, Nat.reduceLeDiff, Nat.reduceEqDiff, Nat.reduceDiv, Nat.reduceBEq, Int.reduceNeg, reduceCtorEq, ↓reduceIte, Int.reduceEq, Int.reduceLT, Int.reduceLE, Int.reduceToNat, Int.reduceAdd, Int.reduceSub, Int.reduceMul, Nat.reducePow, Nat.reduceBNe, e4, e5, e6, sbyte_bt]))
    | (refine hK _ _ ?_; clear hK K; simp only [prune, List.map_cons, List.map_nil, lk_hit, lk_miss, lk_nil, ne_eq, Nat.reduceEqDiff, not_false_eq_true])
    | (refine AGood.condT ?_ rfl ?_; focus (simp only [ev_tmp, ev_const, oc_bool, lk_hit, lk_miss, ne_eq, Nat.reduceEqDiff, not_false_eq_true]; done))
    | (refine AGood.condF ?_ rfl ?_; focus (simp only [ev_tmp, ev_const, oc_bool, lk_hit, lk_miss, ne_eq, Nat.reduceEqDiff, not_false_eq_true]; done))
    | (refine AGood.cond (by simp only [ev_tmp, ev_const, oc_bool, lk_hit, lk_miss, ne_eq, Nat.reduceEqDiff, not_false_eq_true]; rfl) rfl ?_ ?_ <;> intro hc <;> (try simp only [Bool.not_eq_true', Bool.not_eq_false', decide_eq_true_eq, decide_eq_false_iff_not, Bool.not_true, Bool.not_false, Bool.not_eq_true, Bool.not_eq_false] at hc) <;> (try simp only [hc, decide_true, decide_false, Bool.not_true, Bool.not_false]))
    | (intro _)
    | (refine And.intro ?_ ?_))
      all_goals first | omega | (unfold bigLen; omega) | exact ⟨_, _, ⟨rfl, rfl⟩, rfl⟩ | exact ⟨_, rfl⟩ | (rename_i hy; simp only [List.mem_singleton] at hy; subst hy; rfl) | skip
      refine AGood.prune [0, 1, 4, 5] ?_; simp only [prune, List.map_cons, List.map_nil, lk_hit, lk_miss, lk_nil, ne_eq, Nat.reduceEqDiff, not_false_eq_true]
      exact (ih (i + 1) ⟨by omega, by rw [List.range_succ, List.any_append, hall]; simp [hc]⟩ (by omega)).cast rfl rfl
  · have e4 : ¬ (i : Int) < l.size := by omega
    have e5 : i = l.size := by omega
    subst e5
    repeat' (first
    | refine AGood.seq ?_ | refine AGood.skip ?_ | refine AGood.block ?_ | refine AGood.inBlock ?_ | refine AGood.exit rfl ?_
    | ((first
    | (refine AGood.reg LL_ok [] [0, 1, 4, 5, 9, 16] (by kernel_rfl) ?_; intro K hK)
    | (refine gd_split ?_ ?_ <;> intro hb <;> (try simp only [Bool.not_eq_true', Bool.not_eq_false', decide_eq_true_eq, decide_eq_false_iff_not, Bool.not_true, Bool.not_false, Bool.not_eq_true, Bool.not_eq_false] at hb) <;> (try simp only [hb]))
    | refine AGood.retF LL_ok [] [.tmp 4] rfl ?_
    | refine AGood.doneF LL_ok [] [.tmp 4] rfl ?_) <;> (try simp only [go_sem, Nat.reduceAdd, Nat.reduceSub, Nat.reduceMul, Nat.reduceLT, Nat.reduceLeDiff, Nat.reduceEqDiff, Nat.reduceDiv, Nat.reduceBEq, Int.reduceNeg, reduceCtorEq, ↓reduceIte, Int.reduceEq, Int.reduceLT, Int.reduceLE, Int.reduceToNat, Int.reduceAdd, Int.reduceSub, Int.reduceMul, Nat.reducePow, Nat.reduceBNe, e4]))
    | (refine hK _ _ ?_; clear hK K; simp only [prune, List.map_cons, List.map_nil, lk_hit, lk_miss, lk_nil, ne_eq, Nat.reduceEqDiff, not_false_eq_true])
    | (refine AGood.condT ?_ rfl ?_; focus (simp only [ev_tmp, ev_const, oc_bool, lk_hit, lk_miss, ne_eq, Nat.reduceEqDiff, not_false_eq_true]; done))
    | (refine AGood.condF ?_ rfl ?_; focus (simp only [ev_tmp, ev_const, oc_bool, lk_hit, lk_miss, ne_eq, Nat.reduceEqDiff, not_false_eq_true]; done))
    | (refine AGood.cond (by simp only [ev_tmp, ev_const, oc_bool, lk_hit, lk_miss, ne_eq, Nat.reduceEqDiff, not_false_eq_true]; rfl) rfl ?_ ?_ <;> intro hc <;> (try simp only [Bool.not_eq_true', Bool.not_eq_false', decide_eq_true_eq, decide_eq_false_iff_not, Bool.not_true, Bool.not_false, Bool.not_eq_true, Bool.not_eq_false] at hc) <;> (try simp only [hc, decide_true, decide_false, Bool.not_true, Bool.not_false]))
    | (intro _)
    | (refine And.intro ?_ ?_))
    exact congrArg AVal.bool hall.symm
theorem special4uc : ACall Tryd.prog 68 [] [] fun r s => r = .str specialS ∧ s = [] := by
  refine ACall.enter Tryd.func68 rfl (by kernel_rfl) (Nat.le_of_ble_eq_true rfl) ?_; simp only [initTm, Nat.reduceAdd]
  repeat' (first
    | refine AGood.seq ?_ | refine AGood.skip ?_ | refine AGood.block ?_ | refine AGood.inBlock ?_ | refine AGood.exit rfl ?_
    | ((first
    | (refine AGood.reg LL_ok [] [0] (by kernel_rfl) ?_; intro K hK)
    | (refine gd_split ?_ ?_ <;> intro hb <;> (try simp only [Bool.not_eq_true', Bool.not_eq_false', decide_eq_true_eq, decide_eq_false_iff_not, Bool.not_true, Bool.not_false, Bool.not_eq_true, Bool.not_eq_false] at hb) <;> (try simp only [hb]))
    | refine AGood.retF LL_ok [] [.tmp 0] rfl ?_
    | refine AGood.doneF LL_ok [] [.tmp 0] rfl ?_) <;> (try simp only [go_sem, Nat.reduceAdd, Nat.reduceSub, Nat.reduceMul, Nat.reduceLT, Nat.reduceLeDiff, Nat.reduceEqDiff, Nat.reduceDiv, Nat.reduceBEq, Int.reduceNeg, reduceCtorEq, ↓reduceIte, Int.reduceEq, Int.reduceLT, Int.reduceLE, Int.reduceToNat, Int.reduceAdd, Int.reduceSub, Int.reduceMul, Nat.reducePow, Nat.reduceBNe]))
    | (refine hK _ _ ?_; clear hK K; simp only [prune, List.map_cons, List.map_nil, lk_hit, lk_miss, lk_nil, ne_eq, Nat.reduceEqDiff, not_false_eq_true])
    | (refine AGood.condT ?_ rfl ?_; focus (simp only [ev_tmp, ev_const, oc_bool, lk_hit, lk_miss, ne_eq, Nat.reduceEqDiff, not_false_eq_true]; done))
    | (refine AGood.condF ?_ rfl ?_; focus (simp only [ev_tmp, ev_const, oc_bool, lk_hit, lk_miss, ne_eq, Nat.reduceEqDiff, not_false_eq_true]; done))
    | (refine AGood.cond (by simp only [ev_tmp, ev_const, oc_bool, lk_hit, lk_miss, ne_eq, Nat.reduceEqDiff, not_false_eq_true]; rfl) rfl ?_ ?_ <;> intro hc <;> (try simp only [Bool.not_eq_true', Bool.not_eq_false', decide_eq_true_eq, decide_eq_false_iff_not, Bool.not_true, Bool.not_false, Bool.not_eq_true, Bool.not_eq_false] at hc) <;> (try simp only [hc, decide_true, decide_false, Bool.not_true, Bool.not_false]))
    | (intro _)
    | (refine And.intro ?_ ?_))
  rfl
theorem hex4uc (c : Nat) (hc : c ≤ 255) : ACall Tryd.prog 74 [.int .u8 c] [] fun r s => r = .int .i64 (hexS c) ∧ s = [] := by
  by_cases h1 : 48 ≤ c ∧ c ≤ 57
  · have e1 : (c : Int) - 48 = ((c - 48 : Nat) : Int) := by omega
    have e2 := wr_u8n (n := c - 48) (by omega)
    have e3 := wr_i64n (n := c - 48) (by omega)
    have e4 : digitN c = true := by simp [digitN, h1]
    have hd := digit4uc c
    rw [e4] at hd
    refine ACall.enter Tryd.func74 rfl (by kernel_rfl) (Nat.le_of_ble_eq_true rfl) ?_; simp only [initTm, Nat.reduceAdd]
    repeat' (first
    | refine AGood.seq ?_ | refine AGood.skip ?_ | refine AGood.block ?_ | refine AGood.inBlock ?_ | refine AGood.exit rfl ?_
    | ((first
    | (refine AGood.reg LL_ok [] [0, 2, 4, 13] (by kernel_rfl) ?_; intro K hK)
    | (refine ACall.mono (ACall.alone (hd) rfl rfl rfl) ?_; rintro _ _ ⟨rfl, rfl⟩)
    | (refine gd_split ?_ ?_ <;> intro hb <;> (try simp only [Bool.not_eq_true', Bool.not_eq_false', decide_eq_true_eq, decide_eq_false_iff_not, Bool.not_true, Bool.not_false, Bool.not_eq_true, Bool.not_eq_false] at hb) <;> (try simp only [hb]))
    | refine AGood.retF LL_ok [] [.tmp 2] rfl ?_
    | refine AGood.doneF LL_ok [] [.tmp 2] rfl ?_) <;> (try simp only [go_sem, Nat.reduceAdd, Nat.reduceSub, Nat.reduceMul, Nat.reduceLT, Nat.reduceLeDiff, Nat.reduceEqDiff, Nat.reduceDiv, Nat.reduceBEq, Int.reduceNeg, reduceCtorEq, ↓reduceIte, Int.reduceEq, Int.reduceLT, Int.reduceLE, Int.reduceToNat, Int.reduceAdd, Int.reduceSub, Int.reduceMul, Nat.reducePow, Nat.reduceBNe, e1, e2, e3]))
    | (refine hK _ _ ?_; clear hK K; simp only [prune, List.map_cons, List.map_nil, lk_hit, lk_miss, lk_nil, ne_eq, Nat.reduceEqDiff, not_false_eq_true])
    | (refine AGood.condT ?_ rfl ?_; focus (simp only [ev_tmp, ev_const, oc_bool, lk_hit, lk_miss, ne_eq, Nat.reduceEqDiff, not_false_eq_true]; done))
    | (refine AGood.condF ?_ rfl ?_; focus (simp only [ev_tmp, ev_const, oc_bool, lk_hit, lk_miss, ne_eq, Nat.reduceEqDiff, not_false_eq_true]; done))
    | (refine AGood.cond (by simp only [ev_tmp, ev_const, oc_bool, lk_hit, lk_miss, ne_eq, Nat.reduceEqDiff, not_false_eq_true]; rfl) rfl ?_ ?_ <;> intro hc <;> (try simp only [Bool.not_eq_true', Bool.not_eq_false', decide_eq_true_eq, decide_eq_false_iff_not, Bool.not_true, Bool.not_false, Bool.not_eq_true, Bool.not_eq_false] at hc) <;> (try simp only [hc, decide_true, decide_false, Bool.not_true, Bool.not_false]))
    | (intro _)
    | (refine And.intro ?_ ?_))
    all_goals first | omega | (refine congrArg (AVal.int IntKind.i64) ?_; simp only [hexS, if_pos h1] <;> omega)
  · have e4 : digitN c = false := by simp only [digitN, decide_eq_false_iff_not]; exact h1
    have hd := digit4uc c
    rw [e4] at hd
    by_cases h2 : 97 ≤ c ∧ c ≤ 102
    · have e1 : (c : Int) - 97 = ((c - 97 : Nat) : Int) := by omega
      have e2 := wr_u8n (n := c - 97) (by omega)
      have e3 := wr_i64n (n := c - 97) (by omega)
      have e5 : (97 : Int) ≤ c := by omega
      have e6 : (c : Int) ≤ 102 := by omega
      refine ACall.enter Tryd.func74 rfl (by kernel_rfl) (Nat.le_of_ble_eq_true rfl) ?_; simp only [initTm, Nat.reduceAdd]
      repeat' (first
    | refine AGood.seq ?_ | refine AGood.skip ?_ | refine AGood.block ?_ | refine AGood.inBlock ?_ | refine AGood.exit rfl ?_
    | ((first
    | (refine AGood.reg LL_ok [] [0, 2, 4, 13] (by kernel_rfl) ?_; intro K hK)
    | (refine ACall.mono (ACall.alone (hd) rfl rfl rfl) ?_; rintro _ _ ⟨rfl, rfl⟩)
    | (refine gd_split ?_ ?_ <;> intro hb <;> (try simp only [Bool.not_eq_true', Bool.not_eq_false', decide_eq_true_eq, decide_eq_false_iff_not, Bool.not_true, Bool.not_false, Bool.not_eq_true, Bool.not_eq_false] at hb) <;> (try simp only [hb]))
    | refine AGood.retF LL_ok [] [.tmp 2] rfl ?_
    | refine AGood.doneF LL_ok [] [.tmp 2] rfl ?_) <;> (try simp only [go_sem, Nat.reduceAdd, Nat.reduceSub, Nat.reduceMul, Nat.reduceLT, Nat.reduceLeDiff, Nat.reduceEqDiff, Nat.reduceDiv, Nat.reduceBEq, Int.reduceNeg, reduceCtorEq, ↓reduceIte, Int.reduceEq, Int.reduceLT, Int.reduceLE, Int.reduceToNat, Int.reduceAdd, Int.reduceSub, Int.reduceMul, Nat.reducePow, Nat.reduceBNe, e1, e2, e3, e5, e6]))
    | (refine hK _ _ ?_; clear hK K; simp only [prune, List.map_cons, List.map_nil, lk_hit, lk_miss, lk_nil, ne_eq, Nat.reduceEqDiff, not_false_eq_true])
    | (refine AGood.condT ?_ rfl ?_; focus (simp only [ev_tmp, ev_const, oc_bool, lk_hit, lk_miss, ne_eq, Nat.reduceEqDiff, not_false_eq_true]; done))
    | (refine AGood.condF ?_ rfl ?_; focus (simp only [ev_tmp, ev_const, oc_bool, lk_hit, lk_miss, ne_eq, Nat.reduceEqDiff, not_false_eq_true]; done))
    | (refine AGood.cond (by simp only [ev_tmp, ev_const, oc_bool, lk_hit, lk_miss, ne_eq, Nat.reduceEqDiff, not_false_eq_true]; rfl) rfl ?_ ?_ <;> intro hc <;> (try simp only [Bool.not_eq_true', Bool.not_eq_false', decide_eq_true_eq, decide_eq_false_iff_not, Bool.not_true, Bool.not_false, Bool.not_eq_true, Bool.not_eq_false] at hc) <;> (try simp only [hc, decide_true, decide_false, Bool.not_true, Bool.not_false]))
    | (intro _)
    | (refine And.intro ?_ ?_))
      all_goals first | omega | (refine congrArg (AVal.int IntKind.i64) ?_; simp only [hexS, if_neg h1, if_pos h2] <;> omega)
    · refine ACall.enter Tryd.func74 rfl (by kernel_rfl) (Nat.le_of_ble_eq_true rfl) ?_; simp only [initTm, Nat.reduceAdd]
      repeat' (first
    | refine AGood.seq ?_ | refine AGood.skip ?_ | refine AGood.block ?_ | refine AGood.inBlock ?_ | refine AGood.exit rfl ?_
    | ((first
    | (refine AGood.reg LL_ok [] [0, 2, 4, 13] (by kernel_rfl) ?_; intro K hK)
    | (refine ACall.mono (ACall.alone (hd) rfl rfl rfl) ?_; rintro _ _ ⟨rfl, rfl⟩)
    | (refine gd_split ?_ ?_ <;> intro hb <;> (try simp only [Bool.not_eq_true', Bool.not_eq_false', decide_eq_true_eq, decide_eq_false_iff_not, Bool.not_true, Bool.not_false, Bool.not_eq_true, Bool.not_eq_false] at hb) <;> (try simp only [hb]))
    | refine AGood.retF LL_ok [] [.tmp 2] rfl ?_
    | refine AGood.doneF LL_ok [] [.tmp 2] rfl ?_) <;> (try simp only [go_sem, Nat.reduceAdd, Nat.reduceSub, Nat.reduceMul, Nat.reduceLT, Nat.reduceLeDiff, Nat.reduceEqDiff, Nat.reduceDiv, Nat.reduceBEq, Int.reduceNeg, reduceCtorEq, ↓reduceIte, Int.reduceEq, Int.reduceLT, Int.reduceLE, Int.reduceToNat, Int.reduceAdd, Int.reduceSub, Int.reduceMul, Nat.reducePow, Nat.reduceBNe]))
    | (refine hK _ _ ?_; clear hK K; simp only [prune, List.map_cons, List.map_nil, lk_hit, lk_miss, lk_nil, ne_eq, Nat.reduceEqDiff, not_false_eq_true])
    | (refine AGood.condT ?_ rfl ?_; focus (simp only [ev_tmp, ev_const, oc_bool, lk_hit, lk_miss, ne_eq, Nat.reduceEqDiff, not_false_eq_true]; done))
    | (refine AGood.condF ?_ rfl ?_; focus (simp only [ev_tmp, ev_const, oc_bool, lk_hit, lk_miss, ne_eq, Nat.reduceEqDiff, not_false_eq_true]; done))
    | (refine AGood.cond (by simp only [ev_tmp, ev_const, oc_bool, lk_hit, lk_miss, ne_eq, Nat.reduceEqDiff, not_false_eq_true]; rfl) rfl ?_ ?_ <;> intro hc <;> (try simp only [Bool.not_eq_true', Bool.not_eq_false', decide_eq_true_eq, decide_eq_false_iff_not, Bool.not_true, Bool.not_false, Bool.not_eq_true, Bool.not_eq_false] at hc) <;> (try simp only [hc, decide_true, decide_false, Bool.not_true, Bool.not_false]))
    | (intro _)
    | (refine And.intro ?_ ?_))
      all_goals first | omega | (refine congrArg (AVal.int IntKind.i64) ?_; simp only [hexS, if_neg h1, if_neg h2] <;> omega)
end Go.Rad
