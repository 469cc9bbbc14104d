/- Contracts: syntax: names, nodes, trees. -/
import Derived.Test.YtejdlelhlpnabaaDoorKC04a
import Derived.Test.YtejdlelhlpnabaaDoorKRText
set_option linter.all false
namespace Go.Rad
open Go Go.Proofs
set_option linter.all false
set_option maxRecDepth 20000
set_option maxHeartbeats 4000000

theorem letterS_c (c : Nat) : ACall Tryd.prog 51 [.int .u8 c] [] fun r s => r = .bool (letterN c) ∧ s = [] := by
  refine ACall.enter Tryd.func51 rfl (by kernel_rfl) (Nat.le_of_ble_eq_true rfl) ?_; simp only [initTm, Nat.reduceAdd]
  repeat' (first
    | refine AGood.seq ?_ | refine AGood.skip ?_ | refine AGood.block ?_ | refine AGood.inBlock ?_ | refine AGood.exit rfl ?_
    | ((first
    | (refine AGood.reg LL_ok [] [0, 2] (by kernel_rfl) ?_; intro K hK)
    | (refine gd_split ?_ ?_ <;> intro hb <;> (try simp only [Bool.not_eq_true', Bool.not_eq_false', decide_eq_true_eq, decide_eq_false_iff_not, Bool.not_true, Bool.not_false, Bool.not_eq_true, Bool.not_eq_false] at hb) <;> (try simp only [hb]))
    | refine AGood.retF LL_ok [] [.tmp 2] rfl ?_
    | refine AGood.doneF LL_ok [] [.tmp 2] rfl ?_) <;> (try simp only [go_sem, Nat.reduceAdd, Nat.reduceSub, Nat.reduceMul, Nat.reduceLT, Nat.reduceLeDiff, Nat.reduceEqDiff, Nat.reduceDiv, Nat.reduceBEq, Int.reduceNeg, reduceCtorEq, ↓reduceIte, Int.reduceEq, Int.reduceLT, Int.reduceLE, Int.reduceToNat, Int.reduceAdd, Int.reduceSub, Int.reduceMul, Nat.reducePow, Nat.reduceBNe]))
    | (refine hK _ _ ?_; clear hK K; simp only [prune, List.map_cons, List.map_nil, lk_hit, lk_miss, lk_nil, ne_eq, Nat.reduceEqDiff, not_false_eq_true])
    | (refine AGood.condT ?_ rfl ?_; focus (simp only [ev_tmp, ev_const, oc_bool, lk_hit, lk_miss, ne_eq, Nat.reduceEqDiff, not_false_eq_true]; done))
    | (refine AGood.condF ?_ rfl ?_; focus (simp only [ev_tmp, ev_const, oc_bool, lk_hit, lk_miss, ne_eq, Nat.reduceEqDiff, not_false_eq_true]; done))
    | (refine AGood.cond (by simp only [ev_tmp, ev_const, oc_bool, lk_hit, lk_miss, ne_eq, Nat.reduceEqDiff, not_false_eq_true]; rfl) rfl ?_ ?_ <;> intro hc <;> (try simp only [Bool.not_eq_true', Bool.not_eq_false', decide_eq_true_eq, decide_eq_false_iff_not, Bool.not_true, Bool.not_false, Bool.not_eq_true, Bool.not_eq_false] at hc) <;> (try simp only [hc, decide_true, decide_false, Bool.not_true, Bool.not_false]))
    | (intro _)
    | (refine And.intro ?_ ?_))
  all_goals (refine congrArg AVal.bool ?_; rw [Bool.eq_iff_iff]; simp [letterN] <;> omega)
theorem digitS_c (c : Nat) : ACall Tryd.prog 52 [.int .u8 c] [] fun r s => r = .bool (digitN c) ∧ s = [] := by
  refine ACall.enter Tryd.func52 rfl (by kernel_rfl) (Nat.le_of_ble_eq_true rfl) ?_; simp only [initTm, Nat.reduceAdd]
  repeat' (first
    | refine AGood.seq ?_ | refine AGood.skip ?_ | refine AGood.block ?_ | refine AGood.inBlock ?_ | refine AGood.exit rfl ?_
    | ((first
    | (refine AGood.reg LL_ok [] [0, 2] (by kernel_rfl) ?_; intro K hK)
    | (refine gd_split ?_ ?_ <;> intro hb <;> (try simp only [Bool.not_eq_true', Bool.not_eq_false', decide_eq_true_eq, decide_eq_false_iff_not, Bool.not_true, Bool.not_false, Bool.not_eq_true, Bool.not_eq_false] at hb) <;> (try simp only [hb]))
    | refine AGood.retF LL_ok [] [.tmp 2] rfl ?_
    | refine AGood.doneF LL_ok [] [.tmp 2] rfl ?_) <;> (try simp only [go_sem, Nat.reduceAdd, Nat.reduceSub, Nat.reduceMul, Nat.reduceLT, Nat.reduceLeDiff, Nat.reduceEqDiff, Nat.reduceDiv, Nat.reduceBEq, Int.reduceNeg, reduceCtorEq, ↓reduceIte, Int.reduceEq, Int.reduceLT, Int.reduceLE, Int.reduceToNat, Int.reduceAdd, Int.reduceSub, Int.reduceMul, Nat.reducePow, Nat.reduceBNe]))
    | (refine hK _ _ ?_; clear hK K; simp only [prune, List.map_cons, List.map_nil, lk_hit, lk_miss, lk_nil, ne_eq, Nat.reduceEqDiff, not_false_eq_true])
    | (refine AGood.condT ?_ rfl ?_; focus (simp only [ev_tmp, ev_const, oc_bool, lk_hit, lk_miss, ne_eq, Nat.reduceEqDiff, not_false_eq_true]; done))
    | (refine AGood.condF ?_ rfl ?_; focus (simp only [ev_tmp, ev_const, oc_bool, lk_hit, lk_miss, ne_eq, Nat.reduceEqDiff, not_false_eq_true]; done))
    | (refine AGood.cond (by simp only [ev_tmp, ev_const, oc_bool, lk_hit, lk_miss, ne_eq, Nat.reduceEqDiff, not_false_eq_true]; rfl) rfl ?_ ?_ <;> intro hc <;> (try simp only [Bool.not_eq_true', Bool.not_eq_false', decide_eq_true_eq, decide_eq_false_iff_not, Bool.not_true, Bool.not_false, Bool.not_eq_true, Bool.not_eq_false] at hc) <;> (try simp only [hc, decide_true, decide_false, Bool.not_true, Bool.not_false]))
    | (intro _)
    | (refine And.intro ?_ ?_))
  all_goals (refine congrArg AVal.bool ?_; rw [Bool.eq_iff_iff]; simp [digitN] <;> omega)
theorem nameS_c (s : ByteArray) (hs : s.size ≤ maxLen) : ACall Tryd.prog 31 [.str s] [] fun r s' => r = .bool (nameOk s) ∧ s' = [] := by
  unfold maxLen at hs
  refine ACall.enter Tryd.func31 rfl (by kernel_rfl) (Nat.le_of_ble_eq_true rfl) ?_; simp only [initTm, Nat.reduceAdd]
  repeat' (first
    | refine AGood.seq ?_ | refine AGood.skip ?_ | refine AGood.block ?_ | refine AGood.inBlock ?_ | refine AGood.exit rfl ?_
    | ((first
    | (refine AGood.reg LL_ok [] [0, 2, 3, 5, 6, 7, 24] (by kernel_rfl) ?_; intro K hK)
    | (refine gd_split ?_ ?_ <;> intro hb <;> (try simp only [Bool.not_eq_true', Bool.not_eq_false', decide_eq_true_eq, decide_eq_false_iff_not, Bool.not_true, Bool.not_false, Bool.not_eq_true, Bool.not_eq_false] at hb) <;> (try simp only [hb]))
    | refine AGood.retF LL_ok [] [.tmp 2] rfl ?_
    | refine AGood.doneF LL_ok [] [.tmp 2] rfl ?_) <;> (try simp only [go_sem, Nat.reduceAdd, Nat.reduceSub, Nat.reduceMul, Nat.reduceLT, Nat.reduceLeDiff, Nat.reduceEqDiff, Nat.reduceDiv, Nat.reduceBEq, Int.reduceNeg, reduceCtorEq, ↓reduceIte, Int.reduceEq, Int.reduceLT, Int.reduceLE, Int.reduceToNat, Int.reduceAdd, Int.reduceSub, Int.reduceMul, Nat.reducePow, Nat.reduceBNe]))
    | (refine hK _ _ ?_; clear hK K; simp only [prune, List.map_cons, List.map_nil, lk_hit, lk_miss, lk_nil, ne_eq, Nat.reduceEqDiff, not_false_eq_true])
    | (refine AGood.condT ?_ rfl ?_; focus (simp only [ev_tmp, ev_const, oc_bool, lk_hit, lk_miss, ne_eq, Nat.reduceEqDiff, not_false_eq_true]; done))
    | (refine AGood.condF ?_ rfl ?_; focus (simp only [ev_tmp, ev_const, oc_bool, lk_hit, lk_miss, ne_eq, Nat.reduceEqDiff, not_false_eq_true]; done))
    | (refine AGood.cond (by simp only [ev_tmp, ev_const, oc_bool, lk_hit, lk_miss, ne_eq, Nat.reduceEqDiff, not_false_eq_true]; rfl) rfl ?_ ?_ <;> intro hc <;> (try simp only [Bool.not_eq_true', Bool.not_eq_false', decide_eq_true_eq, decide_eq_false_iff_not, Bool.not_true, Bool.not_false, Bool.not_eq_true, Bool.not_eq_false] at hc) <;> (try simp only [hc, decide_true, decide_false, Bool.not_true, Bool.not_false]))
    | (intro _)
    | (refine And.intro ?_ ?_))
  refine AGood.prune [0, 2, 5, 6] ?_; simp only [prune, List.map_cons, List.map_nil, lk_hit, lk_miss, lk_nil, ne_eq, Nat.reduceEqDiff, not_false_eq_true]
  refine AGood.loopInv (α := Nat) (fun i => ([(0, .str s), (2, .bool false), (5, .int .i64 s.size), (6, .int .i64 i)], [])) (fun i => i ≤ s.size ∧ (List.range i).all (nmB s) = true) (fun i => s.size - i) 0 ⟨Nat.zero_le _, rfl⟩ rfl ?_
  rintro i ⟨hi, hall⟩ ih
  simp only
  by_cases hle : i < s.size
  · have e4 : (i : Int) < s.size := by omega
    have e6 : (0 : Int) ≤ i := by omega
    repeat' (first
    | refine AGood.seq ?_ | refine AGood.skip ?_ | refine AGood.block ?_ | refine AGood.inBlock ?_ | refine AGood.exit rfl ?_
    | ((first
    | (refine AGood.reg LL_ok [] [0, 2, 3, 5, 6, 7, 24] (by kernel_rfl) ?_; intro K hK)
    | (refine ACall.mono (ACall.alone (letterS_c _) rfl rfl rfl) ?_; rintro _ _ ⟨rfl, rfl⟩)
    | (refine ACall.mono (ACall.alone (digitS_c _) rfl rfl rfl) ?_; rintro _ _ ⟨rfl, rfl⟩)
    | (refine gd_split ?_ ?_ <;> intro hb <;> (try simp only [Bool.not_eq_true', Bool.not_eq_false', decide_eq_true_eq, decide_eq_false_iff_not, Bool.not_true, Bool.not_false, Bool.not_eq_true, Bool.not_eq_false] at hb) <;> (try simp only [hb]))
    | refine AGood.retF LL_ok [] [.tmp 2] rfl ?_
    | refine AGood.doneF LL_ok [] [.tmp 2] rfl ?_) <;> (try simp only [go_sem, Nat.reduceAdd, Nat.reduceSub, Nat.reduceMul, Nat.reduceLT, Nat.reduceLeDiff, Nat.reduceEqDiff, Nat.reduceDiv, Nat.reduceBEq, Int.reduceNeg, reduceCtorEq, ↓reduceIte, Int.reduceEq, Int.reduceLT, Int.reduceLE, Int.reduceToNat, Int.reduceAdd, Int.reduceSub, Int.reduceMul, Nat.reducePow, Nat.reduceBNe, e4, e6, sbyte_bt]))
    | (refine hK _ _ ?_; clear hK K; simp only [prune, List.map_cons, List.map_nil, lk_hit, lk_miss, lk_nil, ne_eq, Nat.reduceEqDiff, not_false_eq_true])
    | (refine AGood.condT ?_ rfl ?_; focus (simp only [ev_tmp, ev_const, oc_bool, lk_hit, lk_miss, ne_eq, Nat.reduceEqDiff, not_false_eq_true]; done))
    | (refine AGood.condF ?_ rfl ?_; focus (simp only [ev_tmp, ev_const, oc_bool, lk_hit, lk_miss, ne_eq, Nat.reduceEqDiff, not_false_eq_true]; done))
    | (refine AGood.cond (by simp only [ev_tmp, ev_const, oc_bool, lk_hit, lk_miss, ne_eq, Nat.reduceEqDiff, not_false_eq_true]; rfl) rfl ?_ ?_ <;> intro hc <;> (try simp only [Bool.not_eq_true', Bool.not_eq_false', decide_eq_true_eq, decide_eq_false_iff_not, Bool.not_true, Bool.not_false, Bool.not_eq_true, Bool.not_eq_false] at hc) <;> (try simp only [hc, decide_true, decide_false, Bool.not_true, Bool.not_false]))
    | (intro _)
    | (refine And.intro ?_ ?_))
    all_goals first
      | omega
      | exact congrArg AVal.bool (name_no hle (by simp [nmB, *]; try omega))
      | (refine AGood.prune [0, 2, 5, 6] ?_; simp only [prune, List.map_cons, List.map_nil, lk_hit, lk_miss, lk_nil, ne_eq, Nat.reduceEqDiff, not_false_eq_true]
         exact (ih (i + 1) ⟨by omega, all_succ hall (by simp [nmB, *]; try omega)⟩ (by omega)).cast rfl rfl)
  · have e4 : ¬ (i : Int) < s.size := by omega
    have e5 : i = s.size := by omega
    subst e5
    repeat' (first
    | refine AGood.seq ?_ | refine AGood.skip ?_ | refine AGood.block ?_ | refine AGood.inBlock ?_ | refine AGood.exit rfl ?_
    | ((first
    | (refine AGood.reg LL_ok [] [0, 2, 3, 5, 6, 7, 24] (by kernel_rfl) ?_; intro K hK)
    | (refine gd_split ?_ ?_ <;> intro hb <;> (try simp only [Bool.not_eq_true', Bool.not_eq_false', decide_eq_true_eq, decide_eq_false_iff_not, Bool.not_true, Bool.not_false, Bool.not_eq_true, Bool.not_eq_false] at hb) <;> (try simp only [hb]))
    | refine AGood.retF LL_ok [] [.tmp 2] rfl ?_
    | refine AGood.doneF LL_ok [] [.tmp 2] rfl ?_) <;> (try simp only [go_sem, Nat.reduceAdd, Nat.reduceSub, Nat.reduceMul, Nat.reduceLT, Nat.reduceLeDiff, Nat.reduceEqDiff, Nat.reduceDiv, Nat.reduceBEq, Int.reduceNeg, reduceCtorEq, ↓reduceIte, Int.reduceEq, Int.reduceLT, Int.reduceLE, Int.reduceToNat, Int.reduceAdd, Int.reduceSub, Int.reduceMul, Nat.reducePow, Nat.reduceBNe, e4]))
    | (refine hK _ _ ?_; clear hK K; simp only [prune, List.map_cons, List.map_nil, lk_hit, lk_miss, lk_nil, ne_eq, Nat.reduceEqDiff, not_false_eq_true])
    | (refine AGood.condT ?_ rfl ?_; focus (simp only [ev_tmp, ev_const, oc_bool, lk_hit, lk_miss, ne_eq, Nat.reduceEqDiff, not_false_eq_true]; done))
    | (refine AGood.condF ?_ rfl ?_; focus (simp only [ev_tmp, ev_const, oc_bool, lk_hit, lk_miss, ne_eq, Nat.reduceEqDiff, not_false_eq_true]; done))
    | (refine AGood.cond (by simp only [ev_tmp, ev_const, oc_bool, lk_hit, lk_miss, ne_eq, Nat.reduceEqDiff, not_false_eq_true]; rfl) rfl ?_ ?_ <;> intro hc <;> (try simp only [Bool.not_eq_true', Bool.not_eq_false', decide_eq_true_eq, decide_eq_false_iff_not, Bool.not_true, Bool.not_false, Bool.not_eq_true, Bool.not_eq_false] at hc) <;> (try simp only [hc, decide_true, decide_false, Bool.not_true, Bool.not_false]))
    | (intro _)
    | (refine And.intro ?_ ?_))
    all_goals (refine congrArg AVal.bool ?_; rw [Bool.eq_iff_iff]; simp [nameOk, hall] <;> omega)

theorem equal_c (q f q' f' : Bool) (a b : List Int) (ha : a.length ≤ maxLen) : ACall Tryd.prog 39 [.sl q f (ints a), .sl q' f' (ints b)] [] fun r s => r = .bool (decide (a = b)) ∧ s = [] := by
  unfold maxLen at ha
  refine ACall.enter Tryd.func39 rfl (by kernel_rfl) (Nat.le_of_ble_eq_true rfl) ?_; simp only [initTm, Nat.reduceAdd]
  repeat' (first
    | refine AGood.seq ?_ | refine AGood.skip ?_ | refine AGood.block ?_ | refine AGood.inBlock ?_ | refine AGood.exit rfl ?_
    | ((first
    | (refine AGood.reg LL_ok [] [0, 1, 4, 5, 10, 12, 13, 14, 24] (by kernel_rfl) ?_; intro K hK)
    | (refine AGood.drawn LL_ok mixed [] 9 [0, 1, 2, 3, 4, 5, 6, 7, 8] [0, 1, 4, 5, 10, 12, 13, 14, 24] (by kernel_rfl) (by rfl) ?_; intro K hK)
    | (refine gd_split ?_ ?_ <;> intro hb <;> (try simp only [Bool.not_eq_true', Bool.not_eq_false', decide_eq_true_eq, decide_eq_false_iff_not, Bool.not_true, Bool.not_false, Bool.not_eq_true, Bool.not_eq_false] at hb) <;> (try simp only [hb]))
    | refine AGood.retF LL_ok [] [.tmp 4] rfl ?_
    | refine AGood.doneF LL_ok [] [.tmp 4] rfl ?_) <;> (try simp only [go_sem, Nat.reduceAdd, Nat.reduceSub, Nat.reduceMul, Nat.reduceLT, Nat.reduceLeDiff, Nat.reduceEqDiff, Nat.reduceDiv, Nat.reduceBEq, Int.reduceNeg, reduceCtorEq, ↓reduceIte, Int.reduceEq, Int.reduceLT, Int.reduceLE, Int.reduceToNat, Int.reduceAdd, Int.reduceSub, Int.reduceMul, Nat.reducePow, Nat.reduceBNe]))
    | (refine hK _ _ ?_; clear hK K; simp only [prune, List.map_cons, List.map_nil, lk_hit, lk_miss, lk_nil, ne_eq, Nat.reduceEqDiff, not_false_eq_true])
    | (refine AGood.condT ?_ rfl ?_; focus (simp only [ev_tmp, ev_const, oc_bool, lk_hit, lk_miss, ne_eq, Nat.reduceEqDiff, not_false_eq_true]; done))
    | (refine AGood.condF ?_ rfl ?_; focus (simp only [ev_tmp, ev_const, oc_bool, lk_hit, lk_miss, ne_eq, Nat.reduceEqDiff, not_false_eq_true]; done))
    | (refine AGood.cond (by simp only [ev_tmp, ev_const, oc_bool, lk_hit, lk_miss, ne_eq, Nat.reduceEqDiff, not_false_eq_true]; rfl) rfl ?_ ?_ <;> intro hc <;> (try simp only [Bool.not_eq_true', Bool.not_eq_false', decide_eq_true_eq, decide_eq_false_iff_not, Bool.not_true, Bool.not_false, Bool.not_eq_true, Bool.not_eq_false] at hc) <;> (try simp only [hc, decide_true, decide_false, Bool.not_true, Bool.not_false]))
    | (intro _)
    | (refine And.intro ?_ ?_))
  · exact congrArg AVal.bool (by simp only [Bool.false_eq, decide_eq_false_iff_not]; rintro rfl; exact hc rfl)
  have hab : a.length = b.length := by omega
  refine AGood.prune [0, 1, 4, 12, 13] ?_; simp only [prune, List.map_cons, List.map_nil, lk_hit, lk_miss, lk_nil, ne_eq, Nat.reduceEqDiff, not_false_eq_true]
  refine AGood.loopInv (α := Nat) (fun i => ([(0, .sl q f (ints a)), (1, .sl q' f' (ints b)), (4, .bool false), (12, .int .i64 a.length), (13, .int .i64 i)], [])) (fun i => i ≤ a.length ∧ a.take i = b.take i) (fun i => a.length - i) 0 ⟨Nat.zero_le _, rfl⟩ rfl ?_
  rintro i ⟨hi, htk⟩ ih
  simp only
  by_cases hle : i < a.length
  · have e4 : (i : Int) < a.length := by omega
    have e6 : (0 : Int) ≤ i := by omega
    have e7 : (i : Int) < b.length := by omega
    have hx : a[i]? = some a[i] := List.getElem?_eq_getElem hle
    have hy : b[i]? = some b[i] := List.getElem?_eq_getElem (by omega)
    generalize a[i] = x at hx
    generalize b[i] = y at hy
    by_cases hxy : x = y
    · subst hxy
      repeat' (first
    | refine AGood.seq ?_ | refine AGood.skip ?_ | refine AGood.block ?_ | refine AGood.inBlock ?_ | refine AGood.exit rfl ?_
    | ((first
    | (refine AGood.reg LL_ok [] [0, 1, 4, 5, 10, 12, 13, 14, 24] (by kernel_rfl) ?_; intro K hK)
    | (refine AGood.drawn LL_ok mixed [] 9 [0, 1, 2, 3, 4, 5, 6, 7, 8] [0, 1, 4, 5, 10, 12, 13, 14, 24] (by kernel_rfl) (by rfl) ?_; intro K hK)
    | (refine gd_split ?_ ?_ <;> intro hb <;> (try simp only [Bool.not_eq_true', Bool.not_eq_false', decide_eq_true_eq, decide_eq_false_iff_not, Bool.not_true, Bool.not_false, Bool.not_eq_true, Bool.not_eq_false] at hb) <;> (try simp only [hb]))
    | refine AGood.retF LL_ok [] [.tmp 4] rfl ?_
    | refine AGood.doneF LL_ok [] [.tmp 4] rfl ?_) <;> (try simp only [go_sem, Nat.reduceAdd, Nat.reduceSub, Nat.reduceMul, Nat.reduceLT, Nat.reduceLeDiff, Nat.reduceEqDiff, Nat.reduceDiv, Nat.reduceBEq, Int.reduceNeg, reduceCtorEq, ↓reduceIte, Int.reduceEq, Int.reduceLT, Int.reduceLE, Int.reduceToNat, Int.reduceAdd, Int.reduceSub, Int.reduceMul, Nat.reducePow, Nat.reduceBNe, e4, e6, e7, hx, hy, Option.some.injEq, forall_eq']))
    | (refine hK _ _ ?_; clear hK K; simp only [prune, List.map_cons, List.map_nil, lk_hit, lk_miss, lk_nil, ne_eq, Nat.reduceEqDiff, not_false_eq_true])
    | (refine AGood.condT ?_ rfl ?_; focus (simp only [ev_tmp, ev_const, oc_bool, lk_hit, lk_miss, ne_eq, Nat.reduceEqDiff, not_false_eq_true]; done))
    | (refine AGood.condF ?_ rfl ?_; focus (simp only [ev_tmp, ev_const, oc_bool, lk_hit, lk_miss, ne_eq, Nat.reduceEqDiff, not_false_eq_true]; done))
    | (refine AGood.cond (by simp only [ev_tmp, ev_const, oc_bool, lk_hit, lk_miss, ne_eq, Nat.reduceEqDiff, not_false_eq_true]; rfl) rfl ?_ ?_ <;> intro hc <;> (try simp only [Bool.not_eq_true', Bool.not_eq_false', decide_eq_true_eq, decide_eq_false_iff_not, Bool.not_true, Bool.not_false, Bool.not_eq_true, Bool.not_eq_false] at hc) <;> (try simp only [hc, decide_true, decide_false, Bool.not_true, Bool.not_false]))
    | (intro _)
    | (refine And.intro ?_ ?_))
      all_goals first | omega | skip
      refine AGood.prune [0, 1, 4, 12, 13] ?_; simp only [prune, List.map_cons, List.map_nil, lk_hit, lk_miss, lk_nil, ne_eq, Nat.reduceEqDiff, not_false_eq_true]
      exact (ih (i + 1) ⟨by omega, by rw [take_one hx, take_one hy, htk]⟩ (by omega)).cast rfl rfl
    · repeat' (first
    | refine AGood.seq ?_ | refine AGood.skip ?_ | refine AGood.block ?_ | refine AGood.inBlock ?_ | refine AGood.exit rfl ?_
    | ((first
    | (refine AGood.reg LL_ok [] [0, 1, 4, 5, 10, 12, 13, 14, 24] (by kernel_rfl) ?_; intro K hK)
    | (refine AGood.drawn LL_ok mixed [] 9 [0, 1, 2, 3, 4, 5, 6, 7, 8] [0, 1, 4, 5, 10, 12, 13, 14, 24] (by kernel_rfl) (by rfl) ?_; intro K hK)
    | (refine gd_split ?_ ?_ <;> intro hb <;> (try simp only [Bool.not_eq_true', Bool.not_eq_false', decide_eq_true_eq, decide_eq_false_iff_not, Bool.not_true, Bool.not_false, Bool.not_eq_true, Bool.not_eq_false] at hb) <;> (try simp only [hb]))
    | refine AGood.retF LL_ok [] [.tmp 4] rfl ?_
    | refine AGood.doneF LL_ok [] [.tmp 4] rfl ?_) <;> (try simp only [go_sem, Nat.reduceAdd, Nat.reduceSub, Nat.reduceMul, Nat.reduceLT, Nat.reduceLeDiff, Nat.reduceEqDiff, Nat.reduceDiv, Nat.reduceBEq, Int.reduceNeg, reduceCtorEq, ↓reduceIte, Int.reduceEq, Int.reduceLT, Int.reduceLE, Int.reduceToNat, Int.reduceAdd, Int.reduceSub, Int.reduceMul, Nat.reducePow, Nat.reduceBNe, e4, e6, e7, hx, hy, hxy, Option.some.injEq, forall_eq']))
    | (refine hK _ _ ?_; clear hK K; simp only [prune, List.map_cons, List.map_nil, lk_hit, lk_miss, lk_nil, ne_eq, Nat.reduceEqDiff, not_false_eq_true])
    | (refine AGood.condT ?_ rfl ?_; focus (simp only [ev_tmp, ev_const, oc_bool, lk_hit, lk_miss, ne_eq, Nat.reduceEqDiff, not_false_eq_true]; done))
    | (refine AGood.condF ?_ rfl ?_; focus (simp only [ev_tmp, ev_const, oc_bool, lk_hit, lk_miss, ne_eq, Nat.reduceEqDiff, not_false_eq_true]; done))
    | (refine AGood.cond (by simp only [ev_tmp, ev_const, oc_bool, lk_hit, lk_miss, ne_eq, Nat.reduceEqDiff, not_false_eq_true]; rfl) rfl ?_ ?_ <;> intro hc <;> (try simp only [Bool.not_eq_true', Bool.not_eq_false', decide_eq_true_eq, decide_eq_false_iff_not, Bool.not_true, Bool.not_false, Bool.not_eq_true, Bool.not_eq_false] at hc) <;> (try simp only [hc, decide_true, decide_false, Bool.not_true, Bool.not_false]))
    | (intro _)
    | (refine And.intro ?_ ?_))
      refine congrArg AVal.bool ?_
      simp only [Bool.false_eq, decide_eq_false_iff_not]
      rintro rfl
      rw [hx] at hy; exact hxy (Option.some.inj hy)
  · rw [List.take_of_length_le (by omega), List.take_of_length_le (by omega)] at htk
    have e4 : ¬ (i : Int) < a.length := by omega
    repeat' (first
    | refine AGood.seq ?_ | refine AGood.skip ?_ | refine AGood.block ?_ | refine AGood.inBlock ?_ | refine AGood.exit rfl ?_
    | ((first
    | (refine AGood.reg LL_ok [] [0, 1, 4, 5, 10, 12, 13, 14, 24] (by kernel_rfl) ?_; intro K hK)
    | (refine AGood.drawn LL_ok mixed [] 9 [0, 1, 2, 3, 4, 5, 6, 7, 8] [0, 1, 4, 5, 10, 12, 13, 14, 24] (by kernel_rfl) (by rfl) ?_; intro K hK)
    | (refine gd_split ?_ ?_ <;> intro hb <;> (try simp only [Bool.not_eq_true', Bool.not_eq_false', decide_eq_true_eq, decide_eq_false_iff_not, Bool.not_true, Bool.not_false, Bool.not_eq_true, Bool.not_eq_false] at hb) <;> (try simp only [hb]))
    | refine AGood.retF LL_ok [] [.tmp 4] rfl ?_
    | refine AGood.doneF LL_ok [] [.tmp 4] rfl ?_) <;> (try simp only [go_sem, Nat.reduceAdd, Nat.reduceSub, Nat.reduceMul, Nat.reduceLT, Nat.reduceLeDiff, Nat.reduceEqDiff, Nat.reduceDiv, Nat.reduceBEq, Int.reduceNeg, reduceCtorEq, ↓reduceIte, Int.reduceEq, Int.reduceLT, Int.reduceLE, Int.reduceToNat, Int.reduceAdd, Int.reduceSub, Int.reduceMul, Nat.reducePow, Nat.reduceBNe, e4]))
    | (refine hK _ _ ?_; clear hK K; simp only [prune, List.map_cons, List.map_nil, lk_hit, lk_miss, lk_nil, ne_eq, Nat.reduceEqDiff, not_false_eq_true])
    | (refine AGood.condT ?_ rfl ?_; focus (simp only [ev_tmp, ev_const, oc_bool, lk_hit, lk_miss, ne_eq, Nat.reduceEqDiff, not_false_eq_true]; done))
    | (refine AGood.condF ?_ rfl ?_; focus (simp only [ev_tmp, ev_const, oc_bool, lk_hit, lk_miss, ne_eq, Nat.reduceEqDiff, not_false_eq_true]; done))
    | (refine AGood.cond (by simp only [ev_tmp, ev_const, oc_bool, lk_hit, lk_miss, ne_eq, Nat.reduceEqDiff, not_false_eq_true]; rfl) rfl ?_ ?_ <;> intro hc <;> (try simp only [Bool.not_eq_true', Bool.not_eq_false', decide_eq_true_eq, decide_eq_false_iff_not, Bool.not_true, Bool.not_false, Bool.not_eq_true, Bool.not_eq_false] at hc) <;> (try simp only [hc, decide_true, decide_false, Bool.not_true, Bool.not_false]))
    | (intro _)
    | (refine And.intro ?_ ?_))
    simp [htk]
end Go.Rad
