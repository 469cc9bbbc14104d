/- Contracts: the document's reader of patterns: a byte, or an escape. -/
import Derived.Test.YtejdlelhlpnabaaDoorKC04d
set_option linter.all false
namespace Go.Rad
open Go Go.Proofs
set_option linter.all false
set_option maxRecDepth 20000
set_option maxHeartbeats 4000000

theorem hexS_le (c : Nat) : -1 ≤ hexS c ∧ hexS c ≤ 15 := by
  unfold hexS
  split
  · omega
  · split <;> omega
theorem one_c (s : ByteArray) (r : Rd) (g g1 : Nat) (hs : s.size ≤ 1000000) (hp : r.p < s.size) : ACall Tryd.prog 69 [.bx 1000 g 0] (rsto g g1 s r) fun v s' => v = .int .u8 (oneS s r).2 ∧ s' = rsto g g1 s (oneS s r).1 := by
  obtain ⟨p, ns, deep, e, wh⟩ := r
  simp only at hp
  simp only [rsto]
  have e0 : (0 : Int) ≤ p := by omega
  have e1 : (p : Int) < s.size := by omega
  have e2 : (p : Int) + 1 = ((p + 1 : Nat) : Int) := by omega
  by_cases h92 : bI s p = 92
  · have hends := ends_c s ⟨p + 1, ns, deep, e, wh⟩ g g1
    cases he : endsB s ⟨p + 1, ns, deep, e, wh⟩
    · rw [he] at hends
      simp only [endsB, Bool.or_eq_false_iff, decide_eq_false_iff_not, Decidable.not_not] at he
      obtain ⟨he1, rfl⟩ := he
      have e3 : (0 : Int) ≤ (p + 1 : Nat) := by omega
      have e4 : ((p + 1 : Nat) : Int) < s.size := by omega
      have e5 : ((p + 1 : Nat) : Int) + 1 = ((p + 2 : Nat) : Int) := by omega
      have e6 : ((p + 2 : Nat) : Int) + 2 = ((p + 4 : Nat) : Int) := by omega
      have e7 : ((p + 2 : Nat) : Int) + 1 = ((p + 3 : Nat) : Int) := by omega
      have hx1 := hexS_le (bt s (p + 2))
      have hx2 := hexS_le (bt s (p + 3))
      have hone : oneS s ⟨p, ns, deep, 0, wh⟩ = oneS s ⟨p, ns, deep, 0, wh⟩ := rfl
      conv at hone => lhs; unfold oneS
      have hen : endsB s ⟨p + 1, ns, deep, 0, wh⟩ = false := by simp [endsB]; omega
      simp only [Rd.next, h92, hen, ne_eq, not_true_eq_false, if_false, Bool.false_eq_true] at hone
      refine ACall.enter Tryd.func69 rfl (by kernel_rfl) (Nat.le_of_ble_eq_true rfl) ?_; simp only [initTm, Nat.reduceAdd]
      repeat' (first
    | refine AGood.seq ?_ | refine AGood.skip ?_ | refine AGood.block ?_ | refine AGood.inBlock ?_ | refine AGood.exit rfl ?_
    | ((first
    | (refine AGood.reg LL_ok [] [0, 2, 3, 4, 5, 6, 7, 29, 32, 56, 59, 62, 65, 78, 120, 126] (by kernel_rfl) ?_; intro K hK)
    | (refine AGood.at 1 ?_; refine AGood.drawn LL_ok mixed [] 10 [0, 1, 2, 3, 4, 5, 6, 7, 8, 9] [0, 2, 3, 4, 5, 6, 7, 29, 32, 56, 59, 62, 65, 78, 120, 126] (by kernel_rfl) (by rfl) ?_; intro K hK)
    | (refine AGood.at 9 ?_; refine AGood.drawn LL_ok mixed [] 10 [0, 1, 2, 3, 4, 5, 6, 7, 8, 9] [0, 2, 3, 4, 5, 6, 7, 29, 32, 56, 59, 62, 65, 78, 120, 126] (by kernel_rfl) (by rfl) ?_; intro K hK)
    | (refine AGood.at 18 ?_; refine AGood.drawn LL_ok mixed [] 11 [0, 1, 2, 3, 4, 5, 6, 7, 8, 9, 10] [0, 2, 3, 4, 5, 6, 7, 29, 32, 56, 59, 62, 65, 78, 120, 126] (by kernel_rfl) (by rfl) ?_; intro K hK)
    | (refine AGood.at 21 ?_; refine AGood.drawn LL_ok mixed [] 11 [0, 1, 2, 3, 4, 5, 6, 7, 8, 9, 10] [0, 2, 3, 4, 5, 6, 7, 29, 32, 56, 59, 62, 65, 78, 120, 126] (by kernel_rfl) (by rfl) ?_; intro K hK)
    | (refine AGood.at 22 ?_; refine AGood.drawn LL_ok mixed [] 12 [0, 1, 2, 3, 4, 5, 6, 7, 8, 9, 10, 11] [0, 2, 3, 4, 5, 6, 7, 29, 32, 56, 59, 62, 65, 78, 120, 126] (by kernel_rfl) (by rfl) ?_; intro K hK)
    | (refine ACall.mono hends ?_; rintro _ _ ⟨rfl, rfl⟩)
    | (refine ⟨_, ACall.alone (hex4uc _ (bt_le _ _)) rfl rfl rfl, ?_⟩)
    | (refine ACall.mono (ACall.alone special4uc rfl rfl rfl) ?_; rintro _ _ ⟨rfl, rfl⟩)
    | (refine ACall.mono (ACall.alone (in4uc _ _ (by decide)) rfl rfl rfl) ?_; rintro _ _ ⟨rfl, rfl⟩)
    | (refine ACall.mono (fail_c s ⟨p + 2, ns, deep, 0, wh⟩ g g1 _ _) ?_; rintro _ _ ⟨rfl, rfl⟩)
    | (refine ACall.mono (fail_c s ⟨p + 4, ns, deep, 0, wh⟩ g g1 _ _) ?_; rintro _ _ ⟨rfl, rfl⟩)
    | (refine gd_split ?_ ?_ <;> intro hb <;> (try simp only [Bool.not_eq_true', Bool.not_eq_false', decide_eq_true_eq, decide_eq_false_iff_not, Bool.not_true, Bool.not_false, Bool.not_eq_true, Bool.not_eq_false] at hb) <;> (try simp only [hb]))
    | refine AGood.retF LL_ok [1000, 1001] [.tmp 2] rfl ?_
    | refine AGood.doneF LL_ok [1000, 1001] [.tmp 2] rfl ?_) <;> (try simp only [go_sem, Nat.reduceAdd, Nat.reduceSub, Nat.reduceMul, Nat.reduceLT, Nat.reduceLeDiff, Nat.reduceEqDiff, Nat.reduceDiv, Nat.reduceBEq, Int.reduceNeg, reduceCtorEq, ↓reduceIte, Int.reduceEq, Int.reduceLT, Int.reduceLE, Int.reduceToNat, Int.reduceAdd, Int.reduceSub, Int.reduceMul, Nat.reducePow, Nat.reduceBNe, e0, e1, e2, e3, e4, e5, e6, e7, sbyte_bt, h92]))
    | (refine hK _ _ ?_; clear hK K; simp only [prune, List.map_cons, List.map_nil, lk_hit, lk_miss, lk_nil, ne_eq, Nat.reduceEqDiff, not_false_eq_true])
    | (refine AGood.condT ?_ rfl ?_; focus (simp only [ev_tmp, ev_const, oc_bool, lk_hit, lk_miss, ne_eq, Nat.reduceEqDiff, not_false_eq_true]; done))
    | (refine AGood.condF ?_ rfl ?_; focus (simp only [ev_tmp, ev_const, oc_bool, lk_hit, lk_miss, ne_eq, Nat.reduceEqDiff, not_false_eq_true]; done))
    | (refine AGood.cond (by simp only [ev_tmp, ev_const, oc_bool, lk_hit, lk_miss, ne_eq, Nat.reduceEqDiff, not_false_eq_true]; rfl) rfl ?_ ?_ <;> intro hc <;> (try simp only [Bool.not_eq_true', Bool.not_eq_false', decide_eq_true_eq, decide_eq_false_iff_not, Bool.not_true, Bool.not_false, Bool.not_eq_true, Bool.not_eq_false] at hc) <;> (try simp only [hc, decide_true, decide_false, Bool.not_true, Bool.not_false]))
    | (intro _)
    | (refine And.intro ?_ ?_))
      all_goals first | omega | skip
      all_goals (rw [← hone]; clear hone)
      all_goals first
        | (simp only [if_pos (show (s.size : Int) ≤ (p : Int) + 3 by omega)]; simp [*]; done)
        | (simp only [if_neg (show ¬ (s.size : Int) ≤ (p : Int) + 3 by omega)]; simp [*]; done)
        | (simp [*]; done)
    · rw [he] at hends
      refine ACall.enter Tryd.func69 rfl (by kernel_rfl) (Nat.le_of_ble_eq_true rfl) ?_; simp only [initTm, Nat.reduceAdd]
      repeat' (first
    | refine AGood.seq ?_ | refine AGood.skip ?_ | refine AGood.block ?_ | refine AGood.inBlock ?_ | refine AGood.exit rfl ?_
    | ((first
    | (refine AGood.reg LL_ok [] [0, 2, 3, 4, 5, 6, 7, 29, 32, 56, 59, 62, 65, 78, 120, 126] (by kernel_rfl) ?_; intro K hK)
    | (refine AGood.at 1 ?_; refine AGood.drawn LL_ok mixed [] 10 [0, 1, 2, 3, 4, 5, 6, 7, 8, 9] [0, 2, 3, 4, 5, 6, 7, 29, 32, 56, 59, 62, 65, 78, 120, 126] (by kernel_rfl) (by rfl) ?_; intro K hK)
    | (refine AGood.at 9 ?_; refine AGood.drawn LL_ok mixed [] 10 [0, 1, 2, 3, 4, 5, 6, 7, 8, 9] [0, 2, 3, 4, 5, 6, 7, 29, 32, 56, 59, 62, 65, 78, 120, 126] (by kernel_rfl) (by rfl) ?_; intro K hK)
    | (refine AGood.at 18 ?_; refine AGood.drawn LL_ok mixed [] 11 [0, 1, 2, 3, 4, 5, 6, 7, 8, 9, 10] [0, 2, 3, 4, 5, 6, 7, 29, 32, 56, 59, 62, 65, 78, 120, 126] (by kernel_rfl) (by rfl) ?_; intro K hK)
    | (refine AGood.at 21 ?_; refine AGood.drawn LL_ok mixed [] 11 [0, 1, 2, 3, 4, 5, 6, 7, 8, 9, 10] [0, 2, 3, 4, 5, 6, 7, 29, 32, 56, 59, 62, 65, 78, 120, 126] (by kernel_rfl) (by rfl) ?_; intro K hK)
    | (refine AGood.at 22 ?_; refine AGood.drawn LL_ok mixed [] 12 [0, 1, 2, 3, 4, 5, 6, 7, 8, 9, 10, 11] [0, 2, 3, 4, 5, 6, 7, 29, 32, 56, 59, 62, 65, 78, 120, 126] (by kernel_rfl) (by rfl) ?_; intro K hK)
    | (refine ACall.mono hends ?_; rintro _ _ ⟨rfl, rfl⟩)
    | (refine ACall.mono (fail_c s ⟨p + 1, ns, deep, e, wh⟩ g g1 _ _) ?_; rintro _ _ ⟨rfl, rfl⟩)
    | (refine gd_split ?_ ?_ <;> intro hb <;> (try simp only [Bool.not_eq_true', Bool.not_eq_false', decide_eq_true_eq, decide_eq_false_iff_not, Bool.not_true, Bool.not_false, Bool.not_eq_true, Bool.not_eq_false] at hb) <;> (try simp only [hb]))
    | refine AGood.retF LL_ok [1000, 1001] [.tmp 2] rfl ?_
    | refine AGood.doneF LL_ok [1000, 1001] [.tmp 2] rfl ?_) <;> (try simp only [go_sem, Nat.reduceAdd, Nat.reduceSub, Nat.reduceMul, Nat.reduceLT, Nat.reduceLeDiff, Nat.reduceEqDiff, Nat.reduceDiv, Nat.reduceBEq, Int.reduceNeg, reduceCtorEq, ↓reduceIte, Int.reduceEq, Int.reduceLT, Int.reduceLE, Int.reduceToNat, Int.reduceAdd, Int.reduceSub, Int.reduceMul, Nat.reducePow, Nat.reduceBNe, e0, e1, e2, sbyte_bt, h92]))
    | (refine hK _ _ ?_; clear hK K; simp only [prune, List.map_cons, List.map_nil, lk_hit, lk_miss, lk_nil, ne_eq, Nat.reduceEqDiff, not_false_eq_true])
    | (refine AGood.condT ?_ rfl ?_; focus (simp only [ev_tmp, ev_const, oc_bool, lk_hit, lk_miss, ne_eq, Nat.reduceEqDiff, not_false_eq_true]; done))
    | (refine AGood.condF ?_ rfl ?_; focus (simp only [ev_tmp, ev_const, oc_bool, lk_hit, lk_miss, ne_eq, Nat.reduceEqDiff, not_false_eq_true]; done))
    | (refine AGood.cond (by simp only [ev_tmp, ev_const, oc_bool, lk_hit, lk_miss, ne_eq, Nat.reduceEqDiff, not_false_eq_true]; rfl) rfl ?_ ?_ <;> intro hc <;> (try simp only [Bool.not_eq_true', Bool.not_eq_false', decide_eq_true_eq, decide_eq_false_iff_not, Bool.not_true, Bool.not_false, Bool.not_eq_true, Bool.not_eq_false] at hc) <;> (try simp only [hc, decide_true, decide_false, Bool.not_true, Bool.not_false]))
    | (intro _)
    | (refine And.intro ?_ ?_))
      all_goals first | omega | (unfold bigLen; omega) | exact ⟨_, _, ⟨rfl, rfl⟩, rfl⟩ | exact ⟨_, rfl⟩ | (rename_i hy; simp only [List.mem_singleton] at hy; subst hy; rfl) | skip
      all_goals simp [oneS, h92, he, Rd.next]
  · refine ACall.enter Tryd.func69 rfl (by kernel_rfl) (Nat.le_of_ble_eq_true rfl) ?_; simp only [initTm, Nat.reduceAdd]
    repeat' (first
    | refine AGood.seq ?_ | refine AGood.skip ?_ | refine AGood.block ?_ | refine AGood.inBlock ?_ | refine AGood.exit rfl ?_
    | ((first
    | (refine AGood.reg LL_ok [] [0, 2, 3, 4, 5, 6, 7, 29, 32, 56, 59, 62, 65, 78, 120, 126] (by kernel_rfl) ?_; intro K hK)
    | (refine AGood.at 1 ?_; refine AGood.drawn LL_ok mixed [] 10 [0, 1, 2, 3, 4, 5, 6, 7, 8, 9] [0, 2, 3, 4, 5, 6, 7, 29, 32, 56, 59, 62, 65, 78, 120, 126] (by kernel_rfl) (by rfl) ?_; intro K hK)
    | (refine AGood.at 9 ?_; refine AGood.drawn LL_ok mixed [] 10 [0, 1, 2, 3, 4, 5, 6, 7, 8, 9] [0, 2, 3, 4, 5, 6, 7, 29, 32, 56, 59, 62, 65, 78, 120, 126] (by kernel_rfl) (by rfl) ?_; intro K hK)
    | (refine AGood.at 18 ?_; refine AGood.drawn LL_ok mixed [] 11 [0, 1, 2, 3, 4, 5, 6, 7, 8, 9, 10] [0, 2, 3, 4, 5, 6, 7, 29, 32, 56, 59, 62, 65, 78, 120, 126] (by kernel_rfl) (by rfl) ?_; intro K hK)
    | (refine AGood.at 21 ?_; refine AGood.drawn LL_ok mixed [] 11 [0, 1, 2, 3, 4, 5, 6, 7, 8, 9, 10] [0, 2, 3, 4, 5, 6, 7, 29, 32, 56, 59, 62, 65, 78, 120, 126] (by kernel_rfl) (by rfl) ?_; intro K hK)
    | (refine AGood.at 22 ?_; refine AGood.drawn LL_ok mixed [] 12 [0, 1, 2, 3, 4, 5, 6, 7, 8, 9, 10, 11] [0, 2, 3, 4, 5, 6, 7, 29, 32, 56, 59, 62, 65, 78, 120, 126] (by kernel_rfl) (by rfl) ?_; intro K hK)
    | (refine gd_split ?_ ?_ <;> intro hb <;> (try simp only [Bool.not_eq_true', Bool.not_eq_false', decide_eq_true_eq, decide_eq_false_iff_not, Bool.not_true, Bool.not_false, Bool.not_eq_true, Bool.not_eq_false] at hb) <;> (try simp only [hb]))
    | refine AGood.retF LL_ok [1000, 1001] [.tmp 2] rfl ?_
    | refine AGood.doneF LL_ok [1000, 1001] [.tmp 2] rfl ?_) <;> (try simp only [go_sem, Nat.reduceAdd, Nat.reduceSub, Nat.reduceMul, Nat.reduceLT, Nat.reduceLeDiff, Nat.reduceEqDiff, Nat.reduceDiv, Nat.reduceBEq, Int.reduceNeg, reduceCtorEq, ↓reduceIte, Int.reduceEq, Int.reduceLT, Int.reduceLE, Int.reduceToNat, Int.reduceAdd, Int.reduceSub, Int.reduceMul, Nat.reducePow, Nat.reduceBNe, e0, e1, e2, sbyte_bt, h92]))
    | (refine hK _ _ ?_; clear hK K; simp only [prune, List.map_cons, List.map_nil, lk_hit, lk_miss, lk_nil, ne_eq, Nat.reduceEqDiff, not_false_eq_true])
    | (refine AGood.condT ?_ rfl ?_; focus (simp only [ev_tmp, ev_const, oc_bool, lk_hit, lk_miss, ne_eq, Nat.reduceEqDiff, not_false_eq_true]; done))
    | (refine AGood.condF ?_ rfl ?_; focus (simp only [ev_tmp, ev_const, oc_bool, lk_hit, lk_miss, ne_eq, Nat.reduceEqDiff, not_false_eq_true]; done))
    | (refine AGood.cond (by simp only [ev_tmp, ev_const, oc_bool, lk_hit, lk_miss, ne_eq, Nat.reduceEqDiff, not_false_eq_true]; rfl) rfl ?_ ?_ <;> intro hc <;> (try simp only [Bool.not_eq_true', Bool.not_eq_false', decide_eq_true_eq, decide_eq_false_iff_not, Bool.not_true, Bool.not_false, Bool.not_eq_true, Bool.not_eq_false] at hc) <;> (try simp only [hc, decide_true, decide_false, Bool.not_true, Bool.not_false]))
    | (intro _)
    | (refine And.intro ?_ ?_))
    all_goals first | omega | (unfold bigLen; omega) | exact ⟨_, _, ⟨rfl, rfl⟩, rfl⟩ | exact ⟨_, rfl⟩ | (rename_i hy; simp only [List.mem_singleton] at hy; subst hy; rfl) | skip
    all_goals simp [oneS, h92, Rd.next]

theorem member_c (s : ByteArray) (r : Rd) (g g1 : Nat) (hs : s.size ≤ 1000000) : ACall Tryd.prog 71 [.bx 1000 g 0] (rsto g g1 s r) fun v s' => v = .int .u8 (memberS s r).2 ∧ s' = rsto g g1 s (memberS s r).1 := by
  have hends := ends_c s r g g1
  obtain ⟨p, ns, deep, e, wh⟩ := r
  cases he : endsB s ⟨p, ns, deep, e, wh⟩
  · rw [he] at hends
    have he' := he
    simp only [endsB, Bool.or_eq_false_iff, decide_eq_false_iff_not, Decidable.not_not] at he'
    obtain ⟨he1, rfl⟩ := he'
    have e0 : (0 : Int) ≤ p := by omega
    have e1 : (p : Int) < s.size := by omega
    have hone := one_c s ⟨p, ns, deep, 0, wh⟩ g g1 hs (by simp only; omega)
    have hin := in4uc (bt s p) markS (by decide)
    have hmm : memberS s ⟨p, ns, deep, 0, wh⟩ = if inS (bt s p) markS = true then (failS ⟨p, ns, deep, 0, wh⟩ 44 p, 0) else oneS s ⟨p, ns, deep, 0, wh⟩ := by simp [memberS, he]
    rw [hmm]
    cases hm : inS (bt s p) markS
    · rw [hm] at hin
      simp only [Bool.false_eq_true, if_false]
      simp only [rsto] at hends hone ⊢
      refine ACall.enter Tryd.func71 rfl (by kernel_rfl) (Nat.le_of_ble_eq_true rfl) ?_; simp only [initTm, Nat.reduceAdd]
      repeat' (first
    | refine AGood.seq ?_ | refine AGood.skip ?_ | refine AGood.block ?_ | refine AGood.inBlock ?_ | refine AGood.exit rfl ?_
    | ((first
    | (refine AGood.reg LL_ok [] [0, 2, 4, 21] (by kernel_rfl) ?_; intro K hK)
    | (refine AGood.drawn LL_ok mixed [] 10 [0, 1, 2, 3, 4, 5, 6, 7, 8, 9] [0, 2, 4, 21] (by kernel_rfl) (by rfl) ?_; intro K hK)
    | (refine ACall.mono hends ?_; rintro _ _ ⟨rfl, rfl⟩)
    | (refine ⟨_, ACall.alone hin rfl rfl rfl, ?_⟩)
    | (refine ACall.mono hone ?_; rintro _ _ ⟨rfl, rfl⟩)
    | (refine gd_split ?_ ?_ <;> intro hb <;> (try simp only [Bool.not_eq_true', Bool.not_eq_false', decide_eq_true_eq, decide_eq_false_iff_not, Bool.not_true, Bool.not_false, Bool.not_eq_true, Bool.not_eq_false] at hb) <;> (try simp only [hb]))
    | refine AGood.retF LL_ok [1000, 1001] [.tmp 2] rfl ?_
    | refine AGood.doneF LL_ok [1000, 1001] [.tmp 2] rfl ?_) <;> (try simp only [go_sem, Nat.reduceAdd, Nat.reduceSub, Nat.reduceMul, Nat.reduceLT, Nat.reduceLeDiff, Nat.reduceEqDiff, Nat.reduceDiv, Nat.reduceBEq, Int.reduceNeg, reduceCtorEq, ↓reduceIte, Int.reduceEq, Int.reduceLT, Int.reduceLE, Int.reduceToNat, Int.reduceAdd, Int.reduceSub, Int.reduceMul, Nat.reducePow, Nat.reduceBNe, e0, e1, sbyte_bt]))
    | (refine hK _ _ ?_; clear hK K; simp only [prune, List.map_cons, List.map_nil, lk_hit, lk_miss, lk_nil, ne_eq, Nat.reduceEqDiff, not_false_eq_true])
    | (refine AGood.condT ?_ rfl ?_; focus (simp only [ev_tmp, ev_const, oc_bool, lk_hit, lk_miss, ne_eq, Nat.reduceEqDiff, not_false_eq_true]; done))
    | (refine AGood.condF ?_ rfl ?_; focus (simp only [ev_tmp, ev_const, oc_bool, lk_hit, lk_miss, ne_eq, Nat.reduceEqDiff, not_false_eq_true]; done))
    | (refine AGood.cond (by simp only [ev_tmp, ev_const, oc_bool, lk_hit, lk_miss, ne_eq, Nat.reduceEqDiff, not_false_eq_true]; rfl) rfl ?_ ?_ <;> intro hc <;> (try simp only [Bool.not_eq_true', Bool.not_eq_false', decide_eq_true_eq, decide_eq_false_iff_not, Bool.not_true, Bool.not_false, Bool.not_eq_true, Bool.not_eq_false] at hc) <;> (try simp only [hc, decide_true, decide_false, Bool.not_true, Bool.not_false]))
    | (intro _)
    | (refine And.intro ?_ ?_))
      all_goals first | omega | (unfold bigLen; omega) | exact ⟨_, _, ⟨rfl, rfl⟩, rfl⟩ | exact ⟨_, rfl⟩ | (rename_i hy; simp only [List.mem_singleton] at hy; subst hy; rfl) | skip
    · rw [hm] at hin
      simp only [if_true]
      simp only [rsto] at hends ⊢
      refine ACall.enter Tryd.func71 rfl (by kernel_rfl) (Nat.le_of_ble_eq_true rfl) ?_; simp only [initTm, Nat.reduceAdd]
      repeat' (first
    | refine AGood.seq ?_ | refine AGood.skip ?_ | refine AGood.block ?_ | refine AGood.inBlock ?_ | refine AGood.exit rfl ?_
    | ((first
    | (refine AGood.reg LL_ok [] [0, 2, 4, 21] (by kernel_rfl) ?_; intro K hK)
    | (refine AGood.drawn LL_ok mixed [] 10 [0, 1, 2, 3, 4, 5, 6, 7, 8, 9] [0, 2, 4, 21] (by kernel_rfl) (by rfl) ?_; intro K hK)
    | (refine ACall.mono hends ?_; rintro _ _ ⟨rfl, rfl⟩)
    | (refine ⟨_, ACall.alone hin rfl rfl rfl, ?_⟩)
    | (refine ACall.mono (fail_c s ⟨p, ns, deep, 0, wh⟩ g g1 _ _) ?_; rintro _ _ ⟨rfl, rfl⟩)
    | (refine gd_split ?_ ?_ <;> intro hb <;> (try simp only [Bool.not_eq_true', Bool.not_eq_false', decide_eq_true_eq, decide_eq_false_iff_not, Bool.not_true, Bool.not_false, Bool.not_eq_true, Bool.not_eq_false] at hb) <;> (try simp only [hb]))
    | refine AGood.retF LL_ok [1000, 1001] [.tmp 2] rfl ?_
    | refine AGood.doneF LL_ok [1000, 1001] [.tmp 2] rfl ?_) <;> (try simp only [go_sem, Nat.reduceAdd, Nat.reduceSub, Nat.reduceMul, Nat.reduceLT, Nat.reduceLeDiff, Nat.reduceEqDiff, Nat.reduceDiv, Nat.reduceBEq, Int.reduceNeg, reduceCtorEq, ↓reduceIte, Int.reduceEq, Int.reduceLT, Int.reduceLE, Int.reduceToNat, Int.reduceAdd, Int.reduceSub, Int.reduceMul, Nat.reducePow, Nat.reduceBNe, e0, e1, sbyte_bt]))
    | (refine hK _ _ ?_; clear hK K; simp only [prune, List.map_cons, List.map_nil, lk_hit, lk_miss, lk_nil, ne_eq, Nat.reduceEqDiff, not_false_eq_true])
    | (refine AGood.condT ?_ rfl ?_; focus (simp only [ev_tmp, ev_const, oc_bool, lk_hit, lk_miss, ne_eq, Nat.reduceEqDiff, not_false_eq_true]; done))
    | (refine AGood.condF ?_ rfl ?_; focus (simp only [ev_tmp, ev_const, oc_bool, lk_hit, lk_miss, ne_eq, Nat.reduceEqDiff, not_false_eq_true]; done))
    | (refine AGood.cond (by simp only [ev_tmp, ev_const, oc_bool, lk_hit, lk_miss, ne_eq, Nat.reduceEqDiff, not_false_eq_true]; rfl) rfl ?_ ?_ <;> intro hc <;> (try simp only [Bool.not_eq_true', Bool.not_eq_false', decide_eq_true_eq, decide_eq_false_iff_not, Bool.not_true, Bool.not_false, Bool.not_eq_true, Bool.not_eq_false] at hc) <;> (try simp only [hc, decide_true, decide_false, Bool.not_true, Bool.not_false]))
    | (intro _)
    | (refine And.intro ?_ ?_))
      all_goals first | omega | (unfold bigLen; omega) | exact ⟨_, _, ⟨rfl, rfl⟩, rfl⟩ | exact ⟨_, rfl⟩ | (rename_i hy; simp only [List.mem_singleton] at hy; subst hy; rfl) | skip
  · rw [he] at hends
    have hmm : memberS s ⟨p, ns, deep, e, wh⟩ = (failS ⟨p, ns, deep, e, wh⟩ 40 s.size, 0) := by simp [memberS, he]
    rw [hmm]
    simp only [rsto] at hends ⊢
    refine ACall.enter Tryd.func71 rfl (by kernel_rfl) (Nat.le_of_ble_eq_true rfl) ?_; simp only [initTm, Nat.reduceAdd]
    repeat' (first
    | refine AGood.seq ?_ | refine AGood.skip ?_ | refine AGood.block ?_ | refine AGood.inBlock ?_ | refine AGood.exit rfl ?_
    | ((first
    | (refine AGood.reg LL_ok [] [0, 2, 4, 21] (by kernel_rfl) ?_; intro K hK)
    | (refine AGood.drawn LL_ok mixed [] 10 [0, 1, 2, 3, 4, 5, 6, 7, 8, 9] [0, 2, 4, 21] (by kernel_rfl) (by rfl) ?_; intro K hK)
    | (refine ACall.mono hends ?_; rintro _ _ ⟨rfl, rfl⟩)
    | (refine ACall.mono (fail_c s ⟨p, ns, deep, e, wh⟩ g g1 _ _) ?_; rintro _ _ ⟨rfl, rfl⟩)
    | (refine gd_split ?_ ?_ <;> intro hb <;> (try simp only [Bool.not_eq_true', Bool.not_eq_false', decide_eq_true_eq, decide_eq_false_iff_not, Bool.not_true, Bool.not_false, Bool.not_eq_true, Bool.not_eq_false] at hb) <;> (try simp only [hb]))
    | refine AGood.retF LL_ok [1000, 1001] [.tmp 2] rfl ?_
    | refine AGood.doneF LL_ok [1000, 1001] [.tmp 2] rfl ?_) <;> (try simp only [go_sem, Nat.reduceAdd, Nat.reduceSub, Nat.reduceMul, Nat.reduceLT, Nat.reduceLeDiff, Nat.reduceEqDiff, Nat.reduceDiv, Nat.reduceBEq, Int.reduceNeg, reduceCtorEq, ↓reduceIte, Int.reduceEq, Int.reduceLT, Int.reduceLE, Int.reduceToNat, Int.reduceAdd, Int.reduceSub, Int.reduceMul, Nat.reducePow, Nat.reduceBNe]))
    | (refine hK _ _ ?_; clear hK K; simp only [prune, List.map_cons, List.map_nil, lk_hit, lk_miss, lk_nil, ne_eq, Nat.reduceEqDiff, not_false_eq_true])
    | (refine AGood.condT ?_ rfl ?_; focus (simp only [ev_tmp, ev_const, oc_bool, lk_hit, lk_miss, ne_eq, Nat.reduceEqDiff, not_false_eq_true]; done))
    | (refine AGood.condF ?_ rfl ?_; focus (simp only [ev_tmp, ev_const, oc_bool, lk_hit, lk_miss, ne_eq, Nat.reduceEqDiff, not_false_eq_true]; done))
    | (refine AGood.cond (by simp only [ev_tmp, ev_const, oc_bool, lk_hit, lk_miss, ne_eq, Nat.reduceEqDiff, not_false_eq_true]; rfl) rfl ?_ ?_ <;> intro hc <;> (try simp only [Bool.not_eq_true', Bool.not_eq_false', decide_eq_true_eq, decide_eq_false_iff_not, Bool.not_true, Bool.not_false, Bool.not_eq_true, Bool.not_eq_false] at hc) <;> (try simp only [hc, decide_true, decide_false, Bool.not_true, Bool.not_false]))
    | (intro _)
    | (refine And.intro ?_ ?_))
end Go.Rad
