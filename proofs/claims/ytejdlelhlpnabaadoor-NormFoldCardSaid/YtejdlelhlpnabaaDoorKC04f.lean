/- Contracts: the document's reader of patterns: a name in braces. -/
import Derived.Test.YtejdlelhlpnabaaDoorKC04e
set_option linter.all false
namespace Go.Rad
open Go Go.Proofs
set_option linter.all false
set_option maxRecDepth 20000
set_option maxHeartbeats 4000000

theorem nameR_c (s : ByteArray) (hs : s.size ≤ 1000000) (F : Nat) (r q : Rd) (v : Int) (g g1 : Nat) (hp : r.p < s.size) (h : nameR s F r = some (q, v)) :
    ACall Tryd.prog 66 [.bx 1000 g 0] (rsto g g1 s r) fun x s' => x = .int .i64 v ∧ ∃ h1, s' = rsto g h1 s q := by
  obtain ⟨p, ns, deep, e, wh⟩ := r
  simp only at hp
  unfold nameR at h
  cases hl : nameLoop s F (Rd.next ⟨p, ns, deep, e, wh⟩ 1) with
  | none => rw [hl] at h; cases h
  | some w =>
    rw [hl] at h
    simp only at h
    obtain ⟨f1, f2, f3, f4, f5⟩ := nameLoop_facts hl
    simp only [Rd.next] at f1 f2 f3 f4 f5 hl
    obtain ⟨wp, wn, wd, we, ww⟩ := w
    simp only at f1 f2 f3 f4 f5 h
    subst f1 f2 f3 f4
    simp only [rsto]
    have e2 : (p : Int) + 1 = ((p + 1 : Nat) : Int) := by omega
    refine ACall.enter Tryd.func66 rfl (by kernel_rfl) (Nat.le_of_ble_eq_true rfl) ?_; simp only [initTm, Nat.reduceAdd]
    repeat' (first
    | refine AGood.seq ?_ | refine AGood.skip ?_ | refine AGood.block ?_ | refine AGood.inBlock ?_ | refine AGood.exit rfl ?_
    | ((first
    | (refine AGood.reg LL_ok [] [0, 2, 3, 29, 38, 57] (by kernel_rfl) ?_; intro K hK)
    | (refine AGood.at 3 ?_; refine AGood.drawn LL_ok mixed [] 15 [0, 1, 2, 3, 4, 5, 6, 7, 8, 9, 10, 11, 12, 13, 14] [0, 2, 3, 29, 38, 57] (by kernel_rfl) (by rfl) ?_; intro K hK)
    | (refine AGood.at 8 ?_; refine AGood.drawn LL_ok mixed [] 12 [0, 1, 2, 3, 4, 5, 6, 7, 8, 9, 10, 11] [0, 2, 3, 29, 38, 57] (by kernel_rfl) (by rfl) ?_; intro K hK)
    | (refine AGood.at 12 ?_; refine AGood.drawn LL_ok mixed [] 13 [0, 1, 2, 3, 4, 5, 6, 7, 8, 9, 10, 11, 12, 13, 14] [0, 2, 3, 29, 38, 57] (by kernel_rfl) (by rfl) ?_; intro K hK)
    | (refine gd_split ?_ ?_ <;> intro hb <;> (try simp only [Bool.not_eq_true', Bool.not_eq_false', decide_eq_true_eq, decide_eq_false_iff_not, Bool.not_true, Bool.not_false, Bool.not_eq_true, Bool.not_eq_false] at hb) <;> (try simp only [hb]))
    | refine AGood.retF LL_ok [1000, 1001] [.tmp 2] rfl ?_
    | refine AGood.doneF LL_ok [1000, 1001] [.tmp 2] rfl ?_) <;> (try simp only [go_sem, Nat.reduceAdd, Nat.reduceSub, Nat.reduceMul, Nat.reduceLT, Nat.reduceLeDiff, Nat.reduceEqDiff, Nat.reduceDiv, Nat.reduceBEq, Int.reduceNeg, reduceCtorEq, ↓reduceIte, Int.reduceEq, Int.reduceLT, Int.reduceLE, Int.reduceToNat, Int.reduceAdd, Int.reduceSub, Int.reduceMul, Nat.reducePow, Nat.reduceBNe, e2]))
    | (refine hK _ _ ?_; clear hK K; simp only [prune, List.map_cons, List.map_nil, lk_hit, lk_miss, lk_nil, ne_eq, Nat.reduceEqDiff, not_false_eq_true])
    | (refine AGood.condT ?_ rfl ?_; focus (simp only [ev_tmp, ev_const, oc_bool, lk_hit, lk_miss, ne_eq, Nat.reduceEqDiff, not_false_eq_true]; done))
    | (refine AGood.condF ?_ rfl ?_; focus (simp only [ev_tmp, ev_const, oc_bool, lk_hit, lk_miss, ne_eq, Nat.reduceEqDiff, not_false_eq_true]; done))
    | (refine AGood.cond (by simp only [ev_tmp, ev_const, oc_bool, lk_hit, lk_miss, ne_eq, Nat.reduceEqDiff, not_false_eq_true]; rfl) rfl ?_ ?_ <;> intro hc <;> (try simp only [Bool.not_eq_true', Bool.not_eq_false', decide_eq_true_eq, decide_eq_false_iff_not, Bool.not_true, Bool.not_false, Bool.not_eq_true, Bool.not_eq_false] at hc) <;> (try simp only [hc, decide_true, decide_false, Bool.not_true, Bool.not_false]))
    | (intro _)
    | (refine And.intro ?_ ?_))
    all_goals first | omega | (unfold bigLen; omega) | exact ⟨_, _, ⟨rfl, rfl⟩, rfl⟩ | exact ⟨_, rfl⟩ | (rename_i hy; simp only [List.mem_singleton] at hy; subst hy; rfl) | skip
    refine AGood.prune [0, 3] ?_; simp only [prune, List.map_cons, List.map_nil, lk_hit, lk_miss, lk_nil, ne_eq, Nat.reduceEqDiff, not_false_eq_true]
    refine AGood.loopInv (α := Nat × Nat) (fun x => ([(0, .bx 1000 g 0), (3, .int .i64 (p + 1 : Nat))], rsto g g1 s ⟨x.2, wn, wd, we, ww⟩)) (fun x => p + 1 ≤ x.2 ∧ x.2 ≤ s.size ∧ nameLoop s x.1 ⟨x.2, wn, wd, we, ww⟩ = some ⟨wp, wn, wd, we, ww⟩) (fun x => x.1) (F, p + 1) ⟨Nat.le_refl _, hp, hl⟩ rfl ?_
    rintro ⟨f, c⟩ ⟨hc1, hc2, hlo⟩ ih
    simp only at hc1 hc2 hlo ih ⊢
    have hends := ends_c s ⟨c, wn, wd, we, ww⟩ g g1
    simp only [rsto] at hends ih ⊢
    cases f with
    | zero => simp [nameLoop] at hlo
    | succ f =>
      rw [nameLoop] at hlo
      cases he : endsB s ⟨c, wn, wd, we, ww⟩
      · rw [he] at hends
        have he' := he
        simp only [endsB, Bool.or_eq_false_iff, decide_eq_false_iff_not, Decidable.not_not] at he'
        obtain ⟨he1, rfl⟩ := he'
        have e0 : (0 : Int) ≤ c := by omega
        have e1 : (c : Int) < s.size := by omega
        have e4 : (c : Int) + 1 = ((c + 1 : Nat) : Int) := by omega
        by_cases h125 : bI s c = 125
        · rw [if_neg (by simp [h125])] at hlo
          simp only [Option.some.injEq, Rd.mk.injEq, and_true] at hlo
          subst hlo
          have e5 : ((c + 1 : Nat) : Int) - 1 = (c : Nat) := by omega
          have e6 : (0 : Int) ≤ (p + 1 : Nat) := by omega
          have e7 : p + 1 ≤ c := hc1
          have e8 : c ≤ s.size := hc2
          have hex : (s.extract (p + 1) c).size ≤ maxLen := by simp only [ByteArray.size_extract]; unfold maxLen; omega
          have hnm := name4uc (s.extract (p + 1) c) hex
          split at h
          · cases h
          · rename_i hns
            rw [he] at h
            simp only [Bool.false_eq_true, if_false] at h
            cases hok : nameOk (s.extract (p + 1) c)
            · rw [hok] at hnm h
              simp only [if_true, Option.some.injEq, Prod.mk.injEq] at h
              obtain ⟨rfl, rfl⟩ := h
              have hfail := fail_c s ⟨c, wn, wd, 0, ww⟩ g g1 41 (p + 1 : Nat)
              simp only [rsto] at hfail
              repeat' (first
    | refine AGood.seq ?_ | refine AGood.skip ?_ | refine AGood.block ?_ | refine AGood.inBlock ?_ | refine AGood.exit rfl ?_
    | ((first
    | (refine AGood.reg LL_ok [] [0, 2, 3, 29, 38, 57] (by kernel_rfl) ?_; intro K hK)
    | (refine AGood.at 3 ?_; refine AGood.drawn LL_ok mixed [] 15 [0, 1, 2, 3, 4, 5, 6, 7, 8, 9, 10, 11, 12, 13, 14] [0, 2, 3, 29, 38, 57] (by kernel_rfl) (by rfl) ?_; intro K hK)
    | (refine AGood.at 8 ?_; refine AGood.drawn LL_ok mixed [] 12 [0, 1, 2, 3, 4, 5, 6, 7, 8, 9, 10, 11] [0, 2, 3, 29, 38, 57] (by kernel_rfl) (by rfl) ?_; intro K hK)
    | (refine AGood.at 12 ?_; refine AGood.drawn LL_ok mixed [] 13 [0, 1, 2, 3, 4, 5, 6, 7, 8, 9, 10, 11, 12, 13, 14] [0, 2, 3, 29, 38, 57] (by kernel_rfl) (by rfl) ?_; intro K hK)
    | (refine ⟨_, hends, ?_⟩)
    | (refine ACall.mono hends ?_; rintro _ _ ⟨rfl, rfl⟩)
    | (refine ⟨_, ACall.alone hnm rfl rfl rfl, ?_⟩)
    | (refine ACall.mono hfail ?_; rintro _ _ ⟨rfl, rfl⟩)
    | (refine gd_split ?_ ?_ <;> intro hb <;> (try simp only [Bool.not_eq_true', Bool.not_eq_false', decide_eq_true_eq, decide_eq_false_iff_not, Bool.not_true, Bool.not_false, Bool.not_eq_true, Bool.not_eq_false] at hb) <;> (try simp only [hb]))
    | refine AGood.retF LL_ok [1000, 1001] [.tmp 2] rfl ?_
    | refine AGood.doneF LL_ok [1000, 1001] [.tmp 2] rfl ?_) <;> (try simp only [go_sem, Nat.reduceAdd, Nat.reduceSub, Nat.reduceMul, Nat.reduceLT, Nat.reduceLeDiff, Nat.reduceEqDiff, Nat.reduceDiv, Nat.reduceBEq, Int.reduceNeg, reduceCtorEq, ↓reduceIte, Int.reduceEq, Int.reduceLT, Int.reduceLE, Int.reduceToNat, Int.reduceAdd, Int.reduceSub, Int.reduceMul, Nat.reducePow, Nat.reduceBNe, e0, e1, e4, e5, e6, e7, e8, h125, sbyte_bt, intArg]))
    | (refine hK _ _ ?_; clear hK K; simp only [prune, List.map_cons, List.map_nil, lk_hit, lk_miss, lk_nil, ne_eq, Nat.reduceEqDiff, not_false_eq_true])
    | (refine AGood.condT ?_ rfl ?_; focus (simp only [ev_tmp, ev_const, oc_bool, lk_hit, lk_miss, ne_eq, Nat.reduceEqDiff, not_false_eq_true]; done))
    | (refine AGood.condF ?_ rfl ?_; focus (simp only [ev_tmp, ev_const, oc_bool, lk_hit, lk_miss, ne_eq, Nat.reduceEqDiff, not_false_eq_true]; done))
    | (refine AGood.cond (by simp only [ev_tmp, ev_const, oc_bool, lk_hit, lk_miss, ne_eq, Nat.reduceEqDiff, not_false_eq_true]; rfl) rfl ?_ ?_ <;> intro hc <;> (try simp only [Bool.not_eq_true', Bool.not_eq_false', decide_eq_true_eq, decide_eq_false_iff_not, Bool.not_true, Bool.not_false, Bool.not_eq_true, Bool.not_eq_false] at hc) <;> (try simp only [hc, decide_true, decide_false, Bool.not_true, Bool.not_false]))
    | (intro _)
    | (refine And.intro ?_ ?_))
              all_goals first | omega | (unfold bigLen; omega) | exact ⟨_, _, ⟨rfl, rfl⟩, rfl⟩ | exact ⟨_, rfl⟩ | (rename_i hy; simp only [List.mem_singleton] at hy; subst hy; rfl) | skip
            · rw [hok] at hnm h
              simp only [Bool.true_eq_false, if_false, Option.some.injEq, Prod.mk.injEq] at h
              obtain ⟨rfl, rfl⟩ := h
              have hput := putR_c s ⟨c + 1, wn, wd, 0, ww⟩ g g1 ⟨6, ISet.none, [], 0, 0, s.extract (p + 1) c⟩ true (by simp only; omega)
              simp only [rsto, Node.cellsF] at hput
              repeat' (first
    | refine AGood.seq ?_ | refine AGood.skip ?_ | refine AGood.block ?_ | refine AGood.inBlock ?_ | refine AGood.exit rfl ?_
    | ((first
    | (refine AGood.reg LL_ok [] [0, 2, 3, 29, 38, 57] (by kernel_rfl) ?_; intro K hK)
    | (refine AGood.at 3 ?_; refine AGood.drawn LL_ok mixed [] 15 [0, 1, 2, 3, 4, 5, 6, 7, 8, 9, 10, 11, 12, 13, 14] [0, 2, 3, 29, 38, 57] (by kernel_rfl) (by rfl) ?_; intro K hK)
    | (refine AGood.at 8 ?_; refine AGood.drawn LL_ok mixed [] 12 [0, 1, 2, 3, 4, 5, 6, 7, 8, 9, 10, 11] [0, 2, 3, 29, 38, 57] (by kernel_rfl) (by rfl) ?_; intro K hK)
    | (refine AGood.at 12 ?_; refine AGood.drawn LL_ok mixed [] 13 [0, 1, 2, 3, 4, 5, 6, 7, 8, 9, 10, 11, 12, 13, 14] [0, 2, 3, 29, 38, 57] (by kernel_rfl) (by rfl) ?_; intro K hK)
    | (refine ⟨_, hends, ?_⟩)
    | (refine ACall.mono hends ?_; rintro _ _ ⟨rfl, rfl⟩)
    | (refine ⟨_, ACall.alone hnm rfl rfl rfl, ?_⟩)
    | (refine ACall.mono hput ?_; rintro _ _ ⟨rfl, h1, rfl⟩)
    | (refine gd_split ?_ ?_ <;> intro hb <;> (try simp only [Bool.not_eq_true', Bool.not_eq_false', decide_eq_true_eq, decide_eq_false_iff_not, Bool.not_true, Bool.not_false, Bool.not_eq_true, Bool.not_eq_false] at hb) <;> (try simp only [hb]))
    | refine AGood.retF LL_ok [1000, 1001] [.tmp 2] rfl ?_
    | refine AGood.doneF LL_ok [1000, 1001] [.tmp 2] rfl ?_) <;> (try simp only [go_sem, Nat.reduceAdd, Nat.reduceSub, Nat.reduceMul, Nat.reduceLT, Nat.reduceLeDiff, Nat.reduceEqDiff, Nat.reduceDiv, Nat.reduceBEq, Int.reduceNeg, reduceCtorEq, ↓reduceIte, Int.reduceEq, Int.reduceLT, Int.reduceLE, Int.reduceToNat, Int.reduceAdd, Int.reduceSub, Int.reduceMul, Nat.reducePow, Nat.reduceBNe, e0, e1, e4, e5, e6, e7, e8, h125, sbyte_bt, intArg]))
    | (refine hK _ _ ?_; clear hK K; simp only [prune, List.map_cons, List.map_nil, lk_hit, lk_miss, lk_nil, ne_eq, Nat.reduceEqDiff, not_false_eq_true])
    | (refine AGood.condT ?_ rfl ?_; focus (simp only [ev_tmp, ev_const, oc_bool, lk_hit, lk_miss, ne_eq, Nat.reduceEqDiff, not_false_eq_true]; done))
    | (refine AGood.condF ?_ rfl ?_; focus (simp only [ev_tmp, ev_const, oc_bool, lk_hit, lk_miss, ne_eq, Nat.reduceEqDiff, not_false_eq_true]; done))
    | (refine AGood.cond (by simp only [ev_tmp, ev_const, oc_bool, lk_hit, lk_miss, ne_eq, Nat.reduceEqDiff, not_false_eq_true]; rfl) rfl ?_ ?_ <;> intro hc <;> (try simp only [Bool.not_eq_true', Bool.not_eq_false', decide_eq_true_eq, decide_eq_false_iff_not, Bool.not_true, Bool.not_false, Bool.not_eq_true, Bool.not_eq_false] at hc) <;> (try simp only [hc, decide_true, decide_false, Bool.not_true, Bool.not_false]))
    | (intro _)
    | (refine And.intro ?_ ?_))
              all_goals first | omega | (unfold bigLen; omega) | exact ⟨_, _, ⟨rfl, rfl⟩, rfl⟩ | exact ⟨_, rfl⟩ | (rename_i hy; simp only [List.mem_singleton] at hy; subst hy; rfl) | skip
        · rw [if_pos ⟨he, h125⟩] at hlo
          repeat' (first
    | refine AGood.seq ?_ | refine AGood.skip ?_ | refine AGood.block ?_ | refine AGood.inBlock ?_ | refine AGood.exit rfl ?_
    | ((first
    | (refine AGood.reg LL_ok [] [0, 2, 3, 29, 38, 57] (by kernel_rfl) ?_; intro K hK)
    | (refine AGood.at 3 ?_; refine AGood.drawn LL_ok mixed [] 15 [0, 1, 2, 3, 4, 5, 6, 7, 8, 9, 10, 11, 12, 13, 14] [0, 2, 3, 29, 38, 57] (by kernel_rfl) (by rfl) ?_; intro K hK)
    | (refine AGood.at 8 ?_; refine AGood.drawn LL_ok mixed [] 12 [0, 1, 2, 3, 4, 5, 6, 7, 8, 9, 10, 11] [0, 2, 3, 29, 38, 57] (by kernel_rfl) (by rfl) ?_; intro K hK)
    | (refine AGood.at 12 ?_; refine AGood.drawn LL_ok mixed [] 13 [0, 1, 2, 3, 4, 5, 6, 7, 8, 9, 10, 11, 12, 13, 14] [0, 2, 3, 29, 38, 57] (by kernel_rfl) (by rfl) ?_; intro K hK)
    | (refine ⟨_, hends, ?_⟩)
    | (refine gd_split ?_ ?_ <;> intro hb <;> (try simp only [Bool.not_eq_true', Bool.not_eq_false', decide_eq_true_eq, decide_eq_false_iff_not, Bool.not_true, Bool.not_false, Bool.not_eq_true, Bool.not_eq_false] at hb) <;> (try simp only [hb]))
    | refine AGood.retF LL_ok [1000, 1001] [.tmp 2] rfl ?_
    | refine AGood.doneF LL_ok [1000, 1001] [.tmp 2] rfl ?_) <;> (try simp only [go_sem, Nat.reduceAdd, Nat.reduceSub, Nat.reduceMul, Nat.reduceLT, Nat.reduceLeDiff, Nat.reduceEqDiff, Nat.reduceDiv, Nat.reduceBEq, Int.reduceNeg, reduceCtorEq, ↓reduceIte, Int.reduceEq, Int.reduceLT, Int.reduceLE, Int.reduceToNat, Int.reduceAdd, Int.reduceSub, Int.reduceMul, Nat.reducePow, Nat.reduceBNe, e0, e1, e4, h125, sbyte_bt]))
    | (refine hK _ _ ?_; clear hK K; simp only [prune, List.map_cons, List.map_nil, lk_hit, lk_miss, lk_nil, ne_eq, Nat.reduceEqDiff, not_false_eq_true])
    | (refine AGood.condT ?_ rfl ?_; focus (simp only [ev_tmp, ev_const, oc_bool, lk_hit, lk_miss, ne_eq, Nat.reduceEqDiff, not_false_eq_true]; done))
    | (refine AGood.condF ?_ rfl ?_; focus (simp only [ev_tmp, ev_const, oc_bool, lk_hit, lk_miss, ne_eq, Nat.reduceEqDiff, not_false_eq_true]; done))
    | (refine AGood.cond (by simp only [ev_tmp, ev_const, oc_bool, lk_hit, lk_miss, ne_eq, Nat.reduceEqDiff, not_false_eq_true]; rfl) rfl ?_ ?_ <;> intro hc <;> (try simp only [Bool.not_eq_true', Bool.not_eq_false', decide_eq_true_eq, decide_eq_false_iff_not, Bool.not_true, Bool.not_false, Bool.not_eq_true, Bool.not_eq_false] at hc) <;> (try simp only [hc, decide_true, decide_false, Bool.not_true, Bool.not_false]))
    | (intro _)
    | (refine And.intro ?_ ?_))
          all_goals first | omega | (unfold bigLen; omega) | exact ⟨_, _, ⟨rfl, rfl⟩, rfl⟩ | exact ⟨_, rfl⟩ | (rename_i hy; simp only [List.mem_singleton] at hy; subst hy; rfl) | skip
          refine AGood.prune [0, 3] ?_; simp only [prune, List.map_cons, List.map_nil, lk_hit, lk_miss, lk_nil, ne_eq, Nat.reduceEqDiff, not_false_eq_true]
          exact (ih (f, c + 1) ⟨by simp only; omega, by simp only; omega, hlo⟩ (by simp only; omega)).cast rfl rfl
      · rw [if_neg (by simp [he])] at hlo
        simp only [Option.some.injEq, Rd.mk.injEq, and_true] at hlo
        subst hlo
        rw [he] at hends h
        simp only [if_true] at h
        split at h
        · cases h
        · simp only [Option.some.injEq, Prod.mk.injEq] at h
          obtain ⟨rfl, rfl⟩ := h
          have hfail := fail_c s ⟨c, wn, wd, we, ww⟩ g g1 40 s.size
          simp only [rsto] at hfail
          repeat' (first
    | refine AGood.seq ?_ | refine AGood.skip ?_ | refine AGood.block ?_ | refine AGood.inBlock ?_ | refine AGood.exit rfl ?_
    | ((first
    | (refine AGood.reg LL_ok [] [0, 2, 3, 29, 38, 57] (by kernel_rfl) ?_; intro K hK)
    | (refine AGood.at 3 ?_; refine AGood.drawn LL_ok mixed [] 15 [0, 1, 2, 3, 4, 5, 6, 7, 8, 9, 10, 11, 12, 13, 14] [0, 2, 3, 29, 38, 57] (by kernel_rfl) (by rfl) ?_; intro K hK)
    | (refine AGood.at 8 ?_; refine AGood.drawn LL_ok mixed [] 12 [0, 1, 2, 3, 4, 5, 6, 7, 8, 9, 10, 11] [0, 2, 3, 29, 38, 57] (by kernel_rfl) (by rfl) ?_; intro K hK)
    | (refine AGood.at 12 ?_; refine AGood.drawn LL_ok mixed [] 13 [0, 1, 2, 3, 4, 5, 6, 7, 8, 9, 10, 11, 12, 13, 14] [0, 2, 3, 29, 38, 57] (by kernel_rfl) (by rfl) ?_; intro K hK)
    | (refine ⟨_, hends, ?_⟩)
    | (refine ACall.mono hends ?_; rintro _ _ ⟨rfl, rfl⟩)
    | (refine ACall.mono hfail ?_; rintro _ _ ⟨rfl, rfl⟩)
    | (refine gd_split ?_ ?_ <;> intro hb <;> (try simp only [Bool.not_eq_true', Bool.not_eq_false', decide_eq_true_eq, decide_eq_false_iff_not, Bool.not_true, Bool.not_false, Bool.not_eq_true, Bool.not_eq_false] at hb) <;> (try simp only [hb]))
    | refine AGood.retF LL_ok [1000, 1001] [.tmp 2] rfl ?_
    | refine AGood.doneF LL_ok [1000, 1001] [.tmp 2] rfl ?_) <;> (try simp only [go_sem, Nat.reduceAdd, Nat.reduceSub, Nat.reduceMul, Nat.reduceLT, Nat.reduceLeDiff, Nat.reduceEqDiff, Nat.reduceDiv, Nat.reduceBEq, Int.reduceNeg, reduceCtorEq, ↓reduceIte, Int.reduceEq, Int.reduceLT, Int.reduceLE, Int.reduceToNat, Int.reduceAdd, Int.reduceSub, Int.reduceMul, Nat.reducePow, Nat.reduceBNe]))
    | (refine hK _ _ ?_; clear hK K; simp only [prune, List.map_cons, List.map_nil, lk_hit, lk_miss, lk_nil, ne_eq, Nat.reduceEqDiff, not_false_eq_true])
    | (refine AGood.condT ?_ rfl ?_; focus (simp only [ev_tmp, ev_const, oc_bool, lk_hit, lk_miss, ne_eq, Nat.reduceEqDiff, not_false_eq_true]; done))
    | (refine AGood.condF ?_ rfl ?_; focus (simp only [ev_tmp, ev_const, oc_bool, lk_hit, lk_miss, ne_eq, Nat.reduceEqDiff, not_false_eq_true]; done))
    | (refine AGood.cond (by simp only [ev_tmp, ev_const, oc_bool, lk_hit, lk_miss, ne_eq, Nat.reduceEqDiff, not_false_eq_true]; rfl) rfl ?_ ?_ <;> intro hc <;> (try simp only [Bool.not_eq_true', Bool.not_eq_false', decide_eq_true_eq, decide_eq_false_iff_not, Bool.not_true, Bool.not_false, Bool.not_eq_true, Bool.not_eq_false] at hc) <;> (try simp only [hc, decide_true, decide_false, Bool.not_true, Bool.not_false]))
    | (intro _)
    | (refine And.intro ?_ ?_))
          exact ⟨g1, rfl⟩
end Go.Rad
