/- Contracts: the document's reader of patterns: a pattern. -/
import Derived.Test.YtejdlelhlpnabaaDoorKC04j
set_option linter.all false
namespace Go.Rad
open Go Go.Proofs
set_option linter.all false
set_option maxRecDepth 20000
set_option maxHeartbeats 4000000

/-- An alternative. (Of more than one nothing is told.) -/
def altR (s : ByteArray) (F : Nat) (r : Rd) : Option (Rd × Int) :=
  match rowR s F r with
  | none => none
  | some (q, k) => if endsB s q = true then some (q, k) else none
def parseR (s : ByteArray) (F : Nat) : Option (List Node) :=
  if 1024 < s.size then none
  else match altR s F ⟨0, [], 0, 0, 0⟩ with
    | none => none
    | some (q, _) => if q.e ≠ 0 ∨ 1024 < q.nodes.length then none else some q.nodes
theorem altR_ends {s : ByteArray} {F : Nat} {r q : Rd} {v : Int} (h : altR s F r = some (q, v)) : endsB s q = true := by
  unfold altR at h
  split at h
  · cases h
  · split at h
    · rename_i he
      simp only [Option.some.injEq, Prod.mk.injEq] at h
      obtain ⟨rfl, _⟩ := h
      exact he
    · cases h
theorem altR_c (s : ByteArray) (hs : s.size ≤ 1000000) (F : Nat) (r q : Rd) (v : Int) (g g1 : Nat) (h : altR s F r = some (q, v)) :
    ACall Tryd.prog 35 [.bx 1000 g 0] (rsto g g1 s r) fun x s' => x = .int .i64 v ∧ ∃ h1, s' = rsto g h1 s q := by
  have he := altR_ends h
  unfold altR at h
  cases hr : rowR s F r with
  | none => rw [hr] at h; cases h
  | some w =>
    obtain ⟨q', k⟩ := w
    rw [hr] at h
    simp only at h
    split at h
    · simp only [Option.some.injEq, Prod.mk.injEq] at h
      obtain ⟨rfl, rfl⟩ := h
      have hrow := rowR_c s hs F r q' k g g1 hr
      obtain ⟨wp, wn, wd, we, ww⟩ := q'
      simp only [rsto] at hrow ⊢
      refine ACall.enter Tryd.func35 rfl (by kernel_rfl) (Nat.le_of_ble_eq_true rfl) ?_; simp only [initTm, Nat.reduceAdd]
      repeat' (first
    | refine AGood.seq ?_ | refine AGood.skip ?_ | refine AGood.block ?_ | refine AGood.inBlock ?_ | refine AGood.exit rfl ?_
    | ((first
    | (refine AGood.reg LL_ok [] [0, 2, 3, 21, 43] (by kernel_rfl) ?_; intro K hK)
    | (refine AGood.drawn LL_ok mixed [] 15 [0, 1, 2, 3, 4, 5, 6, 7, 8, 9, 10, 11, 12, 13, 14] [0, 2, 3, 21, 43] (by kernel_rfl) (by rfl) ?_; intro K hK)
    | (refine ACall.mono hrow ?_; rintro _ _ ⟨rfl, h1, rfl⟩)
    | (refine gd_split ?_ ?_ <;> intro hb <;> (try simp only [Bool.not_eq_true', Bool.not_eq_false', decide_eq_true_eq, decide_eq_false_iff_not, Bool.not_true, Bool.not_false, Bool.not_eq_true, Bool.not_eq_false] at hb) <;> (try simp only [hb]))
    | refine AGood.retF LL_ok [1000, 1001] [.tmp 2] rfl ?_
    | refine AGood.doneF LL_ok [1000, 1001] [.tmp 2] rfl ?_) <;> (try simp only [go_sem, Nat.reduceAdd, Nat.reduceSub, Nat.reduceMul, Nat.reduceLT, Nat.reduceLeDiff, Nat.reduceEqDiff, Nat.reduceDiv, Nat.reduceBEq, Int.reduceNeg, reduceCtorEq, ↓reduceIte, Int.reduceEq, Int.reduceLT, Int.reduceLE, Int.reduceToNat, Int.reduceAdd, Int.reduceSub, Int.reduceMul, Nat.reducePow, Nat.reduceBNe]))
    | (refine hK _ _ ?_; clear hK K; simp only [prune, List.map_cons, List.map_nil, lk_hit, lk_miss, lk_nil, ne_eq, Nat.reduceEqDiff, not_false_eq_true])
    | (refine AGood.condT ?_ rfl ?_; focus (simp only [ev_tmp, ev_const, oc_bool, lk_hit, lk_miss, ne_eq, Nat.reduceEqDiff, not_false_eq_true]; done))
    | (refine AGood.condF ?_ rfl ?_; focus (simp only [ev_tmp, ev_const, oc_bool, lk_hit, lk_miss, ne_eq, Nat.reduceEqDiff, not_false_eq_true]; done))
    | (refine AGood.cond (by simp only [ev_tmp, ev_const, oc_bool, lk_hit, lk_miss, ne_eq, Nat.reduceEqDiff, not_false_eq_true]; rfl) rfl ?_ ?_ <;> intro hc <;> (try simp only [Bool.not_eq_true', Bool.not_eq_false', decide_eq_true_eq, decide_eq_false_iff_not, Bool.not_true, Bool.not_false, Bool.not_eq_true, Bool.not_eq_false] at hc) <;> (try simp only [hc, decide_true, decide_false, Bool.not_true, Bool.not_false]))
    | (intro _)
    | (refine And.intro ?_ ?_))
      all_goals first | omega | (unfold bigLen; omega) | exact ⟨_, _, ⟨rfl, rfl⟩, rfl⟩ | exact ⟨_, rfl⟩ | (rename_i hy; simp only [List.mem_singleton] at hy; subst hy; rfl) | skip
      refine AGood.loop ?_
      have hends2 := ends_c s ⟨wp, wn, wd, we, ww⟩ g h1
      rw [he] at hends2
      simp only [rsto] at hends2
      obtain ⟨l2, hl2⟩ : ∃ l2, l2 = [k] := ⟨_, rfl⟩
      have hints : ([[AVal.int IntKind.i64 k]] : List (List AVal)) = ints l2 := by rw [hl2]; rfl
      have k3 : l2[0]? = some k := by rw [hl2]; rfl
      have k4 : 0 < l2.length := by rw [hl2]; simp
      rw [hints]
      repeat' (first
    | refine AGood.seq ?_ | refine AGood.skip ?_ | refine AGood.block ?_ | refine AGood.inBlock ?_ | refine AGood.exit rfl ?_
    | ((first
    | (refine AGood.reg LL_ok [] [0, 2, 3, 21, 43] (by kernel_rfl) ?_; intro K hK)
    | (refine AGood.drawn LL_ok mixed [] 15 [0, 1, 2, 3, 4, 5, 6, 7, 8, 9, 10, 11, 12, 13, 14] [0, 2, 3, 21, 43] (by kernel_rfl) (by rfl) ?_; intro K hK)
    | (refine ⟨_, ACall.part [(1000, 1000), (1001, 1001)] rfl hends2 rfl rfl rfl rfl rfl rfl, ?_⟩)
    | (refine gd_split ?_ ?_ <;> intro hb <;> (try simp only [Bool.not_eq_true', Bool.not_eq_false', decide_eq_true_eq, decide_eq_false_iff_not, Bool.not_true, Bool.not_false, Bool.not_eq_true, Bool.not_eq_false] at hb) <;> (try simp only [hb]))
    | refine AGood.retF LL_ok [1000, 1001] [.tmp 2] rfl ?_
    | refine AGood.doneF LL_ok [1000, 1001] [.tmp 2] rfl ?_) <;> (try simp only [go_sem, Nat.reduceAdd, Nat.reduceSub, Nat.reduceMul, Nat.reduceLT, Nat.reduceLeDiff, Nat.reduceEqDiff, Nat.reduceDiv, Nat.reduceBEq, Int.reduceNeg, reduceCtorEq, ↓reduceIte, Int.reduceEq, Int.reduceLT, Int.reduceLE, Int.reduceToNat, Int.reduceAdd, Int.reduceSub, Int.reduceMul, Nat.reducePow, Nat.reduceBNe, he, k3, k4, Option.some.injEq, forall_eq']))
    | (refine hK _ _ ?_; clear hK K; simp only [prune, List.map_cons, List.map_nil, lk_hit, lk_miss, lk_nil, ne_eq, Nat.reduceEqDiff, not_false_eq_true])
    | (refine AGood.condT ?_ rfl ?_; focus (simp only [ev_tmp, ev_const, oc_bool, lk_hit, lk_miss, ne_eq, Nat.reduceEqDiff, not_false_eq_true]; done))
    | (refine AGood.condF ?_ rfl ?_; focus (simp only [ev_tmp, ev_const, oc_bool, lk_hit, lk_miss, ne_eq, Nat.reduceEqDiff, not_false_eq_true]; done))
    | (refine AGood.cond (by simp only [ev_tmp, ev_const, oc_bool, lk_hit, lk_miss, ne_eq, Nat.reduceEqDiff, not_false_eq_true]; rfl) rfl ?_ ?_ <;> intro hc <;> (try simp only [Bool.not_eq_true', Bool.not_eq_false', decide_eq_true_eq, decide_eq_false_iff_not, Bool.not_true, Bool.not_false, Bool.not_eq_true, Bool.not_eq_false] at hc) <;> (try simp only [hc, decide_true, decide_false, Bool.not_true, Bool.not_false]))
    | (intro _)
    | (refine And.intro ?_ ?_))
      all_goals first | omega | (unfold bigLen; omega) | exact ⟨_, _, ⟨rfl, rfl⟩, rfl⟩ | exact ⟨_, rfl⟩ | (rename_i hy; simp only [List.mem_singleton] at hy; subst hy; rfl) | skip
    · cases h
theorem parse_c (s : ByteArray) (F : Nat) (ns : List Node) (h : parseR s F = some ns) : ACall Tryd.prog 20 [.str s] [] fun r st => r = .tup [.sl true false (nodes ns), .int .i64 0, .int .i64 0] ∧ st = [] := by
  unfold parseR at h
  split at h
  · cases h
  rename_i hs
  cases ha : altR s F ⟨0, [], 0, 0, 0⟩ with
  | none => rw [ha] at h; cases h
  | some w =>
    obtain ⟨q, v⟩ := w
    rw [ha] at h
    simp only at h
    split at h
    · cases h
    rename_i hb
    simp only [not_or, ne_eq, Decidable.not_not] at hb
    obtain ⟨hb1, hb2⟩ := hb
    simp only [Option.some.injEq] at h
    subst h
    have he := altR_ends ha
    have hcall := fun g g1 => altR_c s (by omega) F _ q v g g1 ha
    have hends := fun g g1 => ends_c s q g g1
    rw [he] at hends
    obtain ⟨p, ns, deep, e, wh⟩ := q
    simp only at hb1 hb2
    subst hb1
    simp only [rsto] at hcall hends ⊢
    have e1 : ¬ (1024 : Int) < s.size := by omega
    have e2 : ¬ (1024 : Int) < ns.length := by omega
    have e9 : (nodes ns).take ns.length = nodes ns := List.take_of_length_le (by simp)
    refine ACall.enter Tryd.func20 rfl (by kernel_rfl) (Nat.le_of_ble_eq_true rfl) ?_; simp only [initTm, Nat.reduceAdd]
    repeat' (first
    | refine AGood.seq ?_ | refine AGood.skip ?_ | refine AGood.block ?_ | refine AGood.inBlock ?_ | refine AGood.exit rfl ?_
    | ((first
    | (refine AGood.at 4 ?_; (refine AGood.ownBox 11 2 901 9 (by decide) rfl rfl (by decide) ?_; intro g9; simp only [List.set_cons_succ, List.set_cons_zero, go_sem, Nat.reduceAdd, Nat.reduceSub, Nat.reduceMul, Nat.reduceLT, Nat.reduceLeDiff, Nat.reduceEqDiff, Nat.reduceDiv, Nat.reduceBEq, Int.reduceNeg, reduceCtorEq, ↓reduceIte, Int.reduceEq, Int.reduceLT, Int.reduceLE, Int.reduceToNat, Int.reduceAdd, Int.reduceSub, Int.reduceMul, Nat.reducePow, Nat.reduceBNe]); (refine AGood.reg LL_ok [] [0, 2, 3, 4, 5, 8, 16, 27, 41] (by kernel_rfl) ?_; intro K hK))
    | (refine AGood.at 11 ?_; (refine AGood.freeze 901 rfl ?_; simp only [rfT, rfS, rfO, rf, rf1, e9, true_and, go_sem, Nat.reduceAdd, Nat.reduceSub, Nat.reduceMul, Nat.reduceLT, Nat.reduceLeDiff, Nat.reduceEqDiff, Nat.reduceDiv, Nat.reduceBEq, Int.reduceNeg, reduceCtorEq, ↓reduceIte, Int.reduceEq, Int.reduceLT, Int.reduceLE, Int.reduceToNat, Int.reduceAdd, Int.reduceSub, Int.reduceMul, Nat.reducePow, Nat.reduceBNe]); (refine AGood.reg LL_ok [] [0, 2, 3, 4, 5, 8, 16, 27, 41] (by kernel_rfl) ?_; intro K hK))
    | (refine AGood.reg LL_ok [] [0, 2, 3, 4, 5, 8, 16, 27, 41] (by kernel_rfl) ?_; intro K hK)
    | (refine AGood.drawn LL_ok mixed [] 11 [0, 1, 2, 3, 4, 5, 6, 7, 8, 9, 10] [0, 2, 3, 4, 5, 8, 16, 27, 41] (by kernel_rfl) (by rfl) ?_; intro K hK)
    | (refine ACall.use [(1000, 11), (1001, 901)] [] rfl (hcall _ _) rfl rfl rfl ?_; rintro _ _ ⟨rfl, h2, rfl⟩; refine ⟨.inl rfl, rfl, ?_⟩; simp only [bk, bk1, bkS, bkO, idOf, delAll, go_sem, Nat.reduceAdd, Nat.reduceSub, Nat.reduceMul, Nat.reduceLT, Nat.reduceLeDiff, Nat.reduceEqDiff, Nat.reduceDiv, Nat.reduceBEq, Int.reduceNeg, reduceCtorEq, ↓reduceIte, Int.reduceEq, Int.reduceLT, Int.reduceLE, Int.reduceToNat, Int.reduceAdd, Int.reduceSub, Int.reduceMul, Nat.reducePow, Nat.reduceBNe])
    | (refine ACall.use [(1000, 11), (1001, 901)] [] rfl (hends _ _) rfl rfl rfl ?_; rintro _ _ ⟨rfl, rfl⟩; refine ⟨.inl rfl, rfl, ?_⟩; simp only [bk, bk1, bkS, bkO, idOf, delAll, go_sem, Nat.reduceAdd, Nat.reduceSub, Nat.reduceMul, Nat.reduceLT, Nat.reduceLeDiff, Nat.reduceEqDiff, Nat.reduceDiv, Nat.reduceBEq, Int.reduceNeg, reduceCtorEq, ↓reduceIte, Int.reduceEq, Int.reduceLT, Int.reduceLE, Int.reduceToNat, Int.reduceAdd, Int.reduceSub, Int.reduceMul, Nat.reducePow, Nat.reduceBNe])
    | (refine gd_split ?_ ?_ <;> intro hb <;> (try simp only [Bool.not_eq_true', Bool.not_eq_false', decide_eq_true_eq, decide_eq_false_iff_not, Bool.not_true, Bool.not_false, Bool.not_eq_true, Bool.not_eq_false] at hb) <;> (try simp only [hb]))
    | refine AGood.retF LL_ok [] [.tmp 2, .tmp 3, .tmp 4] rfl ?_
    | refine AGood.doneF LL_ok [] [.tmp 2, .tmp 3, .tmp 4] rfl ?_) <;> (try simp only [go_sem, Nat.reduceAdd, Nat.reduceSub, Nat.reduceMul, Nat.reduceLT, Nat.reduceLeDiff, Nat.reduceEqDiff, Nat.reduceDiv, Nat.reduceBEq, Int.reduceNeg, reduceCtorEq, ↓reduceIte, Int.reduceEq, Int.reduceLT, Int.reduceLE, Int.reduceToNat, Int.reduceAdd, Int.reduceSub, Int.reduceMul, Nat.reducePow, Nat.reduceBNe, e1, e2]))
    | (refine hK _ _ ?_; clear hK K; simp only [prune, List.map_cons, List.map_nil, lk_hit, lk_miss, lk_nil, ne_eq, Nat.reduceEqDiff, not_false_eq_true])
    | (refine AGood.condT ?_ rfl ?_; focus (simp only [ev_tmp, ev_const, oc_bool, lk_hit, lk_miss, ne_eq, Nat.reduceEqDiff, not_false_eq_true]; done))
    | (refine AGood.condF ?_ rfl ?_; focus (simp only [ev_tmp, ev_const, oc_bool, lk_hit, lk_miss, ne_eq, Nat.reduceEqDiff, not_false_eq_true]; done))
    | (refine AGood.cond (by simp only [ev_tmp, ev_const, oc_bool, lk_hit, lk_miss, ne_eq, Nat.reduceEqDiff, not_false_eq_true]; rfl) rfl ?_ ?_ <;> intro hc <;> (try simp only [Bool.not_eq_true', Bool.not_eq_false', decide_eq_true_eq, decide_eq_false_iff_not, Bool.not_true, Bool.not_false, Bool.not_eq_true, Bool.not_eq_false] at hc) <;> (try simp only [hc, decide_true, decide_false, Bool.not_true, Bool.not_false]))
    | (intro _)
    | (refine And.intro ?_ ?_))
    all_goals first | omega | (unfold bigLen; omega) | exact ⟨_, _, ⟨rfl, rfl⟩, rfl⟩ | exact ⟨_, rfl⟩ | (rename_i hy; simp only [List.mem_singleton] at hy; subst hy; rfl) | skip
end Go.Rad
