/- Contracts: the document's reader of patterns: atoms, items, rows; a pattern. -/
import Derived.Test.YtejdlelhlpnabaaDoorKC04g
set_option linter.all false
namespace Go.Rad
open Go Go.Proofs
set_option linter.all false
set_option maxRecDepth 20000
set_option maxHeartbeats 4000000

/-- An atom: a class, a name, a byte. (Of groups, of dots, and of bytes that may not stand so, nothing is told.) -/
def atomR (s : ByteArray) (F : Nat) (r : Rd) : Option (Rd × Int) :=
  if 100000 < r.nodes.length ∨ s.size ≤ r.p ∨ bI s r.p = 40 ∨ bI s r.p = 46 ∨ bI s r.p = 47 ∨ bI s r.p = 36 then none
  else if bI s r.p = 91 then classR s F r
  else if bI s r.p = 123 then (if s.size ≤ r.p + 1 ∨ digitN (bt s (r.p + 1)) = true then none else nameR s F r)
  else if bI s r.p = 92 ∨ inS (bt s r.p) specialS = true ∨ r.e ≠ 0 then none
  else some (putR (r.next 1) ⟨2, [bt s r.p].foldl withI ISet.none, [], 0, 0, ByteArray.empty⟩, r.nodes.length)
theorem atomR_c (s : ByteArray) (hs : s.size ≤ 1000000) (F : Nat) (r q : Rd) (v : Int) (g g1 : Nat) (h : atomR s F r = some (q, v)) :
    ACall Tryd.prog 60 [.bx 1000 g 0] (rsto g g1 s r) fun x s' => x = .int .i64 v ∧ ∃ h1, s' = rsto g h1 s q := by
  unfold atomR at h
  split at h
  · cases h
  rename_i hb
  simp only [not_or] at hb
  obtain ⟨b1, b2, b3, b4, b5, b6⟩ := hb
  have hcl := fun h => classR_c s hs F r q v g g1 (by omega) h
  have hnm := fun h => nameR_c s hs F r q v g g1 (by omega) h
  have hone := one_c s r g g1 hs (by omega)
  have e0 : (0 : Int) ≤ r.p := by omega
  have e1 : (r.p : Int) < s.size := by omega
  have e2 : (r.p : Int) + 1 = ((r.p + 1 : Nat) : Int) := by omega
  split at h
  · rename_i h91
    have hcl := hcl h
    clear hnm hone
    obtain ⟨p, ns, deep, e, wh⟩ := r
    simp only at b1 b2 b3 b4 b5 b6 h91 e0 e1 e2
    simp only [rsto] at hcl ⊢
    refine ACall.enter Tryd.func60 rfl (by kernel_rfl) (Nat.le_of_ble_eq_true rfl) ?_; simp only [initTm, Nat.reduceAdd]
    repeat' (first
    | refine AGood.seq ?_ | refine AGood.skip ?_ | refine AGood.block ?_ | refine AGood.inBlock ?_ | refine AGood.exit rfl ?_
    | ((first
    | (refine AGood.reg LL_ok [] [0, 2, 3, 4, 14, 19, 24, 40, 72, 85, 105] (by kernel_rfl) ?_; intro K hK)
    | (refine AGood.at 1 ?_; refine AGood.drawn LL_ok mixed [] 10 [0, 1, 2, 3, 4, 5, 6, 7, 8, 9] [0, 2, 3, 4, 14, 19, 24, 40, 72, 85, 105] (by kernel_rfl) (by rfl) ?_; intro K hK)
    | (refine AGood.at 9 ?_; refine AGood.drawn LL_ok mixed [] 30 [0, 1, 2, 3, 4, 5, 6, 7, 8, 9, 10, 11, 12, 13, 14, 15, 16, 17, 18, 19, 20, 21, 22, 23, 24, 25, 26, 27, 28, 29] [0, 2, 3, 4, 14, 19, 24, 40, 72, 85, 105] (by kernel_rfl) (by rfl) ?_; intro K hK)
    | (refine ACall.mono hcl ?_; rintro _ _ ⟨rfl, h1, rfl⟩)
    | (refine gd_split ?_ ?_ <;> intro hb <;> (try simp only [Bool.not_eq_true', Bool.not_eq_false', decide_eq_true_eq, decide_eq_false_iff_not, Bool.not_true, Bool.not_false, Bool.not_eq_true, Bool.not_eq_false] at hb) <;> (try simp only [hb]))
    | refine AGood.retF LL_ok [1000, 1001] [.tmp 2] rfl ?_
    | refine AGood.doneF LL_ok [1000, 1001] [.tmp 2] rfl ?_) <;> (try simp only [go_sem, Nat.reduceAdd, Nat.reduceSub, Nat.reduceMul, Nat.reduceLT, Nat.reduceLeDiff, Nat.reduceEqDiff, Nat.reduceDiv, Nat.reduceBEq, Int.reduceNeg, reduceCtorEq, ↓reduceIte, Int.reduceEq, Int.reduceLT, Int.reduceLE, Int.reduceToNat, Int.reduceAdd, Int.reduceSub, Int.reduceMul, Nat.reducePow, Nat.reduceBNe, e0, e1, b3, h91, sbyte_bt]))
    | (refine hK _ _ ?_; clear hK K; simp only [prune, List.map_cons, List.map_nil, lk_hit, lk_miss, lk_nil, ne_eq, Nat.reduceEqDiff, not_false_eq_true])
    | (refine AGood.condT ?_ rfl ?_; focus (simp only [ev_tmp, ev_const, oc_bool, lk_hit, lk_miss, ne_eq, Nat.reduceEqDiff, not_false_eq_true]; done))
    | (refine AGood.condF ?_ rfl ?_; focus (simp only [ev_tmp, ev_const, oc_bool, lk_hit, lk_miss, ne_eq, Nat.reduceEqDiff, not_false_eq_true]; done))
    | (refine AGood.cond (by simp only [ev_tmp, ev_const, oc_bool, lk_hit, lk_miss, ne_eq, Nat.reduceEqDiff, not_false_eq_true]; rfl) rfl ?_ ?_ <;> intro hc <;> (try simp only [Bool.not_eq_true', Bool.not_eq_false', decide_eq_true_eq, decide_eq_false_iff_not, Bool.not_true, Bool.not_false, Bool.not_eq_true, Bool.not_eq_false] at hc) <;> (try simp only [hc, decide_true, decide_false, Bool.not_true, Bool.not_false]))
    | (intro _)
    | (refine And.intro ?_ ?_))
    all_goals first | omega | (unfold bigLen; omega) | exact ⟨_, _, ⟨rfl, rfl⟩, rfl⟩ | exact ⟨_, rfl⟩ | (rename_i hy; simp only [List.mem_singleton] at hy; subst hy; rfl) | skip
  · rename_i h91
    split at h
    · rename_i h123
      split at h
      · cases h
      rename_i hd
      simp only [not_or, Bool.not_eq_true] at hd
      have hnm := hnm h
      clear hcl hone
      obtain ⟨p, ns, deep, e, wh⟩ := r
      simp only at b1 b2 b3 b4 b5 b6 h91 h123 hd e0 e1 e2
      have e3 : ¬ (s.size : Int) ≤ (p + 1 : Nat) := by omega
      have e4 : ((p + 1 : Nat) : Int) < s.size := by omega
      have e5 : (0 : Int) ≤ (p + 1 : Nat) := by omega
      have hdg := digit4uc (bt s (p + 1))
      rw [hd.2] at hdg
      simp only [rsto] at hnm ⊢
      refine ACall.enter Tryd.func60 rfl (by kernel_rfl) (Nat.le_of_ble_eq_true rfl) ?_; simp only [initTm, Nat.reduceAdd]
      repeat' (first
    | refine AGood.seq ?_ | refine AGood.skip ?_ | refine AGood.block ?_ | refine AGood.inBlock ?_ | refine AGood.exit rfl ?_
    | ((first
    | (refine AGood.reg LL_ok [] [0, 2, 3, 4, 14, 19, 24, 40, 72, 85, 105] (by kernel_rfl) ?_; intro K hK)
    | (refine AGood.at 1 ?_; refine AGood.drawn LL_ok mixed [] 10 [0, 1, 2, 3, 4, 5, 6, 7, 8, 9] [0, 2, 3, 4, 14, 19, 24, 40, 72, 85, 105] (by kernel_rfl) (by rfl) ?_; intro K hK)
    | (refine AGood.at 9 ?_; refine AGood.drawn LL_ok mixed [] 30 [0, 1, 2, 3, 4, 5, 6, 7, 8, 9, 10, 11, 12, 13, 14, 15, 16, 17, 18, 19, 20, 21, 22, 23, 24, 25, 26, 27, 28, 29] [0, 2, 3, 4, 14, 19, 24, 40, 72, 85, 105] (by kernel_rfl) (by rfl) ?_; intro K hK)
    | (refine ⟨_, ACall.alone hdg rfl rfl rfl, ?_⟩)
    | (refine ACall.mono hnm ?_; rintro _ _ ⟨rfl, h1, rfl⟩)
    | (refine gd_split ?_ ?_ <;> intro hb <;> (try simp only [Bool.not_eq_true', Bool.not_eq_false', decide_eq_true_eq, decide_eq_false_iff_not, Bool.not_true, Bool.not_false, Bool.not_eq_true, Bool.not_eq_false] at hb) <;> (try simp only [hb]))
    | refine AGood.retF LL_ok [1000, 1001] [.tmp 2] rfl ?_
    | refine AGood.doneF LL_ok [1000, 1001] [.tmp 2] rfl ?_) <;> (try simp only [go_sem, Nat.reduceAdd, Nat.reduceSub, Nat.reduceMul, Nat.reduceLT, Nat.reduceLeDiff, Nat.reduceEqDiff, Nat.reduceDiv, Nat.reduceBEq, Int.reduceNeg, reduceCtorEq, ↓reduceIte, Int.reduceEq, Int.reduceLT, Int.reduceLE, Int.reduceToNat, Int.reduceAdd, Int.reduceSub, Int.reduceMul, Nat.reducePow, Nat.reduceBNe, e0, e1, e2, e3, e4, e5, h91, h123, sbyte_bt]))
    | (refine hK _ _ ?_; clear hK K; simp only [prune, List.map_cons, List.map_nil, lk_hit, lk_miss, lk_nil, ne_eq, Nat.reduceEqDiff, not_false_eq_true])
    | (refine AGood.condT ?_ rfl ?_; focus (simp only [ev_tmp, ev_const, oc_bool, lk_hit, lk_miss, ne_eq, Nat.reduceEqDiff, not_false_eq_true]; done))
    | (refine AGood.condF ?_ rfl ?_; focus (simp only [ev_tmp, ev_const, oc_bool, lk_hit, lk_miss, ne_eq, Nat.reduceEqDiff, not_false_eq_true]; done))
    | (refine AGood.cond (by simp only [ev_tmp, ev_const, oc_bool, lk_hit, lk_miss, ne_eq, Nat.reduceEqDiff, not_false_eq_true]; rfl) rfl ?_ ?_ <;> intro hc <;> (try simp only [Bool.not_eq_true', Bool.not_eq_false', decide_eq_true_eq, decide_eq_false_iff_not, Bool.not_true, Bool.not_false, Bool.not_eq_true, Bool.not_eq_false] at hc) <;> (try simp only [hc, decide_true, decide_false, Bool.not_true, Bool.not_false]))
    | (intro _)
    | (refine And.intro ?_ ?_))
      all_goals first | omega | (unfold bigLen; omega) | exact ⟨_, _, ⟨rfl, rfl⟩, rfl⟩ | exact ⟨_, rfl⟩ | (rename_i hy; simp only [List.mem_singleton] at hy; subst hy; rfl) | skip
    · rename_i h123
      split at h
      · cases h
      rename_i hx
      simp only [not_or, Bool.not_eq_true, ne_eq, Decidable.not_not] at hx
      obtain ⟨h92, hsp, he0⟩ := hx
      simp only [Option.some.injEq, Prod.mk.injEq] at h
      obtain ⟨rfl, rfl⟩ := h
      have ho : oneS s r = (r.next 1, bI s r.p) := by rw [oneS, if_pos h92]
      rw [ho] at hone
      have hin := in4uc (bt s r.p) specialS (by decide)
      rw [hsp] at hin
      clear hcl hnm ho
      obtain ⟨p, ns, deep, e, wh⟩ := r
      simp only at b1 b2 b3 b4 b5 b6 h91 h123 h92 he0 e0 e1 e2 hin
      subst he0
      have hof := of_c true false [bt s p] (fun x hx => by simp only [List.mem_singleton] at hx; subst hx; exact bt_le _ _) (by simp)
      simp only [bytesL, List.map_cons, List.map_nil] at hof
      rcases hset : [bt s p].foldl withI ISet.none with ⟨u0, u1, u2, u3⟩
      rw [hset] at hof
      have hput := putR_c s ⟨p + 1, ns, deep, 0, wh⟩ g g1 ⟨2, ⟨u0, u1, u2, u3⟩, [], 0, 0, ByteArray.empty⟩ true (by simp only; omega)
      simp only [rsto, Rd.next, Node.cellsF] at hone hput ⊢
      refine ACall.enter Tryd.func60 rfl (by kernel_rfl) (Nat.le_of_ble_eq_true rfl) ?_; simp only [initTm, Nat.reduceAdd]
      repeat' (first
    | refine AGood.seq ?_ | refine AGood.skip ?_ | refine AGood.block ?_ | refine AGood.inBlock ?_ | refine AGood.exit rfl ?_
    | ((first
    | (refine AGood.reg LL_ok [108] [0, 2, 3, 4, 14, 19, 24, 40, 72, 85, 105] (by kernel_rfl) ?_; intro K hK)
    | (refine AGood.at 1 ?_; refine AGood.drawn LL_ok mixed [108] 10 [0, 1, 2, 3, 4, 5, 6, 7, 8, 9] [0, 2, 3, 4, 14, 19, 24, 40, 72, 85, 105] (by kernel_rfl) (by rfl) ?_; intro K hK)
    | (refine AGood.at 9 ?_; refine AGood.drawn LL_ok mixed [108] 30 [0, 1, 2, 3, 4, 5, 6, 7, 8, 9, 10, 11, 12, 13, 14, 15, 16, 17, 18, 19, 20, 21, 22, 23, 24, 25, 26, 27, 28, 29] [0, 2, 3, 4, 14, 19, 24, 40, 72, 85, 105] (by kernel_rfl) (by rfl) ?_; intro K hK)
    | (refine ACall.mono hone ?_; rintro _ _ ⟨rfl, rfl⟩)
    | (refine ACall.mono (ACall.alone hin rfl rfl rfl) ?_; rintro _ _ ⟨rfl, rfl⟩)
    | (refine ACall.mono (ACall.alone special4uc rfl rfl rfl) ?_; rintro _ _ ⟨rfl, rfl⟩)
    | (refine ACall.mono (ACall.alone hof rfl rfl rfl) ?_; rintro _ _ ⟨rfl, rfl⟩)
    | (refine ACall.mono hput ?_; rintro _ _ ⟨rfl, h1, rfl⟩)
    | (refine gd_split ?_ ?_ <;> intro hb <;> (try simp only [Bool.not_eq_true', Bool.not_eq_false', decide_eq_true_eq, decide_eq_false_iff_not, Bool.not_true, Bool.not_false, Bool.not_eq_true, Bool.not_eq_false] at hb) <;> (try simp only [hb]))
    | refine AGood.retF LL_ok [1000, 1001] [.tmp 2] rfl ?_
    | refine AGood.doneF LL_ok [1000, 1001] [.tmp 2] rfl ?_) <;> (try simp only [go_sem, Nat.reduceAdd, Nat.reduceSub, Nat.reduceMul, Nat.reduceLT, Nat.reduceLeDiff, Nat.reduceEqDiff, Nat.reduceDiv, Nat.reduceBEq, Int.reduceNeg, reduceCtorEq, ↓reduceIte, Int.reduceEq, Int.reduceLT, Int.reduceLE, Int.reduceToNat, Int.reduceAdd, Int.reduceSub, Int.reduceMul, Nat.reducePow, Nat.reduceBNe, e0, e1, e2, b3, b4, b5, b6, h91, h92, h123, sbyte_bt, ISet.cells, ba_empty]))
    | (refine hK _ _ ?_; clear hK K; simp only [prune, List.map_cons, List.map_nil, lk_hit, lk_miss, lk_nil, ne_eq, Nat.reduceEqDiff, not_false_eq_true])
    | (refine AGood.condT ?_ rfl ?_; focus (simp only [ev_tmp, ev_const, oc_bool, lk_hit, lk_miss, ne_eq, Nat.reduceEqDiff, not_false_eq_true]; done))
    | (refine AGood.condF ?_ rfl ?_; focus (simp only [ev_tmp, ev_const, oc_bool, lk_hit, lk_miss, ne_eq, Nat.reduceEqDiff, not_false_eq_true]; done))
    | (refine AGood.cond (by simp only [ev_tmp, ev_const, oc_bool, lk_hit, lk_miss, ne_eq, Nat.reduceEqDiff, not_false_eq_true]; rfl) rfl ?_ ?_ <;> intro hc <;> (try simp only [Bool.not_eq_true', Bool.not_eq_false', decide_eq_true_eq, decide_eq_false_iff_not, Bool.not_true, Bool.not_false, Bool.not_eq_true, Bool.not_eq_false] at hc) <;> (try simp only [hc, decide_true, decide_false, Bool.not_true, Bool.not_false]))
    | (intro _)
    | (refine And.intro ?_ ?_))
      all_goals first | omega | (unfold bigLen; omega) | exact ⟨_, _, ⟨rfl, rfl⟩, rfl⟩ | exact ⟨_, rfl⟩ | (rename_i hy; simp only [List.mem_singleton] at hy; subst hy; rfl) | skip
end Go.Rad
