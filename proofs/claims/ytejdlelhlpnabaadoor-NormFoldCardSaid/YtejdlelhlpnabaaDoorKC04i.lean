/- Contracts: the document's reader of patterns: items, rows; a pattern. -/
import Derived.Test.YtejdlelhlpnabaaDoorKC04h
set_option linter.all false
namespace Go.Rad
open Go Go.Proofs
set_option linter.all false
set_option maxRecDepth 20000
set_option maxHeartbeats 4000000

abbrev repN (k lo hi : Int) : Node := ⟨5, ISet.none, [k], lo, hi, ByteArray.empty⟩
def itemLoop (s : ByteArray) : Nat → Rd → Int → Option (Rd × Int)
  | 0, _, _ => none
  | f + 1, r, k =>
    if 100000 < r.nodes.length then none
    else if endsB s r = true then some (r, k)
    else if bI s r.p = 42 then itemLoop s f (putR (r.next 1) (repN k 0 (-1))) r.nodes.length
    else if bI s r.p = 43 then itemLoop s f (putR (r.next 1) (repN k 1 (-1))) r.nodes.length
    else if bI s r.p = 63 then itemLoop s f (putR (r.next 1) (repN k 0 1)) r.nodes.length
    else if bI s r.p = 123 then none
    else some (r, k)
/-- An item: an atom, and how often. (Of bounds in braces nothing is told.) -/
def itemR (s : ByteArray) (F : Nat) (r : Rd) : Option (Rd × Int) :=
  match atomR s F r with
  | none => none
  | some (q, k) => itemLoop s F q k
theorem itemR_c (s : ByteArray) (hs : s.size ≤ 1000000) (F : Nat) (r q : Rd) (v : Int) (g g1 : Nat) (h : itemR s F r = some (q, v)) :
    ACall Tryd.prog 59 [.bx 1000 g 0] (rsto g g1 s r) fun x s' => x = .int .i64 v ∧ ∃ h1, s' = rsto g h1 s q := by
  unfold itemR at h
  cases ha : atomR s F r with
  | none => rw [ha] at h; cases h
  | some w =>
    obtain ⟨⟨wp, wn, wd, we, ww⟩, k⟩ := w
    rw [ha] at h
    simp only at h
    have hat := atomR_c s hs F r _ k g g1 ha
    obtain ⟨p, ns, deep, e, wh⟩ := r
    simp only [rsto] at hat ⊢
    refine ACall.enter Tryd.func59 rfl (by kernel_rfl) (Nat.le_of_ble_eq_true rfl) ?_; simp only [initTm, Nat.reduceAdd]
    repeat' (first
    | refine AGood.seq ?_ | refine AGood.skip ?_ | refine AGood.block ?_ | refine AGood.inBlock ?_ | refine AGood.exit rfl ?_
    | ((first
    | (refine AGood.reg LL_ok [] [0, 2, 3, 4, 5, 6, 11, 22, 32, 42, 52, 90] (by kernel_rfl) ?_; intro K hK)
    | (refine AGood.at 4 ?_; refine AGood.drawn LL_ok mixed [] 10 [0, 1, 2, 3, 4, 5, 6, 7, 8, 9] [0, 2, 3, 4, 5, 6, 11, 22, 32, 42, 52, 90] (by kernel_rfl) (by rfl) ?_; intro K hK)
    | (refine AGood.at 14 ?_; refine AGood.drawn LL_ok mixed [] 29 [0, 1, 2, 3, 4, 5, 6, 7, 8, 9, 10, 11, 12, 13, 14, 15, 16, 17, 18, 19, 20, 21, 22, 23, 24, 25, 26, 27, 28] [0, 2, 3, 4, 5, 6, 11, 22, 32, 42, 52, 90] (by kernel_rfl) (by rfl) ?_; intro K hK)
    | (refine ACall.mono hat ?_; rintro _ _ ⟨rfl, h1, rfl⟩)
    | (refine gd_split ?_ ?_ <;> intro hb <;> (try simp only [Bool.not_eq_true', Bool.not_eq_false', decide_eq_true_eq, decide_eq_false_iff_not, Bool.not_true, Bool.not_false, Bool.not_eq_true, Bool.not_eq_false] at hb) <;> (try simp only [hb]))
    | refine AGood.retF LL_ok [1000, 1001] [.tmp 2] rfl ?_
    | refine AGood.doneF LL_ok [1000, 1001] [.tmp 2] rfl ?_) <;> (try simp only [go_sem, Nat.reduceAdd, Nat.reduceSub, Nat.reduceMul, Nat.reduceLT, Nat.reduceLeDiff, Nat.reduceEqDiff, Nat.reduceDiv, Nat.reduceBEq, Int.reduceNeg, reduceCtorEq, ↓reduceIte, Int.reduceEq, Int.reduceLT, Int.reduceLE, Int.reduceToNat, Int.reduceAdd, Int.reduceSub, Int.reduceMul, Nat.reducePow, Nat.reduceBNe]))
    | (refine hK _ _ ?_; clear hK K; simp only [prune, List.map_cons, List.map_nil, lk_hit, lk_miss, lk_nil, ne_eq, Nat.reduceEqDiff, not_false_eq_true])
    | (refine AGood.condT ?_ rfl ?_; focus (simp only [ev_tmp, ev_const, oc_bool, lk_hit, lk_miss, ne_eq, Nat.reduceEqDiff, not_false_eq_true]; done))
    | (refine AGood.condF ?_ rfl ?_; focus (simp only [ev_tmp, ev_const, oc_bool, lk_hit, lk_miss, ne_eq, Nat.reduceEqDiff, not_false_eq_true]; done))
    | (refine AGood.cond (by simp only [ev_tmp, ev_const, oc_bool, lk_hit, lk_miss, ne_eq, Nat.reduceEqDiff, not_false_eq_true]; rfl) rfl ?_ ?_ <;> intro hc <;> (try simp only [Bool.not_eq_true', Bool.not_eq_false', decide_eq_true_eq, decide_eq_false_iff_not, Bool.not_true, Bool.not_false, Bool.not_eq_true, Bool.not_eq_false] at hc) <;> (try simp only [hc, decide_true, decide_false, Bool.not_true, Bool.not_false]))
    | (intro _)
    | (refine And.intro ?_ ?_))
    refine AGood.prune [0, 3] ?_; simp only [prune, List.map_cons, List.map_nil, lk_hit, lk_miss, lk_nil, ne_eq, Nat.reduceEqDiff, not_false_eq_true]
    refine AGood.loopInv (α := Nat × Rd × Int × Nat) (fun x => ([(0, .bx 1000 g 0), (3, .int .i64 x.2.2.1)], rsto g x.2.2.2 s x.2.1)) (fun x => itemLoop s x.1 x.2.1 x.2.2.1 = some (q, v)) (fun x => x.1) (F, ⟨wp, wn, wd, we, ww⟩, k, h1) h rfl ?_
    rintro ⟨f, ⟨cp, cn, cd, ce, cw⟩, k2, hh⟩ q3 ih
    simp only at q3 ih ⊢
    cases f with
    | zero => simp [itemLoop] at q3
    | succ f =>
      rw [itemLoop] at q3
      split at q3
      · cases q3
      rename_i hln
      simp only at hln
      have hends2 := ends_c s ⟨cp, cn, cd, ce, cw⟩ g hh
      cases he2 : endsB s ⟨cp, cn, cd, ce, cw⟩
      · simp only [he2, Bool.false_eq_true, if_false] at q3
        rw [he2] at hends2
        have he2' := he2
        simp only [endsB, Bool.or_eq_false_iff, decide_eq_false_iff_not, Decidable.not_not] at he2'
        obtain ⟨he3, rfl⟩ := he2'
        have j0 : (0 : Int) ≤ cp := by omega
        have j1 : (cp : Int) < s.size := by omega
        have j2 : (cp : Int) + 1 = ((cp + 1 : Nat) : Int) := by omega
        by_cases h42 : bI s cp = 42
        · rw [if_pos h42] at q3
          have hput := putR_c s ⟨cp + 1, cn, cd, 0, cw⟩ g hh (repN k2 0 (-1)) false (by simp only; omega)
          simp only [rsto, Node.cellsF, Rd.next] at hends2 hput ih q3 ⊢
          repeat' (first
    | refine AGood.seq ?_ | refine AGood.skip ?_ | refine AGood.block ?_ | refine AGood.inBlock ?_ | refine AGood.exit rfl ?_
    | ((first
    | (refine AGood.reg LL_ok [93] [0, 2, 3, 4, 5, 6, 11, 22, 32, 42, 52, 90] (by kernel_rfl) ?_; intro K hK)
    | (refine AGood.at 4 ?_; refine AGood.drawn LL_ok mixed [93] 10 [0, 1, 2, 3, 4, 5, 6, 7, 8, 9] [0, 2, 3, 4, 5, 6, 11, 22, 32, 42, 52, 90] (by kernel_rfl) (by rfl) ?_; intro K hK)
    | (refine AGood.at 14 ?_; refine AGood.drawn LL_ok mixed [93] 29 [0, 1, 2, 3, 4, 5, 6, 7, 8, 9, 10, 11, 12, 13, 14, 15, 16, 17, 18, 19, 20, 21, 22, 23, 24, 25, 26, 27, 28] [0, 2, 3, 4, 5, 6, 11, 22, 32, 42, 52, 90] (by kernel_rfl) (by rfl) ?_; intro K hK)
    | (refine ACall.mono hends2 ?_; rintro _ _ ⟨rfl, rfl⟩)
    | (refine ACall.mono hput ?_; rintro _ _ ⟨rfl, h2, rfl⟩)
    | (refine gd_split ?_ ?_ <;> intro hb <;> (try simp only [Bool.not_eq_true', Bool.not_eq_false', decide_eq_true_eq, decide_eq_false_iff_not, Bool.not_true, Bool.not_false, Bool.not_eq_true, Bool.not_eq_false] at hb) <;> (try simp only [hb]))
    | refine AGood.retF LL_ok [1000, 1001] [.tmp 2] rfl ?_
    | refine AGood.doneF LL_ok [1000, 1001] [.tmp 2] rfl ?_) <;> (try simp only [go_sem, Nat.reduceAdd, Nat.reduceSub, Nat.reduceMul, Nat.reduceLT, Nat.reduceLeDiff, Nat.reduceEqDiff, Nat.reduceDiv, Nat.reduceBEq, Int.reduceNeg, reduceCtorEq, ↓reduceIte, Int.reduceEq, Int.reduceLT, Int.reduceLE, Int.reduceToNat, Int.reduceAdd, Int.reduceSub, Int.reduceMul, Nat.reducePow, Nat.reduceBNe, j0, j1, j2, h42, sbyte_bt, ba_empty, ISet.none]))
    | (refine hK _ _ ?_; clear hK K; simp only [prune, List.map_cons, List.map_nil, lk_hit, lk_miss, lk_nil, ne_eq, Nat.reduceEqDiff, not_false_eq_true])
    | (refine AGood.condT ?_ rfl ?_; focus (simp only [ev_tmp, ev_const, oc_bool, lk_hit, lk_miss, ne_eq, Nat.reduceEqDiff, not_false_eq_true]; done))
    | (refine AGood.condF ?_ rfl ?_; focus (simp only [ev_tmp, ev_const, oc_bool, lk_hit, lk_miss, ne_eq, Nat.reduceEqDiff, not_false_eq_true]; done))
    | (refine AGood.cond (by simp only [ev_tmp, ev_const, oc_bool, lk_hit, lk_miss, ne_eq, Nat.reduceEqDiff, not_false_eq_true]; rfl) rfl ?_ ?_ <;> intro hc <;> (try simp only [Bool.not_eq_true', Bool.not_eq_false', decide_eq_true_eq, decide_eq_false_iff_not, Bool.not_true, Bool.not_false, Bool.not_eq_true, Bool.not_eq_false] at hc) <;> (try simp only [hc, decide_true, decide_false, Bool.not_true, Bool.not_false]))
    | (intro _)
    | (refine And.intro ?_ ?_))
          all_goals first | omega | (unfold bigLen; omega) | exact ⟨_, _, ⟨rfl, rfl⟩, rfl⟩ | exact ⟨_, rfl⟩ | (rename_i hy; simp only [List.mem_singleton] at hy; subst hy; rfl) | skip
          refine AGood.prune [0, 3] ?_; simp only [prune, List.map_cons, List.map_nil, lk_hit, lk_miss, lk_nil, ne_eq, Nat.reduceEqDiff, not_false_eq_true]
          exact (ih (f, _, _, h2) q3 (by simp only; omega)).cast rfl rfl
        · rw [if_neg h42] at q3
          by_cases h43 : bI s cp = 43
          · rw [if_pos h43] at q3
            have hput := putR_c s ⟨cp + 1, cn, cd, 0, cw⟩ g hh (repN k2 1 (-1)) false (by simp only; omega)
            simp only [rsto, Node.cellsF, Rd.next] at hends2 hput ih q3 ⊢
            repeat' (first
    | refine AGood.seq ?_ | refine AGood.skip ?_ | refine AGood.block ?_ | refine AGood.inBlock ?_ | refine AGood.exit rfl ?_
    | ((first
    | (refine AGood.reg LL_ok [93] [0, 2, 3, 4, 5, 6, 11, 22, 32, 42, 52, 90] (by kernel_rfl) ?_; intro K hK)
    | (refine AGood.at 4 ?_; refine AGood.drawn LL_ok mixed [93] 10 [0, 1, 2, 3, 4, 5, 6, 7, 8, 9] [0, 2, 3, 4, 5, 6, 11, 22, 32, 42, 52, 90] (by kernel_rfl) (by rfl) ?_; intro K hK)
    | (refine AGood.at 14 ?_; refine AGood.drawn LL_ok mixed [93] 29 [0, 1, 2, 3, 4, 5, 6, 7, 8, 9, 10, 11, 12, 13, 14, 15, 16, 17, 18, 19, 20, 21, 22, 23, 24, 25, 26, 27, 28] [0, 2, 3, 4, 5, 6, 11, 22, 32, 42, 52, 90] (by kernel_rfl) (by rfl) ?_; intro K hK)
    | (refine ACall.mono hends2 ?_; rintro _ _ ⟨rfl, rfl⟩)
    | (refine ACall.mono hput ?_; rintro _ _ ⟨rfl, h2, rfl⟩)
    | (refine gd_split ?_ ?_ <;> intro hb <;> (try simp only [Bool.not_eq_true', Bool.not_eq_false', decide_eq_true_eq, decide_eq_false_iff_not, Bool.not_true, Bool.not_false, Bool.not_eq_true, Bool.not_eq_false] at hb) <;> (try simp only [hb]))
    | refine AGood.retF LL_ok [1000, 1001] [.tmp 2] rfl ?_
    | refine AGood.doneF LL_ok [1000, 1001] [.tmp 2] rfl ?_) <;> (try simp only [go_sem, Nat.reduceAdd, Nat.reduceSub, Nat.reduceMul, Nat.reduceLT, Nat.reduceLeDiff, Nat.reduceEqDiff, Nat.reduceDiv, Nat.reduceBEq, Int.reduceNeg, reduceCtorEq, ↓reduceIte, Int.reduceEq, Int.reduceLT, Int.reduceLE, Int.reduceToNat, Int.reduceAdd, Int.reduceSub, Int.reduceMul, Nat.reducePow, Nat.reduceBNe, j0, j1, j2, h42, h43, sbyte_bt, ba_empty, ISet.none]))
    | (refine hK _ _ ?_; clear hK K; simp only [prune, List.map_cons, List.map_nil, lk_hit, lk_miss, lk_nil, ne_eq, Nat.reduceEqDiff, not_false_eq_true])
    | (refine AGood.condT ?_ rfl ?_; focus (simp only [ev_tmp, ev_const, oc_bool, lk_hit, lk_miss, ne_eq, Nat.reduceEqDiff, not_false_eq_true]; done))
    | (refine AGood.condF ?_ rfl ?_; focus (simp only [ev_tmp, ev_const, oc_bool, lk_hit, lk_miss, ne_eq, Nat.reduceEqDiff, not_false_eq_true]; done))
    | (refine AGood.cond (by simp only [ev_tmp, ev_const, oc_bool, lk_hit, lk_miss, ne_eq, Nat.reduceEqDiff, not_false_eq_true]; rfl) rfl ?_ ?_ <;> intro hc <;> (try simp only [Bool.not_eq_true', Bool.not_eq_false', decide_eq_true_eq, decide_eq_false_iff_not, Bool.not_true, Bool.not_false, Bool.not_eq_true, Bool.not_eq_false] at hc) <;> (try simp only [hc, decide_true, decide_false, Bool.not_true, Bool.not_false]))
    | (intro _)
    | (refine And.intro ?_ ?_))
            all_goals first | omega | (unfold bigLen; omega) | exact ⟨_, _, ⟨rfl, rfl⟩, rfl⟩ | exact ⟨_, rfl⟩ | (rename_i hy; simp only [List.mem_singleton] at hy; subst hy; rfl) | skip
            refine AGood.prune [0, 3] ?_; simp only [prune, List.map_cons, List.map_nil, lk_hit, lk_miss, lk_nil, ne_eq, Nat.reduceEqDiff, not_false_eq_true]
            exact (ih (f, _, _, h2) q3 (by simp only; omega)).cast rfl rfl
          · rw [if_neg h43] at q3
            by_cases h63 : bI s cp = 63
            · rw [if_pos h63] at q3
              have hput := putR_c s ⟨cp + 1, cn, cd, 0, cw⟩ g hh (repN k2 0 1) false (by simp only; omega)
              simp only [rsto, Node.cellsF, Rd.next] at hends2 hput ih q3 ⊢
              repeat' (first
    | refine AGood.seq ?_ | refine AGood.skip ?_ | refine AGood.block ?_ | refine AGood.inBlock ?_ | refine AGood.exit rfl ?_
    | ((first
    | (refine AGood.reg LL_ok [93] [0, 2, 3, 4, 5, 6, 11, 22, 32, 42, 52, 90] (by kernel_rfl) ?_; intro K hK)
    | (refine AGood.at 4 ?_; refine AGood.drawn LL_ok mixed [93] 10 [0, 1, 2, 3, 4, 5, 6, 7, 8, 9] [0, 2, 3, 4, 5, 6, 11, 22, 32, 42, 52, 90] (by kernel_rfl) (by rfl) ?_; intro K hK)
    | (refine AGood.at 14 ?_; refine AGood.drawn LL_ok mixed [93] 29 [0, 1, 2, 3, 4, 5, 6, 7, 8, 9, 10, 11, 12, 13, 14, 15, 16, 17, 18, 19, 20, 21, 22, 23, 24, 25, 26, 27, 28] [0, 2, 3, 4, 5, 6, 11, 22, 32, 42, 52, 90] (by kernel_rfl) (by rfl) ?_; intro K hK)
    | (refine ACall.mono hends2 ?_; rintro _ _ ⟨rfl, rfl⟩)
    | (refine ACall.mono hput ?_; rintro _ _ ⟨rfl, h2, rfl⟩)
    | (refine gd_split ?_ ?_ <;> intro hb <;> (try simp only [Bool.not_eq_true', Bool.not_eq_false', decide_eq_true_eq, decide_eq_false_iff_not, Bool.not_true, Bool.not_false, Bool.not_eq_true, Bool.not_eq_false] at hb) <;> (try simp only [hb]))
    | refine AGood.retF LL_ok [1000, 1001] [.tmp 2] rfl ?_
    | refine AGood.doneF LL_ok [1000, 1001] [.tmp 2] rfl ?_) <;> (try simp only [go_sem, Nat.reduceAdd, Nat.reduceSub, Nat.reduceMul, Nat.reduceLT, Nat.reduceLeDiff, Nat.reduceEqDiff, Nat.reduceDiv, Nat.reduceBEq, Int.reduceNeg, reduceCtorEq, ↓reduceIte, Int.reduceEq, Int.reduceLT, Int.reduceLE, Int.reduceToNat, Int.reduceAdd, Int.reduceSub, Int.reduceMul, Nat.reducePow, Nat.reduceBNe, j0, j1, j2, h42, h43, h63, sbyte_bt, ba_empty, ISet.none]))
    | (refine hK _ _ ?_; clear hK K; simp only [prune, List.map_cons, List.map_nil, lk_hit, lk_miss, lk_nil, ne_eq, Nat.reduceEqDiff, not_false_eq_true])
    | (refine AGood.condT ?_ rfl ?_; focus (simp only [ev_tmp, ev_const, oc_bool, lk_hit, lk_miss, ne_eq, Nat.reduceEqDiff, not_false_eq_true]; done))
    | (refine AGood.condF ?_ rfl ?_; focus (simp only [ev_tmp, ev_const, oc_bool, lk_hit, lk_miss, ne_eq, Nat.reduceEqDiff, not_false_eq_true]; done))
    | (refine AGood.cond (by simp only [ev_tmp, ev_const, oc_bool, lk_hit, lk_miss, ne_eq, Nat.reduceEqDiff, not_false_eq_true]; rfl) rfl ?_ ?_ <;> intro hc <;> (try simp only [Bool.not_eq_true', Bool.not_eq_false', decide_eq_true_eq, decide_eq_false_iff_not, Bool.not_true, Bool.not_false, Bool.not_eq_true, Bool.not_eq_false] at hc) <;> (try simp only [hc, decide_true, decide_false, Bool.not_true, Bool.not_false]))
    | (intro _)
    | (refine And.intro ?_ ?_))
              all_goals first | omega | (unfold bigLen; omega) | exact ⟨_, _, ⟨rfl, rfl⟩, rfl⟩ | exact ⟨_, rfl⟩ | (rename_i hy; simp only [List.mem_singleton] at hy; subst hy; rfl) | skip
              refine AGood.prune [0, 3] ?_; simp only [prune, List.map_cons, List.map_nil, lk_hit, lk_miss, lk_nil, ne_eq, Nat.reduceEqDiff, not_false_eq_true]
              exact (ih (f, _, _, h2) q3 (by simp only; omega)).cast rfl rfl
            · rw [if_neg h63] at q3
              by_cases h123 : bI s cp = 123
              · rw [if_pos h123] at q3; cases q3
              · rw [if_neg h123] at q3
                simp only [Option.some.injEq, Prod.mk.injEq] at q3
                obtain ⟨rfl, rfl⟩ := q3
                simp only [rsto] at hends2 ⊢
                repeat' (first
    | refine AGood.seq ?_ | refine AGood.skip ?_ | refine AGood.block ?_ | refine AGood.inBlock ?_ | refine AGood.exit rfl ?_
    | ((first
    | (refine AGood.reg LL_ok [] [0, 2, 3, 4, 5, 6, 11, 22, 32, 42, 52, 90] (by kernel_rfl) ?_; intro K hK)
    | (refine AGood.at 4 ?_; refine AGood.drawn LL_ok mixed [] 10 [0, 1, 2, 3, 4, 5, 6, 7, 8, 9] [0, 2, 3, 4, 5, 6, 11, 22, 32, 42, 52, 90] (by kernel_rfl) (by rfl) ?_; intro K hK)
    | (refine AGood.at 14 ?_; refine AGood.drawn LL_ok mixed [] 29 [0, 1, 2, 3, 4, 5, 6, 7, 8, 9, 10, 11, 12, 13, 14, 15, 16, 17, 18, 19, 20, 21, 22, 23, 24, 25, 26, 27, 28] [0, 2, 3, 4, 5, 6, 11, 22, 32, 42, 52, 90] (by kernel_rfl) (by rfl) ?_; intro K hK)
    | (refine ACall.mono hends2 ?_; rintro _ _ ⟨rfl, rfl⟩)
    | (refine gd_split ?_ ?_ <;> intro hb <;> (try simp only [Bool.not_eq_true', Bool.not_eq_false', decide_eq_true_eq, decide_eq_false_iff_not, Bool.not_true, Bool.not_false, Bool.not_eq_true, Bool.not_eq_false] at hb) <;> (try simp only [hb]))
    | refine AGood.retF LL_ok [1000, 1001] [.tmp 2] rfl ?_
    | refine AGood.doneF LL_ok [1000, 1001] [.tmp 2] rfl ?_) <;> (try simp only [go_sem, Nat.reduceAdd, Nat.reduceSub, Nat.reduceMul, Nat.reduceLT, Nat.reduceLeDiff, Nat.reduceEqDiff, Nat.reduceDiv, Nat.reduceBEq, Int.reduceNeg, reduceCtorEq, ↓reduceIte, Int.reduceEq, Int.reduceLT, Int.reduceLE, Int.reduceToNat, Int.reduceAdd, Int.reduceSub, Int.reduceMul, Nat.reducePow, Nat.reduceBNe, j0, j1, j2, h42, h43, h63, h123, sbyte_bt]))
    | (refine hK _ _ ?_; clear hK K; simp only [prune, List.map_cons, List.map_nil, lk_hit, lk_miss, lk_nil, ne_eq, Nat.reduceEqDiff, not_false_eq_true])
    | (refine AGood.condT ?_ rfl ?_; focus (simp only [ev_tmp, ev_const, oc_bool, lk_hit, lk_miss, ne_eq, Nat.reduceEqDiff, not_false_eq_true]; done))
    | (refine AGood.condF ?_ rfl ?_; focus (simp only [ev_tmp, ev_const, oc_bool, lk_hit, lk_miss, ne_eq, Nat.reduceEqDiff, not_false_eq_true]; done))
    | (refine AGood.cond (by simp only [ev_tmp, ev_const, oc_bool, lk_hit, lk_miss, ne_eq, Nat.reduceEqDiff, not_false_eq_true]; rfl) rfl ?_ ?_ <;> intro hc <;> (try simp only [Bool.not_eq_true', Bool.not_eq_false', decide_eq_true_eq, decide_eq_false_iff_not, Bool.not_true, Bool.not_false, Bool.not_eq_true, Bool.not_eq_false] at hc) <;> (try simp only [hc, decide_true, decide_false, Bool.not_true, Bool.not_false]))
    | (intro _)
    | (refine And.intro ?_ ?_))
                all_goals first | omega | (unfold bigLen; omega) | exact ⟨_, _, ⟨rfl, rfl⟩, rfl⟩ | exact ⟨_, rfl⟩ | (rename_i hy; simp only [List.mem_singleton] at hy; subst hy; rfl) | skip
      · simp only [he2, if_true, Option.some.injEq, Prod.mk.injEq] at q3
        obtain ⟨rfl, rfl⟩ := q3
        rw [he2] at hends2
        simp only [rsto] at hends2 ⊢
        repeat' (first
    | refine AGood.seq ?_ | refine AGood.skip ?_ | refine AGood.block ?_ | refine AGood.inBlock ?_ | refine AGood.exit rfl ?_
    | ((first
    | (refine AGood.reg LL_ok [] [0, 2, 3, 4, 5, 6, 11, 22, 32, 42, 52, 90] (by kernel_rfl) ?_; intro K hK)
    | (refine AGood.at 4 ?_; refine AGood.drawn LL_ok mixed [] 10 [0, 1, 2, 3, 4, 5, 6, 7, 8, 9] [0, 2, 3, 4, 5, 6, 11, 22, 32, 42, 52, 90] (by kernel_rfl) (by rfl) ?_; intro K hK)
    | (refine AGood.at 14 ?_; refine AGood.drawn LL_ok mixed [] 29 [0, 1, 2, 3, 4, 5, 6, 7, 8, 9, 10, 11, 12, 13, 14, 15, 16, 17, 18, 19, 20, 21, 22, 23, 24, 25, 26, 27, 28] [0, 2, 3, 4, 5, 6, 11, 22, 32, 42, 52, 90] (by kernel_rfl) (by rfl) ?_; intro K hK)
    | (refine ACall.mono hends2 ?_; rintro _ _ ⟨rfl, rfl⟩)
    | (refine gd_split ?_ ?_ <;> intro hb <;> (try simp only [Bool.not_eq_true', Bool.not_eq_false', decide_eq_true_eq, decide_eq_false_iff_not, Bool.not_true, Bool.not_false, Bool.not_eq_true, Bool.not_eq_false] at hb) <;> (try simp only [hb]))
    | refine AGood.retF LL_ok [1000, 1001] [.tmp 2] rfl ?_
    | refine AGood.doneF LL_ok [1000, 1001] [.tmp 2] rfl ?_) <;> (try simp only [go_sem, Nat.reduceAdd, Nat.reduceSub, Nat.reduceMul, Nat.reduceLT, Nat.reduceLeDiff, Nat.reduceEqDiff, Nat.reduceDiv, Nat.reduceBEq, Int.reduceNeg, reduceCtorEq, ↓reduceIte, Int.reduceEq, Int.reduceLT, Int.reduceLE, Int.reduceToNat, Int.reduceAdd, Int.reduceSub, Int.reduceMul, Nat.reducePow, Nat.reduceBNe]))
    | (refine hK _ _ ?_; clear hK K; simp only [prune, List.map_cons, List.map_nil, lk_hit, lk_miss, lk_nil, ne_eq, Nat.reduceEqDiff, not_false_eq_true])
    | (refine AGood.condT ?_ rfl ?_; focus (simp only [ev_tmp, ev_const, oc_bool, lk_hit, lk_miss, ne_eq, Nat.reduceEqDiff, not_false_eq_true]; done))
    | (refine AGood.condF ?_ rfl ?_; focus (simp only [ev_tmp, ev_const, oc_bool, lk_hit, lk_miss, ne_eq, Nat.reduceEqDiff, not_false_eq_true]; done))
    | (refine AGood.cond (by simp only [ev_tmp, ev_const, oc_bool, lk_hit, lk_miss, ne_eq, Nat.reduceEqDiff, not_false_eq_true]; rfl) rfl ?_ ?_ <;> intro hc <;> (try simp only [Bool.not_eq_true', Bool.not_eq_false', decide_eq_true_eq, decide_eq_false_iff_not, Bool.not_true, Bool.not_false, Bool.not_eq_true, Bool.not_eq_false] at hc) <;> (try simp only [hc, decide_true, decide_false, Bool.not_true, Bool.not_false]))
    | (intro _)
    | (refine And.intro ?_ ?_))
        all_goals first | omega | (unfold bigLen; omega) | exact ⟨_, _, ⟨rfl, rfl⟩, rfl⟩ | exact ⟨_, rfl⟩ | (rename_i hy; simp only [List.mem_singleton] at hy; subst hy; rfl) | skip
end Go.Rad
