/- NormOrder: what it computes. -/
import Derived.Test.YtejdlelhlpnabaaDoorKC06h
import Derived.Test.YtejdlelhlpnabaaDoorKC04a
import Derived.Test.YtejdlelhlpnabaaDoorKL06h
set_option linter.all false
namespace Go.Rad
open Go Go.Proofs
set_option linter.all false
set_option maxRecDepth 20000
set_option maxHeartbeats 4000000

abbrev zf (d : Df) : Df := ⟨d.name, foldT d.l⟩
theorem normOrder_c (hsh : ACall Tryd.prog 7 [] [] fun r s => r = .bool true ∧ s = []) (l : List Node) (ds : List Df) (hl : nodesOk l) (hd : dfsOk ds) (hl2 : ∀ n ∈ l, n.s.okI) (hd2 : ∀ d ∈ ds, ∀ n ∈ d.l, n.s.okI) :
    ACall Tryd.prog 3 [.sl true false (nodes l), .sl true false (defs ds)] [] fun r _ => r = .bool true := by
  have hfew := few_c l hl.1
  have hsome := some_c ds hd.1 fun d h => (hd.2 d h).2.1
  obtain ⟨hs1, hs2⟩ := some_ok hd
  have hs3 : ∀ d ∈ someS ds, ∀ n ∈ d.l, n.s.okI := fun d h => hd2 d (List.mem_of_mem_take (List.mem_filter.1 h).1)
  have hs6 : (someS ds).length ≤ 6 := by
    refine Nat.le_trans (List.length_filter_le _ _) ?_
    simp; omega
  generalize someS ds = X at hsome hs1 hs2 hs3 hs6
  clear hd hd2
  have hl4 : ∀ n ∈ l.take 400, n.name.size ≤ maxLen ∧ n.l.length ≤ maxLen := fun n h => hl.2 n (List.mem_of_mem_take h)
  have hl5 : ∀ n ∈ l.take 400, n.s.okI := fun n h => hl2 n (List.mem_of_mem_take h)
  generalize l.take 400 = L at hfew hl4 hl5
  clear hl2
  refine ACall.enter Tryd.func3 rfl (by kernel_rfl) (Nat.le_of_ble_eq_true rfl) ?_; simp only [initTm, Nat.reduceAdd]
  repeat' (first
    | refine AGood.seq ?_ | refine AGood.skip ?_ | refine AGood.block ?_ | refine AGood.inBlock ?_ | refine AGood.exit rfl ?_
    | ((first
    | (refine AGood.reg LL_ok [] [0, 1, 4, 5, 6, 7, 8, 9, 10, 11, 12, 13, 14, 15, 20, 21, 22, 73, 75] (by kernel_rfl) ?_; intro K hK)
    | (refine AGood.drawn LL_ok mixed [] 11 [0, 1, 2, 3, 4, 5, 6, 7, 8, 9, 10, 11, 12, 13, 14, 15] [0, 1, 4, 5, 6, 7, 8, 9, 10, 11, 12, 13, 14, 15, 20, 21, 22, 73, 75] (by kernel_rfl) (by rfl) ?_; intro K hK)
    | (refine ACall.mono (ACall.alone (hsh) rfl rfl rfl) ?_; rintro _ _ ⟨rfl, rfl⟩)
    | (refine ACall.mono (ACall.alone (hsome) rfl rfl rfl) ?_; rintro _ _ ⟨rfl, rfl⟩)
    | (refine gd_split ?_ ?_ <;> intro hb <;> (try simp only [Bool.not_eq_true', Bool.not_eq_false', decide_eq_true_eq, decide_eq_false_iff_not, Bool.not_true, Bool.not_false, Bool.not_eq_true, Bool.not_eq_false] at hb) <;> (try simp only [hb]))
    | refine AGood.retF LL_ok [] [.tmp 4] rfl ?_
    | refine AGood.doneF LL_ok [] [.tmp 4] rfl ?_) <;> (try simp only [go_sem, Nat.reduceAdd, Nat.reduceSub, Nat.reduceMul, Nat.reduceLT, Nat.reduceLeDiff, Nat.reduceEqDiff, Nat.reduceDiv, Nat.reduceBEq, Int.reduceNeg, reduceCtorEq, ↓reduceIte, Int.reduceEq, Int.reduceLT, Int.reduceLE, Int.reduceToNat, Int.reduceAdd, Int.reduceSub, Int.reduceMul, Nat.reducePow, Nat.reduceBNe]))
    | (refine hK _ _ ?_; clear hK K; simp only [prune, List.map_cons, List.map_nil, lk_hit, lk_miss, lk_nil, ne_eq, Nat.reduceEqDiff, not_false_eq_true])
    | (refine AGood.condT ?_ rfl ?_; focus (simp only [ev_tmp, ev_const, oc_bool, lk_hit, lk_miss, ne_eq, Nat.reduceEqDiff, not_false_eq_true]; done))
    | (refine AGood.condF ?_ rfl ?_; focus (simp only [ev_tmp, ev_const, oc_bool, lk_hit, lk_miss, ne_eq, Nat.reduceEqDiff, not_false_eq_true]; done))
    | (refine AGood.cond (by simp only [ev_tmp, ev_const, oc_bool, lk_hit, lk_miss, ne_eq, Nat.reduceEqDiff, not_false_eq_true]; rfl) rfl ?_ ?_ <;> intro hc <;> (try simp only [Bool.not_eq_true', Bool.not_eq_false', decide_eq_true_eq, decide_eq_false_iff_not, Bool.not_true, Bool.not_false, Bool.not_eq_true, Bool.not_eq_false] at hc) <;> (try simp only [hc, decide_true, decide_false, Bool.not_true, Bool.not_false]))
    | (intro _)
    | (refine And.intro ?_ ?_))
  refine AGood.ownTm 7 900 2 (by decide) rfl fun ga => ?_
  refine AGood.ownTm 8 901 2 (by decide) rfl fun gb => ?_
  simp only [go_sem, Nat.reduceAdd, Nat.reduceSub, Nat.reduceMul, Nat.reduceLT, Nat.reduceLeDiff, Nat.reduceEqDiff, Nat.reduceDiv, Nat.reduceBEq, Int.reduceNeg, reduceCtorEq, ↓reduceIte, Int.reduceEq, Int.reduceLT, Int.reduceLE, Int.reduceToNat, Int.reduceAdd, Int.reduceSub, Int.reduceMul, Nat.reducePow, Nat.reduceBNe]
  refine AGood.prune [0, 5, 6, 7, 8, 20, 21] ?_; simp only [prune, List.map_cons, List.map_nil, lk_hit, lk_miss, lk_nil, ne_eq, Nat.reduceEqDiff, not_false_eq_true]
  refine AGood.loopInv (α := Nat × Nat × Nat) (fun x => ([(0, .sl true false (nodes l)), (5, .bool true), (6, .sl true false (defs X)), (7, .osl 900 x.2.1 0 x.1), (8, .osl 901 x.2.2 0 x.1), (20, .int .i64 X.length), (21, .int .i64 x.1)], [(900, (x.2.1, .row 2 (defs (X.reverse.take x.1)))), (901, (x.2.2, .row 2 (defs ((X.take x.1).map zf))))])) (fun x => x.1 ≤ X.length) (fun x => X.length - x.1) (0, ga, gb) (Nat.zero_le _) rfl ?_
  rintro ⟨i, g1, g2⟩ hi ih
  simp only at hi ih ⊢
  by_cases hle : i < X.length
  · have e4 : (i : Int) < X.length := by omega
    have e5 : (0 : Int) ≤ i := by omega
    have hx : X[i]? = some X[i] := List.getElem?_eq_getElem hle
    have hmem := hs2 _ (List.getElem_mem hle)
    have ht : (X.take (i + 1)).map zf = (X.take i).map zf ++ [zf X[i]] := by simp only [take_one hx, List.map_append, List.map_cons, List.map_nil]
    have hlt : X.length - 1 - i < X.length := by omega
    have hx2 : X[X.length - 1 - i]? = some X[X.length - 1 - i] := List.getElem?_eq_getElem hlt
    have hr : X.reverse[i]? = some X[X.length - 1 - i] := by rw [List.getElem?_reverse hle]; exact hx2
    have ht2 := take_one hr
    have e6 : (X.length : Int) - 1 = ((X.length - 1 : Nat) : Int) := by omega
    have e7 : ((X.length - 1 : Nat) : Int) - i = ((X.length - 1 - i : Nat) : Int) := by omega
    have e8 : ((X.length - 1 - i : Nat) : Int) < X.length := by omega
    have hl1 : (defs (X.reverse.take i)).length = i := by simp; omega
    have hl2 : (defs ((X.take i).map zf)).length = i := by simp; omega
    have ih := fun g g' => ih (i + 1, g, g') (by simp only; omega) (by simp only; omega)
    simp only [ht, ht2] at ih
    generalize X[i] = d at hx hmem ih ht
    generalize X[X.length - 1 - i] = d2 at hx2 ih hr ht2
    generalize (X.take i).map zf = zs at ih hl2 ht ⊢
    generalize X.reverse.take i = ys at ih hl1 ht2 ⊢
    obtain ⟨dn, dl⟩ := d
    obtain ⟨d2n, d2l⟩ := d2
    have hf := foldF_c true false dl hmem.2
    generalize X.length - 1 - i = j at e7 e8 hx2
    generalize X.length - 1 = m at e6 e7
    repeat' (first
    | refine AGood.seq ?_ | refine AGood.skip ?_ | refine AGood.block ?_ | refine AGood.inBlock ?_ | refine AGood.exit rfl ?_
    | ((first
    | (refine AGood.reg LL_ok [33, 48] [0, 1, 4, 5, 6, 7, 8, 9, 10, 11, 12, 13, 14, 15, 20, 21, 22, 73, 75] (by kernel_rfl) ?_; intro K hK)
    | (refine AGood.drawn LL_ok mixed [33, 48] 14 [0, 1, 2, 3, 4, 5, 6, 7, 8, 9, 10, 11, 12, 13, 14, 15] [0, 1, 4, 5, 6, 7, 8, 9, 10, 11, 12, 13, 14, 15, 20, 21, 22, 73, 75] (by kernel_rfl) (by rfl) ?_; intro K hK)
    | (refine ⟨_, ACall.alone hf rfl rfl rfl, ?_⟩)
    | (refine gd_split ?_ ?_ <;> intro hb <;> (try simp only [Bool.not_eq_true', Bool.not_eq_false', decide_eq_true_eq, decide_eq_false_iff_not, Bool.not_true, Bool.not_false, Bool.not_eq_true, Bool.not_eq_false] at hb) <;> (try simp only [hb]))
    | refine AGood.retF LL_ok [] [.tmp 4] rfl ?_
    | refine AGood.doneF LL_ok [] [.tmp 4] rfl ?_) <;> (try simp only [go_sem, Nat.reduceAdd, Nat.reduceSub, Nat.reduceMul, Nat.reduceLT, Nat.reduceLeDiff, Nat.reduceEqDiff, Nat.reduceDiv, Nat.reduceBEq, Int.reduceNeg, reduceCtorEq, ↓reduceIte, Int.reduceEq, Int.reduceLT, Int.reduceLE, Int.reduceToNat, Int.reduceAdd, Int.reduceSub, Int.reduceMul, Nat.reducePow, Nat.reduceBNe, e4, e5, e6, e7, e8, hx, hx2, hl1, hl2, Option.some.injEq, forall_eq']))
    | (refine hK _ _ ?_; clear hK K; simp only [prune, List.map_cons, List.map_nil, lk_hit, lk_miss, lk_nil, ne_eq, Nat.reduceEqDiff, not_false_eq_true])
    | (refine AGood.condT ?_ rfl ?_; focus (simp only [ev_tmp, ev_const, oc_bool, lk_hit, lk_miss, ne_eq, Nat.reduceEqDiff, not_false_eq_true]; done))
    | (refine AGood.condF ?_ rfl ?_; focus (simp only [ev_tmp, ev_const, oc_bool, lk_hit, lk_miss, ne_eq, Nat.reduceEqDiff, not_false_eq_true]; done))
    | (refine AGood.cond (by simp only [ev_tmp, ev_const, oc_bool, lk_hit, lk_miss, ne_eq, Nat.reduceEqDiff, not_false_eq_true]; rfl) rfl ?_ ?_ <;> intro hc <;> (try simp only [Bool.not_eq_true', Bool.not_eq_false', decide_eq_true_eq, decide_eq_false_iff_not, Bool.not_true, Bool.not_false, Bool.not_eq_true, Bool.not_eq_false] at hc) <;> (try simp only [hc, decide_true, decide_false, Bool.not_true, Bool.not_false]))
    | (intro _)
    | (refine And.intro ?_ ?_))
    all_goals first | omega | (unfold bigLen; omega) | exact ⟨_, _, ⟨rfl, rfl⟩, rfl⟩ | exact ⟨_, rfl⟩ | (rename_i hy; simp only [List.mem_singleton] at hy; subst hy; rfl) | skip
    refine AGood.prune [0, 5, 6, 7, 8, 20, 21] ?_; simp only [prune, List.map_cons, List.map_nil, lk_hit, lk_miss, lk_nil, ne_eq, Nat.reduceEqDiff, not_false_eq_true]
    exact (ih _ _).cast rfl (by simp)
  · have e4 : ¬ (i : Int) < X.length := by omega
    have hin : i = X.length := by omega
    subst hin
    clear ih hi
    rw [List.take_of_length_le (by simp), List.take_length]
    have f1 : (defs X.reverse).take X.length = defs X.reverse := List.take_of_length_le (by simp)
    have f2 : (defs (X.map zf)).take X.length = defs (X.map zf) := List.take_of_length_le (by simp)
    have f3 : X.length ≤ X.reverse.length := by simp
    have f4 : X.length ≤ (X.map zf).length := by simp
    have r1 : ∀ d ∈ X.reverse, dfOk d := fun d h => hs2 d (List.mem_reverse.1 h)
    have hexp := expand_c true false true false L X hl4 hs1 hs2
    have hexp2 := expand_c true false true false L X.reverse hl4 (by simpa using hs1) r1
    rw [expand_reverse] at hexp2
    rcases hres : expandS L X with ⟨x, e⟩
    rw [hres] at hexp hexp2
    simp only at hexp hexp2
    by_cases he : e = 0
    · subst he
      obtain ⟨h1, h2, h3, h4⟩ := law_order hl5 hs3 hres
      obtain ⟨hx1, hx2⟩ := rightS_nodesOk h2
      obtain ⟨hy1, hy2⟩ := rightS_nodesOk h3
      obtain ⟨hz1, hz2⟩ := rightS_nodesOk h4
      have hxl : x.length ≤ 100000 := by obtain ⟨_, _, _, h⟩ := rightS_kids h2; omega
      have hzl : (foldT x).length ≤ 100000 := by obtain ⟨_, _, _, h⟩ := rightS_kids h4; omega
      have hX := (expand_ok hres).2.1
      have hzd : ∀ d ∈ X.map zf, dfOk d := by
        intro d hd
        obtain ⟨d', hd', rfl⟩ := List.mem_map.1 hd
        refine ⟨(hs2 d' hd').1, ?_⟩
        have hr := (((rightD_iff X []).1 hX).1 d' hd').2.2
        rw [show (zf d').l = foldT d'.l from rfl, foldT_map hr]
        intro n hn
        obtain ⟨m, hm, rfl⟩ := List.mem_map.1 hn
        exact (hs2 d' hd').2 m hm
      have he3 := fun f f' => expand_c true f true f' (foldT L) (X.map zf) hy2 (by simp; omega) hzd
      rw [h1] at he3
      simp only at he3
      have hfL := foldF_c true false L hl4
      have hfx := fun f => foldF_c true f x hx2
      have hsame := fun q f q' f' => same4uc q f q' f' x x hxl fun n h => (hx2 n h).2
      have hsame2 := fun q f q' f' => same4uc q f q' f' (foldT x) (foldT x) hzl fun n h => (hz2 n h).2
      simp only [decide_true] at hsame hsame2
      generalize foldT x = fx at *
      generalize foldT L = fL at *
      generalize X.map zf = Z at *
      generalize X.reverse = Y at *
      repeat' (first
    | refine AGood.seq ?_ | refine AGood.skip ?_ | refine AGood.block ?_ | refine AGood.inBlock ?_ | refine AGood.exit rfl ?_
    | ((first
    | (refine AGood.at 10 ?_; (refine AGood.freeze 900 rfl ?_; simp only [rfT, rfS, rfO, rf, rf1, f1, f3, true_and, go_sem, Nat.reduceAdd, Nat.reduceSub, Nat.reduceMul, Nat.reduceLT, Nat.reduceLeDiff, Nat.reduceEqDiff, Nat.reduceDiv, Nat.reduceBEq, Int.reduceNeg, reduceCtorEq, ↓reduceIte, Int.reduceEq, Int.reduceLT, Int.reduceLE, Int.reduceToNat, Int.reduceAdd, Int.reduceSub, Int.reduceMul, Nat.reducePow, Nat.reduceBNe]; refine AGood.freeze 901 rfl ?_; simp only [rfT, rfS, rfO, rf, rf1, f2, f4, true_and, go_sem, Nat.reduceAdd, Nat.reduceSub, Nat.reduceMul, Nat.reduceLT, Nat.reduceLeDiff, Nat.reduceEqDiff, Nat.reduceDiv, Nat.reduceBEq, Int.reduceNeg, reduceCtorEq, ↓reduceIte, Int.reduceEq, Int.reduceLT, Int.reduceLE, Int.reduceToNat, Int.reduceAdd, Int.reduceSub, Int.reduceMul, Nat.reducePow, Nat.reduceBNe]); (refine AGood.reg LL_ok [] [0, 1, 4, 5, 6, 7, 8, 9, 10, 11, 12, 13, 14, 15, 20, 21, 22, 73, 75] (by kernel_rfl) ?_; intro K hK))
    | (refine AGood.reg LL_ok [] [0, 1, 4, 5, 6, 7, 8, 9, 10, 11, 12, 13, 14, 15, 20, 21, 22, 73, 75] (by kernel_rfl) ?_; intro K hK)
    | (refine AGood.drawn LL_ok mixed [] 11 [0, 1, 2, 3, 4, 5, 6, 7, 8, 9, 10, 11, 12, 13, 14, 15] [0, 1, 4, 5, 6, 7, 8, 9, 10, 11, 12, 13, 14, 15, 20, 21, 22, 73, 75] (by kernel_rfl) (by rfl) ?_; intro K hK)
    | (refine ACall.mono (ACall.alone (hfew) rfl rfl rfl) ?_; rintro _ _ ⟨rfl, rfl⟩)
    | (refine ACall.mono (ACall.alone (hfL) rfl rfl rfl) ?_; rintro _ _ ⟨rfl, rfl⟩)
    | (refine ACall.mono (ACall.alone (hfx _) rfl rfl rfl) ?_; rintro _ _ ⟨rfl, rfl⟩)
    | (refine ACall.mono (ACall.alone (hsame _ _ _ _) rfl rfl rfl) ?_; rintro _ _ ⟨rfl, rfl⟩)
    | (refine ACall.mono (ACall.alone (hsame2 _ _ _ _) rfl rfl rfl) ?_; rintro _ _ ⟨rfl, rfl⟩)
    | (refine ACall.use [] [] rfl hexp rfl rfl rfl ?_; rintro _ _ ⟨⟨fl, rfl⟩, rfl⟩; refine ⟨.inl rfl, rfl, ?_⟩; simp only [bk, bk1, bkS, delAll, List.map_cons, List.map_nil])
    | (refine ACall.use [] [] rfl hexp2 rfl rfl rfl ?_; rintro _ _ ⟨⟨fl2, rfl⟩, rfl⟩; refine ⟨.inl rfl, rfl, ?_⟩; simp only [bk, bk1, bkS, delAll, List.map_cons, List.map_nil])
    | (refine ACall.use [] [] rfl (he3 _ _) rfl rfl rfl ?_; rintro _ _ ⟨⟨fl3, rfl⟩, rfl⟩; refine ⟨.inl rfl, rfl, ?_⟩; simp only [bk, bk1, bkS, delAll, List.map_cons, List.map_nil])
    | (refine gd_split ?_ ?_ <;> intro hb <;> (try simp only [Bool.not_eq_true', Bool.not_eq_false', decide_eq_true_eq, decide_eq_false_iff_not, Bool.not_true, Bool.not_false, Bool.not_eq_true, Bool.not_eq_false] at hb) <;> (try simp only [hb]))
    | refine AGood.retF LL_ok [] [.tmp 4] rfl ?_
    | refine AGood.doneF LL_ok [] [.tmp 4] rfl ?_) <;> (try simp only [go_sem, Nat.reduceAdd, Nat.reduceSub, Nat.reduceMul, Nat.reduceLT, Nat.reduceLeDiff, Nat.reduceEqDiff, Nat.reduceDiv, Nat.reduceBEq, Int.reduceNeg, reduceCtorEq, ↓reduceIte, Int.reduceEq, Int.reduceLT, Int.reduceLE, Int.reduceToNat, Int.reduceAdd, Int.reduceSub, Int.reduceMul, Nat.reducePow, Nat.reduceBNe, e4]))
    | (refine hK _ _ ?_; clear hK K; simp only [prune, List.map_cons, List.map_nil, lk_hit, lk_miss, lk_nil, ne_eq, Nat.reduceEqDiff, not_false_eq_true])
    | (refine AGood.condT ?_ rfl ?_; focus (simp only [ev_tmp, ev_const, oc_bool, lk_hit, lk_miss, ne_eq, Nat.reduceEqDiff, not_false_eq_true]; done))
    | (refine AGood.condF ?_ rfl ?_; focus (simp only [ev_tmp, ev_const, oc_bool, lk_hit, lk_miss, ne_eq, Nat.reduceEqDiff, not_false_eq_true]; done))
    | (refine AGood.cond (by simp only [ev_tmp, ev_const, oc_bool, lk_hit, lk_miss, ne_eq, Nat.reduceEqDiff, not_false_eq_true]; rfl) rfl ?_ ?_ <;> intro hc <;> (try simp only [Bool.not_eq_true', Bool.not_eq_false', decide_eq_true_eq, decide_eq_false_iff_not, Bool.not_true, Bool.not_false, Bool.not_eq_true, Bool.not_eq_false] at hc) <;> (try simp only [hc, decide_true, decide_false, Bool.not_true, Bool.not_false]))
    | (intro _)
    | (refine And.intro ?_ ?_))
    · have hx : x = [] := by
        have := expand_no (l := L) (ds := X) (by rw [hres]; exact he)
        rw [hres] at this
        exact this
      subst hx
      have hsame := fun q f q' f' => same4uc q f q' f' ([] : List Node) [] (by simp) fun n h => by simp at h
      simp only [decide_true] at hsame
      generalize X.map zf = Z at *
      generalize X.reverse = Y at *
      repeat' (first
    | refine AGood.seq ?_ | refine AGood.skip ?_ | refine AGood.block ?_ | refine AGood.inBlock ?_ | refine AGood.exit rfl ?_
    | ((first
    | (refine AGood.at 10 ?_; (refine AGood.freeze 900 rfl ?_; simp only [rfT, rfS, rfO, rf, rf1, f1, f3, true_and, go_sem, Nat.reduceAdd, Nat.reduceSub, Nat.reduceMul, Nat.reduceLT, Nat.reduceLeDiff, Nat.reduceEqDiff, Nat.reduceDiv, Nat.reduceBEq, Int.reduceNeg, reduceCtorEq, ↓reduceIte, Int.reduceEq, Int.reduceLT, Int.reduceLE, Int.reduceToNat, Int.reduceAdd, Int.reduceSub, Int.reduceMul, Nat.reducePow, Nat.reduceBNe]; refine AGood.freeze 901 rfl ?_; simp only [rfT, rfS, rfO, rf, rf1, f2, f4, true_and, go_sem, Nat.reduceAdd, Nat.reduceSub, Nat.reduceMul, Nat.reduceLT, Nat.reduceLeDiff, Nat.reduceEqDiff, Nat.reduceDiv, Nat.reduceBEq, Int.reduceNeg, reduceCtorEq, ↓reduceIte, Int.reduceEq, Int.reduceLT, Int.reduceLE, Int.reduceToNat, Int.reduceAdd, Int.reduceSub, Int.reduceMul, Nat.reducePow, Nat.reduceBNe]); (refine AGood.reg LL_ok [] [0, 1, 4, 5, 6, 7, 8, 9, 10, 11, 12, 13, 14, 15, 20, 21, 22, 73, 75] (by kernel_rfl) ?_; intro K hK))
    | (refine AGood.reg LL_ok [] [0, 1, 4, 5, 6, 7, 8, 9, 10, 11, 12, 13, 14, 15, 20, 21, 22, 73, 75] (by kernel_rfl) ?_; intro K hK)
    | (refine AGood.drawn LL_ok mixed [] 11 [0, 1, 2, 3, 4, 5, 6, 7, 8, 9, 10, 11, 12, 13, 14, 15] [0, 1, 4, 5, 6, 7, 8, 9, 10, 11, 12, 13, 14, 15, 20, 21, 22, 73, 75] (by kernel_rfl) (by rfl) ?_; intro K hK)
    | (refine ACall.mono (ACall.alone (hfew) rfl rfl rfl) ?_; rintro _ _ ⟨rfl, rfl⟩)
    | (refine ACall.mono (ACall.alone (hsame _ _ _ _) rfl rfl rfl) ?_; rintro _ _ ⟨rfl, rfl⟩)
    | (refine ACall.use [] [] rfl hexp rfl rfl rfl ?_; rintro _ _ ⟨⟨fl, rfl⟩, rfl⟩; refine ⟨.inl rfl, rfl, ?_⟩; simp only [bk, bk1, bkS, delAll, List.map_cons, List.map_nil])
    | (refine ACall.use [] [] rfl hexp2 rfl rfl rfl ?_; rintro _ _ ⟨⟨fl2, rfl⟩, rfl⟩; refine ⟨.inl rfl, rfl, ?_⟩; simp only [bk, bk1, bkS, delAll, List.map_cons, List.map_nil])
    | (refine gd_split ?_ ?_ <;> intro hb <;> (try simp only [Bool.not_eq_true', Bool.not_eq_false', decide_eq_true_eq, decide_eq_false_iff_not, Bool.not_true, Bool.not_false, Bool.not_eq_true, Bool.not_eq_false] at hb) <;> (try simp only [hb]))
    | refine AGood.retF LL_ok [] [.tmp 4] rfl ?_
    | refine AGood.doneF LL_ok [] [.tmp 4] rfl ?_) <;> (try simp only [go_sem, Nat.reduceAdd, Nat.reduceSub, Nat.reduceMul, Nat.reduceLT, Nat.reduceLeDiff, Nat.reduceEqDiff, Nat.reduceDiv, Nat.reduceBEq, Int.reduceNeg, reduceCtorEq, ↓reduceIte, Int.reduceEq, Int.reduceLT, Int.reduceLE, Int.reduceToNat, Int.reduceAdd, Int.reduceSub, Int.reduceMul, Nat.reducePow, Nat.reduceBNe, e4, he]))
    | (refine hK _ _ ?_; clear hK K; simp only [prune, List.map_cons, List.map_nil, lk_hit, lk_miss, lk_nil, ne_eq, Nat.reduceEqDiff, not_false_eq_true])
    | (refine AGood.condT ?_ rfl ?_; focus (simp only [ev_tmp, ev_const, oc_bool, lk_hit, lk_miss, ne_eq, Nat.reduceEqDiff, not_false_eq_true]; done))
    | (refine AGood.condF ?_ rfl ?_; focus (simp only [ev_tmp, ev_const, oc_bool, lk_hit, lk_miss, ne_eq, Nat.reduceEqDiff, not_false_eq_true]; done))
    | (refine AGood.cond (by simp only [ev_tmp, ev_const, oc_bool, lk_hit, lk_miss, ne_eq, Nat.reduceEqDiff, not_false_eq_true]; rfl) rfl ?_ ?_ <;> intro hc <;> (try simp only [Bool.not_eq_true', Bool.not_eq_false', decide_eq_true_eq, decide_eq_false_iff_not, Bool.not_true, Bool.not_false, Bool.not_eq_true, Bool.not_eq_false] at hc) <;> (try simp only [hc, decide_true, decide_false, Bool.not_true, Bool.not_false]))
    | (intro _)
    | (refine And.intro ?_ ?_))
end Go.Rad
