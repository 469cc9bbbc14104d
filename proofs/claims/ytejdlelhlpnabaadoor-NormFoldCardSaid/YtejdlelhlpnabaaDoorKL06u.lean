/- NormFold: what it computes. -/
import Derived.Test.YtejdlelhlpnabaaDoorKC06h
import Derived.Test.YtejdlelhlpnabaaDoorKC03d
import Derived.Test.YtejdlelhlpnabaaDoorKC07a
import Derived.Test.YtejdlelhlpnabaaDoorKC04c
import Derived.Test.YtejdlelhlpnabaaDoorKL06h
set_option linter.all false
namespace Go.Rad
open Go Go.Proofs
set_option linter.all false
set_option maxRecDepth 20000
set_option maxHeartbeats 4000000

theorem phi_twice {s : ISet} (h : s.okI) : phi (phi s) = phi s := by
  have h1 := (okI_N h).1
  have h2 : (phi s).N = foldS s.N := by
    simp only [phi, ISet.N, NSet.I, Int.toNat_natCast]
  simp only [phi] at h2 ⊢
  rw [h2, foldS_twice h1]
theorem foldT_twice {l : List Node} (hl : ∀ n ∈ l, n.s.okI) (hr : rightS l = true) : rightS (foldT l) = true ∧ foldT (foldT l) = foldT l ∧ foldT l = l.map (mapS phi) := by
  have e := foldT_map hr
  have h1 : rightS (foldT l) = true := by rw [e, rightS_mapS (phi_keeps hl)]; exact hr
  refine ⟨h1, ?_, e⟩
  rw [foldT_map h1, e, List.map_map]
  refine List.map_congr_left fun n hn => ?_
  show ({ n with s := phi (phi n.s) } : Node) = { n with s := phi n.s }
  rw [phi_twice (hl n hn)]
theorem mays_mapS (φ : ISet → ISet) (l : List Node) : mays (l.map (mapS φ)) = mays l := by
  unfold mays
  rw [List.foldl_map]
  rfl
theorem nullS_fold {l : List Node} (hl : ∀ n ∈ l, n.s.okI) (hr : rightS l = true) : nullS (foldT l) = nullS l := by
  obtain ⟨h1, _, h3⟩ := foldT_twice hl hr
  unfold nullS
  rw [h1, hr, h3, mays_mapS]
theorem normFold_c (hsh : ACall Tryd.prog 7 [] [] fun r s => r = .bool true ∧ s = []) (l : List Node) (hl : nodesOk l) (hl2 : ∀ n ∈ l, n.s.okI) :
    ACall Tryd.prog 6 [.sl true false (nodes l)] [] fun r _ => r = .bool true := by
  obtain ⟨k, hk⟩ : ∃ k, k = min l.length 100 := ⟨_, rfl⟩
  have e1 : min (l.length : Int) 100 = (k : Int) := by omega
  have e2 : (nodes l).take k = nodes (l.take 100) := by
    rw [← List.map_take, hk]
    by_cases h : l.length ≤ 100
    · rw [List.take_of_length_le (by omega), List.take_of_length_le h]
    · rw [Nat.min_eq_right (by omega)]
  have e3 : k ≤ l.length := by omega
  have e0 : (0 : Int) ≤ k := by omega
  have hX : (l.take 100).length = k := by rw [List.length_take]; omega
  have hX1 : ∀ n ∈ l.take 100, n.name.size ≤ maxLen ∧ n.l.length ≤ maxLen := fun n h => hl.2 n (List.mem_of_mem_take h)
  have hX2 : ∀ n ∈ l.take 100, n.s.okI := fun n h => hl2 n (List.mem_of_mem_take h)
  have hk2 : k ≤ 100 := by omega
  generalize l.take 100 = X at e2 hX hX1 hX2
  have hr := right4uc true false X fun n h => (hX1 n h).symm
  rw [← right_eq] at hr
  have hf := foldF_c true false X hX1
  have hn := nullable_c true false X hX1
  have hll := hl.1
  unfold maxLen at hll
  refine ACall.enter Tryd.func6 rfl (by kernel_rfl) (Nat.le_of_ble_eq_true rfl) ?_; simp only [initTm, Nat.reduceAdd]
  cases hok : rightS X
  · rw [hok] at hr
    have e : foldT X = [] := by simp [foldT, hok]
    rw [e] at hf
    repeat' (first
    | refine AGood.seq ?_ | refine AGood.skip ?_ | refine AGood.block ?_ | refine AGood.inBlock ?_ | refine AGood.exit rfl ?_
    | ((first
    | (refine AGood.reg LL_ok [] [0, 2, 3, 4, 5, 6, 7, 16, 44, 45, 46, 47, 48, 66] (by kernel_rfl) ?_; intro K hK)
    | (refine AGood.drawn LL_ok mixed [] 5 [0, 2, 3, 4, 5, 1, 6, 7, 8] [0, 2, 3, 4, 5, 6, 7, 16, 44, 45, 46, 47, 48, 66] (by kernel_rfl) (by rfl) ?_; intro K hK)
    | (refine ACall.mono (ACall.alone (hsh) rfl rfl rfl) ?_; rintro _ _ ⟨rfl, rfl⟩)
    | (refine ACall.mono (ACall.alone (hr) rfl rfl rfl) ?_; rintro _ _ ⟨rfl, rfl⟩)
    | (refine ACall.mono (ACall.alone (hf) rfl rfl rfl) ?_; rintro _ _ ⟨rfl, rfl⟩)
    | (refine gd_split ?_ ?_ <;> intro hb <;> (try simp only [Bool.not_eq_true', Bool.not_eq_false', decide_eq_true_eq, decide_eq_false_iff_not, Bool.not_true, Bool.not_false, Bool.not_eq_true, Bool.not_eq_false] at hb) <;> (try simp only [hb]))
    | refine AGood.retF LL_ok [] [.tmp 2] rfl ?_
    | refine AGood.doneF LL_ok [] [.tmp 2] rfl ?_) <;> (try simp only [go_sem, Nat.reduceAdd, Nat.reduceSub, Nat.reduceMul, Nat.reduceLT, Nat.reduceLeDiff, Nat.reduceEqDiff, Nat.reduceDiv, Nat.reduceBEq, Int.reduceNeg, reduceCtorEq, ↓reduceIte, Int.reduceEq, Int.reduceLT, Int.reduceLE, Int.reduceToNat, Int.reduceAdd, Int.reduceSub, Int.reduceMul, Nat.reducePow, Nat.reduceBNe, e1, e2, e3, e0, hX, slFull, intArg, Bool.false_and]))
    | (refine hK _ _ ?_; clear hK K; simp only [prune, List.map_cons, List.map_nil, lk_hit, lk_miss, lk_nil, ne_eq, Nat.reduceEqDiff, not_false_eq_true])
    | (refine AGood.condT ?_ rfl ?_; focus (simp only [ev_tmp, ev_const, oc_bool, lk_hit, lk_miss, ne_eq, Nat.reduceEqDiff, not_false_eq_true]; done))
    | (refine AGood.condF ?_ rfl ?_; focus (simp only [ev_tmp, ev_const, oc_bool, lk_hit, lk_miss, ne_eq, Nat.reduceEqDiff, not_false_eq_true]; done))
    | (refine AGood.cond (by simp only [ev_tmp, ev_const, oc_bool, lk_hit, lk_miss, ne_eq, Nat.reduceEqDiff, not_false_eq_true]; rfl) rfl ?_ ?_ <;> intro hc <;> (try simp only [Bool.not_eq_true', Bool.not_eq_false', decide_eq_true_eq, decide_eq_false_iff_not, Bool.not_true, Bool.not_false, Bool.not_eq_true, Bool.not_eq_false] at hc) <;> (try simp only [hc, decide_true, decide_false, Bool.not_true, Bool.not_false]))
    | (intro _)
    | (refine And.intro ?_ ?_))
    all_goals first | exact .inl trivial | rfl | skip
  · rw [hok] at hr
    obtain ⟨h1, h2, h3⟩ := foldT_twice hX2 hok
    obtain ⟨hy1, hy2⟩ := rightS_nodesOk h1
    have hf2 := foldF_c true false (foldT X) hy2
    rw [h2] at hf2
    have hn2 := nullable_c true false (foldT X) hy2
    rw [nullS_fold hX2 hok] at hn2
    have hsame := same4uc true false true false (foldT X) (foldT X) (by obtain ⟨_, _, _, h⟩ := rightS_kids h1; omega) fun n h => (hy2 n h).2
    simp only [decide_true] at hsame
    have hYl : (foldT X).length = k := by rw [h3, List.length_map, hX]
    have hY : ∀ (i : Nat) (n : Node), X[i]? = some n → (foldT X)[i]? = some (mapS phi n) := by
      intro i n h; rw [h3, List.getElem?_map, h]; rfl
    generalize foldT X = Y at *
    generalize nullS X = nb at *
    repeat' (first
    | refine AGood.seq ?_ | refine AGood.skip ?_ | refine AGood.block ?_ | refine AGood.inBlock ?_ | refine AGood.exit rfl ?_
    | ((first
    | (refine AGood.reg LL_ok [] [0, 2, 3, 4, 5, 6, 7, 16, 44, 45, 46, 47, 48, 66] (by kernel_rfl) ?_; intro K hK)
    | (refine AGood.drawn LL_ok mixed [] 5 [0, 2, 3, 4, 5, 1, 6, 7, 8] [0, 2, 3, 4, 5, 6, 7, 16, 44, 45, 46, 47, 48, 66] (by kernel_rfl) (by rfl) ?_; intro K hK)
    | (refine ACall.mono (ACall.alone (hsh) rfl rfl rfl) ?_; rintro _ _ ⟨rfl, rfl⟩)
    | (refine ACall.mono (ACall.alone (hr) rfl rfl rfl) ?_; rintro _ _ ⟨rfl, rfl⟩)
    | (refine ACall.mono (ACall.alone (hf) rfl rfl rfl) ?_; rintro _ _ ⟨rfl, rfl⟩)
    | (refine ACall.mono (ACall.alone (hf2) rfl rfl rfl) ?_; rintro _ _ ⟨rfl, rfl⟩)
    | (refine ACall.mono (ACall.alone (hn) rfl rfl rfl) ?_; rintro _ _ ⟨rfl, rfl⟩)
    | (refine ACall.mono (ACall.alone (hn2) rfl rfl rfl) ?_; rintro _ _ ⟨rfl, rfl⟩)
    | (refine ACall.mono (ACall.alone (hsame) rfl rfl rfl) ?_; rintro _ _ ⟨rfl, rfl⟩)
    | (refine gd_split ?_ ?_ <;> intro hb <;> (try simp only [Bool.not_eq_true', Bool.not_eq_false', decide_eq_true_eq, decide_eq_false_iff_not, Bool.not_true, Bool.not_false, Bool.not_eq_true, Bool.not_eq_false] at hb) <;> (try simp only [hb]))
    | refine AGood.retF LL_ok [] [.tmp 2] rfl ?_
    | refine AGood.doneF LL_ok [] [.tmp 2] rfl ?_) <;> (try simp only [go_sem, Nat.reduceAdd, Nat.reduceSub, Nat.reduceMul, Nat.reduceLT, Nat.reduceLeDiff, Nat.reduceEqDiff, Nat.reduceDiv, Nat.reduceBEq, Int.reduceNeg, reduceCtorEq, ↓reduceIte, Int.reduceEq, Int.reduceLT, Int.reduceLE, Int.reduceToNat, Int.reduceAdd, Int.reduceSub, Int.reduceMul, Nat.reducePow, Nat.reduceBNe, e1, e2, e3, e0, hX, hYl, slFull, intArg, Bool.false_and, beq_self_eq_true]))
    | (refine hK _ _ ?_; clear hK K; simp only [prune, List.map_cons, List.map_nil, lk_hit, lk_miss, lk_nil, ne_eq, Nat.reduceEqDiff, not_false_eq_true])
    | (refine AGood.condT ?_ rfl ?_; focus (simp only [ev_tmp, ev_const, oc_bool, lk_hit, lk_miss, ne_eq, Nat.reduceEqDiff, not_false_eq_true]; done))
    | (refine AGood.condF ?_ rfl ?_; focus (simp only [ev_tmp, ev_const, oc_bool, lk_hit, lk_miss, ne_eq, Nat.reduceEqDiff, not_false_eq_true]; done))
    | (refine AGood.cond (by simp only [ev_tmp, ev_const, oc_bool, lk_hit, lk_miss, ne_eq, Nat.reduceEqDiff, not_false_eq_true]; rfl) rfl ?_ ?_ <;> intro hc <;> (try simp only [Bool.not_eq_true', Bool.not_eq_false', decide_eq_true_eq, decide_eq_false_iff_not, Bool.not_true, Bool.not_false, Bool.not_eq_true, Bool.not_eq_false] at hc) <;> (try simp only [hc, decide_true, decide_false, Bool.not_true, Bool.not_false]))
    | (intro _)
    | (refine And.intro ?_ ?_))
    · exact .inl trivial
    refine AGood.prune [2, 3, 4, 5, 45, 46, 47] ?_; simp only [prune, List.map_cons, List.map_nil, lk_hit, lk_miss, lk_nil, ne_eq, Nat.reduceEqDiff, not_false_eq_true]
    refine AGood.loopInv (α := Nat) (fun i => ([(2, .bool false), (3, .bool true), (4, .sl true false (nodes X)), (5, .sl true false (nodes Y)), (45, .sl true false (nodes Y)), (46, .int .i64 k), (47, .int .i64 i)], [])) (fun i => i ≤ k) (fun i => k - i) 0 (Nat.zero_le _) rfl ?_
    intro i hi ih
    simp only
    by_cases hle : i < k
    · have e4 : (i : Int) < k := by omega
      have e5 : (0 : Int) ≤ i := by omega
      have hle2 : i < X.length := by omega
      have hx : X[i]? = some X[i] := List.getElem?_eq_getElem hle2
      have hy := hY i _ hx
      have hs1 := same4uc true false true false [X[i]] [X[i]] (by simp) (fun n h => by simp only [List.mem_singleton] at h; subst h; exact (hX1 _ (List.getElem_mem hle2)).2)
      simp only [decide_true] at hs1
      have ih := ih (i + 1) (by omega) (by omega)
      generalize X[i] = n at hx hy hs1
      obtain ⟨xo, ⟨xa, xb, xc, xd⟩, xl, xlo, xhi, xn⟩ := n
      simp only [mapS] at hy
      generalize phi ⟨xa, xb, xc, xd⟩ = ps at hy
      obtain ⟨pa, pb, pc, pd⟩ := ps
      simp only [nodes, List.map_cons, List.map_nil, Node.cells, Node.cellsF] at hs1
      repeat' (first
    | refine AGood.seq ?_ | refine AGood.skip ?_ | refine AGood.block ?_ | refine AGood.inBlock ?_ | refine AGood.exit rfl ?_
    | ((first
    | (refine AGood.reg LL_ok [59, 64] [0, 2, 3, 4, 5, 6, 7, 16, 44, 45, 46, 47, 48, 66] (by kernel_rfl) ?_; intro K hK)
    | (refine AGood.drawn LL_ok mixed [59, 64] 9 [0, 1, 2, 3, 4, 5, 6, 7, 8] [0, 2, 3, 4, 5, 6, 7, 16, 44, 45, 46, 47, 48, 66] (by kernel_rfl) (by rfl) ?_; intro K hK)
    | (refine ⟨_, ACall.alone hs1 rfl rfl rfl, ?_⟩)
    | (refine gd_split ?_ ?_ <;> intro hb <;> (try simp only [Bool.not_eq_true', Bool.not_eq_false', decide_eq_true_eq, decide_eq_false_iff_not, Bool.not_true, Bool.not_false, Bool.not_eq_true, Bool.not_eq_false] at hb) <;> (try simp only [hb]))
    | refine AGood.retF LL_ok [] [.tmp 2] rfl ?_
    | refine AGood.doneF LL_ok [] [.tmp 2] rfl ?_) <;> (try simp only [go_sem, Nat.reduceAdd, Nat.reduceSub, Nat.reduceMul, Nat.reduceLT, Nat.reduceLeDiff, Nat.reduceEqDiff, Nat.reduceDiv, Nat.reduceBEq, Int.reduceNeg, reduceCtorEq, ↓reduceIte, Int.reduceEq, Int.reduceLT, Int.reduceLE, Int.reduceToNat, Int.reduceAdd, Int.reduceSub, Int.reduceMul, Nat.reducePow, Nat.reduceBNe, e4, e5, hx, hy, hX, hYl, Option.some.injEq, forall_eq']))
    | (refine hK _ _ ?_; clear hK K; simp only [prune, List.map_cons, List.map_nil, lk_hit, lk_miss, lk_nil, ne_eq, Nat.reduceEqDiff, not_false_eq_true])
    | (refine AGood.condT ?_ rfl ?_; focus (simp only [ev_tmp, ev_const, oc_bool, lk_hit, lk_miss, ne_eq, Nat.reduceEqDiff, not_false_eq_true]; done))
    | (refine AGood.condF ?_ rfl ?_; focus (simp only [ev_tmp, ev_const, oc_bool, lk_hit, lk_miss, ne_eq, Nat.reduceEqDiff, not_false_eq_true]; done))
    | (refine AGood.cond (by simp only [ev_tmp, ev_const, oc_bool, lk_hit, lk_miss, ne_eq, Nat.reduceEqDiff, not_false_eq_true]; rfl) rfl ?_ ?_ <;> intro hc <;> (try simp only [Bool.not_eq_true', Bool.not_eq_false', decide_eq_true_eq, decide_eq_false_iff_not, Bool.not_true, Bool.not_false, Bool.not_eq_true, Bool.not_eq_false] at hc) <;> (try simp only [hc, decide_true, decide_false, Bool.not_true, Bool.not_false]))
    | (intro _)
    | (refine And.intro ?_ ?_))
      all_goals first | omega | (unfold bigLen; omega) | exact ⟨_, _, ⟨rfl, rfl⟩, rfl⟩ | exact ⟨_, rfl⟩ | (rename_i hy; simp only [List.mem_singleton] at hy; subst hy; rfl) | skip
      refine AGood.filt [] ?_
      simp only [sf_cons, sf_nil, go_sem, Nat.reduceAdd, Nat.reduceSub, Nat.reduceMul, Nat.reduceLT, Nat.reduceLeDiff, Nat.reduceEqDiff, Nat.reduceDiv, Nat.reduceBEq, Int.reduceNeg, reduceCtorEq, ↓reduceIte, Int.reduceEq, Int.reduceLT, Int.reduceLE, Int.reduceToNat, Int.reduceAdd, Int.reduceSub, Int.reduceMul, Nat.reducePow, Nat.reduceBNe]
      refine AGood.prune [2, 3, 4, 5, 45, 46, 47] ?_; simp only [prune, List.map_cons, List.map_nil, lk_hit, lk_miss, lk_nil, ne_eq, Nat.reduceEqDiff, not_false_eq_true]
      exact ih.cast rfl rfl
    · have e4 : ¬ (i : Int) < k := by omega
      repeat' (first
    | refine AGood.seq ?_ | refine AGood.skip ?_ | refine AGood.block ?_ | refine AGood.inBlock ?_ | refine AGood.exit rfl ?_
    | ((first
    | (refine AGood.reg LL_ok [] [0, 2, 3, 4, 5, 6, 7, 16, 44, 45, 46, 47, 48, 66] (by kernel_rfl) ?_; intro K hK)
    | (refine AGood.drawn LL_ok mixed [] 5 [0, 2, 3, 4, 5, 1, 6, 7, 8] [0, 2, 3, 4, 5, 6, 7, 16, 44, 45, 46, 47, 48, 66] (by kernel_rfl) (by rfl) ?_; intro K hK)
    | (refine gd_split ?_ ?_ <;> intro hb <;> (try simp only [Bool.not_eq_true', Bool.not_eq_false', decide_eq_true_eq, decide_eq_false_iff_not, Bool.not_true, Bool.not_false, Bool.not_eq_true, Bool.not_eq_false] at hb) <;> (try simp only [hb]))
    | refine AGood.retF LL_ok [] [.tmp 2] rfl ?_
    | refine AGood.doneF LL_ok [] [.tmp 2] rfl ?_) <;> (try simp only [go_sem, Nat.reduceAdd, Nat.reduceSub, Nat.reduceMul, Nat.reduceLT, Nat.reduceLeDiff, Nat.reduceEqDiff, Nat.reduceDiv, Nat.reduceBEq, Int.reduceNeg, reduceCtorEq, ↓reduceIte, Int.reduceEq, Int.reduceLT, Int.reduceLE, Int.reduceToNat, Int.reduceAdd, Int.reduceSub, Int.reduceMul, Nat.reducePow, Nat.reduceBNe, e4]))
    | (refine hK _ _ ?_; clear hK K; simp only [prune, List.map_cons, List.map_nil, lk_hit, lk_miss, lk_nil, ne_eq, Nat.reduceEqDiff, not_false_eq_true])
    | (refine AGood.condT ?_ rfl ?_; focus (simp only [ev_tmp, ev_const, oc_bool, lk_hit, lk_miss, ne_eq, Nat.reduceEqDiff, not_false_eq_true]; done))
    | (refine AGood.condF ?_ rfl ?_; focus (simp only [ev_tmp, ev_const, oc_bool, lk_hit, lk_miss, ne_eq, Nat.reduceEqDiff, not_false_eq_true]; done))
    | (refine AGood.cond (by simp only [ev_tmp, ev_const, oc_bool, lk_hit, lk_miss, ne_eq, Nat.reduceEqDiff, not_false_eq_true]; rfl) rfl ?_ ?_ <;> intro hc <;> (try simp only [Bool.not_eq_true', Bool.not_eq_false', decide_eq_true_eq, decide_eq_false_iff_not, Bool.not_true, Bool.not_false, Bool.not_eq_true, Bool.not_eq_false] at hc) <;> (try simp only [hc, decide_true, decide_false, Bool.not_true, Bool.not_false]))
    | (intro _)
    | (refine And.intro ?_ ?_))
end Go.Rad
