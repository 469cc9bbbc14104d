/- Contracts: the law's own functions: few, some. -/
import Derived.Test.YtejdlelhlpnabaaDoorKC06d
import Derived.Test.YtejdlelhlpnabaaDoorKRText
set_option linter.all false
namespace Go.Rad
open Go Go.Proofs
set_option linter.all false
set_option maxRecDepth 20000
set_option maxHeartbeats 4000000

theorem few_c (l : List Node) (hl : l.length ≤ maxLen) : ACall Tryd.prog 11 [.sl true false (nodes l)] [] fun r s => r = .sl true false (nodes (l.take 400)) ∧ s = [] := by
  unfold maxLen at hl
  by_cases h : l.length ≤ 400
  · have e1 : min (l.length : Int) 400 = l.length := by omega
    have e2 : (nodes l).take l.length = nodes (l.take 400) := by rw [List.take_of_length_le (by simp), List.take_of_length_le (by omega)]
    have e3 : (0 : Int) ≤ l.length := by omega
    refine ACall.enter Tryd.func11 rfl (by kernel_rfl) (Nat.le_of_ble_eq_true rfl) ?_; simp only [initTm, Nat.reduceAdd]
    repeat' (first
  | refine gSq ?_ | refine gSk ?_ | refine gBl ?_ | refine gIb ?_ | refine gEx rfl ?_
  | ((first
  | (refine gRg [] [0, 2] ?_; intro K hK)
  | (refine gd_split ?_ ?_ <;> intro hb <;> (try simp only [bls] at hb) <;> (try simp only [hb]))
  | refine gRt [] [.tmp 2] rfl ?_ | refine gDn [] [.tmp 2] rfl ?_) <;> (try simp only [go_sem, simprocAttr, e1, e2, e3, slFull, intArg, Bool.false_and]))
  | (refine hK _ _ ?_; clear hK K; simp only [go_sem, simprocAttr])
  | refine gCd (by simp only [go_sem, simprocAttr]; rfl) rfl ?_
  | refine brT ?_ | refine brF ?_
  | (refine brS ?_ ?_ <;> intro hc <;> (try simp only [bls] at hc) <;> (try simp only [hc, bls]))
  | intro _ | refine And.intro ?_ ?_)
    all_goals first | omega | (unfold bigLen; omega) | exact ⟨_, _, ⟨rfl, rfl⟩, rfl⟩ | exact ⟨_, rfl⟩ | (rename_i hy; simp only [List.mem_singleton] at hy; subst hy; rfl) | skip
    all_goals exact .inl trivial
  · have e1 : min (l.length : Int) 400 = 400 := by omega
    have e2 : (nodes l).take 400 = nodes (l.take 400) := by simp
    have e3 : 400 ≤ l.length := by omega
    refine ACall.enter Tryd.func11 rfl (by kernel_rfl) (Nat.le_of_ble_eq_true rfl) ?_; simp only [initTm, Nat.reduceAdd]
    repeat' (first
  | refine gSq ?_ | refine gSk ?_ | refine gBl ?_ | refine gIb ?_ | refine gEx rfl ?_
  | ((first
  | (refine gRg [] [0, 2] ?_; intro K hK)
  | (refine gd_split ?_ ?_ <;> intro hb <;> (try simp only [bls] at hb) <;> (try simp only [hb]))
  | refine gRt [] [.tmp 2] rfl ?_ | refine gDn [] [.tmp 2] rfl ?_) <;> (try simp only [go_sem, simprocAttr, e1, e2, e3, slFull, intArg, Bool.false_and]))
  | (refine hK _ _ ?_; clear hK K; simp only [go_sem, simprocAttr])
  | refine gCd (by simp only [go_sem, simprocAttr]; rfl) rfl ?_
  | refine brT ?_ | refine brF ?_
  | (refine brS ?_ ?_ <;> intro hc <;> (try simp only [bls] at hc) <;> (try simp only [hc, bls]))
  | intro _ | refine And.intro ?_ ?_)
    all_goals first | omega | (unfold bigLen; omega) | exact ⟨_, _, ⟨rfl, rfl⟩, rfl⟩ | exact ⟨_, rfl⟩ | (rename_i hy; simp only [List.mem_singleton] at hy; subst hy; rfl) | skip
    all_goals exact .inl trivial

def someS (ds : List Df) : List Df := (ds.take 6).filter fun d => decide (d.l.length ≤ 100)
theorem some_c (ds : List Df) (hl : ds.length ≤ maxLen) (hd : ∀ d ∈ ds, d.l.length ≤ maxLen) : ACall Tryd.prog 8 [.sl true false (defs ds)] [] fun r s => r = .sl true false (defs (someS ds)) ∧ s = [] := by
  unfold maxLen at hl hd
  refine ACall.enter Tryd.func8 rfl (by kernel_rfl) (Nat.le_of_ble_eq_true rfl) ?_; simp only [initTm, Nat.reduceAdd]
  repeat' (first
  | refine gSq ?_ | refine gSk ?_ | refine gBl ?_ | refine gIb ?_ | refine gEx rfl ?_
  | ((first
  | (refine gRg [] [0, 2, 3, 4, 5, 6, 7, 8, 9, 20] ?_; intro K hK)
  | (refine gd_split ?_ ?_ <;> intro hb <;> (try simp only [bls] at hb) <;> (try simp only [hb]))
  | refine gRt [] [.tmp 2] rfl ?_ | refine gDn [] [.tmp 2] rfl ?_) <;> (try simp only [go_sem, simprocAttr]))
  | (refine hK _ _ ?_; clear hK K; simp only [go_sem, simprocAttr])
  | refine gCd (by simp only [go_sem, simprocAttr]; rfl) rfl ?_
  | refine brT ?_ | refine brF ?_
  | (refine brS ?_ ?_ <;> intro hc <;> (try simp only [bls] at hc) <;> (try simp only [hc, bls]))
  | intro _ | refine And.intro ?_ ?_)
  refine AGood.ownTm 3 900 2 (by decide) rfl fun g => ?_
  simp only [go_sem, simprocAttr]
  refine AGood.prune [0, 2, 3, 6, 7, 8] ?_; simp only [go_sem, simprocAttr]
  refine AGood.loopInv (α := Nat × Nat) (fun x => ([(0, .sl true false (defs ds)), (2, .sl true true []), (3, .osl 900 x.2 0 (someS (ds.take x.1)).length), (6, .sl true false (defs ds)), (7, .int .i64 ds.length), (8, .int .i64 x.1)], [(900, x.2, .row 2 (defs (someS (ds.take x.1))))])) (fun x => x.1 ≤ ds.length) (fun x => ds.length - x.1) (0, g) (Nat.zero_le _) rfl ?_
  rintro ⟨i, g⟩ hi ih
  simp only at hi ih ⊢
  have hsl : (someS (ds.take i)).length ≤ 6 := by
    refine Nat.le_trans (List.length_filter_le _ _) ?_
    simp; omega
  by_cases hle : i < ds.length
  · have e4 : (i : Int) < ds.length := by omega
    have e5 : (0 : Int) ≤ i := by omega
    have hx : ds[i]? = some ds[i] := List.getElem?_eq_getElem hle
    have ht := take_one hx
    have hm := hd ds[i] (List.getElem_mem hle)
    generalize ds[i] = x at hx hm ht
    by_cases h6 : i < 6
    · have e6 : (i : Int) < 6 := by omega
      have hone : someS (ds.take (i + 1)) = someS (ds.take i) ++ (if x.l.length ≤ 100 then [x] else []) := by
        have a1 : (ds.take (i + 1)).take 6 = ds.take (i + 1) := List.take_of_length_le (by rw [List.length_take]; omega)
        have a2 : (ds.take i).take 6 = ds.take i := List.take_of_length_le (by rw [List.length_take]; omega)
        simp only [someS, a1, a2]
        rw [ht, List.filter_append]
        congr 1
        by_cases h : x.l.length ≤ 100 <;> simp [h]
      obtain ⟨xn, xl⟩ := x
      simp only at hone hm
      by_cases h100 : xl.length ≤ 100
      · have e7 : (xl.length : Int) ≤ 100 := by omega
        rw [if_pos h100] at hone
        repeat' (first
  | refine gSq ?_ | refine gSk ?_ | refine gBl ?_ | refine gIb ?_ | refine gEx rfl ?_
  | ((first
  | (refine gRg [] [0, 2, 3, 4, 5, 6, 7, 8, 9, 20] ?_; intro K hK)
  | (refine gd_split ?_ ?_ <;> intro hb <;> (try simp only [bls] at hb) <;> (try simp only [hb]))
  | refine gRt [] [.tmp 2] rfl ?_ | refine gDn [] [.tmp 2] rfl ?_) <;> (try simp only [go_sem, simprocAttr, e4, e5, e6, e7, hx, Option.some.injEq, forall_eq']))
  | (refine hK _ _ ?_; clear hK K; simp only [go_sem, simprocAttr])
  | refine gCd (by simp only [go_sem, simprocAttr]; rfl) rfl ?_
  | refine brT ?_ | refine brF ?_
  | (refine brS ?_ ?_ <;> intro hc <;> (try simp only [bls] at hc) <;> (try simp only [hc, bls]))
  | intro _ | refine And.intro ?_ ?_)
        all_goals first | omega | (unfold bigLen; omega) | exact ⟨_, _, ⟨rfl, rfl⟩, rfl⟩ | exact ⟨_, rfl⟩ | (rename_i hy; simp only [List.mem_singleton] at hy; subst hy; rfl) | skip
        rename_i h'
        refine AGood.filt [900] ?_
        simp only [sf_cons, sf_nil, go_sem, simprocAttr]
        refine AGood.prune [0, 2, 3, 6, 7, 8] ?_; simp only [go_sem, simprocAttr]
        refine AGood.cast (ih (i + 1, h') (by simp only; omega) (by simp only; omega)) ?_ ?_
        · simp only [hone]; simp
        · simp only [hone]; simp
      · have e7 : ¬ (xl.length : Int) ≤ 100 := by omega
        rw [if_neg h100, List.append_nil] at hone
        repeat' (first
  | refine gSq ?_ | refine gSk ?_ | refine gBl ?_ | refine gIb ?_ | refine gEx rfl ?_
  | ((first
  | (refine gRg [] [0, 2, 3, 4, 5, 6, 7, 8, 9, 20] ?_; intro K hK)
  | (refine gd_split ?_ ?_ <;> intro hb <;> (try simp only [bls] at hb) <;> (try simp only [hb]))
  | refine gRt [] [.tmp 2] rfl ?_ | refine gDn [] [.tmp 2] rfl ?_) <;> (try simp only [go_sem, simprocAttr, e4, e5, e6, e7, hx, Option.some.injEq, forall_eq']))
  | (refine hK _ _ ?_; clear hK K; simp only [go_sem, simprocAttr])
  | refine gCd (by simp only [go_sem, simprocAttr]; rfl) rfl ?_
  | refine brT ?_ | refine brF ?_
  | (refine brS ?_ ?_ <;> intro hc <;> (try simp only [bls] at hc) <;> (try simp only [hc, bls]))
  | intro _ | refine And.intro ?_ ?_)
        all_goals first | omega | (unfold bigLen; omega) | exact ⟨_, _, ⟨rfl, rfl⟩, rfl⟩ | exact ⟨_, rfl⟩ | (rename_i hy; simp only [List.mem_singleton] at hy; subst hy; rfl) | skip
        refine AGood.filt [900] ?_
        simp only [sf_cons, sf_nil, go_sem, simprocAttr]
        refine AGood.prune [0, 2, 3, 6, 7, 8] ?_; simp only [go_sem, simprocAttr]
        refine AGood.cast (ih (i + 1, g) (by simp only; omega) (by simp only; omega)) ?_ ?_
        · simp only [hone]; rfl
        · simp only [hone]
    · have e6 : ¬ (i : Int) < 6 := by omega
      have hone : someS (ds.take (i + 1)) = someS (ds.take i) := by
        simp only [someS, List.take_take, Nat.min_eq_left (show 6 ≤ i + 1 by omega), Nat.min_eq_left (show 6 ≤ i by omega)]
      obtain ⟨xn, xl⟩ := x
      repeat' (first
  | refine gSq ?_ | refine gSk ?_ | refine gBl ?_ | refine gIb ?_ | refine gEx rfl ?_
  | ((first
  | (refine gRg [] [0, 2, 3, 4, 5, 6, 7, 8, 9, 20] ?_; intro K hK)
  | (refine gd_split ?_ ?_ <;> intro hb <;> (try simp only [bls] at hb) <;> (try simp only [hb]))
  | refine gRt [] [.tmp 2] rfl ?_ | refine gDn [] [.tmp 2] rfl ?_) <;> (try simp only [go_sem, simprocAttr, e4, e5, e6, hx, Option.some.injEq, forall_eq']))
  | (refine hK _ _ ?_; clear hK K; simp only [go_sem, simprocAttr])
  | refine gCd (by simp only [go_sem, simprocAttr]; rfl) rfl ?_
  | refine brT ?_ | refine brF ?_
  | (refine brS ?_ ?_ <;> intro hc <;> (try simp only [bls] at hc) <;> (try simp only [hc, bls]))
  | intro _ | refine And.intro ?_ ?_)
      all_goals first | omega | (unfold bigLen; omega) | exact ⟨_, _, ⟨rfl, rfl⟩, rfl⟩ | exact ⟨_, rfl⟩ | (rename_i hy; simp only [List.mem_singleton] at hy; subst hy; rfl) | skip
      refine AGood.filt [900] ?_
      simp only [sf_cons, sf_nil, go_sem, simprocAttr]
      refine AGood.prune [0, 2, 3, 6, 7, 8] ?_; simp only [go_sem, simprocAttr]
      refine AGood.cast (ih (i + 1, g) (by simp only; omega) (by simp only; omega)) ?_ ?_
      · simp only [hone]; rfl
      · simp only [hone]
  · have e4 : ¬ (i : Int) < ds.length := by omega
    rw [List.take_of_length_le (by omega)]
    have e9 : (defs (someS ds)).take (someS ds).length = defs (someS ds) := List.take_of_length_le (by simp)
    repeat' (first
  | refine gSq ?_ | refine gSk ?_ | refine gBl ?_ | refine gIb ?_ | refine gEx rfl ?_
  | ((first
  | (refine AGood.at 8 ?_; (refine AGood.freeze 900 rfl ?_; simp only [rfT, rfS, rfO, rf, rf1, e9, true_and, go_sem, simprocAttr]); (refine gRg [] [0, 2, 3, 4, 5, 6, 7, 8, 9, 20] ?_; intro K hK))
  | (refine gRg [] [0, 2, 3, 4, 5, 6, 7, 8, 9, 20] ?_; intro K hK)
  | (refine gd_split ?_ ?_ <;> intro hb <;> (try simp only [bls] at hb) <;> (try simp only [hb]))
  | refine gRt [] [.tmp 2] rfl ?_ | refine gDn [] [.tmp 2] rfl ?_) <;> (try simp only [go_sem, simprocAttr, e4]))
  | (refine hK _ _ ?_; clear hK K; simp only [go_sem, simprocAttr])
  | refine gCd (by simp only [go_sem, simprocAttr]; rfl) rfl ?_
  | refine brT ?_ | refine brF ?_
  | (refine brS ?_ ?_ <;> intro hc <;> (try simp only [bls] at hc) <;> (try simp only [hc, bls]))
  | intro _ | refine And.intro ?_ ?_)
end Go.Rad
