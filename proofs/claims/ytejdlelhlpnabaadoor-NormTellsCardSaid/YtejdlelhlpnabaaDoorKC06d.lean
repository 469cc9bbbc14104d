/- Contracts: norm: Right, Expand. -/
import Derived.Test.YtejdlelhlpnabaaDoorKC06c
set_option linter.all false
namespace Go.Rad
open Go Go.Proofs
set_option linter.all false
set_option maxRecDepth 20000
set_option maxHeartbeats 4000000

def dfOk (d : Df) : Prop := d.name.size ≤ maxLen ∧ ∀ n ∈ d.l, n.name.size ≤ maxLen ∧ n.l.length ≤ maxLen
theorem rightD_c (q f : Bool) (ds : List Df) (hl : ds.length ≤ 1000000) (hd : ∀ d ∈ ds, dfOk d) : ACall Tryd.prog 17 [.sl q f (defs ds)] [] fun r s => r = .bool (rightD [] ds) ∧ s = [] := by
  obtain ⟨S, hS⟩ : ∃ S, S = rightD [] ds := ⟨_, rfl⟩
  rw [← hS]
  refine ACall.enter Tryd.func17 rfl (by kernel_rfl) (Nat.le_of_ble_eq_true rfl) ?_; simp only [initTm, Nat.reduceAdd]
  repeat' (first
  | refine gSq ?_ | refine gSk ?_ | refine gBl ?_ | refine gIb ?_ | refine gEx rfl ?_
  | ((first
  | (refine gRg [] [0, 2, 3, 5, 7, 8, 9, 10, 28] ?_; intro K hK)
  | (refine gd_split ?_ ?_ <;> intro hb <;> (try simp only [bls] at hb) <;> (try simp only [hb]))
  | refine gRt [] [.tmp 2] rfl ?_ | refine gDn [] [.tmp 2] rfl ?_) <;> (try simp only [go_sem, simprocAttr]))
  | (refine hK _ _ ?_; clear hK K; simp only [go_sem, simprocAttr])
  | refine gCd (by simp only [go_sem, simprocAttr]; rfl) rfl ?_
  | refine brT ?_ | refine brF ?_
  | (refine brS ?_ ?_ <;> intro hc <;> (try simp only [bls] at hc) <;> (try simp only [hc, bls]))
  | intro _ | refine And.intro ?_ ?_)
  all_goals first | omega | (unfold bigLen; omega) | exact ⟨_, _, ⟨rfl, rfl⟩, rfl⟩ | exact ⟨_, rfl⟩ | (rename_i hy; simp only [List.mem_singleton] at hy; subst hy; rfl) | skip
  rename_i h6
  refine AGood.prune [0, 2, 3, 7, 8, 9] ?_; simp only [go_sem, simprocAttr]
  refine AGood.loopInv (α := Nat × List ByteArray) (fun x => ([(0, .sl q f (defs ds)), (2, .bool false), (3, .map 6 h6), (7, .sl q f (defs ds)), (8, .int .i64 ds.length), (9, .int .i64 x.1)], [(6, h6, .mp (omap x.2))]))
    (fun x => x.1 ≤ ds.length ∧ x.2.length = x.1 ∧ S = rightD x.2 (ds.drop x.1)) (fun x => ds.length - x.1) (0, []) ⟨Nat.zero_le _, rfl, hS⟩ rfl ?_
  rintro ⟨i, seen⟩ ⟨hi, hsl, hrun⟩ ih
  simp only at hi hsl hrun ih ⊢
  by_cases hle : i < ds.length
  · have e4 : (i : Int) < ds.length := by omega
    have e5 : (0 : Int) ≤ i := by omega
    have hx : ds[i]? = some ds[i] := List.getElem?_eq_getElem hle
    have hm := hd ds[i] (List.getElem_mem hle)
    have hdr : ds.drop i = ds[i] :: ds.drop (i + 1) := List.drop_eq_getElem_cons hle
    rw [hdr, rightD] at hrun
    generalize ds[i] = x at hx hm hrun
    obtain ⟨xn, xl⟩ := x
    obtain ⟨hm1, hm2⟩ := hm
    simp only at hm1 hm2 hrun
    have hmo := mfind_omap seen xn
    have hol : (omap seen).length = seen.length := by simp [omap]
    have hn := nameS_c xn hm1
    have hr := rightS_c true false xl hm2
    by_cases hc : hasB seen xn = true ∨ nameOk xn = false ∨ rightS xl = false
    · rw [if_pos hc] at hrun
      subst hrun
      rcases hc with h | h | h
      · rw [h] at hmo
        simp only [if_true] at hmo
        repeat' (first
  | refine gSq ?_ | refine gSk ?_ | refine gBl ?_ | refine gIb ?_ | refine gEx rfl ?_
  | ((first
  | (refine gRg [] [0, 2, 3, 5, 7, 8, 9, 10, 28] ?_; intro K hK)
  | refine cAl (hn) rfl rfl rfl ?_
  | refine cAl (hr) rfl rfl rfl ?_
  | (refine gd_split ?_ ?_ <;> intro hb <;> (try simp only [bls] at hb) <;> (try simp only [hb]))
  | refine gRt [] [.tmp 2] rfl ?_ | refine gDn [] [.tmp 2] rfl ?_) <;> (try simp only [go_sem, simprocAttr, e4, e5, hx, hmo, Option.some.injEq, forall_eq']))
  | (refine hK _ _ ?_; clear hK K; simp only [go_sem, simprocAttr])
  | refine gCd (by simp only [go_sem, simprocAttr]; rfl) rfl ?_
  | refine brT ?_ | refine brF ?_
  | (refine brS ?_ ?_ <;> intro hc <;> (try simp only [bls] at hc) <;> (try simp only [hc, bls]))
  | intro _ | refine And.intro ?_ ?_)
      · rw [h] at hn
        cases hb : hasB seen xn <;> rw [hb] at hmo <;> simp only [if_true, Bool.false_eq_true, if_false] at hmo
        all_goals repeat' (first
  | refine gSq ?_ | refine gSk ?_ | refine gBl ?_ | refine gIb ?_ | refine gEx rfl ?_
  | ((first
  | (refine gRg [] [0, 2, 3, 5, 7, 8, 9, 10, 28] ?_; intro K hK)
  | refine cAl (hn) rfl rfl rfl ?_
  | refine cAl (hr) rfl rfl rfl ?_
  | (refine gd_split ?_ ?_ <;> intro hb <;> (try simp only [bls] at hb) <;> (try simp only [hb]))
  | refine gRt [] [.tmp 2] rfl ?_ | refine gDn [] [.tmp 2] rfl ?_) <;> (try simp only [go_sem, simprocAttr, e4, e5, hx, hmo, Option.some.injEq, forall_eq']))
  | (refine hK _ _ ?_; clear hK K; simp only [go_sem, simprocAttr])
  | refine gCd (by simp only [go_sem, simprocAttr]; rfl) rfl ?_
  | refine brT ?_ | refine brF ?_
  | (refine brS ?_ ?_ <;> intro hc <;> (try simp only [bls] at hc) <;> (try simp only [hc, bls]))
  | intro _ | refine And.intro ?_ ?_)
      · rw [h] at hr
        cases hb : hasB seen xn <;> rw [hb] at hmo <;> simp only [if_true, Bool.false_eq_true, if_false] at hmo
        all_goals cases hnn : nameOk xn <;> rw [hnn] at hn
        all_goals repeat' (first
  | refine gSq ?_ | refine gSk ?_ | refine gBl ?_ | refine gIb ?_ | refine gEx rfl ?_
  | ((first
  | (refine gRg [] [0, 2, 3, 5, 7, 8, 9, 10, 28] ?_; intro K hK)
  | refine cAl (hn) rfl rfl rfl ?_
  | refine cAl (hr) rfl rfl rfl ?_
  | (refine gd_split ?_ ?_ <;> intro hb <;> (try simp only [bls] at hb) <;> (try simp only [hb]))
  | refine gRt [] [.tmp 2] rfl ?_ | refine gDn [] [.tmp 2] rfl ?_) <;> (try simp only [go_sem, simprocAttr, e4, e5, hx, hmo, Option.some.injEq, forall_eq']))
  | (refine hK _ _ ?_; clear hK K; simp only [go_sem, simprocAttr])
  | refine gCd (by simp only [go_sem, simprocAttr]; rfl) rfl ?_
  | refine brT ?_ | refine brF ?_
  | (refine brS ?_ ?_ <;> intro hc <;> (try simp only [bls] at hc) <;> (try simp only [hc, bls]))
  | intro _ | refine And.intro ?_ ?_)
    · rw [if_neg hc] at hrun
      simp only [not_or, Bool.not_eq_true, Bool.not_eq_false] at hc
      obtain ⟨h1, h2, h3⟩ := hc
      rw [h1] at hmo
      simp only [Bool.false_eq_true, if_false] at hmo
      rw [h2] at hn
      rw [h3] at hr
      have hmp := mput_omap (hasB_no.1 h1)
      repeat' (first
  | refine gSq ?_ | refine gSk ?_ | refine gBl ?_ | refine gIb ?_ | refine gEx rfl ?_
  | ((first
  | (refine gRg [] [0, 2, 3, 5, 7, 8, 9, 10, 28] ?_; intro K hK)
  | refine cAl (hn) rfl rfl rfl ?_
  | refine cAl (hr) rfl rfl rfl ?_
  | (refine gd_split ?_ ?_ <;> intro hb <;> (try simp only [bls] at hb) <;> (try simp only [hb]))
  | refine gRt [] [.tmp 2] rfl ?_ | refine gDn [] [.tmp 2] rfl ?_) <;> (try simp only [go_sem, simprocAttr, e4, e5, hx, hmo, hmp, hol, Option.some.injEq, forall_eq']))
  | (refine hK _ _ ?_; clear hK K; simp only [go_sem, simprocAttr])
  | refine gCd (by simp only [go_sem, simprocAttr]; rfl) rfl ?_
  | refine brT ?_ | refine brF ?_
  | (refine brS ?_ ?_ <;> intro hc <;> (try simp only [bls] at hc) <;> (try simp only [hc, bls]))
  | intro _ | refine And.intro ?_ ?_)
      all_goals first | omega | (unfold bigLen; omega) | exact ⟨_, _, ⟨rfl, rfl⟩, rfl⟩ | exact ⟨_, rfl⟩ | (rename_i hy; simp only [List.mem_singleton] at hy; subst hy; rfl) | skip
      refine AGood.filt [6] ?_
      simp only [sf_cons, sf_nil, go_sem, simprocAttr]
      refine AGood.prune [0, 2, 3, 7, 8, 9] ?_; simp only [go_sem, simprocAttr]
      exact (ih (i + 1, seen ++ [xn]) ⟨by simp only; omega, by simp [hsl], hrun⟩ (by simp only; omega)).cast rfl rfl
  · have e4 : ¬ (i : Int) < ds.length := by omega
    rw [List.drop_of_length_le (by omega), rightD] at hrun
    subst hrun
    repeat' (first
  | refine gSq ?_ | refine gSk ?_ | refine gBl ?_ | refine gIb ?_ | refine gEx rfl ?_
  | ((first
  | (refine gRg [] [0, 2, 3, 5, 7, 8, 9, 10, 28] ?_; intro K hK)
  | (refine gd_split ?_ ?_ <;> intro hb <;> (try simp only [bls] at hb) <;> (try simp only [hb]))
  | refine gRt [] [.tmp 2] rfl ?_ | refine gDn [] [.tmp 2] rfl ?_) <;> (try simp only [go_sem, simprocAttr, e4]))
  | (refine hK _ _ ?_; clear hK K; simp only [go_sem, simprocAttr])
  | refine gCd (by simp only [go_sem, simprocAttr]; rfl) rfl ?_
  | refine brT ?_ | refine brF ?_
  | (refine brS ?_ ?_ <;> intro hc <;> (try simp only [bls] at hc) <;> (try simp only [hc, bls]))
  | intro _ | refine And.intro ?_ ?_)

theorem expand_c (q f q' f' : Bool) (l : List Node) (ds : List Df) (hl : ∀ n ∈ l, n.name.size ≤ maxLen ∧ n.l.length ≤ maxLen) (hdl : ds.length ≤ 900000) (hd : ∀ d ∈ ds, dfOk d) :
    ACall Tryd.prog 10 [.sl q f (nodes l), .sl q' f' (defs ds)] [] fun r s => (∃ fl, r = .tup [.sl true fl (nodes (expandS l ds).1), .int .i64 (expandS l ds).2]) ∧ s = [] := by
  have hr := rightS_c q f l hl
  have hr2 := rightD_c q' f' ds (by omega) hd
  refine ACall.enter Tryd.func10 rfl (by kernel_rfl) (Nat.le_of_ble_eq_true rfl) ?_; simp only [initTm, Nat.reduceAdd]
  by_cases hok : rightS l = true ∧ rightD [] ds = true
  · obtain ⟨h1, h2⟩ := hok
    have htree := rightS_ok h1 (fun n h => (hl n h).1)
    obtain ⟨hf1, hf2⟩ := rightD_facts ds [] h2
    have hds : ∀ d ∈ ds, treeOk d.l := fun d h => rightS_ok (hf1 d h).2.2 (fun n hn => ((hd d h).2 n hn).1)
    have hcall := fun g g1 g2 g3 => tree_c (nameT ds (ds.length + 1) []) g g2 g3 (dmap ds) (omap []) (clean_dmap ds) (clean_omap _) (fun s out h => nameT_len ds _ _ s out h)
      (fun s out g1 h1 h2 => name_c ds hds g g2 g3 (ds.length + 1) [] (Nat.lt_succ_of_le (List.length_filter_le _ _)) (by simp; omega) s out g1 h1 h2) q f l htree.1 htree.2 [] (by simp) g1
    have hexp : expandS l ds = if (goT (nameT ds (ds.length + 1) []) l [] []).2.2 = 0 then ((goT (nameT ds (ds.length + 1) []) l [] []).1, 0) else ([], (goT (nameT ds (ds.length + 1) []) l [] []).2.2) := by
      rw [expandS, if_pos ⟨h1, h2⟩]
    rw [h1] at hr
    rw [h2] at hr2
    rw [hexp]
    rcases hres : goT (nameT ds (ds.length + 1) []) l [] [] with ⟨o2, v, e⟩
    rw [hres] at hcall
    simp only at hcall ⊢
    repeat' (first
  | refine gSq ?_ | refine gSk ?_ | refine gBl ?_ | refine gIb ?_ | refine gEx rfl ?_
  | ((first
  | (refine AGood.at 4 ?_; (refine AGood.ownBox 22 2 901 9 (by decide) rfl rfl (by decide) ?_; intro g901; simp only [List.set_cons_succ, List.set_cons_zero, go_sem, simprocAttr]); (refine gRg [] [0, 1, 4, 5, 6, 8, 10, 18, 23, 24, 25, 26, 45] ?_; intro K hK))
  | (refine gRg [] [0, 1, 4, 5, 6, 8, 10, 18, 23, 24, 25, 26, 45] ?_; intro K hK)
  | (refine gDr 7 [] 8 [0, 1, 2, 3, 4, 5, 6, 7, 8] [0, 1, 4, 5, 6, 8, 10, 18, 23, 24, 25, 26, 45] rfl ?_; intro K hK)
  | refine cAl (hr) rfl rfl rfl ?_
  | refine cAl (hr2) rfl rfl rfl ?_
  | (refine gd_split ?_ ?_ <;> intro hb <;> (try simp only [bls] at hb) <;> (try simp only [hb]))
  | refine gRt [] [.tmp 4, .tmp 5] rfl ?_ | refine gDn [] [.tmp 4, .tmp 5] rfl ?_) <;> (try simp only [go_sem, simprocAttr]))
  | (refine hK _ _ ?_; clear hK K; simp only [go_sem, simprocAttr])
  | refine gCd (by simp only [go_sem, simprocAttr]; rfl) rfl ?_
  | refine brT ?_ | refine brF ?_
  | (refine brS ?_ ?_ <;> intro hc <;> (try simp only [bls] at hc) <;> (try simp only [hc, bls]))
  | intro _ | refine And.intro ?_ ?_)
    all_goals first | omega | (unfold bigLen; omega) | exact ⟨_, _, ⟨rfl, rfl⟩, rfl⟩ | exact ⟨_, rfl⟩ | (rename_i hy; simp only [List.mem_singleton] at hy; subst hy; rfl) | skip
    rename_i h19 h20 h22
    refine AGood.prune [0, 1, 6, 23, 24, 25] ?_; simp only [go_sem, simprocAttr]
    refine AGood.loopInv (α := Nat) (fun i => ([(0, .sl q f (nodes l)), (1, .sl q' f' (defs ds)), (6, .bx 22 h22 0), (23, .sl q' f' (defs ds)), (24, .int .i64 ds.length), (25, .int .i64 i)],
      [(19, h19, .mp (dmap (ds.take i))), (20, h20, .mp []), (22, h22, .box [.map 19 h19, .map 20 h20, .osl 901 g901 0 0]), (901, g901, .row 9 [])])) (fun i => i ≤ ds.length) (fun i => ds.length - i) 0 (Nat.zero_le _) rfl ?_
    intro i hi ih
    simp only
    by_cases hle : i < ds.length
    · have e4 : (i : Int) < ds.length := by omega
      have e5 : (0 : Int) ≤ i := by omega
      have hx : ds[i]? = some ds[i] := List.getElem?_eq_getElem hle
      have ht := take_one hx
      have hne := hf2 i _ hx
      generalize ds[i] = x at hx hne ht
      have hmp := mput_dmap hne
      rw [← ht] at hmp
      obtain ⟨xn, xl⟩ := x
      simp only at hmp
      have hol : (dmap (ds.take i)).length = min i ds.length := by simp [dmap]
      repeat' (first
  | refine gSq ?_ | refine gSk ?_ | refine gBl ?_ | refine gIb ?_ | refine gEx rfl ?_
  | ((first
  | (refine gRg [] [0, 1, 4, 5, 6, 8, 10, 18, 23, 24, 25, 26, 45] ?_; intro K hK)
  | (refine gDr 7 [] 8 [0, 1, 2, 3, 4, 5, 6, 7, 8] [0, 1, 4, 5, 6, 8, 10, 18, 23, 24, 25, 26, 45] rfl ?_; intro K hK)
  | (refine gd_split ?_ ?_ <;> intro hb <;> (try simp only [bls] at hb) <;> (try simp only [hb]))
  | refine gRt [] [.tmp 4, .tmp 5] rfl ?_ | refine gDn [] [.tmp 4, .tmp 5] rfl ?_) <;> (try simp only [go_sem, simprocAttr, e4, e5, hx, hmp, hol, Option.some.injEq, forall_eq']))
  | (refine hK _ _ ?_; clear hK K; simp only [go_sem, simprocAttr])
  | refine gCd (by simp only [go_sem, simprocAttr]; rfl) rfl ?_
  | refine brT ?_ | refine brF ?_
  | (refine brS ?_ ?_ <;> intro hc <;> (try simp only [bls] at hc) <;> (try simp only [hc, bls]))
  | intro _ | refine And.intro ?_ ?_)
      all_goals first | omega | (unfold bigLen; omega) | exact ⟨_, _, ⟨rfl, rfl⟩, rfl⟩ | exact ⟨_, rfl⟩ | (rename_i hy; simp only [List.mem_singleton] at hy; subst hy; rfl) | skip
      refine AGood.filt [19, 20, 22, 901] ?_
      simp only [sf_cons, sf_nil, go_sem, simprocAttr]
      refine AGood.prune [0, 1, 6, 23, 24, 25] ?_; simp only [go_sem, simprocAttr]
      exact (ih (i + 1) (by omega) (by omega)).cast rfl rfl
    · have e4 : ¬ (i : Int) < ds.length := by omega
      rw [List.take_of_length_le (by omega)]
      have huse := hcall h22 g901 h19 h20
      by_cases he : e = 0
      · subst he
        simp only [if_true]
        have e9 : ∀ o : List Node, (nodes o).take o.length = nodes o := fun o => List.take_of_length_le (by simp)
        repeat' (first
  | refine gSq ?_ | refine gSk ?_ | refine gBl ?_ | refine gIb ?_ | refine gEx rfl ?_
  | ((first
  | (refine AGood.at 12 ?_; (refine AGood.freeze 901 rfl ?_; simp only [rfT, rfS, rfO, rf, rf1, e9, true_and, go_sem, simprocAttr]); (refine gRg [] [0, 1, 4, 5, 6, 8, 10, 18, 23, 24, 25, 26, 45] ?_; intro K hK))
  | (refine gRg [] [0, 1, 4, 5, 6, 8, 10, 18, 23, 24, 25, 26, 45] ?_; intro K hK)
  | (refine gDr 7 [] 8 [0, 1, 2, 3, 4, 5, 6, 7, 8] [0, 1, 4, 5, 6, 8, 10, 18, 23, 24, 25, 26, 45] rfl ?_; intro K hK)
  | (refine ACall.use [(1000, 22), (1001, 901), (1002, 19), (1003, 20)] [] rfl huse rfl rfl rfl ?_; rintro _ _ ⟨rfl, h1, rfl⟩; refine ⟨.inl rfl, rfl, ?_⟩; simp only [bk, bk1, bkS, bkO, idOf, delAll, go_sem, simprocAttr])
  | (refine gd_split ?_ ?_ <;> intro hb <;> (try simp only [bls] at hb) <;> (try simp only [hb]))
  | refine gRt [] [.tmp 4, .tmp 5] rfl ?_ | refine gDn [] [.tmp 4, .tmp 5] rfl ?_) <;> (try simp only [go_sem, simprocAttr, e4]))
  | (refine hK _ _ ?_; clear hK K; simp only [go_sem, simprocAttr])
  | refine gCd (by simp only [go_sem, simprocAttr]; rfl) rfl ?_
  | refine brT ?_ | refine brF ?_
  | (refine brS ?_ ?_ <;> intro hc <;> (try simp only [bls] at hc) <;> (try simp only [hc, bls]))
  | intro _ | refine And.intro ?_ ?_)
        exact ⟨_, rfl⟩
      · simp only [if_neg he]
        repeat' (first
  | refine gSq ?_ | refine gSk ?_ | refine gBl ?_ | refine gIb ?_ | refine gEx rfl ?_
  | ((first
  | (refine gRg [] [0, 1, 4, 5, 6, 8, 10, 18, 23, 24, 25, 26, 45] ?_; intro K hK)
  | (refine gDr 7 [] 8 [0, 1, 2, 3, 4, 5, 6, 7, 8] [0, 1, 4, 5, 6, 8, 10, 18, 23, 24, 25, 26, 45] rfl ?_; intro K hK)
  | (refine ACall.use [(1000, 22), (1001, 901), (1002, 19), (1003, 20)] [] rfl huse rfl rfl rfl ?_; rintro _ _ ⟨rfl, h1, rfl⟩; refine ⟨.inl rfl, rfl, ?_⟩; simp only [bk, bk1, bkS, bkO, idOf, delAll, go_sem, simprocAttr])
  | (refine gd_split ?_ ?_ <;> intro hb <;> (try simp only [bls] at hb) <;> (try simp only [hb]))
  | refine gRt [] [.tmp 4, .tmp 5] rfl ?_ | refine gDn [] [.tmp 4, .tmp 5] rfl ?_) <;> (try simp only [go_sem, simprocAttr, e4, he]))
  | (refine hK _ _ ?_; clear hK K; simp only [go_sem, simprocAttr])
  | refine gCd (by simp only [go_sem, simprocAttr]; rfl) rfl ?_
  | refine brT ?_ | refine brF ?_
  | (refine brS ?_ ?_ <;> intro hc <;> (try simp only [bls] at hc) <;> (try simp only [hc, bls]))
  | intro _ | refine And.intro ?_ ?_)
        exact ⟨_, rfl⟩
  · have hexp : expandS l ds = ([], 1) := by rw [expandS, if_neg hok]
    rw [hexp]
    by_cases h1 : rightS l = true
    · have h2 : rightD [] ds = false := by simpa [h1] using hok
      rw [h1] at hr
      rw [h2] at hr2
      repeat' (first
  | refine gSq ?_ | refine gSk ?_ | refine gBl ?_ | refine gIb ?_ | refine gEx rfl ?_
  | ((first
  | (refine gRg [] [0, 1, 4, 5, 6, 8, 10, 18, 23, 24, 25, 26, 45] ?_; intro K hK)
  | (refine gDr 7 [] 8 [0, 1, 2, 3, 4, 5, 6, 7, 8] [0, 1, 4, 5, 6, 8, 10, 18, 23, 24, 25, 26, 45] rfl ?_; intro K hK)
  | refine cAl (hr) rfl rfl rfl ?_
  | refine cAl (hr2) rfl rfl rfl ?_
  | (refine gd_split ?_ ?_ <;> intro hb <;> (try simp only [bls] at hb) <;> (try simp only [hb]))
  | refine gRt [] [.tmp 4, .tmp 5] rfl ?_ | refine gDn [] [.tmp 4, .tmp 5] rfl ?_) <;> (try simp only [go_sem, simprocAttr]))
  | (refine hK _ _ ?_; clear hK K; simp only [go_sem, simprocAttr])
  | refine gCd (by simp only [go_sem, simprocAttr]; rfl) rfl ?_
  | refine brT ?_ | refine brF ?_
  | (refine brS ?_ ?_ <;> intro hc <;> (try simp only [bls] at hc) <;> (try simp only [hc, bls]))
  | intro _ | refine And.intro ?_ ?_)
      exact ⟨_, rfl⟩
    · rw [show rightS l = false from by simpa using h1] at hr
      repeat' (first
  | refine gSq ?_ | refine gSk ?_ | refine gBl ?_ | refine gIb ?_ | refine gEx rfl ?_
  | ((first
  | (refine gRg [] [0, 1, 4, 5, 6, 8, 10, 18, 23, 24, 25, 26, 45] ?_; intro K hK)
  | (refine gDr 7 [] 8 [0, 1, 2, 3, 4, 5, 6, 7, 8] [0, 1, 4, 5, 6, 8, 10, 18, 23, 24, 25, 26, 45] rfl ?_; intro K hK)
  | refine cAl (hr) rfl rfl rfl ?_
  | refine cAl (hr2) rfl rfl rfl ?_
  | (refine gd_split ?_ ?_ <;> intro hb <;> (try simp only [bls] at hb) <;> (try simp only [hb]))
  | refine gRt [] [.tmp 4, .tmp 5] rfl ?_ | refine gDn [] [.tmp 4, .tmp 5] rfl ?_) <;> (try simp only [go_sem, simprocAttr]))
  | (refine hK _ _ ?_; clear hK K; simp only [go_sem, simprocAttr])
  | refine gCd (by simp only [go_sem, simprocAttr]; rfl) rfl ?_
  | refine brT ?_ | refine brF ?_
  | (refine brS ?_ ?_ <;> intro hc <;> (try simp only [bls] at hc) <;> (try simp only [hc, bls]))
  | intro _ | refine And.intro ?_ ?_)
      exact ⟨_, rfl⟩
end Go.Rad
