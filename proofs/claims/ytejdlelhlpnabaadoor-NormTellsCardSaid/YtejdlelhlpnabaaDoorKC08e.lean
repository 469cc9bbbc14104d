/- Contracts: Expand, as the document says it. -/
import Derived.Test.YtejdlelhlpnabaaDoorKC08d
import Derived.Test.YtejdlelhlpnabaaDoorKC08b
import Derived.Test.YtejdlelhlpnabaaDoorKC04c
set_option linter.all false
namespace Go.Rad
open Go Go.Proofs
set_option linter.all false
set_option maxRecDepth 20000
set_option maxHeartbeats 4000000

theorem expandR_c (q f q' f' : Bool) (l : List Node) (ds : List Df) (hlen : l.length ≤ maxLen) (hl : ∀ n ∈ l, n.name.size ≤ maxLen ∧ n.l.length ≤ maxLen) (hdl : ds.length ≤ 900000) (hd : ∀ d ∈ ds, dfOk d) :
    ACall Tryd.prog 13 [.sl q f (nodes l), .sl true f' (defs ds)] [] fun r s => (∃ fl, r = .tup [.sl true fl (nodes (expandS l ds).1), .int .i64 (expandS l ds).2]) ∧ s = [] := by
  have hr := right4uc q f l fun n h => (hl n h).symm
  rw [← right_eq] at hr
  have hr2 := rightR_c true f' ds (by omega) hd
  refine ACall.enter Tryd.func13 rfl (by kernel_rfl) (Nat.le_of_ble_eq_true rfl) ?_; simp only [initTm, Nat.reduceAdd]
  by_cases hok : rightS l = true ∧ rightD [] ds = true
  · obtain ⟨h1, h2⟩ := hok
    have htree := rightS_ok h1 (fun n h => (hl n h).1)
    obtain ⟨k1, k2⟩ := (rightD_iff ds []).1 h2
    have hds : ∀ d ∈ ds, rightS d.l = true ∧ ∀ n ∈ d.l, n.name.size ≤ maxLen := fun d h => ⟨(k1 d h).2.2, fun n hn => ((hd d h).2 n hn).1⟩
    obtain ⟨r1, r2, r3, r4⟩ := rightS_kids h1
    obtain ⟨rn, hr1, hr2'⟩ : ∃ n, l[l.length - 1]? = some n ∧ Kids l 0 n.l (l.length - 1) := by
      generalize hcc : (l.length : Int) - 1 = cc at r1
      cases r1 with
      | @cons _ kk _ nn _ q1 q2 q3 =>
        have : kk = l.length - 1 := by omega
        subst this; exact ⟨nn, q1, q2⟩
    have hwalk := fun g g1 g2 => walk_c ds f' hdl hds k2 (ds.length + 1) [] (Nat.lt_succ_of_le (List.length_filter_le _ _)) q f l htree r2 (l.length - 1) rn 0 hr1 hr2' [] [] rfl (by simp) g g1 g2
    rw [show l.length - 1 + 1 = l.length by omega, segL_all] at hwalk
    have hexp : expandS l ds = if (goT (nameT ds (ds.length + 1) []) l [] []).2.2 = 0 then ((goT (nameT ds (ds.length + 1) []) l [] []).1, 0) else ([], (goT (nameT ds (ds.length + 1) []) l [] []).2.2) := by
      rw [expandS, if_pos ⟨h1, h2⟩]
    rw [goT_goA] at hexp
    generalize goA (nameT ds (ds.length + 1) []) l [] [] = R at hwalk hexp
    obtain ⟨RA, Ro, Re⟩ := R
    simp only at hwalk hexp
    have hbl : (opB ds []).length = ds.length := by simp
    have hb0 : opB ds [] = List.replicate ds.length false := opB_nil ds
    have f7 : ((l.length - 1 : Nat) : Int) = (l.length : Int) - 1 := by omega
    rw [f7] at hwalk
    have f8 : inI64 ((l.length : Int) - 1) := by unfold inI64; omega
    simp only [wsto, hbl, List.length_nil] at hwalk
    rw [h1] at hr
    rw [h2] at hr2
    rw [hexp]
    have hb1 : List.replicate ds.length [AVal.bool false] = boolsL (opB ds []) := by rw [hb0]; simp [boolsL]
    have hb2 : List.map (List.map nrm1) (boolsL (opB ds [])) = boolsL (opB ds []) := by simp [boolsL, nrm1]
    clear hexp k1 k2 hds r1 r2 htree hb0 hbl hr1 hr2'
    generalize opB ds [] = bs at hwalk hb1 hb2
    by_cases he : Re = 0
    · subst he
      simp only [if_true]
      have e9 : ∀ o : List Node, (nodes o).take o.length = nodes o := fun o => List.take_of_length_le (by simp)
      repeat' (first
  | refine gSq ?_ | refine gSk ?_ | refine gBl ?_ | refine gIb ?_ | refine gEx rfl ?_
  | ((first
  | (refine AGood.at 4 ?_; (refine AGood.ownBox 20 2 901 9 (by decide) rfl rfl (by decide) ?_; intro g901; simp only [List.set_cons_succ, List.set_cons_zero, go_sem, simprocAttr]); (refine gRg [] [0, 1, 4, 5, 6, 14, 31] ?_; intro K hK))
  | (refine AGood.at 7 ?_; (refine AGood.freeze 901 rfl ?_; simp only [rfT, rfS, rfO, rf, rf1, e9, nodes_len, true_and, Nat.le_refl, go_sem, simprocAttr]); (refine gRg [] [0, 1, 4, 5, 6, 14, 31] ?_; intro K hK))
  | (refine gRg [] [0, 1, 4, 5, 6, 14, 31] ?_; intro K hK)
  | (refine gDr 6 [] 6 [0, 1, 2, 3, 4, 5] [0, 1, 4, 5, 6, 14, 31] rfl ?_; intro K hK)
  | refine cAl (hr) rfl rfl rfl ?_
  | refine cAl (hr2) rfl rfl rfl ?_
  | (refine ACall.use [(1000, 20), (1001, 18), (1002, 901)] [] rfl (hwalk _ _ _) rfl rfl rfl ?_; rintro _ _ ⟨rfl, h1, rfl⟩; refine ⟨.inl rfl, rfl, ?_⟩; simp only [bk, bk1, bkS, bkO, idOf, delAll, go_sem, simprocAttr])
  | (refine gd_split ?_ ?_ <;> intro hb <;> (try simp only [bls] at hb) <;> (try simp only [hb]))
  | refine gRt [] [.tmp 4, .tmp 5] rfl ?_ | refine gDn [] [.tmp 4, .tmp 5] rfl ?_) <;> (try simp only [go_sem, simprocAttr, f8, hb1, hb2]))
  | (refine hK _ _ ?_; clear hK K; simp only [go_sem, simprocAttr])
  | refine gCd (by simp only [go_sem, simprocAttr]; rfl) rfl ?_
  | refine brT ?_ | refine brF ?_
  | (refine brS ?_ ?_ <;> intro hc <;> (try simp only [bls] at hc) <;> (try simp only [hc, bls]))
  | intro _ | refine And.intro ?_ ?_)
      all_goals first | omega | (unfold bigLen; omega) | exact ⟨_, _, ⟨rfl, rfl⟩, rfl⟩ | exact ⟨_, rfl⟩ | (rename_i hy; simp only [List.mem_singleton] at hy; subst hy; rfl) | skip
    · simp only [if_neg he]
      repeat' (first
  | refine gSq ?_ | refine gSk ?_ | refine gBl ?_ | refine gIb ?_ | refine gEx rfl ?_
  | ((first
  | (refine AGood.at 4 ?_; (refine AGood.ownBox 20 2 901 9 (by decide) rfl rfl (by decide) ?_; intro g901; simp only [List.set_cons_succ, List.set_cons_zero, go_sem, simprocAttr]); (refine gRg [] [0, 1, 4, 5, 6, 14, 31] ?_; intro K hK))
  | (refine gRg [] [0, 1, 4, 5, 6, 14, 31] ?_; intro K hK)
  | (refine gDr 6 [] 6 [0, 1, 2, 3, 4, 5] [0, 1, 4, 5, 6, 14, 31] rfl ?_; intro K hK)
  | refine cAl (hr) rfl rfl rfl ?_
  | refine cAl (hr2) rfl rfl rfl ?_
  | (refine ACall.use [(1000, 20), (1001, 18), (1002, 901)] [] rfl (hwalk _ _ _) rfl rfl rfl ?_; rintro _ _ ⟨rfl, h1, rfl⟩; refine ⟨.inl rfl, rfl, ?_⟩; simp only [bk, bk1, bkS, bkO, idOf, delAll, go_sem, simprocAttr])
  | (refine gd_split ?_ ?_ <;> intro hb <;> (try simp only [bls] at hb) <;> (try simp only [hb]))
  | refine gRt [] [.tmp 4, .tmp 5] rfl ?_ | refine gDn [] [.tmp 4, .tmp 5] rfl ?_) <;> (try simp only [go_sem, simprocAttr, f8, hb1, hb2, he]))
  | (refine hK _ _ ?_; clear hK K; simp only [go_sem, simprocAttr])
  | refine gCd (by simp only [go_sem, simprocAttr]; rfl) rfl ?_
  | refine brT ?_ | refine brF ?_
  | (refine brS ?_ ?_ <;> intro hc <;> (try simp only [bls] at hc) <;> (try simp only [hc, bls]))
  | intro _ | refine And.intro ?_ ?_)
      all_goals first | omega | (unfold bigLen; omega) | exact ⟨_, _, ⟨rfl, rfl⟩, rfl⟩ | exact ⟨_, rfl⟩ | (rename_i hy; simp only [List.mem_singleton] at hy; subst hy; rfl) | skip
  · have hexp : expandS l ds = ([], 1) := by rw [expandS, if_neg hok]
    rw [hexp]
    by_cases h1 : rightS l = true
    · have h2 : rightD [] ds = false := by simpa [h1] using hok
      rw [h1] at hr
      rw [h2] at hr2
      repeat' (first
  | refine gSq ?_ | refine gSk ?_ | refine gBl ?_ | refine gIb ?_ | refine gEx rfl ?_
  | ((first
  | (refine gRg [] [0, 1, 4, 5, 6, 14, 31] ?_; intro K hK)
  | (refine gDr 6 [] 6 [0, 1, 2, 3, 4, 5] [0, 1, 4, 5, 6, 14, 31] rfl ?_; intro K hK)
  | refine cAl (hr) rfl rfl rfl ?_
  | refine cAl (hr2) rfl rfl rfl ?_
  | (refine gd_split ?_ ?_ <;> intro hb <;> (try simp only [bls] at hb) <;> (try simp only [hb]))
  | refine gRt [] [.tmp 4, .tmp 5] rfl ?_ | refine gDn [] [.tmp 4, .tmp 5] rfl ?_) <;> (try simp only [go_sem, simprocAttr]))
  | (refine hK _ _ ?_; clear hK K; simp only [go_sem, simprocAttr])
  | refine gCd (by simp only [go_sem, simprocAttr]; rfl) rfl ?_
  | refine brT ?_ | refine brF ?_
  | (refine brS ?_ ?_ <;> intro hc <;> (try simp only [bls] at hc) <;> (try simp only [hc, bls]))
  | intro _ | refine And.intro ?_ ?_)
      all_goals first | omega | (unfold bigLen; omega) | exact ⟨_, _, ⟨rfl, rfl⟩, rfl⟩ | exact ⟨_, rfl⟩ | (rename_i hy; simp only [List.mem_singleton] at hy; subst hy; rfl) | skip
    · rw [show rightS l = false from by simpa using h1] at hr
      repeat' (first
  | refine gSq ?_ | refine gSk ?_ | refine gBl ?_ | refine gIb ?_ | refine gEx rfl ?_
  | ((first
  | (refine gRg [] [0, 1, 4, 5, 6, 14, 31] ?_; intro K hK)
  | (refine gDr 6 [] 6 [0, 1, 2, 3, 4, 5] [0, 1, 4, 5, 6, 14, 31] rfl ?_; intro K hK)
  | refine cAl (hr) rfl rfl rfl ?_
  | refine cAl (hr2) rfl rfl rfl ?_
  | (refine gd_split ?_ ?_ <;> intro hb <;> (try simp only [bls] at hb) <;> (try simp only [hb]))
  | refine gRt [] [.tmp 4, .tmp 5] rfl ?_ | refine gDn [] [.tmp 4, .tmp 5] rfl ?_) <;> (try simp only [go_sem, simprocAttr]))
  | (refine hK _ _ ?_; clear hK K; simp only [go_sem, simprocAttr])
  | refine gCd (by simp only [go_sem, simprocAttr]; rfl) rfl ?_
  | refine brT ?_ | refine brF ?_
  | (refine brS ?_ ?_ <;> intro hc <;> (try simp only [bls] at hc) <;> (try simp only [hc, bls]))
  | intro _ | refine And.intro ?_ ?_)
      all_goals first | omega | (unfold bigLen; omega) | exact ⟨_, _, ⟨rfl, rfl⟩, rfl⟩ | exact ⟨_, rfl⟩ | (rename_i hy; simp only [List.mem_singleton] at hy; subst hy; rfl) | skip
end Go.Rad
