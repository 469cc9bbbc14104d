/- NormTells: what it computes. -/
import Derived.Test.YtejdlelhlpnabaaDoorKC08e
import Derived.Test.YtejdlelhlpnabaaDoorKC08a
import Derived.Test.YtejdlelhlpnabaaDoorKC08c
import Derived.Test.YtejdlelhlpnabaaDoorKC06h
import Derived.Test.YtejdlelhlpnabaaDoorKC04a
import Derived.Test.YtejdlelhlpnabaaDoorKL06h
set_option linter.all false
namespace Go.Rad
open Go Go.Proofs
set_option linter.all false
set_option maxRecDepth 20000
set_option maxHeartbeats 4000000

theorem normTells_c (hsh : ACall Tryd.prog 7 [] [] fun r s => r = .bool true ∧ s = []) (l : List Node) (ds : List Df) (hl : nodesOk l) (hd : dfsOk ds) (hl2 : ∀ n ∈ l, n.s.okI) (hd2 : ∀ d ∈ ds, ∀ n ∈ d.l, n.s.okI) :
    ACall Tryd.prog 4 [.sl true false (nodes l), .sl true false (defs ds)] [] fun r _ => r = .bool true := by
  have hfew := few_c l hl.1
  have hsome := some_c ds hd.1 fun d h => (hd.2 d h).2.1
  obtain ⟨hs1, hs2⟩ := some_ok hd
  generalize someS ds = X at hsome hs1 hs2
  clear hd hd2
  have hl4 : ∀ n ∈ l.take 400, n.name.size ≤ maxLen ∧ n.l.length ≤ maxLen := fun n h => hl.2 n (List.mem_of_mem_take h)
  have hl5 : ∀ n ∈ l.take 400, n.s.okI := fun n h => hl2 n (List.mem_of_mem_take h)
  have hl6 : (l.take 400).length ≤ 400 := by simp; omega
  generalize l.take 400 = L at hfew hl4 hl5 hl6
  clear hl2 hl
  have hLm : L.length ≤ maxLen := by unfold maxLen; omega
  have hexp := expand_c true false true false L X hl4 hs1 hs2
  have hexp2 := expandR_c true false true false L X hLm hl4 hs1 hs2
  have hf1 := foldF_c true false L hl4
  have hf2 := foldR_c true false L hLm hl4 hl5
  have hn1 := nullable_c true false L hl4
  have hn2 := nullTop_c true false L hLm hl4
  have hr1 := rightD_c true false X (by omega) hs2
  have hr2 := rightR_c true false X (by omega) hs2
  have hfx : (foldT L).length ≤ 100000 ∧ ∀ n ∈ foldT L, n.l.length ≤ maxLen := by
    unfold foldT
    split
    · refine ⟨by simp; omega, fun n hn => ?_⟩
      obtain ⟨m, hm, rfl⟩ := List.mem_map.1 hn
      exact (hl4 m hm).2
    · exact ⟨by simp, fun n hn => by simp at hn⟩
  have hsame2 := fun q f q' f' => same4uc q f q' f' (foldT L) (foldT L) hfx.1 hfx.2
  have hbx : (expandS L X).1.length ≤ 100000 ∧ ∀ n ∈ (expandS L X).1, n.l.length ≤ maxLen := by
    by_cases he : (expandS L X).2 = 0
    · rcases hres : expandS L X with ⟨x, e⟩
      rw [hres] at he
      simp only at he
      subst he
      obtain ⟨_, _, h2, _⟩ := expand_ok hres
      obtain ⟨_, hx2⟩ := rightS_nodesOk h2
      obtain ⟨_, _, _, h⟩ := rightS_kids h2
      exact ⟨by simp only; omega, fun n hn => (hx2 n hn).2⟩
    · rw [expand_no he]; exact ⟨by simp, fun n hn => by simp at hn⟩
  have hsame := fun q f q' f' => same4uc q f q' f' (expandS L X).1 (expandS L X).1 hbx.1 hbx.2
  simp only [decide_true] at hsame hsame2
  rcases hres : expandS L X with ⟨x, e⟩
  rw [hres] at hexp hexp2 hsame
  simp only at hexp hexp2 hsame
  clear hfx hbx hres
  generalize foldT L = fL at *
  generalize nullS L = nL at *
  generalize rightD [] X = rX at *
  refine ACall.enter Tryd.func4 rfl (by kernel_rfl) (Nat.le_of_ble_eq_true rfl) ?_; simp only [initTm, Nat.reduceAdd]
  repeat' (first
  | refine gSq ?_ | refine gSk ?_ | refine gBl ?_ | refine gIb ?_ | refine gEx rfl ?_
  | ((first
  | (refine gRg [] [0, 1, 4, 5, 6, 7, 8] ?_; intro K hK)
  | refine cAl (hsh) rfl rfl rfl ?_
  | refine cAl (hfew) rfl rfl rfl ?_
  | refine cAl (hsome) rfl rfl rfl ?_
  | refine cAl (hf1) rfl rfl rfl ?_
  | refine cAl (hf2) rfl rfl rfl ?_
  | refine cAl (hn1) rfl rfl rfl ?_
  | refine cAl (hn2) rfl rfl rfl ?_
  | refine cAl (hr1) rfl rfl rfl ?_
  | refine cAl (hr2) rfl rfl rfl ?_
  | refine cAl (hsame _ _ _ _) rfl rfl rfl ?_
  | refine cAl (hsame2 _ _ _ _) rfl rfl rfl ?_
  | (refine ACall.use [] [] rfl hexp rfl rfl rfl ?_; rintro _ _ ⟨⟨fl, rfl⟩, rfl⟩; refine ⟨.inl rfl, rfl, ?_⟩; simp only [bk, bk1, bkS, delAll, List.map_cons, List.map_nil])
  | (refine ACall.use [] [] rfl hexp2 rfl rfl rfl ?_; rintro _ _ ⟨⟨fl, rfl⟩, rfl⟩; refine ⟨.inl rfl, rfl, ?_⟩; simp only [bk, bk1, bkS, delAll, List.map_cons, List.map_nil])
  | (refine gd_split ?_ ?_ <;> intro hb <;> (try simp only [bls] at hb) <;> (try simp only [hb]))
  | refine gRt [] [.tmp 4] rfl ?_ | refine gDn [] [.tmp 4] rfl ?_) <;> (try simp only [go_sem, simprocAttr, BEq.rfl]))
  | (refine hK _ _ ?_; clear hK K; simp only [go_sem, simprocAttr])
  | refine gCd (by simp only [go_sem, simprocAttr]; rfl) rfl ?_
  | refine brT ?_ | refine brF ?_
  | (refine brS ?_ ?_ <;> intro hc <;> (try simp only [bls] at hc) <;> (try simp only [hc, bls]))
  | intro _ | refine And.intro ?_ ?_)
  all_goals first | omega | (unfold bigLen; omega) | exact ⟨_, _, ⟨rfl, rfl⟩, rfl⟩ | exact ⟨_, rfl⟩ | (rename_i hy; simp only [List.mem_singleton] at hy; subst hy; rfl) | skip
end Go.Rad
