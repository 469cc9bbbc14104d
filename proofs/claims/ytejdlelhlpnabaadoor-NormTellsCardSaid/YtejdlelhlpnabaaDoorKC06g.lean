/- Contracts: norm: a tree of both cases of letters. -/
import Derived.Test.YtejdlelhlpnabaaDoorKC06a
import Derived.Test.YtejdlelhlpnabaaDoorKC03c
import Derived.Test.YtejdlelhlpnabaaDoorKRText
set_option linter.all false
namespace Go.Rad
open Go Go.Proofs
set_option linter.all false
set_option maxRecDepth 20000
set_option maxHeartbeats 4000000

theorem cloneF_c (q f : Bool) (l : List Int) (hl : l.length ≤ 1000000) : ACall Tryd.prog 23 [.sl q f (ints l)] [] fun r s => r = .sl true false (ints l) ∧ s = [] := by
  refine (clone_c q f l hl).frzRes ?_
  rintro r s (⟨rfl, rfl, rfl⟩ | ⟨h, rfl, rfl⟩)
  · exact .inr (.inl ⟨_, _, _, rfl, rfl, rfl⟩)
  · exact .inl ⟨5, h, 1, ints l, by simp, rfl, rfl, rfl⟩
def foldN (n : Node) : Node := { n with s := (foldS n.s.N).I }
def foldT (l : List Node) : List Node := if rightS l = true then l.map foldN else []
theorem foldT_c (q f : Bool) (l : List Node) (hl : ∀ n ∈ l, n.name.size ≤ maxLen ∧ n.l.length ≤ maxLen) : ACall Tryd.prog 9 [.sl q f (nodes l)] [] fun r s => (∃ fl, r = .sl true fl (nodes (foldT l))) ∧ s = [] := by
  refine ACall.fitSl 0 (able_of (P := Tryd.prog) (f := 9) rfl (by kernel_rfl) (by kernel_rfl)) rfl fun hfit => ?_
  have hset : ∀ n ∈ l, n.s.okI := by
    intro n hn
    obtain ⟨m, hm⟩ := List.mem_iff_getElem?.1 hn
    have hm2 : (nodes l)[m]? = some n.cells := by simp [nodes, hm]
    exact ⟨hfit m 1 _ _ _ hm2 rfl, hfit m 2 _ _ _ hm2 rfl, hfit m 3 _ _ _ hm2 rfl, hfit m 4 _ _ _ hm2 rfl⟩
  clear hfit
  have hr := rightS_c q f l hl
  refine ACall.enter Tryd.func9 rfl (by kernel_rfl) (Nat.le_of_ble_eq_true rfl) ?_; simp only [initTm, Nat.reduceAdd]
  cases hok : rightS l
  · rw [hok] at hr
    have e : foldT l = [] := by simp [foldT, hok]
    rw [e]
    repeat' (first
  | refine gSq ?_ | refine gSk ?_ | refine gBl ?_ | refine gIb ?_ | refine gEx rfl ?_
  | ((first
  | (refine gRg [] [0, 2, 3, 5, 8, 9, 10, 11, 12] ?_; intro K hK)
  | (refine gDr 7 [] 6 [0, 1, 2, 3, 4, 6, 5, 7, 8, 9] [0, 2, 3, 5, 8, 9, 10, 11, 12] rfl ?_; intro K hK)
  | refine cAl (hr) rfl rfl rfl ?_
  | (refine gd_split ?_ ?_ <;> intro hb <;> (try simp only [bls] at hb) <;> (try simp only [hb]))
  | refine gRt [] [.tmp 2] rfl ?_ | refine gDn [] [.tmp 2] rfl ?_) <;> (try simp only [go_sem, simprocAttr]))
  | (refine hK _ _ ?_; clear hK K; simp only [go_sem, simprocAttr])
  | refine gCd (by simp only [go_sem, simprocAttr]; rfl) rfl ?_
  | refine brT ?_ | refine brF ?_
  | (refine brS ?_ ?_ <;> intro hc <;> (try simp only [bls] at hc) <;> (try simp only [hc, bls]))
  | intro _ | refine And.intro ?_ ?_)
    exact ⟨_, rfl⟩
  · rw [hok] at hr
    have e : foldT l = l.map foldN := by simp [foldT, hok]
    have htree := rightS_ok hok (fun n h => (hl n h).1)
    rw [e]
    repeat' (first
  | refine gSq ?_ | refine gSk ?_ | refine gBl ?_ | refine gIb ?_ | refine gEx rfl ?_
  | ((first
  | (refine gRg [] [0, 2, 3, 5, 8, 9, 10, 11, 12] ?_; intro K hK)
  | (refine gDr 7 [] 6 [0, 1, 2, 3, 4, 6, 5, 7, 8, 9] [0, 2, 3, 5, 8, 9, 10, 11, 12] rfl ?_; intro K hK)
  | refine cAl (hr) rfl rfl rfl ?_
  | (refine gd_split ?_ ?_ <;> intro hb <;> (try simp only [bls] at hb) <;> (try simp only [hb]))
  | refine gRt [] [.tmp 2] rfl ?_ | refine gDn [] [.tmp 2] rfl ?_) <;> (try simp only [go_sem, simprocAttr]))
  | (refine hK _ _ ?_; clear hK K; simp only [go_sem, simprocAttr])
  | refine gCd (by simp only [go_sem, simprocAttr]; rfl) rfl ?_
  | refine brT ?_ | refine brF ?_
  | (refine brS ?_ ?_ <;> intro hc <;> (try simp only [bls] at hc) <;> (try simp only [hc, bls]))
  | intro _ | refine And.intro ?_ ?_)
    refine AGood.ownTm 3 900 9 (by decide) rfl fun g => ?_
    simp only [go_sem, simprocAttr]
    refine AGood.prune [0, 2, 3, 9, 10, 11] ?_; simp only [go_sem, simprocAttr]
    refine AGood.loopInv (α := Nat × Nat) (fun x => ([(0, .sl q f (nodes l)), (2, .sl true true []), (3, .osl 900 x.2 0 x.1), (9, .sl q f (nodes l)), (10, .int .i64 l.length), (11, .int .i64 x.1)], [(900, (x.2, .row 9 (nodes ((l.take x.1).map foldN))))])) (fun x => x.1 ≤ l.length) (fun x => l.length - x.1) (0, g) (Nat.zero_le _) rfl ?_
    rintro ⟨i, g⟩ hi ih
    simp only at hi ih ⊢
    by_cases hle : i < l.length
    · have e4 : (i : Int) < l.length := by omega
      have e5 : (0 : Int) ≤ i := by omega
      have hx : l[i]? = some l[i] := List.getElem?_eq_getElem hle
      have hmem := List.getElem_mem hle
      have ht : (l.take (i + 1)).map foldN = (l.take i).map foldN ++ [foldN l[i]] := by simp only [take_one hx, List.map_append, List.map_cons, List.map_nil]
      have hL := htree.1.2
      have hset1 := okI_N (hset _ hmem)
      have hlen1 := (htree.2 i _ hx).2.1
      have hlc : (nodes ((l.take i).map foldN)).length = i := by simp; omega
      generalize l[i] = n at hx ht hset1 hlen1
      obtain ⟨xo, xs, xl, xlo, xhi, xn⟩ := n
      simp only at hset1 hlen1
      have hf := fold2uc xs.N hset1.1
      simp only [foldN] at ht
      generalize foldS xs.N = fs at hf ht
      have hxs := hset1.2
      generalize xs.N = xm at hf hxs
      subst hxs
      obtain ⟨xa, xb, xc, xd⟩ := xm
      have ih := fun g' => ih (i + 1, g') (by simp only; omega) (by simp only; omega)
      simp only [ht] at ih
      generalize (l.take i).map foldN = out at ih hlc ⊢
      have hcl := cloneF_c true false xl hlen1
      repeat' (first
  | refine gSq ?_ | refine gSk ?_ | refine gBl ?_ | refine gIb ?_ | refine gEx rfl ?_
  | ((first
  | (refine gRg [25] [0, 2, 3, 5, 8, 9, 10, 11, 12] ?_; intro K hK)
  | (refine gDr 7 [25] 7 [0, 1, 2, 3, 4, 5, 6, 7, 8, 9] [0, 2, 3, 5, 8, 9, 10, 11, 12] rfl ?_; intro K hK)
  | (refine ⟨_, ACall.alone hf rfl rfl rfl, ?_⟩)
  | (refine ⟨_, ACall.alone hcl rfl rfl rfl, ?_⟩)
  | (refine gd_split ?_ ?_ <;> intro hb <;> (try simp only [bls] at hb) <;> (try simp only [hb]))
  | refine gRt [] [.tmp 2] rfl ?_ | refine gDn [] [.tmp 2] rfl ?_) <;> (try simp only [go_sem, simprocAttr, e4, e5, hx, hlc, Option.some.injEq, forall_eq']))
  | (refine hK _ _ ?_; clear hK K; simp only [go_sem, simprocAttr])
  | refine gCd (by simp only [go_sem, simprocAttr]; rfl) rfl ?_
  | refine brT ?_ | refine brF ?_
  | (refine brS ?_ ?_ <;> intro hc <;> (try simp only [bls] at hc) <;> (try simp only [hc, bls]))
  | intro _ | refine And.intro ?_ ?_)
      all_goals first | omega | (unfold bigLen; omega) | exact ⟨_, _, ⟨rfl, rfl⟩, rfl⟩ | exact ⟨_, rfl⟩ | (rename_i hy; simp only [List.mem_singleton] at hy; subst hy; rfl) | skip
      refine AGood.filt [900] ?_
      simp only [sf_cons, sf_nil, go_sem, simprocAttr]
      refine AGood.prune [0, 2, 3, 9, 10, 11] ?_; simp only [go_sem, simprocAttr]
      exact (ih _).cast rfl (by simp)
    · have e4 : ¬ (i : Int) < l.length := by omega
      have hin : i = l.length := by omega
      subst hin
      rw [List.take_length]
      repeat' (first
  | refine gSq ?_ | refine gSk ?_ | refine gBl ?_ | refine gIb ?_ | refine gEx rfl ?_
  | ((first
  | (refine AGood.at 10 ?_; (refine AGood.freeze 900 rfl ?_; simp only [rfT, rfS, rfO, rf, rf1, true_and, go_sem, simprocAttr]); (refine gRg [] [0, 2, 3, 5, 8, 9, 10, 11, 12] ?_; intro K hK))
  | (refine gRg [] [0, 2, 3, 5, 8, 9, 10, 11, 12] ?_; intro K hK)
  | (refine gDr 7 [] 6 [0, 1, 2, 3, 4, 6, 5, 7, 8, 9] [0, 2, 3, 5, 8, 9, 10, 11, 12] rfl ?_; intro K hK)
  | (refine gd_split ?_ ?_ <;> intro hb <;> (try simp only [bls] at hb) <;> (try simp only [hb]))
  | refine gRt [] [.tmp 2] rfl ?_ | refine gDn [] [.tmp 2] rfl ?_) <;> (try simp only [go_sem, simprocAttr, e4]))
  | (refine hK _ _ ?_; clear hK K; simp only [go_sem, simprocAttr])
  | refine gCd (by simp only [go_sem, simprocAttr]; rfl) rfl ?_
  | refine brT ?_ | refine brF ?_
  | (refine brS ?_ ?_ <;> intro hc <;> (try simp only [bls] at hc) <;> (try simp only [hc, bls]))
  | intro _ | refine And.intro ?_ ?_)
      exact ⟨false, by rw [List.take_of_length_le (by simp)]⟩
theorem foldF_c (q f : Bool) (l : List Node) (hl : ∀ n ∈ l, n.name.size ≤ maxLen ∧ n.l.length ≤ maxLen) : ACall Tryd.prog 9 [.sl q f (nodes l)] [] fun r s => r = .sl true false (nodes (foldT l)) ∧ s = [] := by
  refine (foldT_c q f l hl).frzRes ?_
  rintro r s ⟨⟨fl, rfl⟩, rfl⟩
  exact .inr (.inl ⟨_, _, _, rfl, rfl, rfl⟩)
end Go.Rad
