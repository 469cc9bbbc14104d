/- Contracts: whether nodes are a plan. -/
import Derived.Test.YtjhcamnmfjkidaaKC05a
import Derived.Test.YtjhcamnmfjkidaaKP09a
import Derived.Test.YtjhcamnmfjkidaaKP09b
import Derived.Test.YtjhcamnmfjkidaaKRNode
import Derived.Test.YtjhcamnmfjkidaaKRNorm
set_option linter.all false
namespace Go.Rad
open Go Go.Proofs
set_option linter.all false
set_option maxRecDepth 20000
set_option maxHeartbeats 4000000

/-- Nodes as the code leans on them: kids ahead, one of a repetition, bounds small. -/
def plOk (l : List Node) : Prop := l.length ≤ 1024 ∧ ∀ (i : Nat) (n : Node), l[i]? = some n → n.l.length ≤ 1024 ∧ (∀ k ∈ n.l, 0 ≤ k ∧ k < (i : Int)) ∧ (n.op = 5 → n.l.length = 1) ∧ 0 ≤ n.lo ∧ n.lo ≤ 4096 ∧ n.hi ≤ 4096
theorem shape_pl {n : Node} (h : shapeOk n = true) : (n.op = 5 → n.l.length = 1) ∧ 0 ≤ n.lo ∧ n.lo ≤ 4096 ∧ n.hi ≤ 4096 := by
  by_cases h5 : n.op = 5
  · simp only [shapeOk, h5] at h
    simp only [show ¬ (5 : Int) = 1 by decide, show ¬ (5 : Int) = 2 by decide, show ¬ ((5 : Int) = 3 ∨ (5 : Int) = 4) by decide, if_false, if_true, Bool.and_eq_true, decide_eq_true_eq] at h
    exact ⟨fun _ => h.1.1.2, by omega⟩
  · have hb : n.lo = 0 ∧ n.hi = 0 := by
      simp only [shapeOk, if_neg h5] at h
      split at h
      · simp only [Bool.and_eq_true, Bool.not_eq_true', decide_eq_false_iff_not] at h; omega
      · split at h
        · simp only [Bool.and_eq_true, Bool.not_eq_true', decide_eq_false_iff_not] at h; omega
        · split at h
          · simp only [Bool.and_eq_true, Bool.not_eq_true', decide_eq_false_iff_not] at h; omega
          · split at h
            · simp only [Bool.and_eq_true, Bool.not_eq_true', decide_eq_false_iff_not] at h; omega
            · cases h
    exact ⟨fun h => absurd h h5, by omega⟩
theorem plain_plOk {l : List Node} (h : plainS l = true) : plOk l := by
  simp only [plainS, Bool.and_eq_true] at h
  have hr := h.2
  rw [← right_eq] at hr
  obtain ⟨_, hall, _, h4⟩ := rightS_kids hr
  have ht := rightS_ok hr fun n hn => (rightS_bounds hr n hn).1
  refine ⟨h4, fun i n hi => ?_⟩
  have hs := shape_pl (List.all_eq_true.1 hall n (List.mem_of_getElem? hi))
  simp only [rightS, Bool.and_eq_true] at hr
  have hk : n.l.length ≤ i := by
    obtain ⟨_, h3⟩ := hr
    split at h3
    · rename_i st hst
      have := (stk_below l 0 [] st hst (Nat.le_refl _) (fun k hk => by simp at hk) i n hi).1
      omega
    · cases h3
  have := (List.getElem?_eq_some_iff.1 hi).1
  exact ⟨by omega, (ht.2 i n hi).2.2, hs⟩
def ndOk (l : List Node) : Prop := ∀ n ∈ l, n.name.size ≤ maxLen ∧ n.l.length ≤ maxLen
theorem pplain_c (q f : Bool) (l : List Node) (hl : ndOk l) : ACall Try.prog 36 [.sl q f (nodes l)] [] fun r s => r = .bool (plainS l) ∧ s = [] := by
  have he := expand_c q f true true l [] hl (by simp) (fun d hd => by simp at hd)
  rw [← plain_iff]
  generalize expandS l [] = x at he
  refine ACall.enter Try.func36 rfl (by kernel_rfl) (Nat.le_of_ble_eq_true rfl) ?_; simp only [initTm, Nat.reduceAdd]
  repeat' (first
  | refine gSq ?_ | refine gSk ?_ | refine gBl ?_ | refine gIb ?_ | refine gEx rfl ?_
  | ((first
  | (refine gRg [] [0, 2, 4] ?_; intro K hK)
  | (refine ACall.use [] [] rfl he rfl rfl rfl ?_; rintro _ _ ⟨⟨fl, rfl⟩, rfl⟩; refine ⟨.inl rfl, rfl, ?_⟩; simp only [bk, bk2, bk1, bkS, bkO, idOf, delAll, go_sem, simprocAttr])
  | (refine gd_split ?_ ?_ <;> intro hb <;> (try simp only [bls] at hb) <;> (try simp only [hb]))
  | refine gRt [] [.tmp 2] rfl ?_ | refine gDn [] [.tmp 2] rfl ?_) <;> (try simp only [go_sem, simprocAttr]))
  | (refine hK _ _ ?_; clear hK K; simp only [go_sem, simprocAttr])
  | refine gCd (by simp only [go_sem, simprocAttr]; rfl) rfl ?_
  | refine brT ?_ | refine brF ?_
  | (refine brS ?_ ?_ <;> intro hc <;> (try simp only [bls] at hc) <;> (try simp only [hc, bls]))
  | intro _ | refine And.intro ?_ ?_)
  all_goals first | omega | (unfold bigLen; omega) | exact ⟨_, _, ⟨rfl, rfl⟩, rfl⟩ | exact ⟨_, rfl⟩ | (rename_i hy; simp only [List.mem_singleton] at hy; subst hy; rfl) | with_reducible rfl | skip
theorem pstar_c (n : Node) : ACall Try.prog 37 [.agg n.cells] [] fun r s => r = .bool (starB n) ∧ s = [] := by
  obtain ⟨xo, ⟨xa, xb, xc, xd⟩, xl, xlo, xhi, xn⟩ := n
  simp only [Node.cells, Node.cellsF, starB]
  by_cases h1 : xlo = 0
  · subst h1
    refine ACall.enter Try.func37 rfl (by kernel_rfl) (Nat.le_of_ble_eq_true rfl) ?_; simp only [initTm, Nat.reduceAdd]
    repeat' (first
  | refine gSq ?_ | refine gSk ?_ | refine gBl ?_ | refine gIb ?_ | refine gEx rfl ?_
  | ((first
  | (refine gRg [] [0, 1, 2] ?_; intro K hK)
  | (refine gd_split ?_ ?_ <;> intro hb <;> (try simp only [bls] at hb) <;> (try simp only [hb]))
  | refine gRt [] [.tmp 2] rfl ?_ | refine gDn [] [.tmp 2] rfl ?_) <;> (try simp only [go_sem, simprocAttr]))
  | (refine hK _ _ ?_; clear hK K; simp only [go_sem, simprocAttr])
  | refine gCd (by simp only [go_sem, simprocAttr]; rfl) rfl ?_
  | refine brT ?_ | refine brF ?_
  | (refine brS ?_ ?_ <;> intro hc <;> (try simp only [bls] at hc) <;> (try simp only [hc, bls]))
  | intro _ | refine And.intro ?_ ?_)
    all_goals first | omega | (unfold bigLen; omega) | exact ⟨_, _, ⟨rfl, rfl⟩, rfl⟩ | exact ⟨_, rfl⟩ | (rename_i hy; simp only [List.mem_singleton] at hy; subst hy; rfl) | with_reducible rfl | skip
  · refine ACall.enter Try.func37 rfl (by kernel_rfl) (Nat.le_of_ble_eq_true rfl) ?_; simp only [initTm, Nat.reduceAdd]
    repeat' (first
  | refine gSq ?_ | refine gSk ?_ | refine gBl ?_ | refine gIb ?_ | refine gEx rfl ?_
  | ((first
  | (refine gRg [] [0, 1, 2] ?_; intro K hK)
  | (refine gd_split ?_ ?_ <;> intro hb <;> (try simp only [bls] at hb) <;> (try simp only [hb]))
  | refine gRt [] [.tmp 2] rfl ?_ | refine gDn [] [.tmp 2] rfl ?_) <;> (try simp only [go_sem, simprocAttr, h1]))
  | (refine hK _ _ ?_; clear hK K; simp only [go_sem, simprocAttr])
  | refine gCd (by simp only [go_sem, simprocAttr]; rfl) rfl ?_
  | refine brT ?_ | refine brF ?_
  | (refine brS ?_ ?_ <;> intro hc <;> (try simp only [bls] at hc) <;> (try simp only [hc, bls]))
  | intro _ | refine And.intro ?_ ?_)
    all_goals first | omega | (unfold bigLen; omega) | exact ⟨_, _, ⟨rfl, rfl⟩, rfl⟩ | exact ⟨_, rfl⟩ | (rename_i hy; simp only [List.mem_singleton] at hy; subst hy; rfl) | with_reducible rfl | skip
theorem pright_c (q f : Bool) (l : List Node) (hl : ndOk l) : ACall Try.prog 21 [.sl q f (nodes l)] [] fun r s => r = .bool (rightP l) ∧ s = [] := by
  have hp := pplain_c q f l hl
  obtain ⟨S, hS⟩ : ∃ S, S = rightP l := ⟨_, rfl⟩
  rw [← hS]
  rw [rightP] at hS
  cases h3 : plainS l
  · rw [h3] at hp hS
    simp only [Bool.false_and] at hS
    subst hS
    refine ACall.enter Try.func21 rfl (by kernel_rfl) (Nat.le_of_ble_eq_true rfl) ?_; simp only [initTm, Nat.reduceAdd]
    repeat' (first
  | refine gSq ?_ | refine gSk ?_ | refine gBl ?_ | refine gIb ?_ | refine gEx rfl ?_
  | ((first
  | (refine gRg [] [0, 2, 4, 7, 8, 9, 10, 11, 42] ?_; intro K hK)
  | refine cAl (hp) rfl rfl rfl ?_
  | (refine gd_split ?_ ?_ <;> intro hb <;> (try simp only [bls] at hb) <;> (try simp only [hb]))
  | refine gRt [] [.tmp 2] rfl ?_ | refine gDn [] [.tmp 2] rfl ?_) <;> (try simp only [go_sem, simprocAttr]))
  | (refine hK _ _ ?_; clear hK K; simp only [go_sem, simprocAttr])
  | refine gCd (by simp only [go_sem, simprocAttr]; rfl) rfl ?_
  | refine brT ?_ | refine brF ?_
  | (refine brS ?_ ?_ <;> intro hc <;> (try simp only [bls] at hc) <;> (try simp only [hc, bls]))
  | intro _ | refine And.intro ?_ ?_)
    all_goals first | omega | (unfold bigLen; omega) | exact ⟨_, _, ⟨rfl, rfl⟩, rfl⟩ | exact ⟨_, rfl⟩ | (rename_i hy; simp only [List.mem_singleton] at hy; subst hy; rfl) | with_reducible rfl | skip
  · rw [h3] at hp hS
    simp only [Bool.true_and] at hS
    have hok := plain_plOk h3
    clear h3
    refine ACall.enter Try.func21 rfl (by kernel_rfl) (Nat.le_of_ble_eq_true rfl) ?_; simp only [initTm, Nat.reduceAdd]
    repeat' (first
  | refine gSq ?_ | refine gSk ?_ | refine gBl ?_ | refine gIb ?_ | refine gEx rfl ?_
  | ((first
  | (refine gRg [] [0, 2, 4, 7, 8, 9, 10, 11, 42] ?_; intro K hK)
  | refine cAl (hp) rfl rfl rfl ?_
  | (refine gd_split ?_ ?_ <;> intro hb <;> (try simp only [bls] at hb) <;> (try simp only [hb]))
  | refine gRt [] [.tmp 2] rfl ?_ | refine gDn [] [.tmp 2] rfl ?_) <;> (try simp only [go_sem, simprocAttr]))
  | (refine hK _ _ ?_; clear hK K; simp only [go_sem, simprocAttr])
  | refine gCd (by simp only [go_sem, simprocAttr]; rfl) rfl ?_
  | refine brT ?_ | refine brF ?_
  | (refine brS ?_ ?_ <;> intro hc <;> (try simp only [bls] at hc) <;> (try simp only [hc, bls]))
  | intro _ | refine And.intro ?_ ?_)
    all_goals first | omega | (unfold bigLen; omega) | exact ⟨_, _, ⟨rfl, rfl⟩, rfl⟩ | exact ⟨_, rfl⟩ | (rename_i hy; simp only [List.mem_singleton] at hy; subst hy; rfl) | with_reducible rfl | skip
    refine AGood.prune [0, 2, 8, 9, 10] ?_; simp only [go_sem, simprocAttr]
    refine AGood.loopInv (α := Nat) (fun x => ([(0, .sl q f (nodes l)), (2, .bool false), (8, .sl q f (nodes l)), (9, .int .i64 l.length), (10, .int .i64 x)], []))
      (fun x => x ≤ l.length ∧ S = (l.drop x).all fun n => !badB l n) (fun x => l.length - x) 0 ⟨Nat.zero_le _, hS⟩ rfl ?_
    rintro i ⟨hi, hrun⟩ ih
    simp only at hi hrun ih ⊢
    by_cases hle : i < l.length
    · have e4 : (i : Int) < l.length := by omega
      have e5 : (0 : Int) ≤ i := by omega
      have hx : l[i]? = some l[i] := List.getElem?_eq_getElem hle
      have hdr : l.drop i = l[i] :: l.drop (i + 1) := List.drop_eq_getElem_cons hle
      have hm := hok.2 i _ hx
      have hl1 := hok.1
      rw [hdr, List.all_cons] at hrun
      generalize l[i] = n at hx hrun hm
      obtain ⟨m1, m2, m3, m4, m5, m6⟩ := hm
      have hst := pstar_c n
      by_cases h5 : n.op = 5
      · obtain ⟨kd, hkd⟩ : ∃ kd, n.l = [kd] := List.length_eq_one_iff.1 (m3 h5)
        have hk1 := m2 kd (by simp [hkd])
        obtain ⟨kid, rfl⟩ : ∃ kid : Nat, kd = kid := ⟨kd.toNat, by omega⟩
        have hm : l[kid]? = some (l[kid]'(by omega)) := List.getElem?_eq_getElem (by omega)
        have e6 : (kid : Int) < l.length := by omega
        have e7 : (0 : Int) ≤ kid := by omega
        generalize l[kid]'(by omega) = m at hm
        have hbad : badB l n = decide (¬ (n.lo = 0 ∧ n.hi = -1) ∧ (m.op ≠ 2 ∨ n.lo < 1 ∨ n.hi < 2)) := by
          simp only [badB, h5, kid0, hkd, List.headD_cons, nAt_get hm, true_and]
        rw [hbad] at hrun
        obtain ⟨xo, ⟨xa, xb, xc, xd⟩, xl, xlo, xhi, xn⟩ := n
        obtain ⟨mo, ⟨ma, mb, mc, md⟩, ml, mlo, mhi, mn⟩ := m
        simp only at h5 hkd hrun
        subst h5
        have hx0 : xl[0]? = some (kid : Int) := by rw [hkd]; rfl
        have e0 : (0 : Int) < xl.length := by rw [hkd]; exact Int.one_pos
        clear hkd
        simp only [starB, Node.cells, Node.cellsF] at hst
        by_cases hs : xlo = 0 ∧ xhi = -1
        · rw [decide_eq_true hs] at hst
          simp only [hs, and_self, not_true_eq_false, false_and, decide_false, Bool.not_false, Bool.true_and] at hrun
          repeat' (first
  | refine gSq ?_ | refine gSk ?_ | refine gBl ?_ | refine gIb ?_ | refine gEx rfl ?_
  | ((first
  | (refine gRg [] [0, 2, 4, 7, 8, 9, 10, 11, 42] ?_; intro K hK)
  | refine cAl (hst) rfl rfl rfl ?_
  | (refine gd_split ?_ ?_ <;> intro hb <;> (try simp only [bls] at hb) <;> (try simp only [hb]))
  | refine gRt [] [.tmp 2] rfl ?_ | refine gDn [] [.tmp 2] rfl ?_) <;> (try simp only [go_sem, simprocAttr, e4, e5, hx, Option.some.injEq, forall_eq']))
  | (refine hK _ _ ?_; clear hK K; simp only [go_sem, simprocAttr])
  | refine gCd (by simp only [go_sem, simprocAttr]; rfl) rfl ?_
  | refine brT ?_ | refine brF ?_
  | (refine brS ?_ ?_ <;> intro hc <;> (try simp only [bls] at hc) <;> (try simp only [hc, bls]))
  | intro _ | refine And.intro ?_ ?_)
          all_goals first | omega | (unfold bigLen; omega) | exact ⟨_, _, ⟨rfl, rfl⟩, rfl⟩ | exact ⟨_, rfl⟩ | (rename_i hy; simp only [List.mem_singleton] at hy; subst hy; rfl) | with_reducible rfl | skip
          refine AGood.filt [] ?_
          simp only [sf_cons, sf_nil, go_sem, simprocAttr]
          refine AGood.prune [0, 2, 8, 9, 10] ?_; simp only [go_sem, simprocAttr]
          exact (ih (i + 1) ⟨by omega, hrun⟩ (by omega)).cast rfl rfl
        · rw [decide_eq_false hs] at hst
          by_cases hb : mo ≠ 2 ∨ xlo < 1 ∨ xhi < 2
          · rw [decide_eq_true ⟨hs, hb⟩] at hrun
            simp only [Bool.not_true, Bool.false_and] at hrun
            subst hrun
            by_cases c1 : mo = 2
            · subst c1
              by_cases c2 : xlo < 1
              · repeat' (first
  | refine gSq ?_ | refine gSk ?_ | refine gBl ?_ | refine gIb ?_ | refine gEx rfl ?_
  | ((first
  | (refine gRg [] [0, 2, 4, 7, 8, 9, 10, 11, 42] ?_; intro K hK)
  | refine cAl (hst) rfl rfl rfl ?_
  | (refine gd_split ?_ ?_ <;> intro hb <;> (try simp only [bls] at hb) <;> (try simp only [hb]))
  | refine gRt [] [.tmp 2] rfl ?_ | refine gDn [] [.tmp 2] rfl ?_) <;> (try simp only [go_sem, simprocAttr, e4, e5, hx, hx0, hm, e0, e6, e7, c2, Option.some.injEq, forall_eq']))
  | (refine hK _ _ ?_; clear hK K; simp only [go_sem, simprocAttr])
  | refine gCd (by simp only [go_sem, simprocAttr]; rfl) rfl ?_
  | refine brT ?_ | refine brF ?_
  | (refine brS ?_ ?_ <;> intro hc <;> (try simp only [bls] at hc) <;> (try simp only [hc, bls]))
  | intro _ | refine And.intro ?_ ?_)
                all_goals first | omega | (unfold bigLen; omega) | exact ⟨_, _, ⟨rfl, rfl⟩, rfl⟩ | exact ⟨_, rfl⟩ | (rename_i hy; simp only [List.mem_singleton] at hy; subst hy; rfl) | with_reducible rfl | skip
              · have c3 : xhi < 2 := by omega
                repeat' (first
  | refine gSq ?_ | refine gSk ?_ | refine gBl ?_ | refine gIb ?_ | refine gEx rfl ?_
  | ((first
  | (refine gRg [] [0, 2, 4, 7, 8, 9, 10, 11, 42] ?_; intro K hK)
  | refine cAl (hst) rfl rfl rfl ?_
  | (refine gd_split ?_ ?_ <;> intro hb <;> (try simp only [bls] at hb) <;> (try simp only [hb]))
  | refine gRt [] [.tmp 2] rfl ?_ | refine gDn [] [.tmp 2] rfl ?_) <;> (try simp only [go_sem, simprocAttr, e4, e5, hx, hx0, hm, e0, e6, e7, c2, c3, Option.some.injEq, forall_eq']))
  | (refine hK _ _ ?_; clear hK K; simp only [go_sem, simprocAttr])
  | refine gCd (by simp only [go_sem, simprocAttr]; rfl) rfl ?_
  | refine brT ?_ | refine brF ?_
  | (refine brS ?_ ?_ <;> intro hc <;> (try simp only [bls] at hc) <;> (try simp only [hc, bls]))
  | intro _ | refine And.intro ?_ ?_)
                all_goals first | omega | (unfold bigLen; omega) | exact ⟨_, _, ⟨rfl, rfl⟩, rfl⟩ | exact ⟨_, rfl⟩ | (rename_i hy; simp only [List.mem_singleton] at hy; subst hy; rfl) | with_reducible rfl | skip
            · repeat' (first
  | refine gSq ?_ | refine gSk ?_ | refine gBl ?_ | refine gIb ?_ | refine gEx rfl ?_
  | ((first
  | (refine gRg [] [0, 2, 4, 7, 8, 9, 10, 11, 42] ?_; intro K hK)
  | refine cAl (hst) rfl rfl rfl ?_
  | (refine gd_split ?_ ?_ <;> intro hb <;> (try simp only [bls] at hb) <;> (try simp only [hb]))
  | refine gRt [] [.tmp 2] rfl ?_ | refine gDn [] [.tmp 2] rfl ?_) <;> (try simp only [go_sem, simprocAttr, e4, e5, hx, hx0, hm, e0, e6, e7, c1, Option.some.injEq, forall_eq']))
  | (refine hK _ _ ?_; clear hK K; simp only [go_sem, simprocAttr])
  | refine gCd (by simp only [go_sem, simprocAttr]; rfl) rfl ?_
  | refine brT ?_ | refine brF ?_
  | (refine brS ?_ ?_ <;> intro hc <;> (try simp only [bls] at hc) <;> (try simp only [hc, bls]))
  | intro _ | refine And.intro ?_ ?_)
              all_goals first | omega | (unfold bigLen; omega) | exact ⟨_, _, ⟨rfl, rfl⟩, rfl⟩ | exact ⟨_, rfl⟩ | (rename_i hy; simp only [List.mem_singleton] at hy; subst hy; rfl) | with_reducible rfl | skip
          · rw [decide_eq_false (fun h => hb h.2)] at hrun
            simp only [Bool.not_false, Bool.true_and] at hrun
            have c1 : mo = 2 := by omega
            have c2 : ¬ xlo < 1 := by omega
            have c3 : ¬ xhi < 2 := by omega
            subst c1
            repeat' (first
  | refine gSq ?_ | refine gSk ?_ | refine gBl ?_ | refine gIb ?_ | refine gEx rfl ?_
  | ((first
  | (refine gRg [] [0, 2, 4, 7, 8, 9, 10, 11, 42] ?_; intro K hK)
  | refine cAl (hst) rfl rfl rfl ?_
  | (refine gd_split ?_ ?_ <;> intro hb <;> (try simp only [bls] at hb) <;> (try simp only [hb]))
  | refine gRt [] [.tmp 2] rfl ?_ | refine gDn [] [.tmp 2] rfl ?_) <;> (try simp only [go_sem, simprocAttr, e4, e5, hx, hx0, hm, e0, e6, e7, c2, c3, Option.some.injEq, forall_eq']))
  | (refine hK _ _ ?_; clear hK K; simp only [go_sem, simprocAttr])
  | refine gCd (by simp only [go_sem, simprocAttr]; rfl) rfl ?_
  | refine brT ?_ | refine brF ?_
  | (refine brS ?_ ?_ <;> intro hc <;> (try simp only [bls] at hc) <;> (try simp only [hc, bls]))
  | intro _ | refine And.intro ?_ ?_)
            all_goals first | omega | (unfold bigLen; omega) | exact ⟨_, _, ⟨rfl, rfl⟩, rfl⟩ | exact ⟨_, rfl⟩ | (rename_i hy; simp only [List.mem_singleton] at hy; subst hy; rfl) | with_reducible rfl | skip
            refine AGood.filt [] ?_
            simp only [sf_cons, sf_nil, go_sem, simprocAttr]
            refine AGood.prune [0, 2, 8, 9, 10] ?_; simp only [go_sem, simprocAttr]
            exact (ih (i + 1) ⟨by omega, hrun⟩ (by omega)).cast rfl rfl
      · have hbad : badB l n = false := by simp [badB, h5]
        rw [hbad] at hrun
        simp only [Bool.not_false, Bool.true_and] at hrun
        obtain ⟨xo, ⟨xa, xb, xc, xd⟩, xl, xlo, xhi, xn⟩ := n
        simp only at h5
        repeat' (first
  | refine gSq ?_ | refine gSk ?_ | refine gBl ?_ | refine gIb ?_ | refine gEx rfl ?_
  | ((first
  | (refine gRg [] [0, 2, 4, 7, 8, 9, 10, 11, 42] ?_; intro K hK)
  | (refine gd_split ?_ ?_ <;> intro hb <;> (try simp only [bls] at hb) <;> (try simp only [hb]))
  | refine gRt [] [.tmp 2] rfl ?_ | refine gDn [] [.tmp 2] rfl ?_) <;> (try simp only [go_sem, simprocAttr, e4, e5, hx, h5, Option.some.injEq, forall_eq']))
  | (refine hK _ _ ?_; clear hK K; simp only [go_sem, simprocAttr])
  | refine gCd (by simp only [go_sem, simprocAttr]; rfl) rfl ?_
  | refine brT ?_ | refine brF ?_
  | (refine brS ?_ ?_ <;> intro hc <;> (try simp only [bls] at hc) <;> (try simp only [hc, bls]))
  | intro _ | refine And.intro ?_ ?_)
        all_goals first | omega | (unfold bigLen; omega) | exact ⟨_, _, ⟨rfl, rfl⟩, rfl⟩ | exact ⟨_, rfl⟩ | (rename_i hy; simp only [List.mem_singleton] at hy; subst hy; rfl) | with_reducible rfl | skip
        refine AGood.filt [] ?_
        simp only [sf_cons, sf_nil, go_sem, simprocAttr]
        refine AGood.prune [0, 2, 8, 9, 10] ?_; simp only [go_sem, simprocAttr]
        exact (ih (i + 1) ⟨by omega, hrun⟩ (by omega)).cast rfl rfl
    · have e4 : ¬ (i : Int) < l.length := by omega
      rw [List.drop_eq_nil_of_le (by omega)] at hrun
      simp only [List.all_nil] at hrun
      subst hrun
      clear ih
      repeat' (first
  | refine gSq ?_ | refine gSk ?_ | refine gBl ?_ | refine gIb ?_ | refine gEx rfl ?_
  | ((first
  | (refine gRg [] [0, 2, 4, 7, 8, 9, 10, 11, 42] ?_; intro K hK)
  | (refine gd_split ?_ ?_ <;> intro hb <;> (try simp only [bls] at hb) <;> (try simp only [hb]))
  | refine gRt [] [.tmp 2] rfl ?_ | refine gDn [] [.tmp 2] rfl ?_) <;> (try simp only [go_sem, simprocAttr, e4]))
  | (refine hK _ _ ?_; clear hK K; simp only [go_sem, simprocAttr])
  | refine gCd (by simp only [go_sem, simprocAttr]; rfl) rfl ?_
  | refine brT ?_ | refine brF ?_
  | (refine brS ?_ ?_ <;> intro hc <;> (try simp only [bls] at hc) <;> (try simp only [hc, bls]))
  | intro _ | refine And.intro ?_ ?_)
      all_goals first | omega | (unfold bigLen; omega) | exact ⟨_, _, ⟨rfl, rfl⟩, rfl⟩ | exact ⟨_, rfl⟩ | (rename_i hy; simp only [List.mem_singleton] at hy; subst hy; rfl) | with_reducible rfl | skip
end Go.Rad
/- Places of plans together. -/
namespace Go.Rad
open Go Fo
def mrk1 (ps : List Po) (i : Int) : List Po := ps.modify i.toNat fun p => { p with last := true }
def mrk (l : List Int) (ps : List Po) : List Po := l.foldl mrk1 ps
theorem mrk1ulen (ps : List Po) (i : Int) : (mrk1 ps i).length = ps.length := by simp [mrk1]
theorem mrk_len : ∀ (l : List Int) (ps : List Po), (mrk l ps).length = ps.length
  | [], _ => rfl
  | i :: l, ps => by rw [mrk, List.foldl_cons]; exact (mrk_len l _).trans (mrk1ulen ps i)
theorem rn_mrk1 {n : Nat} {ps : List Po} (h : Rn n ps) (i : Int) : Rn n (mrk1 ps i) := by
  intro p hp
  obtain ⟨j, hj, rfl⟩ := List.getElem_of_mem hp
  simp only [mrk1, List.getElem_modify]
  have hj' : j < ps.length := by simpa [mrk1] using hj
  have := h ps[j] (List.getElem_mem hj')
  split <;> exact this
theorem rn_mrk {n : Nat} : ∀ (l : List Int) {ps : List Po}, Rn n ps → Rn n (mrk l ps)
  | [], _, h => h
  | i :: l, ps, h => by rw [mrk, List.foldl_cons]; exact rn_mrk l (rn_mrk1 h i)
/-- One plan's places, and the first and last ones of it. -/
def oneO (x : List Node) (r : Nat) (ps : List Po) : List Po × En := (mrk ((listG x r ps).2.getLastD enN).last (listG x r ps).1, (listG x r ps).2.getLastD enN)
def goO : Nat → List (List Node) → List Po → List Int → Option (List Po × List Int)
  | _, [], ps, fi => some (ps, fi)
  | r, x :: xs, ps, fi => if 512 < (oneO x r ps).1.length then none else goO (r + 1) xs (oneO x r ps).1 (uni fi (oneO x r ps).2.first)
/-- The code's outcome: first places, places, what went wrong. -/
def ofG (ls : List (List Node)) : List Int × List Po × Int :=
  if 512 < ls.length ∨ ls.any (fun x => !rightP x) = true then ([], [], 1)
  else match goO 0 ls [] [] with
    | none => ([], [], 3)
    | some (ps, fi) => (fi, ps, 0)
theorem list_ok {x : List Node} {r : Nat} {ps : List Po} (h : Rn ps.length ps) : Rn (listG x r ps).1.length (listG x r ps).1 ∧ Re (listG x r ps).1.length ((listG x r ps).2.getLastD enN) ∧ ps.length ≤ (listG x r ps).1.length ∧ (listG x r ps).1.length ≤ ps.length + x.length := by
  obtain ⟨⟨a, a2⟩, b, c, d⟩ := runG_ok x r x (s := (ps, [])) ⟨h, fun e he => by simp at he⟩
  refine ⟨a, ?_, c, d⟩
  show Re _ ((List.foldl (stepG x r) (ps, []) x).2.getLastD enN)
  rw [List.getLastD_eq_getLast?]
  cases hx : (List.foldl (stepG x r) (ps, []) x).2.getLast? with
  | none => exact re_nil _ _
  | some e => exact a2 e (List.mem_of_getLast? hx)
theorem one_ok {x : List Node} {r : Nat} {ps : List Po} (h : Rn ps.length ps) : Rn (oneO x r ps).1.length (oneO x r ps).1 ∧ Re (oneO x r ps).1.length (oneO x r ps).2 ∧ ps.length ≤ (oneO x r ps).1.length ∧ (oneO x r ps).1.length ≤ ps.length + x.length := by
  obtain ⟨a, b, c, d⟩ := list_ok (x := x) (r := r) h
  simp only [oneO, mrk_len]
  exact ⟨rn_mrk _ a, b, c, d⟩
end Go.Rad
/- A frozen list's flag may be forgotten. -/
namespace Go.Rad
open Go
theorem rep_unfull {G : Gh} {o q f : Bool} {l : List (List AVal)} {v : Value} (h : Rep G o (.sl q f l) v) : Rep G o (.sl q false l) v := by
  cases h with
  | slnil _ => exact .slnil (fun h => nomatch h)
  | sl h1 h2 h3 h4 h5 h6 h7 h8 h9 => exact .sl h1 (fun h => nomatch h) h3 h4 h5 h6 h7 h8 h9
theorem AGood.unfull {P : Program} {f : Nat} {fn : Func} {df : List DDel} {k : List Item} {tm : Tm} {sto : Sto} {R : AVal → Sto → Prop} (t : Nat) {q e : Bool} {l : List (List AVal)} (ht : lk tm t = .sl q e l) (h : AGood P f fn df k ((t, .sl q false l) :: tm) sto R) : AGood P f fn df k tm sto R := by
  refine ⟨fun E G a w b h1 h2 h3 h4 h5 h6 h7 h8 h9 => h.go E G a w b h1 h2 h3 h4 h5 h6 h7 h8 fun t' => ?_⟩
  simp only [lk]
  split
  · rename_i e; subst e
    have h0 := h9 t
    rw [ht] at h0
    exact rep_unfull h0
  · exact h9 t'
theorem ACall.unfull {P : Program} {f : Nat} {a b : AVal} {q e : Bool} {l : List (List AVal)} {sto : Sto} {T : AVal → Sto → Prop} (h : ACall P f [a, b, .sl q false l] sto T) : ACall P f [a, b, .sl q e l] sto T :=
  ⟨h.able, fun G w cargs hw hs ha => h.calls G w cargs hw hs ⟨by simpa using ha.1, fun j x hx => by
    match j, hx with
    | 0, hx => exact ha.2 0 x hx
    | 1, hx => exact ha.2 1 x hx
    | 2, hx => cases hx; exact rep_unfull (ha.2 2 _ rfl)⟩⟩
end Go.Rad
/- Contracts: glush: Of. -/
namespace Go.Rad
open Go Go.Proofs
set_option linter.all false
set_option maxRecDepth 20000
set_option maxHeartbeats 4000000

abbrev trees (ls : List (List Node)) : List (List AVal) := ls.map fun x => [.sl true false (nodes x)]
/-- Which list is the first that is so. -/
def idxL (p : List Node → Bool) : List (List Node) → Nat → Int
  | [], _ => -1
  | x :: l, i => if p x = true then (i : Int) else idxL p l (i + 1)
theorem idxL_any (p : List Node → Bool) : ∀ (l : List (List Node)) (i : Nat), decide (0 ≤ idxL p l i) = l.any p
  | [], _ => rfl
  | x :: l, i => by
    rw [idxL, List.any_cons]
    cases h : p x
    · simp only [Bool.false_eq_true, if_false, Bool.false_or]; exact idxL_any p l (i + 1)
    · simp only [if_true, Bool.true_or]; exact decide_eq_true (by omega)
theorem index9uc (F : Nat) (p : List Node → Bool) (q f : Bool) (l : List (List Node)) (hl : l.length ≤ 1000000)
    (hF : ∀ x ∈ l, ACall Try.prog F [.sl true false (nodes x)] [] fun r s => r = .bool (p x) ∧ s = []) :
    ACall Try.prog 35 [.sl q f (trees l), .fn F []] [] fun r s => r = .int .i64 (idxL p l 0) ∧ s = [] := by
  obtain ⟨S, hS⟩ : ∃ S, S = idxL p l 0 := ⟨_, rfl⟩
  rw [← hS]
  refine ACall.enter Try.func35 rfl (by kernel_rfl) (Nat.le_of_ble_eq_true rfl) ?_; simp only [initTm, Nat.reduceAdd]
  repeat' (first
  | refine gSq ?_ | refine gSk ?_ | refine gBl ?_ | refine gIb ?_ | refine gEx rfl ?_
  | ((first
  | (refine gRg [] [0, 1, 4, 5, 7, 8, 9, 16] ?_; intro K hK)
  | (refine gd_split ?_ ?_ <;> intro hb <;> (try simp only [bls] at hb) <;> (try simp only [hb]))
  | refine gRt [] [.tmp 4] rfl ?_ | refine gDn [] [.tmp 4] rfl ?_) <;> (try simp only [go_sem, simprocAttr]))
  | (refine hK _ _ ?_; clear hK K; simp only [go_sem, simprocAttr])
  | refine gCd (by simp only [go_sem, simprocAttr]; rfl) rfl ?_
  | refine brT ?_ | refine brF ?_
  | (refine brS ?_ ?_ <;> intro hc <;> (try simp only [bls] at hc) <;> (try simp only [hc, bls]))
  | intro _ | refine And.intro ?_ ?_)
  refine AGood.prune [0, 1, 4, 7, 8] ?_; simp only [go_sem, simprocAttr]
  refine AGood.loopInv (α := Nat) (fun i => ([(0, .sl q f (trees l)), (1, .fn F []), (4, .int .i64 0), (7, .int .i64 l.length), (8, .int .i64 i)], [])) (fun i => i ≤ l.length ∧ S = idxL p (l.drop i) i) (fun i => l.length - i) 0 ⟨Nat.zero_le _, hS⟩ rfl ?_
  rintro i ⟨hi, hrun⟩ ih
  simp only
  by_cases hle : i < l.length
  · have e4 : (i : Int) < l.length := by omega
    have e5 : (0 : Int) ≤ i := by omega
    have e6 : (i : Int) + 1 = ((i + 1 : Nat) : Int) := by omega
    have hx : l[i]? = some l[i] := List.getElem?_eq_getElem hle
    have hc := hF l[i] (List.getElem_mem hle)
    have hdr : l.drop i = l[i] :: l.drop (i + 1) := List.drop_eq_getElem_cons hle
    rw [hdr, idxL] at hrun
    generalize l[i] = k at hx hc hrun
    cases hp : p k <;> rw [hp] at hrun hc <;> simp only [if_true, Bool.false_eq_true, if_false] at hrun
    · repeat' (first
  | refine gSq ?_ | refine gSk ?_ | refine gBl ?_ | refine gIb ?_ | refine gEx rfl ?_
  | ((first
  | (refine gRg [] [0, 1, 4, 5, 7, 8, 9, 16] ?_; intro K hK)
  | (refine ACall.mono hc ?_; rintro _ _ ⟨rfl, rfl⟩)
  | (refine gd_split ?_ ?_ <;> intro hb <;> (try simp only [bls] at hb) <;> (try simp only [hb]))
  | refine gRt [] [.tmp 4] rfl ?_ | refine gDn [] [.tmp 4] rfl ?_) <;> (try simp only [go_sem, simprocAttr, e4, e5, e6, hx, Option.some.injEq, forall_eq']))
  | (refine hK _ _ ?_; clear hK K; simp only [go_sem, simprocAttr])
  | refine gCd (by simp only [go_sem, simprocAttr]; rfl) rfl ?_
  | refine brT ?_ | refine brF ?_
  | (refine brS ?_ ?_ <;> intro hc <;> (try simp only [bls] at hc) <;> (try simp only [hc, bls]))
  | intro _ | refine And.intro ?_ ?_)
      all_goals first | omega | (unfold bigLen; omega) | exact ⟨_, _, ⟨rfl, rfl⟩, rfl⟩ | exact ⟨_, rfl⟩ | (rename_i hy; simp only [List.mem_singleton] at hy; subst hy; rfl) | with_reducible rfl | skip
      refine AGood.prune [0, 1, 4, 7, 8] ?_; simp only [go_sem, simprocAttr]
      exact (ih (i + 1) ⟨by omega, hrun⟩ (by omega)).cast rfl rfl
    · repeat' (first
  | refine gSq ?_ | refine gSk ?_ | refine gBl ?_ | refine gIb ?_ | refine gEx rfl ?_
  | ((first
  | (refine gRg [] [0, 1, 4, 5, 7, 8, 9, 16] ?_; intro K hK)
  | (refine ACall.mono hc ?_; rintro _ _ ⟨rfl, rfl⟩)
  | (refine gd_split ?_ ?_ <;> intro hb <;> (try simp only [bls] at hb) <;> (try simp only [hb]))
  | refine gRt [] [.tmp 4] rfl ?_ | refine gDn [] [.tmp 4] rfl ?_) <;> (try simp only [go_sem, simprocAttr, e4, e5, e6, hx, Option.some.injEq, forall_eq']))
  | (refine hK _ _ ?_; clear hK K; simp only [go_sem, simprocAttr])
  | refine gCd (by simp only [go_sem, simprocAttr]; rfl) rfl ?_
  | refine brT ?_ | refine brF ?_
  | (refine brS ?_ ?_ <;> intro hc <;> (try simp only [bls] at hc) <;> (try simp only [hc, bls]))
  | intro _ | refine And.intro ?_ ?_)
      all_goals first | omega | (unfold bigLen; omega) | exact ⟨_, _, ⟨rfl, rfl⟩, rfl⟩ | exact ⟨_, rfl⟩ | (rename_i hy; simp only [List.mem_singleton] at hy; subst hy; rfl) | with_reducible rfl | skip
      rw [hrun]
  · have e4 : ¬ (i : Int) < l.length := by omega
    rw [List.drop_of_length_le (by omega), idxL] at hrun
    subst hrun
    repeat' (first
  | refine gSq ?_ | refine gSk ?_ | refine gBl ?_ | refine gIb ?_ | refine gEx rfl ?_
  | ((first
  | (refine gRg [] [0, 1, 4, 5, 7, 8, 9, 16] ?_; intro K hK)
  | (refine gd_split ?_ ?_ <;> intro hb <;> (try simp only [bls] at hb) <;> (try simp only [hb]))
  | refine gRt [] [.tmp 4] rfl ?_ | refine gDn [] [.tmp 4] rfl ?_) <;> (try simp only [go_sem, simprocAttr, e4]))
  | (refine hK _ _ ?_; clear hK K; simp only [go_sem, simprocAttr])
  | refine gCd (by simp only [go_sem, simprocAttr]; rfl) rfl ?_
  | refine brT ?_ | refine brF ?_
  | (refine brS ?_ ?_ <;> intro hc <;> (try simp only [bls] at hc) <;> (try simp only [hc, bls]))
  | intro _ | refine And.intro ?_ ?_)
theorem contains9uc (F : Nat) (p : List Node → Bool) (q f : Bool) (l : List (List Node)) (hl : l.length ≤ 1000000)
    (hF : ∀ x ∈ l, ACall Try.prog F [.sl true false (nodes x)] [] fun r s => r = .bool (p x) ∧ s = []) :
    ACall Try.prog 19 [.sl q f (trees l), .fn F []] [] fun r s => r = .bool (l.any p) ∧ s = [] := by
  have hc := index9uc F p q f l hl hF
  rw [← idxL_any p l 0]
  generalize idxL p l 0 = S at hc
  refine ACall.enter Try.func19 rfl (by kernel_rfl) (Nat.le_of_ble_eq_true rfl) ?_; simp only [initTm, Nat.reduceAdd]
  repeat' (first
  | refine gSq ?_ | refine gSk ?_ | refine gBl ?_ | refine gIb ?_ | refine gEx rfl ?_
  | ((first
  | (refine gRg [] [0, 1, 4] ?_; intro K hK)
  | refine cAl (hc) rfl rfl rfl ?_
  | (refine gd_split ?_ ?_ <;> intro hb <;> (try simp only [bls] at hb) <;> (try simp only [hb]))
  | refine gRt [] [.tmp 4] rfl ?_ | refine gDn [] [.tmp 4] rfl ?_) <;> (try simp only [go_sem, simprocAttr]))
  | (refine hK _ _ ?_; clear hK K; simp only [go_sem, simprocAttr])
  | refine gCd (by simp only [go_sem, simprocAttr]; rfl) rfl ?_
  | refine brT ?_ | refine brF ?_
  | (refine brS ?_ ?_ <;> intro hc <;> (try simp only [bls] at hc) <;> (try simp only [hc, bls]))
  | intro _ | refine And.intro ?_ ?_)
  all_goals first | omega | (unfold bigLen; omega) | exact ⟨_, _, ⟨rfl, rfl⟩, rfl⟩ | exact ⟨_, rfl⟩ | (rename_i hy; simp only [List.mem_singleton] at hy; subst hy; rfl) | with_reducible rfl | skip
theorem ofx_c (x : List Node) (hx : ndOk x) : ACall Try.prog 20 [.sl true false (nodes x)] [] fun r s => r = .bool (!rightP x) ∧ s = [] := by
  have h := pright_c true false x hx
  refine ACall.enter Try.func20 rfl (by kernel_rfl) (Nat.le_of_ble_eq_true rfl) ?_; simp only [initTm, Nat.reduceAdd]
  repeat' (first
  | refine gSq ?_ | refine gSk ?_ | refine gBl ?_ | refine gIb ?_ | refine gEx rfl ?_
  | ((first
  | (refine gRg [] [0, 2] ?_; intro K hK)
  | refine cAl (h) rfl rfl rfl ?_
  | (refine gd_split ?_ ?_ <;> intro hb <;> (try simp only [bls] at hb) <;> (try simp only [hb]))
  | refine gRt [] [.tmp 2] rfl ?_ | refine gDn [] [.tmp 2] rfl ?_) <;> (try simp only [go_sem, simprocAttr]))
  | (refine hK _ _ ?_; clear hK K; simp only [go_sem, simprocAttr])
  | refine gCd (by simp only [go_sem, simprocAttr]; rfl) rfl ?_
  | refine brT ?_ | refine brF ?_
  | (refine brS ?_ ?_ <;> intro hc <;> (try simp only [bls] at hc) <;> (try simp only [hc, bls]))
  | intro _ | refine And.intro ?_ ?_)
  all_goals first | omega | (unfold bigLen; omega) | exact ⟨_, _, ⟨rfl, rfl⟩, rfl⟩ | exact ⟨_, rfl⟩ | (rename_i hy; simp only [List.mem_singleton] at hy; subst hy; rfl) | with_reducible rfl | skip
theorem right_kids {x : List Node} (h : rightP x = true) : kidsOk x := by
  simp only [rightP, Bool.and_eq_true] at h
  obtain ⟨h1, h2⟩ := plain_plOk h.1
  have h3 := h.1
  simp only [plainS, Bool.and_eq_true] at h3
  have hr := h3.2
  rw [← right_eq] at hr
  simp only [rightS, Bool.and_eq_true, decide_eq_true_eq] at hr
  exact ⟨hr.1.1, h1, fun i n hi => ⟨(h2 i n hi).1, (h2 i n hi).2.1, (h2 i n hi).2.2.1⟩⟩
theorem of9uc (f : Bool) (ls : List (List Node)) (hll : ls.length ≤ 1000000) (hnd : ∀ x ∈ ls, ndOk x) :
    ACall Try.prog 10 [.sl true f (trees ls)] [] fun r s => (∃ b1 b2, r = .tup [.agg [.sl true b1 (ints (ofG ls).1), .sl true b2 (poss (ofG ls).2.1)], .int .i64 (ofG ls).2.2]) ∧ s = [] := by
  by_cases hlen : 512 < ls.length
  · rw [ofG, if_pos (.inl hlen)]
    have e1 : (512 : Int) < ls.length := by omega
    refine ACall.enter Try.func10 rfl (by kernel_rfl) (Nat.le_of_ble_eq_true rfl) ?_; simp only [initTm, Nat.reduceAdd]
    repeat' (first
  | refine gSq ?_ | refine gSk ?_ | refine gBl ?_ | refine gIb ?_ | refine gEx rfl ?_
  | ((first
  | (refine gRg [] [0, 2, 3, 4, 5, 6, 7, 8, 10, 17, 19, 20, 21, 22, 34, 35, 36, 37, 49] ?_; intro K hK)
  | (refine gd_split ?_ ?_ <;> intro hb <;> (try simp only [bls] at hb) <;> (try simp only [hb]))
  | refine gRt [] [.cell 2 28, .tmp 3] rfl ?_ | refine gDn [] [.cell 2 28, .tmp 3] rfl ?_) <;> (try simp only [go_sem, simprocAttr, e1]))
  | (refine hK _ _ ?_; clear hK K; simp only [go_sem, simprocAttr])
  | refine gCd (by simp only [go_sem, simprocAttr]; rfl) rfl ?_
  | refine brT ?_ | refine brF ?_
  | (refine brS ?_ ?_ <;> intro hc <;> (try simp only [bls] at hc) <;> (try simp only [hc, bls]))
  | intro _ | refine And.intro ?_ ?_)
    all_goals first | omega | (unfold bigLen; omega) | exact ⟨_, _, ⟨rfl, rfl⟩, rfl⟩ | exact ⟨_, rfl⟩ | (rename_i hy; simp only [List.mem_singleton] at hy; subst hy; rfl) | with_reducible rfl | skip
    all_goals exact ⟨_, _, rfl⟩
  have hc := contains9uc 20 (fun x => !rightP x) true f ls hll fun x hx => ofx_c x (hnd x hx)
  have e1 : ¬ (512 : Int) < ls.length := by omega
  by_cases hany : ls.any (fun x => !rightP x) = true
  · rw [ofG, if_pos (.inr hany)]
    rw [hany] at hc
    refine ACall.enter Try.func10 rfl (by kernel_rfl) (Nat.le_of_ble_eq_true rfl) ?_; simp only [initTm, Nat.reduceAdd]
    repeat' (first
  | refine gSq ?_ | refine gSk ?_ | refine gBl ?_ | refine gIb ?_ | refine gEx rfl ?_
  | ((first
  | (refine gRg [] [0, 2, 3, 4, 5, 6, 7, 8, 10, 17, 19, 20, 21, 22, 34, 35, 36, 37, 49] ?_; intro K hK)
  | refine cAl (hc) rfl rfl rfl ?_
  | (refine gd_split ?_ ?_ <;> intro hb <;> (try simp only [bls] at hb) <;> (try simp only [hb]))
  | refine gRt [] [.cell 2 28, .tmp 3] rfl ?_ | refine gDn [] [.cell 2 28, .tmp 3] rfl ?_) <;> (try simp only [go_sem, simprocAttr, e1]))
  | (refine hK _ _ ?_; clear hK K; simp only [go_sem, simprocAttr])
  | refine gCd (by simp only [go_sem, simprocAttr]; rfl) rfl ?_
  | refine brT ?_ | refine brF ?_
  | (refine brS ?_ ?_ <;> intro hc <;> (try simp only [bls] at hc) <;> (try simp only [hc, bls]))
  | intro _ | refine And.intro ?_ ?_)
    all_goals first | omega | (unfold bigLen; omega) | exact ⟨_, _, ⟨rfl, rfl⟩, rfl⟩ | exact ⟨_, rfl⟩ | (rename_i hy; simp only [List.mem_singleton] at hy; subst hy; rfl) | with_reducible rfl | skip
    all_goals exact ⟨_, _, rfl⟩
  · rw [ofG, if_neg (fun h => h.elim hlen hany)]
    have hall : ∀ x ∈ ls, rightP x = true := fun x hx => by
      cases h : rightP x
      · exact absurd (List.any_eq_true.2 ⟨x, hx, by simp [h]⟩) hany
      · rfl
    rw [show ls.any (fun x => !rightP x) = false by simpa using hany] at hc
    refine ACall.enter Try.func10 rfl (by kernel_rfl) (Nat.le_of_ble_eq_true rfl) ?_; simp only [initTm, Nat.reduceAdd]
    repeat' (first
  | refine gSq ?_ | refine gSk ?_ | refine gBl ?_ | refine gIb ?_ | refine gEx rfl ?_
  | ((first
  | (refine gRg [] [0, 2, 3, 4, 5, 6, 7, 8, 10, 17, 19, 20, 21, 22, 34, 35, 36, 37, 49] ?_; intro K hK)
  | refine cAl (hc) rfl rfl rfl ?_
  | (refine gd_split ?_ ?_ <;> intro hb <;> (try simp only [bls] at hb) <;> (try simp only [hb]))
  | refine gRt [] [.cell 2 28, .tmp 3] rfl ?_ | refine gDn [] [.cell 2 28, .tmp 3] rfl ?_) <;> (try simp only [go_sem, simprocAttr, e1]))
  | (refine hK _ _ ?_; clear hK K; simp only [go_sem, simprocAttr])
  | refine gCd (by simp only [go_sem, simprocAttr]; rfl) rfl ?_
  | refine brT ?_ | refine brF ?_
  | (refine brS ?_ ?_ <;> intro hc <;> (try simp only [bls] at hc) <;> (try simp only [hc, bls]))
  | intro _ | refine And.intro ?_ ?_)
    all_goals first | omega | (unfold bigLen; omega) | exact ⟨_, _, ⟨rfl, rfl⟩, rfl⟩ | exact ⟨_, rfl⟩ | (rename_i hy; simp only [List.mem_singleton] at hy; subst hy; rfl) | with_reducible rfl | skip
    rename_i h2 h4
    refine AGood.ownBox 4 0 901 9 (by decide) rfl rfl (by decide) ?_
    intro g901
    simp only [List.set_cons_succ, List.set_cons_zero, go_sem, simprocAttr]
    refine AGood.unfull 5 (by rfl) ?_
    refine AGood.prune [2, 3, 4, 5, 19, 20, 21] ?_; simp only [go_sem, simprocAttr]
    obtain ⟨O, hO⟩ : ∃ O, O = goO 0 ls [] [] := ⟨_, rfl⟩
    rw [← hO]
    clear hc hany
    refine AGood.loopInv (α := Nat × Nat × List Po × List Int) (fun z => ([(2, .bx 2 h2 0), (3, .int .i64 0), (4, .bx 4 h4 0), (5, .sl true false (ints z.2.2.2)), (19, .sl true f (trees ls)), (20, .int .i64 ls.length), (21, .int .i64 z.1)], [(2, h2, .box [.sl true true [], .sl true true []]), (4, h4, .box [.osl 901 z.2.1 0 z.2.2.1.length]), (901, z.2.1, .row 9 (poss z.2.2.1))]))
      (fun z => z.1 ≤ ls.length ∧ z.2.2.1.length ≤ 512 ∧ Rn z.2.2.1.length z.2.2.1 ∧ Rs z.2.2.1.length z.2.2.2 ∧ O = goO z.1 (ls.drop z.1) z.2.2.1 z.2.2.2) (fun z => ls.length - z.1) (0, g901, [], []) ⟨Nat.zero_le _, by simp, fun p hp => by simp at hp, rs_nil _, hO⟩ rfl ?_
    rintro ⟨i, g9, ps, fi⟩ ⟨hi, hpl, hrn, hrs, hrun⟩ ih
    simp only at hi hpl hrn hrs hrun ih ⊢
    by_cases hle : i < ls.length
    · have e4 : (i : Int) < ls.length := by omega
      have e5 : (0 : Int) ≤ i := by omega
      have e6 : (i : Int) + 1 = ((i + 1 : Nat) : Int) := by omega
      obtain ⟨x, hx⟩ : ∃ x, ls[i]? = some x := ⟨_, List.getElem?_eq_getElem hle⟩
      have hxm := List.mem_of_getElem? hx
      have hko := right_kids (hall x hxm)
      have hv : (trees ls)[i]? = some [.sl true false (nodes x)] := by simp [trees, hx]
      have hdr : ls.drop i = x :: ls.drop (i + 1) := by
        obtain ⟨h1, h2⟩ := List.getElem?_eq_some_iff.1 hx
        rw [List.drop_eq_getElem_cons h1, h2]
      rw [hdr, goO] at hrun
      have htr := fun g => tree9uc g g9 false x i ps hko (by omega) hrn
      obtain ⟨q1, q2, q3, q4⟩ := list_ok (x := x) (r := i) hrn
      have q5 := hko.2.1
      have hon : oneO x i ps = (mrk ((listG x i ps).2.getLastD enN).last (listG x i ps).1, (listG x i ps).2.getLastD enN) := rfl
      rw [hon] at hrun
      simp only [mrk_len] at hrun
      simp only [gsto] at htr
      clear hdr hon hxm
      generalize (listG x i ps).1 = Q at htr q1 q2 q3 q4 hrun
      generalize (listG x i ps).2.getLastD enN = e at htr q2 hrun
      obtain ⟨en, ef, el⟩ := e
      simp only [En.cells] at htr hrun
      have hmg := mergeG_c true false true false fi ef (by have := rs_len hrs; have := rs_len q2.1; simp only at this; omega)
      have hel := rs_len q2.2
      have helb := q2.2.2
      have hfi : Rs Q.length (uni fi ef) := rs_uni (rs_mono hrs q3) q2.1
      simp only at hel helb
      generalize uni fi ef = fi' at hmg hrun hfi
      repeat' (first
  | refine gSq ?_ | refine gSk ?_ | refine gBl ?_ | refine gIb ?_ | refine gEx rfl ?_
  | ((first
  | (refine gRg [] [0, 2, 3, 4, 5, 6, 7, 8, 10, 17, 19, 20, 21, 22, 34, 35, 36, 37, 49] ?_; intro K hK)
  | refine cAl (hmg) rfl rfl rfl ?_
  | (refine ACall.use [(1000, 4), (1001, 901)] [] rfl (htr _) rfl rfl rfl ?_; rintro _ _ ⟨rfl, h1, rfl⟩; refine ⟨.inl rfl, rfl, ?_⟩; simp only [bk, bk2, bk1, bkS, bkO, idOf, delAll, go_sem, simprocAttr])
  | (refine gd_split ?_ ?_ <;> intro hb <;> (try simp only [bls] at hb) <;> (try simp only [hb]))
  | refine gRt [] [.cell 2 28, .tmp 3] rfl ?_ | refine gDn [] [.cell 2 28, .tmp 3] rfl ?_) <;> (try simp only [go_sem, simprocAttr, e4, e5, hx, AVal.isCell, Option.some.injEq, forall_eq']))
  | (refine hK _ _ ?_; clear hK K; simp only [go_sem, simprocAttr])
  | refine gCd (by simp only [go_sem, simprocAttr]; rfl) rfl ?_
  | refine brT ?_ | refine brF ?_
  | (refine brS ?_ ?_ <;> intro hc <;> (try simp only [bls] at hc) <;> (try simp only [hc, bls]))
  | intro _ | refine And.intro ?_ ?_)
      all_goals first | omega | (unfold bigLen; omega) | exact ⟨_, _, ⟨rfl, rfl⟩, rfl⟩ | exact ⟨_, rfl⟩ | (rename_i hy; simp only [List.mem_singleton] at hy; subst hy; rfl) | with_reducible rfl | skip
      refine AGood.filt [2, 4, 901] ?_
      simp only [sf_cons, sf_nil, go_sem, simprocAttr]
      refine AGood.prune [2, 3, 4, 5, 19, 20, 21, 34, 35, 36] ?_; simp only [go_sem, simprocAttr]
      refine AGood.loopInv (α := Nat) (fun j => ([(2, .bx 2 h2 0), (3, .int .i64 0), (4, .bx 4 h4 0), (5, .sl true false (ints fi')), (19, .sl true f (trees ls)), (20, .int .i64 ls.length), (21, .int .i64 i), (34, .sl true false (ints el)), (35, .int .i64 el.length), (36, .int .i64 j)], [(2, h2, .box [.sl true true [], .sl true true []]), (4, h4, .box [.osl 901 h1 0 Q.length]), (901, h1, .row 9 (poss (mrk (el.take j) Q)))])) (fun j => j ≤ el.length) (fun j => el.length - j) 0 (Nat.zero_le _) rfl ?_
      rintro j hj ih2
      simp only at hj ih2 ⊢
      by_cases hlj : j < el.length
      · have d4 : (j : Int) < el.length := by omega
        have d5 : (0 : Int) ≤ j := by omega
        have d6 : (j : Int) + 1 = ((j + 1 : Nat) : Int) := by omega
        obtain ⟨kd, hkd⟩ : ∃ kd, el[j]? = some kd := ⟨_, List.getElem?_eq_getElem hlj⟩
        have hkb := helb kd (List.mem_of_getElem? hkd)
        obtain ⟨k, rfl⟩ : ∃ k : Nat, kd = k := ⟨kd.toNat, by omega⟩
        have hst : mrk (el.take (j + 1)) Q = mrk1 (mrk (el.take j) Q) k := by rw [take_one hkd]; simp [mrk]
        have hql := mrk_len (el.take j) Q
        generalize mrk (el.take j) Q = V at hst hql
        have m1 : k < V.length := by omega
        have m2 : (k : Int) < Q.length := by omega
        have m3 : (0 : Int) ≤ k := by omega
        obtain ⟨y, hy⟩ : ∃ y, V[k]? = some y := ⟨_, List.getElem?_eq_getElem m1⟩
        rw [mrk1, Int.toNat_natCast, modify_get _ hy] at hst
        obtain ⟨⟨sa, sb, sc, sd⟩, lo, hi', rule, last, next⟩ := y
        simp only at hst
        repeat' (first
  | refine gSq ?_ | refine gSk ?_ | refine gBl ?_ | refine gIb ?_ | refine gEx rfl ?_
  | ((first
  | (refine gRg [] [0, 2, 3, 4, 5, 6, 7, 8, 10, 17, 19, 20, 21, 22, 34, 35, 36, 37, 49] ?_; intro K hK)
  | (refine gd_split ?_ ?_ <;> intro hb <;> (try simp only [bls] at hb) <;> (try simp only [hb]))
  | refine gRt [] [.cell 2 28, .tmp 3] rfl ?_ | refine gDn [] [.cell 2 28, .tmp 3] rfl ?_) <;> (try simp only [go_sem, simprocAttr, d4, d5, d6, m1, m2, m3, hkd, hy, Option.some.injEq, forall_eq']))
  | (refine hK _ _ ?_; clear hK K; simp only [go_sem, simprocAttr])
  | refine gCd (by simp only [go_sem, simprocAttr]; rfl) rfl ?_
  | refine brT ?_ | refine brF ?_
  | (refine brS ?_ ?_ <;> intro hc <;> (try simp only [bls] at hc) <;> (try simp only [hc, bls]))
  | intro _ | refine And.intro ?_ ?_)
        all_goals first | omega | (unfold bigLen; omega) | exact ⟨_, _, ⟨rfl, rfl⟩, rfl⟩ | exact ⟨_, rfl⟩ | (rename_i hy; simp only [List.mem_singleton] at hy; subst hy; rfl) | with_reducible rfl | skip
        rename_i z hz
        have hz2 : z = Po.cells ⟨⟨sa, sb, sc, sd⟩, lo, hi', rule, last, next⟩ := by rw [List.getElem?_map, hy] at hz; exact (Option.some.inj hz).symm
        subst hz2
        refine AGood.filt [2, 4, 901] ?_
        simp only [sf_cons, sf_nil, go_sem, simprocAttr]
        refine AGood.prune [2, 3, 4, 5, 19, 20, 21, 34, 35, 36] ?_; simp only [go_sem, simprocAttr]
        exact AGood.cast (ih2 (j + 1) (by omega) (by omega)) rfl (by rw [hst]; simp [List.map_set])
      · have d4 : ¬ (j : Int) < el.length := by omega
        rw [List.take_of_length_le (by omega)]
        clear ih2
        have hql := mrk_len el Q
        have hqr := rn_mrk el q1
        generalize mrk el Q = V at hrun hql hqr ⊢
        by_cases hbig : 512 < Q.length
        · rw [if_pos hbig] at hrun
          subst hrun
          have e9 : (512 : Int) < Q.length := by omega
          repeat' (first
  | refine gSq ?_ | refine gSk ?_ | refine gBl ?_ | refine gIb ?_ | refine gEx rfl ?_
  | ((first
  | (refine gRg [] [0, 2, 3, 4, 5, 6, 7, 8, 10, 17, 19, 20, 21, 22, 34, 35, 36, 37, 49] ?_; intro K hK)
  | (refine gd_split ?_ ?_ <;> intro hb <;> (try simp only [bls] at hb) <;> (try simp only [hb]))
  | refine gRt [] [.cell 2 28, .tmp 3] rfl ?_ | refine gDn [] [.cell 2 28, .tmp 3] rfl ?_) <;> (try simp only [go_sem, simprocAttr, d4, e9]))
  | (refine hK _ _ ?_; clear hK K; simp only [go_sem, simprocAttr])
  | refine gCd (by simp only [go_sem, simprocAttr]; rfl) rfl ?_
  | refine brT ?_ | refine brF ?_
  | (refine brS ?_ ?_ <;> intro hc <;> (try simp only [bls] at hc) <;> (try simp only [hc, bls]))
  | intro _ | refine And.intro ?_ ?_)
          all_goals first | omega | (unfold bigLen; omega) | exact ⟨_, _, ⟨rfl, rfl⟩, rfl⟩ | exact ⟨_, rfl⟩ | (rename_i hy; simp only [List.mem_singleton] at hy; subst hy; rfl) | with_reducible rfl | skip
          all_goals exact ⟨_, _, rfl⟩
        · rw [if_neg hbig] at hrun
          have e9 : ¬ (512 : Int) < Q.length := by omega
          repeat' (first
  | refine gSq ?_ | refine gSk ?_ | refine gBl ?_ | refine gIb ?_ | refine gEx rfl ?_
  | ((first
  | (refine gRg [] [0, 2, 3, 4, 5, 6, 7, 8, 10, 17, 19, 20, 21, 22, 34, 35, 36, 37, 49] ?_; intro K hK)
  | (refine gd_split ?_ ?_ <;> intro hb <;> (try simp only [bls] at hb) <;> (try simp only [hb]))
  | refine gRt [] [.cell 2 28, .tmp 3] rfl ?_ | refine gDn [] [.cell 2 28, .tmp 3] rfl ?_) <;> (try simp only [go_sem, simprocAttr, d4, e6, e9]))
  | (refine hK _ _ ?_; clear hK K; simp only [go_sem, simprocAttr])
  | refine gCd (by simp only [go_sem, simprocAttr]; rfl) rfl ?_
  | refine brT ?_ | refine brF ?_
  | (refine brS ?_ ?_ <;> intro hc <;> (try simp only [bls] at hc) <;> (try simp only [hc, bls]))
  | intro _ | refine And.intro ?_ ?_)
          all_goals first | omega | (unfold bigLen; omega) | exact ⟨_, _, ⟨rfl, rfl⟩, rfl⟩ | exact ⟨_, rfl⟩ | (rename_i hy; simp only [List.mem_singleton] at hy; subst hy; rfl) | with_reducible rfl | skip
          refine AGood.filt [2, 4, 901] ?_
          simp only [sf_cons, sf_nil, go_sem, simprocAttr]
          refine AGood.prune [2, 3, 4, 5, 19, 20, 21] ?_; simp only [go_sem, simprocAttr]
          exact AGood.cast (ih (i + 1, h1, V, fi') ⟨by simp only; omega, by simp only; omega, by rw [← hql] at hqr; exact hqr, by simp only; rw [hql]; exact hfi, hrun⟩ (by simp only; omega)) rfl (by simp only [hql])
    · have e4 : ¬ (i : Int) < ls.length := by omega
      rw [List.drop_of_length_le (by omega), goO] at hrun
      subst hrun
      clear ih hO
      simp only
      have c15 : (poss ps).take ps.length = poss ps := List.take_of_length_le (by simp)
      repeat' (first
  | refine gSq ?_ | refine gSk ?_ | refine gBl ?_ | refine gIb ?_ | refine gEx rfl ?_
  | ((first
  | (refine AGood.at 18 ?_; (refine AGood.freeze 901 rfl ?_; simp only [rfT, rfS, rfO, rf, rf1, c15, List.length_map, Nat.le_refl, true_and, go_sem, simprocAttr]); (refine gRg [] [0, 2, 3, 4, 5, 6, 7, 8, 10, 17, 19, 20, 21, 22, 34, 35, 36, 37, 49] ?_; intro K hK))
  | (refine gRg [] [0, 2, 3, 4, 5, 6, 7, 8, 10, 17, 19, 20, 21, 22, 34, 35, 36, 37, 49] ?_; intro K hK)
  | (refine gd_split ?_ ?_ <;> intro hb <;> (try simp only [bls] at hb) <;> (try simp only [hb]))
  | refine gRt [] [.cell 2 28, .tmp 3] rfl ?_ | refine gDn [] [.cell 2 28, .tmp 3] rfl ?_) <;> (try simp only [go_sem, simprocAttr, e4]))
  | (refine hK _ _ ?_; clear hK K; simp only [go_sem, simprocAttr])
  | refine gCd (by simp only [go_sem, simprocAttr]; rfl) rfl ?_
  | refine brT ?_ | refine brF ?_
  | (refine brS ?_ ?_ <;> intro hc <;> (try simp only [bls] at hc) <;> (try simp only [hc, bls]))
  | intro _ | refine And.intro ?_ ?_)
      all_goals first | omega | (unfold bigLen; omega) | exact ⟨_, _, ⟨rfl, rfl⟩, rfl⟩ | exact ⟨_, rfl⟩ | (rename_i hy; simp only [List.mem_singleton] at hy; subst hy; rfl) | with_reducible rfl | skip
      all_goals exact ⟨_, _, rfl⟩
end Go.Rad
/- Contracts: the document's plan: nodes, rows of them, what is up to so many times. -/
namespace Go.Rad
open Go Go.Proofs
set_option linter.all false
set_option maxRecDepth 20000
set_option maxHeartbeats 4000000

abbrev qbx (q f : Bool) (l : List Node) (most : Int) (g1 n : Nat) (b : Bool) : AObj := .box [.sl q f (nodes l), .int .i64 most, .osl 1001 g1 0 n, .bool b]
abbrev qsto (q f : Bool) (l : List Node) (most : Int) (g g1 : Nat) (s : RS) : Sto := [(1000, (g, qbx q f l most g1 s.1.length s.2)), (1001, (g1, .row 9 (nodes s.1)))]
/-- What a call does to what was put. -/
abbrev RPost (q f : Bool) (l : List Node) (most : Int) (g : Nat) (x : RO) (r : AVal) (s : Sto) : Prop := r = .int .i64 x.2 ∧ ∃ h1, s = qsto q f l most g h1 x.1
theorem rput_c (q f fl : Bool) (l : List Node) (most : Int) (g g1 : Nat) (n : Node) (s : RS) (hs : s.1.length ≤ 1024) :
    ACall Try.prog 61 [.bx 1000 g 0, .agg (n.cellsF fl)] (qsto q f l most g g1 s) (RPost q f l most g (putQ n s)) := by
  obtain ⟨xo, ⟨xa, xb, xc, xd⟩, xl, xlo, xhi, xn⟩ := n
  obtain ⟨out, lg⟩ := s
  simp only at hs
  simp only [qsto, qbx, RPost, putQ, Node.cellsF]
  by_cases h0 : 1024 ≤ out.length
  · rw [if_pos h0]
    have e1 : (1024 : Int) ≤ out.length := by omega
    refine ACall.enter Try.func61 rfl (by kernel_rfl) (Nat.le_of_ble_eq_true rfl) ?_; simp only [initTm, Nat.reduceAdd]
    repeat' (first
  | refine gSq ?_ | refine gSk ?_ | refine gBl ?_ | refine gIb ?_ | refine gEx rfl ?_
  | ((first
  | (refine gRg [] [0, 1, 3, 4, 10] ?_; intro K hK)
  | (refine gDr 4 [] 6 [0, 1, 2, 3, 4, 5, 6, 7, 8, 9, 10] [0, 1, 3, 4, 10] rfl ?_; intro K hK)
  | (refine gd_split ?_ ?_ <;> intro hb <;> (try simp only [bls] at hb) <;> (try simp only [hb]))
  | refine gRt [1000, 1001] [.tmp 4] rfl ?_ | refine gDn [1000, 1001] [.tmp 4] rfl ?_) <;> (try simp only [go_sem, simprocAttr, e1]))
  | (refine hK _ _ ?_; clear hK K; simp only [go_sem, simprocAttr])
  | refine gCd (by simp only [go_sem, simprocAttr]; rfl) rfl ?_
  | refine brT ?_ | refine brF ?_
  | (refine brS ?_ ?_ <;> intro hc <;> (try simp only [bls] at hc) <;> (try simp only [hc, bls]))
  | intro _ | refine And.intro ?_ ?_)
    all_goals first | omega | (unfold bigLen; omega) | exact ⟨_, _, ⟨rfl, rfl⟩, rfl⟩ | exact ⟨_, rfl⟩ | (rename_i hy; simp only [List.mem_singleton] at hy; subst hy; rfl) | with_reducible rfl | skip
  · rw [if_neg h0]
    have e1 : ¬ (1024 : Int) ≤ out.length := by omega
    refine ACall.enter Try.func61 rfl (by kernel_rfl) (Nat.le_of_ble_eq_true rfl) ?_; simp only [initTm, Nat.reduceAdd]
    repeat' (first
  | refine gSq ?_ | refine gSk ?_ | refine gBl ?_ | refine gIb ?_ | refine gEx rfl ?_
  | ((first
  | (refine gRg [20] [0, 1, 3, 4, 10] ?_; intro K hK)
  | (refine gDr 4 [20] 7 [0, 1, 2, 3, 4, 5, 6, 7, 8, 9, 10] [0, 1, 3, 4, 10] rfl ?_; intro K hK)
  | (refine gd_split ?_ ?_ <;> intro hb <;> (try simp only [bls] at hb) <;> (try simp only [hb]))
  | refine gRt [1000, 1001] [.tmp 4] rfl ?_ | refine gDn [1000, 1001] [.tmp 4] rfl ?_) <;> (try simp only [go_sem, simprocAttr, e1]))
  | (refine hK _ _ ?_; clear hK K; simp only [go_sem, simprocAttr])
  | refine gCd (by simp only [go_sem, simprocAttr]; rfl) rfl ?_
  | refine brT ?_ | refine brF ?_
  | (refine brS ?_ ?_ <;> intro hc <;> (try simp only [bls] at hc) <;> (try simp only [hc, bls]))
  | intro _ | refine And.intro ?_ ?_)
    all_goals first | omega | (unfold bigLen; omega) | exact ⟨_, _, ⟨rfl, rfl⟩, rfl⟩ | exact ⟨_, rfl⟩ | (rename_i hy; simp only [List.mem_singleton] at hy; subst hy; rfl) | with_reducible rfl | skip
    · simp only []; congr 1; omega
    · rename_i h; exact ⟨h, by simp⟩
theorem rcat_c (q f f' : Bool) (l : List Node) (most : Int) (g g1 : Nat) (row : List Int) (s : RS) (hs : s.1.length ≤ 1024) (hr : row.length ≤ 1000000) :
    ACall Try.prog 81 [.bx 1000 g 0, .sl true f' (ints row)] (qsto q f l most g g1 s) (RPost q f l most g (catR (s, row))) := by
  have hp := rput_c q f f' l most g g1 (opNd 3 row) s hs
  simp only [catR]
  by_cases hc1 : row.length = 1
  · rw [if_pos hc1]
    obtain ⟨x, hx⟩ : ∃ x, row = [x] := List.length_eq_one_iff.1 hc1
    have g0 : row[0]? = some x := by rw [hx]; rfl
    have g1' : (row.length : Int) = 1 := by omega
    have g3 : row.headD 0 = x := by rw [hx]; rfl
    have e0 : (0 : Int) < row.length := by omega
    rw [g3]
    clear hx g3
    simp only [qsto, qbx, RPost]
    refine ACall.enter Try.func81 rfl (by kernel_rfl) (Nat.le_of_ble_eq_true rfl) ?_; simp only [initTm, Nat.reduceAdd]
    repeat' (first
  | refine gSq ?_ | refine gSk ?_ | refine gBl ?_ | refine gIb ?_ | refine gEx rfl ?_
  | ((first
  | (refine gRg [] [0, 1, 4, 7] ?_; intro K hK)
  | (refine gd_split ?_ ?_ <;> intro hb <;> (try simp only [bls] at hb) <;> (try simp only [hb]))
  | refine gRt [1000, 1001] [.tmp 4] rfl ?_ | refine gDn [1000, 1001] [.tmp 4] rfl ?_) <;> (try simp only [go_sem, simprocAttr, g0, g1', e0, Option.some.injEq, forall_eq']))
  | (refine hK _ _ ?_; clear hK K; simp only [go_sem, simprocAttr])
  | refine gCd (by simp only [go_sem, simprocAttr]; rfl) rfl ?_
  | refine brT ?_ | refine brF ?_
  | (refine brS ?_ ?_ <;> intro hc <;> (try simp only [bls] at hc) <;> (try simp only [hc, bls]))
  | intro _ | refine And.intro ?_ ?_)
    all_goals first | omega | (unfold bigLen; omega) | exact ⟨_, _, ⟨rfl, rfl⟩, rfl⟩ | exact ⟨_, rfl⟩ | (rename_i hy; simp only [List.mem_singleton] at hy; subst hy; rfl) | with_reducible rfl | skip
  · rw [if_neg hc1]
    have g1' : ¬ (row.length : Int) = 1 := by omega
    simp only [qsto, qbx, RPost] at hp ⊢
    refine ACall.enter Try.func81 rfl (by kernel_rfl) (Nat.le_of_ble_eq_true rfl) ?_; simp only [initTm, Nat.reduceAdd]
    repeat' (first
  | refine gSq ?_ | refine gSk ?_ | refine gBl ?_ | refine gIb ?_ | refine gEx rfl ?_
  | ((first
  | (refine gRg [] [0, 1, 4, 7] ?_; intro K hK)
  | (refine ACall.use [(1000, 1000), (1001, 1001)] [] rfl (hp) rfl rfl rfl ?_; (first | rintro _ _ ⟨rfl, rfl⟩ | rintro _ _ ⟨rfl, h1, rfl⟩); refine ⟨.inl rfl, rfl, ?_⟩; simp only [bk, bk2, bk1, bkS, bkO, idOf, delAll, go_sem, simprocAttr])
  | (refine gd_split ?_ ?_ <;> intro hb <;> (try simp only [bls] at hb) <;> (try simp only [hb]))
  | refine gRt [1000, 1001] [.tmp 4] rfl ?_ | refine gDn [1000, 1001] [.tmp 4] rfl ?_) <;> (try simp only [go_sem, simprocAttr, g1']))
  | (refine hK _ _ ?_; clear hK K; simp only [go_sem, simprocAttr])
  | refine gCd (by simp only [go_sem, simprocAttr]; rfl) rfl ?_
  | refine brT ?_ | refine brF ?_
  | (refine brS ?_ ?_ <;> intro hc <;> (try simp only [bls] at hc) <;> (try simp only [hc, bls]))
  | intro _ | refine And.intro ?_ ?_)
    all_goals first | omega | (unfold bigLen; omega) | exact ⟨_, _, ⟨rfl, rfl⟩, rfl⟩ | exact ⟨_, rfl⟩ | (rename_i hy; simp only [List.mem_singleton] at hy; subst hy; rfl) | with_reducible rfl | skip
/-- What a kid's plan does. -/
def KidR (P : Program) (fno : Nat) (q f : Bool) (l : List Node) (most : Int) (pl : RS → RO) (kid : Int) : Prop :=
  ∀ (g g1 : Nat) (s : RS), s.1.length ≤ 1024 → ACall P fno [.bx 1000 g 0, .int .i64 kid] (qsto q f l most g g1 s) (RPost q f l most g (pl s))
theorem rstar_c {q f : Bool} {l : List Node} {most : Int} {pl : RS → RO} (kid : Int) (hk : KidR Try.prog 52 q f l most pl kid) (hb : PBR pl) (g g1 : Nat) (s : RS) (hs : s.1.length ≤ 1024) :
    ACall Try.prog 79 [.bx 1000 g 0, .int .i64 kid] (qsto q f l most g g1 s) (RPost q f l most g (starR pl s)) := by
  have hp := hk g g1 s hs
  have b1 := hb s hs
  unfold starR
  generalize pl s = a at hp b1
  have ht := fun h1 => rput_c q f false l most g h1 (repNd 0 (-1) a.2) a.1 b1
  simp only [qsto, qbx, RPost, Node.cellsF] at hp ht ⊢
  refine ACall.enter Try.func79 rfl (by kernel_rfl) (Nat.le_of_ble_eq_true rfl) ?_; simp only [initTm, Nat.reduceAdd]
  repeat' (first
  | refine gSq ?_ | refine gSk ?_ | refine gBl ?_ | refine gIb ?_ | refine gEx rfl ?_
  | ((first
  | (refine gRg [11] [0, 1, 4, 5] ?_; intro K hK)
  | (refine ACall.use [(1000, 1000), (1001, 1001)] [] rfl (hp) rfl rfl rfl ?_; (first | rintro _ _ ⟨rfl, rfl⟩ | rintro _ _ ⟨rfl, h1, rfl⟩); refine ⟨.inl rfl, rfl, ?_⟩; simp only [bk, bk2, bk1, bkS, bkO, idOf, delAll, go_sem, simprocAttr])
  | (refine ACall.use [(1000, 1000), (1001, 1001)] [] rfl (ht _) rfl rfl rfl ?_; (first | rintro _ _ ⟨rfl, rfl⟩ | rintro _ _ ⟨rfl, h1, rfl⟩); refine ⟨.inl rfl, rfl, ?_⟩; simp only [bk, bk2, bk1, bkS, bkO, idOf, delAll, go_sem, simprocAttr])
  | (refine gd_split ?_ ?_ <;> intro hb <;> (try simp only [bls] at hb) <;> (try simp only [hb]))
  | refine gRt [1000, 1001] [.tmp 4] rfl ?_ | refine gDn [1000, 1001] [.tmp 4] rfl ?_) <;> (try simp only [go_sem, simprocAttr]))
  | (refine hK _ _ ?_; clear hK K; simp only [go_sem, simprocAttr])
  | refine gCd (by simp only [go_sem, simprocAttr]; rfl) rfl ?_
  | refine brT ?_ | refine brF ?_
  | (refine brS ?_ ?_ <;> intro hc <;> (try simp only [bls] at hc) <;> (try simp only [hc, bls]))
  | intro _ | refine And.intro ?_ ?_)
  all_goals first | omega | (unfold bigLen; omega) | exact ⟨_, _, ⟨rfl, rfl⟩, rfl⟩ | exact ⟨_, rfl⟩ | (rename_i hy; simp only [List.mem_singleton] at hy; subst hy; rfl) | with_reducible rfl | skip
theorem rrest_c {q f : Bool} {l : List Node} {most : Int} {pl : RS → RO} (kid : Int) (hk : KidR Try.prog 52 q f l most pl kid) (hb : PBR pl) (g : Nat) : ∀ (m : Nat), m < 4096 → ∀ (g1 : Nat) (s : RS), s.1.length ≤ 1024 →
    ACall Try.prog 80 [.bx 1000 g 0, .int .i64 kid, .int .i64 (m + 1 : Nat)] (qsto q f l most g g1 s) (RPost q f l most g (restR pl (m + 1) s)) := by
  intro m
  induction m with
  | zero =>
    intro hm g1 s hs
    have he := rput_c q f true l most g g1 (opNd 1 []) s hs
    have b1 := putQ_len (opNd 1 []) s hs
    rw [restR]
    generalize putQ (opNd 1 []) s = e at he b1
    obtain ⟨⟨eo, el⟩, ev⟩ := e
    simp only at b1 ⊢
    cases el
    · have hp := fun h1 => hk g h1 (eo, false) b1
      have b2 := hb (eo, false) b1
      simp only [Bool.false_eq_true, if_false, ne_eq, not_true_eq_false, false_and]
      generalize pl (eo, false) = a at hp b2
      have ha := fun h1 => rput_c q f false l most g h1 (opNd 4 [ev, a.2]) a.1 b2
      unfold twoR
      simp only [qsto, qbx, RPost, Node.cellsF] at he hp ha ⊢
      refine ACall.enter Try.func80 rfl (by kernel_rfl) (Nat.le_of_ble_eq_true rfl) ?_; simp only [initTm, Nat.reduceAdd]
      repeat' (first
  | refine gSq ?_ | refine gSk ?_ | refine gBl ?_ | refine gIb ?_ | refine gEx rfl ?_
  | ((first
  | (refine gRg [43] [0, 1, 2, 6, 7, 8, 9, 16, 28] ?_; intro K hK)
  | (refine ACall.use [(1000, 1000), (1001, 1001)] [] rfl (he) rfl rfl rfl ?_; (first | rintro _ _ ⟨rfl, rfl⟩ | rintro _ _ ⟨rfl, h1, rfl⟩); refine ⟨.inl rfl, rfl, ?_⟩; simp only [bk, bk2, bk1, bkS, bkO, idOf, delAll, go_sem, simprocAttr])
  | (refine ACall.use [(1000, 1000), (1001, 1001)] [] rfl (hp _) rfl rfl rfl ?_; (first | rintro _ _ ⟨rfl, rfl⟩ | rintro _ _ ⟨rfl, h1, rfl⟩); refine ⟨.inl rfl, rfl, ?_⟩; simp only [bk, bk2, bk1, bkS, bkO, idOf, delAll, go_sem, simprocAttr])
  | (refine ACall.use [(1000, 1000), (1001, 1001)] [] rfl (ha _) rfl rfl rfl ?_; (first | rintro _ _ ⟨rfl, rfl⟩ | rintro _ _ ⟨rfl, h1, rfl⟩); refine ⟨.inl rfl, rfl, ?_⟩; simp only [bk, bk2, bk1, bkS, bkO, idOf, delAll, go_sem, simprocAttr])
  | (refine gd_split ?_ ?_ <;> intro hb <;> (try simp only [bls] at hb) <;> (try simp only [hb]))
  | refine gRt [1000, 1001] [.tmp 6] rfl ?_ | refine gDn [1000, 1001] [.tmp 6] rfl ?_) <;> (try simp only [go_sem, simprocAttr]))
  | (refine hK _ _ ?_; clear hK K; simp only [go_sem, simprocAttr])
  | refine gCd (by simp only [go_sem, simprocAttr]; rfl) rfl ?_
  | refine brT ?_ | refine brF ?_
  | (refine brS ?_ ?_ <;> intro hc <;> (try simp only [bls] at hc) <;> (try simp only [hc, bls]))
  | intro _ | refine And.intro ?_ ?_)
      all_goals first | omega | (unfold bigLen; omega) | exact ⟨_, _, ⟨rfl, rfl⟩, rfl⟩ | exact ⟨_, rfl⟩ | (rename_i hy; simp only [List.mem_singleton] at hy; subst hy; rfl) | with_reducible rfl | skip
    · simp only [if_true]
      simp only [qsto, qbx, RPost, Node.cellsF] at he ⊢
      refine ACall.enter Try.func80 rfl (by kernel_rfl) (Nat.le_of_ble_eq_true rfl) ?_; simp only [initTm, Nat.reduceAdd]
      repeat' (first
  | refine gSq ?_ | refine gSk ?_ | refine gBl ?_ | refine gIb ?_ | refine gEx rfl ?_
  | ((first
  | (refine gRg [] [0, 1, 2, 6, 7, 8, 9, 16, 28] ?_; intro K hK)
  | (refine ACall.use [(1000, 1000), (1001, 1001)] [] rfl (he) rfl rfl rfl ?_; (first | rintro _ _ ⟨rfl, rfl⟩ | rintro _ _ ⟨rfl, h1, rfl⟩); refine ⟨.inl rfl, rfl, ?_⟩; simp only [bk, bk2, bk1, bkS, bkO, idOf, delAll, go_sem, simprocAttr])
  | (refine gd_split ?_ ?_ <;> intro hb <;> (try simp only [bls] at hb) <;> (try simp only [hb]))
  | refine gRt [1000, 1001] [.tmp 6] rfl ?_ | refine gDn [1000, 1001] [.tmp 6] rfl ?_) <;> (try simp only [go_sem, simprocAttr]))
  | (refine hK _ _ ?_; clear hK K; simp only [go_sem, simprocAttr])
  | refine gCd (by simp only [go_sem, simprocAttr]; rfl) rfl ?_
  | refine brT ?_ | refine brF ?_
  | (refine brS ?_ ?_ <;> intro hc <;> (try simp only [bls] at hc) <;> (try simp only [hc, bls]))
  | intro _ | refine And.intro ?_ ?_)
      all_goals first | omega | (unfold bigLen; omega) | exact ⟨_, _, ⟨rfl, rfl⟩, rfl⟩ | exact ⟨_, rfl⟩ | (rename_i hy; simp only [List.mem_singleton] at hy; subst hy; rfl) | with_reducible rfl | skip
  | succ m ih =>
    intro hm g1 s hs
    have he := rput_c q f true l most g g1 (opNd 1 []) s hs
    have b1 := putQ_len (opNd 1 []) s hs
    rw [restR]
    generalize putQ (opNd 1 []) s = e at he b1
    obtain ⟨⟨eo, el⟩, ev⟩ := e
    simp only at b1 ⊢
    have e2 : ((m + 1 + 1 : Nat) : Int) - 1 = ((m + 1 : Nat) : Int) := by omega
    have e3 : (1 : Int) < ((m + 1 + 1 : Nat) : Int) := by omega
    cases el
    · have hp := fun h1 => hk g h1 (eo, false) b1
      have b2 := hb (eo, false) b1
      simp only [Bool.false_eq_true, if_false]
      generalize pl (eo, false) = a at hp b2
      obtain ⟨⟨ao, al⟩, av⟩ := a
      simp only at b2 ⊢
      cases al
      · rw [if_pos ⟨by omega, rfl⟩]
        have hr := fun g1 => ih (by omega) g1 (ao, false) b2
        have b3 := restR_len hb (m + 1) (ao, false) b2
        generalize restR pl (m + 1) (ao, false) = y at hr b3
        have hc := fun h1 => rput_c q f false l most g h1 (opNd 3 [av, y.2]) y.1 b3
        have b4 := putQ_len (opNd 3 [av, y.2]) y.1 b3
        simp only [twoR]
        generalize putQ (opNd 3 [av, y.2]) y.1 = c at hc b4
        have ha := fun h1 => rput_c q f false l most g h1 (opNd 4 [ev, c.2]) c.1 b4
        simp only [qsto, qbx, RPost, Node.cellsF] at he hp hr hc ha ⊢
        refine ACall.enter Try.func80 rfl (by kernel_rfl) (Nat.le_of_ble_eq_true rfl) ?_; simp only [initTm, Nat.reduceAdd]
        repeat' (first
  | refine gSq ?_ | refine gSk ?_ | refine gBl ?_ | refine gIb ?_ | refine gEx rfl ?_
  | ((first
  | (refine gRg [37, 43] [0, 1, 2, 6, 7, 8, 9, 16, 28] ?_; intro K hK)
  | (refine ACall.use [(1000, 1000), (1001, 1001)] [] rfl (he) rfl rfl rfl ?_; (first | rintro _ _ ⟨rfl, rfl⟩ | rintro _ _ ⟨rfl, h1, rfl⟩); refine ⟨.inl rfl, rfl, ?_⟩; simp only [bk, bk2, bk1, bkS, bkO, idOf, delAll, go_sem, simprocAttr])
  | (refine ACall.use [(1000, 1000), (1001, 1001)] [] rfl (hp _) rfl rfl rfl ?_; (first | rintro _ _ ⟨rfl, rfl⟩ | rintro _ _ ⟨rfl, h1, rfl⟩); refine ⟨.inl rfl, rfl, ?_⟩; simp only [bk, bk2, bk1, bkS, bkO, idOf, delAll, go_sem, simprocAttr])
  | (refine ACall.use [(1000, 1000), (1001, 1001)] [] rfl (hr _) rfl rfl rfl ?_; (first | rintro _ _ ⟨rfl, rfl⟩ | rintro _ _ ⟨rfl, h1, rfl⟩); refine ⟨.inl rfl, rfl, ?_⟩; simp only [bk, bk2, bk1, bkS, bkO, idOf, delAll, go_sem, simprocAttr])
  | (refine ACall.use [(1000, 1000), (1001, 1001)] [] rfl (hc _) rfl rfl rfl ?_; (first | rintro _ _ ⟨rfl, rfl⟩ | rintro _ _ ⟨rfl, h1, rfl⟩); refine ⟨.inl rfl, rfl, ?_⟩; simp only [bk, bk2, bk1, bkS, bkO, idOf, delAll, go_sem, simprocAttr])
  | (refine ACall.use [(1000, 1000), (1001, 1001)] [] rfl (ha _) rfl rfl rfl ?_; (first | rintro _ _ ⟨rfl, rfl⟩ | rintro _ _ ⟨rfl, h1, rfl⟩); refine ⟨.inl rfl, rfl, ?_⟩; simp only [bk, bk2, bk1, bkS, bkO, idOf, delAll, go_sem, simprocAttr])
  | (refine gd_split ?_ ?_ <;> intro hb <;> (try simp only [bls] at hb) <;> (try simp only [hb]))
  | refine gRt [1000, 1001] [.tmp 6] rfl ?_ | refine gDn [1000, 1001] [.tmp 6] rfl ?_) <;> (try simp only [go_sem, simprocAttr, e2, e3]))
  | (refine hK _ _ ?_; clear hK K; simp only [go_sem, simprocAttr])
  | refine gCd (by simp only [go_sem, simprocAttr]; rfl) rfl ?_
  | refine brT ?_ | refine brF ?_
  | (refine brS ?_ ?_ <;> intro hc <;> (try simp only [bls] at hc) <;> (try simp only [hc, bls]))
  | intro _ | refine And.intro ?_ ?_)
        all_goals first | omega | (unfold bigLen; omega) | exact ⟨_, _, ⟨rfl, rfl⟩, rfl⟩ | exact ⟨_, rfl⟩ | (rename_i hy; simp only [List.mem_singleton] at hy; subst hy; rfl) | with_reducible rfl | skip
      · rw [if_neg (fun h => by cases h.2)]
        have ha := fun h1 => rput_c q f false l most g h1 (opNd 4 [ev, av]) (ao, true) b2
        unfold twoR
        simp only [qsto, qbx, RPost, Node.cellsF] at he hp ha ⊢
        refine ACall.enter Try.func80 rfl (by kernel_rfl) (Nat.le_of_ble_eq_true rfl) ?_; simp only [initTm, Nat.reduceAdd]
        repeat' (first
  | refine gSq ?_ | refine gSk ?_ | refine gBl ?_ | refine gIb ?_ | refine gEx rfl ?_
  | ((first
  | (refine gRg [43] [0, 1, 2, 6, 7, 8, 9, 16, 28] ?_; intro K hK)
  | (refine ACall.use [(1000, 1000), (1001, 1001)] [] rfl (he) rfl rfl rfl ?_; (first | rintro _ _ ⟨rfl, rfl⟩ | rintro _ _ ⟨rfl, h1, rfl⟩); refine ⟨.inl rfl, rfl, ?_⟩; simp only [bk, bk2, bk1, bkS, bkO, idOf, delAll, go_sem, simprocAttr])
  | (refine ACall.use [(1000, 1000), (1001, 1001)] [] rfl (hp _) rfl rfl rfl ?_; (first | rintro _ _ ⟨rfl, rfl⟩ | rintro _ _ ⟨rfl, h1, rfl⟩); refine ⟨.inl rfl, rfl, ?_⟩; simp only [bk, bk2, bk1, bkS, bkO, idOf, delAll, go_sem, simprocAttr])
  | (refine ACall.use [(1000, 1000), (1001, 1001)] [] rfl (ha _) rfl rfl rfl ?_; (first | rintro _ _ ⟨rfl, rfl⟩ | rintro _ _ ⟨rfl, h1, rfl⟩); refine ⟨.inl rfl, rfl, ?_⟩; simp only [bk, bk2, bk1, bkS, bkO, idOf, delAll, go_sem, simprocAttr])
  | (refine gd_split ?_ ?_ <;> intro hb <;> (try simp only [bls] at hb) <;> (try simp only [hb]))
  | refine gRt [1000, 1001] [.tmp 6] rfl ?_ | refine gDn [1000, 1001] [.tmp 6] rfl ?_) <;> (try simp only [go_sem, simprocAttr, e2, e3]))
  | (refine hK _ _ ?_; clear hK K; simp only [go_sem, simprocAttr])
  | refine gCd (by simp only [go_sem, simprocAttr]; rfl) rfl ?_
  | refine brT ?_ | refine brF ?_
  | (refine brS ?_ ?_ <;> intro hc <;> (try simp only [bls] at hc) <;> (try simp only [hc, bls]))
  | intro _ | refine And.intro ?_ ?_)
        all_goals first | omega | (unfold bigLen; omega) | exact ⟨_, _, ⟨rfl, rfl⟩, rfl⟩ | exact ⟨_, rfl⟩ | (rename_i hy; simp only [List.mem_singleton] at hy; subst hy; rfl) | with_reducible rfl | skip
    · simp only [if_true]
      simp only [qsto, qbx, RPost, Node.cellsF] at he ⊢
      refine ACall.enter Try.func80 rfl (by kernel_rfl) (Nat.le_of_ble_eq_true rfl) ?_; simp only [initTm, Nat.reduceAdd]
      repeat' (first
  | refine gSq ?_ | refine gSk ?_ | refine gBl ?_ | refine gIb ?_ | refine gEx rfl ?_
  | ((first
  | (refine gRg [] [0, 1, 2, 6, 7, 8, 9, 16, 28] ?_; intro K hK)
  | (refine ACall.use [(1000, 1000), (1001, 1001)] [] rfl (he) rfl rfl rfl ?_; (first | rintro _ _ ⟨rfl, rfl⟩ | rintro _ _ ⟨rfl, h1, rfl⟩); refine ⟨.inl rfl, rfl, ?_⟩; simp only [bk, bk2, bk1, bkS, bkO, idOf, delAll, go_sem, simprocAttr])
  | (refine gd_split ?_ ?_ <;> intro hb <;> (try simp only [bls] at hb) <;> (try simp only [hb]))
  | refine gRt [1000, 1001] [.tmp 6] rfl ?_ | refine gDn [1000, 1001] [.tmp 6] rfl ?_) <;> (try simp only [go_sem, simprocAttr]))
  | (refine hK _ _ ?_; clear hK K; simp only [go_sem, simprocAttr])
  | refine gCd (by simp only [go_sem, simprocAttr]; rfl) rfl ?_
  | refine brT ?_ | refine brF ?_
  | (refine brS ?_ ?_ <;> intro hc <;> (try simp only [bls] at hc) <;> (try simp only [hc, bls]))
  | intro _ | refine And.intro ?_ ?_)
      all_goals first | omega | (unfold bigLen; omega) | exact ⟨_, _, ⟨rfl, rfl⟩, rfl⟩ | exact ⟨_, rfl⟩ | (rename_i hy; simp only [List.mem_singleton] at hy; subst hy; rfl) | with_reducible rfl | skip
end Go.Rad
