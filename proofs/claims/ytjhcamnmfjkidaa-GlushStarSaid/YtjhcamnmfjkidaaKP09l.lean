/- Contracts: the document's plan: Tree, Right, Counted. -/
import Derived.Test.YtjhcamnmfjkidaaKP08j
import Derived.Test.YtjhcamnmfjkidaaKRNorm
import Derived.Test.YtjhcamnmfjkidaaKP09b
set_option linter.all false
namespace Go.Rad
open Go Go.Proofs
set_option linter.all false
set_option maxRecDepth 20000
set_option maxHeartbeats 4000000

theorem rtree_c (f : Bool) (l : List Node) (most : Int) (hlen : l.length ≤ maxLen) (hl : ∀ n ∈ l, n.l.length ≤ maxLen ∧ n.name.size ≤ maxLen)
    (hout : plainS l = true → (1 ≤ most ∧ most ≤ 4096) → (planR l most l.length ((l.length : Int) - 1) ([], false)).1.2 = false → ∀ n ∈ (planR l most l.length ((l.length : Int) - 1) ([], false)).1.1, n.l.length ≤ maxLen ∧ n.name.size ≤ maxLen) :
    ACall Try.prog 34 [.sl true f (nodes l), .int .i64 most] [] fun r s => r = .tup [.sl true (flS (ref8S l most).2) (nodes (ref8S l most).1), .int .i64 (ref8S l most).2] ∧ s = [] := by
  have hp := plain_c f l hlen hl
  unfold ref8S
  cases h3 : plainS l
  · rw [if_pos (.inl rfl)]
    rw [h3] at hp
    refine ACall.enter Try.func34 rfl (by kernel_rfl) (Nat.le_of_ble_eq_true rfl) ?_; simp only [initTm, Nat.reduceAdd]
    repeat' (first
  | refine gSq ?_ | refine gSk ?_ | refine gBl ?_ | refine gIb ?_ | refine gEx rfl ?_
  | ((first
  | (refine gRg [] [0, 1, 4, 5, 6, 17, 38] ?_; intro K hK)
  | refine cAl (hp) rfl rfl rfl ?_
  | (refine gd_split ?_ ?_ <;> intro hb <;> (try simp only [bls] at hb) <;> (try simp only [hb]))
  | refine gRt [] [.tmp 4, .tmp 5] rfl ?_ | refine gDn [] [.tmp 4, .tmp 5] rfl ?_) <;> (try simp only [go_sem, simprocAttr]))
  | (refine hK _ _ ?_; clear hK K; simp only [go_sem, simprocAttr])
  | refine gCd (by simp only [go_sem, simprocAttr]; rfl) rfl ?_
  | refine brT ?_ | refine brF ?_
  | (refine brS ?_ ?_ <;> intro hc <;> (try simp only [bls] at hc) <;> (try simp only [hc, bls]))
  | intro _ | refine And.intro ?_ ?_)
    all_goals first | omega | (simp only [flS_0, flS_1, flS_3]; done) | first | omega | (unfold bigLen; omega) | exact ⟨_, _, ⟨rfl, rfl⟩, rfl⟩ | exact ⟨_, rfl⟩ | (rename_i hy; simp only [List.mem_singleton] at hy; subst hy; rfl) | with_reducible rfl | skip
  · rw [h3] at hp
    by_cases c1 : most < 1
    · rw [if_pos (.inr (.inl c1))]
      refine ACall.enter Try.func34 rfl (by kernel_rfl) (Nat.le_of_ble_eq_true rfl) ?_; simp only [initTm, Nat.reduceAdd]
      repeat' (first
  | refine gSq ?_ | refine gSk ?_ | refine gBl ?_ | refine gIb ?_ | refine gEx rfl ?_
  | ((first
  | (refine gRg [] [0, 1, 4, 5, 6, 17, 38] ?_; intro K hK)
  | refine cAl (hp) rfl rfl rfl ?_
  | (refine gd_split ?_ ?_ <;> intro hb <;> (try simp only [bls] at hb) <;> (try simp only [hb]))
  | refine gRt [] [.tmp 4, .tmp 5] rfl ?_ | refine gDn [] [.tmp 4, .tmp 5] rfl ?_) <;> (try simp only [go_sem, simprocAttr, c1]))
  | (refine hK _ _ ?_; clear hK K; simp only [go_sem, simprocAttr])
  | refine gCd (by simp only [go_sem, simprocAttr]; rfl) rfl ?_
  | refine brT ?_ | refine brF ?_
  | (refine brS ?_ ?_ <;> intro hc <;> (try simp only [bls] at hc) <;> (try simp only [hc, bls]))
  | intro _ | refine And.intro ?_ ?_)
      all_goals first | omega | (simp only [flS_0, flS_1, flS_3]; done) | first | omega | (unfold bigLen; omega) | exact ⟨_, _, ⟨rfl, rfl⟩, rfl⟩ | exact ⟨_, rfl⟩ | (rename_i hy; simp only [List.mem_singleton] at hy; subst hy; rfl) | with_reducible rfl | skip
    · by_cases c2 : 4096 < most
      · rw [if_pos (.inr (.inr c2))]
        refine ACall.enter Try.func34 rfl (by kernel_rfl) (Nat.le_of_ble_eq_true rfl) ?_; simp only [initTm, Nat.reduceAdd]
        repeat' (first
  | refine gSq ?_ | refine gSk ?_ | refine gBl ?_ | refine gIb ?_ | refine gEx rfl ?_
  | ((first
  | (refine gRg [] [0, 1, 4, 5, 6, 17, 38] ?_; intro K hK)
  | refine cAl (hp) rfl rfl rfl ?_
  | (refine gd_split ?_ ?_ <;> intro hb <;> (try simp only [bls] at hb) <;> (try simp only [hb]))
  | refine gRt [] [.tmp 4, .tmp 5] rfl ?_ | refine gDn [] [.tmp 4, .tmp 5] rfl ?_) <;> (try simp only [go_sem, simprocAttr, c1, c2]))
  | (refine hK _ _ ?_; clear hK K; simp only [go_sem, simprocAttr])
  | refine gCd (by simp only [go_sem, simprocAttr]; rfl) rfl ?_
  | refine brT ?_ | refine brF ?_
  | (refine brS ?_ ?_ <;> intro hc <;> (try simp only [bls] at hc) <;> (try simp only [hc, bls]))
  | intro _ | refine And.intro ?_ ?_)
        all_goals first | omega | (simp only [flS_0, flS_1, flS_3]; done) | first | omega | (unfold bigLen; omega) | exact ⟨_, _, ⟨rfl, rfl⟩, rfl⟩ | exact ⟨_, rfl⟩ | (rename_i hy; simp only [List.mem_singleton] at hy; subst hy; rfl) | with_reducible rfl | skip
      · rw [if_neg (by simp [c1, c2])]
        have hok := plain_plOk h3
        have hpos : 1 ≤ l.length := by
          simp only [plainS, Bool.and_eq_true] at h3
          have hr := h3.2
          rw [← right_eq] at hr
          exact (rightS_kids hr).2.2.1
        have hout := hout h3 (by omega)
        obtain ⟨m, hm⟩ : ∃ m, l.length = m + 1 := ⟨l.length - 1, by omega⟩
        have em : (l.length : Int) - 1 = (m : Nat) := by omega
        rw [em] at hout ⊢
        have hl1 := hok.1
        have hc := fun g g1 => rplan_c (q := true) (f := f) (most := most) hok l.length m (by omega) (by omega) g g1 ([], false) (Nat.zero_le _)
        have hln := planR_len l most l.length m ([], false) (Nat.zero_le _)
        generalize planR l most l.length m ([], false) = a at hc hln hout
        obtain ⟨⟨o, lg⟩, v⟩ := a
        simp only at hln hout ⊢
        simp only [qsto, qbx, RPost] at hc
        have e15 : (nodes o).take o.length = nodes o := List.take_of_length_le (by simp)
        cases lg
        · have hr4 := right4uc true false o (hout rfl)
          cases hr : right4 o
          · rw [hr] at hr4
            simp only [Bool.false_eq_true, false_or, if_true]
            refine ACall.enter Try.func34 rfl (by kernel_rfl) (Nat.le_of_ble_eq_true rfl) ?_; simp only [initTm, Nat.reduceAdd]
            repeat' (first
  | refine gSq ?_ | refine gSk ?_ | refine gBl ?_ | refine gIb ?_ | refine gEx rfl ?_
  | ((first
  | (refine AGood.at 4 ?_; (refine AGood.ownBox 21 2 901 9 (by decide) rfl rfl (by decide) fun g9 => ?_; simp only [List.set_cons_succ, List.set_cons_zero, go_sem, simprocAttr]); (refine gRg [] [0, 1, 4, 5, 6, 17, 38] ?_; intro K hK))
  | (refine AGood.at 5 ?_; (refine AGood.freeze 901 rfl ?_; simp only [rfT, rfS, rfO, rf, rf1, e15, true_and, go_sem, simprocAttr]); (refine gRg [] [0, 1, 4, 5, 6, 17, 38] ?_; intro K hK))
  | (refine gRg [] [0, 1, 4, 5, 6, 17, 38] ?_; intro K hK)
  | refine cAl (hp) rfl rfl rfl ?_
  | refine cAl (hr4) rfl rfl rfl ?_
  | (refine ACall.use [(1000, 21), (1001, 901)] [] rfl (hc _ _) rfl rfl rfl ?_; rintro _ _ ⟨rfl, h1, rfl⟩; refine ⟨.inl rfl, rfl, ?_⟩; simp only [bk, bk2, bk1, bkS, bkO, idOf, delAll, go_sem, simprocAttr])
  | (refine gd_split ?_ ?_ <;> intro hb <;> (try simp only [bls] at hb) <;> (try simp only [hb]))
  | refine gRt [] [.tmp 4, .tmp 5] rfl ?_ | refine gDn [] [.tmp 4, .tmp 5] rfl ?_) <;> (try simp only [go_sem, simprocAttr, c1, c2, em]))
  | (refine hK _ _ ?_; clear hK K; simp only [go_sem, simprocAttr])
  | refine gCd (by simp only [go_sem, simprocAttr]; rfl) rfl ?_
  | refine brT ?_ | refine brF ?_
  | (refine brS ?_ ?_ <;> intro hc <;> (try simp only [bls] at hc) <;> (try simp only [hc, bls]))
  | intro _ | refine And.intro ?_ ?_)
            all_goals first | omega | (simp only [flS_0, flS_1, flS_3]; done) | first | omega | (unfold bigLen; omega) | exact ⟨_, _, ⟨rfl, rfl⟩, rfl⟩ | exact ⟨_, rfl⟩ | (rename_i hy; simp only [List.mem_singleton] at hy; subst hy; rfl) | with_reducible rfl | skip
          · rw [hr] at hr4
            simp only [Bool.false_eq_true, Bool.true_eq_false, or_false, if_false]
            refine ACall.enter Try.func34 rfl (by kernel_rfl) (Nat.le_of_ble_eq_true rfl) ?_; simp only [initTm, Nat.reduceAdd]
            repeat' (first
  | refine gSq ?_ | refine gSk ?_ | refine gBl ?_ | refine gIb ?_ | refine gEx rfl ?_
  | ((first
  | (refine AGood.at 4 ?_; (refine AGood.ownBox 21 2 901 9 (by decide) rfl rfl (by decide) fun g9 => ?_; simp only [List.set_cons_succ, List.set_cons_zero, go_sem, simprocAttr]); (refine gRg [] [0, 1, 4, 5, 6, 17, 38] ?_; intro K hK))
  | (refine AGood.at 5 ?_; (refine AGood.freeze 901 rfl ?_; simp only [rfT, rfS, rfO, rf, rf1, e15, true_and, go_sem, simprocAttr]); (refine gRg [] [0, 1, 4, 5, 6, 17, 38] ?_; intro K hK))
  | (refine gRg [] [0, 1, 4, 5, 6, 17, 38] ?_; intro K hK)
  | refine cAl (hp) rfl rfl rfl ?_
  | refine cAl (hr4) rfl rfl rfl ?_
  | (refine ACall.use [(1000, 21), (1001, 901)] [] rfl (hc _ _) rfl rfl rfl ?_; rintro _ _ ⟨rfl, h1, rfl⟩; refine ⟨.inl rfl, rfl, ?_⟩; simp only [bk, bk2, bk1, bkS, bkO, idOf, delAll, go_sem, simprocAttr])
  | (refine gd_split ?_ ?_ <;> intro hb <;> (try simp only [bls] at hb) <;> (try simp only [hb]))
  | refine gRt [] [.tmp 4, .tmp 5] rfl ?_ | refine gDn [] [.tmp 4, .tmp 5] rfl ?_) <;> (try simp only [go_sem, simprocAttr, c1, c2, em]))
  | (refine hK _ _ ?_; clear hK K; simp only [go_sem, simprocAttr])
  | refine gCd (by simp only [go_sem, simprocAttr]; rfl) rfl ?_
  | refine brT ?_ | refine brF ?_
  | (refine brS ?_ ?_ <;> intro hc <;> (try simp only [bls] at hc) <;> (try simp only [hc, bls]))
  | intro _ | refine And.intro ?_ ?_)
            all_goals first | omega | (simp only [flS_0, flS_1, flS_3]; done) | first | omega | (unfold bigLen; omega) | exact ⟨_, _, ⟨rfl, rfl⟩, rfl⟩ | exact ⟨_, rfl⟩ | (rename_i hy; simp only [List.mem_singleton] at hy; subst hy; rfl) | with_reducible rfl | skip
        · simp only [true_or, if_true]
          refine ACall.enter Try.func34 rfl (by kernel_rfl) (Nat.le_of_ble_eq_true rfl) ?_; simp only [initTm, Nat.reduceAdd]
          repeat' (first
  | refine gSq ?_ | refine gSk ?_ | refine gBl ?_ | refine gIb ?_ | refine gEx rfl ?_
  | ((first
  | (refine AGood.at 4 ?_; (refine AGood.ownBox 21 2 901 9 (by decide) rfl rfl (by decide) fun g9 => ?_; simp only [List.set_cons_succ, List.set_cons_zero, go_sem, simprocAttr]); (refine gRg [] [0, 1, 4, 5, 6, 17, 38] ?_; intro K hK))
  | (refine AGood.at 5 ?_; (refine AGood.freeze 901 rfl ?_; simp only [rfT, rfS, rfO, rf, rf1, e15, true_and, go_sem, simprocAttr]); (refine gRg [] [0, 1, 4, 5, 6, 17, 38] ?_; intro K hK))
  | (refine gRg [] [0, 1, 4, 5, 6, 17, 38] ?_; intro K hK)
  | refine cAl (hp) rfl rfl rfl ?_
  | (refine ACall.use [(1000, 21), (1001, 901)] [] rfl (hc _ _) rfl rfl rfl ?_; rintro _ _ ⟨rfl, h1, rfl⟩; refine ⟨.inl rfl, rfl, ?_⟩; simp only [bk, bk2, bk1, bkS, bkO, idOf, delAll, go_sem, simprocAttr])
  | (refine gd_split ?_ ?_ <;> intro hb <;> (try simp only [bls] at hb) <;> (try simp only [hb]))
  | refine gRt [] [.tmp 4, .tmp 5] rfl ?_ | refine gDn [] [.tmp 4, .tmp 5] rfl ?_) <;> (try simp only [go_sem, simprocAttr, c1, c2, em]))
  | (refine hK _ _ ?_; clear hK K; simp only [go_sem, simprocAttr])
  | refine gCd (by simp only [go_sem, simprocAttr]; rfl) rfl ?_
  | refine brT ?_ | refine brF ?_
  | (refine brS ?_ ?_ <;> intro hc <;> (try simp only [bls] at hc) <;> (try simp only [hc, bls]))
  | intro _ | refine And.intro ?_ ?_)
          all_goals first | omega | (simp only [flS_0, flS_1, flS_3]; done) | first | omega | (unfold bigLen; omega) | exact ⟨_, _, ⟨rfl, rfl⟩, rfl⟩ | exact ⟨_, rfl⟩ | (rename_i hy; simp only [List.mem_singleton] at hy; subst hy; rfl) | with_reducible rfl | skip
theorem rcounted_c (q f : Bool) (l : List Node) (hll : l.length ≤ 1000000) (n m : Node) (kid : Nat) (hn : n.l = [(kid : Int)]) (hm : l[kid]? = some m) : ACall Try.prog 25 [.sl q f (nodes l), .agg n.cells] [] fun r s => r = .bool (decide (m.op = 2 ∧ 1 ≤ n.lo ∧ 2 ≤ n.hi)) ∧ s = [] := by
  obtain ⟨xo, ⟨xa, xb, xc, xd⟩, xl, xlo, xhi, xn⟩ := n
  simp only at hn
  have hx0 : xl[0]? = some (kid : Int) := by rw [hn]; rfl
  have e0 : (0 : Int) < xl.length := by rw [hn]; exact Int.one_pos
  clear hn
  have hkl := (List.getElem?_eq_some_iff.1 hm).1
  have e1 : (kid : Int) < l.length := by omega
  have e2 : (0 : Int) ≤ kid := by omega
  obtain ⟨mo, ⟨ma, mb, mc, md⟩, ml, mlo, mhi, mn⟩ := m
  simp only [Node.cells, Node.cellsF]
  by_cases c1 : mo = 2
  · by_cases c2 : 1 ≤ xlo
    · subst c1
      refine ACall.enter Try.func25 rfl (by kernel_rfl) (Nat.le_of_ble_eq_true rfl) ?_; simp only [initTm, Nat.reduceAdd]
      repeat' (first
  | refine gSq ?_ | refine gSk ?_ | refine gBl ?_ | refine gIb ?_ | refine gEx rfl ?_
  | ((first
  | (refine gRg [] [0, 1, 3, 4] ?_; intro K hK)
  | (refine gd_split ?_ ?_ <;> intro hb <;> (try simp only [bls] at hb) <;> (try simp only [hb]))
  | refine gRt [] [.tmp 4] rfl ?_ | refine gDn [] [.tmp 4] rfl ?_) <;> (try simp only [go_sem, simprocAttr, hx0, e0, e1, e2, hm, c2, Option.some.injEq, forall_eq']))
  | (refine hK _ _ ?_; clear hK K; simp only [go_sem, simprocAttr])
  | refine gCd (by simp only [go_sem, simprocAttr]; rfl) rfl ?_
  | refine brT ?_ | refine brF ?_
  | (refine brS ?_ ?_ <;> intro hc <;> (try simp only [bls] at hc) <;> (try simp only [hc, bls]))
  | intro _ | refine And.intro ?_ ?_)
      all_goals first | omega | (unfold bigLen; omega) | exact ⟨_, _, ⟨rfl, rfl⟩, rfl⟩ | exact ⟨_, rfl⟩ | (rename_i hy; simp only [List.mem_singleton] at hy; subst hy; rfl) | with_reducible rfl | skip
    · rw [decide_eq_false (fun h => c2 h.2.1)]
      subst c1
      refine ACall.enter Try.func25 rfl (by kernel_rfl) (Nat.le_of_ble_eq_true rfl) ?_; simp only [initTm, Nat.reduceAdd]
      repeat' (first
  | refine gSq ?_ | refine gSk ?_ | refine gBl ?_ | refine gIb ?_ | refine gEx rfl ?_
  | ((first
  | (refine gRg [] [0, 1, 3, 4] ?_; intro K hK)
  | (refine gd_split ?_ ?_ <;> intro hb <;> (try simp only [bls] at hb) <;> (try simp only [hb]))
  | refine gRt [] [.tmp 4] rfl ?_ | refine gDn [] [.tmp 4] rfl ?_) <;> (try simp only [go_sem, simprocAttr, hx0, e0, e1, e2, hm, c2, Option.some.injEq, forall_eq']))
  | (refine hK _ _ ?_; clear hK K; simp only [go_sem, simprocAttr])
  | refine gCd (by simp only [go_sem, simprocAttr]; rfl) rfl ?_
  | refine brT ?_ | refine brF ?_
  | (refine brS ?_ ?_ <;> intro hc <;> (try simp only [bls] at hc) <;> (try simp only [hc, bls]))
  | intro _ | refine And.intro ?_ ?_)
      all_goals first | omega | (unfold bigLen; omega) | exact ⟨_, _, ⟨rfl, rfl⟩, rfl⟩ | exact ⟨_, rfl⟩ | (rename_i hy; simp only [List.mem_singleton] at hy; subst hy; rfl) | with_reducible rfl | skip
  · rw [decide_eq_false (fun h => c1 h.1)]
    refine ACall.enter Try.func25 rfl (by kernel_rfl) (Nat.le_of_ble_eq_true rfl) ?_; simp only [initTm, Nat.reduceAdd]
    repeat' (first
  | refine gSq ?_ | refine gSk ?_ | refine gBl ?_ | refine gIb ?_ | refine gEx rfl ?_
  | ((first
  | (refine gRg [] [0, 1, 3, 4] ?_; intro K hK)
  | (refine gd_split ?_ ?_ <;> intro hb <;> (try simp only [bls] at hb) <;> (try simp only [hb]))
  | refine gRt [] [.tmp 4] rfl ?_ | refine gDn [] [.tmp 4] rfl ?_) <;> (try simp only [go_sem, simprocAttr, hx0, e0, e1, e2, hm, c1, Option.some.injEq, forall_eq']))
  | (refine hK _ _ ?_; clear hK K; simp only [go_sem, simprocAttr])
  | refine gCd (by simp only [go_sem, simprocAttr]; rfl) rfl ?_
  | refine brT ?_ | refine brF ?_
  | (refine brS ?_ ?_ <;> intro hc <;> (try simp only [bls] at hc) <;> (try simp only [hc, bls]))
  | intro _ | refine And.intro ?_ ?_)
    all_goals first | omega | (unfold bigLen; omega) | exact ⟨_, _, ⟨rfl, rfl⟩, rfl⟩ | exact ⟨_, rfl⟩ | (rename_i hy; simp only [List.mem_singleton] at hy; subst hy; rfl) | with_reducible rfl | skip
theorem rright_c (f : Bool) (l : List Node) (hlen : l.length ≤ maxLen) (hl : ∀ n ∈ l, n.l.length ≤ maxLen ∧ n.name.size ≤ maxLen) : ACall Try.prog 12 [.sl true f (nodes l)] [] fun r s => r = .bool (rightP l) ∧ s = [] := by
  have hp := plain_c f l hlen hl
  obtain ⟨S, hS⟩ : ∃ S, S = rightP l := ⟨_, rfl⟩
  rw [← hS]
  rw [rightP] at hS
  cases h3 : plainS l
  · rw [h3] at hp hS
    simp only [Bool.false_and] at hS
    subst hS
    refine ACall.enter Try.func12 rfl (by kernel_rfl) (Nat.le_of_ble_eq_true rfl) ?_; simp only [initTm, Nat.reduceAdd]
    repeat' (first
  | refine gSq ?_ | refine gSk ?_ | refine gBl ?_ | refine gIb ?_ | refine gEx rfl ?_
  | ((first
  | (refine gRg [] [0, 2, 3, 4, 7, 11, 36] ?_; intro K hK)
  | refine cAl (hp) rfl rfl rfl ?_
  | (refine gd_split ?_ ?_ <;> intro hb <;> (try simp only [bls] at hb) <;> (try simp only [hb]))
  | refine gRt [] [.tmp 2] rfl ?_ | refine gDn [] [.tmp 2] rfl ?_) <;> (try simp only [go_sem, simprocAttr]))
  | (refine hK _ _ ?_; clear hK K; simp only [go_sem, simprocAttr])
  | refine gCd (by simp only [go_sem, simprocAttr]; rfl) rfl ?_
  | refine brT ?_ | refine brF ?_
  | (refine brS ?_ ?_ <;> intro hc <;> (try simp only [bls] at hc) <;> (try simp only [hc, bls]))
  | intro _ | refine And.intro ?_ ?_)
    all_goals first | omega | (unfold bigLen; omega) | exact ⟨_, _, ⟨rfl, rfl⟩, rfl⟩ | exact ⟨_, rfl⟩ | (rename_i hy; simp only [List.mem_singleton] at hy; subst hy; rfl) | with_reducible rfl | skip
  · rw [h3] at hp hS
    simp only [Bool.true_and] at hS
    have hok := plain_plOk h3
    clear h3
    refine ACall.enter Try.func12 rfl (by kernel_rfl) (Nat.le_of_ble_eq_true rfl) ?_; simp only [initTm, Nat.reduceAdd]
    repeat' (first
  | refine gSq ?_ | refine gSk ?_ | refine gBl ?_ | refine gIb ?_ | refine gEx rfl ?_
  | ((first
  | (refine gRg [] [0, 2, 3, 4, 7, 11, 36] ?_; intro K hK)
  | refine cAl (hp) rfl rfl rfl ?_
  | (refine gd_split ?_ ?_ <;> intro hb <;> (try simp only [bls] at hb) <;> (try simp only [hb]))
  | refine gRt [] [.tmp 2] rfl ?_ | refine gDn [] [.tmp 2] rfl ?_) <;> (try simp only [go_sem, simprocAttr]))
  | (refine hK _ _ ?_; clear hK K; simp only [go_sem, simprocAttr])
  | refine gCd (by simp only [go_sem, simprocAttr]; rfl) rfl ?_
  | refine brT ?_ | refine brF ?_
  | (refine brS ?_ ?_ <;> intro hc <;> (try simp only [bls] at hc) <;> (try simp only [hc, bls]))
  | intro _ | refine And.intro ?_ ?_)
    all_goals first | omega | (unfold bigLen; omega) | exact ⟨_, _, ⟨rfl, rfl⟩, rfl⟩ | exact ⟨_, rfl⟩ | (rename_i hy; simp only [List.mem_singleton] at hy; subst hy; rfl) | with_reducible rfl | skip
    refine AGood.prune [0, 2, 3] ?_; simp only [go_sem, simprocAttr]
    refine AGood.loopInv (α := Nat) (fun x => ([(0, .sl true f (nodes l)), (2, .bool false), (3, .int .i64 x)], []))
      (fun x => x ≤ l.length ∧ S = (l.drop x).all fun n => !badB l n) (fun x => l.length - x) 0 ⟨Nat.zero_le _, hS⟩ rfl ?_
    rintro i ⟨hi, hrun⟩ ih
    simp only at hi hrun ih ⊢
    have hl1 := hok.1
    by_cases hle : i < l.length
    · have e4 : (i : Int) < l.length := by omega
      have e5 : (0 : Int) ≤ i := by omega
      have e8 : (i : Int) + 1 = ((i + 1 : Nat) : Int) := by omega
      have hx : l[i]? = some l[i] := List.getElem?_eq_getElem hle
      have hdr : l.drop i = l[i] :: l.drop (i + 1) := List.drop_eq_getElem_cons hle
      have hm := hok.2 i _ hx
      rw [hdr, List.all_cons] at hrun
      generalize l[i] = n at hx hrun hm
      obtain ⟨m1, m2, m3, m4, m5, m6⟩ := hm
      by_cases h5 : n.op = 5
      · obtain ⟨kd, hkd⟩ : ∃ kd, n.l = [kd] := List.length_eq_one_iff.1 (m3 h5)
        have hk1 := m2 kd (by simp [hkd])
        obtain ⟨kid, rfl⟩ : ∃ kid : Nat, kd = kid := ⟨kd.toNat, by omega⟩
        have hm : l[kid]? = some (l[kid]'(by omega)) := List.getElem?_eq_getElem (by omega)
        generalize l[kid]'(by omega) = m at hm
        have hct := rcounted_c true f l (by omega) n m kid hkd hm
        have hbad : badB l n = (decide (¬ (n.lo = 0 ∧ n.hi = -1)) && !decide (m.op = 2 ∧ 1 ≤ n.lo ∧ 2 ≤ n.hi)) := by
          simp only [badB, h5, kid0, hkd, List.headD_cons, nAt_get hm, true_and]
          rw [Bool.eq_iff_iff]
          simp only [decide_eq_true_eq, Bool.and_eq_true, Bool.not_eq_true', decide_eq_false_iff_not]
          omega
        rw [hbad] at hrun
        generalize decide (m.op = 2 ∧ 1 ≤ n.lo ∧ 2 ≤ n.hi) = ct at hct hrun
        obtain ⟨xo, ⟨xa, xb, xc, xd⟩, xl, xlo, xhi, xn⟩ := n
        simp only [Node.cells, Node.cellsF] at h5 hrun hct
        subst h5
        clear hkd hbad
        by_cases c1 : xlo = 0
        · by_cases c2 : xhi = -1
          · simp only [c1, c2, and_self, not_true_eq_false, decide_false, Bool.false_and, Bool.not_false, Bool.true_and] at hrun
            repeat' (first
  | refine gSq ?_ | refine gSk ?_ | refine gBl ?_ | refine gIb ?_ | refine gEx rfl ?_
  | ((first
  | (refine gRg [] [0, 2, 3, 4, 7, 11, 36] ?_; intro K hK)
  | (refine gd_split ?_ ?_ <;> intro hb <;> (try simp only [bls] at hb) <;> (try simp only [hb]))
  | refine gRt [] [.tmp 2] rfl ?_ | refine gDn [] [.tmp 2] rfl ?_) <;> (try simp only [go_sem, simprocAttr, e4, e5, e8, hx, eq_true c1, eq_true c2, Option.some.injEq, forall_eq']))
  | (refine hK _ _ ?_; clear hK K; simp only [go_sem, simprocAttr])
  | refine gCd (by simp only [go_sem, simprocAttr]; rfl) rfl ?_
  | refine brT ?_ | refine brF ?_
  | (refine brS ?_ ?_ <;> intro hc <;> (try simp only [bls] at hc) <;> (try simp only [hc, bls]))
  | intro _ | refine And.intro ?_ ?_)
            all_goals first | omega | (unfold bigLen; omega) | exact ⟨_, _, ⟨rfl, rfl⟩, rfl⟩ | exact ⟨_, rfl⟩ | (rename_i hy; simp only [List.mem_singleton] at hy; subst hy; rfl) | with_reducible rfl | skip
            refine AGood.filt [] ?_
            simp only [sf_cons, sf_nil, go_sem, simprocAttr]
            refine AGood.prune [0, 2, 3] ?_; simp only [go_sem, simprocAttr]
            exact (ih (i + 1) ⟨by omega, hrun⟩ (by omega)).cast rfl rfl
          · simp only [c2, and_false, not_false_eq_true, decide_true, Bool.true_and, Bool.not_not] at hrun
            cases ct
            · simp only [Bool.false_and] at hrun
              subst hrun
              repeat' (first
  | refine gSq ?_ | refine gSk ?_ | refine gBl ?_ | refine gIb ?_ | refine gEx rfl ?_
  | ((first
  | (refine gRg [] [0, 2, 3, 4, 7, 11, 36] ?_; intro K hK)
  | refine cAl (hct) rfl rfl rfl ?_
  | (refine gd_split ?_ ?_ <;> intro hb <;> (try simp only [bls] at hb) <;> (try simp only [hb]))
  | refine gRt [] [.tmp 2] rfl ?_ | refine gDn [] [.tmp 2] rfl ?_) <;> (try simp only [go_sem, simprocAttr, e4, e5, e8, hx, eq_true c1, c2, Option.some.injEq, forall_eq']))
  | (refine hK _ _ ?_; clear hK K; simp only [go_sem, simprocAttr])
  | refine gCd (by simp only [go_sem, simprocAttr]; rfl) rfl ?_
  | refine brT ?_ | refine brF ?_
  | (refine brS ?_ ?_ <;> intro hc <;> (try simp only [bls] at hc) <;> (try simp only [hc, bls]))
  | intro _ | refine And.intro ?_ ?_)
              all_goals first | omega | (unfold bigLen; omega) | exact ⟨_, _, ⟨rfl, rfl⟩, rfl⟩ | exact ⟨_, rfl⟩ | (rename_i hy; simp only [List.mem_singleton] at hy; subst hy; rfl) | with_reducible rfl | skip
            · simp only [Bool.true_and] at hrun
              repeat' (first
  | refine gSq ?_ | refine gSk ?_ | refine gBl ?_ | refine gIb ?_ | refine gEx rfl ?_
  | ((first
  | (refine gRg [] [0, 2, 3, 4, 7, 11, 36] ?_; intro K hK)
  | refine cAl (hct) rfl rfl rfl ?_
  | (refine gd_split ?_ ?_ <;> intro hb <;> (try simp only [bls] at hb) <;> (try simp only [hb]))
  | refine gRt [] [.tmp 2] rfl ?_ | refine gDn [] [.tmp 2] rfl ?_) <;> (try simp only [go_sem, simprocAttr, e4, e5, e8, hx, eq_true c1, c2, Option.some.injEq, forall_eq']))
  | (refine hK _ _ ?_; clear hK K; simp only [go_sem, simprocAttr])
  | refine gCd (by simp only [go_sem, simprocAttr]; rfl) rfl ?_
  | refine brT ?_ | refine brF ?_
  | (refine brS ?_ ?_ <;> intro hc <;> (try simp only [bls] at hc) <;> (try simp only [hc, bls]))
  | intro _ | refine And.intro ?_ ?_)
              all_goals first | omega | (unfold bigLen; omega) | exact ⟨_, _, ⟨rfl, rfl⟩, rfl⟩ | exact ⟨_, rfl⟩ | (rename_i hy; simp only [List.mem_singleton] at hy; subst hy; rfl) | with_reducible rfl | skip
              refine AGood.filt [] ?_
              simp only [sf_cons, sf_nil, go_sem, simprocAttr]
              refine AGood.prune [0, 2, 3] ?_; simp only [go_sem, simprocAttr]
              exact (ih (i + 1) ⟨by omega, hrun⟩ (by omega)).cast rfl rfl
        · simp only [c1, false_and, not_false_eq_true, decide_true, Bool.true_and, Bool.not_not] at hrun
          cases ct
          · simp only [Bool.false_and] at hrun
            subst hrun
            repeat' (first
  | refine gSq ?_ | refine gSk ?_ | refine gBl ?_ | refine gIb ?_ | refine gEx rfl ?_
  | ((first
  | (refine gRg [] [0, 2, 3, 4, 7, 11, 36] ?_; intro K hK)
  | refine cAl (hct) rfl rfl rfl ?_
  | (refine gd_split ?_ ?_ <;> intro hb <;> (try simp only [bls] at hb) <;> (try simp only [hb]))
  | refine gRt [] [.tmp 2] rfl ?_ | refine gDn [] [.tmp 2] rfl ?_) <;> (try simp only [go_sem, simprocAttr, e4, e5, e8, hx, c1, Option.some.injEq, forall_eq']))
  | (refine hK _ _ ?_; clear hK K; simp only [go_sem, simprocAttr])
  | refine gCd (by simp only [go_sem, simprocAttr]; rfl) rfl ?_
  | refine brT ?_ | refine brF ?_
  | (refine brS ?_ ?_ <;> intro hc <;> (try simp only [bls] at hc) <;> (try simp only [hc, bls]))
  | intro _ | refine And.intro ?_ ?_)
            all_goals first | omega | (unfold bigLen; omega) | exact ⟨_, _, ⟨rfl, rfl⟩, rfl⟩ | exact ⟨_, rfl⟩ | (rename_i hy; simp only [List.mem_singleton] at hy; subst hy; rfl) | with_reducible rfl | skip
          · simp only [Bool.true_and] at hrun
            repeat' (first
  | refine gSq ?_ | refine gSk ?_ | refine gBl ?_ | refine gIb ?_ | refine gEx rfl ?_
  | ((first
  | (refine gRg [] [0, 2, 3, 4, 7, 11, 36] ?_; intro K hK)
  | refine cAl (hct) rfl rfl rfl ?_
  | (refine gd_split ?_ ?_ <;> intro hb <;> (try simp only [bls] at hb) <;> (try simp only [hb]))
  | refine gRt [] [.tmp 2] rfl ?_ | refine gDn [] [.tmp 2] rfl ?_) <;> (try simp only [go_sem, simprocAttr, e4, e5, e8, hx, c1, Option.some.injEq, forall_eq']))
  | (refine hK _ _ ?_; clear hK K; simp only [go_sem, simprocAttr])
  | refine gCd (by simp only [go_sem, simprocAttr]; rfl) rfl ?_
  | refine brT ?_ | refine brF ?_
  | (refine brS ?_ ?_ <;> intro hc <;> (try simp only [bls] at hc) <;> (try simp only [hc, bls]))
  | intro _ | refine And.intro ?_ ?_)
            all_goals first | omega | (unfold bigLen; omega) | exact ⟨_, _, ⟨rfl, rfl⟩, rfl⟩ | exact ⟨_, rfl⟩ | (rename_i hy; simp only [List.mem_singleton] at hy; subst hy; rfl) | with_reducible rfl | skip
            refine AGood.filt [] ?_
            simp only [sf_cons, sf_nil, go_sem, simprocAttr]
            refine AGood.prune [0, 2, 3] ?_; simp only [go_sem, simprocAttr]
            exact (ih (i + 1) ⟨by omega, hrun⟩ (by omega)).cast rfl rfl
      · have hbad : badB l n = false := by simp [badB, h5]
        rw [hbad] at hrun
        simp only [Bool.not_false, Bool.true_and] at hrun
        obtain ⟨xo, ⟨xa, xb, xc, xd⟩, xl, xlo, xhi, xn⟩ := n
        simp only at h5
        repeat' (first
  | refine gSq ?_ | refine gSk ?_ | refine gBl ?_ | refine gIb ?_ | refine gEx rfl ?_
  | ((first
  | (refine gRg [] [0, 2, 3, 4, 7, 11, 36] ?_; intro K hK)
  | (refine gd_split ?_ ?_ <;> intro hb <;> (try simp only [bls] at hb) <;> (try simp only [hb]))
  | refine gRt [] [.tmp 2] rfl ?_ | refine gDn [] [.tmp 2] rfl ?_) <;> (try simp only [go_sem, simprocAttr, e4, e5, e8, hx, h5, Option.some.injEq, forall_eq']))
  | (refine hK _ _ ?_; clear hK K; simp only [go_sem, simprocAttr])
  | refine gCd (by simp only [go_sem, simprocAttr]; rfl) rfl ?_
  | refine brT ?_ | refine brF ?_
  | (refine brS ?_ ?_ <;> intro hc <;> (try simp only [bls] at hc) <;> (try simp only [hc, bls]))
  | intro _ | refine And.intro ?_ ?_)
        all_goals first | omega | (unfold bigLen; omega) | exact ⟨_, _, ⟨rfl, rfl⟩, rfl⟩ | exact ⟨_, rfl⟩ | (rename_i hy; simp only [List.mem_singleton] at hy; subst hy; rfl) | with_reducible rfl | skip
        refine AGood.filt [] ?_
        simp only [sf_cons, sf_nil, go_sem, simprocAttr]
        refine AGood.prune [0, 2, 3] ?_; simp only [go_sem, simprocAttr]
        exact (ih (i + 1) ⟨by omega, hrun⟩ (by omega)).cast rfl rfl
    · have e4 : ¬ (i : Int) < l.length := by omega
      rw [List.drop_eq_nil_of_le (by omega)] at hrun
      simp only [List.all_nil] at hrun
      subst hrun
      clear ih
      repeat' (first
  | refine gSq ?_ | refine gSk ?_ | refine gBl ?_ | refine gIb ?_ | refine gEx rfl ?_
  | ((first
  | (refine gRg [] [0, 2, 3, 4, 7, 11, 36] ?_; intro K hK)
  | (refine gd_split ?_ ?_ <;> intro hb <;> (try simp only [bls] at hb) <;> (try simp only [hb]))
  | refine gRt [] [.tmp 2] rfl ?_ | refine gDn [] [.tmp 2] rfl ?_) <;> (try simp only [go_sem, simprocAttr, e4]))
  | (refine hK _ _ ?_; clear hK K; simp only [go_sem, simprocAttr])
  | refine gCd (by simp only [go_sem, simprocAttr]; rfl) rfl ?_
  | refine brT ?_ | refine brF ?_
  | (refine brS ?_ ?_ <;> intro hc <;> (try simp only [bls] at hc) <;> (try simp only [hc, bls]))
  | intro _ | refine And.intro ?_ ?_)
      all_goals first | omega | (unfold bigLen; omega) | exact ⟨_, _, ⟨rfl, rfl⟩, rfl⟩ | exact ⟨_, rfl⟩ | (rename_i hy; simp only [List.mem_singleton] at hy; subst hy; rfl) | with_reducible rfl | skip
def cntQ (n : Node) : Bool := decide (n.op = 5 ∧ n.hi ≠ -1)
end Go.Rad
/- What the document's reader of patterns does. -/
namespace Go.Rad
open Go
structure Rd where
  p : Nat
  nodes : List Node
  deep : Int
  e : Int
  wh : Int
  deriving DecidableEq
abbrev rsto (g g1 : Nat) (s : ByteArray) (r : Rd) : Sto := [(1000, (g, .box [.str s, .int .i64 r.p, .osl 1001 g1 0 r.nodes.length, .int .i64 r.deep, .int .i64 r.e, .int .i64 r.wh])), (1001, (g1, .row 9 (nodes r.nodes)))]
def endsB (s : ByteArray) (r : Rd) : Bool := decide (s.size ≤ r.p) || decide (r.e ≠ 0)
def failS (r : Rd) (e w : Int) : Rd := if r.e = 0 then { r with e := e, wh := w } else r
def Rd.next (r : Rd) (n : Nat) : Rd := { r with p := r.p + n }
def putR (r : Rd) (n : Node) : Rd := { r with nodes := r.nodes ++ [n] }
def inS (c : Nat) (l : ByteArray) : Bool := (List.range l.size).any fun i => decide (bt l i = c)
def specialS : ByteArray := ⟨#[124, 42, 43, 63, 123, 125, 40, 41, 91, 93, 46, 92, 47, 36, 94, 34]⟩
def markS : ByteArray := ⟨#[93, 45, 94]⟩
def hexS (c : Nat) : Int := if 48 ≤ c ∧ c ≤ 57 then (c : Int) - 48 else if 97 ≤ c ∧ c ≤ 102 then (c : Int) - 97 + 10 else -1
abbrev bI (s : ByteArray) (n : Nat) : Int := (bt s n : Int)
/-- A byte, or an escape. -/
def oneS (s : ByteArray) (r : Rd) : Rd × Int :=
  if bI s r.p ≠ 92 then (r.next 1, bI s r.p)
  else if endsB s (r.next 1) = true then (failS (r.next 1) 40 s.size, 0)
  else if bI s (r.p + 1) = 110 then (r.next 2, 10)
  else if bI s (r.p + 1) = 116 then (r.next 2, 9)
  else if bI s (r.p + 1) = 114 then (r.next 2, 13)
  else if bI s (r.p + 1) = 120 then
    if (s.size : Int) ≤ (r.p : Int) + 3 then (failS (r.next 2) 40 s.size, 0)
    else if 0 ≤ hexS (bt s (r.p + 2)) ∧ 0 ≤ hexS (bt s (r.p + 3)) then (r.next 4, IntKind.u8.wrap (16 * hexS (bt s (r.p + 2)) + hexS (bt s (r.p + 3))))
    else (failS (r.next 4) 43 r.p, 0)
  else if inS (bt s (r.p + 1)) specialS = true ∨ bI s (r.p + 1) = 45 then (r.next 2, bI s (r.p + 1))
  else (failS (r.next 2) 43 r.p, 0)
def memberS (s : ByteArray) (r : Rd) : Rd × Int :=
  if endsB s r = true then (failS r 40 s.size, 0)
  else if inS (bt s r.p) markS = true then (failS r 44 r.p, 0)
  else oneS s r
/-- A number of bounds, as far as there are digits. -/
def numLoop (s : ByteArray) : Nat → Rd → Int → Option (Rd × Int)
  | 0, _, _ => none
  | f + 1, r, n => if endsB s r = false ∧ digitN (bt s r.p) = true then numLoop s f (r.next 1) (min (n * 10 + (bI s r.p - 48)) 1000000) else some (r, n)

def nameLoop (s : ByteArray) : Nat → Rd → Option Rd
  | 0, _ => none
  | f + 1, r => if endsB s r = false ∧ bI s r.p ≠ 125 then nameLoop s f (r.next 1) else some r
/-- A name in braces. -/
def nameR (s : ByteArray) (f : Nat) (r : Rd) : Option (Rd × Int) :=
  match nameLoop s f (r.next 1) with
  | none => none
  | some q =>
    if 100000 < q.nodes.length then none
    else if endsB s q = true then some (failS q 40 s.size, 0)
    else if nameOk (s.extract (r.p + 1) q.p) = false then some (failS q 41 (r.p + 1 : Nat), 0)
    else some (putR (q.next 1) ⟨6, ISet.none, [], 0, 0, s.extract (r.p + 1) q.p⟩, q.nodes.length)
theorem nameLoop_facts {s : ByteArray} : ∀ {f : Nat} {r q : Rd}, nameLoop s f r = some q → q.nodes = r.nodes ∧ q.deep = r.deep ∧ q.e = r.e ∧ q.wh = r.wh ∧ r.p ≤ q.p
  | 0, _, _, h => by simp [nameLoop] at h
  | f + 1, r, q, h => by
    rw [nameLoop] at h
    split at h
    · obtain ⟨a, b, c, d, e⟩ := nameLoop_facts h
      simp only [Rd.next] at a b c d e
      exact ⟨a, b, c, d, by omega⟩
    · simp only [Option.some.injEq] at h
      subst h
      exact ⟨rfl, rfl, rfl, rfl, Nat.le_refl _⟩

theorem failS_facts (r : Rd) (e w : Int) : (failS r e w).p = r.p ∧ (failS r e w).nodes = r.nodes ∧ (failS r e w).deep = r.deep := by
  unfold failS; split <;> exact ⟨rfl, rfl, rfl⟩
theorem oneS_facts (s : ByteArray) (r : Rd) : r.p < (oneS s r).1.p ∧ (oneS s r).1.nodes = r.nodes ∧ (oneS s r).1.deep = r.deep ∧ 0 ≤ (oneS s r).2 ∧ (oneS s r).2 ≤ 255 := by
  have hb : ∀ n, 0 ≤ bI s n ∧ bI s n ≤ 255 := fun n => by have := bt_le s n; unfold bI; omega
  have hw : ∀ n, 0 ≤ IntKind.u8.wrap n ∧ IntKind.u8.wrap n ≤ 255 := by
    intro n; simp [IntKind.wrap, IntKind.signed, IntKind.bits]; omega
  unfold oneS
  repeat' split
  all_goals simp only [(failS_facts _ _ _).1, (failS_facts _ _ _).2.1, (failS_facts _ _ _).2.2, Rd.next, true_and]
  all_goals first
    | (refine ⟨by omega, ?_, ?_⟩ <;> first | omega | exact (hb _).1 | exact (hb _).2 | exact (hw _).1 | exact (hw _).2)
theorem memberS_facts (s : ByteArray) (r : Rd) : r.p ≤ (memberS s r).1.p ∧ (memberS s r).1.nodes = r.nodes ∧ (memberS s r).1.deep = r.deep ∧ 0 ≤ (memberS s r).2 ∧ (memberS s r).2 ≤ 255 := by
  unfold memberS
  split
  · simp only [(failS_facts _ _ _).1, (failS_facts _ _ _).2.1, (failS_facts _ _ _).2.2, true_and]; omega
  · split
    · simp only [(failS_facts _ _ _).1, (failS_facts _ _ _).2.1, (failS_facts _ _ _).2.2, true_and]; omega
    · have := oneS_facts s r
      exact ⟨by omega, this.2⟩

theorem ACall.part {P : Program} {f : Nat} {args args1 : List AVal} {sto sto1 : Sto} {v : AVal} (σ : Ids) (hσ : okIds σ = true) (h : ACall P f args1 sto1 fun r s => r = v ∧ s = sto1) (ha : args.map (tr σ [] sto) = args1) (hs1 : mkSto σ [] sto σ = sto1) (hc1 : stoCells sto1 = true) (hv : bk σ v = v) (hb : bkS σ sto1 (delAll σ sto) = sto) (hc : stoCells sto = true) :
    ACall P f args sto fun r s => r = v ∧ s = sto := by
  refine ACall.use σ [] hσ h ha hs1 hc1 fun r s hr => ?_
  obtain ⟨rfl, rfl⟩ := hr
  rw [hb]
  exact ⟨.inl rfl, hc, hv, rfl⟩
end Go.Rad
/- Contracts of the reader's small parts. -/
namespace Go.Rad
open Go Go.Proofs
set_option linter.all false
set_option maxRecDepth 20000
set_option maxHeartbeats 4000000

theorem in_no {c : Nat} {l : ByteArray} {i : Nat} (h : i < l.size) (hc : bt l i = c) : inS c l = true := by
  simp only [inS, List.any_eq_true, List.mem_range, decide_eq_true_eq]
  exact ⟨i, h, hc⟩
theorem in4uc (c : Nat) (l : ByteArray) (hl : l.size ≤ 1000000) : ACall Try.prog 103 [.int .u8 c, .str l] [] fun r s => r = .bool (inS c l) ∧ s = [] := by
  refine ACall.enter Try.func103 rfl (by kernel_rfl) (Nat.le_of_ble_eq_true rfl) ?_; simp only [initTm, Nat.reduceAdd]
  repeat' (first
  | refine gSq ?_ | refine gSk ?_ | refine gBl ?_ | refine gIb ?_ | refine gEx rfl ?_
  | ((first
  | (refine gRg [] [0, 1, 4, 5, 9, 16] ?_; intro K hK)
  | (refine gd_split ?_ ?_ <;> intro hb <;> (try simp only [bls] at hb) <;> (try simp only [hb]))
  | refine gRt [] [.tmp 4] rfl ?_ | refine gDn [] [.tmp 4] rfl ?_) <;> (try simp only [go_sem, simprocAttr]))
  | (refine hK _ _ ?_; clear hK K; simp only [go_sem, simprocAttr])
  | refine gCd (by simp only [go_sem, simprocAttr]; rfl) rfl ?_
  | refine brT ?_ | refine brF ?_
  | (refine brS ?_ ?_ <;> intro hc <;> (try simp only [bls] at hc) <;> (try simp only [hc, bls]))
  | intro _ | refine And.intro ?_ ?_)
  refine AGood.prune [0, 1, 4, 5] ?_; simp only [go_sem, simprocAttr]
  refine AGood.loopInv (α := Nat) (fun i => ([(0, .int .u8 c), (1, .str l), (4, .bool false), (5, .int .i64 i)], [])) (fun i => i ≤ l.size ∧ (List.range i).any (fun i => decide (bt l i = c)) = false) (fun i => l.size - i) 0 ⟨Nat.zero_le _, rfl⟩ rfl ?_
  rintro i ⟨hi, hall⟩ ih
  simp only
  by_cases hle : i < l.size
  · have e4 : (i : Int) < l.size := by omega
    have e5 : (0 : Int) ≤ i := by omega
    by_cases hc : bt l i = c
    · rw [in_no hle hc]
      have e6 : (bt l i : Int) = c := by omega
      repeat' (first
  | refine gSq ?_ | refine gSk ?_ | refine gBl ?_ | refine gIb ?_ | refine gEx rfl ?_
  | ((first
  | (refine gRg [] [0, 1, 4, 5, 9, 16] ?_; intro K hK)
  | (refine gd_split ?_ ?_ <;> intro hb <;> (try simp only [bls] at hb) <;> (try simp only [hb]))
  | refine gRt [] [.tmp 4] rfl ?_ | refine gDn [] [.tmp 4] rfl ?_) <;> (try simp only [go_sem, simprocAttr, e4, e5, e6, sbyte_bt]))
  | (refine hK _ _ ?_; clear hK K; simp only [go_sem, simprocAttr])
  | refine gCd (by simp only [go_sem, simprocAttr]; rfl) rfl ?_
  | refine brT ?_ | refine brF ?_
  | (refine brS ?_ ?_ <;> intro hc <;> (try simp only [bls] at hc) <;> (try simp only [hc, bls]))
  | intro _ | refine And.intro ?_ ?_)
    · have e6 : ¬ (bt l i : Int) = c := by omega
      repeat' (first
  | refine gSq ?_ | refine gSk ?_ | refine gBl ?_ | refine gIb ?_ | refine gEx rfl ?_
  | ((first
  | (refine gRg [] [0, 1, 4, 5, 9, 16] ?_; intro K hK)
  | (refine gd_split ?_ ?_ <;> intro hb <;> (try simp only [bls] at hb) <;> (try simp only [hb]))
  | refine gRt [] [.tmp 4] rfl ?_ | refine gDn [] [.tmp 4] rfl ?_) <;> (try simp only [go_sem, simprocAttr, e4, e5, e6, sbyte_bt]))
  | (refine hK _ _ ?_; clear hK K; simp only [go_sem, simprocAttr])
  | refine gCd (by simp only [go_sem, simprocAttr]; rfl) rfl ?_
  | refine brT ?_ | refine brF ?_
  | (refine brS ?_ ?_ <;> intro hc <;> (try simp only [bls] at hc) <;> (try simp only [hc, bls]))
  | intro _ | refine And.intro ?_ ?_)
      all_goals first | omega | (unfold bigLen; omega) | exact ⟨_, _, ⟨rfl, rfl⟩, rfl⟩ | exact ⟨_, rfl⟩ | (rename_i hy; simp only [List.mem_singleton] at hy; subst hy; rfl) | with_reducible rfl | skip
      refine AGood.prune [0, 1, 4, 5] ?_; simp only [go_sem, simprocAttr]
      exact (ih (i + 1) ⟨by omega, by rw [List.range_succ, List.any_append, hall]; simp [hc]⟩ (by omega)).cast rfl rfl
  · have e4 : ¬ (i : Int) < l.size := by omega
    have e5 : i = l.size := by omega
    subst e5
    repeat' (first
  | refine gSq ?_ | refine gSk ?_ | refine gBl ?_ | refine gIb ?_ | refine gEx rfl ?_
  | ((first
  | (refine gRg [] [0, 1, 4, 5, 9, 16] ?_; intro K hK)
  | (refine gd_split ?_ ?_ <;> intro hb <;> (try simp only [bls] at hb) <;> (try simp only [hb]))
  | refine gRt [] [.tmp 4] rfl ?_ | refine gDn [] [.tmp 4] rfl ?_) <;> (try simp only [go_sem, simprocAttr, e4]))
  | (refine hK _ _ ?_; clear hK K; simp only [go_sem, simprocAttr])
  | refine gCd (by simp only [go_sem, simprocAttr]; rfl) rfl ?_
  | refine brT ?_ | refine brF ?_
  | (refine brS ?_ ?_ <;> intro hc <;> (try simp only [bls] at hc) <;> (try simp only [hc, bls]))
  | intro _ | refine And.intro ?_ ?_)
    exact congrArg AVal.bool hall.symm
theorem special4uc : ACall Try.prog 104 [] [] fun r s => r = .str specialS ∧ s = [] := by
  refine ACall.enter Try.func104 rfl (by kernel_rfl) (Nat.le_of_ble_eq_true rfl) ?_; simp only [initTm, Nat.reduceAdd]
  repeat' (first
  | refine gSq ?_ | refine gSk ?_ | refine gBl ?_ | refine gIb ?_ | refine gEx rfl ?_
  | ((first
  | (refine gRg [] [0] ?_; intro K hK)
  | (refine gd_split ?_ ?_ <;> intro hb <;> (try simp only [bls] at hb) <;> (try simp only [hb]))
  | refine gRt [] [.tmp 0] rfl ?_ | refine gDn [] [.tmp 0] rfl ?_) <;> (try simp only [go_sem, simprocAttr]))
  | (refine hK _ _ ?_; clear hK K; simp only [go_sem, simprocAttr])
  | refine gCd (by simp only [go_sem, simprocAttr]; rfl) rfl ?_
  | refine brT ?_ | refine brF ?_
  | (refine brS ?_ ?_ <;> intro hc <;> (try simp only [bls] at hc) <;> (try simp only [hc, bls]))
  | intro _ | refine And.intro ?_ ?_)
  rfl
end Go.Rad
