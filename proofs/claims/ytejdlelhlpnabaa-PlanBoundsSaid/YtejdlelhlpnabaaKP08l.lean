/- Contracts: the document's plan: Tree, Right, Counted. -/
import Derived.Test.YtejdlelhlpnabaaKP08j
import Derived.Test.YtejdlelhlpnabaaKC04c
import Derived.Test.YtejdlelhlpnabaaKP08f
set_option linter.all false
namespace Go.Rad
open Go Go.Proofs
set_option linter.all false
set_option maxRecDepth 20000
set_option maxHeartbeats 4000000

theorem rtree_c (f : Bool) (l : List Node) (most : Int) (hlen : l.length ≤ maxLen) (hl : ∀ n ∈ l, n.l.length ≤ maxLen ∧ n.name.size ≤ maxLen)
    (hout : plainS l = true → (1 ≤ most ∧ most ≤ 4096) → (planR l most l.length ((l.length : Int) - 1) ([], false)).1.2 = false → ∀ n ∈ (planR l most l.length ((l.length : Int) - 1) ([], false)).1.1, n.l.length ≤ maxLen ∧ n.name.size ≤ maxLen) :
    ACall Try.prog 28 [.sl true f (nodes l), .int .i64 most] [] fun r s => r = .tup [.sl true (flS (ref8S l most).2) (nodes (ref8S l most).1), .int .i64 (ref8S l most).2] ∧ s = [] := by
  have hp := plain_c f l hlen hl
  unfold ref8S
  cases h3 : plainS l
  · rw [if_pos (.inl rfl)]
    rw [h3] at hp
    refine ACall.enter Try.func28 rfl (by kernel_rfl) (Nat.le_of_ble_eq_true rfl) ?_; simp only [initTm, Nat.reduceAdd]
    repeat' (first
  | refine gSq ?_ | refine gSk ?_ | refine gBl ?_ | refine gIb ?_ | refine gEx rfl ?_
  | ((first
  | (refine gRg [] [0, 1, 4, 5, 6, 17, 38] ?_; intro K hK)
  | refine cAl (hp) rfl rfl rfl ?_
  | (refine gd_split ?_ ?_ <;> intro hb <;> (try simp only [bls] at hb) <;> (try simp only [hb]))
  | refine gRt [] [.tmp 4, .tmp 5] rfl ?_ | refine gDn [] [.tmp 4, .tmp 5] rfl ?_) <;> (try simp only [go_sem, simprocAttr]))
  | (refine hK _ _ ?_; clear hK K; simp only [go_sem, simprocAttr])
  | refine gCd (by simp only [go_sem, simprocAttr]; rfl) rfl ?_
  | refine brT ?_ | refine brF ?_
  | (refine brS ?_ ?_ <;> intro hc <;> (try simp only [bls] at hc) <;> (try simp only [hc, bls]))
  | intro _ | refine And.intro ?_ ?_)
    all_goals first | omega | (simp only [flS_0, flS_1, flS_3]; done) | first | omega | (unfold bigLen; omega) | exact ⟨_, _, ⟨rfl, rfl⟩, rfl⟩ | exact ⟨_, rfl⟩ | (rename_i hy; simp only [List.mem_singleton] at hy; subst hy; rfl) | with_reducible rfl | skip
  · rw [h3] at hp
    by_cases c1 : most < 1
    · rw [if_pos (.inr (.inl c1))]
      refine ACall.enter Try.func28 rfl (by kernel_rfl) (Nat.le_of_ble_eq_true rfl) ?_; simp only [initTm, Nat.reduceAdd]
      repeat' (first
  | refine gSq ?_ | refine gSk ?_ | refine gBl ?_ | refine gIb ?_ | refine gEx rfl ?_
  | ((first
  | (refine gRg [] [0, 1, 4, 5, 6, 17, 38] ?_; intro K hK)
  | refine cAl (hp) rfl rfl rfl ?_
  | (refine gd_split ?_ ?_ <;> intro hb <;> (try simp only [bls] at hb) <;> (try simp only [hb]))
  | refine gRt [] [.tmp 4, .tmp 5] rfl ?_ | refine gDn [] [.tmp 4, .tmp 5] rfl ?_) <;> (try simp only [go_sem, simprocAttr, c1]))
  | (refine hK _ _ ?_; clear hK K; simp only [go_sem, simprocAttr])
  | refine gCd (by simp only [go_sem, simprocAttr]; rfl) rfl ?_
  | refine brT ?_ | refine brF ?_
  | (refine brS ?_ ?_ <;> intro hc <;> (try simp only [bls] at hc) <;> (try simp only [hc, bls]))
  | intro _ | refine And.intro ?_ ?_)
      all_goals first | omega | (simp only [flS_0, flS_1, flS_3]; done) | first | omega | (unfold bigLen; omega) | exact ⟨_, _, ⟨rfl, rfl⟩, rfl⟩ | exact ⟨_, rfl⟩ | (rename_i hy; simp only [List.mem_singleton] at hy; subst hy; rfl) | with_reducible rfl | skip
    · by_cases c2 : 4096 < most
      · rw [if_pos (.inr (.inr c2))]
        refine ACall.enter Try.func28 rfl (by kernel_rfl) (Nat.le_of_ble_eq_true rfl) ?_; simp only [initTm, Nat.reduceAdd]
        repeat' (first
  | refine gSq ?_ | refine gSk ?_ | refine gBl ?_ | refine gIb ?_ | refine gEx rfl ?_
  | ((first
  | (refine gRg [] [0, 1, 4, 5, 6, 17, 38] ?_; intro K hK)
  | refine cAl (hp) rfl rfl rfl ?_
  | (refine gd_split ?_ ?_ <;> intro hb <;> (try simp only [bls] at hb) <;> (try simp only [hb]))
  | refine gRt [] [.tmp 4, .tmp 5] rfl ?_ | refine gDn [] [.tmp 4, .tmp 5] rfl ?_) <;> (try simp only [go_sem, simprocAttr, c1, c2]))
  | (refine hK _ _ ?_; clear hK K; simp only [go_sem, simprocAttr])
  | refine gCd (by simp only [go_sem, simprocAttr]; rfl) rfl ?_
  | refine brT ?_ | refine brF ?_
  | (refine brS ?_ ?_ <;> intro hc <;> (try simp only [bls] at hc) <;> (try simp only [hc, bls]))
  | intro _ | refine And.intro ?_ ?_)
        all_goals first | omega | (simp only [flS_0, flS_1, flS_3]; done) | first | omega | (unfold bigLen; omega) | exact ⟨_, _, ⟨rfl, rfl⟩, rfl⟩ | exact ⟨_, rfl⟩ | (rename_i hy; simp only [List.mem_singleton] at hy; subst hy; rfl) | with_reducible rfl | skip
      · rw [if_neg (by simp [c1, c2])]
        have hok := plain_plOk h3
        have hpos : 1 ≤ l.length := by
          simp only [plainS, Bool.and_eq_true] at h3
          have hr := h3.2
          rw [← right_eq] at hr
          exact (rightS_kids hr).2.2.1
        have hout := hout h3 (by omega)
        obtain ⟨m, hm⟩ : ∃ m, l.length = m + 1 := ⟨l.length - 1, by omega⟩
        have em : (l.length : Int) - 1 = (m : Nat) := by omega
        rw [em] at hout ⊢
        have hl1 := hok.1
        have hc := fun g g1 => rplan_c (q := true) (f := f) (most := most) hok l.length m (by omega) (by omega) g g1 ([], false) (Nat.zero_le _)
        have hln := planR_len l most l.length m ([], false) (Nat.zero_le _)
        generalize planR l most l.length m ([], false) = a at hc hln hout
        obtain ⟨⟨o, lg⟩, v⟩ := a
        simp only at hln hout ⊢
        simp only [qsto, qbx, RPost] at hc
        have e15 : (nodes o).take o.length = nodes o := List.take_of_length_le (by simp)
        cases lg
        · have hr4 := right4uc true false o (hout rfl)
          cases hr : right4 o
          · rw [hr] at hr4
            simp only [Bool.false_eq_true, false_or, if_true]
            refine ACall.enter Try.func28 rfl (by kernel_rfl) (Nat.le_of_ble_eq_true rfl) ?_; simp only [initTm, Nat.reduceAdd]
            repeat' (first
  | refine gSq ?_ | refine gSk ?_ | refine gBl ?_ | refine gIb ?_ | refine gEx rfl ?_
  | ((first
  | (refine AGood.at 4 ?_; (refine AGood.ownBox 21 2 901 9 (by decide) rfl rfl (by decide) fun g9 => ?_; simp only [List.set_cons_succ, List.set_cons_zero, go_sem, simprocAttr]); (refine gRg [] [0, 1, 4, 5, 6, 17, 38] ?_; intro K hK))
  | (refine AGood.at 5 ?_; (refine AGood.freeze 901 rfl ?_; simp only [rfT, rfS, rfO, rf, rf1, e15, true_and, go_sem, simprocAttr]); (refine gRg [] [0, 1, 4, 5, 6, 17, 38] ?_; intro K hK))
  | (refine gRg [] [0, 1, 4, 5, 6, 17, 38] ?_; intro K hK)
  | refine cAl (hp) rfl rfl rfl ?_
  | refine cAl (hr4) rfl rfl rfl ?_
  | (refine ACall.use [(1000, 21), (1001, 901)] [] rfl (hc _ _) rfl rfl rfl ?_; rintro _ _ ⟨rfl, h1, rfl⟩; refine ⟨.inl rfl, rfl, ?_⟩; simp only [bk, bk1, bkS, bkO, idOf, delAll, go_sem, simprocAttr])
  | (refine gd_split ?_ ?_ <;> intro hb <;> (try simp only [bls] at hb) <;> (try simp only [hb]))
  | refine gRt [] [.tmp 4, .tmp 5] rfl ?_ | refine gDn [] [.tmp 4, .tmp 5] rfl ?_) <;> (try simp only [go_sem, simprocAttr, c1, c2, em]))
  | (refine hK _ _ ?_; clear hK K; simp only [go_sem, simprocAttr])
  | refine gCd (by simp only [go_sem, simprocAttr]; rfl) rfl ?_
  | refine brT ?_ | refine brF ?_
  | (refine brS ?_ ?_ <;> intro hc <;> (try simp only [bls] at hc) <;> (try simp only [hc, bls]))
  | intro _ | refine And.intro ?_ ?_)
            all_goals first | omega | (simp only [flS_0, flS_1, flS_3]; done) | first | omega | (unfold bigLen; omega) | exact ⟨_, _, ⟨rfl, rfl⟩, rfl⟩ | exact ⟨_, rfl⟩ | (rename_i hy; simp only [List.mem_singleton] at hy; subst hy; rfl) | with_reducible rfl | skip
          · rw [hr] at hr4
            simp only [Bool.false_eq_true, Bool.true_eq_false, or_false, if_false]
            refine ACall.enter Try.func28 rfl (by kernel_rfl) (Nat.le_of_ble_eq_true rfl) ?_; simp only [initTm, Nat.reduceAdd]
            repeat' (first
  | refine gSq ?_ | refine gSk ?_ | refine gBl ?_ | refine gIb ?_ | refine gEx rfl ?_
  | ((first
  | (refine AGood.at 4 ?_; (refine AGood.ownBox 21 2 901 9 (by decide) rfl rfl (by decide) fun g9 => ?_; simp only [List.set_cons_succ, List.set_cons_zero, go_sem, simprocAttr]); (refine gRg [] [0, 1, 4, 5, 6, 17, 38] ?_; intro K hK))
  | (refine AGood.at 5 ?_; (refine AGood.freeze 901 rfl ?_; simp only [rfT, rfS, rfO, rf, rf1, e15, true_and, go_sem, simprocAttr]); (refine gRg [] [0, 1, 4, 5, 6, 17, 38] ?_; intro K hK))
  | (refine gRg [] [0, 1, 4, 5, 6, 17, 38] ?_; intro K hK)
  | refine cAl (hp) rfl rfl rfl ?_
  | refine cAl (hr4) rfl rfl rfl ?_
  | (refine ACall.use [(1000, 21), (1001, 901)] [] rfl (hc _ _) rfl rfl rfl ?_; rintro _ _ ⟨rfl, h1, rfl⟩; refine ⟨.inl rfl, rfl, ?_⟩; simp only [bk, bk1, bkS, bkO, idOf, delAll, go_sem, simprocAttr])
  | (refine gd_split ?_ ?_ <;> intro hb <;> (try simp only [bls] at hb) <;> (try simp only [hb]))
  | refine gRt [] [.tmp 4, .tmp 5] rfl ?_ | refine gDn [] [.tmp 4, .tmp 5] rfl ?_) <;> (try simp only [go_sem, simprocAttr, c1, c2, em]))
  | (refine hK _ _ ?_; clear hK K; simp only [go_sem, simprocAttr])
  | refine gCd (by simp only [go_sem, simprocAttr]; rfl) rfl ?_
  | refine brT ?_ | refine brF ?_
  | (refine brS ?_ ?_ <;> intro hc <;> (try simp only [bls] at hc) <;> (try simp only [hc, bls]))
  | intro _ | refine And.intro ?_ ?_)
            all_goals first | omega | (simp only [flS_0, flS_1, flS_3]; done) | first | omega | (unfold bigLen; omega) | exact ⟨_, _, ⟨rfl, rfl⟩, rfl⟩ | exact ⟨_, rfl⟩ | (rename_i hy; simp only [List.mem_singleton] at hy; subst hy; rfl) | with_reducible rfl | skip
        · simp only [true_or, if_true]
          refine ACall.enter Try.func28 rfl (by kernel_rfl) (Nat.le_of_ble_eq_true rfl) ?_; simp only [initTm, Nat.reduceAdd]
          repeat' (first
  | refine gSq ?_ | refine gSk ?_ | refine gBl ?_ | refine gIb ?_ | refine gEx rfl ?_
  | ((first
  | (refine AGood.at 4 ?_; (refine AGood.ownBox 21 2 901 9 (by decide) rfl rfl (by decide) fun g9 => ?_; simp only [List.set_cons_succ, List.set_cons_zero, go_sem, simprocAttr]); (refine gRg [] [0, 1, 4, 5, 6, 17, 38] ?_; intro K hK))
  | (refine AGood.at 5 ?_; (refine AGood.freeze 901 rfl ?_; simp only [rfT, rfS, rfO, rf, rf1, e15, true_and, go_sem, simprocAttr]); (refine gRg [] [0, 1, 4, 5, 6, 17, 38] ?_; intro K hK))
  | (refine gRg [] [0, 1, 4, 5, 6, 17, 38] ?_; intro K hK)
  | refine cAl (hp) rfl rfl rfl ?_
  | (refine ACall.use [(1000, 21), (1001, 901)] [] rfl (hc _ _) rfl rfl rfl ?_; rintro _ _ ⟨rfl, h1, rfl⟩; refine ⟨.inl rfl, rfl, ?_⟩; simp only [bk, bk1, bkS, bkO, idOf, delAll, go_sem, simprocAttr])
  | (refine gd_split ?_ ?_ <;> intro hb <;> (try simp only [bls] at hb) <;> (try simp only [hb]))
  | refine gRt [] [.tmp 4, .tmp 5] rfl ?_ | refine gDn [] [.tmp 4, .tmp 5] rfl ?_) <;> (try simp only [go_sem, simprocAttr, c1, c2, em]))
  | (refine hK _ _ ?_; clear hK K; simp only [go_sem, simprocAttr])
  | refine gCd (by simp only [go_sem, simprocAttr]; rfl) rfl ?_
  | refine brT ?_ | refine brF ?_
  | (refine brS ?_ ?_ <;> intro hc <;> (try simp only [bls] at hc) <;> (try simp only [hc, bls]))
  | intro _ | refine And.intro ?_ ?_)
          all_goals first | omega | (simp only [flS_0, flS_1, flS_3]; done) | first | omega | (unfold bigLen; omega) | exact ⟨_, _, ⟨rfl, rfl⟩, rfl⟩ | exact ⟨_, rfl⟩ | (rename_i hy; simp only [List.mem_singleton] at hy; subst hy; rfl) | with_reducible rfl | skip
theorem rcounted_c (q f : Bool) (l : List Node) (hll : l.length ≤ 1000000) (n m : Node) (kid : Nat) (hn : n.l = [(kid : Int)]) (hm : l[kid]? = some m) : ACall Try.prog 43 [.sl q f (nodes l), .agg n.cells] [] fun r s => r = .bool (decide (m.op = 2 ∧ 1 ≤ n.lo ∧ 2 ≤ n.hi)) ∧ s = [] := by
  obtain ⟨xo, ⟨xa, xb, xc, xd⟩, xl, xlo, xhi, xn⟩ := n
  simp only at hn
  have hx0 : xl[0]? = some (kid : Int) := by rw [hn]; rfl
  have e0 : (0 : Int) < xl.length := by rw [hn]; exact Int.one_pos
  clear hn
  have hkl := (List.getElem?_eq_some_iff.1 hm).1
  have e1 : (kid : Int) < l.length := by omega
  have e2 : (0 : Int) ≤ kid := by omega
  obtain ⟨mo, ⟨ma, mb, mc, md⟩, ml, mlo, mhi, mn⟩ := m
  simp only [Node.cells, Node.cellsF]
  by_cases c1 : mo = 2
  · by_cases c2 : 1 ≤ xlo
    · subst c1
      refine ACall.enter Try.func43 rfl (by kernel_rfl) (Nat.le_of_ble_eq_true rfl) ?_; simp only [initTm, Nat.reduceAdd]
      repeat' (first
  | refine gSq ?_ | refine gSk ?_ | refine gBl ?_ | refine gIb ?_ | refine gEx rfl ?_
  | ((first
  | (refine gRg [] [0, 1, 3, 4] ?_; intro K hK)
  | (refine gd_split ?_ ?_ <;> intro hb <;> (try simp only [bls] at hb) <;> (try simp only [hb]))
  | refine gRt [] [.tmp 4] rfl ?_ | refine gDn [] [.tmp 4] rfl ?_) <;> (try simp only [go_sem, simprocAttr, hx0, e0, e1, e2, hm, c2, Option.some.injEq, forall_eq']))
  | (refine hK _ _ ?_; clear hK K; simp only [go_sem, simprocAttr])
  | refine gCd (by simp only [go_sem, simprocAttr]; rfl) rfl ?_
  | refine brT ?_ | refine brF ?_
  | (refine brS ?_ ?_ <;> intro hc <;> (try simp only [bls] at hc) <;> (try simp only [hc, bls]))
  | intro _ | refine And.intro ?_ ?_)
      all_goals first | omega | (unfold bigLen; omega) | exact ⟨_, _, ⟨rfl, rfl⟩, rfl⟩ | exact ⟨_, rfl⟩ | (rename_i hy; simp only [List.mem_singleton] at hy; subst hy; rfl) | with_reducible rfl | skip
    · rw [decide_eq_false (fun h => c2 h.2.1)]
      subst c1
      refine ACall.enter Try.func43 rfl (by kernel_rfl) (Nat.le_of_ble_eq_true rfl) ?_; simp only [initTm, Nat.reduceAdd]
      repeat' (first
  | refine gSq ?_ | refine gSk ?_ | refine gBl ?_ | refine gIb ?_ | refine gEx rfl ?_
  | ((first
  | (refine gRg [] [0, 1, 3, 4] ?_; intro K hK)
  | (refine gd_split ?_ ?_ <;> intro hb <;> (try simp only [bls] at hb) <;> (try simp only [hb]))
  | refine gRt [] [.tmp 4] rfl ?_ | refine gDn [] [.tmp 4] rfl ?_) <;> (try simp only [go_sem, simprocAttr, hx0, e0, e1, e2, hm, c2, Option.some.injEq, forall_eq']))
  | (refine hK _ _ ?_; clear hK K; simp only [go_sem, simprocAttr])
  | refine gCd (by simp only [go_sem, simprocAttr]; rfl) rfl ?_
  | refine brT ?_ | refine brF ?_
  | (refine brS ?_ ?_ <;> intro hc <;> (try simp only [bls] at hc) <;> (try simp only [hc, bls]))
  | intro _ | refine And.intro ?_ ?_)
      all_goals first | omega | (unfold bigLen; omega) | exact ⟨_, _, ⟨rfl, rfl⟩, rfl⟩ | exact ⟨_, rfl⟩ | (rename_i hy; simp only [List.mem_singleton] at hy; subst hy; rfl) | with_reducible rfl | skip
  · rw [decide_eq_false (fun h => c1 h.1)]
    refine ACall.enter Try.func43 rfl (by kernel_rfl) (Nat.le_of_ble_eq_true rfl) ?_; simp only [initTm, Nat.reduceAdd]
    repeat' (first
  | refine gSq ?_ | refine gSk ?_ | refine gBl ?_ | refine gIb ?_ | refine gEx rfl ?_
  | ((first
  | (refine gRg [] [0, 1, 3, 4] ?_; intro K hK)
  | (refine gd_split ?_ ?_ <;> intro hb <;> (try simp only [bls] at hb) <;> (try simp only [hb]))
  | refine gRt [] [.tmp 4] rfl ?_ | refine gDn [] [.tmp 4] rfl ?_) <;> (try simp only [go_sem, simprocAttr, hx0, e0, e1, e2, hm, c1, Option.some.injEq, forall_eq']))
  | (refine hK _ _ ?_; clear hK K; simp only [go_sem, simprocAttr])
  | refine gCd (by simp only [go_sem, simprocAttr]; rfl) rfl ?_
  | refine brT ?_ | refine brF ?_
  | (refine brS ?_ ?_ <;> intro hc <;> (try simp only [bls] at hc) <;> (try simp only [hc, bls]))
  | intro _ | refine And.intro ?_ ?_)
    all_goals first | omega | (unfold bigLen; omega) | exact ⟨_, _, ⟨rfl, rfl⟩, rfl⟩ | exact ⟨_, rfl⟩ | (rename_i hy; simp only [List.mem_singleton] at hy; subst hy; rfl) | with_reducible rfl | skip
theorem rright_c (f : Bool) (l : List Node) (hlen : l.length ≤ maxLen) (hl : ∀ n ∈ l, n.l.length ≤ maxLen ∧ n.name.size ≤ maxLen) : ACall Try.prog 27 [.sl true f (nodes l)] [] fun r s => r = .bool (rightP l) ∧ s = [] := by
  have hp := plain_c f l hlen hl
  obtain ⟨S, hS⟩ : ∃ S, S = rightP l := ⟨_, rfl⟩
  rw [← hS]
  rw [rightP] at hS
  cases h3 : plainS l
  · rw [h3] at hp hS
    simp only [Bool.false_and] at hS
    subst hS
    refine ACall.enter Try.func27 rfl (by kernel_rfl) (Nat.le_of_ble_eq_true rfl) ?_; simp only [initTm, Nat.reduceAdd]
    repeat' (first
  | refine gSq ?_ | refine gSk ?_ | refine gBl ?_ | refine gIb ?_ | refine gEx rfl ?_
  | ((first
  | (refine gRg [] [0, 2, 3, 4, 7, 11, 36] ?_; intro K hK)
  | refine cAl (hp) rfl rfl rfl ?_
  | (refine gd_split ?_ ?_ <;> intro hb <;> (try simp only [bls] at hb) <;> (try simp only [hb]))
  | refine gRt [] [.tmp 2] rfl ?_ | refine gDn [] [.tmp 2] rfl ?_) <;> (try simp only [go_sem, simprocAttr]))
  | (refine hK _ _ ?_; clear hK K; simp only [go_sem, simprocAttr])
  | refine gCd (by simp only [go_sem, simprocAttr]; rfl) rfl ?_
  | refine brT ?_ | refine brF ?_
  | (refine brS ?_ ?_ <;> intro hc <;> (try simp only [bls] at hc) <;> (try simp only [hc, bls]))
  | intro _ | refine And.intro ?_ ?_)
    all_goals first | omega | (unfold bigLen; omega) | exact ⟨_, _, ⟨rfl, rfl⟩, rfl⟩ | exact ⟨_, rfl⟩ | (rename_i hy; simp only [List.mem_singleton] at hy; subst hy; rfl) | with_reducible rfl | skip
  · rw [h3] at hp hS
    simp only [Bool.true_and] at hS
    have hok := plain_plOk h3
    clear h3
    refine ACall.enter Try.func27 rfl (by kernel_rfl) (Nat.le_of_ble_eq_true rfl) ?_; simp only [initTm, Nat.reduceAdd]
    repeat' (first
  | refine gSq ?_ | refine gSk ?_ | refine gBl ?_ | refine gIb ?_ | refine gEx rfl ?_
  | ((first
  | (refine gRg [] [0, 2, 3, 4, 7, 11, 36] ?_; intro K hK)
  | refine cAl (hp) rfl rfl rfl ?_
  | (refine gd_split ?_ ?_ <;> intro hb <;> (try simp only [bls] at hb) <;> (try simp only [hb]))
  | refine gRt [] [.tmp 2] rfl ?_ | refine gDn [] [.tmp 2] rfl ?_) <;> (try simp only [go_sem, simprocAttr]))
  | (refine hK _ _ ?_; clear hK K; simp only [go_sem, simprocAttr])
  | refine gCd (by simp only [go_sem, simprocAttr]; rfl) rfl ?_
  | refine brT ?_ | refine brF ?_
  | (refine brS ?_ ?_ <;> intro hc <;> (try simp only [bls] at hc) <;> (try simp only [hc, bls]))
  | intro _ | refine And.intro ?_ ?_)
    all_goals first | omega | (unfold bigLen; omega) | exact ⟨_, _, ⟨rfl, rfl⟩, rfl⟩ | exact ⟨_, rfl⟩ | (rename_i hy; simp only [List.mem_singleton] at hy; subst hy; rfl) | with_reducible rfl | skip
    refine AGood.prune [0, 2, 3] ?_; simp only [go_sem, simprocAttr]
    refine AGood.loopInv (α := Nat) (fun x => ([(0, .sl true f (nodes l)), (2, .bool false), (3, .int .i64 x)], []))
      (fun x => x ≤ l.length ∧ S = (l.drop x).all fun n => !badB l n) (fun x => l.length - x) 0 ⟨Nat.zero_le _, hS⟩ rfl ?_
    rintro i ⟨hi, hrun⟩ ih
    simp only at hi hrun ih ⊢
    have hl1 := hok.1
    by_cases hle : i < l.length
    · have e4 : (i : Int) < l.length := by omega
      have e5 : (0 : Int) ≤ i := by omega
      have e8 : (i : Int) + 1 = ((i + 1 : Nat) : Int) := by omega
      have hx : l[i]? = some l[i] := List.getElem?_eq_getElem hle
      have hdr : l.drop i = l[i] :: l.drop (i + 1) := List.drop_eq_getElem_cons hle
      have hm := hok.2 i _ hx
      rw [hdr, List.all_cons] at hrun
      generalize l[i] = n at hx hrun hm
      obtain ⟨m1, m2, m3, m4, m5, m6⟩ := hm
      by_cases h5 : n.op = 5
      · obtain ⟨kd, hkd⟩ : ∃ kd, n.l = [kd] := List.length_eq_one_iff.1 (m3 h5)
        have hk1 := m2 kd (by simp [hkd])
        obtain ⟨kid, rfl⟩ : ∃ kid : Nat, kd = kid := ⟨kd.toNat, by omega⟩
        have hm : l[kid]? = some (l[kid]'(by omega)) := List.getElem?_eq_getElem (by omega)
        generalize l[kid]'(by omega) = m at hm
        have hct := rcounted_c true f l (by omega) n m kid hkd hm
        have hbad : badB l n = (decide (¬ (n.lo = 0 ∧ n.hi = -1)) && !decide (m.op = 2 ∧ 1 ≤ n.lo ∧ 2 ≤ n.hi)) := by
          simp only [badB, h5, kid0, hkd, List.headD_cons, nAt_get hm, true_and]
          rw [Bool.eq_iff_iff]
          simp only [decide_eq_true_eq, Bool.and_eq_true, Bool.not_eq_true', decide_eq_false_iff_not]
          omega
        rw [hbad] at hrun
        generalize decide (m.op = 2 ∧ 1 ≤ n.lo ∧ 2 ≤ n.hi) = ct at hct hrun
        obtain ⟨xo, ⟨xa, xb, xc, xd⟩, xl, xlo, xhi, xn⟩ := n
        simp only [Node.cells, Node.cellsF] at h5 hrun hct
        subst h5
        clear hkd hbad
        by_cases c1 : xlo = 0
        · by_cases c2 : xhi = -1
          · simp only [c1, c2, and_self, not_true_eq_false, decide_false, Bool.false_and, Bool.not_false, Bool.true_and] at hrun
            repeat' (first
  | refine gSq ?_ | refine gSk ?_ | refine gBl ?_ | refine gIb ?_ | refine gEx rfl ?_
  | ((first
  | (refine gRg [] [0, 2, 3, 4, 7, 11, 36] ?_; intro K hK)
  | (refine gd_split ?_ ?_ <;> intro hb <;> (try simp only [bls] at hb) <;> (try simp only [hb]))
  | refine gRt [] [.tmp 2] rfl ?_ | refine gDn [] [.tmp 2] rfl ?_) <;> (try simp only [go_sem, simprocAttr, e4, e5, e8, hx, eq_true c1, eq_true c2, Option.some.injEq, forall_eq']))
  | (refine hK _ _ ?_; clear hK K; simp only [go_sem, simprocAttr])
  | refine gCd (by simp only [go_sem, simprocAttr]; rfl) rfl ?_
  | refine brT ?_ | refine brF ?_
  | (refine brS ?_ ?_ <;> intro hc <;> (try simp only [bls] at hc) <;> (try simp only [hc, bls]))
  | intro _ | refine And.intro ?_ ?_)
            all_goals first | omega | (unfold bigLen; omega) | exact ⟨_, _, ⟨rfl, rfl⟩, rfl⟩ | exact ⟨_, rfl⟩ | (rename_i hy; simp only [List.mem_singleton] at hy; subst hy; rfl) | with_reducible rfl | skip
            refine AGood.filt [] ?_
            simp only [sf_cons, sf_nil, go_sem, simprocAttr]
            refine AGood.prune [0, 2, 3] ?_; simp only [go_sem, simprocAttr]
            exact (ih (i + 1) ⟨by omega, hrun⟩ (by omega)).cast rfl rfl
          · simp only [c2, and_false, not_false_eq_true, decide_true, Bool.true_and, Bool.not_not] at hrun
            cases ct
            · simp only [Bool.false_and] at hrun
              subst hrun
              repeat' (first
  | refine gSq ?_ | refine gSk ?_ | refine gBl ?_ | refine gIb ?_ | refine gEx rfl ?_
  | ((first
  | (refine gRg [] [0, 2, 3, 4, 7, 11, 36] ?_; intro K hK)
  | refine cAl (hct) rfl rfl rfl ?_
  | (refine gd_split ?_ ?_ <;> intro hb <;> (try simp only [bls] at hb) <;> (try simp only [hb]))
  | refine gRt [] [.tmp 2] rfl ?_ | refine gDn [] [.tmp 2] rfl ?_) <;> (try simp only [go_sem, simprocAttr, e4, e5, e8, hx, eq_true c1, c2, Option.some.injEq, forall_eq']))
  | (refine hK _ _ ?_; clear hK K; simp only [go_sem, simprocAttr])
  | refine gCd (by simp only [go_sem, simprocAttr]; rfl) rfl ?_
  | refine brT ?_ | refine brF ?_
  | (refine brS ?_ ?_ <;> intro hc <;> (try simp only [bls] at hc) <;> (try simp only [hc, bls]))
  | intro _ | refine And.intro ?_ ?_)
              all_goals first | omega | (unfold bigLen; omega) | exact ⟨_, _, ⟨rfl, rfl⟩, rfl⟩ | exact ⟨_, rfl⟩ | (rename_i hy; simp only [List.mem_singleton] at hy; subst hy; rfl) | with_reducible rfl | skip
            · simp only [Bool.true_and] at hrun
              repeat' (first
  | refine gSq ?_ | refine gSk ?_ | refine gBl ?_ | refine gIb ?_ | refine gEx rfl ?_
  | ((first
  | (refine gRg [] [0, 2, 3, 4, 7, 11, 36] ?_; intro K hK)
  | refine cAl (hct) rfl rfl rfl ?_
  | (refine gd_split ?_ ?_ <;> intro hb <;> (try simp only [bls] at hb) <;> (try simp only [hb]))
  | refine gRt [] [.tmp 2] rfl ?_ | refine gDn [] [.tmp 2] rfl ?_) <;> (try simp only [go_sem, simprocAttr, e4, e5, e8, hx, eq_true c1, c2, Option.some.injEq, forall_eq']))
  | (refine hK _ _ ?_; clear hK K; simp only [go_sem, simprocAttr])
  | refine gCd (by simp only [go_sem, simprocAttr]; rfl) rfl ?_
  | refine brT ?_ | refine brF ?_
  | (refine brS ?_ ?_ <;> intro hc <;> (try simp only [bls] at hc) <;> (try simp only [hc, bls]))
  | intro _ | refine And.intro ?_ ?_)
              all_goals first | omega | (unfold bigLen; omega) | exact ⟨_, _, ⟨rfl, rfl⟩, rfl⟩ | exact ⟨_, rfl⟩ | (rename_i hy; simp only [List.mem_singleton] at hy; subst hy; rfl) | with_reducible rfl | skip
              refine AGood.filt [] ?_
              simp only [sf_cons, sf_nil, go_sem, simprocAttr]
              refine AGood.prune [0, 2, 3] ?_; simp only [go_sem, simprocAttr]
              exact (ih (i + 1) ⟨by omega, hrun⟩ (by omega)).cast rfl rfl
        · simp only [c1, false_and, not_false_eq_true, decide_true, Bool.true_and, Bool.not_not] at hrun
          cases ct
          · simp only [Bool.false_and] at hrun
            subst hrun
            repeat' (first
  | refine gSq ?_ | refine gSk ?_ | refine gBl ?_ | refine gIb ?_ | refine gEx rfl ?_
  | ((first
  | (refine gRg [] [0, 2, 3, 4, 7, 11, 36] ?_; intro K hK)
  | refine cAl (hct) rfl rfl rfl ?_
  | (refine gd_split ?_ ?_ <;> intro hb <;> (try simp only [bls] at hb) <;> (try simp only [hb]))
  | refine gRt [] [.tmp 2] rfl ?_ | refine gDn [] [.tmp 2] rfl ?_) <;> (try simp only [go_sem, simprocAttr, e4, e5, e8, hx, c1, Option.some.injEq, forall_eq']))
  | (refine hK _ _ ?_; clear hK K; simp only [go_sem, simprocAttr])
  | refine gCd (by simp only [go_sem, simprocAttr]; rfl) rfl ?_
  | refine brT ?_ | refine brF ?_
  | (refine brS ?_ ?_ <;> intro hc <;> (try simp only [bls] at hc) <;> (try simp only [hc, bls]))
  | intro _ | refine And.intro ?_ ?_)
            all_goals first | omega | (unfold bigLen; omega) | exact ⟨_, _, ⟨rfl, rfl⟩, rfl⟩ | exact ⟨_, rfl⟩ | (rename_i hy; simp only [List.mem_singleton] at hy; subst hy; rfl) | with_reducible rfl | skip
          · simp only [Bool.true_and] at hrun
            repeat' (first
  | refine gSq ?_ | refine gSk ?_ | refine gBl ?_ | refine gIb ?_ | refine gEx rfl ?_
  | ((first
  | (refine gRg [] [0, 2, 3, 4, 7, 11, 36] ?_; intro K hK)
  | refine cAl (hct) rfl rfl rfl ?_
  | (refine gd_split ?_ ?_ <;> intro hb <;> (try simp only [bls] at hb) <;> (try simp only [hb]))
  | refine gRt [] [.tmp 2] rfl ?_ | refine gDn [] [.tmp 2] rfl ?_) <;> (try simp only [go_sem, simprocAttr, e4, e5, e8, hx, c1, Option.some.injEq, forall_eq']))
  | (refine hK _ _ ?_; clear hK K; simp only [go_sem, simprocAttr])
  | refine gCd (by simp only [go_sem, simprocAttr]; rfl) rfl ?_
  | refine brT ?_ | refine brF ?_
  | (refine brS ?_ ?_ <;> intro hc <;> (try simp only [bls] at hc) <;> (try simp only [hc, bls]))
  | intro _ | refine And.intro ?_ ?_)
            all_goals first | omega | (unfold bigLen; omega) | exact ⟨_, _, ⟨rfl, rfl⟩, rfl⟩ | exact ⟨_, rfl⟩ | (rename_i hy; simp only [List.mem_singleton] at hy; subst hy; rfl) | with_reducible rfl | skip
            refine AGood.filt [] ?_
            simp only [sf_cons, sf_nil, go_sem, simprocAttr]
            refine AGood.prune [0, 2, 3] ?_; simp only [go_sem, simprocAttr]
            exact (ih (i + 1) ⟨by omega, hrun⟩ (by omega)).cast rfl rfl
      · have hbad : badB l n = false := by simp [badB, h5]
        rw [hbad] at hrun
        simp only [Bool.not_false, Bool.true_and] at hrun
        obtain ⟨xo, ⟨xa, xb, xc, xd⟩, xl, xlo, xhi, xn⟩ := n
        simp only at h5
        repeat' (first
  | refine gSq ?_ | refine gSk ?_ | refine gBl ?_ | refine gIb ?_ | refine gEx rfl ?_
  | ((first
  | (refine gRg [] [0, 2, 3, 4, 7, 11, 36] ?_; intro K hK)
  | (refine gd_split ?_ ?_ <;> intro hb <;> (try simp only [bls] at hb) <;> (try simp only [hb]))
  | refine gRt [] [.tmp 2] rfl ?_ | refine gDn [] [.tmp 2] rfl ?_) <;> (try simp only [go_sem, simprocAttr, e4, e5, e8, hx, h5, Option.some.injEq, forall_eq']))
  | (refine hK _ _ ?_; clear hK K; simp only [go_sem, simprocAttr])
  | refine gCd (by simp only [go_sem, simprocAttr]; rfl) rfl ?_
  | refine brT ?_ | refine brF ?_
  | (refine brS ?_ ?_ <;> intro hc <;> (try simp only [bls] at hc) <;> (try simp only [hc, bls]))
  | intro _ | refine And.intro ?_ ?_)
        all_goals first | omega | (unfold bigLen; omega) | exact ⟨_, _, ⟨rfl, rfl⟩, rfl⟩ | exact ⟨_, rfl⟩ | (rename_i hy; simp only [List.mem_singleton] at hy; subst hy; rfl) | with_reducible rfl | skip
        refine AGood.filt [] ?_
        simp only [sf_cons, sf_nil, go_sem, simprocAttr]
        refine AGood.prune [0, 2, 3] ?_; simp only [go_sem, simprocAttr]
        exact (ih (i + 1) ⟨by omega, hrun⟩ (by omega)).cast rfl rfl
    · have e4 : ¬ (i : Int) < l.length := by omega
      rw [List.drop_eq_nil_of_le (by omega)] at hrun
      simp only [List.all_nil] at hrun
      subst hrun
      clear ih
      repeat' (first
  | refine gSq ?_ | refine gSk ?_ | refine gBl ?_ | refine gIb ?_ | refine gEx rfl ?_
  | ((first
  | (refine gRg [] [0, 2, 3, 4, 7, 11, 36] ?_; intro K hK)
  | (refine gd_split ?_ ?_ <;> intro hb <;> (try simp only [bls] at hb) <;> (try simp only [hb]))
  | refine gRt [] [.tmp 2] rfl ?_ | refine gDn [] [.tmp 2] rfl ?_) <;> (try simp only [go_sem, simprocAttr, e4]))
  | (refine hK _ _ ?_; clear hK K; simp only [go_sem, simprocAttr])
  | refine gCd (by simp only [go_sem, simprocAttr]; rfl) rfl ?_
  | refine brT ?_ | refine brF ?_
  | (refine brS ?_ ?_ <;> intro hc <;> (try simp only [bls] at hc) <;> (try simp only [hc, bls]))
  | intro _ | refine And.intro ?_ ?_)
      all_goals first | omega | (unfold bigLen; omega) | exact ⟨_, _, ⟨rfl, rfl⟩, rfl⟩ | exact ⟨_, rfl⟩ | (rename_i hy; simp only [List.mem_singleton] at hy; subst hy; rfl) | with_reducible rfl | skip
def cntQ (n : Node) : Bool := decide (n.op = 5 ∧ n.hi ≠ -1)
theorem rcount_c (f : Bool) (l : List Node) (hlen : l.length ≤ maxLen) (hl : ∀ n ∈ l, n.l.length ≤ maxLen ∧ n.name.size ≤ maxLen) : ACall Try.prog 30 [.sl true f (nodes l)] [] fun r s => r = .int .i64 (if rightP l = true then l.countP cntQ else 0 : Nat) ∧ s = [] := by
  have hp := rright_c f l hlen hl
  obtain ⟨S, hS⟩ : ∃ S, S = (if rightP l = true then l.countP cntQ else 0 : Nat) := ⟨_, rfl⟩
  rw [← hS]
  cases h3 : rightP l
  · rw [h3] at hp hS
    simp only [Bool.false_eq_true, if_false] at hS
    subst hS
    unfold maxLen at hlen
    by_cases e0 : l.length = 0
    · have e4 : ¬ (0 : Int) < l.length := by omega
      refine ACall.enter Try.func30 rfl (by kernel_rfl) (Nat.le_of_ble_eq_true rfl) ?_; simp only [initTm, Nat.reduceAdd]
      repeat' (first
  | refine gSq ?_ | refine gSk ?_ | refine gBl ?_ | refine gIb ?_ | refine gEx rfl ?_
  | ((first
  | (refine gRg [] [0, 2, 3, 4, 12, 28] ?_; intro K hK)
  | refine cAl (hp) rfl rfl rfl ?_
  | (refine gd_split ?_ ?_ <;> intro hb <;> (try simp only [bls] at hb) <;> (try simp only [hb]))
  | refine gRt [] [.tmp 2] rfl ?_ | refine gDn [] [.tmp 2] rfl ?_) <;> (try simp only [go_sem, simprocAttr, e4]))
  | (refine hK _ _ ?_; clear hK K; simp only [go_sem, simprocAttr])
  | refine gCd (by simp only [go_sem, simprocAttr]; rfl) rfl ?_
  | refine brT ?_ | refine brF ?_
  | (refine brS ?_ ?_ <;> intro hc <;> (try simp only [bls] at hc) <;> (try simp only [hc, bls]))
  | intro _ | refine And.intro ?_ ?_)
      refine AGood.loop ?_
      repeat' (first
  | refine gSq ?_ | refine gSk ?_ | refine gBl ?_ | refine gIb ?_ | refine gEx rfl ?_
  | ((first
  | (refine gRg [] [0, 2, 3, 4, 12, 28] ?_; intro K hK)
  | refine cAl (hp) rfl rfl rfl ?_
  | (refine gd_split ?_ ?_ <;> intro hb <;> (try simp only [bls] at hb) <;> (try simp only [hb]))
  | refine gRt [] [.tmp 2] rfl ?_ | refine gDn [] [.tmp 2] rfl ?_) <;> (try simp only [go_sem, simprocAttr, e4]))
  | (refine hK _ _ ?_; clear hK K; simp only [go_sem, simprocAttr])
  | refine gCd (by simp only [go_sem, simprocAttr]; rfl) rfl ?_
  | refine brT ?_ | refine brF ?_
  | (refine brS ?_ ?_ <;> intro hc <;> (try simp only [bls] at hc) <;> (try simp only [hc, bls]))
  | intro _ | refine And.intro ?_ ?_)
      all_goals first | omega | (unfold bigLen; omega) | exact ⟨_, _, ⟨rfl, rfl⟩, rfl⟩ | exact ⟨_, rfl⟩ | (rename_i hy; simp only [List.mem_singleton] at hy; subst hy; rfl) | with_reducible rfl | skip
    · have e4 : (0 : Int) < l.length := by omega
      refine ACall.enter Try.func30 rfl (by kernel_rfl) (Nat.le_of_ble_eq_true rfl) ?_; simp only [initTm, Nat.reduceAdd]
      repeat' (first
  | refine gSq ?_ | refine gSk ?_ | refine gBl ?_ | refine gIb ?_ | refine gEx rfl ?_
  | ((first
  | (refine gRg [] [0, 2, 3, 4, 12, 28] ?_; intro K hK)
  | refine cAl (hp) rfl rfl rfl ?_
  | (refine gd_split ?_ ?_ <;> intro hb <;> (try simp only [bls] at hb) <;> (try simp only [hb]))
  | refine gRt [] [.tmp 2] rfl ?_ | refine gDn [] [.tmp 2] rfl ?_) <;> (try simp only [go_sem, simprocAttr, e4]))
  | (refine hK _ _ ?_; clear hK K; simp only [go_sem, simprocAttr])
  | refine gCd (by simp only [go_sem, simprocAttr]; rfl) rfl ?_
  | refine brT ?_ | refine brF ?_
  | (refine brS ?_ ?_ <;> intro hc <;> (try simp only [bls] at hc) <;> (try simp only [hc, bls]))
  | intro _ | refine And.intro ?_ ?_)
      refine AGood.loop ?_
      repeat' (first
  | refine gSq ?_ | refine gSk ?_ | refine gBl ?_ | refine gIb ?_ | refine gEx rfl ?_
  | ((first
  | (refine gRg [] [0, 2, 3, 4, 12, 28] ?_; intro K hK)
  | refine cAl (hp) rfl rfl rfl ?_
  | (refine gd_split ?_ ?_ <;> intro hb <;> (try simp only [bls] at hb) <;> (try simp only [hb]))
  | refine gRt [] [.tmp 2] rfl ?_ | refine gDn [] [.tmp 2] rfl ?_) <;> (try simp only [go_sem, simprocAttr, e4]))
  | (refine hK _ _ ?_; clear hK K; simp only [go_sem, simprocAttr])
  | refine gCd (by simp only [go_sem, simprocAttr]; rfl) rfl ?_
  | refine brT ?_ | refine brF ?_
  | (refine brS ?_ ?_ <;> intro hc <;> (try simp only [bls] at hc) <;> (try simp only [hc, bls]))
  | intro _ | refine And.intro ?_ ?_)
      all_goals first | omega | (unfold bigLen; omega) | exact ⟨_, _, ⟨rfl, rfl⟩, rfl⟩ | exact ⟨_, rfl⟩ | (rename_i hy; simp only [List.mem_singleton] at hy; subst hy; rfl) | with_reducible rfl | skip
  · rw [h3] at hp hS
    simp only [if_true] at hS
    have hl1 : l.length ≤ 1024 := by
      simp only [rightP, Bool.and_eq_true] at h3
      exact (plain_plOk h3.1).1
    clear h3
    refine ACall.enter Try.func30 rfl (by kernel_rfl) (Nat.le_of_ble_eq_true rfl) ?_; simp only [initTm, Nat.reduceAdd]
    repeat' (first
  | refine gSq ?_ | refine gSk ?_ | refine gBl ?_ | refine gIb ?_ | refine gEx rfl ?_
  | ((first
  | (refine gRg [] [0, 2, 3, 4, 12, 28] ?_; intro K hK)
  | (refine gd_split ?_ ?_ <;> intro hb <;> (try simp only [bls] at hb) <;> (try simp only [hb]))
  | refine gRt [] [.tmp 2] rfl ?_ | refine gDn [] [.tmp 2] rfl ?_) <;> (try simp only [go_sem, simprocAttr]))
  | (refine hK _ _ ?_; clear hK K; simp only [go_sem, simprocAttr])
  | refine gCd (by simp only [go_sem, simprocAttr]; rfl) rfl ?_
  | refine brT ?_ | refine brF ?_
  | (refine brS ?_ ?_ <;> intro hc <;> (try simp only [bls] at hc) <;> (try simp only [hc, bls]))
  | intro _ | refine And.intro ?_ ?_)
    all_goals first | omega | (unfold bigLen; omega) | exact ⟨_, _, ⟨rfl, rfl⟩, rfl⟩ | exact ⟨_, rfl⟩ | (rename_i hy; simp only [List.mem_singleton] at hy; subst hy; rfl) | with_reducible rfl | skip
    refine AGood.prune [0, 2, 3, 4] ?_; simp only [go_sem, simprocAttr]
    refine AGood.loopInv (α := Nat × Nat) (fun x => ([(0, .sl true f (nodes l)), (2, .int .i64 0), (3, .int .i64 x.2), (4, .int .i64 x.1)], []))
      (fun x => x.1 ≤ l.length ∧ x.2 ≤ x.1 ∧ S = x.2 + (l.drop x.1).countP cntQ) (fun x => l.length - x.1) (0, 0) ⟨Nat.zero_le _, Nat.zero_le _, by simpa using hS⟩ rfl ?_
    rintro ⟨i, c⟩ ⟨hi, hc, hrun⟩ ih
    simp only at hi hc hrun ih ⊢
    by_cases hle : i < l.length
    · have e4 : (i : Int) < l.length := by omega
      have e5 : (0 : Int) ≤ i := by omega
      have e8 : (i : Int) + 1 = ((i + 1 : Nat) : Int) := by omega
      have hx : l[i]? = some l[i] := List.getElem?_eq_getElem hle
      have hdr : l.drop i = l[i] :: l.drop (i + 1) := List.drop_eq_getElem_cons hle
      rw [hdr, List.countP_cons] at hrun
      generalize l[i] = n at hx hrun
      obtain ⟨xo, ⟨xa, xb, xc, xd⟩, xl, xlo, xhi, xn⟩ := n
      simp only [cntQ] at hrun
      by_cases h5 : xo = 5
      · by_cases hs : xhi = -1
        · simp only [hs, ne_eq, not_true_eq_false, and_false, decide_false, Bool.false_eq_true, if_false] at hrun
          repeat' (first
  | refine gSq ?_ | refine gSk ?_ | refine gBl ?_ | refine gIb ?_ | refine gEx rfl ?_
  | ((first
  | (refine gRg [] [0, 2, 3, 4, 12, 28] ?_; intro K hK)
  | refine cAl (hp) rfl rfl rfl ?_
  | (refine gd_split ?_ ?_ <;> intro hb <;> (try simp only [bls] at hb) <;> (try simp only [hb]))
  | refine gRt [] [.tmp 2] rfl ?_ | refine gDn [] [.tmp 2] rfl ?_) <;> (try simp only [go_sem, simprocAttr, e4, e5, e8, hx, eq_true h5, eq_true hs, Option.some.injEq, forall_eq']))
  | (refine hK _ _ ?_; clear hK K; simp only [go_sem, simprocAttr])
  | refine gCd (by simp only [go_sem, simprocAttr]; rfl) rfl ?_
  | refine brT ?_ | refine brF ?_
  | (refine brS ?_ ?_ <;> intro hc <;> (try simp only [bls] at hc) <;> (try simp only [hc, bls]))
  | intro _ | refine And.intro ?_ ?_)
          all_goals first | omega | (unfold bigLen; omega) | exact ⟨_, _, ⟨rfl, rfl⟩, rfl⟩ | exact ⟨_, rfl⟩ | (rename_i hy; simp only [List.mem_singleton] at hy; subst hy; rfl) | with_reducible rfl | skip
          refine AGood.filt [] ?_
          simp only [sf_cons, sf_nil, go_sem, simprocAttr]
          refine AGood.prune [0, 2, 3, 4] ?_; simp only [go_sem, simprocAttr]
          exact (ih (i + 1, c) ⟨by simp only; omega, by simp only; omega, by simp only; omega⟩ (by simp only; omega)).cast rfl rfl
        · simp only [h5, hs, ne_eq, not_false_eq_true, and_self, decide_true, if_true] at hrun
          have e6 : (c : Int) + 1 = ((c + 1 : Nat) : Int) := by omega
          repeat' (first
  | refine gSq ?_ | refine gSk ?_ | refine gBl ?_ | refine gIb ?_ | refine gEx rfl ?_
  | ((first
  | (refine gRg [] [0, 2, 3, 4, 12, 28] ?_; intro K hK)
  | refine cAl (hp) rfl rfl rfl ?_
  | (refine gd_split ?_ ?_ <;> intro hb <;> (try simp only [bls] at hb) <;> (try simp only [hb]))
  | refine gRt [] [.tmp 2] rfl ?_ | refine gDn [] [.tmp 2] rfl ?_) <;> (try simp only [go_sem, simprocAttr, e4, e5, e6, e8, hx, eq_true h5, hs, Option.some.injEq, forall_eq']))
  | (refine hK _ _ ?_; clear hK K; simp only [go_sem, simprocAttr])
  | refine gCd (by simp only [go_sem, simprocAttr]; rfl) rfl ?_
  | refine brT ?_ | refine brF ?_
  | (refine brS ?_ ?_ <;> intro hc <;> (try simp only [bls] at hc) <;> (try simp only [hc, bls]))
  | intro _ | refine And.intro ?_ ?_)
          all_goals first | omega | (unfold bigLen; omega) | exact ⟨_, _, ⟨rfl, rfl⟩, rfl⟩ | exact ⟨_, rfl⟩ | (rename_i hy; simp only [List.mem_singleton] at hy; subst hy; rfl) | with_reducible rfl | skip
          refine AGood.filt [] ?_
          simp only [sf_cons, sf_nil, go_sem, simprocAttr]
          refine AGood.prune [0, 2, 3, 4] ?_; simp only [go_sem, simprocAttr]
          exact (ih (i + 1, c + 1) ⟨by simp only; omega, by simp only; omega, by simp only; omega⟩ (by simp only; omega)).cast rfl rfl
      · simp only [h5, false_and, decide_false, Bool.false_eq_true, if_false] at hrun
        repeat' (first
  | refine gSq ?_ | refine gSk ?_ | refine gBl ?_ | refine gIb ?_ | refine gEx rfl ?_
  | ((first
  | (refine gRg [] [0, 2, 3, 4, 12, 28] ?_; intro K hK)
  | refine cAl (hp) rfl rfl rfl ?_
  | (refine gd_split ?_ ?_ <;> intro hb <;> (try simp only [bls] at hb) <;> (try simp only [hb]))
  | refine gRt [] [.tmp 2] rfl ?_ | refine gDn [] [.tmp 2] rfl ?_) <;> (try simp only [go_sem, simprocAttr, e4, e5, e8, hx, h5, Option.some.injEq, forall_eq']))
  | (refine hK _ _ ?_; clear hK K; simp only [go_sem, simprocAttr])
  | refine gCd (by simp only [go_sem, simprocAttr]; rfl) rfl ?_
  | refine brT ?_ | refine brF ?_
  | (refine brS ?_ ?_ <;> intro hc <;> (try simp only [bls] at hc) <;> (try simp only [hc, bls]))
  | intro _ | refine And.intro ?_ ?_)
        all_goals first | omega | (unfold bigLen; omega) | exact ⟨_, _, ⟨rfl, rfl⟩, rfl⟩ | exact ⟨_, rfl⟩ | (rename_i hy; simp only [List.mem_singleton] at hy; subst hy; rfl) | with_reducible rfl | skip
        refine AGood.filt [] ?_
        simp only [sf_cons, sf_nil, go_sem, simprocAttr]
        refine AGood.prune [0, 2, 3, 4] ?_; simp only [go_sem, simprocAttr]
        exact (ih (i + 1, c) ⟨by simp only; omega, by simp only; omega, by simp only; omega⟩ (by simp only; omega)).cast rfl rfl
    · have e4 : ¬ (i : Int) < l.length := by omega
      rw [List.drop_eq_nil_of_le (by omega)] at hrun
      simp only [List.countP_nil, Nat.add_zero] at hrun
      subst hrun
      clear ih
      repeat' (first
  | refine gSq ?_ | refine gSk ?_ | refine gBl ?_ | refine gIb ?_ | refine gEx rfl ?_
  | ((first
  | (refine gRg [] [0, 2, 3, 4, 12, 28] ?_; intro K hK)
  | (refine gd_split ?_ ?_ <;> intro hb <;> (try simp only [bls] at hb) <;> (try simp only [hb]))
  | refine gRt [] [.tmp 2] rfl ?_ | refine gDn [] [.tmp 2] rfl ?_) <;> (try simp only [go_sem, simprocAttr, e4]))
  | (refine hK _ _ ?_; clear hK K; simp only [go_sem, simprocAttr])
  | refine gCd (by simp only [go_sem, simprocAttr]; rfl) rfl ?_
  | refine brT ?_ | refine brF ?_
  | (refine brS ?_ ?_ <;> intro hc <;> (try simp only [bls] at hc) <;> (try simp only [hc, bls]))
  | intro _ | refine And.intro ?_ ?_)
      all_goals first | omega | (unfold bigLen; omega) | exact ⟨_, _, ⟨rfl, rfl⟩, rfl⟩ | exact ⟨_, rfl⟩ | (rename_i hy; simp only [List.mem_singleton] at hy; subst hy; rfl) | with_reducible rfl | skip
end Go.Rad
/- Contracts: plan: Right, Counted. -/
namespace Go.Rad
open Go Go.Proofs
set_option linter.all false
set_option maxRecDepth 20000
set_option maxHeartbeats 4000000

theorem pstar_c (n : Node) : ACall Try.prog 42 [.agg n.cells] [] fun r s => r = .bool (starB n) ∧ s = [] := by
  obtain ⟨xo, ⟨xa, xb, xc, xd⟩, xl, xlo, xhi, xn⟩ := n
  simp only [Node.cells, Node.cellsF, starB]
  by_cases h1 : xlo = 0
  · subst h1
    refine ACall.enter Try.func42 rfl (by kernel_rfl) (Nat.le_of_ble_eq_true rfl) ?_; simp only [initTm, Nat.reduceAdd]
    repeat' (first
  | refine gSq ?_ | refine gSk ?_ | refine gBl ?_ | refine gIb ?_ | refine gEx rfl ?_
  | ((first
  | (refine gRg [] [0, 1, 2] ?_; intro K hK)
  | (refine gd_split ?_ ?_ <;> intro hb <;> (try simp only [bls] at hb) <;> (try simp only [hb]))
  | refine gRt [] [.tmp 2] rfl ?_ | refine gDn [] [.tmp 2] rfl ?_) <;> (try simp only [go_sem, simprocAttr]))
  | (refine hK _ _ ?_; clear hK K; simp only [go_sem, simprocAttr])
  | refine gCd (by simp only [go_sem, simprocAttr]; rfl) rfl ?_
  | refine brT ?_ | refine brF ?_
  | (refine brS ?_ ?_ <;> intro hc <;> (try simp only [bls] at hc) <;> (try simp only [hc, bls]))
  | intro _ | refine And.intro ?_ ?_)
    all_goals first | omega | (unfold bigLen; omega) | exact ⟨_, _, ⟨rfl, rfl⟩, rfl⟩ | exact ⟨_, rfl⟩ | (rename_i hy; simp only [List.mem_singleton] at hy; subst hy; rfl) | with_reducible rfl | skip
  · refine ACall.enter Try.func42 rfl (by kernel_rfl) (Nat.le_of_ble_eq_true rfl) ?_; simp only [initTm, Nat.reduceAdd]
    repeat' (first
  | refine gSq ?_ | refine gSk ?_ | refine gBl ?_ | refine gIb ?_ | refine gEx rfl ?_
  | ((first
  | (refine gRg [] [0, 1, 2] ?_; intro K hK)
  | (refine gd_split ?_ ?_ <;> intro hb <;> (try simp only [bls] at hb) <;> (try simp only [hb]))
  | refine gRt [] [.tmp 2] rfl ?_ | refine gDn [] [.tmp 2] rfl ?_) <;> (try simp only [go_sem, simprocAttr, h1]))
  | (refine hK _ _ ?_; clear hK K; simp only [go_sem, simprocAttr])
  | refine gCd (by simp only [go_sem, simprocAttr]; rfl) rfl ?_
  | refine brT ?_ | refine brF ?_
  | (refine brS ?_ ?_ <;> intro hc <;> (try simp only [bls] at hc) <;> (try simp only [hc, bls]))
  | intro _ | refine And.intro ?_ ?_)
    all_goals first | omega | (unfold bigLen; omega) | exact ⟨_, _, ⟨rfl, rfl⟩, rfl⟩ | exact ⟨_, rfl⟩ | (rename_i hy; simp only [List.mem_singleton] at hy; subst hy; rfl) | with_reducible rfl | skip
theorem pright_c (q f : Bool) (l : List Node) (hl : ndOk l) : ACall Try.prog 26 [.sl q f (nodes l)] [] fun r s => r = .bool (rightP l) ∧ s = [] := by
  have hp := pplain_c q f l hl
  obtain ⟨S, hS⟩ : ∃ S, S = rightP l := ⟨_, rfl⟩
  rw [← hS]
  rw [rightP] at hS
  cases h3 : plainS l
  · rw [h3] at hp hS
    simp only [Bool.false_and] at hS
    subst hS
    refine ACall.enter Try.func26 rfl (by kernel_rfl) (Nat.le_of_ble_eq_true rfl) ?_; simp only [initTm, Nat.reduceAdd]
    repeat' (first
  | refine gSq ?_ | refine gSk ?_ | refine gBl ?_ | refine gIb ?_ | refine gEx rfl ?_
  | ((first
  | (refine gRg [] [0, 2, 4, 7, 8, 9, 10, 11, 42] ?_; intro K hK)
  | refine cAl (hp) rfl rfl rfl ?_
  | (refine gd_split ?_ ?_ <;> intro hb <;> (try simp only [bls] at hb) <;> (try simp only [hb]))
  | refine gRt [] [.tmp 2] rfl ?_ | refine gDn [] [.tmp 2] rfl ?_) <;> (try simp only [go_sem, simprocAttr]))
  | (refine hK _ _ ?_; clear hK K; simp only [go_sem, simprocAttr])
  | refine gCd (by simp only [go_sem, simprocAttr]; rfl) rfl ?_
  | refine brT ?_ | refine brF ?_
  | (refine brS ?_ ?_ <;> intro hc <;> (try simp only [bls] at hc) <;> (try simp only [hc, bls]))
  | intro _ | refine And.intro ?_ ?_)
    all_goals first | omega | (unfold bigLen; omega) | exact ⟨_, _, ⟨rfl, rfl⟩, rfl⟩ | exact ⟨_, rfl⟩ | (rename_i hy; simp only [List.mem_singleton] at hy; subst hy; rfl) | with_reducible rfl | skip
  · rw [h3] at hp hS
    simp only [Bool.true_and] at hS
    have hok := plain_plOk h3
    clear h3
    refine ACall.enter Try.func26 rfl (by kernel_rfl) (Nat.le_of_ble_eq_true rfl) ?_; simp only [initTm, Nat.reduceAdd]
    repeat' (first
  | refine gSq ?_ | refine gSk ?_ | refine gBl ?_ | refine gIb ?_ | refine gEx rfl ?_
  | ((first
  | (refine gRg [] [0, 2, 4, 7, 8, 9, 10, 11, 42] ?_; intro K hK)
  | refine cAl (hp) rfl rfl rfl ?_
  | (refine gd_split ?_ ?_ <;> intro hb <;> (try simp only [bls] at hb) <;> (try simp only [hb]))
  | refine gRt [] [.tmp 2] rfl ?_ | refine gDn [] [.tmp 2] rfl ?_) <;> (try simp only [go_sem, simprocAttr]))
  | (refine hK _ _ ?_; clear hK K; simp only [go_sem, simprocAttr])
  | refine gCd (by simp only [go_sem, simprocAttr]; rfl) rfl ?_
  | refine brT ?_ | refine brF ?_
  | (refine brS ?_ ?_ <;> intro hc <;> (try simp only [bls] at hc) <;> (try simp only [hc, bls]))
  | intro _ | refine And.intro ?_ ?_)
    all_goals first | omega | (unfold bigLen; omega) | exact ⟨_, _, ⟨rfl, rfl⟩, rfl⟩ | exact ⟨_, rfl⟩ | (rename_i hy; simp only [List.mem_singleton] at hy; subst hy; rfl) | with_reducible rfl | skip
    refine AGood.prune [0, 2, 8, 9, 10] ?_; simp only [go_sem, simprocAttr]
    refine AGood.loopInv (α := Nat) (fun x => ([(0, .sl q f (nodes l)), (2, .bool false), (8, .sl q f (nodes l)), (9, .int .i64 l.length), (10, .int .i64 x)], []))
      (fun x => x ≤ l.length ∧ S = (l.drop x).all fun n => !badB l n) (fun x => l.length - x) 0 ⟨Nat.zero_le _, hS⟩ rfl ?_
    rintro i ⟨hi, hrun⟩ ih
    simp only at hi hrun ih ⊢
    by_cases hle : i < l.length
    · have e4 : (i : Int) < l.length := by omega
      have e5 : (0 : Int) ≤ i := by omega
      have hx : l[i]? = some l[i] := List.getElem?_eq_getElem hle
      have hdr : l.drop i = l[i] :: l.drop (i + 1) := List.drop_eq_getElem_cons hle
      have hm := hok.2 i _ hx
      have hl1 := hok.1
      rw [hdr, List.all_cons] at hrun
      generalize l[i] = n at hx hrun hm
      obtain ⟨m1, m2, m3, m4, m5, m6⟩ := hm
      have hst := pstar_c n
      by_cases h5 : n.op = 5
      · obtain ⟨kd, hkd⟩ : ∃ kd, n.l = [kd] := List.length_eq_one_iff.1 (m3 h5)
        have hk1 := m2 kd (by simp [hkd])
        obtain ⟨kid, rfl⟩ : ∃ kid : Nat, kd = kid := ⟨kd.toNat, by omega⟩
        have hm : l[kid]? = some (l[kid]'(by omega)) := List.getElem?_eq_getElem (by omega)
        have e6 : (kid : Int) < l.length := by omega
        have e7 : (0 : Int) ≤ kid := by omega
        generalize l[kid]'(by omega) = m at hm
        have hbad : badB l n = decide (¬ (n.lo = 0 ∧ n.hi = -1) ∧ (m.op ≠ 2 ∨ n.lo < 1 ∨ n.hi < 2)) := by
          simp only [badB, h5, kid0, hkd, List.headD_cons, nAt_get hm, true_and]
        rw [hbad] at hrun
        obtain ⟨xo, ⟨xa, xb, xc, xd⟩, xl, xlo, xhi, xn⟩ := n
        obtain ⟨mo, ⟨ma, mb, mc, md⟩, ml, mlo, mhi, mn⟩ := m
        simp only at h5 hkd hrun
        subst h5
        have hx0 : xl[0]? = some (kid : Int) := by rw [hkd]; rfl
        have e0 : (0 : Int) < xl.length := by rw [hkd]; exact Int.one_pos
        clear hkd
        simp only [starB, Node.cells, Node.cellsF] at hst
        by_cases hs : xlo = 0 ∧ xhi = -1
        · rw [decide_eq_true hs] at hst
          simp only [hs, and_self, not_true_eq_false, false_and, decide_false, Bool.not_false, Bool.true_and] at hrun
          repeat' (first
  | refine gSq ?_ | refine gSk ?_ | refine gBl ?_ | refine gIb ?_ | refine gEx rfl ?_
  | ((first
  | (refine gRg [] [0, 2, 4, 7, 8, 9, 10, 11, 42] ?_; intro K hK)
  | refine cAl (hst) rfl rfl rfl ?_
  | (refine gd_split ?_ ?_ <;> intro hb <;> (try simp only [bls] at hb) <;> (try simp only [hb]))
  | refine gRt [] [.tmp 2] rfl ?_ | refine gDn [] [.tmp 2] rfl ?_) <;> (try simp only [go_sem, simprocAttr, e4, e5, hx, Option.some.injEq, forall_eq']))
  | (refine hK _ _ ?_; clear hK K; simp only [go_sem, simprocAttr])
  | refine gCd (by simp only [go_sem, simprocAttr]; rfl) rfl ?_
  | refine brT ?_ | refine brF ?_
  | (refine brS ?_ ?_ <;> intro hc <;> (try simp only [bls] at hc) <;> (try simp only [hc, bls]))
  | intro _ | refine And.intro ?_ ?_)
          all_goals first | omega | (unfold bigLen; omega) | exact ⟨_, _, ⟨rfl, rfl⟩, rfl⟩ | exact ⟨_, rfl⟩ | (rename_i hy; simp only [List.mem_singleton] at hy; subst hy; rfl) | with_reducible rfl | skip
          refine AGood.filt [] ?_
          simp only [sf_cons, sf_nil, go_sem, simprocAttr]
          refine AGood.prune [0, 2, 8, 9, 10] ?_; simp only [go_sem, simprocAttr]
          exact (ih (i + 1) ⟨by omega, hrun⟩ (by omega)).cast rfl rfl
        · rw [decide_eq_false hs] at hst
          by_cases hb : mo ≠ 2 ∨ xlo < 1 ∨ xhi < 2
          · rw [decide_eq_true ⟨hs, hb⟩] at hrun
            simp only [Bool.not_true, Bool.false_and] at hrun
            subst hrun
            by_cases c1 : mo = 2
            · subst c1
              by_cases c2 : xlo < 1
              · repeat' (first
  | refine gSq ?_ | refine gSk ?_ | refine gBl ?_ | refine gIb ?_ | refine gEx rfl ?_
  | ((first
  | (refine gRg [] [0, 2, 4, 7, 8, 9, 10, 11, 42] ?_; intro K hK)
  | refine cAl (hst) rfl rfl rfl ?_
  | (refine gd_split ?_ ?_ <;> intro hb <;> (try simp only [bls] at hb) <;> (try simp only [hb]))
  | refine gRt [] [.tmp 2] rfl ?_ | refine gDn [] [.tmp 2] rfl ?_) <;> (try simp only [go_sem, simprocAttr, e4, e5, hx, hx0, hm, e0, e6, e7, c2, Option.some.injEq, forall_eq']))
  | (refine hK _ _ ?_; clear hK K; simp only [go_sem, simprocAttr])
  | refine gCd (by simp only [go_sem, simprocAttr]; rfl) rfl ?_
  | refine brT ?_ | refine brF ?_
  | (refine brS ?_ ?_ <;> intro hc <;> (try simp only [bls] at hc) <;> (try simp only [hc, bls]))
  | intro _ | refine And.intro ?_ ?_)
                all_goals first | omega | (unfold bigLen; omega) | exact ⟨_, _, ⟨rfl, rfl⟩, rfl⟩ | exact ⟨_, rfl⟩ | (rename_i hy; simp only [List.mem_singleton] at hy; subst hy; rfl) | with_reducible rfl | skip
              · have c3 : xhi < 2 := by omega
                repeat' (first
  | refine gSq ?_ | refine gSk ?_ | refine gBl ?_ | refine gIb ?_ | refine gEx rfl ?_
  | ((first
  | (refine gRg [] [0, 2, 4, 7, 8, 9, 10, 11, 42] ?_; intro K hK)
  | refine cAl (hst) rfl rfl rfl ?_
  | (refine gd_split ?_ ?_ <;> intro hb <;> (try simp only [bls] at hb) <;> (try simp only [hb]))
  | refine gRt [] [.tmp 2] rfl ?_ | refine gDn [] [.tmp 2] rfl ?_) <;> (try simp only [go_sem, simprocAttr, e4, e5, hx, hx0, hm, e0, e6, e7, c2, c3, Option.some.injEq, forall_eq']))
  | (refine hK _ _ ?_; clear hK K; simp only [go_sem, simprocAttr])
  | refine gCd (by simp only [go_sem, simprocAttr]; rfl) rfl ?_
  | refine brT ?_ | refine brF ?_
  | (refine brS ?_ ?_ <;> intro hc <;> (try simp only [bls] at hc) <;> (try simp only [hc, bls]))
  | intro _ | refine And.intro ?_ ?_)
                all_goals first | omega | (unfold bigLen; omega) | exact ⟨_, _, ⟨rfl, rfl⟩, rfl⟩ | exact ⟨_, rfl⟩ | (rename_i hy; simp only [List.mem_singleton] at hy; subst hy; rfl) | with_reducible rfl | skip
            · repeat' (first
  | refine gSq ?_ | refine gSk ?_ | refine gBl ?_ | refine gIb ?_ | refine gEx rfl ?_
  | ((first
  | (refine gRg [] [0, 2, 4, 7, 8, 9, 10, 11, 42] ?_; intro K hK)
  | refine cAl (hst) rfl rfl rfl ?_
  | (refine gd_split ?_ ?_ <;> intro hb <;> (try simp only [bls] at hb) <;> (try simp only [hb]))
  | refine gRt [] [.tmp 2] rfl ?_ | refine gDn [] [.tmp 2] rfl ?_) <;> (try simp only [go_sem, simprocAttr, e4, e5, hx, hx0, hm, e0, e6, e7, c1, Option.some.injEq, forall_eq']))
  | (refine hK _ _ ?_; clear hK K; simp only [go_sem, simprocAttr])
  | refine gCd (by simp only [go_sem, simprocAttr]; rfl) rfl ?_
  | refine brT ?_ | refine brF ?_
  | (refine brS ?_ ?_ <;> intro hc <;> (try simp only [bls] at hc) <;> (try simp only [hc, bls]))
  | intro _ | refine And.intro ?_ ?_)
              all_goals first | omega | (unfold bigLen; omega) | exact ⟨_, _, ⟨rfl, rfl⟩, rfl⟩ | exact ⟨_, rfl⟩ | (rename_i hy; simp only [List.mem_singleton] at hy; subst hy; rfl) | with_reducible rfl | skip
          · rw [decide_eq_false (fun h => hb h.2)] at hrun
            simp only [Bool.not_false, Bool.true_and] at hrun
            have c1 : mo = 2 := by omega
            have c2 : ¬ xlo < 1 := by omega
            have c3 : ¬ xhi < 2 := by omega
            subst c1
            repeat' (first
  | refine gSq ?_ | refine gSk ?_ | refine gBl ?_ | refine gIb ?_ | refine gEx rfl ?_
  | ((first
  | (refine gRg [] [0, 2, 4, 7, 8, 9, 10, 11, 42] ?_; intro K hK)
  | refine cAl (hst) rfl rfl rfl ?_
  | (refine gd_split ?_ ?_ <;> intro hb <;> (try simp only [bls] at hb) <;> (try simp only [hb]))
  | refine gRt [] [.tmp 2] rfl ?_ | refine gDn [] [.tmp 2] rfl ?_) <;> (try simp only [go_sem, simprocAttr, e4, e5, hx, hx0, hm, e0, e6, e7, c2, c3, Option.some.injEq, forall_eq']))
  | (refine hK _ _ ?_; clear hK K; simp only [go_sem, simprocAttr])
  | refine gCd (by simp only [go_sem, simprocAttr]; rfl) rfl ?_
  | refine brT ?_ | refine brF ?_
  | (refine brS ?_ ?_ <;> intro hc <;> (try simp only [bls] at hc) <;> (try simp only [hc, bls]))
  | intro _ | refine And.intro ?_ ?_)
            all_goals first | omega | (unfold bigLen; omega) | exact ⟨_, _, ⟨rfl, rfl⟩, rfl⟩ | exact ⟨_, rfl⟩ | (rename_i hy; simp only [List.mem_singleton] at hy; subst hy; rfl) | with_reducible rfl | skip
            refine AGood.filt [] ?_
            simp only [sf_cons, sf_nil, go_sem, simprocAttr]
            refine AGood.prune [0, 2, 8, 9, 10] ?_; simp only [go_sem, simprocAttr]
            exact (ih (i + 1) ⟨by omega, hrun⟩ (by omega)).cast rfl rfl
      · have hbad : badB l n = false := by simp [badB, h5]
        rw [hbad] at hrun
        simp only [Bool.not_false, Bool.true_and] at hrun
        obtain ⟨xo, ⟨xa, xb, xc, xd⟩, xl, xlo, xhi, xn⟩ := n
        simp only at h5
        repeat' (first
  | refine gSq ?_ | refine gSk ?_ | refine gBl ?_ | refine gIb ?_ | refine gEx rfl ?_
  | ((first
  | (refine gRg [] [0, 2, 4, 7, 8, 9, 10, 11, 42] ?_; intro K hK)
  | (refine gd_split ?_ ?_ <;> intro hb <;> (try simp only [bls] at hb) <;> (try simp only [hb]))
  | refine gRt [] [.tmp 2] rfl ?_ | refine gDn [] [.tmp 2] rfl ?_) <;> (try simp only [go_sem, simprocAttr, e4, e5, hx, h5, Option.some.injEq, forall_eq']))
  | (refine hK _ _ ?_; clear hK K; simp only [go_sem, simprocAttr])
  | refine gCd (by simp only [go_sem, simprocAttr]; rfl) rfl ?_
  | refine brT ?_ | refine brF ?_
  | (refine brS ?_ ?_ <;> intro hc <;> (try simp only [bls] at hc) <;> (try simp only [hc, bls]))
  | intro _ | refine And.intro ?_ ?_)
        all_goals first | omega | (unfold bigLen; omega) | exact ⟨_, _, ⟨rfl, rfl⟩, rfl⟩ | exact ⟨_, rfl⟩ | (rename_i hy; simp only [List.mem_singleton] at hy; subst hy; rfl) | with_reducible rfl | skip
        refine AGood.filt [] ?_
        simp only [sf_cons, sf_nil, go_sem, simprocAttr]
        refine AGood.prune [0, 2, 8, 9, 10] ?_; simp only [go_sem, simprocAttr]
        exact (ih (i + 1) ⟨by omega, hrun⟩ (by omega)).cast rfl rfl
    · have e4 : ¬ (i : Int) < l.length := by omega
      rw [List.drop_eq_nil_of_le (by omega)] at hrun
      simp only [List.all_nil] at hrun
      subst hrun
      clear ih
      repeat' (first
  | refine gSq ?_ | refine gSk ?_ | refine gBl ?_ | refine gIb ?_ | refine gEx rfl ?_
  | ((first
  | (refine gRg [] [0, 2, 4, 7, 8, 9, 10, 11, 42] ?_; intro K hK)
  | (refine gd_split ?_ ?_ <;> intro hb <;> (try simp only [bls] at hb) <;> (try simp only [hb]))
  | refine gRt [] [.tmp 2] rfl ?_ | refine gDn [] [.tmp 2] rfl ?_) <;> (try simp only [go_sem, simprocAttr, e4]))
  | (refine hK _ _ ?_; clear hK K; simp only [go_sem, simprocAttr])
  | refine gCd (by simp only [go_sem, simprocAttr]; rfl) rfl ?_
  | refine brT ?_ | refine brF ?_
  | (refine brS ?_ ?_ <;> intro hc <;> (try simp only [bls] at hc) <;> (try simp only [hc, bls]))
  | intro _ | refine And.intro ?_ ?_)
      all_goals first | omega | (unfold bigLen; omega) | exact ⟨_, _, ⟨rfl, rfl⟩, rfl⟩ | exact ⟨_, rfl⟩ | (rename_i hy; simp only [List.mem_singleton] at hy; subst hy; rfl) | with_reducible rfl | skip
theorem pcount_c (q f : Bool) (l : List Node) (hl : ndOk l) : ACall Try.prog 29 [.sl q f (nodes l)] [] fun r s => r = .int .i64 (countedP l) ∧ s = [] := by
  have hp := pright_c q f l hl
  obtain ⟨S, hS⟩ : ∃ S, S = countedP l := ⟨_, rfl⟩
  rw [← hS]
  rw [countedP] at hS
  cases h3 : rightP l
  · rw [h3] at hp hS
    simp only [Bool.false_eq_true, if_false] at hS
    subst hS
    refine ACall.enter Try.func29 rfl (by kernel_rfl) (Nat.le_of_ble_eq_true rfl) ?_; simp only [initTm, Nat.reduceAdd]
    repeat' (first
  | refine gSq ?_ | refine gSk ?_ | refine gBl ?_ | refine gIb ?_ | refine gEx rfl ?_
  | ((first
  | (refine gRg [] [0, 2, 3, 5, 8, 9, 10, 11, 12, 22] ?_; intro K hK)
  | refine cAl (hp) rfl rfl rfl ?_
  | (refine gd_split ?_ ?_ <;> intro hb <;> (try simp only [bls] at hb) <;> (try simp only [hb]))
  | refine gRt [] [.tmp 2] rfl ?_ | refine gDn [] [.tmp 2] rfl ?_) <;> (try simp only [go_sem, simprocAttr]))
  | (refine hK _ _ ?_; clear hK K; simp only [go_sem, simprocAttr])
  | refine gCd (by simp only [go_sem, simprocAttr]; rfl) rfl ?_
  | refine brT ?_ | refine brF ?_
  | (refine brS ?_ ?_ <;> intro hc <;> (try simp only [bls] at hc) <;> (try simp only [hc, bls]))
  | intro _ | refine And.intro ?_ ?_)
    all_goals first | omega | (unfold bigLen; omega) | exact ⟨_, _, ⟨rfl, rfl⟩, rfl⟩ | exact ⟨_, rfl⟩ | (rename_i hy; simp only [List.mem_singleton] at hy; subst hy; rfl) | with_reducible rfl | skip
  · rw [h3] at hp hS
    simp only [if_true] at hS
    have hl1 : l.length ≤ 1024 := by
      simp only [rightP, Bool.and_eq_true] at h3
      exact (plain_plOk h3.1).1
    clear h3
    refine ACall.enter Try.func29 rfl (by kernel_rfl) (Nat.le_of_ble_eq_true rfl) ?_; simp only [initTm, Nat.reduceAdd]
    repeat' (first
  | refine gSq ?_ | refine gSk ?_ | refine gBl ?_ | refine gIb ?_ | refine gEx rfl ?_
  | ((first
  | (refine gRg [] [0, 2, 3, 5, 8, 9, 10, 11, 12, 22] ?_; intro K hK)
  | refine cAl (hp) rfl rfl rfl ?_
  | (refine gd_split ?_ ?_ <;> intro hb <;> (try simp only [bls] at hb) <;> (try simp only [hb]))
  | refine gRt [] [.tmp 2] rfl ?_ | refine gDn [] [.tmp 2] rfl ?_) <;> (try simp only [go_sem, simprocAttr]))
  | (refine hK _ _ ?_; clear hK K; simp only [go_sem, simprocAttr])
  | refine gCd (by simp only [go_sem, simprocAttr]; rfl) rfl ?_
  | refine brT ?_ | refine brF ?_
  | (refine brS ?_ ?_ <;> intro hc <;> (try simp only [bls] at hc) <;> (try simp only [hc, bls]))
  | intro _ | refine And.intro ?_ ?_)
    all_goals first | omega | (unfold bigLen; omega) | exact ⟨_, _, ⟨rfl, rfl⟩, rfl⟩ | exact ⟨_, rfl⟩ | (rename_i hy; simp only [List.mem_singleton] at hy; subst hy; rfl) | with_reducible rfl | skip
    refine AGood.prune [0, 2, 3, 9, 10, 11] ?_; simp only [go_sem, simprocAttr]
    refine AGood.loopInv (α := Nat × Nat) (fun x => ([(0, .sl q f (nodes l)), (2, .int .i64 0), (3, .int .i64 x.2), (9, .sl q f (nodes l)), (10, .int .i64 l.length), (11, .int .i64 x.1)], []))
      (fun x => x.1 ≤ l.length ∧ x.2 ≤ x.1 ∧ S = x.2 + (l.drop x.1).countP cntB) (fun x => l.length - x.1) (0, 0) ⟨Nat.zero_le _, Nat.zero_le _, by simpa using hS⟩ rfl ?_
    rintro ⟨i, c⟩ ⟨hi, hc, hrun⟩ ih
    simp only at hi hc hrun ih ⊢
    by_cases hle : i < l.length
    · have e4 : (i : Int) < l.length := by omega
      have e5 : (0 : Int) ≤ i := by omega
      have hx : l[i]? = some l[i] := List.getElem?_eq_getElem hle
      have hdr : l.drop i = l[i] :: l.drop (i + 1) := List.drop_eq_getElem_cons hle
      rw [hdr, List.countP_cons] at hrun
      generalize l[i] = n at hx hrun
      have hst := pstar_c n
      obtain ⟨xo, ⟨xa, xb, xc, xd⟩, xl, xlo, xhi, xn⟩ := n
      simp only [starB, Node.cells, Node.cellsF] at hst
      simp only [cntB] at hrun
      by_cases h5 : xo = 5
      · subst h5
        by_cases hs : xlo = 0 ∧ xhi = -1
        · rw [decide_eq_true hs] at hst
          simp only [hs, and_self, not_true_eq_false, and_false, decide_false, Bool.false_eq_true, if_false] at hrun
          repeat' (first
  | refine gSq ?_ | refine gSk ?_ | refine gBl ?_ | refine gIb ?_ | refine gEx rfl ?_
  | ((first
  | (refine gRg [] [0, 2, 3, 5, 8, 9, 10, 11, 12, 22] ?_; intro K hK)
  | refine cAl (hst) rfl rfl rfl ?_
  | (refine gd_split ?_ ?_ <;> intro hb <;> (try simp only [bls] at hb) <;> (try simp only [hb]))
  | refine gRt [] [.tmp 2] rfl ?_ | refine gDn [] [.tmp 2] rfl ?_) <;> (try simp only [go_sem, simprocAttr, e4, e5, hx, Option.some.injEq, forall_eq']))
  | (refine hK _ _ ?_; clear hK K; simp only [go_sem, simprocAttr])
  | refine gCd (by simp only [go_sem, simprocAttr]; rfl) rfl ?_
  | refine brT ?_ | refine brF ?_
  | (refine brS ?_ ?_ <;> intro hc <;> (try simp only [bls] at hc) <;> (try simp only [hc, bls]))
  | intro _ | refine And.intro ?_ ?_)
          all_goals first | omega | (unfold bigLen; omega) | exact ⟨_, _, ⟨rfl, rfl⟩, rfl⟩ | exact ⟨_, rfl⟩ | (rename_i hy; simp only [List.mem_singleton] at hy; subst hy; rfl) | with_reducible rfl | skip
          refine AGood.filt [] ?_
          simp only [sf_cons, sf_nil, go_sem, simprocAttr]
          refine AGood.prune [0, 2, 3, 9, 10, 11] ?_; simp only [go_sem, simprocAttr]
          exact (ih (i + 1, c) ⟨by simp only; omega, by simp only; omega, by simp only; omega⟩ (by simp only; omega)).cast rfl rfl
        · rw [decide_eq_false hs] at hst
          simp only [hs, not_false_eq_true, and_self, decide_true, if_true] at hrun
          have e6 : (c : Int) + 1 = ((c + 1 : Nat) : Int) := by omega
          repeat' (first
  | refine gSq ?_ | refine gSk ?_ | refine gBl ?_ | refine gIb ?_ | refine gEx rfl ?_
  | ((first
  | (refine gRg [] [0, 2, 3, 5, 8, 9, 10, 11, 12, 22] ?_; intro K hK)
  | refine cAl (hst) rfl rfl rfl ?_
  | (refine gd_split ?_ ?_ <;> intro hb <;> (try simp only [bls] at hb) <;> (try simp only [hb]))
  | refine gRt [] [.tmp 2] rfl ?_ | refine gDn [] [.tmp 2] rfl ?_) <;> (try simp only [go_sem, simprocAttr, e4, e5, e6, hx, Option.some.injEq, forall_eq']))
  | (refine hK _ _ ?_; clear hK K; simp only [go_sem, simprocAttr])
  | refine gCd (by simp only [go_sem, simprocAttr]; rfl) rfl ?_
  | refine brT ?_ | refine brF ?_
  | (refine brS ?_ ?_ <;> intro hc <;> (try simp only [bls] at hc) <;> (try simp only [hc, bls]))
  | intro _ | refine And.intro ?_ ?_)
          all_goals first | omega | (unfold bigLen; omega) | exact ⟨_, _, ⟨rfl, rfl⟩, rfl⟩ | exact ⟨_, rfl⟩ | (rename_i hy; simp only [List.mem_singleton] at hy; subst hy; rfl) | with_reducible rfl | skip
          refine AGood.filt [] ?_
          simp only [sf_cons, sf_nil, go_sem, simprocAttr]
          refine AGood.prune [0, 2, 3, 9, 10, 11] ?_; simp only [go_sem, simprocAttr]
          exact (ih (i + 1, c + 1) ⟨by simp only; omega, by simp only; omega, by simp only; omega⟩ (by simp only; omega)).cast rfl rfl
      · simp only [h5, false_and, decide_false, Bool.false_eq_true, if_false] at hrun
        repeat' (first
  | refine gSq ?_ | refine gSk ?_ | refine gBl ?_ | refine gIb ?_ | refine gEx rfl ?_
  | ((first
  | (refine gRg [] [0, 2, 3, 5, 8, 9, 10, 11, 12, 22] ?_; intro K hK)
  | (refine gd_split ?_ ?_ <;> intro hb <;> (try simp only [bls] at hb) <;> (try simp only [hb]))
  | refine gRt [] [.tmp 2] rfl ?_ | refine gDn [] [.tmp 2] rfl ?_) <;> (try simp only [go_sem, simprocAttr, e4, e5, hx, h5, Option.some.injEq, forall_eq']))
  | (refine hK _ _ ?_; clear hK K; simp only [go_sem, simprocAttr])
  | refine gCd (by simp only [go_sem, simprocAttr]; rfl) rfl ?_
  | refine brT ?_ | refine brF ?_
  | (refine brS ?_ ?_ <;> intro hc <;> (try simp only [bls] at hc) <;> (try simp only [hc, bls]))
  | intro _ | refine And.intro ?_ ?_)
        all_goals first | omega | (unfold bigLen; omega) | exact ⟨_, _, ⟨rfl, rfl⟩, rfl⟩ | exact ⟨_, rfl⟩ | (rename_i hy; simp only [List.mem_singleton] at hy; subst hy; rfl) | with_reducible rfl | skip
        refine AGood.filt [] ?_
        simp only [sf_cons, sf_nil, go_sem, simprocAttr]
        refine AGood.prune [0, 2, 3, 9, 10, 11] ?_; simp only [go_sem, simprocAttr]
        exact (ih (i + 1, c) ⟨by simp only; omega, by simp only; omega, by simp only; omega⟩ (by simp only; omega)).cast rfl rfl
    · have e4 : ¬ (i : Int) < l.length := by omega
      rw [List.drop_eq_nil_of_le (by omega)] at hrun
      simp only [List.countP_nil, Nat.add_zero] at hrun
      subst hrun
      clear ih
      repeat' (first
  | refine gSq ?_ | refine gSk ?_ | refine gBl ?_ | refine gIb ?_ | refine gEx rfl ?_
  | ((first
  | (refine gRg [] [0, 2, 3, 5, 8, 9, 10, 11, 12, 22] ?_; intro K hK)
  | (refine gd_split ?_ ?_ <;> intro hb <;> (try simp only [bls] at hb) <;> (try simp only [hb]))
  | refine gRt [] [.tmp 2] rfl ?_ | refine gDn [] [.tmp 2] rfl ?_) <;> (try simp only [go_sem, simprocAttr, e4]))
  | (refine hK _ _ ?_; clear hK K; simp only [go_sem, simprocAttr])
  | refine gCd (by simp only [go_sem, simprocAttr]; rfl) rfl ?_
  | refine brT ?_ | refine brF ?_
  | (refine brS ?_ ?_ <;> intro hc <;> (try simp only [bls] at hc) <;> (try simp only [hc, bls]))
  | intro _ | refine And.intro ?_ ?_)
      all_goals first | omega | (unfold bigLen; omega) | exact ⟨_, _, ⟨rfl, rfl⟩, rfl⟩ | exact ⟨_, rfl⟩ | (rename_i hy; simp only [List.mem_singleton] at hy; subst hy; rfl) | with_reducible rfl | skip
end Go.Rad
/- The plain laws of plans. -/
namespace Go.Rad
open Go Fo

theorem shapeL_rep {b : Lb} {d : Nat} (h : shapeL b d = true) (h5 : b.op = 5) : d = 1 ∧ b.s = ISet.none ∧ b.name = ByteArray.empty ∧ 0 ≤ b.lo ∧ b.lo ≤ 4096 ∧ (b.hi = -1 ∨ 1 ≤ b.hi ∧ b.hi ≤ 4096 ∧ b.lo ≤ b.hi) := by
  simp only [shapeL, shapeOk, h5] at h
  simp only [show ¬ (5 : Int) = 1 by decide, show ¬ (5 : Int) = 2 by decide, show ¬ ((5 : Int) = 3 ∨ (5 : Int) = 4) by decide, if_false, if_true, Bool.and_eq_true, Bool.not_eq_true', decide_eq_true_eq, decide_eq_false_iff_not, Decidable.not_not, List.length_replicate] at h
  obtain ⟨⟨⟨⟨h1, h2⟩, h3⟩, h4⟩, h6⟩ := h
  exact ⟨h3, h1, h2, h4.1, h4.2, h6⟩
theorem shapeL_bare {b : Lb} {d : Nat} (h : shapeL b d = true) (h5 : b.op ≠ 5) (h6 : b.op ≠ 6) : b.bare = b := by
  obtain ⟨op, s, lo, hi, nm⟩ := b
  simp only at h5 h6
  simp only [Lb.bare, Lb.mk.injEq, true_and]
  simp only [shapeL, shapeOk, if_neg h5, if_neg h6] at h
  split at h
  · simp only [Bool.and_eq_true, Bool.not_eq_true', decide_eq_false_iff_not, Decidable.not_not] at h
    exact ⟨by omega, by omega, h.1.2.symm⟩
  · split at h
    · simp only [Bool.and_eq_true, Bool.not_eq_true', decide_eq_false_iff_not, Decidable.not_not] at h
      exact ⟨by omega, by omega, h.1.2.symm⟩
    · split at h
      · simp only [Bool.and_eq_true, Bool.not_eq_true', decide_eq_false_iff_not, Decidable.not_not] at h
        exact ⟨by omega, by omega, h.1.2.symm⟩
      · cases h
abbrev no6 (f : Fo) : Bool := f.all fun b _ => decide (b.op ≠ 6)
theorem shape_one {f : Fo} (h : f.shapeF = true) : repOne f = true := by
  refine all_mono (fun b k hb => ?_) h
  simp only [decide_eq_true_eq]
  exact fun h5 => (shapeL_rep hb h5).1
theorem shape_bare {f : Fo} (h : f.shapeF = true) (h6 : no6 f = true) : bareOk f = true := by
  have h2 : f.all (fun b k => shapeL b k.deg && decide (b.op ≠ 6)) = true := by rw [all_and]; simp only [shapeF] at h; rw [h]; exact h6
  refine all_mono (fun b k hb => ?_) h2
  simp only [Bool.and_eq_true, decide_eq_true_eq] at hb ⊢
  by_cases h5 : b.op = 5
  · exact .inl h5
  · exact .inr (shapeL_bare hb.1 h5 hb.2)
theorem plain_fo (l : List Node) : plainS l = true ↔ ∃ f : Fo, f.deg = 1 ∧ l = f.lay 0 ∧ f.shapeF = true ∧ f.size ≤ 1024 ∧ no6 f = true := by
  have hno : ∀ f : Fo, (f.lay 0).all plainN = no6 f := fun f => lay_all0 fun n k _ => rfl
  constructor
  · intro h
    simp only [plainS, Bool.and_eq_true] at h
    obtain ⟨h1, h2⟩ := h
    rw [← right_eq] at h2
    obtain ⟨f, a, rfl, b, c⟩ := right_iff.1 h2
    exact ⟨f, a, rfl, b, c, by rw [← hno]; exact h1⟩
  · rintro ⟨f, a, rfl, b, c, d⟩
    simp only [plainS, Bool.and_eq_true]
    exact ⟨by rw [hno]; exact d, by rw [← right_eq]; exact right_iff.2 ⟨f, a, rfl, b, c⟩⟩

/-! A plan's nodes. -/
/-- A label that may stand in a plan. -/
def goodL (most : Int) (b : Lb) (k : Fo) : Bool := shapeL b k.deg && decide (b.op ≠ 6) && decide (b.op = 5 → b = repL 0 (-1) ∨ (b = repL b.lo b.hi ∧ k.isBytes = true ∧ 1 ≤ b.lo ∧ 2 ≤ b.hi ∧ most < b.hi))
abbrev goodP (most : Int) (f : Fo) : Bool := f.all (goodL most)
theorem shapeL_cat {d : Nat} (h : 2 ≤ d) : shapeL (opL 3) d = true := by
  simp only [shapeL, shapeOk, opL, List.length_replicate, ISet.none]
  simp [h]
theorem good_cat {most : Int} {k : Fo} (h : 2 ≤ k.deg) : goodL most (opL 3) k = true := by
  simp only [goodL, shapeL_cat h, Bool.true_and, Bool.and_eq_true, decide_eq_true_eq]
  exact ⟨by decide, fun h => absurd h (by decide)⟩
theorem good_alt {most : Int} {k : Fo} (h : k.deg = 2) : goodL most (opL 4) k = true := by
  simp only [goodL, h, Bool.and_eq_true, decide_eq_true_eq]
  exact ⟨⟨by decide, by decide⟩, fun h => absurd h (by decide)⟩
theorem good_empty {most : Int} : goodL most (opL 1) .nil = true := by
  simp only [goodL, Bool.and_eq_true, decide_eq_true_eq]
  exact ⟨⟨by decide, by decide⟩, fun h => absurd h (by decide)⟩
theorem good_star {most : Int} {k : Fo} (h : k.deg = 1) : goodL most (repL 0 (-1)) k = true := by
  simp only [goodL, h, Bool.and_eq_true, decide_eq_true_eq]
  exact ⟨⟨by decide, by decide⟩, by simp⟩
theorem good_rep {most lo hi : Int} {k : Fo} (h : k.deg = 1) (hb : k.isBytes = true) (h1 : 1 ≤ lo) (h2 : lo ≤ hi) (h3 : hi ≤ 4096) (h4 : 2 ≤ hi) (h5 : most < hi) : goodL most (repL lo hi) k = true := by
  simp only [goodL, h, Bool.and_eq_true, decide_eq_true_eq]
  refine ⟨⟨?_, by simp [repL]⟩, fun _ => .inr ⟨rfl, hb, h1, h4, h5⟩⟩
  have e : hi = -1 ∨ 1 ≤ hi ∧ hi ≤ 4096 ∧ lo ≤ hi := by omega
  have e1 : 0 ≤ lo := by omega
  have e2 : lo ≤ 4096 := by omega
  simp [shapeL, shapeOk, repL, e, e1, e2]
theorem all_one {P : Lb → Fo → Bool} {b : Lb} {k : Fo} : (one b k).all P = (P b k && k.all P) := by simp only [all, Bool.and_true]
section
variable {most : Int} {p : Fo} (hp : goodP most p = true) (hd : p.deg = 1)
include hp hd
theorem good_starT : goodP most p.starT = true := by
  simp only [goodP, starT, all_one, Bool.and_eq_true]; exact ⟨good_star hd, hp⟩
theorem good_rest : ∀ m, goodP most (restT p (m + 1)) = true
  | 0 => by
    simp only [goodP, restT, if_true, all_one, all_app, Bool.and_eq_true]
    exact ⟨good_alt (by simp only [deg_app, hd, deg]), ⟨good_empty, rfl⟩, hp⟩
  | m + 1 => by
    rw [restT, if_neg (by omega)]
    simp only [goodP, all_one, all_app, Bool.and_eq_true]
    refine ⟨good_alt (by simp only [deg_app, deg]), ⟨good_empty, rfl⟩, good_cat (by rw [deg_app, hd, rest_deg]; exact Nat.le_refl _), hp, good_rest m⟩
theorem good_copies : ∀ n, goodP most (copies p n) = true
  | 0 => rfl
  | n + 1 => by simp only [goodP, copies, all_app, Bool.and_eq_true]; exact ⟨hp, good_copies n⟩
omit hp in
theorem copies_deg : ∀ n, (copies p n).deg = n
  | 0 => rfl
  | n + 1 => by simp only [copies, deg_app, hd, copies_deg n]; omega
theorem good_row {lo hi : Int} (h0 : 0 ≤ lo) (h : hi = -1 ∨ 1 ≤ hi) : goodP most (p.rowT lo hi) = true := by
  have h1 : goodP most (rowOf p lo hi) = true := by
    simp only [goodP, rowOf, all_app, Bool.and_eq_true]
    refine ⟨good_copies hp hd _, ?_⟩
    split
    · exact good_starT hp hd
    · split
      · obtain ⟨m, hm⟩ : ∃ m, (hi - lo).toNat = m + 1 := ⟨(hi - lo).toNat - 1, by omega⟩
        rw [hm]; exact good_rest hp hd m
      · rfl
  have h2 : 1 ≤ (rowOf p lo hi).deg := by
    simp only [rowOf, deg_app, copies_deg hd]
    split
    · simp only [starT, deg]; omega
    · split
      · obtain ⟨m, hm⟩ : ∃ m, (hi - lo).toNat = m + 1 := ⟨(hi - lo).toNat - 1, by omega⟩
        rw [hm, rest_deg]; omega
      · omega
  unfold rowT catT
  split
  · exact h1
  · simp only [goodP, all_one, Bool.and_eq_true]
    exact ⟨good_cat (by omega), h1⟩
theorem good_repT {lo hi : Int} {bytes : Bool} (hm : 1 ≤ most) (hb : bytes = true → p.isBytes = true) (h0 : 0 ≤ lo ∧ lo ≤ 4096) (h : hi = -1 ∨ 1 ≤ hi ∧ hi ≤ 4096 ∧ lo ≤ hi) : goodP most (repT most lo hi bytes p) = true := by
  unfold repT
  split
  · exact good_row hp hd h0.1 (by omega)
  · rename_i hbt
    have hb := hb (by simpa using hbt)
    split
    · split
      · simp only [goodP, all_one, Bool.and_eq_true]
        exact ⟨good_rep hd hb (by omega) (by omega) (by omega) (by omega) (by omega), hp⟩
      · simp only [goodP, all_one, all_app, Bool.and_eq_true]
        exact ⟨good_alt (by simp only [deg_app, deg]), ⟨good_empty, rfl⟩, good_rep hd hb (by omega) (by omega) (by omega) (by omega) (by omega), hp⟩
    · split
      · rename_i hc
        simp only [goodP, all_one, all_app, Bool.and_eq_true]
        exact ⟨good_cat (by simp only [deg_app, deg, starT]; omega), ⟨good_rep hd hb (by omega) (by omega) (by omega) (by omega) (by omega), hp⟩, good_starT hp hd⟩
      · exact good_row hp hd h0.1 (by omega)
end
theorem isBytes_plan {most : Int} {k : Fo} (h : k.isBytes = true) : (k.planT most).isBytes = true := by
  match k, h with
  | .node b k1 r, h =>
    simp only [isBytes, decide_eq_true_eq] at h
    simp only [planT, h, show ¬ (2 : Int) = 5 by decide, if_false, app, isBytes, Lb.bare, decide_true]
theorem plan_good {most : Int} (hm : 1 ≤ most) : ∀ {f : Fo}, f.shapeF = true → no6 f = true → goodP most (f.planT most) = true
  | .nil, _, _ => rfl
  | .node b k r, h, h6 => by
    simp only [shapeF, no6, all, Bool.and_eq_true, decide_eq_true_eq] at h h6
    have hk := plan_good hm h.1.2 h6.1.2
    have hr := plan_good hm h.2 h6.2
    simp only [goodP, planT, all_app, Bool.and_eq_true]
    refine ⟨?_, hr⟩
    split
    · rename_i h5
      obtain ⟨q1, _, _, q4, q5, q6⟩ := shapeL_rep h.1.1 h5
      exact good_repT hk (by rw [planT_deg]; exact q1) hm isBytes_plan ⟨q4, q5⟩ q6
    · rename_i h5
      simp only [all_one, Bool.and_eq_true]
      refine ⟨?_, hk⟩
      rw [shapeL_bare h.1.1 h5 h6.1.1]
      simp only [goodL, planT_deg, Bool.and_eq_true, decide_eq_true_eq]
      exact ⟨⟨h.1.1, h6.1.1⟩, fun h => absurd h h5⟩
theorem good_shape {most : Int} {f : Fo} (h : goodP most f = true) : f.shapeF = true ∧ no6 f = true :=
  ⟨all_mono (fun b k hb => by simp only [goodL, Bool.and_eq_true] at hb; exact hb.1.1) h, all_mono (fun b k hb => by simp only [goodL, Bool.and_eq_true] at hb; exact hb.1.2) h⟩

/-! The plan of a plan. -/
theorem plan_again {most : Int} (hm : 1 ≤ most) : ∀ {f : Fo}, goodP most f = true → f.planT most = f
  | .nil, _ => rfl
  | .node b k r, h => by
    simp only [goodP, all, Bool.and_eq_true] at h
    obtain ⟨⟨h1, h2⟩, h3⟩ := h
    rw [planT, plan_again hm h2, plan_again hm h3]
    simp only [goodL, Bool.and_eq_true, decide_eq_true_eq] at h1
    obtain ⟨⟨a1, a2⟩, a3⟩ := h1
    have hone : ∀ b : Lb, (one b k).app r = .node b k r := fun b => rfl
    split
    · rename_i h5
      rcases a3 h5 with e | ⟨e, e1, e2, e3, e4⟩
      · have e5 : repT most b.lo b.hi k.isBytes k = one b k := by
          have r1 : k.rowT 0 (-1) = one (repL 0 (-1)) k := by simp only [rowT, rowOf, Int.toNat_zero, copies, app, if_true, catT, starT, deg]
          rw [e]
          simp only [repL]
          unfold repT
          split
          · exact r1
          · rw [if_neg (by omega), if_neg (by omega)]; exact r1
        rw [e5]; exact hone b
      · have e5 : repT most b.lo b.hi k.isBytes k = one b k := by
          unfold repT
          rw [e1, if_neg (by decide), if_pos e4, if_pos (by omega), ← e]
        rw [e5]; exact hone b
    · rename_i h5
      rw [shapeL_bare a1 h5 a2]; exact hone b
/-- Without repetitions a tree stays. -/
theorem plan_stay {most : Int} : ∀ {f : Fo}, f.shapeF = true → no6 f = true → f.all (fun b _ => decide (b.op ≠ 5)) = true → f.planT most = f
  | .nil, _, _, _ => rfl
  | .node b k r, h, h6, h5 => by
    simp only [shapeF, no6, all, Bool.and_eq_true, decide_eq_true_eq] at h h6 h5
    rw [planT, plan_stay h.1.2 h6.1.2 h5.1.2, plan_stay h.2 h6.2 h5.2, if_neg h5.1.1, shapeL_bare h.1.1 h5.1.1 h6.1.1]
    rfl

/-! What both tell. -/
theorem plan_tells {f : Fo} {most : Int} (hd : f.deg = 1) (hs : f.shapeF = true) (hz : f.size ≤ 1024) (h6 : no6 f = true) (hm : 1 ≤ most ∧ most ≤ 4096) :
    planS (f.lay 0) most = (if (f.planT most).size ≤ 1024 then ((f.planT most).lay 0, 0) else ([], 3)) := by
  have hp : plainS (f.lay 0) = true := (plain_fo _).2 ⟨f, hd, rfl, hs, hz, h6⟩
  have hsub := sub_lay hd
  obtain ⟨a, _⟩ := plan_ok most f [(f.size : Int) - 1] (f.lay 0).length hsub (by rw [lay_len]; exact Nat.le_refl _) (shape_one hs)
  obtain ⟨a1, a2⟩ := a _ rfl []
  simp only [List.length_nil, Nat.zero_add, List.nil_append, lay_len] at a1 a2
  rw [planS, if_neg (by rw [hp]; simp; omega), lay_len]
  by_cases h : (f.planT most).size ≤ 1024
  · have e := congrArg Prod.fst (a1 h)
    simp only [sg] at e
    rw [if_pos h, e, if_neg (by rw [lay_len]; omega)]
  · have e := a2 (by omega)
    rw [if_neg h, if_pos e]
theorem ref8utells {f : Fo} {most : Int} (hd : f.deg = 1) (hs : f.shapeF = true) (hz : f.size ≤ 1024) (h6 : no6 f = true) (hm : 1 ≤ most ∧ most ≤ 4096) :
    ref8S (f.lay 0) most = (if (f.planT most).size ≤ 1024 then ((f.planT most).lay 0, 0) else ([], 3)) ∧ ((planR (f.lay 0) most (f.lay 0).length (((f.lay 0).length : Int) - 1) ([], false)).1.2 = false → (planR (f.lay 0) most (f.lay 0).length (((f.lay 0).length : Int) - 1) ([], false)).1.1 = (f.planT most).lay 0 ∧ (f.planT most).size ≤ 1024) := by
  have hp : plainS (f.lay 0) = true := (plain_fo _).2 ⟨f, hd, rfl, hs, hz, h6⟩
  have hsub := sub_lay hd
  obtain ⟨a, _⟩ := planR_ok most f [(f.size : Int) - 1] (f.lay 0).length hsub (by rw [lay_len]; exact Nat.le_refl _) (shape_one hs) (shape_bare hs h6)
  obtain ⟨a1, a2⟩ := (a _ rfl).1 [] (Nat.zero_le _)
  simp only [List.length_nil, Nat.zero_add, List.nil_append, lay_len, sgR] at a1 a2
  have hg := good_shape (plan_good hm.1 hs h6 (most := most))
  rw [ref8S, if_neg (by rw [hp]; simp; omega)]
  simp only [lay_len]
  by_cases h : (f.planT most).size ≤ 1024
  · have e := congrArg Prod.fst (a1 h)
    simp only at e
    rw [if_pos h, e]
    have hr : right4 ((f.planT most).lay 0) = true := by
      rw [← right_eq]
      exact right_iff.2 ⟨_, by rw [planT_deg]; exact hd, rfl, hg.1, h⟩
    refine ⟨?_, fun _ => ⟨rfl, h⟩⟩
    rw [hr]; rfl
  · have e := a2 (by omega)
    rw [if_neg h, e]
    exact ⟨rfl, fun h => by cases h⟩

theorem plan_eq (l : List Node) (most : Int) : ref8S l most = planS l most := by
  by_cases hm : 1 ≤ most ∧ most ≤ 4096
  · cases hp : plainS l
    · rw [ref8S, planS, if_pos (.inl hp), if_pos (.inr (.inr hp))]
    · obtain ⟨f, a, rfl, b, c, d⟩ := (plain_fo l).1 hp
      rw [(ref8utells a b c d hm).1, plan_tells a b c d hm]
  · rw [ref8S, planS, if_pos (by omega), if_pos (by omega)]
/-- What a plan's nodes are like. -/
theorem planS_tree (l : List Node) (most : Int) : (planS l most = ([], 1) ∧ ¬ (plainS l = true ∧ 1 ≤ most ∧ most ≤ 4096)) ∨ (plainS l = true ∧ (1 ≤ most ∧ most ≤ 4096) ∧ ∃ f : Fo, f.deg = 1 ∧ l = f.lay 0 ∧ f.shapeF = true ∧ f.size ≤ 1024 ∧ no6 f = true ∧ planS l most = (if (f.planT most).size ≤ 1024 then ((f.planT most).lay 0, 0) else ([], 3))) := by
  by_cases hm : 1 ≤ most ∧ most ≤ 4096
  · cases hp : plainS l
    · left
      exact ⟨by rw [planS, if_pos (.inr (.inr hp))], by simp⟩
    · right
      obtain ⟨f, a, rfl, b, c, d⟩ := (plain_fo l).1 hp
      exact ⟨rfl, hm, f, a, rfl, b, c, d, plan_tells a b c d hm⟩
  · left
    exact ⟨by rw [planS, if_pos (by omega)], fun h => hm h.2⟩
theorem good_plain {most : Int} {f : Fo} (hd : f.deg = 1) (hg : goodP most f = true) (hz : f.size ≤ 1024) : plainS (f.lay 0) = true :=
  (plain_fo _).2 ⟨f, hd, rfl, (good_shape hg).1, hz, (good_shape hg).2⟩
theorem plainS_nd {l : List Node} (h : plainS l = true) : (∀ n ∈ l, n.name.size ≤ maxLen ∧ n.l.length ≤ maxLen) ∧ l.length ≤ 1024 := by
  simp only [plainS, Bool.and_eq_true] at h
  have hr := h.2
  rw [← right_eq] at hr
  exact ⟨rightS_bounds hr, (rightS_kids hr).2.2.2⟩
theorem planS_nd (l : List Node) (most : Int) : (∀ n ∈ (planS l most).1, n.name.size ≤ maxLen ∧ n.l.length ≤ maxLen) ∧ (planS l most).1.length ≤ 1024 := by
  rcases planS_tree l most with ⟨e, _⟩ | ⟨_, hm, f, a, _, b, c, d, e⟩
  · rw [e]; exact ⟨fun n hn => by simp at hn, by simp⟩
  · rw [e]
    split
    · rename_i h
      exact plainS_nd (good_plain (by rw [planT_deg]; exact a) (plan_good hm.1 b d (most := most)) h)
    · exact ⟨fun n hn => by simp at hn, by simp⟩
theorem planR_nd {l : List Node} {most : Int} (h : plainS l = true) (hm : 1 ≤ most ∧ most ≤ 4096) (hl : (planR l most l.length ((l.length : Int) - 1) ([], false)).1.2 = false) : ∀ n ∈ (planR l most l.length ((l.length : Int) - 1) ([], false)).1.1, n.l.length ≤ maxLen ∧ n.name.size ≤ maxLen := by
  obtain ⟨f, a, rfl, b, c, d⟩ := (plain_fo l).1 h
  obtain ⟨e1, e2⟩ := (ref8utells a b c d hm).2 hl
  rw [e1]
  intro n hn
  exact And.symm ((plainS_nd (good_plain (by rw [planT_deg]; exact a) (plan_good hm.1 b d (most := most)) e2)).1 n hn)
/-- Whether a tree is a plan, by its forest. -/
def isP (f : Fo) : Bool := f.all fun b k => !decide (b.op = 5 ∧ ¬ (b.lo = 0 ∧ b.hi = -1) ∧ (k.isBytes = false ∨ b.lo < 1 ∨ b.hi < 2))
theorem right_fo {f : Fo} (hd : f.deg = 1) (hs : f.shapeF = true) (hz : f.size ≤ 1024) (h6 : no6 f = true) : rightP (f.lay 0) = isP f := by
  rw [rightP, (plain_fo _).2 ⟨f, hd, rfl, hs, hz, h6⟩, Bool.true_and]
  have h1 := shape_one hs
  have key : (f.lay 0).all (fun n => (!badB (f.lay 0) n) && decide (n.op = 5 → n.l.length = 1)) = f.all fun b k => (!decide (b.op = 5 ∧ ¬ (b.lo = 0 ∧ b.hi = -1) ∧ (k.isBytes = false ∨ b.lo < 1 ∨ b.hi < 2))) && decide (b.op = 5 → k.deg = 1) := by
    refine lay_all0 fun n k hk => ?_
    have hl := hk.len
    by_cases h5 : n.op = 5
    · by_cases h1 : k.deg = 1
      · have hb := isBytes_sub hk h1
        have e : ((nAt (f.lay 0) (kid0 n)).op ≠ 2) = (k.isBytes = false) := by
          rw [← hb]; simp
        simp only [badB, e, hl]
      · simp only [hl, h5, h1, forall_const, decide_false, Bool.and_false]
    · simp [badB, h5]
  have hall : (f.lay 0).all (fun n => decide (n.op = 5 → n.l.length = 1)) = true := by
    rw [lay_all0 (P := fun b k => decide (b.op = 5 → k.deg = 1)) fun n k hk => by rw [hk.len]]; exact h1
  rw [all_and] at key
  unfold repOne at h1
  rw [h1, Bool.and_true] at key
  rw [isP, ← key]
  rw [Bool.eq_iff_iff, List.all_eq_true, List.all_eq_true]
  rw [List.all_eq_true] at hall
  constructor
  · intro h n hn; rw [h n hn, hall n hn]; rfl
  · intro h n hn; have := h n hn; simp only [Bool.and_eq_true] at this; exact this.1
theorem good_isP {most : Int} {f : Fo} (hg : goodP most f = true) : isP f = true := by
  refine all_mono (fun b k hb => ?_) hg
  simp only [goodL, Bool.and_eq_true, decide_eq_true_eq] at hb
  simp only [Bool.not_eq_true', decide_eq_false_iff_not]
  rintro ⟨h5, h1, h2⟩
  rcases hb.2 h5 with e | ⟨_, e1, e2, e3, _⟩
  · rw [e] at h1; exact h1 ⟨rfl, rfl⟩
  · rcases h2 with h2 | h2 | h2
    · rw [e1] at h2; cases h2
    · omega
    · omega
/-- A plan is one. -/
theorem plan_right {l : List Node} {most : Int} (h : (planS l most).2 = 0) : rightP (planS l most).1 = true := by
  rcases planS_tree l most with ⟨e, _⟩ | ⟨_, hm, f, a, _, b, c, d, e⟩
  · rw [e] at h; cases h
  · rw [e] at h ⊢
    split at h
    · rename_i hz
      rw [if_pos hz]
      have hg := plan_good hm.1 b d (most := most)
      rw [right_fo (by rw [planT_deg]; exact a) (good_shape hg).1 hz (good_shape hg).2]
      exact good_isP hg
    · cases h
theorem counted_eq (l : List Node) : (if rightP l = true then l.countP (fun n => decide (n.op = 5 ∧ n.hi ≠ -1)) else 0) = countedP l := by
  unfold countedP
  split
  · rename_i h
    rw [rightP, Bool.and_eq_true, List.all_eq_true] at h
    refine List.countP_congr fun n hn => ?_
    have hb := h.2 n hn
    have hpl := h.1
    simp only [plainS, Bool.and_eq_true] at hpl
    have hr := hpl.2
    rw [← right_eq] at hr
    simp only [badB, Bool.not_eq_true', decide_eq_false_iff_not] at hb
    simp only [cntB, decide_eq_true_eq]
    constructor
    · rintro ⟨h5, h1⟩; exact ⟨h5, fun h => h1 h.2⟩
    · rintro ⟨h5, h1⟩
      refine ⟨h5, fun h => hb ⟨h5, h1, ?_⟩⟩
      omega
  · rfl

/-- What PlanRight tells, of a tree that could be planned. -/
theorem plan_facts {l : List Node} {most : Int} (h : (planS l most).2 = 0) : (∀ n ∈ (planS l most).1, n.op = 5 → n.hi = -1 ∨ most < n.hi) ∧ (l.all (fun n => decide (n.op ≠ 5)) = true → (planS l most).1 = l) := by
  rcases planS_tree l most with ⟨e, _⟩ | ⟨_, hm, f, a, rfl, b, c, d, e⟩
  · rw [e] at h; cases h
  · rw [e] at h ⊢
    split at h
    · rename_i hz
      rw [if_pos hz]
      have hg := plan_good hm.1 b d (most := most)
      constructor
      · have hall : ((f.planT most).lay 0).all (fun n => decide (n.op = 5 → n.hi = -1 ∨ most < n.hi)) = true := by
          rw [lay_all0 (P := fun b _ => decide (b.op = 5 → b.hi = -1 ∨ most < b.hi)) fun n k _ => rfl]
          refine all_mono (fun b k hb => ?_) hg
          simp only [goodL, Bool.and_eq_true, decide_eq_true_eq] at hb ⊢
          intro h5
          rcases hb.2 h5 with e | ⟨_, _, _, _, e⟩
          · rw [e]; exact .inl rfl
          · exact .inr e
        intro n hn
        exact of_decide_eq_true (List.all_eq_true.1 hall n hn)
      · intro h5
        rw [lay_all0 (P := fun b _ => decide (b.op ≠ 5)) fun n k _ => rfl] at h5
        simp only [plan_stay b d h5]
    · cases h
theorem plan_errs {l : List Node} {most : Int} (hm : 1 ≤ most ∧ most ≤ 4096) (h : (planS l most).2 ≠ 0) : (planS l most).1 = [] ∧ ((planS l most).2 = 3 ∨ plainS l = false) := by
  rcases planS_tree l most with ⟨e, e2⟩ | ⟨_, _, f, a, rfl, b, c, d, e⟩
  · rw [e]
    refine ⟨rfl, .inr ?_⟩
    cases hp : plainS l
    · rfl
    · exact absurd ⟨hp, hm⟩ e2
  · rw [e] at h ⊢
    split at h
    · exact absurd rfl h
    · rename_i hz
      rw [if_neg hz]
      exact ⟨rfl, .inl rfl⟩
end Go.Rad
