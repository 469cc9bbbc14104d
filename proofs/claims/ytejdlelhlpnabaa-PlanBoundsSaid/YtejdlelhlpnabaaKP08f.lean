/- Contracts: plan: a node's plan, and a tree's. -/
import Derived.Test.YtejdlelhlpnabaaKC04c
import Derived.Test.YtejdlelhlpnabaaKC05a
import Derived.Test.YtejdlelhlpnabaaKRRunC
import Derived.Test.YtejdlelhlpnabaaKRNode
set_option linter.all false
namespace Go.Rad
open Go Go.Proofs
set_option linter.all false
set_option maxRecDepth 20000
set_option maxHeartbeats 4000000

/-- Nodes as the code leans on them: kids ahead, one of a repetition, bounds small. -/
def plOk (l : List Node) : Prop := l.length ≤ 1024 ∧ ∀ (i : Nat) (n : Node), l[i]? = some n → n.l.length ≤ 1024 ∧ (∀ k ∈ n.l, 0 ≤ k ∧ k < (i : Int)) ∧ (n.op = 5 → n.l.length = 1) ∧ 0 ≤ n.lo ∧ n.lo ≤ 4096 ∧ n.hi ≤ 4096
theorem plOk_bnd {l : List Node} (h : plOk l) : bndOk l := fun n hn => by
  obtain ⟨i, hi⟩ := List.mem_iff_getElem?.1 hn
  have := (h.2 i n hi).2.2.2
  omega
theorem shape_pl {n : Node} (h : shapeOk n = true) : (n.op = 5 → n.l.length = 1) ∧ 0 ≤ n.lo ∧ n.lo ≤ 4096 ∧ n.hi ≤ 4096 := by
  by_cases h5 : n.op = 5
  · simp only [shapeOk, h5] at h
    simp only [show ¬ (5 : Int) = 1 by decide, show ¬ (5 : Int) = 2 by decide, show ¬ ((5 : Int) = 3 ∨ (5 : Int) = 4) by decide, if_false, if_true, Bool.and_eq_true, decide_eq_true_eq] at h
    exact ⟨fun _ => h.1.1.2, by omega⟩
  · have hb : n.lo = 0 ∧ n.hi = 0 := by
      simp only [shapeOk, if_neg h5] at h
      split at h
      · simp only [Bool.and_eq_true, Bool.not_eq_true', decide_eq_false_iff_not] at h; omega
      · split at h
        · simp only [Bool.and_eq_true, Bool.not_eq_true', decide_eq_false_iff_not] at h; omega
        · split at h
          · simp only [Bool.and_eq_true, Bool.not_eq_true', decide_eq_false_iff_not] at h; omega
          · split at h
            · simp only [Bool.and_eq_true, Bool.not_eq_true', decide_eq_false_iff_not] at h; omega
            · cases h
    exact ⟨fun h => absurd h h5, by omega⟩
theorem plain_plOk {l : List Node} (h : plainS l = true) : plOk l := by
  simp only [plainS, Bool.and_eq_true] at h
  have hr := h.2
  rw [← right_eq] at hr
  obtain ⟨_, hall, _, h4⟩ := rightS_kids hr
  have ht := rightS_ok hr fun n hn => (rightS_bounds hr n hn).1
  refine ⟨h4, fun i n hi => ?_⟩
  have hs := shape_pl (List.all_eq_true.1 hall n (List.mem_of_getElem? hi))
  simp only [rightS, Bool.and_eq_true] at hr
  have hk : n.l.length ≤ i := by
    obtain ⟨_, h3⟩ := hr
    split at h3
    · rename_i st hst
      have := (stk_below l 0 [] st hst (Nat.le_refl _) (fun k hk => by simp at hk) i n hi).1
      omega
    · cases h3
  have := (List.getElem?_eq_some_iff.1 hi).1
  exact ⟨by omega, (ht.2 i n hi).2.2, hs⟩
theorem pplan_c {q f : Bool} {l : List Node} {most : Int} (hl : plOk l) (hmost : 1 ≤ most ∧ most ≤ 4096) : ∀ (fu : Nat) (k : Nat), k < fu → k < l.length → fu ≤ 1024 → KidC Try.prog 38 q f l most (planM l most fu k) k := by
  intro fu
  induction fu with
  | zero => intro k h; omega
  | succ fu ih =>
    intro k hk hkl hfu g g1 out ho
    have hx : l[k]? = some l[k] := List.getElem?_eq_getElem hkl
    obtain ⟨m1, m2, m3, m4, m5, m6⟩ := hl.2 k _ hx
    generalize l[k] = n at hx m1 m2 m3 m4 m5 m6
    have hlen := fun k => plan_len (plOk_bnd hl) most fu k
    have hful := pfull_c q f l most g g1 out (by omega)
    have e1 : (k : Int) < l.length := by omega
    have e2 : (0 : Int) ≤ k := by omega
    rw [planM, nAt_get hx]
    by_cases h0 : 1024 < out.length
    · rw [if_pos h0]
      rw [show decide (1024 < out.length) = true by simpa using h0] at hful
      obtain ⟨xo, ⟨xa, xb, xc, xd⟩, xl, xlo, xhi, xn⟩ := n
      simp only [psto, pbx] at hful ⊢
      refine ACall.enter Try.func38 rfl (by kernel_rfl) (Nat.le_of_ble_eq_true rfl) ?_; simp only [initTm, Nat.reduceAdd]
      repeat' (first
  | refine gSq ?_ | refine gSk ?_ | refine gBl ?_ | refine gIb ?_ | refine gEx rfl ?_
  | ((first
  | (refine gRg [] [0, 1, 4, 5, 6, 8, 9, 17, 20, 28, 29, 30, 31] ?_; intro K hK)
  | (refine gDr 13 [] 9 [0, 1, 2, 3, 4, 5, 6, 7, 8, 9] [0, 1, 4, 5, 6, 8, 9, 17, 20, 28, 29, 30, 31] rfl ?_; intro K hK)
  | (refine ACall.use [(1000, 1000), (1001, 1001)] [] rfl (hful) rfl rfl rfl ?_; (first | rintro _ _ ⟨rfl, rfl⟩ | rintro _ _ ⟨rfl, h1, rfl⟩); refine ⟨.inl rfl, rfl, ?_⟩; simp only [bk, bk1, bkS, bkO, idOf, delAll, go_sem, simprocAttr])
  | (refine gd_split ?_ ?_ <;> intro hb <;> (try simp only [bls] at hb) <;> (try simp only [hb]))
  | refine gRt [1000, 1001] [.tmp 4] rfl ?_ | refine gDn [1000, 1001] [.tmp 4] rfl ?_) <;> (try simp only [go_sem, simprocAttr, hx, e1, e2, Option.some.injEq, forall_eq']))
  | (refine hK _ _ ?_; clear hK K; simp only [go_sem, simprocAttr])
  | refine gCd (by simp only [go_sem, simprocAttr]; rfl) rfl ?_
  | refine brT ?_ | refine brF ?_
  | (refine brS ?_ ?_ <;> intro hc <;> (try simp only [bls] at hc) <;> (try simp only [hc, bls]))
  | intro _ | refine And.intro ?_ ?_)
      all_goals first | omega | (unfold bigLen; omega) | exact ⟨_, _, ⟨rfl, rfl⟩, rfl⟩ | exact ⟨_, rfl⟩ | (rename_i hy; simp only [List.mem_singleton] at hy; subst hy; rfl) | with_reducible rfl | skip
    · rw [if_neg h0]
      rw [show decide (1024 < out.length) = false by simpa using h0] at hful
      by_cases h5 : n.op = 5
      · rw [if_pos h5]
        obtain ⟨kd, hkd⟩ : ∃ kd, n.l = [kd] := List.length_eq_one_iff.1 (m3 h5)
        have hk1 := m2 kd (by simp [hkd])
        obtain ⟨kid, rfl⟩ : ∃ kid : Nat, kd = kid := ⟨kd.toNat, by omega⟩
        have hm : l[kid]? = some (l[kid]'(by omega)) := List.getElem?_eq_getElem (by omega)
        have e3 : kid0 n = (kid : Int) := by simp [kid0, hkd]
        rw [e3, nAt_get hm]
        have hcall := prep_c (by have := hl.1; omega) hmost n _ kid hkd hm ⟨m4, m5⟩ m6 (ih kid (by omega) (by omega) (by omega)) (hlen kid) (by omega) (by omega) g g1 out (by omega)
        generalize repM (planM l most fu kid) most (decide ((l[kid]'(by omega)).op = 2)) n.lo n.hi out = a at hcall
        obtain ⟨xo, ⟨xa, xb, xc, xd⟩, xl, xlo, xhi, xn⟩ := n
        simp only at h5
        subst h5
        simp only [psto, pbx, Node.cells, Node.cellsF] at hful hcall ⊢
        refine ACall.enter Try.func38 rfl (by kernel_rfl) (Nat.le_of_ble_eq_true rfl) ?_; simp only [initTm, Nat.reduceAdd]
        repeat' (first
  | refine gSq ?_ | refine gSk ?_ | refine gBl ?_ | refine gIb ?_ | refine gEx rfl ?_
  | ((first
  | (refine gRg [] [0, 1, 4, 5, 6, 8, 9, 17, 20, 28, 29, 30, 31] ?_; intro K hK)
  | (refine gDr 13 [] 9 [0, 1, 2, 3, 4, 5, 6, 7, 8, 9] [0, 1, 4, 5, 6, 8, 9, 17, 20, 28, 29, 30, 31] rfl ?_; intro K hK)
  | (refine ACall.use [(1000, 1000), (1001, 1001)] [] rfl (hful) rfl rfl rfl ?_; (first | rintro _ _ ⟨rfl, rfl⟩ | rintro _ _ ⟨rfl, h1, rfl⟩); refine ⟨.inl rfl, rfl, ?_⟩; simp only [bk, bk1, bkS, bkO, idOf, delAll, go_sem, simprocAttr])
  | (refine ACall.use [(1000, 1000), (1001, 1001)] [] rfl (hcall) rfl rfl rfl ?_; (first | rintro _ _ ⟨rfl, rfl⟩ | rintro _ _ ⟨rfl, h1, rfl⟩); refine ⟨.inl rfl, rfl, ?_⟩; simp only [bk, bk1, bkS, bkO, idOf, delAll, go_sem, simprocAttr])
  | (refine gd_split ?_ ?_ <;> intro hb <;> (try simp only [bls] at hb) <;> (try simp only [hb]))
  | refine gRt [1000, 1001] [.tmp 4] rfl ?_ | refine gDn [1000, 1001] [.tmp 4] rfl ?_) <;> (try simp only [go_sem, simprocAttr, hx, e1, e2, Option.some.injEq, forall_eq']))
  | (refine hK _ _ ?_; clear hK K; simp only [go_sem, simprocAttr])
  | refine gCd (by simp only [go_sem, simprocAttr]; rfl) rfl ?_
  | refine brT ?_ | refine brF ?_
  | (refine brS ?_ ?_ <;> intro hc <;> (try simp only [bls] at hc) <;> (try simp only [hc, bls]))
  | intro _ | refine And.intro ?_ ?_)
        all_goals first | omega | (unfold bigLen; omega) | exact ⟨_, _, ⟨rfl, rfl⟩, rfl⟩ | exact ⟨_, rfl⟩ | (rename_i hy; simp only [List.mem_singleton] at hy; subst hy; rfl) | with_reducible rfl | skip
      · rw [if_neg h5]
        obtain ⟨xo, ⟨xa, xb, xc, xd⟩, xl, xlo, xhi, xn⟩ := n
        simp only at h5 m1 m2 ⊢
        obtain ⟨S, hS⟩ : ∃ S, S = kidsM (planM l most fu) xl out [] := ⟨_, rfl⟩
        rw [← hS]
        have hSl := kids_len hlen xl out []
        rw [← hS] at hSl
        simp only [List.length_nil] at hSl
        simp only [psto, pbx] at hful ⊢
        refine ACall.enter Try.func38 rfl (by kernel_rfl) (Nat.le_of_ble_eq_true rfl) ?_; simp only [initTm, Nat.reduceAdd]
        repeat' (first
  | refine gSq ?_ | refine gSk ?_ | refine gBl ?_ | refine gIb ?_ | refine gEx rfl ?_
  | ((first
  | (refine gRg [] [0, 1, 4, 5, 6, 8, 9, 17, 20, 28, 29, 30, 31] ?_; intro K hK)
  | (refine gDr 13 [] 9 [0, 1, 2, 3, 4, 5, 6, 7, 8, 9] [0, 1, 4, 5, 6, 8, 9, 17, 20, 28, 29, 30, 31] rfl ?_; intro K hK)
  | (refine ACall.use [(1000, 1000), (1001, 1001)] [] rfl (hful) rfl rfl rfl ?_; (first | rintro _ _ ⟨rfl, rfl⟩ | rintro _ _ ⟨rfl, h1, rfl⟩); refine ⟨.inl rfl, rfl, ?_⟩; simp only [bk, bk1, bkS, bkO, idOf, delAll, go_sem, simprocAttr])
  | (refine gd_split ?_ ?_ <;> intro hb <;> (try simp only [bls] at hb) <;> (try simp only [hb]))
  | refine gRt [1000, 1001] [.tmp 4] rfl ?_ | refine gDn [1000, 1001] [.tmp 4] rfl ?_) <;> (try simp only [go_sem, simprocAttr, hx, h5, e1, e2, Option.some.injEq, forall_eq']))
  | (refine hK _ _ ?_; clear hK K; simp only [go_sem, simprocAttr])
  | refine gCd (by simp only [go_sem, simprocAttr]; rfl) rfl ?_
  | refine brT ?_ | refine brF ?_
  | (refine brS ?_ ?_ <;> intro hc <;> (try simp only [bls] at hc) <;> (try simp only [hc, bls]))
  | intro _ | refine And.intro ?_ ?_)
        all_goals first | omega | (unfold bigLen; omega) | exact ⟨_, _, ⟨rfl, rfl⟩, rfl⟩ | exact ⟨_, rfl⟩ | (rename_i hy; simp only [List.mem_singleton] at hy; subst hy; rfl) | with_reducible rfl | skip
        rename_i h5b
        refine AGood.ownTm 6 900 1 (by decide) rfl fun g9 => ?_
        simp only [go_sem, simprocAttr]
        refine AGood.prune [0, 5, 6, 28, 29, 30] ?_; simp only [go_sem, simprocAttr]
        refine AGood.loopInv (α := Nat × List Node × List Int × Nat × Nat) (fun x => ([(0, .bx 1000 g 0), (5, .bx 5 h5b 0), (6, .osl 900 x.2.2.2.2 0 x.2.2.1.length), (28, .sl true false (ints xl)), (29, .int .i64 xl.length), (30, .int .i64 x.1)],
            [(5, h5b, .box [.int .u8 xo, .int .u64 xa, .int .u64 xb, .int .u64 xc, .int .u64 xd, .sl true false (ints xl), .int .i64 xlo, .int .i64 xhi, .str xn]), (900, x.2.2.2.2, .row 1 (ints x.2.2.1)), (1000, g, .box [.sl q f (nodes l), .int .i64 most, .osl 1001 x.2.2.2.1 0 x.2.1.length]), (1001, x.2.2.2.1, .row 9 (nodes x.2.1))]))
          (fun x => x.1 ≤ xl.length ∧ x.2.2.1.length = x.1 ∧ x.2.1.length ≤ 50000000 ∧ S = kidsM (planM l most fu) (xl.drop x.1) x.2.1 x.2.2.1) (fun x => xl.length - x.1) (0, out, [], g1, g9) ⟨Nat.zero_le _, rfl, by simp only; omega, hS⟩ rfl ?_
        rintro ⟨i, o, row, gg, g9⟩ ⟨hi, hrl, ho', hrun⟩ ih2
        simp only at hi hrl ho' hrun ih2 ⊢
        by_cases hle : i < xl.length
        · have e4 : (i : Int) < xl.length := by omega
          have e5 : (0 : Int) ≤ i := by omega
          have hx2 : xl[i]? = some xl[i] := List.getElem?_eq_getElem hle
          have hm := m2 xl[i] (List.getElem_mem hle)
          have hdr : xl.drop i = xl[i] :: xl.drop (i + 1) := List.drop_eq_getElem_cons hle
          rw [hdr, kidsM] at hrun
          generalize xl[i] = kd at hx2 hm hrun
          obtain ⟨kid, rfl⟩ : ∃ kid : Nat, kd = kid := ⟨kd.toNat, by omega⟩
          have b2 := hlen kid o
          have hp := ih kid (by omega) (by omega) (by omega) g gg o (by omega)
          generalize planM l most fu kid o = a at b2 hp hrun
          simp only [psto, pbx] at hp
          repeat' (first
  | refine gSq ?_ | refine gSk ?_ | refine gBl ?_ | refine gIb ?_ | refine gEx rfl ?_
  | ((first
  | (refine gRg [38] [0, 1, 4, 5, 6, 8, 9, 17, 20, 28, 29, 30, 31] ?_; intro K hK)
  | (refine gDr 13 [38] 9 [0, 1, 2, 3, 4, 5, 6, 7, 8, 9] [0, 1, 4, 5, 6, 8, 9, 17, 20, 28, 29, 30, 31] rfl ?_; intro K hK)
  | (refine ACall.use [(1000, 1000), (1001, 1001)] [] rfl (hp) rfl rfl rfl ?_; (first | rintro _ _ ⟨rfl, rfl⟩ | rintro _ _ ⟨rfl, h1, rfl⟩); refine ⟨.inl rfl, rfl, ?_⟩; simp only [bk, bk1, bkS, bkO, idOf, delAll, go_sem, simprocAttr])
  | (refine gd_split ?_ ?_ <;> intro hb <;> (try simp only [bls] at hb) <;> (try simp only [hb]))
  | refine gRt [1000, 1001] [.tmp 4] rfl ?_ | refine gDn [1000, 1001] [.tmp 4] rfl ?_) <;> (try simp only [go_sem, simprocAttr, e4, e5, hx2, Option.some.injEq, forall_eq']))
  | (refine hK _ _ ?_; clear hK K; simp only [go_sem, simprocAttr])
  | refine gCd (by simp only [go_sem, simprocAttr]; rfl) rfl ?_
  | refine brT ?_ | refine brF ?_
  | (refine brS ?_ ?_ <;> intro hc <;> (try simp only [bls] at hc) <;> (try simp only [hc, bls]))
  | intro _ | refine And.intro ?_ ?_)
          all_goals first | omega | (unfold bigLen; omega) | exact ⟨_, _, ⟨rfl, rfl⟩, rfl⟩ | exact ⟨_, rfl⟩ | (rename_i hy; simp only [List.mem_singleton] at hy; subst hy; rfl) | with_reducible rfl | skip
          rename_i h'
          refine AGood.filt [5, 900, 1000, 1001] ?_
          simp only [sf_cons, sf_nil, go_sem, simprocAttr]
          refine AGood.prune [0, 5, 6, 28, 29, 30] ?_; simp only [go_sem, simprocAttr]
          refine AGood.cast (ih2 (i + 1, a.1, row ++ [a.2], h1, h') ⟨by simp only; omega, by simp [hrl], by simp only; omega, hrun⟩ (by simp only; omega)) ?_ ?_
          · simp
          · simp
        · have e4 : ¬ (i : Int) < xl.length := by omega
          have hin : i = xl.length := by omega
          rw [List.drop_eq_nil_of_le (by omega), kidsM] at hrun
          subst hrun
          clear ih2
          have e15 : (ints row).take row.length = ints row := List.take_of_length_le (by simp)
          have hc := pput_c q f false l most g gg xo row o (by omega)
          simp only [psto, pbx, pushP] at hc
          repeat' (first
  | refine gSq ?_ | refine gSk ?_ | refine gBl ?_ | refine gIb ?_ | refine gEx rfl ?_
  | ((first
  | (refine AGood.at 12 ?_; (refine AGood.freeze 900 rfl ?_; simp only [rfT, rfS, rfO, rf, rf1, e15, true_and, go_sem, simprocAttr]); (refine gRg [] [0, 1, 4, 5, 6, 8, 9, 17, 20, 28, 29, 30, 31] ?_; intro K hK))
  | (refine gRg [] [0, 1, 4, 5, 6, 8, 9, 17, 20, 28, 29, 30, 31] ?_; intro K hK)
  | (refine gDr 13 [] 9 [0, 1, 2, 3, 4, 5, 6, 7, 8, 9] [0, 1, 4, 5, 6, 8, 9, 17, 20, 28, 29, 30, 31] rfl ?_; intro K hK)
  | (refine ACall.use [(1000, 1000), (1001, 1001)] [] rfl (hc) rfl rfl rfl ?_; (first | rintro _ _ ⟨rfl, rfl⟩ | rintro _ _ ⟨rfl, h1, rfl⟩); refine ⟨.inl rfl, rfl, ?_⟩; simp only [bk, bk1, bkS, bkO, idOf, delAll, go_sem, simprocAttr])
  | (refine gd_split ?_ ?_ <;> intro hb <;> (try simp only [bls] at hb) <;> (try simp only [hb]))
  | refine gRt [1000, 1001] [.tmp 4] rfl ?_ | refine gDn [1000, 1001] [.tmp 4] rfl ?_) <;> (try simp only [go_sem, simprocAttr, e4, nodes_last, nodes_set, row_last, row_set, last_ltI, last_ltN, row_ltN, Option.some.injEq, forall_eq']))
  | (refine hK _ _ ?_; clear hK K; simp only [go_sem, simprocAttr])
  | refine gCd (by simp only [go_sem, simprocAttr]; rfl) rfl ?_
  | refine brT ?_ | refine brF ?_
  | (refine brS ?_ ?_ <;> intro hc <;> (try simp only [bls] at hc) <;> (try simp only [hc, bls]))
  | intro _ | refine And.intro ?_ ?_)
          all_goals first | omega | (unfold bigLen; omega) | exact ⟨_, _, ⟨rfl, rfl⟩, rfl⟩ | exact ⟨_, rfl⟩ | (rename_i hy; simp only [List.mem_singleton] at hy; subst hy; rfl) | with_reducible rfl | skip
          exact ⟨h1, by simp⟩
end Go.Rad
/- Whether a tree is a plan, and how much is counted there. -/
namespace Go.Rad
open Go
/-- A list that is told with an error is nil. -/
def flS (e : Int) : Bool := decide (e ≠ 0)
theorem flS_0 : flS 0 = false := rfl
theorem flS_1 : flS 1 = true := rfl
theorem flS_3 : flS 3 = true := rfl
def starB (n : Node) : Bool := decide (n.lo = 0 ∧ n.hi = -1)
/-- A repetition that may be in no plan. -/
def badB (l : List Node) (n : Node) : Bool := decide (n.op = 5 ∧ ¬ (n.lo = 0 ∧ n.hi = -1) ∧ ((nAt l (kid0 n)).op ≠ 2 ∨ n.lo < 1 ∨ n.hi < 2))
def rightP (l : List Node) : Bool := plainS l && l.all fun n => !badB l n
def cntB (n : Node) : Bool := decide (n.op = 5 ∧ ¬ (n.lo = 0 ∧ n.hi = -1))
def countedP (l : List Node) : Nat := if rightP l = true then l.countP cntB else 0
theorem all_false {α : Type} {p : α → Bool} {l : List α} {i : Nat} {x : α} (h : l[i]? = some x) (hx : p x = false) : l.all p = false := by
  rw [Bool.eq_false_iff]
  intro h2
  rw [List.all_eq_true] at h2
  rw [h2 x (List.mem_of_getElem? h)] at hx
  cases hx
end Go.Rad
/- Contracts: plan: Tree, Right, Counted. -/
namespace Go.Rad
open Go Go.Proofs
set_option linter.all false
set_option maxRecDepth 20000
set_option maxHeartbeats 4000000

def ndOk (l : List Node) : Prop := ∀ n ∈ l, n.name.size ≤ maxLen ∧ n.l.length ≤ maxLen
theorem pplain_c (q f : Bool) (l : List Node) (hl : ndOk l) : ACall Try.prog 37 [.sl q f (nodes l)] [] fun r s => r = .bool (plainS l) ∧ s = [] := by
  have he := expand_c q f true true l [] hl (by simp) (fun d hd => by simp at hd)
  rw [← plain_iff]
  generalize expandS l [] = x at he
  refine ACall.enter Try.func37 rfl (by kernel_rfl) (Nat.le_of_ble_eq_true rfl) ?_; simp only [initTm, Nat.reduceAdd]
  repeat' (first
  | refine gSq ?_ | refine gSk ?_ | refine gBl ?_ | refine gIb ?_ | refine gEx rfl ?_
  | ((first
  | (refine gRg [] [0, 2, 4] ?_; intro K hK)
  | (refine ACall.use [] [] rfl he rfl rfl rfl ?_; rintro _ _ ⟨⟨fl, rfl⟩, rfl⟩; refine ⟨.inl rfl, rfl, ?_⟩; simp only [bk, bk1, bkS, bkO, idOf, delAll, go_sem, simprocAttr])
  | (refine gd_split ?_ ?_ <;> intro hb <;> (try simp only [bls] at hb) <;> (try simp only [hb]))
  | refine gRt [] [.tmp 2] rfl ?_ | refine gDn [] [.tmp 2] rfl ?_) <;> (try simp only [go_sem, simprocAttr]))
  | (refine hK _ _ ?_; clear hK K; simp only [go_sem, simprocAttr])
  | refine gCd (by simp only [go_sem, simprocAttr]; rfl) rfl ?_
  | refine brT ?_ | refine brF ?_
  | (refine brS ?_ ?_ <;> intro hc <;> (try simp only [bls] at hc) <;> (try simp only [hc, bls]))
  | intro _ | refine And.intro ?_ ?_)
  all_goals first | omega | (unfold bigLen; omega) | exact ⟨_, _, ⟨rfl, rfl⟩, rfl⟩ | exact ⟨_, rfl⟩ | (rename_i hy; simp only [List.mem_singleton] at hy; subst hy; rfl) | with_reducible rfl | skip
theorem ptree_c (q f : Bool) (l : List Node) (most : Int) (hl : ndOk l) : ACall Try.prog 23 [.sl q f (nodes l), .int .i64 most] [] fun r s => r = .tup [.sl true (flS (planS l most).2) (nodes (planS l most).1), .int .i64 (planS l most).2] ∧ s = [] := by
  have hp := pplain_c q f l hl
  unfold planS
  by_cases c1 : most < 1
  · rw [if_pos (.inl c1)]
    refine ACall.enter Try.func23 rfl (by kernel_rfl) (Nat.le_of_ble_eq_true rfl) ?_; simp only [initTm, Nat.reduceAdd]
    repeat' (first
  | refine gSq ?_ | refine gSk ?_ | refine gBl ?_ | refine gIb ?_ | refine gEx rfl ?_
  | ((first
  | (refine gRg [] [0, 1, 4, 5, 6, 17, 28] ?_; intro K hK)
  | (refine gd_split ?_ ?_ <;> intro hb <;> (try simp only [bls] at hb) <;> (try simp only [hb]))
  | refine gRt [] [.tmp 4, .tmp 5] rfl ?_ | refine gDn [] [.tmp 4, .tmp 5] rfl ?_) <;> (try simp only [go_sem, simprocAttr, c1]))
  | (refine hK _ _ ?_; clear hK K; simp only [go_sem, simprocAttr])
  | refine gCd (by simp only [go_sem, simprocAttr]; rfl) rfl ?_
  | refine brT ?_ | refine brF ?_
  | (refine brS ?_ ?_ <;> intro hc <;> (try simp only [bls] at hc) <;> (try simp only [hc, bls]))
  | intro _ | refine And.intro ?_ ?_)
    all_goals first | omega | (simp only [flS_0, flS_1, flS_3]; done) | first | omega | (unfold bigLen; omega) | exact ⟨_, _, ⟨rfl, rfl⟩, rfl⟩ | exact ⟨_, rfl⟩ | (rename_i hy; simp only [List.mem_singleton] at hy; subst hy; rfl) | with_reducible rfl | skip
  · by_cases c2 : 4096 < most
    · rw [if_pos (.inr (.inl c2))]
      refine ACall.enter Try.func23 rfl (by kernel_rfl) (Nat.le_of_ble_eq_true rfl) ?_; simp only [initTm, Nat.reduceAdd]
      repeat' (first
  | refine gSq ?_ | refine gSk ?_ | refine gBl ?_ | refine gIb ?_ | refine gEx rfl ?_
  | ((first
  | (refine gRg [] [0, 1, 4, 5, 6, 17, 28] ?_; intro K hK)
  | (refine gd_split ?_ ?_ <;> intro hb <;> (try simp only [bls] at hb) <;> (try simp only [hb]))
  | refine gRt [] [.tmp 4, .tmp 5] rfl ?_ | refine gDn [] [.tmp 4, .tmp 5] rfl ?_) <;> (try simp only [go_sem, simprocAttr, c1, c2]))
  | (refine hK _ _ ?_; clear hK K; simp only [go_sem, simprocAttr])
  | refine gCd (by simp only [go_sem, simprocAttr]; rfl) rfl ?_
  | refine brT ?_ | refine brF ?_
  | (refine brS ?_ ?_ <;> intro hc <;> (try simp only [bls] at hc) <;> (try simp only [hc, bls]))
  | intro _ | refine And.intro ?_ ?_)
      all_goals first | omega | (simp only [flS_0, flS_1, flS_3]; done) | first | omega | (unfold bigLen; omega) | exact ⟨_, _, ⟨rfl, rfl⟩, rfl⟩ | exact ⟨_, rfl⟩ | (rename_i hy; simp only [List.mem_singleton] at hy; subst hy; rfl) | with_reducible rfl | skip
    · cases h3 : plainS l
      · rw [if_pos (.inr (.inr rfl))]
        rw [h3] at hp
        refine ACall.enter Try.func23 rfl (by kernel_rfl) (Nat.le_of_ble_eq_true rfl) ?_; simp only [initTm, Nat.reduceAdd]
        repeat' (first
  | refine gSq ?_ | refine gSk ?_ | refine gBl ?_ | refine gIb ?_ | refine gEx rfl ?_
  | ((first
  | (refine gRg [] [0, 1, 4, 5, 6, 17, 28] ?_; intro K hK)
  | refine cAl (hp) rfl rfl rfl ?_
  | (refine gd_split ?_ ?_ <;> intro hb <;> (try simp only [bls] at hb) <;> (try simp only [hb]))
  | refine gRt [] [.tmp 4, .tmp 5] rfl ?_ | refine gDn [] [.tmp 4, .tmp 5] rfl ?_) <;> (try simp only [go_sem, simprocAttr, c1, c2]))
  | (refine hK _ _ ?_; clear hK K; simp only [go_sem, simprocAttr])
  | refine gCd (by simp only [go_sem, simprocAttr]; rfl) rfl ?_
  | refine brT ?_ | refine brF ?_
  | (refine brS ?_ ?_ <;> intro hc <;> (try simp only [bls] at hc) <;> (try simp only [hc, bls]))
  | intro _ | refine And.intro ?_ ?_)
        all_goals first | omega | (simp only [flS_0, flS_1, flS_3]; done) | first | omega | (unfold bigLen; omega) | exact ⟨_, _, ⟨rfl, rfl⟩, rfl⟩ | exact ⟨_, rfl⟩ | (rename_i hy; simp only [List.mem_singleton] at hy; subst hy; rfl) | with_reducible rfl | skip
      · rw [if_neg (by simp [c1, c2])]
        rw [h3] at hp
        have hok := plain_plOk h3
        have hpos : 1 ≤ l.length := by
          simp only [plainS, Bool.and_eq_true] at h3
          have hr := h3.2
          rw [← right_eq] at hr
          exact (rightS_kids hr).2.2.1
        obtain ⟨m, hm⟩ : ∃ m, l.length = m + 1 := ⟨l.length - 1, by omega⟩
        have em : (l.length : Int) - 1 = (m : Nat) := by omega
        have hlen := plan_len (plOk_bnd hok) most l.length m []
        have hc := pplan_c (q := q) (f := f) (most := most) hok (by omega) l.length m (by omega) (by omega) hok.1
        rw [em]
        have hl1 := hok.1
        have hc2 := fun g g1 => hc g g1 [] (Nat.zero_le _)
        generalize planM l most l.length m [] = a at hlen hc2
        simp only [List.length_nil] at hlen
        have hfu := fun g g1 => pfull_c q f l most g g1 a.1 (by omega)
        simp only [psto, pbx] at hc2 hfu
        have e15 : (nodes a.1).take a.1.length = nodes a.1 := List.take_of_length_le (by simp)
        by_cases h4 : 1024 < a.1.length
        · rw [if_pos h4]
          simp only [h4, decide_true] at hfu
          refine ACall.enter Try.func23 rfl (by kernel_rfl) (Nat.le_of_ble_eq_true rfl) ?_; simp only [initTm, Nat.reduceAdd]
          repeat' (first
  | refine gSq ?_ | refine gSk ?_ | refine gBl ?_ | refine gIb ?_ | refine gEx rfl ?_
  | ((first
  | (refine AGood.at 4 ?_; (refine AGood.ownBox 21 2 901 9 (by decide) rfl rfl (by decide) fun g9 => ?_; simp only [List.set_cons_succ, List.set_cons_zero, go_sem, simprocAttr]); (refine gRg [] [0, 1, 4, 5, 6, 17, 28] ?_; intro K hK))
  | (refine gRg [] [0, 1, 4, 5, 6, 17, 28] ?_; intro K hK)
  | refine cAl (hp) rfl rfl rfl ?_
  | (refine ACall.use [(1000, 21), (1001, 901)] [] rfl (hc2 _ _) rfl rfl rfl ?_; rintro _ _ ⟨rfl, h1, rfl⟩; refine ⟨.inl rfl, rfl, ?_⟩; simp only [bk, bk1, bkS, bkO, idOf, delAll, go_sem, simprocAttr])
  | (refine ACall.use [(1000, 21), (1001, 901)] [] rfl (hfu _ _) rfl rfl rfl ?_; rintro _ _ ⟨rfl, rfl⟩; refine ⟨.inl rfl, rfl, ?_⟩; simp only [bk, bk1, bkS, bkO, idOf, delAll, go_sem, simprocAttr])
  | (refine gd_split ?_ ?_ <;> intro hb <;> (try simp only [bls] at hb) <;> (try simp only [hb]))
  | refine gRt [] [.tmp 4, .tmp 5] rfl ?_ | refine gDn [] [.tmp 4, .tmp 5] rfl ?_) <;> (try simp only [go_sem, simprocAttr, c1, c2, em]))
  | (refine hK _ _ ?_; clear hK K; simp only [go_sem, simprocAttr])
  | refine gCd (by simp only [go_sem, simprocAttr]; rfl) rfl ?_
  | refine brT ?_ | refine brF ?_
  | (refine brS ?_ ?_ <;> intro hc <;> (try simp only [bls] at hc) <;> (try simp only [hc, bls]))
  | intro _ | refine And.intro ?_ ?_)
          all_goals first | omega | (simp only [flS_0, flS_1, flS_3]; done) | first | omega | (unfold bigLen; omega) | exact ⟨_, _, ⟨rfl, rfl⟩, rfl⟩ | exact ⟨_, rfl⟩ | (rename_i hy; simp only [List.mem_singleton] at hy; subst hy; rfl) | with_reducible rfl | skip
        · rw [if_neg h4]
          simp only [h4, decide_false] at hfu
          refine ACall.enter Try.func23 rfl (by kernel_rfl) (Nat.le_of_ble_eq_true rfl) ?_; simp only [initTm, Nat.reduceAdd]
          repeat' (first
  | refine gSq ?_ | refine gSk ?_ | refine gBl ?_ | refine gIb ?_ | refine gEx rfl ?_
  | ((first
  | (refine AGood.at 4 ?_; (refine AGood.ownBox 21 2 901 9 (by decide) rfl rfl (by decide) fun g9 => ?_; simp only [List.set_cons_succ, List.set_cons_zero, go_sem, simprocAttr]); (refine gRg [] [0, 1, 4, 5, 6, 17, 28] ?_; intro K hK))
  | (refine AGood.at 7 ?_; (refine AGood.freeze 901 rfl ?_; simp only [rfT, rfS, rfO, rf, rf1, e15, true_and, go_sem, simprocAttr]); (refine gRg [] [0, 1, 4, 5, 6, 17, 28] ?_; intro K hK))
  | (refine gRg [] [0, 1, 4, 5, 6, 17, 28] ?_; intro K hK)
  | refine cAl (hp) rfl rfl rfl ?_
  | (refine ACall.use [(1000, 21), (1001, 901)] [] rfl (hc2 _ _) rfl rfl rfl ?_; rintro _ _ ⟨rfl, h1, rfl⟩; refine ⟨.inl rfl, rfl, ?_⟩; simp only [bk, bk1, bkS, bkO, idOf, delAll, go_sem, simprocAttr])
  | (refine ACall.use [(1000, 21), (1001, 901)] [] rfl (hfu _ _) rfl rfl rfl ?_; rintro _ _ ⟨rfl, rfl⟩; refine ⟨.inl rfl, rfl, ?_⟩; simp only [bk, bk1, bkS, bkO, idOf, delAll, go_sem, simprocAttr])
  | (refine gd_split ?_ ?_ <;> intro hb <;> (try simp only [bls] at hb) <;> (try simp only [hb]))
  | refine gRt [] [.tmp 4, .tmp 5] rfl ?_ | refine gDn [] [.tmp 4, .tmp 5] rfl ?_) <;> (try simp only [go_sem, simprocAttr, c1, c2, em]))
  | (refine hK _ _ ?_; clear hK K; simp only [go_sem, simprocAttr])
  | refine gCd (by simp only [go_sem, simprocAttr]; rfl) rfl ?_
  | refine brT ?_ | refine brF ?_
  | (refine brS ?_ ?_ <;> intro hc <;> (try simp only [bls] at hc) <;> (try simp only [hc, bls]))
  | intro _ | refine And.intro ?_ ?_)
          all_goals first | omega | (simp only [flS_0, flS_1, flS_3]; done) | first | omega | (unfold bigLen; omega) | exact ⟨_, _, ⟨rfl, rfl⟩, rfl⟩ | exact ⟨_, rfl⟩ | (rename_i hy; simp only [List.mem_singleton] at hy; subst hy; rfl) | with_reducible rfl | skip
end Go.Rad
/- What the head of the statements of layer 8 reads, reckoned. -/
namespace Go.Rad
open Go Go.Proofs
set_option linter.all false
set_option maxRecDepth 20000
set_option maxHeartbeats 4000000

def kList : List AVal → Option AVal
  | [.agg [.int .u64 a, .int .u64 b, .int .u64 c, .int .u64 d]] => some (.sl true false (bytesL (listI ⟨a, b, c, d⟩)))
  | _ => none
def decI : List (List AVal) → Option (List Int)
  | [] => some []
  | [.int .i64 n] :: l => (decI l).map (n :: ·)
  | _ => none
theorem decI_ok : ∀ {l : List (List AVal)} {ns : List Int}, decI l = some ns → l = ints ns
  | [], bs, h => by cases h; rfl
  | x :: l, bs, h => by
    unfold decI at h
    split at h
    · rename_i h1; cases h1
    · rename_i n l' h1
      cases h1
      obtain ⟨bs', h3, rfl⟩ := mp_some h
      rw [decI_ok h3]; rfl
    · cases h
def decN : List (List AVal) → Option (List Node)
  | [] => some []
  | [.int .u8 op, .int .u64 a, .int .u64 b, .int .u64 c, .int .u64 d, .sl true false ks, .int .i64 lo, .int .i64 hi, .str nm] :: l => (decI ks).bind fun k => (decN l).map (⟨op, ⟨a, b, c, d⟩, k, lo, hi, nm⟩ :: ·)
  | _ => none
theorem decN_ok : ∀ {l : List (List AVal)} {ns : List Node}, decN l = some ns → l = nodes ns
  | [], bs, h => by cases h; rfl
  | x :: l, bs, h => by
    unfold decN at h
    split at h
    · rename_i h1; cases h1
    · rename_i op a b c d ks lo hi nm l' h1
      cases h1
      simp only [Option.bind_eq_some_iff] at h
      obtain ⟨k, h2, h⟩ := h
      obtain ⟨bs', h3, rfl⟩ := mp_some h
      rw [decN_ok h3, decI_ok h2]; rfl
    · cases h
def kRight4 : List AVal → Option AVal
  | [.sl _ _ l] => (decN l).bind fun ns => req (ns.all fun n => Nat.ble n.l.length maxLen && Nat.ble n.name.size maxLen) (some (.bool (right4 ns)))
  | _ => none
def kByte : List AVal → Option AVal
  | [.int .u8 c] => req (decide (97 ≤ c) && decide (c ≤ 122)) (some (.str ⟨#[UInt8.ofNat c.toNat]⟩))
  | _ => none
def kDigit : List AVal → Option AVal
  | [.int .i64 c] => req (decide (0 ≤ c) && decide (c ≤ 9)) (some (.str ⟨#[UInt8.ofNat (48 + c.toNat)]⟩))
  | _ => none
def kn5 : Known1 := kAdd 87 kByte (kAdd 91 kDigit (kAdd 86 kList (kAdd 34 kRight4 kn4)))
theorem kn5uok : KnOk Try.prog kn5 := by
  refine kAdd_ok (fun args v h => ?_) (kAdd_ok (fun args v h => ?_) (kAdd_ok (fun args v h => ?_) (kAdd_ok (fun args v h => ?_) kn4uok)))
  · unfold kByte at h
    split at h
    · rename_i c
      simp only [req_iff, Bool.and_eq_true, decide_eq_true_eq, Option.some.injEq] at h
      obtain ⟨⟨h1, h2⟩, rfl⟩ := h
      have := letter_c c.toNat (by omega) (by omega)
      rwa [Int.toNat_of_nonneg (by omega)] at this
    · cases h
  · unfold kDigit at h
    split at h
    · rename_i c
      simp only [req_iff, Bool.and_eq_true, decide_eq_true_eq, Option.some.injEq] at h
      obtain ⟨⟨h1, h2⟩, rfl⟩ := h
      have := digit_c c.toNat (by omega)
      rwa [Int.toNat_of_nonneg (by omega)] at this
    · cases h
  · unfold kList at h
    split at h
    · rename_i a b c d; cases h; exact list_c ⟨a, b, c, d⟩
    · cases h
  · unfold kRight4 at h
    split at h
    · simp only [Option.bind_eq_some_iff, req_iff, Option.some.injEq, List.all_eq_true, Bool.and_eq_true, Nat.ble_eq] at h
      obtain ⟨ns, h1, h2, rfl⟩ := h
      rw [decN_ok h1]
      exact right4uc _ _ ns h2
    · cases h
/-- The document's print. -/
def fsP : List Nat := [56, 68, 81, 82, 80, 90]
theorem fsP_ok : fsP.all (fnOk Try.prog LL rtab) = true := by decide +kernel
theorem print_run {ns : List Node} {v : AVal} (h : ran (xCall Try.prog LL rtab kn5 10000 fsP 60 false 56 [.sl true false (nodes ns)] [] 1000) = some v) (hf : ([.sl true false (nodes ns)] : List AVal).all flat = true) : ACall Try.prog 56 [.sl true false (nodes ns)] [] fun r s => r = v ∧ s = [] := ran_c kn5uok fsP fsP_ok _ _ hf h
abbrev tA2 : ByteArray := ⟨#[97, 123, 50, 125]⟩
abbrev tA02 : ByteArray := ⟨#[97, 123, 48, 44, 50, 125]⟩
abbrev tAB29 : ByteArray := ⟨#[91, 97, 98, 93, 123, 50, 44, 57, 125]⟩
abbrev tA5 : ByteArray := ⟨#[97, 123, 53, 44, 125]⟩
abbrev nAa : Node := ⟨2, ⟨0, 8589934592, 0, 0⟩, [], 0, 0, ByteArray.empty⟩
abbrev nAb : Node := ⟨2, ⟨0, 25769803776, 0, 0⟩, [], 0, 0, ByteArray.empty⟩
theorem p8a : ACall Try.prog 31 [.str tA2] [] fun r s => r = .tup [.sl true false (nodes [nAa, repNd 2 2 0]), .int .i64 0, .int .i64 0] ∧ s = [] := parse_run (by kernel_rfl)
theorem p8b : ACall Try.prog 31 [.str tA02] [] fun r s => r = .tup [.sl true false (nodes [nAa, repNd 0 2 0]), .int .i64 0, .int .i64 0] ∧ s = [] := parse_run (by kernel_rfl)
theorem p8c : ACall Try.prog 31 [.str tAB29] [] fun r s => r = .tup [.sl true false (nodes [nAb, repNd 2 9 0]), .int .i64 0, .int .i64 0] ∧ s = [] := parse_run (by kernel_rfl)
theorem p8d : ACall Try.prog 31 [.str tA5] [] fun r s => r = .tup [.sl true false (nodes [nAa, repNd 5 (-1) 0]), .int .i64 0, .int .i64 0] ∧ s = [] := parse_run (by kernel_rfl)
abbrev x8a : List Node := [nAa, nAa, opNd 3 [0, 1]]
abbrev x8b : List Node := [opNd 1 [], nAa, opNd 1 [], nAa, opNd 4 [2, 3], opNd 3 [1, 4], opNd 4 [0, 5]]
abbrev x8c : List Node := [nAb, repNd 2 9 0]
abbrev x8d : List Node := [nAa, repNd 5 5 0, nAa, repNd 0 (-1) 2, opNd 3 [1, 3]]
theorem q8a : planS [nAa, repNd 2 2 0] 3 = (x8a, 0) := by decide +kernel
theorem q8b : planS [nAa, repNd 0 2 0] 3 = (x8b, 0) := by decide +kernel
theorem q8c : planS [nAb, repNd 2 9 0] 3 = (x8c, 0) := by decide +kernel
theorem q8d : planS [nAa, repNd 5 (-1) 0] 3 = (x8d, 0) := by decide +kernel
abbrev u8a : ByteArray := ⟨#[97, 97]⟩
abbrev u8b : ByteArray := ⟨#[124, 97, 40, 124, 97, 41]⟩
abbrev u8c : ByteArray := ⟨#[91, 97, 45, 98, 93, 123, 50, 44, 57, 125]⟩
abbrev u8d : ByteArray := ⟨#[97, 123, 53, 125, 97, 42]⟩
theorem r8a : ACall Try.prog 56 [.sl true false (nodes x8a)] [] fun r s => r = .tup [.str u8a, .bool true] ∧ s = [] := print_run (by kernel_rfl) (by decide +kernel)
theorem r8b : ACall Try.prog 56 [.sl true false (nodes x8b)] [] fun r s => r = .tup [.str u8b, .bool true] ∧ s = [] := print_run (by kernel_rfl) (by decide +kernel)
theorem r8c : ACall Try.prog 56 [.sl true false (nodes x8c)] [] fun r s => r = .tup [.str u8c, .bool true] ∧ s = [] := print_run (by kernel_rfl) (by decide +kernel)
theorem r8d : ACall Try.prog 56 [.sl true false (nodes x8d)] [] fun r s => r = .tup [.str u8d, .bool true] ∧ s = [] := print_run (by kernel_rfl) (by decide +kernel)
theorem of8uc {s u : ByteArray} {l x : List Node} {b : Bool} {most : Int} (hl : ndOk l) (hp : ACall Try.prog 31 [.str s] [] fun r s => r = .tup [.sl true false (nodes l), .int .i64 0, .int .i64 0] ∧ s = []) (hq : planS l most = (x, 0)) (hr : ACall Try.prog 56 [.sl true false (nodes x)] [] fun r s => r = .tup [.str u, .bool b] ∧ s = []) :
    ACall Try.prog 36 [.str s, .int .i64 most] [] fun r s => r = .str u ∧ s = [] := by
  have ht := ptree_c true false l most hl
  rw [hq] at ht
  simp only [flS_0] at ht
  refine ACall.enter Try.func36 rfl (by kernel_rfl) (Nat.le_of_ble_eq_true rfl) ?_; simp only [initTm, Nat.reduceAdd]
  repeat' (first
  | refine gSq ?_ | refine gSk ?_ | refine gBl ?_ | refine gIb ?_ | refine gEx rfl ?_
  | ((first
  | (refine gRg [] [0, 1, 4, 5, 8, 10] ?_; intro K hK)
  | refine cAl (hp) rfl rfl rfl ?_
  | refine cAl (ht) rfl rfl rfl ?_
  | refine cAl (hr) rfl rfl rfl ?_
  | (refine gd_split ?_ ?_ <;> intro hb <;> (try simp only [bls] at hb) <;> (try simp only [hb]))
  | refine gRt [] [.tmp 4] rfl ?_ | refine gDn [] [.tmp 4] rfl ?_) <;> (try simp only [go_sem, simprocAttr]))
  | (refine hK _ _ ?_; clear hK K; simp only [go_sem, simprocAttr])
  | refine gCd (by simp only [go_sem, simprocAttr]; rfl) rfl ?_
  | refine brT ?_ | refine brF ?_
  | (refine brS ?_ ?_ <;> intro hc <;> (try simp only [bls] at hc) <;> (try simp only [hc, bls]))
  | intro _ | refine And.intro ?_ ?_)
  all_goals first | omega | (unfold bigLen; omega) | exact ⟨_, _, ⟨rfl, rfl⟩, rfl⟩ | exact ⟨_, rfl⟩ | (rename_i hy; simp only [List.mem_singleton] at hy; subst hy; rfl) | with_reducible rfl | skip
theorem ndOk_lit {l : List Node} (h : (l.all fun n => decide (n.name.size ≤ 1000 ∧ n.l.length ≤ 1000)) = true) : ndOk l := fun n hn => by
  have := of_decide_eq_true (List.all_eq_true.1 h n hn)
  unfold maxLen; omega
theorem shown8uc : ACall Try.prog 21 [] [] fun r s => r = .bool true ∧ s = [] := by
  have ha := of8uc (ndOk_lit (by decide +kernel)) p8a q8a r8a
  have hb := of8uc (ndOk_lit (by decide +kernel)) p8b q8b r8b
  have hc := of8uc (ndOk_lit (by decide +kernel)) p8c q8c r8c
  have hd := of8uc (ndOk_lit (by decide +kernel)) p8d q8d r8d
  refine ACall.enter Try.func21 rfl (by kernel_rfl) (Nat.le_of_ble_eq_true rfl) ?_; simp only [initTm, Nat.reduceAdd]
  repeat' (first
  | refine gSq ?_ | refine gSk ?_ | refine gBl ?_ | refine gIb ?_ | refine gEx rfl ?_
  | ((first
  | (refine gRg [] [0] ?_; intro K hK)
  | refine cAl (ha) rfl rfl rfl ?_
  | refine cAl (hb) rfl rfl rfl ?_
  | refine cAl (hc) rfl rfl rfl ?_
  | refine cAl (hd) rfl rfl rfl ?_
  | (refine gd_split ?_ ?_ <;> intro hb <;> (try simp only [bls] at hb) <;> (try simp only [hb]))
  | refine gRt [] [.tmp 0] rfl ?_ | refine gDn [] [.tmp 0] rfl ?_) <;> (try simp only [go_sem, simprocAttr]))
  | (refine hK _ _ ?_; clear hK K; simp only [go_sem, simprocAttr])
  | refine gCd (by simp only [go_sem, simprocAttr]; rfl) rfl ?_
  | refine brT ?_ | refine brF ?_
  | (refine brS ?_ ?_ <;> intro hc <;> (try simp only [bls] at hc) <;> (try simp only [hc, bls]))
  | intro _ | refine And.intro ?_ ?_)
  all_goals first | omega | (unfold bigLen; omega) | exact ⟨_, _, ⟨rfl, rfl⟩, rfl⟩ | exact ⟨_, rfl⟩ | (rename_i hy; simp only [List.mem_singleton] at hy; subst hy; rfl) | with_reducible rfl | skip
end Go.Rad
/- Plans: the document's way. -/
namespace Go.Rad
open Go Fo
abbrev RS := List Node × Bool
abbrev RO := RS × Int
def putQ (n : Node) (s : RS) : RO := if 1024 ≤ s.1.length then ((s.1, true), 0) else ((s.1 ++ [n], s.2), s.1.length)
def twoR (op a : Int) (x : RO) : RO := putQ (opNd op [a, x.2]) x.1
def restR (pl : RS → RO) : Nat → RS → RO
  | 0, s => (s, 0)
  | m + 1, s =>
    if (putQ (opNd 1 []) s).1.2 = true then ((putQ (opNd 1 []) s).1, 0)
    else if m ≠ 0 ∧ (pl (putQ (opNd 1 []) s).1).1.2 = false then twoR 4 (putQ (opNd 1 []) s).2 (twoR 3 (pl (putQ (opNd 1 []) s).1).2 (restR pl m (pl (putQ (opNd 1 []) s).1).1))
    else twoR 4 (putQ (opNd 1 []) s).2 (pl (putQ (opNd 1 []) s).1)
def starR (pl : RS → RO) (s : RS) : RO := putQ (repNd 0 (-1) (pl s).2) (pl s).1
def rowLR (pl : RS → RO) : Nat → RS → List Int → RS × List Int
  | 0, s, row => (s, row)
  | n + 1, s, row => if s.2 = true then (s, row) else rowLR pl n (pl s).1 (row ++ [(pl s).2])
def catR (b : RS × List Int) : RO := if b.2.length = 1 then (b.1, b.2.headD 0) else putQ (opNd 3 b.2) b.1
def rowER (pl : RS → RO) (lo hi : Int) (a : RS × List Int) : RS × List Int :=
  if hi = -1 then ((starR pl a.1).1, a.2 ++ [(starR pl a.1).2])
  else if lo < hi then ((restR pl (hi - lo).toNat a.1).1, a.2 ++ [(restR pl (hi - lo).toNat a.1).2])
  else a
def rowQ (pl : RS → RO) (lo hi : Int) (s : RS) : RO := catR (rowER pl lo hi (rowLR pl lo.toNat s []))
def cntR (pl : RS → RO) (lo hi : Int) (s : RS) : RO :=
  if 0 < lo then putQ (repNd lo hi (pl s).2) (pl s).1
  else twoR 4 (putQ (opNd 1 []) s).2 (putQ (repNd 1 hi (pl (putQ (opNd 1 []) s).1).2) (pl (putQ (opNd 1 []) s).1).1)
def endR (pl : RS → RO) (lo : Int) (s : RS) : RO := twoR 3 (putQ (repNd lo lo (pl s).2) (pl s).1).2 (starR pl (putQ (repNd lo lo (pl s).2) (pl s).1).1)
def repR (pl : RS → RO) (most : Int) (bytes : Bool) (lo hi : Int) (s : RS) : RO :=
  if bytes = true ∧ most < hi then cntR pl lo hi s
  else if bytes = true ∧ hi = -1 ∧ most < lo ∧ 1 < lo then endR pl lo s
  else rowQ pl lo hi s
def kidsR (pl : Int → RS → RO) : List Int → RS → List Int → RS × List Int
  | [], s, ks => (s, ks)
  | k :: l, s, ks => kidsR pl l (pl k s).1 (ks ++ [(pl k s).2])
def planR (ns : List Node) (most : Int) : Nat → Int → RS → RO
  | 0, _, s => (s, 0)
  | f + 1, k, s =>
    if s.2 = true then (s, 0)
    else if (nAt ns k).op = 5 then repR (planR ns most f (kid0 (nAt ns k))) most (decide ((nAt ns (kid0 (nAt ns k))).op = 2)) (nAt ns k).lo (nAt ns k).hi s
    else putQ { nAt ns k with l := (kidsR (planR ns most f) (nAt ns k).l s []).2 } (kidsR (planR ns most f) (nAt ns k).l s []).1
def ref8S (ns : List Node) (most : Int) : List Node × Int :=
  if plainS ns = false ∨ most < 1 ∨ 4096 < most then ([], 1)
  else if (planR ns most ns.length ((ns.length : Int) - 1) ([], false)).1.2 = true ∨ right4 (planR ns most ns.length ((ns.length : Int) - 1) ([], false)).1.1 = false then ([], 3)
  else ((planR ns most ns.length ((ns.length : Int) - 1) ([], false)).1.1, 0)

/-! No more than there is room for. -/
def PBR (pl : RS → RO) : Prop := ∀ s, s.1.length ≤ 1024 → (pl s).1.1.length ≤ 1024
theorem putQ_len (n : Node) : PBR (putQ n) := fun s h => by
  unfold putQ; split
  · exact h
  · simp only [List.length_append, List.length_cons, List.length_nil]; omega
theorem twoR_len (op a : Int) {x : RO} (h : x.1.1.length ≤ 1024) : (twoR op a x).1.1.length ≤ 1024 := putQ_len _ _ h
section
variable {pl : RS → RO} (hb : PBR pl)
include hb
theorem restR_len : ∀ m, PBR (restR pl m)
  | 0, s, h => h
  | m + 1, s, h => by
    have h1 := putQ_len (opNd 1 []) s h
    have h2 := hb _ h1
    rw [restR]
    split
    · exact h1
    · split
      · exact twoR_len _ _ (twoR_len _ _ (restR_len m _ h2))
      · exact twoR_len _ _ h2
theorem starR_len : PBR (starR pl) := fun s h => putQ_len _ _ (hb s h)
theorem rowLR_len : ∀ (n : Nat) (s : RS) (row : List Int), s.1.length ≤ 1024 → (rowLR pl n s row).1.1.length ≤ 1024 ∧ (rowLR pl n s row).2.length ≤ row.length + n
  | 0, s, row, h => ⟨h, by simp [rowLR]⟩
  | n + 1, s, row, h => by
    rw [rowLR]
    split
    · exact ⟨h, by simp only []; omega⟩
    · have := rowLR_len n (pl s).1 (row ++ [(pl s).2]) (hb s h)
      simp only [List.length_append, List.length_cons, List.length_nil] at this
      omega
theorem rowER_len (lo hi : Int) (a : RS × List Int) (h : a.1.1.length ≤ 1024) : (rowER pl lo hi a).1.1.length ≤ 1024 ∧ (rowER pl lo hi a).2.length ≤ a.2.length + 1 := by
  unfold rowER
  split
  · exact ⟨starR_len hb _ h, by simp⟩
  · split
    · exact ⟨restR_len hb _ _ h, by simp⟩
    · exact ⟨h, by omega⟩
theorem catR_len (b : RS × List Int) (h : b.1.1.length ≤ 1024) : (catR b).1.1.length ≤ 1024 := by
  unfold catR; split
  · exact h
  · exact putQ_len _ _ h
theorem rowQ_len (lo hi : Int) : PBR (rowQ pl lo hi) := fun s h => catR_len hb _ (rowER_len hb lo hi _ (rowLR_len hb _ s [] h).1).1
theorem cntR_len (lo hi : Int) : PBR (cntR pl lo hi) := fun s h => by
  unfold cntR; split
  · exact putQ_len _ _ (hb s h)
  · exact twoR_len _ _ (putQ_len _ _ (hb _ (putQ_len _ _ h)))
theorem endR_len (lo : Int) : PBR (endR pl lo) := fun s h => twoR_len _ _ (starR_len hb _ (putQ_len _ _ (hb s h)))
theorem repR_len (most : Int) (bytes : Bool) (lo hi : Int) : PBR (repR pl most bytes lo hi) := fun s h => by
  unfold repR; split
  · exact cntR_len hb lo hi s h
  · split
    · exact endR_len hb lo s h
    · exact rowQ_len hb lo hi s h
end
theorem kidsR_len {pl : Int → RS → RO} (hb : ∀ k, PBR (pl k)) : ∀ (l : List Int) (s : RS) (row : List Int), s.1.length ≤ 1024 → (kidsR pl l s row).1.1.length ≤ 1024 ∧ (kidsR pl l s row).2.length = row.length + l.length
  | [], s, row, h => ⟨h, rfl⟩
  | k :: l, s, row, h => by
    have := kidsR_len hb l (pl k s).1 (row ++ [(pl k s).2]) (hb k s h)
    simp only [List.length_append, List.length_cons, List.length_nil] at this
    rw [kidsR]
    simp only [List.length_cons]; omega
theorem planR_len (ns : List Node) (most : Int) : ∀ (f : Nat) (k : Int), PBR (planR ns most f k)
  | 0, k, s, h => h
  | f + 1, k, s, h => by
    rw [planR]
    split
    · exact h
    · split
      · exact repR_len (planR_len ns most f _) most _ _ _ s h
      · exact putQ_len _ _ (kidsR_len (planR_len ns most f) _ s [] h).1

/-! What puts a forest, or says that there is no room. -/
abbrev RF := RS → RS × List Int
def ROk (s : RF) (f : Fo) : Prop := (∀ out, out.length ≤ 1024 → (out.length + f.size ≤ 1024 → s (out, false) = ((out ++ f.lay out.length, false), f.roots out.length)) ∧ (1024 < out.length + f.size → (s (out, false)).1.2 = true)) ∧ ∀ out, (s (out, true)).1.2 = true
def seqR (s t : RF) (x : RS) : RS × List Int := ((t (s x).1).1, (s x).2 ++ (t (s x).1).2)
abbrev sgR (pl : RS → RO) : RF := fun x => ((pl x).1, [(pl x).2])
def wrapR (b : Lb) (s : RF) : RF := sgR fun x => putQ (b.node (s x).2) (s x).1
abbrev nilR : RF := fun x => (x, [])
theorem putQ_true (n : Node) (out : List Node) : (putQ n (out, true)).1.2 = true := by unfold putQ; split <;> rfl
theorem true_pair {x : RS} (h : x.2 = true) : x = (x.1, true) := Prod.ext rfl h
theorem ROk.nil : ROk nilR .nil := ⟨fun out h => ⟨fun _ => by simp [lay, roots], fun h2 => by simp only [size] at h2; omega⟩, fun out => rfl⟩
theorem ROk.seq {s t : RF} {f g : Fo} (hs : ROk s f) (ht : ROk t g) : ROk (seqR s t) (f.app g) := by
  refine ⟨fun out h => ?_, fun out => ?_⟩
  · rw [size_app]
    by_cases h1 : out.length + f.size ≤ 1024
    · have e := (hs.1 out h).1 h1
      have el : (out ++ f.lay out.length).length = out.length + f.size := by simp [lay_len]
      obtain ⟨t1, t2⟩ := ht.1 (out ++ f.lay out.length) (by omega)
      rw [el] at t1 t2
      refine ⟨fun h => ?_, fun h => ?_⟩
      · simp only [seqR, e]
        rw [t1 (by omega), lay_app, roots_app]
        simp
      · simp only [seqR, e]
        exact t2 (by omega)
    · have e := (hs.1 out h).2 (by omega)
      refine ⟨fun h => by omega, fun _ => ?_⟩
      simp only [seqR]
      rw [true_pair e]
      exact ht.2 _
  · simp only [seqR]
    rw [true_pair (hs.2 out)]
    exact ht.2 _
theorem ROk.wrap {s : RF} {f : Fo} (b : Lb) (hs : ROk s f) : ROk (wrapR b s) (one b f) := by
  refine ⟨fun out h => ?_, fun out => ?_⟩
  · simp only [size, Nat.add_zero]
    by_cases h1 : out.length + f.size ≤ 1024
    · have e := (hs.1 out h).1 h1
      have el : (out ++ f.lay out.length).length = out.length + f.size := by simp [lay_len]
      refine ⟨fun h2 => ?_, fun h2 => ?_⟩
      · simp only [wrapR, sgR, e, putQ, el]
        rw [if_neg (by omega)]
        simp [lay, roots]
      · simp only [wrapR, sgR, e, putQ, el]
        rw [if_pos (by omega)]
    · have e := (hs.1 out h).2 (by omega)
      refine ⟨fun h => by omega, fun _ => ?_⟩
      simp only [wrapR, sgR]
      rw [true_pair e]
      exact putQ_true _ _
  · simp only [wrapR, sgR]
    rw [true_pair (hs.2 out)]
    exact putQ_true _ _
theorem ROk.guard {s s' : RF} {f : Fo} (h : ∀ out, out.length ≤ 1024 → s' (out, false) = s (out, false) ∨ ((s' (out, false)).1.2 = true ∧ 1024 < out.length + f.size)) (ht : ∀ out, (s' (out, true)).1.2 = true) (hs : ROk s f) : ROk s' f := by
  refine ⟨fun out ho => ?_, ht⟩
  rcases h out ho with e | ⟨e1, e2⟩
  · rw [e]; exact hs.1 out ho
  · exact ⟨fun h => by omega, fun _ => e1⟩
theorem ROk.eq {s s' : RF} {f : Fo} (h : ∀ x, s' x = s x) (hs : ROk s f) : ROk s' f := hs.guard (fun out _ => .inl (h _)) fun out => by rw [h]; exact hs.2 out
theorem twoR_true (op a : Int) {x : RO} (h : x.1.2 = true) : (twoR op a x).1.2 = true := by
  unfold twoR; rw [true_pair h]; exact putQ_true _ _
theorem restR_ok {pl : RS → RO} {p : Fo} (hp : ROk (sgR pl) p) : ∀ m, ROk (sgR (restR pl (m + 1))) (restT p (m + 1)) := by
  have htrue : ∀ m out, (sgR (restR pl (m + 1)) (out, true)).1.2 = true := by
    intro m out
    simp only [sgR, restR, putQ_true, if_true]
  have hfull : ∀ m out, out.length ≤ 1024 → 1024 ≤ out.length → (sgR (restR pl (m + 1)) (out, false)).1.2 = true ∧ 1024 < out.length + (restT p (m + 1)).size := by
    intro m out _ h
    have e : putQ (opNd 1 []) (out, false) = ((out, true), 0) := by simp only [putQ, if_pos h]
    refine ⟨?_, ?_⟩
    · simp only [sgR, restR, e, if_true]
    · simp only [restT, size, size_app]; omega
  intro m
  induction m with
  | zero =>
    refine ROk.guard (s := wrapR (opL 4) (seqR (wrapR (opL 1) nilR) (sgR pl))) (fun out ho => ?_) (htrue 0) (((ROk.nil.wrap _).seq hp).wrap _)
    by_cases h : 1024 ≤ out.length
    · exact .inr (hfull 0 out ho h)
    · have e : putQ (opNd 1 []) (out, false) = ((out ++ [opNd 1 []], false), (out.length : Int)) := by simp only [putQ, if_neg h]
      left
      simp only [sgR, restR, e, Bool.false_eq_true, if_false, ne_eq, not_true_eq_false, false_and, wrapR, seqR, nilR]
      rw [show (opL 1).node [] = opNd 1 [] from rfl, e]
      rfl
  | succ m ih =>
    refine ROk.guard (s := wrapR (opL 4) (seqR (wrapR (opL 1) nilR) (wrapR (opL 3) (seqR (sgR pl) (sgR (restR pl (m + 1))))))) (fun out ho => ?_) (htrue (m + 1)) (((ROk.nil.wrap _).seq ((hp.seq ih).wrap _)).wrap _)
    by_cases h : 1024 ≤ out.length
    · exact .inr (hfull (m + 1) out ho h)
    · have e : putQ (opNd 1 []) (out, false) = ((out ++ [opNd 1 []], false), (out.length : Int)) := by simp only [putQ, if_neg h]
      have el : (out ++ [opNd 1 []]).length = out.length + 1 := by simp
      cases hx : (pl (out ++ [opNd 1 []], false)).1.2
      · left
        have hm : m + 1 ≠ 0 ∧ (pl (out ++ [opNd 1 []], false)).1.2 = false := ⟨by omega, hx⟩
        simp only [sgR]
        rw [restR, e]
        simp only [Bool.false_eq_true, if_false]
        rw [if_pos hm]
        simp only [wrapR, seqR, nilR, sgR]
        rw [show (opL 1).node [] = opNd 1 [] from rfl, e]
        rfl
      · right
        have hm : ¬ (m + 1 ≠ 0 ∧ (pl (out ++ [opNd 1 []], false)).1.2 = false) := fun h => by rw [hx] at h; exact absurd h.2 (by decide)
        refine ⟨?_, ?_⟩
        · simp only [sgR]
          rw [restR, e]
          simp only [Bool.false_eq_true, if_false]
          rw [if_neg hm]
          exact twoR_true _ _ hx
        · have hov : 1024 < out.length + 1 + p.size := by
            refine Nat.lt_of_not_le fun hle => ?_
            have := (hp.1 (out ++ [opNd 1 []]) (by omega)).1 (by omega)
            simp only [sgR, Prod.mk.injEq] at this
            rw [this.1] at hx; cases hx
          simp only [restT, size, size_app, if_neg (show ¬ m + 1 = 0 by omega)]; omega
theorem rowLR_ok {pl : RS → RO} {p : Fo} (hp : ROk (sgR pl) p) : ∀ (n : Nat) (out : List Node) (row : List Int), out.length ≤ 1024 → (out.length + (copies p n).size ≤ 1024 → rowLR pl n (out, false) row = ((out ++ (copies p n).lay out.length, false), row ++ (copies p n).roots out.length)) ∧ (1024 < out.length + (copies p n).size → (rowLR pl n (out, false) row).1.2 = true)
  | 0, out, row, ho => ⟨fun _ => by simp [rowLR, copies, lay, roots], fun h => by simp only [copies, size] at h; omega⟩
  | n + 1, out, row, ho => by
    rw [rowLR]
    simp only [Bool.false_eq_true, if_false, copies, size_app]
    obtain ⟨a1, a2⟩ := hp.1 out ho
    by_cases h1 : out.length + p.size ≤ 1024
    · have e := a1 h1
      simp only [sgR, Prod.mk.injEq] at e
      rw [e.1]
      have el : (out ++ p.lay out.length).length = out.length + p.size := by simp [lay_len]
      obtain ⟨b1, b2⟩ := rowLR_ok hp n (out ++ p.lay out.length) (row ++ [(pl (out, false)).2]) (by omega)
      rw [el] at b1 b2
      refine ⟨fun h2 => ?_, fun h2 => b2 (by omega)⟩
      rw [b1 (by omega), lay_app, roots_app, e.2]
      simp
    · have e := a2 (by omega)
      refine ⟨fun h2 => by omega, fun _ => ?_⟩
      simp only [sgR] at e
      rw [true_pair e]
      cases n with
      | zero => rfl
      | succ n => rw [rowLR]; rfl
theorem catR_ok {s : RF} {f : Fo} (hs : ROk s f) : ROk (sgR fun x => catR (s x)) f.catT := by
  have key : ∀ x : RS × List Int, x.1.2 = true → (catR x).1.2 = true := by
    intro x h
    unfold catR; split
    · exact h
    · rw [true_pair h]; exact putQ_true _ _
  refine ⟨fun out ho => ?_, fun out => key _ (hs.2 out)⟩
  by_cases h1 : out.length + f.size ≤ 1024
  · have e := (hs.1 out ho).1 h1
    unfold catT
    split
    · rename_i hd
      simp only [sgR, catR, e, roots_len, hd, if_true]
      refine ⟨fun _ => ?_, fun h => by omega⟩
      rw [roots_one hd]; rfl
    · rename_i hd
      simp only [sgR, catR, e, roots_len, hd, if_false]
      have := (hs.wrap (opL 3)).1 out ho
      simp only [wrapR, sgR, e] at this
      exact this
  · have e := (hs.1 out ho).2 (by omega)
    refine ⟨fun h => ?_, fun _ => key _ e⟩
    unfold catT at h
    split at h
    · omega
    · simp only [size] at h; omega
theorem rowQ_ok {pl : RS → RO} {p : Fo} (hp : ROk (sgR pl) p) (lo hi : Int) : ROk (sgR (rowQ pl lo hi)) (p.rowT lo hi) := by
  have hL : ROk (fun x => rowLR pl lo.toNat x []) (copies p lo.toNat) := by
    refine ⟨fun out ho => ?_, fun out => ?_⟩
    · obtain ⟨a, b⟩ := rowLR_ok hp lo.toNat out [] ho
      exact ⟨fun h => by show rowLR pl lo.toNat (out, false) [] = _; rw [a h]; simp, b⟩
    · show (rowLR pl lo.toNat (out, true) []).1.2 = true
      cases lo.toNat with
      | zero => rfl
      | succ n => rw [rowLR]; rfl
  refine catR_ok ?_
  unfold rowOf
  by_cases h1 : hi = -1
  · rw [if_pos h1]
    refine (hL.seq (hp.wrap (repL 0 (-1)))).eq fun x => ?_
    simp only [rowER, if_pos h1]; rfl
  · by_cases h2 : lo < hi
    · rw [if_neg h1, if_pos h2]
      obtain ⟨m, hm⟩ : ∃ m, (hi - lo).toNat = m + 1 := ⟨(hi - lo).toNat - 1, by omega⟩
      rw [hm]
      refine (hL.seq (restR_ok hp m)).eq fun x => ?_
      simp only [rowER, if_neg h1, if_pos h2, hm]; rfl
    · rw [if_neg h1, if_neg h2, app_nil]
      refine hL.eq fun x => ?_
      simp only [rowER, if_neg h1, if_neg h2]
theorem repR_ok {pl : RS → RO} {p : Fo} (hp : ROk (sgR pl) p) (most : Int) (bytes : Bool) (lo hi : Int) : ROk (sgR (repR pl most bytes lo hi)) (repT most lo hi bytes p) := by
  unfold repT
  cases bytes
  · rw [if_pos rfl]
    exact (rowQ_ok hp lo hi).eq fun x => by simp only [sgR, repR, Bool.false_eq_true, false_and, if_false]
  · rw [if_neg (by decide)]
    by_cases h2 : most < hi
    · rw [if_pos h2]
      by_cases h3 : 0 < lo
      · rw [if_pos h3]
        exact (hp.wrap (repL lo hi)).eq fun x => by simp only [sgR, repR, h2, and_self, if_true, cntR, if_pos h3]; rfl
      · rw [if_neg h3]
        exact (((ROk.nil.wrap (opL 1)).seq (hp.wrap (repL 1 hi))).wrap (opL 4)).eq fun x => by simp only [sgR, repR, h2, and_self, if_true, cntR, if_neg h3]; rfl
    · rw [if_neg h2]
      by_cases h3 : hi = -1 ∧ max most 1 < lo
      · rw [if_pos h3]
        exact (((hp.wrap (repL lo lo)).seq (hp.wrap (repL 0 (-1)))).wrap (opL 3)).eq fun x => by
          simp only [sgR, repR]
          rw [if_neg (fun h => h2 h.2), if_pos ⟨trivial, h3.1, by omega, by omega⟩]; rfl
      · rw [if_neg h3]
        exact (rowQ_ok hp lo hi).eq fun x => by
          simp only [sgR, repR]
          rw [if_neg (fun h => h2 h.2), if_neg (fun h => h3 ⟨h.2.1, by omega⟩)]

/-- All that is no repetition has neither bounds nor a name. -/
def bareOk (f : Fo) : Bool := f.all fun b _ => decide (b.op = 5 ∨ b.bare = b)
theorem planR_ok {ns : List Node} (most : Int) : ∀ (f : Fo) (ks : List Int) (fuel : Nat), f.Sub ns ks → f.size ≤ fuel → repOne f = true → bareOk f = true →
    (∀ (k : Int), ks = [k] → ROk (sgR (planR ns most fuel k)) (f.planT most)) ∧ (∀ row, ROk (fun x => ((kidsR (planR ns most fuel) ks x row).1, ((kidsR (planR ns most fuel) ks x row).2.drop row.length))) (f.planT most) ∧ ∀ x, (kidsR (planR ns most fuel) ks x row).2 = row ++ (kidsR (planR ns most fuel) ks x row).2.drop row.length)
  | .nil, ks, fuel, hs, _, _, _ => by
    simp only [Fo.Sub] at hs
    subst hs
    refine ⟨fun k h => by simp at h, fun row => ⟨?_, fun x => by simp [kidsR]⟩⟩
    exact ROk.nil.eq fun x => by simp [kidsR]
  | .node b kf r, ks, fuel, hs, hf, hr, hbr => by
    obtain ⟨i, n, ks', rfl, h1, h2, h3, h4⟩ := hs
    simp only [repOne, bareOk, all, Bool.and_eq_true, decide_eq_true_eq] at hr hbr
    simp only [size] at hf
    obtain ⟨fu, rfl⟩ : ∃ fu, fuel = fu + 1 := ⟨fuel - 1, by omega⟩
    obtain ⟨a1, a2⟩ := planR_ok most kf n.l fu h3 (by omega) hr.1.2 hbr.1.2
    obtain ⟨b1, b2⟩ := planR_ok most r ks' (fu + 1) h4 (by omega) hr.2 hbr.2
    have hone : ROk (sgR (planR ns most (fu + 1) i)) (if b.op = 5 then repT most b.lo b.hi kf.isBytes (kf.planT most) else one b.bare (kf.planT most)) := by
      have hb : b.op = n.op ∧ b.lo = n.lo ∧ b.hi = n.hi ∧ b.s = n.s := by rw [← h2]; exact ⟨rfl, rfl, rfl, rfl⟩
      by_cases h5 : b.op = 5
      · have hd := hr.1.1 h5
        have hl := h3.len
        rw [hd] at hl
        have hkid : n.l = [kid0 n] := by
          match hn : n.l, hl with
          | [x], _ => simp [kid0, hn]
        rw [if_pos h5]
        refine (repR_ok (a1 _ hkid) most kf.isBytes b.lo b.hi).guard (fun out _ => ?_) fun out => ?_
        · left
          simp only [sgR, planR, nAt_get h1]
          rw [if_neg (by decide), if_pos (by rw [← hb.1]; exact h5), isBytes_sub h3 hd, hb.2.1, hb.2.2.1]
        · simp only [sgR, planR, if_true]
      · rw [if_neg h5]
        obtain ⟨c1, c2⟩ := a2 []
        refine (c1.wrap b.bare).guard (fun out _ => ?_) fun out => ?_
        · left
          have hbare : b.bare = b := by
            rcases hbr.1.1 with h | h
            · exact absurd h h5
            · exact h
          simp only [sgR, planR, nAt_get h1]
          rw [if_neg (by decide), if_neg (by rw [← hb.1]; exact h5), hbare]
          simp only [wrapR, sgR, List.length_nil, List.drop_zero]
          rw [← h2]
        · simp only [sgR, planR, if_true]
    refine ⟨fun k hk => ?_, fun row => ?_⟩
    · simp only [List.cons.injEq] at hk
      obtain ⟨rfl, rfl⟩ := hk
      have : r = .nil := by
        match r, h4 with
        | .nil, _ => rfl
        | .node _ _ _, h4 => obtain ⟨_, _, _, e, _⟩ := h4; simp at e
      subst this
      simp only [planT, app_nil]
      exact hone
    · have key : ∀ x, kidsR (planR ns most (fu + 1)) ((i : Int) :: ks') x row = kidsR (planR ns most (fu + 1)) ks' (planR ns most (fu + 1) i x).1 (row ++ [(planR ns most (fu + 1) i x).2]) := fun x => rfl
      have hl1 : ∀ x : Int, (row ++ [x]).length = row.length + 1 := fun x => by simp
      have hdrop : ∀ x, (kidsR (planR ns most (fu + 1)) ((i : Int) :: ks') x row).2.drop row.length = (planR ns most (fu + 1) i x).2 :: (kidsR (planR ns most (fu + 1)) ks' (planR ns most (fu + 1) i x).1 (row ++ [(planR ns most (fu + 1) i x).2])).2.drop (row.length + 1) := by
        intro x
        rw [key]
        have := (b2 (row ++ [(planR ns most (fu + 1) i x).2])).2 (planR ns most (fu + 1) i x).1
        rw [hl1] at this
        conv => lhs; rw [this]
        simp
      refine ⟨?_, fun x => ?_⟩
      · simp only [planT]
        have hx := fun v : Int => (b2 (row ++ [v])).1
        have step : ∀ x, ((kidsR (planR ns most (fu + 1)) ((i : Int) :: ks') x row).1, (kidsR (planR ns most (fu + 1)) ((i : Int) :: ks') x row).2.drop row.length) = seqR (sgR (planR ns most (fu + 1) i)) (fun y => ((kidsR (planR ns most (fu + 1)) ks' y (row ++ [(planR ns most (fu + 1) i x).2])).1, (kidsR (planR ns most (fu + 1)) ks' y (row ++ [(planR ns most (fu + 1) i x).2])).2.drop (row ++ [(planR ns most (fu + 1) i x).2]).length)) x := by
          intro x
          rw [hdrop, key]
          simp only [seqR, sgR, hl1, List.cons_append, List.nil_append]
        refine ⟨fun out ho => ?_, fun out => ?_⟩
        · have := (hone.seq (hx (planR ns most (fu + 1) i (out, false)).2)).1 out ho
          rw [← step] at this
          exact this
        · have := (hone.seq (hx (planR ns most (fu + 1) i (out, true)).2)).2 out
          rw [← step] at this
          exact this
      · rw [hdrop, key]
        have := (b2 (row ++ [(planR ns most (fu + 1) i x).2])).2 (planR ns most (fu + 1) i x).1
        rw [hl1] at this
        conv => lhs; rw [this]
        simp
end Go.Rad
/- Contracts: the document's plan: nodes, rows of them, what is up to so many times. -/
namespace Go.Rad
open Go Go.Proofs
set_option linter.all false
set_option maxRecDepth 20000
set_option maxHeartbeats 4000000

abbrev qbx (q f : Bool) (l : List Node) (most : Int) (g1 n : Nat) (b : Bool) : AObj := .box [.sl q f (nodes l), .int .i64 most, .osl 1001 g1 0 n, .bool b]
abbrev qsto (q f : Bool) (l : List Node) (most : Int) (g g1 : Nat) (s : RS) : Sto := [(1000, (g, qbx q f l most g1 s.1.length s.2)), (1001, (g1, .row 9 (nodes s.1)))]
/-- What a call does to what was put. -/
abbrev RPost (q f : Bool) (l : List Node) (most : Int) (g : Nat) (x : RO) (r : AVal) (s : Sto) : Prop := r = .int .i64 x.2 ∧ ∃ h1, s = qsto q f l most g h1 x.1
theorem rput_c (q f fl : Bool) (l : List Node) (most : Int) (g g1 : Nat) (n : Node) (s : RS) (hs : s.1.length ≤ 1024) :
    ACall Try.prog 63 [.bx 1000 g 0, .agg (n.cellsF fl)] (qsto q f l most g g1 s) (RPost q f l most g (putQ n s)) := by
  obtain ⟨xo, ⟨xa, xb, xc, xd⟩, xl, xlo, xhi, xn⟩ := n
  obtain ⟨out, lg⟩ := s
  simp only at hs
  simp only [qsto, qbx, RPost, putQ, Node.cellsF]
  by_cases h0 : 1024 ≤ out.length
  · rw [if_pos h0]
    have e1 : (1024 : Int) ≤ out.length := by omega
    refine ACall.enter Try.func63 rfl (by kernel_rfl) (Nat.le_of_ble_eq_true rfl) ?_; simp only [initTm, Nat.reduceAdd]
    repeat' (first
  | refine gSq ?_ | refine gSk ?_ | refine gBl ?_ | refine gIb ?_ | refine gEx rfl ?_
  | ((first
  | (refine gRg [] [0, 1, 3, 4, 10] ?_; intro K hK)
  | (refine gDr 4 [] 6 [0, 1, 2, 3, 4, 5, 6, 7, 8, 9, 10] [0, 1, 3, 4, 10] rfl ?_; intro K hK)
  | (refine gd_split ?_ ?_ <;> intro hb <;> (try simp only [bls] at hb) <;> (try simp only [hb]))
  | refine gRt [1000, 1001] [.tmp 4] rfl ?_ | refine gDn [1000, 1001] [.tmp 4] rfl ?_) <;> (try simp only [go_sem, simprocAttr, e1]))
  | (refine hK _ _ ?_; clear hK K; simp only [go_sem, simprocAttr])
  | refine gCd (by simp only [go_sem, simprocAttr]; rfl) rfl ?_
  | refine brT ?_ | refine brF ?_
  | (refine brS ?_ ?_ <;> intro hc <;> (try simp only [bls] at hc) <;> (try simp only [hc, bls]))
  | intro _ | refine And.intro ?_ ?_)
    all_goals first | omega | (unfold bigLen; omega) | exact ⟨_, _, ⟨rfl, rfl⟩, rfl⟩ | exact ⟨_, rfl⟩ | (rename_i hy; simp only [List.mem_singleton] at hy; subst hy; rfl) | with_reducible rfl | skip
  · rw [if_neg h0]
    have e1 : ¬ (1024 : Int) ≤ out.length := by omega
    refine ACall.enter Try.func63 rfl (by kernel_rfl) (Nat.le_of_ble_eq_true rfl) ?_; simp only [initTm, Nat.reduceAdd]
    repeat' (first
  | refine gSq ?_ | refine gSk ?_ | refine gBl ?_ | refine gIb ?_ | refine gEx rfl ?_
  | ((first
  | (refine gRg [20] [0, 1, 3, 4, 10] ?_; intro K hK)
  | (refine gDr 4 [20] 7 [0, 1, 2, 3, 4, 5, 6, 7, 8, 9, 10] [0, 1, 3, 4, 10] rfl ?_; intro K hK)
  | (refine gd_split ?_ ?_ <;> intro hb <;> (try simp only [bls] at hb) <;> (try simp only [hb]))
  | refine gRt [1000, 1001] [.tmp 4] rfl ?_ | refine gDn [1000, 1001] [.tmp 4] rfl ?_) <;> (try simp only [go_sem, simprocAttr, e1]))
  | (refine hK _ _ ?_; clear hK K; simp only [go_sem, simprocAttr])
  | refine gCd (by simp only [go_sem, simprocAttr]; rfl) rfl ?_
  | refine brT ?_ | refine brF ?_
  | (refine brS ?_ ?_ <;> intro hc <;> (try simp only [bls] at hc) <;> (try simp only [hc, bls]))
  | intro _ | refine And.intro ?_ ?_)
    all_goals first | omega | (unfold bigLen; omega) | exact ⟨_, _, ⟨rfl, rfl⟩, rfl⟩ | exact ⟨_, rfl⟩ | (rename_i hy; simp only [List.mem_singleton] at hy; subst hy; rfl) | with_reducible rfl | skip
    · simp only []; congr 1; omega
    · rename_i h; exact ⟨h, by simp⟩
theorem rcat_c (q f f' : Bool) (l : List Node) (most : Int) (g g1 : Nat) (row : List Int) (s : RS) (hs : s.1.length ≤ 1024) (hr : row.length ≤ 1000000) :
    ACall Try.prog 76 [.bx 1000 g 0, .sl true f' (ints row)] (qsto q f l most g g1 s) (RPost q f l most g (catR (s, row))) := by
  have hp := rput_c q f f' l most g g1 (opNd 3 row) s hs
  simp only [catR]
  by_cases hc1 : row.length = 1
  · rw [if_pos hc1]
    obtain ⟨x, hx⟩ : ∃ x, row = [x] := List.length_eq_one_iff.1 hc1
    have g0 : row[0]? = some x := by rw [hx]; rfl
    have g1' : (row.length : Int) = 1 := by omega
    have g3 : row.headD 0 = x := by rw [hx]; rfl
    have e0 : (0 : Int) < row.length := by omega
    rw [g3]
    clear hx g3
    simp only [qsto, qbx, RPost]
    refine ACall.enter Try.func76 rfl (by kernel_rfl) (Nat.le_of_ble_eq_true rfl) ?_; simp only [initTm, Nat.reduceAdd]
    repeat' (first
  | refine gSq ?_ | refine gSk ?_ | refine gBl ?_ | refine gIb ?_ | refine gEx rfl ?_
  | ((first
  | (refine gRg [] [0, 1, 4, 7] ?_; intro K hK)
  | (refine gd_split ?_ ?_ <;> intro hb <;> (try simp only [bls] at hb) <;> (try simp only [hb]))
  | refine gRt [1000, 1001] [.tmp 4] rfl ?_ | refine gDn [1000, 1001] [.tmp 4] rfl ?_) <;> (try simp only [go_sem, simprocAttr, g0, g1', e0, Option.some.injEq, forall_eq']))
  | (refine hK _ _ ?_; clear hK K; simp only [go_sem, simprocAttr])
  | refine gCd (by simp only [go_sem, simprocAttr]; rfl) rfl ?_
  | refine brT ?_ | refine brF ?_
  | (refine brS ?_ ?_ <;> intro hc <;> (try simp only [bls] at hc) <;> (try simp only [hc, bls]))
  | intro _ | refine And.intro ?_ ?_)
    all_goals first | omega | (unfold bigLen; omega) | exact ⟨_, _, ⟨rfl, rfl⟩, rfl⟩ | exact ⟨_, rfl⟩ | (rename_i hy; simp only [List.mem_singleton] at hy; subst hy; rfl) | with_reducible rfl | skip
  · rw [if_neg hc1]
    have g1' : ¬ (row.length : Int) = 1 := by omega
    simp only [qsto, qbx, RPost] at hp ⊢
    refine ACall.enter Try.func76 rfl (by kernel_rfl) (Nat.le_of_ble_eq_true rfl) ?_; simp only [initTm, Nat.reduceAdd]
    repeat' (first
  | refine gSq ?_ | refine gSk ?_ | refine gBl ?_ | refine gIb ?_ | refine gEx rfl ?_
  | ((first
  | (refine gRg [] [0, 1, 4, 7] ?_; intro K hK)
  | (refine ACall.use [(1000, 1000), (1001, 1001)] [] rfl (hp) rfl rfl rfl ?_; (first | rintro _ _ ⟨rfl, rfl⟩ | rintro _ _ ⟨rfl, h1, rfl⟩); refine ⟨.inl rfl, rfl, ?_⟩; simp only [bk, bk1, bkS, bkO, idOf, delAll, go_sem, simprocAttr])
  | (refine gd_split ?_ ?_ <;> intro hb <;> (try simp only [bls] at hb) <;> (try simp only [hb]))
  | refine gRt [1000, 1001] [.tmp 4] rfl ?_ | refine gDn [1000, 1001] [.tmp 4] rfl ?_) <;> (try simp only [go_sem, simprocAttr, g1']))
  | (refine hK _ _ ?_; clear hK K; simp only [go_sem, simprocAttr])
  | refine gCd (by simp only [go_sem, simprocAttr]; rfl) rfl ?_
  | refine brT ?_ | refine brF ?_
  | (refine brS ?_ ?_ <;> intro hc <;> (try simp only [bls] at hc) <;> (try simp only [hc, bls]))
  | intro _ | refine And.intro ?_ ?_)
    all_goals first | omega | (unfold bigLen; omega) | exact ⟨_, _, ⟨rfl, rfl⟩, rfl⟩ | exact ⟨_, rfl⟩ | (rename_i hy; simp only [List.mem_singleton] at hy; subst hy; rfl) | with_reducible rfl | skip
/-- What a kid's plan does. -/
def KidR (P : Program) (fno : Nat) (q f : Bool) (l : List Node) (most : Int) (pl : RS → RO) (kid : Int) : Prop :=
  ∀ (g g1 : Nat) (s : RS), s.1.length ≤ 1024 → ACall P fno [.bx 1000 g 0, .int .i64 kid] (qsto q f l most g g1 s) (RPost q f l most g (pl s))
theorem rstar_c {q f : Bool} {l : List Node} {most : Int} {pl : RS → RO} (kid : Int) (hk : KidR Try.prog 44 q f l most pl kid) (hb : PBR pl) (g g1 : Nat) (s : RS) (hs : s.1.length ≤ 1024) :
    ACall Try.prog 74 [.bx 1000 g 0, .int .i64 kid] (qsto q f l most g g1 s) (RPost q f l most g (starR pl s)) := by
  have hp := hk g g1 s hs
  have b1 := hb s hs
  unfold starR
  generalize pl s = a at hp b1
  have ht := fun h1 => rput_c q f false l most g h1 (repNd 0 (-1) a.2) a.1 b1
  simp only [qsto, qbx, RPost, Node.cellsF] at hp ht ⊢
  refine ACall.enter Try.func74 rfl (by kernel_rfl) (Nat.le_of_ble_eq_true rfl) ?_; simp only [initTm, Nat.reduceAdd]
  repeat' (first
  | refine gSq ?_ | refine gSk ?_ | refine gBl ?_ | refine gIb ?_ | refine gEx rfl ?_
  | ((first
  | (refine gRg [11] [0, 1, 4, 5] ?_; intro K hK)
  | (refine ACall.use [(1000, 1000), (1001, 1001)] [] rfl (hp) rfl rfl rfl ?_; (first | rintro _ _ ⟨rfl, rfl⟩ | rintro _ _ ⟨rfl, h1, rfl⟩); refine ⟨.inl rfl, rfl, ?_⟩; simp only [bk, bk1, bkS, bkO, idOf, delAll, go_sem, simprocAttr])
  | (refine ACall.use [(1000, 1000), (1001, 1001)] [] rfl (ht _) rfl rfl rfl ?_; (first | rintro _ _ ⟨rfl, rfl⟩ | rintro _ _ ⟨rfl, h1, rfl⟩); refine ⟨.inl rfl, rfl, ?_⟩; simp only [bk, bk1, bkS, bkO, idOf, delAll, go_sem, simprocAttr])
  | (refine gd_split ?_ ?_ <;> intro hb <;> (try simp only [bls] at hb) <;> (try simp only [hb]))
  | refine gRt [1000, 1001] [.tmp 4] rfl ?_ | refine gDn [1000, 1001] [.tmp 4] rfl ?_) <;> (try simp only [go_sem, simprocAttr]))
  | (refine hK _ _ ?_; clear hK K; simp only [go_sem, simprocAttr])
  | refine gCd (by simp only [go_sem, simprocAttr]; rfl) rfl ?_
  | refine brT ?_ | refine brF ?_
  | (refine brS ?_ ?_ <;> intro hc <;> (try simp only [bls] at hc) <;> (try simp only [hc, bls]))
  | intro _ | refine And.intro ?_ ?_)
  all_goals first | omega | (unfold bigLen; omega) | exact ⟨_, _, ⟨rfl, rfl⟩, rfl⟩ | exact ⟨_, rfl⟩ | (rename_i hy; simp only [List.mem_singleton] at hy; subst hy; rfl) | with_reducible rfl | skip
theorem rrest_c {q f : Bool} {l : List Node} {most : Int} {pl : RS → RO} (kid : Int) (hk : KidR Try.prog 44 q f l most pl kid) (hb : PBR pl) (g : Nat) : ∀ (m : Nat), m < 4096 → ∀ (g1 : Nat) (s : RS), s.1.length ≤ 1024 →
    ACall Try.prog 75 [.bx 1000 g 0, .int .i64 kid, .int .i64 (m + 1 : Nat)] (qsto q f l most g g1 s) (RPost q f l most g (restR pl (m + 1) s)) := by
  intro m
  induction m with
  | zero =>
    intro hm g1 s hs
    have he := rput_c q f true l most g g1 (opNd 1 []) s hs
    have b1 := putQ_len (opNd 1 []) s hs
    rw [restR]
    generalize putQ (opNd 1 []) s = e at he b1
    obtain ⟨⟨eo, el⟩, ev⟩ := e
    simp only at b1 ⊢
    cases el
    · have hp := fun h1 => hk g h1 (eo, false) b1
      have b2 := hb (eo, false) b1
      simp only [Bool.false_eq_true, if_false, ne_eq, not_true_eq_false, false_and]
      generalize pl (eo, false) = a at hp b2
      have ha := fun h1 => rput_c q f false l most g h1 (opNd 4 [ev, a.2]) a.1 b2
      unfold twoR
      simp only [qsto, qbx, RPost, Node.cellsF] at he hp ha ⊢
      refine ACall.enter Try.func75 rfl (by kernel_rfl) (Nat.le_of_ble_eq_true rfl) ?_; simp only [initTm, Nat.reduceAdd]
      repeat' (first
  | refine gSq ?_ | refine gSk ?_ | refine gBl ?_ | refine gIb ?_ | refine gEx rfl ?_
  | ((first
  | (refine gRg [43] [0, 1, 2, 6, 7, 8, 9, 16, 28] ?_; intro K hK)
  | (refine ACall.use [(1000, 1000), (1001, 1001)] [] rfl (he) rfl rfl rfl ?_; (first | rintro _ _ ⟨rfl, rfl⟩ | rintro _ _ ⟨rfl, h1, rfl⟩); refine ⟨.inl rfl, rfl, ?_⟩; simp only [bk, bk1, bkS, bkO, idOf, delAll, go_sem, simprocAttr])
  | (refine ACall.use [(1000, 1000), (1001, 1001)] [] rfl (hp _) rfl rfl rfl ?_; (first | rintro _ _ ⟨rfl, rfl⟩ | rintro _ _ ⟨rfl, h1, rfl⟩); refine ⟨.inl rfl, rfl, ?_⟩; simp only [bk, bk1, bkS, bkO, idOf, delAll, go_sem, simprocAttr])
  | (refine ACall.use [(1000, 1000), (1001, 1001)] [] rfl (ha _) rfl rfl rfl ?_; (first | rintro _ _ ⟨rfl, rfl⟩ | rintro _ _ ⟨rfl, h1, rfl⟩); refine ⟨.inl rfl, rfl, ?_⟩; simp only [bk, bk1, bkS, bkO, idOf, delAll, go_sem, simprocAttr])
  | (refine gd_split ?_ ?_ <;> intro hb <;> (try simp only [bls] at hb) <;> (try simp only [hb]))
  | refine gRt [1000, 1001] [.tmp 6] rfl ?_ | refine gDn [1000, 1001] [.tmp 6] rfl ?_) <;> (try simp only [go_sem, simprocAttr]))
  | (refine hK _ _ ?_; clear hK K; simp only [go_sem, simprocAttr])
  | refine gCd (by simp only [go_sem, simprocAttr]; rfl) rfl ?_
  | refine brT ?_ | refine brF ?_
  | (refine brS ?_ ?_ <;> intro hc <;> (try simp only [bls] at hc) <;> (try simp only [hc, bls]))
  | intro _ | refine And.intro ?_ ?_)
      all_goals first | omega | (unfold bigLen; omega) | exact ⟨_, _, ⟨rfl, rfl⟩, rfl⟩ | exact ⟨_, rfl⟩ | (rename_i hy; simp only [List.mem_singleton] at hy; subst hy; rfl) | with_reducible rfl | skip
    · simp only [if_true]
      simp only [qsto, qbx, RPost, Node.cellsF] at he ⊢
      refine ACall.enter Try.func75 rfl (by kernel_rfl) (Nat.le_of_ble_eq_true rfl) ?_; simp only [initTm, Nat.reduceAdd]
      repeat' (first
  | refine gSq ?_ | refine gSk ?_ | refine gBl ?_ | refine gIb ?_ | refine gEx rfl ?_
  | ((first
  | (refine gRg [] [0, 1, 2, 6, 7, 8, 9, 16, 28] ?_; intro K hK)
  | (refine ACall.use [(1000, 1000), (1001, 1001)] [] rfl (he) rfl rfl rfl ?_; (first | rintro _ _ ⟨rfl, rfl⟩ | rintro _ _ ⟨rfl, h1, rfl⟩); refine ⟨.inl rfl, rfl, ?_⟩; simp only [bk, bk1, bkS, bkO, idOf, delAll, go_sem, simprocAttr])
  | (refine gd_split ?_ ?_ <;> intro hb <;> (try simp only [bls] at hb) <;> (try simp only [hb]))
  | refine gRt [1000, 1001] [.tmp 6] rfl ?_ | refine gDn [1000, 1001] [.tmp 6] rfl ?_) <;> (try simp only [go_sem, simprocAttr]))
  | (refine hK _ _ ?_; clear hK K; simp only [go_sem, simprocAttr])
  | refine gCd (by simp only [go_sem, simprocAttr]; rfl) rfl ?_
  | refine brT ?_ | refine brF ?_
  | (refine brS ?_ ?_ <;> intro hc <;> (try simp only [bls] at hc) <;> (try simp only [hc, bls]))
  | intro _ | refine And.intro ?_ ?_)
      all_goals first | omega | (unfold bigLen; omega) | exact ⟨_, _, ⟨rfl, rfl⟩, rfl⟩ | exact ⟨_, rfl⟩ | (rename_i hy; simp only [List.mem_singleton] at hy; subst hy; rfl) | with_reducible rfl | skip
  | succ m ih =>
    intro hm g1 s hs
    have he := rput_c q f true l most g g1 (opNd 1 []) s hs
    have b1 := putQ_len (opNd 1 []) s hs
    rw [restR]
    generalize putQ (opNd 1 []) s = e at he b1
    obtain ⟨⟨eo, el⟩, ev⟩ := e
    simp only at b1 ⊢
    have e2 : ((m + 1 + 1 : Nat) : Int) - 1 = ((m + 1 : Nat) : Int) := by omega
    have e3 : (1 : Int) < ((m + 1 + 1 : Nat) : Int) := by omega
    cases el
    · have hp := fun h1 => hk g h1 (eo, false) b1
      have b2 := hb (eo, false) b1
      simp only [Bool.false_eq_true, if_false]
      generalize pl (eo, false) = a at hp b2
      obtain ⟨⟨ao, al⟩, av⟩ := a
      simp only at b2 ⊢
      cases al
      · rw [if_pos ⟨by omega, rfl⟩]
        have hr := fun g1 => ih (by omega) g1 (ao, false) b2
        have b3 := restR_len hb (m + 1) (ao, false) b2
        generalize restR pl (m + 1) (ao, false) = y at hr b3
        have hc := fun h1 => rput_c q f false l most g h1 (opNd 3 [av, y.2]) y.1 b3
        have b4 := putQ_len (opNd 3 [av, y.2]) y.1 b3
        simp only [twoR]
        generalize putQ (opNd 3 [av, y.2]) y.1 = c at hc b4
        have ha := fun h1 => rput_c q f false l most g h1 (opNd 4 [ev, c.2]) c.1 b4
        simp only [qsto, qbx, RPost, Node.cellsF] at he hp hr hc ha ⊢
        refine ACall.enter Try.func75 rfl (by kernel_rfl) (Nat.le_of_ble_eq_true rfl) ?_; simp only [initTm, Nat.reduceAdd]
        repeat' (first
  | refine gSq ?_ | refine gSk ?_ | refine gBl ?_ | refine gIb ?_ | refine gEx rfl ?_
  | ((first
  | (refine gRg [37, 43] [0, 1, 2, 6, 7, 8, 9, 16, 28] ?_; intro K hK)
  | (refine ACall.use [(1000, 1000), (1001, 1001)] [] rfl (he) rfl rfl rfl ?_; (first | rintro _ _ ⟨rfl, rfl⟩ | rintro _ _ ⟨rfl, h1, rfl⟩); refine ⟨.inl rfl, rfl, ?_⟩; simp only [bk, bk1, bkS, bkO, idOf, delAll, go_sem, simprocAttr])
  | (refine ACall.use [(1000, 1000), (1001, 1001)] [] rfl (hp _) rfl rfl rfl ?_; (first | rintro _ _ ⟨rfl, rfl⟩ | rintro _ _ ⟨rfl, h1, rfl⟩); refine ⟨.inl rfl, rfl, ?_⟩; simp only [bk, bk1, bkS, bkO, idOf, delAll, go_sem, simprocAttr])
  | (refine ACall.use [(1000, 1000), (1001, 1001)] [] rfl (hr _) rfl rfl rfl ?_; (first | rintro _ _ ⟨rfl, rfl⟩ | rintro _ _ ⟨rfl, h1, rfl⟩); refine ⟨.inl rfl, rfl, ?_⟩; simp only [bk, bk1, bkS, bkO, idOf, delAll, go_sem, simprocAttr])
  | (refine ACall.use [(1000, 1000), (1001, 1001)] [] rfl (hc _) rfl rfl rfl ?_; (first | rintro _ _ ⟨rfl, rfl⟩ | rintro _ _ ⟨rfl, h1, rfl⟩); refine ⟨.inl rfl, rfl, ?_⟩; simp only [bk, bk1, bkS, bkO, idOf, delAll, go_sem, simprocAttr])
  | (refine ACall.use [(1000, 1000), (1001, 1001)] [] rfl (ha _) rfl rfl rfl ?_; (first | rintro _ _ ⟨rfl, rfl⟩ | rintro _ _ ⟨rfl, h1, rfl⟩); refine ⟨.inl rfl, rfl, ?_⟩; simp only [bk, bk1, bkS, bkO, idOf, delAll, go_sem, simprocAttr])
  | (refine gd_split ?_ ?_ <;> intro hb <;> (try simp only [bls] at hb) <;> (try simp only [hb]))
  | refine gRt [1000, 1001] [.tmp 6] rfl ?_ | refine gDn [1000, 1001] [.tmp 6] rfl ?_) <;> (try simp only [go_sem, simprocAttr, e2, e3]))
  | (refine hK _ _ ?_; clear hK K; simp only [go_sem, simprocAttr])
  | refine gCd (by simp only [go_sem, simprocAttr]; rfl) rfl ?_
  | refine brT ?_ | refine brF ?_
  | (refine brS ?_ ?_ <;> intro hc <;> (try simp only [bls] at hc) <;> (try simp only [hc, bls]))
  | intro _ | refine And.intro ?_ ?_)
        all_goals first | omega | (unfold bigLen; omega) | exact ⟨_, _, ⟨rfl, rfl⟩, rfl⟩ | exact ⟨_, rfl⟩ | (rename_i hy; simp only [List.mem_singleton] at hy; subst hy; rfl) | with_reducible rfl | skip
      · rw [if_neg (fun h => by cases h.2)]
        have ha := fun h1 => rput_c q f false l most g h1 (opNd 4 [ev, av]) (ao, true) b2
        unfold twoR
        simp only [qsto, qbx, RPost, Node.cellsF] at he hp ha ⊢
        refine ACall.enter Try.func75 rfl (by kernel_rfl) (Nat.le_of_ble_eq_true rfl) ?_; simp only [initTm, Nat.reduceAdd]
        repeat' (first
  | refine gSq ?_ | refine gSk ?_ | refine gBl ?_ | refine gIb ?_ | refine gEx rfl ?_
  | ((first
  | (refine gRg [43] [0, 1, 2, 6, 7, 8, 9, 16, 28] ?_; intro K hK)
  | (refine ACall.use [(1000, 1000), (1001, 1001)] [] rfl (he) rfl rfl rfl ?_; (first | rintro _ _ ⟨rfl, rfl⟩ | rintro _ _ ⟨rfl, h1, rfl⟩); refine ⟨.inl rfl, rfl, ?_⟩; simp only [bk, bk1, bkS, bkO, idOf, delAll, go_sem, simprocAttr])
  | (refine ACall.use [(1000, 1000), (1001, 1001)] [] rfl (hp _) rfl rfl rfl ?_; (first | rintro _ _ ⟨rfl, rfl⟩ | rintro _ _ ⟨rfl, h1, rfl⟩); refine ⟨.inl rfl, rfl, ?_⟩; simp only [bk, bk1, bkS, bkO, idOf, delAll, go_sem, simprocAttr])
  | (refine ACall.use [(1000, 1000), (1001, 1001)] [] rfl (ha _) rfl rfl rfl ?_; (first | rintro _ _ ⟨rfl, rfl⟩ | rintro _ _ ⟨rfl, h1, rfl⟩); refine ⟨.inl rfl, rfl, ?_⟩; simp only [bk, bk1, bkS, bkO, idOf, delAll, go_sem, simprocAttr])
  | (refine gd_split ?_ ?_ <;> intro hb <;> (try simp only [bls] at hb) <;> (try simp only [hb]))
  | refine gRt [1000, 1001] [.tmp 6] rfl ?_ | refine gDn [1000, 1001] [.tmp 6] rfl ?_) <;> (try simp only [go_sem, simprocAttr, e2, e3]))
  | (refine hK _ _ ?_; clear hK K; simp only [go_sem, simprocAttr])
  | refine gCd (by simp only [go_sem, simprocAttr]; rfl) rfl ?_
  | refine brT ?_ | refine brF ?_
  | (refine brS ?_ ?_ <;> intro hc <;> (try simp only [bls] at hc) <;> (try simp only [hc, bls]))
  | intro _ | refine And.intro ?_ ?_)
        all_goals first | omega | (unfold bigLen; omega) | exact ⟨_, _, ⟨rfl, rfl⟩, rfl⟩ | exact ⟨_, rfl⟩ | (rename_i hy; simp only [List.mem_singleton] at hy; subst hy; rfl) | with_reducible rfl | skip
    · simp only [if_true]
      simp only [qsto, qbx, RPost, Node.cellsF] at he ⊢
      refine ACall.enter Try.func75 rfl (by kernel_rfl) (Nat.le_of_ble_eq_true rfl) ?_; simp only [initTm, Nat.reduceAdd]
      repeat' (first
  | refine gSq ?_ | refine gSk ?_ | refine gBl ?_ | refine gIb ?_ | refine gEx rfl ?_
  | ((first
  | (refine gRg [] [0, 1, 2, 6, 7, 8, 9, 16, 28] ?_; intro K hK)
  | (refine ACall.use [(1000, 1000), (1001, 1001)] [] rfl (he) rfl rfl rfl ?_; (first | rintro _ _ ⟨rfl, rfl⟩ | rintro _ _ ⟨rfl, h1, rfl⟩); refine ⟨.inl rfl, rfl, ?_⟩; simp only [bk, bk1, bkS, bkO, idOf, delAll, go_sem, simprocAttr])
  | (refine gd_split ?_ ?_ <;> intro hb <;> (try simp only [bls] at hb) <;> (try simp only [hb]))
  | refine gRt [1000, 1001] [.tmp 6] rfl ?_ | refine gDn [1000, 1001] [.tmp 6] rfl ?_) <;> (try simp only [go_sem, simprocAttr]))
  | (refine hK _ _ ?_; clear hK K; simp only [go_sem, simprocAttr])
  | refine gCd (by simp only [go_sem, simprocAttr]; rfl) rfl ?_
  | refine brT ?_ | refine brF ?_
  | (refine brS ?_ ?_ <;> intro hc <;> (try simp only [bls] at hc) <;> (try simp only [hc, bls]))
  | intro _ | refine And.intro ?_ ?_)
      all_goals first | omega | (unfold bigLen; omega) | exact ⟨_, _, ⟨rfl, rfl⟩, rfl⟩ | exact ⟨_, rfl⟩ | (rename_i hy; simp only [List.mem_singleton] at hy; subst hy; rfl) | with_reducible rfl | skip
end Go.Rad
