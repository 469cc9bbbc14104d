/- Contracts: the document's places: a node's. -/
import Derived.Test.YtjhcamnmfjkidaaGreatKP09b
set_option linter.all false
namespace Go.Rad
open Go Go.Proofs
set_option linter.all false
set_option maxRecDepth 20000
set_option maxHeartbeats 4000000

/-- A pair of lists behind a truth, the lists' flags forgotten. -/
theorem rep_trip {G : Gh} {o : Bool} {b1 b2 : Bool} {x y : List (List AVal)} {e : AVal} {v : Value} (h : Rep G o (.agg [e, .sl true b1 x, .sl true b2 y]) v) : Rep G o (.agg [e, .sl true false x, .sl true false y]) v := by
  cases h with
  | agg a b c =>
    refine .agg a ?_ ?_
    · intro j z hz
      match j, hz with
      | 0, hz => exact b 0 z hz
      | 1, hz => simp only [List.getElem?_cons_succ, List.getElem?_cons_zero, Option.some.injEq] at hz; subst hz; rfl
      | 2, hz => simp only [List.getElem?_cons_succ, List.getElem?_cons_zero, Option.some.injEq] at hz; subst hz; rfl
    · intro j z hz
      match j, hz with
      | 0, hz => exact c 0 z hz
      | 1, hz => simp only [List.getElem?_cons_succ, List.getElem?_cons_zero, Option.some.injEq] at hz; subst hz; exact rep_unfull (c 1 _ rfl)
      | 2, hz => simp only [List.getElem?_cons_succ, List.getElem?_cons_zero, Option.some.injEq] at hz; subst hz; exact rep_unfull (c 2 _ rfl)
theorem ACall.trip {P : Program} {f : Nat} {args : List AVal} {sto : Sto} {e : En} {T : Sto → Prop} (h : ACall P f args sto fun r s => (∃ b1 b2, r = .agg [.bool e.null, .sl true b1 (ints e.first), .sl true b2 (ints e.last)]) ∧ T s) : ACall P f args sto fun r s => r = .agg e.cells ∧ T s := by
  refine h.post fun G w r s v hw hs hr hR => ?_
  obtain ⟨⟨b1, b2, rfl⟩, hT⟩ := hR
  exact ⟨G, _, _, .refl G, hw, hs, rep_trip hr, rfl, hT⟩
/-- Nodes as the document's code leans on them. -/
def kidsOkR (l : List Node) : Prop := l.length ≤ 1024 ∧ ∀ (i : Nat) (n : Node), l[i]? = some n → n.l.length ≤ 1024 ∧ (∀ k ∈ n.l, 0 ≤ k ∧ k < (i : Int)) ∧ (n.op ≠ 1 → n.op ≠ 2 → 1 ≤ n.l.length)
theorem rnode9uc {f : Bool} {l : List Node} {rule : Nat} (hl : kidsOkR l) : ∀ (fu k : Nat), k < fu → k < l.length → ∀ (g g1 : Nat) (ps : List Po), Rn ps.length ps → (nodeR l rule fu k ps).1.length ≤ 100000 →
    ACall Tryz.prog 17 [.bx 1000 g 0, .sl true f (nodes l), .int .i64 k, .int .i64 rule] (gsto g g1 ps) fun r s => r = .agg (nodeR l rule fu k ps).2.cells ∧ ∃ h1, s = gsto g h1 (nodeR l rule fu k ps).1 := by
  intro fu
  induction fu with
  | zero => intro k h; omega
  | succ fu ih =>
    intro k hk hkl g g1 ps hps hbig
    refine ACall.trip ?_
    obtain ⟨n, hx⟩ : ∃ n, l[k]? = some n := ⟨_, List.getElem?_eq_getElem hkl⟩
    obtain ⟨m1, m2, m3⟩ := hl.2 k n hx
    have hl1 := hl.1
    have e1 : (k : Int) < l.length := by omega
    have e2 : (0 : Int) ≤ k := by omega
    have hmono := nodeR_ok l rule (fu + 1) k ps hps
    rw [nodeR, nAt_get hx] at hmono hbig ⊢
    by_cases c1 : n.op = 1
    · rw [if_pos c1]
      obtain ⟨xo, ⟨xa, xb, xc, xd⟩, xl, xlo, xhi, xn⟩ := n
      simp only at c1
      clear hmono hbig m1 m2 m3
      simp only [gsto]
      refine ACall.enter Tryz.func17 rfl (by kernel_rfl) (Nat.le_of_ble_eq_true rfl) ?_; simp only [initTm, Nat.reduceAdd]
      repeat' (first
  | refine gSq ?_ | refine gSk ?_ | refine gBl ?_ | refine gIb ?_ | refine gEx rfl ?_
  | ((first
  | (refine gRg [] [0, 1, 2, 3, 8, 9, 10, 11, 12, 13, 20, 24, 38, 59, 76, 87, 120] ?_; intro K hK)
  | (refine gDr 7 [] 15 [0, 1, 2, 3, 4, 5, 6, 7, 8, 9, 10, 11, 12, 13, 14, 15, 16] [0, 1, 2, 3, 8, 9, 10, 11, 12, 13, 20, 24, 38, 59, 76, 87, 120] rfl ?_; intro K hK)
  | (refine gDr 20 [] 7 [0, 1, 2, 3, 4, 5, 6, 7, 8, 9] [0, 1, 2, 3, 8, 9, 10, 11, 12, 13, 20, 24, 38, 59, 76, 87, 120] rfl ?_; intro K hK)
  | (refine gDr 21 [] 7 [0, 1, 2, 3, 4, 5, 6, 7, 8, 9] [0, 1, 2, 3, 8, 9, 10, 11, 12, 13, 20, 24, 38, 59, 76, 87, 120] rfl ?_; intro K hK)
  | (refine gd_split ?_ ?_ <;> intro hb <;> (try simp only [bls] at hb) <;> (try simp only [hb]))
  | refine gRt [1000, 1001] [.cell 8 56] rfl ?_ | refine gDn [1000, 1001] [.cell 8 56] rfl ?_) <;> (try simp only [go_sem, simprocAttr, hx, e1, e2, eq_true c1, AVal.isCell, Option.some.injEq, forall_eq']))
  | (refine hK _ _ ?_; clear hK K; simp only [go_sem, simprocAttr])
  | refine gCd (by simp only [go_sem, simprocAttr]; rfl) rfl ?_
  | refine brT ?_ | refine brF ?_
  | (refine brS ?_ ?_ <;> intro hc <;> (try simp only [bls] at hc) <;> (try simp only [hc, bls]))
  | intro _ | refine And.intro ?_ ?_)
      all_goals first | omega | (unfold bigLen; omega) | exact ⟨_, _, ⟨rfl, rfl⟩, rfl⟩ | exact ⟨_, rfl⟩ | (rename_i hy; simp only [List.mem_singleton] at hy; subst hy; rfl) | with_reducible rfl | skip
      all_goals first | exact ⟨_, _, rfl⟩ | exact ⟨_, rfl⟩
    · rw [if_neg c1] at hmono hbig ⊢
      by_cases c2 : n.op = 2
      · rw [if_pos c2] at hmono hbig ⊢
        have hp := fun fl => rput9uc g g1 ps ⟨n.s, 1, 1, rule, false, []⟩ fl (Nat.le_trans hmono.1 (Nat.le_trans hbig (by omega)))
        generalize putG ⟨n.s, 1, 1, (rule : Int), false, []⟩ ps = a at hp hmono hbig ⊢
        obtain ⟨Q, ⟨en, ef, el⟩⟩ := a
        obtain ⟨xo, ⟨xa, xb, xc, xd⟩, xl, xlo, xhi, xn⟩ := n
        simp only at c1 c2
        clear hmono hbig m1 m2 m3
        simp only [gsto, Po.cellsF, En.cells] at hp ⊢
        refine ACall.enter Tryz.func17 rfl (by kernel_rfl) (Nat.le_of_ble_eq_true rfl) ?_; simp only [initTm, Nat.reduceAdd]
        repeat' (first
  | refine gSq ?_ | refine gSk ?_ | refine gBl ?_ | refine gIb ?_ | refine gEx rfl ?_
  | ((first
  | (refine gRg [] [0, 1, 2, 3, 8, 9, 10, 11, 12, 13, 20, 24, 38, 59, 76, 87, 120] ?_; intro K hK)
  | (refine gDr 7 [] 15 [0, 1, 2, 3, 4, 5, 6, 7, 8, 9, 10, 11, 12, 13, 14, 15, 16] [0, 1, 2, 3, 8, 9, 10, 11, 12, 13, 20, 24, 38, 59, 76, 87, 120] rfl ?_; intro K hK)
  | (refine gDr 20 [] 7 [0, 1, 2, 3, 4, 5, 6, 7, 8, 9] [0, 1, 2, 3, 8, 9, 10, 11, 12, 13, 20, 24, 38, 59, 76, 87, 120] rfl ?_; intro K hK)
  | (refine gDr 21 [] 7 [0, 1, 2, 3, 4, 5, 6, 7, 8, 9] [0, 1, 2, 3, 8, 9, 10, 11, 12, 13, 20, 24, 38, 59, 76, 87, 120] rfl ?_; intro K hK)
  | (refine ACall.use [(1000, 1000), (1001, 1001)] [] rfl (hp _) rfl rfl rfl ?_; (first | rintro _ _ ⟨rfl, rfl⟩ | rintro _ _ ⟨rfl, h1, rfl⟩); refine ⟨.inl rfl, rfl, ?_⟩; simp only [bk, bk2, bk1, bkS, bkO, idOf, delAll, go_sem, simprocAttr])
  | (refine gd_split ?_ ?_ <;> intro hb <;> (try simp only [bls] at hb) <;> (try simp only [hb]))
  | refine gRt [1000, 1001] [.cell 8 56] rfl ?_ | refine gDn [1000, 1001] [.cell 8 56] rfl ?_) <;> (try simp only [go_sem, simprocAttr, hx, e1, e2, c1, eq_true c2, AVal.isCell, Option.some.injEq, forall_eq']))
  | (refine hK _ _ ?_; clear hK K; simp only [go_sem, simprocAttr])
  | refine gCd (by simp only [go_sem, simprocAttr]; rfl) rfl ?_
  | refine brT ?_ | refine brF ?_
  | (refine brS ?_ ?_ <;> intro hc <;> (try simp only [bls] at hc) <;> (try simp only [hc, bls]))
  | intro _ | refine And.intro ?_ ?_)
        all_goals first | omega | (unfold bigLen; omega) | exact ⟨_, _, ⟨rfl, rfl⟩, rfl⟩ | exact ⟨_, rfl⟩ | (rename_i hy; simp only [List.mem_singleton] at hy; subst hy; rfl) | with_reducible rfl | skip
        all_goals first | exact ⟨_, _, rfl⟩ | exact ⟨_, rfl⟩
      · rw [if_neg c2] at hmono hbig ⊢
        have m4 := m3 c1 c2
        by_cases c5 : n.op = 5 ∧ n.hi ≠ -1
        · rw [if_pos c5] at hmono hbig ⊢
          obtain ⟨kd, hkd⟩ : ∃ kd, n.l[0]? = some kd := ⟨_, List.getElem?_eq_getElem (by omega)⟩
          have hkb := m2 kd (List.mem_of_getElem? hkd)
          obtain ⟨kid, rfl⟩ : ∃ kid : Nat, kd = kid := ⟨kd.toNat, by omega⟩
          obtain ⟨y, hy⟩ : ∃ y, l[kid]? = some y := ⟨_, List.getElem?_eq_getElem (by omega)⟩
          have e3 : (kid : Int) < l.length := by omega
          have e4 : (0 : Int) ≤ kid := by omega
          have e5 : (0 : Int) < n.l.length := by omega
          have e6 : nAt l (n.l.headD 0) = y := by
            have : n.l.headD 0 = (kid : Int) := by
              cases hh : n.l with
              | nil => rw [hh] at hkd; cases hkd
              | cons a r => rw [hh] at hkd; simpa using hkd
            rw [this, nAt_get hy]
          rw [e6] at hmono hbig ⊢
          have hp := fun fl => rput9uc g g1 ps ⟨y.s, n.lo, n.hi, rule, false, []⟩ fl (Nat.le_trans hmono.1 (Nat.le_trans hbig (by omega)))
          generalize putG ⟨y.s, n.lo, n.hi, (rule : Int), false, []⟩ ps = a at hp hmono hbig ⊢
          obtain ⟨Q, ⟨en, ef, el⟩⟩ := a
          obtain ⟨xo, ⟨xa, xb, xc, xd⟩, xl, xlo, xhi, xn⟩ := n
          obtain ⟨yo, ⟨ya, yb, yc, yd⟩, yl, ylo, yhi, yn⟩ := y
          obtain ⟨c5, c6⟩ := c5
          simp only at c1 c2 c5 c6 hkd e5
          clear hmono hbig m1 m2 m3 m4
          simp only [gsto, Po.cellsF, En.cells] at hp ⊢
          refine ACall.enter Tryz.func17 rfl (by kernel_rfl) (Nat.le_of_ble_eq_true rfl) ?_; simp only [initTm, Nat.reduceAdd]
          repeat' (first
  | refine gSq ?_ | refine gSk ?_ | refine gBl ?_ | refine gIb ?_ | refine gEx rfl ?_
  | ((first
  | (refine gRg [] [0, 1, 2, 3, 8, 9, 10, 11, 12, 13, 20, 24, 38, 59, 76, 87, 120] ?_; intro K hK)
  | (refine gDr 7 [] 15 [0, 1, 2, 3, 4, 5, 6, 7, 8, 9, 10, 11, 12, 13, 14, 15, 16] [0, 1, 2, 3, 8, 9, 10, 11, 12, 13, 20, 24, 38, 59, 76, 87, 120] rfl ?_; intro K hK)
  | (refine gDr 20 [] 7 [0, 1, 2, 3, 4, 5, 6, 7, 8, 9] [0, 1, 2, 3, 8, 9, 10, 11, 12, 13, 20, 24, 38, 59, 76, 87, 120] rfl ?_; intro K hK)
  | (refine gDr 21 [] 7 [0, 1, 2, 3, 4, 5, 6, 7, 8, 9] [0, 1, 2, 3, 8, 9, 10, 11, 12, 13, 20, 24, 38, 59, 76, 87, 120] rfl ?_; intro K hK)
  | (refine ACall.use [(1000, 1000), (1001, 1001)] [] rfl (hp _) rfl rfl rfl ?_; (first | rintro _ _ ⟨rfl, rfl⟩ | rintro _ _ ⟨rfl, h1, rfl⟩); refine ⟨.inl rfl, rfl, ?_⟩; simp only [bk, bk2, bk1, bkS, bkO, idOf, delAll, go_sem, simprocAttr])
  | (refine gd_split ?_ ?_ <;> intro hb <;> (try simp only [bls] at hb) <;> (try simp only [hb]))
  | refine gRt [1000, 1001] [.cell 8 56] rfl ?_ | refine gDn [1000, 1001] [.cell 8 56] rfl ?_) <;> (try simp only [go_sem, simprocAttr, hx, hy, hkd, e1, e2, e3, e4, e5, c1, c2, eq_true c5, c6, AVal.isCell, Option.some.injEq, forall_eq']))
  | (refine hK _ _ ?_; clear hK K; simp only [go_sem, simprocAttr])
  | refine gCd (by simp only [go_sem, simprocAttr]; rfl) rfl ?_
  | refine brT ?_ | refine brF ?_
  | (refine brS ?_ ?_ <;> intro hc <;> (try simp only [bls] at hc) <;> (try simp only [hc, bls]))
  | intro _ | refine And.intro ?_ ?_)
          all_goals first | omega | (unfold bigLen; omega) | exact ⟨_, _, ⟨rfl, rfl⟩, rfl⟩ | exact ⟨_, rfl⟩ | (rename_i hy; simp only [List.mem_singleton] at hy; subst hy; rfl) | with_reducible rfl | skip
          all_goals first | exact ⟨_, _, rfl⟩ | exact ⟨_, rfl⟩
        · rw [if_neg c5] at hmono hbig ⊢
          obtain ⟨node, hnode⟩ : ∃ node, node = nodeR l rule fu := ⟨_, rfl⟩
          have hnok := fun k ps h => nodeR_ok l rule fu k ps h
          rw [← hnode] at hmono hbig ih hnok ⊢
          clear hnode
          simp only at hmono hbig ⊢
          obtain ⟨S, hS⟩ : ∃ S, S = kidsG node n.l ps [] := ⟨_, rfl⟩
          obtain ⟨s1, s2, s3, s4⟩ := kidsG_ok hnok n.l ps [] hps (fun e he => by simp at he)
          rw [← hS] at hmono hbig s1 s2 s3 s4 ⊢
          have hSl : S.1.length ≤ 100000 := by
            split at hbig
            · have := (catG_ok S.2 (s := (S.1, ⟨true, [], []⟩)) s2 (re_nil _ _) s3).1
              simp only [catG] at hbig
              simp only at this
              omega
            · split at hbig
              · simpa only [lnk_len] using hbig
              · exact hbig
          clear hmono hbig
          obtain ⟨xo, ⟨xa, xb, xc, xd⟩, xl, xlo, xhi, xn⟩ := n
          simp only at c1 c2 c5 m1 m2 m4 hS s4 ⊢
          simp only [List.length_nil, Nat.zero_add] at s4
          have hbr : xo = 5 → xhi = -1 := fun h => by
            by_cases h2 : xhi = -1
            · exact h2
            · exact absurd ⟨h, h2⟩ c5
          simp only [gsto]
          have hxo : (xo = 5 ∧ xhi = -1) ∨ ¬ xo = 5 := by
            by_cases h : xo = 5
            · exact .inl ⟨h, hbr h⟩
            · exact .inr h
          clear c5 hbr m3
          rcases hxo with ⟨c5, c6⟩ | c5
          · have f5 := eq_true c5
            have f6 := eq_true c6
            have c3 : ¬ xo = 3 := by omega
            rw [if_neg c3, if_pos c5]
            refine ACall.enter Tryz.func17 rfl (by kernel_rfl) (Nat.le_of_ble_eq_true rfl) ?_; simp only [initTm, Nat.reduceAdd]
            repeat' (first
  | refine gSq ?_ | refine gSk ?_ | refine gBl ?_ | refine gIb ?_ | refine gEx rfl ?_
  | ((first
  | (refine gRg [] [0, 1, 2, 3, 8, 9, 10, 11, 12, 13, 20, 24, 38, 59, 76, 87, 120] ?_; intro K hK)
  | (refine gDr 7 [] 15 [0, 1, 2, 3, 4, 5, 6, 7, 8, 9, 10, 11, 12, 13, 14, 15, 16] [0, 1, 2, 3, 8, 9, 10, 11, 12, 13, 20, 24, 38, 59, 76, 87, 120] rfl ?_; intro K hK)
  | (refine gDr 20 [] 7 [0, 1, 2, 3, 4, 5, 6, 7, 8, 9] [0, 1, 2, 3, 8, 9, 10, 11, 12, 13, 20, 24, 38, 59, 76, 87, 120] rfl ?_; intro K hK)
  | (refine gDr 21 [] 7 [0, 1, 2, 3, 4, 5, 6, 7, 8, 9] [0, 1, 2, 3, 8, 9, 10, 11, 12, 13, 20, 24, 38, 59, 76, 87, 120] rfl ?_; intro K hK)
  | (refine gd_split ?_ ?_ <;> intro hb <;> (try simp only [bls] at hb) <;> (try simp only [hb]))
  | refine gRt [1000, 1001] [.cell 8 56] rfl ?_ | refine gDn [1000, 1001] [.cell 8 56] rfl ?_) <;> (try simp only [go_sem, simprocAttr, hx, e1, e2, c1, c2, f5, f6, AVal.isCell, Option.some.injEq, forall_eq']))
  | (refine hK _ _ ?_; clear hK K; simp only [go_sem, simprocAttr])
  | refine gCd (by simp only [go_sem, simprocAttr]; rfl) rfl ?_
  | refine brT ?_ | refine brF ?_
  | (refine brS ?_ ?_ <;> intro hc <;> (try simp only [bls] at hc) <;> (try simp only [hc, bls]))
  | intro _ | refine And.intro ?_ ?_)
            all_goals first | omega | (unfold bigLen; omega) | exact ⟨_, _, ⟨rfl, rfl⟩, rfl⟩ | exact ⟨_, rfl⟩ | (rename_i hy; simp only [List.mem_singleton] at hy; subst hy; rfl) | with_reducible rfl | skip
            rename_i h8 h9
            refine AGood.ownTm 10 900 3 (by decide) rfl fun g9 => ?_
            simp only [go_sem, simprocAttr]
            refine AGood.prune [0, 1, 3, 8, 9, 10, 11] ?_; simp only [go_sem, simprocAttr]
            refine AGood.loopInv (α := Nat × List Po × List En × Nat × Nat) (fun z => ([(0, .bx 1000 g 0), (1, .sl true f (nodes l)), (3, .int .i64 rule), (8, .bx 8 h8 0), (9, .bx 9 h9 0), (10, .osl 900 z.2.2.2.2 0 z.2.2.1.length), (11, .int .i64 z.1)], [(8, (h8, .box [.bool false, .sl true true [], .sl true true []])), (9, (h9, .box [.int .u8 xo, .int .u64 xa, .int .u64 xb, .int .u64 xc, .int .u64 xd, .sl true false (ints xl), .int .i64 xlo, .int .i64 xhi, .str xn])), (900, (z.2.2.2.2, .row 3 (ens z.2.2.1))), (1000, (g, .box [.osl 1001 z.2.2.2.1 0 z.2.1.length])), (1001, (z.2.2.2.1, .row 9 (poss z.2.1)))]))
              (fun z => z.1 ≤ xl.length ∧ z.2.2.1.length = z.1 ∧ Rn z.2.1.length z.2.1 ∧ (∀ e ∈ z.2.2.1, Re z.2.1.length e) ∧ S = kidsG node (xl.drop z.1) z.2.1 z.2.2.1) (fun z => xl.length - z.1) (0, ps, [], g1, g9) ⟨Nat.zero_le _, rfl, hps, fun e he => by simp at he, hS⟩ rfl ?_
            rintro ⟨i, ps', ks, g1, g9⟩ ⟨hi, hkl', hrn, hks, hrun⟩ ih2
            simp only at hi hkl' hrn hks hrun ih2 ⊢
            by_cases hle : i < xl.length
            · have e4 : (i : Int) < xl.length := by omega
              have e5 : (0 : Int) ≤ i := by omega
              have e6 : (i : Int) + 1 = ((i + 1 : Nat) : Int) := by omega
              obtain ⟨kd, hkd⟩ : ∃ kd, xl[i]? = some kd := ⟨_, List.getElem?_eq_getElem hle⟩
              have hkb := m2 kd (List.mem_of_getElem? hkd)
              obtain ⟨kid, rfl⟩ : ∃ kid : Nat, kd = kid := ⟨kd.toNat, by omega⟩
              have hdr : xl.drop i = (kid : Int) :: xl.drop (i + 1) := by
                obtain ⟨h1, h2⟩ := List.getElem?_eq_some_iff.1 hkd
                rw [List.drop_eq_getElem_cons h1, h2]
              rw [hdr, kidsG, Int.toNat_natCast] at hrun
              obtain ⟨a1, a2, a3⟩ := hnok kid ps' hrn
              have hks2 : ∀ e ∈ ks ++ [(node kid ps').2], Re (node kid ps').1.length e := fun e he => by
                rcases List.mem_append.1 he with he | he
                · exact re_mono (hks e he) a1
                · rw [List.mem_singleton.1 he]; exact a3
              have hb := (kidsG_ok hnok (xl.drop (i + 1)) (node kid ps').1 (ks ++ [(node kid ps').2]) a2 hks2).1
              rw [← hrun] at hb
              have hp := ih kid (by omega) (by omega) g g1 ps' hrn (by omega)
              generalize node kid ps' = a at hp hrun a1 a2 a3 hks2 hb
              obtain ⟨Q, ⟨en, ef, el⟩⟩ := a
              simp only [gsto, En.cells] at hp hrun a1 a2 hks2 hb
              repeat' (first
  | refine gSq ?_ | refine gSk ?_ | refine gBl ?_ | refine gIb ?_ | refine gEx rfl ?_
  | ((first
  | (refine gRg [72] [0, 1, 2, 3, 8, 9, 10, 11, 12, 13, 20, 24, 38, 59, 76, 87, 120] ?_; intro K hK)
  | (refine gDr 7 [72] 15 [0, 1, 2, 3, 4, 5, 6, 7, 8, 9, 10, 11, 12, 13, 14, 15, 16] [0, 1, 2, 3, 8, 9, 10, 11, 12, 13, 20, 24, 38, 59, 76, 87, 120] rfl ?_; intro K hK)
  | (refine gDr 20 [72] 7 [0, 1, 2, 3, 4, 5, 6, 7, 8, 9] [0, 1, 2, 3, 8, 9, 10, 11, 12, 13, 20, 24, 38, 59, 76, 87, 120] rfl ?_; intro K hK)
  | (refine gDr 21 [72] 7 [0, 1, 2, 3, 4, 5, 6, 7, 8, 9] [0, 1, 2, 3, 8, 9, 10, 11, 12, 13, 20, 24, 38, 59, 76, 87, 120] rfl ?_; intro K hK)
  | (refine ACall.use [(1000, 1000), (1001, 1001)] [] rfl (hp) rfl rfl rfl ?_; (first | rintro _ _ ⟨rfl, rfl⟩ | rintro _ _ ⟨rfl, h1, rfl⟩); refine ⟨.inl rfl, rfl, ?_⟩; simp only [bk, bk2, bk1, bkS, bkO, idOf, delAll, go_sem, simprocAttr])
  | (refine gd_split ?_ ?_ <;> intro hb <;> (try simp only [bls] at hb) <;> (try simp only [hb]))
  | refine gRt [1000, 1001] [.cell 8 56] rfl ?_ | refine gDn [1000, 1001] [.cell 8 56] rfl ?_) <;> (try simp only [go_sem, simprocAttr, e4, e5, e6, hkd, AVal.isCell, Option.some.injEq, forall_eq']))
  | (refine hK _ _ ?_; clear hK K; simp only [go_sem, simprocAttr])
  | refine gCd (by simp only [go_sem, simprocAttr]; rfl) rfl ?_
  | refine brT ?_ | refine brF ?_
  | (refine brS ?_ ?_ <;> intro hc <;> (try simp only [bls] at hc) <;> (try simp only [hc, bls]))
  | intro _ | refine And.intro ?_ ?_)
              all_goals first | omega | (unfold bigLen; omega) | exact ⟨_, _, ⟨rfl, rfl⟩, rfl⟩ | exact ⟨_, rfl⟩ | (rename_i hy; simp only [List.mem_singleton] at hy; subst hy; rfl) | with_reducible rfl | skip
              rename_i h'
              refine AGood.filt [8, 9, 900, 1000, 1001] ?_
              simp only [sf_cons, sf_nil, go_sem, simprocAttr]
              refine AGood.prune [0, 1, 3, 8, 9, 10, 11] ?_; simp only [go_sem, simprocAttr]
              refine AGood.cast (ih2 (i + 1, Q, ks ++ [⟨en, ef, el⟩], h1, h') ⟨by simp only; omega, by simp [hkl'], a2, hks2, hrun⟩ (by simp only; omega)) ?_ ?_
              · simp
              · simp
            · have e4 : ¬ (i : Int) < xl.length := by omega
              rw [List.drop_of_length_le (by omega), kidsG] at hrun
              subst hrun
              clear ih2 ih hnok s1 s2 s3
              simp only at hSl s4 ⊢
              have hk1 : 1 ≤ ks.length := by omega
              have u15 : (ens ks).take ks.length = ens ks := List.take_of_length_le (by simp)
              have hA0 : accE true [] = ⟨true, [], []⟩ := rfl
              obtain ⟨A, hA⟩ : ∃ A : Nat → En, A = fun j => accE true (ks.take j) := ⟨_, rfl⟩
              have hA0 : A 0 = ⟨true, [], []⟩ := by rw [hA]; rfl
              have hA1 : ∀ (j : Nat) (y : En), ks[j]? = some y → A (j + 1) = orE (A j) y := fun j y h => by rw [hA]; simp only [accE, take_one h, List.foldl_append]; rfl
              have hAo : ∀ j, Re ps'.length (A j) := fun j => by rw [hA]; exact altG_ok _ (re_nil _ _) fun y hy => hks y (List.mem_of_mem_take hy)
              have hAE : accE true ks = A ks.length := by rw [hA]; simp only [List.take_length]
              clear hA
              rw [hAE]
              repeat' (first
  | refine gSq ?_ | refine gSk ?_ | refine gBl ?_ | refine gIb ?_ | refine gEx rfl ?_
  | ((first
  | (refine AGood.at 13 ?_; (refine AGood.freeze 900 rfl ?_; simp only [rfT, rfS, rfO, rf, rf1, u15, List.length_map, Nat.le_refl, true_and, go_sem, simprocAttr]); (refine gRg [] [0, 1, 2, 3, 8, 9, 10, 11, 12, 13, 20, 24, 38, 59, 76, 87, 120] ?_; intro K hK))
  | (refine gRg [] [0, 1, 2, 3, 8, 9, 10, 11, 12, 13, 20, 24, 38, 59, 76, 87, 120] ?_; intro K hK)
  | (refine gDr 7 [] 15 [0, 1, 2, 3, 4, 5, 6, 7, 8, 9, 10, 11, 12, 13, 14, 15, 16] [0, 1, 2, 3, 8, 9, 10, 11, 12, 13, 20, 24, 38, 59, 76, 87, 120] rfl ?_; intro K hK)
  | (refine gDr 20 [] 7 [0, 1, 2, 3, 4, 5, 6, 7, 8, 9] [0, 1, 2, 3, 8, 9, 10, 11, 12, 13, 20, 24, 38, 59, 76, 87, 120] rfl ?_; intro K hK)
  | (refine gDr 21 [] 7 [0, 1, 2, 3, 4, 5, 6, 7, 8, 9] [0, 1, 2, 3, 8, 9, 10, 11, 12, 13, 20, 24, 38, 59, 76, 87, 120] rfl ?_; intro K hK)
  | (refine gd_split ?_ ?_ <;> intro hb <;> (try simp only [bls] at hb) <;> (try simp only [hb]))
  | refine gRt [1000, 1001] [.cell 8 56] rfl ?_ | refine gDn [1000, 1001] [.cell 8 56] rfl ?_) <;> (try simp only [go_sem, simprocAttr, e4, c3, f5, f6, AVal.isCell]))
  | (refine hK _ _ ?_; clear hK K; simp only [go_sem, simprocAttr])
  | refine gCd (by simp only [go_sem, simprocAttr]; rfl) rfl ?_
  | refine brT ?_ | refine brF ?_
  | (refine brS ?_ ?_ <;> intro hc <;> (try simp only [bls] at hc) <;> (try simp only [hc, bls]))
  | intro _ | refine And.intro ?_ ?_)
              all_goals first | omega | (unfold bigLen; omega) | exact ⟨_, _, ⟨rfl, rfl⟩, rfl⟩ | exact ⟨_, rfl⟩ | (rename_i hy; simp only [List.mem_singleton] at hy; subst hy; rfl) | with_reducible rfl | skip
              rename_i h12
              refine AGood.prune [0, 3, 8, 9, 10, 12, 13] ?_; simp only [go_sem, simprocAttr]
              refine AGood.loopInv (α := Nat) (fun j => ([(0, .bx 1000 g 0), (3, .int .i64 rule), (8, .bx 8 h8 0), (9, .bx 9 h9 0), (10, .sl true false (ens ks)), (12, .bx 12 h12 0), (13, .int .i64 j)], [(8, (h8, .box [.bool false, .sl true true [], .sl true true []])), (9, (h9, .box [.int .u8 xo, .int .u64 xa, .int .u64 xb, .int .u64 xc, .int .u64 xd, .sl true false (ints xl), .int .i64 xlo, .int .i64 xhi, .str xn])), (12, (h12, .box [.bool (A j).null, .sl true (decide (j = 0)) (ints (A j).first), .sl true (decide (j = 0)) (ints (A j).last)])), (1000, (g, .box [.osl 1001 g1 0 ps'.length])), (1001, (g1, .row 9 (poss ps')))])) (fun j => j ≤ ks.length) (fun j => ks.length - j) 0 (Nat.zero_le _) (by rw [hA0]; rfl) ?_
              rintro j hj ih2
              simp only at hj ih2 ⊢
              by_cases hlj : j < ks.length
              · have d4 : (j : Int) < ks.length := by omega
                have d5 : (0 : Int) ≤ j := by omega
                have d6 : (j : Int) + 1 = ((j + 1 : Nat) : Int) := by omega
                obtain ⟨y, hy⟩ : ∃ y, ks[j]? = some y := ⟨_, List.getElem?_eq_getElem hlj⟩
                have hyr := hks y (List.mem_of_getElem? hy)
                have ha1 := hA1 j y hy
                have hao := hAo j
                have hdf : decide (j + 1 = 0) = false := rfl
                generalize A j = w at ha1 hao ⊢
                have hb1 := fun f1 => both9uc true f1 true false w.first y.first _ hao.1 hyr.1 (by omega)
                have hb2 := fun f1 => both9uc true f1 true false w.last y.last _ hao.2 hyr.2 (by omega)
                generalize decide (j = 0) = fb
                obtain ⟨wn, wf, wl⟩ := w
                obtain ⟨yn, yf, yl⟩ := y
                simp only [orE] at hb1 hb2 ha1
                clear hyr hao hA1 hAo hA0
                cases wn
                · repeat' (first
  | refine gSq ?_ | refine gSk ?_ | refine gBl ?_ | refine gIb ?_ | refine gEx rfl ?_
  | ((first
  | (refine gRg [] [0, 1, 2, 3, 8, 9, 10, 11, 12, 13, 20, 24, 38, 59, 76, 87, 120] ?_; intro K hK)
  | (refine gDr 7 [] 15 [0, 1, 2, 3, 4, 5, 6, 7, 8, 9, 10, 11, 12, 13, 14, 15, 16] [0, 1, 2, 3, 8, 9, 10, 11, 12, 13, 20, 24, 38, 59, 76, 87, 120] rfl ?_; intro K hK)
  | (refine gDr 20 [] 9 [0, 1, 2, 3, 4, 5, 6, 7, 8, 9] [0, 1, 2, 3, 8, 9, 10, 11, 12, 13, 20, 24, 38, 59, 76, 87, 120] rfl ?_; intro K hK)
  | (refine gDr 21 [] 9 [0, 1, 2, 3, 4, 5, 6, 7, 8, 9] [0, 1, 2, 3, 8, 9, 10, 11, 12, 13, 20, 24, 38, 59, 76, 87, 120] rfl ?_; intro K hK)
  | refine ⟨_, ACall.alone (hb1 _) rfl rfl rfl, ?_⟩
  | refine ⟨_, ACall.alone (hb2 _) rfl rfl rfl, ?_⟩
  | (refine gd_split ?_ ?_ <;> intro hb <;> (try simp only [bls] at hb) <;> (try simp only [hb]))
  | refine gRt [1000, 1001] [.cell 8 56] rfl ?_ | refine gDn [1000, 1001] [.cell 8 56] rfl ?_) <;> (try simp only [go_sem, simprocAttr, d4, d5, d6, hy, AVal.isCell, Option.some.injEq, forall_eq']))
  | (refine hK _ _ ?_; clear hK K; simp only [go_sem, simprocAttr])
  | refine gCd (by simp only [go_sem, simprocAttr]; rfl) rfl ?_
  | refine brT ?_ | refine brF ?_
  | (refine brS ?_ ?_ <;> intro hc <;> (try simp only [bls] at hc) <;> (try simp only [hc, bls]))
  | intro _ | refine And.intro ?_ ?_)
                  all_goals first | omega | (unfold bigLen; omega) | exact ⟨_, _, ⟨rfl, rfl⟩, rfl⟩ | exact ⟨_, rfl⟩ | (rename_i hy; simp only [List.mem_singleton] at hy; subst hy; rfl) | with_reducible rfl | skip
                  refine AGood.filt [8, 9, 12, 1000, 1001] ?_
                  simp only [sf_cons, sf_nil, go_sem, simprocAttr]
                  refine AGood.prune [0, 3, 8, 9, 10, 12, 13] ?_; simp only [go_sem, simprocAttr]
                  refine AGood.cast (ih2 (j + 1) (by omega) (by omega)) rfl ?_
                  rw [ha1]
                  simp only [hdf, Bool.false_or]
                · repeat' (first
  | refine gSq ?_ | refine gSk ?_ | refine gBl ?_ | refine gIb ?_ | refine gEx rfl ?_
  | ((first
  | (refine gRg [] [0, 1, 2, 3, 8, 9, 10, 11, 12, 13, 20, 24, 38, 59, 76, 87, 120] ?_; intro K hK)
  | (refine gDr 7 [] 15 [0, 1, 2, 3, 4, 5, 6, 7, 8, 9, 10, 11, 12, 13, 14, 15, 16] [0, 1, 2, 3, 8, 9, 10, 11, 12, 13, 20, 24, 38, 59, 76, 87, 120] rfl ?_; intro K hK)
  | (refine gDr 20 [] 9 [0, 1, 2, 3, 4, 5, 6, 7, 8, 9] [0, 1, 2, 3, 8, 9, 10, 11, 12, 13, 20, 24, 38, 59, 76, 87, 120] rfl ?_; intro K hK)
  | (refine gDr 21 [] 9 [0, 1, 2, 3, 4, 5, 6, 7, 8, 9] [0, 1, 2, 3, 8, 9, 10, 11, 12, 13, 20, 24, 38, 59, 76, 87, 120] rfl ?_; intro K hK)
  | refine ⟨_, ACall.alone (hb1 _) rfl rfl rfl, ?_⟩
  | refine ⟨_, ACall.alone (hb2 _) rfl rfl rfl, ?_⟩
  | (refine gd_split ?_ ?_ <;> intro hb <;> (try simp only [bls] at hb) <;> (try simp only [hb]))
  | refine gRt [1000, 1001] [.cell 8 56] rfl ?_ | refine gDn [1000, 1001] [.cell 8 56] rfl ?_) <;> (try simp only [go_sem, simprocAttr, d4, d5, d6, hy, AVal.isCell, Option.some.injEq, forall_eq']))
  | (refine hK _ _ ?_; clear hK K; simp only [go_sem, simprocAttr])
  | refine gCd (by simp only [go_sem, simprocAttr]; rfl) rfl ?_
  | refine brT ?_ | refine brF ?_
  | (refine brS ?_ ?_ <;> intro hc <;> (try simp only [bls] at hc) <;> (try simp only [hc, bls]))
  | intro _ | refine And.intro ?_ ?_)
                  all_goals first | omega | (unfold bigLen; omega) | exact ⟨_, _, ⟨rfl, rfl⟩, rfl⟩ | exact ⟨_, rfl⟩ | (rename_i hy; simp only [List.mem_singleton] at hy; subst hy; rfl) | with_reducible rfl | skip
                  refine AGood.filt [8, 9, 12, 1000, 1001] ?_
                  simp only [sf_cons, sf_nil, go_sem, simprocAttr]
                  refine AGood.prune [0, 3, 8, 9, 10, 12, 13] ?_; simp only [go_sem, simprocAttr]
                  refine AGood.cast (ih2 (j + 1) (by omega) (by omega)) rfl ?_
                  rw [ha1]
                  simp only [hdf, Bool.true_or]
              · have d4 : ¬ (j : Int) < ks.length := by omega
                have hjn : j = ks.length := by omega
                clear ih2
                rw [decide_eq_false (by omega)]
                subst hjn
                have hao := hAo ks.length
                clear hA1 hAo hA0 hAE
                generalize A ks.length = w at hao ⊢
                obtain ⟨wn, wf, wl⟩ := w
                have hlk := rlink9uc g g1 true false true false wl wf ps' (by omega) hrn hao.2.2 hao.1 (by have := rs_len hao.2; simp only at this; omega)
                simp only [gsto, lnk_len] at hlk ⊢
                generalize lnk wl wf ps' = V at hlk ⊢
                repeat' (first
  | refine gSq ?_ | refine gSk ?_ | refine gBl ?_ | refine gIb ?_ | refine gEx rfl ?_
  | ((first
  | (refine gRg [] [0, 1, 2, 3, 8, 9, 10, 11, 12, 13, 20, 24, 38, 59, 76, 87, 120] ?_; intro K hK)
  | (refine gDr 7 [] 15 [0, 1, 2, 3, 4, 5, 6, 7, 8, 9, 10, 11, 12, 13, 14, 15, 16] [0, 1, 2, 3, 8, 9, 10, 11, 12, 13, 20, 24, 38, 59, 76, 87, 120] rfl ?_; intro K hK)
  | (refine gDr 20 [] 7 [0, 1, 2, 3, 4, 5, 6, 7, 8, 9] [0, 1, 2, 3, 8, 9, 10, 11, 12, 13, 20, 24, 38, 59, 76, 87, 120] rfl ?_; intro K hK)
  | (refine gDr 21 [] 7 [0, 1, 2, 3, 4, 5, 6, 7, 8, 9] [0, 1, 2, 3, 8, 9, 10, 11, 12, 13, 20, 24, 38, 59, 76, 87, 120] rfl ?_; intro K hK)
  | (refine ACall.use [(1000, 1000), (1001, 1001)] [] rfl (hlk) rfl rfl rfl ?_; (first | rintro _ _ ⟨rfl, rfl⟩ | rintro _ _ ⟨rfl, h1, rfl⟩); refine ⟨.inl rfl, rfl, ?_⟩; simp only [bk, bk2, bk1, bkS, bkO, idOf, delAll, go_sem, simprocAttr])
  | (refine gd_split ?_ ?_ <;> intro hb <;> (try simp only [bls] at hb) <;> (try simp only [hb]))
  | refine gRt [1000, 1001] [.cell 8 56] rfl ?_ | refine gDn [1000, 1001] [.cell 8 56] rfl ?_) <;> (try simp only [go_sem, simprocAttr, d4, f5, f6, AVal.isCell]))
  | (refine hK _ _ ?_; clear hK K; simp only [go_sem, simprocAttr])
  | refine gCd (by simp only [go_sem, simprocAttr]; rfl) rfl ?_
  | refine brT ?_ | refine brF ?_
  | (refine brS ?_ ?_ <;> intro hc <;> (try simp only [bls] at hc) <;> (try simp only [hc, bls]))
  | intro _ | refine And.intro ?_ ?_)
                all_goals first | omega | (unfold bigLen; omega) | exact ⟨_, _, ⟨rfl, rfl⟩, rfl⟩ | exact ⟨_, rfl⟩ | (rename_i hy; simp only [List.mem_singleton] at hy; subst hy; rfl) | with_reducible rfl | skip
                all_goals first | exact ⟨_, _, rfl⟩ | exact ⟨_, rfl⟩
          · have f5 := eq_false c5
            have f6 := eq_true (rfl : xo = xo)
            refine ACall.enter Tryz.func17 rfl (by kernel_rfl) (Nat.le_of_ble_eq_true rfl) ?_; simp only [initTm, Nat.reduceAdd]
            repeat' (first
  | refine gSq ?_ | refine gSk ?_ | refine gBl ?_ | refine gIb ?_ | refine gEx rfl ?_
  | ((first
  | (refine gRg [] [0, 1, 2, 3, 8, 9, 10, 11, 12, 13, 20, 24, 38, 59, 76, 87, 120] ?_; intro K hK)
  | (refine gDr 7 [] 15 [0, 1, 2, 3, 4, 5, 6, 7, 8, 9, 10, 11, 12, 13, 14, 15, 16] [0, 1, 2, 3, 8, 9, 10, 11, 12, 13, 20, 24, 38, 59, 76, 87, 120] rfl ?_; intro K hK)
  | (refine gDr 20 [] 7 [0, 1, 2, 3, 4, 5, 6, 7, 8, 9] [0, 1, 2, 3, 8, 9, 10, 11, 12, 13, 20, 24, 38, 59, 76, 87, 120] rfl ?_; intro K hK)
  | (refine gDr 21 [] 7 [0, 1, 2, 3, 4, 5, 6, 7, 8, 9] [0, 1, 2, 3, 8, 9, 10, 11, 12, 13, 20, 24, 38, 59, 76, 87, 120] rfl ?_; intro K hK)
  | (refine gd_split ?_ ?_ <;> intro hb <;> (try simp only [bls] at hb) <;> (try simp only [hb]))
  | refine gRt [1000, 1001] [.cell 8 56] rfl ?_ | refine gDn [1000, 1001] [.cell 8 56] rfl ?_) <;> (try simp only [go_sem, simprocAttr, hx, e1, e2, c1, c2, f5, f6, AVal.isCell, Option.some.injEq, forall_eq']))
  | (refine hK _ _ ?_; clear hK K; simp only [go_sem, simprocAttr])
  | refine gCd (by simp only [go_sem, simprocAttr]; rfl) rfl ?_
  | refine brT ?_ | refine brF ?_
  | (refine brS ?_ ?_ <;> intro hc <;> (try simp only [bls] at hc) <;> (try simp only [hc, bls]))
  | intro _ | refine And.intro ?_ ?_)
            all_goals first | omega | (unfold bigLen; omega) | exact ⟨_, _, ⟨rfl, rfl⟩, rfl⟩ | exact ⟨_, rfl⟩ | (rename_i hy; simp only [List.mem_singleton] at hy; subst hy; rfl) | with_reducible rfl | skip
            rename_i h8 h9
            refine AGood.ownTm 10 900 3 (by decide) rfl fun g9 => ?_
            simp only [go_sem, simprocAttr]
            refine AGood.prune [0, 1, 3, 8, 9, 10, 11] ?_; simp only [go_sem, simprocAttr]
            refine AGood.loopInv (α := Nat × List Po × List En × Nat × Nat) (fun z => ([(0, .bx 1000 g 0), (1, .sl true f (nodes l)), (3, .int .i64 rule), (8, .bx 8 h8 0), (9, .bx 9 h9 0), (10, .osl 900 z.2.2.2.2 0 z.2.2.1.length), (11, .int .i64 z.1)], [(8, (h8, .box [.bool false, .sl true true [], .sl true true []])), (9, (h9, .box [.int .u8 xo, .int .u64 xa, .int .u64 xb, .int .u64 xc, .int .u64 xd, .sl true false (ints xl), .int .i64 xlo, .int .i64 xhi, .str xn])), (900, (z.2.2.2.2, .row 3 (ens z.2.2.1))), (1000, (g, .box [.osl 1001 z.2.2.2.1 0 z.2.1.length])), (1001, (z.2.2.2.1, .row 9 (poss z.2.1)))]))
              (fun z => z.1 ≤ xl.length ∧ z.2.2.1.length = z.1 ∧ Rn z.2.1.length z.2.1 ∧ (∀ e ∈ z.2.2.1, Re z.2.1.length e) ∧ S = kidsG node (xl.drop z.1) z.2.1 z.2.2.1) (fun z => xl.length - z.1) (0, ps, [], g1, g9) ⟨Nat.zero_le _, rfl, hps, fun e he => by simp at he, hS⟩ rfl ?_
            rintro ⟨i, ps', ks, g1, g9⟩ ⟨hi, hkl', hrn, hks, hrun⟩ ih2
            simp only at hi hkl' hrn hks hrun ih2 ⊢
            by_cases hle : i < xl.length
            · have e4 : (i : Int) < xl.length := by omega
              have e5 : (0 : Int) ≤ i := by omega
              have e6 : (i : Int) + 1 = ((i + 1 : Nat) : Int) := by omega
              obtain ⟨kd, hkd⟩ : ∃ kd, xl[i]? = some kd := ⟨_, List.getElem?_eq_getElem hle⟩
              have hkb := m2 kd (List.mem_of_getElem? hkd)
              obtain ⟨kid, rfl⟩ : ∃ kid : Nat, kd = kid := ⟨kd.toNat, by omega⟩
              have hdr : xl.drop i = (kid : Int) :: xl.drop (i + 1) := by
                obtain ⟨h1, h2⟩ := List.getElem?_eq_some_iff.1 hkd
                rw [List.drop_eq_getElem_cons h1, h2]
              rw [hdr, kidsG, Int.toNat_natCast] at hrun
              obtain ⟨a1, a2, a3⟩ := hnok kid ps' hrn
              have hks2 : ∀ e ∈ ks ++ [(node kid ps').2], Re (node kid ps').1.length e := fun e he => by
                rcases List.mem_append.1 he with he | he
                · exact re_mono (hks e he) a1
                · rw [List.mem_singleton.1 he]; exact a3
              have hb := (kidsG_ok hnok (xl.drop (i + 1)) (node kid ps').1 (ks ++ [(node kid ps').2]) a2 hks2).1
              rw [← hrun] at hb
              have hp := ih kid (by omega) (by omega) g g1 ps' hrn (by omega)
              generalize node kid ps' = a at hp hrun a1 a2 a3 hks2 hb
              obtain ⟨Q, ⟨en, ef, el⟩⟩ := a
              simp only [gsto, En.cells] at hp hrun a1 a2 hks2 hb
              repeat' (first
  | refine gSq ?_ | refine gSk ?_ | refine gBl ?_ | refine gIb ?_ | refine gEx rfl ?_
  | ((first
  | (refine gRg [72] [0, 1, 2, 3, 8, 9, 10, 11, 12, 13, 20, 24, 38, 59, 76, 87, 120] ?_; intro K hK)
  | (refine gDr 7 [72] 15 [0, 1, 2, 3, 4, 5, 6, 7, 8, 9, 10, 11, 12, 13, 14, 15, 16] [0, 1, 2, 3, 8, 9, 10, 11, 12, 13, 20, 24, 38, 59, 76, 87, 120] rfl ?_; intro K hK)
  | (refine gDr 20 [72] 7 [0, 1, 2, 3, 4, 5, 6, 7, 8, 9] [0, 1, 2, 3, 8, 9, 10, 11, 12, 13, 20, 24, 38, 59, 76, 87, 120] rfl ?_; intro K hK)
  | (refine gDr 21 [72] 7 [0, 1, 2, 3, 4, 5, 6, 7, 8, 9] [0, 1, 2, 3, 8, 9, 10, 11, 12, 13, 20, 24, 38, 59, 76, 87, 120] rfl ?_; intro K hK)
  | (refine ACall.use [(1000, 1000), (1001, 1001)] [] rfl (hp) rfl rfl rfl ?_; (first | rintro _ _ ⟨rfl, rfl⟩ | rintro _ _ ⟨rfl, h1, rfl⟩); refine ⟨.inl rfl, rfl, ?_⟩; simp only [bk, bk2, bk1, bkS, bkO, idOf, delAll, go_sem, simprocAttr])
  | (refine gd_split ?_ ?_ <;> intro hb <;> (try simp only [bls] at hb) <;> (try simp only [hb]))
  | refine gRt [1000, 1001] [.cell 8 56] rfl ?_ | refine gDn [1000, 1001] [.cell 8 56] rfl ?_) <;> (try simp only [go_sem, simprocAttr, e4, e5, e6, hkd, AVal.isCell, Option.some.injEq, forall_eq']))
  | (refine hK _ _ ?_; clear hK K; simp only [go_sem, simprocAttr])
  | refine gCd (by simp only [go_sem, simprocAttr]; rfl) rfl ?_
  | refine brT ?_ | refine brF ?_
  | (refine brS ?_ ?_ <;> intro hc <;> (try simp only [bls] at hc) <;> (try simp only [hc, bls]))
  | intro _ | refine And.intro ?_ ?_)
              all_goals first | omega | (unfold bigLen; omega) | exact ⟨_, _, ⟨rfl, rfl⟩, rfl⟩ | exact ⟨_, rfl⟩ | (rename_i hy; simp only [List.mem_singleton] at hy; subst hy; rfl) | with_reducible rfl | skip
              rename_i h'
              refine AGood.filt [8, 9, 900, 1000, 1001] ?_
              simp only [sf_cons, sf_nil, go_sem, simprocAttr]
              refine AGood.prune [0, 1, 3, 8, 9, 10, 11] ?_; simp only [go_sem, simprocAttr]
              refine AGood.cast (ih2 (i + 1, Q, ks ++ [⟨en, ef, el⟩], h1, h') ⟨by simp only; omega, by simp [hkl'], a2, hks2, hrun⟩ (by simp only; omega)) ?_ ?_
              · simp
              · simp
            · have e4 : ¬ (i : Int) < xl.length := by omega
              rw [List.drop_of_length_le (by omega), kidsG] at hrun
              subst hrun
              clear ih2 ih hnok s1 s2 s3
              simp only at hSl s4 ⊢
              have hk1 : 1 ≤ ks.length := by omega
              have u15 : (ens ks).take ks.length = ens ks := List.take_of_length_le (by simp)
              by_cases c3 : xo = 3
              · rw [if_pos c3]
                have hc := rcat9uc g g1 true false ks ps' (by omega) hrn hks (by omega) hk1
                generalize catG ps' ks = a at hc ⊢
                obtain ⟨Q, ⟨en, ef, el⟩⟩ := a
                simp only [gsto, En.cells] at hc ⊢
                have f3 := eq_true c3
                repeat' (first
  | refine gSq ?_ | refine gSk ?_ | refine gBl ?_ | refine gIb ?_ | refine gEx rfl ?_
  | ((first
  | (refine AGood.at 13 ?_; (refine AGood.freeze 900 rfl ?_; simp only [rfT, rfS, rfO, rf, rf1, u15, List.length_map, Nat.le_refl, true_and, go_sem, simprocAttr]); (refine gRg [] [0, 1, 2, 3, 8, 9, 10, 11, 12, 13, 20, 24, 38, 59, 76, 87, 120] ?_; intro K hK))
  | (refine gRg [] [0, 1, 2, 3, 8, 9, 10, 11, 12, 13, 20, 24, 38, 59, 76, 87, 120] ?_; intro K hK)
  | (refine gDr 7 [] 15 [0, 1, 2, 3, 4, 5, 6, 7, 8, 9, 10, 11, 12, 13, 14, 15, 16] [0, 1, 2, 3, 8, 9, 10, 11, 12, 13, 20, 24, 38, 59, 76, 87, 120] rfl ?_; intro K hK)
  | (refine gDr 20 [] 7 [0, 1, 2, 3, 4, 5, 6, 7, 8, 9] [0, 1, 2, 3, 8, 9, 10, 11, 12, 13, 20, 24, 38, 59, 76, 87, 120] rfl ?_; intro K hK)
  | (refine gDr 21 [] 7 [0, 1, 2, 3, 4, 5, 6, 7, 8, 9] [0, 1, 2, 3, 8, 9, 10, 11, 12, 13, 20, 24, 38, 59, 76, 87, 120] rfl ?_; intro K hK)
  | (refine ACall.use [(1000, 1000), (1001, 1001)] [] rfl (hc) rfl rfl rfl ?_; (first | rintro _ _ ⟨rfl, rfl⟩ | rintro _ _ ⟨rfl, h1, rfl⟩); refine ⟨.inl rfl, rfl, ?_⟩; simp only [bk, bk2, bk1, bkS, bkO, idOf, delAll, go_sem, simprocAttr])
  | (refine gd_split ?_ ?_ <;> intro hb <;> (try simp only [bls] at hb) <;> (try simp only [hb]))
  | refine gRt [1000, 1001] [.cell 8 56] rfl ?_ | refine gDn [1000, 1001] [.cell 8 56] rfl ?_) <;> (try simp only [go_sem, simprocAttr, e4, f3, AVal.isCell]))
  | (refine hK _ _ ?_; clear hK K; simp only [go_sem, simprocAttr])
  | refine gCd (by simp only [go_sem, simprocAttr]; rfl) rfl ?_
  | refine brT ?_ | refine brF ?_
  | (refine brS ?_ ?_ <;> intro hc <;> (try simp only [bls] at hc) <;> (try simp only [hc, bls]))
  | intro _ | refine And.intro ?_ ?_)
                all_goals first | omega | (unfold bigLen; omega) | exact ⟨_, _, ⟨rfl, rfl⟩, rfl⟩ | exact ⟨_, rfl⟩ | (rename_i hy; simp only [List.mem_singleton] at hy; subst hy; rfl) | with_reducible rfl | skip
                all_goals first | exact ⟨_, _, rfl⟩ | exact ⟨_, rfl⟩
              · rw [if_neg c3, if_neg c5]
                have hA0 : accE false [] = ⟨false, [], []⟩ := rfl
                obtain ⟨A, hA⟩ : ∃ A : Nat → En, A = fun j => accE false (ks.take j) := ⟨_, rfl⟩
                have hA0 : A 0 = ⟨false, [], []⟩ := by rw [hA]; rfl
                have hA1 : ∀ (j : Nat) (y : En), ks[j]? = some y → A (j + 1) = orE (A j) y := fun j y h => by rw [hA]; simp only [accE, take_one h, List.foldl_append]; rfl
                have hAo : ∀ j, Re ps'.length (A j) := fun j => by rw [hA]; exact altG_ok _ (re_nil _ _) fun y hy => hks y (List.mem_of_mem_take hy)
                have hAE : accE false ks = A ks.length := by rw [hA]; simp only [List.take_length]
                clear hA
                rw [hAE]
                repeat' (first
  | refine gSq ?_ | refine gSk ?_ | refine gBl ?_ | refine gIb ?_ | refine gEx rfl ?_
  | ((first
  | (refine AGood.at 13 ?_; (refine AGood.freeze 900 rfl ?_; simp only [rfT, rfS, rfO, rf, rf1, u15, List.length_map, Nat.le_refl, true_and, go_sem, simprocAttr]); (refine gRg [] [0, 1, 2, 3, 8, 9, 10, 11, 12, 13, 20, 24, 38, 59, 76, 87, 120] ?_; intro K hK))
  | (refine gRg [] [0, 1, 2, 3, 8, 9, 10, 11, 12, 13, 20, 24, 38, 59, 76, 87, 120] ?_; intro K hK)
  | (refine gDr 7 [] 15 [0, 1, 2, 3, 4, 5, 6, 7, 8, 9, 10, 11, 12, 13, 14, 15, 16] [0, 1, 2, 3, 8, 9, 10, 11, 12, 13, 20, 24, 38, 59, 76, 87, 120] rfl ?_; intro K hK)
  | (refine gDr 20 [] 7 [0, 1, 2, 3, 4, 5, 6, 7, 8, 9] [0, 1, 2, 3, 8, 9, 10, 11, 12, 13, 20, 24, 38, 59, 76, 87, 120] rfl ?_; intro K hK)
  | (refine gDr 21 [] 7 [0, 1, 2, 3, 4, 5, 6, 7, 8, 9] [0, 1, 2, 3, 8, 9, 10, 11, 12, 13, 20, 24, 38, 59, 76, 87, 120] rfl ?_; intro K hK)
  | (refine gd_split ?_ ?_ <;> intro hb <;> (try simp only [bls] at hb) <;> (try simp only [hb]))
  | refine gRt [1000, 1001] [.cell 8 56] rfl ?_ | refine gDn [1000, 1001] [.cell 8 56] rfl ?_) <;> (try simp only [go_sem, simprocAttr, e4, c3, f5, f6, AVal.isCell]))
  | (refine hK _ _ ?_; clear hK K; simp only [go_sem, simprocAttr])
  | refine gCd (by simp only [go_sem, simprocAttr]; rfl) rfl ?_
  | refine brT ?_ | refine brF ?_
  | (refine brS ?_ ?_ <;> intro hc <;> (try simp only [bls] at hc) <;> (try simp only [hc, bls]))
  | intro _ | refine And.intro ?_ ?_)
                all_goals first | omega | (unfold bigLen; omega) | exact ⟨_, _, ⟨rfl, rfl⟩, rfl⟩ | exact ⟨_, rfl⟩ | (rename_i hy; simp only [List.mem_singleton] at hy; subst hy; rfl) | with_reducible rfl | skip
                rename_i h12
                refine AGood.prune [0, 3, 8, 9, 10, 12, 13] ?_; simp only [go_sem, simprocAttr]
                refine AGood.loopInv (α := Nat) (fun j => ([(0, .bx 1000 g 0), (3, .int .i64 rule), (8, .bx 8 h8 0), (9, .bx 9 h9 0), (10, .sl true false (ens ks)), (12, .bx 12 h12 0), (13, .int .i64 j)], [(8, (h8, .box [.bool false, .sl true true [], .sl true true []])), (9, (h9, .box [.int .u8 xo, .int .u64 xa, .int .u64 xb, .int .u64 xc, .int .u64 xd, .sl true false (ints xl), .int .i64 xlo, .int .i64 xhi, .str xn])), (12, (h12, .box [.bool (A j).null, .sl true (decide (j = 0)) (ints (A j).first), .sl true (decide (j = 0)) (ints (A j).last)])), (1000, (g, .box [.osl 1001 g1 0 ps'.length])), (1001, (g1, .row 9 (poss ps')))])) (fun j => j ≤ ks.length) (fun j => ks.length - j) 0 (Nat.zero_le _) (by rw [hA0]; rfl) ?_
                rintro j hj ih2
                simp only at hj ih2 ⊢
                by_cases hlj : j < ks.length
                · have d4 : (j : Int) < ks.length := by omega
                  have d5 : (0 : Int) ≤ j := by omega
                  have d6 : (j : Int) + 1 = ((j + 1 : Nat) : Int) := by omega
                  obtain ⟨y, hy⟩ : ∃ y, ks[j]? = some y := ⟨_, List.getElem?_eq_getElem hlj⟩
                  have hyr := hks y (List.mem_of_getElem? hy)
                  have ha1 := hA1 j y hy
                  have hao := hAo j
                  have hdf : decide (j + 1 = 0) = false := rfl
                  generalize A j = w at ha1 hao ⊢
                  have hb1 := fun f1 => both9uc true f1 true false w.first y.first _ hao.1 hyr.1 (by omega)
                  have hb2 := fun f1 => both9uc true f1 true false w.last y.last _ hao.2 hyr.2 (by omega)
                  generalize decide (j = 0) = fb
                  obtain ⟨wn, wf, wl⟩ := w
                  obtain ⟨yn, yf, yl⟩ := y
                  simp only [orE] at hb1 hb2 ha1
                  clear hyr hao hA1 hAo hA0
                  cases wn
                  · repeat' (first
  | refine gSq ?_ | refine gSk ?_ | refine gBl ?_ | refine gIb ?_ | refine gEx rfl ?_
  | ((first
  | (refine gRg [] [0, 1, 2, 3, 8, 9, 10, 11, 12, 13, 20, 24, 38, 59, 76, 87, 120] ?_; intro K hK)
  | (refine gDr 7 [] 15 [0, 1, 2, 3, 4, 5, 6, 7, 8, 9, 10, 11, 12, 13, 14, 15, 16] [0, 1, 2, 3, 8, 9, 10, 11, 12, 13, 20, 24, 38, 59, 76, 87, 120] rfl ?_; intro K hK)
  | (refine gDr 20 [] 9 [0, 1, 2, 3, 4, 5, 6, 7, 8, 9] [0, 1, 2, 3, 8, 9, 10, 11, 12, 13, 20, 24, 38, 59, 76, 87, 120] rfl ?_; intro K hK)
  | (refine gDr 21 [] 9 [0, 1, 2, 3, 4, 5, 6, 7, 8, 9] [0, 1, 2, 3, 8, 9, 10, 11, 12, 13, 20, 24, 38, 59, 76, 87, 120] rfl ?_; intro K hK)
  | refine ⟨_, ACall.alone (hb1 _) rfl rfl rfl, ?_⟩
  | refine ⟨_, ACall.alone (hb2 _) rfl rfl rfl, ?_⟩
  | (refine gd_split ?_ ?_ <;> intro hb <;> (try simp only [bls] at hb) <;> (try simp only [hb]))
  | refine gRt [1000, 1001] [.cell 8 56] rfl ?_ | refine gDn [1000, 1001] [.cell 8 56] rfl ?_) <;> (try simp only [go_sem, simprocAttr, d4, d5, d6, hy, AVal.isCell, Option.some.injEq, forall_eq']))
  | (refine hK _ _ ?_; clear hK K; simp only [go_sem, simprocAttr])
  | refine gCd (by simp only [go_sem, simprocAttr]; rfl) rfl ?_
  | refine brT ?_ | refine brF ?_
  | (refine brS ?_ ?_ <;> intro hc <;> (try simp only [bls] at hc) <;> (try simp only [hc, bls]))
  | intro _ | refine And.intro ?_ ?_)
                    all_goals first | omega | (unfold bigLen; omega) | exact ⟨_, _, ⟨rfl, rfl⟩, rfl⟩ | exact ⟨_, rfl⟩ | (rename_i hy; simp only [List.mem_singleton] at hy; subst hy; rfl) | with_reducible rfl | skip
                    refine AGood.filt [8, 9, 12, 1000, 1001] ?_
                    simp only [sf_cons, sf_nil, go_sem, simprocAttr]
                    refine AGood.prune [0, 3, 8, 9, 10, 12, 13] ?_; simp only [go_sem, simprocAttr]
                    refine AGood.cast (ih2 (j + 1) (by omega) (by omega)) rfl ?_
                    rw [ha1]
                    simp only [hdf, Bool.false_or]
                  · repeat' (first
  | refine gSq ?_ | refine gSk ?_ | refine gBl ?_ | refine gIb ?_ | refine gEx rfl ?_
  | ((first
  | (refine gRg [] [0, 1, 2, 3, 8, 9, 10, 11, 12, 13, 20, 24, 38, 59, 76, 87, 120] ?_; intro K hK)
  | (refine gDr 7 [] 15 [0, 1, 2, 3, 4, 5, 6, 7, 8, 9, 10, 11, 12, 13, 14, 15, 16] [0, 1, 2, 3, 8, 9, 10, 11, 12, 13, 20, 24, 38, 59, 76, 87, 120] rfl ?_; intro K hK)
  | (refine gDr 20 [] 9 [0, 1, 2, 3, 4, 5, 6, 7, 8, 9] [0, 1, 2, 3, 8, 9, 10, 11, 12, 13, 20, 24, 38, 59, 76, 87, 120] rfl ?_; intro K hK)
  | (refine gDr 21 [] 9 [0, 1, 2, 3, 4, 5, 6, 7, 8, 9] [0, 1, 2, 3, 8, 9, 10, 11, 12, 13, 20, 24, 38, 59, 76, 87, 120] rfl ?_; intro K hK)
  | refine ⟨_, ACall.alone (hb1 _) rfl rfl rfl, ?_⟩
  | refine ⟨_, ACall.alone (hb2 _) rfl rfl rfl, ?_⟩
  | (refine gd_split ?_ ?_ <;> intro hb <;> (try simp only [bls] at hb) <;> (try simp only [hb]))
  | refine gRt [1000, 1001] [.cell 8 56] rfl ?_ | refine gDn [1000, 1001] [.cell 8 56] rfl ?_) <;> (try simp only [go_sem, simprocAttr, d4, d5, d6, hy, AVal.isCell, Option.some.injEq, forall_eq']))
  | (refine hK _ _ ?_; clear hK K; simp only [go_sem, simprocAttr])
  | refine gCd (by simp only [go_sem, simprocAttr]; rfl) rfl ?_
  | refine brT ?_ | refine brF ?_
  | (refine brS ?_ ?_ <;> intro hc <;> (try simp only [bls] at hc) <;> (try simp only [hc, bls]))
  | intro _ | refine And.intro ?_ ?_)
                    all_goals first | omega | (unfold bigLen; omega) | exact ⟨_, _, ⟨rfl, rfl⟩, rfl⟩ | exact ⟨_, rfl⟩ | (rename_i hy; simp only [List.mem_singleton] at hy; subst hy; rfl) | with_reducible rfl | skip
                    refine AGood.filt [8, 9, 12, 1000, 1001] ?_
                    simp only [sf_cons, sf_nil, go_sem, simprocAttr]
                    refine AGood.prune [0, 3, 8, 9, 10, 12, 13] ?_; simp only [go_sem, simprocAttr]
                    refine AGood.cast (ih2 (j + 1) (by omega) (by omega)) rfl ?_
                    rw [ha1]
                    simp only [hdf, Bool.true_or]
                · have d4 : ¬ (j : Int) < ks.length := by omega
                  have hjn : j = ks.length := by omega
                  clear ih2
                  rw [decide_eq_false (by omega)]
                  subst hjn
                  have hao := hAo ks.length
                  clear hA1 hAo hA0 hAE
                  generalize A ks.length = w at hao ⊢
                  obtain ⟨wn, wf, wl⟩ := w
                  repeat' (first
  | refine gSq ?_ | refine gSk ?_ | refine gBl ?_ | refine gIb ?_ | refine gEx rfl ?_
  | ((first
  | (refine gRg [] [0, 1, 2, 3, 8, 9, 10, 11, 12, 13, 20, 24, 38, 59, 76, 87, 120] ?_; intro K hK)
  | (refine gDr 7 [] 15 [0, 1, 2, 3, 4, 5, 6, 7, 8, 9, 10, 11, 12, 13, 14, 15, 16] [0, 1, 2, 3, 8, 9, 10, 11, 12, 13, 20, 24, 38, 59, 76, 87, 120] rfl ?_; intro K hK)
  | (refine gDr 20 [] 7 [0, 1, 2, 3, 4, 5, 6, 7, 8, 9] [0, 1, 2, 3, 8, 9, 10, 11, 12, 13, 20, 24, 38, 59, 76, 87, 120] rfl ?_; intro K hK)
  | (refine gDr 21 [] 7 [0, 1, 2, 3, 4, 5, 6, 7, 8, 9] [0, 1, 2, 3, 8, 9, 10, 11, 12, 13, 20, 24, 38, 59, 76, 87, 120] rfl ?_; intro K hK)
  | (refine gd_split ?_ ?_ <;> intro hb <;> (try simp only [bls] at hb) <;> (try simp only [hb]))
  | refine gRt [1000, 1001] [.cell 8 56] rfl ?_ | refine gDn [1000, 1001] [.cell 8 56] rfl ?_) <;> (try simp only [go_sem, simprocAttr, d4, f5, f6, AVal.isCell]))
  | (refine hK _ _ ?_; clear hK K; simp only [go_sem, simprocAttr])
  | refine gCd (by simp only [go_sem, simprocAttr]; rfl) rfl ?_
  | refine brT ?_ | refine brF ?_
  | (refine brS ?_ ?_ <;> intro hc <;> (try simp only [bls] at hc) <;> (try simp only [hc, bls]))
  | intro _ | refine And.intro ?_ ?_)
                  all_goals first | omega | (unfold bigLen; omega) | exact ⟨_, _, ⟨rfl, rfl⟩, rfl⟩ | exact ⟨_, rfl⟩ | (rename_i hy; simp only [List.mem_singleton] at hy; subst hy; rfl) | with_reducible rfl | skip
                  all_goals first | exact ⟨_, _, rfl⟩ | exact ⟨_, rfl⟩
end Go.Rad
