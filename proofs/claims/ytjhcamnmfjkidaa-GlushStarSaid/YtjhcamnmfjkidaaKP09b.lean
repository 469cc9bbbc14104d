/- Contracts: glush: a place is put; places follow others. -/
import Derived.Test.YtjhcamnmfjkidaaKP09a
import Derived.Test.YtjhcamnmfjkidaaKRNode
set_option linter.all false
namespace Go.Rad
open Go Go.Proofs
set_option linter.all false
set_option maxRecDepth 20000
set_option maxHeartbeats 4000000

abbrev Po.cellsF (f : Bool) (p : Po) : List AVal := [.int .u64 p.s.a, .int .u64 p.s.b, .int .u64 p.s.c, .int .u64 p.s.d, .int .i64 p.lo, .int .i64 p.hi, .int .i64 p.rule, .bool p.last, .sl true f (ints p.next)]
abbrev Po.cells (p : Po) : List AVal := p.cellsF false
abbrev poss (l : List Po) : List (List AVal) := l.map Po.cells
abbrev En.cells (e : En) : List AVal := [.bool e.null, .sl true false (ints e.first), .sl true false (ints e.last)]
abbrev ens (l : List En) : List (List AVal) := l.map En.cells
abbrev gsto (g g1 : Nat) (ps : List Po) : Sto := [(1000, (g, .box [.osl 1001 g1 0 ps.length])), (1001, (g1, .row 9 (poss ps)))]
theorem mergeG_c (q f q' f' : Bool) (a b : List Int) (h : a.length + b.length ≤ 100000000) : ACall Try.prog 23 [.sl q f (ints a), .sl q' f' (ints b)] [] fun r s => r = .sl true false (ints (uni a b)) ∧ s = [] := by
  have := merge_c growRuns q f q' f' a b h
  rwa [uni_lib] at this
theorem put9uc (g g1 : Nat) (ps : List Po) (p : Po) (f : Bool) (hp : ps.length ≤ 100000000) :
    ACall Try.prog 38 [.bx 1000 g 0, .agg (p.cellsF f)] (gsto g g1 ps) fun r s => r = .agg (putG p ps).2.cells ∧ ∃ h1, s = gsto g h1 (putG p ps).1 := by
  obtain ⟨⟨sa, sb, sc, sd⟩, lo, hi, rule, last, next⟩ := p
  simp only [putG, gsto, Po.cellsF, En.cells]
  refine ACall.enter Try.func38 rfl (by kernel_rfl) (Nat.le_of_ble_eq_true rfl) ?_; simp only [initTm, Nat.reduceAdd]
  repeat' (first
  | refine gSq ?_ | refine gSk ?_ | refine gBl ?_ | refine gIb ?_ | refine gEx rfl ?_
  | ((first
  | (refine gRg [11, 18] [0, 1, 3, 4, 5] ?_; intro K hK)
  | (refine gDr 2 [11, 18] 7 [0, 1, 2, 3, 4, 5, 6, 7, 8, 9, 10] [0, 1, 3, 4, 5] rfl ?_; intro K hK)
  | (refine gd_split ?_ ?_ <;> intro hb <;> (try simp only [bls] at hb) <;> (try simp only [hb]))
  | refine gRt [1000, 1001] [.cell 4 56] rfl ?_ | refine gDn [1000, 1001] [.cell 4 56] rfl ?_) <;> (try simp only [go_sem, simprocAttr]))
  | (refine hK _ _ ?_; clear hK K; simp only [go_sem, simprocAttr])
  | refine gCd (by simp only [go_sem, simprocAttr]; rfl) rfl ?_
  | refine brT ?_ | refine brF ?_
  | (refine brS ?_ ?_ <;> intro hc <;> (try simp only [bls] at hc) <;> (try simp only [hc, bls]))
  | intro _ | refine And.intro ?_ ?_)
  all_goals first | omega | (unfold bigLen; omega) | exact ⟨_, _, ⟨rfl, rfl⟩, rfl⟩ | exact ⟨_, rfl⟩ | (rename_i hy; simp only [List.mem_singleton] at hy; subst hy; rfl) | with_reducible rfl | skip
  rename_i h
  exact ⟨h, by simp⟩
theorem link9uc (g g1 : Nat) (q f q' f' : Bool) (fr to : List Int) (ps : List Po) (hp : ps.length ≤ 1000000) (hn : Rn ps.length ps) (hfr : ∀ x ∈ fr, 0 ≤ x ∧ x < (ps.length : Int)) (hto : Rs ps.length to) (hfl : fr.length ≤ 100000000) :
    ACall Try.prog 39 [.bx 1000 g 0, .sl q f (ints fr), .sl q' f' (ints to)] (gsto g g1 ps) fun r s => r = .tup [] ∧ s = gsto g g1 (lnk fr to ps) := by
  obtain ⟨N, hN⟩ : ∃ N, N = ps.length := ⟨_, rfl⟩
  rw [← hN] at hn hfr hto hp
  have htl := rs_len hto
  simp only [gsto, lnk_len, ← hN]
  refine ACall.enter Try.func39 rfl (by kernel_rfl) (Nat.le_of_ble_eq_true rfl) ?_; simp only [initTm, Nat.reduceAdd]
  repeat' (first
  | refine gSq ?_ | refine gSk ?_ | refine gBl ?_ | refine gIb ?_ | refine gEx rfl ?_
  | ((first
  | (refine gRg [] [0, 1, 2, 7, 8, 9, 10, 11] ?_; intro K hK)
  | (refine gDr 3 [] 14 [0, 1, 2, 3, 4, 5, 6, 7, 8, 9, 10, 11, 12, 13, 14, 15, 16, 17] [0, 1, 2, 7, 8, 9, 10, 11] rfl ?_; intro K hK)
  | (refine gd_split ?_ ?_ <;> intro hb <;> (try simp only [bls] at hb) <;> (try simp only [hb]))
  | refine gRt [1000, 1001] [] rfl ?_ | refine gDn [1000, 1001] [] rfl ?_) <;> (try simp only [go_sem, simprocAttr]))
  | (refine hK _ _ ?_; clear hK K; simp only [go_sem, simprocAttr])
  | refine gCd (by simp only [go_sem, simprocAttr]; rfl) rfl ?_
  | refine brT ?_ | refine brF ?_
  | (refine brS ?_ ?_ <;> intro hc <;> (try simp only [bls] at hc) <;> (try simp only [hc, bls]))
  | intro _ | refine And.intro ?_ ?_)
  all_goals first | omega | (unfold bigLen; omega) | exact ⟨_, _, ⟨rfl, rfl⟩, rfl⟩ | exact ⟨_, rfl⟩ | (rename_i hy; simp only [List.mem_singleton] at hy; subst hy; rfl) | with_reducible rfl | skip
  refine AGood.prune [0, 2, 8, 9, 10] ?_; simp only [go_sem, simprocAttr]
  refine AGood.loopInv (α := Nat) (fun j => ([(0, .bx 1000 g 0), (2, .sl q' f' (ints to)), (8, .sl q f (ints fr)), (9, .int .i64 fr.length), (10, .int .i64 j)], [(1000, (g, .box [.osl 1001 g1 0 N])), (1001, (g1, .row 9 (poss (lnk (fr.take j) to ps))))])) (fun j => j ≤ fr.length) (fun j => fr.length - j) 0 (Nat.zero_le _) rfl ?_
  rintro j hj ih
  simp only at hj ih ⊢
  by_cases hle : j < fr.length
  · have e4 : (j : Int) < fr.length := by omega
    have e5 : (0 : Int) ≤ j := by omega
    have e6 : (j : Int) + 1 = ((j + 1 : Nat) : Int) := by omega
    obtain ⟨x, hx⟩ : ∃ x, fr[j]? = some x := ⟨_, List.getElem?_eq_getElem hle⟩
    have hxb := hfr x (List.mem_of_getElem? hx)
    obtain ⟨k, rfl⟩ : ∃ k : Nat, x = k := ⟨x.toNat, by omega⟩
    have hst : lnk (fr.take (j + 1)) to ps = lnk1 to (lnk (fr.take j) to ps) k := by rw [take_one hx]; simp [lnk]
    have hql := lnk_len to (fr.take j) ps
    have hqn := rn_lnk hto (fr.take j) hn
    generalize lnk (fr.take j) to ps = Q at hst hql hqn
    have k1 : k < Q.length := by omega
    have k2 : (k : Int) < (N : Int) := by omega
    have k3 : (0 : Int) ≤ k := by omega
    obtain ⟨p, hpk⟩ : ∃ p, Q[k]? = some p := ⟨_, List.getElem?_eq_getElem k1⟩
    have hpn := rs_len (hqn p (List.mem_of_getElem? hpk))
    rw [lnk1, Int.toNat_natCast, modify_get _ hpk] at hst
    have hm := mergeG_c true false q' f' p.next to (by omega)
    obtain ⟨⟨sa, sb, sc, sd⟩, lo, hi, rule, last, next⟩ := p
    simp only at hst hm hpn
    repeat' (first
  | refine gSq ?_ | refine gSk ?_ | refine gBl ?_ | refine gIb ?_ | refine gEx rfl ?_
  | ((first
  | (refine gRg [] [0, 1, 2, 7, 8, 9, 10, 11] ?_; intro K hK)
  | (refine gDr 3 [] 17 [0, 1, 2, 3, 4, 5, 6, 7, 8, 9, 10, 11, 12, 13, 14, 15, 16, 17] [0, 1, 2, 7, 8, 9, 10, 11] rfl ?_; intro K hK)
  | refine ⟨_, ACall.alone (hm) rfl rfl rfl, ?_⟩
  | (refine gd_split ?_ ?_ <;> intro hb <;> (try simp only [bls] at hb) <;> (try simp only [hb]))
  | refine gRt [1000, 1001] [] rfl ?_ | refine gDn [1000, 1001] [] rfl ?_) <;> (try simp only [go_sem, simprocAttr, e4, e5, e6, k1, k2, k3, hx, hpk, Option.some.injEq, forall_eq']))
  | (refine hK _ _ ?_; clear hK K; simp only [go_sem, simprocAttr])
  | refine gCd (by simp only [go_sem, simprocAttr]; rfl) rfl ?_
  | refine brT ?_ | refine brF ?_
  | (refine brS ?_ ?_ <;> intro hc <;> (try simp only [bls] at hc) <;> (try simp only [hc, bls]))
  | intro _ | refine And.intro ?_ ?_)
    all_goals first | omega | (unfold bigLen; omega) | exact ⟨_, _, ⟨rfl, rfl⟩, rfl⟩ | exact ⟨_, rfl⟩ | (rename_i hy; simp only [List.mem_singleton] at hy; subst hy; rfl) | with_reducible rfl | skip
    rename_i z hz
    have hz2 : z = Po.cells ⟨⟨sa, sb, sc, sd⟩, lo, hi, rule, last, next⟩ := by rw [List.getElem?_map, hpk] at hz; exact (Option.some.inj hz).symm
    subst hz2
    refine AGood.filt [1000, 1001] ?_
    simp only [sf_cons, sf_nil, go_sem, simprocAttr]
    refine AGood.prune [0, 2, 8, 9, 10] ?_; simp only [go_sem, simprocAttr]
    exact AGood.cast (ih (j + 1) (by omega) (by omega)) rfl (by rw [hst]; simp [List.map_set])
  · have e4 : ¬ (j : Int) < fr.length := by omega
    rw [List.take_of_length_le (by omega)]
    clear ih
    repeat' (first
  | refine gSq ?_ | refine gSk ?_ | refine gBl ?_ | refine gIb ?_ | refine gEx rfl ?_
  | ((first
  | (refine gRg [] [0, 1, 2, 7, 8, 9, 10, 11] ?_; intro K hK)
  | (refine gDr 3 [] 14 [0, 1, 2, 3, 4, 5, 6, 7, 8, 9, 10, 11, 12, 13, 14, 15, 16, 17] [0, 1, 2, 7, 8, 9, 10, 11] rfl ?_; intro K hK)
  | (refine gd_split ?_ ?_ <;> intro hb <;> (try simp only [bls] at hb) <;> (try simp only [hb]))
  | refine gRt [1000, 1001] [] rfl ?_ | refine gDn [1000, 1001] [] rfl ?_) <;> (try simp only [go_sem, simprocAttr, e4]))
  | (refine hK _ _ ?_; clear hK K; simp only [go_sem, simprocAttr])
  | refine gCd (by simp only [go_sem, simprocAttr]; rfl) rfl ?_
  | refine brT ?_ | refine brF ?_
  | (refine brS ?_ ?_ <;> intro hc <;> (try simp only [bls] at hc) <;> (try simp only [hc, bls]))
  | intro _ | refine And.intro ?_ ?_)
    all_goals first | omega | (unfold bigLen; omega) | exact ⟨_, _, ⟨rfl, rfl⟩, rfl⟩ | exact ⟨_, rfl⟩ | (rename_i hy; simp only [List.mem_singleton] at hy; subst hy; rfl) | with_reducible rfl | skip
theorem or9uc (n : Nat) (x y : En) (hx : Re n x) (hy : Re n y) (hn : n ≤ 1000000) :
    ACall Try.prog 41 [.agg x.cells, .agg y.cells] [] fun r s => r = .agg (orE x y).cells ∧ s = [] := by
  have h1 := mergeG_c true false true false x.first y.first (by have := rs_len hx.1; have := rs_len hy.1; omega)
  have h2 := mergeG_c true false true false x.last y.last (by have := rs_len hx.2; have := rs_len hy.2; omega)
  obtain ⟨xn, xf, xl⟩ := x
  obtain ⟨yn, yf, yl⟩ := y
  simp only [orE, En.cells] at h1 h2 ⊢
  clear hx hy
  refine ACall.enter Try.func41 rfl (by kernel_rfl) (Nat.le_of_ble_eq_true rfl) ?_; simp only [initTm, Nat.reduceAdd]
  cases xn
  · repeat' (first
  | refine gSq ?_ | refine gSk ?_ | refine gBl ?_ | refine gIb ?_ | refine gEx rfl ?_
  | ((first
  | (refine gRg [] [0, 1, 2, 3, 4] ?_; intro K hK)
  | (refine gDr 1 [] 17 [0, 1, 2, 3, 4, 5, 6, 7, 8, 9, 10, 11, 12, 13, 14, 15, 16, 17] [0, 1, 2, 3, 4] rfl ?_; intro K hK)
  | refine ⟨_, ACall.alone (h1) rfl rfl rfl, ?_⟩
  | refine ⟨_, ACall.alone (h2) rfl rfl rfl, ?_⟩
  | (refine gd_split ?_ ?_ <;> intro hb <;> (try simp only [bls] at hb) <;> (try simp only [hb]))
  | refine gRt [] [.cell 4 56] rfl ?_ | refine gDn [] [.cell 4 56] rfl ?_) <;> (try simp only [go_sem, simprocAttr]))
  | (refine hK _ _ ?_; clear hK K; simp only [go_sem, simprocAttr])
  | refine gCd (by simp only [go_sem, simprocAttr]; rfl) rfl ?_
  | refine brT ?_ | refine brF ?_
  | (refine brS ?_ ?_ <;> intro hc <;> (try simp only [bls] at hc) <;> (try simp only [hc, bls]))
  | intro _ | refine And.intro ?_ ?_)
    all_goals first | omega | (unfold bigLen; omega) | exact ⟨_, _, ⟨rfl, rfl⟩, rfl⟩ | exact ⟨_, rfl⟩ | (rename_i hy; simp only [List.mem_singleton] at hy; subst hy; rfl) | with_reducible rfl | skip
  · repeat' (first
  | refine gSq ?_ | refine gSk ?_ | refine gBl ?_ | refine gIb ?_ | refine gEx rfl ?_
  | ((first
  | (refine gRg [] [0, 1, 2, 3, 4] ?_; intro K hK)
  | (refine gDr 1 [] 17 [0, 1, 2, 3, 4, 5, 6, 7, 8, 9, 10, 11, 12, 13, 14, 15, 16, 17] [0, 1, 2, 3, 4] rfl ?_; intro K hK)
  | refine ⟨_, ACall.alone (h1) rfl rfl rfl, ?_⟩
  | refine ⟨_, ACall.alone (h2) rfl rfl rfl, ?_⟩
  | (refine gd_split ?_ ?_ <;> intro hb <;> (try simp only [bls] at hb) <;> (try simp only [hb]))
  | refine gRt [] [.cell 4 56] rfl ?_ | refine gDn [] [.cell 4 56] rfl ?_) <;> (try simp only [go_sem, simprocAttr]))
  | (refine hK _ _ ?_; clear hK K; simp only [go_sem, simprocAttr])
  | refine gCd (by simp only [go_sem, simprocAttr]; rfl) rfl ?_
  | refine brT ?_ | refine brF ?_
  | (refine brS ?_ ?_ <;> intro hc <;> (try simp only [bls] at hc) <;> (try simp only [hc, bls]))
  | intro _ | refine And.intro ?_ ?_)
    all_goals first | omega | (unfold bigLen; omega) | exact ⟨_, _, ⟨rfl, rfl⟩, rfl⟩ | exact ⟨_, rfl⟩ | (rename_i hy; simp only [List.mem_singleton] at hy; subst hy; rfl) | with_reducible rfl | skip
theorem then9uc (g g1 : Nat) (ps : List Po) (x y : En) (hp : ps.length ≤ 1000000) (hn : Rn ps.length ps) (hx : Re ps.length x) (hy : Re ps.length y) :
    ACall Try.prog 40 [.bx 1000 g 0, .agg x.cells, .agg y.cells] (gsto g g1 ps) fun r s => r = .agg (thenG (ps, x) y).2.cells ∧ s = gsto g g1 (thenG (ps, x) y).1 := by
  have hl := link9uc g g1 true false true false x.last y.first ps hp hn hx.2.2 hy.1 (by have := rs_len hx.2; omega)
  have h1 := mergeG_c true false true false x.first y.first (by have := rs_len hx.1; have := rs_len hy.1; omega)
  have h2 := mergeG_c true false true false x.last y.last (by have := rs_len hx.2; have := rs_len hy.2; omega)
  obtain ⟨xn, xf, xl⟩ := x
  obtain ⟨yn, yf, yl⟩ := y
  simp only [thenG, thenE, En.cells, gsto, lnk_len] at h1 h2 hl ⊢
  clear hx hy hn
  generalize lnk xl yf ps = Q at hl ⊢
  generalize ps.length = N at hl ⊢
  refine ACall.enter Try.func40 rfl (by kernel_rfl) (Nat.le_of_ble_eq_true rfl) ?_; simp only [initTm, Nat.reduceAdd]
  cases xn <;> cases yn
  · repeat' (first
  | refine gSq ?_ | refine gSk ?_ | refine gBl ?_ | refine gIb ?_ | refine gEx rfl ?_
  | ((first
  | (refine gRg [] [0, 1, 2, 4, 5, 6, 7, 26, 34] ?_; intro K hK)
  | refine cAl (h1) rfl rfl rfl ?_
  | refine cAl (h2) rfl rfl rfl ?_
  | (refine ACall.use [(1000, 1000), (1001, 1001)] [] rfl (hl) rfl rfl rfl ?_; (first | rintro _ _ ⟨rfl, rfl⟩ | rintro _ _ ⟨rfl, h1, rfl⟩); refine ⟨.inl rfl, rfl, ?_⟩; simp only [bk, bk2, bk1, bkS, bkO, idOf, delAll, go_sem, simprocAttr])
  | (refine gd_split ?_ ?_ <;> intro hb <;> (try simp only [bls] at hb) <;> (try simp only [hb]))
  | refine gRt [1000, 1001] [.cell 6 56] rfl ?_ | refine gDn [1000, 1001] [.cell 6 56] rfl ?_) <;> (try simp only [go_sem, simprocAttr]))
  | (refine hK _ _ ?_; clear hK K; simp only [go_sem, simprocAttr])
  | refine gCd (by simp only [go_sem, simprocAttr]; rfl) rfl ?_
  | refine brT ?_ | refine brF ?_
  | (refine brS ?_ ?_ <;> intro hc <;> (try simp only [bls] at hc) <;> (try simp only [hc, bls]))
  | intro _ | refine And.intro ?_ ?_)
    all_goals first | omega | (unfold bigLen; omega) | exact ⟨_, _, ⟨rfl, rfl⟩, rfl⟩ | exact ⟨_, rfl⟩ | (rename_i hy; simp only [List.mem_singleton] at hy; subst hy; rfl) | with_reducible rfl | skip
  · repeat' (first
  | refine gSq ?_ | refine gSk ?_ | refine gBl ?_ | refine gIb ?_ | refine gEx rfl ?_
  | ((first
  | (refine gRg [] [0, 1, 2, 4, 5, 6, 7, 26, 34] ?_; intro K hK)
  | refine cAl (h1) rfl rfl rfl ?_
  | refine cAl (h2) rfl rfl rfl ?_
  | (refine ACall.use [(1000, 1000), (1001, 1001)] [] rfl (hl) rfl rfl rfl ?_; (first | rintro _ _ ⟨rfl, rfl⟩ | rintro _ _ ⟨rfl, h1, rfl⟩); refine ⟨.inl rfl, rfl, ?_⟩; simp only [bk, bk2, bk1, bkS, bkO, idOf, delAll, go_sem, simprocAttr])
  | (refine gd_split ?_ ?_ <;> intro hb <;> (try simp only [bls] at hb) <;> (try simp only [hb]))
  | refine gRt [1000, 1001] [.cell 6 56] rfl ?_ | refine gDn [1000, 1001] [.cell 6 56] rfl ?_) <;> (try simp only [go_sem, simprocAttr]))
  | (refine hK _ _ ?_; clear hK K; simp only [go_sem, simprocAttr])
  | refine gCd (by simp only [go_sem, simprocAttr]; rfl) rfl ?_
  | refine brT ?_ | refine brF ?_
  | (refine brS ?_ ?_ <;> intro hc <;> (try simp only [bls] at hc) <;> (try simp only [hc, bls]))
  | intro _ | refine And.intro ?_ ?_)
    all_goals first | omega | (unfold bigLen; omega) | exact ⟨_, _, ⟨rfl, rfl⟩, rfl⟩ | exact ⟨_, rfl⟩ | (rename_i hy; simp only [List.mem_singleton] at hy; subst hy; rfl) | with_reducible rfl | skip
  · repeat' (first
  | refine gSq ?_ | refine gSk ?_ | refine gBl ?_ | refine gIb ?_ | refine gEx rfl ?_
  | ((first
  | (refine gRg [] [0, 1, 2, 4, 5, 6, 7, 26, 34] ?_; intro K hK)
  | refine cAl (h1) rfl rfl rfl ?_
  | refine cAl (h2) rfl rfl rfl ?_
  | (refine ACall.use [(1000, 1000), (1001, 1001)] [] rfl (hl) rfl rfl rfl ?_; (first | rintro _ _ ⟨rfl, rfl⟩ | rintro _ _ ⟨rfl, h1, rfl⟩); refine ⟨.inl rfl, rfl, ?_⟩; simp only [bk, bk2, bk1, bkS, bkO, idOf, delAll, go_sem, simprocAttr])
  | (refine gd_split ?_ ?_ <;> intro hb <;> (try simp only [bls] at hb) <;> (try simp only [hb]))
  | refine gRt [1000, 1001] [.cell 6 56] rfl ?_ | refine gDn [1000, 1001] [.cell 6 56] rfl ?_) <;> (try simp only [go_sem, simprocAttr]))
  | (refine hK _ _ ?_; clear hK K; simp only [go_sem, simprocAttr])
  | refine gCd (by simp only [go_sem, simprocAttr]; rfl) rfl ?_
  | refine brT ?_ | refine brF ?_
  | (refine brS ?_ ?_ <;> intro hc <;> (try simp only [bls] at hc) <;> (try simp only [hc, bls]))
  | intro _ | refine And.intro ?_ ?_)
    all_goals first | omega | (unfold bigLen; omega) | exact ⟨_, _, ⟨rfl, rfl⟩, rfl⟩ | exact ⟨_, rfl⟩ | (rename_i hy; simp only [List.mem_singleton] at hy; subst hy; rfl) | with_reducible rfl | skip
  · repeat' (first
  | refine gSq ?_ | refine gSk ?_ | refine gBl ?_ | refine gIb ?_ | refine gEx rfl ?_
  | ((first
  | (refine gRg [] [0, 1, 2, 4, 5, 6, 7, 26, 34] ?_; intro K hK)
  | refine cAl (h1) rfl rfl rfl ?_
  | refine cAl (h2) rfl rfl rfl ?_
  | (refine ACall.use [(1000, 1000), (1001, 1001)] [] rfl (hl) rfl rfl rfl ?_; (first | rintro _ _ ⟨rfl, rfl⟩ | rintro _ _ ⟨rfl, h1, rfl⟩); refine ⟨.inl rfl, rfl, ?_⟩; simp only [bk, bk2, bk1, bkS, bkO, idOf, delAll, go_sem, simprocAttr])
  | (refine gd_split ?_ ?_ <;> intro hb <;> (try simp only [bls] at hb) <;> (try simp only [hb]))
  | refine gRt [1000, 1001] [.cell 6 56] rfl ?_ | refine gDn [1000, 1001] [.cell 6 56] rfl ?_) <;> (try simp only [go_sem, simprocAttr]))
  | (refine hK _ _ ?_; clear hK K; simp only [go_sem, simprocAttr])
  | refine gCd (by simp only [go_sem, simprocAttr]; rfl) rfl ?_
  | refine brT ?_ | refine brF ?_
  | (refine brS ?_ ?_ <;> intro hc <;> (try simp only [bls] at hc) <;> (try simp only [hc, bls]))
  | intro _ | refine And.intro ?_ ?_)
    all_goals first | omega | (unfold bigLen; omega) | exact ⟨_, _, ⟨rfl, rfl⟩, rfl⟩ | exact ⟨_, rfl⟩ | (rename_i hy; simp only [List.mem_singleton] at hy; subst hy; rfl) | with_reducible rfl | skip
end Go.Rad
/- Node by node: what stays so; what the nodes within counted repetitions are. -/
namespace Go.Rad
open Go Fo
theorem thenG_ok {s : List Po × En} {y : En} (h1 : Rn s.1.length s.1) (h2 : Re s.1.length s.2) (h3 : Re s.1.length y) : (thenG s y).1.length = s.1.length ∧ Rn s.1.length (thenG s y).1 ∧ Re s.1.length (thenG s y).2 := by
  refine ⟨lnk_len _ _ _, rn_lnk h3.1 _ h1, ?_, ?_⟩
  · simp only [thenG, thenE]; split
    · exact rs_uni h2.1 h3.1
    · exact h2.1
  · simp only [thenG, thenE]; split
    · exact rs_uni h2.2 h3.2
    · exact h3.2
theorem catG_ok : ∀ (ks : List En) {s : List Po × En}, Rn s.1.length s.1 → Re s.1.length s.2 → (∀ y ∈ ks, Re s.1.length y) → (ks.foldl thenG s).1.length = s.1.length ∧ Rn s.1.length (ks.foldl thenG s).1 ∧ Re s.1.length (ks.foldl thenG s).2
  | [], s, h1, h2, _ => ⟨rfl, h1, h2⟩
  | y :: ks, s, h1, h2, h3 => by
    obtain ⟨a, b, c⟩ := thenG_ok h1 h2 (h3 y (by simp))
    have := catG_ok ks (s := thenG s y) (by rw [a]; exact b) (by rw [a]; exact c) fun z hz => by rw [a]; exact h3 z (by simp [hz])
    rwa [a] at this
theorem altG_ok {n : Nat} : ∀ (ks : List En) {x : En}, Re n x → (∀ y ∈ ks, Re n y) → Re n (ks.foldl orE x)
  | [], _, h, _ => h
  | y :: ks, x, h, h2 => altG_ok ks (x := orE x y) ⟨rs_uni h.1 (h2 y (by simp)).1, rs_uni h.2 (h2 y (by simp)).2⟩ fun z hz => h2 z (by simp [hz])
theorem putG_ok {p : Po} {ps : List Po} (h : Rn ps.length ps) (hp : p.next = []) : (putG p ps).1.length = ps.length + 1 ∧ Rn (ps.length + 1) (putG p ps).1 ∧ Re (ps.length + 1) (putG p ps).2 := by
  refine ⟨by simp [putG], fun q hq => ?_, rs_one (Nat.lt_succ_self _), rs_one (Nat.lt_succ_self _)⟩
  simp only [putG, List.mem_append, List.mem_singleton] at hq
  rcases hq with hq | rfl
  · exact rs_mono (h q hq) (by omega)
  · rw [hp]; exact rs_nil _
theorem nodeG_ok {rule : Int} {b : Lb} {s : ISet} {ks : List En} {ps : List Po} (h : Rn ps.length ps) (hk : ∀ y ∈ ks, Re ps.length y) :
    ps.length ≤ (nodeG rule b s ks ps).1.length ∧ (nodeG rule b s ks ps).1.length ≤ ps.length + 1 ∧ Rn (nodeG rule b s ks ps).1.length (nodeG rule b s ks ps).1 ∧ Re (nodeG rule b s ks ps).1.length (nodeG rule b s ks ps).2 := by
  unfold nodeG
  split
  · exact ⟨Nat.le_refl _, Nat.le_succ _, h, re_nil _ _⟩
  · split
    · obtain ⟨a, b, c⟩ := putG_ok (p := ⟨‹Lb›.s, 1, 1, rule, false, []⟩) h rfl
      rw [a]; exact ⟨Nat.le_succ _, Nat.le_refl _, b, c⟩
    · split
      · split
        · obtain ⟨a, b, c⟩ := putG_ok (p := ⟨s, ‹Lb›.lo, ‹Lb›.hi, rule, false, []⟩) h rfl
          rw [a]; exact ⟨Nat.le_succ _, Nat.le_refl _, b, c⟩
        · have hx : Re ps.length (ks.headD enN) := by
            cases ks with
            | nil => exact re_nil _ _
            | cons x ks => exact hk x (by simp)
          simp only [lnk_len]
          exact ⟨Nat.le_refl _, Nat.le_succ _, rn_lnk hx.1 _ h, hx⟩
      · split
        · obtain ⟨a, b, c⟩ := catG_ok ks (s := (ps, ⟨true, [], []⟩)) h (re_nil _ _) hk
          simp only [catG]
          simp only at a b c
          rw [a]; exact ⟨Nat.le_refl _, Nat.le_succ _, b, c⟩
        · exact ⟨Nat.le_refl _, Nat.le_succ _, h, altG_ok ks (re_nil _ _) hk⟩
def SOk (s : List Po × List En) : Prop := Rn s.1.length s.1 ∧ ∀ e ∈ s.2, Re s.1.length e
theorem getD_ok {n : Nat} {al : List En} (h : ∀ e ∈ al, Re n e) (i : Nat) : Re n (al.getD i enN) := by
  rw [List.getD_eq_getElem?_getD]
  cases hx : al[i]? with
  | none => exact re_nil _ _
  | some e => exact h e (List.mem_of_getElem? hx)
theorem stepG_ok {l : List Node} {rule : Int} {s : List Po × List En} {n : Node} (h : SOk s) : SOk (stepG l rule s n) ∧ (stepG l rule s n).2.length = s.2.length + 1 ∧ s.1.length ≤ (stepG l rule s n).1.length ∧ (stepG l rule s n).1.length ≤ s.1.length + 1 := by
  unfold stepG
  split
  · refine ⟨⟨h.1, fun e he => ?_⟩, by simp, Nat.le_refl _, Nat.le_succ _⟩
    simp only [List.mem_append, List.mem_singleton] at he
    rcases he with he | rfl
    · exact h.2 e he
    · exact re_nil _ _
  · obtain ⟨a, b, c, d⟩ := nodeG_ok (rule := rule) (b := n.lb) (s := (nAt l (n.l.headD 0)).s) (ks := n.l.map fun k => s.2.getD k.toNat enN) h.1 fun y hy => by
      obtain ⟨k, _, rfl⟩ := List.mem_map.1 hy
      exact getD_ok h.2 _
    refine ⟨⟨c, fun e he => ?_⟩, by simp, a, b⟩
    simp only [List.mem_append, List.mem_singleton] at he
    rcases he with he | rfl
    · exact re_mono (h.2 e he) a
    · exact d
theorem runG_ok (l : List Node) (rule : Int) : ∀ (m : List Node) {s : List Po × List En}, SOk s → SOk (m.foldl (stepG l rule) s) ∧ (m.foldl (stepG l rule) s).2.length = s.2.length + m.length ∧ s.1.length ≤ (m.foldl (stepG l rule) s).1.length ∧ (m.foldl (stepG l rule) s).1.length ≤ s.1.length + m.length
  | [], s, h => ⟨h, rfl, Nat.le_refl _, Nat.le_refl _⟩
  | n :: m, s, h => by
    obtain ⟨a, b, c, d⟩ := stepG_ok (l := l) (rule := rule) (n := n) h
    obtain ⟨a', b', c', d'⟩ := runG_ok l rule m a
    rw [List.foldl_cons]
    refine ⟨a', by rw [b', b]; simp only [List.length_cons]; omega, by omega, by simp only [List.length_cons]; omega⟩
/-- What the code knows of nodes within counted repetitions, behind so many nodes. -/
def innR (l : List Node) (j : Nat) : List Bool := (List.range l.length).map fun i => innerS (l.take j) i
theorem innR_len (l : List Node) (j : Nat) : (innR l j).length = l.length := by simp [innR]
theorem innR_zero (l : List Node) : innR l 0 = List.replicate l.length false := by
  refine List.ext_getElem (by simp [innR]) fun i h1 h2 => ?_
  simp [innR, innerS]
theorem innR_no {l : List Node} {j : Nat} {n : Node} (h : l[j]? = some n) (hc : ¬ (n.op = 5 ∧ 0 < n.hi)) : innR l (j + 1) = innR l j := by
  unfold innR
  refine List.map_congr_left fun i _ => ?_
  rw [take_one h]
  simp only [innerS, List.any_append, List.any_cons, List.any_nil, Bool.or_false]
  rw [decide_eq_false (fun h => hc ⟨h.1, h.2.1⟩), Bool.or_false]
theorem innR_yes {l : List Node} {j k : Nat} {n : Node} (h : l[j]? = some n) (hc : n.op = 5 ∧ 0 < n.hi) (hk : n.l.headD 0 = (k : Int)) : innR l (j + 1) = (innR l j).set k true := by
  refine List.ext_getElem (by simp [innR]) fun i h1 h2 => ?_
  rw [List.getElem_set]
  simp only [innR, List.getElem_map, List.getElem_range]
  rw [take_one h]
  simp only [innerS, List.any_append, List.any_cons, List.any_nil, Bool.or_false]
  by_cases e : k = i
  · rw [if_pos e, decide_eq_true ⟨hc.1, hc.2, by rw [hk, e]⟩, Bool.or_true]
  · rw [if_neg e, decide_eq_false (fun h => e (by have := h.2.2; omega)), Bool.or_false]
theorem innR_get {l : List Node} {i : Nat} (h : i < l.length) : (innR l l.length)[i]? = some (innerS l i) := by
  unfold innR
  rw [List.getElem?_map, List.getElem?_range h, List.take_length]
  rfl
theorem lay_kidsI : ∀ (f : Fo) (i j : Nat) (n : Node), (f.lay i)[j]? = some n → ∀ k ∈ n.l, (i : Int) ≤ k ∧ k < i + j
  | .nil, i, j, n, h => by simp [lay] at h
  | .node b c r, i, j, n, h => by
    simp only [lay] at h
    rw [List.getElem?_append] at h
    split at h
    · exact lay_kidsI c i j n h
    · rename_i hj
      rw [lay_len] at h hj
      obtain ⟨m, hm⟩ : ∃ m, j - c.size = m := ⟨_, rfl⟩
      rw [hm] at h
      cases m with
      | zero =>
        simp only [List.getElem?_cons_zero, Option.some.injEq] at h
        subst h
        intro k hk
        have := roots_in' c i k hk
        omega
      | succ m =>
        simp only [List.getElem?_cons_succ] at h
        intro k hk
        have := lay_kidsI r _ m n h k hk
        omega
where
  roots_in' : ∀ (f : Fo) (i : Nat), ∀ k ∈ f.roots i, (i : Int) ≤ k ∧ k < i + f.size
    | .nil, _, k, h => by simp [roots] at h
    | .node b c r, i, k, h => by
      simp only [roots, List.mem_cons] at h
      simp only [size]
      rcases h with rfl | h
      · omega
      · have := roots_in' r _ k h; omega
end Go.Rad
/- Contracts: glush: the places of one plan. -/
namespace Go.Rad
open Go Go.Proofs
set_option linter.all false
set_option maxRecDepth 20000
set_option maxHeartbeats 4000000

abbrev blsG (l : List Bool) : List (List AVal) := l.map fun b => [.bool b]
abbrev En.cells0 (e : En) : List AVal := [.bool e.null, .sl true true [], .sl true true []]
/-- Nodes as the code leans on them. -/
def kidsOk (l : List Node) : Prop := 1 ≤ l.length ∧ l.length ≤ 1024 ∧ ∀ (i : Nat) (n : Node), l[i]? = some n → n.l.length ≤ 1024 ∧ (∀ k ∈ n.l, 0 ≤ k ∧ k < (i : Int)) ∧ (n.op = 5 → n.l.length = 1)
/-- What is told of the nodes so far, with one more. -/
def rowG (n : Nat) (al : List En) (c : En) : List En := al ++ c :: List.replicate (n - al.length - 1) enN
theorem rowG_facts {n : Nat} {al : List En} (h : al.length < n) (c : En) : (rowG n al c).length = n ∧ (rowG n al c)[al.length]? = some c ∧ (∀ k, k < al.length → (rowG n al c)[k]? = some (al.getD k enN)) ∧ ∀ c', (rowG n al c).set al.length c' = rowG n al c' := by
  refine ⟨by simp [rowG]; omega, by simp [rowG], fun k hk => ?_, fun c' => by simp [rowG]⟩
  rw [rowG, List.getElem?_append_left hk, List.getElem?_eq_getElem hk]
  simp [List.getD, hk]
theorem rowG_next {n : Nat} {al : List En} (h : al.length < n) (c : En) : rowG n al c = (al ++ [c]) ++ List.replicate (n - (al.length + 1)) enN := by
  simp only [rowG, List.append_assoc, List.cons_append, List.nil_append, Nat.sub_sub]
theorem rowG_now {n : Nat} {al : List En} (h : al.length < n) : al ++ List.replicate (n - al.length) enN = rowG n al enN := by
  rw [rowG, ← List.replicate_succ, show n - al.length - 1 + 1 = n - al.length by omega]
theorem tree9uc (g g1 : Nat) (f : Bool) (l : List Node) (rule : Nat) (ps : List Po) (hl : kidsOk l) (hps : ps.length ≤ 900000) (hn : Rn ps.length ps) :
    ACall Try.prog 22 [.bx 1000 g 0, .sl true f (nodes l), .int .i64 rule] (gsto g g1 ps) fun r s => r = .agg ((listG l rule ps).2.getLastD enN).cells ∧ ∃ h1, s = gsto g h1 (listG l rule ps).1 := by
  obtain ⟨l1, l2, hkids⟩ := hl
  have hrep : List.map (List.map nrm1) (List.replicate l.length [AVal.bool false]) = blsG (innR l 0) := by rw [innR_zero]; simp [nrm1]
  have hrep2 : List.map (List.map nrm1) (List.replicate l.length [AVal.bool false, AVal.sl true true [], AVal.sl true true []]) = ens (List.replicate l.length enN) := by simp [nrm1, enN]
  simp only [gsto]
  refine ACall.enter Try.func22 rfl (by kernel_rfl) (Nat.le_of_ble_eq_true rfl) ?_; simp only [initTm, Nat.reduceAdd]
  repeat' (first
  | refine gSq ?_ | refine gSk ?_ | refine gBl ?_ | refine gIb ?_ | refine gEx rfl ?_
  | ((first
  | (refine gRg [] [0, 1, 2, 6, 7, 9, 10, 11, 12, 13, 15, 17, 21, 22, 23, 24, 34, 45, 46, 47, 48, 53, 54, 55, 56, 72, 80, 100, 104, 132, 154, 163, 164, 165, 166] ?_; intro K hK)
  | (refine gDr 23 [] 17 [0, 1, 2, 3, 4, 5, 6, 7, 8, 9, 10, 11, 12, 13, 14, 15, 16, 17, 18, 19] [0, 1, 2, 6, 7, 9, 10, 11, 12, 13, 15, 17, 21, 22, 23, 24, 34, 45, 46, 47, 48, 53, 54, 55, 56, 72, 80, 100, 104, 132, 154, 163, 164, 165, 166] rfl ?_; intro K hK)
  | (refine gDr 34 [] 11 [0, 1, 2, 3, 4, 5, 6, 7, 8, 9, 10, 11, 12, 13] [0, 1, 2, 6, 7, 9, 10, 11, 12, 13, 15, 17, 21, 22, 23, 24, 34, 45, 46, 47, 48, 53, 54, 55, 56, 72, 80, 100, 104, 132, 154, 163, 164, 165, 166] rfl ?_; intro K hK)
  | (refine gDr 15 [] 10 [0, 1, 2, 3, 4, 5, 6, 7, 8, 9, 10, 11, 12] [0, 1, 2, 6, 7, 9, 10, 11, 12, 13, 15, 17, 21, 22, 23, 24, 34, 45, 46, 47, 48, 53, 54, 55, 56, 72, 80, 100, 104, 132, 154, 163, 164, 165, 166] rfl ?_; intro K hK)
  | (refine gd_split ?_ ?_ <;> intro hb <;> (try simp only [bls] at hb) <;> (try simp only [hb]))
  | refine gRt [1000, 1001] [.cell 6 56] rfl ?_ | refine gDn [1000, 1001] [.cell 6 56] rfl ?_) <;> (try simp only [go_sem, simprocAttr, hrep]))
  | (refine hK _ _ ?_; clear hK K; simp only [go_sem, simprocAttr])
  | refine gCd (by simp only [go_sem, simprocAttr]; rfl) rfl ?_
  | refine brT ?_ | refine brF ?_
  | (refine brS ?_ ?_ <;> intro hc <;> (try simp only [bls] at hc) <;> (try simp only [hc, bls]))
  | intro _ | refine And.intro ?_ ?_)
  all_goals first | omega | (unfold bigLen; omega) | exact ⟨_, _, ⟨rfl, rfl⟩, rfl⟩ | exact ⟨_, rfl⟩ | (rename_i hy; simp only [List.mem_singleton] at hy; subst hy; rfl) | with_reducible rfl | skip
  rename_i h6 h20
  refine AGood.prune [0, 1, 2, 6, 7, 21, 22, 23] ?_; simp only [go_sem, simprocAttr]
  refine AGood.loopInv (α := Nat) (fun j => ([(0, .bx 1000 g 0), (1, .sl true f (nodes l)), (2, .int .i64 rule), (6, .bx 6 h6 0), (7, .osl 20 h20 0 l.length), (21, .sl true f (nodes l)), (22, .int .i64 l.length), (23, .int .i64 j)], [(6, h6, .box enN.cells0), (20, h20, .row 1 (blsG (innR l j))), (1000, g, .box [.osl 1001 g1 0 ps.length]), (1001, g1, .row 9 (poss ps))])) (fun j => j ≤ l.length) (fun j => l.length - j) 0 (Nat.zero_le _) rfl ?_
  rintro j hj ih
  simp only at hj ih ⊢
  by_cases hle : j < l.length
  · have e4 : (j : Int) < l.length := by omega
    have e5 : (0 : Int) ≤ j := by omega
    have e6 : (j : Int) + 1 = ((j + 1 : Nat) : Int) := by omega
    obtain ⟨n, hx⟩ : ∃ n, l[j]? = some n := ⟨_, List.getElem?_eq_getElem hle⟩
    obtain ⟨k1, k2, k3⟩ := hkids j n hx
    by_cases hc : n.op = 5 ∧ 0 < n.hi
    · obtain ⟨kd, hkd⟩ : ∃ kd, n.l = [kd] := List.length_eq_one_iff.1 (k3 hc.1)
      have hkb := k2 kd (by simp [hkd])
      obtain ⟨k, rfl⟩ : ∃ k : Nat, kd = k := ⟨kd.toNat, by omega⟩
      have hI := innR_yes hx hc (k := k) (by rw [hkd]; rfl)
      have hIl := innR_len l j
      generalize innR l j = I at hI hIl
      have f1 : k < I.length := by omega
      have f2 : (k : Int) < l.length := by omega
      have f3 : (0 : Int) ≤ k := by omega
      have hIk : I[k]? = some I[k] := List.getElem?_eq_getElem f1
      obtain ⟨hc1, hc2⟩ := hc
      obtain ⟨xo, ⟨xa, xb, xc, xd⟩, xl, xlo, xhi, xn⟩ := n
      simp only at hc1 hc2 hkd
      have hx0 : xl[0]? = some (k : Int) := by rw [hkd]; rfl
      have hx1 : (0 : Int) < xl.length := by rw [hkd]; exact Int.one_pos
      clear hkd k1 k2 k3
      repeat' (first
  | refine gSq ?_ | refine gSk ?_ | refine gBl ?_ | refine gIb ?_ | refine gEx rfl ?_
  | ((first
  | (refine gRg [] [0, 1, 2, 6, 7, 9, 10, 11, 12, 13, 15, 17, 21, 22, 23, 24, 34, 45, 46, 47, 48, 53, 54, 55, 56, 72, 80, 100, 104, 132, 154, 163, 164, 165, 166] ?_; intro K hK)
  | (refine gDr 23 [] 17 [0, 1, 2, 3, 4, 5, 6, 7, 8, 9, 10, 11, 12, 13, 14, 15, 16, 17, 18, 19] [0, 1, 2, 6, 7, 9, 10, 11, 12, 13, 15, 17, 21, 22, 23, 24, 34, 45, 46, 47, 48, 53, 54, 55, 56, 72, 80, 100, 104, 132, 154, 163, 164, 165, 166] rfl ?_; intro K hK)
  | (refine gDr 34 [] 11 [0, 1, 2, 3, 4, 5, 6, 7, 8, 9, 10, 11, 12, 13] [0, 1, 2, 6, 7, 9, 10, 11, 12, 13, 15, 17, 21, 22, 23, 24, 34, 45, 46, 47, 48, 53, 54, 55, 56, 72, 80, 100, 104, 132, 154, 163, 164, 165, 166] rfl ?_; intro K hK)
  | (refine gDr 15 [] 10 [0, 1, 2, 3, 4, 5, 6, 7, 8, 9, 10, 11, 12] [0, 1, 2, 6, 7, 9, 10, 11, 12, 13, 15, 17, 21, 22, 23, 24, 34, 45, 46, 47, 48, 53, 54, 55, 56, 72, 80, 100, 104, 132, 154, 163, 164, 165, 166] rfl ?_; intro K hK)
  | (refine gd_split ?_ ?_ <;> intro hb <;> (try simp only [bls] at hb) <;> (try simp only [hb]))
  | refine gRt [1000, 1001] [.cell 6 56] rfl ?_ | refine gDn [1000, 1001] [.cell 6 56] rfl ?_) <;> (try simp only [go_sem, simprocAttr, e4, e5, e6, f1, f2, f3, hx, hx0, hx1, hIk, eq_true hc1, hc2, Option.some.injEq, forall_eq']))
  | (refine hK _ _ ?_; clear hK K; simp only [go_sem, simprocAttr])
  | refine gCd (by simp only [go_sem, simprocAttr]; rfl) rfl ?_
  | refine brT ?_ | refine brF ?_
  | (refine brS ?_ ?_ <;> intro hc <;> (try simp only [bls] at hc) <;> (try simp only [hc, bls]))
  | intro _ | refine And.intro ?_ ?_)
      all_goals first | omega | (unfold bigLen; omega) | exact ⟨_, _, ⟨rfl, rfl⟩, rfl⟩ | exact ⟨_, rfl⟩ | (rename_i hy; simp only [List.mem_singleton] at hy; subst hy; rfl) | with_reducible rfl | skip
      rename_i z hz
      have hz2 : z = [.bool I[k]] := by rw [List.getElem?_map, hIk] at hz; exact (Option.some.inj hz).symm
      subst hz2
      refine AGood.filt [6, 20, 1000, 1001] ?_
      simp only [sf_cons, sf_nil, go_sem, simprocAttr]
      refine AGood.prune [0, 1, 2, 6, 7, 21, 22, 23] ?_; simp only [go_sem, simprocAttr]
      exact AGood.cast (ih (j + 1) (by omega) (by omega)) rfl (by rw [hI]; simp [List.map_set])
    · have hI := innR_no hx hc
      obtain ⟨xo, ⟨xa, xb, xc, xd⟩, xl, xlo, xhi, xn⟩ := n
      simp only at hc
      clear k1 k2 k3
      by_cases h5 : xo = 5
      · have h6' : ¬ 0 < xhi := fun h => hc ⟨h5, h⟩
        repeat' (first
  | refine gSq ?_ | refine gSk ?_ | refine gBl ?_ | refine gIb ?_ | refine gEx rfl ?_
  | ((first
  | (refine gRg [] [0, 1, 2, 6, 7, 9, 10, 11, 12, 13, 15, 17, 21, 22, 23, 24, 34, 45, 46, 47, 48, 53, 54, 55, 56, 72, 80, 100, 104, 132, 154, 163, 164, 165, 166] ?_; intro K hK)
  | (refine gDr 23 [] 17 [0, 1, 2, 3, 4, 5, 6, 7, 8, 9, 10, 11, 12, 13, 14, 15, 16, 17, 18, 19] [0, 1, 2, 6, 7, 9, 10, 11, 12, 13, 15, 17, 21, 22, 23, 24, 34, 45, 46, 47, 48, 53, 54, 55, 56, 72, 80, 100, 104, 132, 154, 163, 164, 165, 166] rfl ?_; intro K hK)
  | (refine gDr 34 [] 11 [0, 1, 2, 3, 4, 5, 6, 7, 8, 9, 10, 11, 12, 13] [0, 1, 2, 6, 7, 9, 10, 11, 12, 13, 15, 17, 21, 22, 23, 24, 34, 45, 46, 47, 48, 53, 54, 55, 56, 72, 80, 100, 104, 132, 154, 163, 164, 165, 166] rfl ?_; intro K hK)
  | (refine gDr 15 [] 10 [0, 1, 2, 3, 4, 5, 6, 7, 8, 9, 10, 11, 12] [0, 1, 2, 6, 7, 9, 10, 11, 12, 13, 15, 17, 21, 22, 23, 24, 34, 45, 46, 47, 48, 53, 54, 55, 56, 72, 80, 100, 104, 132, 154, 163, 164, 165, 166] rfl ?_; intro K hK)
  | (refine gd_split ?_ ?_ <;> intro hb <;> (try simp only [bls] at hb) <;> (try simp only [hb]))
  | refine gRt [1000, 1001] [.cell 6 56] rfl ?_ | refine gDn [1000, 1001] [.cell 6 56] rfl ?_) <;> (try simp only [go_sem, simprocAttr, e4, e5, e6, hx, eq_true h5, h6', Option.some.injEq, forall_eq']))
  | (refine hK _ _ ?_; clear hK K; simp only [go_sem, simprocAttr])
  | refine gCd (by simp only [go_sem, simprocAttr]; rfl) rfl ?_
  | refine brT ?_ | refine brF ?_
  | (refine brS ?_ ?_ <;> intro hc <;> (try simp only [bls] at hc) <;> (try simp only [hc, bls]))
  | intro _ | refine And.intro ?_ ?_)
        all_goals first | omega | (unfold bigLen; omega) | exact ⟨_, _, ⟨rfl, rfl⟩, rfl⟩ | exact ⟨_, rfl⟩ | (rename_i hy; simp only [List.mem_singleton] at hy; subst hy; rfl) | with_reducible rfl | skip
        refine AGood.filt [6, 20, 1000, 1001] ?_
        simp only [sf_cons, sf_nil, go_sem, simprocAttr]
        refine AGood.prune [0, 1, 2, 6, 7, 21, 22, 23] ?_; simp only [go_sem, simprocAttr]
        exact AGood.cast (ih (j + 1) (by omega) (by omega)) rfl (by rw [hI])
      · repeat' (first
  | refine gSq ?_ | refine gSk ?_ | refine gBl ?_ | refine gIb ?_ | refine gEx rfl ?_
  | ((first
  | (refine gRg [] [0, 1, 2, 6, 7, 9, 10, 11, 12, 13, 15, 17, 21, 22, 23, 24, 34, 45, 46, 47, 48, 53, 54, 55, 56, 72, 80, 100, 104, 132, 154, 163, 164, 165, 166] ?_; intro K hK)
  | (refine gDr 23 [] 17 [0, 1, 2, 3, 4, 5, 6, 7, 8, 9, 10, 11, 12, 13, 14, 15, 16, 17, 18, 19] [0, 1, 2, 6, 7, 9, 10, 11, 12, 13, 15, 17, 21, 22, 23, 24, 34, 45, 46, 47, 48, 53, 54, 55, 56, 72, 80, 100, 104, 132, 154, 163, 164, 165, 166] rfl ?_; intro K hK)
  | (refine gDr 34 [] 11 [0, 1, 2, 3, 4, 5, 6, 7, 8, 9, 10, 11, 12, 13] [0, 1, 2, 6, 7, 9, 10, 11, 12, 13, 15, 17, 21, 22, 23, 24, 34, 45, 46, 47, 48, 53, 54, 55, 56, 72, 80, 100, 104, 132, 154, 163, 164, 165, 166] rfl ?_; intro K hK)
  | (refine gDr 15 [] 10 [0, 1, 2, 3, 4, 5, 6, 7, 8, 9, 10, 11, 12] [0, 1, 2, 6, 7, 9, 10, 11, 12, 13, 15, 17, 21, 22, 23, 24, 34, 45, 46, 47, 48, 53, 54, 55, 56, 72, 80, 100, 104, 132, 154, 163, 164, 165, 166] rfl ?_; intro K hK)
  | (refine gd_split ?_ ?_ <;> intro hb <;> (try simp only [bls] at hb) <;> (try simp only [hb]))
  | refine gRt [1000, 1001] [.cell 6 56] rfl ?_ | refine gDn [1000, 1001] [.cell 6 56] rfl ?_) <;> (try simp only [go_sem, simprocAttr, e4, e5, e6, hx, h5, Option.some.injEq, forall_eq']))
  | (refine hK _ _ ?_; clear hK K; simp only [go_sem, simprocAttr])
  | refine gCd (by simp only [go_sem, simprocAttr]; rfl) rfl ?_
  | refine brT ?_ | refine brF ?_
  | (refine brS ?_ ?_ <;> intro hc <;> (try simp only [bls] at hc) <;> (try simp only [hc, bls]))
  | intro _ | refine And.intro ?_ ?_)
        all_goals first | omega | (unfold bigLen; omega) | exact ⟨_, _, ⟨rfl, rfl⟩, rfl⟩ | exact ⟨_, rfl⟩ | (rename_i hy; simp only [List.mem_singleton] at hy; subst hy; rfl) | with_reducible rfl | skip
        refine AGood.filt [6, 20, 1000, 1001] ?_
        simp only [sf_cons, sf_nil, go_sem, simprocAttr]
        refine AGood.prune [0, 1, 2, 6, 7, 21, 22, 23] ?_; simp only [go_sem, simprocAttr]
        exact AGood.cast (ih (j + 1) (by omega) (by omega)) rfl (by rw [hI])
  · have e4 : ¬ (j : Int) < l.length := by omega
    have hin : j = l.length := by omega
    rw [hin]
    rw [hin] at e4
    clear ih
    repeat' (first
  | refine gSq ?_ | refine gSk ?_ | refine gBl ?_ | refine gIb ?_ | refine gEx rfl ?_
  | ((first
  | (refine gRg [] [0, 1, 2, 6, 7, 9, 10, 11, 12, 13, 15, 17, 21, 22, 23, 24, 34, 45, 46, 47, 48, 53, 54, 55, 56, 72, 80, 100, 104, 132, 154, 163, 164, 165, 166] ?_; intro K hK)
  | (refine gDr 23 [] 17 [0, 1, 2, 3, 4, 5, 6, 7, 8, 9, 10, 11, 12, 13, 14, 15, 16, 17, 18, 19] [0, 1, 2, 6, 7, 9, 10, 11, 12, 13, 15, 17, 21, 22, 23, 24, 34, 45, 46, 47, 48, 53, 54, 55, 56, 72, 80, 100, 104, 132, 154, 163, 164, 165, 166] rfl ?_; intro K hK)
  | (refine gDr 34 [] 11 [0, 1, 2, 3, 4, 5, 6, 7, 8, 9, 10, 11, 12, 13] [0, 1, 2, 6, 7, 9, 10, 11, 12, 13, 15, 17, 21, 22, 23, 24, 34, 45, 46, 47, 48, 53, 54, 55, 56, 72, 80, 100, 104, 132, 154, 163, 164, 165, 166] rfl ?_; intro K hK)
  | (refine gDr 15 [] 10 [0, 1, 2, 3, 4, 5, 6, 7, 8, 9, 10, 11, 12] [0, 1, 2, 6, 7, 9, 10, 11, 12, 13, 15, 17, 21, 22, 23, 24, 34, 45, 46, 47, 48, 53, 54, 55, 56, 72, 80, 100, 104, 132, 154, 163, 164, 165, 166] rfl ?_; intro K hK)
  | (refine gd_split ?_ ?_ <;> intro hb <;> (try simp only [bls] at hb) <;> (try simp only [hb]))
  | refine gRt [1000, 1001] [.cell 6 56] rfl ?_ | refine gDn [1000, 1001] [.cell 6 56] rfl ?_) <;> (try simp only [go_sem, simprocAttr, e4, hrep2]))
  | (refine hK _ _ ?_; clear hK K; simp only [go_sem, simprocAttr])
  | refine gCd (by simp only [go_sem, simprocAttr]; rfl) rfl ?_
  | refine brT ?_ | refine brF ?_
  | (refine brS ?_ ?_ <;> intro hc <;> (try simp only [bls] at hc) <;> (try simp only [hc, bls]))
  | intro _ | refine And.intro ?_ ?_)
    all_goals first | omega | (unfold bigLen; omega) | exact ⟨_, _, ⟨rfl, rfl⟩, rfl⟩ | exact ⟨_, rfl⟩ | (rename_i hy; simp only [List.mem_singleton] at hy; subst hy; rfl) | with_reducible rfl | skip
    rename_i h44
    refine AGood.prune [0, 1, 2, 6, 7, 10, 45, 46, 47] ?_; simp only [go_sem, simprocAttr]
    obtain ⟨S, hS⟩ : ∃ S : Nat → List Po × List En, S = fun i => (l.take i).foldl (stepG l rule) (ps, []) := ⟨_, rfl⟩
    have hS0 : S 0 = (ps, []) := by rw [hS]; rfl
    have hS1 : ∀ (i : Nat) (n : Node), l[i]? = some n → S (i + 1) = stepG l rule (S i) n := fun i n h => by rw [hS]; simp only [take_one h, List.foldl_append]; rfl
    have hSf : ∀ i, i ≤ l.length → SOk (S i) ∧ (S i).2.length = i ∧ (S i).1.length ≤ ps.length + i := fun i hi => by
      obtain ⟨a, b, _, d⟩ := runG_ok l rule (l.take i) (s := (ps, [])) ⟨hn, fun e he => by simp at he⟩
      rw [List.length_take] at b d
      rw [hS]
      exact ⟨a, by rw [b]; simp; omega, by simp only at d ⊢; omega⟩
    have hSE : listG l rule ps = S l.length := by rw [hS, listG]; simp only [List.take_length]
    rw [hSE]
    clear hS hSE
    refine AGood.loopInv (α := Nat × Nat) (fun z => ([(0, .bx 1000 g 0), (1, .sl true f (nodes l)), (2, .int .i64 rule), (6, .bx 6 h6 0), (7, .osl 20 h20 0 l.length), (10, .osl 44 h44 0 l.length), (45, .sl true f (nodes l)), (46, .int .i64 l.length), (47, .int .i64 z.1)], [(6, h6, .box enN.cells0), (20, h20, .row 1 (blsG (innR l l.length))), (44, h44, .row 3 (ens ((S z.1).2 ++ List.replicate (l.length - z.1) enN))), (1000, g, .box [.osl 1001 z.2 0 (S z.1).1.length]), (1001, z.2, .row 9 (poss (S z.1).1))])) (fun z => z.1 ≤ l.length) (fun z => l.length - z.1) (0, g1) (Nat.zero_le _) (by simp only [hS0]; rfl) ?_
    rintro ⟨i, g1⟩ hi ih
    simp only at hi ih ⊢
    obtain ⟨hok, hal, hpl⟩ := hSf i hi
    by_cases hle : i < l.length
    · have e4 : (i : Int) < l.length := by omega
      have e5 : (0 : Int) ≤ i := by omega
      have e6 : (i : Int) + 1 = ((i + 1 : Nat) : Int) := by omega
      obtain ⟨n, hx⟩ : ∃ n, l[i]? = some n := ⟨_, List.getElem?_eq_getElem hle⟩
      obtain ⟨k1, k2, k3⟩ := hkids i n hx
      have hst := hS1 i n hx
      have hin := innR_get hle
      generalize innR l l.length = I at hin ih ⊢
      generalize S i = s at hst hok hal hpl ⊢
      obtain ⟨Q, al⟩ := s
      simp only at hst hok hal hpl ⊢
      obtain ⟨hQ, hA⟩ := hok
      simp only at hQ hA
      have hrow := rowG_now (n := l.length) (al := al) (by omega)
      rw [hal] at hrow
      rw [hrow]
      obtain ⟨r1, r2, r3, r4⟩ := rowG_facts (n := l.length) (al := al) (by omega) enN
      have rn := rowG_next (n := l.length) (al := al) (by omega)
      rw [hal] at r2 r3 r4 rn
      have f1 : i < (rowG l.length al enN).length := by omega
      simp only [stepG, hal] at hst
      by_cases c1 : n.op = 1
      · rw [if_neg (by omega), nodeG, if_pos c1] at hst
        obtain ⟨xo, ⟨xa, xb, xc, xd⟩, xl, xlo, xhi, xn⟩ := n
        simp only at c1
        clear k1 k2 k3
        generalize rowG l.length al enN = W at r2 r4 f1
        repeat' (first
  | refine gSq ?_ | refine gSk ?_ | refine gBl ?_ | refine gIb ?_ | refine gEx rfl ?_
  | ((first
  | (refine gRg [] [0, 1, 2, 6, 7, 9, 10, 11, 12, 13, 15, 17, 21, 22, 23, 24, 34, 45, 46, 47, 48, 53, 54, 55, 56, 72, 80, 100, 104, 132, 154, 163, 164, 165, 166] ?_; intro K hK)
  | (refine gDr 23 [] 17 [0, 1, 2, 3, 4, 5, 6, 7, 8, 9, 10, 11, 12, 13, 14, 15, 16, 17, 18, 19] [0, 1, 2, 6, 7, 9, 10, 11, 12, 13, 15, 17, 21, 22, 23, 24, 34, 45, 46, 47, 48, 53, 54, 55, 56, 72, 80, 100, 104, 132, 154, 163, 164, 165, 166] rfl ?_; intro K hK)
  | (refine gDr 34 [] 11 [0, 1, 2, 3, 4, 5, 6, 7, 8, 9, 10, 11, 12, 13] [0, 1, 2, 6, 7, 9, 10, 11, 12, 13, 15, 17, 21, 22, 23, 24, 34, 45, 46, 47, 48, 53, 54, 55, 56, 72, 80, 100, 104, 132, 154, 163, 164, 165, 166] rfl ?_; intro K hK)
  | (refine gDr 15 [] 10 [0, 1, 2, 3, 4, 5, 6, 7, 8, 9, 10, 11, 12] [0, 1, 2, 6, 7, 9, 10, 11, 12, 13, 15, 17, 21, 22, 23, 24, 34, 45, 46, 47, 48, 53, 54, 55, 56, 72, 80, 100, 104, 132, 154, 163, 164, 165, 166] rfl ?_; intro K hK)
  | (refine gd_split ?_ ?_ <;> intro hb <;> (try simp only [bls] at hb) <;> (try simp only [hb]))
  | refine gRt [1000, 1001] [.cell 6 56] rfl ?_ | refine gDn [1000, 1001] [.cell 6 56] rfl ?_) <;> (try simp only [go_sem, simprocAttr, e4, e5, e6, f1, hx, r2, eq_true c1, Option.some.injEq, forall_eq']))
  | (refine hK _ _ ?_; clear hK K; simp only [go_sem, simprocAttr])
  | refine gCd (by simp only [go_sem, simprocAttr]; rfl) rfl ?_
  | refine brT ?_ | refine brF ?_
  | (refine brS ?_ ?_ <;> intro hc <;> (try simp only [bls] at hc) <;> (try simp only [hc, bls]))
  | intro _ | refine And.intro ?_ ?_)
        all_goals first | omega | (unfold bigLen; omega) | exact ⟨_, _, ⟨rfl, rfl⟩, rfl⟩ | exact ⟨_, rfl⟩ | (rename_i hy; simp only [List.mem_singleton] at hy; subst hy; rfl) | with_reducible rfl | skip
        rename_i z hz
        have hz2 : z = enN.cells := by rw [List.getElem?_map, r2] at hz; exact (Option.some.inj hz).symm
        subst hz2
        refine AGood.filt [6, 20, 44, 1000, 1001] ?_
        simp only [sf_cons, sf_nil, go_sem, simprocAttr]
        refine AGood.prune [0, 1, 2, 6, 7, 10, 45, 46, 47] ?_; simp only [go_sem, simprocAttr]
        exact AGood.cast (ih (i + 1, g1) (by simp only; omega) (by simp only; omega)) rfl (by simp only [hst, ← rn, ← r4, List.map_set]; rfl)
      by_cases c2 : n.op = 2
      · cases hc : innerS l i
        · rw [hc] at hin
          rw [if_neg (by simp [hc]), nodeG, if_neg c1, if_pos c2] at hst
          obtain ⟨xo, ⟨xa, xb, xc, xd⟩, xl, xlo, xhi, xn⟩ := n
          simp only at c1 c2
          clear k1 k2 k3
          have hput := put9uc g g1 Q ⟨⟨xa, xb, xc, xd⟩, 1, 1, rule, false, []⟩ true (by omega)
          simp only [putG, En.cells, Po.cellsF, gsto, List.map_nil, List.map_cons] at hput
          simp only [putG] at hst
          generalize rowG l.length al enN = W at r2 r4 f1
          have f2 : (i : Int) < I.length := by have := (List.getElem?_eq_some_iff.1 hin).1; omega
          repeat' (first
  | refine gSq ?_ | refine gSk ?_ | refine gBl ?_ | refine gIb ?_ | refine gEx rfl ?_
  | ((first
  | (refine gRg [] [0, 1, 2, 6, 7, 9, 10, 11, 12, 13, 15, 17, 21, 22, 23, 24, 34, 45, 46, 47, 48, 53, 54, 55, 56, 72, 80, 100, 104, 132, 154, 163, 164, 165, 166] ?_; intro K hK)
  | (refine gDr 23 [] 17 [0, 1, 2, 3, 4, 5, 6, 7, 8, 9, 10, 11, 12, 13, 14, 15, 16, 17, 18, 19] [0, 1, 2, 6, 7, 9, 10, 11, 12, 13, 15, 17, 21, 22, 23, 24, 34, 45, 46, 47, 48, 53, 54, 55, 56, 72, 80, 100, 104, 132, 154, 163, 164, 165, 166] rfl ?_; intro K hK)
  | (refine gDr 34 [] 11 [0, 1, 2, 3, 4, 5, 6, 7, 8, 9, 10, 11, 12, 13] [0, 1, 2, 6, 7, 9, 10, 11, 12, 13, 15, 17, 21, 22, 23, 24, 34, 45, 46, 47, 48, 53, 54, 55, 56, 72, 80, 100, 104, 132, 154, 163, 164, 165, 166] rfl ?_; intro K hK)
  | (refine gDr 15 [] 10 [0, 1, 2, 3, 4, 5, 6, 7, 8, 9, 10, 11, 12] [0, 1, 2, 6, 7, 9, 10, 11, 12, 13, 15, 17, 21, 22, 23, 24, 34, 45, 46, 47, 48, 53, 54, 55, 56, 72, 80, 100, 104, 132, 154, 163, 164, 165, 166] rfl ?_; intro K hK)
  | (refine ACall.use [(1000, 1000), (1001, 1001)] [] rfl (hput) rfl rfl rfl ?_; (first | rintro _ _ ⟨rfl, rfl⟩ | rintro _ _ ⟨rfl, h1, rfl⟩); refine ⟨.inl rfl, rfl, ?_⟩; simp only [bk, bk2, bk1, bkS, bkO, idOf, delAll, go_sem, simprocAttr])
  | (refine gd_split ?_ ?_ <;> intro hb <;> (try simp only [bls] at hb) <;> (try simp only [hb]))
  | refine gRt [1000, 1001] [.cell 6 56] rfl ?_ | refine gDn [1000, 1001] [.cell 6 56] rfl ?_) <;> (try simp only [go_sem, simprocAttr, e4, e5, e6, f1, f2, hx, r2, hin, c1, eq_true c2, AVal.isCell, Option.some.injEq, forall_eq']))
  | (refine hK _ _ ?_; clear hK K; simp only [go_sem, simprocAttr])
  | refine gCd (by simp only [go_sem, simprocAttr]; rfl) rfl ?_
  | refine brT ?_ | refine brF ?_
  | (refine brS ?_ ?_ <;> intro hc <;> (try simp only [bls] at hc) <;> (try simp only [hc, bls]))
  | intro _ | refine And.intro ?_ ?_)
          all_goals first | omega | (unfold bigLen; omega) | exact ⟨_, _, ⟨rfl, rfl⟩, rfl⟩ | exact ⟨_, rfl⟩ | (rename_i hy; simp only [List.mem_singleton] at hy; subst hy; rfl) | with_reducible rfl | skip
          rename_i z hz
          have hz2 : z = enN.cells := by rw [List.getElem?_map, r2] at hz; exact (Option.some.inj hz).symm
          subst hz2
          refine AGood.filt [6, 20, 44, 1000, 1001] ?_
          simp only [sf_cons, sf_nil, go_sem, simprocAttr]
          refine AGood.prune [0, 1, 2, 6, 7, 10, 45, 46, 47] ?_; simp only [go_sem, simprocAttr]
          exact AGood.cast (ih (i + 1, h1) (by simp only; omega) (by simp only; omega)) rfl (by simp only [hst, ← rn, ← r4, List.map_set]; rfl)
        · rw [hc] at hin
          rw [if_pos ⟨c2, hc⟩] at hst
          obtain ⟨xo, ⟨xa, xb, xc, xd⟩, xl, xlo, xhi, xn⟩ := n
          simp only at c1 c2
          clear k1 k2 k3
          have f2 : (i : Int) < I.length := by have := (List.getElem?_eq_some_iff.1 hin).1; omega
          repeat' (first
  | refine gSq ?_ | refine gSk ?_ | refine gBl ?_ | refine gIb ?_ | refine gEx rfl ?_
  | ((first
  | (refine gRg [] [0, 1, 2, 6, 7, 9, 10, 11, 12, 13, 15, 17, 21, 22, 23, 24, 34, 45, 46, 47, 48, 53, 54, 55, 56, 72, 80, 100, 104, 132, 154, 163, 164, 165, 166] ?_; intro K hK)
  | (refine gDr 23 [] 17 [0, 1, 2, 3, 4, 5, 6, 7, 8, 9, 10, 11, 12, 13, 14, 15, 16, 17, 18, 19] [0, 1, 2, 6, 7, 9, 10, 11, 12, 13, 15, 17, 21, 22, 23, 24, 34, 45, 46, 47, 48, 53, 54, 55, 56, 72, 80, 100, 104, 132, 154, 163, 164, 165, 166] rfl ?_; intro K hK)
  | (refine gDr 34 [] 11 [0, 1, 2, 3, 4, 5, 6, 7, 8, 9, 10, 11, 12, 13] [0, 1, 2, 6, 7, 9, 10, 11, 12, 13, 15, 17, 21, 22, 23, 24, 34, 45, 46, 47, 48, 53, 54, 55, 56, 72, 80, 100, 104, 132, 154, 163, 164, 165, 166] rfl ?_; intro K hK)
  | (refine gDr 15 [] 10 [0, 1, 2, 3, 4, 5, 6, 7, 8, 9, 10, 11, 12] [0, 1, 2, 6, 7, 9, 10, 11, 12, 13, 15, 17, 21, 22, 23, 24, 34, 45, 46, 47, 48, 53, 54, 55, 56, 72, 80, 100, 104, 132, 154, 163, 164, 165, 166] rfl ?_; intro K hK)
  | (refine gd_split ?_ ?_ <;> intro hb <;> (try simp only [bls] at hb) <;> (try simp only [hb]))
  | refine gRt [1000, 1001] [.cell 6 56] rfl ?_ | refine gDn [1000, 1001] [.cell 6 56] rfl ?_) <;> (try simp only [go_sem, simprocAttr, e4, e5, e6, f2, hx, hin, c1, eq_true c2, Option.some.injEq, forall_eq']))
  | (refine hK _ _ ?_; clear hK K; simp only [go_sem, simprocAttr])
  | refine gCd (by simp only [go_sem, simprocAttr]; rfl) rfl ?_
  | refine brT ?_ | refine brF ?_
  | (refine brS ?_ ?_ <;> intro hc <;> (try simp only [bls] at hc) <;> (try simp only [hc, bls]))
  | intro _ | refine And.intro ?_ ?_)
          all_goals first | omega | (unfold bigLen; omega) | exact ⟨_, _, ⟨rfl, rfl⟩, rfl⟩ | exact ⟨_, rfl⟩ | (rename_i hy; simp only [List.mem_singleton] at hy; subst hy; rfl) | with_reducible rfl | skip
          refine AGood.filt [6, 20, 44, 1000, 1001] ?_
          simp only [sf_cons, sf_nil, go_sem, simprocAttr]
          refine AGood.prune [0, 1, 2, 6, 7, 10, 45, 46, 47] ?_; simp only [go_sem, simprocAttr]
          exact AGood.cast (ih (i + 1, g1) (by simp only; omega) (by simp only; omega)) rfl (by simp only [hst, ← rn])
      rw [if_neg (fun h => c2 h.1), nodeG, if_neg c1, if_neg c2] at hst
      by_cases c5 : n.op = 5
      · obtain ⟨kd, hkd⟩ : ∃ kd, n.l = [kd] := List.length_eq_one_iff.1 (k3 c5)
        have hkb := k2 kd (by simp [hkd])
        obtain ⟨k, rfl⟩ : ∃ k : Nat, kd = k := ⟨kd.toNat, by omega⟩
        rw [if_pos c5] at hst
        have hx0 : n.l[0]? = some (k : Int) := by rw [hkd]; rfl
        have hx1 : (0 : Int) < n.l.length := by rw [hkd]; exact Int.one_pos
        have f2 : (k : Int) < l.length := by omega
        have f3 : (0 : Int) ≤ k := by omega
        have f4 : k < l.length := by omega
        simp only [hkd, List.headD_cons, List.map_cons, List.map_nil, Int.toNat_natCast] at hst
        by_cases ch : 0 < n.hi
        · rw [if_pos ch] at hst
          obtain ⟨w, hw⟩ : ∃ w, l[k]? = some w := ⟨_, List.getElem?_eq_getElem f4⟩
          rw [nAt_get hw] at hst
          obtain ⟨xo, ⟨xa, xb, xc, xd⟩, xl, xlo, xhi, xn⟩ := n
          obtain ⟨wo, ⟨wa, wb, wc, wd⟩, wl, wlo, whi, wn⟩ := w
          simp only at c1 c2 c5 ch hx0 hx1 hst
          clear k1 k2 k3 hkd
          have hput := put9uc g g1 Q ⟨⟨wa, wb, wc, wd⟩, xlo, xhi, rule, false, []⟩ true (by omega)
          simp only [putG, En.cells, Po.cellsF, gsto, List.map_nil, List.map_cons] at hput
          simp only [putG] at hst
          generalize rowG l.length al enN = W at r2 r4 f1
          repeat' (first
  | refine gSq ?_ | refine gSk ?_ | refine gBl ?_ | refine gIb ?_ | refine gEx rfl ?_
  | ((first
  | (refine gRg [] [0, 1, 2, 6, 7, 9, 10, 11, 12, 13, 15, 17, 21, 22, 23, 24, 34, 45, 46, 47, 48, 53, 54, 55, 56, 72, 80, 100, 104, 132, 154, 163, 164, 165, 166] ?_; intro K hK)
  | (refine gDr 23 [] 17 [0, 1, 2, 3, 4, 5, 6, 7, 8, 9, 10, 11, 12, 13, 14, 15, 16, 17, 18, 19] [0, 1, 2, 6, 7, 9, 10, 11, 12, 13, 15, 17, 21, 22, 23, 24, 34, 45, 46, 47, 48, 53, 54, 55, 56, 72, 80, 100, 104, 132, 154, 163, 164, 165, 166] rfl ?_; intro K hK)
  | (refine gDr 34 [] 11 [0, 1, 2, 3, 4, 5, 6, 7, 8, 9, 10, 11, 12, 13] [0, 1, 2, 6, 7, 9, 10, 11, 12, 13, 15, 17, 21, 22, 23, 24, 34, 45, 46, 47, 48, 53, 54, 55, 56, 72, 80, 100, 104, 132, 154, 163, 164, 165, 166] rfl ?_; intro K hK)
  | (refine gDr 15 [] 10 [0, 1, 2, 3, 4, 5, 6, 7, 8, 9, 10, 11, 12] [0, 1, 2, 6, 7, 9, 10, 11, 12, 13, 15, 17, 21, 22, 23, 24, 34, 45, 46, 47, 48, 53, 54, 55, 56, 72, 80, 100, 104, 132, 154, 163, 164, 165, 166] rfl ?_; intro K hK)
  | (refine ACall.use [(1000, 1000), (1001, 1001)] [] rfl (hput) rfl rfl rfl ?_; (first | rintro _ _ ⟨rfl, rfl⟩ | rintro _ _ ⟨rfl, h1, rfl⟩); refine ⟨.inl rfl, rfl, ?_⟩; simp only [bk, bk2, bk1, bkS, bkO, idOf, delAll, go_sem, simprocAttr])
  | (refine gd_split ?_ ?_ <;> intro hb <;> (try simp only [bls] at hb) <;> (try simp only [hb]))
  | refine gRt [1000, 1001] [.cell 6 56] rfl ?_ | refine gDn [1000, 1001] [.cell 6 56] rfl ?_) <;> (try simp only [go_sem, simprocAttr, e4, e5, e6, f1, f2, f3, f4, hx, hx0, hx1, hw, r2, c1, c2, eq_true c5, ch, AVal.isCell, Option.some.injEq, forall_eq']))
  | (refine hK _ _ ?_; clear hK K; simp only [go_sem, simprocAttr])
  | refine gCd (by simp only [go_sem, simprocAttr]; rfl) rfl ?_
  | refine brT ?_ | refine brF ?_
  | (refine brS ?_ ?_ <;> intro hc <;> (try simp only [bls] at hc) <;> (try simp only [hc, bls]))
  | intro _ | refine And.intro ?_ ?_)
          all_goals first | omega | (unfold bigLen; omega) | exact ⟨_, _, ⟨rfl, rfl⟩, rfl⟩ | exact ⟨_, rfl⟩ | (rename_i hy; simp only [List.mem_singleton] at hy; subst hy; rfl) | with_reducible rfl | skip
          rename_i z hz
          have hz2 : z = enN.cells := by rw [List.getElem?_map, r2] at hz; exact (Option.some.inj hz).symm
          subst hz2
          refine AGood.filt [6, 20, 44, 1000, 1001] ?_
          simp only [sf_cons, sf_nil, go_sem, simprocAttr]
          refine AGood.prune [0, 1, 2, 6, 7, 10, 45, 46, 47] ?_; simp only [go_sem, simprocAttr]
          exact AGood.cast (ih (i + 1, h1) (by simp only; omega) (by simp only; omega)) rfl (by simp only [hst, ← rn, ← r4, List.map_set]; rfl)
        · rw [if_neg ch] at hst
          have hki : k < i := by omega
          have hyk := r3 k hki
          have hy := getD_ok hA k
          obtain ⟨y, hyd⟩ : ∃ y, y = al.getD k enN := ⟨_, rfl⟩
          rw [← hyd] at hst hyk hy
          clear hyd
          obtain ⟨xo, ⟨xa, xb, xc, xd⟩, xl, xlo, xhi, xn⟩ := n
          simp only at c1 c2 c5 ch hx0 hx1 hst
          clear k1 k2 k3 hkd
          have hlk := link9uc g g1 true false true false y.last y.first Q (by omega) hQ hy.2.2 hy.1 (by have := rs_len hy.2; omega)
          simp only [gsto, lnk_len] at hlk
          obtain ⟨yn, yf, yl⟩ := y
          simp only at hlk hst
          have hql : (lnk yl yf Q).length = Q.length := lnk_len _ _ _
          generalize lnk yl yf Q = Q2 at hlk hst hql
          generalize rowG l.length al enN = W at r2 r4 f1 hyk
          have f5 : k < W.length := by omega
          repeat' (first
  | refine gSq ?_ | refine gSk ?_ | refine gBl ?_ | refine gIb ?_ | refine gEx rfl ?_
  | ((first
  | (refine gRg [] [0, 1, 2, 6, 7, 9, 10, 11, 12, 13, 15, 17, 21, 22, 23, 24, 34, 45, 46, 47, 48, 53, 54, 55, 56, 72, 80, 100, 104, 132, 154, 163, 164, 165, 166] ?_; intro K hK)
  | (refine gDr 23 [] 17 [0, 1, 2, 3, 4, 5, 6, 7, 8, 9, 10, 11, 12, 13, 14, 15, 16, 17, 18, 19] [0, 1, 2, 6, 7, 9, 10, 11, 12, 13, 15, 17, 21, 22, 23, 24, 34, 45, 46, 47, 48, 53, 54, 55, 56, 72, 80, 100, 104, 132, 154, 163, 164, 165, 166] rfl ?_; intro K hK)
  | (refine gDr 34 [] 11 [0, 1, 2, 3, 4, 5, 6, 7, 8, 9, 10, 11, 12, 13] [0, 1, 2, 6, 7, 9, 10, 11, 12, 13, 15, 17, 21, 22, 23, 24, 34, 45, 46, 47, 48, 53, 54, 55, 56, 72, 80, 100, 104, 132, 154, 163, 164, 165, 166] rfl ?_; intro K hK)
  | (refine gDr 15 [] 10 [0, 1, 2, 3, 4, 5, 6, 7, 8, 9, 10, 11, 12] [0, 1, 2, 6, 7, 9, 10, 11, 12, 13, 15, 17, 21, 22, 23, 24, 34, 45, 46, 47, 48, 53, 54, 55, 56, 72, 80, 100, 104, 132, 154, 163, 164, 165, 166] rfl ?_; intro K hK)
  | (refine ACall.use [(1000, 1000), (1001, 1001)] [] rfl (hlk) rfl rfl rfl ?_; (first | rintro _ _ ⟨rfl, rfl⟩ | rintro _ _ ⟨rfl, h1, rfl⟩); refine ⟨.inl rfl, rfl, ?_⟩; simp only [bk, bk2, bk1, bkS, bkO, idOf, delAll, go_sem, simprocAttr])
  | (refine gd_split ?_ ?_ <;> intro hb <;> (try simp only [bls] at hb) <;> (try simp only [hb]))
  | refine gRt [1000, 1001] [.cell 6 56] rfl ?_ | refine gDn [1000, 1001] [.cell 6 56] rfl ?_) <;> (try simp only [go_sem, simprocAttr, e4, e5, e6, f1, f2, f3, f4, f5, hx, hx0, hx1, hyk, r2, c1, c2, eq_true c5, ch, AVal.isCell, Option.some.injEq, forall_eq']))
  | (refine hK _ _ ?_; clear hK K; simp only [go_sem, simprocAttr])
  | refine gCd (by simp only [go_sem, simprocAttr]; rfl) rfl ?_
  | refine brT ?_ | refine brF ?_
  | (refine brS ?_ ?_ <;> intro hc <;> (try simp only [bls] at hc) <;> (try simp only [hc, bls]))
  | intro _ | refine And.intro ?_ ?_)
          all_goals first | omega | (unfold bigLen; omega) | exact ⟨_, _, ⟨rfl, rfl⟩, rfl⟩ | exact ⟨_, rfl⟩ | (rename_i hy; simp only [List.mem_singleton] at hy; subst hy; rfl) | with_reducible rfl | skip
          rename_i z hz
          have hz2 : z = enN.cells := by rw [List.getElem?_map, r2] at hz; exact (Option.some.inj hz).symm
          subst hz2
          refine AGood.filt [6, 20, 44, 1000, 1001] ?_
          simp only [sf_cons, sf_nil, go_sem, simprocAttr]
          refine AGood.prune [0, 1, 2, 6, 7, 10, 45, 46, 47] ?_; simp only [go_sem, simprocAttr]
          exact AGood.cast (ih (i + 1, g1) (by simp only; omega) (by simp only; omega)) rfl (by simp only [hst, ← rn, ← r4, List.map_set, hql])
      · rw [if_neg c5] at hst
        obtain ⟨ks, hks⟩ : ∃ ks, ks = n.l.map fun k => al.getD k.toNat enN := ⟨_, rfl⟩
        rw [← hks] at hst
        have hkl : ks.length = n.l.length := by rw [hks]; simp
        have hkr : ∀ y ∈ ks, Re Q.length y := fun y hy => by
          rw [hks] at hy
          obtain ⟨k, _, rfl⟩ := List.mem_map.1 hy
          exact getD_ok hA _
        have hkg : ∀ (j : Nat) (k : Nat), n.l[j]? = some (k : Int) → ks[j]? = some (al.getD k enN) := fun j k h => by rw [hks, List.getElem?_map, h]; rfl
        clear hks
        by_cases c3 : n.op = 3
        · rw [if_pos c3, catG] at hst
          obtain ⟨F, hF⟩ : ∃ F : Nat → List Po × En, F = fun j => (ks.take j).foldl thenG (Q, ⟨true, [], []⟩) := ⟨_, rfl⟩
          have hF0 : F 0 = (Q, ⟨true, [], []⟩) := by rw [hF]; rfl
          have hF1 : ∀ (j : Nat) (y : En), ks[j]? = some y → F (j + 1) = thenG (F j) y := fun j y h => by rw [hF]; simp only [take_one h, List.foldl_append]; rfl
          have hFk : ∀ j, (F j).1.length = Q.length ∧ Rn Q.length (F j).1 ∧ Re Q.length (F j).2 := fun j => by rw [hF]; exact catG_ok (ks.take j) (s := (Q, ⟨true, [], []⟩)) hQ (re_nil _ _) fun y hy => hkr y (List.mem_of_mem_take hy)
          have hFE : F ks.length = ks.foldl thenG (Q, ⟨true, [], []⟩) := by rw [hF]; simp only [List.take_length]
          rw [← hFE] at hst
          clear hF hFE
          obtain ⟨xo, ⟨xa, xb, xc, xd⟩, xl, xlo, xhi, xn⟩ := n
          simp only at c1 c2 c5 c3 k1 k2 hkl hkg hst
          clear k3
          generalize hW : rowG l.length al enN = W at r2 r4 f1
          repeat' (first
  | refine gSq ?_ | refine gSk ?_ | refine gBl ?_ | refine gIb ?_ | refine gEx rfl ?_
  | ((first
  | (refine gRg [] [0, 1, 2, 6, 7, 9, 10, 11, 12, 13, 15, 17, 21, 22, 23, 24, 34, 45, 46, 47, 48, 53, 54, 55, 56, 72, 80, 100, 104, 132, 154, 163, 164, 165, 166] ?_; intro K hK)
  | (refine gDr 23 [] 17 [0, 1, 2, 3, 4, 5, 6, 7, 8, 9, 10, 11, 12, 13, 14, 15, 16, 17, 18, 19] [0, 1, 2, 6, 7, 9, 10, 11, 12, 13, 15, 17, 21, 22, 23, 24, 34, 45, 46, 47, 48, 53, 54, 55, 56, 72, 80, 100, 104, 132, 154, 163, 164, 165, 166] rfl ?_; intro K hK)
  | (refine gDr 34 [] 11 [0, 1, 2, 3, 4, 5, 6, 7, 8, 9, 10, 11, 12, 13] [0, 1, 2, 6, 7, 9, 10, 11, 12, 13, 15, 17, 21, 22, 23, 24, 34, 45, 46, 47, 48, 53, 54, 55, 56, 72, 80, 100, 104, 132, 154, 163, 164, 165, 166] rfl ?_; intro K hK)
  | (refine gDr 15 [] 10 [0, 1, 2, 3, 4, 5, 6, 7, 8, 9, 10, 11, 12] [0, 1, 2, 6, 7, 9, 10, 11, 12, 13, 15, 17, 21, 22, 23, 24, 34, 45, 46, 47, 48, 53, 54, 55, 56, 72, 80, 100, 104, 132, 154, 163, 164, 165, 166] rfl ?_; intro K hK)
  | (refine gd_split ?_ ?_ <;> intro hb <;> (try simp only [bls] at hb) <;> (try simp only [hb]))
  | refine gRt [1000, 1001] [.cell 6 56] rfl ?_ | refine gDn [1000, 1001] [.cell 6 56] rfl ?_) <;> (try simp only [go_sem, simprocAttr, e4, e5, e6, f1, hx, r2, c1, c2, c5, eq_true c3, AVal.isCell, Option.some.injEq, forall_eq']))
  | (refine hK _ _ ?_; clear hK K; simp only [go_sem, simprocAttr])
  | refine gCd (by simp only [go_sem, simprocAttr]; rfl) rfl ?_
  | refine brT ?_ | refine brF ?_
  | (refine brS ?_ ?_ <;> intro hc <;> (try simp only [bls] at hc) <;> (try simp only [hc, bls]))
  | intro _ | refine And.intro ?_ ?_)
          all_goals first | omega | (unfold bigLen; omega) | exact ⟨_, _, ⟨rfl, rfl⟩, rfl⟩ | exact ⟨_, rfl⟩ | (rename_i hy; simp only [List.mem_singleton] at hy; subst hy; rfl) | with_reducible rfl | skip
          rename_i z hz
          have hz2 : z = enN.cells := by rw [List.getElem?_map, r2] at hz; exact (Option.some.inj hz).symm
          subst hz2
          refine AGood.filt [6, 20, 44, 1000, 1001] ?_
          simp only [sf_cons, sf_nil, go_sem, simprocAttr]
          refine AGood.prune [0, 1, 2, 6, 7, 10, 11, 45, 46, 47, 163, 164, 165] ?_; simp only [go_sem, simprocAttr]
          refine AGood.loopInv (α := Nat) (fun j => ([(0, .bx 1000 g 0), (1, .sl true f (nodes l)), (2, .int .i64 rule), (6, .bx 6 h6 0), (7, .osl 20 h20 0 l.length), (10, .osl 44 h44 0 l.length), (11, .int .i64 i), (45, .sl true f (nodes l)), (46, .int .i64 l.length), (47, .int .i64 i), (163, .sl true false (ints xl)), (164, .int .i64 xl.length), (165, .int .i64 j)], [(6, h6, .box enN.cells0), (20, h20, .row 1 (blsG I)), (44, h44, .row 3 (ens (rowG l.length al (F j).2))), (1000, g, .box [.osl 1001 g1 0 Q.length]), (1001, g1, .row 9 (poss (F j).1))])) (fun j => j ≤ xl.length) (fun j => xl.length - j) 0 (Nat.zero_le _) (by simp only [hF0, ← r4, List.map_set]; rfl) ?_
          rintro j hj ih2
          simp only at hj ih2 ⊢
          obtain ⟨q1, q2, q3⟩ := hFk j
          by_cases hlj : j < xl.length
          · have d4 : (j : Int) < xl.length := by omega
            have d5 : (0 : Int) ≤ j := by omega
            have d6 : (j : Int) + 1 = ((j + 1 : Nat) : Int) := by omega
            obtain ⟨kd, hkd⟩ : ∃ kd, xl[j]? = some kd := ⟨_, List.getElem?_eq_getElem hlj⟩
            have hkb := k2 kd (List.mem_of_getElem? hkd)
            obtain ⟨k, rfl⟩ : ∃ k : Nat, kd = k := ⟨kd.toNat, by omega⟩
            have hyk := hkg j k hkd
            have hyr := hkr _ (List.mem_of_getElem? hyk)
            have hf1 := hF1 j _ hyk
            obtain ⟨w1, w2, w3, w4⟩ := rowG_facts (n := l.length) (al := al) (by omega) (F j).2
            rw [hal] at w2 w3 w4
            have w5 := w3 k (by omega)
            generalize al.getD k enN = y at hyr hf1 w5
            generalize rowG l.length al (F j).2 = V at w1 w2 w4 w5 ⊢
            generalize F j = s at hf1 q1 q2 q3 w2 ⊢
            obtain ⟨Q1, x⟩ := s
            simp only at hf1 q1 q2 q3 w2 ⊢
            have hth := then9uc g g1 Q1 x y (by omega) (by rw [q1]; exact q2) (by rw [q1]; exact q3) (by rw [q1]; exact hyr)
            rw [← hf1] at hth
            have hql : (F (j + 1)).1.length = Q.length := (hFk (j + 1)).1
            have m1 : i < V.length := by omega
            have m2 : k < V.length := by omega
            have m3 : (k : Int) < l.length := by omega
            have m4 : (0 : Int) ≤ k := by omega
            simp only [gsto, q1, hql] at hth
            obtain ⟨s', hs'⟩ : ∃ s', s' = F (j + 1) := ⟨_, rfl⟩
            rw [← hs'] at hth hql
            obtain ⟨Q2, x'⟩ := s'
            obtain ⟨xn', xf', xl'⟩ := x'
            obtain ⟨cn, cf, cl⟩ := x
            obtain ⟨yn, yf, yl⟩ := y
            simp only [En.cells] at hth
            repeat' (first
  | refine gSq ?_ | refine gSk ?_ | refine gBl ?_ | refine gIb ?_ | refine gEx rfl ?_
  | ((first
  | (refine gRg [] [0, 1, 2, 6, 7, 9, 10, 11, 12, 13, 15, 17, 21, 22, 23, 24, 34, 45, 46, 47, 48, 53, 54, 55, 56, 72, 80, 100, 104, 132, 154, 163, 164, 165, 166] ?_; intro K hK)
  | (refine gDr 23 [] 17 [0, 1, 2, 3, 4, 5, 6, 7, 8, 9, 10, 11, 12, 13, 14, 15, 16, 17, 18, 19] [0, 1, 2, 6, 7, 9, 10, 11, 12, 13, 15, 17, 21, 22, 23, 24, 34, 45, 46, 47, 48, 53, 54, 55, 56, 72, 80, 100, 104, 132, 154, 163, 164, 165, 166] rfl ?_; intro K hK)
  | (refine gDr 34 [] 11 [0, 1, 2, 3, 4, 5, 6, 7, 8, 9, 10, 11, 12, 13] [0, 1, 2, 6, 7, 9, 10, 11, 12, 13, 15, 17, 21, 22, 23, 24, 34, 45, 46, 47, 48, 53, 54, 55, 56, 72, 80, 100, 104, 132, 154, 163, 164, 165, 166] rfl ?_; intro K hK)
  | (refine gDr 15 [] 10 [0, 1, 2, 3, 4, 5, 6, 7, 8, 9, 10, 11, 12] [0, 1, 2, 6, 7, 9, 10, 11, 12, 13, 15, 17, 21, 22, 23, 24, 34, 45, 46, 47, 48, 53, 54, 55, 56, 72, 80, 100, 104, 132, 154, 163, 164, 165, 166] rfl ?_; intro K hK)
  | (refine ACall.use [(1000, 1000), (1001, 1001)] [] rfl (hth) rfl rfl rfl ?_; (first | rintro _ _ ⟨rfl, rfl⟩ | rintro _ _ ⟨rfl, h1, rfl⟩); refine ⟨.inl rfl, rfl, ?_⟩; simp only [bk, bk2, bk1, bkS, bkO, idOf, delAll, go_sem, simprocAttr])
  | (refine gd_split ?_ ?_ <;> intro hb <;> (try simp only [bls] at hb) <;> (try simp only [hb]))
  | refine gRt [1000, 1001] [.cell 6 56] rfl ?_ | refine gDn [1000, 1001] [.cell 6 56] rfl ?_) <;> (try simp only [go_sem, simprocAttr, d4, d5, d6, e4, e5, m1, m2, m3, m4, hkd, w2, w5, AVal.isCell, Option.some.injEq, forall_eq']))
  | (refine hK _ _ ?_; clear hK K; simp only [go_sem, simprocAttr])
  | refine gCd (by simp only [go_sem, simprocAttr]; rfl) rfl ?_
  | refine brT ?_ | refine brF ?_
  | (refine brS ?_ ?_ <;> intro hc <;> (try simp only [bls] at hc) <;> (try simp only [hc, bls]))
  | intro _ | refine And.intro ?_ ?_)
            all_goals first | omega | (unfold bigLen; omega) | exact ⟨_, _, ⟨rfl, rfl⟩, rfl⟩ | exact ⟨_, rfl⟩ | (rename_i hy; simp only [List.mem_singleton] at hy; subst hy; rfl) | with_reducible rfl | skip
            rename_i z hz
            have hz2 : z = En.cells ⟨cn, cf, cl⟩ := by rw [List.getElem?_map, w2] at hz; exact (Option.some.inj hz).symm
            subst hz2
            refine AGood.filt [6, 20, 44, 1000, 1001] ?_
            simp only [sf_cons, sf_nil, go_sem, simprocAttr]
            refine AGood.prune [0, 1, 2, 6, 7, 10, 11, 45, 46, 47, 163, 164, 165] ?_; simp only [go_sem, simprocAttr]
            exact AGood.cast (ih2 (j + 1) (by omega) (by omega)) rfl (by simp only [← hs', ← w4, List.map_set])
          · have d4 : ¬ (j : Int) < xl.length := by omega
            have hjn : j = ks.length := by omega
            subst hjn
            clear ih2
            repeat' (first
  | refine gSq ?_ | refine gSk ?_ | refine gBl ?_ | refine gIb ?_ | refine gEx rfl ?_
  | ((first
  | (refine gRg [] [0, 1, 2, 6, 7, 9, 10, 11, 12, 13, 15, 17, 21, 22, 23, 24, 34, 45, 46, 47, 48, 53, 54, 55, 56, 72, 80, 100, 104, 132, 154, 163, 164, 165, 166] ?_; intro K hK)
  | (refine gDr 23 [] 17 [0, 1, 2, 3, 4, 5, 6, 7, 8, 9, 10, 11, 12, 13, 14, 15, 16, 17, 18, 19] [0, 1, 2, 6, 7, 9, 10, 11, 12, 13, 15, 17, 21, 22, 23, 24, 34, 45, 46, 47, 48, 53, 54, 55, 56, 72, 80, 100, 104, 132, 154, 163, 164, 165, 166] rfl ?_; intro K hK)
  | (refine gDr 34 [] 11 [0, 1, 2, 3, 4, 5, 6, 7, 8, 9, 10, 11, 12, 13] [0, 1, 2, 6, 7, 9, 10, 11, 12, 13, 15, 17, 21, 22, 23, 24, 34, 45, 46, 47, 48, 53, 54, 55, 56, 72, 80, 100, 104, 132, 154, 163, 164, 165, 166] rfl ?_; intro K hK)
  | (refine gDr 15 [] 10 [0, 1, 2, 3, 4, 5, 6, 7, 8, 9, 10, 11, 12] [0, 1, 2, 6, 7, 9, 10, 11, 12, 13, 15, 17, 21, 22, 23, 24, 34, 45, 46, 47, 48, 53, 54, 55, 56, 72, 80, 100, 104, 132, 154, 163, 164, 165, 166] rfl ?_; intro K hK)
  | (refine gd_split ?_ ?_ <;> intro hb <;> (try simp only [bls] at hb) <;> (try simp only [hb]))
  | refine gRt [1000, 1001] [.cell 6 56] rfl ?_ | refine gDn [1000, 1001] [.cell 6 56] rfl ?_) <;> (try simp only [go_sem, simprocAttr, d4, e6]))
  | (refine hK _ _ ?_; clear hK K; simp only [go_sem, simprocAttr])
  | refine gCd (by simp only [go_sem, simprocAttr]; rfl) rfl ?_
  | refine brT ?_ | refine brF ?_
  | (refine brS ?_ ?_ <;> intro hc <;> (try simp only [bls] at hc) <;> (try simp only [hc, bls]))
  | intro _ | refine And.intro ?_ ?_)
            all_goals first | omega | (unfold bigLen; omega) | exact ⟨_, _, ⟨rfl, rfl⟩, rfl⟩ | exact ⟨_, rfl⟩ | (rename_i hy; simp only [List.mem_singleton] at hy; subst hy; rfl) | with_reducible rfl | skip
            refine AGood.filt [6, 20, 44, 1000, 1001] ?_
            simp only [sf_cons, sf_nil, go_sem, simprocAttr]
            refine AGood.prune [0, 1, 2, 6, 7, 10, 45, 46, 47] ?_; simp only [go_sem, simprocAttr]
            exact AGood.cast (ih (i + 1, g1) (by simp only; omega) (by simp only; omega)) rfl (by simp only [hst, ← rn, q1])
        · rw [if_neg c3] at hst
          obtain ⟨F, hF⟩ : ∃ F : Nat → En, F = fun j => (ks.take j).foldl orE enN := ⟨_, rfl⟩
          have hF0 : F 0 = enN := by rw [hF]; rfl
          have hF1 : ∀ (j : Nat) (y : En), ks[j]? = some y → F (j + 1) = orE (F j) y := fun j y h => by rw [hF]; simp only [take_one h, List.foldl_append]; rfl
          have hFk : ∀ j, Re Q.length (F j) := fun j => by rw [hF]; exact altG_ok (ks.take j) (re_nil _ _) fun y hy => hkr y (List.mem_of_mem_take hy)
          have hFE : altG ks = F ks.length := by rw [hF, altG]; simp only [List.take_length]
          rw [hFE] at hst
          clear hF hFE
          obtain ⟨xo, ⟨xa, xb, xc, xd⟩, xl, xlo, xhi, xn⟩ := n
          simp only at c1 c2 c5 c3 k1 k2 hkl hkg hst
          clear k3
          repeat' (first
  | refine gSq ?_ | refine gSk ?_ | refine gBl ?_ | refine gIb ?_ | refine gEx rfl ?_
  | ((first
  | (refine gRg [] [0, 1, 2, 6, 7, 9, 10, 11, 12, 13, 15, 17, 21, 22, 23, 24, 34, 45, 46, 47, 48, 53, 54, 55, 56, 72, 80, 100, 104, 132, 154, 163, 164, 165, 166] ?_; intro K hK)
  | (refine gDr 23 [] 17 [0, 1, 2, 3, 4, 5, 6, 7, 8, 9, 10, 11, 12, 13, 14, 15, 16, 17, 18, 19] [0, 1, 2, 6, 7, 9, 10, 11, 12, 13, 15, 17, 21, 22, 23, 24, 34, 45, 46, 47, 48, 53, 54, 55, 56, 72, 80, 100, 104, 132, 154, 163, 164, 165, 166] rfl ?_; intro K hK)
  | (refine gDr 34 [] 11 [0, 1, 2, 3, 4, 5, 6, 7, 8, 9, 10, 11, 12, 13] [0, 1, 2, 6, 7, 9, 10, 11, 12, 13, 15, 17, 21, 22, 23, 24, 34, 45, 46, 47, 48, 53, 54, 55, 56, 72, 80, 100, 104, 132, 154, 163, 164, 165, 166] rfl ?_; intro K hK)
  | (refine gDr 15 [] 10 [0, 1, 2, 3, 4, 5, 6, 7, 8, 9, 10, 11, 12] [0, 1, 2, 6, 7, 9, 10, 11, 12, 13, 15, 17, 21, 22, 23, 24, 34, 45, 46, 47, 48, 53, 54, 55, 56, 72, 80, 100, 104, 132, 154, 163, 164, 165, 166] rfl ?_; intro K hK)
  | (refine gd_split ?_ ?_ <;> intro hb <;> (try simp only [bls] at hb) <;> (try simp only [hb]))
  | refine gRt [1000, 1001] [.cell 6 56] rfl ?_ | refine gDn [1000, 1001] [.cell 6 56] rfl ?_) <;> (try simp only [go_sem, simprocAttr, e4, e5, e6, f1, hx, r2, c1, c2, c5, c3, AVal.isCell, Option.some.injEq, forall_eq']))
  | (refine hK _ _ ?_; clear hK K; simp only [go_sem, simprocAttr])
  | refine gCd (by simp only [go_sem, simprocAttr]; rfl) rfl ?_
  | refine brT ?_ | refine brF ?_
  | (refine brS ?_ ?_ <;> intro hc <;> (try simp only [bls] at hc) <;> (try simp only [hc, bls]))
  | intro _ | refine And.intro ?_ ?_)
          all_goals first | omega | (unfold bigLen; omega) | exact ⟨_, _, ⟨rfl, rfl⟩, rfl⟩ | exact ⟨_, rfl⟩ | (rename_i hy; simp only [List.mem_singleton] at hy; subst hy; rfl) | with_reducible rfl | skip
          refine AGood.filt [6, 20, 44, 1000, 1001] ?_
          simp only [sf_cons, sf_nil, go_sem, simprocAttr]
          refine AGood.prune [0, 1, 2, 6, 7, 10, 11, 45, 46, 47, 53, 54, 55] ?_; simp only [go_sem, simprocAttr]
          refine AGood.loopInv (α := Nat) (fun j => ([(0, .bx 1000 g 0), (1, .sl true f (nodes l)), (2, .int .i64 rule), (6, .bx 6 h6 0), (7, .osl 20 h20 0 l.length), (10, .osl 44 h44 0 l.length), (11, .int .i64 i), (45, .sl true f (nodes l)), (46, .int .i64 l.length), (47, .int .i64 i), (53, .sl true false (ints xl)), (54, .int .i64 xl.length), (55, .int .i64 j)], [(6, h6, .box enN.cells0), (20, h20, .row 1 (blsG I)), (44, h44, .row 3 (ens (rowG l.length al (F j)))), (1000, g, .box [.osl 1001 g1 0 Q.length]), (1001, g1, .row 9 (poss Q))])) (fun j => j ≤ xl.length) (fun j => xl.length - j) 0 (Nat.zero_le _) (by simp only [hF0]; rfl) ?_
          rintro j hj ih2
          simp only at hj ih2 ⊢
          have q3 := hFk j
          by_cases hlj : j < xl.length
          · have d4 : (j : Int) < xl.length := by omega
            have d5 : (0 : Int) ≤ j := by omega
            have d6 : (j : Int) + 1 = ((j + 1 : Nat) : Int) := by omega
            obtain ⟨kd, hkd⟩ : ∃ kd, xl[j]? = some kd := ⟨_, List.getElem?_eq_getElem hlj⟩
            have hkb := k2 kd (List.mem_of_getElem? hkd)
            obtain ⟨k, rfl⟩ : ∃ k : Nat, kd = k := ⟨kd.toNat, by omega⟩
            have hyk := hkg j k hkd
            have hyr := hkr _ (List.mem_of_getElem? hyk)
            have hf1 := hF1 j _ hyk
            obtain ⟨w1, w2, w3, w4⟩ := rowG_facts (n := l.length) (al := al) (by omega) (F j)
            rw [hal] at w2 w3 w4
            have w5 := w3 k (by omega)
            generalize al.getD k enN = y at hyr hf1 w5
            generalize rowG l.length al (F j) = V at w1 w2 w4 w5 ⊢
            generalize F j = x at hf1 q3 w2 ⊢
            have hth := or9uc Q.length x y q3 hyr (by omega)
            rw [← hf1] at hth
            have m1 : i < V.length := by omega
            have m2 : k < V.length := by omega
            have m3 : (k : Int) < l.length := by omega
            have m4 : (0 : Int) ≤ k := by omega
            obtain ⟨x', hs'⟩ : ∃ s', s' = F (j + 1) := ⟨_, rfl⟩
            rw [← hs'] at hth
            obtain ⟨xn', xf', xl'⟩ := x'
            obtain ⟨cn, cf, cl⟩ := x
            obtain ⟨yn, yf, yl⟩ := y
            simp only [En.cells] at hth
            repeat' (first
  | refine gSq ?_ | refine gSk ?_ | refine gBl ?_ | refine gIb ?_ | refine gEx rfl ?_
  | ((first
  | (refine gRg [] [0, 1, 2, 6, 7, 9, 10, 11, 12, 13, 15, 17, 21, 22, 23, 24, 34, 45, 46, 47, 48, 53, 54, 55, 56, 72, 80, 100, 104, 132, 154, 163, 164, 165, 166] ?_; intro K hK)
  | (refine gDr 23 [] 17 [0, 1, 2, 3, 4, 5, 6, 7, 8, 9, 10, 11, 12, 13, 14, 15, 16, 17, 18, 19] [0, 1, 2, 6, 7, 9, 10, 11, 12, 13, 15, 17, 21, 22, 23, 24, 34, 45, 46, 47, 48, 53, 54, 55, 56, 72, 80, 100, 104, 132, 154, 163, 164, 165, 166] rfl ?_; intro K hK)
  | (refine gDr 34 [] 11 [0, 1, 2, 3, 4, 5, 6, 7, 8, 9, 10, 11, 12, 13] [0, 1, 2, 6, 7, 9, 10, 11, 12, 13, 15, 17, 21, 22, 23, 24, 34, 45, 46, 47, 48, 53, 54, 55, 56, 72, 80, 100, 104, 132, 154, 163, 164, 165, 166] rfl ?_; intro K hK)
  | (refine gDr 15 [] 12 [0, 1, 2, 3, 4, 5, 6, 7, 8, 9, 10, 11, 12] [0, 1, 2, 6, 7, 9, 10, 11, 12, 13, 15, 17, 21, 22, 23, 24, 34, 45, 46, 47, 48, 53, 54, 55, 56, 72, 80, 100, 104, 132, 154, 163, 164, 165, 166] rfl ?_; intro K hK)
  | refine ⟨_, ACall.alone (hth) rfl rfl rfl, ?_⟩
  | (refine gd_split ?_ ?_ <;> intro hb <;> (try simp only [bls] at hb) <;> (try simp only [hb]))
  | refine gRt [1000, 1001] [.cell 6 56] rfl ?_ | refine gDn [1000, 1001] [.cell 6 56] rfl ?_) <;> (try simp only [go_sem, simprocAttr, d4, d5, d6, e4, e5, m1, m2, m3, m4, hkd, w2, w5, AVal.isCell, Option.some.injEq, forall_eq']))
  | (refine hK _ _ ?_; clear hK K; simp only [go_sem, simprocAttr])
  | refine gCd (by simp only [go_sem, simprocAttr]; rfl) rfl ?_
  | refine brT ?_ | refine brF ?_
  | (refine brS ?_ ?_ <;> intro hc <;> (try simp only [bls] at hc) <;> (try simp only [hc, bls]))
  | intro _ | refine And.intro ?_ ?_)
            all_goals first | omega | (unfold bigLen; omega) | exact ⟨_, _, ⟨rfl, rfl⟩, rfl⟩ | exact ⟨_, rfl⟩ | (rename_i hy; simp only [List.mem_singleton] at hy; subst hy; rfl) | with_reducible rfl | skip
            rename_i z hz
            have hz2 : z = En.cells ⟨cn, cf, cl⟩ := by rw [List.getElem?_map, w2] at hz; exact (Option.some.inj hz).symm
            subst hz2
            refine AGood.filt [6, 20, 44, 1000, 1001] ?_
            simp only [sf_cons, sf_nil, go_sem, simprocAttr]
            refine AGood.prune [0, 1, 2, 6, 7, 10, 11, 45, 46, 47, 53, 54, 55] ?_; simp only [go_sem, simprocAttr]
            exact AGood.cast (ih2 (j + 1) (by omega) (by omega)) rfl (by simp only [← hs', ← w4, List.map_set])
          · have d4 : ¬ (j : Int) < xl.length := by omega
            have hjn : j = ks.length := by omega
            subst hjn
            clear ih2
            repeat' (first
  | refine gSq ?_ | refine gSk ?_ | refine gBl ?_ | refine gIb ?_ | refine gEx rfl ?_
  | ((first
  | (refine gRg [] [0, 1, 2, 6, 7, 9, 10, 11, 12, 13, 15, 17, 21, 22, 23, 24, 34, 45, 46, 47, 48, 53, 54, 55, 56, 72, 80, 100, 104, 132, 154, 163, 164, 165, 166] ?_; intro K hK)
  | (refine gDr 23 [] 17 [0, 1, 2, 3, 4, 5, 6, 7, 8, 9, 10, 11, 12, 13, 14, 15, 16, 17, 18, 19] [0, 1, 2, 6, 7, 9, 10, 11, 12, 13, 15, 17, 21, 22, 23, 24, 34, 45, 46, 47, 48, 53, 54, 55, 56, 72, 80, 100, 104, 132, 154, 163, 164, 165, 166] rfl ?_; intro K hK)
  | (refine gDr 34 [] 11 [0, 1, 2, 3, 4, 5, 6, 7, 8, 9, 10, 11, 12, 13] [0, 1, 2, 6, 7, 9, 10, 11, 12, 13, 15, 17, 21, 22, 23, 24, 34, 45, 46, 47, 48, 53, 54, 55, 56, 72, 80, 100, 104, 132, 154, 163, 164, 165, 166] rfl ?_; intro K hK)
  | (refine gDr 15 [] 10 [0, 1, 2, 3, 4, 5, 6, 7, 8, 9, 10, 11, 12] [0, 1, 2, 6, 7, 9, 10, 11, 12, 13, 15, 17, 21, 22, 23, 24, 34, 45, 46, 47, 48, 53, 54, 55, 56, 72, 80, 100, 104, 132, 154, 163, 164, 165, 166] rfl ?_; intro K hK)
  | (refine gd_split ?_ ?_ <;> intro hb <;> (try simp only [bls] at hb) <;> (try simp only [hb]))
  | refine gRt [1000, 1001] [.cell 6 56] rfl ?_ | refine gDn [1000, 1001] [.cell 6 56] rfl ?_) <;> (try simp only [go_sem, simprocAttr, d4, e6]))
  | (refine hK _ _ ?_; clear hK K; simp only [go_sem, simprocAttr])
  | refine gCd (by simp only [go_sem, simprocAttr]; rfl) rfl ?_
  | refine brT ?_ | refine brF ?_
  | (refine brS ?_ ?_ <;> intro hc <;> (try simp only [bls] at hc) <;> (try simp only [hc, bls]))
  | intro _ | refine And.intro ?_ ?_)
            all_goals first | omega | (unfold bigLen; omega) | exact ⟨_, _, ⟨rfl, rfl⟩, rfl⟩ | exact ⟨_, rfl⟩ | (rename_i hy; simp only [List.mem_singleton] at hy; subst hy; rfl) | with_reducible rfl | skip
            refine AGood.filt [6, 20, 44, 1000, 1001] ?_
            simp only [sf_cons, sf_nil, go_sem, simprocAttr]
            refine AGood.prune [0, 1, 2, 6, 7, 10, 45, 46, 47] ?_; simp only [go_sem, simprocAttr]
            exact AGood.cast (ih (i + 1, g1) (by simp only; omega) (by simp only; omega)) rfl (by simp only [hst, ← rn])
    · have e4 : ¬ (i : Int) < l.length := by omega
      have hin : i = l.length := by omega
      subst hin
      clear ih
      generalize S l.length = s at hok hal hpl ⊢
      obtain ⟨Q, al⟩ := s
      simp only at hok hal hpl ⊢
      rw [Nat.sub_self, List.replicate_zero, List.append_nil]
      obtain ⟨m, hm⟩ : ∃ m, l.length = m + 1 := ⟨l.length - 1, by omega⟩
      obtain ⟨e, hlast⟩ : ∃ e, al[m]? = some e := ⟨_, List.getElem?_eq_getElem (show m < al.length by omega)⟩
      have hld : al.getLastD enN = e := by
        rw [List.getLastD_eq_getLast?, List.getLast?_eq_getElem?, show al.length - 1 = m by omega, hlast]; rfl
      rw [hld]
      have d1 : (l.length : Int) - 1 = (m : Int) := by omega
      have d2 : (m : Int) < l.length := by omega
      have d3 : m < al.length := by omega
      have d4 : (0 : Int) ≤ m := by omega
      obtain ⟨en, ef, el⟩ := e
      clear hld hok hkids hS1 hSf hS0
      repeat' (first
  | refine gSq ?_ | refine gSk ?_ | refine gBl ?_ | refine gIb ?_ | refine gEx rfl ?_
  | ((first
  | (refine gRg [] [0, 1, 2, 6, 7, 9, 10, 11, 12, 13, 15, 17, 21, 22, 23, 24, 34, 45, 46, 47, 48, 53, 54, 55, 56, 72, 80, 100, 104, 132, 154, 163, 164, 165, 166] ?_; intro K hK)
  | (refine gDr 23 [] 17 [0, 1, 2, 3, 4, 5, 6, 7, 8, 9, 10, 11, 12, 13, 14, 15, 16, 17, 18, 19] [0, 1, 2, 6, 7, 9, 10, 11, 12, 13, 15, 17, 21, 22, 23, 24, 34, 45, 46, 47, 48, 53, 54, 55, 56, 72, 80, 100, 104, 132, 154, 163, 164, 165, 166] rfl ?_; intro K hK)
  | (refine gDr 34 [] 11 [0, 1, 2, 3, 4, 5, 6, 7, 8, 9, 10, 11, 12, 13] [0, 1, 2, 6, 7, 9, 10, 11, 12, 13, 15, 17, 21, 22, 23, 24, 34, 45, 46, 47, 48, 53, 54, 55, 56, 72, 80, 100, 104, 132, 154, 163, 164, 165, 166] rfl ?_; intro K hK)
  | (refine gDr 15 [] 10 [0, 1, 2, 3, 4, 5, 6, 7, 8, 9, 10, 11, 12] [0, 1, 2, 6, 7, 9, 10, 11, 12, 13, 15, 17, 21, 22, 23, 24, 34, 45, 46, 47, 48, 53, 54, 55, 56, 72, 80, 100, 104, 132, 154, 163, 164, 165, 166] rfl ?_; intro K hK)
  | (refine gd_split ?_ ?_ <;> intro hb <;> (try simp only [bls] at hb) <;> (try simp only [hb]))
  | refine gRt [1000, 1001] [.cell 6 56] rfl ?_ | refine gDn [1000, 1001] [.cell 6 56] rfl ?_) <;> (try simp only [go_sem, simprocAttr, e4, d1, d2, d3, d4, hlast, AVal.isCell, Option.some.injEq, forall_eq']))
  | (refine hK _ _ ?_; clear hK K; simp only [go_sem, simprocAttr])
  | refine gCd (by simp only [go_sem, simprocAttr]; rfl) rfl ?_
  | refine brT ?_ | refine brF ?_
  | (refine brS ?_ ?_ <;> intro hc <;> (try simp only [bls] at hc) <;> (try simp only [hc, bls]))
  | intro _ | refine And.intro ?_ ?_)
      all_goals first | omega | (unfold bigLen; omega) | exact ⟨_, _, ⟨rfl, rfl⟩, rfl⟩ | exact ⟨_, rfl⟩ | (rename_i hy; simp only [List.mem_singleton] at hy; subst hy; rfl) | with_reducible rfl | skip
      all_goals trace_state
end Go.Rad
/- Contracts: syntax, byte by byte: names, trees that are alike. -/
namespace Go.Rad
open Go Go.Proofs
set_option linter.all false
set_option maxRecDepth 20000
set_option maxHeartbeats 4000000

theorem letter4uc (c : Nat) : ACall Try.prog 76 [.int .u8 c] [] fun r s => r = .bool (letterN c) ∧ s = [] := by
  refine ACall.enter Try.func76 rfl (by kernel_rfl) (Nat.le_of_ble_eq_true rfl) ?_; simp only [initTm, Nat.reduceAdd]
  repeat' (first
  | refine gSq ?_ | refine gSk ?_ | refine gBl ?_ | refine gIb ?_ | refine gEx rfl ?_
  | ((first
  | (refine gRg [] [0, 2] ?_; intro K hK)
  | (refine gd_split ?_ ?_ <;> intro hb <;> (try simp only [bls] at hb) <;> (try simp only [hb]))
  | refine gRt [] [.tmp 2] rfl ?_ | refine gDn [] [.tmp 2] rfl ?_) <;> (try simp only [go_sem, simprocAttr]))
  | (refine hK _ _ ?_; clear hK K; simp only [go_sem, simprocAttr])
  | refine gCd (by simp only [go_sem, simprocAttr]; rfl) rfl ?_
  | refine brT ?_ | refine brF ?_
  | (refine brS ?_ ?_ <;> intro hc <;> (try simp only [bls] at hc) <;> (try simp only [hc, bls]))
  | intro _ | refine And.intro ?_ ?_)
  all_goals (refine congrArg AVal.bool ?_; rw [Bool.eq_iff_iff]; simp [letterN] <;> omega)
theorem digit4uc (c : Nat) : ACall Try.prog 77 [.int .u8 c] [] fun r s => r = .bool (digitN c) ∧ s = [] := by
  refine ACall.enter Try.func77 rfl (by kernel_rfl) (Nat.le_of_ble_eq_true rfl) ?_; simp only [initTm, Nat.reduceAdd]
  repeat' (first
  | refine gSq ?_ | refine gSk ?_ | refine gBl ?_ | refine gIb ?_ | refine gEx rfl ?_
  | ((first
  | (refine gRg [] [0, 2] ?_; intro K hK)
  | (refine gd_split ?_ ?_ <;> intro hb <;> (try simp only [bls] at hb) <;> (try simp only [hb]))
  | refine gRt [] [.tmp 2] rfl ?_ | refine gDn [] [.tmp 2] rfl ?_) <;> (try simp only [go_sem, simprocAttr]))
  | (refine hK _ _ ?_; clear hK K; simp only [go_sem, simprocAttr])
  | refine gCd (by simp only [go_sem, simprocAttr]; rfl) rfl ?_
  | refine brT ?_ | refine brF ?_
  | (refine brS ?_ ?_ <;> intro hc <;> (try simp only [bls] at hc) <;> (try simp only [hc, bls]))
  | intro _ | refine And.intro ?_ ?_)
  all_goals (refine congrArg AVal.bool ?_; rw [Bool.eq_iff_iff]; simp [digitN] <;> omega)

theorem name4uc (s : ByteArray) (hs : s.size ≤ maxLen) : ACall Try.prog 57 [.str s] [] fun r s' => r = .bool (nameOk s) ∧ s' = [] := by
  unfold maxLen at hs
  refine ACall.enter Try.func57 rfl (by kernel_rfl) (Nat.le_of_ble_eq_true rfl) ?_; simp only [initTm, Nat.reduceAdd]
  repeat' (first
  | refine gSq ?_ | refine gSk ?_ | refine gBl ?_ | refine gIb ?_ | refine gEx rfl ?_
  | ((first
  | (refine gRg [] [0, 2, 3, 7, 25] ?_; intro K hK)
  | (refine gd_split ?_ ?_ <;> intro hb <;> (try simp only [bls] at hb) <;> (try simp only [hb]))
  | refine gRt [] [.tmp 2] rfl ?_ | refine gDn [] [.tmp 2] rfl ?_) <;> (try simp only [go_sem, simprocAttr]))
  | (refine hK _ _ ?_; clear hK K; simp only [go_sem, simprocAttr])
  | refine gCd (by simp only [go_sem, simprocAttr]; rfl) rfl ?_
  | refine brT ?_ | refine brF ?_
  | (refine brS ?_ ?_ <;> intro hc <;> (try simp only [bls] at hc) <;> (try simp only [hc, bls]))
  | intro _ | refine And.intro ?_ ?_)
  refine AGood.prune [0, 2, 3] ?_; simp only [go_sem, simprocAttr]
  refine AGood.loopInv (α := Nat) (fun i => ([(0, .str s), (2, .bool false), (3, .int .i64 i)], [])) (fun i => i ≤ s.size ∧ (List.range i).all (nmB s) = true) (fun i => s.size - i) 0 ⟨Nat.zero_le _, rfl⟩ rfl ?_
  rintro i ⟨hi, hall⟩ ih
  simp only
  by_cases hle : i < s.size
  · have e4 : (i : Int) < s.size := by omega
    have e6 : (0 : Int) ≤ i := by omega
    repeat' (first
  | refine gSq ?_ | refine gSk ?_ | refine gBl ?_ | refine gIb ?_ | refine gEx rfl ?_
  | ((first
  | (refine gRg [] [0, 2, 3, 7, 25] ?_; intro K hK)
  | refine cAl (letter4uc _) rfl rfl rfl ?_
  | refine cAl (digit4uc _) rfl rfl rfl ?_
  | (refine gd_split ?_ ?_ <;> intro hb <;> (try simp only [bls] at hb) <;> (try simp only [hb]))
  | refine gRt [] [.tmp 2] rfl ?_ | refine gDn [] [.tmp 2] rfl ?_) <;> (try simp only [go_sem, simprocAttr, e4, e6, sbyte_bt]))
  | (refine hK _ _ ?_; clear hK K; simp only [go_sem, simprocAttr])
  | refine gCd (by simp only [go_sem, simprocAttr]; rfl) rfl ?_
  | refine brT ?_ | refine brF ?_
  | (refine brS ?_ ?_ <;> intro hc <;> (try simp only [bls] at hc) <;> (try simp only [hc, bls]))
  | intro _ | refine And.intro ?_ ?_)
    all_goals first
      | omega
      | exact congrArg AVal.bool (name_no hle (by simp [nmB, *]; try omega))
      | (refine AGood.prune [0, 2, 3] ?_; simp only [go_sem, simprocAttr]
         exact (ih (i + 1) ⟨by omega, all_succ hall (by simp [nmB, *]; try omega)⟩ (by omega)).cast rfl rfl)
  · have e4 : ¬ (i : Int) < s.size := by omega
    have e5 : i = s.size := by omega
    subst e5
    repeat' (first
  | refine gSq ?_ | refine gSk ?_ | refine gBl ?_ | refine gIb ?_ | refine gEx rfl ?_
  | ((first
  | (refine gRg [] [0, 2, 3, 7, 25] ?_; intro K hK)
  | (refine gd_split ?_ ?_ <;> intro hb <;> (try simp only [bls] at hb) <;> (try simp only [hb]))
  | refine gRt [] [.tmp 2] rfl ?_ | refine gDn [] [.tmp 2] rfl ?_) <;> (try simp only [go_sem, simprocAttr, e4]))
  | (refine hK _ _ ?_; clear hK K; simp only [go_sem, simprocAttr])
  | refine gCd (by simp only [go_sem, simprocAttr]; rfl) rfl ?_
  | refine brT ?_ | refine brF ?_
  | (refine brS ?_ ?_ <;> intro hc <;> (try simp only [bls] at hc) <;> (try simp only [hc, bls]))
  | intro _ | refine And.intro ?_ ?_)
    all_goals (refine congrArg AVal.bool ?_; rw [Bool.eq_iff_iff]; simp [nameOk, hall] <;> omega)

end Go.Rad
