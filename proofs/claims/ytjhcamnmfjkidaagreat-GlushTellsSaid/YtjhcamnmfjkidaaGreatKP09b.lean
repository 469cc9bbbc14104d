/- Contracts: glush: a place is put; places follow others. -/
import Derived.Test.YtjhcamnmfjkidaaGreatKP09a
import Derived.Test.YtjhcamnmfjkidaaGreatKRNode
set_option linter.all false
namespace Go.Rad
open Go Go.Proofs
set_option linter.all false
set_option maxRecDepth 20000
set_option maxHeartbeats 4000000

abbrev Po.cellsF (f : Bool) (p : Po) : List AVal := [.int .u64 p.s.a, .int .u64 p.s.b, .int .u64 p.s.c, .int .u64 p.s.d, .int .i64 p.lo, .int .i64 p.hi, .int .i64 p.rule, .bool p.last, .sl true f (ints p.next)]
abbrev Po.cells (p : Po) : List AVal := p.cellsF false
abbrev poss (l : List Po) : List (List AVal) := l.map Po.cells
abbrev En.cells (e : En) : List AVal := [.bool e.null, .sl true false (ints e.first), .sl true false (ints e.last)]
abbrev ens (l : List En) : List (List AVal) := l.map En.cells
abbrev gsto (g g1 : Nat) (ps : List Po) : Sto := [(1000, (g, .box [.osl 1001 g1 0 ps.length])), (1001, (g1, .row 9 (poss ps)))]
theorem mergeG_c (q f q' f' : Bool) (a b : List Int) (h : a.length + b.length ≤ 100000000) : ACall Tryz.prog 16 [.sl q f (ints a), .sl q' f' (ints b)] [] fun r s => r = .sl true false (ints (uni a b)) ∧ s = [] := by
  have := merge_c growRuns q f q' f' a b h
  rwa [uni_lib] at this
theorem put9uc (g g1 : Nat) (ps : List Po) (p : Po) (f : Bool) (hp : ps.length ≤ 100000000) :
    ACall Tryz.prog 32 [.bx 1000 g 0, .agg (p.cellsF f)] (gsto g g1 ps) fun r s => r = .agg (putG p ps).2.cells ∧ ∃ h1, s = gsto g h1 (putG p ps).1 := by
  obtain ⟨⟨sa, sb, sc, sd⟩, lo, hi, rule, last, next⟩ := p
  simp only [putG, gsto, Po.cellsF, En.cells]
  refine ACall.enter Tryz.func32 rfl (by kernel_rfl) (Nat.le_of_ble_eq_true rfl) ?_; simp only [initTm, Nat.reduceAdd]
  repeat' (first
  | refine gSq ?_ | refine gSk ?_ | refine gBl ?_ | refine gIb ?_ | refine gEx rfl ?_
  | ((first
  | (refine gRg [11, 18] [0, 1, 3, 4, 5] ?_; intro K hK)
  | (refine gDr 2 [11, 18] 7 [0, 1, 2, 3, 4, 5, 6, 7, 8, 9, 10] [0, 1, 3, 4, 5] rfl ?_; intro K hK)
  | (refine gd_split ?_ ?_ <;> intro hb <;> (try simp only [bls] at hb) <;> (try simp only [hb]))
  | refine gRt [1000, 1001] [.cell 4 49] rfl ?_ | refine gDn [1000, 1001] [.cell 4 49] rfl ?_) <;> (try simp only [go_sem, simprocAttr]))
  | (refine hK _ _ ?_; clear hK K; simp only [go_sem, simprocAttr])
  | refine gCd (by simp only [go_sem, simprocAttr]; rfl) rfl ?_
  | refine brT ?_ | refine brF ?_
  | (refine brS ?_ ?_ <;> intro hc <;> (try simp only [bls] at hc) <;> (try simp only [hc, bls]))
  | intro _ | refine And.intro ?_ ?_)
  all_goals first | omega | (unfold bigLen; omega) | exact ⟨_, _, ⟨rfl, rfl⟩, rfl⟩ | exact ⟨_, rfl⟩ | (rename_i hy; simp only [List.mem_singleton] at hy; subst hy; rfl) | with_reducible rfl | skip
  rename_i h
  exact ⟨h, by simp⟩
theorem link9uc (g g1 : Nat) (q f q' f' : Bool) (fr to : List Int) (ps : List Po) (hp : ps.length ≤ 1000000) (hn : Rn ps.length ps) (hfr : ∀ x ∈ fr, 0 ≤ x ∧ x < (ps.length : Int)) (hto : Rs ps.length to) (hfl : fr.length ≤ 100000000) :
    ACall Tryz.prog 33 [.bx 1000 g 0, .sl q f (ints fr), .sl q' f' (ints to)] (gsto g g1 ps) fun r s => r = .tup [] ∧ s = gsto g g1 (lnk fr to ps) := by
  obtain ⟨N, hN⟩ : ∃ N, N = ps.length := ⟨_, rfl⟩
  rw [← hN] at hn hfr hto hp
  have htl := rs_len hto
  simp only [gsto, lnk_len, ← hN]
  refine ACall.enter Tryz.func33 rfl (by kernel_rfl) (Nat.le_of_ble_eq_true rfl) ?_; simp only [initTm, Nat.reduceAdd]
  repeat' (first
  | refine gSq ?_ | refine gSk ?_ | refine gBl ?_ | refine gIb ?_ | refine gEx rfl ?_
  | ((first
  | (refine gRg [] [0, 1, 2, 7, 8, 9, 10, 11] ?_; intro K hK)
  | (refine gDr 3 [] 14 [0, 1, 2, 3, 4, 5, 6, 7, 8, 9, 10, 11, 12, 13, 14, 15, 16, 17] [0, 1, 2, 7, 8, 9, 10, 11] rfl ?_; intro K hK)
  | (refine gd_split ?_ ?_ <;> intro hb <;> (try simp only [bls] at hb) <;> (try simp only [hb]))
  | refine gRt [1000, 1001] [] rfl ?_ | refine gDn [1000, 1001] [] rfl ?_) <;> (try simp only [go_sem, simprocAttr]))
  | (refine hK _ _ ?_; clear hK K; simp only [go_sem, simprocAttr])
  | refine gCd (by simp only [go_sem, simprocAttr]; rfl) rfl ?_
  | refine brT ?_ | refine brF ?_
  | (refine brS ?_ ?_ <;> intro hc <;> (try simp only [bls] at hc) <;> (try simp only [hc, bls]))
  | intro _ | refine And.intro ?_ ?_)
  all_goals first | omega | (unfold bigLen; omega) | exact ⟨_, _, ⟨rfl, rfl⟩, rfl⟩ | exact ⟨_, rfl⟩ | (rename_i hy; simp only [List.mem_singleton] at hy; subst hy; rfl) | with_reducible rfl | skip
  refine AGood.prune [0, 2, 8, 9, 10] ?_; simp only [go_sem, simprocAttr]
  refine AGood.loopInv (α := Nat) (fun j => ([(0, .bx 1000 g 0), (2, .sl q' f' (ints to)), (8, .sl q f (ints fr)), (9, .int .i64 fr.length), (10, .int .i64 j)], [(1000, (g, .box [.osl 1001 g1 0 N])), (1001, (g1, .row 9 (poss (lnk (fr.take j) to ps))))])) (fun j => j ≤ fr.length) (fun j => fr.length - j) 0 (Nat.zero_le _) rfl ?_
  rintro j hj ih
  simp only at hj ih ⊢
  by_cases hle : j < fr.length
  · have e4 : (j : Int) < fr.length := by omega
    have e5 : (0 : Int) ≤ j := by omega
    have e6 : (j : Int) + 1 = ((j + 1 : Nat) : Int) := by omega
    obtain ⟨x, hx⟩ : ∃ x, fr[j]? = some x := ⟨_, List.getElem?_eq_getElem hle⟩
    have hxb := hfr x (List.mem_of_getElem? hx)
    obtain ⟨k, rfl⟩ : ∃ k : Nat, x = k := ⟨x.toNat, by omega⟩
    have hst : lnk (fr.take (j + 1)) to ps = lnk1 to (lnk (fr.take j) to ps) k := by rw [take_one hx]; simp [lnk]
    have hql := lnk_len to (fr.take j) ps
    have hqn := rn_lnk hto (fr.take j) hn
    generalize lnk (fr.take j) to ps = Q at hst hql hqn
    have k1 : k < Q.length := by omega
    have k2 : (k : Int) < (N : Int) := by omega
    have k3 : (0 : Int) ≤ k := by omega
    obtain ⟨p, hpk⟩ : ∃ p, Q[k]? = some p := ⟨_, List.getElem?_eq_getElem k1⟩
    have hpn := rs_len (hqn p (List.mem_of_getElem? hpk))
    rw [lnk1, Int.toNat_natCast, modify_get _ hpk] at hst
    have hm := mergeG_c true false q' f' p.next to (by omega)
    obtain ⟨⟨sa, sb, sc, sd⟩, lo, hi, rule, last, next⟩ := p
    simp only at hst hm hpn
    repeat' (first
  | refine gSq ?_ | refine gSk ?_ | refine gBl ?_ | refine gIb ?_ | refine gEx rfl ?_
  | ((first
  | (refine gRg [] [0, 1, 2, 7, 8, 9, 10, 11] ?_; intro K hK)
  | (refine gDr 3 [] 17 [0, 1, 2, 3, 4, 5, 6, 7, 8, 9, 10, 11, 12, 13, 14, 15, 16, 17] [0, 1, 2, 7, 8, 9, 10, 11] rfl ?_; intro K hK)
  | refine ⟨_, ACall.alone (hm) rfl rfl rfl, ?_⟩
  | (refine gd_split ?_ ?_ <;> intro hb <;> (try simp only [bls] at hb) <;> (try simp only [hb]))
  | refine gRt [1000, 1001] [] rfl ?_ | refine gDn [1000, 1001] [] rfl ?_) <;> (try simp only [go_sem, simprocAttr, e4, e5, e6, k1, k2, k3, hx, hpk, Option.some.injEq, forall_eq']))
  | (refine hK _ _ ?_; clear hK K; simp only [go_sem, simprocAttr])
  | refine gCd (by simp only [go_sem, simprocAttr]; rfl) rfl ?_
  | refine brT ?_ | refine brF ?_
  | (refine brS ?_ ?_ <;> intro hc <;> (try simp only [bls] at hc) <;> (try simp only [hc, bls]))
  | intro _ | refine And.intro ?_ ?_)
    all_goals first | omega | (unfold bigLen; omega) | exact ⟨_, _, ⟨rfl, rfl⟩, rfl⟩ | exact ⟨_, rfl⟩ | (rename_i hy; simp only [List.mem_singleton] at hy; subst hy; rfl) | with_reducible rfl | skip
    rename_i z hz
    have hz2 : z = Po.cells ⟨⟨sa, sb, sc, sd⟩, lo, hi, rule, last, next⟩ := by rw [List.getElem?_map, hpk] at hz; exact (Option.some.inj hz).symm
    subst hz2
    refine AGood.filt [1000, 1001] ?_
    simp only [sf_cons, sf_nil, go_sem, simprocAttr]
    refine AGood.prune [0, 2, 8, 9, 10] ?_; simp only [go_sem, simprocAttr]
    exact AGood.cast (ih (j + 1) (by omega) (by omega)) rfl (by rw [hst]; simp [List.map_set])
  · have e4 : ¬ (j : Int) < fr.length := by omega
    rw [List.take_of_length_le (by omega)]
    clear ih
    repeat' (first
  | refine gSq ?_ | refine gSk ?_ | refine gBl ?_ | refine gIb ?_ | refine gEx rfl ?_
  | ((first
  | (refine gRg [] [0, 1, 2, 7, 8, 9, 10, 11] ?_; intro K hK)
  | (refine gDr 3 [] 14 [0, 1, 2, 3, 4, 5, 6, 7, 8, 9, 10, 11, 12, 13, 14, 15, 16, 17] [0, 1, 2, 7, 8, 9, 10, 11] rfl ?_; intro K hK)
  | (refine gd_split ?_ ?_ <;> intro hb <;> (try simp only [bls] at hb) <;> (try simp only [hb]))
  | refine gRt [1000, 1001] [] rfl ?_ | refine gDn [1000, 1001] [] rfl ?_) <;> (try simp only [go_sem, simprocAttr, e4]))
  | (refine hK _ _ ?_; clear hK K; simp only [go_sem, simprocAttr])
  | refine gCd (by simp only [go_sem, simprocAttr]; rfl) rfl ?_
  | refine brT ?_ | refine brF ?_
  | (refine brS ?_ ?_ <;> intro hc <;> (try simp only [bls] at hc) <;> (try simp only [hc, bls]))
  | intro _ | refine And.intro ?_ ?_)
    all_goals first | omega | (unfold bigLen; omega) | exact ⟨_, _, ⟨rfl, rfl⟩, rfl⟩ | exact ⟨_, rfl⟩ | (rename_i hy; simp only [List.mem_singleton] at hy; subst hy; rfl) | with_reducible rfl | skip
theorem or9uc (n : Nat) (x y : En) (hx : Re n x) (hy : Re n y) (hn : n ≤ 1000000) :
    ACall Tryz.prog 35 [.agg x.cells, .agg y.cells] [] fun r s => r = .agg (orE x y).cells ∧ s = [] := by
  have h1 := mergeG_c true false true false x.first y.first (by have := rs_len hx.1; have := rs_len hy.1; omega)
  have h2 := mergeG_c true false true false x.last y.last (by have := rs_len hx.2; have := rs_len hy.2; omega)
  obtain ⟨xn, xf, xl⟩ := x
  obtain ⟨yn, yf, yl⟩ := y
  simp only [orE, En.cells] at h1 h2 ⊢
  clear hx hy
  refine ACall.enter Tryz.func35 rfl (by kernel_rfl) (Nat.le_of_ble_eq_true rfl) ?_; simp only [initTm, Nat.reduceAdd]
  cases xn
  · repeat' (first
  | refine gSq ?_ | refine gSk ?_ | refine gBl ?_ | refine gIb ?_ | refine gEx rfl ?_
  | ((first
  | (refine gRg [] [0, 1, 2, 3, 4] ?_; intro K hK)
  | (refine gDr 1 [] 17 [0, 1, 2, 3, 4, 5, 6, 7, 8, 9, 10, 11, 12, 13, 14, 15, 16, 17] [0, 1, 2, 3, 4] rfl ?_; intro K hK)
  | refine ⟨_, ACall.alone (h1) rfl rfl rfl, ?_⟩
  | refine ⟨_, ACall.alone (h2) rfl rfl rfl, ?_⟩
  | (refine gd_split ?_ ?_ <;> intro hb <;> (try simp only [bls] at hb) <;> (try simp only [hb]))
  | refine gRt [] [.cell 4 49] rfl ?_ | refine gDn [] [.cell 4 49] rfl ?_) <;> (try simp only [go_sem, simprocAttr]))
  | (refine hK _ _ ?_; clear hK K; simp only [go_sem, simprocAttr])
  | refine gCd (by simp only [go_sem, simprocAttr]; rfl) rfl ?_
  | refine brT ?_ | refine brF ?_
  | (refine brS ?_ ?_ <;> intro hc <;> (try simp only [bls] at hc) <;> (try simp only [hc, bls]))
  | intro _ | refine And.intro ?_ ?_)
    all_goals first | omega | (unfold bigLen; omega) | exact ⟨_, _, ⟨rfl, rfl⟩, rfl⟩ | exact ⟨_, rfl⟩ | (rename_i hy; simp only [List.mem_singleton] at hy; subst hy; rfl) | with_reducible rfl | skip
  · repeat' (first
  | refine gSq ?_ | refine gSk ?_ | refine gBl ?_ | refine gIb ?_ | refine gEx rfl ?_
  | ((first
  | (refine gRg [] [0, 1, 2, 3, 4] ?_; intro K hK)
  | (refine gDr 1 [] 17 [0, 1, 2, 3, 4, 5, 6, 7, 8, 9, 10, 11, 12, 13, 14, 15, 16, 17] [0, 1, 2, 3, 4] rfl ?_; intro K hK)
  | refine ⟨_, ACall.alone (h1) rfl rfl rfl, ?_⟩
  | refine ⟨_, ACall.alone (h2) rfl rfl rfl, ?_⟩
  | (refine gd_split ?_ ?_ <;> intro hb <;> (try simp only [bls] at hb) <;> (try simp only [hb]))
  | refine gRt [] [.cell 4 49] rfl ?_ | refine gDn [] [.cell 4 49] rfl ?_) <;> (try simp only [go_sem, simprocAttr]))
  | (refine hK _ _ ?_; clear hK K; simp only [go_sem, simprocAttr])
  | refine gCd (by simp only [go_sem, simprocAttr]; rfl) rfl ?_
  | refine brT ?_ | refine brF ?_
  | (refine brS ?_ ?_ <;> intro hc <;> (try simp only [bls] at hc) <;> (try simp only [hc, bls]))
  | intro _ | refine And.intro ?_ ?_)
    all_goals first | omega | (unfold bigLen; omega) | exact ⟨_, _, ⟨rfl, rfl⟩, rfl⟩ | exact ⟨_, rfl⟩ | (rename_i hy; simp only [List.mem_singleton] at hy; subst hy; rfl) | with_reducible rfl | skip
theorem then9uc (g g1 : Nat) (ps : List Po) (x y : En) (hp : ps.length ≤ 1000000) (hn : Rn ps.length ps) (hx : Re ps.length x) (hy : Re ps.length y) :
    ACall Tryz.prog 34 [.bx 1000 g 0, .agg x.cells, .agg y.cells] (gsto g g1 ps) fun r s => r = .agg (thenG (ps, x) y).2.cells ∧ s = gsto g g1 (thenG (ps, x) y).1 := by
  have hl := link9uc g g1 true false true false x.last y.first ps hp hn hx.2.2 hy.1 (by have := rs_len hx.2; omega)
  have h1 := mergeG_c true false true false x.first y.first (by have := rs_len hx.1; have := rs_len hy.1; omega)
  have h2 := mergeG_c true false true false x.last y.last (by have := rs_len hx.2; have := rs_len hy.2; omega)
  obtain ⟨xn, xf, xl⟩ := x
  obtain ⟨yn, yf, yl⟩ := y
  simp only [thenG, thenE, En.cells, gsto, lnk_len] at h1 h2 hl ⊢
  clear hx hy hn
  generalize lnk xl yf ps = Q at hl ⊢
  generalize ps.length = N at hl ⊢
  refine ACall.enter Tryz.func34 rfl (by kernel_rfl) (Nat.le_of_ble_eq_true rfl) ?_; simp only [initTm, Nat.reduceAdd]
  cases xn <;> cases yn
  · repeat' (first
  | refine gSq ?_ | refine gSk ?_ | refine gBl ?_ | refine gIb ?_ | refine gEx rfl ?_
  | ((first
  | (refine gRg [] [0, 1, 2, 4, 5, 6, 7, 26, 34] ?_; intro K hK)
  | refine cAl (h1) rfl rfl rfl ?_
  | refine cAl (h2) rfl rfl rfl ?_
  | (refine ACall.use [(1000, 1000), (1001, 1001)] [] rfl (hl) rfl rfl rfl ?_; (first | rintro _ _ ⟨rfl, rfl⟩ | rintro _ _ ⟨rfl, h1, rfl⟩); refine ⟨.inl rfl, rfl, ?_⟩; simp only [bk, bk2, bk1, bkS, bkO, idOf, delAll, go_sem, simprocAttr])
  | (refine gd_split ?_ ?_ <;> intro hb <;> (try simp only [bls] at hb) <;> (try simp only [hb]))
  | refine gRt [1000, 1001] [.cell 6 49] rfl ?_ | refine gDn [1000, 1001] [.cell 6 49] rfl ?_) <;> (try simp only [go_sem, simprocAttr]))
  | (refine hK _ _ ?_; clear hK K; simp only [go_sem, simprocAttr])
  | refine gCd (by simp only [go_sem, simprocAttr]; rfl) rfl ?_
  | refine brT ?_ | refine brF ?_
  | (refine brS ?_ ?_ <;> intro hc <;> (try simp only [bls] at hc) <;> (try simp only [hc, bls]))
  | intro _ | refine And.intro ?_ ?_)
    all_goals first | omega | (unfold bigLen; omega) | exact ⟨_, _, ⟨rfl, rfl⟩, rfl⟩ | exact ⟨_, rfl⟩ | (rename_i hy; simp only [List.mem_singleton] at hy; subst hy; rfl) | with_reducible rfl | skip
  · repeat' (first
  | refine gSq ?_ | refine gSk ?_ | refine gBl ?_ | refine gIb ?_ | refine gEx rfl ?_
  | ((first
  | (refine gRg [] [0, 1, 2, 4, 5, 6, 7, 26, 34] ?_; intro K hK)
  | refine cAl (h1) rfl rfl rfl ?_
  | refine cAl (h2) rfl rfl rfl ?_
  | (refine ACall.use [(1000, 1000), (1001, 1001)] [] rfl (hl) rfl rfl rfl ?_; (first | rintro _ _ ⟨rfl, rfl⟩ | rintro _ _ ⟨rfl, h1, rfl⟩); refine ⟨.inl rfl, rfl, ?_⟩; simp only [bk, bk2, bk1, bkS, bkO, idOf, delAll, go_sem, simprocAttr])
  | (refine gd_split ?_ ?_ <;> intro hb <;> (try simp only [bls] at hb) <;> (try simp only [hb]))
  | refine gRt [1000, 1001] [.cell 6 49] rfl ?_ | refine gDn [1000, 1001] [.cell 6 49] rfl ?_) <;> (try simp only [go_sem, simprocAttr]))
  | (refine hK _ _ ?_; clear hK K; simp only [go_sem, simprocAttr])
  | refine gCd (by simp only [go_sem, simprocAttr]; rfl) rfl ?_
  | refine brT ?_ | refine brF ?_
  | (refine brS ?_ ?_ <;> intro hc <;> (try simp only [bls] at hc) <;> (try simp only [hc, bls]))
  | intro _ | refine And.intro ?_ ?_)
    all_goals first | omega | (unfold bigLen; omega) | exact ⟨_, _, ⟨rfl, rfl⟩, rfl⟩ | exact ⟨_, rfl⟩ | (rename_i hy; simp only [List.mem_singleton] at hy; subst hy; rfl) | with_reducible rfl | skip
  · repeat' (first
  | refine gSq ?_ | refine gSk ?_ | refine gBl ?_ | refine gIb ?_ | refine gEx rfl ?_
  | ((first
  | (refine gRg [] [0, 1, 2, 4, 5, 6, 7, 26, 34] ?_; intro K hK)
  | refine cAl (h1) rfl rfl rfl ?_
  | refine cAl (h2) rfl rfl rfl ?_
  | (refine ACall.use [(1000, 1000), (1001, 1001)] [] rfl (hl) rfl rfl rfl ?_; (first | rintro _ _ ⟨rfl, rfl⟩ | rintro _ _ ⟨rfl, h1, rfl⟩); refine ⟨.inl rfl, rfl, ?_⟩; simp only [bk, bk2, bk1, bkS, bkO, idOf, delAll, go_sem, simprocAttr])
  | (refine gd_split ?_ ?_ <;> intro hb <;> (try simp only [bls] at hb) <;> (try simp only [hb]))
  | refine gRt [1000, 1001] [.cell 6 49] rfl ?_ | refine gDn [1000, 1001] [.cell 6 49] rfl ?_) <;> (try simp only [go_sem, simprocAttr]))
  | (refine hK _ _ ?_; clear hK K; simp only [go_sem, simprocAttr])
  | refine gCd (by simp only [go_sem, simprocAttr]; rfl) rfl ?_
  | refine brT ?_ | refine brF ?_
  | (refine brS ?_ ?_ <;> intro hc <;> (try simp only [bls] at hc) <;> (try simp only [hc, bls]))
  | intro _ | refine And.intro ?_ ?_)
    all_goals first | omega | (unfold bigLen; omega) | exact ⟨_, _, ⟨rfl, rfl⟩, rfl⟩ | exact ⟨_, rfl⟩ | (rename_i hy; simp only [List.mem_singleton] at hy; subst hy; rfl) | with_reducible rfl | skip
  · repeat' (first
  | refine gSq ?_ | refine gSk ?_ | refine gBl ?_ | refine gIb ?_ | refine gEx rfl ?_
  | ((first
  | (refine gRg [] [0, 1, 2, 4, 5, 6, 7, 26, 34] ?_; intro K hK)
  | refine cAl (h1) rfl rfl rfl ?_
  | refine cAl (h2) rfl rfl rfl ?_
  | (refine ACall.use [(1000, 1000), (1001, 1001)] [] rfl (hl) rfl rfl rfl ?_; (first | rintro _ _ ⟨rfl, rfl⟩ | rintro _ _ ⟨rfl, h1, rfl⟩); refine ⟨.inl rfl, rfl, ?_⟩; simp only [bk, bk2, bk1, bkS, bkO, idOf, delAll, go_sem, simprocAttr])
  | (refine gd_split ?_ ?_ <;> intro hb <;> (try simp only [bls] at hb) <;> (try simp only [hb]))
  | refine gRt [1000, 1001] [.cell 6 49] rfl ?_ | refine gDn [1000, 1001] [.cell 6 49] rfl ?_) <;> (try simp only [go_sem, simprocAttr]))
  | (refine hK _ _ ?_; clear hK K; simp only [go_sem, simprocAttr])
  | refine gCd (by simp only [go_sem, simprocAttr]; rfl) rfl ?_
  | refine brT ?_ | refine brF ?_
  | (refine brS ?_ ?_ <;> intro hc <;> (try simp only [bls] at hc) <;> (try simp only [hc, bls]))
  | intro _ | refine And.intro ?_ ?_)
    all_goals first | omega | (unfold bigLen; omega) | exact ⟨_, _, ⟨rfl, rfl⟩, rfl⟩ | exact ⟨_, rfl⟩ | (rename_i hy; simp only [List.mem_singleton] at hy; subst hy; rfl) | with_reducible rfl | skip
end Go.Rad
/- Node by node: what stays so; what the nodes within counted repetitions are. -/
namespace Go.Rad
open Go Fo
theorem thenG_ok {s : List Po × En} {y : En} (h1 : Rn s.1.length s.1) (h2 : Re s.1.length s.2) (h3 : Re s.1.length y) : (thenG s y).1.length = s.1.length ∧ Rn s.1.length (thenG s y).1 ∧ Re s.1.length (thenG s y).2 := by
  refine ⟨lnk_len _ _ _, rn_lnk h3.1 _ h1, ?_, ?_⟩
  · simp only [thenG, thenE]; split
    · exact rs_uni h2.1 h3.1
    · exact h2.1
  · simp only [thenG, thenE]; split
    · exact rs_uni h2.2 h3.2
    · exact h3.2
theorem catG_ok : ∀ (ks : List En) {s : List Po × En}, Rn s.1.length s.1 → Re s.1.length s.2 → (∀ y ∈ ks, Re s.1.length y) → (ks.foldl thenG s).1.length = s.1.length ∧ Rn s.1.length (ks.foldl thenG s).1 ∧ Re s.1.length (ks.foldl thenG s).2
  | [], s, h1, h2, _ => ⟨rfl, h1, h2⟩
  | y :: ks, s, h1, h2, h3 => by
    obtain ⟨a, b, c⟩ := thenG_ok h1 h2 (h3 y (by simp))
    have := catG_ok ks (s := thenG s y) (by rw [a]; exact b) (by rw [a]; exact c) fun z hz => by rw [a]; exact h3 z (by simp [hz])
    rwa [a] at this
theorem altG_ok {n : Nat} : ∀ (ks : List En) {x : En}, Re n x → (∀ y ∈ ks, Re n y) → Re n (ks.foldl orE x)
  | [], _, h, _ => h
  | y :: ks, x, h, h2 => altG_ok ks (x := orE x y) ⟨rs_uni h.1 (h2 y (by simp)).1, rs_uni h.2 (h2 y (by simp)).2⟩ fun z hz => h2 z (by simp [hz])
theorem putG_ok {p : Po} {ps : List Po} (h : Rn ps.length ps) (hp : p.next = []) : (putG p ps).1.length = ps.length + 1 ∧ Rn (ps.length + 1) (putG p ps).1 ∧ Re (ps.length + 1) (putG p ps).2 := by
  refine ⟨by simp [putG], fun q hq => ?_, rs_one (Nat.lt_succ_self _), rs_one (Nat.lt_succ_self _)⟩
  simp only [putG, List.mem_append, List.mem_singleton] at hq
  rcases hq with hq | rfl
  · exact rs_mono (h q hq) (by omega)
  · rw [hp]; exact rs_nil _
theorem nodeG_ok {rule : Int} {b : Lb} {s : ISet} {ks : List En} {ps : List Po} (h : Rn ps.length ps) (hk : ∀ y ∈ ks, Re ps.length y) :
    ps.length ≤ (nodeG rule b s ks ps).1.length ∧ (nodeG rule b s ks ps).1.length ≤ ps.length + 1 ∧ Rn (nodeG rule b s ks ps).1.length (nodeG rule b s ks ps).1 ∧ Re (nodeG rule b s ks ps).1.length (nodeG rule b s ks ps).2 := by
  unfold nodeG
  split
  · exact ⟨Nat.le_refl _, Nat.le_succ _, h, re_nil _ _⟩
  · split
    · obtain ⟨a, b, c⟩ := putG_ok (p := ⟨‹Lb›.s, 1, 1, rule, false, []⟩) h rfl
      rw [a]; exact ⟨Nat.le_succ _, Nat.le_refl _, b, c⟩
    · split
      · split
        · obtain ⟨a, b, c⟩ := putG_ok (p := ⟨s, ‹Lb›.lo, ‹Lb›.hi, rule, false, []⟩) h rfl
          rw [a]; exact ⟨Nat.le_succ _, Nat.le_refl _, b, c⟩
        · have hx : Re ps.length (ks.headD enN) := by
            cases ks with
            | nil => exact re_nil _ _
            | cons x ks => exact hk x (by simp)
          simp only [lnk_len]
          exact ⟨Nat.le_refl _, Nat.le_succ _, rn_lnk hx.1 _ h, hx⟩
      · split
        · obtain ⟨a, b, c⟩ := catG_ok ks (s := (ps, ⟨true, [], []⟩)) h (re_nil _ _) hk
          simp only [catG]
          simp only at a b c
          rw [a]; exact ⟨Nat.le_refl _, Nat.le_succ _, b, c⟩
        · exact ⟨Nat.le_refl _, Nat.le_succ _, h, altG_ok ks (re_nil _ _) hk⟩
def SOk (s : List Po × List En) : Prop := Rn s.1.length s.1 ∧ ∀ e ∈ s.2, Re s.1.length e
theorem getD_ok {n : Nat} {al : List En} (h : ∀ e ∈ al, Re n e) (i : Nat) : Re n (al.getD i enN) := by
  rw [List.getD_eq_getElem?_getD]
  cases hx : al[i]? with
  | none => exact re_nil _ _
  | some e => exact h e (List.mem_of_getElem? hx)
theorem stepG_ok {l : List Node} {rule : Int} {s : List Po × List En} {n : Node} (h : SOk s) : SOk (stepG l rule s n) ∧ (stepG l rule s n).2.length = s.2.length + 1 ∧ s.1.length ≤ (stepG l rule s n).1.length ∧ (stepG l rule s n).1.length ≤ s.1.length + 1 := by
  unfold stepG
  split
  · refine ⟨⟨h.1, fun e he => ?_⟩, by simp, Nat.le_refl _, Nat.le_succ _⟩
    simp only [List.mem_append, List.mem_singleton] at he
    rcases he with he | rfl
    · exact h.2 e he
    · exact re_nil _ _
  · obtain ⟨a, b, c, d⟩ := nodeG_ok (rule := rule) (b := n.lb) (s := (nAt l (n.l.headD 0)).s) (ks := n.l.map fun k => s.2.getD k.toNat enN) h.1 fun y hy => by
      obtain ⟨k, _, rfl⟩ := List.mem_map.1 hy
      exact getD_ok h.2 _
    refine ⟨⟨c, fun e he => ?_⟩, by simp, a, b⟩
    simp only [List.mem_append, List.mem_singleton] at he
    rcases he with he | rfl
    · exact re_mono (h.2 e he) a
    · exact d
theorem runG_ok (l : List Node) (rule : Int) : ∀ (m : List Node) {s : List Po × List En}, SOk s → SOk (m.foldl (stepG l rule) s) ∧ (m.foldl (stepG l rule) s).2.length = s.2.length + m.length ∧ s.1.length ≤ (m.foldl (stepG l rule) s).1.length ∧ (m.foldl (stepG l rule) s).1.length ≤ s.1.length + m.length
  | [], s, h => ⟨h, rfl, Nat.le_refl _, Nat.le_refl _⟩
  | n :: m, s, h => by
    obtain ⟨a, b, c, d⟩ := stepG_ok (l := l) (rule := rule) (n := n) h
    obtain ⟨a', b', c', d'⟩ := runG_ok l rule m a
    rw [List.foldl_cons]
    refine ⟨a', by rw [b', b]; simp only [List.length_cons]; omega, by omega, by simp only [List.length_cons]; omega⟩
/-- What the code knows of nodes within counted repetitions, behind so many nodes. -/
def innR (l : List Node) (j : Nat) : List Bool := (List.range l.length).map fun i => innerS (l.take j) i
theorem innR_len (l : List Node) (j : Nat) : (innR l j).length = l.length := by simp [innR]
theorem innR_zero (l : List Node) : innR l 0 = List.replicate l.length false := by
  refine List.ext_getElem (by simp [innR]) fun i h1 h2 => ?_
  simp [innR, innerS]
theorem innR_no {l : List Node} {j : Nat} {n : Node} (h : l[j]? = some n) (hc : ¬ (n.op = 5 ∧ 0 < n.hi)) : innR l (j + 1) = innR l j := by
  unfold innR
  refine List.map_congr_left fun i _ => ?_
  rw [take_one h]
  simp only [innerS, List.any_append, List.any_cons, List.any_nil, Bool.or_false]
  rw [decide_eq_false (fun h => hc ⟨h.1, h.2.1⟩), Bool.or_false]
theorem innR_yes {l : List Node} {j k : Nat} {n : Node} (h : l[j]? = some n) (hc : n.op = 5 ∧ 0 < n.hi) (hk : n.l.headD 0 = (k : Int)) : innR l (j + 1) = (innR l j).set k true := by
  refine List.ext_getElem (by simp [innR]) fun i h1 h2 => ?_
  rw [List.getElem_set]
  simp only [innR, List.getElem_map, List.getElem_range]
  rw [take_one h]
  simp only [innerS, List.any_append, List.any_cons, List.any_nil, Bool.or_false]
  by_cases e : k = i
  · rw [if_pos e, decide_eq_true ⟨hc.1, hc.2, by rw [hk, e]⟩, Bool.or_true]
  · rw [if_neg e, decide_eq_false (fun h => e (by have := h.2.2; omega)), Bool.or_false]
theorem innR_get {l : List Node} {i : Nat} (h : i < l.length) : (innR l l.length)[i]? = some (innerS l i) := by
  unfold innR
  rw [List.getElem?_map, List.getElem?_range h, List.take_length]
  rfl
theorem lay_kidsI : ∀ (f : Fo) (i j : Nat) (n : Node), (f.lay i)[j]? = some n → ∀ k ∈ n.l, (i : Int) ≤ k ∧ k < i + j
  | .nil, i, j, n, h => by simp [lay] at h
  | .node b c r, i, j, n, h => by
    simp only [lay] at h
    rw [List.getElem?_append] at h
    split at h
    · exact lay_kidsI c i j n h
    · rename_i hj
      rw [lay_len] at h hj
      obtain ⟨m, hm⟩ : ∃ m, j - c.size = m := ⟨_, rfl⟩
      rw [hm] at h
      cases m with
      | zero =>
        simp only [List.getElem?_cons_zero, Option.some.injEq] at h
        subst h
        intro k hk
        have := roots_in' c i k hk
        omega
      | succ m =>
        simp only [List.getElem?_cons_succ] at h
        intro k hk
        have := lay_kidsI r _ m n h k hk
        omega
where
  roots_in' : ∀ (f : Fo) (i : Nat), ∀ k ∈ f.roots i, (i : Int) ≤ k ∧ k < i + f.size
    | .nil, _, k, h => by simp [roots] at h
    | .node b c r, i, k, h => by
      simp only [roots, List.mem_cons] at h
      simp only [size]
      rcases h with rfl | h
      · omega
      · have := roots_in' r _ k h; omega
end Go.Rad
/- Places of plans together. -/
namespace Go.Rad
open Go Fo
def mrk1 (ps : List Po) (i : Int) : List Po := ps.modify i.toNat fun p => { p with last := true }
def mrk (l : List Int) (ps : List Po) : List Po := l.foldl mrk1 ps
theorem mrk1ulen (ps : List Po) (i : Int) : (mrk1 ps i).length = ps.length := by simp [mrk1]
theorem mrk_len : ∀ (l : List Int) (ps : List Po), (mrk l ps).length = ps.length
  | [], _ => rfl
  | i :: l, ps => by rw [mrk, List.foldl_cons]; exact (mrk_len l _).trans (mrk1ulen ps i)
theorem rn_mrk1 {n : Nat} {ps : List Po} (h : Rn n ps) (i : Int) : Rn n (mrk1 ps i) := by
  intro p hp
  obtain ⟨j, hj, rfl⟩ := List.getElem_of_mem hp
  simp only [mrk1, List.getElem_modify]
  have hj' : j < ps.length := by simpa [mrk1] using hj
  have := h ps[j] (List.getElem_mem hj')
  split <;> exact this
theorem rn_mrk {n : Nat} : ∀ (l : List Int) {ps : List Po}, Rn n ps → Rn n (mrk l ps)
  | [], _, h => h
  | i :: l, ps, h => by rw [mrk, List.foldl_cons]; exact rn_mrk l (rn_mrk1 h i)
/-- One plan's places, and the first and last ones of it. -/
def oneO (x : List Node) (r : Nat) (ps : List Po) : List Po × En := (mrk ((listG x r ps).2.getLastD enN).last (listG x r ps).1, (listG x r ps).2.getLastD enN)
def goO : Nat → List (List Node) → List Po → List Int → Option (List Po × List Int)
  | _, [], ps, fi => some (ps, fi)
  | r, x :: xs, ps, fi => if 512 < (oneO x r ps).1.length then none else goO (r + 1) xs (oneO x r ps).1 (uni fi (oneO x r ps).2.first)
/-- The code's outcome: first places, places, what went wrong. -/
def ofG (ls : List (List Node)) : List Int × List Po × Int :=
  if 512 < ls.length ∨ ls.any (fun x => !rightP x) = true then ([], [], 1)
  else match goO 0 ls [] [] with
    | none => ([], [], 3)
    | some (ps, fi) => (fi, ps, 0)
theorem list_ok {x : List Node} {r : Nat} {ps : List Po} (h : Rn ps.length ps) : Rn (listG x r ps).1.length (listG x r ps).1 ∧ Re (listG x r ps).1.length ((listG x r ps).2.getLastD enN) ∧ ps.length ≤ (listG x r ps).1.length ∧ (listG x r ps).1.length ≤ ps.length + x.length := by
  obtain ⟨⟨a, a2⟩, b, c, d⟩ := runG_ok x r x (s := (ps, [])) ⟨h, fun e he => by simp at he⟩
  refine ⟨a, ?_, c, d⟩
  show Re _ ((List.foldl (stepG x r) (ps, []) x).2.getLastD enN)
  rw [List.getLastD_eq_getLast?]
  cases hx : (List.foldl (stepG x r) (ps, []) x).2.getLast? with
  | none => exact re_nil _ _
  | some e => exact a2 e (List.mem_of_getLast? hx)
theorem one_ok {x : List Node} {r : Nat} {ps : List Po} (h : Rn ps.length ps) : Rn (oneO x r ps).1.length (oneO x r ps).1 ∧ Re (oneO x r ps).1.length (oneO x r ps).2 ∧ ps.length ≤ (oneO x r ps).1.length ∧ (oneO x r ps).1.length ≤ ps.length + x.length := by
  obtain ⟨a, b, c, d⟩ := list_ok (x := x) (r := r) h
  simp only [oneO, mrk_len]
  exact ⟨rn_mrk _ a, b, c, d⟩
end Go.Rad
/- The document's places, node by node from the root: the same. -/
namespace Go.Rad
open Go Fo
def kidsG (node : Nat → List Po → List Po × En) : List Int → List Po → List En → List Po × List En
  | [], ps, ks => (ps, ks)
  | k :: r, ps, ks => kidsG node r (node k.toNat ps).1 (ks ++ [(node k.toNat ps).2])
def accE (null : Bool) (ks : List En) : En := ks.foldl orE ⟨null, [], []⟩
def nodeR (l : List Node) (rule : Int) : Nat → Nat → List Po → List Po × En
  | 0, _, ps => (ps, enN)
  | fu + 1, k, ps =>
    let n := nAt l (k : Int)
    if n.op = 1 then (ps, ⟨true, [], []⟩)
    else if n.op = 2 then putG ⟨n.s, 1, 1, rule, false, []⟩ ps
    else if n.op = 5 ∧ n.hi ≠ -1 then putG ⟨(nAt l (n.l.headD 0)).s, n.lo, n.hi, rule, false, []⟩ ps
    else
      let s := kidsG (nodeR l rule fu) n.l ps []
      if n.op = 3 then catG s.1 s.2
      else if n.op = 5 then (lnk (accE true s.2).last (accE true s.2).first s.1, accE true s.2)
      else (s.1, accE false s.2)
theorem glF_ok (rule : Int) : ∀ (f : Fo) (ps : List Po), Rn ps.length ps → ps.length ≤ (glF rule f ps).1.length ∧ Rn (glF rule f ps).1.length (glF rule f ps).1 ∧ ∀ e ∈ (glF rule f ps).2, Re (glF rule f ps).1.length e
  | .nil, ps, h => ⟨Nat.le_refl _, h, fun e he => by simp [glF] at he⟩
  | .node b k r, ps, h => by
    have h1 : ps.length ≤ (if cntd b then (ps, []) else glF rule k ps).1.length ∧ Rn (if cntd b then (ps, []) else glF rule k ps).1.length (if cntd b then (ps, []) else glF rule k ps).1 ∧ ∀ e ∈ (if cntd b then (ps, ([] : List En)) else glF rule k ps).2, Re (if cntd b then (ps, []) else glF rule k ps).1.length e := by
      cases hc : cntd b
      · simpa using glF_ok rule k ps h
      · simp only [if_true]; exact ⟨Nat.le_refl _, h, fun e he => by simp at he⟩
    simp only [glF]
    generalize (if cntd b then (ps, []) else glF rule k ps) = s1 at h1
    obtain ⟨a1, a2, a3⟩ := h1
    obtain ⟨b1, b2, b3, b4⟩ := nodeG_ok (rule := rule) (b := b) (s := setOf k) (ks := s1.2) a2 a3
    generalize nodeG rule b (setOf k) s1.2 s1.1 = s2 at b1 b2 b3 b4
    obtain ⟨c1, c2, c3⟩ := glF_ok rule r s2.1 b3
    refine ⟨by omega, c2, fun e he => ?_⟩
    rcases List.mem_cons.1 he with rfl | he
    · exact re_mono b4 c1
    · exact c3 e he
theorem shapeL_leaf {b : Lb} {d : Nat} (h : shapeL b d = true) (h5 : b.op = 1 ∨ b.op = 2) : d = 0 := by
  simp only [shapeL, shapeOk] at h
  rcases h5 with h5 | h5
  · rw [if_pos h5] at h
    simp only [Bool.and_eq_true, Bool.not_eq_true', decide_eq_true_eq, decide_eq_false_iff_not, List.length_replicate] at h
    omega
  · rw [if_neg (by omega), if_pos h5] at h
    simp only [Bool.and_eq_true, Bool.not_eq_true', decide_eq_true_eq, decide_eq_false_iff_not, List.length_replicate] at h
    omega
theorem kidsR_lay (l : List Node) (rule : Int) : ∀ (f : Fo) (fu i : Nat) (ps : List Po) (ks : List En), f.shapeF = true → isP f = true → (∀ (j : Nat) (n : Node), (f.lay i)[j]? = some n → l[i + j]? = some n) → f.size ≤ fu → Rn ps.length ps →
    kidsG (nodeR l rule fu) (f.roots i) ps ks = ((glF rule f ps).1, ks ++ (glF rule f ps).2)
  | .nil, fu, i, ps, ks, _, _, _, _, _ => by simp [roots, kidsG, glF]
  | .node b k r, fu, i, ps, ks, hs, hp, hget, hfu, hrn => by
    simp only [shapeF, isP, all, Bool.and_eq_true] at hs hp
    simp only [size] at hfu
    obtain ⟨fu, rfl⟩ : ∃ m, fu = m + 1 := ⟨fu - 1, by omega⟩
    have hkl : (k.lay i).length = k.size := lay_len k i
    have hgk : ∀ (j : Nat) (n : Node), (k.lay i)[j]? = some n → l[i + j]? = some n := fun j n h => by
      refine hget j n ?_
      have := (List.getElem?_eq_some_iff.1 h).1
      rw [lay, List.getElem?_append_left this]; exact h
    have hgr : ∀ (j : Nat) (n : Node), (r.lay (i + k.size + 1))[j]? = some n → l[i + k.size + 1 + j]? = some n := fun j n h => by
      have := hget (k.size + 1 + j) n (by
        rw [lay, List.getElem?_append_right (by omega), hkl, show k.size + 1 + j - k.size = j + 1 by omega, List.getElem?_cons_succ]; exact h)
      rwa [show i + (k.size + 1 + j) = i + k.size + 1 + j by omega] at this
    have hn : l[i + k.size]? = some (b.node (k.roots i)) := hget k.size _ (by rw [lay, List.getElem?_append_right (by omega), hkl, Nat.sub_self]; rfl)
    have hnode : nodeR l rule (fu + 1) (i + k.size) ps = nodeG rule b (setOf k) (if cntd b then (ps, []) else glF rule k ps).2 (if cntd b then (ps, []) else glF rule k ps).1 := by
      have hkid := kidsR_lay l rule k fu i ps [] hs.1.2 hp.1.2 hgk (by omega) hrn
      rw [List.nil_append] at hkid
      obtain ⟨g1, g2, g3⟩ := glF_ok rule k ps hrn
      rw [nodeR, nAt_get hn]
      unfold nodeG
      simp only [Lb.node]
      by_cases h1 : b.op = 1
      · have hd : k.deg = 0 := shapeL_leaf hs.1.1 (.inl h1)
        have hc : cntd b = false := by simp [cntd, h1]
        cases k with
        | nil => simp only [if_pos h1, hc, glF]; rfl
        | node => simp [deg] at hd
      · rw [if_neg h1, if_neg h1]
        by_cases h2 : b.op = 2
        · have hd : k.deg = 0 := shapeL_leaf hs.1.1 (.inr h2)
          have hc : cntd b = false := by simp [cntd, h2]
          cases k with
          | nil => simp only [if_pos h2, hc, glF]; rfl
          | node => simp [deg] at hd
        · rw [if_neg h2, if_neg h2]
          by_cases h5 : b.op = 5
          · obtain ⟨q1, _, _, q4, q5, q6⟩ := shapeL_rep hs.1.1 h5
            by_cases hh : b.hi = -1
            · have hc : cntd b = false := by simp [cntd, hh]
              have h3 : ¬ b.op = 3 := by omega
              have h0 : ¬ 0 < b.hi := by omega
              simp only [hc, Bool.false_eq_true, if_false, h5, hh, ne_eq, not_true_eq_false, and_false, if_true, hkid, show ¬ (5 : Int) = 3 by decide, show ¬ (0 : Int) < -1 by decide]
              have hlen : (glF rule k ps).2.length = 1 := by rw [glF_len]; exact q1
              obtain ⟨e, he⟩ := List.length_eq_one_iff.1 hlen
              have hre := g3 e (by rw [he]; simp)
              have hacc : accE true (glF rule k ps).2 = { e with null := true } := by
                rw [he]
                show orE ⟨true, [], []⟩ e = _
                simp only [orE, uni_nil hre.1, uni_nil hre.2, Bool.true_or]
              rw [hacc, he]
              rfl
            · have h0 : 0 < b.hi := by omega
              have hc : cntd b = true := by simp [cntd, h5, h0]
              have hb : k.isBytes = true := by
                have := hp.1.1
                simp only [Bool.not_eq_true', decide_eq_false_iff_not] at this
                cases hx : k.isBytes
                · exact absurd ⟨h5, by omega, .inl hx⟩ this
                · rfl
              obtain ⟨b', rfl, h2'⟩ := bytes_one q1 hb hs.1.2
              have h0' := hgk 0 _ rfl
              have h00 : (nAt l ((Fo.roots (.node b' .nil .nil) i).headD 0)).s = b'.s := by
                simp only [roots, size, Nat.add_zero, List.headD_cons]
                rw [nAt_get (by simpa using h0')]
              rw [if_pos ⟨h5, hh⟩, if_pos h5, if_pos h0, h00, hc]
              rfl
          · have hc : cntd b = false := by simp [cntd, h5]
            simp only [hc, Bool.false_eq_true, if_false, h5, false_and, hkid]
            split
            · rfl
            · rfl
    have hstep : Rn (nodeR l rule (fu + 1) (i + k.size) ps).1.length (nodeR l rule (fu + 1) (i + k.size) ps).1 := by
      rw [hnode]
      cases hc : cntd b
      · simp only [Bool.false_eq_true, if_false]
        obtain ⟨g1, g2, g3⟩ := glF_ok rule k ps hrn
        exact (nodeG_ok g2 g3).2.2.1
      · simp only [if_true]
        exact (nodeG_ok hrn fun y hy => by simp at hy).2.2.1
    have hr := kidsR_lay l rule r (fu + 1) (i + k.size + 1) (nodeR l rule (fu + 1) (i + k.size) ps).1 (ks ++ [(nodeR l rule (fu + 1) (i + k.size) ps).2]) hs.2 hp.2 hgr (by omega) hstep
    simp only [roots, kidsG, Int.toNat_natCast]
    rw [hr, hnode]
    simp only [glF, List.append_assoc, List.cons_append, List.nil_append]
/-- A plan's places, and the ends of its root. -/
theorem nodeR_list {x : List Node} (h : rightP x = true) (r : Nat) {ps : List Po} (hrn : Rn ps.length ps) : nodeR x r x.length (x.length - 1) ps = ((listG x r ps).1, (listG x r ps).2.getLastD enN) := by
  have h2 := h
  rw [rightP, Bool.and_eq_true] at h2
  obtain ⟨f, hd, rfl, hs, hz, h6⟩ := (plain_fo _).1 h2.1
  rw [right_fo hd hs hz h6] at h
  obtain ⟨t1, t2, _⟩ := list_tree hd hs h (r : Int) ps
  have hk := kidsR_lay (f.lay 0) r f f.size 0 ps [] hs h (fun j n hj => by rw [Nat.zero_add]; exact hj) (Nat.le_refl _) hrn
  rw [roots_one hd] at hk
  have hsz := size_pos hd
  have hl : (f.lay 0).length = f.size := lay_len f 0
  have hlen : (glF (r : Int) f ps).2.length = 1 := by rw [glF_len]; exact hd
  obtain ⟨e, he⟩ := List.length_eq_one_iff.1 hlen
  rw [t1, t2, hl, he]
  simp only [kidsG, List.nil_append, he, Prod.mk.injEq, List.cons.injEq, and_true] at hk
  have e1 : ((0 + f.size - 1 : Nat) : Int).toNat = f.size - 1 := by omega
  refine Prod.ext ?_ ?_
  · have := hk.1; simpa using this
  · have := hk.2; simpa using this
end Go.Rad
/- The union of lists that rise, place by place. -/
namespace Go.Rad
open Go
theorem uni_memR (a b : List Int) (x : Int) : x ∈ uni a b ↔ x ∈ a ∨ x ∈ b := by rw [uni, uni_mem0, List.mem_append]
theorem uni_riseR (a b : List Int) : (uni a b).Pairwise (· < ·) := uni_rise0 _
theorem uni_l {x : Int} {a b : List Int} (h1 : ∀ y ∈ a, x < y) (h2 : ∀ y ∈ b, x < y) : uni (x :: a) b = x :: uni a b := by
  refine rise_ext (uni_riseR _ _) (List.pairwise_cons.2 ⟨fun y hy => ?_, uni_riseR _ _⟩) fun y => ?_
  · rcases (uni_memR a b y).1 hy with h | h
    · exact h1 y h
    · exact h2 y h
  · rw [uni_memR, List.mem_cons, List.mem_cons, uni_memR, or_assoc]
theorem uni_r {x : Int} {a b : List Int} (h1 : ∀ y ∈ a, x < y) (h2 : ∀ y ∈ b, x < y) : uni a (x :: b) = x :: uni a b := by
  refine rise_ext (uni_riseR _ _) (List.pairwise_cons.2 ⟨fun y hy => ?_, uni_riseR _ _⟩) fun y => ?_
  · rcases (uni_memR a b y).1 hy with h | h
    · exact h1 y h
    · exact h2 y h
  · rw [uni_memR, List.mem_cons, List.mem_cons, uni_memR]
    constructor
    · rintro (h | h | h)
      · exact .inr (.inl h)
      · exact .inl h
      · exact .inr (.inr h)
    · rintro (h | h | h)
      · exact .inr (.inl h)
      · exact .inl h
      · exact .inr (.inr h)
theorem uni_e {x : Int} {a b : List Int} (h1 : ∀ y ∈ a, x < y) (h2 : ∀ y ∈ b, x < y) : uni (x :: a) (x :: b) = x :: uni a b := by
  refine rise_ext (uni_riseR _ _) (List.pairwise_cons.2 ⟨fun y hy => ?_, uni_riseR _ _⟩) fun y => ?_
  · rcases (uni_memR a b y).1 hy with h | h
    · exact h1 y h
    · exact h2 y h
  · rw [uni_memR, List.mem_cons, List.mem_cons, List.mem_cons, uni_memR]
    constructor
    · rintro ((h | h) | (h | h))
      · exact .inl h
      · exact .inr (.inl h)
      · exact .inl h
      · exact .inr (.inr h)
    · rintro (h | h | h)
      · exact .inl (.inl h)
      · exact .inl (.inr h)
      · exact .inr (.inr h)
theorem drop_rise {a : List Int} (h : a.Pairwise (· < ·)) {i : Nat} {x : Int} (hx : a[i]? = some x) : a.drop i = x :: a.drop (i + 1) ∧ ∀ y ∈ a.drop (i + 1), x < y := by
  obtain ⟨h1, h2⟩ := List.getElem?_eq_some_iff.1 hx
  have e : a.drop i = x :: a.drop (i + 1) := by rw [List.drop_eq_getElem_cons h1, h2]
  refine ⟨e, ?_⟩
  have := h.sublist (List.drop_sublist i a)
  rw [e, List.pairwise_cons] at this
  exact this.1
theorem kidsG_ok {node : Nat → List Po → List Po × En} (hn : ∀ k (ps : List Po), Rn ps.length ps → ps.length ≤ (node k ps).1.length ∧ Rn (node k ps).1.length (node k ps).1 ∧ Re (node k ps).1.length (node k ps).2) :
    ∀ (l : List Int) (ps : List Po) (ks : List En), Rn ps.length ps → (∀ e ∈ ks, Re ps.length e) → ps.length ≤ (kidsG node l ps ks).1.length ∧ Rn (kidsG node l ps ks).1.length (kidsG node l ps ks).1 ∧ (∀ e ∈ (kidsG node l ps ks).2, Re (kidsG node l ps ks).1.length e) ∧ (kidsG node l ps ks).2.length = ks.length + l.length
  | [], ps, ks, h1, h2 => ⟨Nat.le_refl _, h1, h2, rfl⟩
  | k :: l, ps, ks, h1, h2 => by
    obtain ⟨a, b, c⟩ := hn k.toNat ps h1
    obtain ⟨a', b', c', d'⟩ := kidsG_ok hn l (node k.toNat ps).1 (ks ++ [(node k.toNat ps).2]) b (fun e he => by
      rcases List.mem_append.1 he with he | he
      · exact re_mono (h2 e he) a
      · rw [List.mem_singleton.1 he]; exact c)
    refine ⟨Nat.le_trans a a', b', c', ?_⟩
    rw [kidsG, d']
    simp only [List.length_append, List.length_cons, List.length_nil]
    omega
theorem nodeR_ok (l : List Node) (rule : Int) : ∀ (fu k : Nat) (ps : List Po), Rn ps.length ps → ps.length ≤ (nodeR l rule fu k ps).1.length ∧ Rn (nodeR l rule fu k ps).1.length (nodeR l rule fu k ps).1 ∧ Re (nodeR l rule fu k ps).1.length (nodeR l rule fu k ps).2
  | 0, k, ps, h => ⟨Nat.le_refl _, h, re_nil _ _⟩
  | fu + 1, k, ps, h => by
    rw [nodeR]
    split
    · exact ⟨Nat.le_refl _, h, re_nil _ _⟩
    · split
      · obtain ⟨a, b, c⟩ := putG_ok (p := ⟨(nAt l (k : Int)).s, 1, 1, rule, false, []⟩) h rfl
        rw [a]; exact ⟨Nat.le_succ _, b, c⟩
      · split
        · obtain ⟨a, b, c⟩ := putG_ok (p := ⟨(nAt l ((nAt l (k : Int)).l.headD 0)).s, (nAt l (k : Int)).lo, (nAt l (k : Int)).hi, rule, false, []⟩) h rfl
          rw [a]; exact ⟨Nat.le_succ _, b, c⟩
        · obtain ⟨a, b, c, _⟩ := kidsG_ok (fun k ps h => nodeR_ok l rule fu k ps h) (nAt l (k : Int)).l ps [] h (fun e he => by simp at he)
          generalize kidsG (nodeR l rule fu) (nAt l (k : Int)).l ps [] = s at a b c
          have hacc : ∀ nl, Re s.1.length (accE nl s.2) := fun nl => altG_ok s.2 (re_nil _ _) c
          split
          · obtain ⟨x, y, z⟩ := catG_ok s.2 (s := (s.1, ⟨true, [], []⟩)) b (re_nil _ _) c
            simp only [catG]
            simp only at x y z
            rw [x]; exact ⟨a, y, z⟩
          · split
            · simp only [lnk_len]
              exact ⟨a, rn_lnk (hacc true).1 _ b, hacc true⟩
            · exact ⟨a, b, hacc false⟩
end Go.Rad
/- Contracts: the document's places: lists put together, a place put, places that follow others, nodes in a row. -/
namespace Go.Rad
open Go Go.Proofs
set_option linter.all false
set_option maxRecDepth 20000
set_option maxHeartbeats 4000000

theorem both9uc (q f q' f' : Bool) (a b : List Int) (n : Nat) (ha : Rs n a) (hb : Rs n b) (hn : n ≤ 1000000) : ACall Tryz.prog 18 [.sl q f (ints a), .sl q' f' (ints b)] [] fun r s => r = .sl true false (ints (uni a b)) ∧ s = [] := by
  obtain ⟨U, hU⟩ : ∃ U, U = uni a b := ⟨_, rfl⟩
  rw [← hU]
  have la := rs_len ha
  have lb := rs_len hb
  have ra := ha.1
  have rb := hb.1
  clear ha hb
  refine ACall.enter Tryz.func18 rfl (by kernel_rfl) (Nat.le_of_ble_eq_true rfl) ?_; simp only [initTm, Nat.reduceAdd]
  repeat' (first
  | refine gSq ?_ | refine gSk ?_ | refine gBl ?_ | refine gIb ?_ | refine gEx rfl ?_
  | ((first
  | (refine gRg [] [0, 1, 4, 5, 6, 7, 17, 38, 62] ?_; intro K hK)
  | (refine gDr 5 [] 21 [0, 1, 2, 3, 4, 5, 6, 7, 8, 9, 10, 11, 12, 13, 14, 15, 16, 17, 18, 19, 20] [0, 1, 4, 5, 6, 7, 17, 38, 62] rfl ?_; intro K hK)
  | (refine gDr 8 [] 15 [0, 1, 2, 3, 4, 5, 6, 7, 8, 9, 10, 11, 12, 13, 14] [0, 1, 4, 5, 6, 7, 17, 38, 62] rfl ?_; intro K hK)
  | (refine gd_split ?_ ?_ <;> intro hb <;> (try simp only [bls] at hb) <;> (try simp only [hb]))
  | refine gRt [] [.tmp 4] rfl ?_ | refine gDn [] [.tmp 4] rfl ?_) <;> (try simp only [go_sem, simprocAttr]))
  | (refine hK _ _ ?_; clear hK K; simp only [go_sem, simprocAttr])
  | refine gCd (by simp only [go_sem, simprocAttr]; rfl) rfl ?_
  | refine brT ?_ | refine brF ?_
  | (refine brS ?_ ?_ <;> intro hc <;> (try simp only [bls] at hc) <;> (try simp only [hc, bls]))
  | intro _ | refine And.intro ?_ ?_)
  all_goals first | omega | (unfold bigLen; omega) | exact ⟨_, _, ⟨rfl, rfl⟩, rfl⟩ | exact ⟨_, rfl⟩ | (rename_i hy; simp only [List.mem_singleton] at hy; subst hy; rfl) | with_reducible rfl | skip
  refine AGood.ownTm 5 900 1 (by decide) rfl fun g9 => ?_
  simp only [go_sem, simprocAttr]
  refine AGood.prune [0, 1, 5, 6, 7] ?_; simp only [go_sem, simprocAttr]
  refine AGood.loopInv (α := Nat × Nat × Nat × List Int) (fun z => ([(0, .sl q f (ints a)), (1, .sl q' f' (ints b)), (5, .osl 900 z.2.2.1 0 z.2.2.2.length), (6, .int .i64 z.1), (7, .int .i64 z.2.1)], [(900, (z.2.2.1, .row 1 (ints z.2.2.2)))])) (fun z => z.1 ≤ a.length ∧ z.2.1 ≤ b.length ∧ z.2.2.2.length ≤ z.1 + z.2.1 ∧ U = z.2.2.2 ++ uni (a.drop z.1) (b.drop z.2.1)) (fun z => a.length + b.length - z.1 - z.2.1) (0, 0, g9, []) ⟨Nat.zero_le _, Nat.zero_le _, Nat.le_refl _, hU⟩ rfl ?_
  rintro ⟨i, k, g9, o⟩ ⟨hi, hk, hol, hrun⟩ ih
  simp only at hi hk hol hrun ih ⊢
  have d1 : (0 : Int) ≤ i := by omega
  have d2 : (0 : Int) ≤ k := by omega
  have d3 : (i : Int) + 1 = ((i + 1 : Nat) : Int) := by omega
  have d4 : (k : Int) + 1 = ((k + 1 : Nat) : Int) := by omega
  by_cases hia : i < a.length
  · have e1 : (i : Int) < a.length := by omega
    obtain ⟨x, hx⟩ : ∃ x, a[i]? = some x := ⟨_, List.getElem?_eq_getElem hia⟩
    obtain ⟨x1, x2⟩ := drop_rise ra hx
    by_cases hkb : k < b.length
    · have e2 : ¬ (k : Int) = b.length := by omega
      have e3 : (k : Int) < b.length := by omega
      obtain ⟨y, hy⟩ : ∃ y, b[k]? = some y := ⟨_, List.getElem?_eq_getElem hkb⟩
      obtain ⟨y1, y2⟩ := drop_rise rb hy
      by_cases hxy : x < y
      · rw [x1, uni_l x2 (fun z hz => by rw [y1] at hz; rcases List.mem_cons.1 hz with rfl | hz; exact hxy; have := y2 z hz; omega)] at hrun
        repeat' (first
  | refine gSq ?_ | refine gSk ?_ | refine gBl ?_ | refine gIb ?_ | refine gEx rfl ?_
  | ((first
  | (refine gRg [44] [0, 1, 4, 5, 6, 7, 17, 38, 62] ?_; intro K hK)
  | (refine gDr 5 [44] 21 [0, 1, 2, 3, 4, 5, 6, 7, 8, 9, 10, 11, 12, 13, 14, 15, 16, 17, 18, 19, 20] [0, 1, 4, 5, 6, 7, 17, 38, 62] rfl ?_; intro K hK)
  | (refine gDr 8 [44] 15 [0, 1, 2, 3, 4, 5, 6, 7, 8, 9, 10, 11, 12, 13, 14] [0, 1, 4, 5, 6, 7, 17, 38, 62] rfl ?_; intro K hK)
  | (refine gd_split ?_ ?_ <;> intro hb <;> (try simp only [bls] at hb) <;> (try simp only [hb]))
  | refine gRt [] [.tmp 4] rfl ?_ | refine gDn [] [.tmp 4] rfl ?_) <;> (try simp only [go_sem, simprocAttr, d1, d2, d3, e1, e2, e3, hx, hy, hxy, Option.some.injEq, forall_eq']))
  | (refine hK _ _ ?_; clear hK K; simp only [go_sem, simprocAttr])
  | refine gCd (by simp only [go_sem, simprocAttr]; rfl) rfl ?_
  | refine brT ?_ | refine brF ?_
  | (refine brS ?_ ?_ <;> intro hc <;> (try simp only [bls] at hc) <;> (try simp only [hc, bls]))
  | intro _ | refine And.intro ?_ ?_)
        all_goals first | omega | (unfold bigLen; omega) | exact ⟨_, _, ⟨rfl, rfl⟩, rfl⟩ | exact ⟨_, rfl⟩ | (rename_i hy; simp only [List.mem_singleton] at hy; subst hy; rfl) | with_reducible rfl | skip
        rename_i h9
        refine AGood.filt [900] ?_
        simp only [sf_cons, sf_nil, go_sem, simprocAttr]
        refine AGood.prune [0, 1, 5, 6, 7] ?_; simp only [go_sem, simprocAttr]
        exact AGood.cast (ih (i + 1, k, h9, o ++ [x]) ⟨by simp only; omega, by simp only; omega, by simp; omega, by simp only [hrun, List.append_assoc, List.cons_append, List.nil_append]⟩ (by simp only; omega)) (by simp) (by simp)
      · by_cases hxe : x = y
        · subst hxe
          rw [x1, y1, uni_e x2 y2] at hrun
          repeat' (first
  | refine gSq ?_ | refine gSk ?_ | refine gBl ?_ | refine gIb ?_ | refine gEx rfl ?_
  | ((first
  | (refine gRg [70] [0, 1, 4, 5, 6, 7, 17, 38, 62] ?_; intro K hK)
  | (refine gDr 5 [70] 21 [0, 1, 2, 3, 4, 5, 6, 7, 8, 9, 10, 11, 12, 13, 14, 15, 16, 17, 18, 19, 20] [0, 1, 4, 5, 6, 7, 17, 38, 62] rfl ?_; intro K hK)
  | (refine gDr 8 [70] 15 [0, 1, 2, 3, 4, 5, 6, 7, 8, 9, 10, 11, 12, 13, 14] [0, 1, 4, 5, 6, 7, 17, 38, 62] rfl ?_; intro K hK)
  | (refine gd_split ?_ ?_ <;> intro hb <;> (try simp only [bls] at hb) <;> (try simp only [hb]))
  | refine gRt [] [.tmp 4] rfl ?_ | refine gDn [] [.tmp 4] rfl ?_) <;> (try simp only [go_sem, simprocAttr, d1, d2, d3, d4, e1, e2, e3, hx, hy, hxy, Option.some.injEq, forall_eq', eq_self, decide_true]))
  | (refine hK _ _ ?_; clear hK K; simp only [go_sem, simprocAttr])
  | refine gCd (by simp only [go_sem, simprocAttr]; rfl) rfl ?_
  | refine brT ?_ | refine brF ?_
  | (refine brS ?_ ?_ <;> intro hc <;> (try simp only [bls] at hc) <;> (try simp only [hc, bls]))
  | intro _ | refine And.intro ?_ ?_)
          all_goals first | omega | (unfold bigLen; omega) | exact ⟨_, _, ⟨rfl, rfl⟩, rfl⟩ | exact ⟨_, rfl⟩ | (rename_i hy; simp only [List.mem_singleton] at hy; subst hy; rfl) | with_reducible rfl | skip
          rename_i h9
          refine AGood.filt [900] ?_
          simp only [sf_cons, sf_nil, go_sem, simprocAttr]
          refine AGood.prune [0, 1, 5, 6, 7] ?_; simp only [go_sem, simprocAttr]
          exact AGood.cast (ih (i + 1, k + 1, h9, o ++ [x]) ⟨by simp only; omega, by simp only; omega, by simp; omega, by simp only [hrun, List.append_assoc, List.cons_append, List.nil_append]⟩ (by simp only; omega)) (by simp) (by simp)
        · rw [y1, uni_r (fun z hz => by rw [x1] at hz; rcases List.mem_cons.1 hz with rfl | hz; omega; have := x2 z hz; omega) y2] at hrun
          repeat' (first
  | refine gSq ?_ | refine gSk ?_ | refine gBl ?_ | refine gIb ?_ | refine gEx rfl ?_
  | ((first
  | (refine gRg [70] [0, 1, 4, 5, 6, 7, 17, 38, 62] ?_; intro K hK)
  | (refine gDr 5 [70] 21 [0, 1, 2, 3, 4, 5, 6, 7, 8, 9, 10, 11, 12, 13, 14, 15, 16, 17, 18, 19, 20] [0, 1, 4, 5, 6, 7, 17, 38, 62] rfl ?_; intro K hK)
  | (refine gDr 8 [70] 15 [0, 1, 2, 3, 4, 5, 6, 7, 8, 9, 10, 11, 12, 13, 14] [0, 1, 4, 5, 6, 7, 17, 38, 62] rfl ?_; intro K hK)
  | (refine gd_split ?_ ?_ <;> intro hb <;> (try simp only [bls] at hb) <;> (try simp only [hb]))
  | refine gRt [] [.tmp 4] rfl ?_ | refine gDn [] [.tmp 4] rfl ?_) <;> (try simp only [go_sem, simprocAttr, d1, d2, d3, d4, e1, e2, e3, hx, hy, hxy, hxe, Option.some.injEq, forall_eq']))
  | (refine hK _ _ ?_; clear hK K; simp only [go_sem, simprocAttr])
  | refine gCd (by simp only [go_sem, simprocAttr]; rfl) rfl ?_
  | refine brT ?_ | refine brF ?_
  | (refine brS ?_ ?_ <;> intro hc <;> (try simp only [bls] at hc) <;> (try simp only [hc, bls]))
  | intro _ | refine And.intro ?_ ?_)
          all_goals first | omega | (unfold bigLen; omega) | exact ⟨_, _, ⟨rfl, rfl⟩, rfl⟩ | exact ⟨_, rfl⟩ | (rename_i hy; simp only [List.mem_singleton] at hy; subst hy; rfl) | with_reducible rfl | skip
          rename_i h9
          refine AGood.filt [900] ?_
          simp only [sf_cons, sf_nil, go_sem, simprocAttr]
          refine AGood.prune [0, 1, 5, 6, 7] ?_; simp only [go_sem, simprocAttr]
          exact AGood.cast (ih (i, k + 1, h9, o ++ [y]) ⟨by simp only; omega, by simp only; omega, by simp; omega, by simp only [hrun, List.append_assoc, List.cons_append, List.nil_append]⟩ (by simp only; omega)) (by simp) (by simp)
    · have e2 : (k : Int) = b.length := by omega
      rw [x1, uni_l x2 (fun z hz => by rw [List.drop_of_length_le (by omega)] at hz; simp at hz)] at hrun
      repeat' (first
  | refine gSq ?_ | refine gSk ?_ | refine gBl ?_ | refine gIb ?_ | refine gEx rfl ?_
  | ((first
  | (refine gRg [44] [0, 1, 4, 5, 6, 7, 17, 38, 62] ?_; intro K hK)
  | (refine gDr 5 [44] 21 [0, 1, 2, 3, 4, 5, 6, 7, 8, 9, 10, 11, 12, 13, 14, 15, 16, 17, 18, 19, 20] [0, 1, 4, 5, 6, 7, 17, 38, 62] rfl ?_; intro K hK)
  | (refine gDr 8 [44] 15 [0, 1, 2, 3, 4, 5, 6, 7, 8, 9, 10, 11, 12, 13, 14] [0, 1, 4, 5, 6, 7, 17, 38, 62] rfl ?_; intro K hK)
  | (refine gd_split ?_ ?_ <;> intro hb <;> (try simp only [bls] at hb) <;> (try simp only [hb]))
  | refine gRt [] [.tmp 4] rfl ?_ | refine gDn [] [.tmp 4] rfl ?_) <;> (try simp only [go_sem, simprocAttr, d1, d2, d3, e1, eq_true e2, hx, Option.some.injEq, forall_eq']))
  | (refine hK _ _ ?_; clear hK K; simp only [go_sem, simprocAttr])
  | refine gCd (by simp only [go_sem, simprocAttr]; rfl) rfl ?_
  | refine brT ?_ | refine brF ?_
  | (refine brS ?_ ?_ <;> intro hc <;> (try simp only [bls] at hc) <;> (try simp only [hc, bls]))
  | intro _ | refine And.intro ?_ ?_)
      all_goals first | omega | (unfold bigLen; omega) | exact ⟨_, _, ⟨rfl, rfl⟩, rfl⟩ | exact ⟨_, rfl⟩ | (rename_i hy; simp only [List.mem_singleton] at hy; subst hy; rfl) | with_reducible rfl | skip
      rename_i h9
      refine AGood.filt [900] ?_
      simp only [sf_cons, sf_nil, go_sem, simprocAttr]
      refine AGood.prune [0, 1, 5, 6, 7] ?_; simp only [go_sem, simprocAttr]
      exact AGood.cast (ih (i + 1, k, h9, o ++ [x]) ⟨by simp only; omega, by simp only; omega, by simp; omega, by simp only [hrun, List.append_assoc, List.cons_append, List.nil_append]⟩ (by simp only; omega)) (by simp) (by simp)
  · have e1 : ¬ (i : Int) < a.length := by omega
    by_cases hkb : k < b.length
    · have e2 : ¬ (k : Int) = b.length := by omega
      have e3 : (k : Int) < b.length := by omega
      obtain ⟨y, hy⟩ : ∃ y, b[k]? = some y := ⟨_, List.getElem?_eq_getElem hkb⟩
      obtain ⟨y1, y2⟩ := drop_rise rb hy
      rw [y1, uni_r (fun z hz => by rw [List.drop_of_length_le (by omega)] at hz; simp at hz) y2] at hrun
      repeat' (first
  | refine gSq ?_ | refine gSk ?_ | refine gBl ?_ | refine gIb ?_ | refine gEx rfl ?_
  | ((first
  | (refine gRg [70] [0, 1, 4, 5, 6, 7, 17, 38, 62] ?_; intro K hK)
  | (refine gDr 5 [70] 21 [0, 1, 2, 3, 4, 5, 6, 7, 8, 9, 10, 11, 12, 13, 14, 15, 16, 17, 18, 19, 20] [0, 1, 4, 5, 6, 7, 17, 38, 62] rfl ?_; intro K hK)
  | (refine gDr 8 [70] 15 [0, 1, 2, 3, 4, 5, 6, 7, 8, 9, 10, 11, 12, 13, 14] [0, 1, 4, 5, 6, 7, 17, 38, 62] rfl ?_; intro K hK)
  | (refine gd_split ?_ ?_ <;> intro hb <;> (try simp only [bls] at hb) <;> (try simp only [hb]))
  | refine gRt [] [.tmp 4] rfl ?_ | refine gDn [] [.tmp 4] rfl ?_) <;> (try simp only [go_sem, simprocAttr, d1, d2, d4, e1, e2, e3, hy, Option.some.injEq, forall_eq']))
  | (refine hK _ _ ?_; clear hK K; simp only [go_sem, simprocAttr])
  | refine gCd (by simp only [go_sem, simprocAttr]; rfl) rfl ?_
  | refine brT ?_ | refine brF ?_
  | (refine brS ?_ ?_ <;> intro hc <;> (try simp only [bls] at hc) <;> (try simp only [hc, bls]))
  | intro _ | refine And.intro ?_ ?_)
      all_goals first | omega | (unfold bigLen; omega) | exact ⟨_, _, ⟨rfl, rfl⟩, rfl⟩ | exact ⟨_, rfl⟩ | (rename_i hy; simp only [List.mem_singleton] at hy; subst hy; rfl) | with_reducible rfl | skip
      rename_i h9
      refine AGood.filt [900] ?_
      simp only [sf_cons, sf_nil, go_sem, simprocAttr]
      refine AGood.prune [0, 1, 5, 6, 7] ?_; simp only [go_sem, simprocAttr]
      exact AGood.cast (ih (i, k + 1, h9, o ++ [y]) ⟨by simp only; omega, by simp only; omega, by simp; omega, by simp only [hrun, List.append_assoc, List.cons_append, List.nil_append]⟩ (by simp only; omega)) (by simp) (by simp)
    · have e3 : ¬ (k : Int) < b.length := by omega
      rw [List.drop_of_length_le (by omega), List.drop_of_length_le (by omega), show uni [] [] = [] from rfl, List.append_nil] at hrun
      subst hrun
      clear ih
      have c15 : (ints U).take U.length = ints U := List.take_of_length_le (by simp)
      repeat' (first
  | refine gSq ?_ | refine gSk ?_ | refine gBl ?_ | refine gIb ?_ | refine gEx rfl ?_
  | ((first
  | (refine AGood.at 12 ?_; (refine AGood.freeze 900 rfl ?_; simp only [rfT, rfS, rfO, rf, rf1, c15, List.length_map, Nat.le_refl, true_and, go_sem, simprocAttr]); (refine gRg [] [0, 1, 4, 5, 6, 7, 17, 38, 62] ?_; intro K hK))
  | (refine gRg [] [0, 1, 4, 5, 6, 7, 17, 38, 62] ?_; intro K hK)
  | (refine gDr 5 [] 21 [0, 1, 2, 3, 4, 5, 6, 7, 8, 9, 10, 11, 12, 13, 14, 15, 16, 17, 18, 19, 20] [0, 1, 4, 5, 6, 7, 17, 38, 62] rfl ?_; intro K hK)
  | (refine gDr 8 [] 15 [0, 1, 2, 3, 4, 5, 6, 7, 8, 9, 10, 11, 12, 13, 14] [0, 1, 4, 5, 6, 7, 17, 38, 62] rfl ?_; intro K hK)
  | (refine gd_split ?_ ?_ <;> intro hb <;> (try simp only [bls] at hb) <;> (try simp only [hb]))
  | refine gRt [] [.tmp 4] rfl ?_ | refine gDn [] [.tmp 4] rfl ?_) <;> (try simp only [go_sem, simprocAttr, e1, e3]))
  | (refine hK _ _ ?_; clear hK K; simp only [go_sem, simprocAttr])
  | refine gCd (by simp only [go_sem, simprocAttr]; rfl) rfl ?_
  | refine brT ?_ | refine brF ?_
  | (refine brS ?_ ?_ <;> intro hc <;> (try simp only [bls] at hc) <;> (try simp only [hc, bls]))
  | intro _ | refine And.intro ?_ ?_)
      all_goals first | omega | (unfold bigLen; omega) | exact ⟨_, _, ⟨rfl, rfl⟩, rfl⟩ | exact ⟨_, rfl⟩ | (rename_i hy; simp only [List.mem_singleton] at hy; subst hy; rfl) | with_reducible rfl | skip
theorem rput9uc (g g1 : Nat) (ps : List Po) (p : Po) (f : Bool) (hp : ps.length ≤ 100000000) :
    ACall Tryz.prog 39 [.bx 1000 g 0, .agg (p.cellsF f)] (gsto g g1 ps) fun r s => r = .agg (putG p ps).2.cells ∧ ∃ h1, s = gsto g h1 (putG p ps).1 := by
  obtain ⟨⟨sa, sb, sc, sd⟩, lo, hi, rule, last, next⟩ := p
  have e1 : ((ps.length + 1 : Nat) : Int) - 1 = ps.length := by omega
  simp only [putG, gsto, Po.cellsF, En.cells]
  refine ACall.enter Tryz.func39 rfl (by kernel_rfl) (Nat.le_of_ble_eq_true rfl) ?_; simp only [initTm, Nat.reduceAdd]
  repeat' (first
  | refine gSq ?_ | refine gSk ?_ | refine gBl ?_ | refine gIb ?_ | refine gEx rfl ?_
  | ((first
  | (refine gRg [12, 22] [0, 1, 3, 4, 5] ?_; intro K hK)
  | (refine gDr 1 [12, 22] 7 [0, 1, 2, 3, 4, 5, 6, 7, 8, 9, 10] [0, 1, 3, 4, 5] rfl ?_; intro K hK)
  | (refine gd_split ?_ ?_ <;> intro hb <;> (try simp only [bls] at hb) <;> (try simp only [hb]))
  | refine gRt [1000, 1001] [.cell 4 56] rfl ?_ | refine gDn [1000, 1001] [.cell 4 56] rfl ?_) <;> (try simp only [go_sem, simprocAttr, e1]))
  | (refine hK _ _ ?_; clear hK K; simp only [go_sem, simprocAttr])
  | refine gCd (by simp only [go_sem, simprocAttr]; rfl) rfl ?_
  | refine brT ?_ | refine brF ?_
  | (refine brS ?_ ?_ <;> intro hc <;> (try simp only [bls] at hc) <;> (try simp only [hc, bls]))
  | intro _ | refine And.intro ?_ ?_)
  all_goals first | omega | (unfold bigLen; omega) | exact ⟨_, _, ⟨rfl, rfl⟩, rfl⟩ | exact ⟨_, rfl⟩ | (rename_i hy; simp only [List.mem_singleton] at hy; subst hy; rfl) | with_reducible rfl | skip
  rename_i h
  exact ⟨h, by simp⟩
end Go.Rad
/- Contracts: the document's places: places that follow others, nodes in a row. -/
namespace Go.Rad
open Go Go.Proofs
set_option linter.all false
set_option maxRecDepth 20000
set_option maxHeartbeats 4000000

theorem rlink9uc (g g1 : Nat) (q f q' f' : Bool) (fr to : List Int) (ps : List Po) (hp : ps.length ≤ 1000000) (hn : Rn ps.length ps) (hfr : ∀ x ∈ fr, 0 ≤ x ∧ x < (ps.length : Int)) (hto : Rs ps.length to) (hfl : fr.length ≤ 100000000) :
    ACall Tryz.prog 41 [.bx 1000 g 0, .sl q f (ints fr), .sl q' f' (ints to)] (gsto g g1 ps) fun r s => r = .tup [] ∧ s = gsto g g1 (lnk fr to ps) := by
  obtain ⟨N, hN⟩ : ∃ N, N = ps.length := ⟨_, rfl⟩
  rw [← hN] at hn hfr hto hp
  have htl := rs_len hto
  simp only [gsto, lnk_len, ← hN]
  refine ACall.enter Tryz.func41 rfl (by kernel_rfl) (Nat.le_of_ble_eq_true rfl) ?_; simp only [initTm, Nat.reduceAdd]
  repeat' (first
  | refine gSq ?_ | refine gSk ?_ | refine gBl ?_ | refine gIb ?_ | refine gEx rfl ?_
  | ((first
  | (refine gRg [] [0, 1, 2, 6, 10] ?_; intro K hK)
  | (refine gDr 3 [] 20 [0, 1, 2, 3, 4, 5, 6, 7, 8, 9, 10, 11, 12, 13, 14, 15, 16, 17, 18, 19, 20, 21, 22, 23] [0, 1, 2, 6, 10] rfl ?_; intro K hK)
  | (refine gd_split ?_ ?_ <;> intro hb <;> (try simp only [bls] at hb) <;> (try simp only [hb]))
  | refine gRt [1000, 1001] [] rfl ?_ | refine gDn [1000, 1001] [] rfl ?_) <;> (try simp only [go_sem, simprocAttr]))
  | (refine hK _ _ ?_; clear hK K; simp only [go_sem, simprocAttr])
  | refine gCd (by simp only [go_sem, simprocAttr]; rfl) rfl ?_
  | refine brT ?_ | refine brF ?_
  | (refine brS ?_ ?_ <;> intro hc <;> (try simp only [bls] at hc) <;> (try simp only [hc, bls]))
  | intro _ | refine And.intro ?_ ?_)
  all_goals first | omega | (unfold bigLen; omega) | exact ⟨_, _, ⟨rfl, rfl⟩, rfl⟩ | exact ⟨_, rfl⟩ | (rename_i hy; simp only [List.mem_singleton] at hy; subst hy; rfl) | with_reducible rfl | skip
  refine AGood.prune [0, 1, 2, 6] ?_; simp only [go_sem, simprocAttr]
  refine AGood.loopInv (α := Nat) (fun j => ([(0, .bx 1000 g 0), (1, .sl q f (ints fr)), (2, .sl q' f' (ints to)), (6, .int .i64 j)], [(1000, (g, .box [.osl 1001 g1 0 N])), (1001, (g1, .row 9 (poss (lnk (fr.take j) to ps))))])) (fun j => j ≤ fr.length) (fun j => fr.length - j) 0 (Nat.zero_le _) rfl ?_
  rintro j hj ih
  simp only at hj ih ⊢
  by_cases hle : j < fr.length
  · have e4 : (j : Int) < fr.length := by omega
    have e5 : (0 : Int) ≤ j := by omega
    have e6 : (j : Int) + 1 = ((j + 1 : Nat) : Int) := by omega
    obtain ⟨x, hx⟩ : ∃ x, fr[j]? = some x := ⟨_, List.getElem?_eq_getElem hle⟩
    have hxb := hfr x (List.mem_of_getElem? hx)
    obtain ⟨k, rfl⟩ : ∃ k : Nat, x = k := ⟨x.toNat, by omega⟩
    have hst : lnk (fr.take (j + 1)) to ps = lnk1 to (lnk (fr.take j) to ps) k := by rw [take_one hx]; simp [lnk]
    have hql := lnk_len to (fr.take j) ps
    have hqn := rn_lnk hto (fr.take j) hn
    generalize lnk (fr.take j) to ps = Q at hst hql hqn
    have k1 : k < Q.length := by omega
    have k2 : (k : Int) < (N : Int) := by omega
    have k3 : (0 : Int) ≤ k := by omega
    obtain ⟨p, hpk⟩ : ∃ p, Q[k]? = some p := ⟨_, List.getElem?_eq_getElem k1⟩
    have hpn := hqn p (List.mem_of_getElem? hpk)
    rw [lnk1, Int.toNat_natCast, modify_get _ hpk] at hst
    have hm := both9uc true false q' f' p.next to N hpn hto (by omega)
    obtain ⟨⟨sa, sb, sc, sd⟩, lo, hi, rule, last, next⟩ := p
    simp only at hst hm hpn
    repeat' (first
  | refine gSq ?_ | refine gSk ?_ | refine gBl ?_ | refine gIb ?_ | refine gEx rfl ?_
  | ((first
  | (refine gRg [] [0, 1, 2, 6, 10] ?_; intro K hK)
  | (refine gDr 3 [] 23 [0, 1, 2, 3, 4, 5, 6, 7, 8, 9, 10, 11, 12, 13, 14, 15, 16, 17, 18, 19, 20, 21, 22, 23] [0, 1, 2, 6, 10] rfl ?_; intro K hK)
  | refine ⟨_, ACall.alone (hm) rfl rfl rfl, ?_⟩
  | (refine gd_split ?_ ?_ <;> intro hb <;> (try simp only [bls] at hb) <;> (try simp only [hb]))
  | refine gRt [1000, 1001] [] rfl ?_ | refine gDn [1000, 1001] [] rfl ?_) <;> (try simp only [go_sem, simprocAttr, e4, e5, e6, k1, k2, k3, hx, hpk, Option.some.injEq, forall_eq']))
  | (refine hK _ _ ?_; clear hK K; simp only [go_sem, simprocAttr])
  | refine gCd (by simp only [go_sem, simprocAttr]; rfl) rfl ?_
  | refine brT ?_ | refine brF ?_
  | (refine brS ?_ ?_ <;> intro hc <;> (try simp only [bls] at hc) <;> (try simp only [hc, bls]))
  | intro _ | refine And.intro ?_ ?_)
    all_goals first | omega | (unfold bigLen; omega) | exact ⟨_, _, ⟨rfl, rfl⟩, rfl⟩ | exact ⟨_, rfl⟩ | (rename_i hy; simp only [List.mem_singleton] at hy; subst hy; rfl) | with_reducible rfl | skip
    rename_i z hz
    have hz2 : z = Po.cells ⟨⟨sa, sb, sc, sd⟩, lo, hi, rule, last, next⟩ := by rw [List.getElem?_map, hpk] at hz; exact (Option.some.inj hz).symm
    subst hz2
    refine AGood.filt [1000, 1001] ?_
    simp only [sf_cons, sf_nil, go_sem, simprocAttr]
    refine AGood.prune [0, 1, 2, 6] ?_; simp only [go_sem, simprocAttr]
    exact AGood.cast (ih (j + 1) (by omega) (by omega)) rfl (by rw [hst]; simp [List.map_set])
  · have e4 : ¬ (j : Int) < fr.length := by omega
    rw [List.take_of_length_le (by omega)]
    clear ih
    repeat' (first
  | refine gSq ?_ | refine gSk ?_ | refine gBl ?_ | refine gIb ?_ | refine gEx rfl ?_
  | ((first
  | (refine gRg [] [0, 1, 2, 6, 10] ?_; intro K hK)
  | (refine gDr 3 [] 20 [0, 1, 2, 3, 4, 5, 6, 7, 8, 9, 10, 11, 12, 13, 14, 15, 16, 17, 18, 19, 20, 21, 22, 23] [0, 1, 2, 6, 10] rfl ?_; intro K hK)
  | (refine gd_split ?_ ?_ <;> intro hb <;> (try simp only [bls] at hb) <;> (try simp only [hb]))
  | refine gRt [1000, 1001] [] rfl ?_ | refine gDn [1000, 1001] [] rfl ?_) <;> (try simp only [go_sem, simprocAttr, e4]))
  | (refine hK _ _ ?_; clear hK K; simp only [go_sem, simprocAttr])
  | refine gCd (by simp only [go_sem, simprocAttr]; rfl) rfl ?_
  | refine brT ?_ | refine brF ?_
  | (refine brS ?_ ?_ <;> intro hc <;> (try simp only [bls] at hc) <;> (try simp only [hc, bls]))
  | intro _ | refine And.intro ?_ ?_)
    all_goals first | omega | (unfold bigLen; omega) | exact ⟨_, _, ⟨rfl, rfl⟩, rfl⟩ | exact ⟨_, rfl⟩ | (rename_i hy; simp only [List.mem_singleton] at hy; subst hy; rfl) | with_reducible rfl | skip
theorem rcat9uc (g g1 : Nat) (q f : Bool) (ks : List En) (ps : List Po) (hp : ps.length ≤ 1000000) (hn : Rn ps.length ps) (hks : ∀ y ∈ ks, Re ps.length y) (hkl : ks.length ≤ 1000000) (hk0 : 1 ≤ ks.length) :
    ACall Tryz.prog 40 [.bx 1000 g 0, .sl q f (ens ks)] (gsto g g1 ps) fun r s => r = .agg (catG ps ks).2.cells ∧ s = gsto g g1 (catG ps ks).1 := by
  obtain ⟨S, hS⟩ : ∃ S : Nat → List Po × En, S = fun j => (ks.take j).foldl thenG (ps, ⟨true, [], []⟩) := ⟨_, rfl⟩
  have hS0 : S 0 = (ps, ⟨true, [], []⟩) := by rw [hS]; rfl
  have hS1 : ∀ (i : Nat) (y : En), ks[i]? = some y → S (i + 1) = thenG (S i) y := fun i y h => by rw [hS]; simp only [take_one h, List.foldl_append]; rfl
  have hSf : ∀ i, (S i).1.length = ps.length ∧ Rn ps.length (S i).1 ∧ Re ps.length (S i).2 := fun i => by
    rw [hS]
    exact catG_ok (ks.take i) (s := (ps, ⟨true, [], []⟩)) hn (re_nil _ _) fun y hy => hks y (List.mem_of_mem_take hy)
  have hSE : catG ps ks = S ks.length := by rw [hS, catG]; simp only [List.take_length]
  have hSn : ∀ i, i = 0 → (S i).2.null = true := fun i hi => by rw [hi, hS0]
  rw [hSE]
  clear hS hSE
  simp only [gsto]
  refine ACall.enter Tryz.func40 rfl (by kernel_rfl) (Nat.le_of_ble_eq_true rfl) ?_; simp only [initTm, Nat.reduceAdd]
  repeat' (first
  | refine gSq ?_ | refine gSk ?_ | refine gBl ?_ | refine gIb ?_ | refine gEx rfl ?_
  | ((first
  | (refine gRg [] [0, 1, 4, 5, 6, 7, 12, 26, 34] ?_; intro K hK)
  | (refine gd_split ?_ ?_ <;> intro hb <;> (try simp only [bls] at hb) <;> (try simp only [hb]))
  | refine gRt [1000, 1001] [.cell 4 56] rfl ?_ | refine gDn [1000, 1001] [.cell 4 56] rfl ?_) <;> (try simp only [go_sem, simprocAttr, AVal.isCell]))
  | (refine hK _ _ ?_; clear hK K; simp only [go_sem, simprocAttr])
  | refine gCd (by simp only [go_sem, simprocAttr]; rfl) rfl ?_
  | refine brT ?_ | refine brF ?_
  | (refine brS ?_ ?_ <;> intro hc <;> (try simp only [bls] at hc) <;> (try simp only [hc, bls]))
  | intro _ | refine And.intro ?_ ?_)
  all_goals first | omega | (unfold bigLen; omega) | exact ⟨_, _, ⟨rfl, rfl⟩, rfl⟩ | exact ⟨_, rfl⟩ | (rename_i hy; simp only [List.mem_singleton] at hy; subst hy; rfl) | with_reducible rfl | skip
  rename_i h4 h5
  refine AGood.prune [0, 1, 4, 5, 6] ?_; simp only [go_sem, simprocAttr]
  obtain ⟨c4, hc4⟩ : ∃ c, c = [AVal.bool false, AVal.sl true true [], AVal.sl true true []] := ⟨_, rfl⟩
  rw [← hc4]
  refine AGood.loopInv (α := Nat) (fun j => ([(0, .bx 1000 g 0), (1, .sl q f (ens ks)), (4, .bx 4 h4 0), (5, .bx 5 h5 0), (6, .int .i64 j)], [(4, h4, .box c4), (5, h5, .box [.bool (S j).2.null, .sl true (decide (j = 0)) (ints (S j).2.first), .sl true (decide (j = 0)) (ints (S j).2.last)]), (1000, (g, .box [.osl 1001 g1 0 (S j).1.length])), (1001, (g1, .row 9 (poss (S j).1)))])) (fun j => j ≤ ks.length) (fun j => ks.length - j) 0 (Nat.zero_le _) (by rw [hS0]; rfl) ?_
  rintro j hj ih
  simp only at hj ih ⊢
  subst hc4
  obtain ⟨l1, l2, l3⟩ := hSf j
  have hn0 := hSn j
  by_cases hle : j < ks.length
  · have e4 : (j : Int) < ks.length := by omega
    have e5 : (0 : Int) ≤ j := by omega
    have e6 : (j : Int) + 1 = ((j + 1 : Nat) : Int) := by omega
    obtain ⟨y, hy⟩ : ∃ y, ks[j]? = some y := ⟨_, List.getElem?_eq_getElem hle⟩
    have hyr := hks y (List.mem_of_getElem? hy)
    have hst := hS1 j y hy
    generalize S j = s at hst l1 l2 l3 hn0 ⊢
    obtain ⟨Q, x⟩ := s
    simp only at l1 l2 l3 hn0 hst ⊢
    rw [← l1] at l2 l3 hyr
    have hlk := fun f1 => rlink9uc g g1 true f1 true false x.last y.first Q (by omega) l2 l3.2.2 hyr.1 (by have := rs_len l3.2; omega)
    have hb1 := fun f1 => both9uc true f1 true false x.first y.first _ l3.1 hyr.1 (by omega)
    have hb2 := fun f1 => both9uc true f1 true false x.last y.last _ l3.2 hyr.2 (by omega)
    have hdf : decide (j + 1 = 0) = false := rfl
    obtain ⟨xn, xf, xl⟩ := x
    obtain ⟨yn, yf, yl⟩ := y
    simp only [thenG, thenE] at hlk hb1 hb2 hst hn0
    simp only [gsto, lnk_len] at hlk
    have hLl := lnk_len yf xl Q
    generalize lnk xl yf Q = V at hlk hst hLl
    clear l2 l3 hyr
    have hfb : xn = false → decide (j = 0) = false := fun h => by
      refine decide_eq_false fun h0 => ?_
      rw [hn0 h0] at h; cases h
    clear hn0
    cases xn
    · rw [hfb rfl]
      cases yn
      · simp only [Bool.false_eq_true, if_false, Bool.and_false] at hst
        repeat' (first
  | refine gSq ?_ | refine gSk ?_ | refine gBl ?_ | refine gIb ?_ | refine gEx rfl ?_
  | ((first
  | (refine gRg [] [0, 1, 4, 5, 6, 7, 12, 26, 34] ?_; intro K hK)
  | refine cAl (hb1 _) rfl rfl rfl ?_
  | refine cAl (hb2 _) rfl rfl rfl ?_
  | (refine ACall.use [(1000, 1000), (1001, 1001)] [] rfl (hlk _) rfl rfl rfl ?_; (first | rintro _ _ ⟨rfl, rfl⟩ | rintro _ _ ⟨rfl, h1, rfl⟩); refine ⟨.inl rfl, rfl, ?_⟩; simp only [bk, bk2, bk1, bkS, bkO, idOf, delAll, go_sem, simprocAttr])
  | (refine gd_split ?_ ?_ <;> intro hb <;> (try simp only [bls] at hb) <;> (try simp only [hb]))
  | refine gRt [1000, 1001] [.cell 4 56] rfl ?_ | refine gDn [1000, 1001] [.cell 4 56] rfl ?_) <;> (try simp only [go_sem, simprocAttr, e4, e5, e6, hy, AVal.isCell, Option.some.injEq, forall_eq']))
  | (refine hK _ _ ?_; clear hK K; simp only [go_sem, simprocAttr])
  | refine gCd (by simp only [go_sem, simprocAttr]; rfl) rfl ?_
  | refine brT ?_ | refine brF ?_
  | (refine brS ?_ ?_ <;> intro hc <;> (try simp only [bls] at hc) <;> (try simp only [hc, bls]))
  | intro _ | refine And.intro ?_ ?_)
        all_goals first | omega | (unfold bigLen; omega) | exact ⟨_, _, ⟨rfl, rfl⟩, rfl⟩ | exact ⟨_, rfl⟩ | (rename_i hy; simp only [List.mem_singleton] at hy; subst hy; rfl) | with_reducible rfl | skip
        refine AGood.filt [4, 5, 1000, 1001] ?_
        simp only [sf_cons, sf_nil, go_sem, simprocAttr]
        refine AGood.prune [0, 1, 4, 5, 6] ?_; simp only [go_sem, simprocAttr]
        refine AGood.cast (ih (j + 1) (by omega) (by omega)) rfl ?_
        rw [hst]
        simp only [hdf, hLl, Bool.and_false]
      · simp only [Bool.false_eq_true, if_false, if_true, Bool.false_and] at hst
        repeat' (first
  | refine gSq ?_ | refine gSk ?_ | refine gBl ?_ | refine gIb ?_ | refine gEx rfl ?_
  | ((first
  | (refine gRg [] [0, 1, 4, 5, 6, 7, 12, 26, 34] ?_; intro K hK)
  | refine cAl (hb1 _) rfl rfl rfl ?_
  | refine cAl (hb2 _) rfl rfl rfl ?_
  | (refine ACall.use [(1000, 1000), (1001, 1001)] [] rfl (hlk _) rfl rfl rfl ?_; (first | rintro _ _ ⟨rfl, rfl⟩ | rintro _ _ ⟨rfl, h1, rfl⟩); refine ⟨.inl rfl, rfl, ?_⟩; simp only [bk, bk2, bk1, bkS, bkO, idOf, delAll, go_sem, simprocAttr])
  | (refine gd_split ?_ ?_ <;> intro hb <;> (try simp only [bls] at hb) <;> (try simp only [hb]))
  | refine gRt [1000, 1001] [.cell 4 56] rfl ?_ | refine gDn [1000, 1001] [.cell 4 56] rfl ?_) <;> (try simp only [go_sem, simprocAttr, e4, e5, e6, hy, AVal.isCell, Option.some.injEq, forall_eq']))
  | (refine hK _ _ ?_; clear hK K; simp only [go_sem, simprocAttr])
  | refine gCd (by simp only [go_sem, simprocAttr]; rfl) rfl ?_
  | refine brT ?_ | refine brF ?_
  | (refine brS ?_ ?_ <;> intro hc <;> (try simp only [bls] at hc) <;> (try simp only [hc, bls]))
  | intro _ | refine And.intro ?_ ?_)
        all_goals first | omega | (unfold bigLen; omega) | exact ⟨_, _, ⟨rfl, rfl⟩, rfl⟩ | exact ⟨_, rfl⟩ | (rename_i hy; simp only [List.mem_singleton] at hy; subst hy; rfl) | with_reducible rfl | skip
        refine AGood.filt [4, 5, 1000, 1001] ?_
        simp only [sf_cons, sf_nil, go_sem, simprocAttr]
        refine AGood.prune [0, 1, 4, 5, 6] ?_; simp only [go_sem, simprocAttr]
        refine AGood.cast (ih (j + 1) (by omega) (by omega)) rfl ?_
        rw [hst]
        simp only [hdf, hLl, Bool.and_false]
    · generalize decide (j = 0) = fb
      cases yn
      · simp only [Bool.false_eq_true, if_false, if_true, Bool.and_false] at hst
        repeat' (first
  | refine gSq ?_ | refine gSk ?_ | refine gBl ?_ | refine gIb ?_ | refine gEx rfl ?_
  | ((first
  | (refine gRg [] [0, 1, 4, 5, 6, 7, 12, 26, 34] ?_; intro K hK)
  | refine cAl (hb1 _) rfl rfl rfl ?_
  | refine cAl (hb2 _) rfl rfl rfl ?_
  | (refine ACall.use [(1000, 1000), (1001, 1001)] [] rfl (hlk _) rfl rfl rfl ?_; (first | rintro _ _ ⟨rfl, rfl⟩ | rintro _ _ ⟨rfl, h1, rfl⟩); refine ⟨.inl rfl, rfl, ?_⟩; simp only [bk, bk2, bk1, bkS, bkO, idOf, delAll, go_sem, simprocAttr])
  | (refine gd_split ?_ ?_ <;> intro hb <;> (try simp only [bls] at hb) <;> (try simp only [hb]))
  | refine gRt [1000, 1001] [.cell 4 56] rfl ?_ | refine gDn [1000, 1001] [.cell 4 56] rfl ?_) <;> (try simp only [go_sem, simprocAttr, e4, e5, e6, hy, AVal.isCell, Option.some.injEq, forall_eq']))
  | (refine hK _ _ ?_; clear hK K; simp only [go_sem, simprocAttr])
  | refine gCd (by simp only [go_sem, simprocAttr]; rfl) rfl ?_
  | refine brT ?_ | refine brF ?_
  | (refine brS ?_ ?_ <;> intro hc <;> (try simp only [bls] at hc) <;> (try simp only [hc, bls]))
  | intro _ | refine And.intro ?_ ?_)
        all_goals first | omega | (unfold bigLen; omega) | exact ⟨_, _, ⟨rfl, rfl⟩, rfl⟩ | exact ⟨_, rfl⟩ | (rename_i hy; simp only [List.mem_singleton] at hy; subst hy; rfl) | with_reducible rfl | skip
        refine AGood.filt [4, 5, 1000, 1001] ?_
        simp only [sf_cons, sf_nil, go_sem, simprocAttr]
        refine AGood.prune [0, 1, 4, 5, 6] ?_; simp only [go_sem, simprocAttr]
        refine AGood.cast (ih (j + 1) (by omega) (by omega)) rfl ?_
        rw [hst]
        simp only [hdf, hLl, Bool.and_false]
      · simp only [Bool.false_eq_true, if_false, if_true, Bool.and_true] at hst
        repeat' (first
  | refine gSq ?_ | refine gSk ?_ | refine gBl ?_ | refine gIb ?_ | refine gEx rfl ?_
  | ((first
  | (refine gRg [] [0, 1, 4, 5, 6, 7, 12, 26, 34] ?_; intro K hK)
  | refine cAl (hb1 _) rfl rfl rfl ?_
  | refine cAl (hb2 _) rfl rfl rfl ?_
  | (refine ACall.use [(1000, 1000), (1001, 1001)] [] rfl (hlk _) rfl rfl rfl ?_; (first | rintro _ _ ⟨rfl, rfl⟩ | rintro _ _ ⟨rfl, h1, rfl⟩); refine ⟨.inl rfl, rfl, ?_⟩; simp only [bk, bk2, bk1, bkS, bkO, idOf, delAll, go_sem, simprocAttr])
  | (refine gd_split ?_ ?_ <;> intro hb <;> (try simp only [bls] at hb) <;> (try simp only [hb]))
  | refine gRt [1000, 1001] [.cell 4 56] rfl ?_ | refine gDn [1000, 1001] [.cell 4 56] rfl ?_) <;> (try simp only [go_sem, simprocAttr, e4, e5, e6, hy, AVal.isCell, Option.some.injEq, forall_eq']))
  | (refine hK _ _ ?_; clear hK K; simp only [go_sem, simprocAttr])
  | refine gCd (by simp only [go_sem, simprocAttr]; rfl) rfl ?_
  | refine brT ?_ | refine brF ?_
  | (refine brS ?_ ?_ <;> intro hc <;> (try simp only [bls] at hc) <;> (try simp only [hc, bls]))
  | intro _ | refine And.intro ?_ ?_)
        all_goals first | omega | (unfold bigLen; omega) | exact ⟨_, _, ⟨rfl, rfl⟩, rfl⟩ | exact ⟨_, rfl⟩ | (rename_i hy; simp only [List.mem_singleton] at hy; subst hy; rfl) | with_reducible rfl | skip
        refine AGood.filt [4, 5, 1000, 1001] ?_
        simp only [sf_cons, sf_nil, go_sem, simprocAttr]
        refine AGood.prune [0, 1, 4, 5, 6] ?_; simp only [go_sem, simprocAttr]
        refine AGood.cast (ih (j + 1) (by omega) (by omega)) rfl ?_
        rw [hst]
        simp only [hdf, hLl, Bool.and_true]
  · have e4 : ¬ (j : Int) < ks.length := by omega
    have hin : j = ks.length := by omega
    clear ih
    rw [decide_eq_false (by omega)]
    subst hin
    repeat' (first
  | refine gSq ?_ | refine gSk ?_ | refine gBl ?_ | refine gIb ?_ | refine gEx rfl ?_
  | ((first
  | (refine gRg [] [0, 1, 4, 5, 6, 7, 12, 26, 34] ?_; intro K hK)
  | (refine gd_split ?_ ?_ <;> intro hb <;> (try simp only [bls] at hb) <;> (try simp only [hb]))
  | refine gRt [1000, 1001] [.cell 4 56] rfl ?_ | refine gDn [1000, 1001] [.cell 4 56] rfl ?_) <;> (try simp only [go_sem, simprocAttr, e4, AVal.isCell]))
  | (refine hK _ _ ?_; clear hK K; simp only [go_sem, simprocAttr])
  | refine gCd (by simp only [go_sem, simprocAttr]; rfl) rfl ?_
  | refine brT ?_ | refine brF ?_
  | (refine brS ?_ ?_ <;> intro hc <;> (try simp only [bls] at hc) <;> (try simp only [hc, bls]))
  | intro _ | refine And.intro ?_ ?_)
    all_goals first | omega | (unfold bigLen; omega) | exact ⟨_, _, ⟨rfl, rfl⟩, rfl⟩ | exact ⟨_, rfl⟩ | (rename_i hy; simp only [List.mem_singleton] at hy; subst hy; rfl) | with_reducible rfl | skip
end Go.Rad
/- What a call tells, said otherwise: an own row that it tells is given away. -/
namespace Go.Rad
open Go
theorem ACall.post {P : Program} {f : Nat} {args : List AVal} {sto : Sto} {R R' : AVal → Sto → Prop} (h : ACall P f args sto R)
    (hp : ∀ (G : Gh) (w : World) (r : AVal) (s : Sto) (v : Value), WOk G w → StoOk G w s → Rep G true r v → R r s → ∃ G' r' s', Ext G G' ∧ WOk G' w ∧ StoOk G' w s' ∧ Rep G' true r' v ∧ R' r' s') : ACall P f args sto R' := by
  refine ⟨h.able, fun G w cargs a b c => (h.calls G w cargs a b c).mono fun _ _ p => ?_⟩
  obtain ⟨G', cr, r, sto', a, b, c, d, e', f⟩ := p
  obtain ⟨G2, r2, s2, x1, x2, x3, x4, x5⟩ := hp _ _ _ _ _ c d e' f
  exact ⟨G2, cr, r2, s2, a, b.trans x1, x2, x3, x4, x5⟩
theorem ACall.frzRes {P : Program} {f : Nat} {args : List AVal} {sto : Sto} {R R' : AVal → Sto → Prop} (h : ACall P f args sto R)
    (hp : ∀ r s, R r s → (∃ id g esz l, r = .osl id g 0 l.length ∧ sget s id = some (g, .row esz l) ∧ R' (.sl true false l) (sdel s id)) ∨ (∃ q full l, r = .sl q full l ∧ R' (.sl q false l) s) ∨ R' r s) : ACall P f args sto R' := by
  refine h.post fun G w r s v hw hs hr hR => ?_
  rcases hp r s hR with ⟨id, g, esz, l, rfl, hg, h'⟩ | ⟨q, full, l, rfl, h'⟩ | h'
  · obtain ⟨G', hext, hw', hs', hR⟩ := sto_freeze hw hs hg
    have := hR 0 l.length v (by omega) hr
    simp only [List.drop_zero, List.take_length] at this
    exact ⟨G', _, _, hext, hw', hs', this, h'⟩
  · refine ⟨G, _, s, .refl G, hw, hs, ?_, h'⟩
    cases hr with
    | slnil => exact .slnil (fun h => by cases h)
    | sl a _ b c d e f g h => exact .sl a (fun h => by cases h) b c d e f g h
  · exact ⟨G, r, s, .refl G, hw, hs, hr, h'⟩
/-- The numbers within an argument that is a list are what their kinds hold. -/
theorem ACall.fitSl {P : Program} {f : Nat} {args : List AVal} {sto : Sto} {R : AVal → Sto → Prop} (i : Nat) {q full : Bool} {l : List (List AVal)} (able : Callable P f) (hi : args[i]? = some (.sl q full l))
    (h : (∀ (m j : Nat) (x : List AVal) (k : IntKind) (n : Int), l[m]? = some x → x[j]? = some (.int k n) → fits k n) → ACall P f args sto R) : ACall P f args sto R := by
  refine ⟨able, fun G w cargs hw hs ha => ?_⟩
  have hr := ha.2 i _ hi
  generalize cargs.getD i undef = v at hr
  refine (h fun m j x k n hm hj => ?_).calls G w cargs hw hs ha
  cases hr with
  | slnil => simp at hm
  | sl _ _ _ _ _ _ _ _ hc =>
    have := hc m j x _ hm hj
    revert this
    generalize Array.getD _ _ undef = u
    intro this
    cases this with
    | int hf => exact hf
end Go.Rad
/- A frozen list's flag may be forgotten. -/
namespace Go.Rad
open Go
theorem rep_unfull {G : Gh} {o q f : Bool} {l : List (List AVal)} {v : Value} (h : Rep G o (.sl q f l) v) : Rep G o (.sl q false l) v := by
  cases h with
  | slnil _ => exact .slnil (fun h => nomatch h)
  | sl h1 h2 h3 h4 h5 h6 h7 h8 h9 => exact .sl h1 (fun h => nomatch h) h3 h4 h5 h6 h7 h8 h9
theorem AGood.unfull {P : Program} {f : Nat} {fn : Func} {df : List DDel} {k : List Item} {tm : Tm} {sto : Sto} {R : AVal → Sto → Prop} (t : Nat) {q e : Bool} {l : List (List AVal)} (ht : lk tm t = .sl q e l) (h : AGood P f fn df k ((t, .sl q false l) :: tm) sto R) : AGood P f fn df k tm sto R := by
  refine ⟨fun E G a w b h1 h2 h3 h4 h5 h6 h7 h8 h9 => h.go E G a w b h1 h2 h3 h4 h5 h6 h7 h8 fun t' => ?_⟩
  simp only [lk]
  split
  · rename_i e; subst e
    have h0 := h9 t
    rw [ht] at h0
    exact rep_unfull h0
  · exact h9 t'
theorem ACall.unfull {P : Program} {f : Nat} {a b : AVal} {q e : Bool} {l : List (List AVal)} {sto : Sto} {T : AVal → Sto → Prop} (h : ACall P f [a, b, .sl q false l] sto T) : ACall P f [a, b, .sl q e l] sto T :=
  ⟨h.able, fun G w cargs hw hs ha => h.calls G w cargs hw hs ⟨by simpa using ha.1, fun j x hx => by
    match j, hx with
    | 0, hx => exact ha.2 0 x hx
    | 1, hx => exact ha.2 1 x hx
    | 2, hx => cases hx; exact rep_unfull (ha.2 2 _ rfl)⟩⟩
end Go.Rad
