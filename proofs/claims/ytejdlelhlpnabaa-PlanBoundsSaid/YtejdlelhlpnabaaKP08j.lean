/- Contracts: the document's plan: a repetition. -/
import Derived.Test.YtejdlelhlpnabaaKP08f
import Derived.Test.YtejdlelhlpnabaaKC05a
import Derived.Test.YtejdlelhlpnabaaKRRunC
import Derived.Test.YtejdlelhlpnabaaKC04c
set_option linter.all false
namespace Go.Rad
open Go Go.Proofs
set_option linter.all false
set_option maxRecDepth 20000
set_option maxHeartbeats 4000000

theorem rrep_c {q f : Bool} {l : List Node} {most : Int} {pl : RS → RO} (hll : l.length ≤ 1000000) (n m : Node) (kid : Nat) (hn : n.l = [(kid : Int)]) (hm : l[kid]? = some m) (hlo : 0 ≤ n.lo ∧ n.lo ≤ 4096) (hhi : n.hi ≤ 4096) (hk : KidR Try.prog 44 q f l most pl kid) (hb : PBR pl) (g g1 : Nat) (s : RS) (hs : s.1.length ≤ 1024) :
    ACall Try.prog 62 [.bx 1000 g 0, .agg n.cells] (qsto q f l most g g1 s) (RPost q f l most g (repR pl most (decide (m.op = 2)) n.lo n.hi s)) := by
  obtain ⟨xo, ⟨xa, xb, xc, xd⟩, xl, xlo, xhi, xn⟩ := n
  simp only at hn hlo hhi
  have hx0 : xl[0]? = some (kid : Int) := by rw [hn]; rfl
  have e0 : (0 : Int) < xl.length := by rw [hn]; exact Int.one_pos
  clear hn
  have hkl := (List.getElem?_eq_some_iff.1 hm).1
  have e1 : (kid : Int) < l.length := by omega
  have e2 : (0 : Int) ≤ kid := by omega
  obtain ⟨mo, ⟨ma, mb, mc, md⟩, ml, mlo, mhi, mn⟩ := m
  simp only [Node.cells, Node.cellsF] at hm ⊢
  unfold repR
  by_cases k1 : decide (mo = 2) = true ∧ most < xhi
  · rw [if_pos k1]
    obtain ⟨k0, k1⟩ := k1
    have k0 := of_decide_eq_true k0
    subst k0
    unfold cntR
    by_cases k2 : 0 < xlo
    · rw [if_pos k2]
      have hp := hk g g1 s hs
      have b1 := hb s hs
      generalize pl s = a at hp b1
      have ht := fun h1 => rput_c q f false l most g h1 (repNd xlo xhi a.2) a.1 b1
      have k3 : max xlo 1 = xlo := by omega
      have k4 : ¬ xlo = 0 := by omega
      simp only [qsto, qbx, RPost, Node.cellsF] at hp ht ⊢
      refine ACall.enter Try.func62 rfl (by kernel_rfl) (Nat.le_of_ble_eq_true rfl) ?_; simp only [initTm, Nat.reduceAdd]
      repeat' (first
  | refine gSq ?_ | refine gSk ?_ | refine gBl ?_ | refine gIb ?_ | refine gEx rfl ?_
  | ((first
  | (refine gRg [48] [0, 1, 3, 4, 5, 6, 7, 8, 9, 10, 11, 12, 13, 36, 39, 58, 85, 116, 127, 138] ?_; intro K hK)
  | (refine gDr 3 [48] 10 [0, 1, 2, 3, 4, 5, 6, 7, 8, 9] [0, 1, 3, 4, 5, 6, 7, 8, 9, 10, 11, 12, 13, 36, 39, 58, 85, 116, 127, 138] rfl ?_; intro K hK)
  | (refine gDr 12 [48] 20 [0, 1, 2, 3, 4, 5, 6, 7, 8, 9, 10, 11, 12, 13, 14, 15, 16, 17, 18, 19] [0, 1, 3, 4, 5, 6, 7, 8, 9, 10, 11, 12, 13, 36, 39, 58, 85, 116, 127, 138] rfl ?_; intro K hK)
  | (refine ACall.use [(1000, 1000), (1001, 1001)] [] rfl (hp) rfl rfl rfl ?_; (first | rintro _ _ ⟨rfl, rfl⟩ | rintro _ _ ⟨rfl, h1, rfl⟩); refine ⟨.inl rfl, rfl, ?_⟩; simp only [bk, bk1, bkS, bkO, idOf, delAll, go_sem, simprocAttr])
  | (refine ACall.use [(1000, 1000), (1001, 1001)] [] rfl (ht _) rfl rfl rfl ?_; (first | rintro _ _ ⟨rfl, rfl⟩ | rintro _ _ ⟨rfl, h1, rfl⟩); refine ⟨.inl rfl, rfl, ?_⟩; simp only [bk, bk1, bkS, bkO, idOf, delAll, go_sem, simprocAttr])
  | (refine gd_split ?_ ?_ <;> intro hb <;> (try simp only [bls] at hb) <;> (try simp only [hb]))
  | refine gRt [1000, 1001] [.tmp 4] rfl ?_ | refine gDn [1000, 1001] [.tmp 4] rfl ?_) <;> (try simp only [go_sem, simprocAttr, hx0, e0, e1, e2, hm, k1, k2, k3, k4, Option.some.injEq, forall_eq']))
  | (refine hK _ _ ?_; clear hK K; simp only [go_sem, simprocAttr])
  | refine gCd (by simp only [go_sem, simprocAttr]; rfl) rfl ?_
  | refine brT ?_ | refine brF ?_
  | (refine brS ?_ ?_ <;> intro hc <;> (try simp only [bls] at hc) <;> (try simp only [hc, bls]))
  | intro _ | refine And.intro ?_ ?_)
      all_goals first | omega | (unfold bigLen; omega) | exact ⟨_, _, ⟨rfl, rfl⟩, rfl⟩ | exact ⟨_, rfl⟩ | (rename_i hy; simp only [List.mem_singleton] at hy; subst hy; rfl) | with_reducible rfl | skip
    · rw [if_neg k2]
      have k4 : xlo = 0 := by omega
      subst k4
      have he := rput_c q f true l most g g1 (opNd 1 []) s hs
      have b0 := putQ_len (opNd 1 []) s hs
      generalize putQ (opNd 1 []) s = e at he b0
      have hp := fun h1 => hk g h1 e.1 b0
      have b1 := hb e.1 b0
      generalize pl e.1 = a at hp b1
      have ht := fun h1 => rput_c q f false l most g h1 (repNd 1 xhi a.2) a.1 b1
      have b2 := putQ_len (repNd 1 xhi a.2) a.1 b1
      generalize putQ (repNd 1 xhi a.2) a.1 = c at ht b2
      have hc := fun h1 => rput_c q f false l most g h1 (opNd 4 [e.2, c.2]) c.1 b2
      unfold twoR
      have k3 : max (0 : Int) 1 = 1 := by omega
      simp only [qsto, qbx, RPost, Node.cellsF] at he hp ht hc ⊢
      refine ACall.enter Try.func62 rfl (by kernel_rfl) (Nat.le_of_ble_eq_true rfl) ?_; simp only [initTm, Nat.reduceAdd]
      repeat' (first
  | refine gSq ?_ | refine gSk ?_ | refine gBl ?_ | refine gIb ?_ | refine gEx rfl ?_
  | ((first
  | (refine gRg [48, 63] [0, 1, 3, 4, 5, 6, 7, 8, 9, 10, 11, 12, 13, 36, 39, 58, 85, 116, 127, 138] ?_; intro K hK)
  | (refine gDr 3 [48, 63] 10 [0, 1, 2, 3, 4, 5, 6, 7, 8, 9] [0, 1, 3, 4, 5, 6, 7, 8, 9, 10, 11, 12, 13, 36, 39, 58, 85, 116, 127, 138] rfl ?_; intro K hK)
  | (refine gDr 12 [48, 63] 20 [0, 1, 2, 3, 4, 5, 6, 7, 8, 9, 10, 11, 12, 13, 14, 15, 16, 17, 18, 19] [0, 1, 3, 4, 5, 6, 7, 8, 9, 10, 11, 12, 13, 36, 39, 58, 85, 116, 127, 138] rfl ?_; intro K hK)
  | (refine ACall.use [(1000, 1000), (1001, 1001)] [] rfl (he) rfl rfl rfl ?_; (first | rintro _ _ ⟨rfl, rfl⟩ | rintro _ _ ⟨rfl, h1, rfl⟩); refine ⟨.inl rfl, rfl, ?_⟩; simp only [bk, bk1, bkS, bkO, idOf, delAll, go_sem, simprocAttr])
  | (refine ACall.use [(1000, 1000), (1001, 1001)] [] rfl (hp _) rfl rfl rfl ?_; (first | rintro _ _ ⟨rfl, rfl⟩ | rintro _ _ ⟨rfl, h1, rfl⟩); refine ⟨.inl rfl, rfl, ?_⟩; simp only [bk, bk1, bkS, bkO, idOf, delAll, go_sem, simprocAttr])
  | (refine ACall.use [(1000, 1000), (1001, 1001)] [] rfl (ht _) rfl rfl rfl ?_; (first | rintro _ _ ⟨rfl, rfl⟩ | rintro _ _ ⟨rfl, h1, rfl⟩); refine ⟨.inl rfl, rfl, ?_⟩; simp only [bk, bk1, bkS, bkO, idOf, delAll, go_sem, simprocAttr])
  | (refine ACall.use [(1000, 1000), (1001, 1001)] [] rfl (hc _) rfl rfl rfl ?_; (first | rintro _ _ ⟨rfl, rfl⟩ | rintro _ _ ⟨rfl, h1, rfl⟩); refine ⟨.inl rfl, rfl, ?_⟩; simp only [bk, bk1, bkS, bkO, idOf, delAll, go_sem, simprocAttr])
  | (refine gd_split ?_ ?_ <;> intro hb <;> (try simp only [bls] at hb) <;> (try simp only [hb]))
  | refine gRt [1000, 1001] [.tmp 4] rfl ?_ | refine gDn [1000, 1001] [.tmp 4] rfl ?_) <;> (try simp only [go_sem, simprocAttr, hx0, e0, e1, e2, hm, k1, k3, Option.some.injEq, forall_eq']))
  | (refine hK _ _ ?_; clear hK K; simp only [go_sem, simprocAttr])
  | refine gCd (by simp only [go_sem, simprocAttr]; rfl) rfl ?_
  | refine brT ?_ | refine brF ?_
  | (refine brS ?_ ?_ <;> intro hc <;> (try simp only [bls] at hc) <;> (try simp only [hc, bls]))
  | intro _ | refine And.intro ?_ ?_)
      all_goals first | omega | (unfold bigLen; omega) | exact ⟨_, _, ⟨rfl, rfl⟩, rfl⟩ | exact ⟨_, rfl⟩ | (rename_i hy; simp only [List.mem_singleton] at hy; subst hy; rfl) | with_reducible rfl | skip
  · rw [if_neg k1]
    by_cases k2 : decide (mo = 2) = true ∧ xhi = -1 ∧ most < xlo ∧ 1 < xlo
    · rw [if_pos k2]
      obtain ⟨k0, k3, k4, k5⟩ := k2
      have k1' : ¬ most < xhi := fun h => k1 ⟨k0, h⟩
      have k0 := of_decide_eq_true k0
      subst k0
      subst k3
      unfold endR
      have hp := hk g g1 s hs
      have b1 := hb s hs
      generalize pl s = a at hp b1
      have ht := fun h1 => rput_c q f false l most g h1 (repNd xlo xlo a.2) a.1 b1
      have b2 := putQ_len (repNd xlo xlo a.2) a.1 b1
      generalize putQ (repNd xlo xlo a.2) a.1 = c at ht b2
      have hst := fun h1 => rstar_c kid hk hb g h1 c.1 b2
      have b3 := starR_len hb c.1 b2
      generalize starR pl c.1 = d at hst b3
      have hc := fun h1 => rput_c q f false l most g h1 (opNd 3 [c.2, d.2]) d.1 b3
      unfold twoR
      simp only [qsto, qbx, RPost, Node.cellsF] at hp ht hst hc ⊢
      refine ACall.enter Try.func62 rfl (by kernel_rfl) (Nat.le_of_ble_eq_true rfl) ?_; simp only [initTm, Nat.reduceAdd]
      repeat' (first
  | refine gSq ?_ | refine gSk ?_ | refine gBl ?_ | refine gIb ?_ | refine gEx rfl ?_
  | ((first
  | (refine gRg [91, 103] [0, 1, 3, 4, 5, 6, 7, 8, 9, 10, 11, 12, 13, 36, 39, 58, 85, 116, 127, 138] ?_; intro K hK)
  | (refine gDr 3 [91, 103] 10 [0, 1, 2, 3, 4, 5, 6, 7, 8, 9] [0, 1, 3, 4, 5, 6, 7, 8, 9, 10, 11, 12, 13, 36, 39, 58, 85, 116, 127, 138] rfl ?_; intro K hK)
  | (refine gDr 12 [91, 103] 20 [0, 1, 2, 3, 4, 5, 6, 7, 8, 9, 10, 11, 12, 13, 14, 15, 16, 17, 18, 19] [0, 1, 3, 4, 5, 6, 7, 8, 9, 10, 11, 12, 13, 36, 39, 58, 85, 116, 127, 138] rfl ?_; intro K hK)
  | (refine ACall.use [(1000, 1000), (1001, 1001)] [] rfl (hp) rfl rfl rfl ?_; (first | rintro _ _ ⟨rfl, rfl⟩ | rintro _ _ ⟨rfl, h1, rfl⟩); refine ⟨.inl rfl, rfl, ?_⟩; simp only [bk, bk1, bkS, bkO, idOf, delAll, go_sem, simprocAttr])
  | (refine ACall.use [(1000, 1000), (1001, 1001)] [] rfl (ht _) rfl rfl rfl ?_; (first | rintro _ _ ⟨rfl, rfl⟩ | rintro _ _ ⟨rfl, h1, rfl⟩); refine ⟨.inl rfl, rfl, ?_⟩; simp only [bk, bk1, bkS, bkO, idOf, delAll, go_sem, simprocAttr])
  | (refine ACall.use [(1000, 1000), (1001, 1001)] [] rfl (hst _) rfl rfl rfl ?_; (first | rintro _ _ ⟨rfl, rfl⟩ | rintro _ _ ⟨rfl, h1, rfl⟩); refine ⟨.inl rfl, rfl, ?_⟩; simp only [bk, bk1, bkS, bkO, idOf, delAll, go_sem, simprocAttr])
  | (refine ACall.use [(1000, 1000), (1001, 1001)] [] rfl (hc _) rfl rfl rfl ?_; (first | rintro _ _ ⟨rfl, rfl⟩ | rintro _ _ ⟨rfl, h1, rfl⟩); refine ⟨.inl rfl, rfl, ?_⟩; simp only [bk, bk1, bkS, bkO, idOf, delAll, go_sem, simprocAttr])
  | (refine gd_split ?_ ?_ <;> intro hb <;> (try simp only [bls] at hb) <;> (try simp only [hb]))
  | refine gRt [1000, 1001] [.tmp 4] rfl ?_ | refine gDn [1000, 1001] [.tmp 4] rfl ?_) <;> (try simp only [go_sem, simprocAttr, hx0, e0, e1, e2, hm, k1', k4, k5, Option.some.injEq, forall_eq']))
  | (refine hK _ _ ?_; clear hK K; simp only [go_sem, simprocAttr])
  | refine gCd (by simp only [go_sem, simprocAttr]; rfl) rfl ?_
  | refine brT ?_ | refine brF ?_
  | (refine brS ?_ ?_ <;> intro hc <;> (try simp only [bls] at hc) <;> (try simp only [hc, bls]))
  | intro _ | refine And.intro ?_ ?_)
      all_goals first | omega | (unfold bigLen; omega) | exact ⟨_, _, ⟨rfl, rfl⟩, rfl⟩ | exact ⟨_, rfl⟩ | (rename_i hy; simp only [List.mem_singleton] at hy; subst hy; rfl) | with_reducible rfl | skip
    · rw [if_neg k2]
      obtain ⟨lo, rfl⟩ : ∃ lo : Nat, xlo = lo := ⟨xlo.toNat, by omega⟩
      obtain ⟨S, hS⟩ : ∃ S, S = rowQ pl lo xhi s := ⟨_, rfl⟩
      rw [← hS]
      rw [rowQ, Int.toNat_natCast] at hS
      obtain ⟨L, hL⟩ : ∃ L, L = rowLR pl lo s [] := ⟨_, rfl⟩
      rw [← hL] at hS
      simp only [qsto, qbx]
      apply hv (α := Nat)
      case main =>
        intro key
        by_cases c2 : mo = 2
        · have c3 : ¬ most < xhi := fun h => k1 ⟨decide_eq_true c2, h⟩
          by_cases c4 : xhi = -1
          · by_cases c5 : most < (lo : Int)
            · have c6 : ¬ (1 : Int) < lo := fun h => k2 ⟨decide_eq_true c2, c4, c5, h⟩
              refine ACall.enter Try.func62 rfl (by kernel_rfl) (Nat.le_of_ble_eq_true rfl) ?_; simp only [initTm, Nat.reduceAdd]
              repeat' (first
  | refine gSq ?_ | refine gSk ?_ | refine gBl ?_ | refine gIb ?_ | refine gEx rfl ?_
  | ((first
  | (refine gRg [] [0, 1, 3, 4, 5, 6, 7, 8, 9, 10, 11, 12, 13, 36, 39, 58, 85, 116, 127, 138] ?_; intro K hK)
  | (refine gDr 3 [] 10 [0, 1, 2, 3, 4, 5, 6, 7, 8, 9] [0, 1, 3, 4, 5, 6, 7, 8, 9, 10, 11, 12, 13, 36, 39, 58, 85, 116, 127, 138] rfl ?_; intro K hK)
  | (refine gDr 12 [] 20 [0, 1, 2, 3, 4, 5, 6, 7, 8, 9, 10, 11, 12, 13, 14, 15, 16, 17, 18, 19] [0, 1, 3, 4, 5, 6, 7, 8, 9, 10, 11, 12, 13, 36, 39, 58, 85, 116, 127, 138] rfl ?_; intro K hK)
  | (refine gd_split ?_ ?_ <;> intro hb <;> (try simp only [bls] at hb) <;> (try simp only [hb]))
  | refine gRt [1000, 1001] [.tmp 4] rfl ?_ | refine gDn [1000, 1001] [.tmp 4] rfl ?_) <;> (try simp only [go_sem, simprocAttr, hx0, e0, e1, e2, hm, eq_true c2, eq_true c4, c3, c5, c6, Option.some.injEq, forall_eq']))
  | (refine hK _ _ ?_; clear hK K; simp only [go_sem, simprocAttr])
  | refine gCd (by simp only [go_sem, simprocAttr]; rfl) rfl ?_
  | refine brT ?_ | refine brF ?_
  | (refine brS ?_ ?_ <;> intro hc <;> (try simp only [bls] at hc) <;> (try simp only [hc, bls]))
  | intro _ | refine And.intro ?_ ?_)
              all_goals first | omega | (unfold bigLen; omega) | exact ⟨_, _, ⟨rfl, rfl⟩, rfl⟩ | exact ⟨_, rfl⟩ | (rename_i hy; simp only [List.mem_singleton] at hy; subst hy; rfl) | with_reducible rfl | skip
              refine AGood.prune [0, 3, 5, 12, 13] ?_; simp only [go_sem, simprocAttr]
              rename_i h3; exact key h3
            ·
              refine ACall.enter Try.func62 rfl (by kernel_rfl) (Nat.le_of_ble_eq_true rfl) ?_; simp only [initTm, Nat.reduceAdd]
              repeat' (first
  | refine gSq ?_ | refine gSk ?_ | refine gBl ?_ | refine gIb ?_ | refine gEx rfl ?_
  | ((first
  | (refine gRg [] [0, 1, 3, 4, 5, 6, 7, 8, 9, 10, 11, 12, 13, 36, 39, 58, 85, 116, 127, 138] ?_; intro K hK)
  | (refine gDr 3 [] 10 [0, 1, 2, 3, 4, 5, 6, 7, 8, 9] [0, 1, 3, 4, 5, 6, 7, 8, 9, 10, 11, 12, 13, 36, 39, 58, 85, 116, 127, 138] rfl ?_; intro K hK)
  | (refine gDr 12 [] 20 [0, 1, 2, 3, 4, 5, 6, 7, 8, 9, 10, 11, 12, 13, 14, 15, 16, 17, 18, 19] [0, 1, 3, 4, 5, 6, 7, 8, 9, 10, 11, 12, 13, 36, 39, 58, 85, 116, 127, 138] rfl ?_; intro K hK)
  | (refine gd_split ?_ ?_ <;> intro hb <;> (try simp only [bls] at hb) <;> (try simp only [hb]))
  | refine gRt [1000, 1001] [.tmp 4] rfl ?_ | refine gDn [1000, 1001] [.tmp 4] rfl ?_) <;> (try simp only [go_sem, simprocAttr, hx0, e0, e1, e2, hm, eq_true c2, eq_true c4, c3, c5, Option.some.injEq, forall_eq']))
  | (refine hK _ _ ?_; clear hK K; simp only [go_sem, simprocAttr])
  | refine gCd (by simp only [go_sem, simprocAttr]; rfl) rfl ?_
  | refine brT ?_ | refine brF ?_
  | (refine brS ?_ ?_ <;> intro hc <;> (try simp only [bls] at hc) <;> (try simp only [hc, bls]))
  | intro _ | refine And.intro ?_ ?_)
              all_goals first | omega | (unfold bigLen; omega) | exact ⟨_, _, ⟨rfl, rfl⟩, rfl⟩ | exact ⟨_, rfl⟩ | (rename_i hy; simp only [List.mem_singleton] at hy; subst hy; rfl) | with_reducible rfl | skip
              refine AGood.prune [0, 3, 5, 12, 13] ?_; simp only [go_sem, simprocAttr]
              rename_i h3; exact key h3
          ·
            refine ACall.enter Try.func62 rfl (by kernel_rfl) (Nat.le_of_ble_eq_true rfl) ?_; simp only [initTm, Nat.reduceAdd]
            repeat' (first
  | refine gSq ?_ | refine gSk ?_ | refine gBl ?_ | refine gIb ?_ | refine gEx rfl ?_
  | ((first
  | (refine gRg [] [0, 1, 3, 4, 5, 6, 7, 8, 9, 10, 11, 12, 13, 36, 39, 58, 85, 116, 127, 138] ?_; intro K hK)
  | (refine gDr 3 [] 10 [0, 1, 2, 3, 4, 5, 6, 7, 8, 9] [0, 1, 3, 4, 5, 6, 7, 8, 9, 10, 11, 12, 13, 36, 39, 58, 85, 116, 127, 138] rfl ?_; intro K hK)
  | (refine gDr 12 [] 20 [0, 1, 2, 3, 4, 5, 6, 7, 8, 9, 10, 11, 12, 13, 14, 15, 16, 17, 18, 19] [0, 1, 3, 4, 5, 6, 7, 8, 9, 10, 11, 12, 13, 36, 39, 58, 85, 116, 127, 138] rfl ?_; intro K hK)
  | (refine gd_split ?_ ?_ <;> intro hb <;> (try simp only [bls] at hb) <;> (try simp only [hb]))
  | refine gRt [1000, 1001] [.tmp 4] rfl ?_ | refine gDn [1000, 1001] [.tmp 4] rfl ?_) <;> (try simp only [go_sem, simprocAttr, hx0, e0, e1, e2, hm, eq_true c2, c3, c4, Option.some.injEq, forall_eq']))
  | (refine hK _ _ ?_; clear hK K; simp only [go_sem, simprocAttr])
  | refine gCd (by simp only [go_sem, simprocAttr]; rfl) rfl ?_
  | refine brT ?_ | refine brF ?_
  | (refine brS ?_ ?_ <;> intro hc <;> (try simp only [bls] at hc) <;> (try simp only [hc, bls]))
  | intro _ | refine And.intro ?_ ?_)
            all_goals first | omega | (unfold bigLen; omega) | exact ⟨_, _, ⟨rfl, rfl⟩, rfl⟩ | exact ⟨_, rfl⟩ | (rename_i hy; simp only [List.mem_singleton] at hy; subst hy; rfl) | with_reducible rfl | skip
            refine AGood.prune [0, 3, 5, 12, 13] ?_; simp only [go_sem, simprocAttr]
            rename_i h3; exact key h3
        ·
          refine ACall.enter Try.func62 rfl (by kernel_rfl) (Nat.le_of_ble_eq_true rfl) ?_; simp only [initTm, Nat.reduceAdd]
          repeat' (first
  | refine gSq ?_ | refine gSk ?_ | refine gBl ?_ | refine gIb ?_ | refine gEx rfl ?_
  | ((first
  | (refine gRg [] [0, 1, 3, 4, 5, 6, 7, 8, 9, 10, 11, 12, 13, 36, 39, 58, 85, 116, 127, 138] ?_; intro K hK)
  | (refine gDr 3 [] 10 [0, 1, 2, 3, 4, 5, 6, 7, 8, 9] [0, 1, 3, 4, 5, 6, 7, 8, 9, 10, 11, 12, 13, 36, 39, 58, 85, 116, 127, 138] rfl ?_; intro K hK)
  | (refine gDr 12 [] 20 [0, 1, 2, 3, 4, 5, 6, 7, 8, 9, 10, 11, 12, 13, 14, 15, 16, 17, 18, 19] [0, 1, 3, 4, 5, 6, 7, 8, 9, 10, 11, 12, 13, 36, 39, 58, 85, 116, 127, 138] rfl ?_; intro K hK)
  | (refine gd_split ?_ ?_ <;> intro hb <;> (try simp only [bls] at hb) <;> (try simp only [hb]))
  | refine gRt [1000, 1001] [.tmp 4] rfl ?_ | refine gDn [1000, 1001] [.tmp 4] rfl ?_) <;> (try simp only [go_sem, simprocAttr, hx0, e0, e1, e2, hm, c2, Option.some.injEq, forall_eq']))
  | (refine hK _ _ ?_; clear hK K; simp only [go_sem, simprocAttr])
  | refine gCd (by simp only [go_sem, simprocAttr]; rfl) rfl ?_
  | refine brT ?_ | refine brF ?_
  | (refine brS ?_ ?_ <;> intro hc <;> (try simp only [bls] at hc) <;> (try simp only [hc, bls]))
  | intro _ | refine And.intro ?_ ?_)
          all_goals first | omega | (unfold bigLen; omega) | exact ⟨_, _, ⟨rfl, rfl⟩, rfl⟩ | exact ⟨_, rfl⟩ | (rename_i hy; simp only [List.mem_singleton] at hy; subst hy; rfl) | with_reducible rfl | skip
          refine AGood.prune [0, 3, 5, 12, 13] ?_; simp only [go_sem, simprocAttr]
          rename_i h3; exact key h3
      case key =>
        intro h3
        have hlo2 : lo ≤ 4096 := by omega
        have hcat := fun (b : RS × List Int) (h1 : b.1.1.length ≤ 1024) (h2 : b.2.length ≤ 1000000) gg => rcat_c q f false l most g gg b.2 b.1 h1 h2
        clear k1 k2 hlo hm e1 e2
        refine AGood.ownTm 12 900 1 (by decide) rfl fun g9 => ?_
        simp only [go_sem, simprocAttr]
        refine AGood.prune [0, 3, 5, 12, 13] ?_; simp only [go_sem, simprocAttr]
        refine AGood.loopInv (α := Nat × RS × List Int × Nat × Nat) (fun x => ([(0, .bx 1000 g 0), (3, .bx 3 h3 0), (5, .int .i64 kid), (12, .osl 900 x.2.2.2.2 0 x.2.2.1.length), (13, .int .i64 x.1)],
          [(3, h3, .box [.int .u8 xo, .int .u64 xa, .int .u64 xb, .int .u64 xc, .int .u64 xd, .sl true false (ints xl), .int .i64 lo, .int .i64 xhi, .str xn]), (900, x.2.2.2.2, .row 1 (ints x.2.2.1)), (1000, g, .box [.sl q f (nodes l), .int .i64 most, .osl 1001 x.2.2.2.1 0 x.2.1.1.length, .bool x.2.1.2]), (1001, x.2.2.2.1, .row 9 (nodes x.2.1.1))]))
          (fun x => x.1 ≤ lo ∧ x.2.2.1.length = x.1 ∧ x.2.1.1.length ≤ 1024 ∧ L = rowLR pl (lo - x.1) x.2.1 x.2.2.1) (fun x => lo - x.1) (0, s, [], g1, g9) ⟨Nat.zero_le _, rfl, hs, hL⟩ rfl ?_
        rintro ⟨i, o, row, gg, g9⟩ ⟨hi, hrl, ho', hrun⟩ ih
        simp only at hi hrl ho' hrun ih ⊢
        by_cases hgo : i < lo ∧ o.2 = false
        · obtain ⟨hle, hlg⟩ := hgo
          have e4 : (i : Int) < lo := by omega
          have e5 : (i : Int) + 1 = ((i + 1 : Nat) : Int) := by omega
          obtain ⟨r, hr⟩ : ∃ r, lo - i = r + 1 := ⟨lo - i - 1, by omega⟩
          rw [hr, rowLR, if_neg (by rw [hlg]; decide)] at hrun
          have hp := hk g gg o ho'
          have b2 := hb o ho'
          generalize pl o = a at b2 hp hrun
          obtain ⟨oo, og⟩ := o
          simp only at hlg
          subst hlg
          simp only [qsto, qbx, RPost] at hp
          repeat' (first
  | refine gSq ?_ | refine gSk ?_ | refine gBl ?_ | refine gIb ?_ | refine gEx rfl ?_
  | ((first
  | (refine gRg [123] [0, 1, 3, 4, 5, 6, 7, 8, 9, 10, 11, 12, 13, 36, 39, 58, 85, 116, 127, 138] ?_; intro K hK)
  | (refine gDr 3 [123] 10 [0, 1, 2, 3, 4, 5, 6, 7, 8, 9] [0, 1, 3, 4, 5, 6, 7, 8, 9, 10, 11, 12, 13, 36, 39, 58, 85, 116, 127, 138] rfl ?_; intro K hK)
  | (refine gDr 12 [123] 20 [0, 1, 2, 3, 4, 5, 6, 7, 8, 9, 10, 11, 12, 13, 14, 15, 16, 17, 18, 19] [0, 1, 3, 4, 5, 6, 7, 8, 9, 10, 11, 12, 13, 36, 39, 58, 85, 116, 127, 138] rfl ?_; intro K hK)
  | (refine ACall.use [(1000, 1000), (1001, 1001)] [] rfl (hp) rfl rfl rfl ?_; (first | rintro _ _ ⟨rfl, rfl⟩ | rintro _ _ ⟨rfl, h1, rfl⟩); refine ⟨.inl rfl, rfl, ?_⟩; simp only [bk, bk1, bkS, bkO, idOf, delAll, go_sem, simprocAttr])
  | (refine gd_split ?_ ?_ <;> intro hb <;> (try simp only [bls] at hb) <;> (try simp only [hb]))
  | refine gRt [1000, 1001] [.tmp 4] rfl ?_ | refine gDn [1000, 1001] [.tmp 4] rfl ?_) <;> (try simp only [go_sem, simprocAttr, e4, e5]))
  | (refine hK _ _ ?_; clear hK K; simp only [go_sem, simprocAttr])
  | refine gCd (by simp only [go_sem, simprocAttr]; rfl) rfl ?_
  | refine brT ?_ | refine brF ?_
  | (refine brS ?_ ?_ <;> intro hc <;> (try simp only [bls] at hc) <;> (try simp only [hc, bls]))
  | intro _ | refine And.intro ?_ ?_)
          all_goals first | omega | (unfold bigLen; omega) | exact ⟨_, _, ⟨rfl, rfl⟩, rfl⟩ | exact ⟨_, rfl⟩ | (rename_i hy; simp only [List.mem_singleton] at hy; subst hy; rfl) | with_reducible rfl | skip
          rename_i h'
          refine AGood.filt [3, 900, 1000, 1001] ?_
          simp only [sf_cons, sf_nil, go_sem, simprocAttr]
          refine AGood.prune [0, 3, 5, 12, 13] ?_; simp only [go_sem, simprocAttr]
          refine AGood.cast (ih (i + 1, a.1, row ++ [a.2], h1, h') ⟨by simp only; omega, by simp [hrl], by simp only; omega, by rw [hrun]; congr 1; omega⟩ (by simp only; omega)) ?_ ?_
          · simp
          · simp
        · have hLv : L = (o, row) := by
            rw [hrun]
            cases hd : lo - i with
            | zero => rfl
            | succ r =>
              rw [rowLR, if_pos]
              cases hlg : o.2
              · exact absurd ⟨by omega, hlg⟩ hgo
              · rfl
          rw [hLv] at hS
          clear ih hrun
          -- the loop is left, either way
          obtain ⟨oo, og⟩ := o
          apply hv0
          case main =>
            intro key
            by_cases hle : lo ≤ i
            · have e4 : ¬ (i : Int) < lo := by omega
              repeat' (first
  | (refine AGood.at 21 ?_; (refine AGood.prune [0, 3, 5, 12] ?_; simp only [go_sem, simprocAttr]; refine stopI ?_))
  | refine gSq ?_ | refine gSk ?_ | refine gBl ?_ | refine gIb ?_ | refine gEx rfl ?_
  | ((first
  | (refine gRg [] [0, 1, 3, 4, 5, 6, 7, 8, 9, 10, 11, 12, 13, 36, 39, 58, 85, 116, 127, 138] ?_; intro K hK)
  | (refine gDr 3 [] 10 [0, 1, 2, 3, 4, 5, 6, 7, 8, 9] [0, 1, 3, 4, 5, 6, 7, 8, 9, 10, 11, 12, 13, 36, 39, 58, 85, 116, 127, 138] rfl ?_; intro K hK)
  | (refine gDr 12 [] 20 [0, 1, 2, 3, 4, 5, 6, 7, 8, 9, 10, 11, 12, 13, 14, 15, 16, 17, 18, 19] [0, 1, 3, 4, 5, 6, 7, 8, 9, 10, 11, 12, 13, 36, 39, 58, 85, 116, 127, 138] rfl ?_; intro K hK)
  | (refine gd_split ?_ ?_ <;> intro hb <;> (try simp only [bls] at hb) <;> (try simp only [hb]))
  | refine gRt [] [.tmp 4] rfl ?_ | refine gDn [] [.tmp 4] rfl ?_) <;> (try simp only [go_sem, simprocAttr, e4]))
  | (refine hK _ _ ?_; clear hK K; simp only [go_sem, simprocAttr])
  | refine gCd (by simp only [go_sem, simprocAttr]; rfl) rfl ?_
  | refine brT ?_ | refine brF ?_
  | (refine brS ?_ ?_ <;> intro hc <;> (try simp only [bls] at hc) <;> (try simp only [hc, bls]))
  | intro _ | refine And.intro ?_ ?_)
              refine stopE ?_; exact key.out
            · have e4 : (i : Int) < lo := by omega
              have hlg : og = true := by
                cases og
                · exact absurd ⟨by omega, rfl⟩ hgo
                · rfl
              repeat' (first
  | (refine AGood.at 21 ?_; (refine AGood.prune [0, 3, 5, 12] ?_; simp only [go_sem, simprocAttr]; refine stopI ?_))
  | refine gSq ?_ | refine gSk ?_ | refine gBl ?_ | refine gIb ?_ | refine gEx rfl ?_
  | ((first
  | (refine gRg [] [0, 1, 3, 4, 5, 6, 7, 8, 9, 10, 11, 12, 13, 36, 39, 58, 85, 116, 127, 138] ?_; intro K hK)
  | (refine gDr 3 [] 10 [0, 1, 2, 3, 4, 5, 6, 7, 8, 9] [0, 1, 3, 4, 5, 6, 7, 8, 9, 10, 11, 12, 13, 36, 39, 58, 85, 116, 127, 138] rfl ?_; intro K hK)
  | (refine gDr 12 [] 20 [0, 1, 2, 3, 4, 5, 6, 7, 8, 9, 10, 11, 12, 13, 14, 15, 16, 17, 18, 19] [0, 1, 3, 4, 5, 6, 7, 8, 9, 10, 11, 12, 13, 36, 39, 58, 85, 116, 127, 138] rfl ?_; intro K hK)
  | (refine gd_split ?_ ?_ <;> intro hb <;> (try simp only [bls] at hb) <;> (try simp only [hb]))
  | refine gRt [] [.tmp 4] rfl ?_ | refine gDn [] [.tmp 4] rfl ?_) <;> (try simp only [go_sem, simprocAttr, e4]))
  | (refine hK _ _ ?_; clear hK K; simp only [go_sem, simprocAttr])
  | refine gCd (by simp only [go_sem, simprocAttr]; rfl) rfl ?_
  | refine brT ?_ | refine brF ?_
  | (refine brS ?_ ?_ <;> intro hc <;> (try simp only [bls] at hc) <;> (try simp only [hc, bls]))
  | intro _ | refine And.intro ?_ ?_)
              all_goals first | (exfalso; exact Bool.noConfusion (hlg.symm.trans ‹og = false›)) | skip
              refine stopE ?_; exact AGood.cast key.out rfl (by rw [hlg])
          case key =>
            simp only at ho'
            obtain ⟨b, hbb⟩ : ∃ b, b = rowER pl lo xhi ((oo, og), row) := ⟨_, rfl⟩
            have b1 := rowER_len hb lo xhi ((oo, og), row) ho'
            rw [← hbb] at hS b1
            obtain ⟨b1, b2⟩ := b1
            simp only at b2
            subst hS
            by_cases c1 : xhi = -1
            · have hst := rstar_c kid hk hb g gg (oo, og) ho'
              rw [rowER, if_pos c1] at hbb
              generalize starR pl (oo, og) = a at hst hbb
              subst c1
              simp only at hbb
              subst hbb
              have hc := hcat (a.1, row ++ [a.2]) b1 (by simp; omega)
              have e15 : (ints (row ++ [a.2])).take (row.length + 1) = ints (row ++ [a.2]) := List.take_of_length_le (by simp)
              have e17 : row.length + 1 ≤ (row ++ [a.2]).length := by simp
              have e16 : ∀ k : Int, ints row ++ [[AVal.int .i64 k]] = ints (row ++ [k]) := fun k => by simp
              simp only [qsto, qbx, RPost] at hst hc ⊢
              repeat' (first
  | refine gSq ?_ | refine gSk ?_ | refine gBl ?_ | refine gIb ?_ | refine gEx rfl ?_
  | ((first
  | (refine AGood.at 25 ?_; (refine AGood.freeze 900 rfl ?_; simp only [rfT, rfS, rfO, rf, rf1, e15, e17, true_and, go_sem, simprocAttr]); (refine gRg [132] [0, 1, 3, 4, 5, 6, 7, 8, 9, 10, 11, 12, 13, 36, 39, 58, 85, 116, 127, 138] ?_; intro K hK))
  | (refine gRg [132] [0, 1, 3, 4, 5, 6, 7, 8, 9, 10, 11, 12, 13, 36, 39, 58, 85, 116, 127, 138] ?_; intro K hK)
  | (refine gDr 3 [132] 10 [0, 1, 2, 3, 4, 5, 6, 7, 8, 9] [0, 1, 3, 4, 5, 6, 7, 8, 9, 10, 11, 12, 13, 36, 39, 58, 85, 116, 127, 138] rfl ?_; intro K hK)
  | (refine gDr 12 [132] 20 [0, 1, 2, 3, 4, 5, 6, 7, 8, 9, 10, 11, 12, 13, 14, 15, 16, 17, 18, 19] [0, 1, 3, 4, 5, 6, 7, 8, 9, 10, 11, 12, 13, 36, 39, 58, 85, 116, 127, 138] rfl ?_; intro K hK)
  | (refine ACall.use [(1000, 1000), (1001, 1001)] [] rfl (hst) rfl rfl rfl ?_; (first | rintro _ _ ⟨rfl, rfl⟩ | rintro _ _ ⟨rfl, h1, rfl⟩); refine ⟨.inl rfl, rfl, ?_⟩; simp only [bk, bk1, bkS, bkO, idOf, delAll, go_sem, simprocAttr])
  | (refine ACall.use [(1000, 1000), (1001, 1001)] [] rfl (hc _) rfl rfl rfl ?_; (first | rintro _ _ ⟨rfl, rfl⟩ | rintro _ _ ⟨rfl, h1, rfl⟩); refine ⟨.inl rfl, rfl, ?_⟩; simp only [bk, bk1, bkS, bkO, idOf, delAll, go_sem, simprocAttr])
  | (refine gd_split ?_ ?_ <;> intro hb <;> (try simp only [bls] at hb) <;> (try simp only [hb]))
  | refine gRt [1000, 1001] [.tmp 4] rfl ?_ | refine gDn [1000, 1001] [.tmp 4] rfl ?_) <;> (try simp only [go_sem, simprocAttr, Int.reduceNeg, e16]))
  | (refine hK _ _ ?_; clear hK K; simp only [go_sem, simprocAttr])
  | refine gCd (by simp only [go_sem, simprocAttr]; rfl) rfl ?_
  | refine brT ?_ | refine brF ?_
  | (refine brS ?_ ?_ <;> intro hc <;> (try simp only [bls] at hc) <;> (try simp only [hc, bls]))
  | intro _ | refine And.intro ?_ ?_)
              all_goals first | omega | (unfold bigLen; omega) | exact ⟨_, _, ⟨rfl, rfl⟩, rfl⟩ | exact ⟨_, rfl⟩ | (rename_i hy; simp only [List.mem_singleton] at hy; subst hy; rfl) | with_reducible rfl | skip
            · rw [rowER, if_neg c1] at hbb
              by_cases c2 : (lo : Int) < xhi
              · rw [if_pos c2] at hbb
                obtain ⟨m, hm⟩ : ∃ m : Nat, xhi - lo = ((m + 1 : Nat) : Int) := ⟨(xhi - lo - 1).toNat, by omega⟩
                have hm2 : (xhi - lo).toNat = m + 1 := by omega
                rw [hm2] at hbb
                have hst := rrest_c kid hk hb g m (by omega) gg (oo, og) ho'
                generalize restR pl (m + 1) (oo, og) = a at hst hbb
                simp only at hbb
                subst hbb
                have hc := hcat (a.1, row ++ [a.2]) b1 (by simp; omega)
                have e15 : (ints (row ++ [a.2])).take (row.length + 1) = ints (row ++ [a.2]) := List.take_of_length_le (by simp)
                have e17 : row.length + 1 ≤ (row ++ [a.2]).length := by simp
                have e16 : ∀ k : Int, ints row ++ [[AVal.int .i64 k]] = ints (row ++ [k]) := fun k => by simp
                simp only [qsto, qbx, RPost] at hst hc ⊢
                repeat' (first
  | refine gSq ?_ | refine gSk ?_ | refine gBl ?_ | refine gIb ?_ | refine gEx rfl ?_
  | ((first
  | (refine AGood.at 25 ?_; (refine AGood.freeze 900 rfl ?_; simp only [rfT, rfS, rfO, rf, rf1, e15, e17, true_and, go_sem, simprocAttr]); (refine gRg [148] [0, 1, 3, 4, 5, 6, 7, 8, 9, 10, 11, 12, 13, 36, 39, 58, 85, 116, 127, 138] ?_; intro K hK))
  | (refine gRg [148] [0, 1, 3, 4, 5, 6, 7, 8, 9, 10, 11, 12, 13, 36, 39, 58, 85, 116, 127, 138] ?_; intro K hK)
  | (refine gDr 3 [148] 10 [0, 1, 2, 3, 4, 5, 6, 7, 8, 9] [0, 1, 3, 4, 5, 6, 7, 8, 9, 10, 11, 12, 13, 36, 39, 58, 85, 116, 127, 138] rfl ?_; intro K hK)
  | (refine gDr 12 [148] 20 [0, 1, 2, 3, 4, 5, 6, 7, 8, 9, 10, 11, 12, 13, 14, 15, 16, 17, 18, 19] [0, 1, 3, 4, 5, 6, 7, 8, 9, 10, 11, 12, 13, 36, 39, 58, 85, 116, 127, 138] rfl ?_; intro K hK)
  | (refine ACall.use [(1000, 1000), (1001, 1001)] [] rfl (hst) rfl rfl rfl ?_; (first | rintro _ _ ⟨rfl, rfl⟩ | rintro _ _ ⟨rfl, h1, rfl⟩); refine ⟨.inl rfl, rfl, ?_⟩; simp only [bk, bk1, bkS, bkO, idOf, delAll, go_sem, simprocAttr])
  | (refine ACall.use [(1000, 1000), (1001, 1001)] [] rfl (hc _) rfl rfl rfl ?_; (first | rintro _ _ ⟨rfl, rfl⟩ | rintro _ _ ⟨rfl, h1, rfl⟩); refine ⟨.inl rfl, rfl, ?_⟩; simp only [bk, bk1, bkS, bkO, idOf, delAll, go_sem, simprocAttr])
  | (refine gd_split ?_ ?_ <;> intro hb <;> (try simp only [bls] at hb) <;> (try simp only [hb]))
  | refine gRt [1000, 1001] [.tmp 4] rfl ?_ | refine gDn [1000, 1001] [.tmp 4] rfl ?_) <;> (try simp only [go_sem, simprocAttr, c1, c2, hm, e16]))
  | (refine hK _ _ ?_; clear hK K; simp only [go_sem, simprocAttr])
  | refine gCd (by simp only [go_sem, simprocAttr]; rfl) rfl ?_
  | refine brT ?_ | refine brF ?_
  | (refine brS ?_ ?_ <;> intro hc <;> (try simp only [bls] at hc) <;> (try simp only [hc, bls]))
  | intro _ | refine And.intro ?_ ?_)
                all_goals first | omega | (unfold bigLen; omega) | exact ⟨_, _, ⟨rfl, rfl⟩, rfl⟩ | exact ⟨_, rfl⟩ | (rename_i hy; simp only [List.mem_singleton] at hy; subst hy; rfl) | with_reducible rfl | skip
              · rw [if_neg c2] at hbb
                subst hbb
                have hc := hcat ((oo, og), row) b1 (by simp; omega)
                have e15 : (ints row).take row.length = ints row := List.take_of_length_le (by simp)
                simp only [qsto, qbx, RPost] at hc ⊢
                repeat' (first
  | refine gSq ?_ | refine gSk ?_ | refine gBl ?_ | refine gIb ?_ | refine gEx rfl ?_
  | ((first
  | (refine AGood.at 25 ?_; (refine AGood.freeze 900 rfl ?_; simp only [rfT, rfS, rfO, rf, rf1, e15, true_and, go_sem, simprocAttr]); (refine gRg [] [0, 1, 3, 4, 5, 6, 7, 8, 9, 10, 11, 12, 13, 36, 39, 58, 85, 116, 127, 138] ?_; intro K hK))
  | (refine gRg [] [0, 1, 3, 4, 5, 6, 7, 8, 9, 10, 11, 12, 13, 36, 39, 58, 85, 116, 127, 138] ?_; intro K hK)
  | (refine gDr 3 [] 10 [0, 1, 2, 3, 4, 5, 6, 7, 8, 9] [0, 1, 3, 4, 5, 6, 7, 8, 9, 10, 11, 12, 13, 36, 39, 58, 85, 116, 127, 138] rfl ?_; intro K hK)
  | (refine gDr 12 [] 20 [0, 1, 2, 3, 4, 5, 6, 7, 8, 9, 10, 11, 12, 13, 14, 15, 16, 17, 18, 19] [0, 1, 3, 4, 5, 6, 7, 8, 9, 10, 11, 12, 13, 36, 39, 58, 85, 116, 127, 138] rfl ?_; intro K hK)
  | (refine ACall.use [(1000, 1000), (1001, 1001)] [] rfl (hc _) rfl rfl rfl ?_; (first | rintro _ _ ⟨rfl, rfl⟩ | rintro _ _ ⟨rfl, h1, rfl⟩); refine ⟨.inl rfl, rfl, ?_⟩; simp only [bk, bk1, bkS, bkO, idOf, delAll, go_sem, simprocAttr])
  | (refine gd_split ?_ ?_ <;> intro hb <;> (try simp only [bls] at hb) <;> (try simp only [hb]))
  | refine gRt [1000, 1001] [.tmp 4] rfl ?_ | refine gDn [1000, 1001] [.tmp 4] rfl ?_) <;> (try simp only [go_sem, simprocAttr, c1, c2]))
  | (refine hK _ _ ?_; clear hK K; simp only [go_sem, simprocAttr])
  | refine gCd (by simp only [go_sem, simprocAttr]; rfl) rfl ?_
  | refine brT ?_ | refine brF ?_
  | (refine brS ?_ ?_ <;> intro hc <;> (try simp only [bls] at hc) <;> (try simp only [hc, bls]))
  | intro _ | refine And.intro ?_ ?_)
                all_goals first | omega | (unfold bigLen; omega) | exact ⟨_, _, ⟨rfl, rfl⟩, rfl⟩ | exact ⟨_, rfl⟩ | (rename_i hy; simp only [List.mem_singleton] at hy; subst hy; rfl) | with_reducible rfl | skip
end Go.Rad
/- Contracts: the law's own functions: few, some. -/
namespace Go.Rad
open Go Go.Proofs
set_option linter.all false
set_option maxRecDepth 20000
set_option maxHeartbeats 4000000

theorem few_c (l : List Node) (hl : l.length ≤ maxLen) : ACall Try.prog 15 [.sl true false (nodes l)] [] fun r s => r = .sl true false (nodes (l.take 400)) ∧ s = [] := by
  unfold maxLen at hl
  by_cases h : l.length ≤ 400
  · have e1 : min (l.length : Int) 400 = l.length := by omega
    have e2 : (nodes l).take l.length = nodes (l.take 400) := by rw [List.take_of_length_le (by simp), List.take_of_length_le (by omega)]
    have e3 : (0 : Int) ≤ l.length := by omega
    refine ACall.enter Try.func15 rfl (by kernel_rfl) (Nat.le_of_ble_eq_true rfl) ?_; simp only [initTm, Nat.reduceAdd]
    repeat' (first
  | refine gSq ?_ | refine gSk ?_ | refine gBl ?_ | refine gIb ?_ | refine gEx rfl ?_
  | ((first
  | (refine gRg [] [0, 2] ?_; intro K hK)
  | (refine gd_split ?_ ?_ <;> intro hb <;> (try simp only [bls] at hb) <;> (try simp only [hb]))
  | refine gRt [] [.tmp 2] rfl ?_ | refine gDn [] [.tmp 2] rfl ?_) <;> (try simp only [go_sem, simprocAttr, e1, e2, e3, slFull, intArg, Bool.false_and]))
  | (refine hK _ _ ?_; clear hK K; simp only [go_sem, simprocAttr])
  | refine gCd (by simp only [go_sem, simprocAttr]; rfl) rfl ?_
  | refine brT ?_ | refine brF ?_
  | (refine brS ?_ ?_ <;> intro hc <;> (try simp only [bls] at hc) <;> (try simp only [hc, bls]))
  | intro _ | refine And.intro ?_ ?_)
    all_goals first | omega | (unfold bigLen; omega) | exact ⟨_, _, ⟨rfl, rfl⟩, rfl⟩ | exact ⟨_, rfl⟩ | (rename_i hy; simp only [List.mem_singleton] at hy; subst hy; rfl) | with_reducible rfl | skip
    all_goals exact .inl trivial
  · have e1 : min (l.length : Int) 400 = 400 := by omega
    have e2 : (nodes l).take 400 = nodes (l.take 400) := by simp
    have e3 : 400 ≤ l.length := by omega
    refine ACall.enter Try.func15 rfl (by kernel_rfl) (Nat.le_of_ble_eq_true rfl) ?_; simp only [initTm, Nat.reduceAdd]
    repeat' (first
  | refine gSq ?_ | refine gSk ?_ | refine gBl ?_ | refine gIb ?_ | refine gEx rfl ?_
  | ((first
  | (refine gRg [] [0, 2] ?_; intro K hK)
  | (refine gd_split ?_ ?_ <;> intro hb <;> (try simp only [bls] at hb) <;> (try simp only [hb]))
  | refine gRt [] [.tmp 2] rfl ?_ | refine gDn [] [.tmp 2] rfl ?_) <;> (try simp only [go_sem, simprocAttr, e1, e2, e3, slFull, intArg, Bool.false_and]))
  | (refine hK _ _ ?_; clear hK K; simp only [go_sem, simprocAttr])
  | refine gCd (by simp only [go_sem, simprocAttr]; rfl) rfl ?_
  | refine brT ?_ | refine brF ?_
  | (refine brS ?_ ?_ <;> intro hc <;> (try simp only [bls] at hc) <;> (try simp only [hc, bls]))
  | intro _ | refine And.intro ?_ ?_)
    all_goals first | omega | (unfold bigLen; omega) | exact ⟨_, _, ⟨rfl, rfl⟩, rfl⟩ | exact ⟨_, rfl⟩ | (rename_i hy; simp only [List.mem_singleton] at hy; subst hy; rfl) | with_reducible rfl | skip
    all_goals exact .inl trivial

def someS (ds : List Df) : List Df := (ds.take 6).filter fun d => decide (d.l.length ≤ 100)
theorem some_c (ds : List Df) (hl : ds.length ≤ maxLen) (hd : ∀ d ∈ ds, d.l.length ≤ maxLen) : ACall Try.prog 16 [.sl true false (defs ds)] [] fun r s => r = .sl true false (defs (someS ds)) ∧ s = [] := by
  unfold maxLen at hl hd
  refine ACall.enter Try.func16 rfl (by kernel_rfl) (Nat.le_of_ble_eq_true rfl) ?_; simp only [initTm, Nat.reduceAdd]
  repeat' (first
  | refine gSq ?_ | refine gSk ?_ | refine gBl ?_ | refine gIb ?_ | refine gEx rfl ?_
  | ((first
  | (refine gRg [] [0, 2, 3, 4, 5, 6, 7, 8, 9, 20] ?_; intro K hK)
  | (refine gd_split ?_ ?_ <;> intro hb <;> (try simp only [bls] at hb) <;> (try simp only [hb]))
  | refine gRt [] [.tmp 2] rfl ?_ | refine gDn [] [.tmp 2] rfl ?_) <;> (try simp only [go_sem, simprocAttr]))
  | (refine hK _ _ ?_; clear hK K; simp only [go_sem, simprocAttr])
  | refine gCd (by simp only [go_sem, simprocAttr]; rfl) rfl ?_
  | refine brT ?_ | refine brF ?_
  | (refine brS ?_ ?_ <;> intro hc <;> (try simp only [bls] at hc) <;> (try simp only [hc, bls]))
  | intro _ | refine And.intro ?_ ?_)
  refine AGood.ownTm 3 900 2 (by decide) rfl fun g => ?_
  simp only [go_sem, simprocAttr]
  refine AGood.prune [0, 2, 3, 6, 7, 8] ?_; simp only [go_sem, simprocAttr]
  refine AGood.loopInv (α := Nat × Nat) (fun x => ([(0, .sl true false (defs ds)), (2, .sl true true []), (3, .osl 900 x.2 0 (someS (ds.take x.1)).length), (6, .sl true false (defs ds)), (7, .int .i64 ds.length), (8, .int .i64 x.1)], [(900, x.2, .row 2 (defs (someS (ds.take x.1))))])) (fun x => x.1 ≤ ds.length) (fun x => ds.length - x.1) (0, g) (Nat.zero_le _) rfl ?_
  rintro ⟨i, g⟩ hi ih
  simp only at hi ih ⊢
  have hsl : (someS (ds.take i)).length ≤ 6 := by
    refine Nat.le_trans (List.length_filter_le _ _) ?_
    simp; omega
  by_cases hle : i < ds.length
  · have e4 : (i : Int) < ds.length := by omega
    have e5 : (0 : Int) ≤ i := by omega
    have hx : ds[i]? = some ds[i] := List.getElem?_eq_getElem hle
    have ht := take_one hx
    have hm := hd ds[i] (List.getElem_mem hle)
    generalize ds[i] = x at hx hm ht
    by_cases h6 : i < 6
    · have e6 : (i : Int) < 6 := by omega
      have hone : someS (ds.take (i + 1)) = someS (ds.take i) ++ (if x.l.length ≤ 100 then [x] else []) := by
        have a1 : (ds.take (i + 1)).take 6 = ds.take (i + 1) := List.take_of_length_le (by rw [List.length_take]; omega)
        have a2 : (ds.take i).take 6 = ds.take i := List.take_of_length_le (by rw [List.length_take]; omega)
        simp only [someS, a1, a2]
        rw [ht, List.filter_append]
        congr 1
        by_cases h : x.l.length ≤ 100 <;> simp [h]
      obtain ⟨xn, xl⟩ := x
      simp only at hone hm
      by_cases h100 : xl.length ≤ 100
      · have e7 : (xl.length : Int) ≤ 100 := by omega
        rw [if_pos h100] at hone
        repeat' (first
  | refine gSq ?_ | refine gSk ?_ | refine gBl ?_ | refine gIb ?_ | refine gEx rfl ?_
  | ((first
  | (refine gRg [] [0, 2, 3, 4, 5, 6, 7, 8, 9, 20] ?_; intro K hK)
  | (refine gd_split ?_ ?_ <;> intro hb <;> (try simp only [bls] at hb) <;> (try simp only [hb]))
  | refine gRt [] [.tmp 2] rfl ?_ | refine gDn [] [.tmp 2] rfl ?_) <;> (try simp only [go_sem, simprocAttr, e4, e5, e6, e7, hx, Option.some.injEq, forall_eq']))
  | (refine hK _ _ ?_; clear hK K; simp only [go_sem, simprocAttr])
  | refine gCd (by simp only [go_sem, simprocAttr]; rfl) rfl ?_
  | refine brT ?_ | refine brF ?_
  | (refine brS ?_ ?_ <;> intro hc <;> (try simp only [bls] at hc) <;> (try simp only [hc, bls]))
  | intro _ | refine And.intro ?_ ?_)
        all_goals first | omega | (unfold bigLen; omega) | exact ⟨_, _, ⟨rfl, rfl⟩, rfl⟩ | exact ⟨_, rfl⟩ | (rename_i hy; simp only [List.mem_singleton] at hy; subst hy; rfl) | with_reducible rfl | skip
        rename_i h'
        refine AGood.filt [900] ?_
        simp only [sf_cons, sf_nil, go_sem, simprocAttr]
        refine AGood.prune [0, 2, 3, 6, 7, 8] ?_; simp only [go_sem, simprocAttr]
        refine AGood.cast (ih (i + 1, h') (by simp only; omega) (by simp only; omega)) ?_ ?_
        · simp only [hone]; simp
        · simp only [hone]; simp
      · have e7 : ¬ (xl.length : Int) ≤ 100 := by omega
        rw [if_neg h100, List.append_nil] at hone
        repeat' (first
  | refine gSq ?_ | refine gSk ?_ | refine gBl ?_ | refine gIb ?_ | refine gEx rfl ?_
  | ((first
  | (refine gRg [] [0, 2, 3, 4, 5, 6, 7, 8, 9, 20] ?_; intro K hK)
  | (refine gd_split ?_ ?_ <;> intro hb <;> (try simp only [bls] at hb) <;> (try simp only [hb]))
  | refine gRt [] [.tmp 2] rfl ?_ | refine gDn [] [.tmp 2] rfl ?_) <;> (try simp only [go_sem, simprocAttr, e4, e5, e6, e7, hx, Option.some.injEq, forall_eq']))
  | (refine hK _ _ ?_; clear hK K; simp only [go_sem, simprocAttr])
  | refine gCd (by simp only [go_sem, simprocAttr]; rfl) rfl ?_
  | refine brT ?_ | refine brF ?_
  | (refine brS ?_ ?_ <;> intro hc <;> (try simp only [bls] at hc) <;> (try simp only [hc, bls]))
  | intro _ | refine And.intro ?_ ?_)
        all_goals first | omega | (unfold bigLen; omega) | exact ⟨_, _, ⟨rfl, rfl⟩, rfl⟩ | exact ⟨_, rfl⟩ | (rename_i hy; simp only [List.mem_singleton] at hy; subst hy; rfl) | with_reducible rfl | skip
        refine AGood.filt [900] ?_
        simp only [sf_cons, sf_nil, go_sem, simprocAttr]
        refine AGood.prune [0, 2, 3, 6, 7, 8] ?_; simp only [go_sem, simprocAttr]
        refine AGood.cast (ih (i + 1, g) (by simp only; omega) (by simp only; omega)) ?_ ?_
        · simp only [hone]; rfl
        · simp only [hone]
    · have e6 : ¬ (i : Int) < 6 := by omega
      have hone : someS (ds.take (i + 1)) = someS (ds.take i) := by
        simp only [someS, List.take_take, Nat.min_eq_left (show 6 ≤ i + 1 by omega), Nat.min_eq_left (show 6 ≤ i by omega)]
      obtain ⟨xn, xl⟩ := x
      repeat' (first
  | refine gSq ?_ | refine gSk ?_ | refine gBl ?_ | refine gIb ?_ | refine gEx rfl ?_
  | ((first
  | (refine gRg [] [0, 2, 3, 4, 5, 6, 7, 8, 9, 20] ?_; intro K hK)
  | (refine gd_split ?_ ?_ <;> intro hb <;> (try simp only [bls] at hb) <;> (try simp only [hb]))
  | refine gRt [] [.tmp 2] rfl ?_ | refine gDn [] [.tmp 2] rfl ?_) <;> (try simp only [go_sem, simprocAttr, e4, e5, e6, hx, Option.some.injEq, forall_eq']))
  | (refine hK _ _ ?_; clear hK K; simp only [go_sem, simprocAttr])
  | refine gCd (by simp only [go_sem, simprocAttr]; rfl) rfl ?_
  | refine brT ?_ | refine brF ?_
  | (refine brS ?_ ?_ <;> intro hc <;> (try simp only [bls] at hc) <;> (try simp only [hc, bls]))
  | intro _ | refine And.intro ?_ ?_)
      all_goals first | omega | (unfold bigLen; omega) | exact ⟨_, _, ⟨rfl, rfl⟩, rfl⟩ | exact ⟨_, rfl⟩ | (rename_i hy; simp only [List.mem_singleton] at hy; subst hy; rfl) | with_reducible rfl | skip
      refine AGood.filt [900] ?_
      simp only [sf_cons, sf_nil, go_sem, simprocAttr]
      refine AGood.prune [0, 2, 3, 6, 7, 8] ?_; simp only [go_sem, simprocAttr]
      refine AGood.cast (ih (i + 1, g) (by simp only; omega) (by simp only; omega)) ?_ ?_
      · simp only [hone]; rfl
      · simp only [hone]
  · have e4 : ¬ (i : Int) < ds.length := by omega
    rw [List.take_of_length_le (by omega)]
    have e9 : (defs (someS ds)).take (someS ds).length = defs (someS ds) := List.take_of_length_le (by simp)
    repeat' (first
  | refine gSq ?_ | refine gSk ?_ | refine gBl ?_ | refine gIb ?_ | refine gEx rfl ?_
  | ((first
  | (refine AGood.at 8 ?_; (refine AGood.freeze 900 rfl ?_; simp only [rfT, rfS, rfO, rf, rf1, e9, true_and, go_sem, simprocAttr]); (refine gRg [] [0, 2, 3, 4, 5, 6, 7, 8, 9, 20] ?_; intro K hK))
  | (refine gRg [] [0, 2, 3, 4, 5, 6, 7, 8, 9, 20] ?_; intro K hK)
  | (refine gd_split ?_ ?_ <;> intro hb <;> (try simp only [bls] at hb) <;> (try simp only [hb]))
  | refine gRt [] [.tmp 2] rfl ?_ | refine gDn [] [.tmp 2] rfl ?_) <;> (try simp only [go_sem, simprocAttr, e4]))
  | (refine hK _ _ ?_; clear hK K; simp only [go_sem, simprocAttr])
  | refine gCd (by simp only [go_sem, simprocAttr]; rfl) rfl ?_
  | refine brT ?_ | refine brF ?_
  | (refine brS ?_ ?_ <;> intro hc <;> (try simp only [bls] at hc) <;> (try simp only [hc, bls]))
  | intro _ | refine And.intro ?_ ?_)
end Go.Rad
/- Contracts: whether a tree has no names. -/
namespace Go.Rad
open Go Go.Proofs
set_option linter.all false
set_option maxRecDepth 20000
set_option maxHeartbeats 4000000

theorem plain_c (f : Bool) (l : List Node) (hlen : l.length ≤ maxLen) (hl : ∀ n ∈ l, n.l.length ≤ maxLen ∧ n.name.size ≤ maxLen) : ACall Try.prog 17 [.sl true f (nodes l)] [] fun r s => r = .bool (plainS l) ∧ s = [] := by
  unfold maxLen at hlen
  have hr := right4uc true f l hl
  refine ACall.enter Try.func17 rfl (by kernel_rfl) (Nat.le_of_ble_eq_true rfl) ?_; simp only [initTm, Nat.reduceAdd]
  repeat' (first
  | refine gSq ?_ | refine gSk ?_ | refine gBl ?_ | refine gIb ?_ | refine gEx rfl ?_
  | ((first
  | (refine gRg [] [0, 2, 3, 7, 15] ?_; intro K hK)
  | (refine gd_split ?_ ?_ <;> intro hb <;> (try simp only [bls] at hb) <;> (try simp only [hb]))
  | refine gRt [] [.tmp 2] rfl ?_ | refine gDn [] [.tmp 2] rfl ?_) <;> (try simp only [go_sem, simprocAttr]))
  | (refine hK _ _ ?_; clear hK K; simp only [go_sem, simprocAttr])
  | refine gCd (by simp only [go_sem, simprocAttr]; rfl) rfl ?_
  | refine brT ?_ | refine brF ?_
  | (refine brS ?_ ?_ <;> intro hc <;> (try simp only [bls] at hc) <;> (try simp only [hc, bls]))
  | intro _ | refine And.intro ?_ ?_)
  refine AGood.prune [0, 2, 3] ?_; simp only [go_sem, simprocAttr]
  refine AGood.loopInv (α := Nat) (fun i => ([(0, .sl true f (nodes l)), (2, .bool false), (3, .int .i64 i)], [])) (fun i => i ≤ l.length ∧ (l.take i).all plainN = true) (fun i => l.length - i) 0 ⟨Nat.zero_le _, rfl⟩ rfl ?_
  rintro i ⟨hi, hall⟩ ih
  simp only
  by_cases hle : i < l.length
  · have e4 : (i : Int) < l.length := by omega
    have e5 : (0 : Int) ≤ i := by omega
    have hx : l[i]? = some l[i] := List.getElem?_eq_getElem hle
    generalize l[i] = x at hx
    by_cases h6 : x.op = 6
    · have hno : plainS l = false := by
        have : l.all plainN = false := List.all_eq_false.2 ⟨x, List.mem_of_getElem? hx, by simp [plainN, h6]⟩
        simp [plainS, this]
      rw [hno]
      obtain ⟨xo, ⟨xa, xb, xc, xd⟩, xl, xlo, xhi, xn⟩ := x
      simp only at h6
      subst h6
      repeat' (first
  | refine gSq ?_ | refine gSk ?_ | refine gBl ?_ | refine gIb ?_ | refine gEx rfl ?_
  | ((first
  | (refine gRg [] [0, 2, 3, 7, 15] ?_; intro K hK)
  | (refine gd_split ?_ ?_ <;> intro hb <;> (try simp only [bls] at hb) <;> (try simp only [hb]))
  | refine gRt [] [.tmp 2] rfl ?_ | refine gDn [] [.tmp 2] rfl ?_) <;> (try simp only [go_sem, simprocAttr, e4, e5, hx, Option.some.injEq, forall_eq']))
  | (refine hK _ _ ?_; clear hK K; simp only [go_sem, simprocAttr])
  | refine gCd (by simp only [go_sem, simprocAttr]; rfl) rfl ?_
  | refine brT ?_ | refine brF ?_
  | (refine brS ?_ ?_ <;> intro hc <;> (try simp only [bls] at hc) <;> (try simp only [hc, bls]))
  | intro _ | refine And.intro ?_ ?_)
    · have hyes : plainN x = true := by simp [plainN, h6]
      obtain ⟨xo, ⟨xa, xb, xc, xd⟩, xl, xlo, xhi, xn⟩ := x
      simp only at h6
      repeat' (first
  | refine gSq ?_ | refine gSk ?_ | refine gBl ?_ | refine gIb ?_ | refine gEx rfl ?_
  | ((first
  | (refine gRg [] [0, 2, 3, 7, 15] ?_; intro K hK)
  | (refine gd_split ?_ ?_ <;> intro hb <;> (try simp only [bls] at hb) <;> (try simp only [hb]))
  | refine gRt [] [.tmp 2] rfl ?_ | refine gDn [] [.tmp 2] rfl ?_) <;> (try simp only [go_sem, simprocAttr, e4, e5, hx, h6, Option.some.injEq, forall_eq']))
  | (refine hK _ _ ?_; clear hK K; simp only [go_sem, simprocAttr])
  | refine gCd (by simp only [go_sem, simprocAttr]; rfl) rfl ?_
  | refine brT ?_ | refine brF ?_
  | (refine brS ?_ ?_ <;> intro hc <;> (try simp only [bls] at hc) <;> (try simp only [hc, bls]))
  | intro _ | refine And.intro ?_ ?_)
      all_goals first | omega | (unfold bigLen; omega) | exact ⟨_, _, ⟨rfl, rfl⟩, rfl⟩ | exact ⟨_, rfl⟩ | (rename_i hy; simp only [List.mem_singleton] at hy; subst hy; rfl) | with_reducible rfl | skip
      refine AGood.prune [0, 2, 3] ?_; simp only [go_sem, simprocAttr]
      exact (ih (i + 1) ⟨by omega, by rw [take_one hx, List.all_append, hall]; simp [hyes]⟩ (by omega)).cast rfl rfl
  · have e4 : ¬ (i : Int) < l.length := by omega
    rw [List.take_of_length_le (by omega)] at hall
    repeat' (first
  | refine gSq ?_ | refine gSk ?_ | refine gBl ?_ | refine gIb ?_ | refine gEx rfl ?_
  | ((first
  | (refine gRg [] [0, 2, 3, 7, 15] ?_; intro K hK)
  | refine cAl (hr) rfl rfl rfl ?_
  | (refine gd_split ?_ ?_ <;> intro hb <;> (try simp only [bls] at hb) <;> (try simp only [hb]))
  | refine gRt [] [.tmp 2] rfl ?_ | refine gDn [] [.tmp 2] rfl ?_) <;> (try simp only [go_sem, simprocAttr, e4]))
  | (refine hK _ _ ?_; clear hK K; simp only [go_sem, simprocAttr])
  | refine gCd (by simp only [go_sem, simprocAttr]; rfl) rfl ?_
  | refine brT ?_ | refine brF ?_
  | (refine brS ?_ ?_ <;> intro hc <;> (try simp only [bls] at hc) <;> (try simp only [hc, bls]))
  | intro _ | refine And.intro ?_ ?_)
    simp [plainS, hall]
end Go.Rad
/- Contracts: the document's plan: a node's, and a tree's. -/
namespace Go.Rad
open Go Go.Proofs
set_option linter.all false
set_option maxRecDepth 20000
set_option maxHeartbeats 4000000

theorem rplan_c {q f : Bool} {l : List Node} {most : Int} (hl : plOk l) : ∀ (fu : Nat) (k : Nat), k < fu → k < l.length → KidR Try.prog 44 q f l most (planR l most fu k) k := by
  intro fu
  induction fu with
  | zero => intro k h; omega
  | succ fu ih =>
    intro k hk hkl g g1 s hs
    have hx : l[k]? = some l[k] := List.getElem?_eq_getElem hkl
    obtain ⟨m1, m2, m3, m4, m5, m6⟩ := hl.2 k _ hx
    generalize l[k] = n at hx m1 m2 m3 m4 m5 m6
    have hl1 := hl.1
    have hlen := fun k => planR_len l most fu k
    have e1 : (k : Int) < l.length := by omega
    have e2 : (0 : Int) ≤ k := by omega
    rw [planR, nAt_get hx]
    obtain ⟨out, lg⟩ := s
    simp only at hs
    cases lg
    · rw [if_neg Bool.false_ne_true]
      by_cases h5 : n.op = 5
      · rw [if_pos h5]
        obtain ⟨kd, hkd⟩ : ∃ kd, n.l = [kd] := List.length_eq_one_iff.1 (m3 h5)
        have hk1 := m2 kd (by simp [hkd])
        obtain ⟨kid, rfl⟩ : ∃ kid : Nat, kd = kid := ⟨kd.toNat, by omega⟩
        have hm : l[kid]? = some (l[kid]'(by omega)) := List.getElem?_eq_getElem (by omega)
        have e3 : kid0 n = (kid : Int) := by simp [kid0, hkd]
        rw [e3, nAt_get hm]
        have hcall := rrep_c (q := q) (f := f) (l := l) (most := most) (by omega) n _ kid hkd hm ⟨m4, m5⟩ m6 (ih kid (by omega) (by omega)) (hlen kid) g g1 (out, false) hs
        generalize repR (planR l most fu kid) most (decide ((l[kid]'(by omega)).op = 2)) n.lo n.hi (out, false) = a at hcall
        obtain ⟨xo, ⟨xa, xb, xc, xd⟩, xl, xlo, xhi, xn⟩ := n
        simp only at h5
        subst h5
        simp only [qsto, qbx, RPost, Node.cells, Node.cellsF] at hcall ⊢
        refine ACall.enter Try.func44 rfl (by kernel_rfl) (Nat.le_of_ble_eq_true rfl) ?_; simp only [initTm, Nat.reduceAdd]
        repeat' (first
  | refine gSq ?_ | refine gSk ?_ | refine gBl ?_ | refine gIb ?_ | refine gEx rfl ?_
  | ((first
  | (refine gRg [] [0, 1, 4, 5, 6, 7, 18, 21, 29] ?_; intro K hK)
  | (refine ACall.use [(1000, 1000), (1001, 1001)] [] rfl (hcall) rfl rfl rfl ?_; (first | rintro _ _ ⟨rfl, rfl⟩ | rintro _ _ ⟨rfl, h1, rfl⟩); refine ⟨.inl rfl, rfl, ?_⟩; simp only [bk, bk1, bkS, bkO, idOf, delAll, go_sem, simprocAttr])
  | (refine gd_split ?_ ?_ <;> intro hb <;> (try simp only [bls] at hb) <;> (try simp only [hb]))
  | refine gRt [1000, 1001] [.tmp 4] rfl ?_ | refine gDn [1000, 1001] [.tmp 4] rfl ?_) <;> (try simp only [go_sem, simprocAttr, hx, e1, e2, Option.some.injEq, forall_eq']))
  | (refine hK _ _ ?_; clear hK K; simp only [go_sem, simprocAttr])
  | refine gCd (by simp only [go_sem, simprocAttr]; rfl) rfl ?_
  | refine brT ?_ | refine brF ?_
  | (refine brS ?_ ?_ <;> intro hc <;> (try simp only [bls] at hc) <;> (try simp only [hc, bls]))
  | intro _ | refine And.intro ?_ ?_)
        all_goals first | omega | (unfold bigLen; omega) | exact ⟨_, _, ⟨rfl, rfl⟩, rfl⟩ | exact ⟨_, rfl⟩ | (rename_i hy; simp only [List.mem_singleton] at hy; subst hy; rfl) | with_reducible rfl | skip
      · rw [if_neg h5]
        obtain ⟨xo, ⟨xa, xb, xc, xd⟩, xl, xlo, xhi, xn⟩ := n
        simp only at h5 m1 m2 ⊢
        obtain ⟨S, hS⟩ : ∃ S, S = kidsR (planR l most fu) xl (out, false) [] := ⟨_, rfl⟩
        rw [← hS]
        have hSl := kidsR_len hlen xl (out, false) [] hs
        rw [← hS] at hSl
        simp only [List.length_nil] at hSl
        obtain ⟨S', hS'⟩ : ∃ S', S' = putQ ⟨xo, ⟨xa, xb, xc, xd⟩, S.2, xlo, xhi, xn⟩ S.1 := ⟨_, rfl⟩
        rw [← hS']
        simp only [qsto, qbx]
        refine ACall.enter Try.func44 rfl (by kernel_rfl) (Nat.le_of_ble_eq_true rfl) ?_; simp only [initTm, Nat.reduceAdd]
        repeat' (first
  | refine gSq ?_ | refine gSk ?_ | refine gBl ?_ | refine gIb ?_ | refine gEx rfl ?_
  | ((first
  | (refine gRg [] [0, 1, 4, 5, 6, 7, 18, 21, 29] ?_; intro K hK)
  | (refine gd_split ?_ ?_ <;> intro hb <;> (try simp only [bls] at hb) <;> (try simp only [hb]))
  | refine gRt [1000, 1001] [.tmp 4] rfl ?_ | refine gDn [1000, 1001] [.tmp 4] rfl ?_) <;> (try simp only [go_sem, simprocAttr, hx, h5, e1, e2, Option.some.injEq, forall_eq']))
  | (refine hK _ _ ?_; clear hK K; simp only [go_sem, simprocAttr])
  | refine gCd (by simp only [go_sem, simprocAttr]; rfl) rfl ?_
  | refine brT ?_ | refine brF ?_
  | (refine brS ?_ ?_ <;> intro hc <;> (try simp only [bls] at hc) <;> (try simp only [hc, bls]))
  | intro _ | refine And.intro ?_ ?_)
        all_goals first | omega | (unfold bigLen; omega) | exact ⟨_, _, ⟨rfl, rfl⟩, rfl⟩ | exact ⟨_, rfl⟩ | (rename_i hy; simp only [List.mem_singleton] at hy; subst hy; rfl) | with_reducible rfl | skip
        rename_i h5b
        refine AGood.ownTm 6 900 1 (by decide) rfl fun g9 => ?_
        simp only [go_sem, simprocAttr]
        refine AGood.prune [0, 5, 6, 7] ?_; simp only [go_sem, simprocAttr]
        refine AGood.loopInv (α := Nat × RS × List Int × Nat × Nat) (fun x => ([(0, .bx 1000 g 0), (5, .bx 5 h5b 0), (6, .osl 900 x.2.2.2.2 0 x.2.2.1.length), (7, .int .i64 x.1)],
            [(5, h5b, .box [.int .u8 xo, .int .u64 xa, .int .u64 xb, .int .u64 xc, .int .u64 xd, .sl true false (ints xl), .int .i64 xlo, .int .i64 xhi, .str xn]), (900, x.2.2.2.2, .row 1 (ints x.2.2.1)), (1000, g, .box [.sl q f (nodes l), .int .i64 most, .osl 1001 x.2.2.2.1 0 x.2.1.1.length, .bool x.2.1.2]), (1001, x.2.2.2.1, .row 9 (nodes x.2.1.1))]))
          (fun x => x.1 ≤ xl.length ∧ x.2.2.1.length = x.1 ∧ x.2.1.1.length ≤ 1024 ∧ S = kidsR (planR l most fu) (xl.drop x.1) x.2.1 x.2.2.1) (fun x => xl.length - x.1) (0, (out, false), [], g1, g9) ⟨Nat.zero_le _, rfl, hs, hS⟩ rfl ?_
        rintro ⟨i, o, row, gg, g9⟩ ⟨hi, hrl, ho', hrun⟩ ih2
        simp only at hi hrl ho' hrun ih2 ⊢
        by_cases hle : i < xl.length
        · have e4 : (i : Int) < xl.length := by omega
          have e5 : (0 : Int) ≤ i := by omega
          have e6 : (i : Int) + 1 = ((i + 1 : Nat) : Int) := by omega
          have hx2 : xl[i]? = some xl[i] := List.getElem?_eq_getElem hle
          have hm := m2 xl[i] (List.getElem_mem hle)
          have hdr : xl.drop i = xl[i] :: xl.drop (i + 1) := List.drop_eq_getElem_cons hle
          rw [hdr, kidsR] at hrun
          generalize xl[i] = kd at hx2 hm hrun
          obtain ⟨kid, rfl⟩ : ∃ kid : Nat, kd = kid := ⟨kd.toNat, by omega⟩
          have b2 := hlen kid o ho'
          have hp := ih kid (by omega) (by omega) g gg o ho'
          generalize planR l most fu kid o = a at b2 hp hrun
          simp only [qsto, qbx, RPost] at hp
          repeat' (first
  | refine gSq ?_ | refine gSk ?_ | refine gBl ?_ | refine gIb ?_ | refine gEx rfl ?_
  | ((first
  | (refine gRg [40] [0, 1, 4, 5, 6, 7, 18, 21, 29] ?_; intro K hK)
  | (refine ACall.use [(1000, 1000), (1001, 1001)] [] rfl (hp) rfl rfl rfl ?_; (first | rintro _ _ ⟨rfl, rfl⟩ | rintro _ _ ⟨rfl, h1, rfl⟩); refine ⟨.inl rfl, rfl, ?_⟩; simp only [bk, bk1, bkS, bkO, idOf, delAll, go_sem, simprocAttr])
  | (refine gd_split ?_ ?_ <;> intro hb <;> (try simp only [bls] at hb) <;> (try simp only [hb]))
  | refine gRt [1000, 1001] [.tmp 4] rfl ?_ | refine gDn [1000, 1001] [.tmp 4] rfl ?_) <;> (try simp only [go_sem, simprocAttr, e4, e5, e6, hx2, Option.some.injEq, forall_eq']))
  | (refine hK _ _ ?_; clear hK K; simp only [go_sem, simprocAttr])
  | refine gCd (by simp only [go_sem, simprocAttr]; rfl) rfl ?_
  | refine brT ?_ | refine brF ?_
  | (refine brS ?_ ?_ <;> intro hc <;> (try simp only [bls] at hc) <;> (try simp only [hc, bls]))
  | intro _ | refine And.intro ?_ ?_)
          all_goals first | omega | (unfold bigLen; omega) | exact ⟨_, _, ⟨rfl, rfl⟩, rfl⟩ | exact ⟨_, rfl⟩ | (rename_i hy; simp only [List.mem_singleton] at hy; subst hy; rfl) | with_reducible rfl | skip
          rename_i h'
          refine AGood.filt [5, 900, 1000, 1001] ?_
          simp only [sf_cons, sf_nil, go_sem, simprocAttr]
          refine AGood.prune [0, 5, 6, 7] ?_; simp only [go_sem, simprocAttr]
          refine AGood.cast (ih2 (i + 1, a.1, row ++ [a.2], h1, h') ⟨by simp only; omega, by simp [hrl], b2, hrun⟩ (by simp only; omega)) ?_ ?_
          · simp
          · simp
        · have e4 : ¬ (i : Int) < xl.length := by omega
          have hin : i = xl.length := by omega
          rw [List.drop_eq_nil_of_le (by omega), kidsR] at hrun
          subst hrun
          clear ih2
          have e15 : (ints row).take row.length = ints row := List.take_of_length_le (by simp)
          have hc := rput_c q f false l most g gg ⟨xo, ⟨xa, xb, xc, xd⟩, row, xlo, xhi, xn⟩ o ho'
          simp only at hS'
          rw [← hS'] at hc
          simp only [qsto, qbx, RPost, Node.cellsF] at hc ⊢
          repeat' (first
  | refine gSq ?_ | refine gSk ?_ | refine gBl ?_ | refine gIb ?_ | refine gEx rfl ?_
  | ((first
  | (refine AGood.at 11 ?_; (refine AGood.freeze 900 rfl ?_; simp only [rfT, rfS, rfO, rf, rf1, e15, true_and, go_sem, simprocAttr]); (refine gRg [] [0, 1, 4, 5, 6, 7, 18, 21, 29] ?_; intro K hK))
  | (refine gRg [] [0, 1, 4, 5, 6, 7, 18, 21, 29] ?_; intro K hK)
  | (refine ACall.use [(1000, 1000), (1001, 1001)] [] rfl (hc) rfl rfl rfl ?_; (first | rintro _ _ ⟨rfl, rfl⟩ | rintro _ _ ⟨rfl, h1, rfl⟩); refine ⟨.inl rfl, rfl, ?_⟩; simp only [bk, bk1, bkS, bkO, idOf, delAll, go_sem, simprocAttr])
  | (refine gd_split ?_ ?_ <;> intro hb <;> (try simp only [bls] at hb) <;> (try simp only [hb]))
  | refine gRt [1000, 1001] [.tmp 4] rfl ?_ | refine gDn [1000, 1001] [.tmp 4] rfl ?_) <;> (try simp only [go_sem, simprocAttr, e4]))
  | (refine hK _ _ ?_; clear hK K; simp only [go_sem, simprocAttr])
  | refine gCd (by simp only [go_sem, simprocAttr]; rfl) rfl ?_
  | refine brT ?_ | refine brF ?_
  | (refine brS ?_ ?_ <;> intro hc <;> (try simp only [bls] at hc) <;> (try simp only [hc, bls]))
  | intro _ | refine And.intro ?_ ?_)
          all_goals first | omega | (unfold bigLen; omega) | exact ⟨_, _, ⟨rfl, rfl⟩, rfl⟩ | exact ⟨_, rfl⟩ | (rename_i hy; simp only [List.mem_singleton] at hy; subst hy; rfl) | with_reducible rfl | skip
    · simp only [if_true]
      obtain ⟨xo, ⟨xa, xb, xc, xd⟩, xl, xlo, xhi, xn⟩ := n
      simp only [qsto, qbx, RPost]
      refine ACall.enter Try.func44 rfl (by kernel_rfl) (Nat.le_of_ble_eq_true rfl) ?_; simp only [initTm, Nat.reduceAdd]
      repeat' (first
  | refine gSq ?_ | refine gSk ?_ | refine gBl ?_ | refine gIb ?_ | refine gEx rfl ?_
  | ((first
  | (refine gRg [] [0, 1, 4, 5, 6, 7, 18, 21, 29] ?_; intro K hK)
  | (refine gd_split ?_ ?_ <;> intro hb <;> (try simp only [bls] at hb) <;> (try simp only [hb]))
  | refine gRt [1000, 1001] [.tmp 4] rfl ?_ | refine gDn [1000, 1001] [.tmp 4] rfl ?_) <;> (try simp only [go_sem, simprocAttr, hx, e1, e2, Option.some.injEq, forall_eq']))
  | (refine hK _ _ ?_; clear hK K; simp only [go_sem, simprocAttr])
  | refine gCd (by simp only [go_sem, simprocAttr]; rfl) rfl ?_
  | refine brT ?_ | refine brF ?_
  | (refine brS ?_ ?_ <;> intro hc <;> (try simp only [bls] at hc) <;> (try simp only [hc, bls]))
  | intro _ | refine And.intro ?_ ?_)
      all_goals first | omega | (unfold bigLen; omega) | exact ⟨_, _, ⟨rfl, rfl⟩, rfl⟩ | exact ⟨_, rfl⟩ | (rename_i hy; simp only [List.mem_singleton] at hy; subst hy; rfl) | with_reducible rfl | skip
end Go.Rad
