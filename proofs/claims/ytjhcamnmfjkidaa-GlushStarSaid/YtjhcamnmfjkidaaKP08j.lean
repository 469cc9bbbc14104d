/- Contracts: the document's plan: a repetition. -/
import Derived.Test.YtjhcamnmfjkidaaKP09r
import Derived.Test.YtjhcamnmfjkidaaKP09b
import Derived.Test.YtjhcamnmfjkidaaKRNode
import Derived.Test.YtjhcamnmfjkidaaKC05a
import Derived.Test.YtjhcamnmfjkidaaKRNorm
set_option linter.all false
namespace Go.Rad
open Go Go.Proofs
set_option linter.all false
set_option maxRecDepth 20000
set_option maxHeartbeats 4000000

theorem rrep_c {q f : Bool} {l : List Node} {most : Int} {pl : RS → RO} (hll : l.length ≤ 1000000) (n m : Node) (kid : Nat) (hn : n.l = [(kid : Int)]) (hm : l[kid]? = some m) (hlo : 0 ≤ n.lo ∧ n.lo ≤ 4096) (hhi : n.hi ≤ 4096) (hk : KidR Try.prog 52 q f l most pl kid) (hb : PBR pl) (g g1 : Nat) (s : RS) (hs : s.1.length ≤ 1024) :
    ACall Try.prog 60 [.bx 1000 g 0, .agg n.cells] (qsto q f l most g g1 s) (RPost q f l most g (repR pl most (decide (m.op = 2)) n.lo n.hi s)) := by
  obtain ⟨xo, ⟨xa, xb, xc, xd⟩, xl, xlo, xhi, xn⟩ := n
  simp only at hn hlo hhi
  have hx0 : xl[0]? = some (kid : Int) := by rw [hn]; rfl
  have e0 : (0 : Int) < xl.length := by rw [hn]; exact Int.one_pos
  clear hn
  have hkl := (List.getElem?_eq_some_iff.1 hm).1
  have e1 : (kid : Int) < l.length := by omega
  have e2 : (0 : Int) ≤ kid := by omega
  obtain ⟨mo, ⟨ma, mb, mc, md⟩, ml, mlo, mhi, mn⟩ := m
  simp only [Node.cells, Node.cellsF] at hm ⊢
  unfold repR
  by_cases k1 : decide (mo = 2) = true ∧ most < xhi
  · rw [if_pos k1]
    obtain ⟨k0, k1⟩ := k1
    have k0 := of_decide_eq_true k0
    subst k0
    unfold cntR
    by_cases k2 : 0 < xlo
    · rw [if_pos k2]
      have hp := hk g g1 s hs
      have b1 := hb s hs
      generalize pl s = a at hp b1
      have ht := fun h1 => rput_c q f false l most g h1 (repNd xlo xhi a.2) a.1 b1
      have k3 : max xlo 1 = xlo := by omega
      have k4 : ¬ xlo = 0 := by omega
      simp only [qsto, qbx, RPost, Node.cellsF] at hp ht ⊢
      refine ACall.enter Try.func60 rfl (by kernel_rfl) (Nat.le_of_ble_eq_true rfl) ?_; simp only [initTm, Nat.reduceAdd]
      repeat' (first
  | refine gSq ?_ | refine gSk ?_ | refine gBl ?_ | refine gIb ?_ | refine gEx rfl ?_
  | ((first
  | (refine gRg [48] [0, 1, 3, 4, 5, 6, 7, 8, 9, 10, 11, 12, 13, 36, 39, 58, 85, 116, 127, 138] ?_; intro K hK)
  | (refine gDr 3 [48] 10 [0, 1, 2, 3, 4, 5, 6, 7, 8, 9] [0, 1, 3, 4, 5, 6, 7, 8, 9, 10, 11, 12, 13, 36, 39, 58, 85, 116, 127, 138] rfl ?_; intro K hK)
  | (refine gDr 12 [48] 20 [0, 1, 2, 3, 4, 5, 6, 7, 8, 9, 10, 11, 12, 13, 14, 15, 16, 17, 18, 19] [0, 1, 3, 4, 5, 6, 7, 8, 9, 10, 11, 12, 13, 36, 39, 58, 85, 116, 127, 138] rfl ?_; intro K hK)
  | (refine ACall.use [(1000, 1000), (1001, 1001)] [] rfl (hp) rfl rfl rfl ?_; (first | rintro _ _ ⟨rfl, rfl⟩ | rintro _ _ ⟨rfl, h1, rfl⟩); refine ⟨.inl rfl, rfl, ?_⟩; simp only [bk, bk2, bk1, bkS, bkO, idOf, delAll, go_sem, simprocAttr])
  | (refine ACall.use [(1000, 1000), (1001, 1001)] [] rfl (ht _) rfl rfl rfl ?_; (first | rintro _ _ ⟨rfl, rfl⟩ | rintro _ _ ⟨rfl, h1, rfl⟩); refine ⟨.inl rfl, rfl, ?_⟩; simp only [bk, bk2, bk1, bkS, bkO, idOf, delAll, go_sem, simprocAttr])
  | (refine gd_split ?_ ?_ <;> intro hb <;> (try simp only [bls] at hb) <;> (try simp only [hb]))
  | refine gRt [1000, 1001] [.tmp 4] rfl ?_ | refine gDn [1000, 1001] [.tmp 4] rfl ?_) <;> (try simp only [go_sem, simprocAttr, hx0, e0, e1, e2, hm, k1, k2, k3, k4, Option.some.injEq, forall_eq']))
  | (refine hK _ _ ?_; clear hK K; simp only [go_sem, simprocAttr])
  | refine gCd (by simp only [go_sem, simprocAttr]; rfl) rfl ?_
  | refine brT ?_ | refine brF ?_
  | (refine brS ?_ ?_ <;> intro hc <;> (try simp only [bls] at hc) <;> (try simp only [hc, bls]))
  | intro _ | refine And.intro ?_ ?_)
      all_goals first | omega | (unfold bigLen; omega) | exact ⟨_, _, ⟨rfl, rfl⟩, rfl⟩ | exact ⟨_, rfl⟩ | (rename_i hy; simp only [List.mem_singleton] at hy; subst hy; rfl) | with_reducible rfl | skip
    · rw [if_neg k2]
      have k4 : xlo = 0 := by omega
      subst k4
      have he := rput_c q f true l most g g1 (opNd 1 []) s hs
      have b0 := putQ_len (opNd 1 []) s hs
      generalize putQ (opNd 1 []) s = e at he b0
      have hp := fun h1 => hk g h1 e.1 b0
      have b1 := hb e.1 b0
      generalize pl e.1 = a at hp b1
      have ht := fun h1 => rput_c q f false l most g h1 (repNd 1 xhi a.2) a.1 b1
      have b2 := putQ_len (repNd 1 xhi a.2) a.1 b1
      generalize putQ (repNd 1 xhi a.2) a.1 = c at ht b2
      have hc := fun h1 => rput_c q f false l most g h1 (opNd 4 [e.2, c.2]) c.1 b2
      unfold twoR
      have k3 : max (0 : Int) 1 = 1 := by omega
      simp only [qsto, qbx, RPost, Node.cellsF] at he hp ht hc ⊢
      refine ACall.enter Try.func60 rfl (by kernel_rfl) (Nat.le_of_ble_eq_true rfl) ?_; simp only [initTm, Nat.reduceAdd]
      repeat' (first
  | refine gSq ?_ | refine gSk ?_ | refine gBl ?_ | refine gIb ?_ | refine gEx rfl ?_
  | ((first
  | (refine gRg [48, 63] [0, 1, 3, 4, 5, 6, 7, 8, 9, 10, 11, 12, 13, 36, 39, 58, 85, 116, 127, 138] ?_; intro K hK)
  | (refine gDr 3 [48, 63] 10 [0, 1, 2, 3, 4, 5, 6, 7, 8, 9] [0, 1, 3, 4, 5, 6, 7, 8, 9, 10, 11, 12, 13, 36, 39, 58, 85, 116, 127, 138] rfl ?_; intro K hK)
  | (refine gDr 12 [48, 63] 20 [0, 1, 2, 3, 4, 5, 6, 7, 8, 9, 10, 11, 12, 13, 14, 15, 16, 17, 18, 19] [0, 1, 3, 4, 5, 6, 7, 8, 9, 10, 11, 12, 13, 36, 39, 58, 85, 116, 127, 138] rfl ?_; intro K hK)
  | (refine ACall.use [(1000, 1000), (1001, 1001)] [] rfl (he) rfl rfl rfl ?_; (first | rintro _ _ ⟨rfl, rfl⟩ | rintro _ _ ⟨rfl, h1, rfl⟩); refine ⟨.inl rfl, rfl, ?_⟩; simp only [bk, bk2, bk1, bkS, bkO, idOf, delAll, go_sem, simprocAttr])
  | (refine ACall.use [(1000, 1000), (1001, 1001)] [] rfl (hp _) rfl rfl rfl ?_; (first | rintro _ _ ⟨rfl, rfl⟩ | rintro _ _ ⟨rfl, h1, rfl⟩); refine ⟨.inl rfl, rfl, ?_⟩; simp only [bk, bk2, bk1, bkS, bkO, idOf, delAll, go_sem, simprocAttr])
  | (refine ACall.use [(1000, 1000), (1001, 1001)] [] rfl (ht _) rfl rfl rfl ?_; (first | rintro _ _ ⟨rfl, rfl⟩ | rintro _ _ ⟨rfl, h1, rfl⟩); refine ⟨.inl rfl, rfl, ?_⟩; simp only [bk, bk2, bk1, bkS, bkO, idOf, delAll, go_sem, simprocAttr])
  | (refine ACall.use [(1000, 1000), (1001, 1001)] [] rfl (hc _) rfl rfl rfl ?_; (first | rintro _ _ ⟨rfl, rfl⟩ | rintro _ _ ⟨rfl, h1, rfl⟩); refine ⟨.inl rfl, rfl, ?_⟩; simp only [bk, bk2, bk1, bkS, bkO, idOf, delAll, go_sem, simprocAttr])
  | (refine gd_split ?_ ?_ <;> intro hb <;> (try simp only [bls] at hb) <;> (try simp only [hb]))
  | refine gRt [1000, 1001] [.tmp 4] rfl ?_ | refine gDn [1000, 1001] [.tmp 4] rfl ?_) <;> (try simp only [go_sem, simprocAttr, hx0, e0, e1, e2, hm, k1, k3, Option.some.injEq, forall_eq']))
  | (refine hK _ _ ?_; clear hK K; simp only [go_sem, simprocAttr])
  | refine gCd (by simp only [go_sem, simprocAttr]; rfl) rfl ?_
  | refine brT ?_ | refine brF ?_
  | (refine brS ?_ ?_ <;> intro hc <;> (try simp only [bls] at hc) <;> (try simp only [hc, bls]))
  | intro _ | refine And.intro ?_ ?_)
      all_goals first | omega | (unfold bigLen; omega) | exact ⟨_, _, ⟨rfl, rfl⟩, rfl⟩ | exact ⟨_, rfl⟩ | (rename_i hy; simp only [List.mem_singleton] at hy; subst hy; rfl) | with_reducible rfl | skip
  · rw [if_neg k1]
    by_cases k2 : decide (mo = 2) = true ∧ xhi = -1 ∧ most < xlo ∧ 1 < xlo
    · rw [if_pos k2]
      obtain ⟨k0, k3, k4, k5⟩ := k2
      have k1' : ¬ most < xhi := fun h => k1 ⟨k0, h⟩
      have k0 := of_decide_eq_true k0
      subst k0
      subst k3
      unfold endR
      have hp := hk g g1 s hs
      have b1 := hb s hs
      generalize pl s = a at hp b1
      have ht := fun h1 => rput_c q f false l most g h1 (repNd xlo xlo a.2) a.1 b1
      have b2 := putQ_len (repNd xlo xlo a.2) a.1 b1
      generalize putQ (repNd xlo xlo a.2) a.1 = c at ht b2
      have hst := fun h1 => rstar_c kid hk hb g h1 c.1 b2
      have b3 := starR_len hb c.1 b2
      generalize starR pl c.1 = d at hst b3
      have hc := fun h1 => rput_c q f false l most g h1 (opNd 3 [c.2, d.2]) d.1 b3
      unfold twoR
      simp only [qsto, qbx, RPost, Node.cellsF] at hp ht hst hc ⊢
      refine ACall.enter Try.func60 rfl (by kernel_rfl) (Nat.le_of_ble_eq_true rfl) ?_; simp only [initTm, Nat.reduceAdd]
      repeat' (first
  | refine gSq ?_ | refine gSk ?_ | refine gBl ?_ | refine gIb ?_ | refine gEx rfl ?_
  | ((first
  | (refine gRg [91, 103] [0, 1, 3, 4, 5, 6, 7, 8, 9, 10, 11, 12, 13, 36, 39, 58, 85, 116, 127, 138] ?_; intro K hK)
  | (refine gDr 3 [91, 103] 10 [0, 1, 2, 3, 4, 5, 6, 7, 8, 9] [0, 1, 3, 4, 5, 6, 7, 8, 9, 10, 11, 12, 13, 36, 39, 58, 85, 116, 127, 138] rfl ?_; intro K hK)
  | (refine gDr 12 [91, 103] 20 [0, 1, 2, 3, 4, 5, 6, 7, 8, 9, 10, 11, 12, 13, 14, 15, 16, 17, 18, 19] [0, 1, 3, 4, 5, 6, 7, 8, 9, 10, 11, 12, 13, 36, 39, 58, 85, 116, 127, 138] rfl ?_; intro K hK)
  | (refine ACall.use [(1000, 1000), (1001, 1001)] [] rfl (hp) rfl rfl rfl ?_; (first | rintro _ _ ⟨rfl, rfl⟩ | rintro _ _ ⟨rfl, h1, rfl⟩); refine ⟨.inl rfl, rfl, ?_⟩; simp only [bk, bk2, bk1, bkS, bkO, idOf, delAll, go_sem, simprocAttr])
  | (refine ACall.use [(1000, 1000), (1001, 1001)] [] rfl (ht _) rfl rfl rfl ?_; (first | rintro _ _ ⟨rfl, rfl⟩ | rintro _ _ ⟨rfl, h1, rfl⟩); refine ⟨.inl rfl, rfl, ?_⟩; simp only [bk, bk2, bk1, bkS, bkO, idOf, delAll, go_sem, simprocAttr])
  | (refine ACall.use [(1000, 1000), (1001, 1001)] [] rfl (hst _) rfl rfl rfl ?_; (first | rintro _ _ ⟨rfl, rfl⟩ | rintro _ _ ⟨rfl, h1, rfl⟩); refine ⟨.inl rfl, rfl, ?_⟩; simp only [bk, bk2, bk1, bkS, bkO, idOf, delAll, go_sem, simprocAttr])
  | (refine ACall.use [(1000, 1000), (1001, 1001)] [] rfl (hc _) rfl rfl rfl ?_; (first | rintro _ _ ⟨rfl, rfl⟩ | rintro _ _ ⟨rfl, h1, rfl⟩); refine ⟨.inl rfl, rfl, ?_⟩; simp only [bk, bk2, bk1, bkS, bkO, idOf, delAll, go_sem, simprocAttr])
  | (refine gd_split ?_ ?_ <;> intro hb <;> (try simp only [bls] at hb) <;> (try simp only [hb]))
  | refine gRt [1000, 1001] [.tmp 4] rfl ?_ | refine gDn [1000, 1001] [.tmp 4] rfl ?_) <;> (try simp only [go_sem, simprocAttr, hx0, e0, e1, e2, hm, k1', k4, k5, Option.some.injEq, forall_eq']))
  | (refine hK _ _ ?_; clear hK K; simp only [go_sem, simprocAttr])
  | refine gCd (by simp only [go_sem, simprocAttr]; rfl) rfl ?_
  | refine brT ?_ | refine brF ?_
  | (refine brS ?_ ?_ <;> intro hc <;> (try simp only [bls] at hc) <;> (try simp only [hc, bls]))
  | intro _ | refine And.intro ?_ ?_)
      all_goals first | omega | (unfold bigLen; omega) | exact ⟨_, _, ⟨rfl, rfl⟩, rfl⟩ | exact ⟨_, rfl⟩ | (rename_i hy; simp only [List.mem_singleton] at hy; subst hy; rfl) | with_reducible rfl | skip
    · rw [if_neg k2]
      obtain ⟨lo, rfl⟩ : ∃ lo : Nat, xlo = lo := ⟨xlo.toNat, by omega⟩
      obtain ⟨S, hS⟩ : ∃ S, S = rowQ pl lo xhi s := ⟨_, rfl⟩
      rw [← hS]
      rw [rowQ, Int.toNat_natCast] at hS
      obtain ⟨L, hL⟩ : ∃ L, L = rowLR pl lo s [] := ⟨_, rfl⟩
      rw [← hL] at hS
      simp only [qsto, qbx]
      apply hv (α := Nat)
      case main =>
        intro key
        by_cases c2 : mo = 2
        · have c3 : ¬ most < xhi := fun h => k1 ⟨decide_eq_true c2, h⟩
          by_cases c4 : xhi = -1
          · by_cases c5 : most < (lo : Int)
            · have c6 : ¬ (1 : Int) < lo := fun h => k2 ⟨decide_eq_true c2, c4, c5, h⟩
              refine ACall.enter Try.func60 rfl (by kernel_rfl) (Nat.le_of_ble_eq_true rfl) ?_; simp only [initTm, Nat.reduceAdd]
              repeat' (first
  | refine gSq ?_ | refine gSk ?_ | refine gBl ?_ | refine gIb ?_ | refine gEx rfl ?_
  | ((first
  | (refine gRg [] [0, 1, 3, 4, 5, 6, 7, 8, 9, 10, 11, 12, 13, 36, 39, 58, 85, 116, 127, 138] ?_; intro K hK)
  | (refine gDr 3 [] 10 [0, 1, 2, 3, 4, 5, 6, 7, 8, 9] [0, 1, 3, 4, 5, 6, 7, 8, 9, 10, 11, 12, 13, 36, 39, 58, 85, 116, 127, 138] rfl ?_; intro K hK)
  | (refine gDr 12 [] 20 [0, 1, 2, 3, 4, 5, 6, 7, 8, 9, 10, 11, 12, 13, 14, 15, 16, 17, 18, 19] [0, 1, 3, 4, 5, 6, 7, 8, 9, 10, 11, 12, 13, 36, 39, 58, 85, 116, 127, 138] rfl ?_; intro K hK)
  | (refine gd_split ?_ ?_ <;> intro hb <;> (try simp only [bls] at hb) <;> (try simp only [hb]))
  | refine gRt [1000, 1001] [.tmp 4] rfl ?_ | refine gDn [1000, 1001] [.tmp 4] rfl ?_) <;> (try simp only [go_sem, simprocAttr, hx0, e0, e1, e2, hm, eq_true c2, eq_true c4, c3, c5, c6, Option.some.injEq, forall_eq']))
  | (refine hK _ _ ?_; clear hK K; simp only [go_sem, simprocAttr])
  | refine gCd (by simp only [go_sem, simprocAttr]; rfl) rfl ?_
  | refine brT ?_ | refine brF ?_
  | (refine brS ?_ ?_ <;> intro hc <;> (try simp only [bls] at hc) <;> (try simp only [hc, bls]))
  | intro _ | refine And.intro ?_ ?_)
              all_goals first | omega | (unfold bigLen; omega) | exact ⟨_, _, ⟨rfl, rfl⟩, rfl⟩ | exact ⟨_, rfl⟩ | (rename_i hy; simp only [List.mem_singleton] at hy; subst hy; rfl) | with_reducible rfl | skip
              refine AGood.prune [0, 3, 5, 12, 13] ?_; simp only [go_sem, simprocAttr]
              rename_i h3; exact key h3
            ·
              refine ACall.enter Try.func60 rfl (by kernel_rfl) (Nat.le_of_ble_eq_true rfl) ?_; simp only [initTm, Nat.reduceAdd]
              repeat' (first
  | refine gSq ?_ | refine gSk ?_ | refine gBl ?_ | refine gIb ?_ | refine gEx rfl ?_
  | ((first
  | (refine gRg [] [0, 1, 3, 4, 5, 6, 7, 8, 9, 10, 11, 12, 13, 36, 39, 58, 85, 116, 127, 138] ?_; intro K hK)
  | (refine gDr 3 [] 10 [0, 1, 2, 3, 4, 5, 6, 7, 8, 9] [0, 1, 3, 4, 5, 6, 7, 8, 9, 10, 11, 12, 13, 36, 39, 58, 85, 116, 127, 138] rfl ?_; intro K hK)
  | (refine gDr 12 [] 20 [0, 1, 2, 3, 4, 5, 6, 7, 8, 9, 10, 11, 12, 13, 14, 15, 16, 17, 18, 19] [0, 1, 3, 4, 5, 6, 7, 8, 9, 10, 11, 12, 13, 36, 39, 58, 85, 116, 127, 138] rfl ?_; intro K hK)
  | (refine gd_split ?_ ?_ <;> intro hb <;> (try simp only [bls] at hb) <;> (try simp only [hb]))
  | refine gRt [1000, 1001] [.tmp 4] rfl ?_ | refine gDn [1000, 1001] [.tmp 4] rfl ?_) <;> (try simp only [go_sem, simprocAttr, hx0, e0, e1, e2, hm, eq_true c2, eq_true c4, c3, c5, Option.some.injEq, forall_eq']))
  | (refine hK _ _ ?_; clear hK K; simp only [go_sem, simprocAttr])
  | refine gCd (by simp only [go_sem, simprocAttr]; rfl) rfl ?_
  | refine brT ?_ | refine brF ?_
  | (refine brS ?_ ?_ <;> intro hc <;> (try simp only [bls] at hc) <;> (try simp only [hc, bls]))
  | intro _ | refine And.intro ?_ ?_)
              all_goals first | omega | (unfold bigLen; omega) | exact ⟨_, _, ⟨rfl, rfl⟩, rfl⟩ | exact ⟨_, rfl⟩ | (rename_i hy; simp only [List.mem_singleton] at hy; subst hy; rfl) | with_reducible rfl | skip
              refine AGood.prune [0, 3, 5, 12, 13] ?_; simp only [go_sem, simprocAttr]
              rename_i h3; exact key h3
          ·
            refine ACall.enter Try.func60 rfl (by kernel_rfl) (Nat.le_of_ble_eq_true rfl) ?_; simp only [initTm, Nat.reduceAdd]
            repeat' (first
  | refine gSq ?_ | refine gSk ?_ | refine gBl ?_ | refine gIb ?_ | refine gEx rfl ?_
  | ((first
  | (refine gRg [] [0, 1, 3, 4, 5, 6, 7, 8, 9, 10, 11, 12, 13, 36, 39, 58, 85, 116, 127, 138] ?_; intro K hK)
  | (refine gDr 3 [] 10 [0, 1, 2, 3, 4, 5, 6, 7, 8, 9] [0, 1, 3, 4, 5, 6, 7, 8, 9, 10, 11, 12, 13, 36, 39, 58, 85, 116, 127, 138] rfl ?_; intro K hK)
  | (refine gDr 12 [] 20 [0, 1, 2, 3, 4, 5, 6, 7, 8, 9, 10, 11, 12, 13, 14, 15, 16, 17, 18, 19] [0, 1, 3, 4, 5, 6, 7, 8, 9, 10, 11, 12, 13, 36, 39, 58, 85, 116, 127, 138] rfl ?_; intro K hK)
  | (refine gd_split ?_ ?_ <;> intro hb <;> (try simp only [bls] at hb) <;> (try simp only [hb]))
  | refine gRt [1000, 1001] [.tmp 4] rfl ?_ | refine gDn [1000, 1001] [.tmp 4] rfl ?_) <;> (try simp only [go_sem, simprocAttr, hx0, e0, e1, e2, hm, eq_true c2, c3, c4, Option.some.injEq, forall_eq']))
  | (refine hK _ _ ?_; clear hK K; simp only [go_sem, simprocAttr])
  | refine gCd (by simp only [go_sem, simprocAttr]; rfl) rfl ?_
  | refine brT ?_ | refine brF ?_
  | (refine brS ?_ ?_ <;> intro hc <;> (try simp only [bls] at hc) <;> (try simp only [hc, bls]))
  | intro _ | refine And.intro ?_ ?_)
            all_goals first | omega | (unfold bigLen; omega) | exact ⟨_, _, ⟨rfl, rfl⟩, rfl⟩ | exact ⟨_, rfl⟩ | (rename_i hy; simp only [List.mem_singleton] at hy; subst hy; rfl) | with_reducible rfl | skip
            refine AGood.prune [0, 3, 5, 12, 13] ?_; simp only [go_sem, simprocAttr]
            rename_i h3; exact key h3
        ·
          refine ACall.enter Try.func60 rfl (by kernel_rfl) (Nat.le_of_ble_eq_true rfl) ?_; simp only [initTm, Nat.reduceAdd]
          repeat' (first
  | refine gSq ?_ | refine gSk ?_ | refine gBl ?_ | refine gIb ?_ | refine gEx rfl ?_
  | ((first
  | (refine gRg [] [0, 1, 3, 4, 5, 6, 7, 8, 9, 10, 11, 12, 13, 36, 39, 58, 85, 116, 127, 138] ?_; intro K hK)
  | (refine gDr 3 [] 10 [0, 1, 2, 3, 4, 5, 6, 7, 8, 9] [0, 1, 3, 4, 5, 6, 7, 8, 9, 10, 11, 12, 13, 36, 39, 58, 85, 116, 127, 138] rfl ?_; intro K hK)
  | (refine gDr 12 [] 20 [0, 1, 2, 3, 4, 5, 6, 7, 8, 9, 10, 11, 12, 13, 14, 15, 16, 17, 18, 19] [0, 1, 3, 4, 5, 6, 7, 8, 9, 10, 11, 12, 13, 36, 39, 58, 85, 116, 127, 138] rfl ?_; intro K hK)
  | (refine gd_split ?_ ?_ <;> intro hb <;> (try simp only [bls] at hb) <;> (try simp only [hb]))
  | refine gRt [1000, 1001] [.tmp 4] rfl ?_ | refine gDn [1000, 1001] [.tmp 4] rfl ?_) <;> (try simp only [go_sem, simprocAttr, hx0, e0, e1, e2, hm, c2, Option.some.injEq, forall_eq']))
  | (refine hK _ _ ?_; clear hK K; simp only [go_sem, simprocAttr])
  | refine gCd (by simp only [go_sem, simprocAttr]; rfl) rfl ?_
  | refine brT ?_ | refine brF ?_
  | (refine brS ?_ ?_ <;> intro hc <;> (try simp only [bls] at hc) <;> (try simp only [hc, bls]))
  | intro _ | refine And.intro ?_ ?_)
          all_goals first | omega | (unfold bigLen; omega) | exact ⟨_, _, ⟨rfl, rfl⟩, rfl⟩ | exact ⟨_, rfl⟩ | (rename_i hy; simp only [List.mem_singleton] at hy; subst hy; rfl) | with_reducible rfl | skip
          refine AGood.prune [0, 3, 5, 12, 13] ?_; simp only [go_sem, simprocAttr]
          rename_i h3; exact key h3
      case key =>
        intro h3
        have hlo2 : lo ≤ 4096 := by omega
        have hcat := fun (b : RS × List Int) (h1 : b.1.1.length ≤ 1024) (h2 : b.2.length ≤ 1000000) gg => rcat_c q f false l most g gg b.2 b.1 h1 h2
        clear k1 k2 hlo hm e1 e2
        refine AGood.ownTm 12 900 1 (by decide) rfl fun g9 => ?_
        simp only [go_sem, simprocAttr]
        refine AGood.prune [0, 3, 5, 12, 13] ?_; simp only [go_sem, simprocAttr]
        refine AGood.loopInv (α := Nat × RS × List Int × Nat × Nat) (fun x => ([(0, .bx 1000 g 0), (3, .bx 3 h3 0), (5, .int .i64 kid), (12, .osl 900 x.2.2.2.2 0 x.2.2.1.length), (13, .int .i64 x.1)],
          [(3, h3, .box [.int .u8 xo, .int .u64 xa, .int .u64 xb, .int .u64 xc, .int .u64 xd, .sl true false (ints xl), .int .i64 lo, .int .i64 xhi, .str xn]), (900, x.2.2.2.2, .row 1 (ints x.2.2.1)), (1000, g, .box [.sl q f (nodes l), .int .i64 most, .osl 1001 x.2.2.2.1 0 x.2.1.1.length, .bool x.2.1.2]), (1001, x.2.2.2.1, .row 9 (nodes x.2.1.1))]))
          (fun x => x.1 ≤ lo ∧ x.2.2.1.length = x.1 ∧ x.2.1.1.length ≤ 1024 ∧ L = rowLR pl (lo - x.1) x.2.1 x.2.2.1) (fun x => lo - x.1) (0, s, [], g1, g9) ⟨Nat.zero_le _, rfl, hs, hL⟩ rfl ?_
        rintro ⟨i, o, row, gg, g9⟩ ⟨hi, hrl, ho', hrun⟩ ih
        simp only at hi hrl ho' hrun ih ⊢
        by_cases hgo : i < lo ∧ o.2 = false
        · obtain ⟨hle, hlg⟩ := hgo
          have e4 : (i : Int) < lo := by omega
          have e5 : (i : Int) + 1 = ((i + 1 : Nat) : Int) := by omega
          obtain ⟨r, hr⟩ : ∃ r, lo - i = r + 1 := ⟨lo - i - 1, by omega⟩
          rw [hr, rowLR, if_neg (by rw [hlg]; decide)] at hrun
          have hp := hk g gg o ho'
          have b2 := hb o ho'
          generalize pl o = a at b2 hp hrun
          obtain ⟨oo, og⟩ := o
          simp only at hlg
          subst hlg
          simp only [qsto, qbx, RPost] at hp
          repeat' (first
  | refine gSq ?_ | refine gSk ?_ | refine gBl ?_ | refine gIb ?_ | refine gEx rfl ?_
  | ((first
  | (refine gRg [123] [0, 1, 3, 4, 5, 6, 7, 8, 9, 10, 11, 12, 13, 36, 39, 58, 85, 116, 127, 138] ?_; intro K hK)
  | (refine gDr 3 [123] 10 [0, 1, 2, 3, 4, 5, 6, 7, 8, 9] [0, 1, 3, 4, 5, 6, 7, 8, 9, 10, 11, 12, 13, 36, 39, 58, 85, 116, 127, 138] rfl ?_; intro K hK)
  | (refine gDr 12 [123] 20 [0, 1, 2, 3, 4, 5, 6, 7, 8, 9, 10, 11, 12, 13, 14, 15, 16, 17, 18, 19] [0, 1, 3, 4, 5, 6, 7, 8, 9, 10, 11, 12, 13, 36, 39, 58, 85, 116, 127, 138] rfl ?_; intro K hK)
  | (refine ACall.use [(1000, 1000), (1001, 1001)] [] rfl (hp) rfl rfl rfl ?_; (first | rintro _ _ ⟨rfl, rfl⟩ | rintro _ _ ⟨rfl, h1, rfl⟩); refine ⟨.inl rfl, rfl, ?_⟩; simp only [bk, bk2, bk1, bkS, bkO, idOf, delAll, go_sem, simprocAttr])
  | (refine gd_split ?_ ?_ <;> intro hb <;> (try simp only [bls] at hb) <;> (try simp only [hb]))
  | refine gRt [1000, 1001] [.tmp 4] rfl ?_ | refine gDn [1000, 1001] [.tmp 4] rfl ?_) <;> (try simp only [go_sem, simprocAttr, e4, e5]))
  | (refine hK _ _ ?_; clear hK K; simp only [go_sem, simprocAttr])
  | refine gCd (by simp only [go_sem, simprocAttr]; rfl) rfl ?_
  | refine brT ?_ | refine brF ?_
  | (refine brS ?_ ?_ <;> intro hc <;> (try simp only [bls] at hc) <;> (try simp only [hc, bls]))
  | intro _ | refine And.intro ?_ ?_)
          all_goals first | omega | (unfold bigLen; omega) | exact ⟨_, _, ⟨rfl, rfl⟩, rfl⟩ | exact ⟨_, rfl⟩ | (rename_i hy; simp only [List.mem_singleton] at hy; subst hy; rfl) | with_reducible rfl | skip
          rename_i h'
          refine AGood.filt [3, 900, 1000, 1001] ?_
          simp only [sf_cons, sf_nil, go_sem, simprocAttr]
          refine AGood.prune [0, 3, 5, 12, 13] ?_; simp only [go_sem, simprocAttr]
          refine AGood.cast (ih (i + 1, a.1, row ++ [a.2], h1, h') ⟨by simp only; omega, by simp [hrl], by simp only; omega, by rw [hrun]; congr 1; omega⟩ (by simp only; omega)) ?_ ?_
          · simp
          · simp
        · have hLv : L = (o, row) := by
            rw [hrun]
            cases hd : lo - i with
            | zero => rfl
            | succ r =>
              rw [rowLR, if_pos]
              cases hlg : o.2
              · exact absurd ⟨by omega, hlg⟩ hgo
              · rfl
          rw [hLv] at hS
          clear ih hrun
          -- the loop is left, either way
          obtain ⟨oo, og⟩ := o
          apply hv0
          case main =>
            intro key
            by_cases hle : lo ≤ i
            · have e4 : ¬ (i : Int) < lo := by omega
              repeat' (first
  | (refine AGood.at 21 ?_; (refine AGood.prune [0, 3, 5, 12] ?_; simp only [go_sem, simprocAttr]; refine stopI ?_))
  | refine gSq ?_ | refine gSk ?_ | refine gBl ?_ | refine gIb ?_ | refine gEx rfl ?_
  | ((first
  | (refine gRg [] [0, 1, 3, 4, 5, 6, 7, 8, 9, 10, 11, 12, 13, 36, 39, 58, 85, 116, 127, 138] ?_; intro K hK)
  | (refine gDr 3 [] 10 [0, 1, 2, 3, 4, 5, 6, 7, 8, 9] [0, 1, 3, 4, 5, 6, 7, 8, 9, 10, 11, 12, 13, 36, 39, 58, 85, 116, 127, 138] rfl ?_; intro K hK)
  | (refine gDr 12 [] 20 [0, 1, 2, 3, 4, 5, 6, 7, 8, 9, 10, 11, 12, 13, 14, 15, 16, 17, 18, 19] [0, 1, 3, 4, 5, 6, 7, 8, 9, 10, 11, 12, 13, 36, 39, 58, 85, 116, 127, 138] rfl ?_; intro K hK)
  | (refine gd_split ?_ ?_ <;> intro hb <;> (try simp only [bls] at hb) <;> (try simp only [hb]))
  | refine gRt [] [.tmp 4] rfl ?_ | refine gDn [] [.tmp 4] rfl ?_) <;> (try simp only [go_sem, simprocAttr, e4]))
  | (refine hK _ _ ?_; clear hK K; simp only [go_sem, simprocAttr])
  | refine gCd (by simp only [go_sem, simprocAttr]; rfl) rfl ?_
  | refine brT ?_ | refine brF ?_
  | (refine brS ?_ ?_ <;> intro hc <;> (try simp only [bls] at hc) <;> (try simp only [hc, bls]))
  | intro _ | refine And.intro ?_ ?_)
              refine stopE ?_; exact key.out
            · have e4 : (i : Int) < lo := by omega
              have hlg : og = true := by
                cases og
                · exact absurd ⟨by omega, rfl⟩ hgo
                · rfl
              repeat' (first
  | (refine AGood.at 21 ?_; (refine AGood.prune [0, 3, 5, 12] ?_; simp only [go_sem, simprocAttr]; refine stopI ?_))
  | refine gSq ?_ | refine gSk ?_ | refine gBl ?_ | refine gIb ?_ | refine gEx rfl ?_
  | ((first
  | (refine gRg [] [0, 1, 3, 4, 5, 6, 7, 8, 9, 10, 11, 12, 13, 36, 39, 58, 85, 116, 127, 138] ?_; intro K hK)
  | (refine gDr 3 [] 10 [0, 1, 2, 3, 4, 5, 6, 7, 8, 9] [0, 1, 3, 4, 5, 6, 7, 8, 9, 10, 11, 12, 13, 36, 39, 58, 85, 116, 127, 138] rfl ?_; intro K hK)
  | (refine gDr 12 [] 20 [0, 1, 2, 3, 4, 5, 6, 7, 8, 9, 10, 11, 12, 13, 14, 15, 16, 17, 18, 19] [0, 1, 3, 4, 5, 6, 7, 8, 9, 10, 11, 12, 13, 36, 39, 58, 85, 116, 127, 138] rfl ?_; intro K hK)
  | (refine gd_split ?_ ?_ <;> intro hb <;> (try simp only [bls] at hb) <;> (try simp only [hb]))
  | refine gRt [] [.tmp 4] rfl ?_ | refine gDn [] [.tmp 4] rfl ?_) <;> (try simp only [go_sem, simprocAttr, e4]))
  | (refine hK _ _ ?_; clear hK K; simp only [go_sem, simprocAttr])
  | refine gCd (by simp only [go_sem, simprocAttr]; rfl) rfl ?_
  | refine brT ?_ | refine brF ?_
  | (refine brS ?_ ?_ <;> intro hc <;> (try simp only [bls] at hc) <;> (try simp only [hc, bls]))
  | intro _ | refine And.intro ?_ ?_)
              all_goals first | (exfalso; exact Bool.noConfusion (hlg.symm.trans ‹og = false›)) | skip
              refine stopE ?_; exact AGood.cast key.out rfl (by rw [hlg])
          case key =>
            simp only at ho'
            obtain ⟨b, hbb⟩ : ∃ b, b = rowER pl lo xhi ((oo, og), row) := ⟨_, rfl⟩
            have b1 := rowER_len hb lo xhi ((oo, og), row) ho'
            rw [← hbb] at hS b1
            obtain ⟨b1, b2⟩ := b1
            simp only at b2
            subst hS
            by_cases c1 : xhi = -1
            · have hst := rstar_c kid hk hb g gg (oo, og) ho'
              rw [rowER, if_pos c1] at hbb
              generalize starR pl (oo, og) = a at hst hbb
              subst c1
              simp only at hbb
              subst hbb
              have hc := hcat (a.1, row ++ [a.2]) b1 (by simp; omega)
              have e15 : (ints (row ++ [a.2])).take (row.length + 1) = ints (row ++ [a.2]) := List.take_of_length_le (by simp)
              have e17 : row.length + 1 ≤ (row ++ [a.2]).length := by simp
              have e16 : ∀ k : Int, ints row ++ [[AVal.int .i64 k]] = ints (row ++ [k]) := fun k => by simp
              simp only [qsto, qbx, RPost] at hst hc ⊢
              repeat' (first
  | refine gSq ?_ | refine gSk ?_ | refine gBl ?_ | refine gIb ?_ | refine gEx rfl ?_
  | ((first
  | (refine AGood.at 25 ?_; (refine AGood.freeze 900 rfl ?_; simp only [rfT, rfS, rfO, rf, rf1, e15, e17, true_and, go_sem, simprocAttr]); (refine gRg [132] [0, 1, 3, 4, 5, 6, 7, 8, 9, 10, 11, 12, 13, 36, 39, 58, 85, 116, 127, 138] ?_; intro K hK))
  | (refine gRg [132] [0, 1, 3, 4, 5, 6, 7, 8, 9, 10, 11, 12, 13, 36, 39, 58, 85, 116, 127, 138] ?_; intro K hK)
  | (refine gDr 3 [132] 10 [0, 1, 2, 3, 4, 5, 6, 7, 8, 9] [0, 1, 3, 4, 5, 6, 7, 8, 9, 10, 11, 12, 13, 36, 39, 58, 85, 116, 127, 138] rfl ?_; intro K hK)
  | (refine gDr 12 [132] 20 [0, 1, 2, 3, 4, 5, 6, 7, 8, 9, 10, 11, 12, 13, 14, 15, 16, 17, 18, 19] [0, 1, 3, 4, 5, 6, 7, 8, 9, 10, 11, 12, 13, 36, 39, 58, 85, 116, 127, 138] rfl ?_; intro K hK)
  | (refine ACall.use [(1000, 1000), (1001, 1001)] [] rfl (hst) rfl rfl rfl ?_; (first | rintro _ _ ⟨rfl, rfl⟩ | rintro _ _ ⟨rfl, h1, rfl⟩); refine ⟨.inl rfl, rfl, ?_⟩; simp only [bk, bk2, bk1, bkS, bkO, idOf, delAll, go_sem, simprocAttr])
  | (refine ACall.use [(1000, 1000), (1001, 1001)] [] rfl (hc _) rfl rfl rfl ?_; (first | rintro _ _ ⟨rfl, rfl⟩ | rintro _ _ ⟨rfl, h1, rfl⟩); refine ⟨.inl rfl, rfl, ?_⟩; simp only [bk, bk2, bk1, bkS, bkO, idOf, delAll, go_sem, simprocAttr])
  | (refine gd_split ?_ ?_ <;> intro hb <;> (try simp only [bls] at hb) <;> (try simp only [hb]))
  | refine gRt [1000, 1001] [.tmp 4] rfl ?_ | refine gDn [1000, 1001] [.tmp 4] rfl ?_) <;> (try simp only [go_sem, simprocAttr, Int.reduceNeg, e16]))
  | (refine hK _ _ ?_; clear hK K; simp only [go_sem, simprocAttr])
  | refine gCd (by simp only [go_sem, simprocAttr]; rfl) rfl ?_
  | refine brT ?_ | refine brF ?_
  | (refine brS ?_ ?_ <;> intro hc <;> (try simp only [bls] at hc) <;> (try simp only [hc, bls]))
  | intro _ | refine And.intro ?_ ?_)
              all_goals first | omega | (unfold bigLen; omega) | exact ⟨_, _, ⟨rfl, rfl⟩, rfl⟩ | exact ⟨_, rfl⟩ | (rename_i hy; simp only [List.mem_singleton] at hy; subst hy; rfl) | with_reducible rfl | skip
            · rw [rowER, if_neg c1] at hbb
              by_cases c2 : (lo : Int) < xhi
              · rw [if_pos c2] at hbb
                obtain ⟨m, hm⟩ : ∃ m : Nat, xhi - lo = ((m + 1 : Nat) : Int) := ⟨(xhi - lo - 1).toNat, by omega⟩
                have hm2 : (xhi - lo).toNat = m + 1 := by omega
                rw [hm2] at hbb
                have hst := rrest_c kid hk hb g m (by omega) gg (oo, og) ho'
                generalize restR pl (m + 1) (oo, og) = a at hst hbb
                simp only at hbb
                subst hbb
                have hc := hcat (a.1, row ++ [a.2]) b1 (by simp; omega)
                have e15 : (ints (row ++ [a.2])).take (row.length + 1) = ints (row ++ [a.2]) := List.take_of_length_le (by simp)
                have e17 : row.length + 1 ≤ (row ++ [a.2]).length := by simp
                have e16 : ∀ k : Int, ints row ++ [[AVal.int .i64 k]] = ints (row ++ [k]) := fun k => by simp
                simp only [qsto, qbx, RPost] at hst hc ⊢
                repeat' (first
  | refine gSq ?_ | refine gSk ?_ | refine gBl ?_ | refine gIb ?_ | refine gEx rfl ?_
  | ((first
  | (refine AGood.at 25 ?_; (refine AGood.freeze 900 rfl ?_; simp only [rfT, rfS, rfO, rf, rf1, e15, e17, true_and, go_sem, simprocAttr]); (refine gRg [148] [0, 1, 3, 4, 5, 6, 7, 8, 9, 10, 11, 12, 13, 36, 39, 58, 85, 116, 127, 138] ?_; intro K hK))
  | (refine gRg [148] [0, 1, 3, 4, 5, 6, 7, 8, 9, 10, 11, 12, 13, 36, 39, 58, 85, 116, 127, 138] ?_; intro K hK)
  | (refine gDr 3 [148] 10 [0, 1, 2, 3, 4, 5, 6, 7, 8, 9] [0, 1, 3, 4, 5, 6, 7, 8, 9, 10, 11, 12, 13, 36, 39, 58, 85, 116, 127, 138] rfl ?_; intro K hK)
  | (refine gDr 12 [148] 20 [0, 1, 2, 3, 4, 5, 6, 7, 8, 9, 10, 11, 12, 13, 14, 15, 16, 17, 18, 19] [0, 1, 3, 4, 5, 6, 7, 8, 9, 10, 11, 12, 13, 36, 39, 58, 85, 116, 127, 138] rfl ?_; intro K hK)
  | (refine ACall.use [(1000, 1000), (1001, 1001)] [] rfl (hst) rfl rfl rfl ?_; (first | rintro _ _ ⟨rfl, rfl⟩ | rintro _ _ ⟨rfl, h1, rfl⟩); refine ⟨.inl rfl, rfl, ?_⟩; simp only [bk, bk2, bk1, bkS, bkO, idOf, delAll, go_sem, simprocAttr])
  | (refine ACall.use [(1000, 1000), (1001, 1001)] [] rfl (hc _) rfl rfl rfl ?_; (first | rintro _ _ ⟨rfl, rfl⟩ | rintro _ _ ⟨rfl, h1, rfl⟩); refine ⟨.inl rfl, rfl, ?_⟩; simp only [bk, bk2, bk1, bkS, bkO, idOf, delAll, go_sem, simprocAttr])
  | (refine gd_split ?_ ?_ <;> intro hb <;> (try simp only [bls] at hb) <;> (try simp only [hb]))
  | refine gRt [1000, 1001] [.tmp 4] rfl ?_ | refine gDn [1000, 1001] [.tmp 4] rfl ?_) <;> (try simp only [go_sem, simprocAttr, c1, c2, hm, e16]))
  | (refine hK _ _ ?_; clear hK K; simp only [go_sem, simprocAttr])
  | refine gCd (by simp only [go_sem, simprocAttr]; rfl) rfl ?_
  | refine brT ?_ | refine brF ?_
  | (refine brS ?_ ?_ <;> intro hc <;> (try simp only [bls] at hc) <;> (try simp only [hc, bls]))
  | intro _ | refine And.intro ?_ ?_)
                all_goals first | omega | (unfold bigLen; omega) | exact ⟨_, _, ⟨rfl, rfl⟩, rfl⟩ | exact ⟨_, rfl⟩ | (rename_i hy; simp only [List.mem_singleton] at hy; subst hy; rfl) | with_reducible rfl | skip
              · rw [if_neg c2] at hbb
                subst hbb
                have hc := hcat ((oo, og), row) b1 (by simp; omega)
                have e15 : (ints row).take row.length = ints row := List.take_of_length_le (by simp)
                simp only [qsto, qbx, RPost] at hc ⊢
                repeat' (first
  | refine gSq ?_ | refine gSk ?_ | refine gBl ?_ | refine gIb ?_ | refine gEx rfl ?_
  | ((first
  | (refine AGood.at 25 ?_; (refine AGood.freeze 900 rfl ?_; simp only [rfT, rfS, rfO, rf, rf1, e15, true_and, go_sem, simprocAttr]); (refine gRg [] [0, 1, 3, 4, 5, 6, 7, 8, 9, 10, 11, 12, 13, 36, 39, 58, 85, 116, 127, 138] ?_; intro K hK))
  | (refine gRg [] [0, 1, 3, 4, 5, 6, 7, 8, 9, 10, 11, 12, 13, 36, 39, 58, 85, 116, 127, 138] ?_; intro K hK)
  | (refine gDr 3 [] 10 [0, 1, 2, 3, 4, 5, 6, 7, 8, 9] [0, 1, 3, 4, 5, 6, 7, 8, 9, 10, 11, 12, 13, 36, 39, 58, 85, 116, 127, 138] rfl ?_; intro K hK)
  | (refine gDr 12 [] 20 [0, 1, 2, 3, 4, 5, 6, 7, 8, 9, 10, 11, 12, 13, 14, 15, 16, 17, 18, 19] [0, 1, 3, 4, 5, 6, 7, 8, 9, 10, 11, 12, 13, 36, 39, 58, 85, 116, 127, 138] rfl ?_; intro K hK)
  | (refine ACall.use [(1000, 1000), (1001, 1001)] [] rfl (hc _) rfl rfl rfl ?_; (first | rintro _ _ ⟨rfl, rfl⟩ | rintro _ _ ⟨rfl, h1, rfl⟩); refine ⟨.inl rfl, rfl, ?_⟩; simp only [bk, bk2, bk1, bkS, bkO, idOf, delAll, go_sem, simprocAttr])
  | (refine gd_split ?_ ?_ <;> intro hb <;> (try simp only [bls] at hb) <;> (try simp only [hb]))
  | refine gRt [1000, 1001] [.tmp 4] rfl ?_ | refine gDn [1000, 1001] [.tmp 4] rfl ?_) <;> (try simp only [go_sem, simprocAttr, c1, c2]))
  | (refine hK _ _ ?_; clear hK K; simp only [go_sem, simprocAttr])
  | refine gCd (by simp only [go_sem, simprocAttr]; rfl) rfl ?_
  | refine brT ?_ | refine brF ?_
  | (refine brS ?_ ?_ <;> intro hc <;> (try simp only [bls] at hc) <;> (try simp only [hc, bls]))
  | intro _ | refine And.intro ?_ ?_)
                all_goals first | omega | (unfold bigLen; omega) | exact ⟨_, _, ⟨rfl, rfl⟩, rfl⟩ | exact ⟨_, rfl⟩ | (rename_i hy; simp only [List.mem_singleton] at hy; subst hy; rfl) | with_reducible rfl | skip
end Go.Rad
/- Contracts: syntax, byte by byte: what a node has; whether nodes are a tree. -/
namespace Go.Rad
open Go Go.Proofs
set_option linter.all false
set_option maxRecDepth 20000
set_option maxHeartbeats 4000000

theorem ba_empty : (ByteArray.mk #[]) = ByteArray.empty := Eq.trans rfl rfl
theorem shape4uc (fl : Bool) (n : Node) (hn : n.name.size ≤ maxLen) : ACall Try.prog 45 [.agg (n.cellsF fl)] [] fun r s' => r = .bool (shapeOk n) ∧ s' = [] := by
  obtain ⟨no, ⟨na, nb, nc, nd⟩, nl, nlo, nhi, nn⟩ := n
  simp only [Node.cellsF]
  refine ACall.enter Try.func45 rfl (by kernel_rfl) (Nat.le_of_ble_eq_true rfl) ?_; simp only [initTm, Nat.reduceAdd]
  repeat' (first
  | refine gSq ?_ | refine gSk ?_ | refine gBl ?_ | refine gIb ?_ | refine gEx rfl ?_
  | ((first
  | (refine gRg [] [0, 1, 2, 3, 4, 5, 6, 23, 24, 42, 59, 78, 125] ?_; intro K hK)
  | refine cAl (name4uc _ hn) rfl rfl rfl ?_
  | (refine gd_split ?_ ?_ <;> intro hb <;> (try simp only [bls] at hb) <;> (try simp only [hb]))
  | refine gRt [] [.tmp 2] rfl ?_ | refine gDn [] [.tmp 2] rfl ?_) <;> (try simp only [go_sem, simprocAttr, ba_empty]))
  | (refine hK _ _ ?_; clear hK K; simp only [go_sem, simprocAttr])
  | refine gCd (by simp only [go_sem, simprocAttr]; rfl) rfl ?_
  | refine brT ?_ | refine brF ?_
  | (refine brS ?_ ?_ <;> intro hc <;> (try simp only [bls] at hc) <;> (try simp only [hc, bls]))
  | intro _ | refine And.intro ?_ ?_)
  all_goals (refine congrArg AVal.bool ?_; simp_all [shapeOk, ISet.none] <;> omega)
end Go.Rad
/- Contracts: syntax, byte by byte: whether nodes are a tree. -/
namespace Go.Rad
open Go Go.Proofs
set_option linter.all false
set_option maxRecDepth 20000
set_option maxHeartbeats 4000000

theorem walk4uc (q f : Bool) (ns : List Node) (hns : ns.length ≤ 1000000) (hl : ∀ n ∈ ns, n.l.length ≤ maxLen) : ∀ (fuel at_ : Nat) (seen : List Int) (g : Nat), at_ < fuel → at_ < ns.length → seen.length ≤ 4000000 →
    ACall Try.prog 46 [.sl q f (nodes ns), .int .i64 at_, .osl 1000 g 0 seen.length] [(1000, (g, .row 1 (ints seen)))] fun r s => (walkS ns fuel at_ seen).1.length ≤ max seen.length (ns.length + at_ + 1) ∧ ∃ h, r = .tup [.osl 1000 h 0 (walkS ns fuel at_ seen).1.length, .bool (walkS ns fuel at_ seen).2] ∧ s = [(1000, (h, .row 1 (ints (walkS ns fuel at_ seen).1)))] := by
  unfold maxLen at hl
  intro fuel
  induction fuel with
  | zero => intro at_ seen g h; omega
  | succ fuel ih =>
    intro at_ seen g h1 h2 h3
    refine ACall.enter Try.func46 rfl (by kernel_rfl) (Nat.le_of_ble_eq_true rfl) ?_; simp only [initTm, Nat.reduceAdd]
    repeat' (first
  | refine gSq ?_ | refine gSk ?_ | refine gBl ?_ | refine gIb ?_ | refine gEx rfl ?_
  | ((first
  | (refine gRg [] [0, 1, 2, 6, 7, 8, 9, 10, 11, 16, 25, 42, 52] ?_; intro K hK)
  | (refine gd_split ?_ ?_ <;> intro hb <;> (try simp only [bls] at hb) <;> (try simp only [hb]))
  | refine gRt [1000] [.tmp 6, .tmp 7] rfl ?_ | refine gDn [1000] [.tmp 6, .tmp 7] rfl ?_) <;> (try simp only [go_sem, simprocAttr]))
  | (refine hK _ _ ?_; clear hK K; simp only [go_sem, simprocAttr])
  | refine gCd (by simp only [go_sem, simprocAttr]; rfl) rfl ?_
  | refine brT ?_ | refine brF ?_
  | (refine brS ?_ ?_ <;> intro hc <;> (try simp only [bls] at hc) <;> (try simp only [hc, bls]))
  | intro _ | refine And.intro ?_ ?_)
    · rw [walkS, if_pos (by omega)]; exact Nat.le_max_left _ _
    · rw [walkS, if_pos (by omega)]; exact ⟨g, rfl, rfl⟩
    have hx : ns[at_]? = some ns[at_] := List.getElem?_eq_getElem h2
    have hm := hl ns[at_] (List.getElem_mem h2)
    have hgd : ns.getD (at_ : Int).toNat default = ns[at_] := by simp [List.getD, hx]
    have hw : walkS ns (fuel + 1) at_ seen = if (ns[at_].l.foldl (kidStep (walkS ns fuel) at_) (seen, true)).2 then ((ns[at_].l.foldl (kidStep (walkS ns fuel) at_) (seen, true)).1 ++ [(at_ : Int)], true) else ns[at_].l.foldl (kidStep (walkS ns fuel) at_) (seen, true) := by
      rw [walkS, if_neg (by omega), hgd]
    rw [hw]; clear hw
    generalize ns[at_] = x at hx hm hgd
    clear hgd
    obtain ⟨xo, ⟨xa, xb, xc, xd⟩, xl, xlo, xhi, xn⟩ := x
    simp only at hm ⊢
    refine AGood.prune [0, 1, 2, 6, 7, 8] ?_; simp only [go_sem, simprocAttr]
    refine AGood.loopInv (α := Nat × List Int × Nat) (fun x => ([(0, .sl q f (nodes ns)), (1, .int .i64 at_), (2, .osl 1000 x.2.2 0 x.2.1.length), (6, .sl true true []), (7, .bool false), (8, .int .i64 x.1)], [(1000, (x.2.2, .row 1 (ints x.2.1)))]))
      (fun x => x.1 ≤ xl.length ∧ x.2.1.length ≤ ns.length + at_ ∧ (xl.take x.1).foldl (kidStep (walkS ns fuel) at_) (seen, true) = (x.2.1, true)) (fun x => xl.length - x.1) (0, seen, g) ⟨Nat.zero_le _, by simp only; omega, rfl⟩ rfl ?_
    rintro ⟨i, sn, gg⟩ ⟨hi, hs, hfold⟩ ih2
    simp only at hi hs hfold ih2 ⊢
    have e1 : (at_ : Int) < ns.length := by omega
    have e2 : (0 : Int) ≤ at_ := by omega
    by_cases hle : i < xl.length
    · have e4 : (i : Int) < xl.length := by omega
      have e5 : (0 : Int) ≤ i := by omega
      have hk : xl[i]? = some xl[i] := List.getElem?_eq_getElem hle
      generalize xl[i] = k at hk
      by_cases hbad : k < 0 ∨ (at_ : Int) ≤ k
      · have hst : kidStep (walkS ns fuel) at_ (sn, true) k = (sn, false) := by simp [kidStep, hbad]
        rw [kid_at hk hfold (by rw [hst]), hst]
        repeat' (first
  | refine gSq ?_ | refine gSk ?_ | refine gBl ?_ | refine gIb ?_ | refine gEx rfl ?_
  | ((first
  | (refine gRg [] [0, 1, 2, 6, 7, 8, 9, 10, 11, 16, 25, 42, 52] ?_; intro K hK)
  | (refine gd_split ?_ ?_ <;> intro hb <;> (try simp only [bls] at hb) <;> (try simp only [hb]))
  | refine gRt [1000] [.tmp 6, .tmp 7] rfl ?_ | refine gDn [1000] [.tmp 6, .tmp 7] rfl ?_) <;> (try simp only [go_sem, simprocAttr, e1, e2, e4, e5, hx, hk, Option.some.injEq, forall_eq']))
  | (refine hK _ _ ?_; clear hK K; simp only [go_sem, simprocAttr])
  | refine gCd (by simp only [go_sem, simprocAttr]; rfl) rfl ?_
  | refine brT ?_ | refine brF ?_
  | (refine brS ?_ ?_ <;> intro hc <;> (try simp only [bls] at hc) <;> (try simp only [hc, bls]))
  | intro _ | refine And.intro ?_ ?_)
        all_goals first | exact ⟨gg, rfl, rfl⟩ | omega
      · obtain ⟨m, rfl⟩ : ∃ m : Nat, k = m := ⟨k.toNat, by omega⟩
        have hst : kidStep (walkS ns fuel) at_ (sn, true) m = walkS ns fuel m sn := by simp [kidStep]; omega
        have e6 : ¬ (m : Int) < 0 := by omega
        have e7 : ¬ (at_ : Int) ≤ m := by omega
        have hcall := ih m sn gg (by omega) (by omega) (by omega)
        rcases hres : walkS ns fuel m sn with ⟨w, b⟩
        rw [hres] at hcall hst
        cases b
        · rw [kid_at hk hfold (by rw [hst]), hst]
          repeat' (first
  | refine gSq ?_ | refine gSk ?_ | refine gBl ?_ | refine gIb ?_ | refine gEx rfl ?_
  | ((first
  | (refine gRg [] [0, 1, 2, 6, 7, 8, 9, 10, 11, 16, 25, 42, 52] ?_; intro K hK)
  | (refine ACall.mono hcall ?_; rintro _ _ ⟨hlen, h', rfl, rfl⟩)
  | (refine gd_split ?_ ?_ <;> intro hb <;> (try simp only [bls] at hb) <;> (try simp only [hb]))
  | refine gRt [1000] [.tmp 6, .tmp 7] rfl ?_ | refine gDn [1000] [.tmp 6, .tmp 7] rfl ?_) <;> (try simp only [go_sem, simprocAttr, e1, e2, e4, e5, e6, e7, hx, hk, Option.some.injEq, forall_eq']))
  | (refine hK _ _ ?_; clear hK K; simp only [go_sem, simprocAttr])
  | refine gCd (by simp only [go_sem, simprocAttr]; rfl) rfl ?_
  | refine brT ?_ | refine brF ?_
  | (refine brS ?_ ?_ <;> intro hc <;> (try simp only [bls] at hc) <;> (try simp only [hc, bls]))
  | intro _ | refine And.intro ?_ ?_)
          all_goals (simp only at hlen; first | exact ⟨h', rfl, rfl⟩ | omega)
        · repeat' (first
  | refine gSq ?_ | refine gSk ?_ | refine gBl ?_ | refine gIb ?_ | refine gEx rfl ?_
  | ((first
  | (refine gRg [] [0, 1, 2, 6, 7, 8, 9, 10, 11, 16, 25, 42, 52] ?_; intro K hK)
  | (refine ACall.mono hcall ?_; rintro _ _ ⟨hlen, h', rfl, rfl⟩)
  | (refine gd_split ?_ ?_ <;> intro hb <;> (try simp only [bls] at hb) <;> (try simp only [hb]))
  | refine gRt [1000] [.tmp 6, .tmp 7] rfl ?_ | refine gDn [1000] [.tmp 6, .tmp 7] rfl ?_) <;> (try simp only [go_sem, simprocAttr, e1, e2, e4, e5, e6, e7, hx, hk, Option.some.injEq, forall_eq']))
  | (refine hK _ _ ?_; clear hK K; simp only [go_sem, simprocAttr])
  | refine gCd (by simp only [go_sem, simprocAttr]; rfl) rfl ?_
  | refine brT ?_ | refine brF ?_
  | (refine brS ?_ ?_ <;> intro hc <;> (try simp only [bls] at hc) <;> (try simp only [hc, bls]))
  | intro _ | refine And.intro ?_ ?_)
          · omega
          · omega
          · refine AGood.prune [0, 1, 2, 6, 7, 8] ?_; simp only [go_sem, simprocAttr]
            exact (ih2 (i + 1, w, h') ⟨by omega, by simp only at hlen ⊢; omega, by rw [take_one hk, List.foldl_append, hfold]; exact hst⟩ (by simp only; omega)).cast rfl rfl
    · have e4 : ¬ (i : Int) < xl.length := by omega
      rw [List.take_of_length_le (by omega)] at hfold
      rw [hfold]
      repeat' (first
  | refine gSq ?_ | refine gSk ?_ | refine gBl ?_ | refine gIb ?_ | refine gEx rfl ?_
  | ((first
  | (refine gRg [] [0, 1, 2, 6, 7, 8, 9, 10, 11, 16, 25, 42, 52] ?_; intro K hK)
  | (refine gd_split ?_ ?_ <;> intro hb <;> (try simp only [bls] at hb) <;> (try simp only [hb]))
  | refine gRt [1000] [.tmp 6, .tmp 7] rfl ?_ | refine gDn [1000] [.tmp 6, .tmp 7] rfl ?_) <;> (try simp only [go_sem, simprocAttr, e1, e2, e4, hx, Option.some.injEq, forall_eq']))
  | (refine hK _ _ ?_; clear hK K; simp only [go_sem, simprocAttr])
  | refine gCd (by simp only [go_sem, simprocAttr]; rfl) rfl ?_
  | refine brT ?_ | refine brF ?_
  | (refine brS ?_ ?_ <;> intro hc <;> (try simp only [bls] at hc) <;> (try simp only [hc, bls]))
  | intro _ | refine And.intro ?_ ?_)
      · rename_i y hy; simp only [List.mem_singleton] at hy; subst hy; rfl
      · rename_i y hy; simp only [List.mem_singleton] at hy; subst hy; rfl
      · unfold bigLen; omega
      · unfold bigLen; omega
      · simp only [List.length_append, List.length_cons, List.length_nil]; omega
      · rename_i h'
        exact ⟨h', by simp, by simp⟩

theorem right4uc (q f : Bool) (ns : List Node) (hl : ∀ n ∈ ns, n.l.length ≤ maxLen ∧ n.name.size ≤ maxLen) : ACall Try.prog 26 [.sl q f (nodes ns)] [] fun r s => r = .bool (right4 ns) ∧ s = [] := by
  refine ACall.enter Try.func26 rfl (by kernel_rfl) (Nat.le_of_ble_eq_true rfl) ?_; simp only [initTm, Nat.reduceAdd]
  repeat' (first
  | refine gSq ?_ | refine gSk ?_ | refine gBl ?_ | refine gIb ?_ | refine gEx rfl ?_
  | ((first
  | (refine gRg [] [0, 2, 3, 4, 5, 6, 14, 18, 26, 43, 47, 55] ?_; intro K hK)
  | (refine gd_split ?_ ?_ <;> intro hb <;> (try simp only [bls] at hb) <;> (try simp only [hb]))
  | refine gRt [] [.tmp 2] rfl ?_ | refine gDn [] [.tmp 2] rfl ?_) <;> (try simp only [go_sem, simprocAttr]))
  | (refine hK _ _ ?_; clear hK K; simp only [go_sem, simprocAttr])
  | refine gCd (by simp only [go_sem, simprocAttr]; rfl) rfl ?_
  | refine brT ?_ | refine brF ?_
  | (refine brS ?_ ?_ <;> intro hc <;> (try simp only [bls] at hc) <;> (try simp only [hc, bls]))
  | intro _ | refine And.intro ?_ ?_)
  · refine congrArg AVal.bool ?_; simp only [right4]; rw [if_pos (by omega)]
  · have hn1 : ¬ (ns.length < 1 ∨ 1024 < ns.length) := by omega
    have hr : right4 ns = (ns.all shapeOk && ((walkS ns ns.length ((ns.length : Int) - 1) []).2 && decide ((walkS ns ns.length ((ns.length : Int) - 1) []).1 = (List.range ns.length).map fun (i : Nat) => (i : Int)))) := by
      simp only [right4, if_neg hn1]
      cases ns.all shapeOk <;> simp
    rw [hr]; clear hr
    refine AGood.prune [0, 2, 3] ?_; simp only [go_sem, simprocAttr]
    refine AGood.loopInv (α := Nat) (fun i => ([(0, .sl q f (nodes ns)), (2, .bool false), (3, .int .i64 i)], [])) (fun i => i ≤ ns.length ∧ (ns.take i).all shapeOk = true) (fun i => ns.length - i) 0 ⟨Nat.zero_le _, rfl⟩ rfl ?_
    rintro i ⟨hi, hall⟩ ih
    simp only
    by_cases hle : i < ns.length
    · have e4 : (i : Int) < ns.length := by omega
      have e5 : (0 : Int) ≤ i := by omega
      have hx : ns[i]? = some ns[i] := List.getElem?_eq_getElem hle
      have hm := hl ns[i] (List.getElem_mem hle)
      generalize ns[i] = x at hx hm
      have hsh := fun fl => shape4uc fl x hm.2
      cases hok : shapeOk x
      all_goals
        rw [hok] at hsh
        obtain ⟨xo, ⟨xa, xb, xc, xd⟩, xl, xlo, xhi, xn⟩ := x
        repeat' (first
  | refine gSq ?_ | refine gSk ?_ | refine gBl ?_ | refine gIb ?_ | refine gEx rfl ?_
  | ((first
  | (refine gRg [] [0, 2, 3, 4, 5, 6, 14, 18, 26, 43, 47, 55] ?_; intro K hK)
  | refine cAl (hsh false) rfl rfl rfl ?_
  | (refine gd_split ?_ ?_ <;> intro hb <;> (try simp only [bls] at hb) <;> (try simp only [hb]))
  | refine gRt [] [.tmp 2] rfl ?_ | refine gDn [] [.tmp 2] rfl ?_) <;> (try simp only [go_sem, simprocAttr, e4, e5, hx, Option.some.injEq, forall_eq']))
  | (refine hK _ _ ?_; clear hK K; simp only [go_sem, simprocAttr])
  | refine gCd (by simp only [go_sem, simprocAttr]; rfl) rfl ?_
  | refine brT ?_ | refine brF ?_
  | (refine brS ?_ ?_ <;> intro hc <;> (try simp only [bls] at hc) <;> (try simp only [hc, bls]))
  | intro _ | refine And.intro ?_ ?_)
      · have : ns.all shapeOk = false := by
          rw [List.all_eq_false]
          exact ⟨_, List.mem_of_getElem? hx, by simp [hok]⟩
        rw [this]; rfl
      · omega
      · omega
      · refine AGood.prune [0, 2, 3] ?_; simp only [go_sem, simprocAttr]
        exact (ih (i + 1) ⟨by omega, by rw [take_one hx, List.all_append, hall]; simp [hok]⟩ (by omega)).cast rfl rfl
    · have e4 : ¬ (i : Int) < ns.length := by omega
      rw [List.take_of_length_le (by omega)] at hall
      rw [hall]
      obtain ⟨m, hm⟩ : ∃ m, ns.length = m + 1 := ⟨ns.length - 1, by omega⟩
      have e5 : (ns.length : Int) - 1 = (m : Nat) := by omega
      have hwalk := fun g => walk4uc q f ns (by omega) (fun n h => (hl n h).1) ns.length m [] g (by omega) (by omega) (Nat.zero_le _)
      rw [e5]
      rcases hres : walkS ns ns.length m [] with ⟨w, b⟩
      rw [hres] at hwalk
      simp only at hwalk
      cases b
      · repeat' (first
  | refine gSq ?_ | refine gSk ?_ | refine gBl ?_ | refine gIb ?_ | refine gEx rfl ?_
  | ((first
  | (refine gRg [] [0, 2, 3, 4, 5, 6, 14, 18, 26, 43, 47, 55] ?_; intro K hK)
  | (refine ACall.ownArg 2 1000 1 (by decide) rfl (fun g => ?_); refine ACall.mono (hwalk g) ?_; rintro _ _ ⟨hlen, h', rfl, rfl⟩)
  | (refine gd_split ?_ ?_ <;> intro hb <;> (try simp only [bls] at hb) <;> (try simp only [hb]))
  | refine gRt [] [.tmp 2] rfl ?_ | refine gDn [] [.tmp 2] rfl ?_) <;> (try simp only [go_sem, simprocAttr, e4, e5]))
  | (refine hK _ _ ?_; clear hK K; simp only [go_sem, simprocAttr])
  | refine gCd (by simp only [go_sem, simprocAttr]; rfl) rfl ?_
  | refine brT ?_ | refine brF ?_
  | (refine brS ?_ ?_ <;> intro hc <;> (try simp only [bls] at hc) <;> (try simp only [hc, bls]))
  | intro _ | refine And.intro ?_ ?_)
        · omega
        · omega
        · rfl
      · repeat' (first
  | refine gSq ?_ | refine gSk ?_ | refine gBl ?_ | refine gIb ?_ | refine gEx rfl ?_
  | ((first
  | (refine gRg [] [0, 2, 3, 4, 5, 6, 14, 18, 26, 43, 47, 55] ?_; intro K hK)
  | (refine ACall.ownArg 2 1000 1 (by decide) rfl (fun g => ?_); refine ACall.mono (hwalk g) ?_; rintro _ _ ⟨hlen, h', rfl, rfl⟩)
  | (refine gd_split ?_ ?_ <;> intro hb <;> (try simp only [bls] at hb) <;> (try simp only [hb]))
  | refine gRt [] [.tmp 2] rfl ?_ | refine gDn [] [.tmp 2] rfl ?_) <;> (try simp only [go_sem, simprocAttr, e4, e5]))
  | (refine hK _ _ ?_; clear hK K; simp only [go_sem, simprocAttr])
  | refine gCd (by simp only [go_sem, simprocAttr]; rfl) rfl ?_
  | refine brT ?_ | refine brF ?_
  | (refine brS ?_ ?_ <;> intro hc <;> (try simp only [bls] at hc) <;> (try simp only [hc, bls]))
  | intro _ | refine And.intro ?_ ?_)
        · omega
        · omega
        · refine congrArg AVal.bool ?_
          simp only [Bool.false_eq, decide_eq_false_iff_not]
          rintro rfl
          skip
          exact hc (by simp)
        · skip
          try simp only [Bool.true_and]
          refine AGood.prune [0, 2, 4, 6] ?_; simp only [go_sem, simprocAttr]
          refine AGood.loopInv (α := Nat) (fun i => ([(0, .sl q f (nodes ns)), (2, .bool false), (4, .osl 1000 h' 0 w.length), (6, .int .i64 i)], [(1000, (h', .row 1 (ints w)))])) (fun i => i ≤ w.length ∧ w.take i = (List.range i).map fun (i : Nat) => (i : Int)) (fun i => w.length - i) 0 ⟨Nat.zero_le _, rfl⟩ rfl ?_
          rintro j ⟨hj, htk⟩ ih2
          simp only
          by_cases hle2 : j < w.length
          · have f4 : (j : Int) < w.length := by omega
            have f5 : (0 : Int) ≤ j := by omega
            have hk : w[j]? = some w[j] := List.getElem?_eq_getElem hle2
            generalize w[j] = k at hk
            by_cases hkj : k = j
            · repeat' (first
  | refine gSq ?_ | refine gSk ?_ | refine gBl ?_ | refine gIb ?_ | refine gEx rfl ?_
  | ((first
  | (refine gRg [] [0, 2, 3, 4, 5, 6, 14, 18, 26, 43, 47, 55] ?_; intro K hK)
  | (refine gd_split ?_ ?_ <;> intro hb <;> (try simp only [bls] at hb) <;> (try simp only [hb]))
  | refine gRt [] [.tmp 2] rfl ?_ | refine gDn [] [.tmp 2] rfl ?_) <;> (try simp only [go_sem, simprocAttr, f4, f5, hk, hkj, hle2, Option.some.injEq, forall_eq']))
  | (refine hK _ _ ?_; clear hK K; simp only [go_sem, simprocAttr])
  | refine gCd (by simp only [go_sem, simprocAttr]; rfl) rfl ?_
  | refine brT ?_ | refine brF ?_
  | (refine brS ?_ ?_ <;> intro hc <;> (try simp only [bls] at hc) <;> (try simp only [hc, bls]))
  | intro _ | refine And.intro ?_ ?_)
              · omega
              · omega
              · refine AGood.prune [0, 2, 4, 6] ?_; simp only [go_sem, simprocAttr]
                exact (ih2 (j + 1) ⟨by omega, by rw [take_one hk, htk, hkj, List.range_succ]; simp⟩ (by omega)).cast rfl rfl
            · repeat' (first
  | refine gSq ?_ | refine gSk ?_ | refine gBl ?_ | refine gIb ?_ | refine gEx rfl ?_
  | ((first
  | (refine gRg [] [0, 2, 3, 4, 5, 6, 14, 18, 26, 43, 47, 55] ?_; intro K hK)
  | (refine gd_split ?_ ?_ <;> intro hb <;> (try simp only [bls] at hb) <;> (try simp only [hb]))
  | refine gRt [] [.tmp 2] rfl ?_ | refine gDn [] [.tmp 2] rfl ?_) <;> (try simp only [go_sem, simprocAttr, f4, f5, hk, hkj, hle2, Option.some.injEq, forall_eq']))
  | (refine hK _ _ ?_; clear hK K; simp only [go_sem, simprocAttr])
  | refine gCd (by simp only [go_sem, simprocAttr]; rfl) rfl ?_
  | refine brT ?_ | refine brF ?_
  | (refine brS ?_ ?_ <;> intro hc <;> (try simp only [bls] at hc) <;> (try simp only [hc, bls]))
  | intro _ | refine And.intro ?_ ?_)
              refine congrArg AVal.bool ?_
              simp only [Bool.false_eq, decide_eq_false_iff_not]
              intro hw
              rw [hw] at hk
              exact hkj (rg_get hk)
          · have f4 : ¬ (j : Int) < w.length := by omega
            rw [List.take_of_length_le (by omega)] at htk
            have hjn : j = ns.length := by omega
            subst hjn
            repeat' (first
  | refine gSq ?_ | refine gSk ?_ | refine gBl ?_ | refine gIb ?_ | refine gEx rfl ?_
  | ((first
  | (refine gRg [] [0, 2, 3, 4, 5, 6, 14, 18, 26, 43, 47, 55] ?_; intro K hK)
  | (refine gd_split ?_ ?_ <;> intro hb <;> (try simp only [bls] at hb) <;> (try simp only [hb]))
  | refine gRt [] [.tmp 2] rfl ?_ | refine gDn [] [.tmp 2] rfl ?_) <;> (try simp only [go_sem, simprocAttr, f4]))
  | (refine hK _ _ ?_; clear hK K; simp only [go_sem, simprocAttr])
  | refine gCd (by simp only [go_sem, simprocAttr]; rfl) rfl ?_
  | refine brT ?_ | refine brF ?_
  | (refine brS ?_ ?_ <;> intro hc <;> (try simp only [bls] at hc) <;> (try simp only [hc, bls]))
  | intro _ | refine And.intro ?_ ?_)
            rw [htk]; simp
  · refine congrArg AVal.bool ?_; simp only [right4]; rw [if_pos (by omega)]
end Go.Rad
/- Contracts: whether a tree has no names. -/
namespace Go.Rad
open Go Go.Proofs
set_option linter.all false
set_option maxRecDepth 20000
set_option maxHeartbeats 4000000

theorem plain_c (f : Bool) (l : List Node) (hlen : l.length ≤ maxLen) (hl : ∀ n ∈ l, n.l.length ≤ maxLen ∧ n.name.size ≤ maxLen) : ACall Try.prog 13 [.sl true f (nodes l)] [] fun r s => r = .bool (plainS l) ∧ s = [] := by
  unfold maxLen at hlen
  have hr := right4uc true f l hl
  refine ACall.enter Try.func13 rfl (by kernel_rfl) (Nat.le_of_ble_eq_true rfl) ?_; simp only [initTm, Nat.reduceAdd]
  repeat' (first
  | refine gSq ?_ | refine gSk ?_ | refine gBl ?_ | refine gIb ?_ | refine gEx rfl ?_
  | ((first
  | (refine gRg [] [0, 2, 3, 7, 15] ?_; intro K hK)
  | (refine gd_split ?_ ?_ <;> intro hb <;> (try simp only [bls] at hb) <;> (try simp only [hb]))
  | refine gRt [] [.tmp 2] rfl ?_ | refine gDn [] [.tmp 2] rfl ?_) <;> (try simp only [go_sem, simprocAttr]))
  | (refine hK _ _ ?_; clear hK K; simp only [go_sem, simprocAttr])
  | refine gCd (by simp only [go_sem, simprocAttr]; rfl) rfl ?_
  | refine brT ?_ | refine brF ?_
  | (refine brS ?_ ?_ <;> intro hc <;> (try simp only [bls] at hc) <;> (try simp only [hc, bls]))
  | intro _ | refine And.intro ?_ ?_)
  refine AGood.prune [0, 2, 3] ?_; simp only [go_sem, simprocAttr]
  refine AGood.loopInv (α := Nat) (fun i => ([(0, .sl true f (nodes l)), (2, .bool false), (3, .int .i64 i)], [])) (fun i => i ≤ l.length ∧ (l.take i).all plainN = true) (fun i => l.length - i) 0 ⟨Nat.zero_le _, rfl⟩ rfl ?_
  rintro i ⟨hi, hall⟩ ih
  simp only
  by_cases hle : i < l.length
  · have e4 : (i : Int) < l.length := by omega
    have e5 : (0 : Int) ≤ i := by omega
    have hx : l[i]? = some l[i] := List.getElem?_eq_getElem hle
    generalize l[i] = x at hx
    by_cases h6 : x.op = 6
    · have hno : plainS l = false := by
        have : l.all plainN = false := List.all_eq_false.2 ⟨x, List.mem_of_getElem? hx, by simp [plainN, h6]⟩
        simp [plainS, this]
      rw [hno]
      obtain ⟨xo, ⟨xa, xb, xc, xd⟩, xl, xlo, xhi, xn⟩ := x
      simp only at h6
      subst h6
      repeat' (first
  | refine gSq ?_ | refine gSk ?_ | refine gBl ?_ | refine gIb ?_ | refine gEx rfl ?_
  | ((first
  | (refine gRg [] [0, 2, 3, 7, 15] ?_; intro K hK)
  | (refine gd_split ?_ ?_ <;> intro hb <;> (try simp only [bls] at hb) <;> (try simp only [hb]))
  | refine gRt [] [.tmp 2] rfl ?_ | refine gDn [] [.tmp 2] rfl ?_) <;> (try simp only [go_sem, simprocAttr, e4, e5, hx, Option.some.injEq, forall_eq']))
  | (refine hK _ _ ?_; clear hK K; simp only [go_sem, simprocAttr])
  | refine gCd (by simp only [go_sem, simprocAttr]; rfl) rfl ?_
  | refine brT ?_ | refine brF ?_
  | (refine brS ?_ ?_ <;> intro hc <;> (try simp only [bls] at hc) <;> (try simp only [hc, bls]))
  | intro _ | refine And.intro ?_ ?_)
    · have hyes : plainN x = true := by simp [plainN, h6]
      obtain ⟨xo, ⟨xa, xb, xc, xd⟩, xl, xlo, xhi, xn⟩ := x
      simp only at h6
      repeat' (first
  | refine gSq ?_ | refine gSk ?_ | refine gBl ?_ | refine gIb ?_ | refine gEx rfl ?_
  | ((first
  | (refine gRg [] [0, 2, 3, 7, 15] ?_; intro K hK)
  | (refine gd_split ?_ ?_ <;> intro hb <;> (try simp only [bls] at hb) <;> (try simp only [hb]))
  | refine gRt [] [.tmp 2] rfl ?_ | refine gDn [] [.tmp 2] rfl ?_) <;> (try simp only [go_sem, simprocAttr, e4, e5, hx, h6, Option.some.injEq, forall_eq']))
  | (refine hK _ _ ?_; clear hK K; simp only [go_sem, simprocAttr])
  | refine gCd (by simp only [go_sem, simprocAttr]; rfl) rfl ?_
  | refine brT ?_ | refine brF ?_
  | (refine brS ?_ ?_ <;> intro hc <;> (try simp only [bls] at hc) <;> (try simp only [hc, bls]))
  | intro _ | refine And.intro ?_ ?_)
      all_goals first | omega | (unfold bigLen; omega) | exact ⟨_, _, ⟨rfl, rfl⟩, rfl⟩ | exact ⟨_, rfl⟩ | (rename_i hy; simp only [List.mem_singleton] at hy; subst hy; rfl) | with_reducible rfl | skip
      refine AGood.prune [0, 2, 3] ?_; simp only [go_sem, simprocAttr]
      exact (ih (i + 1) ⟨by omega, by rw [take_one hx, List.all_append, hall]; simp [hyes]⟩ (by omega)).cast rfl rfl
  · have e4 : ¬ (i : Int) < l.length := by omega
    rw [List.take_of_length_le (by omega)] at hall
    repeat' (first
  | refine gSq ?_ | refine gSk ?_ | refine gBl ?_ | refine gIb ?_ | refine gEx rfl ?_
  | ((first
  | (refine gRg [] [0, 2, 3, 7, 15] ?_; intro K hK)
  | refine cAl (hr) rfl rfl rfl ?_
  | (refine gd_split ?_ ?_ <;> intro hb <;> (try simp only [bls] at hb) <;> (try simp only [hb]))
  | refine gRt [] [.tmp 2] rfl ?_ | refine gDn [] [.tmp 2] rfl ?_) <;> (try simp only [go_sem, simprocAttr, e4]))
  | (refine hK _ _ ?_; clear hK K; simp only [go_sem, simprocAttr])
  | refine gCd (by simp only [go_sem, simprocAttr]; rfl) rfl ?_
  | refine brT ?_ | refine brF ?_
  | (refine brS ?_ ?_ <;> intro hc <;> (try simp only [bls] at hc) <;> (try simp only [hc, bls]))
  | intro _ | refine And.intro ?_ ?_)
    simp [plainS, hall]
end Go.Rad
/- Contracts: the document's plan: a node's, and a tree's. -/
namespace Go.Rad
open Go Go.Proofs
set_option linter.all false
set_option maxRecDepth 20000
set_option maxHeartbeats 4000000

theorem rplan_c {q f : Bool} {l : List Node} {most : Int} (hl : plOk l) : ∀ (fu : Nat) (k : Nat), k < fu → k < l.length → KidR Try.prog 52 q f l most (planR l most fu k) k := by
  intro fu
  induction fu with
  | zero => intro k h; omega
  | succ fu ih =>
    intro k hk hkl g g1 s hs
    have hx : l[k]? = some l[k] := List.getElem?_eq_getElem hkl
    obtain ⟨m1, m2, m3, m4, m5, m6⟩ := hl.2 k _ hx
    generalize l[k] = n at hx m1 m2 m3 m4 m5 m6
    have hl1 := hl.1
    have hlen := fun k => planR_len l most fu k
    have e1 : (k : Int) < l.length := by omega
    have e2 : (0 : Int) ≤ k := by omega
    rw [planR, nAt_get hx]
    obtain ⟨out, lg⟩ := s
    simp only at hs
    cases lg
    · rw [if_neg Bool.false_ne_true]
      by_cases h5 : n.op = 5
      · rw [if_pos h5]
        obtain ⟨kd, hkd⟩ : ∃ kd, n.l = [kd] := List.length_eq_one_iff.1 (m3 h5)
        have hk1 := m2 kd (by simp [hkd])
        obtain ⟨kid, rfl⟩ : ∃ kid : Nat, kd = kid := ⟨kd.toNat, by omega⟩
        have hm : l[kid]? = some (l[kid]'(by omega)) := List.getElem?_eq_getElem (by omega)
        have e3 : kid0 n = (kid : Int) := by simp [kid0, hkd]
        rw [e3, nAt_get hm]
        have hcall := rrep_c (q := q) (f := f) (l := l) (most := most) (by omega) n _ kid hkd hm ⟨m4, m5⟩ m6 (ih kid (by omega) (by omega)) (hlen kid) g g1 (out, false) hs
        generalize repR (planR l most fu kid) most (decide ((l[kid]'(by omega)).op = 2)) n.lo n.hi (out, false) = a at hcall
        obtain ⟨xo, ⟨xa, xb, xc, xd⟩, xl, xlo, xhi, xn⟩ := n
        simp only at h5
        subst h5
        simp only [qsto, qbx, RPost, Node.cells, Node.cellsF] at hcall ⊢
        refine ACall.enter Try.func52 rfl (by kernel_rfl) (Nat.le_of_ble_eq_true rfl) ?_; simp only [initTm, Nat.reduceAdd]
        repeat' (first
  | refine gSq ?_ | refine gSk ?_ | refine gBl ?_ | refine gIb ?_ | refine gEx rfl ?_
  | ((first
  | (refine gRg [] [0, 1, 4, 5, 6, 7, 18, 21, 29] ?_; intro K hK)
  | (refine ACall.use [(1000, 1000), (1001, 1001)] [] rfl (hcall) rfl rfl rfl ?_; (first | rintro _ _ ⟨rfl, rfl⟩ | rintro _ _ ⟨rfl, h1, rfl⟩); refine ⟨.inl rfl, rfl, ?_⟩; simp only [bk, bk2, bk1, bkS, bkO, idOf, delAll, go_sem, simprocAttr])
  | (refine gd_split ?_ ?_ <;> intro hb <;> (try simp only [bls] at hb) <;> (try simp only [hb]))
  | refine gRt [1000, 1001] [.tmp 4] rfl ?_ | refine gDn [1000, 1001] [.tmp 4] rfl ?_) <;> (try simp only [go_sem, simprocAttr, hx, e1, e2, Option.some.injEq, forall_eq']))
  | (refine hK _ _ ?_; clear hK K; simp only [go_sem, simprocAttr])
  | refine gCd (by simp only [go_sem, simprocAttr]; rfl) rfl ?_
  | refine brT ?_ | refine brF ?_
  | (refine brS ?_ ?_ <;> intro hc <;> (try simp only [bls] at hc) <;> (try simp only [hc, bls]))
  | intro _ | refine And.intro ?_ ?_)
        all_goals first | omega | (unfold bigLen; omega) | exact ⟨_, _, ⟨rfl, rfl⟩, rfl⟩ | exact ⟨_, rfl⟩ | (rename_i hy; simp only [List.mem_singleton] at hy; subst hy; rfl) | with_reducible rfl | skip
      · rw [if_neg h5]
        obtain ⟨xo, ⟨xa, xb, xc, xd⟩, xl, xlo, xhi, xn⟩ := n
        simp only at h5 m1 m2 ⊢
        obtain ⟨S, hS⟩ : ∃ S, S = kidsR (planR l most fu) xl (out, false) [] := ⟨_, rfl⟩
        rw [← hS]
        have hSl := kidsR_len hlen xl (out, false) [] hs
        rw [← hS] at hSl
        simp only [List.length_nil] at hSl
        obtain ⟨S', hS'⟩ : ∃ S', S' = putQ ⟨xo, ⟨xa, xb, xc, xd⟩, S.2, xlo, xhi, xn⟩ S.1 := ⟨_, rfl⟩
        rw [← hS']
        simp only [qsto, qbx]
        refine ACall.enter Try.func52 rfl (by kernel_rfl) (Nat.le_of_ble_eq_true rfl) ?_; simp only [initTm, Nat.reduceAdd]
        repeat' (first
  | refine gSq ?_ | refine gSk ?_ | refine gBl ?_ | refine gIb ?_ | refine gEx rfl ?_
  | ((first
  | (refine gRg [] [0, 1, 4, 5, 6, 7, 18, 21, 29] ?_; intro K hK)
  | (refine gd_split ?_ ?_ <;> intro hb <;> (try simp only [bls] at hb) <;> (try simp only [hb]))
  | refine gRt [1000, 1001] [.tmp 4] rfl ?_ | refine gDn [1000, 1001] [.tmp 4] rfl ?_) <;> (try simp only [go_sem, simprocAttr, hx, h5, e1, e2, Option.some.injEq, forall_eq']))
  | (refine hK _ _ ?_; clear hK K; simp only [go_sem, simprocAttr])
  | refine gCd (by simp only [go_sem, simprocAttr]; rfl) rfl ?_
  | refine brT ?_ | refine brF ?_
  | (refine brS ?_ ?_ <;> intro hc <;> (try simp only [bls] at hc) <;> (try simp only [hc, bls]))
  | intro _ | refine And.intro ?_ ?_)
        all_goals first | omega | (unfold bigLen; omega) | exact ⟨_, _, ⟨rfl, rfl⟩, rfl⟩ | exact ⟨_, rfl⟩ | (rename_i hy; simp only [List.mem_singleton] at hy; subst hy; rfl) | with_reducible rfl | skip
        rename_i h5b
        refine AGood.ownTm 6 900 1 (by decide) rfl fun g9 => ?_
        simp only [go_sem, simprocAttr]
        refine AGood.prune [0, 5, 6, 7] ?_; simp only [go_sem, simprocAttr]
        refine AGood.loopInv (α := Nat × RS × List Int × Nat × Nat) (fun x => ([(0, .bx 1000 g 0), (5, .bx 5 h5b 0), (6, .osl 900 x.2.2.2.2 0 x.2.2.1.length), (7, .int .i64 x.1)],
            [(5, h5b, .box [.int .u8 xo, .int .u64 xa, .int .u64 xb, .int .u64 xc, .int .u64 xd, .sl true false (ints xl), .int .i64 xlo, .int .i64 xhi, .str xn]), (900, x.2.2.2.2, .row 1 (ints x.2.2.1)), (1000, g, .box [.sl q f (nodes l), .int .i64 most, .osl 1001 x.2.2.2.1 0 x.2.1.1.length, .bool x.2.1.2]), (1001, x.2.2.2.1, .row 9 (nodes x.2.1.1))]))
          (fun x => x.1 ≤ xl.length ∧ x.2.2.1.length = x.1 ∧ x.2.1.1.length ≤ 1024 ∧ S = kidsR (planR l most fu) (xl.drop x.1) x.2.1 x.2.2.1) (fun x => xl.length - x.1) (0, (out, false), [], g1, g9) ⟨Nat.zero_le _, rfl, hs, hS⟩ rfl ?_
        rintro ⟨i, o, row, gg, g9⟩ ⟨hi, hrl, ho', hrun⟩ ih2
        simp only at hi hrl ho' hrun ih2 ⊢
        by_cases hle : i < xl.length
        · have e4 : (i : Int) < xl.length := by omega
          have e5 : (0 : Int) ≤ i := by omega
          have e6 : (i : Int) + 1 = ((i + 1 : Nat) : Int) := by omega
          have hx2 : xl[i]? = some xl[i] := List.getElem?_eq_getElem hle
          have hm := m2 xl[i] (List.getElem_mem hle)
          have hdr : xl.drop i = xl[i] :: xl.drop (i + 1) := List.drop_eq_getElem_cons hle
          rw [hdr, kidsR] at hrun
          generalize xl[i] = kd at hx2 hm hrun
          obtain ⟨kid, rfl⟩ : ∃ kid : Nat, kd = kid := ⟨kd.toNat, by omega⟩
          have b2 := hlen kid o ho'
          have hp := ih kid (by omega) (by omega) g gg o ho'
          generalize planR l most fu kid o = a at b2 hp hrun
          simp only [qsto, qbx, RPost] at hp
          repeat' (first
  | refine gSq ?_ | refine gSk ?_ | refine gBl ?_ | refine gIb ?_ | refine gEx rfl ?_
  | ((first
  | (refine gRg [40] [0, 1, 4, 5, 6, 7, 18, 21, 29] ?_; intro K hK)
  | (refine ACall.use [(1000, 1000), (1001, 1001)] [] rfl (hp) rfl rfl rfl ?_; (first | rintro _ _ ⟨rfl, rfl⟩ | rintro _ _ ⟨rfl, h1, rfl⟩); refine ⟨.inl rfl, rfl, ?_⟩; simp only [bk, bk2, bk1, bkS, bkO, idOf, delAll, go_sem, simprocAttr])
  | (refine gd_split ?_ ?_ <;> intro hb <;> (try simp only [bls] at hb) <;> (try simp only [hb]))
  | refine gRt [1000, 1001] [.tmp 4] rfl ?_ | refine gDn [1000, 1001] [.tmp 4] rfl ?_) <;> (try simp only [go_sem, simprocAttr, e4, e5, e6, hx2, Option.some.injEq, forall_eq']))
  | (refine hK _ _ ?_; clear hK K; simp only [go_sem, simprocAttr])
  | refine gCd (by simp only [go_sem, simprocAttr]; rfl) rfl ?_
  | refine brT ?_ | refine brF ?_
  | (refine brS ?_ ?_ <;> intro hc <;> (try simp only [bls] at hc) <;> (try simp only [hc, bls]))
  | intro _ | refine And.intro ?_ ?_)
          all_goals first | omega | (unfold bigLen; omega) | exact ⟨_, _, ⟨rfl, rfl⟩, rfl⟩ | exact ⟨_, rfl⟩ | (rename_i hy; simp only [List.mem_singleton] at hy; subst hy; rfl) | with_reducible rfl | skip
          rename_i h'
          refine AGood.filt [5, 900, 1000, 1001] ?_
          simp only [sf_cons, sf_nil, go_sem, simprocAttr]
          refine AGood.prune [0, 5, 6, 7] ?_; simp only [go_sem, simprocAttr]
          refine AGood.cast (ih2 (i + 1, a.1, row ++ [a.2], h1, h') ⟨by simp only; omega, by simp [hrl], b2, hrun⟩ (by simp only; omega)) ?_ ?_
          · simp
          · simp
        · have e4 : ¬ (i : Int) < xl.length := by omega
          have hin : i = xl.length := by omega
          rw [List.drop_eq_nil_of_le (by omega), kidsR] at hrun
          subst hrun
          clear ih2
          have e15 : (ints row).take row.length = ints row := List.take_of_length_le (by simp)
          have hc := rput_c q f false l most g gg ⟨xo, ⟨xa, xb, xc, xd⟩, row, xlo, xhi, xn⟩ o ho'
          simp only at hS'
          rw [← hS'] at hc
          simp only [qsto, qbx, RPost, Node.cellsF] at hc ⊢
          repeat' (first
  | refine gSq ?_ | refine gSk ?_ | refine gBl ?_ | refine gIb ?_ | refine gEx rfl ?_
  | ((first
  | (refine AGood.at 11 ?_; (refine AGood.freeze 900 rfl ?_; simp only [rfT, rfS, rfO, rf, rf1, e15, true_and, go_sem, simprocAttr]); (refine gRg [] [0, 1, 4, 5, 6, 7, 18, 21, 29] ?_; intro K hK))
  | (refine gRg [] [0, 1, 4, 5, 6, 7, 18, 21, 29] ?_; intro K hK)
  | (refine ACall.use [(1000, 1000), (1001, 1001)] [] rfl (hc) rfl rfl rfl ?_; (first | rintro _ _ ⟨rfl, rfl⟩ | rintro _ _ ⟨rfl, h1, rfl⟩); refine ⟨.inl rfl, rfl, ?_⟩; simp only [bk, bk2, bk1, bkS, bkO, idOf, delAll, go_sem, simprocAttr])
  | (refine gd_split ?_ ?_ <;> intro hb <;> (try simp only [bls] at hb) <;> (try simp only [hb]))
  | refine gRt [1000, 1001] [.tmp 4] rfl ?_ | refine gDn [1000, 1001] [.tmp 4] rfl ?_) <;> (try simp only [go_sem, simprocAttr, e4]))
  | (refine hK _ _ ?_; clear hK K; simp only [go_sem, simprocAttr])
  | refine gCd (by simp only [go_sem, simprocAttr]; rfl) rfl ?_
  | refine brT ?_ | refine brF ?_
  | (refine brS ?_ ?_ <;> intro hc <;> (try simp only [bls] at hc) <;> (try simp only [hc, bls]))
  | intro _ | refine And.intro ?_ ?_)
          all_goals first | omega | (unfold bigLen; omega) | exact ⟨_, _, ⟨rfl, rfl⟩, rfl⟩ | exact ⟨_, rfl⟩ | (rename_i hy; simp only [List.mem_singleton] at hy; subst hy; rfl) | with_reducible rfl | skip
    · simp only [if_true]
      obtain ⟨xo, ⟨xa, xb, xc, xd⟩, xl, xlo, xhi, xn⟩ := n
      simp only [qsto, qbx, RPost]
      refine ACall.enter Try.func52 rfl (by kernel_rfl) (Nat.le_of_ble_eq_true rfl) ?_; simp only [initTm, Nat.reduceAdd]
      repeat' (first
  | refine gSq ?_ | refine gSk ?_ | refine gBl ?_ | refine gIb ?_ | refine gEx rfl ?_
  | ((first
  | (refine gRg [] [0, 1, 4, 5, 6, 7, 18, 21, 29] ?_; intro K hK)
  | (refine gd_split ?_ ?_ <;> intro hb <;> (try simp only [bls] at hb) <;> (try simp only [hb]))
  | refine gRt [1000, 1001] [.tmp 4] rfl ?_ | refine gDn [1000, 1001] [.tmp 4] rfl ?_) <;> (try simp only [go_sem, simprocAttr, hx, e1, e2, Option.some.injEq, forall_eq']))
  | (refine hK _ _ ?_; clear hK K; simp only [go_sem, simprocAttr])
  | refine gCd (by simp only [go_sem, simprocAttr]; rfl) rfl ?_
  | refine brT ?_ | refine brF ?_
  | (refine brS ?_ ?_ <;> intro hc <;> (try simp only [bls] at hc) <;> (try simp only [hc, bls]))
  | intro _ | refine And.intro ?_ ?_)
      all_goals first | omega | (unfold bigLen; omega) | exact ⟨_, _, ⟨rfl, rfl⟩, rfl⟩ | exact ⟨_, rfl⟩ | (rename_i hy; simp only [List.mem_singleton] at hy; subst hy; rfl) | with_reducible rfl | skip
end Go.Rad
