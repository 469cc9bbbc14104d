/- The statements of layer 8: PlanBounds. -/
import Derived.Test.YtejdlelhlpnabaaKL08a
set_option linter.all false
namespace Go.Rad
open Go Go.Proofs
set_option linter.all false
set_option maxRecDepth 20000
set_option maxHeartbeats 4000000

def byOf (more : List Int) (i : Nat) : Int := if i < more.length then ((more.getD i 0).toNat % 2049 : Nat) else 0
theorem planBounds_c (l : List Node) (most : Int) (more : List Int) (hm : fits .u16 most) (hl : l.length ≤ maxLen) (hn : ∀ n ∈ l, n.name.size ≤ maxLen ∧ n.l.length ≤ maxLen) (hml : more.length ≤ maxLen) (hmf : ∀ n ∈ more, fits .u16 n) :
    ACall Try.prog 10 [.sl true false (nodes l), .int .u16 most, .sl true false (kks .u16 more)] [] fun r _ => r = .bool true := by
  have hf := few8uc l hl
  have hx := few_nd hn 60
  have hxl : (l.take 60).length ≤ 60 := by rw [List.length_take]; omega
  generalize l.take 60 = x at hf hx hxl
  clear hn hl
  unfold maxLen at hml
  have hpl := plain_c false x (by unfold maxLen; omega) (swap_nd hx)
  obtain ⟨m1, m2⟩ : most.tmod 2048 = ((most.toNat % 2048 : Nat) : Int) ∧ IntKind.i64.wrap ((most.toNat % 2048 : Nat) : Int) = ((most.toNat % 2048 : Nat) : Int) := by
    have h := fits_u16 hm
    obtain ⟨m, rfl⟩ : ∃ m : Nat, most = m := ⟨most.toNat, by omega⟩
    rw [Int.toNat_natCast]
    exact ⟨tmod_nat m 2048, wr_i64n (by omega)⟩
  obtain ⟨m, hmm⟩ : ∃ m : Nat, m = most.toNat % 2048 := ⟨_, rfl⟩
  rw [← hmm] at m1 m2
  have hm3 : m < 2048 := by omega
  have m4 : (m : Int) + 1 = ((m + 1 : Nat) : Int) := by omega
  clear hmm hm
  obtain ⟨M, hM⟩ : ∃ M : Nat, M = m + 1 := ⟨_, rfl⟩
  rw [← hM] at m4
  cases hp : plainS x
  · rw [hp] at hpl
    refine ACall.enter Try.func10 rfl (by kernel_rfl) (Nat.le_of_ble_eq_true rfl) ?_; simp only [initTm, Nat.reduceAdd]
    repeat' (first
  | refine gSq ?_ | refine gSk ?_ | refine gBl ?_ | refine gIb ?_ | refine gEx rfl ?_
  | ((first
  | (refine gRg [] [0, 1, 2, 6, 7, 8, 9, 10, 11, 12, 13, 14, 15, 16, 17, 18, 19, 20, 30, 32, 33, 34, 35, 42, 68, 108, 110, 111, 112, 130, 135, 144] ?_; intro K hK)
  | (refine gDr 24 [] 8 [0, 1, 2, 3, 4, 5, 6, 7, 8, 9, 10, 11] [0, 1, 2, 6, 7, 8, 9, 10, 11, 12, 13, 14, 15, 16, 17, 18, 19, 20, 30, 32, 33, 34, 35, 42, 68, 108, 110, 111, 112, 130, 135, 144] rfl ?_; intro K hK)
  | refine cAl (shown8uc) rfl rfl rfl ?_
  | refine cAl (hf) rfl rfl rfl ?_
  | refine cAl (hpl) rfl rfl rfl ?_
  | (refine gd_split ?_ ?_ <;> intro hb <;> (try simp only [bls] at hb) <;> (try simp only [hb]))
  | refine gRt [] [.tmp 6] rfl ?_ | refine gDn [] [.tmp 6] rfl ?_) <;> (try simp only [go_sem, simprocAttr, m1, m2, m4]))
  | (refine hK _ _ ?_; clear hK K; simp only [go_sem, simprocAttr])
  | refine gCd (by simp only [go_sem, simprocAttr]; rfl) rfl ?_
  | refine brT ?_ | refine brF ?_
  | (refine brS ?_ ?_ <;> intro hc <;> (try simp only [bls] at hc) <;> (try simp only [hc, bls]))
  | intro _ | refine And.intro ?_ ?_)
    all_goals first | omega | (unfold bigLen; omega) | exact ⟨_, _, ⟨rfl, rfl⟩, rfl⟩ | exact ⟨_, rfl⟩ | (rename_i hy; simp only [List.mem_singleton] at hy; subst hy; rfl) | with_reducible rfl | skip
  · rw [hp] at hpl
    have hok := plain_plOk hp
    obtain ⟨yS, hyS⟩ : ∃ yS : Nat → List Node, yS = fun i => (x.take i).mapIdx fun j n => raiseN x M (byOf more j) n := ⟨_, rfl⟩
    have hyl : ∀ i, i ≤ x.length → (yS i).length = i := fun i hi => by rw [hyS]; simp; omega
    have hyn : ∀ (i : Nat) (n : Node), x[i]? = some n → yS (i + 1) = yS i ++ [raiseN x M (byOf more i) n] := by
      intro i n h
      have hlt := (List.getElem?_eq_some_iff.1 h).1
      rw [hyS]
      simp only [take_one h, List.mapIdx_append, List.mapIdx_cons, List.mapIdx_nil, List.length_take, Nat.zero_add]
      rw [show min i x.length = i by omega]
    have hy0 : yS 0 = [] := by rw [hyS]; simp
    have hyE : yS x.length = x.mapIdx fun j n => raiseN x M (byOf more j) n := by rw [hyS]; simp
    have hby : ∀ i, 0 ≤ byOf more i := fun i => by unfold byOf; split <;> omega
    have hbl : ∀ i, byOf more i ≤ 2048 := fun i => by unfold byOf; split <;> omega
    have hlaw := bounds_law (x := x) (m := (M : Int)) (by omega) hp hby
    simp only [← hyE] at hlaw
    have hynd : ndOk (yS x.length) := by
      rw [hyE]
      intro n hn
      obtain ⟨i, h, rfl⟩ := List.mem_mapIdx.1 hn
      have := hx x[i] (List.getElem_mem h)
      unfold raiseN; split <;> exact this
    have ha := ptree_c true false x (M : Int) hx
    have hb := ptree_c true false (yS x.length) (M : Int) hynd
    obtain ⟨n1, n2⟩ := planS_nd x (M : Int)
    obtain ⟨n3, n4⟩ := planS_nd (yS x.length) (M : Int)
    clear hyE hyS
    refine ACall.enter Try.func10 rfl (by kernel_rfl) (Nat.le_of_ble_eq_true rfl) ?_; simp only [initTm, Nat.reduceAdd]
    repeat' (first
  | refine gSq ?_ | refine gSk ?_ | refine gBl ?_ | refine gIb ?_ | refine gEx rfl ?_
  | ((first
  | (refine gRg [] [0, 1, 2, 6, 7, 8, 9, 10, 11, 12, 13, 14, 15, 16, 17, 18, 19, 20, 30, 32, 33, 34, 35, 42, 68, 108, 110, 111, 112, 130, 135, 144] ?_; intro K hK)
  | (refine gDr 24 [] 8 [0, 1, 2, 3, 4, 5, 6, 7, 8, 9, 10, 11] [0, 1, 2, 6, 7, 8, 9, 10, 11, 12, 13, 14, 15, 16, 17, 18, 19, 20, 30, 32, 33, 34, 35, 42, 68, 108, 110, 111, 112, 130, 135, 144] rfl ?_; intro K hK)
  | refine cAl (shown8uc) rfl rfl rfl ?_
  | refine cAl (hf) rfl rfl rfl ?_
  | refine cAl (hpl) rfl rfl rfl ?_
  | (refine gd_split ?_ ?_ <;> intro hb <;> (try simp only [bls] at hb) <;> (try simp only [hb]))
  | refine gRt [] [.tmp 6] rfl ?_ | refine gDn [] [.tmp 6] rfl ?_) <;> (try simp only [go_sem, simprocAttr, m1, m2, m4]))
  | (refine hK _ _ ?_; clear hK K; simp only [go_sem, simprocAttr])
  | refine gCd (by simp only [go_sem, simprocAttr]; rfl) rfl ?_
  | refine brT ?_ | refine brF ?_
  | (refine brS ?_ ?_ <;> intro hc <;> (try simp only [bls] at hc) <;> (try simp only [hc, bls]))
  | intro _ | refine And.intro ?_ ?_)
    all_goals first | omega | (unfold bigLen; omega) | exact ⟨_, _, ⟨rfl, rfl⟩, rfl⟩ | exact ⟨_, rfl⟩ | (rename_i hy; simp only [List.mem_singleton] at hy; subst hy; rfl) | with_reducible rfl | skip
    refine AGood.ownTm 10 900 9 (by decide) rfl fun g9 => ?_
    simp only [go_sem, simprocAttr]
    refine AGood.prune [2, 6, 7, 8, 9, 10, 32, 33, 34] ?_; simp only [go_sem, simprocAttr]
    refine AGood.loopInv (α := Nat × Nat) (fun z => ([(2, .sl true false (kks .u16 more)), (6, .bool false), (7, .bool true), (8, .int .i64 M), (9, .sl true false (nodes x)), (10, .osl 900 z.2 0 (yS z.1).length), (32, .sl true false (nodes x)), (33, .int .i64 x.length), (34, .int .i64 z.1)], [(900, z.2, .row 9 (nodes (yS z.1)))]))
      (fun z => z.1 ≤ x.length) (fun z => x.length - z.1) (0, g9) (Nat.zero_le _) (by simp only [hy0]; rfl) ?_
    rintro ⟨i, g⟩ hi ih
    simp only at hi ih ⊢
    by_cases hle : i < x.length
    · have e4 : (i : Int) < x.length := by omega
      have e5 : (0 : Int) ≤ i := by omega
      have hx1 : x[i]? = some x[i] := List.getElem?_eq_getElem hle
      have hnx := hyn i _ hx1
      have hyli := hyl i hi
      have ho := hok.2 i _ hx1
      have hbi := hby i
      have hbi2 := hbl i
      generalize x[i] = n at hx1 hnx ho
      obtain ⟨o1, o2, o3, o4, o5, o6⟩ := ho
      by_cases hd : i < more.length
      · have d1 : (i : Int) < more.length := by omega
        have hw : more[i]? = some more[i] := List.getElem?_eq_getElem hd
        have hgd : more.getD i 0 = more[i] := by simp [List.getD, hd]
        have hfw := fits_u16 (hmf more[i] (List.getElem_mem hd))
        rw [byOf, if_pos hd, hgd] at hnx hbi hbi2
        generalize more[i] = w at hw hfw hnx hbi hbi2
        obtain ⟨w, rfl⟩ : ∃ k : Nat, w = k := ⟨w.toNat, by omega⟩
        rw [Int.toNat_natCast] at hnx hbi hbi2
        have d2 : (w : Int).tmod 2049 = ((w % 2049 : Nat) : Int) := tmod_nat w 2049
        have d3 : IntKind.i64.wrap ((w % 2049 : Nat) : Int) = ((w % 2049 : Nat) : Int) := wr_i64n (by omega)
        generalize w % 2049 = dd at hnx d2 d3 hbi hbi2
        clear hgd hfw
        by_cases h5 : n.op = 5
        · obtain ⟨kd, hkd⟩ : ∃ kd, n.l = [kd] := List.length_eq_one_iff.1 (o3 h5)
          have hk1 := o2 kd (by simp [hkd])
          obtain ⟨kid, rfl⟩ : ∃ kid : Nat, kd = kid := ⟨kd.toNat, by omega⟩
          have hm : x[kid]? = some (x[kid]'(by omega)) := List.getElem?_eq_getElem (by omega)
          generalize x[kid]'(by omega) = w at hm
          have e6 : (kid : Int) < x.length := by omega
          have e7 : (0 : Int) ≤ kid := by omega
          have hat : nAt x (kid0 n) = w := by simp only [kid0, hkd, List.headD_cons, nAt_get hm]
          rw [raiseN, hat] at hnx
          obtain ⟨xo, ⟨xa, xb, xc, xd⟩, xl, xlo, xhi, xn⟩ := n
          obtain ⟨mo, ⟨ma, mb, mc, md⟩, ml, mlo, mhi, mn⟩ := w
          simp only at h5 hkd hnx o1 o4 o5 o6
          have hx0 : xl[0]? = some (kid : Int) := by rw [hkd]; rfl
          have e0 : (0 : Int) < xl.length := by rw [hkd]; exact Int.one_pos
          clear hkd hat o2 o3
          by_cases c1 : mo = 2
          · by_cases c2 : (M : Int) < xhi
            · rw [if_pos ⟨h5, c1, c2⟩] at hnx
              repeat' (first
  | refine gSq ?_ | refine gSk ?_ | refine gBl ?_ | refine gIb ?_ | refine gEx rfl ?_
  | ((first
  | (refine gRg [77] [0, 1, 2, 6, 7, 8, 9, 10, 11, 12, 13, 14, 15, 16, 17, 18, 19, 20, 30, 32, 33, 34, 35, 42, 68, 108, 110, 111, 112, 130, 135, 144] ?_; intro K hK)
  | (refine gDr 24 [77] 8 [0, 1, 2, 3, 4, 5, 6, 7, 8, 9, 10, 11] [0, 1, 2, 6, 7, 8, 9, 10, 11, 12, 13, 14, 15, 16, 17, 18, 19, 20, 30, 32, 33, 34, 35, 42, 68, 108, 110, 111, 112, 130, 135, 144] rfl ?_; intro K hK)
  | (refine gd_split ?_ ?_ <;> intro hb <;> (try simp only [bls] at hb) <;> (try simp only [hb]))
  | refine gRt [] [.tmp 6] rfl ?_ | refine gDn [] [.tmp 6] rfl ?_) <;> (try simp only [go_sem, simprocAttr, e4, e5, hx1, hx0, hm, e0, e6, e7, eq_true h5, eq_true c1, c2, d1, d2, d3, hw, Option.some.injEq, forall_eq']))
  | (refine hK _ _ ?_; clear hK K; simp only [go_sem, simprocAttr])
  | refine gCd (by simp only [go_sem, simprocAttr]; rfl) rfl ?_
  | refine brT ?_ | refine brF ?_
  | (refine brS ?_ ?_ <;> intro hc <;> (try simp only [bls] at hc) <;> (try simp only [hc, bls]))
  | intro _ | refine And.intro ?_ ?_)
              all_goals first | omega | (unfold bigLen; omega) | exact ⟨_, _, ⟨rfl, rfl⟩, rfl⟩ | exact ⟨_, rfl⟩ | (rename_i hy; simp only [List.mem_singleton] at hy; subst hy; rfl) | with_reducible rfl | skip
              rename_i h'
              refine AGood.filt [900] ?_
              simp only [sf_cons, sf_nil, go_sem, simprocAttr]
              refine AGood.prune [2, 6, 7, 8, 9, 10, 32, 33, 34] ?_; simp only [go_sem, simprocAttr]
              refine AGood.cast (ih (i + 1, h') (by simp only; omega) (by simp only; omega)) ?_ ?_
              · simp only [hnx, List.length_append, List.length_cons, List.length_nil]; rfl
              · simp only [hnx, List.map_append]; rfl
            · rw [if_neg (fun h => c2 h.2.2)] at hnx
              repeat' (first
  | refine gSq ?_ | refine gSk ?_ | refine gBl ?_ | refine gIb ?_ | refine gEx rfl ?_
  | ((first
  | (refine gRg [77] [0, 1, 2, 6, 7, 8, 9, 10, 11, 12, 13, 14, 15, 16, 17, 18, 19, 20, 30, 32, 33, 34, 35, 42, 68, 108, 110, 111, 112, 130, 135, 144] ?_; intro K hK)
  | (refine gDr 24 [77] 8 [0, 1, 2, 3, 4, 5, 6, 7, 8, 9, 10, 11] [0, 1, 2, 6, 7, 8, 9, 10, 11, 12, 13, 14, 15, 16, 17, 18, 19, 20, 30, 32, 33, 34, 35, 42, 68, 108, 110, 111, 112, 130, 135, 144] rfl ?_; intro K hK)
  | (refine gd_split ?_ ?_ <;> intro hb <;> (try simp only [bls] at hb) <;> (try simp only [hb]))
  | refine gRt [] [.tmp 6] rfl ?_ | refine gDn [] [.tmp 6] rfl ?_) <;> (try simp only [go_sem, simprocAttr, e4, e5, hx1, hx0, hm, e0, e6, e7, eq_true h5, eq_true c1, c2, d1, d2, d3, hw, Option.some.injEq, forall_eq']))
  | (refine hK _ _ ?_; clear hK K; simp only [go_sem, simprocAttr])
  | refine gCd (by simp only [go_sem, simprocAttr]; rfl) rfl ?_
  | refine brT ?_ | refine brF ?_
  | (refine brS ?_ ?_ <;> intro hc <;> (try simp only [bls] at hc) <;> (try simp only [hc, bls]))
  | intro _ | refine And.intro ?_ ?_)
              all_goals first | omega | (unfold bigLen; omega) | exact ⟨_, _, ⟨rfl, rfl⟩, rfl⟩ | exact ⟨_, rfl⟩ | (rename_i hy; simp only [List.mem_singleton] at hy; subst hy; rfl) | with_reducible rfl | skip
              rename_i h'
              refine AGood.filt [900] ?_
              simp only [sf_cons, sf_nil, go_sem, simprocAttr]
              refine AGood.prune [2, 6, 7, 8, 9, 10, 32, 33, 34] ?_; simp only [go_sem, simprocAttr]
              refine AGood.cast (ih (i + 1, h') (by simp only; omega) (by simp only; omega)) ?_ ?_
              · simp only [hnx, List.length_append, List.length_cons, List.length_nil]; rfl
              · simp only [hnx, List.map_append]; rfl
          · rw [if_neg (fun h => c1 h.2.1)] at hnx
            repeat' (first
  | refine gSq ?_ | refine gSk ?_ | refine gBl ?_ | refine gIb ?_ | refine gEx rfl ?_
  | ((first
  | (refine gRg [77] [0, 1, 2, 6, 7, 8, 9, 10, 11, 12, 13, 14, 15, 16, 17, 18, 19, 20, 30, 32, 33, 34, 35, 42, 68, 108, 110, 111, 112, 130, 135, 144] ?_; intro K hK)
  | (refine gDr 24 [77] 8 [0, 1, 2, 3, 4, 5, 6, 7, 8, 9, 10, 11] [0, 1, 2, 6, 7, 8, 9, 10, 11, 12, 13, 14, 15, 16, 17, 18, 19, 20, 30, 32, 33, 34, 35, 42, 68, 108, 110, 111, 112, 130, 135, 144] rfl ?_; intro K hK)
  | (refine gd_split ?_ ?_ <;> intro hb <;> (try simp only [bls] at hb) <;> (try simp only [hb]))
  | refine gRt [] [.tmp 6] rfl ?_ | refine gDn [] [.tmp 6] rfl ?_) <;> (try simp only [go_sem, simprocAttr, e4, e5, hx1, hx0, hm, e0, e6, e7, eq_true h5, c1, d1, d2, d3, hw, Option.some.injEq, forall_eq']))
  | (refine hK _ _ ?_; clear hK K; simp only [go_sem, simprocAttr])
  | refine gCd (by simp only [go_sem, simprocAttr]; rfl) rfl ?_
  | refine brT ?_ | refine brF ?_
  | (refine brS ?_ ?_ <;> intro hc <;> (try simp only [bls] at hc) <;> (try simp only [hc, bls]))
  | intro _ | refine And.intro ?_ ?_)
            all_goals first | omega | (unfold bigLen; omega) | exact ⟨_, _, ⟨rfl, rfl⟩, rfl⟩ | exact ⟨_, rfl⟩ | (rename_i hy; simp only [List.mem_singleton] at hy; subst hy; rfl) | with_reducible rfl | skip
            rename_i h'
            refine AGood.filt [900] ?_
            simp only [sf_cons, sf_nil, go_sem, simprocAttr]
            refine AGood.prune [2, 6, 7, 8, 9, 10, 32, 33, 34] ?_; simp only [go_sem, simprocAttr]
            refine AGood.cast (ih (i + 1, h') (by simp only; omega) (by simp only; omega)) ?_ ?_
            · simp only [hnx, List.length_append, List.length_cons, List.length_nil]; rfl
            · simp only [hnx, List.map_append]; rfl
        · rw [raiseN, if_neg (fun h => h5 h.1)] at hnx
          obtain ⟨xo, ⟨xa, xb, xc, xd⟩, xl, xlo, xhi, xn⟩ := n
          simp only at h5 hnx
          repeat' (first
  | refine gSq ?_ | refine gSk ?_ | refine gBl ?_ | refine gIb ?_ | refine gEx rfl ?_
  | ((first
  | (refine gRg [77] [0, 1, 2, 6, 7, 8, 9, 10, 11, 12, 13, 14, 15, 16, 17, 18, 19, 20, 30, 32, 33, 34, 35, 42, 68, 108, 110, 111, 112, 130, 135, 144] ?_; intro K hK)
  | (refine gDr 24 [77] 8 [0, 1, 2, 3, 4, 5, 6, 7, 8, 9, 10, 11] [0, 1, 2, 6, 7, 8, 9, 10, 11, 12, 13, 14, 15, 16, 17, 18, 19, 20, 30, 32, 33, 34, 35, 42, 68, 108, 110, 111, 112, 130, 135, 144] rfl ?_; intro K hK)
  | (refine gd_split ?_ ?_ <;> intro hb <;> (try simp only [bls] at hb) <;> (try simp only [hb]))
  | refine gRt [] [.tmp 6] rfl ?_ | refine gDn [] [.tmp 6] rfl ?_) <;> (try simp only [go_sem, simprocAttr, e4, e5, hx1, h5, d1, d2, d3, hw, Option.some.injEq, forall_eq']))
  | (refine hK _ _ ?_; clear hK K; simp only [go_sem, simprocAttr])
  | refine gCd (by simp only [go_sem, simprocAttr]; rfl) rfl ?_
  | refine brT ?_ | refine brF ?_
  | (refine brS ?_ ?_ <;> intro hc <;> (try simp only [bls] at hc) <;> (try simp only [hc, bls]))
  | intro _ | refine And.intro ?_ ?_)
          all_goals first | omega | (unfold bigLen; omega) | exact ⟨_, _, ⟨rfl, rfl⟩, rfl⟩ | exact ⟨_, rfl⟩ | (rename_i hy; simp only [List.mem_singleton] at hy; subst hy; rfl) | with_reducible rfl | skip
          rename_i h'
          refine AGood.filt [900] ?_
          simp only [sf_cons, sf_nil, go_sem, simprocAttr]
          refine AGood.prune [2, 6, 7, 8, 9, 10, 32, 33, 34] ?_; simp only [go_sem, simprocAttr]
          refine AGood.cast (ih (i + 1, h') (by simp only; omega) (by simp only; omega)) ?_ ?_
          · simp only [hnx, List.length_append, List.length_cons, List.length_nil]; rfl
          · simp only [hnx, List.map_append]; rfl
      · have d1 : ¬ (i : Int) < more.length := by omega
        rw [byOf, if_neg hd] at hnx hbi hbi2
        by_cases h5 : n.op = 5
        · obtain ⟨kd, hkd⟩ : ∃ kd, n.l = [kd] := List.length_eq_one_iff.1 (o3 h5)
          have hk1 := o2 kd (by simp [hkd])
          obtain ⟨kid, rfl⟩ : ∃ kid : Nat, kd = kid := ⟨kd.toNat, by omega⟩
          have hm : x[kid]? = some (x[kid]'(by omega)) := List.getElem?_eq_getElem (by omega)
          generalize x[kid]'(by omega) = w at hm
          have e6 : (kid : Int) < x.length := by omega
          have e7 : (0 : Int) ≤ kid := by omega
          have hat : nAt x (kid0 n) = w := by simp only [kid0, hkd, List.headD_cons, nAt_get hm]
          rw [raiseN, hat] at hnx
          obtain ⟨xo, ⟨xa, xb, xc, xd⟩, xl, xlo, xhi, xn⟩ := n
          obtain ⟨mo, ⟨ma, mb, mc, md⟩, ml, mlo, mhi, mn⟩ := w
          simp only at h5 hkd hnx o1 o4 o5 o6
          have hx0 : xl[0]? = some (kid : Int) := by rw [hkd]; rfl
          have e0 : (0 : Int) < xl.length := by rw [hkd]; exact Int.one_pos
          clear hkd hat o2 o3
          by_cases c1 : mo = 2
          · by_cases c2 : (M : Int) < xhi
            · rw [if_pos ⟨h5, c1, c2⟩] at hnx
              repeat' (first
  | refine gSq ?_ | refine gSk ?_ | refine gBl ?_ | refine gIb ?_ | refine gEx rfl ?_
  | ((first
  | (refine gRg [77] [0, 1, 2, 6, 7, 8, 9, 10, 11, 12, 13, 14, 15, 16, 17, 18, 19, 20, 30, 32, 33, 34, 35, 42, 68, 108, 110, 111, 112, 130, 135, 144] ?_; intro K hK)
  | (refine gDr 24 [77] 8 [0, 1, 2, 3, 4, 5, 6, 7, 8, 9, 10, 11] [0, 1, 2, 6, 7, 8, 9, 10, 11, 12, 13, 14, 15, 16, 17, 18, 19, 20, 30, 32, 33, 34, 35, 42, 68, 108, 110, 111, 112, 130, 135, 144] rfl ?_; intro K hK)
  | (refine gd_split ?_ ?_ <;> intro hb <;> (try simp only [bls] at hb) <;> (try simp only [hb]))
  | refine gRt [] [.tmp 6] rfl ?_ | refine gDn [] [.tmp 6] rfl ?_) <;> (try simp only [go_sem, simprocAttr, e4, e5, hx1, hx0, hm, e0, e6, e7, eq_true h5, eq_true c1, c2, d1, Option.some.injEq, forall_eq']))
  | (refine hK _ _ ?_; clear hK K; simp only [go_sem, simprocAttr])
  | refine gCd (by simp only [go_sem, simprocAttr]; rfl) rfl ?_
  | refine brT ?_ | refine brF ?_
  | (refine brS ?_ ?_ <;> intro hc <;> (try simp only [bls] at hc) <;> (try simp only [hc, bls]))
  | intro _ | refine And.intro ?_ ?_)
              all_goals first | omega | (unfold bigLen; omega) | exact ⟨_, _, ⟨rfl, rfl⟩, rfl⟩ | exact ⟨_, rfl⟩ | (rename_i hy; simp only [List.mem_singleton] at hy; subst hy; rfl) | with_reducible rfl | skip
              rename_i h'
              refine AGood.filt [900] ?_
              simp only [sf_cons, sf_nil, go_sem, simprocAttr]
              refine AGood.prune [2, 6, 7, 8, 9, 10, 32, 33, 34] ?_; simp only [go_sem, simprocAttr]
              refine AGood.cast (ih (i + 1, h') (by simp only; omega) (by simp only; omega)) ?_ ?_
              · simp only [hnx, List.length_append, List.length_cons, List.length_nil]; rfl
              · simp only [hnx, List.map_append]; rfl
            · rw [if_neg (fun h => c2 h.2.2)] at hnx
              repeat' (first
  | refine gSq ?_ | refine gSk ?_ | refine gBl ?_ | refine gIb ?_ | refine gEx rfl ?_
  | ((first
  | (refine gRg [77] [0, 1, 2, 6, 7, 8, 9, 10, 11, 12, 13, 14, 15, 16, 17, 18, 19, 20, 30, 32, 33, 34, 35, 42, 68, 108, 110, 111, 112, 130, 135, 144] ?_; intro K hK)
  | (refine gDr 24 [77] 8 [0, 1, 2, 3, 4, 5, 6, 7, 8, 9, 10, 11] [0, 1, 2, 6, 7, 8, 9, 10, 11, 12, 13, 14, 15, 16, 17, 18, 19, 20, 30, 32, 33, 34, 35, 42, 68, 108, 110, 111, 112, 130, 135, 144] rfl ?_; intro K hK)
  | (refine gd_split ?_ ?_ <;> intro hb <;> (try simp only [bls] at hb) <;> (try simp only [hb]))
  | refine gRt [] [.tmp 6] rfl ?_ | refine gDn [] [.tmp 6] rfl ?_) <;> (try simp only [go_sem, simprocAttr, e4, e5, hx1, hx0, hm, e0, e6, e7, eq_true h5, eq_true c1, c2, d1, Option.some.injEq, forall_eq']))
  | (refine hK _ _ ?_; clear hK K; simp only [go_sem, simprocAttr])
  | refine gCd (by simp only [go_sem, simprocAttr]; rfl) rfl ?_
  | refine brT ?_ | refine brF ?_
  | (refine brS ?_ ?_ <;> intro hc <;> (try simp only [bls] at hc) <;> (try simp only [hc, bls]))
  | intro _ | refine And.intro ?_ ?_)
              all_goals first | omega | (unfold bigLen; omega) | exact ⟨_, _, ⟨rfl, rfl⟩, rfl⟩ | exact ⟨_, rfl⟩ | (rename_i hy; simp only [List.mem_singleton] at hy; subst hy; rfl) | with_reducible rfl | skip
              rename_i h'
              refine AGood.filt [900] ?_
              simp only [sf_cons, sf_nil, go_sem, simprocAttr]
              refine AGood.prune [2, 6, 7, 8, 9, 10, 32, 33, 34] ?_; simp only [go_sem, simprocAttr]
              refine AGood.cast (ih (i + 1, h') (by simp only; omega) (by simp only; omega)) ?_ ?_
              · simp only [hnx, List.length_append, List.length_cons, List.length_nil]; rfl
              · simp only [hnx, List.map_append]; rfl
          · rw [if_neg (fun h => c1 h.2.1)] at hnx
            repeat' (first
  | refine gSq ?_ | refine gSk ?_ | refine gBl ?_ | refine gIb ?_ | refine gEx rfl ?_
  | ((first
  | (refine gRg [77] [0, 1, 2, 6, 7, 8, 9, 10, 11, 12, 13, 14, 15, 16, 17, 18, 19, 20, 30, 32, 33, 34, 35, 42, 68, 108, 110, 111, 112, 130, 135, 144] ?_; intro K hK)
  | (refine gDr 24 [77] 8 [0, 1, 2, 3, 4, 5, 6, 7, 8, 9, 10, 11] [0, 1, 2, 6, 7, 8, 9, 10, 11, 12, 13, 14, 15, 16, 17, 18, 19, 20, 30, 32, 33, 34, 35, 42, 68, 108, 110, 111, 112, 130, 135, 144] rfl ?_; intro K hK)
  | (refine gd_split ?_ ?_ <;> intro hb <;> (try simp only [bls] at hb) <;> (try simp only [hb]))
  | refine gRt [] [.tmp 6] rfl ?_ | refine gDn [] [.tmp 6] rfl ?_) <;> (try simp only [go_sem, simprocAttr, e4, e5, hx1, hx0, hm, e0, e6, e7, eq_true h5, c1, d1, Option.some.injEq, forall_eq']))
  | (refine hK _ _ ?_; clear hK K; simp only [go_sem, simprocAttr])
  | refine gCd (by simp only [go_sem, simprocAttr]; rfl) rfl ?_
  | refine brT ?_ | refine brF ?_
  | (refine brS ?_ ?_ <;> intro hc <;> (try simp only [bls] at hc) <;> (try simp only [hc, bls]))
  | intro _ | refine And.intro ?_ ?_)
            all_goals first | omega | (unfold bigLen; omega) | exact ⟨_, _, ⟨rfl, rfl⟩, rfl⟩ | exact ⟨_, rfl⟩ | (rename_i hy; simp only [List.mem_singleton] at hy; subst hy; rfl) | with_reducible rfl | skip
            rename_i h'
            refine AGood.filt [900] ?_
            simp only [sf_cons, sf_nil, go_sem, simprocAttr]
            refine AGood.prune [2, 6, 7, 8, 9, 10, 32, 33, 34] ?_; simp only [go_sem, simprocAttr]
            refine AGood.cast (ih (i + 1, h') (by simp only; omega) (by simp only; omega)) ?_ ?_
            · simp only [hnx, List.length_append, List.length_cons, List.length_nil]; rfl
            · simp only [hnx, List.map_append]; rfl
        · rw [raiseN, if_neg (fun h => h5 h.1)] at hnx
          obtain ⟨xo, ⟨xa, xb, xc, xd⟩, xl, xlo, xhi, xn⟩ := n
          simp only at h5 hnx
          repeat' (first
  | refine gSq ?_ | refine gSk ?_ | refine gBl ?_ | refine gIb ?_ | refine gEx rfl ?_
  | ((first
  | (refine gRg [77] [0, 1, 2, 6, 7, 8, 9, 10, 11, 12, 13, 14, 15, 16, 17, 18, 19, 20, 30, 32, 33, 34, 35, 42, 68, 108, 110, 111, 112, 130, 135, 144] ?_; intro K hK)
  | (refine gDr 24 [77] 8 [0, 1, 2, 3, 4, 5, 6, 7, 8, 9, 10, 11] [0, 1, 2, 6, 7, 8, 9, 10, 11, 12, 13, 14, 15, 16, 17, 18, 19, 20, 30, 32, 33, 34, 35, 42, 68, 108, 110, 111, 112, 130, 135, 144] rfl ?_; intro K hK)
  | (refine gd_split ?_ ?_ <;> intro hb <;> (try simp only [bls] at hb) <;> (try simp only [hb]))
  | refine gRt [] [.tmp 6] rfl ?_ | refine gDn [] [.tmp 6] rfl ?_) <;> (try simp only [go_sem, simprocAttr, e4, e5, hx1, h5, d1, Option.some.injEq, forall_eq']))
  | (refine hK _ _ ?_; clear hK K; simp only [go_sem, simprocAttr])
  | refine gCd (by simp only [go_sem, simprocAttr]; rfl) rfl ?_
  | refine brT ?_ | refine brF ?_
  | (refine brS ?_ ?_ <;> intro hc <;> (try simp only [bls] at hc) <;> (try simp only [hc, bls]))
  | intro _ | refine And.intro ?_ ?_)
          all_goals first | omega | (unfold bigLen; omega) | exact ⟨_, _, ⟨rfl, rfl⟩, rfl⟩ | exact ⟨_, rfl⟩ | (rename_i hy; simp only [List.mem_singleton] at hy; subst hy; rfl) | with_reducible rfl | skip
          rename_i h'
          refine AGood.filt [900] ?_
          simp only [sf_cons, sf_nil, go_sem, simprocAttr]
          refine AGood.prune [2, 6, 7, 8, 9, 10, 32, 33, 34] ?_; simp only [go_sem, simprocAttr]
          refine AGood.cast (ih (i + 1, h') (by simp only; omega) (by simp only; omega)) ?_ ?_
          · simp only [hnx, List.length_append, List.length_cons, List.length_nil]; rfl
          · simp only [hnx, List.map_append]; rfl
    · have e4 : ¬ (i : Int) < x.length := by omega
      have hin : i = x.length := by omega
      subst hin
      clear ih hyn hok hby hbl
      have e15 : (nodes (yS x.length)).take (yS x.length).length = nodes (yS x.length) := List.take_of_length_le (by simp)
      have e16 : (yS x.length).length = x.length := hyl _ (Nat.le_refl _)
      generalize yS x.length = y at hlaw hynd hb n3 n4 e15 e16
      have hc1 := pcount_c true (flS (planS x (M : Int)).2) (planS x (M : Int)).1 n1
      have hc2 := pcount_c true (flS (planS y (M : Int)).2) (planS y (M : Int)).1 n3
      generalize planS x (M : Int) = a at ha n1 n2 hlaw hc1
      generalize planS y (M : Int) = b at hb n3 n4 hlaw hc2
      obtain ⟨a, ae⟩ := a
      obtain ⟨b, be⟩ := b
      obtain ⟨q1, q2, q3, q4⟩ := hlaw
      simp only at q1 q2 q3 q4 n1 n2 n3 n4 ha hb hc1 hc2
      subst q1
      rw [← q3] at hc2
      have q2' : (b.length : Int) = a.length := by omega
      clear q3
      generalize flS ae = fl at ha hb hc1 hc2
      repeat' (first
  | refine gSq ?_ | refine gSk ?_ | refine gBl ?_ | refine gIb ?_ | refine gEx rfl ?_
  | ((first
  | (refine AGood.at 17 ?_; (refine AGood.freeze 900 rfl ?_; simp only [rfT, rfS, rfO, rf, rf1, e15, true_and, go_sem, simprocAttr]); (refine gRg [] [0, 1, 2, 6, 7, 8, 9, 10, 11, 12, 13, 14, 15, 16, 17, 18, 19, 20, 30, 32, 33, 34, 35, 42, 68, 108, 110, 111, 112, 130, 135, 144] ?_; intro K hK))
  | (refine gRg [] [0, 1, 2, 6, 7, 8, 9, 10, 11, 12, 13, 14, 15, 16, 17, 18, 19, 20, 30, 32, 33, 34, 35, 42, 68, 108, 110, 111, 112, 130, 135, 144] ?_; intro K hK)
  | (refine gDr 24 [] 8 [0, 1, 2, 3, 4, 5, 6, 7, 8, 9, 10, 11] [0, 1, 2, 6, 7, 8, 9, 10, 11, 12, 13, 14, 15, 16, 17, 18, 19, 20, 30, 32, 33, 34, 35, 42, 68, 108, 110, 111, 112, 130, 135, 144] rfl ?_; intro K hK)
  | refine cAl (ha) rfl rfl rfl ?_
  | refine cAl (hb) rfl rfl rfl ?_
  | refine cAl (hc1) rfl rfl rfl ?_
  | refine cAl (hc2) rfl rfl rfl ?_
  | (refine gd_split ?_ ?_ <;> intro hb <;> (try simp only [bls] at hb) <;> (try simp only [hb]))
  | refine gRt [] [.tmp 6] rfl ?_ | refine gDn [] [.tmp 6] rfl ?_) <;> (try simp only [go_sem, simprocAttr, e4, q2', eq_self]))
  | (refine hK _ _ ?_; clear hK K; simp only [go_sem, simprocAttr])
  | refine gCd (by simp only [go_sem, simprocAttr]; rfl) rfl ?_
  | refine brT ?_ | refine brF ?_
  | (refine brS ?_ ?_ <;> intro hc <;> (try simp only [bls] at hc) <;> (try simp only [hc, bls]))
  | intro _ | refine And.intro ?_ ?_)
      all_goals first | omega | (unfold bigLen; omega) | exact ⟨_, _, ⟨rfl, rfl⟩, rfl⟩ | exact ⟨_, rfl⟩ | (rename_i hy; simp only [List.mem_singleton] at hy; subst hy; rfl) | with_reducible rfl | skip
      refine AGood.prune [6, 7, 8, 14, 16, 110, 111] ?_; simp only [go_sem, simprocAttr]
      refine AGood.loopInv (α := Nat) (fun j => ([(6, .bool false), (7, .bool true), (8, .int .i64 M), (14, .sl true fl (nodes a)), (16, .sl true fl (nodes b)), (110, .int .i64 a.length), (111, .int .i64 j)], []))
        (fun j => j ≤ a.length) (fun j => a.length - j) 0 (Nat.zero_le _) rfl ?_
      rintro j hj ih
      simp only at hj ih ⊢
      by_cases hlj : j < a.length
      · have f4 : (j : Int) < a.length := by omega
        have f5 : (0 : Int) ≤ j := by omega
        have f6 : (j : Int) < b.length := by omega
        have hp1 : a[j]? = some a[j] := List.getElem?_eq_getElem hlj
        obtain ⟨q, hq1, hup⟩ := q4 j _ hp1
        have hnd := n1 a[j] (List.getElem_mem hlj)
        generalize a[j] = p at hp1 hup hnd
        have hs := same4uc true false true false [p] [p] (by simp) (fun n hn => by simp only [List.mem_singleton] at hn; subst hn; exact hnd.2)
        rw [decide_eq_true rfl] at hs
        rcases hup with rfl | ⟨u1, u2, u3, u4⟩
        · obtain ⟨xo, ⟨xa, xb, xc, xd⟩, xl, xlo, xhi, xn⟩ := q
          simp only [List.map_cons, List.map_nil, Node.cells, Node.cellsF] at hs
          have v3 : ¬ xhi < xhi := by omega
          by_cases v1 : xo = 5
          · by_cases v2 : (M : Int) < xhi
            · repeat' (first
  | refine gSq ?_ | refine gSk ?_ | refine gBl ?_ | refine gIb ?_ | refine gEx rfl ?_
  | ((first
  | (refine gRg [140, 142] [0, 1, 2, 6, 7, 8, 9, 10, 11, 12, 13, 14, 15, 16, 17, 18, 19, 20, 30, 32, 33, 34, 35, 42, 68, 108, 110, 111, 112, 130, 135, 144] ?_; intro K hK)
  | (refine gD2 24 [140, 142] 8 [0, 1, 2, 3, 4, 5, 6, 7, 8, 9, 10, 11] [0, 1, 2, 3, 4, 5, 6, 7, 9, 8, 10, 11] [] [114, 116, 118, 120] [0, 1, 2, 6, 7, 8, 9, 10, 11, 12, 13, 14, 15, 16, 17, 18, 19, 20, 30, 32, 33, 34, 35, 42, 68, 108, 110, 111, 112, 130, 135, 144] rfl ?_; intro K hK)
  | refine cAl (hs) rfl rfl rfl ?_
  | (refine gd_split ?_ ?_ <;> intro hb <;> (try simp only [bls] at hb) <;> (try simp only [hb]))
  | refine gRt [] [.tmp 6] rfl ?_ | refine gDn [] [.tmp 6] rfl ?_) <;> (try simp only [go_sem, simprocAttr, f4, f5, f6, hp1, hq1, eq_true v1, v2, v3, Option.some.injEq, forall_eq']))
  | (refine hK _ _ ?_; clear hK K; simp only [go_sem, simprocAttr])
  | refine gCd (by simp only [go_sem, simprocAttr]; rfl) rfl ?_
  | refine brT ?_ | refine brF ?_
  | (refine brS ?_ ?_ <;> intro hc <;> (try simp only [bls] at hc) <;> (try simp only [hc, bls]))
  | intro _ | refine And.intro ?_ ?_)
              all_goals first | omega | (unfold bigLen; omega) | exact ⟨_, _, ⟨rfl, rfl⟩, rfl⟩ | exact ⟨_, rfl⟩ | (rename_i hy; simp only [List.mem_singleton] at hy; subst hy; rfl) | with_reducible rfl | skip
              all_goals (refine AGood.filt [] ?_; simp only [sf_cons, sf_nil, go_sem, simprocAttr]; refine AGood.prune [6, 7, 8, 14, 16, 110, 111] ?_; simp only [go_sem, simprocAttr]; exact (ih (j + 1) (by omega) (by omega)).cast rfl rfl)
            · repeat' (first
  | refine gSq ?_ | refine gSk ?_ | refine gBl ?_ | refine gIb ?_ | refine gEx rfl ?_
  | ((first
  | (refine gRg [140, 142] [0, 1, 2, 6, 7, 8, 9, 10, 11, 12, 13, 14, 15, 16, 17, 18, 19, 20, 30, 32, 33, 34, 35, 42, 68, 108, 110, 111, 112, 130, 135, 144] ?_; intro K hK)
  | (refine gD2 24 [140, 142] 8 [0, 1, 2, 3, 4, 5, 6, 7, 8, 9, 10, 11] [0, 1, 2, 3, 4, 5, 6, 7, 9, 8, 10, 11] [] [114, 116, 118, 120] [0, 1, 2, 6, 7, 8, 9, 10, 11, 12, 13, 14, 15, 16, 17, 18, 19, 20, 30, 32, 33, 34, 35, 42, 68, 108, 110, 111, 112, 130, 135, 144] rfl ?_; intro K hK)
  | refine cAl (hs) rfl rfl rfl ?_
  | (refine gd_split ?_ ?_ <;> intro hb <;> (try simp only [bls] at hb) <;> (try simp only [hb]))
  | refine gRt [] [.tmp 6] rfl ?_ | refine gDn [] [.tmp 6] rfl ?_) <;> (try simp only [go_sem, simprocAttr, f4, f5, f6, hp1, hq1, eq_true v1, v2, v3, Option.some.injEq, forall_eq']))
  | (refine hK _ _ ?_; clear hK K; simp only [go_sem, simprocAttr])
  | refine gCd (by simp only [go_sem, simprocAttr]; rfl) rfl ?_
  | refine brT ?_ | refine brF ?_
  | (refine brS ?_ ?_ <;> intro hc <;> (try simp only [bls] at hc) <;> (try simp only [hc, bls]))
  | intro _ | refine And.intro ?_ ?_)
              all_goals first | omega | (unfold bigLen; omega) | exact ⟨_, _, ⟨rfl, rfl⟩, rfl⟩ | exact ⟨_, rfl⟩ | (rename_i hy; simp only [List.mem_singleton] at hy; subst hy; rfl) | with_reducible rfl | skip
              all_goals (refine AGood.filt [] ?_; simp only [sf_cons, sf_nil, go_sem, simprocAttr]; refine AGood.prune [6, 7, 8, 14, 16, 110, 111] ?_; simp only [go_sem, simprocAttr]; exact (ih (j + 1) (by omega) (by omega)).cast rfl rfl)
          · repeat' (first
  | refine gSq ?_ | refine gSk ?_ | refine gBl ?_ | refine gIb ?_ | refine gEx rfl ?_
  | ((first
  | (refine gRg [140, 142] [0, 1, 2, 6, 7, 8, 9, 10, 11, 12, 13, 14, 15, 16, 17, 18, 19, 20, 30, 32, 33, 34, 35, 42, 68, 108, 110, 111, 112, 130, 135, 144] ?_; intro K hK)
  | (refine gD2 24 [140, 142] 8 [0, 1, 2, 3, 4, 5, 6, 7, 8, 9, 10, 11] [0, 1, 2, 3, 4, 5, 6, 7, 9, 8, 10, 11] [] [114, 116, 118, 120] [0, 1, 2, 6, 7, 8, 9, 10, 11, 12, 13, 14, 15, 16, 17, 18, 19, 20, 30, 32, 33, 34, 35, 42, 68, 108, 110, 111, 112, 130, 135, 144] rfl ?_; intro K hK)
  | refine cAl (hs) rfl rfl rfl ?_
  | (refine gd_split ?_ ?_ <;> intro hb <;> (try simp only [bls] at hb) <;> (try simp only [hb]))
  | refine gRt [] [.tmp 6] rfl ?_ | refine gDn [] [.tmp 6] rfl ?_) <;> (try simp only [go_sem, simprocAttr, f4, f5, f6, hp1, hq1, v1, Option.some.injEq, forall_eq']))
  | (refine hK _ _ ?_; clear hK K; simp only [go_sem, simprocAttr])
  | refine gCd (by simp only [go_sem, simprocAttr]; rfl) rfl ?_
  | refine brT ?_ | refine brF ?_
  | (refine brS ?_ ?_ <;> intro hc <;> (try simp only [bls] at hc) <;> (try simp only [hc, bls]))
  | intro _ | refine And.intro ?_ ?_)
            all_goals first | omega | (unfold bigLen; omega) | exact ⟨_, _, ⟨rfl, rfl⟩, rfl⟩ | exact ⟨_, rfl⟩ | (rename_i hy; simp only [List.mem_singleton] at hy; subst hy; rfl) | with_reducible rfl | skip
            all_goals (refine AGood.filt [] ?_; simp only [sf_cons, sf_nil, go_sem, simprocAttr]; refine AGood.prune [6, 7, 8, 14, 16, 110, 111] ?_; simp only [go_sem, simprocAttr]; exact (ih (j + 1) (by omega) (by omega)).cast rfl rfl)
        · obtain ⟨xo, ⟨xa, xb, xc, xd⟩, xl, xlo, xhi, xn⟩ := p
          obtain ⟨yo, ⟨ya, yb, yc, yd⟩, yl, ylo, yhi, yn⟩ := q
          simp only [Node.mk.injEq, ISet.mk.injEq, and_true, true_and] at u1 u2 u3 u4
          obtain ⟨rfl, ⟨rfl, rfl, rfl, rfl⟩, rfl, rfl, rfl⟩ := u4
          simp only [List.map_cons, List.map_nil, Node.cells, Node.cellsF] at hs
          have v3 : ¬ yhi < xhi := by omega
          repeat' (first
  | refine gSq ?_ | refine gSk ?_ | refine gBl ?_ | refine gIb ?_ | refine gEx rfl ?_
  | ((first
  | (refine gRg [140, 142] [0, 1, 2, 6, 7, 8, 9, 10, 11, 12, 13, 14, 15, 16, 17, 18, 19, 20, 30, 32, 33, 34, 35, 42, 68, 108, 110, 111, 112, 130, 135, 144] ?_; intro K hK)
  | (refine gD2 24 [140, 142] 8 [0, 1, 2, 3, 4, 5, 6, 7, 8, 9, 10, 11] [0, 1, 2, 3, 4, 5, 6, 7, 9, 8, 10, 11] [] [114, 116, 118, 120] [0, 1, 2, 6, 7, 8, 9, 10, 11, 12, 13, 14, 15, 16, 17, 18, 19, 20, 30, 32, 33, 34, 35, 42, 68, 108, 110, 111, 112, 130, 135, 144] rfl ?_; intro K hK)
  | refine cAl (hs) rfl rfl rfl ?_
  | (refine gd_split ?_ ?_ <;> intro hb <;> (try simp only [bls] at hb) <;> (try simp only [hb]))
  | refine gRt [] [.tmp 6] rfl ?_ | refine gDn [] [.tmp 6] rfl ?_) <;> (try simp only [go_sem, simprocAttr, f4, f5, f6, hp1, hq1, eq_true u1, u2, v3, Option.some.injEq, forall_eq']))
  | (refine hK _ _ ?_; clear hK K; simp only [go_sem, simprocAttr])
  | refine gCd (by simp only [go_sem, simprocAttr]; rfl) rfl ?_
  | refine brT ?_ | refine brF ?_
  | (refine brS ?_ ?_ <;> intro hc <;> (try simp only [bls] at hc) <;> (try simp only [hc, bls]))
  | intro _ | refine And.intro ?_ ?_)
          all_goals first | omega | (unfold bigLen; omega) | exact ⟨_, _, ⟨rfl, rfl⟩, rfl⟩ | exact ⟨_, rfl⟩ | (rename_i hy; simp only [List.mem_singleton] at hy; subst hy; rfl) | with_reducible rfl | skip
          all_goals (refine AGood.filt [] ?_; simp only [sf_cons, sf_nil, go_sem, simprocAttr]; refine AGood.prune [6, 7, 8, 14, 16, 110, 111] ?_; simp only [go_sem, simprocAttr]; exact (ih (j + 1) (by omega) (by omega)).cast rfl rfl)
      · have f4 : ¬ (j : Int) < a.length := by omega
        clear ih
        repeat' (first
  | refine gSq ?_ | refine gSk ?_ | refine gBl ?_ | refine gIb ?_ | refine gEx rfl ?_
  | ((first
  | (refine gRg [] [0, 1, 2, 6, 7, 8, 9, 10, 11, 12, 13, 14, 15, 16, 17, 18, 19, 20, 30, 32, 33, 34, 35, 42, 68, 108, 110, 111, 112, 130, 135, 144] ?_; intro K hK)
  | (refine gDr 24 [] 8 [0, 1, 2, 3, 4, 5, 6, 7, 8, 9, 10, 11] [0, 1, 2, 6, 7, 8, 9, 10, 11, 12, 13, 14, 15, 16, 17, 18, 19, 20, 30, 32, 33, 34, 35, 42, 68, 108, 110, 111, 112, 130, 135, 144] rfl ?_; intro K hK)
  | (refine gd_split ?_ ?_ <;> intro hb <;> (try simp only [bls] at hb) <;> (try simp only [hb]))
  | refine gRt [] [.tmp 6] rfl ?_ | refine gDn [] [.tmp 6] rfl ?_) <;> (try simp only [go_sem, simprocAttr, f4]))
  | (refine hK _ _ ?_; clear hK K; simp only [go_sem, simprocAttr])
  | refine gCd (by simp only [go_sem, simprocAttr]; rfl) rfl ?_
  | refine brT ?_ | refine brF ?_
  | (refine brS ?_ ?_ <;> intro hc <;> (try simp only [bls] at hc) <;> (try simp only [hc, bls]))
  | intro _ | refine And.intro ?_ ?_)
        all_goals first | omega | (unfold bigLen; omega) | exact ⟨_, _, ⟨rfl, rfl⟩, rfl⟩ | exact ⟨_, rfl⟩ | (rename_i hy; simp only [List.mem_singleton] at hy; subst hy; rfl) | with_reducible rfl | skip
end Go.Rad
