/- Contracts: glush: Of. -/
import Derived.Test.YtjhcamnmfjkidaaGreatKP09c
import Derived.Test.YtjhcamnmfjkidaaGreatKC06a
import Derived.Test.YtjhcamnmfjkidaaGreatKP09b
import Derived.Test.YtjhcamnmfjkidaaGreatKRNode
import Derived.Test.YtjhcamnmfjkidaaGreatKP09a
import Derived.Test.YtjhcamnmfjkidaaGreatKRNorm
set_option linter.all false
namespace Go.Rad
open Go Go.Proofs
set_option linter.all false
set_option maxRecDepth 20000
set_option maxHeartbeats 4000000

abbrev trees (ls : List (List Node)) : List (List AVal) := ls.map fun x => [.sl true false (nodes x)]
/-- Which list is the first that is so. -/
def idxL (p : List Node → Bool) : List (List Node) → Nat → Int
  | [], _ => -1
  | x :: l, i => if p x = true then (i : Int) else idxL p l (i + 1)
theorem idxL_any (p : List Node → Bool) : ∀ (l : List (List Node)) (i : Nat), decide (0 ≤ idxL p l i) = l.any p
  | [], _ => rfl
  | x :: l, i => by
    rw [idxL, List.any_cons]
    cases h : p x
    · simp only [Bool.false_eq_true, if_false, Bool.false_or]; exact idxL_any p l (i + 1)
    · simp only [if_true, Bool.true_or]; exact decide_eq_true (by omega)
theorem index9uc (F : Nat) (p : List Node → Bool) (q f : Bool) (l : List (List Node)) (hl : l.length ≤ 1000000)
    (hF : ∀ x ∈ l, ACall Tryz.prog F [.sl true false (nodes x)] [] fun r s => r = .bool (p x) ∧ s = []) :
    ACall Tryz.prog 29 [.sl q f (trees l), .fn F []] [] fun r s => r = .int .i64 (idxL p l 0) ∧ s = [] := by
  obtain ⟨S, hS⟩ : ∃ S, S = idxL p l 0 := ⟨_, rfl⟩
  rw [← hS]
  refine ACall.enter Tryz.func29 rfl (by kernel_rfl) (Nat.le_of_ble_eq_true rfl) ?_; simp only [initTm, Nat.reduceAdd]
  repeat' (first
  | refine gSq ?_ | refine gSk ?_ | refine gBl ?_ | refine gIb ?_ | refine gEx rfl ?_
  | ((first
  | (refine gRg [] [0, 1, 4, 5, 7, 8, 9, 16] ?_; intro K hK)
  | (refine gd_split ?_ ?_ <;> intro hb <;> (try simp only [bls] at hb) <;> (try simp only [hb]))
  | refine gRt [] [.tmp 4] rfl ?_ | refine gDn [] [.tmp 4] rfl ?_) <;> (try simp only [go_sem, simprocAttr]))
  | (refine hK _ _ ?_; clear hK K; simp only [go_sem, simprocAttr])
  | refine gCd (by simp only [go_sem, simprocAttr]; rfl) rfl ?_
  | refine brT ?_ | refine brF ?_
  | (refine brS ?_ ?_ <;> intro hc <;> (try simp only [bls] at hc) <;> (try simp only [hc, bls]))
  | intro _ | refine And.intro ?_ ?_)
  refine AGood.prune [0, 1, 4, 7, 8] ?_; simp only [go_sem, simprocAttr]
  refine AGood.loopInv (α := Nat) (fun i => ([(0, .sl q f (trees l)), (1, .fn F []), (4, .int .i64 0), (7, .int .i64 l.length), (8, .int .i64 i)], [])) (fun i => i ≤ l.length ∧ S = idxL p (l.drop i) i) (fun i => l.length - i) 0 ⟨Nat.zero_le _, hS⟩ rfl ?_
  rintro i ⟨hi, hrun⟩ ih
  simp only
  by_cases hle : i < l.length
  · have e4 : (i : Int) < l.length := by omega
    have e5 : (0 : Int) ≤ i := by omega
    have e6 : (i : Int) + 1 = ((i + 1 : Nat) : Int) := by omega
    have hx : l[i]? = some l[i] := List.getElem?_eq_getElem hle
    have hc := hF l[i] (List.getElem_mem hle)
    have hdr : l.drop i = l[i] :: l.drop (i + 1) := List.drop_eq_getElem_cons hle
    rw [hdr, idxL] at hrun
    generalize l[i] = k at hx hc hrun
    cases hp : p k <;> rw [hp] at hrun hc <;> simp only [if_true, Bool.false_eq_true, if_false] at hrun
    · repeat' (first
  | refine gSq ?_ | refine gSk ?_ | refine gBl ?_ | refine gIb ?_ | refine gEx rfl ?_
  | ((first
  | (refine gRg [] [0, 1, 4, 5, 7, 8, 9, 16] ?_; intro K hK)
  | (refine ACall.mono hc ?_; rintro _ _ ⟨rfl, rfl⟩)
  | (refine gd_split ?_ ?_ <;> intro hb <;> (try simp only [bls] at hb) <;> (try simp only [hb]))
  | refine gRt [] [.tmp 4] rfl ?_ | refine gDn [] [.tmp 4] rfl ?_) <;> (try simp only [go_sem, simprocAttr, e4, e5, e6, hx, Option.some.injEq, forall_eq']))
  | (refine hK _ _ ?_; clear hK K; simp only [go_sem, simprocAttr])
  | refine gCd (by simp only [go_sem, simprocAttr]; rfl) rfl ?_
  | refine brT ?_ | refine brF ?_
  | (refine brS ?_ ?_ <;> intro hc <;> (try simp only [bls] at hc) <;> (try simp only [hc, bls]))
  | intro _ | refine And.intro ?_ ?_)
      all_goals first | omega | (unfold bigLen; omega) | exact ⟨_, _, ⟨rfl, rfl⟩, rfl⟩ | exact ⟨_, rfl⟩ | (rename_i hy; simp only [List.mem_singleton] at hy; subst hy; rfl) | with_reducible rfl | skip
      refine AGood.prune [0, 1, 4, 7, 8] ?_; simp only [go_sem, simprocAttr]
      exact (ih (i + 1) ⟨by omega, hrun⟩ (by omega)).cast rfl rfl
    · repeat' (first
  | refine gSq ?_ | refine gSk ?_ | refine gBl ?_ | refine gIb ?_ | refine gEx rfl ?_
  | ((first
  | (refine gRg [] [0, 1, 4, 5, 7, 8, 9, 16] ?_; intro K hK)
  | (refine ACall.mono hc ?_; rintro _ _ ⟨rfl, rfl⟩)
  | (refine gd_split ?_ ?_ <;> intro hb <;> (try simp only [bls] at hb) <;> (try simp only [hb]))
  | refine gRt [] [.tmp 4] rfl ?_ | refine gDn [] [.tmp 4] rfl ?_) <;> (try simp only [go_sem, simprocAttr, e4, e5, e6, hx, Option.some.injEq, forall_eq']))
  | (refine hK _ _ ?_; clear hK K; simp only [go_sem, simprocAttr])
  | refine gCd (by simp only [go_sem, simprocAttr]; rfl) rfl ?_
  | refine brT ?_ | refine brF ?_
  | (refine brS ?_ ?_ <;> intro hc <;> (try simp only [bls] at hc) <;> (try simp only [hc, bls]))
  | intro _ | refine And.intro ?_ ?_)
      all_goals first | omega | (unfold bigLen; omega) | exact ⟨_, _, ⟨rfl, rfl⟩, rfl⟩ | exact ⟨_, rfl⟩ | (rename_i hy; simp only [List.mem_singleton] at hy; subst hy; rfl) | with_reducible rfl | skip
      rw [hrun]
  · have e4 : ¬ (i : Int) < l.length := by omega
    rw [List.drop_of_length_le (by omega), idxL] at hrun
    subst hrun
    repeat' (first
  | refine gSq ?_ | refine gSk ?_ | refine gBl ?_ | refine gIb ?_ | refine gEx rfl ?_
  | ((first
  | (refine gRg [] [0, 1, 4, 5, 7, 8, 9, 16] ?_; intro K hK)
  | (refine gd_split ?_ ?_ <;> intro hb <;> (try simp only [bls] at hb) <;> (try simp only [hb]))
  | refine gRt [] [.tmp 4] rfl ?_ | refine gDn [] [.tmp 4] rfl ?_) <;> (try simp only [go_sem, simprocAttr, e4]))
  | (refine hK _ _ ?_; clear hK K; simp only [go_sem, simprocAttr])
  | refine gCd (by simp only [go_sem, simprocAttr]; rfl) rfl ?_
  | refine brT ?_ | refine brF ?_
  | (refine brS ?_ ?_ <;> intro hc <;> (try simp only [bls] at hc) <;> (try simp only [hc, bls]))
  | intro _ | refine And.intro ?_ ?_)
theorem contains9uc (F : Nat) (p : List Node → Bool) (q f : Bool) (l : List (List Node)) (hl : l.length ≤ 1000000)
    (hF : ∀ x ∈ l, ACall Tryz.prog F [.sl true false (nodes x)] [] fun r s => r = .bool (p x) ∧ s = []) :
    ACall Tryz.prog 12 [.sl q f (trees l), .fn F []] [] fun r s => r = .bool (l.any p) ∧ s = [] := by
  have hc := index9uc F p q f l hl hF
  rw [← idxL_any p l 0]
  generalize idxL p l 0 = S at hc
  refine ACall.enter Tryz.func12 rfl (by kernel_rfl) (Nat.le_of_ble_eq_true rfl) ?_; simp only [initTm, Nat.reduceAdd]
  repeat' (first
  | refine gSq ?_ | refine gSk ?_ | refine gBl ?_ | refine gIb ?_ | refine gEx rfl ?_
  | ((first
  | (refine gRg [] [0, 1, 4] ?_; intro K hK)
  | refine cAl (hc) rfl rfl rfl ?_
  | (refine gd_split ?_ ?_ <;> intro hb <;> (try simp only [bls] at hb) <;> (try simp only [hb]))
  | refine gRt [] [.tmp 4] rfl ?_ | refine gDn [] [.tmp 4] rfl ?_) <;> (try simp only [go_sem, simprocAttr]))
  | (refine hK _ _ ?_; clear hK K; simp only [go_sem, simprocAttr])
  | refine gCd (by simp only [go_sem, simprocAttr]; rfl) rfl ?_
  | refine brT ?_ | refine brF ?_
  | (refine brS ?_ ?_ <;> intro hc <;> (try simp only [bls] at hc) <;> (try simp only [hc, bls]))
  | intro _ | refine And.intro ?_ ?_)
  all_goals first | omega | (unfold bigLen; omega) | exact ⟨_, _, ⟨rfl, rfl⟩, rfl⟩ | exact ⟨_, rfl⟩ | (rename_i hy; simp only [List.mem_singleton] at hy; subst hy; rfl) | with_reducible rfl | skip
theorem ofx_c (x : List Node) (hx : ndOk x) : ACall Tryz.prog 13 [.sl true false (nodes x)] [] fun r s => r = .bool (!rightP x) ∧ s = [] := by
  have h := pright_c true false x hx
  refine ACall.enter Tryz.func13 rfl (by kernel_rfl) (Nat.le_of_ble_eq_true rfl) ?_; simp only [initTm, Nat.reduceAdd]
  repeat' (first
  | refine gSq ?_ | refine gSk ?_ | refine gBl ?_ | refine gIb ?_ | refine gEx rfl ?_
  | ((first
  | (refine gRg [] [0, 2] ?_; intro K hK)
  | refine cAl (h) rfl rfl rfl ?_
  | (refine gd_split ?_ ?_ <;> intro hb <;> (try simp only [bls] at hb) <;> (try simp only [hb]))
  | refine gRt [] [.tmp 2] rfl ?_ | refine gDn [] [.tmp 2] rfl ?_) <;> (try simp only [go_sem, simprocAttr]))
  | (refine hK _ _ ?_; clear hK K; simp only [go_sem, simprocAttr])
  | refine gCd (by simp only [go_sem, simprocAttr]; rfl) rfl ?_
  | refine brT ?_ | refine brF ?_
  | (refine brS ?_ ?_ <;> intro hc <;> (try simp only [bls] at hc) <;> (try simp only [hc, bls]))
  | intro _ | refine And.intro ?_ ?_)
  all_goals first | omega | (unfold bigLen; omega) | exact ⟨_, _, ⟨rfl, rfl⟩, rfl⟩ | exact ⟨_, rfl⟩ | (rename_i hy; simp only [List.mem_singleton] at hy; subst hy; rfl) | with_reducible rfl | skip
theorem right_kids {x : List Node} (h : rightP x = true) : kidsOk x := by
  simp only [rightP, Bool.and_eq_true] at h
  obtain ⟨h1, h2⟩ := plain_plOk h.1
  have h3 := h.1
  simp only [plainS, Bool.and_eq_true] at h3
  have hr := h3.2
  rw [← right_eq] at hr
  simp only [rightS, Bool.and_eq_true, decide_eq_true_eq] at hr
  exact ⟨hr.1.1, h1, fun i n hi => ⟨(h2 i n hi).1, (h2 i n hi).2.1, (h2 i n hi).2.2.1⟩⟩
theorem of9uc (f : Bool) (ls : List (List Node)) (hll : ls.length ≤ 1000000) (hnd : ∀ x ∈ ls, ndOk x) :
    ACall Tryz.prog 5 [.sl true f (trees ls)] [] fun r s => (∃ b1 b2, r = .tup [.agg [.sl true b1 (ints (ofG ls).1), .sl true b2 (poss (ofG ls).2.1)], .int .i64 (ofG ls).2.2]) ∧ s = [] := by
  by_cases hlen : 512 < ls.length
  · rw [ofG, if_pos (.inl hlen)]
    have e1 : (512 : Int) < ls.length := by omega
    refine ACall.enter Tryz.func5 rfl (by kernel_rfl) (Nat.le_of_ble_eq_true rfl) ?_; simp only [initTm, Nat.reduceAdd]
    repeat' (first
  | refine gSq ?_ | refine gSk ?_ | refine gBl ?_ | refine gIb ?_ | refine gEx rfl ?_
  | ((first
  | (refine gRg [] [0, 2, 3, 4, 5, 6, 7, 8, 10, 17, 19, 20, 21, 22, 34, 35, 36, 37, 49] ?_; intro K hK)
  | (refine gd_split ?_ ?_ <;> intro hb <;> (try simp only [bls] at hb) <;> (try simp only [hb]))
  | refine gRt [] [.cell 2 26, .tmp 3] rfl ?_ | refine gDn [] [.cell 2 26, .tmp 3] rfl ?_) <;> (try simp only [go_sem, simprocAttr, e1]))
  | (refine hK _ _ ?_; clear hK K; simp only [go_sem, simprocAttr])
  | refine gCd (by simp only [go_sem, simprocAttr]; rfl) rfl ?_
  | refine brT ?_ | refine brF ?_
  | (refine brS ?_ ?_ <;> intro hc <;> (try simp only [bls] at hc) <;> (try simp only [hc, bls]))
  | intro _ | refine And.intro ?_ ?_)
    all_goals first | omega | (unfold bigLen; omega) | exact ⟨_, _, ⟨rfl, rfl⟩, rfl⟩ | exact ⟨_, rfl⟩ | (rename_i hy; simp only [List.mem_singleton] at hy; subst hy; rfl) | with_reducible rfl | skip
    all_goals exact ⟨_, _, rfl⟩
  have hc := contains9uc 13 (fun x => !rightP x) true f ls hll fun x hx => ofx_c x (hnd x hx)
  have e1 : ¬ (512 : Int) < ls.length := by omega
  by_cases hany : ls.any (fun x => !rightP x) = true
  · rw [ofG, if_pos (.inr hany)]
    rw [hany] at hc
    refine ACall.enter Tryz.func5 rfl (by kernel_rfl) (Nat.le_of_ble_eq_true rfl) ?_; simp only [initTm, Nat.reduceAdd]
    repeat' (first
  | refine gSq ?_ | refine gSk ?_ | refine gBl ?_ | refine gIb ?_ | refine gEx rfl ?_
  | ((first
  | (refine gRg [] [0, 2, 3, 4, 5, 6, 7, 8, 10, 17, 19, 20, 21, 22, 34, 35, 36, 37, 49] ?_; intro K hK)
  | refine cAl (hc) rfl rfl rfl ?_
  | (refine gd_split ?_ ?_ <;> intro hb <;> (try simp only [bls] at hb) <;> (try simp only [hb]))
  | refine gRt [] [.cell 2 26, .tmp 3] rfl ?_ | refine gDn [] [.cell 2 26, .tmp 3] rfl ?_) <;> (try simp only [go_sem, simprocAttr, e1]))
  | (refine hK _ _ ?_; clear hK K; simp only [go_sem, simprocAttr])
  | refine gCd (by simp only [go_sem, simprocAttr]; rfl) rfl ?_
  | refine brT ?_ | refine brF ?_
  | (refine brS ?_ ?_ <;> intro hc <;> (try simp only [bls] at hc) <;> (try simp only [hc, bls]))
  | intro _ | refine And.intro ?_ ?_)
    all_goals first | omega | (unfold bigLen; omega) | exact ⟨_, _, ⟨rfl, rfl⟩, rfl⟩ | exact ⟨_, rfl⟩ | (rename_i hy; simp only [List.mem_singleton] at hy; subst hy; rfl) | with_reducible rfl | skip
    all_goals exact ⟨_, _, rfl⟩
  · rw [ofG, if_neg (fun h => h.elim hlen hany)]
    have hall : ∀ x ∈ ls, rightP x = true := fun x hx => by
      cases h : rightP x
      · exact absurd (List.any_eq_true.2 ⟨x, hx, by simp [h]⟩) hany
      · rfl
    rw [show ls.any (fun x => !rightP x) = false by simpa using hany] at hc
    refine ACall.enter Tryz.func5 rfl (by kernel_rfl) (Nat.le_of_ble_eq_true rfl) ?_; simp only [initTm, Nat.reduceAdd]
    repeat' (first
  | refine gSq ?_ | refine gSk ?_ | refine gBl ?_ | refine gIb ?_ | refine gEx rfl ?_
  | ((first
  | (refine gRg [] [0, 2, 3, 4, 5, 6, 7, 8, 10, 17, 19, 20, 21, 22, 34, 35, 36, 37, 49] ?_; intro K hK)
  | refine cAl (hc) rfl rfl rfl ?_
  | (refine gd_split ?_ ?_ <;> intro hb <;> (try simp only [bls] at hb) <;> (try simp only [hb]))
  | refine gRt [] [.cell 2 26, .tmp 3] rfl ?_ | refine gDn [] [.cell 2 26, .tmp 3] rfl ?_) <;> (try simp only [go_sem, simprocAttr, e1]))
  | (refine hK _ _ ?_; clear hK K; simp only [go_sem, simprocAttr])
  | refine gCd (by simp only [go_sem, simprocAttr]; rfl) rfl ?_
  | refine brT ?_ | refine brF ?_
  | (refine brS ?_ ?_ <;> intro hc <;> (try simp only [bls] at hc) <;> (try simp only [hc, bls]))
  | intro _ | refine And.intro ?_ ?_)
    all_goals first | omega | (unfold bigLen; omega) | exact ⟨_, _, ⟨rfl, rfl⟩, rfl⟩ | exact ⟨_, rfl⟩ | (rename_i hy; simp only [List.mem_singleton] at hy; subst hy; rfl) | with_reducible rfl | skip
    rename_i h2 h4
    refine AGood.ownBox 4 0 901 9 (by decide) rfl rfl (by decide) ?_
    intro g901
    simp only [List.set_cons_succ, List.set_cons_zero, go_sem, simprocAttr]
    refine AGood.unfull 5 (by rfl) ?_
    refine AGood.prune [2, 3, 4, 5, 19, 20, 21] ?_; simp only [go_sem, simprocAttr]
    obtain ⟨O, hO⟩ : ∃ O, O = goO 0 ls [] [] := ⟨_, rfl⟩
    rw [← hO]
    clear hc hany
    refine AGood.loopInv (α := Nat × Nat × List Po × List Int) (fun z => ([(2, .bx 2 h2 0), (3, .int .i64 0), (4, .bx 4 h4 0), (5, .sl true false (ints z.2.2.2)), (19, .sl true f (trees ls)), (20, .int .i64 ls.length), (21, .int .i64 z.1)], [(2, h2, .box [.sl true true [], .sl true true []]), (4, h4, .box [.osl 901 z.2.1 0 z.2.2.1.length]), (901, z.2.1, .row 9 (poss z.2.2.1))]))
      (fun z => z.1 ≤ ls.length ∧ z.2.2.1.length ≤ 512 ∧ Rn z.2.2.1.length z.2.2.1 ∧ Rs z.2.2.1.length z.2.2.2 ∧ O = goO z.1 (ls.drop z.1) z.2.2.1 z.2.2.2) (fun z => ls.length - z.1) (0, g901, [], []) ⟨Nat.zero_le _, by simp, fun p hp => by simp at hp, rs_nil _, hO⟩ rfl ?_
    rintro ⟨i, g9, ps, fi⟩ ⟨hi, hpl, hrn, hrs, hrun⟩ ih
    simp only at hi hpl hrn hrs hrun ih ⊢
    by_cases hle : i < ls.length
    · have e4 : (i : Int) < ls.length := by omega
      have e5 : (0 : Int) ≤ i := by omega
      have e6 : (i : Int) + 1 = ((i + 1 : Nat) : Int) := by omega
      obtain ⟨x, hx⟩ : ∃ x, ls[i]? = some x := ⟨_, List.getElem?_eq_getElem hle⟩
      have hxm := List.mem_of_getElem? hx
      have hko := right_kids (hall x hxm)
      have hv : (trees ls)[i]? = some [.sl true false (nodes x)] := by simp [trees, hx]
      have hdr : ls.drop i = x :: ls.drop (i + 1) := by
        obtain ⟨h1, h2⟩ := List.getElem?_eq_some_iff.1 hx
        rw [List.drop_eq_getElem_cons h1, h2]
      rw [hdr, goO] at hrun
      have htr := fun g => tree9uc g g9 false x i ps hko (by omega) hrn
      obtain ⟨q1, q2, q3, q4⟩ := list_ok (x := x) (r := i) hrn
      have q5 := hko.2.1
      have hon : oneO x i ps = (mrk ((listG x i ps).2.getLastD enN).last (listG x i ps).1, (listG x i ps).2.getLastD enN) := rfl
      rw [hon] at hrun
      simp only [mrk_len] at hrun
      simp only [gsto] at htr
      clear hdr hon hxm
      generalize (listG x i ps).1 = Q at htr q1 q2 q3 q4 hrun
      generalize (listG x i ps).2.getLastD enN = e at htr q2 hrun
      obtain ⟨en, ef, el⟩ := e
      simp only [En.cells] at htr hrun
      have hmg := mergeG_c true false true false fi ef (by have := rs_len hrs; have := rs_len q2.1; simp only at this; omega)
      have hel := rs_len q2.2
      have helb := q2.2.2
      have hfi : Rs Q.length (uni fi ef) := rs_uni (rs_mono hrs q3) q2.1
      simp only at hel helb
      generalize uni fi ef = fi' at hmg hrun hfi
      repeat' (first
  | refine gSq ?_ | refine gSk ?_ | refine gBl ?_ | refine gIb ?_ | refine gEx rfl ?_
  | ((first
  | (refine gRg [] [0, 2, 3, 4, 5, 6, 7, 8, 10, 17, 19, 20, 21, 22, 34, 35, 36, 37, 49] ?_; intro K hK)
  | refine cAl (hmg) rfl rfl rfl ?_
  | (refine ACall.use [(1000, 4), (1001, 901)] [] rfl (htr _) rfl rfl rfl ?_; rintro _ _ ⟨rfl, h1, rfl⟩; refine ⟨.inl rfl, rfl, ?_⟩; simp only [bk, bk2, bk1, bkS, bkO, idOf, delAll, go_sem, simprocAttr])
  | (refine gd_split ?_ ?_ <;> intro hb <;> (try simp only [bls] at hb) <;> (try simp only [hb]))
  | refine gRt [] [.cell 2 26, .tmp 3] rfl ?_ | refine gDn [] [.cell 2 26, .tmp 3] rfl ?_) <;> (try simp only [go_sem, simprocAttr, e4, e5, hx, AVal.isCell, Option.some.injEq, forall_eq']))
  | (refine hK _ _ ?_; clear hK K; simp only [go_sem, simprocAttr])
  | refine gCd (by simp only [go_sem, simprocAttr]; rfl) rfl ?_
  | refine brT ?_ | refine brF ?_
  | (refine brS ?_ ?_ <;> intro hc <;> (try simp only [bls] at hc) <;> (try simp only [hc, bls]))
  | intro _ | refine And.intro ?_ ?_)
      all_goals first | omega | (unfold bigLen; omega) | exact ⟨_, _, ⟨rfl, rfl⟩, rfl⟩ | exact ⟨_, rfl⟩ | (rename_i hy; simp only [List.mem_singleton] at hy; subst hy; rfl) | with_reducible rfl | skip
      refine AGood.filt [2, 4, 901] ?_
      simp only [sf_cons, sf_nil, go_sem, simprocAttr]
      refine AGood.prune [2, 3, 4, 5, 19, 20, 21, 34, 35, 36] ?_; simp only [go_sem, simprocAttr]
      refine AGood.loopInv (α := Nat) (fun j => ([(2, .bx 2 h2 0), (3, .int .i64 0), (4, .bx 4 h4 0), (5, .sl true false (ints fi')), (19, .sl true f (trees ls)), (20, .int .i64 ls.length), (21, .int .i64 i), (34, .sl true false (ints el)), (35, .int .i64 el.length), (36, .int .i64 j)], [(2, h2, .box [.sl true true [], .sl true true []]), (4, h4, .box [.osl 901 h1 0 Q.length]), (901, h1, .row 9 (poss (mrk (el.take j) Q)))])) (fun j => j ≤ el.length) (fun j => el.length - j) 0 (Nat.zero_le _) rfl ?_
      rintro j hj ih2
      simp only at hj ih2 ⊢
      by_cases hlj : j < el.length
      · have d4 : (j : Int) < el.length := by omega
        have d5 : (0 : Int) ≤ j := by omega
        have d6 : (j : Int) + 1 = ((j + 1 : Nat) : Int) := by omega
        obtain ⟨kd, hkd⟩ : ∃ kd, el[j]? = some kd := ⟨_, List.getElem?_eq_getElem hlj⟩
        have hkb := helb kd (List.mem_of_getElem? hkd)
        obtain ⟨k, rfl⟩ : ∃ k : Nat, kd = k := ⟨kd.toNat, by omega⟩
        have hst : mrk (el.take (j + 1)) Q = mrk1 (mrk (el.take j) Q) k := by rw [take_one hkd]; simp [mrk]
        have hql := mrk_len (el.take j) Q
        generalize mrk (el.take j) Q = V at hst hql
        have m1 : k < V.length := by omega
        have m2 : (k : Int) < Q.length := by omega
        have m3 : (0 : Int) ≤ k := by omega
        obtain ⟨y, hy⟩ : ∃ y, V[k]? = some y := ⟨_, List.getElem?_eq_getElem m1⟩
        rw [mrk1, Int.toNat_natCast, modify_get _ hy] at hst
        obtain ⟨⟨sa, sb, sc, sd⟩, lo, hi', rule, last, next⟩ := y
        simp only at hst
        repeat' (first
  | refine gSq ?_ | refine gSk ?_ | refine gBl ?_ | refine gIb ?_ | refine gEx rfl ?_
  | ((first
  | (refine gRg [] [0, 2, 3, 4, 5, 6, 7, 8, 10, 17, 19, 20, 21, 22, 34, 35, 36, 37, 49] ?_; intro K hK)
  | (refine gd_split ?_ ?_ <;> intro hb <;> (try simp only [bls] at hb) <;> (try simp only [hb]))
  | refine gRt [] [.cell 2 26, .tmp 3] rfl ?_ | refine gDn [] [.cell 2 26, .tmp 3] rfl ?_) <;> (try simp only [go_sem, simprocAttr, d4, d5, d6, m1, m2, m3, hkd, hy, Option.some.injEq, forall_eq']))
  | (refine hK _ _ ?_; clear hK K; simp only [go_sem, simprocAttr])
  | refine gCd (by simp only [go_sem, simprocAttr]; rfl) rfl ?_
  | refine brT ?_ | refine brF ?_
  | (refine brS ?_ ?_ <;> intro hc <;> (try simp only [bls] at hc) <;> (try simp only [hc, bls]))
  | intro _ | refine And.intro ?_ ?_)
        all_goals first | omega | (unfold bigLen; omega) | exact ⟨_, _, ⟨rfl, rfl⟩, rfl⟩ | exact ⟨_, rfl⟩ | (rename_i hy; simp only [List.mem_singleton] at hy; subst hy; rfl) | with_reducible rfl | skip
        rename_i z hz
        have hz2 : z = Po.cells ⟨⟨sa, sb, sc, sd⟩, lo, hi', rule, last, next⟩ := by rw [List.getElem?_map, hy] at hz; exact (Option.some.inj hz).symm
        subst hz2
        refine AGood.filt [2, 4, 901] ?_
        simp only [sf_cons, sf_nil, go_sem, simprocAttr]
        refine AGood.prune [2, 3, 4, 5, 19, 20, 21, 34, 35, 36] ?_; simp only [go_sem, simprocAttr]
        exact AGood.cast (ih2 (j + 1) (by omega) (by omega)) rfl (by rw [hst]; simp [List.map_set])
      · have d4 : ¬ (j : Int) < el.length := by omega
        rw [List.take_of_length_le (by omega)]
        clear ih2
        have hql := mrk_len el Q
        have hqr := rn_mrk el q1
        generalize mrk el Q = V at hrun hql hqr ⊢
        by_cases hbig : 512 < Q.length
        · rw [if_pos hbig] at hrun
          subst hrun
          have e9 : (512 : Int) < Q.length := by omega
          repeat' (first
  | refine gSq ?_ | refine gSk ?_ | refine gBl ?_ | refine gIb ?_ | refine gEx rfl ?_
  | ((first
  | (refine gRg [] [0, 2, 3, 4, 5, 6, 7, 8, 10, 17, 19, 20, 21, 22, 34, 35, 36, 37, 49] ?_; intro K hK)
  | (refine gd_split ?_ ?_ <;> intro hb <;> (try simp only [bls] at hb) <;> (try simp only [hb]))
  | refine gRt [] [.cell 2 26, .tmp 3] rfl ?_ | refine gDn [] [.cell 2 26, .tmp 3] rfl ?_) <;> (try simp only [go_sem, simprocAttr, d4, e9]))
  | (refine hK _ _ ?_; clear hK K; simp only [go_sem, simprocAttr])
  | refine gCd (by simp only [go_sem, simprocAttr]; rfl) rfl ?_
  | refine brT ?_ | refine brF ?_
  | (refine brS ?_ ?_ <;> intro hc <;> (try simp only [bls] at hc) <;> (try simp only [hc, bls]))
  | intro _ | refine And.intro ?_ ?_)
          all_goals first | omega | (unfold bigLen; omega) | exact ⟨_, _, ⟨rfl, rfl⟩, rfl⟩ | exact ⟨_, rfl⟩ | (rename_i hy; simp only [List.mem_singleton] at hy; subst hy; rfl) | with_reducible rfl | skip
          all_goals exact ⟨_, _, rfl⟩
        · rw [if_neg hbig] at hrun
          have e9 : ¬ (512 : Int) < Q.length := by omega
          repeat' (first
  | refine gSq ?_ | refine gSk ?_ | refine gBl ?_ | refine gIb ?_ | refine gEx rfl ?_
  | ((first
  | (refine gRg [] [0, 2, 3, 4, 5, 6, 7, 8, 10, 17, 19, 20, 21, 22, 34, 35, 36, 37, 49] ?_; intro K hK)
  | (refine gd_split ?_ ?_ <;> intro hb <;> (try simp only [bls] at hb) <;> (try simp only [hb]))
  | refine gRt [] [.cell 2 26, .tmp 3] rfl ?_ | refine gDn [] [.cell 2 26, .tmp 3] rfl ?_) <;> (try simp only [go_sem, simprocAttr, d4, e6, e9]))
  | (refine hK _ _ ?_; clear hK K; simp only [go_sem, simprocAttr])
  | refine gCd (by simp only [go_sem, simprocAttr]; rfl) rfl ?_
  | refine brT ?_ | refine brF ?_
  | (refine brS ?_ ?_ <;> intro hc <;> (try simp only [bls] at hc) <;> (try simp only [hc, bls]))
  | intro _ | refine And.intro ?_ ?_)
          all_goals first | omega | (unfold bigLen; omega) | exact ⟨_, _, ⟨rfl, rfl⟩, rfl⟩ | exact ⟨_, rfl⟩ | (rename_i hy; simp only [List.mem_singleton] at hy; subst hy; rfl) | with_reducible rfl | skip
          refine AGood.filt [2, 4, 901] ?_
          simp only [sf_cons, sf_nil, go_sem, simprocAttr]
          refine AGood.prune [2, 3, 4, 5, 19, 20, 21] ?_; simp only [go_sem, simprocAttr]
          exact AGood.cast (ih (i + 1, h1, V, fi') ⟨by simp only; omega, by simp only; omega, by rw [← hql] at hqr; exact hqr, by simp only; rw [hql]; exact hfi, hrun⟩ (by simp only; omega)) rfl (by simp only [hql])
    · have e4 : ¬ (i : Int) < ls.length := by omega
      rw [List.drop_of_length_le (by omega), goO] at hrun
      subst hrun
      clear ih hO
      simp only
      have c15 : (poss ps).take ps.length = poss ps := List.take_of_length_le (by simp)
      repeat' (first
  | refine gSq ?_ | refine gSk ?_ | refine gBl ?_ | refine gIb ?_ | refine gEx rfl ?_
  | ((first
  | (refine AGood.at 18 ?_; (refine AGood.freeze 901 rfl ?_; simp only [rfT, rfS, rfO, rf, rf1, c15, List.length_map, Nat.le_refl, true_and, go_sem, simprocAttr]); (refine gRg [] [0, 2, 3, 4, 5, 6, 7, 8, 10, 17, 19, 20, 21, 22, 34, 35, 36, 37, 49] ?_; intro K hK))
  | (refine gRg [] [0, 2, 3, 4, 5, 6, 7, 8, 10, 17, 19, 20, 21, 22, 34, 35, 36, 37, 49] ?_; intro K hK)
  | (refine gd_split ?_ ?_ <;> intro hb <;> (try simp only [bls] at hb) <;> (try simp only [hb]))
  | refine gRt [] [.cell 2 26, .tmp 3] rfl ?_ | refine gDn [] [.cell 2 26, .tmp 3] rfl ?_) <;> (try simp only [go_sem, simprocAttr, e4]))
  | (refine hK _ _ ?_; clear hK K; simp only [go_sem, simprocAttr])
  | refine gCd (by simp only [go_sem, simprocAttr]; rfl) rfl ?_
  | refine brT ?_ | refine brF ?_
  | (refine brS ?_ ?_ <;> intro hc <;> (try simp only [bls] at hc) <;> (try simp only [hc, bls]))
  | intro _ | refine And.intro ?_ ?_)
      all_goals first | omega | (unfold bigLen; omega) | exact ⟨_, _, ⟨rfl, rfl⟩, rfl⟩ | exact ⟨_, rfl⟩ | (rename_i hy; simp only [List.mem_singleton] at hy; subst hy; rfl) | with_reducible rfl | skip
      all_goals exact ⟨_, _, rfl⟩
end Go.Rad
/- Contracts: the document's plan: nodes, rows of them, what is up to so many times. -/
namespace Go.Rad
open Go Go.Proofs
set_option linter.all false
set_option maxRecDepth 20000
set_option maxHeartbeats 4000000

abbrev qbx (q f : Bool) (l : List Node) (most : Int) (g1 n : Nat) (b : Bool) : AObj := .box [.sl q f (nodes l), .int .i64 most, .osl 1001 g1 0 n, .bool b]
abbrev qsto (q f : Bool) (l : List Node) (most : Int) (g g1 : Nat) (s : RS) : Sto := [(1000, (g, qbx q f l most g1 s.1.length s.2)), (1001, (g1, .row 9 (nodes s.1)))]
/-- What a call does to what was put. -/
abbrev RPost (q f : Bool) (l : List Node) (most : Int) (g : Nat) (x : RO) (r : AVal) (s : Sto) : Prop := r = .int .i64 x.2 ∧ ∃ h1, s = qsto q f l most g h1 x.1
theorem rput_c (q f fl : Bool) (l : List Node) (most : Int) (g g1 : Nat) (n : Node) (s : RS) (hs : s.1.length ≤ 1024) :
    ACall Tryz.prog 75 [.bx 1000 g 0, .agg (n.cellsF fl)] (qsto q f l most g g1 s) (RPost q f l most g (putQ n s)) := by
  obtain ⟨xo, ⟨xa, xb, xc, xd⟩, xl, xlo, xhi, xn⟩ := n
  obtain ⟨out, lg⟩ := s
  simp only at hs
  simp only [qsto, qbx, RPost, putQ, Node.cellsF]
  by_cases h0 : 1024 ≤ out.length
  · rw [if_pos h0]
    have e1 : (1024 : Int) ≤ out.length := by omega
    refine ACall.enter Tryz.func75 rfl (by kernel_rfl) (Nat.le_of_ble_eq_true rfl) ?_; simp only [initTm, Nat.reduceAdd]
    repeat' (first
  | refine gSq ?_ | refine gSk ?_ | refine gBl ?_ | refine gIb ?_ | refine gEx rfl ?_
  | ((first
  | (refine gRg [] [0, 1, 3, 4, 10] ?_; intro K hK)
  | (refine gDr 4 [] 6 [0, 1, 2, 3, 4, 5, 6, 7, 8, 9, 10] [0, 1, 3, 4, 10] rfl ?_; intro K hK)
  | (refine gd_split ?_ ?_ <;> intro hb <;> (try simp only [bls] at hb) <;> (try simp only [hb]))
  | refine gRt [1000, 1001] [.tmp 4] rfl ?_ | refine gDn [1000, 1001] [.tmp 4] rfl ?_) <;> (try simp only [go_sem, simprocAttr, e1]))
  | (refine hK _ _ ?_; clear hK K; simp only [go_sem, simprocAttr])
  | refine gCd (by simp only [go_sem, simprocAttr]; rfl) rfl ?_
  | refine brT ?_ | refine brF ?_
  | (refine brS ?_ ?_ <;> intro hc <;> (try simp only [bls] at hc) <;> (try simp only [hc, bls]))
  | intro _ | refine And.intro ?_ ?_)
    all_goals first | omega | (unfold bigLen; omega) | exact ⟨_, _, ⟨rfl, rfl⟩, rfl⟩ | exact ⟨_, rfl⟩ | (rename_i hy; simp only [List.mem_singleton] at hy; subst hy; rfl) | with_reducible rfl | skip
  · rw [if_neg h0]
    have e1 : ¬ (1024 : Int) ≤ out.length := by omega
    refine ACall.enter Tryz.func75 rfl (by kernel_rfl) (Nat.le_of_ble_eq_true rfl) ?_; simp only [initTm, Nat.reduceAdd]
    repeat' (first
  | refine gSq ?_ | refine gSk ?_ | refine gBl ?_ | refine gIb ?_ | refine gEx rfl ?_
  | ((first
  | (refine gRg [20] [0, 1, 3, 4, 10] ?_; intro K hK)
  | (refine gDr 4 [20] 7 [0, 1, 2, 3, 4, 5, 6, 7, 8, 9, 10] [0, 1, 3, 4, 10] rfl ?_; intro K hK)
  | (refine gd_split ?_ ?_ <;> intro hb <;> (try simp only [bls] at hb) <;> (try simp only [hb]))
  | refine gRt [1000, 1001] [.tmp 4] rfl ?_ | refine gDn [1000, 1001] [.tmp 4] rfl ?_) <;> (try simp only [go_sem, simprocAttr, e1]))
  | (refine hK _ _ ?_; clear hK K; simp only [go_sem, simprocAttr])
  | refine gCd (by simp only [go_sem, simprocAttr]; rfl) rfl ?_
  | refine brT ?_ | refine brF ?_
  | (refine brS ?_ ?_ <;> intro hc <;> (try simp only [bls] at hc) <;> (try simp only [hc, bls]))
  | intro _ | refine And.intro ?_ ?_)
    all_goals first | omega | (unfold bigLen; omega) | exact ⟨_, _, ⟨rfl, rfl⟩, rfl⟩ | exact ⟨_, rfl⟩ | (rename_i hy; simp only [List.mem_singleton] at hy; subst hy; rfl) | with_reducible rfl | skip
    · simp only []; congr 1; omega
    · rename_i h; exact ⟨h, by simp⟩
theorem rcat_c (q f f' : Bool) (l : List Node) (most : Int) (g g1 : Nat) (row : List Int) (s : RS) (hs : s.1.length ≤ 1024) (hr : row.length ≤ 1000000) :
    ACall Tryz.prog 91 [.bx 1000 g 0, .sl true f' (ints row)] (qsto q f l most g g1 s) (RPost q f l most g (catR (s, row))) := by
  have hp := rput_c q f f' l most g g1 (opNd 3 row) s hs
  simp only [catR]
  by_cases hc1 : row.length = 1
  · rw [if_pos hc1]
    obtain ⟨x, hx⟩ : ∃ x, row = [x] := List.length_eq_one_iff.1 hc1
    have g0 : row[0]? = some x := by rw [hx]; rfl
    have g1' : (row.length : Int) = 1 := by omega
    have g3 : row.headD 0 = x := by rw [hx]; rfl
    have e0 : (0 : Int) < row.length := by omega
    rw [g3]
    clear hx g3
    simp only [qsto, qbx, RPost]
    refine ACall.enter Tryz.func91 rfl (by kernel_rfl) (Nat.le_of_ble_eq_true rfl) ?_; simp only [initTm, Nat.reduceAdd]
    repeat' (first
  | refine gSq ?_ | refine gSk ?_ | refine gBl ?_ | refine gIb ?_ | refine gEx rfl ?_
  | ((first
  | (refine gRg [] [0, 1, 4, 7] ?_; intro K hK)
  | (refine gd_split ?_ ?_ <;> intro hb <;> (try simp only [bls] at hb) <;> (try simp only [hb]))
  | refine gRt [1000, 1001] [.tmp 4] rfl ?_ | refine gDn [1000, 1001] [.tmp 4] rfl ?_) <;> (try simp only [go_sem, simprocAttr, g0, g1', e0, Option.some.injEq, forall_eq']))
  | (refine hK _ _ ?_; clear hK K; simp only [go_sem, simprocAttr])
  | refine gCd (by simp only [go_sem, simprocAttr]; rfl) rfl ?_
  | refine brT ?_ | refine brF ?_
  | (refine brS ?_ ?_ <;> intro hc <;> (try simp only [bls] at hc) <;> (try simp only [hc, bls]))
  | intro _ | refine And.intro ?_ ?_)
    all_goals first | omega | (unfold bigLen; omega) | exact ⟨_, _, ⟨rfl, rfl⟩, rfl⟩ | exact ⟨_, rfl⟩ | (rename_i hy; simp only [List.mem_singleton] at hy; subst hy; rfl) | with_reducible rfl | skip
  · rw [if_neg hc1]
    have g1' : ¬ (row.length : Int) = 1 := by omega
    simp only [qsto, qbx, RPost] at hp ⊢
    refine ACall.enter Tryz.func91 rfl (by kernel_rfl) (Nat.le_of_ble_eq_true rfl) ?_; simp only [initTm, Nat.reduceAdd]
    repeat' (first
  | refine gSq ?_ | refine gSk ?_ | refine gBl ?_ | refine gIb ?_ | refine gEx rfl ?_
  | ((first
  | (refine gRg [] [0, 1, 4, 7] ?_; intro K hK)
  | (refine ACall.use [(1000, 1000), (1001, 1001)] [] rfl (hp) rfl rfl rfl ?_; (first | rintro _ _ ⟨rfl, rfl⟩ | rintro _ _ ⟨rfl, h1, rfl⟩); refine ⟨.inl rfl, rfl, ?_⟩; simp only [bk, bk2, bk1, bkS, bkO, idOf, delAll, go_sem, simprocAttr])
  | (refine gd_split ?_ ?_ <;> intro hb <;> (try simp only [bls] at hb) <;> (try simp only [hb]))
  | refine gRt [1000, 1001] [.tmp 4] rfl ?_ | refine gDn [1000, 1001] [.tmp 4] rfl ?_) <;> (try simp only [go_sem, simprocAttr, g1']))
  | (refine hK _ _ ?_; clear hK K; simp only [go_sem, simprocAttr])
  | refine gCd (by simp only [go_sem, simprocAttr]; rfl) rfl ?_
  | refine brT ?_ | refine brF ?_
  | (refine brS ?_ ?_ <;> intro hc <;> (try simp only [bls] at hc) <;> (try simp only [hc, bls]))
  | intro _ | refine And.intro ?_ ?_)
    all_goals first | omega | (unfold bigLen; omega) | exact ⟨_, _, ⟨rfl, rfl⟩, rfl⟩ | exact ⟨_, rfl⟩ | (rename_i hy; simp only [List.mem_singleton] at hy; subst hy; rfl) | with_reducible rfl | skip
/-- What a kid's plan does. -/
def KidR (P : Program) (fno : Nat) (q f : Bool) (l : List Node) (most : Int) (pl : RS → RO) (kid : Int) : Prop :=
  ∀ (g g1 : Nat) (s : RS), s.1.length ≤ 1024 → ACall P fno [.bx 1000 g 0, .int .i64 kid] (qsto q f l most g g1 s) (RPost q f l most g (pl s))
theorem rstar_c {q f : Bool} {l : List Node} {most : Int} {pl : RS → RO} (kid : Int) (hk : KidR Tryz.prog 54 q f l most pl kid) (hb : PBR pl) (g g1 : Nat) (s : RS) (hs : s.1.length ≤ 1024) :
    ACall Tryz.prog 89 [.bx 1000 g 0, .int .i64 kid] (qsto q f l most g g1 s) (RPost q f l most g (starR pl s)) := by
  have hp := hk g g1 s hs
  have b1 := hb s hs
  unfold starR
  generalize pl s = a at hp b1
  have ht := fun h1 => rput_c q f false l most g h1 (repNd 0 (-1) a.2) a.1 b1
  simp only [qsto, qbx, RPost, Node.cellsF] at hp ht ⊢
  refine ACall.enter Tryz.func89 rfl (by kernel_rfl) (Nat.le_of_ble_eq_true rfl) ?_; simp only [initTm, Nat.reduceAdd]
  repeat' (first
  | refine gSq ?_ | refine gSk ?_ | refine gBl ?_ | refine gIb ?_ | refine gEx rfl ?_
  | ((first
  | (refine gRg [11] [0, 1, 4, 5] ?_; intro K hK)
  | (refine ACall.use [(1000, 1000), (1001, 1001)] [] rfl (hp) rfl rfl rfl ?_; (first | rintro _ _ ⟨rfl, rfl⟩ | rintro _ _ ⟨rfl, h1, rfl⟩); refine ⟨.inl rfl, rfl, ?_⟩; simp only [bk, bk2, bk1, bkS, bkO, idOf, delAll, go_sem, simprocAttr])
  | (refine ACall.use [(1000, 1000), (1001, 1001)] [] rfl (ht _) rfl rfl rfl ?_; (first | rintro _ _ ⟨rfl, rfl⟩ | rintro _ _ ⟨rfl, h1, rfl⟩); refine ⟨.inl rfl, rfl, ?_⟩; simp only [bk, bk2, bk1, bkS, bkO, idOf, delAll, go_sem, simprocAttr])
  | (refine gd_split ?_ ?_ <;> intro hb <;> (try simp only [bls] at hb) <;> (try simp only [hb]))
  | refine gRt [1000, 1001] [.tmp 4] rfl ?_ | refine gDn [1000, 1001] [.tmp 4] rfl ?_) <;> (try simp only [go_sem, simprocAttr]))
  | (refine hK _ _ ?_; clear hK K; simp only [go_sem, simprocAttr])
  | refine gCd (by simp only [go_sem, simprocAttr]; rfl) rfl ?_
  | refine brT ?_ | refine brF ?_
  | (refine brS ?_ ?_ <;> intro hc <;> (try simp only [bls] at hc) <;> (try simp only [hc, bls]))
  | intro _ | refine And.intro ?_ ?_)
  all_goals first | omega | (unfold bigLen; omega) | exact ⟨_, _, ⟨rfl, rfl⟩, rfl⟩ | exact ⟨_, rfl⟩ | (rename_i hy; simp only [List.mem_singleton] at hy; subst hy; rfl) | with_reducible rfl | skip
theorem rrest_c {q f : Bool} {l : List Node} {most : Int} {pl : RS → RO} (kid : Int) (hk : KidR Tryz.prog 54 q f l most pl kid) (hb : PBR pl) (g : Nat) : ∀ (m : Nat), m < 4096 → ∀ (g1 : Nat) (s : RS), s.1.length ≤ 1024 →
    ACall Tryz.prog 90 [.bx 1000 g 0, .int .i64 kid, .int .i64 (m + 1 : Nat)] (qsto q f l most g g1 s) (RPost q f l most g (restR pl (m + 1) s)) := by
  intro m
  induction m with
  | zero =>
    intro hm g1 s hs
    have he := rput_c q f true l most g g1 (opNd 1 []) s hs
    have b1 := putQ_len (opNd 1 []) s hs
    rw [restR]
    generalize putQ (opNd 1 []) s = e at he b1
    obtain ⟨⟨eo, el⟩, ev⟩ := e
    simp only at b1 ⊢
    cases el
    · have hp := fun h1 => hk g h1 (eo, false) b1
      have b2 := hb (eo, false) b1
      simp only [Bool.false_eq_true, if_false, ne_eq, not_true_eq_false, false_and]
      generalize pl (eo, false) = a at hp b2
      have ha := fun h1 => rput_c q f false l most g h1 (opNd 4 [ev, a.2]) a.1 b2
      unfold twoR
      simp only [qsto, qbx, RPost, Node.cellsF] at he hp ha ⊢
      refine ACall.enter Tryz.func90 rfl (by kernel_rfl) (Nat.le_of_ble_eq_true rfl) ?_; simp only [initTm, Nat.reduceAdd]
      repeat' (first
  | refine gSq ?_ | refine gSk ?_ | refine gBl ?_ | refine gIb ?_ | refine gEx rfl ?_
  | ((first
  | (refine gRg [43] [0, 1, 2, 6, 7, 8, 9, 16, 28] ?_; intro K hK)
  | (refine ACall.use [(1000, 1000), (1001, 1001)] [] rfl (he) rfl rfl rfl ?_; (first | rintro _ _ ⟨rfl, rfl⟩ | rintro _ _ ⟨rfl, h1, rfl⟩); refine ⟨.inl rfl, rfl, ?_⟩; simp only [bk, bk2, bk1, bkS, bkO, idOf, delAll, go_sem, simprocAttr])
  | (refine ACall.use [(1000, 1000), (1001, 1001)] [] rfl (hp _) rfl rfl rfl ?_; (first | rintro _ _ ⟨rfl, rfl⟩ | rintro _ _ ⟨rfl, h1, rfl⟩); refine ⟨.inl rfl, rfl, ?_⟩; simp only [bk, bk2, bk1, bkS, bkO, idOf, delAll, go_sem, simprocAttr])
  | (refine ACall.use [(1000, 1000), (1001, 1001)] [] rfl (ha _) rfl rfl rfl ?_; (first | rintro _ _ ⟨rfl, rfl⟩ | rintro _ _ ⟨rfl, h1, rfl⟩); refine ⟨.inl rfl, rfl, ?_⟩; simp only [bk, bk2, bk1, bkS, bkO, idOf, delAll, go_sem, simprocAttr])
  | (refine gd_split ?_ ?_ <;> intro hb <;> (try simp only [bls] at hb) <;> (try simp only [hb]))
  | refine gRt [1000, 1001] [.tmp 6] rfl ?_ | refine gDn [1000, 1001] [.tmp 6] rfl ?_) <;> (try simp only [go_sem, simprocAttr]))
  | (refine hK _ _ ?_; clear hK K; simp only [go_sem, simprocAttr])
  | refine gCd (by simp only [go_sem, simprocAttr]; rfl) rfl ?_
  | refine brT ?_ | refine brF ?_
  | (refine brS ?_ ?_ <;> intro hc <;> (try simp only [bls] at hc) <;> (try simp only [hc, bls]))
  | intro _ | refine And.intro ?_ ?_)
      all_goals first | omega | (unfold bigLen; omega) | exact ⟨_, _, ⟨rfl, rfl⟩, rfl⟩ | exact ⟨_, rfl⟩ | (rename_i hy; simp only [List.mem_singleton] at hy; subst hy; rfl) | with_reducible rfl | skip
    · simp only [if_true]
      simp only [qsto, qbx, RPost, Node.cellsF] at he ⊢
      refine ACall.enter Tryz.func90 rfl (by kernel_rfl) (Nat.le_of_ble_eq_true rfl) ?_; simp only [initTm, Nat.reduceAdd]
      repeat' (first
  | refine gSq ?_ | refine gSk ?_ | refine gBl ?_ | refine gIb ?_ | refine gEx rfl ?_
  | ((first
  | (refine gRg [] [0, 1, 2, 6, 7, 8, 9, 16, 28] ?_; intro K hK)
  | (refine ACall.use [(1000, 1000), (1001, 1001)] [] rfl (he) rfl rfl rfl ?_; (first | rintro _ _ ⟨rfl, rfl⟩ | rintro _ _ ⟨rfl, h1, rfl⟩); refine ⟨.inl rfl, rfl, ?_⟩; simp only [bk, bk2, bk1, bkS, bkO, idOf, delAll, go_sem, simprocAttr])
  | (refine gd_split ?_ ?_ <;> intro hb <;> (try simp only [bls] at hb) <;> (try simp only [hb]))
  | refine gRt [1000, 1001] [.tmp 6] rfl ?_ | refine gDn [1000, 1001] [.tmp 6] rfl ?_) <;> (try simp only [go_sem, simprocAttr]))
  | (refine hK _ _ ?_; clear hK K; simp only [go_sem, simprocAttr])
  | refine gCd (by simp only [go_sem, simprocAttr]; rfl) rfl ?_
  | refine brT ?_ | refine brF ?_
  | (refine brS ?_ ?_ <;> intro hc <;> (try simp only [bls] at hc) <;> (try simp only [hc, bls]))
  | intro _ | refine And.intro ?_ ?_)
      all_goals first | omega | (unfold bigLen; omega) | exact ⟨_, _, ⟨rfl, rfl⟩, rfl⟩ | exact ⟨_, rfl⟩ | (rename_i hy; simp only [List.mem_singleton] at hy; subst hy; rfl) | with_reducible rfl | skip
  | succ m ih =>
    intro hm g1 s hs
    have he := rput_c q f true l most g g1 (opNd 1 []) s hs
    have b1 := putQ_len (opNd 1 []) s hs
    rw [restR]
    generalize putQ (opNd 1 []) s = e at he b1
    obtain ⟨⟨eo, el⟩, ev⟩ := e
    simp only at b1 ⊢
    have e2 : ((m + 1 + 1 : Nat) : Int) - 1 = ((m + 1 : Nat) : Int) := by omega
    have e3 : (1 : Int) < ((m + 1 + 1 : Nat) : Int) := by omega
    cases el
    · have hp := fun h1 => hk g h1 (eo, false) b1
      have b2 := hb (eo, false) b1
      simp only [Bool.false_eq_true, if_false]
      generalize pl (eo, false) = a at hp b2
      obtain ⟨⟨ao, al⟩, av⟩ := a
      simp only at b2 ⊢
      cases al
      · rw [if_pos ⟨by omega, rfl⟩]
        have hr := fun g1 => ih (by omega) g1 (ao, false) b2
        have b3 := restR_len hb (m + 1) (ao, false) b2
        generalize restR pl (m + 1) (ao, false) = y at hr b3
        have hc := fun h1 => rput_c q f false l most g h1 (opNd 3 [av, y.2]) y.1 b3
        have b4 := putQ_len (opNd 3 [av, y.2]) y.1 b3
        simp only [twoR]
        generalize putQ (opNd 3 [av, y.2]) y.1 = c at hc b4
        have ha := fun h1 => rput_c q f false l most g h1 (opNd 4 [ev, c.2]) c.1 b4
        simp only [qsto, qbx, RPost, Node.cellsF] at he hp hr hc ha ⊢
        refine ACall.enter Tryz.func90 rfl (by kernel_rfl) (Nat.le_of_ble_eq_true rfl) ?_; simp only [initTm, Nat.reduceAdd]
        repeat' (first
  | refine gSq ?_ | refine gSk ?_ | refine gBl ?_ | refine gIb ?_ | refine gEx rfl ?_
  | ((first
  | (refine gRg [37, 43] [0, 1, 2, 6, 7, 8, 9, 16, 28] ?_; intro K hK)
  | (refine ACall.use [(1000, 1000), (1001, 1001)] [] rfl (he) rfl rfl rfl ?_; (first | rintro _ _ ⟨rfl, rfl⟩ | rintro _ _ ⟨rfl, h1, rfl⟩); refine ⟨.inl rfl, rfl, ?_⟩; simp only [bk, bk2, bk1, bkS, bkO, idOf, delAll, go_sem, simprocAttr])
  | (refine ACall.use [(1000, 1000), (1001, 1001)] [] rfl (hp _) rfl rfl rfl ?_; (first | rintro _ _ ⟨rfl, rfl⟩ | rintro _ _ ⟨rfl, h1, rfl⟩); refine ⟨.inl rfl, rfl, ?_⟩; simp only [bk, bk2, bk1, bkS, bkO, idOf, delAll, go_sem, simprocAttr])
  | (refine ACall.use [(1000, 1000), (1001, 1001)] [] rfl (hr _) rfl rfl rfl ?_; (first | rintro _ _ ⟨rfl, rfl⟩ | rintro _ _ ⟨rfl, h1, rfl⟩); refine ⟨.inl rfl, rfl, ?_⟩; simp only [bk, bk2, bk1, bkS, bkO, idOf, delAll, go_sem, simprocAttr])
  | (refine ACall.use [(1000, 1000), (1001, 1001)] [] rfl (hc _) rfl rfl rfl ?_; (first | rintro _ _ ⟨rfl, rfl⟩ | rintro _ _ ⟨rfl, h1, rfl⟩); refine ⟨.inl rfl, rfl, ?_⟩; simp only [bk, bk2, bk1, bkS, bkO, idOf, delAll, go_sem, simprocAttr])
  | (refine ACall.use [(1000, 1000), (1001, 1001)] [] rfl (ha _) rfl rfl rfl ?_; (first | rintro _ _ ⟨rfl, rfl⟩ | rintro _ _ ⟨rfl, h1, rfl⟩); refine ⟨.inl rfl, rfl, ?_⟩; simp only [bk, bk2, bk1, bkS, bkO, idOf, delAll, go_sem, simprocAttr])
  | (refine gd_split ?_ ?_ <;> intro hb <;> (try simp only [bls] at hb) <;> (try simp only [hb]))
  | refine gRt [1000, 1001] [.tmp 6] rfl ?_ | refine gDn [1000, 1001] [.tmp 6] rfl ?_) <;> (try simp only [go_sem, simprocAttr, e2, e3]))
  | (refine hK _ _ ?_; clear hK K; simp only [go_sem, simprocAttr])
  | refine gCd (by simp only [go_sem, simprocAttr]; rfl) rfl ?_
  | refine brT ?_ | refine brF ?_
  | (refine brS ?_ ?_ <;> intro hc <;> (try simp only [bls] at hc) <;> (try simp only [hc, bls]))
  | intro _ | refine And.intro ?_ ?_)
        all_goals first | omega | (unfold bigLen; omega) | exact ⟨_, _, ⟨rfl, rfl⟩, rfl⟩ | exact ⟨_, rfl⟩ | (rename_i hy; simp only [List.mem_singleton] at hy; subst hy; rfl) | with_reducible rfl | skip
      · rw [if_neg (fun h => by cases h.2)]
        have ha := fun h1 => rput_c q f false l most g h1 (opNd 4 [ev, av]) (ao, true) b2
        unfold twoR
        simp only [qsto, qbx, RPost, Node.cellsF] at he hp ha ⊢
        refine ACall.enter Tryz.func90 rfl (by kernel_rfl) (Nat.le_of_ble_eq_true rfl) ?_; simp only [initTm, Nat.reduceAdd]
        repeat' (first
  | refine gSq ?_ | refine gSk ?_ | refine gBl ?_ | refine gIb ?_ | refine gEx rfl ?_
  | ((first
  | (refine gRg [43] [0, 1, 2, 6, 7, 8, 9, 16, 28] ?_; intro K hK)
  | (refine ACall.use [(1000, 1000), (1001, 1001)] [] rfl (he) rfl rfl rfl ?_; (first | rintro _ _ ⟨rfl, rfl⟩ | rintro _ _ ⟨rfl, h1, rfl⟩); refine ⟨.inl rfl, rfl, ?_⟩; simp only [bk, bk2, bk1, bkS, bkO, idOf, delAll, go_sem, simprocAttr])
  | (refine ACall.use [(1000, 1000), (1001, 1001)] [] rfl (hp _) rfl rfl rfl ?_; (first | rintro _ _ ⟨rfl, rfl⟩ | rintro _ _ ⟨rfl, h1, rfl⟩); refine ⟨.inl rfl, rfl, ?_⟩; simp only [bk, bk2, bk1, bkS, bkO, idOf, delAll, go_sem, simprocAttr])
  | (refine ACall.use [(1000, 1000), (1001, 1001)] [] rfl (ha _) rfl rfl rfl ?_; (first | rintro _ _ ⟨rfl, rfl⟩ | rintro _ _ ⟨rfl, h1, rfl⟩); refine ⟨.inl rfl, rfl, ?_⟩; simp only [bk, bk2, bk1, bkS, bkO, idOf, delAll, go_sem, simprocAttr])
  | (refine gd_split ?_ ?_ <;> intro hb <;> (try simp only [bls] at hb) <;> (try simp only [hb]))
  | refine gRt [1000, 1001] [.tmp 6] rfl ?_ | refine gDn [1000, 1001] [.tmp 6] rfl ?_) <;> (try simp only [go_sem, simprocAttr, e2, e3]))
  | (refine hK _ _ ?_; clear hK K; simp only [go_sem, simprocAttr])
  | refine gCd (by simp only [go_sem, simprocAttr]; rfl) rfl ?_
  | refine brT ?_ | refine brF ?_
  | (refine brS ?_ ?_ <;> intro hc <;> (try simp only [bls] at hc) <;> (try simp only [hc, bls]))
  | intro _ | refine And.intro ?_ ?_)
        all_goals first | omega | (unfold bigLen; omega) | exact ⟨_, _, ⟨rfl, rfl⟩, rfl⟩ | exact ⟨_, rfl⟩ | (rename_i hy; simp only [List.mem_singleton] at hy; subst hy; rfl) | with_reducible rfl | skip
    · simp only [if_true]
      simp only [qsto, qbx, RPost, Node.cellsF] at he ⊢
      refine ACall.enter Tryz.func90 rfl (by kernel_rfl) (Nat.le_of_ble_eq_true rfl) ?_; simp only [initTm, Nat.reduceAdd]
      repeat' (first
  | refine gSq ?_ | refine gSk ?_ | refine gBl ?_ | refine gIb ?_ | refine gEx rfl ?_
  | ((first
  | (refine gRg [] [0, 1, 2, 6, 7, 8, 9, 16, 28] ?_; intro K hK)
  | (refine ACall.use [(1000, 1000), (1001, 1001)] [] rfl (he) rfl rfl rfl ?_; (first | rintro _ _ ⟨rfl, rfl⟩ | rintro _ _ ⟨rfl, h1, rfl⟩); refine ⟨.inl rfl, rfl, ?_⟩; simp only [bk, bk2, bk1, bkS, bkO, idOf, delAll, go_sem, simprocAttr])
  | (refine gd_split ?_ ?_ <;> intro hb <;> (try simp only [bls] at hb) <;> (try simp only [hb]))
  | refine gRt [1000, 1001] [.tmp 6] rfl ?_ | refine gDn [1000, 1001] [.tmp 6] rfl ?_) <;> (try simp only [go_sem, simprocAttr]))
  | (refine hK _ _ ?_; clear hK K; simp only [go_sem, simprocAttr])
  | refine gCd (by simp only [go_sem, simprocAttr]; rfl) rfl ?_
  | refine brT ?_ | refine brF ?_
  | (refine brS ?_ ?_ <;> intro hc <;> (try simp only [bls] at hc) <;> (try simp only [hc, bls]))
  | intro _ | refine And.intro ?_ ?_)
      all_goals first | omega | (unfold bigLen; omega) | exact ⟨_, _, ⟨rfl, rfl⟩, rfl⟩ | exact ⟨_, rfl⟩ | (rename_i hy; simp only [List.mem_singleton] at hy; subst hy; rfl) | with_reducible rfl | skip
end Go.Rad
/- Contracts: the document's plan: a repetition. -/
namespace Go.Rad
open Go Go.Proofs
set_option linter.all false
set_option maxRecDepth 20000
set_option maxHeartbeats 4000000

theorem rrep_c {q f : Bool} {l : List Node} {most : Int} {pl : RS → RO} (hll : l.length ≤ 1000000) (n m : Node) (kid : Nat) (hn : n.l = [(kid : Int)]) (hm : l[kid]? = some m) (hlo : 0 ≤ n.lo ∧ n.lo ≤ 4096) (hhi : n.hi ≤ 4096) (hk : KidR Tryz.prog 54 q f l most pl kid) (hb : PBR pl) (g g1 : Nat) (s : RS) (hs : s.1.length ≤ 1024) :
    ACall Tryz.prog 74 [.bx 1000 g 0, .agg n.cells] (qsto q f l most g g1 s) (RPost q f l most g (repR pl most (decide (m.op = 2)) n.lo n.hi s)) := by
  obtain ⟨xo, ⟨xa, xb, xc, xd⟩, xl, xlo, xhi, xn⟩ := n
  simp only at hn hlo hhi
  have hx0 : xl[0]? = some (kid : Int) := by rw [hn]; rfl
  have e0 : (0 : Int) < xl.length := by rw [hn]; exact Int.one_pos
  clear hn
  have hkl := (List.getElem?_eq_some_iff.1 hm).1
  have e1 : (kid : Int) < l.length := by omega
  have e2 : (0 : Int) ≤ kid := by omega
  obtain ⟨mo, ⟨ma, mb, mc, md⟩, ml, mlo, mhi, mn⟩ := m
  simp only [Node.cells, Node.cellsF] at hm ⊢
  unfold repR
  by_cases k1 : decide (mo = 2) = true ∧ most < xhi
  · rw [if_pos k1]
    obtain ⟨k0, k1⟩ := k1
    have k0 := of_decide_eq_true k0
    subst k0
    unfold cntR
    by_cases k2 : 0 < xlo
    · rw [if_pos k2]
      have hp := hk g g1 s hs
      have b1 := hb s hs
      generalize pl s = a at hp b1
      have ht := fun h1 => rput_c q f false l most g h1 (repNd xlo xhi a.2) a.1 b1
      have k3 : max xlo 1 = xlo := by omega
      have k4 : ¬ xlo = 0 := by omega
      simp only [qsto, qbx, RPost, Node.cellsF] at hp ht ⊢
      refine ACall.enter Tryz.func74 rfl (by kernel_rfl) (Nat.le_of_ble_eq_true rfl) ?_; simp only [initTm, Nat.reduceAdd]
      repeat' (first
  | refine gSq ?_ | refine gSk ?_ | refine gBl ?_ | refine gIb ?_ | refine gEx rfl ?_
  | ((first
  | (refine gRg [48] [0, 1, 3, 4, 5, 6, 7, 8, 9, 10, 11, 12, 13, 36, 39, 58, 85, 116, 127, 138] ?_; intro K hK)
  | (refine gDr 3 [48] 10 [0, 1, 2, 3, 4, 5, 6, 7, 8, 9] [0, 1, 3, 4, 5, 6, 7, 8, 9, 10, 11, 12, 13, 36, 39, 58, 85, 116, 127, 138] rfl ?_; intro K hK)
  | (refine gDr 12 [48] 20 [0, 1, 2, 3, 4, 5, 6, 7, 8, 9, 10, 11, 12, 13, 14, 15, 16, 17, 18, 19] [0, 1, 3, 4, 5, 6, 7, 8, 9, 10, 11, 12, 13, 36, 39, 58, 85, 116, 127, 138] rfl ?_; intro K hK)
  | (refine ACall.use [(1000, 1000), (1001, 1001)] [] rfl (hp) rfl rfl rfl ?_; (first | rintro _ _ ⟨rfl, rfl⟩ | rintro _ _ ⟨rfl, h1, rfl⟩); refine ⟨.inl rfl, rfl, ?_⟩; simp only [bk, bk2, bk1, bkS, bkO, idOf, delAll, go_sem, simprocAttr])
  | (refine ACall.use [(1000, 1000), (1001, 1001)] [] rfl (ht _) rfl rfl rfl ?_; (first | rintro _ _ ⟨rfl, rfl⟩ | rintro _ _ ⟨rfl, h1, rfl⟩); refine ⟨.inl rfl, rfl, ?_⟩; simp only [bk, bk2, bk1, bkS, bkO, idOf, delAll, go_sem, simprocAttr])
  | (refine gd_split ?_ ?_ <;> intro hb <;> (try simp only [bls] at hb) <;> (try simp only [hb]))
  | refine gRt [1000, 1001] [.tmp 4] rfl ?_ | refine gDn [1000, 1001] [.tmp 4] rfl ?_) <;> (try simp only [go_sem, simprocAttr, hx0, e0, e1, e2, hm, k1, k2, k3, k4, Option.some.injEq, forall_eq']))
  | (refine hK _ _ ?_; clear hK K; simp only [go_sem, simprocAttr])
  | refine gCd (by simp only [go_sem, simprocAttr]; rfl) rfl ?_
  | refine brT ?_ | refine brF ?_
  | (refine brS ?_ ?_ <;> intro hc <;> (try simp only [bls] at hc) <;> (try simp only [hc, bls]))
  | intro _ | refine And.intro ?_ ?_)
      all_goals first | omega | (unfold bigLen; omega) | exact ⟨_, _, ⟨rfl, rfl⟩, rfl⟩ | exact ⟨_, rfl⟩ | (rename_i hy; simp only [List.mem_singleton] at hy; subst hy; rfl) | with_reducible rfl | skip
    · rw [if_neg k2]
      have k4 : xlo = 0 := by omega
      subst k4
      have he := rput_c q f true l most g g1 (opNd 1 []) s hs
      have b0 := putQ_len (opNd 1 []) s hs
      generalize putQ (opNd 1 []) s = e at he b0
      have hp := fun h1 => hk g h1 e.1 b0
      have b1 := hb e.1 b0
      generalize pl e.1 = a at hp b1
      have ht := fun h1 => rput_c q f false l most g h1 (repNd 1 xhi a.2) a.1 b1
      have b2 := putQ_len (repNd 1 xhi a.2) a.1 b1
      generalize putQ (repNd 1 xhi a.2) a.1 = c at ht b2
      have hc := fun h1 => rput_c q f false l most g h1 (opNd 4 [e.2, c.2]) c.1 b2
      unfold twoR
      have k3 : max (0 : Int) 1 = 1 := by omega
      simp only [qsto, qbx, RPost, Node.cellsF] at he hp ht hc ⊢
      refine ACall.enter Tryz.func74 rfl (by kernel_rfl) (Nat.le_of_ble_eq_true rfl) ?_; simp only [initTm, Nat.reduceAdd]
      repeat' (first
  | refine gSq ?_ | refine gSk ?_ | refine gBl ?_ | refine gIb ?_ | refine gEx rfl ?_
  | ((first
  | (refine gRg [48, 63] [0, 1, 3, 4, 5, 6, 7, 8, 9, 10, 11, 12, 13, 36, 39, 58, 85, 116, 127, 138] ?_; intro K hK)
  | (refine gDr 3 [48, 63] 10 [0, 1, 2, 3, 4, 5, 6, 7, 8, 9] [0, 1, 3, 4, 5, 6, 7, 8, 9, 10, 11, 12, 13, 36, 39, 58, 85, 116, 127, 138] rfl ?_; intro K hK)
  | (refine gDr 12 [48, 63] 20 [0, 1, 2, 3, 4, 5, 6, 7, 8, 9, 10, 11, 12, 13, 14, 15, 16, 17, 18, 19] [0, 1, 3, 4, 5, 6, 7, 8, 9, 10, 11, 12, 13, 36, 39, 58, 85, 116, 127, 138] rfl ?_; intro K hK)
  | (refine ACall.use [(1000, 1000), (1001, 1001)] [] rfl (he) rfl rfl rfl ?_; (first | rintro _ _ ⟨rfl, rfl⟩ | rintro _ _ ⟨rfl, h1, rfl⟩); refine ⟨.inl rfl, rfl, ?_⟩; simp only [bk, bk2, bk1, bkS, bkO, idOf, delAll, go_sem, simprocAttr])
  | (refine ACall.use [(1000, 1000), (1001, 1001)] [] rfl (hp _) rfl rfl rfl ?_; (first | rintro _ _ ⟨rfl, rfl⟩ | rintro _ _ ⟨rfl, h1, rfl⟩); refine ⟨.inl rfl, rfl, ?_⟩; simp only [bk, bk2, bk1, bkS, bkO, idOf, delAll, go_sem, simprocAttr])
  | (refine ACall.use [(1000, 1000), (1001, 1001)] [] rfl (ht _) rfl rfl rfl ?_; (first | rintro _ _ ⟨rfl, rfl⟩ | rintro _ _ ⟨rfl, h1, rfl⟩); refine ⟨.inl rfl, rfl, ?_⟩; simp only [bk, bk2, bk1, bkS, bkO, idOf, delAll, go_sem, simprocAttr])
  | (refine ACall.use [(1000, 1000), (1001, 1001)] [] rfl (hc _) rfl rfl rfl ?_; (first | rintro _ _ ⟨rfl, rfl⟩ | rintro _ _ ⟨rfl, h1, rfl⟩); refine ⟨.inl rfl, rfl, ?_⟩; simp only [bk, bk2, bk1, bkS, bkO, idOf, delAll, go_sem, simprocAttr])
  | (refine gd_split ?_ ?_ <;> intro hb <;> (try simp only [bls] at hb) <;> (try simp only [hb]))
  | refine gRt [1000, 1001] [.tmp 4] rfl ?_ | refine gDn [1000, 1001] [.tmp 4] rfl ?_) <;> (try simp only [go_sem, simprocAttr, hx0, e0, e1, e2, hm, k1, k3, Option.some.injEq, forall_eq']))
  | (refine hK _ _ ?_; clear hK K; simp only [go_sem, simprocAttr])
  | refine gCd (by simp only [go_sem, simprocAttr]; rfl) rfl ?_
  | refine brT ?_ | refine brF ?_
  | (refine brS ?_ ?_ <;> intro hc <;> (try simp only [bls] at hc) <;> (try simp only [hc, bls]))
  | intro _ | refine And.intro ?_ ?_)
      all_goals first | omega | (unfold bigLen; omega) | exact ⟨_, _, ⟨rfl, rfl⟩, rfl⟩ | exact ⟨_, rfl⟩ | (rename_i hy; simp only [List.mem_singleton] at hy; subst hy; rfl) | with_reducible rfl | skip
  · rw [if_neg k1]
    by_cases k2 : decide (mo = 2) = true ∧ xhi = -1 ∧ most < xlo ∧ 1 < xlo
    · rw [if_pos k2]
      obtain ⟨k0, k3, k4, k5⟩ := k2
      have k1' : ¬ most < xhi := fun h => k1 ⟨k0, h⟩
      have k0 := of_decide_eq_true k0
      subst k0
      subst k3
      unfold endR
      have hp := hk g g1 s hs
      have b1 := hb s hs
      generalize pl s = a at hp b1
      have ht := fun h1 => rput_c q f false l most g h1 (repNd xlo xlo a.2) a.1 b1
      have b2 := putQ_len (repNd xlo xlo a.2) a.1 b1
      generalize putQ (repNd xlo xlo a.2) a.1 = c at ht b2
      have hst := fun h1 => rstar_c kid hk hb g h1 c.1 b2
      have b3 := starR_len hb c.1 b2
      generalize starR pl c.1 = d at hst b3
      have hc := fun h1 => rput_c q f false l most g h1 (opNd 3 [c.2, d.2]) d.1 b3
      unfold twoR
      simp only [qsto, qbx, RPost, Node.cellsF] at hp ht hst hc ⊢
      refine ACall.enter Tryz.func74 rfl (by kernel_rfl) (Nat.le_of_ble_eq_true rfl) ?_; simp only [initTm, Nat.reduceAdd]
      repeat' (first
  | refine gSq ?_ | refine gSk ?_ | refine gBl ?_ | refine gIb ?_ | refine gEx rfl ?_
  | ((first
  | (refine gRg [91, 103] [0, 1, 3, 4, 5, 6, 7, 8, 9, 10, 11, 12, 13, 36, 39, 58, 85, 116, 127, 138] ?_; intro K hK)
  | (refine gDr 3 [91, 103] 10 [0, 1, 2, 3, 4, 5, 6, 7, 8, 9] [0, 1, 3, 4, 5, 6, 7, 8, 9, 10, 11, 12, 13, 36, 39, 58, 85, 116, 127, 138] rfl ?_; intro K hK)
  | (refine gDr 12 [91, 103] 20 [0, 1, 2, 3, 4, 5, 6, 7, 8, 9, 10, 11, 12, 13, 14, 15, 16, 17, 18, 19] [0, 1, 3, 4, 5, 6, 7, 8, 9, 10, 11, 12, 13, 36, 39, 58, 85, 116, 127, 138] rfl ?_; intro K hK)
  | (refine ACall.use [(1000, 1000), (1001, 1001)] [] rfl (hp) rfl rfl rfl ?_; (first | rintro _ _ ⟨rfl, rfl⟩ | rintro _ _ ⟨rfl, h1, rfl⟩); refine ⟨.inl rfl, rfl, ?_⟩; simp only [bk, bk2, bk1, bkS, bkO, idOf, delAll, go_sem, simprocAttr])
  | (refine ACall.use [(1000, 1000), (1001, 1001)] [] rfl (ht _) rfl rfl rfl ?_; (first | rintro _ _ ⟨rfl, rfl⟩ | rintro _ _ ⟨rfl, h1, rfl⟩); refine ⟨.inl rfl, rfl, ?_⟩; simp only [bk, bk2, bk1, bkS, bkO, idOf, delAll, go_sem, simprocAttr])
  | (refine ACall.use [(1000, 1000), (1001, 1001)] [] rfl (hst _) rfl rfl rfl ?_; (first | rintro _ _ ⟨rfl, rfl⟩ | rintro _ _ ⟨rfl, h1, rfl⟩); refine ⟨.inl rfl, rfl, ?_⟩; simp only [bk, bk2, bk1, bkS, bkO, idOf, delAll, go_sem, simprocAttr])
  | (refine ACall.use [(1000, 1000), (1001, 1001)] [] rfl (hc _) rfl rfl rfl ?_; (first | rintro _ _ ⟨rfl, rfl⟩ | rintro _ _ ⟨rfl, h1, rfl⟩); refine ⟨.inl rfl, rfl, ?_⟩; simp only [bk, bk2, bk1, bkS, bkO, idOf, delAll, go_sem, simprocAttr])
  | (refine gd_split ?_ ?_ <;> intro hb <;> (try simp only [bls] at hb) <;> (try simp only [hb]))
  | refine gRt [1000, 1001] [.tmp 4] rfl ?_ | refine gDn [1000, 1001] [.tmp 4] rfl ?_) <;> (try simp only [go_sem, simprocAttr, hx0, e0, e1, e2, hm, k1', k4, k5, Option.some.injEq, forall_eq']))
  | (refine hK _ _ ?_; clear hK K; simp only [go_sem, simprocAttr])
  | refine gCd (by simp only [go_sem, simprocAttr]; rfl) rfl ?_
  | refine brT ?_ | refine brF ?_
  | (refine brS ?_ ?_ <;> intro hc <;> (try simp only [bls] at hc) <;> (try simp only [hc, bls]))
  | intro _ | refine And.intro ?_ ?_)
      all_goals first | omega | (unfold bigLen; omega) | exact ⟨_, _, ⟨rfl, rfl⟩, rfl⟩ | exact ⟨_, rfl⟩ | (rename_i hy; simp only [List.mem_singleton] at hy; subst hy; rfl) | with_reducible rfl | skip
    · rw [if_neg k2]
      obtain ⟨lo, rfl⟩ : ∃ lo : Nat, xlo = lo := ⟨xlo.toNat, by omega⟩
      obtain ⟨S, hS⟩ : ∃ S, S = rowQ pl lo xhi s := ⟨_, rfl⟩
      rw [← hS]
      rw [rowQ, Int.toNat_natCast] at hS
      obtain ⟨L, hL⟩ : ∃ L, L = rowLR pl lo s [] := ⟨_, rfl⟩
      rw [← hL] at hS
      simp only [qsto, qbx]
      apply hv (α := Nat)
      case main =>
        intro key
        by_cases c2 : mo = 2
        · have c3 : ¬ most < xhi := fun h => k1 ⟨decide_eq_true c2, h⟩
          by_cases c4 : xhi = -1
          · by_cases c5 : most < (lo : Int)
            · have c6 : ¬ (1 : Int) < lo := fun h => k2 ⟨decide_eq_true c2, c4, c5, h⟩
              refine ACall.enter Tryz.func74 rfl (by kernel_rfl) (Nat.le_of_ble_eq_true rfl) ?_; simp only [initTm, Nat.reduceAdd]
              repeat' (first
  | refine gSq ?_ | refine gSk ?_ | refine gBl ?_ | refine gIb ?_ | refine gEx rfl ?_
  | ((first
  | (refine gRg [] [0, 1, 3, 4, 5, 6, 7, 8, 9, 10, 11, 12, 13, 36, 39, 58, 85, 116, 127, 138] ?_; intro K hK)
  | (refine gDr 3 [] 10 [0, 1, 2, 3, 4, 5, 6, 7, 8, 9] [0, 1, 3, 4, 5, 6, 7, 8, 9, 10, 11, 12, 13, 36, 39, 58, 85, 116, 127, 138] rfl ?_; intro K hK)
  | (refine gDr 12 [] 20 [0, 1, 2, 3, 4, 5, 6, 7, 8, 9, 10, 11, 12, 13, 14, 15, 16, 17, 18, 19] [0, 1, 3, 4, 5, 6, 7, 8, 9, 10, 11, 12, 13, 36, 39, 58, 85, 116, 127, 138] rfl ?_; intro K hK)
  | (refine gd_split ?_ ?_ <;> intro hb <;> (try simp only [bls] at hb) <;> (try simp only [hb]))
  | refine gRt [1000, 1001] [.tmp 4] rfl ?_ | refine gDn [1000, 1001] [.tmp 4] rfl ?_) <;> (try simp only [go_sem, simprocAttr, hx0, e0, e1, e2, hm, eq_true c2, eq_true c4, c3, c5, c6, Option.some.injEq, forall_eq']))
  | (refine hK _ _ ?_; clear hK K; simp only [go_sem, simprocAttr])
  | refine gCd (by simp only [go_sem, simprocAttr]; rfl) rfl ?_
  | refine brT ?_ | refine brF ?_
  | (refine brS ?_ ?_ <;> intro hc <;> (try simp only [bls] at hc) <;> (try simp only [hc, bls]))
  | intro _ | refine And.intro ?_ ?_)
              all_goals first | omega | (unfold bigLen; omega) | exact ⟨_, _, ⟨rfl, rfl⟩, rfl⟩ | exact ⟨_, rfl⟩ | (rename_i hy; simp only [List.mem_singleton] at hy; subst hy; rfl) | with_reducible rfl | skip
              refine AGood.prune [0, 3, 5, 12, 13] ?_; simp only [go_sem, simprocAttr]
              rename_i h3; exact key h3
            ·
              refine ACall.enter Tryz.func74 rfl (by kernel_rfl) (Nat.le_of_ble_eq_true rfl) ?_; simp only [initTm, Nat.reduceAdd]
              repeat' (first
  | refine gSq ?_ | refine gSk ?_ | refine gBl ?_ | refine gIb ?_ | refine gEx rfl ?_
  | ((first
  | (refine gRg [] [0, 1, 3, 4, 5, 6, 7, 8, 9, 10, 11, 12, 13, 36, 39, 58, 85, 116, 127, 138] ?_; intro K hK)
  | (refine gDr 3 [] 10 [0, 1, 2, 3, 4, 5, 6, 7, 8, 9] [0, 1, 3, 4, 5, 6, 7, 8, 9, 10, 11, 12, 13, 36, 39, 58, 85, 116, 127, 138] rfl ?_; intro K hK)
  | (refine gDr 12 [] 20 [0, 1, 2, 3, 4, 5, 6, 7, 8, 9, 10, 11, 12, 13, 14, 15, 16, 17, 18, 19] [0, 1, 3, 4, 5, 6, 7, 8, 9, 10, 11, 12, 13, 36, 39, 58, 85, 116, 127, 138] rfl ?_; intro K hK)
  | (refine gd_split ?_ ?_ <;> intro hb <;> (try simp only [bls] at hb) <;> (try simp only [hb]))
  | refine gRt [1000, 1001] [.tmp 4] rfl ?_ | refine gDn [1000, 1001] [.tmp 4] rfl ?_) <;> (try simp only [go_sem, simprocAttr, hx0, e0, e1, e2, hm, eq_true c2, eq_true c4, c3, c5, Option.some.injEq, forall_eq']))
  | (refine hK _ _ ?_; clear hK K; simp only [go_sem, simprocAttr])
  | refine gCd (by simp only [go_sem, simprocAttr]; rfl) rfl ?_
  | refine brT ?_ | refine brF ?_
  | (refine brS ?_ ?_ <;> intro hc <;> (try simp only [bls] at hc) <;> (try simp only [hc, bls]))
  | intro _ | refine And.intro ?_ ?_)
              all_goals first | omega | (unfold bigLen; omega) | exact ⟨_, _, ⟨rfl, rfl⟩, rfl⟩ | exact ⟨_, rfl⟩ | (rename_i hy; simp only [List.mem_singleton] at hy; subst hy; rfl) | with_reducible rfl | skip
              refine AGood.prune [0, 3, 5, 12, 13] ?_; simp only [go_sem, simprocAttr]
              rename_i h3; exact key h3
          ·
            refine ACall.enter Tryz.func74 rfl (by kernel_rfl) (Nat.le_of_ble_eq_true rfl) ?_; simp only [initTm, Nat.reduceAdd]
            repeat' (first
  | refine gSq ?_ | refine gSk ?_ | refine gBl ?_ | refine gIb ?_ | refine gEx rfl ?_
  | ((first
  | (refine gRg [] [0, 1, 3, 4, 5, 6, 7, 8, 9, 10, 11, 12, 13, 36, 39, 58, 85, 116, 127, 138] ?_; intro K hK)
  | (refine gDr 3 [] 10 [0, 1, 2, 3, 4, 5, 6, 7, 8, 9] [0, 1, 3, 4, 5, 6, 7, 8, 9, 10, 11, 12, 13, 36, 39, 58, 85, 116, 127, 138] rfl ?_; intro K hK)
  | (refine gDr 12 [] 20 [0, 1, 2, 3, 4, 5, 6, 7, 8, 9, 10, 11, 12, 13, 14, 15, 16, 17, 18, 19] [0, 1, 3, 4, 5, 6, 7, 8, 9, 10, 11, 12, 13, 36, 39, 58, 85, 116, 127, 138] rfl ?_; intro K hK)
  | (refine gd_split ?_ ?_ <;> intro hb <;> (try simp only [bls] at hb) <;> (try simp only [hb]))
  | refine gRt [1000, 1001] [.tmp 4] rfl ?_ | refine gDn [1000, 1001] [.tmp 4] rfl ?_) <;> (try simp only [go_sem, simprocAttr, hx0, e0, e1, e2, hm, eq_true c2, c3, c4, Option.some.injEq, forall_eq']))
  | (refine hK _ _ ?_; clear hK K; simp only [go_sem, simprocAttr])
  | refine gCd (by simp only [go_sem, simprocAttr]; rfl) rfl ?_
  | refine brT ?_ | refine brF ?_
  | (refine brS ?_ ?_ <;> intro hc <;> (try simp only [bls] at hc) <;> (try simp only [hc, bls]))
  | intro _ | refine And.intro ?_ ?_)
            all_goals first | omega | (unfold bigLen; omega) | exact ⟨_, _, ⟨rfl, rfl⟩, rfl⟩ | exact ⟨_, rfl⟩ | (rename_i hy; simp only [List.mem_singleton] at hy; subst hy; rfl) | with_reducible rfl | skip
            refine AGood.prune [0, 3, 5, 12, 13] ?_; simp only [go_sem, simprocAttr]
            rename_i h3; exact key h3
        ·
          refine ACall.enter Tryz.func74 rfl (by kernel_rfl) (Nat.le_of_ble_eq_true rfl) ?_; simp only [initTm, Nat.reduceAdd]
          repeat' (first
  | refine gSq ?_ | refine gSk ?_ | refine gBl ?_ | refine gIb ?_ | refine gEx rfl ?_
  | ((first
  | (refine gRg [] [0, 1, 3, 4, 5, 6, 7, 8, 9, 10, 11, 12, 13, 36, 39, 58, 85, 116, 127, 138] ?_; intro K hK)
  | (refine gDr 3 [] 10 [0, 1, 2, 3, 4, 5, 6, 7, 8, 9] [0, 1, 3, 4, 5, 6, 7, 8, 9, 10, 11, 12, 13, 36, 39, 58, 85, 116, 127, 138] rfl ?_; intro K hK)
  | (refine gDr 12 [] 20 [0, 1, 2, 3, 4, 5, 6, 7, 8, 9, 10, 11, 12, 13, 14, 15, 16, 17, 18, 19] [0, 1, 3, 4, 5, 6, 7, 8, 9, 10, 11, 12, 13, 36, 39, 58, 85, 116, 127, 138] rfl ?_; intro K hK)
  | (refine gd_split ?_ ?_ <;> intro hb <;> (try simp only [bls] at hb) <;> (try simp only [hb]))
  | refine gRt [1000, 1001] [.tmp 4] rfl ?_ | refine gDn [1000, 1001] [.tmp 4] rfl ?_) <;> (try simp only [go_sem, simprocAttr, hx0, e0, e1, e2, hm, c2, Option.some.injEq, forall_eq']))
  | (refine hK _ _ ?_; clear hK K; simp only [go_sem, simprocAttr])
  | refine gCd (by simp only [go_sem, simprocAttr]; rfl) rfl ?_
  | refine brT ?_ | refine brF ?_
  | (refine brS ?_ ?_ <;> intro hc <;> (try simp only [bls] at hc) <;> (try simp only [hc, bls]))
  | intro _ | refine And.intro ?_ ?_)
          all_goals first | omega | (unfold bigLen; omega) | exact ⟨_, _, ⟨rfl, rfl⟩, rfl⟩ | exact ⟨_, rfl⟩ | (rename_i hy; simp only [List.mem_singleton] at hy; subst hy; rfl) | with_reducible rfl | skip
          refine AGood.prune [0, 3, 5, 12, 13] ?_; simp only [go_sem, simprocAttr]
          rename_i h3; exact key h3
      case key =>
        intro h3
        have hlo2 : lo ≤ 4096 := by omega
        have hcat := fun (b : RS × List Int) (h1 : b.1.1.length ≤ 1024) (h2 : b.2.length ≤ 1000000) gg => rcat_c q f false l most g gg b.2 b.1 h1 h2
        clear k1 k2 hlo hm e1 e2
        refine AGood.ownTm 12 900 1 (by decide) rfl fun g9 => ?_
        simp only [go_sem, simprocAttr]
        refine AGood.prune [0, 3, 5, 12, 13] ?_; simp only [go_sem, simprocAttr]
        refine AGood.loopInv (α := Nat × RS × List Int × Nat × Nat) (fun x => ([(0, .bx 1000 g 0), (3, .bx 3 h3 0), (5, .int .i64 kid), (12, .osl 900 x.2.2.2.2 0 x.2.2.1.length), (13, .int .i64 x.1)],
          [(3, h3, .box [.int .u8 xo, .int .u64 xa, .int .u64 xb, .int .u64 xc, .int .u64 xd, .sl true false (ints xl), .int .i64 lo, .int .i64 xhi, .str xn]), (900, x.2.2.2.2, .row 1 (ints x.2.2.1)), (1000, g, .box [.sl q f (nodes l), .int .i64 most, .osl 1001 x.2.2.2.1 0 x.2.1.1.length, .bool x.2.1.2]), (1001, x.2.2.2.1, .row 9 (nodes x.2.1.1))]))
          (fun x => x.1 ≤ lo ∧ x.2.2.1.length = x.1 ∧ x.2.1.1.length ≤ 1024 ∧ L = rowLR pl (lo - x.1) x.2.1 x.2.2.1) (fun x => lo - x.1) (0, s, [], g1, g9) ⟨Nat.zero_le _, rfl, hs, hL⟩ rfl ?_
        rintro ⟨i, o, row, gg, g9⟩ ⟨hi, hrl, ho', hrun⟩ ih
        simp only at hi hrl ho' hrun ih ⊢
        by_cases hgo : i < lo ∧ o.2 = false
        · obtain ⟨hle, hlg⟩ := hgo
          have e4 : (i : Int) < lo := by omega
          have e5 : (i : Int) + 1 = ((i + 1 : Nat) : Int) := by omega
          obtain ⟨r, hr⟩ : ∃ r, lo - i = r + 1 := ⟨lo - i - 1, by omega⟩
          rw [hr, rowLR, if_neg (by rw [hlg]; decide)] at hrun
          have hp := hk g gg o ho'
          have b2 := hb o ho'
          generalize pl o = a at b2 hp hrun
          obtain ⟨oo, og⟩ := o
          simp only at hlg
          subst hlg
          simp only [qsto, qbx, RPost] at hp
          repeat' (first
  | refine gSq ?_ | refine gSk ?_ | refine gBl ?_ | refine gIb ?_ | refine gEx rfl ?_
  | ((first
  | (refine gRg [123] [0, 1, 3, 4, 5, 6, 7, 8, 9, 10, 11, 12, 13, 36, 39, 58, 85, 116, 127, 138] ?_; intro K hK)
  | (refine gDr 3 [123] 10 [0, 1, 2, 3, 4, 5, 6, 7, 8, 9] [0, 1, 3, 4, 5, 6, 7, 8, 9, 10, 11, 12, 13, 36, 39, 58, 85, 116, 127, 138] rfl ?_; intro K hK)
  | (refine gDr 12 [123] 20 [0, 1, 2, 3, 4, 5, 6, 7, 8, 9, 10, 11, 12, 13, 14, 15, 16, 17, 18, 19] [0, 1, 3, 4, 5, 6, 7, 8, 9, 10, 11, 12, 13, 36, 39, 58, 85, 116, 127, 138] rfl ?_; intro K hK)
  | (refine ACall.use [(1000, 1000), (1001, 1001)] [] rfl (hp) rfl rfl rfl ?_; (first | rintro _ _ ⟨rfl, rfl⟩ | rintro _ _ ⟨rfl, h1, rfl⟩); refine ⟨.inl rfl, rfl, ?_⟩; simp only [bk, bk2, bk1, bkS, bkO, idOf, delAll, go_sem, simprocAttr])
  | (refine gd_split ?_ ?_ <;> intro hb <;> (try simp only [bls] at hb) <;> (try simp only [hb]))
  | refine gRt [1000, 1001] [.tmp 4] rfl ?_ | refine gDn [1000, 1001] [.tmp 4] rfl ?_) <;> (try simp only [go_sem, simprocAttr, e4, e5]))
  | (refine hK _ _ ?_; clear hK K; simp only [go_sem, simprocAttr])
  | refine gCd (by simp only [go_sem, simprocAttr]; rfl) rfl ?_
  | refine brT ?_ | refine brF ?_
  | (refine brS ?_ ?_ <;> intro hc <;> (try simp only [bls] at hc) <;> (try simp only [hc, bls]))
  | intro _ | refine And.intro ?_ ?_)
          all_goals first | omega | (unfold bigLen; omega) | exact ⟨_, _, ⟨rfl, rfl⟩, rfl⟩ | exact ⟨_, rfl⟩ | (rename_i hy; simp only [List.mem_singleton] at hy; subst hy; rfl) | with_reducible rfl | skip
          rename_i h'
          refine AGood.filt [3, 900, 1000, 1001] ?_
          simp only [sf_cons, sf_nil, go_sem, simprocAttr]
          refine AGood.prune [0, 3, 5, 12, 13] ?_; simp only [go_sem, simprocAttr]
          refine AGood.cast (ih (i + 1, a.1, row ++ [a.2], h1, h') ⟨by simp only; omega, by simp [hrl], by simp only; omega, by rw [hrun]; congr 1; omega⟩ (by simp only; omega)) ?_ ?_
          · simp
          · simp
        · have hLv : L = (o, row) := by
            rw [hrun]
            cases hd : lo - i with
            | zero => rfl
            | succ r =>
              rw [rowLR, if_pos]
              cases hlg : o.2
              · exact absurd ⟨by omega, hlg⟩ hgo
              · rfl
          rw [hLv] at hS
          clear ih hrun
          -- the loop is left, either way
          obtain ⟨oo, og⟩ := o
          apply hv0
          case main =>
            intro key
            by_cases hle : lo ≤ i
            · have e4 : ¬ (i : Int) < lo := by omega
              repeat' (first
  | (refine AGood.at 21 ?_; (refine AGood.prune [0, 3, 5, 12] ?_; simp only [go_sem, simprocAttr]; refine stopI ?_))
  | refine gSq ?_ | refine gSk ?_ | refine gBl ?_ | refine gIb ?_ | refine gEx rfl ?_
  | ((first
  | (refine gRg [] [0, 1, 3, 4, 5, 6, 7, 8, 9, 10, 11, 12, 13, 36, 39, 58, 85, 116, 127, 138] ?_; intro K hK)
  | (refine gDr 3 [] 10 [0, 1, 2, 3, 4, 5, 6, 7, 8, 9] [0, 1, 3, 4, 5, 6, 7, 8, 9, 10, 11, 12, 13, 36, 39, 58, 85, 116, 127, 138] rfl ?_; intro K hK)
  | (refine gDr 12 [] 20 [0, 1, 2, 3, 4, 5, 6, 7, 8, 9, 10, 11, 12, 13, 14, 15, 16, 17, 18, 19] [0, 1, 3, 4, 5, 6, 7, 8, 9, 10, 11, 12, 13, 36, 39, 58, 85, 116, 127, 138] rfl ?_; intro K hK)
  | (refine gd_split ?_ ?_ <;> intro hb <;> (try simp only [bls] at hb) <;> (try simp only [hb]))
  | refine gRt [] [.tmp 4] rfl ?_ | refine gDn [] [.tmp 4] rfl ?_) <;> (try simp only [go_sem, simprocAttr, e4]))
  | (refine hK _ _ ?_; clear hK K; simp only [go_sem, simprocAttr])
  | refine gCd (by simp only [go_sem, simprocAttr]; rfl) rfl ?_
  | refine brT ?_ | refine brF ?_
  | (refine brS ?_ ?_ <;> intro hc <;> (try simp only [bls] at hc) <;> (try simp only [hc, bls]))
  | intro _ | refine And.intro ?_ ?_)
              refine stopE ?_; exact key.out
            · have e4 : (i : Int) < lo := by omega
              have hlg : og = true := by
                cases og
                · exact absurd ⟨by omega, rfl⟩ hgo
                · rfl
              repeat' (first
  | (refine AGood.at 21 ?_; (refine AGood.prune [0, 3, 5, 12] ?_; simp only [go_sem, simprocAttr]; refine stopI ?_))
  | refine gSq ?_ | refine gSk ?_ | refine gBl ?_ | refine gIb ?_ | refine gEx rfl ?_
  | ((first
  | (refine gRg [] [0, 1, 3, 4, 5, 6, 7, 8, 9, 10, 11, 12, 13, 36, 39, 58, 85, 116, 127, 138] ?_; intro K hK)
  | (refine gDr 3 [] 10 [0, 1, 2, 3, 4, 5, 6, 7, 8, 9] [0, 1, 3, 4, 5, 6, 7, 8, 9, 10, 11, 12, 13, 36, 39, 58, 85, 116, 127, 138] rfl ?_; intro K hK)
  | (refine gDr 12 [] 20 [0, 1, 2, 3, 4, 5, 6, 7, 8, 9, 10, 11, 12, 13, 14, 15, 16, 17, 18, 19] [0, 1, 3, 4, 5, 6, 7, 8, 9, 10, 11, 12, 13, 36, 39, 58, 85, 116, 127, 138] rfl ?_; intro K hK)
  | (refine gd_split ?_ ?_ <;> intro hb <;> (try simp only [bls] at hb) <;> (try simp only [hb]))
  | refine gRt [] [.tmp 4] rfl ?_ | refine gDn [] [.tmp 4] rfl ?_) <;> (try simp only [go_sem, simprocAttr, e4]))
  | (refine hK _ _ ?_; clear hK K; simp only [go_sem, simprocAttr])
  | refine gCd (by simp only [go_sem, simprocAttr]; rfl) rfl ?_
  | refine brT ?_ | refine brF ?_
  | (refine brS ?_ ?_ <;> intro hc <;> (try simp only [bls] at hc) <;> (try simp only [hc, bls]))
  | intro _ | refine And.intro ?_ ?_)
              all_goals first | (exfalso; exact Bool.noConfusion (hlg.symm.trans ‹og = false›)) | skip
              refine stopE ?_; exact AGood.cast key.out rfl (by rw [hlg])
          case key =>
            simp only at ho'
            obtain ⟨b, hbb⟩ : ∃ b, b = rowER pl lo xhi ((oo, og), row) := ⟨_, rfl⟩
            have b1 := rowER_len hb lo xhi ((oo, og), row) ho'
            rw [← hbb] at hS b1
            obtain ⟨b1, b2⟩ := b1
            simp only at b2
            subst hS
            by_cases c1 : xhi = -1
            · have hst := rstar_c kid hk hb g gg (oo, og) ho'
              rw [rowER, if_pos c1] at hbb
              generalize starR pl (oo, og) = a at hst hbb
              subst c1
              simp only at hbb
              subst hbb
              have hc := hcat (a.1, row ++ [a.2]) b1 (by simp; omega)
              have e15 : (ints (row ++ [a.2])).take (row.length + 1) = ints (row ++ [a.2]) := List.take_of_length_le (by simp)
              have e17 : row.length + 1 ≤ (row ++ [a.2]).length := by simp
              have e16 : ∀ k : Int, ints row ++ [[AVal.int .i64 k]] = ints (row ++ [k]) := fun k => by simp
              simp only [qsto, qbx, RPost] at hst hc ⊢
              repeat' (first
  | refine gSq ?_ | refine gSk ?_ | refine gBl ?_ | refine gIb ?_ | refine gEx rfl ?_
  | ((first
  | (refine AGood.at 25 ?_; (refine AGood.freeze 900 rfl ?_; simp only [rfT, rfS, rfO, rf, rf1, e15, e17, true_and, go_sem, simprocAttr]); (refine gRg [132] [0, 1, 3, 4, 5, 6, 7, 8, 9, 10, 11, 12, 13, 36, 39, 58, 85, 116, 127, 138] ?_; intro K hK))
  | (refine gRg [132] [0, 1, 3, 4, 5, 6, 7, 8, 9, 10, 11, 12, 13, 36, 39, 58, 85, 116, 127, 138] ?_; intro K hK)
  | (refine gDr 3 [132] 10 [0, 1, 2, 3, 4, 5, 6, 7, 8, 9] [0, 1, 3, 4, 5, 6, 7, 8, 9, 10, 11, 12, 13, 36, 39, 58, 85, 116, 127, 138] rfl ?_; intro K hK)
  | (refine gDr 12 [132] 20 [0, 1, 2, 3, 4, 5, 6, 7, 8, 9, 10, 11, 12, 13, 14, 15, 16, 17, 18, 19] [0, 1, 3, 4, 5, 6, 7, 8, 9, 10, 11, 12, 13, 36, 39, 58, 85, 116, 127, 138] rfl ?_; intro K hK)
  | (refine ACall.use [(1000, 1000), (1001, 1001)] [] rfl (hst) rfl rfl rfl ?_; (first | rintro _ _ ⟨rfl, rfl⟩ | rintro _ _ ⟨rfl, h1, rfl⟩); refine ⟨.inl rfl, rfl, ?_⟩; simp only [bk, bk2, bk1, bkS, bkO, idOf, delAll, go_sem, simprocAttr])
  | (refine ACall.use [(1000, 1000), (1001, 1001)] [] rfl (hc _) rfl rfl rfl ?_; (first | rintro _ _ ⟨rfl, rfl⟩ | rintro _ _ ⟨rfl, h1, rfl⟩); refine ⟨.inl rfl, rfl, ?_⟩; simp only [bk, bk2, bk1, bkS, bkO, idOf, delAll, go_sem, simprocAttr])
  | (refine gd_split ?_ ?_ <;> intro hb <;> (try simp only [bls] at hb) <;> (try simp only [hb]))
  | refine gRt [1000, 1001] [.tmp 4] rfl ?_ | refine gDn [1000, 1001] [.tmp 4] rfl ?_) <;> (try simp only [go_sem, simprocAttr, Int.reduceNeg, e16]))
  | (refine hK _ _ ?_; clear hK K; simp only [go_sem, simprocAttr])
  | refine gCd (by simp only [go_sem, simprocAttr]; rfl) rfl ?_
  | refine brT ?_ | refine brF ?_
  | (refine brS ?_ ?_ <;> intro hc <;> (try simp only [bls] at hc) <;> (try simp only [hc, bls]))
  | intro _ | refine And.intro ?_ ?_)
              all_goals first | omega | (unfold bigLen; omega) | exact ⟨_, _, ⟨rfl, rfl⟩, rfl⟩ | exact ⟨_, rfl⟩ | (rename_i hy; simp only [List.mem_singleton] at hy; subst hy; rfl) | with_reducible rfl | skip
            · rw [rowER, if_neg c1] at hbb
              by_cases c2 : (lo : Int) < xhi
              · rw [if_pos c2] at hbb
                obtain ⟨m, hm⟩ : ∃ m : Nat, xhi - lo = ((m + 1 : Nat) : Int) := ⟨(xhi - lo - 1).toNat, by omega⟩
                have hm2 : (xhi - lo).toNat = m + 1 := by omega
                rw [hm2] at hbb
                have hst := rrest_c kid hk hb g m (by omega) gg (oo, og) ho'
                generalize restR pl (m + 1) (oo, og) = a at hst hbb
                simp only at hbb
                subst hbb
                have hc := hcat (a.1, row ++ [a.2]) b1 (by simp; omega)
                have e15 : (ints (row ++ [a.2])).take (row.length + 1) = ints (row ++ [a.2]) := List.take_of_length_le (by simp)
                have e17 : row.length + 1 ≤ (row ++ [a.2]).length := by simp
                have e16 : ∀ k : Int, ints row ++ [[AVal.int .i64 k]] = ints (row ++ [k]) := fun k => by simp
                simp only [qsto, qbx, RPost] at hst hc ⊢
                repeat' (first
  | refine gSq ?_ | refine gSk ?_ | refine gBl ?_ | refine gIb ?_ | refine gEx rfl ?_
  | ((first
  | (refine AGood.at 25 ?_; (refine AGood.freeze 900 rfl ?_; simp only [rfT, rfS, rfO, rf, rf1, e15, e17, true_and, go_sem, simprocAttr]); (refine gRg [148] [0, 1, 3, 4, 5, 6, 7, 8, 9, 10, 11, 12, 13, 36, 39, 58, 85, 116, 127, 138] ?_; intro K hK))
  | (refine gRg [148] [0, 1, 3, 4, 5, 6, 7, 8, 9, 10, 11, 12, 13, 36, 39, 58, 85, 116, 127, 138] ?_; intro K hK)
  | (refine gDr 3 [148] 10 [0, 1, 2, 3, 4, 5, 6, 7, 8, 9] [0, 1, 3, 4, 5, 6, 7, 8, 9, 10, 11, 12, 13, 36, 39, 58, 85, 116, 127, 138] rfl ?_; intro K hK)
  | (refine gDr 12 [148] 20 [0, 1, 2, 3, 4, 5, 6, 7, 8, 9, 10, 11, 12, 13, 14, 15, 16, 17, 18, 19] [0, 1, 3, 4, 5, 6, 7, 8, 9, 10, 11, 12, 13, 36, 39, 58, 85, 116, 127, 138] rfl ?_; intro K hK)
  | (refine ACall.use [(1000, 1000), (1001, 1001)] [] rfl (hst) rfl rfl rfl ?_; (first | rintro _ _ ⟨rfl, rfl⟩ | rintro _ _ ⟨rfl, h1, rfl⟩); refine ⟨.inl rfl, rfl, ?_⟩; simp only [bk, bk2, bk1, bkS, bkO, idOf, delAll, go_sem, simprocAttr])
  | (refine ACall.use [(1000, 1000), (1001, 1001)] [] rfl (hc _) rfl rfl rfl ?_; (first | rintro _ _ ⟨rfl, rfl⟩ | rintro _ _ ⟨rfl, h1, rfl⟩); refine ⟨.inl rfl, rfl, ?_⟩; simp only [bk, bk2, bk1, bkS, bkO, idOf, delAll, go_sem, simprocAttr])
  | (refine gd_split ?_ ?_ <;> intro hb <;> (try simp only [bls] at hb) <;> (try simp only [hb]))
  | refine gRt [1000, 1001] [.tmp 4] rfl ?_ | refine gDn [1000, 1001] [.tmp 4] rfl ?_) <;> (try simp only [go_sem, simprocAttr, c1, c2, hm, e16]))
  | (refine hK _ _ ?_; clear hK K; simp only [go_sem, simprocAttr])
  | refine gCd (by simp only [go_sem, simprocAttr]; rfl) rfl ?_
  | refine brT ?_ | refine brF ?_
  | (refine brS ?_ ?_ <;> intro hc <;> (try simp only [bls] at hc) <;> (try simp only [hc, bls]))
  | intro _ | refine And.intro ?_ ?_)
                all_goals first | omega | (unfold bigLen; omega) | exact ⟨_, _, ⟨rfl, rfl⟩, rfl⟩ | exact ⟨_, rfl⟩ | (rename_i hy; simp only [List.mem_singleton] at hy; subst hy; rfl) | with_reducible rfl | skip
              · rw [if_neg c2] at hbb
                subst hbb
                have hc := hcat ((oo, og), row) b1 (by simp; omega)
                have e15 : (ints row).take row.length = ints row := List.take_of_length_le (by simp)
                simp only [qsto, qbx, RPost] at hc ⊢
                repeat' (first
  | refine gSq ?_ | refine gSk ?_ | refine gBl ?_ | refine gIb ?_ | refine gEx rfl ?_
  | ((first
  | (refine AGood.at 25 ?_; (refine AGood.freeze 900 rfl ?_; simp only [rfT, rfS, rfO, rf, rf1, e15, true_and, go_sem, simprocAttr]); (refine gRg [] [0, 1, 3, 4, 5, 6, 7, 8, 9, 10, 11, 12, 13, 36, 39, 58, 85, 116, 127, 138] ?_; intro K hK))
  | (refine gRg [] [0, 1, 3, 4, 5, 6, 7, 8, 9, 10, 11, 12, 13, 36, 39, 58, 85, 116, 127, 138] ?_; intro K hK)
  | (refine gDr 3 [] 10 [0, 1, 2, 3, 4, 5, 6, 7, 8, 9] [0, 1, 3, 4, 5, 6, 7, 8, 9, 10, 11, 12, 13, 36, 39, 58, 85, 116, 127, 138] rfl ?_; intro K hK)
  | (refine gDr 12 [] 20 [0, 1, 2, 3, 4, 5, 6, 7, 8, 9, 10, 11, 12, 13, 14, 15, 16, 17, 18, 19] [0, 1, 3, 4, 5, 6, 7, 8, 9, 10, 11, 12, 13, 36, 39, 58, 85, 116, 127, 138] rfl ?_; intro K hK)
  | (refine ACall.use [(1000, 1000), (1001, 1001)] [] rfl (hc _) rfl rfl rfl ?_; (first | rintro _ _ ⟨rfl, rfl⟩ | rintro _ _ ⟨rfl, h1, rfl⟩); refine ⟨.inl rfl, rfl, ?_⟩; simp only [bk, bk2, bk1, bkS, bkO, idOf, delAll, go_sem, simprocAttr])
  | (refine gd_split ?_ ?_ <;> intro hb <;> (try simp only [bls] at hb) <;> (try simp only [hb]))
  | refine gRt [1000, 1001] [.tmp 4] rfl ?_ | refine gDn [1000, 1001] [.tmp 4] rfl ?_) <;> (try simp only [go_sem, simprocAttr, c1, c2]))
  | (refine hK _ _ ?_; clear hK K; simp only [go_sem, simprocAttr])
  | refine gCd (by simp only [go_sem, simprocAttr]; rfl) rfl ?_
  | refine brT ?_ | refine brF ?_
  | (refine brS ?_ ?_ <;> intro hc <;> (try simp only [bls] at hc) <;> (try simp only [hc, bls]))
  | intro _ | refine And.intro ?_ ?_)
                all_goals first | omega | (unfold bigLen; omega) | exact ⟨_, _, ⟨rfl, rfl⟩, rfl⟩ | exact ⟨_, rfl⟩ | (rename_i hy; simp only [List.mem_singleton] at hy; subst hy; rfl) | with_reducible rfl | skip
end Go.Rad
/- Contracts: syntax, byte by byte: what a node has; whether nodes are a tree. -/
namespace Go.Rad
open Go Go.Proofs
set_option linter.all false
set_option maxRecDepth 20000
set_option maxHeartbeats 4000000

theorem ba_empty : (ByteArray.mk #[]) = ByteArray.empty := Eq.trans rfl rfl
theorem shape4uc (fl : Bool) (n : Node) (hn : n.name.size ≤ maxLen) : ACall Tryz.prog 56 [.agg (n.cellsF fl)] [] fun r s' => r = .bool (shapeOk n) ∧ s' = [] := by
  obtain ⟨no, ⟨na, nb, nc, nd⟩, nl, nlo, nhi, nn⟩ := n
  simp only [Node.cellsF]
  refine ACall.enter Tryz.func56 rfl (by kernel_rfl) (Nat.le_of_ble_eq_true rfl) ?_; simp only [initTm, Nat.reduceAdd]
  repeat' (first
  | refine gSq ?_ | refine gSk ?_ | refine gBl ?_ | refine gIb ?_ | refine gEx rfl ?_
  | ((first
  | (refine gRg [] [0, 1, 2, 3, 4, 5, 6, 23, 24, 42, 59, 78, 125] ?_; intro K hK)
  | refine cAl (name4uc _ hn) rfl rfl rfl ?_
  | (refine gd_split ?_ ?_ <;> intro hb <;> (try simp only [bls] at hb) <;> (try simp only [hb]))
  | refine gRt [] [.tmp 2] rfl ?_ | refine gDn [] [.tmp 2] rfl ?_) <;> (try simp only [go_sem, simprocAttr, ba_empty]))
  | (refine hK _ _ ?_; clear hK K; simp only [go_sem, simprocAttr])
  | refine gCd (by simp only [go_sem, simprocAttr]; rfl) rfl ?_
  | refine brT ?_ | refine brF ?_
  | (refine brS ?_ ?_ <;> intro hc <;> (try simp only [bls] at hc) <;> (try simp only [hc, bls]))
  | intro _ | refine And.intro ?_ ?_)
  all_goals (refine congrArg AVal.bool ?_; simp_all [shapeOk, ISet.none] <;> omega)
end Go.Rad
