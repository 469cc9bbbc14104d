/- Contracts: syntax, byte by byte: whether nodes are a tree. -/
import Derived.Test.YtejdlelhlpnabaaKRRunC
import Derived.Test.YtejdlelhlpnabaaKRNode
set_option linter.all false
namespace Go.Rad
open Go Go.Proofs
set_option linter.all false
set_option maxRecDepth 20000
set_option maxHeartbeats 4000000

theorem walk4uc (q f : Bool) (ns : List Node) (hns : ns.length ≤ 1000000) (hl : ∀ n ∈ ns, n.l.length ≤ maxLen) : ∀ (fuel at_ : Nat) (seen : List Int) (g : Nat), at_ < fuel → at_ < ns.length → seen.length ≤ 4000000 →
    ACall Try.prog 53 [.sl q f (nodes ns), .int .i64 at_, .osl 1000 g 0 seen.length] [(1000, (g, .row 1 (ints seen)))] fun r s => (walkS ns fuel at_ seen).1.length ≤ max seen.length (ns.length + at_ + 1) ∧ ∃ h, r = .tup [.osl 1000 h 0 (walkS ns fuel at_ seen).1.length, .bool (walkS ns fuel at_ seen).2] ∧ s = [(1000, (h, .row 1 (ints (walkS ns fuel at_ seen).1)))] := by
  unfold maxLen at hl
  intro fuel
  induction fuel with
  | zero => intro at_ seen g h; omega
  | succ fuel ih =>
    intro at_ seen g h1 h2 h3
    refine ACall.enter Try.func53 rfl (by kernel_rfl) (Nat.le_of_ble_eq_true rfl) ?_; simp only [initTm, Nat.reduceAdd]
    repeat' (first
  | refine gSq ?_ | refine gSk ?_ | refine gBl ?_ | refine gIb ?_ | refine gEx rfl ?_
  | ((first
  | (refine gRg [] [0, 1, 2, 6, 7, 8, 9, 10, 11, 16, 25, 42, 52] ?_; intro K hK)
  | (refine gd_split ?_ ?_ <;> intro hb <;> (try simp only [bls] at hb) <;> (try simp only [hb]))
  | refine gRt [1000] [.tmp 6, .tmp 7] rfl ?_ | refine gDn [1000] [.tmp 6, .tmp 7] rfl ?_) <;> (try simp only [go_sem, simprocAttr]))
  | (refine hK _ _ ?_; clear hK K; simp only [go_sem, simprocAttr])
  | refine gCd (by simp only [go_sem, simprocAttr]; rfl) rfl ?_
  | refine brT ?_ | refine brF ?_
  | (refine brS ?_ ?_ <;> intro hc <;> (try simp only [bls] at hc) <;> (try simp only [hc, bls]))
  | intro _ | refine And.intro ?_ ?_)
    · rw [walkS, if_pos (by omega)]; exact Nat.le_max_left _ _
    · rw [walkS, if_pos (by omega)]; exact ⟨g, rfl, rfl⟩
    have hx : ns[at_]? = some ns[at_] := List.getElem?_eq_getElem h2
    have hm := hl ns[at_] (List.getElem_mem h2)
    have hgd : ns.getD (at_ : Int).toNat default = ns[at_] := by simp [List.getD, hx]
    have hw : walkS ns (fuel + 1) at_ seen = if (ns[at_].l.foldl (kidStep (walkS ns fuel) at_) (seen, true)).2 then ((ns[at_].l.foldl (kidStep (walkS ns fuel) at_) (seen, true)).1 ++ [(at_ : Int)], true) else ns[at_].l.foldl (kidStep (walkS ns fuel) at_) (seen, true) := by
      rw [walkS, if_neg (by omega), hgd]
    rw [hw]; clear hw
    generalize ns[at_] = x at hx hm hgd
    clear hgd
    obtain ⟨xo, ⟨xa, xb, xc, xd⟩, xl, xlo, xhi, xn⟩ := x
    simp only at hm ⊢
    refine AGood.prune [0, 1, 2, 6, 7, 8] ?_; simp only [go_sem, simprocAttr]
    refine AGood.loopInv (α := Nat × List Int × Nat) (fun x => ([(0, .sl q f (nodes ns)), (1, .int .i64 at_), (2, .osl 1000 x.2.2 0 x.2.1.length), (6, .sl true true []), (7, .bool false), (8, .int .i64 x.1)], [(1000, (x.2.2, .row 1 (ints x.2.1)))]))
      (fun x => x.1 ≤ xl.length ∧ x.2.1.length ≤ ns.length + at_ ∧ (xl.take x.1).foldl (kidStep (walkS ns fuel) at_) (seen, true) = (x.2.1, true)) (fun x => xl.length - x.1) (0, seen, g) ⟨Nat.zero_le _, by simp only; omega, rfl⟩ rfl ?_
    rintro ⟨i, sn, gg⟩ ⟨hi, hs, hfold⟩ ih2
    simp only at hi hs hfold ih2 ⊢
    have e1 : (at_ : Int) < ns.length := by omega
    have e2 : (0 : Int) ≤ at_ := by omega
    by_cases hle : i < xl.length
    · have e4 : (i : Int) < xl.length := by omega
      have e5 : (0 : Int) ≤ i := by omega
      have hk : xl[i]? = some xl[i] := List.getElem?_eq_getElem hle
      generalize xl[i] = k at hk
      by_cases hbad : k < 0 ∨ (at_ : Int) ≤ k
      · have hst : kidStep (walkS ns fuel) at_ (sn, true) k = (sn, false) := by simp [kidStep, hbad]
        rw [kid_at hk hfold (by rw [hst]), hst]
        repeat' (first
  | refine gSq ?_ | refine gSk ?_ | refine gBl ?_ | refine gIb ?_ | refine gEx rfl ?_
  | ((first
  | (refine gRg [] [0, 1, 2, 6, 7, 8, 9, 10, 11, 16, 25, 42, 52] ?_; intro K hK)
  | (refine gd_split ?_ ?_ <;> intro hb <;> (try simp only [bls] at hb) <;> (try simp only [hb]))
  | refine gRt [1000] [.tmp 6, .tmp 7] rfl ?_ | refine gDn [1000] [.tmp 6, .tmp 7] rfl ?_) <;> (try simp only [go_sem, simprocAttr, e1, e2, e4, e5, hx, hk, Option.some.injEq, forall_eq']))
  | (refine hK _ _ ?_; clear hK K; simp only [go_sem, simprocAttr])
  | refine gCd (by simp only [go_sem, simprocAttr]; rfl) rfl ?_
  | refine brT ?_ | refine brF ?_
  | (refine brS ?_ ?_ <;> intro hc <;> (try simp only [bls] at hc) <;> (try simp only [hc, bls]))
  | intro _ | refine And.intro ?_ ?_)
        all_goals first | exact ⟨gg, rfl, rfl⟩ | omega
      · obtain ⟨m, rfl⟩ : ∃ m : Nat, k = m := ⟨k.toNat, by omega⟩
        have hst : kidStep (walkS ns fuel) at_ (sn, true) m = walkS ns fuel m sn := by simp [kidStep]; omega
        have e6 : ¬ (m : Int) < 0 := by omega
        have e7 : ¬ (at_ : Int) ≤ m := by omega
        have hcall := ih m sn gg (by omega) (by omega) (by omega)
        rcases hres : walkS ns fuel m sn with ⟨w, b⟩
        rw [hres] at hcall hst
        cases b
        · rw [kid_at hk hfold (by rw [hst]), hst]
          repeat' (first
  | refine gSq ?_ | refine gSk ?_ | refine gBl ?_ | refine gIb ?_ | refine gEx rfl ?_
  | ((first
  | (refine gRg [] [0, 1, 2, 6, 7, 8, 9, 10, 11, 16, 25, 42, 52] ?_; intro K hK)
  | (refine ACall.mono hcall ?_; rintro _ _ ⟨hlen, h', rfl, rfl⟩)
  | (refine gd_split ?_ ?_ <;> intro hb <;> (try simp only [bls] at hb) <;> (try simp only [hb]))
  | refine gRt [1000] [.tmp 6, .tmp 7] rfl ?_ | refine gDn [1000] [.tmp 6, .tmp 7] rfl ?_) <;> (try simp only [go_sem, simprocAttr, e1, e2, e4, e5, e6, e7, hx, hk, Option.some.injEq, forall_eq']))
  | (refine hK _ _ ?_; clear hK K; simp only [go_sem, simprocAttr])
  | refine gCd (by simp only [go_sem, simprocAttr]; rfl) rfl ?_
  | refine brT ?_ | refine brF ?_
  | (refine brS ?_ ?_ <;> intro hc <;> (try simp only [bls] at hc) <;> (try simp only [hc, bls]))
  | intro _ | refine And.intro ?_ ?_)
          all_goals (simp only at hlen; first | exact ⟨h', rfl, rfl⟩ | omega)
        · repeat' (first
  | refine gSq ?_ | refine gSk ?_ | refine gBl ?_ | refine gIb ?_ | refine gEx rfl ?_
  | ((first
  | (refine gRg [] [0, 1, 2, 6, 7, 8, 9, 10, 11, 16, 25, 42, 52] ?_; intro K hK)
  | (refine ACall.mono hcall ?_; rintro _ _ ⟨hlen, h', rfl, rfl⟩)
  | (refine gd_split ?_ ?_ <;> intro hb <;> (try simp only [bls] at hb) <;> (try simp only [hb]))
  | refine gRt [1000] [.tmp 6, .tmp 7] rfl ?_ | refine gDn [1000] [.tmp 6, .tmp 7] rfl ?_) <;> (try simp only [go_sem, simprocAttr, e1, e2, e4, e5, e6, e7, hx, hk, Option.some.injEq, forall_eq']))
  | (refine hK _ _ ?_; clear hK K; simp only [go_sem, simprocAttr])
  | refine gCd (by simp only [go_sem, simprocAttr]; rfl) rfl ?_
  | refine brT ?_ | refine brF ?_
  | (refine brS ?_ ?_ <;> intro hc <;> (try simp only [bls] at hc) <;> (try simp only [hc, bls]))
  | intro _ | refine And.intro ?_ ?_)
          · omega
          · omega
          · refine AGood.prune [0, 1, 2, 6, 7, 8] ?_; simp only [go_sem, simprocAttr]
            exact (ih2 (i + 1, w, h') ⟨by omega, by simp only at hlen ⊢; omega, by rw [take_one hk, List.foldl_append, hfold]; exact hst⟩ (by simp only; omega)).cast rfl rfl
    · have e4 : ¬ (i : Int) < xl.length := by omega
      rw [List.take_of_length_le (by omega)] at hfold
      rw [hfold]
      repeat' (first
  | refine gSq ?_ | refine gSk ?_ | refine gBl ?_ | refine gIb ?_ | refine gEx rfl ?_
  | ((first
  | (refine gRg [] [0, 1, 2, 6, 7, 8, 9, 10, 11, 16, 25, 42, 52] ?_; intro K hK)
  | (refine gd_split ?_ ?_ <;> intro hb <;> (try simp only [bls] at hb) <;> (try simp only [hb]))
  | refine gRt [1000] [.tmp 6, .tmp 7] rfl ?_ | refine gDn [1000] [.tmp 6, .tmp 7] rfl ?_) <;> (try simp only [go_sem, simprocAttr, e1, e2, e4, hx, Option.some.injEq, forall_eq']))
  | (refine hK _ _ ?_; clear hK K; simp only [go_sem, simprocAttr])
  | refine gCd (by simp only [go_sem, simprocAttr]; rfl) rfl ?_
  | refine brT ?_ | refine brF ?_
  | (refine brS ?_ ?_ <;> intro hc <;> (try simp only [bls] at hc) <;> (try simp only [hc, bls]))
  | intro _ | refine And.intro ?_ ?_)
      · rename_i y hy; simp only [List.mem_singleton] at hy; subst hy; rfl
      · rename_i y hy; simp only [List.mem_singleton] at hy; subst hy; rfl
      · unfold bigLen; omega
      · unfold bigLen; omega
      · simp only [List.length_append, List.length_cons, List.length_nil]; omega
      · rename_i h'
        exact ⟨h', by simp, by simp⟩

theorem right4uc (q f : Bool) (ns : List Node) (hl : ∀ n ∈ ns, n.l.length ≤ maxLen ∧ n.name.size ≤ maxLen) : ACall Try.prog 34 [.sl q f (nodes ns)] [] fun r s => r = .bool (right4 ns) ∧ s = [] := by
  refine ACall.enter Try.func34 rfl (by kernel_rfl) (Nat.le_of_ble_eq_true rfl) ?_; simp only [initTm, Nat.reduceAdd]
  repeat' (first
  | refine gSq ?_ | refine gSk ?_ | refine gBl ?_ | refine gIb ?_ | refine gEx rfl ?_
  | ((first
  | (refine gRg [] [0, 2, 3, 4, 5, 6, 14, 18, 26, 43, 47, 55] ?_; intro K hK)
  | (refine gd_split ?_ ?_ <;> intro hb <;> (try simp only [bls] at hb) <;> (try simp only [hb]))
  | refine gRt [] [.tmp 2] rfl ?_ | refine gDn [] [.tmp 2] rfl ?_) <;> (try simp only [go_sem, simprocAttr]))
  | (refine hK _ _ ?_; clear hK K; simp only [go_sem, simprocAttr])
  | refine gCd (by simp only [go_sem, simprocAttr]; rfl) rfl ?_
  | refine brT ?_ | refine brF ?_
  | (refine brS ?_ ?_ <;> intro hc <;> (try simp only [bls] at hc) <;> (try simp only [hc, bls]))
  | intro _ | refine And.intro ?_ ?_)
  · refine congrArg AVal.bool ?_; simp only [right4]; rw [if_pos (by omega)]
  · have hn1 : ¬ (ns.length < 1 ∨ 1024 < ns.length) := by omega
    have hr : right4 ns = (ns.all shapeOk && ((walkS ns ns.length ((ns.length : Int) - 1) []).2 && decide ((walkS ns ns.length ((ns.length : Int) - 1) []).1 = (List.range ns.length).map fun (i : Nat) => (i : Int)))) := by
      simp only [right4, if_neg hn1]
      cases ns.all shapeOk <;> simp
    rw [hr]; clear hr
    refine AGood.prune [0, 2, 3] ?_; simp only [go_sem, simprocAttr]
    refine AGood.loopInv (α := Nat) (fun i => ([(0, .sl q f (nodes ns)), (2, .bool false), (3, .int .i64 i)], [])) (fun i => i ≤ ns.length ∧ (ns.take i).all shapeOk = true) (fun i => ns.length - i) 0 ⟨Nat.zero_le _, rfl⟩ rfl ?_
    rintro i ⟨hi, hall⟩ ih
    simp only
    by_cases hle : i < ns.length
    · have e4 : (i : Int) < ns.length := by omega
      have e5 : (0 : Int) ≤ i := by omega
      have hx : ns[i]? = some ns[i] := List.getElem?_eq_getElem hle
      have hm := hl ns[i] (List.getElem_mem hle)
      generalize ns[i] = x at hx hm
      have hsh := fun fl => shape4uc fl x hm.2
      cases hok : shapeOk x
      all_goals
        rw [hok] at hsh
        obtain ⟨xo, ⟨xa, xb, xc, xd⟩, xl, xlo, xhi, xn⟩ := x
        repeat' (first
  | refine gSq ?_ | refine gSk ?_ | refine gBl ?_ | refine gIb ?_ | refine gEx rfl ?_
  | ((first
  | (refine gRg [] [0, 2, 3, 4, 5, 6, 14, 18, 26, 43, 47, 55] ?_; intro K hK)
  | refine cAl (hsh false) rfl rfl rfl ?_
  | (refine gd_split ?_ ?_ <;> intro hb <;> (try simp only [bls] at hb) <;> (try simp only [hb]))
  | refine gRt [] [.tmp 2] rfl ?_ | refine gDn [] [.tmp 2] rfl ?_) <;> (try simp only [go_sem, simprocAttr, e4, e5, hx, Option.some.injEq, forall_eq']))
  | (refine hK _ _ ?_; clear hK K; simp only [go_sem, simprocAttr])
  | refine gCd (by simp only [go_sem, simprocAttr]; rfl) rfl ?_
  | refine brT ?_ | refine brF ?_
  | (refine brS ?_ ?_ <;> intro hc <;> (try simp only [bls] at hc) <;> (try simp only [hc, bls]))
  | intro _ | refine And.intro ?_ ?_)
      · have : ns.all shapeOk = false := by
          rw [List.all_eq_false]
          exact ⟨_, List.mem_of_getElem? hx, by simp [hok]⟩
        rw [this]; rfl
      · omega
      · omega
      · refine AGood.prune [0, 2, 3] ?_; simp only [go_sem, simprocAttr]
        exact (ih (i + 1) ⟨by omega, by rw [take_one hx, List.all_append, hall]; simp [hok]⟩ (by omega)).cast rfl rfl
    · have e4 : ¬ (i : Int) < ns.length := by omega
      rw [List.take_of_length_le (by omega)] at hall
      rw [hall]
      obtain ⟨m, hm⟩ : ∃ m, ns.length = m + 1 := ⟨ns.length - 1, by omega⟩
      have e5 : (ns.length : Int) - 1 = (m : Nat) := by omega
      have hwalk := fun g => walk4uc q f ns (by omega) (fun n h => (hl n h).1) ns.length m [] g (by omega) (by omega) (Nat.zero_le _)
      rw [e5]
      rcases hres : walkS ns ns.length m [] with ⟨w, b⟩
      rw [hres] at hwalk
      simp only at hwalk
      cases b
      · repeat' (first
  | refine gSq ?_ | refine gSk ?_ | refine gBl ?_ | refine gIb ?_ | refine gEx rfl ?_
  | ((first
  | (refine gRg [] [0, 2, 3, 4, 5, 6, 14, 18, 26, 43, 47, 55] ?_; intro K hK)
  | (refine ACall.ownArg 2 1000 1 (by decide) rfl (fun g => ?_); refine ACall.mono (hwalk g) ?_; rintro _ _ ⟨hlen, h', rfl, rfl⟩)
  | (refine gd_split ?_ ?_ <;> intro hb <;> (try simp only [bls] at hb) <;> (try simp only [hb]))
  | refine gRt [] [.tmp 2] rfl ?_ | refine gDn [] [.tmp 2] rfl ?_) <;> (try simp only [go_sem, simprocAttr, e4, e5]))
  | (refine hK _ _ ?_; clear hK K; simp only [go_sem, simprocAttr])
  | refine gCd (by simp only [go_sem, simprocAttr]; rfl) rfl ?_
  | refine brT ?_ | refine brF ?_
  | (refine brS ?_ ?_ <;> intro hc <;> (try simp only [bls] at hc) <;> (try simp only [hc, bls]))
  | intro _ | refine And.intro ?_ ?_)
        · omega
        · omega
        · rfl
      · repeat' (first
  | refine gSq ?_ | refine gSk ?_ | refine gBl ?_ | refine gIb ?_ | refine gEx rfl ?_
  | ((first
  | (refine gRg [] [0, 2, 3, 4, 5, 6, 14, 18, 26, 43, 47, 55] ?_; intro K hK)
  | (refine ACall.ownArg 2 1000 1 (by decide) rfl (fun g => ?_); refine ACall.mono (hwalk g) ?_; rintro _ _ ⟨hlen, h', rfl, rfl⟩)
  | (refine gd_split ?_ ?_ <;> intro hb <;> (try simp only [bls] at hb) <;> (try simp only [hb]))
  | refine gRt [] [.tmp 2] rfl ?_ | refine gDn [] [.tmp 2] rfl ?_) <;> (try simp only [go_sem, simprocAttr, e4, e5]))
  | (refine hK _ _ ?_; clear hK K; simp only [go_sem, simprocAttr])
  | refine gCd (by simp only [go_sem, simprocAttr]; rfl) rfl ?_
  | refine brT ?_ | refine brF ?_
  | (refine brS ?_ ?_ <;> intro hc <;> (try simp only [bls] at hc) <;> (try simp only [hc, bls]))
  | intro _ | refine And.intro ?_ ?_)
        · omega
        · omega
        · refine congrArg AVal.bool ?_
          simp only [Bool.false_eq, decide_eq_false_iff_not]
          rintro rfl
          skip
          exact hc (by simp)
        · skip
          try simp only [Bool.true_and]
          refine AGood.prune [0, 2, 4, 6] ?_; simp only [go_sem, simprocAttr]
          refine AGood.loopInv (α := Nat) (fun i => ([(0, .sl q f (nodes ns)), (2, .bool false), (4, .osl 1000 h' 0 w.length), (6, .int .i64 i)], [(1000, (h', .row 1 (ints w)))])) (fun i => i ≤ w.length ∧ w.take i = (List.range i).map fun (i : Nat) => (i : Int)) (fun i => w.length - i) 0 ⟨Nat.zero_le _, rfl⟩ rfl ?_
          rintro j ⟨hj, htk⟩ ih2
          simp only
          by_cases hle2 : j < w.length
          · have f4 : (j : Int) < w.length := by omega
            have f5 : (0 : Int) ≤ j := by omega
            have hk : w[j]? = some w[j] := List.getElem?_eq_getElem hle2
            generalize w[j] = k at hk
            by_cases hkj : k = j
            · repeat' (first
  | refine gSq ?_ | refine gSk ?_ | refine gBl ?_ | refine gIb ?_ | refine gEx rfl ?_
  | ((first
  | (refine gRg [] [0, 2, 3, 4, 5, 6, 14, 18, 26, 43, 47, 55] ?_; intro K hK)
  | (refine gd_split ?_ ?_ <;> intro hb <;> (try simp only [bls] at hb) <;> (try simp only [hb]))
  | refine gRt [] [.tmp 2] rfl ?_ | refine gDn [] [.tmp 2] rfl ?_) <;> (try simp only [go_sem, simprocAttr, f4, f5, hk, hkj, hle2, Option.some.injEq, forall_eq']))
  | (refine hK _ _ ?_; clear hK K; simp only [go_sem, simprocAttr])
  | refine gCd (by simp only [go_sem, simprocAttr]; rfl) rfl ?_
  | refine brT ?_ | refine brF ?_
  | (refine brS ?_ ?_ <;> intro hc <;> (try simp only [bls] at hc) <;> (try simp only [hc, bls]))
  | intro _ | refine And.intro ?_ ?_)
              · omega
              · omega
              · refine AGood.prune [0, 2, 4, 6] ?_; simp only [go_sem, simprocAttr]
                exact (ih2 (j + 1) ⟨by omega, by rw [take_one hk, htk, hkj, List.range_succ]; simp⟩ (by omega)).cast rfl rfl
            · repeat' (first
  | refine gSq ?_ | refine gSk ?_ | refine gBl ?_ | refine gIb ?_ | refine gEx rfl ?_
  | ((first
  | (refine gRg [] [0, 2, 3, 4, 5, 6, 14, 18, 26, 43, 47, 55] ?_; intro K hK)
  | (refine gd_split ?_ ?_ <;> intro hb <;> (try simp only [bls] at hb) <;> (try simp only [hb]))
  | refine gRt [] [.tmp 2] rfl ?_ | refine gDn [] [.tmp 2] rfl ?_) <;> (try simp only [go_sem, simprocAttr, f4, f5, hk, hkj, hle2, Option.some.injEq, forall_eq']))
  | (refine hK _ _ ?_; clear hK K; simp only [go_sem, simprocAttr])
  | refine gCd (by simp only [go_sem, simprocAttr]; rfl) rfl ?_
  | refine brT ?_ | refine brF ?_
  | (refine brS ?_ ?_ <;> intro hc <;> (try simp only [bls] at hc) <;> (try simp only [hc, bls]))
  | intro _ | refine And.intro ?_ ?_)
              refine congrArg AVal.bool ?_
              simp only [Bool.false_eq, decide_eq_false_iff_not]
              intro hw
              rw [hw] at hk
              exact hkj (rg_get hk)
          · have f4 : ¬ (j : Int) < w.length := by omega
            rw [List.take_of_length_le (by omega)] at htk
            have hjn : j = ns.length := by omega
            subst hjn
            repeat' (first
  | refine gSq ?_ | refine gSk ?_ | refine gBl ?_ | refine gIb ?_ | refine gEx rfl ?_
  | ((first
  | (refine gRg [] [0, 2, 3, 4, 5, 6, 14, 18, 26, 43, 47, 55] ?_; intro K hK)
  | (refine gd_split ?_ ?_ <;> intro hb <;> (try simp only [bls] at hb) <;> (try simp only [hb]))
  | refine gRt [] [.tmp 2] rfl ?_ | refine gDn [] [.tmp 2] rfl ?_) <;> (try simp only [go_sem, simprocAttr, f4]))
  | (refine hK _ _ ?_; clear hK K; simp only [go_sem, simprocAttr])
  | refine gCd (by simp only [go_sem, simprocAttr]; rfl) rfl ?_
  | refine brT ?_ | refine brF ?_
  | (refine brS ?_ ?_ <;> intro hc <;> (try simp only [bls] at hc) <;> (try simp only [hc, bls]))
  | intro _ | refine And.intro ?_ ?_)
            rw [htk]; simp
  · refine congrArg AVal.bool ?_; simp only [right4]; rw [if_pos (by omega)]
end Go.Rad
/- Contracts: the document's print: letters, digits. -/
namespace Go.Rad
open Go Go.Proofs
set_option linter.all false
set_option maxRecDepth 20000
set_option maxHeartbeats 4000000

abbrev tSpec : ByteArray := ⟨#[124, 42, 43, 63, 123, 125, 40, 41, 91, 93, 46, 92, 47, 36, 94, 34, 45]⟩
theorem spec_no (c : Nat) (h1 : 97 ≤ c) (h2 : c ≤ 122) : ∀ i : Nat, i < 17 → ¬ sbyte tSpec i = (c : Int) := by
  intro i hi
  have key : ∀ i : Nat, i < 17 → sbyte tSpec i < 97 ∨ 122 < sbyte tSpec i := by decide +kernel
  have := key i hi
  omega
theorem letter_c (c : Nat) (h1 : 97 ≤ c) (h2 : c ≤ 122) : ACall Try.prog 87 [.int .u8 c] [] fun r s => r = .str ⟨#[UInt8.ofNat c]⟩ ∧ s = [] := by
  have hsz : (17 : Int) = tSpec.size := rfl
  have k1 : ¬ (c : Int) = 10 := by omega
  have k2 : ¬ (c : Int) = 9 := by omega
  have k3 : ¬ (c : Int) = 13 := by omega
  have k4 : ¬ (c : Int) < 32 := by omega
  have k5 : ¬ (126 : Int) < c := by omega
  refine ACall.enter Try.func87 rfl (by kernel_rfl) (Nat.le_of_ble_eq_true rfl) ?_; simp only [initTm, Nat.reduceAdd]
  repeat' (first
  | refine gSq ?_ | refine gSk ?_ | refine gBl ?_ | refine gIb ?_ | refine gEx rfl ?_
  | ((first
  | (refine gRg [] [0, 2, 3, 4, 5, 9, 16, 23, 24, 26, 28, 35] ?_; intro K hK)
  | (refine gDr 16 [] 17 [0, 1, 2, 3, 4, 5, 6, 7, 8, 9, 10, 11, 12, 13, 14, 15, 16] [0, 2, 3, 4, 5, 9, 16, 23, 24, 26, 28, 35] rfl ?_; intro K hK)
  | (refine gd_split ?_ ?_ <;> intro hb <;> (try simp only [bls] at hb) <;> (try simp only [hb]))
  | refine gRt [] [.tmp 2] rfl ?_ | refine gDn [] [.tmp 2] rfl ?_) <;> (try simp only [go_sem, simprocAttr]))
  | (refine hK _ _ ?_; clear hK K; simp only [go_sem, simprocAttr])
  | refine gCd (by simp only [go_sem, simprocAttr]; rfl) rfl ?_
  | refine brT ?_ | refine brF ?_
  | (refine brS ?_ ?_ <;> intro hc <;> (try simp only [bls] at hc) <;> (try simp only [hc, bls]))
  | intro _ | refine And.intro ?_ ?_)
  all_goals first | omega | (unfold bigLen; omega) | exact ⟨_, _, ⟨rfl, rfl⟩, rfl⟩ | exact ⟨_, rfl⟩ | (rename_i hy; simp only [List.mem_singleton] at hy; subst hy; rfl) | with_reducible rfl | skip
  refine AGood.prune [0, 2, 3, 4] ?_; simp only [go_sem, simprocAttr]
  refine AGood.loopInv (α := Nat) (fun x => ([(0, .int .u8 c), (2, .str ByteArray.empty), (3, .str tSpec), (4, .int .i64 x)], [])) (fun x => x ≤ 17) (fun x => 17 - x) 0 (Nat.zero_le _) rfl ?_
  rintro i hi ih
  simp only at hi ih ⊢
  have hs : ((tSpec.size : Nat) : Int) = 17 := rfl
  by_cases hle : i < 17
  · have e4 : (i : Int) < 17 := by omega
    have e5 : (0 : Int) ≤ i := by omega
    have e6 : (i : Int) + 1 = ((i + 1 : Nat) : Int) := by omega
    have e7 := spec_no c h1 h2 i hle
    repeat' (first
  | refine gSq ?_ | refine gSk ?_ | refine gBl ?_ | refine gIb ?_ | refine gEx rfl ?_
  | ((first
  | (refine gRg [] [0, 2, 3, 4, 5, 9, 16, 23, 24, 26, 28, 35] ?_; intro K hK)
  | (refine gDr 16 [] 17 [0, 1, 2, 3, 4, 5, 6, 7, 8, 9, 10, 11, 12, 13, 14, 15, 16] [0, 2, 3, 4, 5, 9, 16, 23, 24, 26, 28, 35] rfl ?_; intro K hK)
  | (refine gd_split ?_ ?_ <;> intro hb <;> (try simp only [bls] at hb) <;> (try simp only [hb]))
  | refine gRt [] [.tmp 2] rfl ?_ | refine gDn [] [.tmp 2] rfl ?_) <;> (try simp only [go_sem, simprocAttr, hs, e4, e5, e6, e7]))
  | (refine hK _ _ ?_; clear hK K; simp only [go_sem, simprocAttr])
  | refine gCd (by simp only [go_sem, simprocAttr]; rfl) rfl ?_
  | refine brT ?_ | refine brF ?_
  | (refine brS ?_ ?_ <;> intro hc <;> (try simp only [bls] at hc) <;> (try simp only [hc, bls]))
  | intro _ | refine And.intro ?_ ?_)
    all_goals first | omega | (unfold bigLen; omega) | exact ⟨_, _, ⟨rfl, rfl⟩, rfl⟩ | exact ⟨_, rfl⟩ | (rename_i hy; simp only [List.mem_singleton] at hy; subst hy; rfl) | with_reducible rfl | skip
    refine AGood.filt [] ?_
    simp only [sf_cons, sf_nil, go_sem, simprocAttr]
    refine AGood.prune [0, 2, 3, 4] ?_; simp only [go_sem, simprocAttr]
    exact (ih (i + 1) (by omega) (by omega)).cast rfl rfl
  · have e4 : ¬ (i : Int) < 17 := by omega
    clear ih
    repeat' (first
  | refine gSq ?_ | refine gSk ?_ | refine gBl ?_ | refine gIb ?_ | refine gEx rfl ?_
  | ((first
  | (refine gRg [53] [0, 2, 3, 4, 5, 9, 16, 23, 24, 26, 28, 35] ?_; intro K hK)
  | (refine gDr 16 [53] 17 [0, 1, 2, 3, 4, 5, 6, 7, 8, 9, 10, 11, 12, 13, 14, 15, 16] [0, 2, 3, 4, 5, 9, 16, 23, 24, 26, 28, 35] rfl ?_; intro K hK)
  | (refine gd_split ?_ ?_ <;> intro hb <;> (try simp only [bls] at hb) <;> (try simp only [hb]))
  | refine gRt [] [.tmp 2] rfl ?_ | refine gDn [] [.tmp 2] rfl ?_) <;> (try simp only [go_sem, simprocAttr, hs, e4, k1, k2, k3, k4, k5, Int.toNat_natCast]))
  | (refine hK _ _ ?_; clear hK K; simp only [go_sem, simprocAttr])
  | refine gCd (by simp only [go_sem, simprocAttr]; rfl) rfl ?_
  | refine brT ?_ | refine brF ?_
  | (refine brS ?_ ?_ <;> intro hc <;> (try simp only [bls] at hc) <;> (try simp only [hc, bls]))
  | intro _ | refine And.intro ?_ ?_)
    all_goals first | omega | (unfold bigLen; omega) | exact ⟨_, _, ⟨rfl, rfl⟩, rfl⟩ | exact ⟨_, rfl⟩ | (rename_i hy; simp only [List.mem_singleton] at hy; subst hy; rfl) | with_reducible rfl | skip
theorem digit_c (n : Nat) (h : n ≤ 9) : ACall Try.prog 91 [.int .i64 n] [] fun r s => r = .str ⟨#[UInt8.ofNat (48 + n)]⟩ ∧ s = [] := by
  have k1 : ¬ (9 : Int) < n := by omega
  have k2 : (48 : Int) + n = ((48 + n : Nat) : Int) := by omega
  have k3 := wr_u8n (n := 48 + n) (by omega)
  refine ACall.enter Try.func91 rfl (by kernel_rfl) (Nat.le_of_ble_eq_true rfl) ?_; simp only [initTm, Nat.reduceAdd]
  repeat' (first
  | refine gSq ?_ | refine gSk ?_ | refine gBl ?_ | refine gIb ?_ | refine gEx rfl ?_
  | ((first
  | (refine gRg [15] [0, 2, 4] ?_; intro K hK)
  | (refine gd_split ?_ ?_ <;> intro hb <;> (try simp only [bls] at hb) <;> (try simp only [hb]))
  | refine gRt [] [.tmp 2] rfl ?_ | refine gDn [] [.tmp 2] rfl ?_) <;> (try simp only [go_sem, simprocAttr, k1, k2, k3, Int.toNat_natCast]))
  | (refine hK _ _ ?_; clear hK K; simp only [go_sem, simprocAttr])
  | refine gCd (by simp only [go_sem, simprocAttr]; rfl) rfl ?_
  | refine brT ?_ | refine brF ?_
  | (refine brS ?_ ?_ <;> intro hc <;> (try simp only [bls] at hc) <;> (try simp only [hc, bls]))
  | intro _ | refine And.intro ?_ ?_)
  all_goals first | omega | (unfold bigLen; omega) | exact ⟨_, _, ⟨rfl, rfl⟩, rfl⟩ | exact ⟨_, rfl⟩ | (rename_i hy; simp only [List.mem_singleton] at hy; subst hy; rfl) | with_reducible rfl | skip
end Go.Rad
/- Contracts: plan: nodes are put. -/
namespace Go.Rad
open Go Go.Proofs
set_option linter.all false
set_option maxRecDepth 20000
set_option maxHeartbeats 4000000

abbrev pbx (q f : Bool) (l : List Node) (most : Int) (g1 n : Nat) : AObj := .box [.sl q f (nodes l), .int .i64 most, .osl 1001 g1 0 n]
abbrev psto (q f : Bool) (l : List Node) (most : Int) (g g1 : Nat) (out : List Node) : Sto := [(1000, (g, pbx q f l most g1 out.length)), (1001, (g1, .row 9 (nodes out)))]
theorem pput_c (q f f' : Bool) (l : List Node) (most : Int) (g g1 : Nat) (op : Int) (ks : List Int) (out : List Node) (ho : out.length ≤ 100000000) :
    ACall Try.prog 58 [.bx 1000 g 0, .int .u8 op, .sl true f' (ints ks)] (psto q f l most g g1 out) fun r s => r = .int .i64 (pushP (opNd op ks) out).2 ∧ ∃ h1, s = psto q f l most g h1 (pushP (opNd op ks) out).1 := by
  simp only [psto, pbx, pushP]
  refine ACall.enter Try.func58 rfl (by kernel_rfl) (Nat.le_of_ble_eq_true rfl) ?_; simp only [initTm, Nat.reduceAdd]
  repeat' (first
  | refine gSq ?_ | refine gSk ?_ | refine gBl ?_ | refine gIb ?_ | refine gEx rfl ?_
  | ((first
  | (refine gRg [15] [0, 1, 2, 6] ?_; intro K hK)
  | (refine gd_split ?_ ?_ <;> intro hb <;> (try simp only [bls] at hb) <;> (try simp only [hb]))
  | refine gRt [1000, 1001] [.tmp 6] rfl ?_ | refine gDn [1000, 1001] [.tmp 6] rfl ?_) <;> (try simp only [go_sem, simprocAttr]))
  | (refine hK _ _ ?_; clear hK K; simp only [go_sem, simprocAttr])
  | refine gCd (by simp only [go_sem, simprocAttr]; rfl) rfl ?_
  | refine brT ?_ | refine brF ?_
  | (refine brS ?_ ?_ <;> intro hc <;> (try simp only [bls] at hc) <;> (try simp only [hc, bls]))
  | intro _ | refine And.intro ?_ ?_)
  all_goals first | omega | (unfold bigLen; omega) | exact ⟨_, _, ⟨rfl, rfl⟩, rfl⟩ | exact ⟨_, rfl⟩ | (rename_i hy; simp only [List.mem_singleton] at hy; subst hy; rfl) | with_reducible rfl | skip
  · congr 1; omega
  · rename_i h; exact ⟨h, by simp [ISet.none]⟩
theorem pfull_c (q f : Bool) (l : List Node) (most : Int) (g g1 : Nat) (out : List Node) (ho : out.length ≤ 100000000) :
    ACall Try.prog 39 [.bx 1000 g 0] (psto q f l most g g1 out) fun r s => r = .bool (decide (1024 < out.length)) ∧ s = psto q f l most g g1 out := by
  simp only [psto, pbx]
  refine ACall.enter Try.func39 rfl (by kernel_rfl) (Nat.le_of_ble_eq_true rfl) ?_; simp only [initTm, Nat.reduceAdd]
  repeat' (first
  | refine gSq ?_ | refine gSk ?_ | refine gBl ?_ | refine gIb ?_ | refine gEx rfl ?_
  | ((first
  | (refine gRg [] [0, 2] ?_; intro K hK)
  | (refine gd_split ?_ ?_ <;> intro hb <;> (try simp only [bls] at hb) <;> (try simp only [hb]))
  | refine gRt [1000, 1001] [.tmp 2] rfl ?_ | refine gDn [1000, 1001] [.tmp 2] rfl ?_) <;> (try simp only [go_sem, simprocAttr]))
  | (refine hK _ _ ?_; clear hK K; simp only [go_sem, simprocAttr])
  | refine gCd (by simp only [go_sem, simprocAttr]; rfl) rfl ?_
  | refine brT ?_ | refine brF ?_
  | (refine brS ?_ ?_ <;> intro hc <;> (try simp only [bls] at hc) <;> (try simp only [hc, bls]))
  | intro _ | refine And.intro ?_ ?_)
  all_goals first | omega | (unfold bigLen; omega) | exact ⟨_, _, ⟨rfl, rfl⟩, rfl⟩ | exact ⟨_, rfl⟩ | (rename_i hy; simp only [List.mem_singleton] at hy; subst hy; rfl) | with_reducible rfl | skip
  simp; omega
theorem ptimes_c (q f : Bool) (l : List Node) (most : Int) (g g1 : Nat) (lo hi k : Int) (out : List Node) (ho : out.length ≤ 100000000) :
    ACall Try.prog 71 [.bx 1000 g 0, .int .i64 lo, .int .i64 hi, .int .i64 k] (psto q f l most g g1 out) fun r s => r = .int .i64 (pushP (repNd lo hi k) out).2 ∧ ∃ h1, s = psto q f l most g h1 (pushP (repNd lo hi k) out).1 := by
  have hcall := pput_c q f false l most g g1 5 [k] out ho
  simp only [psto, pbx, pushP] at hcall ⊢
  refine ACall.enter Try.func71 rfl (by kernel_rfl) (Nat.le_of_ble_eq_true rfl) ?_; simp only [initTm, Nat.reduceAdd]
  repeat' (first
  | refine gSq ?_ | refine gSk ?_ | refine gBl ?_ | refine gIb ?_ | refine gEx rfl ?_
  | ((first
  | (refine gRg [12] [0, 1, 2, 3, 8, 9] ?_; intro K hK)
  | (refine gDr 2 [12] 14 [0, 1, 2, 3, 4, 5, 6, 7, 8, 9, 10, 11, 12, 13, 14, 15, 16, 17] [0, 1, 2, 3, 8, 9] rfl ?_; intro K hK)
  | (refine ACall.use [(1000, 1000), (1001, 1001)] [] rfl hcall rfl rfl rfl ?_; rintro _ _ ⟨rfl, h1, rfl⟩; refine ⟨.inl rfl, rfl, ?_⟩; simp only [bk, bk1, bkS, bkO, idOf, delAll, go_sem, simprocAttr])
  | (refine gd_split ?_ ?_ <;> intro hb <;> (try simp only [bls] at hb) <;> (try simp only [hb]))
  | refine gRt [1000, 1001] [.tmp 8] rfl ?_ | refine gDn [1000, 1001] [.tmp 8] rfl ?_) <;> (try simp only [go_sem, simprocAttr, nodes_last, nodes_set, row_last, row_set, last_ltI, last_ltN, row_ltN, Option.some.injEq, forall_eq']))
  | (refine hK _ _ ?_; clear hK K; simp only [go_sem, simprocAttr])
  | refine gCd (by simp only [go_sem, simprocAttr]; rfl) rfl ?_
  | refine brT ?_ | refine brF ?_
  | (refine brS ?_ ?_ <;> intro hc <;> (try simp only [bls] at hc) <;> (try simp only [hc, bls]))
  | intro _ | refine And.intro ?_ ?_)
  all_goals first | omega | (unfold bigLen; omega) | exact ⟨_, _, ⟨rfl, rfl⟩, rfl⟩ | exact ⟨_, rfl⟩ | (rename_i hy; simp only [List.mem_singleton] at hy; subst hy; rfl) | with_reducible rfl | skip
  exact ⟨h1, by simp⟩
end Go.Rad
/- Contracts: plan: counted repetitions, and those of up to so many times. -/
namespace Go.Rad
open Go Go.Proofs
set_option linter.all false
set_option maxRecDepth 20000
set_option maxHeartbeats 4000000

/-- What a kid's plan does. -/
def KidC (P : Program) (fno : Nat) (q f : Bool) (l : List Node) (most : Int) (pl : List Node → PO) (kid : Int) : Prop :=
  ∀ (g g1 : Nat) (out : List Node), out.length ≤ 90000000 → ACall P fno [.bx 1000 g 0, .int .i64 kid] (psto q f l most g g1 out) fun r s => r = .int .i64 (pl out).2 ∧ ∃ h1, s = psto q f l most g h1 (pl out).1
theorem pcounted_c {q f : Bool} {l : List Node} {most : Int} {pl : List Node → PO} {C : Nat} (n : Node) (kid : Int) (hn : n.l = [kid]) (hk : KidC Try.prog 38 q f l most pl kid) (hb : PBd pl C) (hC : C ≤ 80000000) (g g1 : Nat) (out : List Node) (ho : out.length ≤ C) :
    ACall Try.prog 70 [.bx 1000 g 0, .agg n.cells] (psto q f l most g g1 out) fun r s => r = .int .i64 (cntM pl n.lo n.hi out).2 ∧ ∃ h1, s = psto q f l most g h1 (cntM pl n.lo n.hi out).1 := by
  obtain ⟨xo, ⟨xa, xb, xc, xd⟩, xl, xlo, xhi, xn⟩ := n
  simp only at hn
  have hx0 : xl[0]? = some kid := by rw [hn]; rfl
  have e0 : (0 : Int) < xl.length := by rw [hn]; exact Int.one_pos
  clear hn
  have b1 := hb out
  have b2 := hb (out ++ [opNd 1 []])
  have el : (out ++ [opNd 1 []]).length = out.length + 1 := by simp
  rw [el] at b2
  simp only [Node.cells, Node.cellsF, cntM]
  by_cases h0 : 0 < xlo
  · rw [if_pos h0]
    have hp := hk g g1 out (by omega)
    have ht := fun h1 => ptimes_c q f l most g h1 xlo xhi (pl out).2 (pl out).1 (by omega)
    simp only [psto, pbx] at hp ht ⊢
    refine ACall.enter Try.func70 rfl (by kernel_rfl) (Nat.le_of_ble_eq_true rfl) ?_; simp only [initTm, Nat.reduceAdd]
    repeat' (first
  | refine gSq ?_ | refine gSk ?_ | refine gBl ?_ | refine gIb ?_ | refine gEx rfl ?_
  | ((first
  | (refine AGood.at 2 ?_; refine AGood.boxRef 3 3 rfl rfl rfl ?_; simp only [go_sem, simprocAttr]; (refine gDl 2 [] 10 [0, 1, 2, 3, 4, 5, 6, 7, 8, 9, 10, 11, 12] [] [10, 12] [0, 1, 3, 4, 5, 8] rfl ?_; intro K hK))
  | (refine gRg [] [0, 1, 3, 4, 5, 8] ?_; intro K hK)
  | (refine gDr 4 [] 10 [0, 1, 2, 3, 4, 5, 6, 7, 8, 9, 10, 11, 12, 13, 14] [0, 1, 3, 4, 5, 8] rfl ?_; intro K hK)
  | (refine ACall.use [(1000, 1000), (1001, 1001)] [] rfl hp rfl rfl rfl ?_; rintro _ _ ⟨rfl, h1, rfl⟩; refine ⟨.inl rfl, rfl, ?_⟩; simp only [bk, bk1, bkS, bkO, idOf, delAll, go_sem, simprocAttr])
  | (refine ACall.use [(1000, 1000), (1001, 1001)] [] rfl (ht _) rfl rfl rfl ?_; rintro _ _ ⟨rfl, h2, rfl⟩; refine ⟨.inl rfl, rfl, ?_⟩; simp only [bk, bk1, bkS, bkO, idOf, delAll, go_sem, simprocAttr])
  | (refine gd_split ?_ ?_ <;> intro hb <;> (try simp only [bls] at hb) <;> (try simp only [hb]))
  | refine gRt [1000, 1001] [.tmp 4] rfl ?_ | refine gDn [1000, 1001] [.tmp 4] rfl ?_) <;> (try simp only [go_sem, simprocAttr, h0, hx0, e0, Option.some.injEq, forall_eq']))
  | (refine hK _ _ ?_; clear hK K; simp only [go_sem, simprocAttr])
  | refine gCd (by simp only [go_sem, simprocAttr]; rfl) rfl ?_
  | refine brT ?_ | refine brF ?_
  | (refine brS ?_ ?_ <;> intro hc <;> (try simp only [bls] at hc) <;> (try simp only [hc, bls]))
  | intro _ | refine And.intro ?_ ?_)
    all_goals first | omega | (unfold bigLen; omega) | exact ⟨_, _, ⟨rfl, rfl⟩, rfl⟩ | exact ⟨_, rfl⟩ | (rename_i hy; simp only [List.mem_singleton] at hy; subst hy; rfl) | with_reducible rfl | skip
  · rw [if_neg h0]
    have he := pput_c q f true l most g g1 1 [] out (by omega)
    have hp := fun h1 => hk g h1 (out ++ [opNd 1 []]) (by omega)
    have ht := fun h1 => ptimes_c q f l most g h1 1 xhi (pl (out ++ [opNd 1 []])).2 (pl (out ++ [opNd 1 []])).1 (by omega)
    have ha := fun h1 => pput_c q f false l most g h1 4 [out.length, (pl (out ++ [opNd 1 []])).1.length] ((pl (out ++ [opNd 1 []])).1 ++ [repNd 1 xhi (pl (out ++ [opNd 1 []])).2]) (by simp only [List.length_append, List.length_cons, List.length_nil]; omega)
    simp only [psto, pbx, pushP] at he hp ht ha ⊢
    refine ACall.enter Try.func70 rfl (by kernel_rfl) (Nat.le_of_ble_eq_true rfl) ?_; simp only [initTm, Nat.reduceAdd]
    repeat' (first
  | refine gSq ?_ | refine gSk ?_ | refine gBl ?_ | refine gIb ?_ | refine gEx rfl ?_
  | ((first
  | (refine AGood.at 4 ?_; refine AGood.boxRef 3 3 rfl rfl rfl ?_; simp only [go_sem, simprocAttr]; (refine gDl 4 [35] 10 [0, 1, 2, 3, 4, 5, 6, 7, 8, 9, 10, 11, 12, 13, 14] [] [26] [0, 1, 3, 4, 5, 8] rfl ?_; intro K hK))
  | (refine gRg [35] [0, 1, 3, 4, 5, 8] ?_; intro K hK)
  | (refine gDr 2 [35] 10 [0, 1, 2, 3, 4, 5, 6, 7, 8, 9, 10, 11, 12] [0, 1, 3, 4, 5, 8] rfl ?_; intro K hK)
  | (refine ACall.use [(1000, 1000), (1001, 1001)] [] rfl he rfl rfl rfl ?_; rintro _ _ ⟨rfl, h1, rfl⟩; refine ⟨.inl rfl, rfl, ?_⟩; simp only [bk, bk1, bkS, bkO, idOf, delAll, go_sem, simprocAttr])
  | (refine ACall.use [(1000, 1000), (1001, 1001)] [] rfl (hp _) rfl rfl rfl ?_; rintro _ _ ⟨rfl, h1, rfl⟩; refine ⟨.inl rfl, rfl, ?_⟩; simp only [bk, bk1, bkS, bkO, idOf, delAll, go_sem, simprocAttr])
  | (refine ACall.use [(1000, 1000), (1001, 1001)] [] rfl (ht _) rfl rfl rfl ?_; rintro _ _ ⟨rfl, h2, rfl⟩; refine ⟨.inl rfl, rfl, ?_⟩; simp only [bk, bk1, bkS, bkO, idOf, delAll, go_sem, simprocAttr])
  | (refine ACall.use [(1000, 1000), (1001, 1001)] [] rfl (ha _) rfl rfl rfl ?_; rintro _ _ ⟨rfl, h2, rfl⟩; refine ⟨.inl rfl, rfl, ?_⟩; simp only [bk, bk1, bkS, bkO, idOf, delAll, go_sem, simprocAttr])
  | (refine gd_split ?_ ?_ <;> intro hb <;> (try simp only [bls] at hb) <;> (try simp only [hb]))
  | refine gRt [1000, 1001] [.tmp 4] rfl ?_ | refine gDn [1000, 1001] [.tmp 4] rfl ?_) <;> (try simp only [go_sem, simprocAttr, h0, hx0, e0, Option.some.injEq, forall_eq']))
  | (refine hK _ _ ?_; clear hK K; simp only [go_sem, simprocAttr])
  | refine gCd (by simp only [go_sem, simprocAttr]; rfl) rfl ?_
  | refine brT ?_ | refine brF ?_
  | (refine brS ?_ ?_ <;> intro hc <;> (try simp only [bls] at hc) <;> (try simp only [hc, bls]))
  | intro _ | refine And.intro ?_ ?_)
    all_goals first | omega | (unfold bigLen; omega) | exact ⟨_, _, ⟨rfl, rfl⟩, rfl⟩ | exact ⟨_, rfl⟩ | (rename_i hy; simp only [List.mem_singleton] at hy; subst hy; rfl) | with_reducible rfl | skip
end Go.Rad
/- Contracts: plan: what is written out. -/
namespace Go.Rad
open Go Go.Proofs
set_option linter.all false
set_option maxRecDepth 20000
set_option maxHeartbeats 4000000

theorem prest_c {q f : Bool} {l : List Node} {most : Int} {pl : List Node → PO} {C : Nat} (kid : Int) (hk : KidC Try.prog 38 q f l most pl kid) (hb : PBd pl C) (hC0 : 1024 ≤ C) (hC : C ≤ 80000000) (g : Nat) : ∀ (m : Nat), m < 4096 → ∀ (g1 : Nat) (out : List Node), out.length ≤ C →
    ACall Try.prog 83 [.bx 1000 g 0, .int .i64 kid, .int .i64 (m + 1 : Nat)] (psto q f l most g g1 out) fun r s => r = .int .i64 (restM pl (m + 1) out).2 ∧ ∃ h1, s = psto q f l most g h1 (restM pl (m + 1) out).1 := by
  intro m
  induction m with
  | zero =>
    intro hm g1 out ho
    have b2 := hb (out ++ [opNd 1 []])
    have el : (out ++ [opNd 1 []]).length = out.length + 1 := by simp
    rw [el] at b2
    have he := pput_c q f true l most g g1 1 [] out (by omega)
    have hfu := fun h1 => pfull_c q f l most g h1 (out ++ [opNd 1 []]) (by omega)
    rw [el] at hfu
    rw [restM]
    by_cases h0 : 1024 ≤ out.length
    · rw [if_pos h0]
      rw [show decide (1024 < out.length + 1) = true by simp; omega] at hfu
      simp only [psto, pbx, pushP] at he hfu ⊢
      refine ACall.enter Try.func83 rfl (by kernel_rfl) (Nat.le_of_ble_eq_true rfl) ?_; simp only [initTm, Nat.reduceAdd]
      repeat' (first
  | refine gSq ?_ | refine gSk ?_ | refine gBl ?_ | refine gIb ?_ | refine gEx rfl ?_
  | ((first
  | (refine gRg [] [0, 1, 2, 6, 7, 8, 12, 18] ?_; intro K hK)
  | (refine ACall.use [(1000, 1000), (1001, 1001)] [] rfl he rfl rfl rfl ?_; rintro _ _ ⟨rfl, h1, rfl⟩; refine ⟨.inl rfl, rfl, ?_⟩; simp only [bk, bk1, bkS, bkO, idOf, delAll, go_sem, simprocAttr])
  | (refine ACall.use [(1000, 1000), (1001, 1001)] [] rfl (hfu _) rfl rfl rfl ?_; rintro _ _ ⟨rfl, rfl⟩; refine ⟨.inl rfl, rfl, ?_⟩; simp only [bk, bk1, bkS, bkO, idOf, delAll, go_sem, simprocAttr])
  | (refine gd_split ?_ ?_ <;> intro hb <;> (try simp only [bls] at hb) <;> (try simp only [hb]))
  | refine gRt [1000, 1001] [.tmp 6] rfl ?_ | refine gDn [1000, 1001] [.tmp 6] rfl ?_) <;> (try simp only [go_sem, simprocAttr]))
  | (refine hK _ _ ?_; clear hK K; simp only [go_sem, simprocAttr])
  | refine gCd (by simp only [go_sem, simprocAttr]; rfl) rfl ?_
  | refine brT ?_ | refine brF ?_
  | (refine brS ?_ ?_ <;> intro hc <;> (try simp only [bls] at hc) <;> (try simp only [hc, bls]))
  | intro _ | refine And.intro ?_ ?_)
      all_goals first | omega | (unfold bigLen; omega) | exact ⟨_, _, ⟨rfl, rfl⟩, rfl⟩ | exact ⟨_, rfl⟩ | (rename_i hy; simp only [List.mem_singleton] at hy; subst hy; rfl) | with_reducible rfl | skip
    · rw [if_neg h0]
      rw [show decide (1024 < out.length + 1) = false by simp; omega] at hfu
      have hp := fun h1 => hk g h1 (out ++ [opNd 1 []]) (by omega)
      have ha := fun h1 => pput_c q f false l most g h1 4 [out.length, (pl (out ++ [opNd 1 []])).2] (pl (out ++ [opNd 1 []])).1 (by omega)
      simp only [if_true]
      simp only [psto, pbx, pushP] at he hfu hp ha ⊢
      refine ACall.enter Try.func83 rfl (by kernel_rfl) (Nat.le_of_ble_eq_true rfl) ?_; simp only [initTm, Nat.reduceAdd]
      repeat' (first
  | refine gSq ?_ | refine gSk ?_ | refine gBl ?_ | refine gIb ?_ | refine gEx rfl ?_
  | ((first
  | (refine gRg [31] [0, 1, 2, 6, 7, 8, 12, 18] ?_; intro K hK)
  | (refine ACall.use [(1000, 1000), (1001, 1001)] [] rfl he rfl rfl rfl ?_; rintro _ _ ⟨rfl, h1, rfl⟩; refine ⟨.inl rfl, rfl, ?_⟩; simp only [bk, bk1, bkS, bkO, idOf, delAll, go_sem, simprocAttr])
  | (refine ACall.use [(1000, 1000), (1001, 1001)] [] rfl (hfu _) rfl rfl rfl ?_; rintro _ _ ⟨rfl, rfl⟩; refine ⟨.inl rfl, rfl, ?_⟩; simp only [bk, bk1, bkS, bkO, idOf, delAll, go_sem, simprocAttr])
  | (refine ACall.use [(1000, 1000), (1001, 1001)] [] rfl (hp _) rfl rfl rfl ?_; rintro _ _ ⟨rfl, h1, rfl⟩; refine ⟨.inl rfl, rfl, ?_⟩; simp only [bk, bk1, bkS, bkO, idOf, delAll, go_sem, simprocAttr])
  | (refine ACall.use [(1000, 1000), (1001, 1001)] [] rfl (ha _) rfl rfl rfl ?_; rintro _ _ ⟨rfl, h2, rfl⟩; refine ⟨.inl rfl, rfl, ?_⟩; simp only [bk, bk1, bkS, bkO, idOf, delAll, go_sem, simprocAttr])
  | (refine gd_split ?_ ?_ <;> intro hb <;> (try simp only [bls] at hb) <;> (try simp only [hb]))
  | refine gRt [1000, 1001] [.tmp 6] rfl ?_ | refine gDn [1000, 1001] [.tmp 6] rfl ?_) <;> (try simp only [go_sem, simprocAttr]))
  | (refine hK _ _ ?_; clear hK K; simp only [go_sem, simprocAttr])
  | refine gCd (by simp only [go_sem, simprocAttr]; rfl) rfl ?_
  | refine brT ?_ | refine brF ?_
  | (refine brS ?_ ?_ <;> intro hc <;> (try simp only [bls] at hc) <;> (try simp only [hc, bls]))
  | intro _ | refine And.intro ?_ ?_)
      all_goals first | omega | (unfold bigLen; omega) | exact ⟨_, _, ⟨rfl, rfl⟩, rfl⟩ | exact ⟨_, rfl⟩ | (rename_i hy; simp only [List.mem_singleton] at hy; subst hy; rfl) | with_reducible rfl | skip
  | succ m ih =>
    intro hm g1 out ho
    have b2 := hb (out ++ [opNd 1 []])
    have el : (out ++ [opNd 1 []]).length = out.length + 1 := by simp
    rw [el] at b2
    have he := pput_c q f true l most g g1 1 [] out (by omega)
    have hfu := fun h1 => pfull_c q f l most g h1 (out ++ [opNd 1 []]) (by omega)
    rw [el] at hfu
    rw [restM]
    by_cases h0 : 1024 ≤ out.length
    · rw [if_pos h0]
      rw [show decide (1024 < out.length + 1) = true by simp; omega] at hfu
      simp only [psto, pbx, pushP] at he hfu ⊢
      refine ACall.enter Try.func83 rfl (by kernel_rfl) (Nat.le_of_ble_eq_true rfl) ?_; simp only [initTm, Nat.reduceAdd]
      repeat' (first
  | refine gSq ?_ | refine gSk ?_ | refine gBl ?_ | refine gIb ?_ | refine gEx rfl ?_
  | ((first
  | (refine gRg [] [0, 1, 2, 6, 7, 8, 12, 18] ?_; intro K hK)
  | (refine ACall.use [(1000, 1000), (1001, 1001)] [] rfl he rfl rfl rfl ?_; rintro _ _ ⟨rfl, h1, rfl⟩; refine ⟨.inl rfl, rfl, ?_⟩; simp only [bk, bk1, bkS, bkO, idOf, delAll, go_sem, simprocAttr])
  | (refine ACall.use [(1000, 1000), (1001, 1001)] [] rfl (hfu _) rfl rfl rfl ?_; rintro _ _ ⟨rfl, rfl⟩; refine ⟨.inl rfl, rfl, ?_⟩; simp only [bk, bk1, bkS, bkO, idOf, delAll, go_sem, simprocAttr])
  | (refine gd_split ?_ ?_ <;> intro hb <;> (try simp only [bls] at hb) <;> (try simp only [hb]))
  | refine gRt [1000, 1001] [.tmp 6] rfl ?_ | refine gDn [1000, 1001] [.tmp 6] rfl ?_) <;> (try simp only [go_sem, simprocAttr]))
  | (refine hK _ _ ?_; clear hK K; simp only [go_sem, simprocAttr])
  | refine gCd (by simp only [go_sem, simprocAttr]; rfl) rfl ?_
  | refine brT ?_ | refine brF ?_
  | (refine brS ?_ ?_ <;> intro hc <;> (try simp only [bls] at hc) <;> (try simp only [hc, bls]))
  | intro _ | refine And.intro ?_ ?_)
      all_goals first | omega | (unfold bigLen; omega) | exact ⟨_, _, ⟨rfl, rfl⟩, rfl⟩ | exact ⟨_, rfl⟩ | (rename_i hy; simp only [List.mem_singleton] at hy; subst hy; rfl) | with_reducible rfl | skip
    · rw [if_neg h0, if_neg (show ¬ m + 1 = 0 by omega)]
      rw [show decide (1024 < out.length + 1) = false by simp; omega] at hfu
      have hp := fun h1 => hk g h1 (out ++ [opNd 1 []]) (by omega)
      generalize pl (out ++ [opNd 1 []]) = a at b2 hp
      have hr := fun g1 => ih (by omega) g1 a.1 (by omega)
      have b3 := rest_len hb hC0 (m + 1) a.1
      generalize restM pl (m + 1) a.1 = b at hr b3
      have hc := fun h1 => pput_c q f false l most g h1 3 [a.2, b.2] b.1 (by omega)
      have ha := fun h1 => pput_c q f false l most g h1 4 [out.length, b.1.length] (b.1 ++ [opNd 3 [a.2, b.2]]) (by simp only [List.length_append, List.length_cons, List.length_nil]; omega)
      have e2 : ((m + 1 + 1 : Nat) : Int) - 1 = ((m + 1 : Nat) : Int) := by omega
      have e3 : (1 : Int) < ((m + 1 + 1 : Nat) : Int) := by omega
      simp only [psto, pbx, pushP] at he hfu hp hr hc ha ⊢
      refine ACall.enter Try.func83 rfl (by kernel_rfl) (Nat.le_of_ble_eq_true rfl) ?_; simp only [initTm, Nat.reduceAdd]
      repeat' (first
  | refine gSq ?_ | refine gSk ?_ | refine gBl ?_ | refine gIb ?_ | refine gEx rfl ?_
  | ((first
  | (refine gRg [26, 31] [0, 1, 2, 6, 7, 8, 12, 18] ?_; intro K hK)
  | (refine ACall.use [(1000, 1000), (1001, 1001)] [] rfl he rfl rfl rfl ?_; rintro _ _ ⟨rfl, h1, rfl⟩; refine ⟨.inl rfl, rfl, ?_⟩; simp only [bk, bk1, bkS, bkO, idOf, delAll, go_sem, simprocAttr])
  | (refine ACall.use [(1000, 1000), (1001, 1001)] [] rfl (hfu _) rfl rfl rfl ?_; rintro _ _ ⟨rfl, rfl⟩; refine ⟨.inl rfl, rfl, ?_⟩; simp only [bk, bk1, bkS, bkO, idOf, delAll, go_sem, simprocAttr])
  | (refine ACall.use [(1000, 1000), (1001, 1001)] [] rfl (hp _) rfl rfl rfl ?_; rintro _ _ ⟨rfl, h1, rfl⟩; refine ⟨.inl rfl, rfl, ?_⟩; simp only [bk, bk1, bkS, bkO, idOf, delAll, go_sem, simprocAttr])
  | (refine ACall.use [(1000, 1000), (1001, 1001)] [] rfl (hr _) rfl rfl rfl ?_; rintro _ _ ⟨rfl, h1, rfl⟩; refine ⟨.inl rfl, rfl, ?_⟩; simp only [bk, bk1, bkS, bkO, idOf, delAll, go_sem, simprocAttr])
  | (refine ACall.use [(1000, 1000), (1001, 1001)] [] rfl (hc _) rfl rfl rfl ?_; rintro _ _ ⟨rfl, h2, rfl⟩; refine ⟨.inl rfl, rfl, ?_⟩; simp only [bk, bk1, bkS, bkO, idOf, delAll, go_sem, simprocAttr])
  | (refine ACall.use [(1000, 1000), (1001, 1001)] [] rfl (ha _) rfl rfl rfl ?_; rintro _ _ ⟨rfl, h2, rfl⟩; refine ⟨.inl rfl, rfl, ?_⟩; simp only [bk, bk1, bkS, bkO, idOf, delAll, go_sem, simprocAttr])
  | (refine gd_split ?_ ?_ <;> intro hb <;> (try simp only [bls] at hb) <;> (try simp only [hb]))
  | refine gRt [1000, 1001] [.tmp 6] rfl ?_ | refine gDn [1000, 1001] [.tmp 6] rfl ?_) <;> (try simp only [go_sem, simprocAttr, e2, e3]))
  | (refine hK _ _ ?_; clear hK K; simp only [go_sem, simprocAttr])
  | refine gCd (by simp only [go_sem, simprocAttr]; rfl) rfl ?_
  | refine brT ?_ | refine brF ?_
  | (refine brS ?_ ?_ <;> intro hc <;> (try simp only [bls] at hc) <;> (try simp only [hc, bls]))
  | intro _ | refine And.intro ?_ ?_)
      all_goals first | omega | (unfold bigLen; omega) | exact ⟨_, _, ⟨rfl, rfl⟩, rfl⟩ | exact ⟨_, rfl⟩ | (rename_i hy; simp only [List.mem_singleton] at hy; subst hy; rfl) | with_reducible rfl | skip
end Go.Rad
/- Contracts: plan: a repetition that is written out. -/
namespace Go.Rad
open Go Go.Proofs
set_option linter.all false
set_option maxRecDepth 20000
set_option maxHeartbeats 4000000

theorem prow_c {q f : Bool} {l : List Node} {most : Int} {pl : List Node → PO} {C : Nat} (n : Node) (kid : Int) (hn : n.l = [kid]) (hlo : 0 ≤ n.lo ∧ n.lo ≤ 4096) (hhi : n.hi ≤ 4096) (hk : KidC Try.prog 38 q f l most pl kid) (hb : PBd pl C) (hC0 : 1024 ≤ C) (hC : C ≤ 70000000) (g g1 : Nat) (out : List Node) (ho : out.length ≤ C) :
    ACall Try.prog 69 [.bx 1000 g 0, .agg n.cells] (psto q f l most g g1 out) fun r s => r = .int .i64 (rowM pl n.lo n.hi out).2 ∧ ∃ h1, s = psto q f l most g h1 (rowM pl n.lo n.hi out).1 := by
  obtain ⟨xo, ⟨xa, xb, xc, xd⟩, xl, xlo, xhi, xn⟩ := n
  simp only at hn hlo hhi
  have hx0 : xl[0]? = some kid := by rw [hn]; rfl
  have e0 : (0 : Int) < xl.length := by rw [hn]; exact Int.one_pos
  clear hn
  obtain ⟨lo, rfl⟩ : ∃ lo : Nat, xlo = lo := ⟨xlo.toNat, by omega⟩
  simp only [Node.cells, Node.cellsF]
  obtain ⟨S, hS⟩ : ∃ S, S = rowM pl lo xhi out := ⟨_, rfl⟩
  rw [← hS]
  rw [rowM, Int.toNat_natCast] at hS
  obtain ⟨L, hL⟩ : ∃ L, L = rowL pl lo out [] := ⟨_, rfl⟩
  rw [← hL] at hS
  simp only [psto, pbx]
  refine ACall.enter Try.func69 rfl (by kernel_rfl) (Nat.le_of_ble_eq_true rfl) ?_; simp only [initTm, Nat.reduceAdd]
  repeat' (first
  | refine gSq ?_ | refine gSk ?_ | refine gBl ?_ | refine gIb ?_ | refine gEx rfl ?_
  | ((first
  | (refine gRg [] [0, 1, 3, 4, 5, 6, 12, 13, 14, 16, 24, 36, 55] ?_; intro K hK)
  | (refine gd_split ?_ ?_ <;> intro hb <;> (try simp only [bls] at hb) <;> (try simp only [hb]))
  | refine gRt [1000, 1001] [.tmp 4] rfl ?_ | refine gDn [1000, 1001] [.tmp 4] rfl ?_) <;> (try simp only [go_sem, simprocAttr, hx0, e0, Option.some.injEq, forall_eq']))
  | (refine hK _ _ ?_; clear hK K; simp only [go_sem, simprocAttr])
  | refine gCd (by simp only [go_sem, simprocAttr]; rfl) rfl ?_
  | refine brT ?_ | refine brF ?_
  | (refine brS ?_ ?_ <;> intro hc <;> (try simp only [bls] at hc) <;> (try simp only [hc, bls]))
  | intro _ | refine And.intro ?_ ?_)
  all_goals first | omega | (unfold bigLen; omega) | exact ⟨_, _, ⟨rfl, rfl⟩, rfl⟩ | exact ⟨_, rfl⟩ | (rename_i hy; simp only [List.mem_singleton] at hy; subst hy; rfl) | with_reducible rfl | skip
  rename_i h3
  refine AGood.ownTm 5 900 1 (by decide) rfl fun g9 => ?_
  simp only [go_sem, simprocAttr]
  refine AGood.prune [0, 3, 5, 6, 12, 13] ?_; simp only [go_sem, simprocAttr]
  refine AGood.loopInv (α := Nat × List Node × List Int × Nat × Nat) (fun x => ([(0, .bx 1000 g 0), (3, .bx 3 h3 0), (5, .osl 900 x.2.2.2.2 0 x.2.2.1.length), (6, .int .i64 kid), (12, .int .i64 lo), (13, .int .i64 x.1)],
      [(3, h3, .box [.int .u8 xo, .int .u64 xa, .int .u64 xb, .int .u64 xc, .int .u64 xd, .sl true false (ints xl), .int .i64 lo, .int .i64 xhi, .str xn]), (900, x.2.2.2.2, .row 1 (ints x.2.2.1)), (1000, g, .box [.sl q f (nodes l), .int .i64 most, .osl 1001 x.2.2.2.1 0 x.2.1.length]), (1001, x.2.2.2.1, .row 9 (nodes x.2.1))]))
    (fun x => x.1 ≤ lo ∧ x.2.2.1.length = x.1 ∧ x.2.1.length ≤ C ∧ L = rowL pl (lo - x.1) x.2.1 x.2.2.1) (fun x => lo - x.1) (0, out, [], g1, g9) ⟨Nat.zero_le _, rfl, ho, hL⟩ rfl ?_
  rintro ⟨i, o, row, gg, g9⟩ ⟨hi, hrl, ho', hrun⟩ ih
  simp only at hi hrl ho' hrun ih ⊢
  have hfu := pfull_c q f l most g gg o (by omega)
  by_cases hle : i < lo
  · have e4 : (i : Int) < lo := by omega
    obtain ⟨r, hr⟩ : ∃ r, lo - i = r + 1 := ⟨lo - i - 1, by omega⟩
    rw [hr, rowL] at hrun
    by_cases h0 : 1024 < o.length
    · rw [if_pos h0] at hrun
      rw [show decide (1024 < o.length) = true by simpa using h0] at hfu
      rw [hrun] at hS
      simp only [if_true] at hS
      subst hS
      simp only [psto, pbx] at hfu
      repeat' (first
  | refine gSq ?_ | refine gSk ?_ | refine gBl ?_ | refine gIb ?_ | refine gEx rfl ?_
  | ((first
  | (refine gRg [] [0, 1, 3, 4, 5, 6, 12, 13, 14, 16, 24, 36, 55] ?_; intro K hK)
  | (refine ACall.use [(1000, 1000), (1001, 1001)] [] rfl (hfu) rfl rfl rfl ?_; (first | rintro _ _ ⟨rfl, rfl⟩ | rintro _ _ ⟨rfl, h1, rfl⟩); refine ⟨.inl rfl, rfl, ?_⟩; simp only [bk, bk1, bkS, bkO, idOf, delAll, go_sem, simprocAttr])
  | (refine gd_split ?_ ?_ <;> intro hb <;> (try simp only [bls] at hb) <;> (try simp only [hb]))
  | refine gRt [1000, 1001] [.tmp 4] rfl ?_ | refine gDn [1000, 1001] [.tmp 4] rfl ?_) <;> (try simp only [go_sem, simprocAttr, e4]))
  | (refine hK _ _ ?_; clear hK K; simp only [go_sem, simprocAttr])
  | refine gCd (by simp only [go_sem, simprocAttr]; rfl) rfl ?_
  | refine brT ?_ | refine brF ?_
  | (refine brS ?_ ?_ <;> intro hc <;> (try simp only [bls] at hc) <;> (try simp only [hc, bls]))
  | intro _ | refine And.intro ?_ ?_)
      all_goals first | omega | (unfold bigLen; omega) | exact ⟨_, _, ⟨rfl, rfl⟩, rfl⟩ | exact ⟨_, rfl⟩ | (rename_i hy; simp only [List.mem_singleton] at hy; subst hy; rfl) | with_reducible rfl | skip
    · rw [if_neg h0] at hrun
      rw [show decide (1024 < o.length) = false by simpa using h0] at hfu
      have b2 := hb o
      have hp := hk g gg o (by omega)
      generalize pl o = a at b2 hp hrun
      simp only [psto, pbx] at hfu hp
      repeat' (first
  | refine gSq ?_ | refine gSk ?_ | refine gBl ?_ | refine gIb ?_ | refine gEx rfl ?_
  | ((first
  | (refine gRg [21] [0, 1, 3, 4, 5, 6, 12, 13, 14, 16, 24, 36, 55] ?_; intro K hK)
  | (refine ACall.use [(1000, 1000), (1001, 1001)] [] rfl (hfu) rfl rfl rfl ?_; (first | rintro _ _ ⟨rfl, rfl⟩ | rintro _ _ ⟨rfl, h1, rfl⟩); refine ⟨.inl rfl, rfl, ?_⟩; simp only [bk, bk1, bkS, bkO, idOf, delAll, go_sem, simprocAttr])
  | (refine ACall.use [(1000, 1000), (1001, 1001)] [] rfl (hp) rfl rfl rfl ?_; (first | rintro _ _ ⟨rfl, rfl⟩ | rintro _ _ ⟨rfl, h1, rfl⟩); refine ⟨.inl rfl, rfl, ?_⟩; simp only [bk, bk1, bkS, bkO, idOf, delAll, go_sem, simprocAttr])
  | (refine gd_split ?_ ?_ <;> intro hb <;> (try simp only [bls] at hb) <;> (try simp only [hb]))
  | refine gRt [1000, 1001] [.tmp 4] rfl ?_ | refine gDn [1000, 1001] [.tmp 4] rfl ?_) <;> (try simp only [go_sem, simprocAttr, e4]))
  | (refine hK _ _ ?_; clear hK K; simp only [go_sem, simprocAttr])
  | refine gCd (by simp only [go_sem, simprocAttr]; rfl) rfl ?_
  | refine brT ?_ | refine brF ?_
  | (refine brS ?_ ?_ <;> intro hc <;> (try simp only [bls] at hc) <;> (try simp only [hc, bls]))
  | intro _ | refine And.intro ?_ ?_)
      all_goals first | omega | (unfold bigLen; omega) | exact ⟨_, _, ⟨rfl, rfl⟩, rfl⟩ | exact ⟨_, rfl⟩ | (rename_i hy; simp only [List.mem_singleton] at hy; subst hy; rfl) | with_reducible rfl | skip
      rename_i h'
      refine AGood.filt [3, 900, 1000, 1001] ?_
      simp only [sf_cons, sf_nil, go_sem, simprocAttr]
      refine AGood.prune [0, 3, 5, 6, 12, 13] ?_; simp only [go_sem, simprocAttr]
      refine AGood.cast (ih (i + 1, a.1, row ++ [a.2], h1, h') ⟨by simp only; omega, by simp [hrl], by simp only; omega, by rw [hrun]; congr 1; omega⟩ (by simp only; omega)) ?_ ?_
      · simp
      · simp
  · have e4 : ¬ (i : Int) < lo := by omega
    have hin : i = lo := by omega
    subst hin
    clear ih
    rw [Nat.sub_self, rowL] at hrun
    rw [hrun] at hS
    simp only [Bool.true_eq_false, if_false] at hS
    have hi1 : (i : Int) < 100000 := by omega
    have hcat : ∀ (row2 : List Int) (o2 : List Node), row2.length ≤ 100000 → o2.length ≤ 80000000 → ∀ gg, ACall Try.prog 58 [.bx 1000 g 0, .int .u8 3, .sl true false (ints row2)] (psto q f l most g gg o2) fun r s => r = .int .i64 (pushP (opNd 3 row2) o2).2 ∧ ∃ h1, s = psto q f l most g h1 (pushP (opNd 3 row2) o2).1 := fun row2 o2 h1 h2 gg => pput_c q f false l most g gg 3 row2 o2 (by omega)
    by_cases hh1 : xhi = -1
    · have b2 := hb o
      have hp := hk g gg o (by omega)
      simp only [rowE, if_pos hh1] at hS
      generalize pl o = a at b2 hp hS
      have ht := fun h1 => ptimes_c q f l most g h1 0 (-1) a.2 a.1 (by omega)
      subst hh1
      simp only [pushP] at ht
      obtain ⟨row2, hr2⟩ : ∃ r2, r2 = row ++ [(a.1.length : Int)] := ⟨_, rfl⟩
      obtain ⟨o2, ho2⟩ : ∃ o2, o2 = a.1 ++ [repNd 0 (-1) a.2] := ⟨_, rfl⟩
      have hl2 : o2.length = a.1.length + 1 := by rw [ho2]; simp
      have e14 : row.length + 1 = row2.length := by rw [hr2]; simp
      rw [← hr2, ← ho2, catM] at hS
      rw [← ho2] at ht
      simp only at hS
      simp only [psto, pbx] at hp ht
      by_cases h1 : (row2).length = 1
      · rw [if_pos h1] at hS
        subst hS
        have e13 : ((row2).length : Int) = 1 := by omega
        obtain ⟨x, hx⟩ : ∃ x, row2 = [x] := List.length_eq_one_iff.1 h1
        have g0 : row2[0]? = some x := by rw [hx]; rfl
        have g1' : (0 : Int) < (row2).length := by omega
        have g2' : 0 < (row2).length := by omega
        have g3 : row2.headD 0 = x := by rw [hx]; rfl
        rw [g3]
        clear hx g3 h1
        repeat' (first
  | refine gSq ?_ | refine gSk ?_ | refine gBl ?_ | refine gIb ?_ | refine gEx rfl ?_
  | ((first
  | (refine AGood.at 13 ?_; (refine AGood.reRow 900 (ints row2) rfl (by rw [hr2]; simp) ?_; simp only [e14, go_sem, simprocAttr]); (refine gRg [34, 51] [0, 1, 3, 4, 5, 6, 12, 13, 14, 16, 24, 36, 55] ?_; intro K hK))
  | (refine gRg [34, 51] [0, 1, 3, 4, 5, 6, 12, 13, 14, 16, 24, 36, 55] ?_; intro K hK)
  | (refine ACall.use [(1000, 1000), (1001, 1001)] [] rfl (hp) rfl rfl rfl ?_; (first | rintro _ _ ⟨rfl, rfl⟩ | rintro _ _ ⟨rfl, h1, rfl⟩); refine ⟨.inl rfl, rfl, ?_⟩; simp only [bk, bk1, bkS, bkO, idOf, delAll, go_sem, simprocAttr])
  | (refine ACall.use [(1000, 1000), (1001, 1001)] [] rfl (ht _) rfl rfl rfl ?_; (first | rintro _ _ ⟨rfl, rfl⟩ | rintro _ _ ⟨rfl, h1, rfl⟩); refine ⟨.inl rfl, rfl, ?_⟩; simp only [bk, bk1, bkS, bkO, idOf, delAll, go_sem, simprocAttr])
  | (refine gd_split ?_ ?_ <;> intro hb <;> (try simp only [bls] at hb) <;> (try simp only [hb]))
  | refine gRt [1000, 1001] [.tmp 4] rfl ?_ | refine gDn [1000, 1001] [.tmp 4] rfl ?_) <;> (try simp only [go_sem, simprocAttr, e4, Int.reduceNeg, e13, e14, g0, g1', g2', Option.some.injEq, forall_eq']))
  | (refine hK _ _ ?_; clear hK K; simp only [go_sem, simprocAttr])
  | refine gCd (by simp only [go_sem, simprocAttr]; rfl) rfl ?_
  | refine brT ?_ | refine brF ?_
  | (refine brS ?_ ?_ <;> intro hc <;> (try simp only [bls] at hc) <;> (try simp only [hc, bls]))
  | intro _ | refine And.intro ?_ ?_)
        all_goals first | omega | (unfold bigLen; omega) | exact ⟨_, _, ⟨rfl, rfl⟩, rfl⟩ | exact ⟨_, rfl⟩ | (rename_i hy; simp only [List.mem_singleton] at hy; subst hy; rfl) | with_reducible rfl | skip
      · rw [if_neg h1] at hS
        subst hS
        have e13 : ¬ ((row2).length : Int) = 1 := by omega
        have e15 : (ints row2).take row2.length = ints row2 := List.take_of_length_le (by simp)
        have hc := hcat row2 o2 (by omega) (by omega)
        simp only [psto, pbx] at hc
        clear h1
        repeat' (first
  | refine gSq ?_ | refine gSk ?_ | refine gBl ?_ | refine gIb ?_ | refine gEx rfl ?_
  | ((first
  | (refine AGood.at 13 ?_; (refine AGood.reRow 900 (ints row2) rfl (by rw [hr2]; simp) ?_; simp only [e14, go_sem, simprocAttr]); (refine gRg [34, 51] [0, 1, 3, 4, 5, 6, 12, 13, 14, 16, 24, 36, 55] ?_; intro K hK))
  | (refine AGood.at 15 ?_; (refine AGood.freeze 900 rfl ?_; simp only [rfT, rfS, rfO, rf, rf1, e15, true_and, go_sem, simprocAttr]); (refine gRg [34, 51] [0, 1, 3, 4, 5, 6, 12, 13, 14, 16, 24, 36, 55] ?_; intro K hK))
  | (refine gRg [34, 51] [0, 1, 3, 4, 5, 6, 12, 13, 14, 16, 24, 36, 55] ?_; intro K hK)
  | (refine ACall.use [(1000, 1000), (1001, 1001)] [] rfl (hp) rfl rfl rfl ?_; (first | rintro _ _ ⟨rfl, rfl⟩ | rintro _ _ ⟨rfl, h1, rfl⟩); refine ⟨.inl rfl, rfl, ?_⟩; simp only [bk, bk1, bkS, bkO, idOf, delAll, go_sem, simprocAttr])
  | (refine ACall.use [(1000, 1000), (1001, 1001)] [] rfl (ht _) rfl rfl rfl ?_; (first | rintro _ _ ⟨rfl, rfl⟩ | rintro _ _ ⟨rfl, h1, rfl⟩); refine ⟨.inl rfl, rfl, ?_⟩; simp only [bk, bk1, bkS, bkO, idOf, delAll, go_sem, simprocAttr])
  | (refine ACall.use [(1000, 1000), (1001, 1001)] [] rfl (hc _) rfl rfl rfl ?_; (first | rintro _ _ ⟨rfl, rfl⟩ | rintro _ _ ⟨rfl, h1, rfl⟩); refine ⟨.inl rfl, rfl, ?_⟩; simp only [bk, bk1, bkS, bkO, idOf, delAll, go_sem, simprocAttr])
  | (refine gd_split ?_ ?_ <;> intro hb <;> (try simp only [bls] at hb) <;> (try simp only [hb]))
  | refine gRt [1000, 1001] [.tmp 4] rfl ?_ | refine gDn [1000, 1001] [.tmp 4] rfl ?_) <;> (try simp only [go_sem, simprocAttr, e4, Int.reduceNeg, e13, e14, Option.some.injEq, forall_eq']))
  | (refine hK _ _ ?_; clear hK K; simp only [go_sem, simprocAttr])
  | refine gCd (by simp only [go_sem, simprocAttr]; rfl) rfl ?_
  | refine brT ?_ | refine brF ?_
  | (refine brS ?_ ?_ <;> intro hc <;> (try simp only [bls] at hc) <;> (try simp only [hc, bls]))
  | intro _ | refine And.intro ?_ ?_)
        all_goals first | omega | (unfold bigLen; omega) | exact ⟨_, _, ⟨rfl, rfl⟩, rfl⟩ | exact ⟨_, rfl⟩ | (rename_i hy; simp only [List.mem_singleton] at hy; subst hy; rfl) | with_reducible rfl | skip
    · by_cases hh2 : (i : Int) < xhi
      · obtain ⟨m, hm⟩ : ∃ m : Nat, xhi - i = ((m + 1 : Nat) : Int) := ⟨(xhi - i - 1).toNat, by omega⟩
        have hm2 : (xhi - i).toNat = m + 1 := by omega
        have hp := fun gg => prest_c kid hk hb hC0 (by omega) g m (by omega) gg o ho'
        have b2 := rest_len hb hC0 (m + 1) o
        simp only [rowE, if_neg hh1, if_pos hh2, hm2] at hS
        generalize restM pl (m + 1) o = a at b2 hp hS
        obtain ⟨row2, hr2⟩ : ∃ r2, r2 = row ++ [a.2] := ⟨_, rfl⟩
        obtain ⟨o2, ho2⟩ : ∃ o2, o2 = a.1 := ⟨_, rfl⟩
        have hl2 : o2.length = a.1.length := by rw [ho2]
        have e14 : row.length + 1 = row2.length := by rw [hr2]; simp
        rw [← hr2, ← ho2, catM] at hS
        simp only [← ho2] at hp
        simp only at hS
        simp only [psto, pbx] at hp
        by_cases h1 : (row2).length = 1
        · rw [if_pos h1] at hS
          subst hS
          have e13 : ((row2).length : Int) = 1 := by omega
          obtain ⟨x, hx⟩ : ∃ x, row2 = [x] := List.length_eq_one_iff.1 h1
          have g0 : row2[0]? = some x := by rw [hx]; rfl
          have g1' : (0 : Int) < (row2).length := by omega
          have g2' : 0 < (row2).length := by omega
          have g3 : row2.headD 0 = x := by rw [hx]; rfl
          rw [g3]
          clear hx g3 h1
          repeat' (first
  | refine gSq ?_ | refine gSk ?_ | refine gBl ?_ | refine gIb ?_ | refine gEx rfl ?_
  | ((first
  | (refine AGood.at 13 ?_; (refine AGood.reRow 900 (ints row2) rfl (by rw [hr2]; simp) ?_; simp only [e14, go_sem, simprocAttr]); (refine gRg [34, 51] [0, 1, 3, 4, 5, 6, 12, 13, 14, 16, 24, 36, 55] ?_; intro K hK))
  | (refine gRg [34, 51] [0, 1, 3, 4, 5, 6, 12, 13, 14, 16, 24, 36, 55] ?_; intro K hK)
  | (refine ACall.use [(1000, 1000), (1001, 1001)] [] rfl (hp _) rfl rfl rfl ?_; (first | rintro _ _ ⟨rfl, rfl⟩ | rintro _ _ ⟨rfl, h1, rfl⟩); refine ⟨.inl rfl, rfl, ?_⟩; simp only [bk, bk1, bkS, bkO, idOf, delAll, go_sem, simprocAttr])
  | (refine gd_split ?_ ?_ <;> intro hb <;> (try simp only [bls] at hb) <;> (try simp only [hb]))
  | refine gRt [1000, 1001] [.tmp 4] rfl ?_ | refine gDn [1000, 1001] [.tmp 4] rfl ?_) <;> (try simp only [go_sem, simprocAttr, e4, hh1, hh2, hm, e13, e14, g0, g1', g2', Option.some.injEq, forall_eq']))
  | (refine hK _ _ ?_; clear hK K; simp only [go_sem, simprocAttr])
  | refine gCd (by simp only [go_sem, simprocAttr]; rfl) rfl ?_
  | refine brT ?_ | refine brF ?_
  | (refine brS ?_ ?_ <;> intro hc <;> (try simp only [bls] at hc) <;> (try simp only [hc, bls]))
  | intro _ | refine And.intro ?_ ?_)
          all_goals first | omega | (unfold bigLen; omega) | exact ⟨_, _, ⟨rfl, rfl⟩, rfl⟩ | exact ⟨_, rfl⟩ | (rename_i hy; simp only [List.mem_singleton] at hy; subst hy; rfl) | with_reducible rfl | skip
        · rw [if_neg h1] at hS
          subst hS
          have e13 : ¬ ((row2).length : Int) = 1 := by omega
          have e15 : (ints row2).take row2.length = ints row2 := List.take_of_length_le (by simp)
          have hc := hcat row2 o2 (by omega) (by omega)
          simp only [psto, pbx] at hc
          clear h1
          repeat' (first
  | refine gSq ?_ | refine gSk ?_ | refine gBl ?_ | refine gIb ?_ | refine gEx rfl ?_
  | ((first
  | (refine AGood.at 13 ?_; (refine AGood.reRow 900 (ints row2) rfl (by rw [hr2]; simp) ?_; simp only [e14, go_sem, simprocAttr]); (refine gRg [34, 51] [0, 1, 3, 4, 5, 6, 12, 13, 14, 16, 24, 36, 55] ?_; intro K hK))
  | (refine AGood.at 15 ?_; (refine AGood.freeze 900 rfl ?_; simp only [rfT, rfS, rfO, rf, rf1, e15, true_and, go_sem, simprocAttr]); (refine gRg [34, 51] [0, 1, 3, 4, 5, 6, 12, 13, 14, 16, 24, 36, 55] ?_; intro K hK))
  | (refine gRg [34, 51] [0, 1, 3, 4, 5, 6, 12, 13, 14, 16, 24, 36, 55] ?_; intro K hK)
  | (refine ACall.use [(1000, 1000), (1001, 1001)] [] rfl (hp _) rfl rfl rfl ?_; (first | rintro _ _ ⟨rfl, rfl⟩ | rintro _ _ ⟨rfl, h1, rfl⟩); refine ⟨.inl rfl, rfl, ?_⟩; simp only [bk, bk1, bkS, bkO, idOf, delAll, go_sem, simprocAttr])
  | (refine ACall.use [(1000, 1000), (1001, 1001)] [] rfl (hc _) rfl rfl rfl ?_; (first | rintro _ _ ⟨rfl, rfl⟩ | rintro _ _ ⟨rfl, h1, rfl⟩); refine ⟨.inl rfl, rfl, ?_⟩; simp only [bk, bk1, bkS, bkO, idOf, delAll, go_sem, simprocAttr])
  | (refine gd_split ?_ ?_ <;> intro hb <;> (try simp only [bls] at hb) <;> (try simp only [hb]))
  | refine gRt [1000, 1001] [.tmp 4] rfl ?_ | refine gDn [1000, 1001] [.tmp 4] rfl ?_) <;> (try simp only [go_sem, simprocAttr, e4, hh1, hh2, hm, e13, e14, Option.some.injEq, forall_eq']))
  | (refine hK _ _ ?_; clear hK K; simp only [go_sem, simprocAttr])
  | refine gCd (by simp only [go_sem, simprocAttr]; rfl) rfl ?_
  | refine brT ?_ | refine brF ?_
  | (refine brS ?_ ?_ <;> intro hc <;> (try simp only [bls] at hc) <;> (try simp only [hc, bls]))
  | intro _ | refine And.intro ?_ ?_)
          all_goals first | omega | (unfold bigLen; omega) | exact ⟨_, _, ⟨rfl, rfl⟩, rfl⟩ | exact ⟨_, rfl⟩ | (rename_i hy; simp only [List.mem_singleton] at hy; subst hy; rfl) | with_reducible rfl | skip
      · simp only [rowE, if_neg hh1, if_neg hh2] at hS
        obtain ⟨row2, hr2⟩ : ∃ r2, r2 = row := ⟨_, rfl⟩
        obtain ⟨o2, ho2⟩ : ∃ o2, o2 = o := ⟨_, rfl⟩
        have e14 : row.length = row2.length := by rw [hr2]
        rw [← hr2, ← ho2, catM] at hS
        subst ho2
        simp only at hS
        by_cases h1 : (row2).length = 1
        · rw [if_pos h1] at hS
          subst hS
          have e13 : ((row2).length : Int) = 1 := by omega
          obtain ⟨x, hx⟩ : ∃ x, row2 = [x] := List.length_eq_one_iff.1 h1
          have g0 : row2[0]? = some x := by rw [hx]; rfl
          have g1' : (0 : Int) < (row2).length := by omega
          have g2' : 0 < (row2).length := by omega
          have g3 : row2.headD 0 = x := by rw [hx]; rfl
          rw [g3]
          clear hx g3 h1
          repeat' (first
  | refine gSq ?_ | refine gSk ?_ | refine gBl ?_ | refine gIb ?_ | refine gEx rfl ?_
  | ((first
  | (refine AGood.at 13 ?_; (refine AGood.reRow 900 (ints row2) rfl (by rw [hr2]) ?_; simp only [e14, go_sem, simprocAttr]); (refine gRg [34, 51] [0, 1, 3, 4, 5, 6, 12, 13, 14, 16, 24, 36, 55] ?_; intro K hK))
  | (refine gRg [34, 51] [0, 1, 3, 4, 5, 6, 12, 13, 14, 16, 24, 36, 55] ?_; intro K hK)
  | (refine gd_split ?_ ?_ <;> intro hb <;> (try simp only [bls] at hb) <;> (try simp only [hb]))
  | refine gRt [1000, 1001] [.tmp 4] rfl ?_ | refine gDn [1000, 1001] [.tmp 4] rfl ?_) <;> (try simp only [go_sem, simprocAttr, e4, hh1, hh2, e13, e14, g0, g1', g2', Option.some.injEq, forall_eq']))
  | (refine hK _ _ ?_; clear hK K; simp only [go_sem, simprocAttr])
  | refine gCd (by simp only [go_sem, simprocAttr]; rfl) rfl ?_
  | refine brT ?_ | refine brF ?_
  | (refine brS ?_ ?_ <;> intro hc <;> (try simp only [bls] at hc) <;> (try simp only [hc, bls]))
  | intro _ | refine And.intro ?_ ?_)
          all_goals first | omega | (unfold bigLen; omega) | exact ⟨_, _, ⟨rfl, rfl⟩, rfl⟩ | exact ⟨_, rfl⟩ | (rename_i hy; simp only [List.mem_singleton] at hy; subst hy; rfl) | with_reducible rfl | skip
        · rw [if_neg h1] at hS
          subst hS
          have e13 : ¬ ((row2).length : Int) = 1 := by omega
          have e15 : (ints row2).take row2.length = ints row2 := List.take_of_length_le (by simp)
          have hc := hcat row2 o2 (by omega) (by omega)
          simp only [psto, pbx] at hc
          clear h1
          repeat' (first
  | refine gSq ?_ | refine gSk ?_ | refine gBl ?_ | refine gIb ?_ | refine gEx rfl ?_
  | ((first
  | (refine AGood.at 13 ?_; (refine AGood.reRow 900 (ints row2) rfl (by rw [hr2]) ?_; simp only [e14, go_sem, simprocAttr]); (refine gRg [34, 51] [0, 1, 3, 4, 5, 6, 12, 13, 14, 16, 24, 36, 55] ?_; intro K hK))
  | (refine AGood.at 15 ?_; (refine AGood.freeze 900 rfl ?_; simp only [rfT, rfS, rfO, rf, rf1, e15, true_and, go_sem, simprocAttr]); (refine gRg [34, 51] [0, 1, 3, 4, 5, 6, 12, 13, 14, 16, 24, 36, 55] ?_; intro K hK))
  | (refine gRg [34, 51] [0, 1, 3, 4, 5, 6, 12, 13, 14, 16, 24, 36, 55] ?_; intro K hK)
  | (refine ACall.use [(1000, 1000), (1001, 1001)] [] rfl (hc _) rfl rfl rfl ?_; (first | rintro _ _ ⟨rfl, rfl⟩ | rintro _ _ ⟨rfl, h1, rfl⟩); refine ⟨.inl rfl, rfl, ?_⟩; simp only [bk, bk1, bkS, bkO, idOf, delAll, go_sem, simprocAttr])
  | (refine gd_split ?_ ?_ <;> intro hb <;> (try simp only [bls] at hb) <;> (try simp only [hb]))
  | refine gRt [1000, 1001] [.tmp 4] rfl ?_ | refine gDn [1000, 1001] [.tmp 4] rfl ?_) <;> (try simp only [go_sem, simprocAttr, e4, hh1, hh2, e13, e14, Option.some.injEq, forall_eq']))
  | (refine hK _ _ ?_; clear hK K; simp only [go_sem, simprocAttr])
  | refine gCd (by simp only [go_sem, simprocAttr]; rfl) rfl ?_
  | refine brT ?_ | refine brF ?_
  | (refine brS ?_ ?_ <;> intro hc <;> (try simp only [bls] at hc) <;> (try simp only [hc, bls]))
  | intro _ | refine And.intro ?_ ?_)
          all_goals first | omega | (unfold bigLen; omega) | exact ⟨_, _, ⟨rfl, rfl⟩, rfl⟩ | exact ⟨_, rfl⟩ | (rename_i hy; simp only [List.mem_singleton] at hy; subst hy; rfl) | with_reducible rfl | skip
end Go.Rad
/- Contracts: plan: a node's plan. -/
namespace Go.Rad
open Go Go.Proofs
set_option linter.all false
set_option maxRecDepth 20000
set_option maxHeartbeats 4000000

theorem prep_c {q f : Bool} {l : List Node} {most : Int} {pl : List Node → PO} {C : Nat} (hll : l.length ≤ 1000000) (hmost : 1 ≤ most ∧ most ≤ 4096) (n m : Node) (kid : Nat) (hn : n.l = [(kid : Int)]) (hm : l[kid]? = some m) (hlo : 0 ≤ n.lo ∧ n.lo ≤ 4096) (hhi : n.hi ≤ 4096) (hk : KidC Try.prog 38 q f l most pl kid) (hb : PBd pl C) (hC0 : 1024 ≤ C) (hC : C ≤ 70000000) (g g1 : Nat) (out : List Node) (ho : out.length ≤ C) :
    ACall Try.prog 57 [.bx 1000 g 0, .agg n.cells] (psto q f l most g g1 out) fun r s => r = .int .i64 (repM pl most (decide (m.op = 2)) n.lo n.hi out).2 ∧ ∃ h1, s = psto q f l most g h1 (repM pl most (decide (m.op = 2)) n.lo n.hi out).1 := by
  have hrow := prow_c n kid hn hlo hhi hk hb hC0 hC g g1 out ho
  have hcnt := pcounted_c n kid hn hk hb (by omega) g g1 out ho
  obtain ⟨xo, ⟨xa, xb, xc, xd⟩, xl, xlo, xhi, xn⟩ := n
  simp only at hn hlo hhi
  have hx0 : xl[0]? = some (kid : Int) := by rw [hn]; rfl
  have e0 : (0 : Int) < xl.length := by rw [hn]; exact Int.one_pos
  clear hn
  have hkl := (List.getElem?_eq_some_iff.1 hm).1
  have e1 : (kid : Int) < l.length := by omega
  have e2 : (0 : Int) ≤ kid := by omega
  obtain ⟨mo, ⟨ma, mb, mc, md⟩, ml, mlo, mhi, mn⟩ := m
  simp only [Node.cells, Node.cellsF] at hrow hcnt ⊢
  unfold repM
  by_cases h2 : mo = 2
  · subst h2
    simp only [decide_true, Bool.true_eq_false, if_false]
    by_cases h3 : most < xhi
    · rw [if_pos h3]
      simp only [psto, pbx] at hcnt ⊢
      refine ACall.enter Try.func57 rfl (by kernel_rfl) (Nat.le_of_ble_eq_true rfl) ?_; simp only [initTm, Nat.reduceAdd]
      repeat' (first
  | refine gSq ?_ | refine gSk ?_ | refine gBl ?_ | refine gIb ?_ | refine gEx rfl ?_
  | ((first
  | (refine gRg [] [0, 1, 3, 4, 5, 6, 11, 24, 35] ?_; intro K hK)
  | (refine gDr 4 [] 8 [0, 1, 2, 3, 4, 5, 6, 7] [0, 1, 3, 4, 5, 6, 11, 24, 35] rfl ?_; intro K hK)
  | (refine gDr 6 [] 14 [0, 1, 2, 3, 4, 5, 6, 7, 8, 9, 10, 11, 12, 13] [0, 1, 3, 4, 5, 6, 11, 24, 35] rfl ?_; intro K hK)
  | (refine gDr 7 [] 7 [0, 1, 2, 3, 4, 5, 6, 7, 8, 9] [0, 1, 3, 4, 5, 6, 11, 24, 35] rfl ?_; intro K hK)
  | (refine ACall.use [(1000, 1000), (1001, 1001)] [] rfl (hcnt) rfl rfl rfl ?_; (first | rintro _ _ ⟨rfl, rfl⟩ | rintro _ _ ⟨rfl, h1, rfl⟩); refine ⟨.inl rfl, rfl, ?_⟩; simp only [bk, bk1, bkS, bkO, idOf, delAll, go_sem, simprocAttr])
  | (refine gd_split ?_ ?_ <;> intro hb <;> (try simp only [bls] at hb) <;> (try simp only [hb]))
  | refine gRt [1000, 1001] [.tmp 4] rfl ?_ | refine gDn [1000, 1001] [.tmp 4] rfl ?_) <;> (try simp only [go_sem, simprocAttr, hx0, e0, e1, e2, hm, h3, Option.some.injEq, forall_eq']))
  | (refine hK _ _ ?_; clear hK K; simp only [go_sem, simprocAttr])
  | refine gCd (by simp only [go_sem, simprocAttr]; rfl) rfl ?_
  | refine brT ?_ | refine brF ?_
  | (refine brS ?_ ?_ <;> intro hc <;> (try simp only [bls] at hc) <;> (try simp only [hc, bls]))
  | intro _ | refine And.intro ?_ ?_)
      all_goals first | omega | (unfold bigLen; omega) | exact ⟨_, _, ⟨rfl, rfl⟩, rfl⟩ | exact ⟨_, rfl⟩ | (rename_i hy; simp only [List.mem_singleton] at hy; subst hy; rfl) | with_reducible rfl | skip
    · rw [if_neg h3]
      by_cases h4 : xhi = -1 ∧ max most 1 < xlo
      · rw [if_pos h4]
        obtain ⟨h4, h5⟩ := h4
        subst h4
        have b1 := hb out
        have b2 := hb ((pl out).1 ++ [repNd xlo xlo (pl out).2])
        simp only [List.length_append, List.length_cons, List.length_nil] at b2
        unfold endM
        have hp1 := hk g g1 out (by omega)
        have ht1 := fun h1 => ptimes_c q f l most g h1 xlo xlo (pl out).2 (pl out).1 (by omega)
        generalize pl out = a at b1 b2 hp1 ht1
        obtain ⟨o2, ho2⟩ : ∃ o2, o2 = a.1 ++ [repNd xlo xlo a.2] := ⟨_, rfl⟩
        have hl2 : o2.length = a.1.length + 1 := by rw [ho2]; simp
        simp only [← ho2] at b2 ⊢
        simp only [pushP, ← ho2] at ht1
        have hp2 := fun h1 => hk g h1 o2 (by omega)
        have ht2 := fun h1 => ptimes_c q f l most g h1 0 (-1) (pl o2).2 (pl o2).1 (by omega)
        generalize pl o2 = b at b2 hp2 ht2
        obtain ⟨o3, ho3⟩ : ∃ o3, o3 = b.1 ++ [repNd 0 (-1) b.2] := ⟨_, rfl⟩
        have hl3 : o3.length = b.1.length + 1 := by rw [ho3]; simp
        simp only [pushP, ← ho3] at ht2 ⊢
        have hc := fun h1 => pput_c q f false l most g h1 3 [a.1.length, b.1.length] o3 (by omega)
        simp only [psto, pbx, pushP] at hp1 ht1 hp2 ht2 hc ⊢
        refine ACall.enter Try.func57 rfl (by kernel_rfl) (Nat.le_of_ble_eq_true rfl) ?_; simp only [initTm, Nat.reduceAdd]
        repeat' (first
  | refine gSq ?_ | refine gSk ?_ | refine gBl ?_ | refine gIb ?_ | refine gEx rfl ?_
  | ((first
  | (refine AGood.at 7 ?_; refine AGood.boxRef 3 3 rfl rfl rfl ?_; simp only [go_sem, simprocAttr]; (refine gDl 7 [65] 7 [0, 1, 2, 3, 4, 5, 6, 7, 8, 9] [] [50, 52] [0, 1, 3, 4, 5, 6, 11, 24, 35] rfl ?_; intro K hK))
  | (refine gRg [65] [0, 1, 3, 4, 5, 6, 11, 24, 35] ?_; intro K hK)
  | (refine gDr 4 [65] 8 [0, 1, 2, 3, 4, 5, 6, 7] [0, 1, 3, 4, 5, 6, 11, 24, 35] rfl ?_; intro K hK)
  | (refine gDr 6 [65] 14 [0, 1, 2, 3, 4, 5, 6, 7, 8, 9, 10, 11, 12, 13] [0, 1, 3, 4, 5, 6, 11, 24, 35] rfl ?_; intro K hK)
  | (refine ACall.use [(1000, 1000), (1001, 1001)] [] rfl (hp1) rfl rfl rfl ?_; (first | rintro _ _ ⟨rfl, rfl⟩ | rintro _ _ ⟨rfl, h1, rfl⟩); refine ⟨.inl rfl, rfl, ?_⟩; simp only [bk, bk1, bkS, bkO, idOf, delAll, go_sem, simprocAttr])
  | (refine ACall.use [(1000, 1000), (1001, 1001)] [] rfl (ht1 _) rfl rfl rfl ?_; (first | rintro _ _ ⟨rfl, rfl⟩ | rintro _ _ ⟨rfl, h1, rfl⟩); refine ⟨.inl rfl, rfl, ?_⟩; simp only [bk, bk1, bkS, bkO, idOf, delAll, go_sem, simprocAttr])
  | (refine ACall.use [(1000, 1000), (1001, 1001)] [] rfl (hp2 _) rfl rfl rfl ?_; (first | rintro _ _ ⟨rfl, rfl⟩ | rintro _ _ ⟨rfl, h1, rfl⟩); refine ⟨.inl rfl, rfl, ?_⟩; simp only [bk, bk1, bkS, bkO, idOf, delAll, go_sem, simprocAttr])
  | (refine ACall.use [(1000, 1000), (1001, 1001)] [] rfl (ht2 _) rfl rfl rfl ?_; (first | rintro _ _ ⟨rfl, rfl⟩ | rintro _ _ ⟨rfl, h1, rfl⟩); refine ⟨.inl rfl, rfl, ?_⟩; simp only [bk, bk1, bkS, bkO, idOf, delAll, go_sem, simprocAttr])
  | (refine ACall.use [(1000, 1000), (1001, 1001)] [] rfl (hc _) rfl rfl rfl ?_; (first | rintro _ _ ⟨rfl, rfl⟩ | rintro _ _ ⟨rfl, h1, rfl⟩); refine ⟨.inl rfl, rfl, ?_⟩; simp only [bk, bk1, bkS, bkO, idOf, delAll, go_sem, simprocAttr])
  | (refine gd_split ?_ ?_ <;> intro hb <;> (try simp only [bls] at hb) <;> (try simp only [hb]))
  | refine gRt [1000, 1001] [.tmp 4] rfl ?_ | refine gDn [1000, 1001] [.tmp 4] rfl ?_) <;> (try simp only [go_sem, simprocAttr, hx0, e0, e1, e2, hm, h3, h5, Option.some.injEq, forall_eq']))
  | (refine hK _ _ ?_; clear hK K; simp only [go_sem, simprocAttr])
  | refine gCd (by simp only [go_sem, simprocAttr]; rfl) rfl ?_
  | refine brT ?_ | refine brF ?_
  | (refine brS ?_ ?_ <;> intro hc <;> (try simp only [bls] at hc) <;> (try simp only [hc, bls]))
  | intro _ | refine And.intro ?_ ?_)
        all_goals first | omega | (unfold bigLen; omega) | exact ⟨_, _, ⟨rfl, rfl⟩, rfl⟩ | exact ⟨_, rfl⟩ | (rename_i hy; simp only [List.mem_singleton] at hy; subst hy; rfl) | with_reducible rfl | skip
      · rw [if_neg h4]
        simp only [psto, pbx] at hrow ⊢
        by_cases h5 : xhi = -1
        · subst h5
          have h6 : ¬ max most 1 < xlo := fun h => h4 ⟨rfl, h⟩
          refine ACall.enter Try.func57 rfl (by kernel_rfl) (Nat.le_of_ble_eq_true rfl) ?_; simp only [initTm, Nat.reduceAdd]
          repeat' (first
  | refine gSq ?_ | refine gSk ?_ | refine gBl ?_ | refine gIb ?_ | refine gEx rfl ?_
  | ((first
  | (refine gRg [] [0, 1, 3, 4, 5, 6, 11, 24, 35] ?_; intro K hK)
  | (refine gDr 4 [] 8 [0, 1, 2, 3, 4, 5, 6, 7] [0, 1, 3, 4, 5, 6, 11, 24, 35] rfl ?_; intro K hK)
  | (refine gDr 6 [] 14 [0, 1, 2, 3, 4, 5, 6, 7, 8, 9, 10, 11, 12, 13] [0, 1, 3, 4, 5, 6, 11, 24, 35] rfl ?_; intro K hK)
  | (refine gDr 7 [] 7 [0, 1, 2, 3, 4, 5, 6, 7, 8, 9] [0, 1, 3, 4, 5, 6, 11, 24, 35] rfl ?_; intro K hK)
  | (refine ACall.use [(1000, 1000), (1001, 1001)] [] rfl (hrow) rfl rfl rfl ?_; (first | rintro _ _ ⟨rfl, rfl⟩ | rintro _ _ ⟨rfl, h1, rfl⟩); refine ⟨.inl rfl, rfl, ?_⟩; simp only [bk, bk1, bkS, bkO, idOf, delAll, go_sem, simprocAttr])
  | (refine gd_split ?_ ?_ <;> intro hb <;> (try simp only [bls] at hb) <;> (try simp only [hb]))
  | refine gRt [1000, 1001] [.tmp 4] rfl ?_ | refine gDn [1000, 1001] [.tmp 4] rfl ?_) <;> (try simp only [go_sem, simprocAttr, hx0, e0, e1, e2, hm, h3, h6, Option.some.injEq, forall_eq']))
  | (refine hK _ _ ?_; clear hK K; simp only [go_sem, simprocAttr])
  | refine gCd (by simp only [go_sem, simprocAttr]; rfl) rfl ?_
  | refine brT ?_ | refine brF ?_
  | (refine brS ?_ ?_ <;> intro hc <;> (try simp only [bls] at hc) <;> (try simp only [hc, bls]))
  | intro _ | refine And.intro ?_ ?_)
          all_goals first | omega | (unfold bigLen; omega) | exact ⟨_, _, ⟨rfl, rfl⟩, rfl⟩ | exact ⟨_, rfl⟩ | (rename_i hy; simp only [List.mem_singleton] at hy; subst hy; rfl) | with_reducible rfl | skip
        · refine ACall.enter Try.func57 rfl (by kernel_rfl) (Nat.le_of_ble_eq_true rfl) ?_; simp only [initTm, Nat.reduceAdd]
          repeat' (first
  | refine gSq ?_ | refine gSk ?_ | refine gBl ?_ | refine gIb ?_ | refine gEx rfl ?_
  | ((first
  | (refine gRg [] [0, 1, 3, 4, 5, 6, 11, 24, 35] ?_; intro K hK)
  | (refine gDr 4 [] 8 [0, 1, 2, 3, 4, 5, 6, 7] [0, 1, 3, 4, 5, 6, 11, 24, 35] rfl ?_; intro K hK)
  | (refine gDr 6 [] 14 [0, 1, 2, 3, 4, 5, 6, 7, 8, 9, 10, 11, 12, 13] [0, 1, 3, 4, 5, 6, 11, 24, 35] rfl ?_; intro K hK)
  | (refine gDr 7 [] 7 [0, 1, 2, 3, 4, 5, 6, 7, 8, 9] [0, 1, 3, 4, 5, 6, 11, 24, 35] rfl ?_; intro K hK)
  | (refine ACall.use [(1000, 1000), (1001, 1001)] [] rfl (hrow) rfl rfl rfl ?_; (first | rintro _ _ ⟨rfl, rfl⟩ | rintro _ _ ⟨rfl, h1, rfl⟩); refine ⟨.inl rfl, rfl, ?_⟩; simp only [bk, bk1, bkS, bkO, idOf, delAll, go_sem, simprocAttr])
  | (refine gd_split ?_ ?_ <;> intro hb <;> (try simp only [bls] at hb) <;> (try simp only [hb]))
  | refine gRt [1000, 1001] [.tmp 4] rfl ?_ | refine gDn [1000, 1001] [.tmp 4] rfl ?_) <;> (try simp only [go_sem, simprocAttr, hx0, e0, e1, e2, hm, h3, h5, Option.some.injEq, forall_eq']))
  | (refine hK _ _ ?_; clear hK K; simp only [go_sem, simprocAttr])
  | refine gCd (by simp only [go_sem, simprocAttr]; rfl) rfl ?_
  | refine brT ?_ | refine brF ?_
  | (refine brS ?_ ?_ <;> intro hc <;> (try simp only [bls] at hc) <;> (try simp only [hc, bls]))
  | intro _ | refine And.intro ?_ ?_)
          all_goals first | omega | (unfold bigLen; omega) | exact ⟨_, _, ⟨rfl, rfl⟩, rfl⟩ | exact ⟨_, rfl⟩ | (rename_i hy; simp only [List.mem_singleton] at hy; subst hy; rfl) | with_reducible rfl | skip
  · rw [if_pos (by simpa using h2)]
    simp only [psto, pbx] at hrow ⊢
    refine ACall.enter Try.func57 rfl (by kernel_rfl) (Nat.le_of_ble_eq_true rfl) ?_; simp only [initTm, Nat.reduceAdd]
    repeat' (first
  | refine gSq ?_ | refine gSk ?_ | refine gBl ?_ | refine gIb ?_ | refine gEx rfl ?_
  | ((first
  | (refine gRg [] [0, 1, 3, 4, 5, 6, 11, 24, 35] ?_; intro K hK)
  | (refine gDr 4 [] 8 [0, 1, 2, 3, 4, 5, 6, 7] [0, 1, 3, 4, 5, 6, 11, 24, 35] rfl ?_; intro K hK)
  | (refine gDr 6 [] 14 [0, 1, 2, 3, 4, 5, 6, 7, 8, 9, 10, 11, 12, 13] [0, 1, 3, 4, 5, 6, 11, 24, 35] rfl ?_; intro K hK)
  | (refine gDr 7 [] 7 [0, 1, 2, 3, 4, 5, 6, 7, 8, 9] [0, 1, 3, 4, 5, 6, 11, 24, 35] rfl ?_; intro K hK)
  | (refine ACall.use [(1000, 1000), (1001, 1001)] [] rfl (hrow) rfl rfl rfl ?_; (first | rintro _ _ ⟨rfl, rfl⟩ | rintro _ _ ⟨rfl, h1, rfl⟩); refine ⟨.inl rfl, rfl, ?_⟩; simp only [bk, bk1, bkS, bkO, idOf, delAll, go_sem, simprocAttr])
  | (refine gd_split ?_ ?_ <;> intro hb <;> (try simp only [bls] at hb) <;> (try simp only [hb]))
  | refine gRt [1000, 1001] [.tmp 4] rfl ?_ | refine gDn [1000, 1001] [.tmp 4] rfl ?_) <;> (try simp only [go_sem, simprocAttr, hx0, e0, e1, e2, hm, h2, Option.some.injEq, forall_eq']))
  | (refine hK _ _ ?_; clear hK K; simp only [go_sem, simprocAttr])
  | refine gCd (by simp only [go_sem, simprocAttr]; rfl) rfl ?_
  | refine brT ?_ | refine brF ?_
  | (refine brS ?_ ?_ <;> intro hc <;> (try simp only [bls] at hc) <;> (try simp only [hc, bls]))
  | intro _ | refine And.intro ?_ ?_)
    all_goals first | omega | (unfold bigLen; omega) | exact ⟨_, _, ⟨rfl, rfl⟩, rfl⟩ | exact ⟨_, rfl⟩ | (rename_i hy; simp only [List.mem_singleton] at hy; subst hy; rfl) | with_reducible rfl | skip
end Go.Rad
