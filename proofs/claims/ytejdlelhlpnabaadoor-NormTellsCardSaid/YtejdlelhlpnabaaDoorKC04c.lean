/- Contracts: syntax, byte by byte: whether nodes are a tree. -/
import Derived.Test.YtejdlelhlpnabaaDoorKC04b
import Derived.Test.YtejdlelhlpnabaaDoorKRText
set_option linter.all false
namespace Go.Rad
open Go Go.Proofs
set_option linter.all false
set_option maxRecDepth 20000
set_option maxHeartbeats 4000000

theorem walk4uc (q f : Bool) (ns : List Node) (hns : ns.length ≤ 1000000) (hl : ∀ n ∈ ns, n.l.length ≤ maxLen) : ∀ (fuel at_ : Nat) (seen : List Int) (g : Nat), at_ < fuel → at_ < ns.length → seen.length ≤ 4000000 →
    ACall Tryd.prog 34 [.sl q f (nodes ns), .int .i64 at_, .osl 1000 g 0 seen.length] [(1000, (g, .row 1 (ints seen)))] fun r s => (walkS ns fuel at_ seen).1.length ≤ max seen.length (ns.length + at_ + 1) ∧ ∃ h, r = .tup [.osl 1000 h 0 (walkS ns fuel at_ seen).1.length, .bool (walkS ns fuel at_ seen).2] ∧ s = [(1000, (h, .row 1 (ints (walkS ns fuel at_ seen).1)))] := by
  unfold maxLen at hl
  intro fuel
  induction fuel with
  | zero => intro at_ seen g h; omega
  | succ fuel ih =>
    intro at_ seen g h1 h2 h3
    refine ACall.enter Tryd.func34 rfl (by kernel_rfl) (Nat.le_of_ble_eq_true rfl) ?_; simp only [initTm, Nat.reduceAdd]
    repeat' (first
  | refine gSq ?_ | refine gSk ?_ | refine gBl ?_ | refine gIb ?_ | refine gEx rfl ?_
  | ((first
  | (refine gRg [] [0, 1, 2, 6, 7, 8, 9, 10, 11, 16, 25, 42, 52] ?_; intro K hK)
  | (refine gd_split ?_ ?_ <;> intro hb <;> (try simp only [bls] at hb) <;> (try simp only [hb]))
  | refine gRt [1000] [.tmp 6, .tmp 7] rfl ?_ | refine gDn [1000] [.tmp 6, .tmp 7] rfl ?_) <;> (try simp only [go_sem, simprocAttr]))
  | (refine hK _ _ ?_; clear hK K; simp only [go_sem, simprocAttr])
  | refine gCd (by simp only [go_sem, simprocAttr]; rfl) rfl ?_
  | refine brT ?_ | refine brF ?_
  | (refine brS ?_ ?_ <;> intro hc <;> (try simp only [bls] at hc) <;> (try simp only [hc, bls]))
  | intro _ | refine And.intro ?_ ?_)
    · rw [walkS, if_pos (by omega)]; exact Nat.le_max_left _ _
    · rw [walkS, if_pos (by omega)]; exact ⟨g, rfl, rfl⟩
    have hx : ns[at_]? = some ns[at_] := List.getElem?_eq_getElem h2
    have hm := hl ns[at_] (List.getElem_mem h2)
    have hgd : ns.getD (at_ : Int).toNat default = ns[at_] := by simp [List.getD, hx]
    have hw : walkS ns (fuel + 1) at_ seen = if (ns[at_].l.foldl (kidStep (walkS ns fuel) at_) (seen, true)).2 then ((ns[at_].l.foldl (kidStep (walkS ns fuel) at_) (seen, true)).1 ++ [(at_ : Int)], true) else ns[at_].l.foldl (kidStep (walkS ns fuel) at_) (seen, true) := by
      rw [walkS, if_neg (by omega), hgd]
    rw [hw]; clear hw
    generalize ns[at_] = x at hx hm hgd
    clear hgd
    obtain ⟨xo, ⟨xa, xb, xc, xd⟩, xl, xlo, xhi, xn⟩ := x
    simp only at hm ⊢
    refine AGood.prune [0, 1, 2, 6, 7, 8] ?_; simp only [go_sem, simprocAttr]
    refine AGood.loopInv (α := Nat × List Int × Nat) (fun x => ([(0, .sl q f (nodes ns)), (1, .int .i64 at_), (2, .osl 1000 x.2.2 0 x.2.1.length), (6, .sl true true []), (7, .bool false), (8, .int .i64 x.1)], [(1000, (x.2.2, .row 1 (ints x.2.1)))]))
      (fun x => x.1 ≤ xl.length ∧ x.2.1.length ≤ ns.length + at_ ∧ (xl.take x.1).foldl (kidStep (walkS ns fuel) at_) (seen, true) = (x.2.1, true)) (fun x => xl.length - x.1) (0, seen, g) ⟨Nat.zero_le _, by simp only; omega, rfl⟩ rfl ?_
    rintro ⟨i, sn, gg⟩ ⟨hi, hs, hfold⟩ ih2
    simp only at hi hs hfold ih2 ⊢
    have e1 : (at_ : Int) < ns.length := by omega
    have e2 : (0 : Int) ≤ at_ := by omega
    by_cases hle : i < xl.length
    · have e4 : (i : Int) < xl.length := by omega
      have e5 : (0 : Int) ≤ i := by omega
      have hk : xl[i]? = some xl[i] := List.getElem?_eq_getElem hle
      generalize xl[i] = k at hk
      by_cases hbad : k < 0 ∨ (at_ : Int) ≤ k
      · have hst : kidStep (walkS ns fuel) at_ (sn, true) k = (sn, false) := by simp [kidStep, hbad]
        rw [kid_at hk hfold (by rw [hst]), hst]
        repeat' (first
  | refine gSq ?_ | refine gSk ?_ | refine gBl ?_ | refine gIb ?_ | refine gEx rfl ?_
  | ((first
  | (refine gRg [] [0, 1, 2, 6, 7, 8, 9, 10, 11, 16, 25, 42, 52] ?_; intro K hK)
  | (refine gd_split ?_ ?_ <;> intro hb <;> (try simp only [bls] at hb) <;> (try simp only [hb]))
  | refine gRt [1000] [.tmp 6, .tmp 7] rfl ?_ | refine gDn [1000] [.tmp 6, .tmp 7] rfl ?_) <;> (try simp only [go_sem, simprocAttr, e1, e2, e4, e5, hx, hk, Option.some.injEq, forall_eq']))
  | (refine hK _ _ ?_; clear hK K; simp only [go_sem, simprocAttr])
  | refine gCd (by simp only [go_sem, simprocAttr]; rfl) rfl ?_
  | refine brT ?_ | refine brF ?_
  | (refine brS ?_ ?_ <;> intro hc <;> (try simp only [bls] at hc) <;> (try simp only [hc, bls]))
  | intro _ | refine And.intro ?_ ?_)
        all_goals first | exact ⟨gg, rfl, rfl⟩ | omega
      · obtain ⟨m, rfl⟩ : ∃ m : Nat, k = m := ⟨k.toNat, by omega⟩
        have hst : kidStep (walkS ns fuel) at_ (sn, true) m = walkS ns fuel m sn := by simp [kidStep]; omega
        have e6 : ¬ (m : Int) < 0 := by omega
        have e7 : ¬ (at_ : Int) ≤ m := by omega
        have hcall := ih m sn gg (by omega) (by omega) (by omega)
        rcases hres : walkS ns fuel m sn with ⟨w, b⟩
        rw [hres] at hcall hst
        cases b
        · rw [kid_at hk hfold (by rw [hst]), hst]
          repeat' (first
  | refine gSq ?_ | refine gSk ?_ | refine gBl ?_ | refine gIb ?_ | refine gEx rfl ?_
  | ((first
  | (refine gRg [] [0, 1, 2, 6, 7, 8, 9, 10, 11, 16, 25, 42, 52] ?_; intro K hK)
  | (refine ACall.mono hcall ?_; rintro _ _ ⟨hlen, h', rfl, rfl⟩)
  | (refine gd_split ?_ ?_ <;> intro hb <;> (try simp only [bls] at hb) <;> (try simp only [hb]))
  | refine gRt [1000] [.tmp 6, .tmp 7] rfl ?_ | refine gDn [1000] [.tmp 6, .tmp 7] rfl ?_) <;> (try simp only [go_sem, simprocAttr, e1, e2, e4, e5, e6, e7, hx, hk, Option.some.injEq, forall_eq']))
  | (refine hK _ _ ?_; clear hK K; simp only [go_sem, simprocAttr])
  | refine gCd (by simp only [go_sem, simprocAttr]; rfl) rfl ?_
  | refine brT ?_ | refine brF ?_
  | (refine brS ?_ ?_ <;> intro hc <;> (try simp only [bls] at hc) <;> (try simp only [hc, bls]))
  | intro _ | refine And.intro ?_ ?_)
          all_goals (simp only at hlen; first | exact ⟨h', rfl, rfl⟩ | omega)
        · repeat' (first
  | refine gSq ?_ | refine gSk ?_ | refine gBl ?_ | refine gIb ?_ | refine gEx rfl ?_
  | ((first
  | (refine gRg [] [0, 1, 2, 6, 7, 8, 9, 10, 11, 16, 25, 42, 52] ?_; intro K hK)
  | (refine ACall.mono hcall ?_; rintro _ _ ⟨hlen, h', rfl, rfl⟩)
  | (refine gd_split ?_ ?_ <;> intro hb <;> (try simp only [bls] at hb) <;> (try simp only [hb]))
  | refine gRt [1000] [.tmp 6, .tmp 7] rfl ?_ | refine gDn [1000] [.tmp 6, .tmp 7] rfl ?_) <;> (try simp only [go_sem, simprocAttr, e1, e2, e4, e5, e6, e7, hx, hk, Option.some.injEq, forall_eq']))
  | (refine hK _ _ ?_; clear hK K; simp only [go_sem, simprocAttr])
  | refine gCd (by simp only [go_sem, simprocAttr]; rfl) rfl ?_
  | refine brT ?_ | refine brF ?_
  | (refine brS ?_ ?_ <;> intro hc <;> (try simp only [bls] at hc) <;> (try simp only [hc, bls]))
  | intro _ | refine And.intro ?_ ?_)
          · omega
          · omega
          · refine AGood.prune [0, 1, 2, 6, 7, 8] ?_; simp only [go_sem, simprocAttr]
            exact (ih2 (i + 1, w, h') ⟨by omega, by simp only at hlen ⊢; omega, by rw [take_one hk, List.foldl_append, hfold]; exact hst⟩ (by simp only; omega)).cast rfl rfl
    · have e4 : ¬ (i : Int) < xl.length := by omega
      rw [List.take_of_length_le (by omega)] at hfold
      rw [hfold]
      repeat' (first
  | refine gSq ?_ | refine gSk ?_ | refine gBl ?_ | refine gIb ?_ | refine gEx rfl ?_
  | ((first
  | (refine gRg [] [0, 1, 2, 6, 7, 8, 9, 10, 11, 16, 25, 42, 52] ?_; intro K hK)
  | (refine gd_split ?_ ?_ <;> intro hb <;> (try simp only [bls] at hb) <;> (try simp only [hb]))
  | refine gRt [1000] [.tmp 6, .tmp 7] rfl ?_ | refine gDn [1000] [.tmp 6, .tmp 7] rfl ?_) <;> (try simp only [go_sem, simprocAttr, e1, e2, e4, hx, Option.some.injEq, forall_eq']))
  | (refine hK _ _ ?_; clear hK K; simp only [go_sem, simprocAttr])
  | refine gCd (by simp only [go_sem, simprocAttr]; rfl) rfl ?_
  | refine brT ?_ | refine brF ?_
  | (refine brS ?_ ?_ <;> intro hc <;> (try simp only [bls] at hc) <;> (try simp only [hc, bls]))
  | intro _ | refine And.intro ?_ ?_)
      · rename_i y hy; simp only [List.mem_singleton] at hy; subst hy; rfl
      · rename_i y hy; simp only [List.mem_singleton] at hy; subst hy; rfl
      · unfold bigLen; omega
      · unfold bigLen; omega
      · simp only [List.length_append, List.length_cons, List.length_nil]; omega
      · rename_i h'
        exact ⟨h', by simp, by simp⟩

theorem right4uc (q f : Bool) (ns : List Node) (hl : ∀ n ∈ ns, n.l.length ≤ maxLen ∧ n.name.size ≤ maxLen) : ACall Tryd.prog 19 [.sl q f (nodes ns)] [] fun r s => r = .bool (right4 ns) ∧ s = [] := by
  refine ACall.enter Tryd.func19 rfl (by kernel_rfl) (Nat.le_of_ble_eq_true rfl) ?_; simp only [initTm, Nat.reduceAdd]
  repeat' (first
  | refine gSq ?_ | refine gSk ?_ | refine gBl ?_ | refine gIb ?_ | refine gEx rfl ?_
  | ((first
  | (refine gRg [] [0, 2, 3, 4, 5, 6, 14, 18, 26, 43, 47, 55] ?_; intro K hK)
  | (refine gd_split ?_ ?_ <;> intro hb <;> (try simp only [bls] at hb) <;> (try simp only [hb]))
  | refine gRt [] [.tmp 2] rfl ?_ | refine gDn [] [.tmp 2] rfl ?_) <;> (try simp only [go_sem, simprocAttr]))
  | (refine hK _ _ ?_; clear hK K; simp only [go_sem, simprocAttr])
  | refine gCd (by simp only [go_sem, simprocAttr]; rfl) rfl ?_
  | refine brT ?_ | refine brF ?_
  | (refine brS ?_ ?_ <;> intro hc <;> (try simp only [bls] at hc) <;> (try simp only [hc, bls]))
  | intro _ | refine And.intro ?_ ?_)
  · refine congrArg AVal.bool ?_; simp only [right4]; rw [if_pos (by omega)]
  · have hn1 : ¬ (ns.length < 1 ∨ 1024 < ns.length) := by omega
    have hr : right4 ns = (ns.all shapeOk && ((walkS ns ns.length ((ns.length : Int) - 1) []).2 && decide ((walkS ns ns.length ((ns.length : Int) - 1) []).1 = (List.range ns.length).map fun (i : Nat) => (i : Int)))) := by
      simp only [right4, if_neg hn1]
      cases ns.all shapeOk <;> simp
    rw [hr]; clear hr
    refine AGood.prune [0, 2, 3] ?_; simp only [go_sem, simprocAttr]
    refine AGood.loopInv (α := Nat) (fun i => ([(0, .sl q f (nodes ns)), (2, .bool false), (3, .int .i64 i)], [])) (fun i => i ≤ ns.length ∧ (ns.take i).all shapeOk = true) (fun i => ns.length - i) 0 ⟨Nat.zero_le _, rfl⟩ rfl ?_
    rintro i ⟨hi, hall⟩ ih
    simp only
    by_cases hle : i < ns.length
    · have e4 : (i : Int) < ns.length := by omega
      have e5 : (0 : Int) ≤ i := by omega
      have hx : ns[i]? = some ns[i] := List.getElem?_eq_getElem hle
      have hm := hl ns[i] (List.getElem_mem hle)
      generalize ns[i] = x at hx hm
      have hsh := fun fl => shape4uc fl x hm.2
      cases hok : shapeOk x
      all_goals
        rw [hok] at hsh
        obtain ⟨xo, ⟨xa, xb, xc, xd⟩, xl, xlo, xhi, xn⟩ := x
        repeat' (first
  | refine gSq ?_ | refine gSk ?_ | refine gBl ?_ | refine gIb ?_ | refine gEx rfl ?_
  | ((first
  | (refine gRg [] [0, 2, 3, 4, 5, 6, 14, 18, 26, 43, 47, 55] ?_; intro K hK)
  | refine cAl (hsh false) rfl rfl rfl ?_
  | (refine gd_split ?_ ?_ <;> intro hb <;> (try simp only [bls] at hb) <;> (try simp only [hb]))
  | refine gRt [] [.tmp 2] rfl ?_ | refine gDn [] [.tmp 2] rfl ?_) <;> (try simp only [go_sem, simprocAttr, e4, e5, hx, Option.some.injEq, forall_eq']))
  | (refine hK _ _ ?_; clear hK K; simp only [go_sem, simprocAttr])
  | refine gCd (by simp only [go_sem, simprocAttr]; rfl) rfl ?_
  | refine brT ?_ | refine brF ?_
  | (refine brS ?_ ?_ <;> intro hc <;> (try simp only [bls] at hc) <;> (try simp only [hc, bls]))
  | intro _ | refine And.intro ?_ ?_)
      · have : ns.all shapeOk = false := by
          rw [List.all_eq_false]
          exact ⟨_, List.mem_of_getElem? hx, by simp [hok]⟩
        rw [this]; rfl
      · omega
      · omega
      · refine AGood.prune [0, 2, 3] ?_; simp only [go_sem, simprocAttr]
        exact (ih (i + 1) ⟨by omega, by rw [take_one hx, List.all_append, hall]; simp [hok]⟩ (by omega)).cast rfl rfl
    · have e4 : ¬ (i : Int) < ns.length := by omega
      rw [List.take_of_length_le (by omega)] at hall
      rw [hall]
      obtain ⟨m, hm⟩ : ∃ m, ns.length = m + 1 := ⟨ns.length - 1, by omega⟩
      have e5 : (ns.length : Int) - 1 = (m : Nat) := by omega
      have hwalk := fun g => walk4uc q f ns (by omega) (fun n h => (hl n h).1) ns.length m [] g (by omega) (by omega) (Nat.zero_le _)
      rw [e5]
      rcases hres : walkS ns ns.length m [] with ⟨w, b⟩
      rw [hres] at hwalk
      simp only at hwalk
      cases b
      · repeat' (first
  | refine gSq ?_ | refine gSk ?_ | refine gBl ?_ | refine gIb ?_ | refine gEx rfl ?_
  | ((first
  | (refine gRg [] [0, 2, 3, 4, 5, 6, 14, 18, 26, 43, 47, 55] ?_; intro K hK)
  | (refine ACall.ownArg 2 1000 1 (by decide) rfl (fun g => ?_); refine ACall.mono (hwalk g) ?_; rintro _ _ ⟨hlen, h', rfl, rfl⟩)
  | (refine gd_split ?_ ?_ <;> intro hb <;> (try simp only [bls] at hb) <;> (try simp only [hb]))
  | refine gRt [] [.tmp 2] rfl ?_ | refine gDn [] [.tmp 2] rfl ?_) <;> (try simp only [go_sem, simprocAttr, e4, e5]))
  | (refine hK _ _ ?_; clear hK K; simp only [go_sem, simprocAttr])
  | refine gCd (by simp only [go_sem, simprocAttr]; rfl) rfl ?_
  | refine brT ?_ | refine brF ?_
  | (refine brS ?_ ?_ <;> intro hc <;> (try simp only [bls] at hc) <;> (try simp only [hc, bls]))
  | intro _ | refine And.intro ?_ ?_)
        · omega
        · omega
        · rfl
      · repeat' (first
  | refine gSq ?_ | refine gSk ?_ | refine gBl ?_ | refine gIb ?_ | refine gEx rfl ?_
  | ((first
  | (refine gRg [] [0, 2, 3, 4, 5, 6, 14, 18, 26, 43, 47, 55] ?_; intro K hK)
  | (refine ACall.ownArg 2 1000 1 (by decide) rfl (fun g => ?_); refine ACall.mono (hwalk g) ?_; rintro _ _ ⟨hlen, h', rfl, rfl⟩)
  | (refine gd_split ?_ ?_ <;> intro hb <;> (try simp only [bls] at hb) <;> (try simp only [hb]))
  | refine gRt [] [.tmp 2] rfl ?_ | refine gDn [] [.tmp 2] rfl ?_) <;> (try simp only [go_sem, simprocAttr, e4, e5]))
  | (refine hK _ _ ?_; clear hK K; simp only [go_sem, simprocAttr])
  | refine gCd (by simp only [go_sem, simprocAttr]; rfl) rfl ?_
  | refine brT ?_ | refine brF ?_
  | (refine brS ?_ ?_ <;> intro hc <;> (try simp only [bls] at hc) <;> (try simp only [hc, bls]))
  | intro _ | refine And.intro ?_ ?_)
        · omega
        · omega
        · refine congrArg AVal.bool ?_
          simp only [Bool.false_eq, decide_eq_false_iff_not]
          rintro rfl
          skip
          exact hc (by simp)
        · skip
          try simp only [Bool.true_and]
          refine AGood.prune [0, 2, 4, 6] ?_; simp only [go_sem, simprocAttr]
          refine AGood.loopInv (α := Nat) (fun i => ([(0, .sl q f (nodes ns)), (2, .bool false), (4, .osl 1000 h' 0 w.length), (6, .int .i64 i)], [(1000, (h', .row 1 (ints w)))])) (fun i => i ≤ w.length ∧ w.take i = (List.range i).map fun (i : Nat) => (i : Int)) (fun i => w.length - i) 0 ⟨Nat.zero_le _, rfl⟩ rfl ?_
          rintro j ⟨hj, htk⟩ ih2
          simp only
          by_cases hle2 : j < w.length
          · have f4 : (j : Int) < w.length := by omega
            have f5 : (0 : Int) ≤ j := by omega
            have hk : w[j]? = some w[j] := List.getElem?_eq_getElem hle2
            generalize w[j] = k at hk
            by_cases hkj : k = j
            · repeat' (first
  | refine gSq ?_ | refine gSk ?_ | refine gBl ?_ | refine gIb ?_ | refine gEx rfl ?_
  | ((first
  | (refine gRg [] [0, 2, 3, 4, 5, 6, 14, 18, 26, 43, 47, 55] ?_; intro K hK)
  | (refine gd_split ?_ ?_ <;> intro hb <;> (try simp only [bls] at hb) <;> (try simp only [hb]))
  | refine gRt [] [.tmp 2] rfl ?_ | refine gDn [] [.tmp 2] rfl ?_) <;> (try simp only [go_sem, simprocAttr, f4, f5, hk, hkj, hle2, Option.some.injEq, forall_eq']))
  | (refine hK _ _ ?_; clear hK K; simp only [go_sem, simprocAttr])
  | refine gCd (by simp only [go_sem, simprocAttr]; rfl) rfl ?_
  | refine brT ?_ | refine brF ?_
  | (refine brS ?_ ?_ <;> intro hc <;> (try simp only [bls] at hc) <;> (try simp only [hc, bls]))
  | intro _ | refine And.intro ?_ ?_)
              · omega
              · omega
              · refine AGood.prune [0, 2, 4, 6] ?_; simp only [go_sem, simprocAttr]
                exact (ih2 (j + 1) ⟨by omega, by rw [take_one hk, htk, hkj, List.range_succ]; simp⟩ (by omega)).cast rfl rfl
            · repeat' (first
  | refine gSq ?_ | refine gSk ?_ | refine gBl ?_ | refine gIb ?_ | refine gEx rfl ?_
  | ((first
  | (refine gRg [] [0, 2, 3, 4, 5, 6, 14, 18, 26, 43, 47, 55] ?_; intro K hK)
  | (refine gd_split ?_ ?_ <;> intro hb <;> (try simp only [bls] at hb) <;> (try simp only [hb]))
  | refine gRt [] [.tmp 2] rfl ?_ | refine gDn [] [.tmp 2] rfl ?_) <;> (try simp only [go_sem, simprocAttr, f4, f5, hk, hkj, hle2, Option.some.injEq, forall_eq']))
  | (refine hK _ _ ?_; clear hK K; simp only [go_sem, simprocAttr])
  | refine gCd (by simp only [go_sem, simprocAttr]; rfl) rfl ?_
  | refine brT ?_ | refine brF ?_
  | (refine brS ?_ ?_ <;> intro hc <;> (try simp only [bls] at hc) <;> (try simp only [hc, bls]))
  | intro _ | refine And.intro ?_ ?_)
              refine congrArg AVal.bool ?_
              simp only [Bool.false_eq, decide_eq_false_iff_not]
              intro hw
              rw [hw] at hk
              exact hkj (rg_get hk)
          · have f4 : ¬ (j : Int) < w.length := by omega
            rw [List.take_of_length_le (by omega)] at htk
            have hjn : j = ns.length := by omega
            subst hjn
            repeat' (first
  | refine gSq ?_ | refine gSk ?_ | refine gBl ?_ | refine gIb ?_ | refine gEx rfl ?_
  | ((first
  | (refine gRg [] [0, 2, 3, 4, 5, 6, 14, 18, 26, 43, 47, 55] ?_; intro K hK)
  | (refine gd_split ?_ ?_ <;> intro hb <;> (try simp only [bls] at hb) <;> (try simp only [hb]))
  | refine gRt [] [.tmp 2] rfl ?_ | refine gDn [] [.tmp 2] rfl ?_) <;> (try simp only [go_sem, simprocAttr, f4]))
  | (refine hK _ _ ?_; clear hK K; simp only [go_sem, simprocAttr])
  | refine gCd (by simp only [go_sem, simprocAttr]; rfl) rfl ?_
  | refine brT ?_ | refine brF ?_
  | (refine brS ?_ ?_ <;> intro hc <;> (try simp only [bls] at hc) <;> (try simp only [hc, bls]))
  | intro _ | refine And.intro ?_ ?_)
            rw [htk]; simp
  · refine congrArg AVal.bool ?_; simp only [right4]; rw [if_pos (by omega)]
end Go.Rad
