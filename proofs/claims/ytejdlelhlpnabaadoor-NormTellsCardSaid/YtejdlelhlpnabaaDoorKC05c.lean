/- Contracts: syntax: whether nodes are a tree. -/
import Derived.Test.YtejdlelhlpnabaaDoorKC05b
set_option linter.all false
namespace Go.Rad
open Go Go.Proofs
set_option linter.all false
set_option maxRecDepth 20000
set_option maxHeartbeats 4000000

theorem stk_no {ns : List Node} {i : Nat} {st : List Int} {n : Node} (h : ¬ (shapeOk n = true ∧ n.l.length ≤ st.length ∧ st.drop (st.length - n.l.length) = n.l)) : stkS (n :: ns) i st = none := by
  rw [stkS, if_neg h]
theorem rightS_no {l : List Node} (h : stkS l 0 [] = none) : false = rightS l := by
  simp [rightS, h]
theorem rightS_c (q f : Bool) (ns : List Node) (hl : ∀ n ∈ ns, n.name.size ≤ maxLen ∧ n.l.length ≤ maxLen) : ACall Tryd.prog 21 [.sl q f (nodes ns)] [] fun r s => r = .bool (rightS ns) ∧ s = [] := by
  refine ACall.enter Tryd.func21 rfl (by kernel_rfl) (Nat.le_of_ble_eq_true rfl) ?_; simp only [initTm, Nat.reduceAdd]
  repeat' (first
  | refine gSq ?_ | refine gSk ?_ | refine gBl ?_ | refine gIb ?_ | refine gEx rfl ?_
  | ((first
  | (refine gRg [] [0, 2, 3, 4, 5, 6, 14, 15, 16, 17, 18, 32, 45] ?_; intro K hK)
  | (refine gDr 10 [] 7 [0, 1, 2, 3, 4, 5, 6] [0, 2, 3, 4, 5, 6, 14, 15, 16, 17, 18, 32, 45] rfl ?_; intro K hK)
  | (refine gd_split ?_ ?_ <;> intro hb <;> (try simp only [bls] at hb) <;> (try simp only [hb]))
  | refine gRt [] [.tmp 2] rfl ?_ | refine gDn [] [.tmp 2] rfl ?_) <;> (try simp only [go_sem, simprocAttr]))
  | (refine hK _ _ ?_; clear hK K; simp only [go_sem, simprocAttr])
  | refine gCd (by simp only [go_sem, simprocAttr]; rfl) rfl ?_
  | refine brT ?_ | refine brF ?_
  | (refine brS ?_ ?_ <;> intro hc <;> (try simp only [bls] at hc) <;> (try simp only [hc, bls]))
  | intro _ | refine And.intro ?_ ?_)
  · refine congrArg AVal.bool ?_; simp only [rightS]; rw [show decide (1 ≤ ns.length ∧ ns.length ≤ 1024) = false from by simp; omega, Bool.false_and]
  · have hn1 : 1 ≤ ns.length ∧ ns.length ≤ 1024 := by omega
    refine AGood.ownTm 3 900 1 (by decide) rfl fun g => ?_
    simp only [go_sem, simprocAttr]
    refine AGood.prune [0, 2, 3, 15, 16, 17] ?_; simp only [go_sem, simprocAttr]
    refine AGood.loopInv (α := Nat × List Int × Nat) (fun x => ([(0, .sl q f (nodes ns)), (2, .bool false), (3, .osl 900 x.2.2 0 x.2.1.length), (15, .sl q f (nodes ns)), (16, .int .i64 ns.length), (17, .int .i64 x.1)], [(900, (x.2.2, .row 1 (ints x.2.1)))])) (fun x => x.1 ≤ ns.length ∧ x.2.1.length ≤ x.1 ∧ stkS ns 0 [] = stkS (ns.drop x.1) x.1 x.2.1) (fun x => ns.length - x.1) (0, [], g) ⟨Nat.zero_le _, Nat.zero_le _, rfl⟩ rfl ?_
    rintro ⟨i, st, g⟩ ⟨hi, hst, hrun⟩ ih
    simp only at hi hst hrun ih ⊢
    by_cases hle : i < ns.length
    · have e4 : (i : Int) < ns.length := by omega
      have e5 : (0 : Int) ≤ i := by omega
      have hx : ns[i]? = some ns[i] := List.getElem?_eq_getElem hle
      have hm := hl ns[i] (List.getElem_mem hle)
      have hd : ns.drop i = ns[i] :: ns.drop (i + 1) := List.drop_eq_getElem_cons hle
      rw [hd] at hrun
      generalize ns[i] = x at hx hm hrun
      have hsh := shaped_c false x hm
      by_cases hok : shapeOk x = true
      · by_cases hlt : st.length < x.l.length
        · have hno := stk_no (ns := ns.drop (i + 1)) (i := i) (st := st) (n := x) (by rintro ⟨_, h, _⟩; omega)
          rw [hno] at hrun
          rw [hok] at hsh
          obtain ⟨xo, ⟨xa, xb, xc, xd⟩, xl, xlo, xhi, xn⟩ := x
          simp only at hlt
          have e6 : (st.length : Int) < xl.length := by omega
          repeat' (first
  | refine gSq ?_ | refine gSk ?_ | refine gBl ?_ | refine gIb ?_ | refine gEx rfl ?_
  | ((first
  | (refine gRg [] [0, 2, 3, 4, 5, 6, 14, 15, 16, 17, 18, 32, 45] ?_; intro K hK)
  | (refine gDr 10 [] 7 [0, 1, 2, 3, 4, 5, 6] [0, 2, 3, 4, 5, 6, 14, 15, 16, 17, 18, 32, 45] rfl ?_; intro K hK)
  | refine cAl (hsh) rfl rfl rfl ?_
  | (refine gd_split ?_ ?_ <;> intro hb <;> (try simp only [bls] at hb) <;> (try simp only [hb]))
  | refine gRt [] [.tmp 2] rfl ?_ | refine gDn [] [.tmp 2] rfl ?_) <;> (try simp only [go_sem, simprocAttr, e4, e5, e6, hx, Option.some.injEq, forall_eq']))
  | (refine hK _ _ ?_; clear hK K; simp only [go_sem, simprocAttr])
  | refine gCd (by simp only [go_sem, simprocAttr]; rfl) rfl ?_
  | refine brT ?_ | refine brF ?_
  | (refine brS ?_ ?_ <;> intro hc <;> (try simp only [bls] at hc) <;> (try simp only [hc, bls]))
  | intro _ | refine And.intro ?_ ?_)
          exact congrArg AVal.bool (rightS_no hrun)
        · obtain ⟨m, hm2⟩ : ∃ m, st.length = m + x.l.length := ⟨st.length - x.l.length, by omega⟩
          have hmm : st.length - x.l.length = m := by omega
          by_cases heq : st.drop m = x.l
          · rw [stkS, if_pos ⟨hok, by omega, by rw [hmm]; exact heq⟩, hmm] at hrun
            rw [hok] at hsh
            have ih := fun g' => ih (i + 1, st.take m ++ [(i : Int)], g') ⟨by simp only; omega, by simp; omega, hrun⟩ (by simp only; omega)
            obtain ⟨xo, ⟨xa, xb, xc, xd⟩, xl, xlo, xhi, xn⟩ := x
            simp only at hlt hm2 hmm heq hm
            have e6 : ¬ (st.length : Int) < xl.length := by omega
            have e7 : (st.length : Int) - xl.length = (m : Nat) := by omega
            have e8 : min m st.length = m := by omega
            have hcall := equal_c false false true false (st.drop m) xl (by unfold maxLen; rw [List.length_drop]; omega)
            rw [heq, decide_eq_true rfl] at hcall
            repeat' (first
  | refine gSq ?_ | refine gSk ?_ | refine gBl ?_ | refine gIb ?_ | refine gEx rfl ?_
  | ((first
  | (refine AGood.at 12 ?_; (refine AGood.shrink 900 m rfl ?_; simp only [go_sem, simprocAttr, ← List.map_take]); (refine gRg [] [0, 2, 3, 4, 5, 6, 14, 15, 16, 17, 18, 32, 45] ?_; intro K hK))
  | (refine gRg [] [0, 2, 3, 4, 5, 6, 14, 15, 16, 17, 18, 32, 45] ?_; intro K hK)
  | (refine gDr 10 [] 7 [0, 1, 2, 3, 4, 5, 6] [0, 2, 3, 4, 5, 6, 14, 15, 16, 17, 18, 32, 45] rfl ?_; intro K hK)
  | refine cAl (hsh) rfl rfl rfl ?_
  | (refine ⟨.bool true, ACall.lent [900] hcall (map_two ((tr_lent rfl rfl rfl (by simp; omega)).trans ((congrArg (AVal.sl false false) (ints_part _ _ _)).trans (sl_ints (by rw [List.take_of_length_le (by simp), heq])))) rfl) rfl rfl rfl, ?_⟩)
  | (refine gd_split ?_ ?_ <;> intro hb <;> (try simp only [bls] at hb) <;> (try simp only [hb]))
  | refine gRt [] [.tmp 2] rfl ?_ | refine gDn [] [.tmp 2] rfl ?_) <;> (try simp only [go_sem, simprocAttr, e4, e5, e6, e7, e8, hx, Option.some.injEq, forall_eq', List.length_take]))
  | (refine hK _ _ ?_; clear hK K; simp only [go_sem, simprocAttr])
  | refine gCd (by simp only [go_sem, simprocAttr]; rfl) rfl ?_
  | refine brT ?_ | refine brF ?_
  | (refine brS ?_ ?_ <;> intro hc <;> (try simp only [bls] at hc) <;> (try simp only [hc, bls]))
  | intro _ | refine And.intro ?_ ?_)
            all_goals first | omega | (unfold bigLen; omega) | exact ⟨_, _, ⟨rfl, rfl⟩, rfl⟩ | exact ⟨_, rfl⟩ | (rename_i hy; simp only [List.mem_singleton] at hy; subst hy; rfl) | skip
            rename_i h'
            refine AGood.filt [900] ?_
            simp only [sf_cons, sf_nil, go_sem, simprocAttr]
            refine AGood.prune [0, 2, 3, 15, 16, 17] ?_; simp only [go_sem, simprocAttr]
            exact (ih h').cast (by simp; omega) (by simp)
          · have hno := stk_no (ns := ns.drop (i + 1)) (i := i) (st := st) (n := x) (by rintro ⟨_, _, h⟩; rw [hmm] at h; exact heq h)
            rw [hno] at hrun
            rw [hok] at hsh
            obtain ⟨xo, ⟨xa, xb, xc, xd⟩, xl, xlo, xhi, xn⟩ := x
            simp only at hlt hm2 hmm heq hm
            have e6 : ¬ (st.length : Int) < xl.length := by omega
            have e7 : (st.length : Int) - xl.length = (m : Nat) := by omega
            have hcall := equal_c false false true false (st.drop m) xl (by unfold maxLen; rw [List.length_drop]; omega)
            rw [decide_eq_false heq] at hcall
            repeat' (first
  | refine gSq ?_ | refine gSk ?_ | refine gBl ?_ | refine gIb ?_ | refine gEx rfl ?_
  | ((first
  | (refine gRg [] [0, 2, 3, 4, 5, 6, 14, 15, 16, 17, 18, 32, 45] ?_; intro K hK)
  | (refine gDr 10 [] 7 [0, 1, 2, 3, 4, 5, 6] [0, 2, 3, 4, 5, 6, 14, 15, 16, 17, 18, 32, 45] rfl ?_; intro K hK)
  | refine cAl (hsh) rfl rfl rfl ?_
  | (refine ⟨.bool false, ACall.lent [900] hcall (map_two ((tr_lent rfl rfl rfl (by simp; omega)).trans ((congrArg (AVal.sl false false) (ints_part _ _ _)).trans (sl_ints (by rw [List.take_of_length_le (by simp)])))) rfl) rfl rfl rfl, ?_⟩)
  | (refine gd_split ?_ ?_ <;> intro hb <;> (try simp only [bls] at hb) <;> (try simp only [hb]))
  | refine gRt [] [.tmp 2] rfl ?_ | refine gDn [] [.tmp 2] rfl ?_) <;> (try simp only [go_sem, simprocAttr, e4, e5, e6, e7, hx, Option.some.injEq, forall_eq', List.length_take]))
  | (refine hK _ _ ?_; clear hK K; simp only [go_sem, simprocAttr])
  | refine gCd (by simp only [go_sem, simprocAttr]; rfl) rfl ?_
  | refine brT ?_ | refine brF ?_
  | (refine brS ?_ ?_ <;> intro hc <;> (try simp only [bls] at hc) <;> (try simp only [hc, bls]))
  | intro _ | refine And.intro ?_ ?_)
            all_goals first | omega | (unfold bigLen; omega) | exact ⟨_, _, ⟨rfl, rfl⟩, rfl⟩ | exact ⟨_, rfl⟩ | (rename_i hy; simp only [List.mem_singleton] at hy; subst hy; rfl) | skip
            exact congrArg AVal.bool (rightS_no hrun)
      · have hno := stk_no (ns := ns.drop (i + 1)) (i := i) (st := st) (n := x) (by rintro ⟨h, _⟩; exact hok h)
        rw [hno] at hrun
        rw [show shapeOk x = false from by simpa using hok] at hsh
        obtain ⟨xo, ⟨xa, xb, xc, xd⟩, xl, xlo, xhi, xn⟩ := x
        repeat' (first
  | refine gSq ?_ | refine gSk ?_ | refine gBl ?_ | refine gIb ?_ | refine gEx rfl ?_
  | ((first
  | (refine gRg [] [0, 2, 3, 4, 5, 6, 14, 15, 16, 17, 18, 32, 45] ?_; intro K hK)
  | (refine gDr 10 [] 7 [0, 1, 2, 3, 4, 5, 6] [0, 2, 3, 4, 5, 6, 14, 15, 16, 17, 18, 32, 45] rfl ?_; intro K hK)
  | refine cAl (hsh) rfl rfl rfl ?_
  | (refine gd_split ?_ ?_ <;> intro hb <;> (try simp only [bls] at hb) <;> (try simp only [hb]))
  | refine gRt [] [.tmp 2] rfl ?_ | refine gDn [] [.tmp 2] rfl ?_) <;> (try simp only [go_sem, simprocAttr, e4, e5, hx, Option.some.injEq, forall_eq']))
  | (refine hK _ _ ?_; clear hK K; simp only [go_sem, simprocAttr])
  | refine gCd (by simp only [go_sem, simprocAttr]; rfl) rfl ?_
  | refine brT ?_ | refine brF ?_
  | (refine brS ?_ ?_ <;> intro hc <;> (try simp only [bls] at hc) <;> (try simp only [hc, bls]))
  | intro _ | refine And.intro ?_ ?_)
        exact congrArg AVal.bool (rightS_no hrun)
    · have e4 : ¬ (i : Int) < ns.length := by omega
      have hin : i = ns.length := by omega
      subst hin
      rw [List.drop_length] at hrun
      repeat' (first
  | refine gSq ?_ | refine gSk ?_ | refine gBl ?_ | refine gIb ?_ | refine gEx rfl ?_
  | ((first
  | (refine gRg [] [0, 2, 3, 4, 5, 6, 14, 15, 16, 17, 18, 32, 45] ?_; intro K hK)
  | (refine gDr 10 [] 7 [0, 1, 2, 3, 4, 5, 6] [0, 2, 3, 4, 5, 6, 14, 15, 16, 17, 18, 32, 45] rfl ?_; intro K hK)
  | (refine gd_split ?_ ?_ <;> intro hb <;> (try simp only [bls] at hb) <;> (try simp only [hb]))
  | refine gRt [] [.tmp 2] rfl ?_ | refine gDn [] [.tmp 2] rfl ?_) <;> (try simp only [go_sem, simprocAttr, e4]))
  | (refine hK _ _ ?_; clear hK K; simp only [go_sem, simprocAttr])
  | refine gCd (by simp only [go_sem, simprocAttr]; rfl) rfl ?_
  | refine brT ?_ | refine brF ?_
  | (refine brS ?_ ?_ <;> intro hc <;> (try simp only [bls] at hc) <;> (try simp only [hc, bls]))
  | intro _ | refine And.intro ?_ ?_)
      refine congrArg AVal.bool ?_
      simp only [rightS, hrun, stkS, hn1, and_self, decide_true, Bool.true_and]
      rw [decide_eq_decide]
      omega
  · refine congrArg AVal.bool ?_; simp only [rightS]; rw [show decide (1 ≤ ns.length ∧ ns.length ≤ 1024) = false from by simp; omega, Bool.false_and]
end Go.Rad
