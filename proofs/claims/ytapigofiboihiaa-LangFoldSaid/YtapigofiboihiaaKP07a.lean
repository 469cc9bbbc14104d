/- Contracts: the document's meaning of trees: places of a text. -/
import Derived.Test.YtapigofiboihiaaKRNode
import Derived.Test.YtapigofiboihiaaKRNorm
set_option linter.all false
namespace Go.Rad
open Go Go.Proofs
set_option linter.all false
set_option maxRecDepth 20000
set_option maxHeartbeats 4000000

theorem places_c (w : ByteArray) (hw : w.size ≤ 1000000) : ACall Try.prog 32 [.str w] [] fun r s => ∃ h, r = .osl 6 h 0 (w.size + 1) ∧ s = [(6, (h, .row 1 (bools (falses (w.size + 1)))))] := by
  have e1 : (w.size : Int) + 1 = ((w.size + 1 : Nat) : Int) := by omega
  have e2 : List.map (List.map nrm1) (List.replicate (w.size + 1) [AVal.bool false]) = bools (falses (w.size + 1)) := by simp [falses, nrm1]
  refine ACall.enter Try.func32 rfl (by kernel_rfl) (Nat.le_of_ble_eq_true rfl) ?_; simp only [initTm, Nat.reduceAdd]
  repeat' (first
  | refine gSq ?_ | refine gSk ?_ | refine gBl ?_ | refine gIb ?_ | refine gEx rfl ?_
  | ((first
  | (refine gRg [] [0, 2] ?_; intro K hK)
  | (refine gd_split ?_ ?_ <;> intro hb <;> (try simp only [bls] at hb) <;> (try simp only [hb]))
  | refine gRt [6] [.tmp 2] rfl ?_ | refine gDn [6] [.tmp 2] rfl ?_) <;> (try simp only [go_sem, simprocAttr, e1, e2]))
  | (refine hK _ _ ?_; clear hK K; simp only [go_sem, simprocAttr])
  | refine gCd (by simp only [go_sem, simprocAttr]; rfl) rfl ?_
  | refine brT ?_ | refine brF ?_
  | (refine brS ?_ ?_ <;> intro hc <;> (try simp only [bls] at hc) <;> (try simp only [hc, bls]))
  | intro _ | refine And.intro ?_ ?_)
  all_goals first | omega | (unfold bigLen; omega) | exact ⟨_, _, ⟨rfl, rfl⟩, rfl⟩ | exact ⟨_, rfl⟩ | (rename_i hy; simp only [List.mem_singleton] at hy; subst hy; rfl) | with_reducible rfl | skip
  rename_i h
  exact ⟨h, rfl, by simp [falses, nrm1, List.replicate_succ]⟩
theorem same7uc (q f q' f' : Bool) (a b : List Bool) (h : a.length = b.length) (hl : a.length ≤ 1000001) : ACall Try.prog 63 [.sl q f (bools a), .sl q' f' (bools b)] [] fun r s => r = .bool (decide (a = b)) ∧ s = [] := by
  obtain ⟨S, hS⟩ : ∃ S : Bool, S = decide (a = b) := ⟨_, rfl⟩
  rw [← hS]
  refine ACall.enter Try.func63 rfl (by kernel_rfl) (Nat.le_of_ble_eq_true rfl) ?_; simp only [initTm, Nat.reduceAdd]
  repeat' (first
  | refine gSq ?_ | refine gSk ?_ | refine gBl ?_ | refine gIb ?_ | refine gEx rfl ?_
  | ((first
  | (refine gRg [] [0, 1, 4, 5, 9, 20] ?_; intro K hK)
  | (refine gDr 4 [] 9 [0, 1, 2, 3, 4, 5, 6, 7, 8] [0, 1, 4, 5, 9, 20] rfl ?_; intro K hK)
  | (refine gd_split ?_ ?_ <;> intro hb <;> (try simp only [bls] at hb) <;> (try simp only [hb]))
  | refine gRt [] [.tmp 4] rfl ?_ | refine gDn [] [.tmp 4] rfl ?_) <;> (try simp only [go_sem, simprocAttr]))
  | (refine hK _ _ ?_; clear hK K; simp only [go_sem, simprocAttr])
  | refine gCd (by simp only [go_sem, simprocAttr]; rfl) rfl ?_
  | refine brT ?_ | refine brF ?_
  | (refine brS ?_ ?_ <;> intro hc <;> (try simp only [bls] at hc) <;> (try simp only [hc, bls]))
  | intro _ | refine And.intro ?_ ?_)
  all_goals first | omega | (unfold bigLen; omega) | exact ⟨_, _, ⟨rfl, rfl⟩, rfl⟩ | exact ⟨_, rfl⟩ | (rename_i hy; simp only [List.mem_singleton] at hy; subst hy; rfl) | with_reducible rfl | skip
  refine AGood.prune [0, 1, 4, 5] ?_; simp only [go_sem, simprocAttr]
  refine AGood.loopInv (α := Nat) (fun i => ([(0, .sl q f (bools a)), (1, .sl q' f' (bools b)), (4, .bool false), (5, .int .i64 i)], [])) (fun i => i ≤ a.length ∧ S = decide (a.drop i = b.drop i)) (fun i => a.length - i) 0 ⟨Nat.zero_le _, by simpa using hS⟩ rfl ?_
  rintro i ⟨hi, hrun⟩ ih
  simp only at hi hrun ih ⊢
  by_cases hle : i < a.length
  · have e4 : (i : Int) < a.length := by omega
    have e5 : (0 : Int) ≤ i := by omega
    have e6 : (i : Int) < b.length := by omega
    have e7 : (i : Int) + 1 = ((i + 1 : Nat) : Int) := by omega
    have ha : a[i]? = some a[i] := List.getElem?_eq_getElem hle
    have hb : b[i]? = some (b[i]'(by omega)) := List.getElem?_eq_getElem (by omega)
    rw [List.drop_eq_getElem_cons hle, List.drop_eq_getElem_cons (by omega : i < b.length)] at hrun
    generalize a[i] = x at ha hrun
    generalize b[i]'(by omega) = y at hb hrun
    by_cases hxy : x = y
    · subst hxy
      simp only [List.cons.injEq, true_and] at hrun
      repeat' (first
  | refine gSq ?_ | refine gSk ?_ | refine gBl ?_ | refine gIb ?_ | refine gEx rfl ?_
  | ((first
  | (refine gRg [] [0, 1, 4, 5, 9, 20] ?_; intro K hK)
  | (refine gDr 4 [] 9 [0, 1, 2, 3, 4, 5, 6, 7, 8] [0, 1, 4, 5, 9, 20] rfl ?_; intro K hK)
  | (refine gd_split ?_ ?_ <;> intro hb <;> (try simp only [bls] at hb) <;> (try simp only [hb]))
  | refine gRt [] [.tmp 4] rfl ?_ | refine gDn [] [.tmp 4] rfl ?_) <;> (try simp only [go_sem, simprocAttr, e4, e5, e6, e7, ha, hb, bne_self_eq_false, beq_self_eq_true, Option.some.injEq, forall_eq']))
  | (refine hK _ _ ?_; clear hK K; simp only [go_sem, simprocAttr])
  | refine gCd (by simp only [go_sem, simprocAttr]; rfl) rfl ?_
  | refine brT ?_ | refine brF ?_
  | (refine brS ?_ ?_ <;> intro hc <;> (try simp only [bls] at hc) <;> (try simp only [hc, bls]))
  | intro _ | refine And.intro ?_ ?_)
      all_goals first | omega | (unfold bigLen; omega) | exact ⟨_, _, ⟨rfl, rfl⟩, rfl⟩ | exact ⟨_, rfl⟩ | (rename_i hy; simp only [List.mem_singleton] at hy; subst hy; rfl) | with_reducible rfl | skip
      refine AGood.filt [] ?_
      simp only [sf_cons, sf_nil, go_sem, simprocAttr]
      refine AGood.prune [0, 1, 4, 5] ?_; simp only [go_sem, simprocAttr]
      exact (ih (i + 1) ⟨by omega, hrun⟩ (by omega)).cast rfl rfl
    · rw [decide_eq_false (fun h => hxy (List.cons.inj h).1)] at hrun
      subst hrun
      have hb1 : (x == y) = false := by simpa using hxy
      repeat' (first
  | refine gSq ?_ | refine gSk ?_ | refine gBl ?_ | refine gIb ?_ | refine gEx rfl ?_
  | ((first
  | (refine gRg [] [0, 1, 4, 5, 9, 20] ?_; intro K hK)
  | (refine gDr 4 [] 9 [0, 1, 2, 3, 4, 5, 6, 7, 8] [0, 1, 4, 5, 9, 20] rfl ?_; intro K hK)
  | (refine gd_split ?_ ?_ <;> intro hb <;> (try simp only [bls] at hb) <;> (try simp only [hb]))
  | refine gRt [] [.tmp 4] rfl ?_ | refine gDn [] [.tmp 4] rfl ?_) <;> (try simp only [go_sem, simprocAttr, e4, e5, e6, e7, ha, hb, hb1, Option.some.injEq, forall_eq']))
  | (refine hK _ _ ?_; clear hK K; simp only [go_sem, simprocAttr])
  | refine gCd (by simp only [go_sem, simprocAttr]; rfl) rfl ?_
  | refine brT ?_ | refine brF ?_
  | (refine brS ?_ ?_ <;> intro hc <;> (try simp only [bls] at hc) <;> (try simp only [hc, bls]))
  | intro _ | refine And.intro ?_ ?_)
      all_goals first | omega | (unfold bigLen; omega) | exact ⟨_, _, ⟨rfl, rfl⟩, rfl⟩ | exact ⟨_, rfl⟩ | (rename_i hy; simp only [List.mem_singleton] at hy; subst hy; rfl) | with_reducible rfl | skip
  · have e4 : ¬ (i : Int) < a.length := by omega
    rw [List.drop_eq_nil_of_le (by omega), List.drop_eq_nil_of_le (by omega), decide_eq_true rfl] at hrun
    subst hrun
    clear ih
    repeat' (first
  | refine gSq ?_ | refine gSk ?_ | refine gBl ?_ | refine gIb ?_ | refine gEx rfl ?_
  | ((first
  | (refine gRg [] [0, 1, 4, 5, 9, 20] ?_; intro K hK)
  | (refine gDr 4 [] 9 [0, 1, 2, 3, 4, 5, 6, 7, 8] [0, 1, 4, 5, 9, 20] rfl ?_; intro K hK)
  | (refine gd_split ?_ ?_ <;> intro hb <;> (try simp only [bls] at hb) <;> (try simp only [hb]))
  | refine gRt [] [.tmp 4] rfl ?_ | refine gDn [] [.tmp 4] rfl ?_) <;> (try simp only [go_sem, simprocAttr, e4]))
  | (refine hK _ _ ?_; clear hK K; simp only [go_sem, simprocAttr])
  | refine gCd (by simp only [go_sem, simprocAttr]; rfl) rfl ?_
  | refine brT ?_ | refine brF ?_
  | (refine brS ?_ ?_ <;> intro hc <;> (try simp only [bls] at hc) <;> (try simp only [hc, bls]))
  | intro _ | refine And.intro ?_ ?_)
    all_goals first | omega | (unfold bigLen; omega) | exact ⟨_, _, ⟨rfl, rfl⟩, rfl⟩ | exact ⟨_, rfl⟩ | (rename_i hy; simp only [List.mem_singleton] at hy; subst hy; rfl) | with_reducible rfl | skip
/-- As far as both are put together. -/
def orP (a b : List Bool) (i : Nat) : List Bool := (orB a b).take i ++ a.drop i
theorem orP_len {a b : List Bool} (h : a.length = b.length) {i : Nat} (hi : i ≤ a.length) : (orP a b i).length = a.length := by
  simp only [orP, List.length_append, List.length_take, List.length_drop, orB, List.length_zipWith]; omega
theorem orP_get {a b : List Bool} (h : a.length = b.length) {i : Nat} {x y : Bool} (ha : a[i]? = some x) (hb : b[i]? = some y) : (orP a b i)[i]? = some x ∧ (orP a b i).set i (x || y) = orP a b (i + 1) := by
  have hi := (List.getElem?_eq_some_iff.1 ha).1
  have hl : ((orB a b).take i).length = i := by simp only [List.length_take, orB, List.length_zipWith]; omega
  have hd : a.drop i = x :: a.drop (i + 1) := by
    rw [List.drop_eq_getElem_cons hi]
    rw [List.getElem?_eq_getElem hi] at ha
    rw [Option.some.inj ha]
  have ho : (orB a b)[i]? = some (x || y) := by simp [orB, List.getElem?_zipWith, ha, hb]
  refine ⟨?_, ?_⟩
  · rw [orP, List.getElem?_append_right (by omega), hl, Nat.sub_self, hd]; rfl
  · rw [orP, List.set_append_right _ _ (by omega), hl, Nat.sub_self, hd, List.set_cons_zero, orP, take_one ho]
    simp
theorem or7uc (q f q' f' : Bool) (a b : List Bool) (h : a.length = b.length) (hl : a.length ≤ 1000001) : ACall Try.prog 46 [.sl q f (bools a), .sl q' f' (bools b)] [] fun r s => r = .sl true false (bools (orB a b)) ∧ s = [] := by
  refine ACall.enter Try.func46 rfl (by kernel_rfl) (Nat.le_of_ble_eq_true rfl) ?_; simp only [initTm, Nat.reduceAdd]
  repeat' (first
  | refine gSq ?_ | refine gSk ?_ | refine gBl ?_ | refine gIb ?_ | refine gEx rfl ?_
  | ((first
  | (refine gRg [] [0, 1, 4, 5, 6, 13] ?_; intro K hK)
  | (refine gd_split ?_ ?_ <;> intro hb <;> (try simp only [bls] at hb) <;> (try simp only [hb]))
  | refine gRt [] [.tmp 4] rfl ?_ | refine gDn [] [.tmp 4] rfl ?_) <;> (try simp only [go_sem, simprocAttr]))
  | (refine hK _ _ ?_; clear hK K; simp only [go_sem, simprocAttr])
  | refine gCd (by simp only [go_sem, simprocAttr]; rfl) rfl ?_
  | refine brT ?_ | refine brF ?_
  | (refine brS ?_ ?_ <;> intro hc <;> (try simp only [bls] at hc) <;> (try simp only [hc, bls]))
  | intro _ | refine And.intro ?_ ?_)
  all_goals first | omega | (unfold bigLen; omega) | exact ⟨_, _, ⟨rfl, rfl⟩, rfl⟩ | exact ⟨_, rfl⟩ | (rename_i hy; simp only [List.mem_singleton] at hy; subst hy; rfl) | with_reducible rfl | skip
  · rename_i y hy; obtain ⟨x, _, rfl⟩ := List.mem_map.1 hy; rfl
  · rename_i y hy; obtain ⟨x, _, rfl⟩ := List.mem_map.1 hy; rfl
  rename_i h7
  refine AGood.prune [0, 1, 4, 5, 6] ?_; simp only [go_sem, simprocAttr]
  refine AGood.loopInv (α := Nat) (fun i => ([(0, .sl q f (bools a)), (1, .sl q' f' (bools b)), (4, .sl true true []), (5, .osl 7 h7 0 a.length), (6, .int .i64 i)], [(7, h7, .row 1 (bools (orP a b i)))])) (fun i => i ≤ a.length) (fun i => a.length - i) 0 (Nat.zero_le _) (by simp [orP]) ?_
  rintro i hi ih
  simp only at hi ih ⊢
  have hol := orP_len h hi
  by_cases hle : i < a.length
  · have e4 : (i : Int) < b.length := by omega
    have e4' : (i : Int) < a.length := by omega
    have e5 : (0 : Int) ≤ i := by omega
    have e6 : i < (orP a b i).length := by omega
    have e7 : (i : Int) + 1 = ((i + 1 : Nat) : Int) := by omega
    have ha : a[i]? = some a[i] := List.getElem?_eq_getElem hle
    have hb : b[i]? = some (b[i]'(by omega)) := List.getElem?_eq_getElem (by omega)
    generalize a[i] = x at ha
    generalize b[i]'(by omega) = y at hb
    obtain ⟨hg, hs⟩ := orP_get h ha hb
    cases x
    · simp only [Bool.false_or] at hs
      repeat' (first
  | refine gSq ?_ | refine gSk ?_ | refine gBl ?_ | refine gIb ?_ | refine gEx rfl ?_
  | ((first
  | (refine gRg [] [0, 1, 4, 5, 6, 13] ?_; intro K hK)
  | (refine gd_split ?_ ?_ <;> intro hb <;> (try simp only [bls] at hb) <;> (try simp only [hb]))
  | refine gRt [] [.tmp 4] rfl ?_ | refine gDn [] [.tmp 4] rfl ?_) <;> (try simp only [go_sem, simprocAttr, e4, e4', e5, e6, e7, hg, hb, Option.some.injEq, forall_eq']))
  | (refine hK _ _ ?_; clear hK K; simp only [go_sem, simprocAttr])
  | refine gCd (by simp only [go_sem, simprocAttr]; rfl) rfl ?_
  | refine brT ?_ | refine brF ?_
  | (refine brS ?_ ?_ <;> intro hc <;> (try simp only [bls] at hc) <;> (try simp only [hc, bls]))
  | intro _ | refine And.intro ?_ ?_)
      all_goals first | omega | (unfold bigLen; omega) | exact ⟨_, _, ⟨rfl, rfl⟩, rfl⟩ | exact ⟨_, rfl⟩ | (rename_i hy; simp only [List.mem_singleton] at hy; subst hy; rfl) | with_reducible rfl | skip
      rename_i z hz
      have hz2 : z = [.bool false] := by rw [List.getElem?_map, hg] at hz; exact (Option.some.inj hz).symm
      subst hz2
      refine AGood.filt [7] ?_
      simp only [sf_cons, sf_nil, go_sem, simprocAttr]
      refine AGood.prune [0, 1, 4, 5, 6] ?_; simp only [go_sem, simprocAttr]
      exact AGood.cast (ih (i + 1) (by omega) (by omega)) rfl (by rw [← hs]; simp [List.map_set])
    · simp only [Bool.true_or] at hs
      repeat' (first
  | refine gSq ?_ | refine gSk ?_ | refine gBl ?_ | refine gIb ?_ | refine gEx rfl ?_
  | ((first
  | (refine gRg [] [0, 1, 4, 5, 6, 13] ?_; intro K hK)
  | (refine gd_split ?_ ?_ <;> intro hb <;> (try simp only [bls] at hb) <;> (try simp only [hb]))
  | refine gRt [] [.tmp 4] rfl ?_ | refine gDn [] [.tmp 4] rfl ?_) <;> (try simp only [go_sem, simprocAttr, e4, e4', e5, e6, e7, hg, hb, Option.some.injEq, forall_eq']))
  | (refine hK _ _ ?_; clear hK K; simp only [go_sem, simprocAttr])
  | refine gCd (by simp only [go_sem, simprocAttr]; rfl) rfl ?_
  | refine brT ?_ | refine brF ?_
  | (refine brS ?_ ?_ <;> intro hc <;> (try simp only [bls] at hc) <;> (try simp only [hc, bls]))
  | intro _ | refine And.intro ?_ ?_)
      all_goals first | omega | (unfold bigLen; omega) | exact ⟨_, _, ⟨rfl, rfl⟩, rfl⟩ | exact ⟨_, rfl⟩ | (rename_i hy; simp only [List.mem_singleton] at hy; subst hy; rfl) | with_reducible rfl | skip
      rename_i z hz
      have hz2 : z = [.bool true] := by rw [List.getElem?_map, hg] at hz; exact (Option.some.inj hz).symm
      subst hz2
      refine AGood.filt [7] ?_
      simp only [sf_cons, sf_nil, go_sem, simprocAttr]
      refine AGood.prune [0, 1, 4, 5, 6] ?_; simp only [go_sem, simprocAttr]
      exact AGood.cast (ih (i + 1) (by omega) (by omega)) rfl (by rw [← hs]; simp [List.map_set])
  · have e4 : ¬ (i : Int) < b.length := by omega
    have e8 : orP a b i = orB a b := by
      rw [orP, List.take_of_length_le (by simp [orB]; omega), List.drop_eq_nil_of_le (by omega), List.append_nil]
    rw [e8]
    have e9 : (orB a b).length = a.length := by simp [orB]; omega
    have e15 : (bools (orB a b)).take a.length = bools (orB a b) := List.take_of_length_le (by simp [e9])
    clear ih
    repeat' (first
  | refine gSq ?_ | refine gSk ?_ | refine gBl ?_ | refine gIb ?_ | refine gEx rfl ?_
  | ((first
  | (refine AGood.at 6 ?_; (refine AGood.freeze 7 rfl ?_; simp only [rfT, rfS, rfO, rf, rf1, e15, e9, Nat.le_refl, true_and, go_sem, simprocAttr]); (refine gRg [] [0, 1, 4, 5, 6, 13] ?_; intro K hK))
  | (refine gRg [] [0, 1, 4, 5, 6, 13] ?_; intro K hK)
  | (refine gd_split ?_ ?_ <;> intro hb <;> (try simp only [bls] at hb) <;> (try simp only [hb]))
  | refine gRt [] [.tmp 4] rfl ?_ | refine gDn [] [.tmp 4] rfl ?_) <;> (try simp only [go_sem, simprocAttr, e4]))
  | (refine hK _ _ ?_; clear hK K; simp only [go_sem, simprocAttr])
  | refine gCd (by simp only [go_sem, simprocAttr]; rfl) rfl ?_
  | refine brT ?_ | refine brF ?_
  | (refine brS ?_ ?_ <;> intro hc <;> (try simp only [bls] at hc) <;> (try simp only [hc, bls]))
  | intro _ | refine And.intro ?_ ?_)
    all_goals first | omega | (unfold bigLen; omega) | exact ⟨_, _, ⟨rfl, rfl⟩, rfl⟩ | exact ⟨_, rfl⟩ | (rename_i hy; simp only [List.mem_singleton] at hy; subst hy; rfl) | with_reducible rfl | skip
def oneP (s : ISet) (w : ByteArray) (fr : List Bool) (i : Nat) : List Bool := (false :: (List.range i).map (hit s w fr)) ++ falses (w.size - i)
theorem oneP_step {s : ISet} {w : ByteArray} {fr : List Bool} {i : Nat} (hi : i < w.size) : (oneP s w fr i).length = w.size + 1 ∧ (oneP s w fr i)[i + 1]? = some false ∧ (oneP s w fr i).set (i + 1) (hit s w fr i) = oneP s w fr (i + 1) := by
  have hl : (false :: (List.range i).map (hit s w fr)).length = i + 1 := by simp
  obtain ⟨k, hk⟩ : ∃ k, w.size - i = k + 1 := ⟨w.size - i - 1, by omega⟩
  have hk2 : w.size - (i + 1) = k := by omega
  refine ⟨by simp only [oneP, List.length_append, hl, falses_len]; omega, ?_, ?_⟩
  · rw [oneP, List.getElem?_append_right (by omega), hl, Nat.sub_self, hk]; rfl
  · rw [oneP, List.set_append_right _ _ (by omega), hl, Nat.sub_self, hk, oneP, hk2, List.range_succ, List.map_append]
    simp [falses, List.replicate_succ]
theorem one7uc (s : ISet) (q f : Bool) (w : ByteArray) (fr : List Bool) (hw : w.size ≤ 1000000) (hf : fr.length = w.size + 1) : ACall Try.prog 45 [.agg s.cells, .str w, .sl q f (bools fr)] [] fun r s' => r = .sl true false (bools (oneB s w fr)) ∧ s' = [] := by
  have hpl := places_c w hw
  have hh := fun b hb => has_c s.a s.b s.c s.d b hb
  obtain ⟨sa, sb, sc, sd⟩ := s
  simp only [ISet.cells]
  simp only at hh
  obtain ⟨S, hS⟩ : ∃ S : ISet, S = ⟨sa, sb, sc, sd⟩ := ⟨_, rfl⟩
  rw [← hS] at hh ⊢
  have h0 : oneP S w fr 0 = falses (w.size + 1) := by simp [oneP, falses, List.replicate_succ]
  refine ACall.enter Try.func45 rfl (by kernel_rfl) (Nat.le_of_ble_eq_true rfl) ?_; simp only [initTm, Nat.reduceAdd]
  repeat' (first
  | refine gSq ?_ | refine gSk ?_ | refine gBl ?_ | refine gIb ?_ | refine gEx rfl ?_
  | ((first
  | (refine gRg [] [0, 1, 2, 3, 6, 7, 8, 14, 27] ?_; intro K hK)
  | (refine gDr 5 [] 11 [0, 1, 2, 3, 4, 5, 6, 7, 8, 9, 10] [0, 1, 2, 3, 6, 7, 8, 14, 27] rfl ?_; intro K hK)
  | (refine ACall.use [(6, 10)] [] rfl hpl rfl rfl rfl ?_; rintro _ _ ⟨h6, rfl, rfl⟩; refine ⟨.inl rfl, rfl, ?_⟩; simp only [bk, bk2, bk1, bkS, bkO, idOf, delAll, go_sem, simprocAttr])
  | (refine gd_split ?_ ?_ <;> intro hb <;> (try simp only [bls] at hb) <;> (try simp only [hb]))
  | refine gRt [] [.tmp 6] rfl ?_ | refine gDn [] [.tmp 6] rfl ?_) <;> (try simp only [go_sem, simprocAttr]))
  | (refine hK _ _ ?_; clear hK K; simp only [go_sem, simprocAttr])
  | refine gCd (by simp only [go_sem, simprocAttr]; rfl) rfl ?_
  | refine brT ?_ | refine brF ?_
  | (refine brS ?_ ?_ <;> intro hc <;> (try simp only [bls] at hc) <;> (try simp only [hc, bls]))
  | intro _ | refine And.intro ?_ ?_)
  all_goals first | omega | (unfold bigLen; omega) | exact ⟨_, _, ⟨rfl, rfl⟩, rfl⟩ | exact ⟨_, rfl⟩ | (rename_i hy; simp only [List.mem_singleton] at hy; subst hy; rfl) | with_reducible rfl | skip
  rename_i h3
  refine AGood.prune [1, 2, 3, 6, 7, 8] ?_; simp only [go_sem, simprocAttr]
  refine AGood.loopInv (α := Nat) (fun i => ([(1, .str w), (2, .sl q f (bools fr)), (3, .bx 3 h3 0), (6, .sl true true []), (7, .osl 10 h6 0 (w.size + 1)), (8, .int .i64 i)], [(3, h3, .box [.int .u64 sa, .int .u64 sb, .int .u64 sc, .int .u64 sd]), (10, h6, .row 1 (bools (oneP S w fr i)))])) (fun i => i ≤ w.size) (fun i => w.size - i) 0 (Nat.zero_le _) (by rw [h0]; rfl) ?_
  rintro i hi ih
  simp only at hi ih ⊢
  by_cases hle : i < w.size
  · have e4 : (i : Int) < w.size := by omega
    have e5 : (0 : Int) ≤ i := by omega
    have e6 : (i : Int) + 1 = ((i + 1 : Nat) : Int) := by omega
    have e7 : (i : Int) < fr.length := by omega
    have e8 := sbyte_at w i
    obtain ⟨o1, o2, o3⟩ := oneP_step (s := S) (fr := fr) hle
    have e9 : i + 1 < (oneP S w fr i).length := by omega
    have e10 : ((i + 1 : Nat) : Int) < ((w.size + 1 : Nat) : Int) := by omega
    have e11 : (0 : Int) ≤ ((i + 1 : Nat) : Int) := by omega
    have hfr : fr[i]? = some (fr[i]'(by omega)) := List.getElem?_eq_getElem (by omega)
    have hgd : fr.getD i false = fr[i]'(by omega) := by simp [List.getD, hf, show i < w.size + 1 by omega]
    have hc := hh (byteAt w i) (byteAt_le w i)
    rw [hit, hgd] at o3
    generalize fr[i]'(by omega) = x at hfr o3
    cases x
    · rw [Bool.false_and] at o3
      have o4 : oneP S w fr (i + 1) = oneP S w fr i := by
        rw [← o3]
        refine List.ext_getElem? fun j => ?_
        rw [List.getElem?_set]
        split
        · rename_i e; subst e; first | exact o2.symm | (split <;> first | exact o2.symm | (rename_i h; exact absurd e9 h))
        · rfl
      repeat' (first
  | refine gSq ?_ | refine gSk ?_ | refine gBl ?_ | refine gIb ?_ | refine gEx rfl ?_
  | ((first
  | (refine gRg [] [0, 1, 2, 3, 6, 7, 8, 14, 27] ?_; intro K hK)
  | (refine gDr 5 [] 11 [0, 1, 2, 3, 4, 5, 6, 7, 8, 9, 10] [0, 1, 2, 3, 6, 7, 8, 14, 27] rfl ?_; intro K hK)
  | (refine gd_split ?_ ?_ <;> intro hb <;> (try simp only [bls] at hb) <;> (try simp only [hb]))
  | refine gRt [] [.tmp 6] rfl ?_ | refine gDn [] [.tmp 6] rfl ?_) <;> (try simp only [go_sem, simprocAttr, e4, e5, e6, e7, hfr, Option.some.injEq, forall_eq']))
  | (refine hK _ _ ?_; clear hK K; simp only [go_sem, simprocAttr])
  | refine gCd (by simp only [go_sem, simprocAttr]; rfl) rfl ?_
  | refine brT ?_ | refine brF ?_
  | (refine brS ?_ ?_ <;> intro hc <;> (try simp only [bls] at hc) <;> (try simp only [hc, bls]))
  | intro _ | refine And.intro ?_ ?_)
      all_goals first | omega | (unfold bigLen; omega) | exact ⟨_, _, ⟨rfl, rfl⟩, rfl⟩ | exact ⟨_, rfl⟩ | (rename_i hy; simp only [List.mem_singleton] at hy; subst hy; rfl) | with_reducible rfl | skip
      refine AGood.filt [3, 10] ?_
      simp only [sf_cons, sf_nil, go_sem, simprocAttr]
      refine AGood.prune [1, 2, 3, 6, 7, 8] ?_; simp only [go_sem, simprocAttr]
      exact AGood.cast (ih (i + 1) (by omega) (by omega)) rfl (by rw [o4])
    · rw [Bool.true_and] at o3
      cases hb : hasI S (byteAt w i)
      · rw [hb] at hc o3
        have o4 : oneP S w fr (i + 1) = oneP S w fr i := by
          rw [← o3]
          refine List.ext_getElem? fun j => ?_
          rw [List.getElem?_set]
          split
          · rename_i e; subst e; first | exact o2.symm | (split <;> first | exact o2.symm | (rename_i h; exact absurd e9 h))
          · rfl
        repeat' (first
  | refine gSq ?_ | refine gSk ?_ | refine gBl ?_ | refine gIb ?_ | refine gEx rfl ?_
  | ((first
  | (refine gRg [] [0, 1, 2, 3, 6, 7, 8, 14, 27] ?_; intro K hK)
  | (refine gDr 5 [] 11 [0, 1, 2, 3, 4, 5, 6, 7, 8, 9, 10] [0, 1, 2, 3, 6, 7, 8, 14, 27] rfl ?_; intro K hK)
  | refine ⟨_, ACall.alone (hc) rfl rfl rfl, ?_⟩
  | (refine gd_split ?_ ?_ <;> intro hb <;> (try simp only [bls] at hb) <;> (try simp only [hb]))
  | refine gRt [] [.tmp 6] rfl ?_ | refine gDn [] [.tmp 6] rfl ?_) <;> (try simp only [go_sem, simprocAttr, e4, e5, e6, e7, e8, hfr, Option.some.injEq, forall_eq']))
  | (refine hK _ _ ?_; clear hK K; simp only [go_sem, simprocAttr])
  | refine gCd (by simp only [go_sem, simprocAttr]; rfl) rfl ?_
  | refine brT ?_ | refine brF ?_
  | (refine brS ?_ ?_ <;> intro hc <;> (try simp only [bls] at hc) <;> (try simp only [hc, bls]))
  | intro _ | refine And.intro ?_ ?_)
        all_goals first | omega | (unfold bigLen; omega) | exact ⟨_, _, ⟨rfl, rfl⟩, rfl⟩ | exact ⟨_, rfl⟩ | (rename_i hy; simp only [List.mem_singleton] at hy; subst hy; rfl) | with_reducible rfl | skip
        refine AGood.filt [3, 10] ?_
        simp only [sf_cons, sf_nil, go_sem, simprocAttr]
        refine AGood.prune [1, 2, 3, 6, 7, 8] ?_; simp only [go_sem, simprocAttr]
        exact AGood.cast (ih (i + 1) (by omega) (by omega)) rfl (by rw [o4])
      · rw [hb] at hc o3
        repeat' (first
  | refine gSq ?_ | refine gSk ?_ | refine gBl ?_ | refine gIb ?_ | refine gEx rfl ?_
  | ((first
  | (refine gRg [] [0, 1, 2, 3, 6, 7, 8, 14, 27] ?_; intro K hK)
  | (refine gDr 5 [] 11 [0, 1, 2, 3, 4, 5, 6, 7, 8, 9, 10] [0, 1, 2, 3, 6, 7, 8, 14, 27] rfl ?_; intro K hK)
  | refine ⟨_, ACall.alone (hc) rfl rfl rfl, ?_⟩
  | (refine gd_split ?_ ?_ <;> intro hb <;> (try simp only [bls] at hb) <;> (try simp only [hb]))
  | refine gRt [] [.tmp 6] rfl ?_ | refine gDn [] [.tmp 6] rfl ?_) <;> (try simp only [go_sem, simprocAttr, e4, e5, e6, e7, e8, e9, e10, e11, hfr, Option.some.injEq, forall_eq']))
  | (refine hK _ _ ?_; clear hK K; simp only [go_sem, simprocAttr])
  | refine gCd (by simp only [go_sem, simprocAttr]; rfl) rfl ?_
  | refine brT ?_ | refine brF ?_
  | (refine brS ?_ ?_ <;> intro hc <;> (try simp only [bls] at hc) <;> (try simp only [hc, bls]))
  | intro _ | refine And.intro ?_ ?_)
        all_goals first | omega | (unfold bigLen; omega) | exact ⟨_, _, ⟨rfl, rfl⟩, rfl⟩ | exact ⟨_, rfl⟩ | (rename_i hy; simp only [List.mem_singleton] at hy; subst hy; rfl) | with_reducible rfl | skip
        rename_i z hz
        have hz2 : z = [.bool false] := by rw [List.getElem?_map, o2] at hz; exact (Option.some.inj hz).symm
        subst hz2
        refine AGood.filt [3, 10] ?_
        simp only [sf_cons, sf_nil, go_sem, simprocAttr]
        refine AGood.prune [1, 2, 3, 6, 7, 8] ?_; simp only [go_sem, simprocAttr]
        exact AGood.cast (ih (i + 1) (by omega) (by omega)) rfl (by rw [← o3]; simp [List.map_set])
  · have e4 : ¬ (i : Int) < w.size := by omega
    have e12 : oneP S w fr i = oneB S w fr := by
      have : i = w.size := by omega
      subst this
      simp [oneP, oneB, falses]
    rw [e12]
    have e13 : (oneB S w fr).length = w.size + 1 := by simp [oneB]
    have e15 : (bools (oneB S w fr)).take (w.size + 1) = bools (oneB S w fr) := List.take_of_length_le (by simp [e13])
    clear ih
    repeat' (first
  | refine gSq ?_ | refine gSk ?_ | refine gBl ?_ | refine gIb ?_ | refine gEx rfl ?_
  | ((first
  | (refine AGood.at 7 ?_; (refine AGood.freeze 10 rfl ?_; simp only [rfT, rfS, rfO, rf, rf1, e15, e13, Nat.le_refl, true_and, go_sem, simprocAttr]); (refine gRg [] [0, 1, 2, 3, 6, 7, 8, 14, 27] ?_; intro K hK))
  | (refine gRg [] [0, 1, 2, 3, 6, 7, 8, 14, 27] ?_; intro K hK)
  | (refine gDr 5 [] 11 [0, 1, 2, 3, 4, 5, 6, 7, 8, 9, 10] [0, 1, 2, 3, 6, 7, 8, 14, 27] rfl ?_; intro K hK)
  | (refine gd_split ?_ ?_ <;> intro hb <;> (try simp only [bls] at hb) <;> (try simp only [hb]))
  | refine gRt [] [.tmp 6] rfl ?_ | refine gDn [] [.tmp 6] rfl ?_) <;> (try simp only [go_sem, simprocAttr, e4]))
  | (refine hK _ _ ?_; clear hK K; simp only [go_sem, simprocAttr])
  | refine gCd (by simp only [go_sem, simprocAttr]; rfl) rfl ?_
  | refine brT ?_ | refine brF ?_
  | (refine brS ?_ ?_ <;> intro hc <;> (try simp only [bls] at hc) <;> (try simp only [hc, bls]))
  | intro _ | refine And.intro ?_ ?_)
    all_goals first | omega | (unfold bigLen; omega) | exact ⟨_, _, ⟨rfl, rfl⟩, rfl⟩ | exact ⟨_, rfl⟩ | (rename_i hy; simp only [List.mem_singleton] at hy; subst hy; rfl) | with_reducible rfl | skip
end Go.Rad
/- Whether a tree is a plan, and how much is counted there. -/
namespace Go.Rad
open Go
/-- A list that is told with an error is nil. -/
def flS (e : Int) : Bool := decide (e ≠ 0)
theorem flS_0 : flS 0 = false := rfl
theorem flS_1 : flS 1 = true := rfl
theorem flS_3 : flS 3 = true := rfl
def starB (n : Node) : Bool := decide (n.lo = 0 ∧ n.hi = -1)
/-- A repetition that may be in no plan. -/
def badB (l : List Node) (n : Node) : Bool := decide (n.op = 5 ∧ ¬ (n.lo = 0 ∧ n.hi = -1) ∧ ((nAt l (kid0 n)).op ≠ 2 ∨ n.lo < 1 ∨ n.hi < 2))
def rightP (l : List Node) : Bool := plainS l && l.all fun n => !badB l n
def cntB (n : Node) : Bool := decide (n.op = 5 ∧ ¬ (n.lo = 0 ∧ n.hi = -1))
def countedP (l : List Node) : Nat := if rightP l = true then l.countP cntB else 0
theorem all_false {α : Type} {p : α → Bool} {l : List α} {i : Nat} {x : α} (h : l[i]? = some x) (hx : p x = false) : l.all p = false := by
  rw [Bool.eq_false_iff]
  intro h2
  rw [List.all_eq_true] at h2
  rw [h2 x (List.mem_of_getElem? h)] at hx
  cases hx
end Go.Rad
/- Plans: the document's way. -/
namespace Go.Rad
open Go Fo
abbrev RS := List Node × Bool
abbrev RO := RS × Int
def putQ (n : Node) (s : RS) : RO := if 1024 ≤ s.1.length then ((s.1, true), 0) else ((s.1 ++ [n], s.2), s.1.length)
def twoR (op a : Int) (x : RO) : RO := putQ (opNd op [a, x.2]) x.1
def restR (pl : RS → RO) : Nat → RS → RO
  | 0, s => (s, 0)
  | m + 1, s =>
    if (putQ (opNd 1 []) s).1.2 = true then ((putQ (opNd 1 []) s).1, 0)
    else if m ≠ 0 ∧ (pl (putQ (opNd 1 []) s).1).1.2 = false then twoR 4 (putQ (opNd 1 []) s).2 (twoR 3 (pl (putQ (opNd 1 []) s).1).2 (restR pl m (pl (putQ (opNd 1 []) s).1).1))
    else twoR 4 (putQ (opNd 1 []) s).2 (pl (putQ (opNd 1 []) s).1)
def starR (pl : RS → RO) (s : RS) : RO := putQ (repNd 0 (-1) (pl s).2) (pl s).1
def rowLR (pl : RS → RO) : Nat → RS → List Int → RS × List Int
  | 0, s, row => (s, row)
  | n + 1, s, row => if s.2 = true then (s, row) else rowLR pl n (pl s).1 (row ++ [(pl s).2])
def catR (b : RS × List Int) : RO := if b.2.length = 1 then (b.1, b.2.headD 0) else putQ (opNd 3 b.2) b.1
def rowER (pl : RS → RO) (lo hi : Int) (a : RS × List Int) : RS × List Int :=
  if hi = -1 then ((starR pl a.1).1, a.2 ++ [(starR pl a.1).2])
  else if lo < hi then ((restR pl (hi - lo).toNat a.1).1, a.2 ++ [(restR pl (hi - lo).toNat a.1).2])
  else a
def rowQ (pl : RS → RO) (lo hi : Int) (s : RS) : RO := catR (rowER pl lo hi (rowLR pl lo.toNat s []))
def cntR (pl : RS → RO) (lo hi : Int) (s : RS) : RO :=
  if 0 < lo then putQ (repNd lo hi (pl s).2) (pl s).1
  else twoR 4 (putQ (opNd 1 []) s).2 (putQ (repNd 1 hi (pl (putQ (opNd 1 []) s).1).2) (pl (putQ (opNd 1 []) s).1).1)
def endR (pl : RS → RO) (lo : Int) (s : RS) : RO := twoR 3 (putQ (repNd lo lo (pl s).2) (pl s).1).2 (starR pl (putQ (repNd lo lo (pl s).2) (pl s).1).1)
def repR (pl : RS → RO) (most : Int) (bytes : Bool) (lo hi : Int) (s : RS) : RO :=
  if bytes = true ∧ most < hi then cntR pl lo hi s
  else if bytes = true ∧ hi = -1 ∧ most < lo ∧ 1 < lo then endR pl lo s
  else rowQ pl lo hi s
def kidsR (pl : Int → RS → RO) : List Int → RS → List Int → RS × List Int
  | [], s, ks => (s, ks)
  | k :: l, s, ks => kidsR pl l (pl k s).1 (ks ++ [(pl k s).2])
def planR (ns : List Node) (most : Int) : Nat → Int → RS → RO
  | 0, _, s => (s, 0)
  | f + 1, k, s =>
    if s.2 = true then (s, 0)
    else if (nAt ns k).op = 5 then repR (planR ns most f (kid0 (nAt ns k))) most (decide ((nAt ns (kid0 (nAt ns k))).op = 2)) (nAt ns k).lo (nAt ns k).hi s
    else putQ { nAt ns k with l := (kidsR (planR ns most f) (nAt ns k).l s []).2 } (kidsR (planR ns most f) (nAt ns k).l s []).1
def ref8S (ns : List Node) (most : Int) : List Node × Int :=
  if plainS ns = false ∨ most < 1 ∨ 4096 < most then ([], 1)
  else if (planR ns most ns.length ((ns.length : Int) - 1) ([], false)).1.2 = true ∨ right4 (planR ns most ns.length ((ns.length : Int) - 1) ([], false)).1.1 = false then ([], 3)
  else ((planR ns most ns.length ((ns.length : Int) - 1) ([], false)).1.1, 0)

/-! No more than there is room for. -/
def PBR (pl : RS → RO) : Prop := ∀ s, s.1.length ≤ 1024 → (pl s).1.1.length ≤ 1024
theorem putQ_len (n : Node) : PBR (putQ n) := fun s h => by
  unfold putQ; split
  · exact h
  · simp only [List.length_append, List.length_cons, List.length_nil]; omega
theorem twoR_len (op a : Int) {x : RO} (h : x.1.1.length ≤ 1024) : (twoR op a x).1.1.length ≤ 1024 := putQ_len _ _ h
section
variable {pl : RS → RO} (hb : PBR pl)
include hb
theorem restR_len : ∀ m, PBR (restR pl m)
  | 0, s, h => h
  | m + 1, s, h => by
    have h1 := putQ_len (opNd 1 []) s h
    have h2 := hb _ h1
    rw [restR]
    split
    · exact h1
    · split
      · exact twoR_len _ _ (twoR_len _ _ (restR_len m _ h2))
      · exact twoR_len _ _ h2
theorem starR_len : PBR (starR pl) := fun s h => putQ_len _ _ (hb s h)
theorem rowLR_len : ∀ (n : Nat) (s : RS) (row : List Int), s.1.length ≤ 1024 → (rowLR pl n s row).1.1.length ≤ 1024 ∧ (rowLR pl n s row).2.length ≤ row.length + n
  | 0, s, row, h => ⟨h, by simp [rowLR]⟩
  | n + 1, s, row, h => by
    rw [rowLR]
    split
    · exact ⟨h, by simp only []; omega⟩
    · have := rowLR_len n (pl s).1 (row ++ [(pl s).2]) (hb s h)
      simp only [List.length_append, List.length_cons, List.length_nil] at this
      omega
theorem rowER_len (lo hi : Int) (a : RS × List Int) (h : a.1.1.length ≤ 1024) : (rowER pl lo hi a).1.1.length ≤ 1024 ∧ (rowER pl lo hi a).2.length ≤ a.2.length + 1 := by
  unfold rowER
  split
  · exact ⟨starR_len hb _ h, by simp⟩
  · split
    · exact ⟨restR_len hb _ _ h, by simp⟩
    · exact ⟨h, by omega⟩
theorem catR_len (b : RS × List Int) (h : b.1.1.length ≤ 1024) : (catR b).1.1.length ≤ 1024 := by
  unfold catR; split
  · exact h
  · exact putQ_len _ _ h
theorem rowQ_len (lo hi : Int) : PBR (rowQ pl lo hi) := fun s h => catR_len hb _ (rowER_len hb lo hi _ (rowLR_len hb _ s [] h).1).1
theorem cntR_len (lo hi : Int) : PBR (cntR pl lo hi) := fun s h => by
  unfold cntR; split
  · exact putQ_len _ _ (hb s h)
  · exact twoR_len _ _ (putQ_len _ _ (hb _ (putQ_len _ _ h)))
theorem endR_len (lo : Int) : PBR (endR pl lo) := fun s h => twoR_len _ _ (starR_len hb _ (putQ_len _ _ (hb s h)))
theorem repR_len (most : Int) (bytes : Bool) (lo hi : Int) : PBR (repR pl most bytes lo hi) := fun s h => by
  unfold repR; split
  · exact cntR_len hb lo hi s h
  · split
    · exact endR_len hb lo s h
    · exact rowQ_len hb lo hi s h
end
theorem kidsR_len {pl : Int → RS → RO} (hb : ∀ k, PBR (pl k)) : ∀ (l : List Int) (s : RS) (row : List Int), s.1.length ≤ 1024 → (kidsR pl l s row).1.1.length ≤ 1024 ∧ (kidsR pl l s row).2.length = row.length + l.length
  | [], s, row, h => ⟨h, rfl⟩
  | k :: l, s, row, h => by
    have := kidsR_len hb l (pl k s).1 (row ++ [(pl k s).2]) (hb k s h)
    simp only [List.length_append, List.length_cons, List.length_nil] at this
    rw [kidsR]
    simp only [List.length_cons]; omega
theorem planR_len (ns : List Node) (most : Int) : ∀ (f : Nat) (k : Int), PBR (planR ns most f k)
  | 0, k, s, h => h
  | f + 1, k, s, h => by
    rw [planR]
    split
    · exact h
    · split
      · exact repR_len (planR_len ns most f _) most _ _ _ s h
      · exact putQ_len _ _ (kidsR_len (planR_len ns most f) _ s [] h).1

/-! What puts a forest, or says that there is no room. -/
abbrev RF := RS → RS × List Int
def ROk (s : RF) (f : Fo) : Prop := (∀ out, out.length ≤ 1024 → (out.length + f.size ≤ 1024 → s (out, false) = ((out ++ f.lay out.length, false), f.roots out.length)) ∧ (1024 < out.length + f.size → (s (out, false)).1.2 = true)) ∧ ∀ out, (s (out, true)).1.2 = true
def seqR (s t : RF) (x : RS) : RS × List Int := ((t (s x).1).1, (s x).2 ++ (t (s x).1).2)
abbrev sgR (pl : RS → RO) : RF := fun x => ((pl x).1, [(pl x).2])
def wrapR (b : Lb) (s : RF) : RF := sgR fun x => putQ (b.node (s x).2) (s x).1
abbrev nilR : RF := fun x => (x, [])
theorem putQ_true (n : Node) (out : List Node) : (putQ n (out, true)).1.2 = true := by unfold putQ; split <;> rfl
theorem true_pair {x : RS} (h : x.2 = true) : x = (x.1, true) := Prod.ext rfl h
theorem ROk.nil : ROk nilR .nil := ⟨fun out h => ⟨fun _ => by simp [lay, roots], fun h2 => by simp only [size] at h2; omega⟩, fun out => rfl⟩
theorem ROk.seq {s t : RF} {f g : Fo} (hs : ROk s f) (ht : ROk t g) : ROk (seqR s t) (f.app g) := by
  refine ⟨fun out h => ?_, fun out => ?_⟩
  · rw [size_app]
    by_cases h1 : out.length + f.size ≤ 1024
    · have e := (hs.1 out h).1 h1
      have el : (out ++ f.lay out.length).length = out.length + f.size := by simp [lay_len]
      obtain ⟨t1, t2⟩ := ht.1 (out ++ f.lay out.length) (by omega)
      rw [el] at t1 t2
      refine ⟨fun h => ?_, fun h => ?_⟩
      · simp only [seqR, e]
        rw [t1 (by omega), lay_app, roots_app]
        simp
      · simp only [seqR, e]
        exact t2 (by omega)
    · have e := (hs.1 out h).2 (by omega)
      refine ⟨fun h => by omega, fun _ => ?_⟩
      simp only [seqR]
      rw [true_pair e]
      exact ht.2 _
  · simp only [seqR]
    rw [true_pair (hs.2 out)]
    exact ht.2 _
theorem ROk.wrap {s : RF} {f : Fo} (b : Lb) (hs : ROk s f) : ROk (wrapR b s) (one b f) := by
  refine ⟨fun out h => ?_, fun out => ?_⟩
  · simp only [size, Nat.add_zero]
    by_cases h1 : out.length + f.size ≤ 1024
    · have e := (hs.1 out h).1 h1
      have el : (out ++ f.lay out.length).length = out.length + f.size := by simp [lay_len]
      refine ⟨fun h2 => ?_, fun h2 => ?_⟩
      · simp only [wrapR, sgR, e, putQ, el]
        rw [if_neg (by omega)]
        simp [lay, roots]
      · simp only [wrapR, sgR, e, putQ, el]
        rw [if_pos (by omega)]
    · have e := (hs.1 out h).2 (by omega)
      refine ⟨fun h => by omega, fun _ => ?_⟩
      simp only [wrapR, sgR]
      rw [true_pair e]
      exact putQ_true _ _
  · simp only [wrapR, sgR]
    rw [true_pair (hs.2 out)]
    exact putQ_true _ _
theorem ROk.guard {s s' : RF} {f : Fo} (h : ∀ out, out.length ≤ 1024 → s' (out, false) = s (out, false) ∨ ((s' (out, false)).1.2 = true ∧ 1024 < out.length + f.size)) (ht : ∀ out, (s' (out, true)).1.2 = true) (hs : ROk s f) : ROk s' f := by
  refine ⟨fun out ho => ?_, ht⟩
  rcases h out ho with e | ⟨e1, e2⟩
  · rw [e]; exact hs.1 out ho
  · exact ⟨fun h => by omega, fun _ => e1⟩
theorem ROk.eq {s s' : RF} {f : Fo} (h : ∀ x, s' x = s x) (hs : ROk s f) : ROk s' f := hs.guard (fun out _ => .inl (h _)) fun out => by rw [h]; exact hs.2 out
theorem twoR_true (op a : Int) {x : RO} (h : x.1.2 = true) : (twoR op a x).1.2 = true := by
  unfold twoR; rw [true_pair h]; exact putQ_true _ _
theorem restR_ok {pl : RS → RO} {p : Fo} (hp : ROk (sgR pl) p) : ∀ m, ROk (sgR (restR pl (m + 1))) (restT p (m + 1)) := by
  have htrue : ∀ m out, (sgR (restR pl (m + 1)) (out, true)).1.2 = true := by
    intro m out
    simp only [sgR, restR, putQ_true, if_true]
  have hfull : ∀ m out, out.length ≤ 1024 → 1024 ≤ out.length → (sgR (restR pl (m + 1)) (out, false)).1.2 = true ∧ 1024 < out.length + (restT p (m + 1)).size := by
    intro m out _ h
    have e : putQ (opNd 1 []) (out, false) = ((out, true), 0) := by simp only [putQ, if_pos h]
    refine ⟨?_, ?_⟩
    · simp only [sgR, restR, e, if_true]
    · simp only [restT, size, size_app]; omega
  intro m
  induction m with
  | zero =>
    refine ROk.guard (s := wrapR (opL 4) (seqR (wrapR (opL 1) nilR) (sgR pl))) (fun out ho => ?_) (htrue 0) (((ROk.nil.wrap _).seq hp).wrap _)
    by_cases h : 1024 ≤ out.length
    · exact .inr (hfull 0 out ho h)
    · have e : putQ (opNd 1 []) (out, false) = ((out ++ [opNd 1 []], false), (out.length : Int)) := by simp only [putQ, if_neg h]
      left
      simp only [sgR, restR, e, Bool.false_eq_true, if_false, ne_eq, not_true_eq_false, false_and, wrapR, seqR, nilR]
      rw [show (opL 1).node [] = opNd 1 [] from rfl, e]
      rfl
  | succ m ih =>
    refine ROk.guard (s := wrapR (opL 4) (seqR (wrapR (opL 1) nilR) (wrapR (opL 3) (seqR (sgR pl) (sgR (restR pl (m + 1))))))) (fun out ho => ?_) (htrue (m + 1)) (((ROk.nil.wrap _).seq ((hp.seq ih).wrap _)).wrap _)
    by_cases h : 1024 ≤ out.length
    · exact .inr (hfull (m + 1) out ho h)
    · have e : putQ (opNd 1 []) (out, false) = ((out ++ [opNd 1 []], false), (out.length : Int)) := by simp only [putQ, if_neg h]
      have el : (out ++ [opNd 1 []]).length = out.length + 1 := by simp
      cases hx : (pl (out ++ [opNd 1 []], false)).1.2
      · left
        have hm : m + 1 ≠ 0 ∧ (pl (out ++ [opNd 1 []], false)).1.2 = false := ⟨by omega, hx⟩
        simp only [sgR]
        rw [restR, e]
        simp only [Bool.false_eq_true, if_false]
        rw [if_pos hm]
        simp only [wrapR, seqR, nilR, sgR]
        rw [show (opL 1).node [] = opNd 1 [] from rfl, e]
        rfl
      · right
        have hm : ¬ (m + 1 ≠ 0 ∧ (pl (out ++ [opNd 1 []], false)).1.2 = false) := fun h => by rw [hx] at h; exact absurd h.2 (by decide)
        refine ⟨?_, ?_⟩
        · simp only [sgR]
          rw [restR, e]
          simp only [Bool.false_eq_true, if_false]
          rw [if_neg hm]
          exact twoR_true _ _ hx
        · have hov : 1024 < out.length + 1 + p.size := by
            refine Nat.lt_of_not_le fun hle => ?_
            have := (hp.1 (out ++ [opNd 1 []]) (by omega)).1 (by omega)
            simp only [sgR, Prod.mk.injEq] at this
            rw [this.1] at hx; cases hx
          simp only [restT, size, size_app, if_neg (show ¬ m + 1 = 0 by omega)]; omega
theorem rowLR_ok {pl : RS → RO} {p : Fo} (hp : ROk (sgR pl) p) : ∀ (n : Nat) (out : List Node) (row : List Int), out.length ≤ 1024 → (out.length + (copies p n).size ≤ 1024 → rowLR pl n (out, false) row = ((out ++ (copies p n).lay out.length, false), row ++ (copies p n).roots out.length)) ∧ (1024 < out.length + (copies p n).size → (rowLR pl n (out, false) row).1.2 = true)
  | 0, out, row, ho => ⟨fun _ => by simp [rowLR, copies, lay, roots], fun h => by simp only [copies, size] at h; omega⟩
  | n + 1, out, row, ho => by
    rw [rowLR]
    simp only [Bool.false_eq_true, if_false, copies, size_app]
    obtain ⟨a1, a2⟩ := hp.1 out ho
    by_cases h1 : out.length + p.size ≤ 1024
    · have e := a1 h1
      simp only [sgR, Prod.mk.injEq] at e
      rw [e.1]
      have el : (out ++ p.lay out.length).length = out.length + p.size := by simp [lay_len]
      obtain ⟨b1, b2⟩ := rowLR_ok hp n (out ++ p.lay out.length) (row ++ [(pl (out, false)).2]) (by omega)
      rw [el] at b1 b2
      refine ⟨fun h2 => ?_, fun h2 => b2 (by omega)⟩
      rw [b1 (by omega), lay_app, roots_app, e.2]
      simp
    · have e := a2 (by omega)
      refine ⟨fun h2 => by omega, fun _ => ?_⟩
      simp only [sgR] at e
      rw [true_pair e]
      cases n with
      | zero => rfl
      | succ n => rw [rowLR]; rfl
theorem catR_ok {s : RF} {f : Fo} (hs : ROk s f) : ROk (sgR fun x => catR (s x)) f.catT := by
  have key : ∀ x : RS × List Int, x.1.2 = true → (catR x).1.2 = true := by
    intro x h
    unfold catR; split
    · exact h
    · rw [true_pair h]; exact putQ_true _ _
  refine ⟨fun out ho => ?_, fun out => key _ (hs.2 out)⟩
  by_cases h1 : out.length + f.size ≤ 1024
  · have e := (hs.1 out ho).1 h1
    unfold catT
    split
    · rename_i hd
      simp only [sgR, catR, e, roots_len, hd, if_true]
      refine ⟨fun _ => ?_, fun h => by omega⟩
      rw [roots_one hd]; rfl
    · rename_i hd
      simp only [sgR, catR, e, roots_len, hd, if_false]
      have := (hs.wrap (opL 3)).1 out ho
      simp only [wrapR, sgR, e] at this
      exact this
  · have e := (hs.1 out ho).2 (by omega)
    refine ⟨fun h => ?_, fun _ => key _ e⟩
    unfold catT at h
    split at h
    · omega
    · simp only [size] at h; omega
theorem rowQ_ok {pl : RS → RO} {p : Fo} (hp : ROk (sgR pl) p) (lo hi : Int) : ROk (sgR (rowQ pl lo hi)) (p.rowT lo hi) := by
  have hL : ROk (fun x => rowLR pl lo.toNat x []) (copies p lo.toNat) := by
    refine ⟨fun out ho => ?_, fun out => ?_⟩
    · obtain ⟨a, b⟩ := rowLR_ok hp lo.toNat out [] ho
      exact ⟨fun h => by show rowLR pl lo.toNat (out, false) [] = _; rw [a h]; simp, b⟩
    · show (rowLR pl lo.toNat (out, true) []).1.2 = true
      cases lo.toNat with
      | zero => rfl
      | succ n => rw [rowLR]; rfl
  refine catR_ok ?_
  unfold rowOf
  by_cases h1 : hi = -1
  · rw [if_pos h1]
    refine (hL.seq (hp.wrap (repL 0 (-1)))).eq fun x => ?_
    simp only [rowER, if_pos h1]; rfl
  · by_cases h2 : lo < hi
    · rw [if_neg h1, if_pos h2]
      obtain ⟨m, hm⟩ : ∃ m, (hi - lo).toNat = m + 1 := ⟨(hi - lo).toNat - 1, by omega⟩
      rw [hm]
      refine (hL.seq (restR_ok hp m)).eq fun x => ?_
      simp only [rowER, if_neg h1, if_pos h2, hm]; rfl
    · rw [if_neg h1, if_neg h2, app_nil]
      refine hL.eq fun x => ?_
      simp only [rowER, if_neg h1, if_neg h2]
theorem repR_ok {pl : RS → RO} {p : Fo} (hp : ROk (sgR pl) p) (most : Int) (bytes : Bool) (lo hi : Int) : ROk (sgR (repR pl most bytes lo hi)) (repT most lo hi bytes p) := by
  unfold repT
  cases bytes
  · rw [if_pos rfl]
    exact (rowQ_ok hp lo hi).eq fun x => by simp only [sgR, repR, Bool.false_eq_true, false_and, if_false]
  · rw [if_neg (by decide)]
    by_cases h2 : most < hi
    · rw [if_pos h2]
      by_cases h3 : 0 < lo
      · rw [if_pos h3]
        exact (hp.wrap (repL lo hi)).eq fun x => by simp only [sgR, repR, h2, and_self, if_true, cntR, if_pos h3]; rfl
      · rw [if_neg h3]
        exact (((ROk.nil.wrap (opL 1)).seq (hp.wrap (repL 1 hi))).wrap (opL 4)).eq fun x => by simp only [sgR, repR, h2, and_self, if_true, cntR, if_neg h3]; rfl
    · rw [if_neg h2]
      by_cases h3 : hi = -1 ∧ max most 1 < lo
      · rw [if_pos h3]
        exact (((hp.wrap (repL lo lo)).seq (hp.wrap (repL 0 (-1)))).wrap (opL 3)).eq fun x => by
          simp only [sgR, repR]
          rw [if_neg (fun h => h2 h.2), if_pos ⟨trivial, h3.1, by omega, by omega⟩]; rfl
      · rw [if_neg h3]
        exact (rowQ_ok hp lo hi).eq fun x => by
          simp only [sgR, repR]
          rw [if_neg (fun h => h2 h.2), if_neg (fun h => h3 ⟨h.2.1, by omega⟩)]

/-- All that is no repetition has neither bounds nor a name. -/
def bareOk (f : Fo) : Bool := f.all fun b _ => decide (b.op = 5 ∨ b.bare = b)
theorem planR_ok {ns : List Node} (most : Int) : ∀ (f : Fo) (ks : List Int) (fuel : Nat), f.Sub ns ks → f.size ≤ fuel → repOne f = true → bareOk f = true →
    (∀ (k : Int), ks = [k] → ROk (sgR (planR ns most fuel k)) (f.planT most)) ∧ (∀ row, ROk (fun x => ((kidsR (planR ns most fuel) ks x row).1, ((kidsR (planR ns most fuel) ks x row).2.drop row.length))) (f.planT most) ∧ ∀ x, (kidsR (planR ns most fuel) ks x row).2 = row ++ (kidsR (planR ns most fuel) ks x row).2.drop row.length)
  | .nil, ks, fuel, hs, _, _, _ => by
    simp only [Fo.Sub] at hs
    subst hs
    refine ⟨fun k h => by simp at h, fun row => ⟨?_, fun x => by simp [kidsR]⟩⟩
    exact ROk.nil.eq fun x => by simp [kidsR]
  | .node b kf r, ks, fuel, hs, hf, hr, hbr => by
    obtain ⟨i, n, ks', rfl, h1, h2, h3, h4⟩ := hs
    simp only [repOne, bareOk, all, Bool.and_eq_true, decide_eq_true_eq] at hr hbr
    simp only [size] at hf
    obtain ⟨fu, rfl⟩ : ∃ fu, fuel = fu + 1 := ⟨fuel - 1, by omega⟩
    obtain ⟨a1, a2⟩ := planR_ok most kf n.l fu h3 (by omega) hr.1.2 hbr.1.2
    obtain ⟨b1, b2⟩ := planR_ok most r ks' (fu + 1) h4 (by omega) hr.2 hbr.2
    have hone : ROk (sgR (planR ns most (fu + 1) i)) (if b.op = 5 then repT most b.lo b.hi kf.isBytes (kf.planT most) else one b.bare (kf.planT most)) := by
      have hb : b.op = n.op ∧ b.lo = n.lo ∧ b.hi = n.hi ∧ b.s = n.s := by rw [← h2]; exact ⟨rfl, rfl, rfl, rfl⟩
      by_cases h5 : b.op = 5
      · have hd := hr.1.1 h5
        have hl := h3.len
        rw [hd] at hl
        have hkid : n.l = [kid0 n] := by
          match hn : n.l, hl with
          | [x], _ => simp [kid0, hn]
        rw [if_pos h5]
        refine (repR_ok (a1 _ hkid) most kf.isBytes b.lo b.hi).guard (fun out _ => ?_) fun out => ?_
        · left
          simp only [sgR, planR, nAt_get h1]
          rw [if_neg (by decide), if_pos (by rw [← hb.1]; exact h5), isBytes_sub h3 hd, hb.2.1, hb.2.2.1]
        · simp only [sgR, planR, if_true]
      · rw [if_neg h5]
        obtain ⟨c1, c2⟩ := a2 []
        refine (c1.wrap b.bare).guard (fun out _ => ?_) fun out => ?_
        · left
          have hbare : b.bare = b := by
            rcases hbr.1.1 with h | h
            · exact absurd h h5
            · exact h
          simp only [sgR, planR, nAt_get h1]
          rw [if_neg (by decide), if_neg (by rw [← hb.1]; exact h5), hbare]
          simp only [wrapR, sgR, List.length_nil, List.drop_zero]
          rw [← h2]
        · simp only [sgR, planR, if_true]
    refine ⟨fun k hk => ?_, fun row => ?_⟩
    · simp only [List.cons.injEq] at hk
      obtain ⟨rfl, rfl⟩ := hk
      have : r = .nil := by
        match r, h4 with
        | .nil, _ => rfl
        | .node _ _ _, h4 => obtain ⟨_, _, _, e, _⟩ := h4; simp at e
      subst this
      simp only [planT, app_nil]
      exact hone
    · have key : ∀ x, kidsR (planR ns most (fu + 1)) ((i : Int) :: ks') x row = kidsR (planR ns most (fu + 1)) ks' (planR ns most (fu + 1) i x).1 (row ++ [(planR ns most (fu + 1) i x).2]) := fun x => rfl
      have hl1 : ∀ x : Int, (row ++ [x]).length = row.length + 1 := fun x => by simp
      have hdrop : ∀ x, (kidsR (planR ns most (fu + 1)) ((i : Int) :: ks') x row).2.drop row.length = (planR ns most (fu + 1) i x).2 :: (kidsR (planR ns most (fu + 1)) ks' (planR ns most (fu + 1) i x).1 (row ++ [(planR ns most (fu + 1) i x).2])).2.drop (row.length + 1) := by
        intro x
        rw [key]
        have := (b2 (row ++ [(planR ns most (fu + 1) i x).2])).2 (planR ns most (fu + 1) i x).1
        rw [hl1] at this
        conv => lhs; rw [this]
        simp
      refine ⟨?_, fun x => ?_⟩
      · simp only [planT]
        have hx := fun v : Int => (b2 (row ++ [v])).1
        have step : ∀ x, ((kidsR (planR ns most (fu + 1)) ((i : Int) :: ks') x row).1, (kidsR (planR ns most (fu + 1)) ((i : Int) :: ks') x row).2.drop row.length) = seqR (sgR (planR ns most (fu + 1) i)) (fun y => ((kidsR (planR ns most (fu + 1)) ks' y (row ++ [(planR ns most (fu + 1) i x).2])).1, (kidsR (planR ns most (fu + 1)) ks' y (row ++ [(planR ns most (fu + 1) i x).2])).2.drop (row ++ [(planR ns most (fu + 1) i x).2]).length)) x := by
          intro x
          rw [hdrop, key]
          simp only [seqR, sgR, hl1, List.cons_append, List.nil_append]
        refine ⟨fun out ho => ?_, fun out => ?_⟩
        · have := (hone.seq (hx (planR ns most (fu + 1) i (out, false)).2)).1 out ho
          rw [← step] at this
          exact this
        · have := (hone.seq (hx (planR ns most (fu + 1) i (out, true)).2)).2 out
          rw [← step] at this
          exact this
      · rw [hdrop, key]
        have := (b2 (row ++ [(planR ns most (fu + 1) i x).2])).2 (planR ns most (fu + 1) i x).1
        rw [hl1] at this
        conv => lhs; rw [this]
        simp
end Go.Rad
/- The plain laws of plans. -/
namespace Go.Rad
open Go Fo

theorem shapeL_rep {b : Lb} {d : Nat} (h : shapeL b d = true) (h5 : b.op = 5) : d = 1 ∧ b.s = ISet.none ∧ b.name = ByteArray.empty ∧ 0 ≤ b.lo ∧ b.lo ≤ 4096 ∧ (b.hi = -1 ∨ 1 ≤ b.hi ∧ b.hi ≤ 4096 ∧ b.lo ≤ b.hi) := by
  simp only [shapeL, shapeOk, h5] at h
  simp only [show ¬ (5 : Int) = 1 by decide, show ¬ (5 : Int) = 2 by decide, show ¬ ((5 : Int) = 3 ∨ (5 : Int) = 4) by decide, if_false, if_true, Bool.and_eq_true, Bool.not_eq_true', decide_eq_true_eq, decide_eq_false_iff_not, Decidable.not_not, List.length_replicate] at h
  obtain ⟨⟨⟨⟨h1, h2⟩, h3⟩, h4⟩, h6⟩ := h
  exact ⟨h3, h1, h2, h4.1, h4.2, h6⟩
theorem shapeL_bare {b : Lb} {d : Nat} (h : shapeL b d = true) (h5 : b.op ≠ 5) (h6 : b.op ≠ 6) : b.bare = b := by
  obtain ⟨op, s, lo, hi, nm⟩ := b
  simp only at h5 h6
  simp only [Lb.bare, Lb.mk.injEq, true_and]
  simp only [shapeL, shapeOk, if_neg h5, if_neg h6] at h
  split at h
  · simp only [Bool.and_eq_true, Bool.not_eq_true', decide_eq_false_iff_not, Decidable.not_not] at h
    exact ⟨by omega, by omega, h.1.2.symm⟩
  · split at h
    · simp only [Bool.and_eq_true, Bool.not_eq_true', decide_eq_false_iff_not, Decidable.not_not] at h
      exact ⟨by omega, by omega, h.1.2.symm⟩
    · split at h
      · simp only [Bool.and_eq_true, Bool.not_eq_true', decide_eq_false_iff_not, Decidable.not_not] at h
        exact ⟨by omega, by omega, h.1.2.symm⟩
      · cases h
abbrev no6 (f : Fo) : Bool := f.all fun b _ => decide (b.op ≠ 6)
theorem shape_one {f : Fo} (h : f.shapeF = true) : repOne f = true := by
  refine all_mono (fun b k hb => ?_) h
  simp only [decide_eq_true_eq]
  exact fun h5 => (shapeL_rep hb h5).1
theorem shape_bare {f : Fo} (h : f.shapeF = true) (h6 : no6 f = true) : bareOk f = true := by
  have h2 : f.all (fun b k => shapeL b k.deg && decide (b.op ≠ 6)) = true := by rw [all_and]; simp only [shapeF] at h; rw [h]; exact h6
  refine all_mono (fun b k hb => ?_) h2
  simp only [Bool.and_eq_true, decide_eq_true_eq] at hb ⊢
  by_cases h5 : b.op = 5
  · exact .inl h5
  · exact .inr (shapeL_bare hb.1 h5 hb.2)
theorem plain_fo (l : List Node) : plainS l = true ↔ ∃ f : Fo, f.deg = 1 ∧ l = f.lay 0 ∧ f.shapeF = true ∧ f.size ≤ 1024 ∧ no6 f = true := by
  have hno : ∀ f : Fo, (f.lay 0).all plainN = no6 f := fun f => lay_all0 fun n k _ => rfl
  constructor
  · intro h
    simp only [plainS, Bool.and_eq_true] at h
    obtain ⟨h1, h2⟩ := h
    rw [← right_eq] at h2
    obtain ⟨f, a, rfl, b, c⟩ := right_iff.1 h2
    exact ⟨f, a, rfl, b, c, by rw [← hno]; exact h1⟩
  · rintro ⟨f, a, rfl, b, c, d⟩
    simp only [plainS, Bool.and_eq_true]
    exact ⟨by rw [hno]; exact d, by rw [← right_eq]; exact right_iff.2 ⟨f, a, rfl, b, c⟩⟩

/-! A plan's nodes. -/
/-- A label that may stand in a plan. -/
def goodL (most : Int) (b : Lb) (k : Fo) : Bool := shapeL b k.deg && decide (b.op ≠ 6) && decide (b.op = 5 → b = repL 0 (-1) ∨ (b = repL b.lo b.hi ∧ k.isBytes = true ∧ 1 ≤ b.lo ∧ 2 ≤ b.hi ∧ most < b.hi))
abbrev goodP (most : Int) (f : Fo) : Bool := f.all (goodL most)
theorem shapeL_cat {d : Nat} (h : 2 ≤ d) : shapeL (opL 3) d = true := by
  simp only [shapeL, shapeOk, opL, List.length_replicate, ISet.none]
  simp [h]
theorem good_cat {most : Int} {k : Fo} (h : 2 ≤ k.deg) : goodL most (opL 3) k = true := by
  simp only [goodL, shapeL_cat h, Bool.true_and, Bool.and_eq_true, decide_eq_true_eq]
  exact ⟨by decide, fun h => absurd h (by decide)⟩
theorem good_alt {most : Int} {k : Fo} (h : k.deg = 2) : goodL most (opL 4) k = true := by
  simp only [goodL, h, Bool.and_eq_true, decide_eq_true_eq]
  exact ⟨⟨by decide, by decide⟩, fun h => absurd h (by decide)⟩
theorem good_empty {most : Int} : goodL most (opL 1) .nil = true := by
  simp only [goodL, Bool.and_eq_true, decide_eq_true_eq]
  exact ⟨⟨by decide, by decide⟩, fun h => absurd h (by decide)⟩
theorem good_star {most : Int} {k : Fo} (h : k.deg = 1) : goodL most (repL 0 (-1)) k = true := by
  simp only [goodL, h, Bool.and_eq_true, decide_eq_true_eq]
  exact ⟨⟨by decide, by decide⟩, by simp⟩
theorem good_rep {most lo hi : Int} {k : Fo} (h : k.deg = 1) (hb : k.isBytes = true) (h1 : 1 ≤ lo) (h2 : lo ≤ hi) (h3 : hi ≤ 4096) (h4 : 2 ≤ hi) (h5 : most < hi) : goodL most (repL lo hi) k = true := by
  simp only [goodL, h, Bool.and_eq_true, decide_eq_true_eq]
  refine ⟨⟨?_, by simp [repL]⟩, fun _ => .inr ⟨rfl, hb, h1, h4, h5⟩⟩
  have e : hi = -1 ∨ 1 ≤ hi ∧ hi ≤ 4096 ∧ lo ≤ hi := by omega
  have e1 : 0 ≤ lo := by omega
  have e2 : lo ≤ 4096 := by omega
  simp [shapeL, shapeOk, repL, e, e1, e2]
theorem all_one {P : Lb → Fo → Bool} {b : Lb} {k : Fo} : (one b k).all P = (P b k && k.all P) := by simp only [all, Bool.and_true]
section
variable {most : Int} {p : Fo} (hp : goodP most p = true) (hd : p.deg = 1)
include hp hd
theorem good_starT : goodP most p.starT = true := by
  simp only [goodP, starT, all_one, Bool.and_eq_true]; exact ⟨good_star hd, hp⟩
theorem good_rest : ∀ m, goodP most (restT p (m + 1)) = true
  | 0 => by
    simp only [goodP, restT, if_true, all_one, all_app, Bool.and_eq_true]
    exact ⟨good_alt (by simp only [deg_app, hd, deg]), ⟨good_empty, rfl⟩, hp⟩
  | m + 1 => by
    rw [restT, if_neg (by omega)]
    simp only [goodP, all_one, all_app, Bool.and_eq_true]
    refine ⟨good_alt (by simp only [deg_app, deg]), ⟨good_empty, rfl⟩, good_cat (by rw [deg_app, hd, rest_deg]; exact Nat.le_refl _), hp, good_rest m⟩
theorem good_copies : ∀ n, goodP most (copies p n) = true
  | 0 => rfl
  | n + 1 => by simp only [goodP, copies, all_app, Bool.and_eq_true]; exact ⟨hp, good_copies n⟩
omit hp in
theorem copies_deg : ∀ n, (copies p n).deg = n
  | 0 => rfl
  | n + 1 => by simp only [copies, deg_app, hd, copies_deg n]; omega
theorem good_row {lo hi : Int} (h0 : 0 ≤ lo) (h : hi = -1 ∨ 1 ≤ hi) : goodP most (p.rowT lo hi) = true := by
  have h1 : goodP most (rowOf p lo hi) = true := by
    simp only [goodP, rowOf, all_app, Bool.and_eq_true]
    refine ⟨good_copies hp hd _, ?_⟩
    split
    · exact good_starT hp hd
    · split
      · obtain ⟨m, hm⟩ : ∃ m, (hi - lo).toNat = m + 1 := ⟨(hi - lo).toNat - 1, by omega⟩
        rw [hm]; exact good_rest hp hd m
      · rfl
  have h2 : 1 ≤ (rowOf p lo hi).deg := by
    simp only [rowOf, deg_app, copies_deg hd]
    split
    · simp only [starT, deg]; omega
    · split
      · obtain ⟨m, hm⟩ : ∃ m, (hi - lo).toNat = m + 1 := ⟨(hi - lo).toNat - 1, by omega⟩
        rw [hm, rest_deg]; omega
      · omega
  unfold rowT catT
  split
  · exact h1
  · simp only [goodP, all_one, Bool.and_eq_true]
    exact ⟨good_cat (by omega), h1⟩
theorem good_repT {lo hi : Int} {bytes : Bool} (hm : 1 ≤ most) (hb : bytes = true → p.isBytes = true) (h0 : 0 ≤ lo ∧ lo ≤ 4096) (h : hi = -1 ∨ 1 ≤ hi ∧ hi ≤ 4096 ∧ lo ≤ hi) : goodP most (repT most lo hi bytes p) = true := by
  unfold repT
  split
  · exact good_row hp hd h0.1 (by omega)
  · rename_i hbt
    have hb := hb (by simpa using hbt)
    split
    · split
      · simp only [goodP, all_one, Bool.and_eq_true]
        exact ⟨good_rep hd hb (by omega) (by omega) (by omega) (by omega) (by omega), hp⟩
      · simp only [goodP, all_one, all_app, Bool.and_eq_true]
        exact ⟨good_alt (by simp only [deg_app, deg]), ⟨good_empty, rfl⟩, good_rep hd hb (by omega) (by omega) (by omega) (by omega) (by omega), hp⟩
    · split
      · rename_i hc
        simp only [goodP, all_one, all_app, Bool.and_eq_true]
        exact ⟨good_cat (by simp only [deg_app, deg, starT]; omega), ⟨good_rep hd hb (by omega) (by omega) (by omega) (by omega) (by omega), hp⟩, good_starT hp hd⟩
      · exact good_row hp hd h0.1 (by omega)
end
theorem isBytes_plan {most : Int} {k : Fo} (h : k.isBytes = true) : (k.planT most).isBytes = true := by
  match k, h with
  | .node b k1 r, h =>
    simp only [isBytes, decide_eq_true_eq] at h
    simp only [planT, h, show ¬ (2 : Int) = 5 by decide, if_false, app, isBytes, Lb.bare, decide_true]
theorem plan_good {most : Int} (hm : 1 ≤ most) : ∀ {f : Fo}, f.shapeF = true → no6 f = true → goodP most (f.planT most) = true
  | .nil, _, _ => rfl
  | .node b k r, h, h6 => by
    simp only [shapeF, no6, all, Bool.and_eq_true, decide_eq_true_eq] at h h6
    have hk := plan_good hm h.1.2 h6.1.2
    have hr := plan_good hm h.2 h6.2
    simp only [goodP, planT, all_app, Bool.and_eq_true]
    refine ⟨?_, hr⟩
    split
    · rename_i h5
      obtain ⟨q1, _, _, q4, q5, q6⟩ := shapeL_rep h.1.1 h5
      exact good_repT hk (by rw [planT_deg]; exact q1) hm isBytes_plan ⟨q4, q5⟩ q6
    · rename_i h5
      simp only [all_one, Bool.and_eq_true]
      refine ⟨?_, hk⟩
      rw [shapeL_bare h.1.1 h5 h6.1.1]
      simp only [goodL, planT_deg, Bool.and_eq_true, decide_eq_true_eq]
      exact ⟨⟨h.1.1, h6.1.1⟩, fun h => absurd h h5⟩
theorem good_shape {most : Int} {f : Fo} (h : goodP most f = true) : f.shapeF = true ∧ no6 f = true :=
  ⟨all_mono (fun b k hb => by simp only [goodL, Bool.and_eq_true] at hb; exact hb.1.1) h, all_mono (fun b k hb => by simp only [goodL, Bool.and_eq_true] at hb; exact hb.1.2) h⟩

/-! The plan of a plan. -/
theorem plan_again {most : Int} (hm : 1 ≤ most) : ∀ {f : Fo}, goodP most f = true → f.planT most = f
  | .nil, _ => rfl
  | .node b k r, h => by
    simp only [goodP, all, Bool.and_eq_true] at h
    obtain ⟨⟨h1, h2⟩, h3⟩ := h
    rw [planT, plan_again hm h2, plan_again hm h3]
    simp only [goodL, Bool.and_eq_true, decide_eq_true_eq] at h1
    obtain ⟨⟨a1, a2⟩, a3⟩ := h1
    have hone : ∀ b : Lb, (one b k).app r = .node b k r := fun b => rfl
    split
    · rename_i h5
      rcases a3 h5 with e | ⟨e, e1, e2, e3, e4⟩
      · have e5 : repT most b.lo b.hi k.isBytes k = one b k := by
          have r1 : k.rowT 0 (-1) = one (repL 0 (-1)) k := by simp only [rowT, rowOf, Int.toNat_zero, copies, app, if_true, catT, starT, deg]
          rw [e]
          simp only [repL]
          unfold repT
          split
          · exact r1
          · rw [if_neg (by omega), if_neg (by omega)]; exact r1
        rw [e5]; exact hone b
      · have e5 : repT most b.lo b.hi k.isBytes k = one b k := by
          unfold repT
          rw [e1, if_neg (by decide), if_pos e4, if_pos (by omega), ← e]
        rw [e5]; exact hone b
    · rename_i h5
      rw [shapeL_bare a1 h5 a2]; exact hone b
/-- Without repetitions a tree stays. -/
theorem plan_stay {most : Int} : ∀ {f : Fo}, f.shapeF = true → no6 f = true → f.all (fun b _ => decide (b.op ≠ 5)) = true → f.planT most = f
  | .nil, _, _, _ => rfl
  | .node b k r, h, h6, h5 => by
    simp only [shapeF, no6, all, Bool.and_eq_true, decide_eq_true_eq] at h h6 h5
    rw [planT, plan_stay h.1.2 h6.1.2 h5.1.2, plan_stay h.2 h6.2 h5.2, if_neg h5.1.1, shapeL_bare h.1.1 h5.1.1 h6.1.1]
    rfl

/-! What both tell. -/
theorem plan_tells {f : Fo} {most : Int} (hd : f.deg = 1) (hs : f.shapeF = true) (hz : f.size ≤ 1024) (h6 : no6 f = true) (hm : 1 ≤ most ∧ most ≤ 4096) :
    planS (f.lay 0) most = (if (f.planT most).size ≤ 1024 then ((f.planT most).lay 0, 0) else ([], 3)) := by
  have hp : plainS (f.lay 0) = true := (plain_fo _).2 ⟨f, hd, rfl, hs, hz, h6⟩
  have hsub := sub_lay hd
  obtain ⟨a, _⟩ := plan_ok most f [(f.size : Int) - 1] (f.lay 0).length hsub (by rw [lay_len]; exact Nat.le_refl _) (shape_one hs)
  obtain ⟨a1, a2⟩ := a _ rfl []
  simp only [List.length_nil, Nat.zero_add, List.nil_append, lay_len] at a1 a2
  rw [planS, if_neg (by rw [hp]; simp; omega), lay_len]
  by_cases h : (f.planT most).size ≤ 1024
  · have e := congrArg Prod.fst (a1 h)
    simp only [sg] at e
    rw [if_pos h, e, if_neg (by rw [lay_len]; omega)]
  · have e := a2 (by omega)
    rw [if_neg h, if_pos e]
theorem ref8utells {f : Fo} {most : Int} (hd : f.deg = 1) (hs : f.shapeF = true) (hz : f.size ≤ 1024) (h6 : no6 f = true) (hm : 1 ≤ most ∧ most ≤ 4096) :
    ref8S (f.lay 0) most = (if (f.planT most).size ≤ 1024 then ((f.planT most).lay 0, 0) else ([], 3)) ∧ ((planR (f.lay 0) most (f.lay 0).length (((f.lay 0).length : Int) - 1) ([], false)).1.2 = false → (planR (f.lay 0) most (f.lay 0).length (((f.lay 0).length : Int) - 1) ([], false)).1.1 = (f.planT most).lay 0 ∧ (f.planT most).size ≤ 1024) := by
  have hp : plainS (f.lay 0) = true := (plain_fo _).2 ⟨f, hd, rfl, hs, hz, h6⟩
  have hsub := sub_lay hd
  obtain ⟨a, _⟩ := planR_ok most f [(f.size : Int) - 1] (f.lay 0).length hsub (by rw [lay_len]; exact Nat.le_refl _) (shape_one hs) (shape_bare hs h6)
  obtain ⟨a1, a2⟩ := (a _ rfl).1 [] (Nat.zero_le _)
  simp only [List.length_nil, Nat.zero_add, List.nil_append, lay_len, sgR] at a1 a2
  have hg := good_shape (plan_good hm.1 hs h6 (most := most))
  rw [ref8S, if_neg (by rw [hp]; simp; omega)]
  simp only [lay_len]
  by_cases h : (f.planT most).size ≤ 1024
  · have e := congrArg Prod.fst (a1 h)
    simp only at e
    rw [if_pos h, e]
    have hr : right4 ((f.planT most).lay 0) = true := by
      rw [← right_eq]
      exact right_iff.2 ⟨_, by rw [planT_deg]; exact hd, rfl, hg.1, h⟩
    refine ⟨?_, fun _ => ⟨rfl, h⟩⟩
    rw [hr]; rfl
  · have e := a2 (by omega)
    rw [if_neg h, e]
    exact ⟨rfl, fun h => by cases h⟩

theorem plan_eq (l : List Node) (most : Int) : ref8S l most = planS l most := by
  by_cases hm : 1 ≤ most ∧ most ≤ 4096
  · cases hp : plainS l
    · rw [ref8S, planS, if_pos (.inl hp), if_pos (.inr (.inr hp))]
    · obtain ⟨f, a, rfl, b, c, d⟩ := (plain_fo l).1 hp
      rw [(ref8utells a b c d hm).1, plan_tells a b c d hm]
  · rw [ref8S, planS, if_pos (by omega), if_pos (by omega)]
/-- What a plan's nodes are like. -/
theorem planS_tree (l : List Node) (most : Int) : (planS l most = ([], 1) ∧ ¬ (plainS l = true ∧ 1 ≤ most ∧ most ≤ 4096)) ∨ (plainS l = true ∧ (1 ≤ most ∧ most ≤ 4096) ∧ ∃ f : Fo, f.deg = 1 ∧ l = f.lay 0 ∧ f.shapeF = true ∧ f.size ≤ 1024 ∧ no6 f = true ∧ planS l most = (if (f.planT most).size ≤ 1024 then ((f.planT most).lay 0, 0) else ([], 3))) := by
  by_cases hm : 1 ≤ most ∧ most ≤ 4096
  · cases hp : plainS l
    · left
      exact ⟨by rw [planS, if_pos (.inr (.inr hp))], by simp⟩
    · right
      obtain ⟨f, a, rfl, b, c, d⟩ := (plain_fo l).1 hp
      exact ⟨rfl, hm, f, a, rfl, b, c, d, plan_tells a b c d hm⟩
  · left
    exact ⟨by rw [planS, if_pos (by omega)], fun h => hm h.2⟩
theorem good_plain {most : Int} {f : Fo} (hd : f.deg = 1) (hg : goodP most f = true) (hz : f.size ≤ 1024) : plainS (f.lay 0) = true :=
  (plain_fo _).2 ⟨f, hd, rfl, (good_shape hg).1, hz, (good_shape hg).2⟩
theorem plainS_nd {l : List Node} (h : plainS l = true) : (∀ n ∈ l, n.name.size ≤ maxLen ∧ n.l.length ≤ maxLen) ∧ l.length ≤ 1024 := by
  simp only [plainS, Bool.and_eq_true] at h
  have hr := h.2
  rw [← right_eq] at hr
  exact ⟨rightS_bounds hr, (rightS_kids hr).2.2.2⟩
theorem planS_nd (l : List Node) (most : Int) : (∀ n ∈ (planS l most).1, n.name.size ≤ maxLen ∧ n.l.length ≤ maxLen) ∧ (planS l most).1.length ≤ 1024 := by
  rcases planS_tree l most with ⟨e, _⟩ | ⟨_, hm, f, a, _, b, c, d, e⟩
  · rw [e]; exact ⟨fun n hn => by simp at hn, by simp⟩
  · rw [e]
    split
    · rename_i h
      exact plainS_nd (good_plain (by rw [planT_deg]; exact a) (plan_good hm.1 b d (most := most)) h)
    · exact ⟨fun n hn => by simp at hn, by simp⟩
theorem planR_nd {l : List Node} {most : Int} (h : plainS l = true) (hm : 1 ≤ most ∧ most ≤ 4096) (hl : (planR l most l.length ((l.length : Int) - 1) ([], false)).1.2 = false) : ∀ n ∈ (planR l most l.length ((l.length : Int) - 1) ([], false)).1.1, n.l.length ≤ maxLen ∧ n.name.size ≤ maxLen := by
  obtain ⟨f, a, rfl, b, c, d⟩ := (plain_fo l).1 h
  obtain ⟨e1, e2⟩ := (ref8utells a b c d hm).2 hl
  rw [e1]
  intro n hn
  exact And.symm ((plainS_nd (good_plain (by rw [planT_deg]; exact a) (plan_good hm.1 b d (most := most)) e2)).1 n hn)
/-- Whether a tree is a plan, by its forest. -/
def isP (f : Fo) : Bool := f.all fun b k => !decide (b.op = 5 ∧ ¬ (b.lo = 0 ∧ b.hi = -1) ∧ (k.isBytes = false ∨ b.lo < 1 ∨ b.hi < 2))
theorem right_fo {f : Fo} (hd : f.deg = 1) (hs : f.shapeF = true) (hz : f.size ≤ 1024) (h6 : no6 f = true) : rightP (f.lay 0) = isP f := by
  rw [rightP, (plain_fo _).2 ⟨f, hd, rfl, hs, hz, h6⟩, Bool.true_and]
  have h1 := shape_one hs
  have key : (f.lay 0).all (fun n => (!badB (f.lay 0) n) && decide (n.op = 5 → n.l.length = 1)) = f.all fun b k => (!decide (b.op = 5 ∧ ¬ (b.lo = 0 ∧ b.hi = -1) ∧ (k.isBytes = false ∨ b.lo < 1 ∨ b.hi < 2))) && decide (b.op = 5 → k.deg = 1) := by
    refine lay_all0 fun n k hk => ?_
    have hl := hk.len
    by_cases h5 : n.op = 5
    · by_cases h1 : k.deg = 1
      · have hb := isBytes_sub hk h1
        have e : ((nAt (f.lay 0) (kid0 n)).op ≠ 2) = (k.isBytes = false) := by
          rw [← hb]; simp
        simp only [badB, e, hl]
      · simp only [hl, h5, h1, forall_const, decide_false, Bool.and_false]
    · simp [badB, h5]
  have hall : (f.lay 0).all (fun n => decide (n.op = 5 → n.l.length = 1)) = true := by
    rw [lay_all0 (P := fun b k => decide (b.op = 5 → k.deg = 1)) fun n k hk => by rw [hk.len]]; exact h1
  rw [all_and] at key
  unfold repOne at h1
  rw [h1, Bool.and_true] at key
  rw [isP, ← key]
  rw [Bool.eq_iff_iff, List.all_eq_true, List.all_eq_true]
  rw [List.all_eq_true] at hall
  constructor
  · intro h n hn; rw [h n hn, hall n hn]; rfl
  · intro h n hn; have := h n hn; simp only [Bool.and_eq_true] at this; exact this.1
theorem good_isP {most : Int} {f : Fo} (hg : goodP most f = true) : isP f = true := by
  refine all_mono (fun b k hb => ?_) hg
  simp only [goodL, Bool.and_eq_true, decide_eq_true_eq] at hb
  simp only [Bool.not_eq_true', decide_eq_false_iff_not]
  rintro ⟨h5, h1, h2⟩
  rcases hb.2 h5 with e | ⟨_, e1, e2, e3, _⟩
  · rw [e] at h1; exact h1 ⟨rfl, rfl⟩
  · rcases h2 with h2 | h2 | h2
    · rw [e1] at h2; cases h2
    · omega
    · omega
/-- A plan is one. -/
theorem plan_right {l : List Node} {most : Int} (h : (planS l most).2 = 0) : rightP (planS l most).1 = true := by
  rcases planS_tree l most with ⟨e, _⟩ | ⟨_, hm, f, a, _, b, c, d, e⟩
  · rw [e] at h; cases h
  · rw [e] at h ⊢
    split at h
    · rename_i hz
      rw [if_pos hz]
      have hg := plan_good hm.1 b d (most := most)
      rw [right_fo (by rw [planT_deg]; exact a) (good_shape hg).1 hz (good_shape hg).2]
      exact good_isP hg
    · cases h
theorem counted_eq (l : List Node) : (if rightP l = true then l.countP (fun n => decide (n.op = 5 ∧ n.hi ≠ -1)) else 0) = countedP l := by
  unfold countedP
  split
  · rename_i h
    rw [rightP, Bool.and_eq_true, List.all_eq_true] at h
    refine List.countP_congr fun n hn => ?_
    have hb := h.2 n hn
    have hpl := h.1
    simp only [plainS, Bool.and_eq_true] at hpl
    have hr := hpl.2
    rw [← right_eq] at hr
    simp only [badB, Bool.not_eq_true', decide_eq_false_iff_not] at hb
    simp only [cntB, decide_eq_true_eq]
    constructor
    · rintro ⟨h5, h1⟩; exact ⟨h5, fun h => h1 h.2⟩
    · rintro ⟨h5, h1⟩
      refine ⟨h5, fun h => hb ⟨h5, h1, ?_⟩⟩
      omega
  · rfl

/-- What PlanRight tells, of a tree that could be planned. -/
theorem plan_facts {l : List Node} {most : Int} (h : (planS l most).2 = 0) : (∀ n ∈ (planS l most).1, n.op = 5 → n.hi = -1 ∨ most < n.hi) ∧ (l.all (fun n => decide (n.op ≠ 5)) = true → (planS l most).1 = l) := by
  rcases planS_tree l most with ⟨e, _⟩ | ⟨_, hm, f, a, rfl, b, c, d, e⟩
  · rw [e] at h; cases h
  · rw [e] at h ⊢
    split at h
    · rename_i hz
      rw [if_pos hz]
      have hg := plan_good hm.1 b d (most := most)
      constructor
      · have hall : ((f.planT most).lay 0).all (fun n => decide (n.op = 5 → n.hi = -1 ∨ most < n.hi)) = true := by
          rw [lay_all0 (P := fun b _ => decide (b.op = 5 → b.hi = -1 ∨ most < b.hi)) fun n k _ => rfl]
          refine all_mono (fun b k hb => ?_) hg
          simp only [goodL, Bool.and_eq_true, decide_eq_true_eq] at hb ⊢
          intro h5
          rcases hb.2 h5 with e | ⟨_, _, _, _, e⟩
          · rw [e]; exact .inl rfl
          · exact .inr e
        intro n hn
        exact of_decide_eq_true (List.all_eq_true.1 hall n hn)
      · intro h5
        rw [lay_all0 (P := fun b _ => decide (b.op ≠ 5)) fun n k _ => rfl] at h5
        simp only [plan_stay b d h5]
    · cases h
theorem plan_errs {l : List Node} {most : Int} (hm : 1 ≤ most ∧ most ≤ 4096) (h : (planS l most).2 ≠ 0) : (planS l most).1 = [] ∧ ((planS l most).2 = 3 ∨ plainS l = false) := by
  rcases planS_tree l most with ⟨e, e2⟩ | ⟨_, _, f, a, rfl, b, c, d, e⟩
  · rw [e]
    refine ⟨rfl, .inr ?_⟩
    cases hp : plainS l
    · rfl
    · exact absurd ⟨hp, hm⟩ e2
  · rw [e] at h ⊢
    split at h
    · exact absurd rfl h
    · rename_i hz
      rw [if_neg hz]
      exact ⟨rfl, .inl rfl⟩
end Go.Rad
/- A plan means what its tree does. -/
namespace Go.Rad
open Go Fo
abbrev BF := List Bool → List Bool
/-- The same functions, on so many places. -/
def eqL (n : Nat) : List BF → List BF → Prop
  | [], [] => True
  | a :: as', b :: bs => (∀ s, s.length = n → a s = b s) ∧ eqL n as' bs
  | _, _ => False
section
variable {n : Nat}
theorem eqL_refl : ∀ fs : List BF, eqL n fs fs
  | [] => trivial
  | _ :: fs => ⟨fun _ _ => rfl, eqL_refl fs⟩
theorem eqL_trans : ∀ {fs gs hs : List BF}, eqL n fs gs → eqL n gs hs → eqL n fs hs
  | [], [], [], _, _ => trivial
  | _ :: _, _ :: _, _ :: _, ⟨a, b⟩, ⟨c, d⟩ => ⟨fun s h => (a s h).trans (c s h), eqL_trans b d⟩
theorem eqL_app : ∀ {fs gs fs' gs' : List BF}, eqL n fs gs → eqL n fs' gs' → eqL n (fs ++ fs') (gs ++ gs')
  | [], [], _, _, _, h => h
  | _ :: _, _ :: _, _, _, ⟨a, b⟩, h => ⟨a, eqL_app b h⟩
theorem eqL_row : ∀ {fs gs : List BF}, eqL n fs gs → (∀ f ∈ fs, Add n f) → ∀ s, s.length = n → fs.foldl (fun s f => f s) s = gs.foldl (fun s f => f s) s
  | [], [], _, _, s, _ => rfl
  | f :: fs, g :: gs, ⟨a, b⟩, h, s, hs => by
    rw [List.foldl_cons, List.foldl_cons, ← a s hs]
    exact eqL_row b (fun f hf => h f (by simp [hf])) _ ((h f (by simp)).len s hs)
theorem eqL_alt : ∀ {fs gs : List BF}, eqL n fs gs → ∀ s o, s.length = n → fs.foldl (fun o f => orB o (f s)) o = gs.foldl (fun o f => orB o (f s)) o
  | [], [], _, s, o, _ => rfl
  | f :: fs, g :: gs, ⟨a, b⟩, s, o, hs => by
    rw [List.foldl_cons, List.foldl_cons, a s hs]
    exact eqL_alt b s _ hs
theorem it_congr {f g : BF} (hf : Add n f) (h : ∀ s, s.length = n → f s = g s) : ∀ k s, s.length = n → itB f k s = itB g k s
  | 0, _, _ => rfl
  | k + 1, s, hs => by rw [itB, itB, ← h s hs]; exact it_congr hf h k _ (hf.len s hs)
theorem u_congr {f g : BF} (hf : Add n f) (h : ∀ s, s.length = n → f s = g s) : ∀ k s, s.length = n → uB f k s = uB g k s
  | 0, _, _ => rfl
  | k + 1, s, hs => by rw [uB, uB, ← h s hs, u_congr hf h k _ (hf.len s hs)]
end
theorem rep_congr {w : ByteArray} {f g : BF} (hf : Add (w.size + 1) f) (h : ∀ s, s.length = w.size + 1 → f s = g s) (lo hi : Int) (s : List Bool) (hs : s.length = w.size + 1) : repB w lo hi f s = repB w lo hi g s := by
  unfold repB
  rw [it_congr hf h _ s hs]
  refine u_congr hf h _ _ ?_
  rw [← it_congr hf h _ s hs]
  exact it_len hf hs _
theorem node_congr {w : ByteArray} {b b' : Lb} {fs gs : List BF} (h : eqL (w.size + 1) fs gs) (hf : ∀ f ∈ fs, Add (w.size + 1) f) (ho : b'.op = b.op) (hs' : b'.s = b.s) (hb : b.op = 5 → b' = b) (s : List Bool) (hs : s.length = w.size + 1) : semNode w b fs s = semNode w b' gs s := by
  unfold semNode
  rw [ho, hs']
  split
  · rfl
  · split
    · exact eqL_row h hf s hs
    · split
      · exact eqL_alt h s _ hs
      · split
        · rename_i h5
          rw [hb h5]
          match fs, gs, h, hf with
          | [], [], _, _ => rfl
          | f :: fs, g :: gs, ⟨a, _⟩, hf => exact rep_congr (hf f (by simp)) a _ _ s hs
        · rfl
section
variable {w : ByteArray} {p : Fo} {g : BF} (hp : sem w p = [g]) (hg : Add (w.size + 1) g)
include hp
theorem sem_copies : ∀ k, sem w (copies p k) = List.replicate k g
  | 0 => rfl
  | k + 1 => by rw [copies, sem_app, hp, sem_copies k]; rfl
theorem fold_rep (g : BF) : ∀ (k : Nat) (s : List Bool), (List.replicate k g).foldl (fun s f => f s) s = itB g k s
  | 0, _ => rfl
  | k + 1, s => by rw [List.replicate_succ, List.foldl_cons, fold_rep g k, itB]
theorem sem_star (s : List Bool) : eqL (w.size + 1) (sem w p.starT) [fun s => uB g (w.size + 1) s] := by
  refine ⟨fun s hs => ?_, trivial⟩
  simp only [semNode, repL, hp, List.headD_cons, repB]
  rfl
include hg
theorem sem_rest : ∀ k, eqL (w.size + 1) (sem w (restT p (k + 1))) [fun s => uB g (k + 1) s]
  | 0 => by
    refine ⟨fun s hs => ?_, trivial⟩
    simp only [if_true, sem_app, sem, hp, List.cons_append, List.nil_append]
    simp only [semNode, opL, show ¬ (4 : Int) = 2 by decide, show ¬ (4 : Int) = 3 by decide, show ¬ (1 : Int) = 2 by decide, show ¬ (1 : Int) = 3 by decide, show ¬ (1 : Int) = 4 by decide, show ¬ (1 : Int) = 5 by decide, if_false, if_true, List.foldl_cons, List.foldl_nil, orB_falses hs, uB]
  | k + 1 => by
    have ih := sem_rest k
    rw [restT, if_neg (by omega)]
    refine ⟨fun s hs => ?_, trivial⟩
    simp only [sem_app, sem, hp, List.cons_append, List.nil_append]
    rcases hr : sem w (restT p (k + 1)) with _ | ⟨r, _ | ⟨r', rs⟩⟩
    · rw [hr] at ih; exact ih.elim
    · rw [hr] at ih
      simp only [semNode, opL, show ¬ (4 : Int) = 2 by decide, show ¬ (4 : Int) = 3 by decide, show ¬ (3 : Int) = 2 by decide, show ¬ (1 : Int) = 2 by decide, show ¬ (1 : Int) = 3 by decide, show ¬ (1 : Int) = 4 by decide, show ¬ (1 : Int) = 5 by decide, if_false, if_true, List.foldl_cons, List.foldl_nil, orB_falses hs]
      rw [ih.1 _ (hg.len s hs), uB]
    · rw [hr] at ih; exact ih.2.elim
theorem sem_catT {f : Fo} {F : BF} (h : ∀ s, s.length = w.size + 1 → (sem w f).foldl (fun s f => f s) s = F s) : eqL (w.size + 1) (sem w f.catT) [F] := by
  unfold catT
  split
  · rename_i hd
    have hl := sem_len w f
    rw [hd] at hl
    match hs : sem w f, hl with
    | [x], _ => rw [hs] at h; exact ⟨h, trivial⟩
  · refine ⟨fun s hs => ?_, trivial⟩
    rw [← h s hs]
    simp only [semNode, opL, show ¬ (3 : Int) = 2 by decide, if_false, if_true]
theorem sem_row (lo hi : Int) : eqL (w.size + 1) (sem w (p.rowT lo hi)) [repB w lo hi g] := by
  refine sem_catT hp hg fun s hs => ?_
  unfold rowOf
  rw [sem_app, sem_copies hp, List.foldl_append, fold_rep hp]
  have hl := it_len hg hs lo.toNat
  unfold repB
  by_cases h1 : hi = -1
  · rw [if_pos h1, if_pos h1]
    have := sem_star hp s
    rcases hr : sem w p.starT with _ | ⟨r, _ | ⟨r', rs⟩⟩
    · rw [hr] at this; exact this.elim
    · rw [hr] at this; exact this.1 _ hl
    · rw [hr] at this; exact this.2.elim
  · rw [if_neg h1, if_neg h1]
    by_cases h2 : lo < hi
    · rw [if_pos h2]
      obtain ⟨m, hm⟩ : ∃ m, (hi - lo).toNat = m + 1 := ⟨(hi - lo).toNat - 1, by omega⟩
      rw [hm]
      have := sem_rest hp hg m
      rcases hr : sem w (restT p (m + 1)) with _ | ⟨r, _ | ⟨r', rs⟩⟩
      · rw [hr] at this; exact this.elim
      · rw [hr] at this; exact this.1 _ hl
      · rw [hr] at this; exact this.2.elim
    · rw [if_neg h2, show (hi - lo).toNat = 0 by omega]; rfl
theorem sem_rep {most lo hi : Int} (bytes : Bool) (h0 : 0 ≤ lo) (h : hi = -1 ∨ 1 ≤ hi) (hm : 1 ≤ most) : eqL (w.size + 1) (sem w (repT most lo hi bytes p)) [repB w lo hi g] := by
  unfold repT
  split
  · exact sem_row hp hg lo hi
  · split
    · split
      · refine ⟨fun s hs => ?_, trivial⟩
        simp only [semNode, repL, hp, List.headD_cons]
        rfl
      · have hl : lo = 0 := by omega
        refine ⟨fun s hs => ?_, trivial⟩
        have e1 : (repB w 1 hi g s) = uB g (hi - 1).toNat (g s) := by
          unfold repB; rw [if_neg (by omega)]; rfl
        have e2 : repB w lo hi g s = orB s (uB g (hi - 1).toNat (g s)) := by
          unfold repB
          obtain ⟨m, hm'⟩ : ∃ m, (hi - lo).toNat = m + 1 := ⟨(hi - lo).toNat - 1, by omega⟩
          rw [if_neg (by omega), hm', hl, show (hi - 1).toNat = m by omega]; rfl
        simp only [sem_app, sem, hp, List.cons_append, List.nil_append]
        simp only [semNode, opL, repL, show ¬ (4 : Int) = 2 by decide, show ¬ (4 : Int) = 3 by decide, show ¬ (5 : Int) = 2 by decide, show ¬ (5 : Int) = 3 by decide, show ¬ (5 : Int) = 4 by decide, show ¬ (1 : Int) = 2 by decide, show ¬ (1 : Int) = 3 by decide, show ¬ (1 : Int) = 4 by decide, show ¬ (1 : Int) = 5 by decide, if_false, if_true, List.foldl_cons, List.foldl_nil, orB_falses hs, List.headD_cons]
        rw [e1, e2]
    · split
      · rename_i hc
        refine ⟨fun s hs => ?_, trivial⟩
        simp only [sem_app, sem, starT, hp, List.cons_append, List.nil_append]
        simp only [semNode, opL, repL, show ¬ (3 : Int) = 2 by decide, show ¬ (5 : Int) = 2 by decide, show ¬ (5 : Int) = 3 by decide, show ¬ (5 : Int) = 4 by decide, if_false, if_true, List.foldl_cons, List.foldl_nil, List.headD_cons]
        have a1 : repB w lo lo g s = itB g lo.toNat s := by
          unfold repB; rw [if_neg (by omega), Int.sub_self]; rfl
        have a2 : ∀ t, repB w 0 (-1) g t = uB g (w.size + 1) t := fun t => by
          unfold repB; rw [if_pos rfl]; rfl
        have a3 : repB w lo hi g s = uB g (w.size + 1) (itB g lo.toNat s) := by
          unfold repB; rw [if_pos hc.1]
        rw [a1, a2, a3]
      · exact sem_row hp hg lo hi
end
theorem plan_sem (w : ByteArray) {most : Int} (hm : 1 ≤ most) : ∀ {f : Fo}, f.shapeF = true → eqL (w.size + 1) (sem w (f.planT most)) (sem w f)
  | .nil, _ => trivial
  | .node b k r, h => by
    simp only [shapeF, all, Bool.and_eq_true] at h
    have hk := plan_sem w hm h.1.2
    have hr := plan_sem w hm h.2
    simp only [planT, sem_app, sem]
    refine eqL_app (gs := [semNode w b (sem w k)]) ?_ hr
    split
    · rename_i h5
      obtain ⟨q1, _, _, q4, _, q6⟩ := shapeL_rep h.1.1 h5
      have hl := sem_len w (k.planT most)
      rw [planT_deg, q1] at hl
      match hs : sem w (k.planT most), hl with
      | [g], _ =>
        rw [hs] at hk
        have hg : Add (w.size + 1) g := sem_add w (k.planT most) g (by rw [hs]; simp)
        refine eqL_trans (sem_rep hs hg k.isBytes q4 (by omega) hm) ⟨fun s hsl => ?_, trivial⟩
        match hs2 : sem w k, hk with
        | [g2], hk =>
          simp only [semNode, h5, show ¬ (5 : Int) = 2 by decide, show ¬ (5 : Int) = 3 by decide, show ¬ (5 : Int) = 4 by decide, if_false, if_true, List.headD_cons]
          exact rep_congr hg hk.1 _ _ s hsl
    · rename_i h5
      refine ⟨fun s hs => ?_, trivial⟩
      refine (node_congr (b := b.bare) (b' := b) hk (sem_add w _) rfl rfl (fun h => absurd h h5) s hs)
/-- What one tree means. -/
def semT (w : ByteArray) (f : Fo) (s : List Bool) : List Bool := (sem w f).headD id s
theorem plan_semT (w : ByteArray) {most : Int} (hm : 1 ≤ most) {f : Fo} (hd : f.deg = 1) (hs : f.shapeF = true) (s : List Bool) (hl : s.length = w.size + 1) : semT w (f.planT most) s = semT w f s := by
  have h := plan_sem w hm hs
  have l1 := sem_len w f
  have l2 := sem_len w (f.planT most)
  rw [planT_deg, hd] at l2
  rw [hd] at l1
  unfold semT
  match h1 : sem w f, l1, h2 : sem w (f.planT most), l2 with
  | [a], _, [b], _ => rw [h1, h2] at h; exact h.1 s hl
end Go.Rad
