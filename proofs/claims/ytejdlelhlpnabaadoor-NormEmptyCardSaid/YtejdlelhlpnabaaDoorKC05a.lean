/- Contracts: syntax: names, nodes, trees. -/
import Derived.Test.YtejdlelhlpnabaaDoorKRDefer
set_option linter.all false
namespace Go.Rad
open Go Go.Proofs
set_option linter.all false
set_option maxRecDepth 20000
set_option maxHeartbeats 4000000

theorem letterS_c (c : Nat) : ACall Tryd.prog 51 [.int .u8 c] [] fun r s => r = .bool (letterN c) ∧ s = [] := by
  refine ACall.enter Tryd.func51 rfl (by kernel_rfl) (Nat.le_of_ble_eq_true rfl) ?_; simp only [initTm, Nat.reduceAdd]
  repeat' (first
  | refine gSq ?_ | refine gSk ?_ | refine gBl ?_ | refine gIb ?_ | refine gEx rfl ?_
  | ((first
  | (refine gRg [] [0, 2] ?_; intro K hK)
  | (refine gd_split ?_ ?_ <;> intro hb <;> (try simp only [bls] at hb) <;> (try simp only [hb]))
  | refine gRt [] [.tmp 2] rfl ?_ | refine gDn [] [.tmp 2] rfl ?_) <;> (try simp only [go_sem, simprocAttr]))
  | (refine hK _ _ ?_; clear hK K; simp only [go_sem, simprocAttr])
  | refine gCd (by simp only [go_sem, simprocAttr]; rfl) rfl ?_
  | refine brT ?_ | refine brF ?_
  | (refine brS ?_ ?_ <;> intro hc <;> (try simp only [bls] at hc) <;> (try simp only [hc, bls]))
  | intro _ | refine And.intro ?_ ?_)
  all_goals (refine congrArg AVal.bool ?_; rw [Bool.eq_iff_iff]; simp [letterN] <;> omega)
theorem digitS_c (c : Nat) : ACall Tryd.prog 52 [.int .u8 c] [] fun r s => r = .bool (digitN c) ∧ s = [] := by
  refine ACall.enter Tryd.func52 rfl (by kernel_rfl) (Nat.le_of_ble_eq_true rfl) ?_; simp only [initTm, Nat.reduceAdd]
  repeat' (first
  | refine gSq ?_ | refine gSk ?_ | refine gBl ?_ | refine gIb ?_ | refine gEx rfl ?_
  | ((first
  | (refine gRg [] [0, 2] ?_; intro K hK)
  | (refine gd_split ?_ ?_ <;> intro hb <;> (try simp only [bls] at hb) <;> (try simp only [hb]))
  | refine gRt [] [.tmp 2] rfl ?_ | refine gDn [] [.tmp 2] rfl ?_) <;> (try simp only [go_sem, simprocAttr]))
  | (refine hK _ _ ?_; clear hK K; simp only [go_sem, simprocAttr])
  | refine gCd (by simp only [go_sem, simprocAttr]; rfl) rfl ?_
  | refine brT ?_ | refine brF ?_
  | (refine brS ?_ ?_ <;> intro hc <;> (try simp only [bls] at hc) <;> (try simp only [hc, bls]))
  | intro _ | refine And.intro ?_ ?_)
  all_goals (refine congrArg AVal.bool ?_; rw [Bool.eq_iff_iff]; simp [digitN] <;> omega)
theorem nameS_c (s : ByteArray) (hs : s.size ≤ maxLen) : ACall Tryd.prog 31 [.str s] [] fun r s' => r = .bool (nameOk s) ∧ s' = [] := by
  unfold maxLen at hs
  refine ACall.enter Tryd.func31 rfl (by kernel_rfl) (Nat.le_of_ble_eq_true rfl) ?_; simp only [initTm, Nat.reduceAdd]
  repeat' (first
  | refine gSq ?_ | refine gSk ?_ | refine gBl ?_ | refine gIb ?_ | refine gEx rfl ?_
  | ((first
  | (refine gRg [] [0, 2, 3, 5, 6, 7, 24] ?_; intro K hK)
  | (refine gd_split ?_ ?_ <;> intro hb <;> (try simp only [bls] at hb) <;> (try simp only [hb]))
  | refine gRt [] [.tmp 2] rfl ?_ | refine gDn [] [.tmp 2] rfl ?_) <;> (try simp only [go_sem, simprocAttr]))
  | (refine hK _ _ ?_; clear hK K; simp only [go_sem, simprocAttr])
  | refine gCd (by simp only [go_sem, simprocAttr]; rfl) rfl ?_
  | refine brT ?_ | refine brF ?_
  | (refine brS ?_ ?_ <;> intro hc <;> (try simp only [bls] at hc) <;> (try simp only [hc, bls]))
  | intro _ | refine And.intro ?_ ?_)
  refine AGood.prune [0, 2, 5, 6] ?_; simp only [go_sem, simprocAttr]
  refine AGood.loopInv (α := Nat) (fun i => ([(0, .str s), (2, .bool false), (5, .int .i64 s.size), (6, .int .i64 i)], [])) (fun i => i ≤ s.size ∧ (List.range i).all (nmB s) = true) (fun i => s.size - i) 0 ⟨Nat.zero_le _, rfl⟩ rfl ?_
  rintro i ⟨hi, hall⟩ ih
  simp only
  by_cases hle : i < s.size
  · have e4 : (i : Int) < s.size := by omega
    have e6 : (0 : Int) ≤ i := by omega
    repeat' (first
  | refine gSq ?_ | refine gSk ?_ | refine gBl ?_ | refine gIb ?_ | refine gEx rfl ?_
  | ((first
  | (refine gRg [] [0, 2, 3, 5, 6, 7, 24] ?_; intro K hK)
  | refine cAl (letterS_c _) rfl rfl rfl ?_
  | refine cAl (digitS_c _) rfl rfl rfl ?_
  | (refine gd_split ?_ ?_ <;> intro hb <;> (try simp only [bls] at hb) <;> (try simp only [hb]))
  | refine gRt [] [.tmp 2] rfl ?_ | refine gDn [] [.tmp 2] rfl ?_) <;> (try simp only [go_sem, simprocAttr, e4, e6, sbyte_bt]))
  | (refine hK _ _ ?_; clear hK K; simp only [go_sem, simprocAttr])
  | refine gCd (by simp only [go_sem, simprocAttr]; rfl) rfl ?_
  | refine brT ?_ | refine brF ?_
  | (refine brS ?_ ?_ <;> intro hc <;> (try simp only [bls] at hc) <;> (try simp only [hc, bls]))
  | intro _ | refine And.intro ?_ ?_)
    all_goals first
      | omega
      | exact congrArg AVal.bool (name_no hle (by simp [nmB, *]; try omega))
      | (refine AGood.prune [0, 2, 5, 6] ?_; simp only [go_sem, simprocAttr]
         exact (ih (i + 1) ⟨by omega, all_succ hall (by simp [nmB, *]; try omega)⟩ (by omega)).cast rfl rfl)
  · have e4 : ¬ (i : Int) < s.size := by omega
    have e5 : i = s.size := by omega
    subst e5
    repeat' (first
  | refine gSq ?_ | refine gSk ?_ | refine gBl ?_ | refine gIb ?_ | refine gEx rfl ?_
  | ((first
  | (refine gRg [] [0, 2, 3, 5, 6, 7, 24] ?_; intro K hK)
  | (refine gd_split ?_ ?_ <;> intro hb <;> (try simp only [bls] at hb) <;> (try simp only [hb]))
  | refine gRt [] [.tmp 2] rfl ?_ | refine gDn [] [.tmp 2] rfl ?_) <;> (try simp only [go_sem, simprocAttr, e4]))
  | (refine hK _ _ ?_; clear hK K; simp only [go_sem, simprocAttr])
  | refine gCd (by simp only [go_sem, simprocAttr]; rfl) rfl ?_
  | refine brT ?_ | refine brF ?_
  | (refine brS ?_ ?_ <;> intro hc <;> (try simp only [bls] at hc) <;> (try simp only [hc, bls]))
  | intro _ | refine And.intro ?_ ?_)
    all_goals (refine congrArg AVal.bool ?_; rw [Bool.eq_iff_iff]; simp [nameOk, hall] <;> omega)

theorem equal_c (q f q' f' : Bool) (a b : List Int) (ha : a.length ≤ maxLen) : ACall Tryd.prog 39 [.sl q f (ints a), .sl q' f' (ints b)] [] fun r s => r = .bool (decide (a = b)) ∧ s = [] := by
  unfold maxLen at ha
  refine ACall.enter Tryd.func39 rfl (by kernel_rfl) (Nat.le_of_ble_eq_true rfl) ?_; simp only [initTm, Nat.reduceAdd]
  repeat' (first
  | refine gSq ?_ | refine gSk ?_ | refine gBl ?_ | refine gIb ?_ | refine gEx rfl ?_
  | ((first
  | (refine gRg [] [0, 1, 4, 5, 10, 12, 13, 14, 24] ?_; intro K hK)
  | (refine gDr 6 [] 9 [0, 1, 2, 3, 4, 5, 6, 7, 8] [0, 1, 4, 5, 10, 12, 13, 14, 24] rfl ?_; intro K hK)
  | (refine gd_split ?_ ?_ <;> intro hb <;> (try simp only [bls] at hb) <;> (try simp only [hb]))
  | refine gRt [] [.tmp 4] rfl ?_ | refine gDn [] [.tmp 4] rfl ?_) <;> (try simp only [go_sem, simprocAttr]))
  | (refine hK _ _ ?_; clear hK K; simp only [go_sem, simprocAttr])
  | refine gCd (by simp only [go_sem, simprocAttr]; rfl) rfl ?_
  | refine brT ?_ | refine brF ?_
  | (refine brS ?_ ?_ <;> intro hc <;> (try simp only [bls] at hc) <;> (try simp only [hc, bls]))
  | intro _ | refine And.intro ?_ ?_)
  · exact congrArg AVal.bool (by simp only [Bool.false_eq, decide_eq_false_iff_not]; rintro rfl; exact hc rfl)
  have hab : a.length = b.length := by omega
  refine AGood.prune [0, 1, 4, 12, 13] ?_; simp only [go_sem, simprocAttr]
  refine AGood.loopInv (α := Nat) (fun i => ([(0, .sl q f (ints a)), (1, .sl q' f' (ints b)), (4, .bool false), (12, .int .i64 a.length), (13, .int .i64 i)], [])) (fun i => i ≤ a.length ∧ a.take i = b.take i) (fun i => a.length - i) 0 ⟨Nat.zero_le _, rfl⟩ rfl ?_
  rintro i ⟨hi, htk⟩ ih
  simp only
  by_cases hle : i < a.length
  · have e4 : (i : Int) < a.length := by omega
    have e6 : (0 : Int) ≤ i := by omega
    have e7 : (i : Int) < b.length := by omega
    have hx : a[i]? = some a[i] := List.getElem?_eq_getElem hle
    have hy : b[i]? = some b[i] := List.getElem?_eq_getElem (by omega)
    generalize a[i] = x at hx
    generalize b[i] = y at hy
    by_cases hxy : x = y
    · subst hxy
      repeat' (first
  | refine gSq ?_ | refine gSk ?_ | refine gBl ?_ | refine gIb ?_ | refine gEx rfl ?_
  | ((first
  | (refine gRg [] [0, 1, 4, 5, 10, 12, 13, 14, 24] ?_; intro K hK)
  | (refine gDr 6 [] 9 [0, 1, 2, 3, 4, 5, 6, 7, 8] [0, 1, 4, 5, 10, 12, 13, 14, 24] rfl ?_; intro K hK)
  | (refine gd_split ?_ ?_ <;> intro hb <;> (try simp only [bls] at hb) <;> (try simp only [hb]))
  | refine gRt [] [.tmp 4] rfl ?_ | refine gDn [] [.tmp 4] rfl ?_) <;> (try simp only [go_sem, simprocAttr, e4, e6, e7, hx, hy, Option.some.injEq, forall_eq']))
  | (refine hK _ _ ?_; clear hK K; simp only [go_sem, simprocAttr])
  | refine gCd (by simp only [go_sem, simprocAttr]; rfl) rfl ?_
  | refine brT ?_ | refine brF ?_
  | (refine brS ?_ ?_ <;> intro hc <;> (try simp only [bls] at hc) <;> (try simp only [hc, bls]))
  | intro _ | refine And.intro ?_ ?_)
      all_goals first | omega | skip
      refine AGood.prune [0, 1, 4, 12, 13] ?_; simp only [go_sem, simprocAttr]
      exact (ih (i + 1) ⟨by omega, by rw [take_one hx, take_one hy, htk]⟩ (by omega)).cast rfl rfl
    · repeat' (first
  | refine gSq ?_ | refine gSk ?_ | refine gBl ?_ | refine gIb ?_ | refine gEx rfl ?_
  | ((first
  | (refine gRg [] [0, 1, 4, 5, 10, 12, 13, 14, 24] ?_; intro K hK)
  | (refine gDr 6 [] 9 [0, 1, 2, 3, 4, 5, 6, 7, 8] [0, 1, 4, 5, 10, 12, 13, 14, 24] rfl ?_; intro K hK)
  | (refine gd_split ?_ ?_ <;> intro hb <;> (try simp only [bls] at hb) <;> (try simp only [hb]))
  | refine gRt [] [.tmp 4] rfl ?_ | refine gDn [] [.tmp 4] rfl ?_) <;> (try simp only [go_sem, simprocAttr, e4, e6, e7, hx, hy, hxy, Option.some.injEq, forall_eq']))
  | (refine hK _ _ ?_; clear hK K; simp only [go_sem, simprocAttr])
  | refine gCd (by simp only [go_sem, simprocAttr]; rfl) rfl ?_
  | refine brT ?_ | refine brF ?_
  | (refine brS ?_ ?_ <;> intro hc <;> (try simp only [bls] at hc) <;> (try simp only [hc, bls]))
  | intro _ | refine And.intro ?_ ?_)
      refine congrArg AVal.bool ?_
      simp only [Bool.false_eq, decide_eq_false_iff_not]
      rintro rfl
      rw [hx] at hy; exact hxy (Option.some.inj hy)
  · rw [List.take_of_length_le (by omega), List.take_of_length_le (by omega)] at htk
    have e4 : ¬ (i : Int) < a.length := by omega
    repeat' (first
  | refine gSq ?_ | refine gSk ?_ | refine gBl ?_ | refine gIb ?_ | refine gEx rfl ?_
  | ((first
  | (refine gRg [] [0, 1, 4, 5, 10, 12, 13, 14, 24] ?_; intro K hK)
  | (refine gDr 6 [] 9 [0, 1, 2, 3, 4, 5, 6, 7, 8] [0, 1, 4, 5, 10, 12, 13, 14, 24] rfl ?_; intro K hK)
  | (refine gd_split ?_ ?_ <;> intro hb <;> (try simp only [bls] at hb) <;> (try simp only [hb]))
  | refine gRt [] [.tmp 4] rfl ?_ | refine gDn [] [.tmp 4] rfl ?_) <;> (try simp only [go_sem, simprocAttr, e4]))
  | (refine hK _ _ ?_; clear hK K; simp only [go_sem, simprocAttr])
  | refine gCd (by simp only [go_sem, simprocAttr]; rfl) rfl ?_
  | refine brT ?_ | refine brF ?_
  | (refine brS ?_ ?_ <;> intro hc <;> (try simp only [bls] at hc) <;> (try simp only [hc, bls]))
  | intro _ | refine And.intro ?_ ?_)
    simp [htk]
end Go.Rad
/- A box that is written no more is a frozen thing. -/
namespace Go.Rad
open Go
theorem AGood.boxRef {P : Program} {f : Nat} {fn : Func} {k : List Item} {tm : Tm} {sto : Sto} {R : AVal → Sto → Prop} (t id : Nat) {g : Nat} {cs : List AVal} (ht : lk tm t = .bx id g 0) (hg : sget sto id = some (g, .box cs)) (hz : cs.all AVal.isFz = true)
    (h : AGood P f fn [] k ((t, .ref true cs) :: tm) (sdel sto id) R) : AGood P f fn [] k tm sto R := by
  refine ⟨fun E G a w b h1 h2 h3 h4 h5 h6 h7 h8 h9 => ?_⟩
  obtain ⟨bb, cap, esz, k1, k2, c, e, k3, k4, k5, k6⟩ := h8.obj _ _ _ hg
  have hbid : blkOf G id g = some bb := by simp [blkOf, k1]
  have hext := frzG_ext (w := w) k2
  have hd : a.defers = [] := by
    cases hd : a.defers with
    | nil => rfl
    | cons => rw [hd] at h5; simp [DfOk] at h5
  refine h.go E (frzG G w bb) a w b h1 h2 h3 h4 (by rw [hd]; trivial) (h6.trans hext) ⟨h7.K, fun b' o h => ?_, h7.M, h7.N, fun g l h => (h7.T g l h).mono hext.toMono⟩ ⟨fun i g' o h => ?_, fun i i' g1 g2 o o' h h' hne b' hb => ?_⟩ fun t' => ?_
  · simp only [frzG] at h
    split at h
    · rename_i e; subst e; exact h
    · exact h7.F b' o h
  · rw [sget_sdel] at h
    split at h
    · cases h
    · rename_i hne
      have ho := h8.obj i g' o h
      refine ho.mono hext.toMono (fun b' hb' => ?_) (fun _ _ => rfl)
      have hb1 : blkOf G i g' = some b' := hb'
      have : b' ≠ bb := by
        rintro rfl
        exact h8.apart id i g g' _ o hg h hne b' hbid hb1
      simp only [frzG, if_neg this]
      exact (ho.blk h7 b' hb1).1
  · rw [sget_sdel] at h h'
    split at h
    · cases h
    · split at h'
      · cases h'
      · exact h8.apart i i' g1 g2 o o' h h' hne b' hb
  · simp only [lk]
    split
    · rename_i e2; subst e2
      have hr := h9 t
      rw [ht] at hr
      generalize a.tmps.getD t undef = v at hr
      cases hr with
      | @bx _ _ _ b2 cap2 esz2 hM =>
        rw [k1] at hM
        simp only [Option.some.injEq, Hd.mk.injEq] at hM
        obtain ⟨rfl, _, _⟩ := hM
        refine .ref (c := c) (e := e) (fr := (0, 0)) (.inl (.inl rfl)) (by simp [frzG, k3]) (by omega) k5 fun j x hx => ?_
        have := (k6 j x hx).down (List.all_eq_true.1 hz x (List.mem_of_getElem? hx))
        rw [Nat.zero_add]
        exact this.mono hext.toMono
    · exact (h9 t').mono hext.toMono
theorem map_one {α β : Type} {f : α → β} {a : α} {a' : β} (h : f a = a') : [a].map f = [a'] := by rw [List.map_cons, List.map_nil, h]
theorem map_two {α β : Type} {f : α → β} {a b : α} {a' b' : β} (h : f a = a') (k : f b = b') : [a, b].map f = [a', b'] := by rw [List.map_cons, List.map_cons, List.map_nil, h, k]
theorem map_three {α β : Type} {f : α → β} {a b c : α} {a' b' c' : β} (h : f a = a') (k : f b = b') (l : f c = c') : [a, b, c].map f = [a', b', c'] := by rw [List.map_cons, List.map_cons, List.map_cons, List.map_nil, h, k, l]
theorem sl_ints {q f : Bool} {l l' : List Int} (h : l = l') : AVal.sl q f (ints l) = .sl q f (ints l') := by rw [h]
end Go.Rad
/- Contracts: syntax: what a node has; whether nodes are a tree. -/
namespace Go.Rad
open Go Go.Proofs
set_option linter.all false
set_option maxRecDepth 20000
set_option maxHeartbeats 4000000

theorem ba_emptyS : (ByteArray.mk #[]) = ByteArray.empty := Eq.trans rfl rfl
theorem shaped_c (fl : Bool) (n : Node) (hn : n.name.size ≤ maxLen ∧ n.l.length ≤ maxLen) : ACall Tryd.prog 38 [.agg (n.cellsF fl)] [] fun r s' => r = .bool (shapeOk n) ∧ s' = [] := by
  obtain ⟨hn, hm⟩ := hn
  unfold maxLen at hm
  obtain ⟨no, ⟨na, nb, nc, nd⟩, nl, nlo, nhi, nn⟩ := n
  simp only at hn hm
  simp only [Node.cellsF]
  refine ACall.enter Tryd.func38 rfl (by kernel_rfl) (Nat.le_of_ble_eq_true rfl) ?_; simp only [initTm, Nat.reduceAdd]
  repeat' (first
  | refine gSq ?_ | refine gSk ?_ | refine gBl ?_ | refine gIb ?_ | refine gEx rfl ?_
  | ((first
  | (refine AGood.at 10 ?_; refine AGood.boxRef 1 1 rfl rfl rfl ?_; simp only [go_sem, simprocAttr]; (refine gDl 10 [] 5 [0, 1, 2, 3, 4, 5, 6, 7] [] [26] [0, 1, 2, 3, 4, 12, 13, 21, 22, 55, 58, 62, 63, 71, 72] rfl ?_; intro K hK))
  | (refine gRg [] [0, 1, 2, 3, 4, 12, 13, 21, 22, 55, 58, 62, 63, 71, 72] ?_; intro K hK)
  | refine cAl (nameS_c _ hn) rfl rfl rfl ?_
  | (refine gd_split ?_ ?_ <;> intro hb <;> (try simp only [bls] at hb) <;> (try simp only [hb]))
  | refine gRt [] [.tmp 2] rfl ?_ | refine gDn [] [.tmp 2] rfl ?_) <;> (try simp only [go_sem, simprocAttr, ba_emptyS]))
  | (refine hK _ _ ?_; clear hK K; simp only [go_sem, simprocAttr])
  | refine gCd (by simp only [go_sem, simprocAttr]; rfl) rfl ?_
  | refine brT ?_ | refine brF ?_
  | (refine brS ?_ ?_ <;> intro hc <;> (try simp only [bls] at hc) <;> (try simp only [hc, bls]))
  | intro _ | refine And.intro ?_ ?_)
  all_goals first
    | omega
    | (refine congrArg AVal.bool ?_; rw [Bool.eq_iff_iff]; simp_all [shapeOk, ISet.none] <;> first | omega | (have h1 : nl.length = 1 := (by omega); have h2 : 1 ≤ nhi ∧ nlo ≤ nhi := (by omega); simp [h1, h2]))
end Go.Rad
/- Contracts: syntax: whether nodes are a tree. -/
namespace Go.Rad
open Go Go.Proofs
set_option linter.all false
set_option maxRecDepth 20000
set_option maxHeartbeats 4000000

theorem stk_no {ns : List Node} {i : Nat} {st : List Int} {n : Node} (h : ¬ (shapeOk n = true ∧ n.l.length ≤ st.length ∧ st.drop (st.length - n.l.length) = n.l)) : stkS (n :: ns) i st = none := by
  rw [stkS, if_neg h]
theorem rightS_no {l : List Node} (h : stkS l 0 [] = none) : false = rightS l := by
  simp [rightS, h]
theorem rightS_c (q f : Bool) (ns : List Node) (hl : ∀ n ∈ ns, n.name.size ≤ maxLen ∧ n.l.length ≤ maxLen) : ACall Tryd.prog 21 [.sl q f (nodes ns)] [] fun r s => r = .bool (rightS ns) ∧ s = [] := by
  refine ACall.enter Tryd.func21 rfl (by kernel_rfl) (Nat.le_of_ble_eq_true rfl) ?_; simp only [initTm, Nat.reduceAdd]
  repeat' (first
  | refine gSq ?_ | refine gSk ?_ | refine gBl ?_ | refine gIb ?_ | refine gEx rfl ?_
  | ((first
  | (refine gRg [] [0, 2, 3, 4, 5, 6, 14, 15, 16, 17, 18, 32, 45] ?_; intro K hK)
  | (refine gDr 10 [] 7 [0, 1, 2, 3, 4, 5, 6] [0, 2, 3, 4, 5, 6, 14, 15, 16, 17, 18, 32, 45] rfl ?_; intro K hK)
  | (refine gd_split ?_ ?_ <;> intro hb <;> (try simp only [bls] at hb) <;> (try simp only [hb]))
  | refine gRt [] [.tmp 2] rfl ?_ | refine gDn [] [.tmp 2] rfl ?_) <;> (try simp only [go_sem, simprocAttr]))
  | (refine hK _ _ ?_; clear hK K; simp only [go_sem, simprocAttr])
  | refine gCd (by simp only [go_sem, simprocAttr]; rfl) rfl ?_
  | refine brT ?_ | refine brF ?_
  | (refine brS ?_ ?_ <;> intro hc <;> (try simp only [bls] at hc) <;> (try simp only [hc, bls]))
  | intro _ | refine And.intro ?_ ?_)
  · refine congrArg AVal.bool ?_; simp only [rightS]; rw [show decide (1 ≤ ns.length ∧ ns.length ≤ 1024) = false from by simp; omega, Bool.false_and]
  · have hn1 : 1 ≤ ns.length ∧ ns.length ≤ 1024 := by omega
    refine AGood.ownTm 3 900 1 (by decide) rfl fun g => ?_
    simp only [go_sem, simprocAttr]
    refine AGood.prune [0, 2, 3, 15, 16, 17] ?_; simp only [go_sem, simprocAttr]
    refine AGood.loopInv (α := Nat × List Int × Nat) (fun x => ([(0, .sl q f (nodes ns)), (2, .bool false), (3, .osl 900 x.2.2 0 x.2.1.length), (15, .sl q f (nodes ns)), (16, .int .i64 ns.length), (17, .int .i64 x.1)], [(900, (x.2.2, .row 1 (ints x.2.1)))])) (fun x => x.1 ≤ ns.length ∧ x.2.1.length ≤ x.1 ∧ stkS ns 0 [] = stkS (ns.drop x.1) x.1 x.2.1) (fun x => ns.length - x.1) (0, [], g) ⟨Nat.zero_le _, Nat.zero_le _, rfl⟩ rfl ?_
    rintro ⟨i, st, g⟩ ⟨hi, hst, hrun⟩ ih
    simp only at hi hst hrun ih ⊢
    by_cases hle : i < ns.length
    · have e4 : (i : Int) < ns.length := by omega
      have e5 : (0 : Int) ≤ i := by omega
      have hx : ns[i]? = some ns[i] := List.getElem?_eq_getElem hle
      have hm := hl ns[i] (List.getElem_mem hle)
      have hd : ns.drop i = ns[i] :: ns.drop (i + 1) := List.drop_eq_getElem_cons hle
      rw [hd] at hrun
      generalize ns[i] = x at hx hm hrun
      have hsh := shaped_c false x hm
      by_cases hok : shapeOk x = true
      · by_cases hlt : st.length < x.l.length
        · have hno := stk_no (ns := ns.drop (i + 1)) (i := i) (st := st) (n := x) (by rintro ⟨_, h, _⟩; omega)
          rw [hno] at hrun
          rw [hok] at hsh
          obtain ⟨xo, ⟨xa, xb, xc, xd⟩, xl, xlo, xhi, xn⟩ := x
          simp only at hlt
          have e6 : (st.length : Int) < xl.length := by omega
          repeat' (first
  | refine gSq ?_ | refine gSk ?_ | refine gBl ?_ | refine gIb ?_ | refine gEx rfl ?_
  | ((first
  | (refine gRg [] [0, 2, 3, 4, 5, 6, 14, 15, 16, 17, 18, 32, 45] ?_; intro K hK)
  | (refine gDr 10 [] 7 [0, 1, 2, 3, 4, 5, 6] [0, 2, 3, 4, 5, 6, 14, 15, 16, 17, 18, 32, 45] rfl ?_; intro K hK)
  | refine cAl (hsh) rfl rfl rfl ?_
  | (refine gd_split ?_ ?_ <;> intro hb <;> (try simp only [bls] at hb) <;> (try simp only [hb]))
  | refine gRt [] [.tmp 2] rfl ?_ | refine gDn [] [.tmp 2] rfl ?_) <;> (try simp only [go_sem, simprocAttr, e4, e5, e6, hx, Option.some.injEq, forall_eq']))
  | (refine hK _ _ ?_; clear hK K; simp only [go_sem, simprocAttr])
  | refine gCd (by simp only [go_sem, simprocAttr]; rfl) rfl ?_
  | refine brT ?_ | refine brF ?_
  | (refine brS ?_ ?_ <;> intro hc <;> (try simp only [bls] at hc) <;> (try simp only [hc, bls]))
  | intro _ | refine And.intro ?_ ?_)
          exact congrArg AVal.bool (rightS_no hrun)
        · obtain ⟨m, hm2⟩ : ∃ m, st.length = m + x.l.length := ⟨st.length - x.l.length, by omega⟩
          have hmm : st.length - x.l.length = m := by omega
          by_cases heq : st.drop m = x.l
          · rw [stkS, if_pos ⟨hok, by omega, by rw [hmm]; exact heq⟩, hmm] at hrun
            rw [hok] at hsh
            have ih := fun g' => ih (i + 1, st.take m ++ [(i : Int)], g') ⟨by simp only; omega, by simp; omega, hrun⟩ (by simp only; omega)
            obtain ⟨xo, ⟨xa, xb, xc, xd⟩, xl, xlo, xhi, xn⟩ := x
            simp only at hlt hm2 hmm heq hm
            have e6 : ¬ (st.length : Int) < xl.length := by omega
            have e7 : (st.length : Int) - xl.length = (m : Nat) := by omega
            have e8 : min m st.length = m := by omega
            have hcall := equal_c false false true false (st.drop m) xl (by unfold maxLen; rw [List.length_drop]; omega)
            rw [heq, decide_eq_true rfl] at hcall
            repeat' (first
  | refine gSq ?_ | refine gSk ?_ | refine gBl ?_ | refine gIb ?_ | refine gEx rfl ?_
  | ((first
  | (refine AGood.at 12 ?_; (refine AGood.shrink 900 m rfl ?_; simp only [go_sem, simprocAttr, ← List.map_take]); (refine gRg [] [0, 2, 3, 4, 5, 6, 14, 15, 16, 17, 18, 32, 45] ?_; intro K hK))
  | (refine gRg [] [0, 2, 3, 4, 5, 6, 14, 15, 16, 17, 18, 32, 45] ?_; intro K hK)
  | (refine gDr 10 [] 7 [0, 1, 2, 3, 4, 5, 6] [0, 2, 3, 4, 5, 6, 14, 15, 16, 17, 18, 32, 45] rfl ?_; intro K hK)
  | refine cAl (hsh) rfl rfl rfl ?_
  | (refine ⟨.bool true, ACall.lent [900] hcall (map_two ((tr_lent rfl rfl rfl (by simp; omega)).trans ((congrArg (AVal.sl false false) (ints_part _ _ _)).trans (sl_ints (by rw [List.take_of_length_le (by simp), heq])))) rfl) rfl rfl rfl, ?_⟩)
  | (refine gd_split ?_ ?_ <;> intro hb <;> (try simp only [bls] at hb) <;> (try simp only [hb]))
  | refine gRt [] [.tmp 2] rfl ?_ | refine gDn [] [.tmp 2] rfl ?_) <;> (try simp only [go_sem, simprocAttr, e4, e5, e6, e7, e8, hx, Option.some.injEq, forall_eq', List.length_take]))
  | (refine hK _ _ ?_; clear hK K; simp only [go_sem, simprocAttr])
  | refine gCd (by simp only [go_sem, simprocAttr]; rfl) rfl ?_
  | refine brT ?_ | refine brF ?_
  | (refine brS ?_ ?_ <;> intro hc <;> (try simp only [bls] at hc) <;> (try simp only [hc, bls]))
  | intro _ | refine And.intro ?_ ?_)
            all_goals first | omega | (unfold bigLen; omega) | exact ⟨_, _, ⟨rfl, rfl⟩, rfl⟩ | exact ⟨_, rfl⟩ | (rename_i hy; simp only [List.mem_singleton] at hy; subst hy; rfl) | skip
            rename_i h'
            refine AGood.filt [900] ?_
            simp only [sf_cons, sf_nil, go_sem, simprocAttr]
            refine AGood.prune [0, 2, 3, 15, 16, 17] ?_; simp only [go_sem, simprocAttr]
            exact (ih h').cast (by simp; omega) (by simp)
          · have hno := stk_no (ns := ns.drop (i + 1)) (i := i) (st := st) (n := x) (by rintro ⟨_, _, h⟩; rw [hmm] at h; exact heq h)
            rw [hno] at hrun
            rw [hok] at hsh
            obtain ⟨xo, ⟨xa, xb, xc, xd⟩, xl, xlo, xhi, xn⟩ := x
            simp only at hlt hm2 hmm heq hm
            have e6 : ¬ (st.length : Int) < xl.length := by omega
            have e7 : (st.length : Int) - xl.length = (m : Nat) := by omega
            have hcall := equal_c false false true false (st.drop m) xl (by unfold maxLen; rw [List.length_drop]; omega)
            rw [decide_eq_false heq] at hcall
            repeat' (first
  | refine gSq ?_ | refine gSk ?_ | refine gBl ?_ | refine gIb ?_ | refine gEx rfl ?_
  | ((first
  | (refine gRg [] [0, 2, 3, 4, 5, 6, 14, 15, 16, 17, 18, 32, 45] ?_; intro K hK)
  | (refine gDr 10 [] 7 [0, 1, 2, 3, 4, 5, 6] [0, 2, 3, 4, 5, 6, 14, 15, 16, 17, 18, 32, 45] rfl ?_; intro K hK)
  | refine cAl (hsh) rfl rfl rfl ?_
  | (refine ⟨.bool false, ACall.lent [900] hcall (map_two ((tr_lent rfl rfl rfl (by simp; omega)).trans ((congrArg (AVal.sl false false) (ints_part _ _ _)).trans (sl_ints (by rw [List.take_of_length_le (by simp)])))) rfl) rfl rfl rfl, ?_⟩)
  | (refine gd_split ?_ ?_ <;> intro hb <;> (try simp only [bls] at hb) <;> (try simp only [hb]))
  | refine gRt [] [.tmp 2] rfl ?_ | refine gDn [] [.tmp 2] rfl ?_) <;> (try simp only [go_sem, simprocAttr, e4, e5, e6, e7, hx, Option.some.injEq, forall_eq', List.length_take]))
  | (refine hK _ _ ?_; clear hK K; simp only [go_sem, simprocAttr])
  | refine gCd (by simp only [go_sem, simprocAttr]; rfl) rfl ?_
  | refine brT ?_ | refine brF ?_
  | (refine brS ?_ ?_ <;> intro hc <;> (try simp only [bls] at hc) <;> (try simp only [hc, bls]))
  | intro _ | refine And.intro ?_ ?_)
            all_goals first | omega | (unfold bigLen; omega) | exact ⟨_, _, ⟨rfl, rfl⟩, rfl⟩ | exact ⟨_, rfl⟩ | (rename_i hy; simp only [List.mem_singleton] at hy; subst hy; rfl) | skip
            exact congrArg AVal.bool (rightS_no hrun)
      · have hno := stk_no (ns := ns.drop (i + 1)) (i := i) (st := st) (n := x) (by rintro ⟨h, _⟩; exact hok h)
        rw [hno] at hrun
        rw [show shapeOk x = false from by simpa using hok] at hsh
        obtain ⟨xo, ⟨xa, xb, xc, xd⟩, xl, xlo, xhi, xn⟩ := x
        repeat' (first
  | refine gSq ?_ | refine gSk ?_ | refine gBl ?_ | refine gIb ?_ | refine gEx rfl ?_
  | ((first
  | (refine gRg [] [0, 2, 3, 4, 5, 6, 14, 15, 16, 17, 18, 32, 45] ?_; intro K hK)
  | (refine gDr 10 [] 7 [0, 1, 2, 3, 4, 5, 6] [0, 2, 3, 4, 5, 6, 14, 15, 16, 17, 18, 32, 45] rfl ?_; intro K hK)
  | refine cAl (hsh) rfl rfl rfl ?_
  | (refine gd_split ?_ ?_ <;> intro hb <;> (try simp only [bls] at hb) <;> (try simp only [hb]))
  | refine gRt [] [.tmp 2] rfl ?_ | refine gDn [] [.tmp 2] rfl ?_) <;> (try simp only [go_sem, simprocAttr, e4, e5, hx, Option.some.injEq, forall_eq']))
  | (refine hK _ _ ?_; clear hK K; simp only [go_sem, simprocAttr])
  | refine gCd (by simp only [go_sem, simprocAttr]; rfl) rfl ?_
  | refine brT ?_ | refine brF ?_
  | (refine brS ?_ ?_ <;> intro hc <;> (try simp only [bls] at hc) <;> (try simp only [hc, bls]))
  | intro _ | refine And.intro ?_ ?_)
        exact congrArg AVal.bool (rightS_no hrun)
    · have e4 : ¬ (i : Int) < ns.length := by omega
      have hin : i = ns.length := by omega
      subst hin
      rw [List.drop_length] at hrun
      repeat' (first
  | refine gSq ?_ | refine gSk ?_ | refine gBl ?_ | refine gIb ?_ | refine gEx rfl ?_
  | ((first
  | (refine gRg [] [0, 2, 3, 4, 5, 6, 14, 15, 16, 17, 18, 32, 45] ?_; intro K hK)
  | (refine gDr 10 [] 7 [0, 1, 2, 3, 4, 5, 6] [0, 2, 3, 4, 5, 6, 14, 15, 16, 17, 18, 32, 45] rfl ?_; intro K hK)
  | (refine gd_split ?_ ?_ <;> intro hb <;> (try simp only [bls] at hb) <;> (try simp only [hb]))
  | refine gRt [] [.tmp 2] rfl ?_ | refine gDn [] [.tmp 2] rfl ?_) <;> (try simp only [go_sem, simprocAttr, e4]))
  | (refine hK _ _ ?_; clear hK K; simp only [go_sem, simprocAttr])
  | refine gCd (by simp only [go_sem, simprocAttr]; rfl) rfl ?_
  | refine brT ?_ | refine brF ?_
  | (refine brS ?_ ?_ <;> intro hc <;> (try simp only [bls] at hc) <;> (try simp only [hc, bls]))
  | intro _ | refine And.intro ?_ ?_)
      refine congrArg AVal.bool ?_
      simp only [rightS, hrun, stkS, hn1, and_self, decide_true, Bool.true_and]
      rw [decide_eq_decide]
      omega
  · refine congrArg AVal.bool ?_; simp only [rightS]; rw [show decide (1 ≤ ns.length ∧ ns.length ≤ 1024) = false from by simp; omega, Bool.false_and]
end Go.Rad
/- Trees with what their names stand for. -/
namespace Go.Rad
open Go

abbrev Out := List Node × Int × Int
def atF (A : List Int) (k : Int) : Int := A.getD k.toNat 0
def putS (n : Node) (A : List Int) (out : List Node) : Out :=
  if 1024 ≤ out.length then (out, 0, 3) else (out ++ [{ n with l := n.l.map (atF A) }], out.length, 0)
def stepT (nm : ByteArray → List Node → Out) (n : Node) (A : List Int) (out : List Node) : Out := if n.op = 6 then nm n.name out else putS n A out
def goT (nm : ByteArray → List Node → Out) : List Node → List Int → List Node → Out
  | [], A, out => (out, A.getLastD 0, 0)
  | n :: ns, A, out =>
    if (stepT nm n A out).2.2 = 0 then goT nm ns (A ++ [(stepT nm n A out).2.1]) (stepT nm n A out).1
    else ((stepT nm n A out).1, 0, (stepT nm n A out).2.2)
def dfind (ds : List Df) (s : ByteArray) : Option Df := ds.find? fun d => decide (d.name = s)
def hasB (op : List ByteArray) (s : ByteArray) : Bool := op.any fun x => decide (x = s)
theorem hasB_iff {op : List ByteArray} {s : ByteArray} : hasB op s = true ↔ s ∈ op := by
  simp [hasB]
theorem hasB_no {op : List ByteArray} {s : ByteArray} : hasB op s = false ↔ s ∉ op := by
  rw [← hasB_iff]; simp
def nameT (ds : List Df) : Nat → List ByteArray → ByteArray → List Node → Out
  | 0, _, _, out => (out, 0, 61)
  | f + 1, op, s, out =>
    match dfind ds s with
    | none => (out, 0, 60)
    | some d => if hasB op s = true then (out, 0, 61) else goT (nameT ds f (op ++ [s])) d.l [] out

def dmap (ds : List Df) : List (ByteArray × AVal) := ds.map fun d => (d.name, .sl true false (nodes d.l))
def omap (op : List ByteArray) : List (ByteArray × AVal) := op.map fun s => (s, .bool true)
theorem mfind_dmap (ds : List Df) (s : ByteArray) : mfind (dmap ds) s = (dfind ds s).map fun d => .sl true false (nodes d.l) := by
  simp only [mfind, dmap, dfind, List.find?_map, Option.map_map]
  rfl
theorem mfind_omap (op : List ByteArray) (s : ByteArray) : mfind (omap op) s = if hasB op s = true then some (AVal.bool true) else none := by
  induction op with
  | nil => rfl
  | cons x op ih =>
    simp only [mfind, omap, List.map_cons, List.find?_cons, hasB, List.any_cons] at ih ⊢
    by_cases h : x = s
    · subst h; simp
    · simp only [h, decide_false, Bool.false_or]
      exact ih
theorem mput_omap {op : List ByteArray} {s : ByteArray} (h : s ∉ op) : mput (omap op) s (.bool true) = omap (op ++ [s]) := by
  induction op with
  | nil => rfl
  | cons x op ih =>
    simp only [List.mem_cons, not_or] at h
    simp only [omap, List.map_cons, mput, List.cons_append, if_neg (Ne.symm h.1)]
    rw [show mput (List.map (fun s => (s, AVal.bool true)) op) s (AVal.bool true) = _ from ih h.2]
    rfl
theorem mdel_omap {op : List ByteArray} {s : ByteArray} (h : s ∉ op) : mdel (omap (op ++ [s])) s = omap op := by
  induction op with
  | nil => simp [omap, mdel]
  | cons x op ih =>
    simp only [List.mem_cons, not_or] at h
    simp only [omap, List.map_cons, mdel, List.cons_append, if_neg (Ne.symm h.1)]
    rw [show mdel (List.map (fun s => (s, AVal.bool true)) (op ++ [s])) s = _ from ih h.2]
    rfl
theorem mput_dmap {ds : List Df} {d : Df} (h : ∀ e ∈ ds, e.name ≠ d.name) : mput (dmap ds) d.name (.sl true false (nodes d.l)) = dmap (ds ++ [d]) := by
  induction ds with
  | nil => rfl
  | cons x ds ih =>
    simp only [dmap, List.map_cons, mput, List.cons_append, if_neg (h x (by simp))]
    rw [show mput (List.map (fun d => (d.name, AVal.sl true false (nodes d.l))) ds) d.name (AVal.sl true false (nodes d.l)) = _ from ih fun e he => h e (by simp [he])]
    rfl

theorem bk_tm {σ : Ids} : bk σ .nil = .nil := rfl
theorem put_row {W xl : List Int} {F : Int → Int} {i : Nat} {k : Int} (hW : W = (xl.take i).map F ++ xl.drop i) (hk : xl[i]? = some k) : W.length = xl.length ∧ W[i]? = some k ∧ W.set i (F k) = (xl.take (i + 1)).map F ++ xl.drop (i + 1) := by
  have hi : i < xl.length := (List.getElem?_eq_some_iff.1 hk).1
  subst hW
  refine ⟨by simp; omega, ?_, ?_⟩
  · rw [List.getElem?_append_right (by simp; omega)]
    simp only [List.length_map, List.length_take, Nat.min_eq_left (Nat.le_of_lt hi), Nat.sub_self, List.getElem?_drop, Nat.add_zero]
    exact hk
  · have hd : xl.drop i = k :: xl.drop (i + 1) := by
      rw [List.drop_eq_getElem_cons hi]
      rw [List.getElem?_eq_getElem hi] at hk
      rw [Option.some.inj hk]
    rw [hd, List.set_append_right _ _ (by simp; omega)]
    simp only [List.length_map, List.length_take, Nat.min_eq_left (Nat.le_of_lt hi), Nat.sub_self, List.set_cons_zero]
    rw [take_one hk, List.map_append]
    simp
theorem clean_ints (l : List Int) : cleanLL (ints l) = true := by
  induction l with
  | nil => rfl
  | cons x l ih => simpa [ints, cleanLL, cleanL, clean] using ih
theorem clean_nodes (l : List Node) : cleanLL (nodes l) = true := by
  induction l with
  | nil => rfl
  | cons x l ih =>
    have := clean_ints x.l
    simp only [nodes, List.map_cons, cleanLL, cleanL, clean, this, Bool.and_self, Bool.and_true, Bool.true_and] at ih ⊢
    exact ih
theorem clean_dmap (ds : List Df) : cleanM (dmap ds) = true := by
  induction ds with
  | nil => rfl
  | cons x l ih =>
    have := clean_nodes x.l
    simp only [dmap, List.map_cons, cleanM, clean, this, Bool.and_self, Bool.and_true, Bool.true_and] at ih ⊢
    exact ih
theorem clean_omap (op : List ByteArray) : cleanM (omap op) = true := by
  induction op with
  | nil => rfl
  | cons x l ih =>
    simp only [omap, List.map_cons, cleanM, clean, Bool.true_and] at ih ⊢
    exact ih
theorem putS_ext {n : Node} {A W out : _} (h : ∀ k ∈ n.l, atF W k = atF A k) : putS n W out = putS n A out := by
  simp only [putS, List.map_congr_left h]
theorem atF_app {A B : List Int} {k : Int} (h0 : 0 ≤ k) (h : k < A.length) : atF (A ++ B) k = atF A k := by
  have : k.toNat < A.length := by omega
  simp [atF, List.getD, List.getElem?_append_left this]
theorem putS_len {n : Node} {A : List Int} {out : List Node} (h : out.length ≤ 1024) : (putS n A out).1.length ≤ 1024 := by
  unfold putS; split
  · exact h
  · simp only [List.length_append, List.length_cons, List.length_nil]; omega
theorem goT_len {nm : ByteArray → List Node → Out} (hn : ∀ s out, out.length ≤ 1024 → (nm s out).1.length ≤ 1024) : ∀ (l : List Node) (A : List Int) (out : List Node), out.length ≤ 1024 → (goT nm l A out).1.length ≤ 1024
  | [], A, out, h => h
  | n :: ns, A, out, h => by
    have h1 : (stepT nm n A out).1.length ≤ 1024 := by
      unfold stepT
      split
      · exact hn _ _ h
      · exact putS_len h
    rw [goT]
    split
    · exact goT_len hn ns _ _ h1
    · exact h1
theorem nameT_len (ds : List Df) : ∀ (f : Nat) (op : List ByteArray) (s : ByteArray) (out : List Node), out.length ≤ 1024 → (nameT ds f op s out).1.length ≤ 1024
  | 0, _, _, _, h => h
  | f + 1, op, s, out, h => by
    rw [nameT]
    split
    · exact h
    · split
      · exact h
      · exact goT_len (fun s out h => nameT_len ds f _ s out h) _ _ _ h
/-- A tree's nodes, as far as the code leans on it. -/
def treeOk (l : List Node) : Prop := (1 ≤ l.length ∧ l.length ≤ 1000000) ∧ ∀ (i : Nat) (n : Node), l[i]? = some n → n.name.size ≤ maxLen ∧ n.l.length ≤ 1000000 ∧ ∀ k ∈ n.l, 0 ≤ k ∧ k < (i : Int)
def rightD : List ByteArray → List Df → Bool
  | _, [] => true
  | seen, d :: ds => if hasB seen d.name = true ∨ nameOk d.name = false ∨ rightS d.l = false then false else rightD (seen ++ [d.name]) ds
def expandS (l : List Node) (ds : List Df) : List Node × Int :=
  if rightS l = true ∧ rightD [] ds = true then
    if (goT (nameT ds (ds.length + 1) []) l [] []).2.2 = 0 then ((goT (nameT ds (ds.length + 1) []) l [] []).1, 0) else ([], (goT (nameT ds (ds.length + 1) []) l [] []).2.2)
  else ([], 1)
theorem stk_below : ∀ (ns : List Node) (i : Nat) (st st' : List Int), stkS ns i st = some st' → st.length ≤ i → (∀ k ∈ st, 0 ≤ k ∧ k < (i : Int)) → ∀ (j : Nat) (n : Node), ns[j]? = some n → n.l.length ≤ i + j ∧ ∀ k ∈ n.l, 0 ≤ k ∧ k < ((i + j : Nat) : Int)
  | [], _, _, _, _, _, _, j, n, h => by simp at h
  | m :: ns, i, st, st', h, hl, hb, j, n, hj => by
    simp only [stkS] at h
    split at h
    · rename_i hc
      cases j with
      | zero =>
        simp only [List.getElem?_cons_zero, Option.some.injEq] at hj
        subst hj
        refine ⟨by omega, fun k hk => ?_⟩
        rw [← hc.2.2] at hk
        have := hb k (List.mem_of_mem_drop hk)
        omega
      | succ j =>
        have := stk_below ns (i + 1) _ st' h (by simp; omega) (fun k hk => by
          rcases List.mem_append.1 hk with hk | hk
          · have := hb k (List.mem_of_mem_take hk); omega
          · simp only [List.mem_singleton] at hk; omega) j n (by simpa using hj)
        rw [show i + (j + 1) = i + 1 + j by omega]
        exact this
    · cases h
theorem rightS_ok {l : List Node} (h : rightS l = true) (hn : ∀ n ∈ l, n.name.size ≤ maxLen) : treeOk l := by
  obtain ⟨_, _, h1, h2⟩ := rightS_kids h
  simp only [rightS, Bool.and_eq_true] at h
  obtain ⟨_, h3⟩ := h
  split at h3
  · rename_i st hst
    refine ⟨⟨h1, by omega⟩, fun i n hi => ?_⟩
    have := stk_below l 0 [] st hst (Nat.le_refl _) (fun k hk => by simp at hk) i n hi
    have hlt : i < l.length := (List.getElem?_eq_some_iff.1 hi).1
    rw [Nat.zero_add] at this
    exact ⟨hn n (List.mem_of_getElem? hi), by omega, this.2⟩
  · cases h3
theorem rightD_facts : ∀ (ds : List Df) (seen : List ByteArray), rightD seen ds = true → (∀ d ∈ ds, hasB seen d.name = false ∧ nameOk d.name = true ∧ rightS d.l = true) ∧ ∀ (i : Nat) (d : Df), ds[i]? = some d → ∀ e ∈ ds.take i, e.name ≠ d.name
  | [], _, _ => ⟨fun d hd => by simp at hd, fun i d h => by simp at h⟩
  | x :: ds, seen, h => by
    rw [rightD] at h
    split at h
    · cases h
    · rename_i hc
      simp only [not_or, Bool.not_eq_true, Bool.not_eq_false] at hc
      obtain ⟨f1, f2⟩ := rightD_facts ds _ h
      refine ⟨fun d hd => ?_, fun i d hi e he => ?_⟩
      · rcases List.mem_cons.1 hd with rfl | hd
        · exact hc
        · obtain ⟨a, b⟩ := f1 d hd
          refine ⟨?_, b⟩
          simp only [hasB, List.any_append, Bool.or_eq_false_iff] at a ⊢
          exact a.1
      · cases i with
        | zero => simp at he
        | succ i =>
          simp only [List.getElem?_cons_succ] at hi
          simp only [List.take_succ_cons, List.mem_cons] at he
          rcases he with rfl | he
          · have := (f1 d (List.mem_of_getElem? hi)).1
            simp only [hasB, List.any_append, Bool.or_eq_false_iff, List.any_cons, List.any_nil, Bool.or_false, decide_eq_false_iff_not] at this
            exact this.2
          · exact f2 i d hi e he
end Go.Rad
/- What the document's reader of patterns does. -/
namespace Go.Rad
open Go
structure Rd where
  p : Nat
  nodes : List Node
  deep : Int
  e : Int
  wh : Int
  deriving DecidableEq
abbrev rsto (g g1 : Nat) (s : ByteArray) (r : Rd) : Sto := [(1000, (g, .box [.str s, .int .i64 r.p, .osl 1001 g1 0 r.nodes.length, .int .i64 r.deep, .int .i64 r.e, .int .i64 r.wh])), (1001, (g1, .row 9 (nodes r.nodes)))]
def endsB (s : ByteArray) (r : Rd) : Bool := decide (s.size ≤ r.p) || decide (r.e ≠ 0)
def failS (r : Rd) (e w : Int) : Rd := if r.e = 0 then { r with e := e, wh := w } else r
def Rd.next (r : Rd) (n : Nat) : Rd := { r with p := r.p + n }
def putR (r : Rd) (n : Node) : Rd := { r with nodes := r.nodes ++ [n] }
def inS (c : Nat) (l : ByteArray) : Bool := (List.range l.size).any fun i => decide (bt l i = c)
def specialS : ByteArray := ⟨#[124, 42, 43, 63, 123, 125, 40, 41, 91, 93, 46, 92, 47, 36, 94, 34]⟩
def markS : ByteArray := ⟨#[93, 45, 94]⟩
def hexS (c : Nat) : Int := if 48 ≤ c ∧ c ≤ 57 then (c : Int) - 48 else if 97 ≤ c ∧ c ≤ 102 then (c : Int) - 97 + 10 else -1
abbrev bI (s : ByteArray) (n : Nat) : Int := (bt s n : Int)
/-- A byte, or an escape. -/
def oneS (s : ByteArray) (r : Rd) : Rd × Int :=
  if bI s r.p ≠ 92 then (r.next 1, bI s r.p)
  else if endsB s (r.next 1) = true then (failS (r.next 1) 40 s.size, 0)
  else if bI s (r.p + 1) = 110 then (r.next 2, 10)
  else if bI s (r.p + 1) = 116 then (r.next 2, 9)
  else if bI s (r.p + 1) = 114 then (r.next 2, 13)
  else if bI s (r.p + 1) = 120 then
    if (s.size : Int) ≤ (r.p : Int) + 3 then (failS (r.next 2) 40 s.size, 0)
    else if 0 ≤ hexS (bt s (r.p + 2)) ∧ 0 ≤ hexS (bt s (r.p + 3)) then (r.next 4, IntKind.u8.wrap (16 * hexS (bt s (r.p + 2)) + hexS (bt s (r.p + 3))))
    else (failS (r.next 4) 43 r.p, 0)
  else if inS (bt s (r.p + 1)) specialS = true ∨ bI s (r.p + 1) = 45 then (r.next 2, bI s (r.p + 1))
  else (failS (r.next 2) 43 r.p, 0)
def memberS (s : ByteArray) (r : Rd) : Rd × Int :=
  if endsB s r = true then (failS r 40 s.size, 0)
  else if inS (bt s r.p) markS = true then (failS r 44 r.p, 0)
  else oneS s r
/-- A number of bounds, as far as there are digits. -/
def numLoop (s : ByteArray) : Nat → Rd → Int → Option (Rd × Int)
  | 0, _, _ => none
  | f + 1, r, n => if endsB s r = false ∧ digitN (bt s r.p) = true then numLoop s f (r.next 1) (min (n * 10 + (bI s r.p - 48)) 1000000) else some (r, n)

def nameLoop (s : ByteArray) : Nat → Rd → Option Rd
  | 0, _ => none
  | f + 1, r => if endsB s r = false ∧ bI s r.p ≠ 125 then nameLoop s f (r.next 1) else some r
/-- A name in braces. -/
def nameR (s : ByteArray) (f : Nat) (r : Rd) : Option (Rd × Int) :=
  match nameLoop s f (r.next 1) with
  | none => none
  | some q =>
    if 100000 < q.nodes.length then none
    else if endsB s q = true then some (failS q 40 s.size, 0)
    else if nameOk (s.extract (r.p + 1) q.p) = false then some (failS q 41 (r.p + 1 : Nat), 0)
    else some (putR (q.next 1) ⟨6, ISet.none, [], 0, 0, s.extract (r.p + 1) q.p⟩, q.nodes.length)
theorem nameLoop_facts {s : ByteArray} : ∀ {f : Nat} {r q : Rd}, nameLoop s f r = some q → q.nodes = r.nodes ∧ q.deep = r.deep ∧ q.e = r.e ∧ q.wh = r.wh ∧ r.p ≤ q.p
  | 0, _, _, h => by simp [nameLoop] at h
  | f + 1, r, q, h => by
    rw [nameLoop] at h
    split at h
    · obtain ⟨a, b, c, d, e⟩ := nameLoop_facts h
      simp only [Rd.next] at a b c d e
      exact ⟨a, b, c, d, by omega⟩
    · simp only [Option.some.injEq] at h
      subst h
      exact ⟨rfl, rfl, rfl, rfl, Nat.le_refl _⟩

theorem failS_facts (r : Rd) (e w : Int) : (failS r e w).p = r.p ∧ (failS r e w).nodes = r.nodes ∧ (failS r e w).deep = r.deep := by
  unfold failS; split <;> exact ⟨rfl, rfl, rfl⟩
theorem oneS_facts (s : ByteArray) (r : Rd) : r.p < (oneS s r).1.p ∧ (oneS s r).1.nodes = r.nodes ∧ (oneS s r).1.deep = r.deep ∧ 0 ≤ (oneS s r).2 ∧ (oneS s r).2 ≤ 255 := by
  have hb : ∀ n, 0 ≤ bI s n ∧ bI s n ≤ 255 := fun n => by have := bt_le s n; unfold bI; omega
  have hw : ∀ n, 0 ≤ IntKind.u8.wrap n ∧ IntKind.u8.wrap n ≤ 255 := by
    intro n; simp [IntKind.wrap, IntKind.signed, IntKind.bits]; omega
  unfold oneS
  repeat' split
  all_goals simp only [(failS_facts _ _ _).1, (failS_facts _ _ _).2.1, (failS_facts _ _ _).2.2, Rd.next, true_and]
  all_goals first
    | (refine ⟨by omega, ?_, ?_⟩ <;> first | omega | exact (hb _).1 | exact (hb _).2 | exact (hw _).1 | exact (hw _).2)
theorem memberS_facts (s : ByteArray) (r : Rd) : r.p ≤ (memberS s r).1.p ∧ (memberS s r).1.nodes = r.nodes ∧ (memberS s r).1.deep = r.deep ∧ 0 ≤ (memberS s r).2 ∧ (memberS s r).2 ≤ 255 := by
  unfold memberS
  split
  · simp only [(failS_facts _ _ _).1, (failS_facts _ _ _).2.1, (failS_facts _ _ _).2.2, true_and]; omega
  · split
    · simp only [(failS_facts _ _ _).1, (failS_facts _ _ _).2.1, (failS_facts _ _ _).2.2, true_and]; omega
    · have := oneS_facts s r
      exact ⟨by omega, this.2⟩

theorem ACall.part {P : Program} {f : Nat} {args args1 : List AVal} {sto sto1 : Sto} {v : AVal} (σ : Ids) (hσ : okIds σ = true) (h : ACall P f args1 sto1 fun r s => r = v ∧ s = sto1) (ha : args.map (tr σ [] sto) = args1) (hs1 : mkSto σ [] sto σ = sto1) (hc1 : stoCells sto1 = true) (hv : bk σ v = v) (hb : bkS σ sto1 (delAll σ sto) = sto) (hc : stoCells sto = true) :
    ACall P f args sto fun r s => r = v ∧ s = sto := by
  refine ACall.use σ [] hσ h ha hs1 hc1 fun r s hr => ?_
  obtain ⟨rfl, rfl⟩ := hr
  rw [hb]
  exact ⟨.inl rfl, hc, hv, rfl⟩
end Go.Rad
/- Contracts: norm: whether a tree may be nothing. -/
namespace Go.Rad
open Go Go.Proofs
set_option linter.all false
set_option maxRecDepth 20000
set_option maxHeartbeats 4000000

abbrev boolsL (l : List Bool) : List (List AVal) := l.map fun b => [.bool b]
abbrev bsto (g g1 : Nat) (bs : List Bool) : Sto := [(1000, (g, .box [.osl 1001 g1 0 bs.length])), (1001, (g1, .row 1 (boolsL bs)))]
theorem nul1uc (bs : List Bool) (g g1 i : Nat) (b : Bool) (hb : bs[i]? = some b) : ACall Tryd.prog 27 [.int .i64 i, .bx 1000 g 0] (bsto g g1 bs) fun r s => r = .bool b ∧ s = bsto g g1 bs := by
  have h := (List.getElem?_eq_some_iff.1 hb).1
  have e4 : (i : Int) < bs.length := by omega
  have e5 : (0 : Int) ≤ i := by omega
  refine ACall.enter Tryd.func27 rfl (by kernel_rfl) (Nat.le_of_ble_eq_true rfl) ?_; simp only [initTm, Nat.reduceAdd]
  repeat' (first
  | refine gSq ?_ | refine gSk ?_ | refine gBl ?_ | refine gIb ?_ | refine gEx rfl ?_
  | ((first
  | (refine gRg [] [0, 1, 3] ?_; intro K hK)
  | (refine gd_split ?_ ?_ <;> intro hb <;> (try simp only [bls] at hb) <;> (try simp only [hb]))
  | refine gRt [1000, 1001] [.tmp 3] rfl ?_ | refine gDn [1000, 1001] [.tmp 3] rfl ?_) <;> (try simp only [go_sem, simprocAttr, e4, e5, hb, h, Option.some.injEq, forall_eq']))
  | (refine hK _ _ ?_; clear hK K; simp only [go_sem, simprocAttr])
  | refine gCd (by simp only [go_sem, simprocAttr]; rfl) rfl ?_
  | refine brT ?_ | refine brF ?_
  | (refine brS ?_ ?_ <;> intro hc <;> (try simp only [bls] at hc) <;> (try simp only [hc, bls]))
  | intro _ | refine And.intro ?_ ?_)
  all_goals first | omega | (unfold bigLen; omega) | exact ⟨_, _, ⟨rfl, rfl⟩, rfl⟩ | exact ⟨_, rfl⟩ | (rename_i hy; simp only [List.mem_singleton] at hy; subst hy; rfl) | skip
theorem nul2uc (bs : List Bool) (g g1 i : Nat) (b : Bool) (hb : bs[i]? = some b) : ACall Tryd.prog 28 [.int .i64 i, .bx 1000 g 0] (bsto g g1 bs) fun r s => r = .bool (!b) ∧ s = bsto g g1 bs := by
  have h := (List.getElem?_eq_some_iff.1 hb).1
  have e4 : (i : Int) < bs.length := by omega
  have e5 : (0 : Int) ≤ i := by omega
  refine ACall.enter Tryd.func28 rfl (by kernel_rfl) (Nat.le_of_ble_eq_true rfl) ?_; simp only [initTm, Nat.reduceAdd]
  repeat' (first
  | refine gSq ?_ | refine gSk ?_ | refine gBl ?_ | refine gIb ?_ | refine gEx rfl ?_
  | ((first
  | (refine gRg [] [0, 1, 3] ?_; intro K hK)
  | (refine gd_split ?_ ?_ <;> intro hb <;> (try simp only [bls] at hb) <;> (try simp only [hb]))
  | refine gRt [1000, 1001] [.tmp 3] rfl ?_ | refine gDn [1000, 1001] [.tmp 3] rfl ?_) <;> (try simp only [go_sem, simprocAttr, e4, e5, hb, h, Option.some.injEq, forall_eq']))
  | (refine hK _ _ ?_; clear hK K; simp only [go_sem, simprocAttr])
  | refine gCd (by simp only [go_sem, simprocAttr]; rfl) rfl ?_
  | refine brT ?_ | refine brF ?_
  | (refine brS ?_ ?_ <;> intro hc <;> (try simp only [bls] at hc) <;> (try simp only [hc, bls]))
  | intro _ | refine And.intro ?_ ?_)
  all_goals first | omega | (unfold bigLen; omega) | exact ⟨_, _, ⟨rfl, rfl⟩, rfl⟩ | exact ⟨_, rfl⟩ | (rename_i hy; simp only [List.mem_singleton] at hy; subst hy; rfl) | skip
def idxF (p : Int → Bool) : List Int → Nat → Int
  | [], _ => -1
  | k :: l, i => if p k then i else idxF p l (i + 1)
theorem idxF_any (p : Int → Bool) : ∀ (l : List Int) (i : Nat), decide (0 ≤ idxF p l i) = l.any p
  | [], _ => rfl
  | k :: l, i => by
    rw [idxF, List.any_cons]
    cases h : p k
    · simp only [Bool.false_eq_true, if_false, Bool.false_or]; exact idxF_any p l _
    · simp
theorem index_c (F : Nat) (p : Int → Bool) (q f : Bool) (l : List Int) (bs : List Bool) (g g1 : Nat) (hl : l.length ≤ 1000000)
    (hF : ∀ k ∈ l, ACall Tryd.prog F [.int .i64 k, .bx 1000 g 0] (bsto g g1 bs) fun r s => r = .bool (p k) ∧ s = bsto g g1 bs) :
    ACall Tryd.prog 50 [.sl q f (ints l), .fn F [.bx 1000 g 0]] (bsto g g1 bs) fun r s => r = .int .i64 (idxF p l 0) ∧ s = bsto g g1 bs := by
  obtain ⟨S, hS⟩ : ∃ S, S = idxF p l 0 := ⟨_, rfl⟩
  rw [← hS]
  refine ACall.enter Tryd.func50 rfl (by kernel_rfl) (Nat.le_of_ble_eq_true rfl) ?_; simp only [initTm, Nat.reduceAdd]
  repeat' (first
  | refine gSq ?_ | refine gSk ?_ | refine gBl ?_ | refine gIb ?_ | refine gEx rfl ?_
  | ((first
  | (refine gRg [] [0, 1, 4, 5, 7, 8, 9, 16] ?_; intro K hK)
  | (refine gd_split ?_ ?_ <;> intro hb <;> (try simp only [bls] at hb) <;> (try simp only [hb]))
  | refine gRt [1000, 1001] [.tmp 4] rfl ?_ | refine gDn [1000, 1001] [.tmp 4] rfl ?_) <;> (try simp only [go_sem, simprocAttr]))
  | (refine hK _ _ ?_; clear hK K; simp only [go_sem, simprocAttr])
  | refine gCd (by simp only [go_sem, simprocAttr]; rfl) rfl ?_
  | refine brT ?_ | refine brF ?_
  | (refine brS ?_ ?_ <;> intro hc <;> (try simp only [bls] at hc) <;> (try simp only [hc, bls]))
  | intro _ | refine And.intro ?_ ?_)
  refine AGood.prune [0, 1, 4, 7, 8] ?_; simp only [go_sem, simprocAttr]
  refine AGood.loopInv (α := Nat) (fun i => ([(0, .sl q f (ints l)), (1, .fn F [.bx 1000 g 0]), (4, .int .i64 0), (7, .int .i64 l.length), (8, .int .i64 i)], bsto g g1 bs)) (fun i => i ≤ l.length ∧ S = idxF p (l.drop i) i) (fun i => l.length - i) 0 ⟨Nat.zero_le _, hS⟩ rfl ?_
  rintro i ⟨hi, hrun⟩ ih
  simp only
  by_cases hle : i < l.length
  · have e4 : (i : Int) < l.length := by omega
    have e5 : (0 : Int) ≤ i := by omega
    have hx : l[i]? = some l[i] := List.getElem?_eq_getElem hle
    have hc := hF l[i] (List.getElem_mem hle)
    have hdr : l.drop i = l[i] :: l.drop (i + 1) := List.drop_eq_getElem_cons hle
    rw [hdr, idxF] at hrun
    generalize l[i] = k at hx hc hrun
    cases hp : p k <;> rw [hp] at hrun hc <;> simp only [if_true, Bool.false_eq_true, if_false] at hrun
    · repeat' (first
  | refine gSq ?_ | refine gSk ?_ | refine gBl ?_ | refine gIb ?_ | refine gEx rfl ?_
  | ((first
  | (refine gRg [] [0, 1, 4, 5, 7, 8, 9, 16] ?_; intro K hK)
  | (refine ACall.mono hc ?_; rintro _ _ ⟨rfl, rfl⟩)
  | (refine gd_split ?_ ?_ <;> intro hb <;> (try simp only [bls] at hb) <;> (try simp only [hb]))
  | refine gRt [1000, 1001] [.tmp 4] rfl ?_ | refine gDn [1000, 1001] [.tmp 4] rfl ?_) <;> (try simp only [go_sem, simprocAttr, e4, e5, hx, Option.some.injEq, forall_eq']))
  | (refine hK _ _ ?_; clear hK K; simp only [go_sem, simprocAttr])
  | refine gCd (by simp only [go_sem, simprocAttr]; rfl) rfl ?_
  | refine brT ?_ | refine brF ?_
  | (refine brS ?_ ?_ <;> intro hc <;> (try simp only [bls] at hc) <;> (try simp only [hc, bls]))
  | intro _ | refine And.intro ?_ ?_)
      all_goals first | omega | (unfold bigLen; omega) | exact ⟨_, _, ⟨rfl, rfl⟩, rfl⟩ | exact ⟨_, rfl⟩ | (rename_i hy; simp only [List.mem_singleton] at hy; subst hy; rfl) | skip
      refine AGood.prune [0, 1, 4, 7, 8] ?_; simp only [go_sem, simprocAttr]
      exact (ih (i + 1) ⟨by omega, hrun⟩ (by omega)).cast rfl rfl
    · repeat' (first
  | refine gSq ?_ | refine gSk ?_ | refine gBl ?_ | refine gIb ?_ | refine gEx rfl ?_
  | ((first
  | (refine gRg [] [0, 1, 4, 5, 7, 8, 9, 16] ?_; intro K hK)
  | (refine ACall.mono hc ?_; rintro _ _ ⟨rfl, rfl⟩)
  | (refine gd_split ?_ ?_ <;> intro hb <;> (try simp only [bls] at hb) <;> (try simp only [hb]))
  | refine gRt [1000, 1001] [.tmp 4] rfl ?_ | refine gDn [1000, 1001] [.tmp 4] rfl ?_) <;> (try simp only [go_sem, simprocAttr, e4, e5, hx, Option.some.injEq, forall_eq']))
  | (refine hK _ _ ?_; clear hK K; simp only [go_sem, simprocAttr])
  | refine gCd (by simp only [go_sem, simprocAttr]; rfl) rfl ?_
  | refine brT ?_ | refine brF ?_
  | (refine brS ?_ ?_ <;> intro hc <;> (try simp only [bls] at hc) <;> (try simp only [hc, bls]))
  | intro _ | refine And.intro ?_ ?_)
      all_goals first | omega | (unfold bigLen; omega) | exact ⟨_, _, ⟨rfl, rfl⟩, rfl⟩ | exact ⟨_, rfl⟩ | (rename_i hy; simp only [List.mem_singleton] at hy; subst hy; rfl) | skip
      rw [hrun]
  · have e4 : ¬ (i : Int) < l.length := by omega
    rw [List.drop_of_length_le (by omega), idxF] at hrun
    subst hrun
    repeat' (first
  | refine gSq ?_ | refine gSk ?_ | refine gBl ?_ | refine gIb ?_ | refine gEx rfl ?_
  | ((first
  | (refine gRg [] [0, 1, 4, 5, 7, 8, 9, 16] ?_; intro K hK)
  | (refine gd_split ?_ ?_ <;> intro hb <;> (try simp only [bls] at hb) <;> (try simp only [hb]))
  | refine gRt [1000, 1001] [.tmp 4] rfl ?_ | refine gDn [1000, 1001] [.tmp 4] rfl ?_) <;> (try simp only [go_sem, simprocAttr, e4]))
  | (refine hK _ _ ?_; clear hK K; simp only [go_sem, simprocAttr])
  | refine gCd (by simp only [go_sem, simprocAttr]; rfl) rfl ?_
  | refine brT ?_ | refine brF ?_
  | (refine brS ?_ ?_ <;> intro hc <;> (try simp only [bls] at hc) <;> (try simp only [hc, bls]))
  | intro _ | refine And.intro ?_ ?_)
theorem contains_c (F : Nat) (p : Int → Bool) (q f : Bool) (l : List Int) (bs : List Bool) (g g1 : Nat) (hl : l.length ≤ 1000000)
    (hF : ∀ k ∈ l, ACall Tryd.prog F [.int .i64 k, .bx 1000 g 0] (bsto g g1 bs) fun r s => r = .bool (p k) ∧ s = bsto g g1 bs) :
    ACall Tryd.prog 29 [.sl q f (ints l), .fn F [.bx 1000 g 0]] (bsto g g1 bs) fun r s => r = .bool (l.any p) ∧ s = bsto g g1 bs := by
  have hc := index_c F p q f l bs g g1 hl hF
  rw [← idxF_any p l 0]
  generalize idxF p l 0 = S at hc
  refine ACall.enter Tryd.func29 rfl (by kernel_rfl) (Nat.le_of_ble_eq_true rfl) ?_; simp only [initTm, Nat.reduceAdd]
  repeat' (first
  | refine gSq ?_ | refine gSk ?_ | refine gBl ?_ | refine gIb ?_ | refine gEx rfl ?_
  | ((first
  | (refine gRg [] [0, 1, 4] ?_; intro K hK)
  | (refine ACall.mono hc ?_; rintro _ _ ⟨rfl, rfl⟩)
  | (refine gd_split ?_ ?_ <;> intro hb <;> (try simp only [bls] at hb) <;> (try simp only [hb]))
  | refine gRt [1000, 1001] [.tmp 4] rfl ?_ | refine gDn [1000, 1001] [.tmp 4] rfl ?_) <;> (try simp only [go_sem, simprocAttr]))
  | (refine hK _ _ ?_; clear hK K; simp only [go_sem, simprocAttr])
  | refine gCd (by simp only [go_sem, simprocAttr]; rfl) rfl ?_
  | refine brT ?_ | refine brF ?_
  | (refine brS ?_ ?_ <;> intro hc <;> (try simp only [bls] at hc) <;> (try simp only [hc, bls]))
  | intro _ | refine And.intro ?_ ?_)
def mayStep (bs : List Bool) (n : Node) : Bool :=
  if n.op = 1 then true
  else if n.op = 3 then !(n.l.any fun k => !(bs.getD k.toNat false))
  else if n.op = 4 then n.l.any fun k => bs.getD k.toNat false
  else if n.op = 5 then (if n.lo = 0 then true else bs.getD (n.l.headD 0).toNat false)
  else false
def mays (l : List Node) : List Bool := l.foldl (fun bs n => bs ++ [mayStep bs n]) []
theorem mays_len (l : List Node) : (mays l).length = l.length := by
  have h : ∀ (l : List Node) (bs : List Bool), (l.foldl (fun bs n => bs ++ [mayStep bs n]) bs).length = bs.length + l.length := by
    intro l
    induction l with
    | nil => intro bs; rfl
    | cons n l ih => intro bs; rw [List.foldl_cons, ih]; simp; omega
  simpa [mays] using h l []
def nullS (l : List Node) : Bool := if rightS l = true then (mays l).getLastD false else false
theorem mays_snoc (l : List Node) (n : Node) : mays (l ++ [n]) = mays l ++ [mayStep (mays l) n] := by simp [mays]
theorem mayStep_ext {n : Node} {a b : List Bool} (h : ∀ k ∈ n.l, a.getD k.toNat false = b.getD k.toNat false) (h5 : n.op = 5 → n.l ≠ []) : mayStep a n = mayStep b n := by
  have h3 : (n.l.any fun k => !(a.getD k.toNat false)) = n.l.any fun k => !(b.getD k.toNat false) := by
    rw [Bool.eq_iff_iff]; simp only [List.any_eq_true]
    exact ⟨fun ⟨k, x, y⟩ => ⟨k, x, by rw [← h k x]; exact y⟩, fun ⟨k, x, y⟩ => ⟨k, x, by rw [h k x]; exact y⟩⟩
  have h4 : (n.l.any fun k => a.getD k.toNat false) = n.l.any fun k => b.getD k.toNat false := by
    rw [Bool.eq_iff_iff]; simp only [List.any_eq_true]
    exact ⟨fun ⟨k, x, y⟩ => ⟨k, x, by rw [← h k x]; exact y⟩, fun ⟨k, x, y⟩ => ⟨k, x, by rw [h k x]; exact y⟩⟩
  unfold mayStep
  rw [h3, h4]
  by_cases e5 : n.op = 5
  · have := h (n.l.headD 0) (by
      cases hl : n.l with
      | nil => exact absurd hl (h5 e5)
      | cons x xs => simp)
    rw [this]
  · simp only [e5, if_false]
def mayRow (l : List Node) (i : Nat) : List Bool := mays (l.take i) ++ List.replicate (l.length - i) false
theorem mayRow_len {l : List Node} {i : Nat} (h : i ≤ l.length) : (mayRow l i).length = l.length := by
  simp [mayRow, mays_len]; omega
theorem mayRow_step {l : List Node} {i : Nat} {n : Node} (hx : l[i]? = some n) (hk : ∀ k ∈ n.l, 0 ≤ k ∧ k < (i : Int)) (h5 : n.op = 5 → n.l ≠ []) : (mayRow l i).set i (mayStep (mayRow l i) n) = mayRow l (i + 1) := by
  have hi := (List.getElem?_eq_some_iff.1 hx).1
  have hm : (mays (l.take i)).length = i := by rw [mays_len, List.length_take]; omega
  have e : mayStep (mayRow l i) n = mayStep (mays (l.take i)) n := by
    refine mayStep_ext (fun k hk' => ?_) h5
    have := hk k hk'
    have hlt : k.toNat < (mays (l.take i)).length := by omega
    simp [mayRow, List.getD, List.getElem?_append_left hlt]
  rw [e]
  obtain ⟨r, hr⟩ : ∃ r, l.length - i = r + 1 := ⟨l.length - i - 1, by omega⟩
  have hr2 : l.length - (i + 1) = r := by omega
  unfold mayRow
  rw [take_one hx, mays_snoc, hr, hr2, List.replicate_succ, List.set_append_right _ _ (by omega), hm, Nat.sub_self, List.set_cons_zero, List.append_assoc]
  rfl
theorem mayRow_same {l : List Node} {i : Nat} {n : Node} (hx : l[i]? = some n) (h : ∀ bs, mayStep bs n = false) : mayRow l i = mayRow l (i + 1) := by
  have hi := (List.getElem?_eq_some_iff.1 hx).1
  obtain ⟨r, hr⟩ : ∃ r, l.length - i = r + 1 := ⟨l.length - i - 1, by omega⟩
  have hr2 : l.length - (i + 1) = r := by omega
  unfold mayRow
  rw [take_one hx, mays_snoc, hr, hr2, List.replicate_succ, List.append_assoc, h]
  rfl
theorem mayRow_end (l : List Node) : mayRow l l.length = mays l := by simp [mayRow]
theorem shape_kids {n : Node} (h : shapeOk n = true) : (n.op = 1 ∨ n.op = 2 ∨ n.op = 3 ∨ n.op = 4 ∨ n.op = 5 ∨ n.op = 6) ∧ (n.op = 5 → n.l.length = 1) := by
  unfold shapeOk at h
  simp only at h
  split at h
  · rename_i e; exact ⟨.inl e, fun e5 => by omega⟩
  · split at h
    · rename_i e; exact ⟨.inr (.inl e), fun e5 => by omega⟩
    · split at h
      · rename_i e; exact ⟨by omega, fun e5 => by omega⟩
      · split at h
        · rename_i e
          simp only [Bool.and_eq_true, decide_eq_true_eq] at h
          exact ⟨by omega, fun _ => h.1.1.2⟩
        · split at h
          · rename_i e; exact ⟨by omega, fun e5 => by omega⟩
          · cases h
theorem nullable_c (q f : Bool) (l : List Node) (hl : ∀ n ∈ l, n.name.size ≤ maxLen ∧ n.l.length ≤ maxLen) : ACall Tryd.prog 15 [.sl q f (nodes l)] [] fun r s => r = .bool (nullS l) ∧ s = [] := by
  have hr := rightS_c q f l hl
  refine ACall.enter Tryd.func15 rfl (by kernel_rfl) (Nat.le_of_ble_eq_true rfl) ?_; simp only [initTm, Nat.reduceAdd]
  cases hok : rightS l
  · rw [hok] at hr
    have e : nullS l = false := by simp [nullS, hok]
    rw [e]
    repeat' (first
  | refine gSq ?_ | refine gSk ?_ | refine gBl ?_ | refine gIb ?_ | refine gEx rfl ?_
  | ((first
  | (refine gRg [] [0, 2, 3, 4, 5, 6, 7, 10, 16, 17, 18, 19, 24, 25, 30, 40, 49] ?_; intro K hK)
  | (refine gDr 13 [] 5 [0, 1, 2, 3, 4, 5, 6, 7, 8] [0, 2, 3, 4, 5, 6, 7, 10, 16, 17, 18, 19, 24, 25, 30, 40, 49] rfl ?_; intro K hK)
  | (refine gDr 15 [] 5 [0, 1, 2, 3, 4, 5, 6, 7] [0, 2, 3, 4, 5, 6, 7, 10, 16, 17, 18, 19, 24, 25, 30, 40, 49] rfl ?_; intro K hK)
  | (refine gDr 17 [] 15 [0, 1, 2, 3, 4, 5, 6, 7, 8, 9, 10, 11, 12, 13, 14, 15] [0, 2, 3, 4, 5, 6, 7, 10, 16, 17, 18, 19, 24, 25, 30, 40, 49] rfl ?_; intro K hK)
  | refine cAl (hr) rfl rfl rfl ?_
  | (refine gd_split ?_ ?_ <;> intro hb <;> (try simp only [bls] at hb) <;> (try simp only [hb]))
  | refine gRt [] [.tmp 2] rfl ?_ | refine gDn [] [.tmp 2] rfl ?_) <;> (try simp only [go_sem, simprocAttr]))
  | (refine hK _ _ ?_; clear hK K; simp only [go_sem, simprocAttr])
  | refine gCd (by simp only [go_sem, simprocAttr]; rfl) rfl ?_
  | refine brT ?_ | refine brF ?_
  | (refine brS ?_ ?_ <;> intro hc <;> (try simp only [bls] at hc) <;> (try simp only [hc, bls]))
  | intro _ | refine And.intro ?_ ?_)
  · rw [hok] at hr
    have e : nullS l = (mays l).getLastD false := by simp [nullS, hok]
    have htree := rightS_ok hok (fun n h => (hl n h).1)
    have hL := htree.1.2
    rw [e]
    repeat' (first
  | refine gSq ?_ | refine gSk ?_ | refine gBl ?_ | refine gIb ?_ | refine gEx rfl ?_
  | ((first
  | (refine gRg [] [0, 2, 3, 4, 5, 6, 7, 10, 16, 17, 18, 19, 24, 25, 30, 40, 49] ?_; intro K hK)
  | (refine gDr 13 [] 5 [0, 1, 2, 3, 4, 5, 6, 7, 8] [0, 2, 3, 4, 5, 6, 7, 10, 16, 17, 18, 19, 24, 25, 30, 40, 49] rfl ?_; intro K hK)
  | (refine gDr 15 [] 5 [0, 1, 2, 3, 4, 5, 6, 7] [0, 2, 3, 4, 5, 6, 7, 10, 16, 17, 18, 19, 24, 25, 30, 40, 49] rfl ?_; intro K hK)
  | (refine gDr 17 [] 15 [0, 1, 2, 3, 4, 5, 6, 7, 8, 9, 10, 11, 12, 13, 14, 15] [0, 2, 3, 4, 5, 6, 7, 10, 16, 17, 18, 19, 24, 25, 30, 40, 49] rfl ?_; intro K hK)
  | refine cAl (hr) rfl rfl rfl ?_
  | (refine gd_split ?_ ?_ <;> intro hb <;> (try simp only [bls] at hb) <;> (try simp only [hb]))
  | refine gRt [] [.tmp 2] rfl ?_ | refine gDn [] [.tmp 2] rfl ?_) <;> (try simp only [go_sem, simprocAttr]))
  | (refine hK _ _ ?_; clear hK K; simp only [go_sem, simprocAttr])
  | refine gCd (by simp only [go_sem, simprocAttr]; rfl) rfl ?_
  | refine brT ?_ | refine brF ?_
  | (refine brS ?_ ?_ <;> intro hc <;> (try simp only [bls] at hc) <;> (try simp only [hc, bls]))
  | intro _ | refine And.intro ?_ ?_)
    all_goals first | (unfold bigLen; omega) | skip
    rename_i h13 h3
    have hrep : List.map (List.map nrm1) (List.replicate l.length [AVal.bool false]) = boolsL (mayRow l 0) := by simp [mayRow, mays, nrm1]
    rw [hrep]
    refine AGood.prune [0, 2, 3, 4, 5, 16, 17, 18] ?_; simp only [go_sem, simprocAttr]
    refine AGood.loopInv (α := Nat) (fun i => ([(0, .sl q f (nodes l)), (2, .bool false), (3, .bx 3 h3 0), (4, .fn 27 [.bx 3 h3 0]), (5, .fn 28 [.bx 3 h3 0]), (16, .sl q f (nodes l)), (17, .int .i64 l.length), (18, .int .i64 i)], [(3, h3, .box [.osl 13 h13 0 l.length]), (13, h13, .row 1 (boolsL (mayRow l i)))])) (fun i => i ≤ l.length) (fun i => l.length - i) 0 (Nat.zero_le _) rfl ?_
    intro i hi ih
    simp only
    by_cases hle : i < l.length
    · have e4 : (i : Int) < l.length := by omega
      have e5 : (0 : Int) ≤ i := by omega
      have hx : l[i]? = some l[i] := List.getElem?_eq_getElem hle
      obtain ⟨-, hn1, hk⟩ := htree.2 i _ hx
      obtain ⟨_, hall, _, _⟩ := rightS_kids hok
      obtain ⟨hops, hop5⟩ := shape_kids (List.all_eq_true.1 hall _ (List.getElem_mem hle))
      have hlen := mayRow_len hi
      have hst := mayRow_step hx hk (fun e h => by rw [h] at hop5; simpa using hop5 e)
      have hsm := fun h => mayRow_same hx h
      have ih := ih (i + 1) (by omega) (by omega)
      generalize l[i] = n at hx hn1 hk hops hop5 hst hsm
      rw [← hst] at ih
      generalize mayRow l i = W at hlen hst hsm ih ⊢
      have hiW : i < W.length := by omega
      have hwi : (boolsL W)[i]? = some [.bool W[i]] := by simp [hiW]
      have hc1 := fun g g1 => contains_c 27 (fun k => W.getD k.toNat false) true false n.l W g g1 hn1 (fun k hk' => by
        have := hk k hk'
        obtain ⟨m, rfl⟩ : ∃ m : Nat, k = m := ⟨k.toNat, by omega⟩
        exact nul1uc W g g1 m _ (by simp [List.getD, List.getElem?_eq_getElem (show m < W.length by omega)]))
      have hc2 := fun g g1 => contains_c 28 (fun k => !(W.getD k.toNat false)) true false n.l W g g1 hn1 (fun k hk' => by
        have := hk k hk'
        obtain ⟨m, rfl⟩ : ∃ m : Nat, k = m := ⟨k.toNat, by omega⟩
        exact nul2uc W g g1 m _ (by simp [List.getD, List.getElem?_eq_getElem (show m < W.length by omega)]))
      simp only [bsto, hlen] at hc1 hc2
      obtain ⟨xo, ⟨xa, xb, xc, xd⟩, xl, xlo, xhi, xn⟩ := n
      simp only [mayStep] at hops hop5 hk ih hc1 hc2
      by_cases h1 : xo = 1
      · subst h1
        repeat' (first
  | refine gSq ?_ | refine gSk ?_ | refine gBl ?_ | refine gIb ?_ | refine gEx rfl ?_
  | ((first
  | (refine gRg [] [0, 2, 3, 4, 5, 6, 7, 10, 16, 17, 18, 19, 24, 25, 30, 40, 49] ?_; intro K hK)
  | (refine gDr 13 [] 5 [0, 1, 2, 3, 4, 5, 6, 7, 8] [0, 2, 3, 4, 5, 6, 7, 10, 16, 17, 18, 19, 24, 25, 30, 40, 49] rfl ?_; intro K hK)
  | (refine gDr 15 [] 5 [0, 1, 2, 3, 4, 5, 6, 7] [0, 2, 3, 4, 5, 6, 7, 10, 16, 17, 18, 19, 24, 25, 30, 40, 49] rfl ?_; intro K hK)
  | (refine gDr 17 [] 15 [0, 1, 2, 3, 4, 5, 6, 7, 8, 9, 10, 11, 12, 13, 14, 15] [0, 2, 3, 4, 5, 6, 7, 10, 16, 17, 18, 19, 24, 25, 30, 40, 49] rfl ?_; intro K hK)
  | (refine gd_split ?_ ?_ <;> intro hb <;> (try simp only [bls] at hb) <;> (try simp only [hb]))
  | refine gRt [] [.tmp 2] rfl ?_ | refine gDn [] [.tmp 2] rfl ?_) <;> (try simp only [go_sem, simprocAttr, e4, e5, hx, hiW, Option.some.injEq, forall_eq']))
  | (refine hK _ _ ?_; clear hK K; simp only [go_sem, simprocAttr])
  | refine gCd (by simp only [go_sem, simprocAttr]; rfl) rfl ?_
  | refine brT ?_ | refine brF ?_
  | (refine brS ?_ ?_ <;> intro hc <;> (try simp only [bls] at hc) <;> (try simp only [hc, bls]))
  | intro _ | refine And.intro ?_ ?_)
        simp only [if_true] at ih
        all_goals first | omega | (unfold bigLen; omega) | exact ⟨_, _, ⟨rfl, rfl⟩, rfl⟩ | exact ⟨_, rfl⟩ | (rename_i hy; simp only [List.mem_singleton] at hy; subst hy; rfl) | skip
        rename_i y hy
        rw [hwi] at hy
        obtain rfl := Option.some.inj hy
        refine AGood.filt [3, 13] ?_
        simp only [sf_cons, sf_nil, go_sem, simprocAttr]
        refine AGood.prune [0, 2, 3, 4, 5, 16, 17, 18] ?_; simp only [go_sem, simprocAttr]
        exact ih.cast rfl (by simp [List.map_set])
      by_cases h3' : xo = 3
      · subst h3'
        simp only [if_true, h1, if_false] at ih
        repeat' (first
  | refine gSq ?_ | refine gSk ?_ | refine gBl ?_ | refine gIb ?_ | refine gEx rfl ?_
  | ((first
  | (refine gRg [] [0, 2, 3, 4, 5, 6, 7, 10, 16, 17, 18, 19, 24, 25, 30, 40, 49] ?_; intro K hK)
  | (refine gDr 13 [] 8 [0, 1, 2, 3, 4, 5, 6, 7, 8] [0, 2, 3, 4, 5, 6, 7, 10, 16, 17, 18, 19, 24, 25, 30, 40, 49] rfl ?_; intro K hK)
  | (refine gDr 15 [] 7 [0, 1, 2, 3, 4, 5, 6, 7] [0, 2, 3, 4, 5, 6, 7, 10, 16, 17, 18, 19, 24, 25, 30, 40, 49] rfl ?_; intro K hK)
  | (refine gDr 17 [] 15 [0, 1, 2, 3, 4, 5, 6, 7, 8, 9, 10, 11, 12, 13, 14, 15] [0, 2, 3, 4, 5, 6, 7, 10, 16, 17, 18, 19, 24, 25, 30, 40, 49] rfl ?_; intro K hK)
  | (refine ⟨_, ACall.part [(1000, 3), (1001, 13)] rfl (hc2 h3 h13) rfl rfl rfl rfl rfl rfl, ?_⟩)
  | (refine gd_split ?_ ?_ <;> intro hb <;> (try simp only [bls] at hb) <;> (try simp only [hb]))
  | refine gRt [] [.tmp 2] rfl ?_ | refine gDn [] [.tmp 2] rfl ?_) <;> (try simp only [go_sem, simprocAttr, e4, e5, hx, hiW, hlen, hle, Option.some.injEq, forall_eq']))
  | (refine hK _ _ ?_; clear hK K; simp only [go_sem, simprocAttr])
  | refine gCd (by simp only [go_sem, simprocAttr]; rfl) rfl ?_
  | refine brT ?_ | refine brF ?_
  | (refine brS ?_ ?_ <;> intro hc <;> (try simp only [bls] at hc) <;> (try simp only [hc, bls]))
  | intro _ | refine And.intro ?_ ?_)
        all_goals first | omega | (unfold bigLen; omega) | exact ⟨_, _, ⟨rfl, rfl⟩, rfl⟩ | exact ⟨_, rfl⟩ | (rename_i hy; simp only [List.mem_singleton] at hy; subst hy; rfl) | skip
        rename_i y hy
        rw [hwi] at hy
        obtain rfl := Option.some.inj hy
        refine AGood.filt [3, 13] ?_
        simp only [sf_cons, sf_nil, go_sem, simprocAttr]
        refine AGood.prune [0, 2, 3, 4, 5, 16, 17, 18] ?_; simp only [go_sem, simprocAttr]
        exact ih.cast rfl (by simp [List.map_set])
      by_cases h4' : xo = 4
      · subst h4'
        simp only [if_true, h1, h3', if_false] at ih
        repeat' (first
  | refine gSq ?_ | refine gSk ?_ | refine gBl ?_ | refine gIb ?_ | refine gEx rfl ?_
  | ((first
  | (refine gRg [] [0, 2, 3, 4, 5, 6, 7, 10, 16, 17, 18, 19, 24, 25, 30, 40, 49] ?_; intro K hK)
  | (refine gDr 13 [] 8 [0, 1, 2, 3, 4, 5, 6, 7, 8] [0, 2, 3, 4, 5, 6, 7, 10, 16, 17, 18, 19, 24, 25, 30, 40, 49] rfl ?_; intro K hK)
  | (refine gDr 15 [] 7 [0, 1, 2, 3, 4, 5, 6, 7] [0, 2, 3, 4, 5, 6, 7, 10, 16, 17, 18, 19, 24, 25, 30, 40, 49] rfl ?_; intro K hK)
  | (refine gDr 17 [] 15 [0, 1, 2, 3, 4, 5, 6, 7, 8, 9, 10, 11, 12, 13, 14, 15] [0, 2, 3, 4, 5, 6, 7, 10, 16, 17, 18, 19, 24, 25, 30, 40, 49] rfl ?_; intro K hK)
  | (refine ⟨_, ACall.part [(1000, 3), (1001, 13)] rfl (hc1 h3 h13) rfl rfl rfl rfl rfl rfl, ?_⟩)
  | (refine gd_split ?_ ?_ <;> intro hb <;> (try simp only [bls] at hb) <;> (try simp only [hb]))
  | refine gRt [] [.tmp 2] rfl ?_ | refine gDn [] [.tmp 2] rfl ?_) <;> (try simp only [go_sem, simprocAttr, e4, e5, hx, hiW, hlen, hle, Option.some.injEq, forall_eq']))
  | (refine hK _ _ ?_; clear hK K; simp only [go_sem, simprocAttr])
  | refine gCd (by simp only [go_sem, simprocAttr]; rfl) rfl ?_
  | refine brT ?_ | refine brF ?_
  | (refine brS ?_ ?_ <;> intro hc <;> (try simp only [bls] at hc) <;> (try simp only [hc, bls]))
  | intro _ | refine And.intro ?_ ?_)
        all_goals first | omega | (unfold bigLen; omega) | exact ⟨_, _, ⟨rfl, rfl⟩, rfl⟩ | exact ⟨_, rfl⟩ | (rename_i hy; simp only [List.mem_singleton] at hy; subst hy; rfl) | skip
        rename_i y hy
        rw [hwi] at hy
        obtain rfl := Option.some.inj hy
        refine AGood.filt [3, 13] ?_
        simp only [sf_cons, sf_nil, go_sem, simprocAttr]
        refine AGood.prune [0, 2, 3, 4, 5, 16, 17, 18] ?_; simp only [go_sem, simprocAttr]
        exact ih.cast rfl (by simp [List.map_set])
      by_cases h5' : xo = 5
      · subst h5'
        simp only [if_true, h1, h3', h4', if_false] at ih
        by_cases hlo : xlo = 0
        · simp only [hlo, if_true] at ih
          subst hlo
          repeat' (first
  | refine gSq ?_ | refine gSk ?_ | refine gBl ?_ | refine gIb ?_ | refine gEx rfl ?_
  | ((first
  | (refine gRg [] [0, 2, 3, 4, 5, 6, 7, 10, 16, 17, 18, 19, 24, 25, 30, 40, 49] ?_; intro K hK)
  | (refine gDr 13 [] 5 [0, 1, 2, 3, 4, 5, 6, 7, 8] [0, 2, 3, 4, 5, 6, 7, 10, 16, 17, 18, 19, 24, 25, 30, 40, 49] rfl ?_; intro K hK)
  | (refine gDr 15 [] 5 [0, 1, 2, 3, 4, 5, 6, 7] [0, 2, 3, 4, 5, 6, 7, 10, 16, 17, 18, 19, 24, 25, 30, 40, 49] rfl ?_; intro K hK)
  | (refine gDr 17 [] 15 [0, 1, 2, 3, 4, 5, 6, 7, 8, 9, 10, 11, 12, 13, 14, 15] [0, 2, 3, 4, 5, 6, 7, 10, 16, 17, 18, 19, 24, 25, 30, 40, 49] rfl ?_; intro K hK)
  | (refine gd_split ?_ ?_ <;> intro hb <;> (try simp only [bls] at hb) <;> (try simp only [hb]))
  | refine gRt [] [.tmp 2] rfl ?_ | refine gDn [] [.tmp 2] rfl ?_) <;> (try simp only [go_sem, simprocAttr, e4, e5, hx, hiW, hlen, hle, Option.some.injEq, forall_eq']))
  | (refine hK _ _ ?_; clear hK K; simp only [go_sem, simprocAttr])
  | refine gCd (by simp only [go_sem, simprocAttr]; rfl) rfl ?_
  | refine brT ?_ | refine brF ?_
  | (refine brS ?_ ?_ <;> intro hc <;> (try simp only [bls] at hc) <;> (try simp only [hc, bls]))
  | intro _ | refine And.intro ?_ ?_)
          all_goals first | omega | (unfold bigLen; omega) | exact ⟨_, _, ⟨rfl, rfl⟩, rfl⟩ | exact ⟨_, rfl⟩ | (rename_i hy; simp only [List.mem_singleton] at hy; subst hy; rfl) | skip
          rename_i y hy
          rw [hwi] at hy
          obtain rfl := Option.some.inj hy
          refine AGood.filt [3, 13] ?_
          simp only [sf_cons, sf_nil, go_sem, simprocAttr]
          refine AGood.prune [0, 2, 3, 4, 5, 16, 17, 18] ?_; simp only [go_sem, simprocAttr]
          exact ih.cast rfl (by simp [List.map_set])
        · simp only [hlo, if_false] at ih
          obtain ⟨k, hxl⟩ : ∃ k, xl = [k] := List.length_eq_one_iff.1 (hop5 rfl)
          have hk1 := hk k (by simp [hxl])
          obtain ⟨m, rfl⟩ : ∃ m : Nat, k = m := ⟨k.toNat, by omega⟩
          have hx0 : xl[0]? = some (m : Int) := by simp [hxl]
          have hx1 : (0 : Int) < xl.length := by simp [hxl]
          have hx2 : xl.headD 0 = (m : Int) := by simp [hxl]
          clear hxl
          have hm : m < W.length := by omega
          have hm2 : (m : Int) < l.length := by omega
          have hm3 : m < l.length := by omega
          have hm4 : (0 : Int) ≤ m := by omega
          have hwm : W[m]? = some W[m] := List.getElem?_eq_getElem hm
          have hgm : W.getD m false = W[m] := by simp [List.getD, hm]
          simp only [hx2, Int.toNat_natCast, hgm] at ih
          generalize W[m] = b at hwm hgm ih
          repeat' (first
  | refine gSq ?_ | refine gSk ?_ | refine gBl ?_ | refine gIb ?_ | refine gEx rfl ?_
  | ((first
  | (refine gRg [] [0, 2, 3, 4, 5, 6, 7, 10, 16, 17, 18, 19, 24, 25, 30, 40, 49] ?_; intro K hK)
  | (refine gDr 13 [] 5 [0, 1, 2, 3, 4, 5, 6, 7, 8] [0, 2, 3, 4, 5, 6, 7, 10, 16, 17, 18, 19, 24, 25, 30, 40, 49] rfl ?_; intro K hK)
  | (refine gDr 15 [] 5 [0, 1, 2, 3, 4, 5, 6, 7] [0, 2, 3, 4, 5, 6, 7, 10, 16, 17, 18, 19, 24, 25, 30, 40, 49] rfl ?_; intro K hK)
  | (refine gDr 17 [] 15 [0, 1, 2, 3, 4, 5, 6, 7, 8, 9, 10, 11, 12, 13, 14, 15] [0, 2, 3, 4, 5, 6, 7, 10, 16, 17, 18, 19, 24, 25, 30, 40, 49] rfl ?_; intro K hK)
  | (refine gd_split ?_ ?_ <;> intro hb <;> (try simp only [bls] at hb) <;> (try simp only [hb]))
  | refine gRt [] [.tmp 2] rfl ?_ | refine gDn [] [.tmp 2] rfl ?_) <;> (try simp only [go_sem, simprocAttr, e4, e5, hx, hiW, hlen, hle, hlo, hx0, hx1, Int.le_refl, hm, hm2, hm3, hm4, hwm, Option.some.injEq, forall_eq']))
  | (refine hK _ _ ?_; clear hK K; simp only [go_sem, simprocAttr])
  | refine gCd (by simp only [go_sem, simprocAttr]; rfl) rfl ?_
  | refine brT ?_ | refine brF ?_
  | (refine brS ?_ ?_ <;> intro hc <;> (try simp only [bls] at hc) <;> (try simp only [hc, bls]))
  | intro _ | refine And.intro ?_ ?_)
          all_goals first | omega | (unfold bigLen; omega) | exact ⟨_, _, ⟨rfl, rfl⟩, rfl⟩ | exact ⟨_, rfl⟩ | (rename_i hy; simp only [List.mem_singleton] at hy; subst hy; rfl) | skip
          rename_i y hy
          rw [hwi] at hy
          obtain rfl := Option.some.inj hy
          refine AGood.filt [3, 13] ?_
          simp only [sf_cons, sf_nil, go_sem, simprocAttr]
          refine AGood.prune [0, 2, 3, 4, 5, 16, 17, 18] ?_; simp only [go_sem, simprocAttr]
          exact ih.cast rfl (by simp [List.map_set])
      have hno := hsm (fun bs => by simp [mayStep, h1, h3', h4', h5'])
      simp only [h1, h3', h4', h5', if_false] at ih
      simp only [mayStep, h1, h3', h4', h5', if_false] at hst
      rw [hst, ← hno] at ih
      repeat' (first
  | refine gSq ?_ | refine gSk ?_ | refine gBl ?_ | refine gIb ?_ | refine gEx rfl ?_
  | ((first
  | (refine gRg [] [0, 2, 3, 4, 5, 6, 7, 10, 16, 17, 18, 19, 24, 25, 30, 40, 49] ?_; intro K hK)
  | (refine gDr 13 [] 5 [0, 1, 2, 3, 4, 5, 6, 7, 8] [0, 2, 3, 4, 5, 6, 7, 10, 16, 17, 18, 19, 24, 25, 30, 40, 49] rfl ?_; intro K hK)
  | (refine gDr 15 [] 5 [0, 1, 2, 3, 4, 5, 6, 7] [0, 2, 3, 4, 5, 6, 7, 10, 16, 17, 18, 19, 24, 25, 30, 40, 49] rfl ?_; intro K hK)
  | (refine gDr 17 [] 15 [0, 1, 2, 3, 4, 5, 6, 7, 8, 9, 10, 11, 12, 13, 14, 15] [0, 2, 3, 4, 5, 6, 7, 10, 16, 17, 18, 19, 24, 25, 30, 40, 49] rfl ?_; intro K hK)
  | (refine gd_split ?_ ?_ <;> intro hb <;> (try simp only [bls] at hb) <;> (try simp only [hb]))
  | refine gRt [] [.tmp 2] rfl ?_ | refine gDn [] [.tmp 2] rfl ?_) <;> (try simp only [go_sem, simprocAttr, e4, e5, hx, h1, h3', h4', h5', hiW, hlen, Option.some.injEq, forall_eq']))
  | (refine hK _ _ ?_; clear hK K; simp only [go_sem, simprocAttr])
  | refine gCd (by simp only [go_sem, simprocAttr]; rfl) rfl ?_
  | refine brT ?_ | refine brF ?_
  | (refine brS ?_ ?_ <;> intro hc <;> (try simp only [bls] at hc) <;> (try simp only [hc, bls]))
  | intro _ | refine And.intro ?_ ?_)
      all_goals first | omega | (unfold bigLen; omega) | exact ⟨_, _, ⟨rfl, rfl⟩, rfl⟩ | exact ⟨_, rfl⟩ | (rename_i hy; simp only [List.mem_singleton] at hy; subst hy; rfl) | skip
      refine AGood.filt [3, 13] ?_
      simp only [sf_cons, sf_nil, go_sem, simprocAttr]
      refine AGood.prune [0, 2, 3, 4, 5, 16, 17, 18] ?_; simp only [go_sem, simprocAttr]
      exact ih.cast rfl rfl
    · have e4 : ¬ (i : Int) < l.length := by omega
      have hin : i = l.length := by omega
      subst hin
      clear ih
      rw [mayRow_end]
      have h1 := htree.1.1
      have hml := mays_len l
      have e6 : (l.length : Int) - 1 = ((l.length - 1 : Nat) : Int) := by omega
      have e7 : l.length - 1 < l.length := by omega
      have e8 : ((l.length - 1 : Nat) : Int) < l.length := by omega
      have e9 : (mays l).getLastD false = (mays l).getD (l.length - 1) false := by
        rw [List.getLastD_eq_getLast?, List.getLast?_eq_getElem?, hml]; rfl
      rw [e9]
      have hlt : l.length - 1 < (mays l).length := by omega
      have hlast : (mays l)[l.length - 1]? = some ((mays l).getD (l.length - 1) false) := by
        simp [List.getD, hlt]
      generalize (mays l).getD (l.length - 1) false = b at hlast
      generalize l.length - 1 = m at e6 e7 e8 hlast
      repeat' (first
  | refine gSq ?_ | refine gSk ?_ | refine gBl ?_ | refine gIb ?_ | refine gEx rfl ?_
  | ((first
  | (refine gRg [] [0, 2, 3, 4, 5, 6, 7, 10, 16, 17, 18, 19, 24, 25, 30, 40, 49] ?_; intro K hK)
  | (refine gDr 13 [] 5 [0, 1, 2, 3, 4, 5, 6, 7, 8] [0, 2, 3, 4, 5, 6, 7, 10, 16, 17, 18, 19, 24, 25, 30, 40, 49] rfl ?_; intro K hK)
  | (refine gDr 15 [] 5 [0, 1, 2, 3, 4, 5, 6, 7] [0, 2, 3, 4, 5, 6, 7, 10, 16, 17, 18, 19, 24, 25, 30, 40, 49] rfl ?_; intro K hK)
  | (refine gDr 17 [] 15 [0, 1, 2, 3, 4, 5, 6, 7, 8, 9, 10, 11, 12, 13, 14, 15] [0, 2, 3, 4, 5, 6, 7, 10, 16, 17, 18, 19, 24, 25, 30, 40, 49] rfl ?_; intro K hK)
  | (refine gd_split ?_ ?_ <;> intro hb <;> (try simp only [bls] at hb) <;> (try simp only [hb]))
  | refine gRt [] [.tmp 2] rfl ?_ | refine gDn [] [.tmp 2] rfl ?_) <;> (try simp only [go_sem, simprocAttr, e4, e6, e7, e8, hml, hlast, Option.some.injEq, forall_eq']))
  | (refine hK _ _ ?_; clear hK K; simp only [go_sem, simprocAttr])
  | refine gCd (by simp only [go_sem, simprocAttr]; rfl) rfl ?_
  | refine brT ?_ | refine brF ?_
  | (refine brS ?_ ?_ <;> intro hc <;> (try simp only [bls] at hc) <;> (try simp only [hc, bls]))
  | intro _ | refine And.intro ?_ ?_)
      all_goals first | omega | (unfold bigLen; omega) | exact ⟨_, _, ⟨rfl, rfl⟩, rfl⟩ | exact ⟨_, rfl⟩ | (rename_i hy; simp only [List.mem_singleton] at hy; subst hy; rfl) | skip
end Go.Rad
