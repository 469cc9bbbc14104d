/- Contracts: syntax, byte by byte: names, trees that are alike. -/
import Derived.Test.YtejdlelhlpnabaaDoorKC01
import Derived.Test.YtejdlelhlpnabaaDoorKRText
set_option linter.all false
namespace Go.Rad
open Go Go.Proofs
set_option linter.all false
set_option maxRecDepth 20000
set_option maxHeartbeats 4000000

theorem letter4uc (c : Nat) : ACall Tryd.prog 53 [.int .u8 c] [] fun r s => r = .bool (letterN c) ∧ s = [] := by
  refine ACall.enter Tryd.func53 rfl (by kernel_rfl) (Nat.le_of_ble_eq_true rfl) ?_; simp only [initTm, Nat.reduceAdd]
  repeat' (first
  | refine gSq ?_ | refine gSk ?_ | refine gBl ?_ | refine gIb ?_ | refine gEx rfl ?_
  | ((first
  | (refine gRg [] [0, 2] ?_; intro K hK)
  | (refine gd_split ?_ ?_ <;> intro hb <;> (try simp only [bls] at hb) <;> (try simp only [hb]))
  | refine gRt [] [.tmp 2] rfl ?_ | refine gDn [] [.tmp 2] rfl ?_) <;> (try simp only [go_sem, simprocAttr]))
  | (refine hK _ _ ?_; clear hK K; simp only [go_sem, simprocAttr])
  | refine gCd (by simp only [go_sem, simprocAttr]; rfl) rfl ?_
  | refine brT ?_ | refine brF ?_
  | (refine brS ?_ ?_ <;> intro hc <;> (try simp only [bls] at hc) <;> (try simp only [hc, bls]))
  | intro _ | refine And.intro ?_ ?_)
  all_goals (refine congrArg AVal.bool ?_; rw [Bool.eq_iff_iff]; simp [letterN] <;> omega)
theorem digit4uc (c : Nat) : ACall Tryd.prog 54 [.int .u8 c] [] fun r s => r = .bool (digitN c) ∧ s = [] := by
  refine ACall.enter Tryd.func54 rfl (by kernel_rfl) (Nat.le_of_ble_eq_true rfl) ?_; simp only [initTm, Nat.reduceAdd]
  repeat' (first
  | refine gSq ?_ | refine gSk ?_ | refine gBl ?_ | refine gIb ?_ | refine gEx rfl ?_
  | ((first
  | (refine gRg [] [0, 2] ?_; intro K hK)
  | (refine gd_split ?_ ?_ <;> intro hb <;> (try simp only [bls] at hb) <;> (try simp only [hb]))
  | refine gRt [] [.tmp 2] rfl ?_ | refine gDn [] [.tmp 2] rfl ?_) <;> (try simp only [go_sem, simprocAttr]))
  | (refine hK _ _ ?_; clear hK K; simp only [go_sem, simprocAttr])
  | refine gCd (by simp only [go_sem, simprocAttr]; rfl) rfl ?_
  | refine brT ?_ | refine brF ?_
  | (refine brS ?_ ?_ <;> intro hc <;> (try simp only [bls] at hc) <;> (try simp only [hc, bls]))
  | intro _ | refine And.intro ?_ ?_)
  all_goals (refine congrArg AVal.bool ?_; rw [Bool.eq_iff_iff]; simp [digitN] <;> omega)

theorem name4uc (s : ByteArray) (hs : s.size ≤ maxLen) : ACall Tryd.prog 32 [.str s] [] fun r s' => r = .bool (nameOk s) ∧ s' = [] := by
  unfold maxLen at hs
  refine ACall.enter Tryd.func32 rfl (by kernel_rfl) (Nat.le_of_ble_eq_true rfl) ?_; simp only [initTm, Nat.reduceAdd]
  repeat' (first
  | refine gSq ?_ | refine gSk ?_ | refine gBl ?_ | refine gIb ?_ | refine gEx rfl ?_
  | ((first
  | (refine gRg [] [0, 2, 3, 7, 25] ?_; intro K hK)
  | (refine gd_split ?_ ?_ <;> intro hb <;> (try simp only [bls] at hb) <;> (try simp only [hb]))
  | refine gRt [] [.tmp 2] rfl ?_ | refine gDn [] [.tmp 2] rfl ?_) <;> (try simp only [go_sem, simprocAttr]))
  | (refine hK _ _ ?_; clear hK K; simp only [go_sem, simprocAttr])
  | refine gCd (by simp only [go_sem, simprocAttr]; rfl) rfl ?_
  | refine brT ?_ | refine brF ?_
  | (refine brS ?_ ?_ <;> intro hc <;> (try simp only [bls] at hc) <;> (try simp only [hc, bls]))
  | intro _ | refine And.intro ?_ ?_)
  refine AGood.prune [0, 2, 3] ?_; simp only [go_sem, simprocAttr]
  refine AGood.loopInv (α := Nat) (fun i => ([(0, .str s), (2, .bool false), (3, .int .i64 i)], [])) (fun i => i ≤ s.size ∧ (List.range i).all (nmB s) = true) (fun i => s.size - i) 0 ⟨Nat.zero_le _, rfl⟩ rfl ?_
  rintro i ⟨hi, hall⟩ ih
  simp only
  by_cases hle : i < s.size
  · have e4 : (i : Int) < s.size := by omega
    have e6 : (0 : Int) ≤ i := by omega
    repeat' (first
  | refine gSq ?_ | refine gSk ?_ | refine gBl ?_ | refine gIb ?_ | refine gEx rfl ?_
  | ((first
  | (refine gRg [] [0, 2, 3, 7, 25] ?_; intro K hK)
  | refine cAl (letter4uc _) rfl rfl rfl ?_
  | refine cAl (digit4uc _) rfl rfl rfl ?_
  | (refine gd_split ?_ ?_ <;> intro hb <;> (try simp only [bls] at hb) <;> (try simp only [hb]))
  | refine gRt [] [.tmp 2] rfl ?_ | refine gDn [] [.tmp 2] rfl ?_) <;> (try simp only [go_sem, simprocAttr, e4, e6, sbyte_bt]))
  | (refine hK _ _ ?_; clear hK K; simp only [go_sem, simprocAttr])
  | refine gCd (by simp only [go_sem, simprocAttr]; rfl) rfl ?_
  | refine brT ?_ | refine brF ?_
  | (refine brS ?_ ?_ <;> intro hc <;> (try simp only [bls] at hc) <;> (try simp only [hc, bls]))
  | intro _ | refine And.intro ?_ ?_)
    all_goals first
      | omega
      | exact congrArg AVal.bool (name_no hle (by simp [nmB, *]; try omega))
      | (refine AGood.prune [0, 2, 3] ?_; simp only [go_sem, simprocAttr]
         exact (ih (i + 1) ⟨by omega, all_succ hall (by simp [nmB, *]; try omega)⟩ (by omega)).cast rfl rfl)
  · have e4 : ¬ (i : Int) < s.size := by omega
    have e5 : i = s.size := by omega
    subst e5
    repeat' (first
  | refine gSq ?_ | refine gSk ?_ | refine gBl ?_ | refine gIb ?_ | refine gEx rfl ?_
  | ((first
  | (refine gRg [] [0, 2, 3, 7, 25] ?_; intro K hK)
  | (refine gd_split ?_ ?_ <;> intro hb <;> (try simp only [bls] at hb) <;> (try simp only [hb]))
  | refine gRt [] [.tmp 2] rfl ?_ | refine gDn [] [.tmp 2] rfl ?_) <;> (try simp only [go_sem, simprocAttr, e4]))
  | (refine hK _ _ ?_; clear hK K; simp only [go_sem, simprocAttr])
  | refine gCd (by simp only [go_sem, simprocAttr]; rfl) rfl ?_
  | refine brT ?_ | refine brF ?_
  | (refine brS ?_ ?_ <;> intro hc <;> (try simp only [bls] at hc) <;> (try simp only [hc, bls]))
  | intro _ | refine And.intro ?_ ?_)
    all_goals (refine congrArg AVal.bool ?_; rw [Bool.eq_iff_iff]; simp [nameOk, hall] <;> omega)

theorem node_ne {a b : List Node} {i : Nat} {x y : Node} (hx : a[i]? = some x) (hy : b[i]? = some y) (h : x ≠ y) : false = decide (a = b) := by
  simp only [Bool.false_eq, decide_eq_false_iff_not]
  rintro rfl
  rw [hx] at hy; exact h (Option.some.inj hy)
theorem same4uc (q f q' f' : Bool) (a b : List Node) (ha : a.length ≤ 100000) (hn : ∀ n ∈ a, n.l.length ≤ maxLen) : ACall Tryd.prog 12 [.sl q f (nodes a), .sl q' f' (nodes b)] [] fun r s' => r = .bool (decide (a = b)) ∧ s' = [] := by
  unfold maxLen at hn
  refine ACall.enter Tryd.func12 rfl (by kernel_rfl) (Nat.le_of_ble_eq_true rfl) ?_; simp only [initTm, Nat.reduceAdd]
  repeat' (first
  | refine gSq ?_ | refine gSk ?_ | refine gBl ?_ | refine gIb ?_ | refine gEx rfl ?_
  | ((first
  | (refine gRg [] [0, 1, 4, 5, 6, 7, 8, 13, 17, 69, 74, 87] ?_; intro K hK)
  | (refine gDr 13 [] 11 [0, 1, 2, 3, 4, 5, 6, 7, 8, 9, 10] [0, 1, 4, 5, 6, 7, 8, 13, 17, 69, 74, 87] rfl ?_; intro K hK)
  | (refine gd_split ?_ ?_ <;> intro hb <;> (try simp only [bls] at hb) <;> (try simp only [hb]))
  | refine gRt [] [.tmp 4] rfl ?_ | refine gDn [] [.tmp 4] rfl ?_) <;> (try simp only [go_sem, simprocAttr]))
  | (refine hK _ _ ?_; clear hK K; simp only [go_sem, simprocAttr])
  | refine gCd (by simp only [go_sem, simprocAttr]; rfl) rfl ?_
  | refine brT ?_ | refine brF ?_
  | (refine brS ?_ ?_ <;> intro hc <;> (try simp only [bls] at hc) <;> (try simp only [hc, bls]))
  | intro _ | refine And.intro ?_ ?_)
  · exact congrArg AVal.bool (by simp only [Bool.false_eq, decide_eq_false_iff_not]; rintro rfl; exact hc rfl)
  have hab : a.length = b.length := by omega
  refine AGood.prune [0, 1, 4, 5] ?_; simp only [go_sem, simprocAttr]
  refine AGood.loopInv (α := Nat) (fun i => ([(0, .sl q f (nodes a)), (1, .sl q' f' (nodes b)), (4, .bool false), (5, .int .i64 i)], [])) (fun i => i ≤ a.length ∧ a.take i = b.take i) (fun i => a.length - i) 0 ⟨Nat.zero_le _, rfl⟩ rfl ?_
  rintro i ⟨hi, htk⟩ ih
  simp only
  by_cases hle : i < a.length
  · have e4 : (i : Int) < a.length := by omega
    have e6 : (0 : Int) ≤ i := by omega
    have e7 : (i : Int) < b.length := by omega
    have hx : a[i]? = some a[i] := List.getElem?_eq_getElem hle
    have hy : b[i]? = some b[i] := List.getElem?_eq_getElem (by omega)
    have hxm := hn a[i] (List.getElem_mem hle)
    generalize a[i] = x at hx hxm
    generalize b[i] = y at hy
    obtain ⟨xo, ⟨xa, xb, xc, xd⟩, xl, xlo, xhi, xn⟩ := x
    obtain ⟨yo, ⟨ya, yb, yc, yd⟩, yl, ylo, yhi, yn⟩ := y
    repeat' (first
  | refine gSq ?_ | refine gSk ?_ | refine gBl ?_ | refine gIb ?_ | refine gEx rfl ?_
  | ((first
  | (refine gRg [] [0, 1, 4, 5, 6, 7, 8, 13, 17, 69, 74, 87] ?_; intro K hK)
  | (refine gDr 13 [] 11 [0, 1, 2, 3, 4, 5, 6, 7, 8, 9, 10] [0, 1, 4, 5, 6, 7, 8, 13, 17, 69, 74, 87] rfl ?_; intro K hK)
  | (refine gd_split ?_ ?_ <;> intro hb <;> (try simp only [bls] at hb) <;> (try simp only [hb]))
  | refine gRt [] [.tmp 4] rfl ?_ | refine gDn [] [.tmp 4] rfl ?_) <;> (try simp only [go_sem, simprocAttr, e4, e6, e7, hx, hy, Option.some.injEq, forall_eq']))
  | (refine hK _ _ ?_; clear hK K; simp only [go_sem, simprocAttr])
  | refine gCd (by simp only [go_sem, simprocAttr]; rfl) rfl ?_
  | refine brT ?_ | refine brF ?_
  | (refine brS ?_ ?_ <;> intro hc <;> (try simp only [bls] at hc) <;> (try simp only [hc, bls]))
  | intro _ | refine And.intro ?_ ?_)
    all_goals first
      | exact congrArg AVal.bool (node_ne hx hy (by intro h; simp only [Node.mk.injEq, ISet.mk.injEq] at h; simp_all))
      | skip
    rename_i g6 g7 hb1 hb2 hb3 hb4
    simp only at hxm
    have hl : xl.length = yl.length := by omega
    simp only [List.cons.injEq, and_true] at hb2
    obtain ⟨rfl, rfl, rfl, rfl⟩ := hb2
    subst hb1 hb3 hb4 hb
    refine AGood.prune [0, 1, 4, 5, 6, 7, 8] ?_; simp only [go_sem, simprocAttr]
    refine AGood.loopInv (α := Nat) (fun k => ([(0, .sl q f (nodes a)), (1, .sl q' f' (nodes b)), (4, .bool false), (5, .int .i64 i), (6, .bx 6 g6 0), (7, .bx 7 g7 0), (8, .int .i64 k)],
      [(6, g6, .box [.int .u8 xo, .int .u64 xa, .int .u64 xb, .int .u64 xc, .int .u64 xd, .sl true false (ints xl), .int .i64 xlo, .int .i64 xhi, .str xn]), (7, g7, .box [.int .u8 xo, .int .u64 xa, .int .u64 xb, .int .u64 xc, .int .u64 xd, .sl true false (ints yl), .int .i64 xlo, .int .i64 xhi, .str xn])]))
      (fun k => k ≤ xl.length ∧ xl.take k = yl.take k) (fun k => xl.length - k) 0 ⟨Nat.zero_le _, rfl⟩ rfl ?_
    rintro k ⟨hk, hkt⟩ ih2
    simp only
    by_cases hkl : k < xl.length
    · have e8 : (k : Int) < xl.length := by omega
      have e9 : (0 : Int) ≤ k := by omega
      have e10 : (k : Int) < yl.length := by omega
      have hxk : xl[k]? = some xl[k] := List.getElem?_eq_getElem hkl
      have hyk : yl[k]? = some yl[k] := List.getElem?_eq_getElem (by omega)
      generalize xl[k] = u at hxk
      generalize yl[k] = v at hyk
      repeat' (first
  | refine gSq ?_ | refine gSk ?_ | refine gBl ?_ | refine gIb ?_ | refine gEx rfl ?_
  | ((first
  | (refine gRg [] [0, 1, 4, 5, 6, 7, 8, 13, 17, 69, 74, 87] ?_; intro K hK)
  | (refine gDr 13 [] 11 [0, 1, 2, 3, 4, 5, 6, 7, 8, 9, 10] [0, 1, 4, 5, 6, 7, 8, 13, 17, 69, 74, 87] rfl ?_; intro K hK)
  | (refine gd_split ?_ ?_ <;> intro hb <;> (try simp only [bls] at hb) <;> (try simp only [hb]))
  | refine gRt [] [.tmp 4] rfl ?_ | refine gDn [] [.tmp 4] rfl ?_) <;> (try simp only [go_sem, simprocAttr, e8, e9, e10, hxk, hyk, Option.some.injEq, forall_eq']))
  | (refine hK _ _ ?_; clear hK K; simp only [go_sem, simprocAttr])
  | refine gCd (by simp only [go_sem, simprocAttr]; rfl) rfl ?_
  | refine brT ?_ | refine brF ?_
  | (refine brS ?_ ?_ <;> intro hc <;> (try simp only [bls] at hc) <;> (try simp only [hc, bls]))
  | intro _ | refine And.intro ?_ ?_)
      · have hne := hc
        exact congrArg AVal.bool (node_ne hx hy (by intro h; simp only [Node.mk.injEq] at h; rw [h.2.2.1] at hxk; rw [hxk] at hyk; exact hne (Option.some.inj hyk)))
      · omega
      · omega
      · subst hc
        refine AGood.prune [0, 1, 4, 5, 6, 7, 8] ?_; simp only [go_sem, simprocAttr]
        exact (ih2 (k + 1) ⟨by omega, by rw [take_one hxk, take_one hyk, hkt]⟩ (by omega)).cast rfl rfl
    · have e8 : ¬ (k : Int) < xl.length := by omega
      rw [List.take_of_length_le (by omega), List.take_of_length_le (by omega)] at hkt
      subst hkt
      repeat' (first
  | refine gSq ?_ | refine gSk ?_ | refine gBl ?_ | refine gIb ?_ | refine gEx rfl ?_
  | ((first
  | (refine gRg [] [0, 1, 4, 5, 6, 7, 8, 13, 17, 69, 74, 87] ?_; intro K hK)
  | (refine gDr 13 [] 11 [0, 1, 2, 3, 4, 5, 6, 7, 8, 9, 10] [0, 1, 4, 5, 6, 7, 8, 13, 17, 69, 74, 87] rfl ?_; intro K hK)
  | (refine gd_split ?_ ?_ <;> intro hb <;> (try simp only [bls] at hb) <;> (try simp only [hb]))
  | refine gRt [] [.tmp 4] rfl ?_ | refine gDn [] [.tmp 4] rfl ?_) <;> (try simp only [go_sem, simprocAttr, e8]))
  | (refine hK _ _ ?_; clear hK K; simp only [go_sem, simprocAttr])
  | refine gCd (by simp only [go_sem, simprocAttr]; rfl) rfl ?_
  | refine brT ?_ | refine brF ?_
  | (refine brS ?_ ?_ <;> intro hc <;> (try simp only [bls] at hc) <;> (try simp only [hc, bls]))
  | intro _ | refine And.intro ?_ ?_)
      · omega
      · omega
      · refine AGood.filt [] ?_
        refine AGood.prune [0, 1, 4, 5] ?_; simp only [go_sem, simprocAttr]
        exact (ih (i + 1) ⟨by omega, by rw [take_one hx, take_one hy, htk]⟩ (by omega)).cast rfl rfl
  · rw [List.take_of_length_le (by omega), List.take_of_length_le (by omega)] at htk
    have e4 : ¬ (i : Int) < a.length := by omega
    repeat' (first
  | refine gSq ?_ | refine gSk ?_ | refine gBl ?_ | refine gIb ?_ | refine gEx rfl ?_
  | ((first
  | (refine gRg [] [0, 1, 4, 5, 6, 7, 8, 13, 17, 69, 74, 87] ?_; intro K hK)
  | (refine gDr 13 [] 11 [0, 1, 2, 3, 4, 5, 6, 7, 8, 9, 10] [0, 1, 4, 5, 6, 7, 8, 13, 17, 69, 74, 87] rfl ?_; intro K hK)
  | (refine gd_split ?_ ?_ <;> intro hb <;> (try simp only [bls] at hb) <;> (try simp only [hb]))
  | refine gRt [] [.tmp 4] rfl ?_ | refine gDn [] [.tmp 4] rfl ?_) <;> (try simp only [go_sem, simprocAttr, e4]))
  | (refine hK _ _ ?_; clear hK K; simp only [go_sem, simprocAttr])
  | refine gCd (by simp only [go_sem, simprocAttr]; rfl) rfl ?_
  | refine brT ?_ | refine brF ?_
  | (refine brS ?_ ?_ <;> intro hc <;> (try simp only [bls] at hc) <;> (try simp only [hc, bls]))
  | intro _ | refine And.intro ?_ ?_)
    simp [htk]
end Go.Rad
