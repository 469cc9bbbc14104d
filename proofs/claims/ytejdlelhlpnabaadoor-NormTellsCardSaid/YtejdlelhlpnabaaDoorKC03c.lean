/- Contracts: letters of both cases in a set. -/
import Derived.Test.YtejdlelhlpnabaaDoorKC03b
set_option linter.all false
namespace Go.Rad
open Go Go.Proofs
set_option linter.all false
set_option maxRecDepth 20000
set_option maxHeartbeats 4000000

theorem nfull_ok : nfull.ok := ⟨by decide, by decide, by decide, by decide⟩
theorem nzero_ok : nzero.ok := ⟨by decide, by decide, by decide, by decide⟩
theorem adds_ok : ∀ (l : List Nat) (f : Nat → Nat) {s : NSet}, s.ok → (l.foldl (fun s i => s.add (f i)) s).ok
  | [], _, _, h => h
  | _ :: l, f, _, h => adds_ok l f (add_ok h)
theorem rangeS_ok (lo hi : Nat) : (rangeS lo hi).ok := adds_ok _ _ nzero_ok
theorem ofS_ok (l : List Nat) : (ofS l).ok := adds_ok l id nzero_ok
def foldLo (o : NSet) (b : Nat) : NSet := (nzero.or o).or (ofS [(b + 224) % 256])
def foldHi (o : NSet) (b : Nat) : NSet := (nzero.or o).or (ofS [(b + 32) % 256])
/-- Of both cases. -/
def foldS (s : NSet) : NSet := (listS ((nfull.and s).and (rangeS 65 90))).foldl foldHi ((listS ((nfull.and s).and (rangeS 97 122))).foldl foldLo s)
theorem foldLo_ok : ∀ (l : List Nat) {s : NSet}, s.ok → (l.foldl foldLo s).ok
  | [], _, h => h
  | _ :: l, _, h => foldLo_ok l (or_ok (or_ok nzero_ok h) (ofS_ok _))
theorem foldHi_ok : ∀ (l : List Nat) {s : NSet}, s.ok → (l.foldl foldHi s).ok
  | [], _, h => h
  | _ :: l, _, h => foldHi_ok l (or_ok (or_ok nzero_ok h) (ofS_ok _))
theorem foldS_ok {s : NSet} (h : s.ok) : (foldS s).ok := foldHi_ok _ (foldLo_ok _ h)
theorem fold2uc (s : NSet) (hok : s.ok) : ACall Tryd.prog 22 [.agg s.I.cells] [] fun r s' => r = .agg (foldS s).I.cells ∧ s' = [] := by
  have hr1 : ACall Tryd.prog 42 [.int .u8 97, .int .u8 122] [] fun r s' => r = .agg (rangeS 97 122).I.cells ∧ s' = [] := range2uc 97 122 (by decide) (by decide)
  have hr2 : ACall Tryd.prog 42 [.int .u8 65, .int .u8 90] [] fun r s' => r = .agg (rangeS 65 90).I.cells ∧ s' = [] := range2uc 65 90 (by decide) (by decide)
  have k1 := rangeS_ok 97 122
  have k2 := rangeS_ok 65 90
  unfold foldS
  generalize rangeS 97 122 = r1 at hr1 k1 ⊢
  generalize rangeS 65 90 = r2 at hr2 k2 ⊢
  have ha1 := and2uc true false [s, r1] (by simp [hok, k1]) (by simp)
  have ha2 := and2uc true false [s, r2] (by simp [hok, k2]) (by simp)
  have hl1 := list2uc ((nfull.and s).and r1) (and_ok (and_ok nfull_ok))
  have hl2 := list2uc ((nfull.and s).and r2) (and_ok (and_ok nfull_ok))
  have b1 := listUpto_le ((nfull.and s).and r1) 4
  have b2 := listUpto_le ((nfull.and s).and r2) 4
  have c1 := listUpto_len ((nfull.and s).and r1) 4
  have c2 := listUpto_len ((nfull.and s).and r2) 4
  simp only [List.foldl_cons, List.foldl_nil, List.map_cons, List.map_nil, nsets] at ha1 ha2
  change ∀ x ∈ listS _, _ at b1 b2
  change (listS _).length ≤ _ at c1 c2
  generalize (nfull.and s).and r1 = q1 at ha1 hl1 b1 c1 ⊢
  generalize (nfull.and s).and r2 = q2 at ha2 hl2 b2 c2 ⊢
  generalize listS q1 = l1 at hl1 b1 c1 ⊢
  generalize listS q2 = l2 at hl2 b2 c2 ⊢
  refine ACall.enter Tryd.func22 rfl (by kernel_rfl) (Nat.le_of_ble_eq_true rfl) ?_; simp only [initTm, Nat.reduceAdd]
  repeat' (first
  | refine gSq ?_ | refine gSk ?_ | refine gBl ?_ | refine gIb ?_ | refine gEx rfl ?_
  | ((first
  | (refine gRg [11] [0, 1, 2, 3, 5, 7, 13, 14, 15, 16, 31, 32, 33, 34] ?_; intro K hK)
  | (refine gDr 2 [11] 7 [0, 1, 2, 3, 4, 5, 6] [0, 1, 2, 3, 5, 7, 13, 14, 15, 16, 31, 32, 33, 34] rfl ?_; intro K hK)
  | (refine gDr 5 [11] 3 [0, 1, 2, 3, 4, 5, 6, 7] [0, 1, 2, 3, 5, 7, 13, 14, 15, 16, 31, 32, 33, 34] rfl ?_; intro K hK)
  | (refine gDr 7 [11] 3 [0, 1, 6, 2, 3, 4, 5] [0, 1, 2, 3, 5, 7, 13, 14, 15, 16, 31, 32, 33, 34] rfl ?_; intro K hK)
  | (refine gDr 10 [11] 3 [0, 1, 2, 3, 4, 5, 6, 7] [0, 1, 2, 3, 5, 7, 13, 14, 15, 16, 31, 32, 33, 34] rfl ?_; intro K hK)
  | (refine ⟨_, ACall.alone hr1 rfl rfl rfl, ?_⟩)
  | (refine ⟨_, ACall.alone ha1 rfl rfl rfl, ?_⟩)
  | (refine ⟨_, ACall.alone hl1 rfl rfl rfl, ?_⟩)
  | (refine gd_split ?_ ?_ <;> intro hb <;> (try simp only [bls] at hb) <;> (try simp only [hb]))
  | refine gRt [] [.cell 2 38] rfl ?_ | refine gDn [] [.cell 2 38] rfl ?_) <;> (try simp only [go_sem, simprocAttr]))
  | (refine hK _ _ ?_; clear hK K; simp only [go_sem, simprocAttr])
  | refine gCd (by simp only [go_sem, simprocAttr]; rfl) rfl ?_
  | refine brT ?_ | refine brF ?_
  | (refine brS ?_ ?_ <;> intro hc <;> (try simp only [bls] at hc) <;> (try simp only [hc, bls]))
  | intro _ | refine And.intro ?_ ?_)
  rename_i g1 g2 g3
  refine AGood.prune [1, 2, 3, 13, 14, 15] ?_; simp only [go_sem, simprocAttr]
  refine AGood.loopInv (α := Nat) (fun i => ([(1, .bx 1 g1 0), (2, .bx 2 g2 0), (3, .bx 3 g3 0), (13, .sl true false (bytesL l1)), (14, .int .i64 l1.length), (15, .int .i64 i)], [(1, g1, .box s.I.cells), (2, g2, .box nzero.I.cells), (3, g3, .box ((l1.take i).foldl foldLo s).I.cells)])) (fun i => i ≤ l1.length ∧ ((l1.take i).foldl foldLo s).ok) (fun i => l1.length - i) 0 ⟨Nat.zero_le _, by first | exact hok | exact hokk⟩ rfl ?_
  rintro i ⟨hi, hok2⟩ ih
  simp only
  by_cases hle : i < l1.length
  · skip
    have e4 : (i : Int) < l1.length := by omega
    have e5 : (0 : Int) ≤ i := by omega
    have hx : l1[i]? = some l1[i] := List.getElem?_eq_getElem hle
    have ht : (l1.take (i + 1)).foldl foldLo s = foldLo ((l1.take i).foldl foldLo s) l1[i] := by rw [take_one hx, List.foldl_append]; rfl
    generalize l1[i] = b at hx ht
    have hw : IntKind.u8.wrap ((b : Int) - 32) = (((b + 224) % 256 : Nat) : Int) := by
      have f6 : ∀ z : Int, IntKind.u8.wrap z = z % 256 := by intro z; simp [IntKind.wrap, IntKind.signed, IntKind.bits]
      rw [f6]; omega
    have hof := of2uc true false [(b + 224) % 256] (by simp; omega) (by simp)
    have hk2 : ((l1.take (i + 1)).foldl foldLo s).ok := by rw [ht]; exact or_ok (or_ok nzero_ok hok2) (ofS_ok _)
    have ih := ih (i + 1) ⟨by omega, hk2⟩ (by omega)
    have e1 : (nzero.or ((l1.take i).foldl foldLo s)).or (ofS [(b + 224) % 256]) = (l1.take (i + 1)).foldl foldLo s := ht.symm
    generalize (l1.take (i + 1)).foldl foldLo s = c' at e1 ih hk2
    generalize (l1.take i).foldl foldLo s = c at e1 hok2 ⊢
    have hoo := ofS_ok [(b + 224) % 256]
    generalize ofS [(b + 224) % 256] = o at hof e1 hoo
    have hor := or2uc true false [c, o] (by simp [hok2, hoo]) (by simp)
    simp only [List.foldl_cons, List.foldl_nil, e1] at hor
    clear ht
    repeat' (first
  | refine gSq ?_ | refine gSk ?_ | refine gBl ?_ | refine gIb ?_ | refine gEx rfl ?_
  | ((first
  | (refine gRg [22, 24] [0, 1, 2, 3, 5, 7, 13, 14, 15, 16, 31, 32, 33, 34] ?_; intro K hK)
  | (refine gDr 2 [22, 24] 3 [0, 1, 6, 2, 3, 4, 5] [0, 1, 2, 3, 5, 7, 13, 14, 15, 16, 31, 32, 33, 34] rfl ?_; intro K hK)
  | (refine gDr 5 [22, 24] 7 [0, 1, 2, 3, 4, 5, 6, 7] [0, 1, 2, 3, 5, 7, 13, 14, 15, 16, 31, 32, 33, 34] rfl ?_; intro K hK)
  | (refine gDr 7 [22, 24] 3 [0, 1, 6, 2, 3, 4, 5] [0, 1, 2, 3, 5, 7, 13, 14, 15, 16, 31, 32, 33, 34] rfl ?_; intro K hK)
  | (refine gDr 10 [22, 24] 3 [0, 1, 2, 3, 4, 5, 6, 7] [0, 1, 2, 3, 5, 7, 13, 14, 15, 16, 31, 32, 33, 34] rfl ?_; intro K hK)
  | (refine ⟨_, ACall.alone hof rfl rfl rfl, ?_⟩)
  | (refine ⟨_, ACall.alone hor rfl rfl rfl, ?_⟩)
  | (refine gd_split ?_ ?_ <;> intro hb <;> (try simp only [bls] at hb) <;> (try simp only [hb]))
  | refine gRt [] [.cell 2 38] rfl ?_ | refine gDn [] [.cell 2 38] rfl ?_) <;> (try simp only [go_sem, simprocAttr, e4, e5, hx, hw, Option.some.injEq, forall_eq']))
  | (refine hK _ _ ?_; clear hK K; simp only [go_sem, simprocAttr])
  | refine gCd (by simp only [go_sem, simprocAttr]; rfl) rfl ?_
  | refine brT ?_ | refine brF ?_
  | (refine brS ?_ ?_ <;> intro hc <;> (try simp only [bls] at hc) <;> (try simp only [hc, bls]))
  | intro _ | refine And.intro ?_ ?_)
    all_goals first | omega | (unfold bigLen; omega) | exact ⟨_, _, ⟨rfl, rfl⟩, rfl⟩ | exact ⟨_, rfl⟩ | (rename_i hy; simp only [List.mem_singleton] at hy; subst hy; rfl) | skip
    refine AGood.prune [1, 2, 3, 13, 14, 15] ?_; simp only [go_sem, simprocAttr]
    exact ih.cast rfl rfl
  · have e4 : ¬ (i : Int) < l1.length := by omega
    rw [List.take_of_length_le (by omega)]
    have hokk := foldLo_ok l1 hok
    generalize l1.foldl foldLo s = s1 at hokk ⊢
    clear ih
    repeat' (first
  | refine gSq ?_ | refine gSk ?_ | refine gBl ?_ | refine gIb ?_ | refine gEx rfl ?_
  | ((first
  | (refine gRg [29] [0, 1, 2, 3, 5, 7, 13, 14, 15, 16, 31, 32, 33, 34] ?_; intro K hK)
  | (refine gDr 2 [29] 3 [0, 1, 6, 2, 3, 4, 5] [0, 1, 2, 3, 5, 7, 13, 14, 15, 16, 31, 32, 33, 34] rfl ?_; intro K hK)
  | (refine gDr 5 [29] 3 [0, 1, 2, 3, 4, 5, 6, 7] [0, 1, 2, 3, 5, 7, 13, 14, 15, 16, 31, 32, 33, 34] rfl ?_; intro K hK)
  | (refine gDr 7 [29] 7 [0, 1, 2, 3, 4, 5, 6] [0, 1, 2, 3, 5, 7, 13, 14, 15, 16, 31, 32, 33, 34] rfl ?_; intro K hK)
  | (refine gDr 10 [29] 3 [0, 1, 2, 3, 4, 5, 6, 7] [0, 1, 2, 3, 5, 7, 13, 14, 15, 16, 31, 32, 33, 34] rfl ?_; intro K hK)
  | (refine ⟨_, ACall.alone hr2 rfl rfl rfl, ?_⟩)
  | (refine ⟨_, ACall.alone ha2 rfl rfl rfl, ?_⟩)
  | (refine ⟨_, ACall.alone hl2 rfl rfl rfl, ?_⟩)
  | (refine gd_split ?_ ?_ <;> intro hb <;> (try simp only [bls] at hb) <;> (try simp only [hb]))
  | refine gRt [] [.cell 2 38] rfl ?_ | refine gDn [] [.cell 2 38] rfl ?_) <;> (try simp only [go_sem, simprocAttr, e4]))
  | (refine hK _ _ ?_; clear hK K; simp only [go_sem, simprocAttr])
  | refine gCd (by simp only [go_sem, simprocAttr]; rfl) rfl ?_
  | refine brT ?_ | refine brF ?_
  | (refine brS ?_ ?_ <;> intro hc <;> (try simp only [bls] at hc) <;> (try simp only [hc, bls]))
  | intro _ | refine And.intro ?_ ?_)
    clear e4 hi hok2
    refine AGood.prune [1, 2, 3, 31, 32, 33] ?_; simp only [go_sem, simprocAttr]
    refine AGood.loopInv (α := Nat) (fun i => ([(1, .bx 1 g1 0), (2, .bx 2 g2 0), (3, .bx 3 g3 0), (31, .sl true false (bytesL l2)), (32, .int .i64 l2.length), (33, .int .i64 i)], [(1, g1, .box s.I.cells), (2, g2, .box nzero.I.cells), (3, g3, .box ((l2.take i).foldl foldHi s1).I.cells)])) (fun i => i ≤ l2.length ∧ ((l2.take i).foldl foldHi s1).ok) (fun i => l2.length - i) 0 ⟨Nat.zero_le _, by first | exact hok | exact hokk⟩ rfl ?_
    rintro i ⟨hi, hok2⟩ ih
    simp only
    by_cases hle : i < l2.length
    · skip
      have e4 : (i : Int) < l2.length := by omega
      have e5 : (0 : Int) ≤ i := by omega
      have hx : l2[i]? = some l2[i] := List.getElem?_eq_getElem hle
      have ht : (l2.take (i + 1)).foldl foldHi s1 = foldHi ((l2.take i).foldl foldHi s1) l2[i] := by rw [take_one hx, List.foldl_append]; rfl
      generalize l2[i] = b at hx ht
      have hw : IntKind.u8.wrap ((b : Int) + 32) = (((b + 32) % 256 : Nat) : Int) := by
        have f6 : ∀ z : Int, IntKind.u8.wrap z = z % 256 := by intro z; simp [IntKind.wrap, IntKind.signed, IntKind.bits]
        rw [f6]; omega
      have hof := of2uc true false [(b + 32) % 256] (by simp; omega) (by simp)
      have hk2 : ((l2.take (i + 1)).foldl foldHi s1).ok := by rw [ht]; exact or_ok (or_ok nzero_ok hok2) (ofS_ok _)
      have ih := ih (i + 1) ⟨by omega, hk2⟩ (by omega)
      have e1 : (nzero.or ((l2.take i).foldl foldHi s1)).or (ofS [(b + 32) % 256]) = (l2.take (i + 1)).foldl foldHi s1 := ht.symm
      generalize (l2.take (i + 1)).foldl foldHi s1 = c' at e1 ih hk2
      generalize (l2.take i).foldl foldHi s1 = c at e1 hok2 ⊢
      have hoo := ofS_ok [(b + 32) % 256]
      generalize ofS [(b + 32) % 256] = o at hof e1 hoo
      have hor := or2uc true false [c, o] (by simp [hok2, hoo]) (by simp)
      simp only [List.foldl_cons, List.foldl_nil, e1] at hor
      clear ht
      repeat' (first
  | refine gSq ?_ | refine gSk ?_ | refine gBl ?_ | refine gIb ?_ | refine gEx rfl ?_
  | ((first
  | (refine gRg [40, 42] [0, 1, 2, 3, 5, 7, 13, 14, 15, 16, 31, 32, 33, 34] ?_; intro K hK)
  | (refine gDr 2 [40, 42] 3 [0, 1, 6, 2, 3, 4, 5] [0, 1, 2, 3, 5, 7, 13, 14, 15, 16, 31, 32, 33, 34] rfl ?_; intro K hK)
  | (refine gDr 5 [40, 42] 3 [0, 1, 2, 3, 4, 5, 6, 7] [0, 1, 2, 3, 5, 7, 13, 14, 15, 16, 31, 32, 33, 34] rfl ?_; intro K hK)
  | (refine gDr 7 [40, 42] 3 [0, 1, 6, 2, 3, 4, 5] [0, 1, 2, 3, 5, 7, 13, 14, 15, 16, 31, 32, 33, 34] rfl ?_; intro K hK)
  | (refine gDr 10 [40, 42] 7 [0, 1, 2, 3, 4, 5, 6, 7] [0, 1, 2, 3, 5, 7, 13, 14, 15, 16, 31, 32, 33, 34] rfl ?_; intro K hK)
  | (refine ⟨_, ACall.alone hof rfl rfl rfl, ?_⟩)
  | (refine ⟨_, ACall.alone hor rfl rfl rfl, ?_⟩)
  | (refine gd_split ?_ ?_ <;> intro hb <;> (try simp only [bls] at hb) <;> (try simp only [hb]))
  | refine gRt [] [.cell 2 38] rfl ?_ | refine gDn [] [.cell 2 38] rfl ?_) <;> (try simp only [go_sem, simprocAttr, e4, e5, hx, hw, Option.some.injEq, forall_eq']))
  | (refine hK _ _ ?_; clear hK K; simp only [go_sem, simprocAttr])
  | refine gCd (by simp only [go_sem, simprocAttr]; rfl) rfl ?_
  | refine brT ?_ | refine brF ?_
  | (refine brS ?_ ?_ <;> intro hc <;> (try simp only [bls] at hc) <;> (try simp only [hc, bls]))
  | intro _ | refine And.intro ?_ ?_)
      all_goals first | omega | (unfold bigLen; omega) | exact ⟨_, _, ⟨rfl, rfl⟩, rfl⟩ | exact ⟨_, rfl⟩ | (rename_i hy; simp only [List.mem_singleton] at hy; subst hy; rfl) | skip
      refine AGood.prune [1, 2, 3, 31, 32, 33] ?_; simp only [go_sem, simprocAttr]
      exact ih.cast rfl rfl
    · have e4 : ¬ (i : Int) < l2.length := by omega
      rw [List.take_of_length_le (by omega)]
      repeat' (first
  | refine gSq ?_ | refine gSk ?_ | refine gBl ?_ | refine gIb ?_ | refine gEx rfl ?_
  | ((first
  | (refine gRg [] [0, 1, 2, 3, 5, 7, 13, 14, 15, 16, 31, 32, 33, 34] ?_; intro K hK)
  | (refine gDr 2 [] 3 [0, 1, 6, 2, 3, 4, 5] [0, 1, 2, 3, 5, 7, 13, 14, 15, 16, 31, 32, 33, 34] rfl ?_; intro K hK)
  | (refine gDr 5 [] 3 [0, 1, 2, 3, 4, 5, 6, 7] [0, 1, 2, 3, 5, 7, 13, 14, 15, 16, 31, 32, 33, 34] rfl ?_; intro K hK)
  | (refine gDr 7 [] 3 [0, 1, 6, 2, 3, 4, 5] [0, 1, 2, 3, 5, 7, 13, 14, 15, 16, 31, 32, 33, 34] rfl ?_; intro K hK)
  | (refine gDr 10 [] 3 [0, 1, 2, 3, 4, 5, 6, 7] [0, 1, 2, 3, 5, 7, 13, 14, 15, 16, 31, 32, 33, 34] rfl ?_; intro K hK)
  | (refine gd_split ?_ ?_ <;> intro hb <;> (try simp only [bls] at hb) <;> (try simp only [hb]))
  | refine gRt [] [.cell 2 38] rfl ?_ | refine gDn [] [.cell 2 38] rfl ?_) <;> (try simp only [go_sem, simprocAttr, e4]))
  | (refine hK _ _ ?_; clear hK K; simp only [go_sem, simprocAttr])
  | refine gCd (by simp only [go_sem, simprocAttr]; rfl) rfl ?_
  | refine brT ?_ | refine brF ?_
  | (refine brS ?_ ?_ <;> intro hc <;> (try simp only [bls] at hc) <;> (try simp only [hc, bls]))
  | intro _ | refine And.intro ?_ ?_)
end Go.Rad
