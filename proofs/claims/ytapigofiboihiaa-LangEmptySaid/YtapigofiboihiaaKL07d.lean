/- The statements of layer 7: LangEmpty. -/
import Derived.Test.YtapigofiboihiaaKRSet
import Derived.Test.YtapigofiboihiaaKRNode
import Derived.Test.YtapigofiboihiaaRows
import Derived.Test.YtapigofiboihiaaKRRunC
set_option linter.all false
namespace Go.Rad
open Go Go.Proofs
set_option linter.all false
set_option maxRecDepth 20000
set_option maxHeartbeats 4000000

theorem subW_rest {w : ByteArray} {i j : Nat} (hi : i ≤ w.size) (hj : i + j ≤ w.size) : subW (w.extract i w.size) 0 j = subW w i (i + j) := by
  have h := bytesW_cut (w := w) (i := i) (k := w.size)
  unfold bytesW at h
  unfold subW at h ⊢
  rw [h, List.drop_zero, List.take_take]
  congr 1
  omega
/-- The ends from a place on are those of what is there, further on. -/
theorem endT_rest {w : ByteArray} {f : Fo} (hd : f.deg = 1) (hs : f.shapeF = true) {i : Nat} (hi : i ≤ w.size) : endT w f i = (endT (w.extract i w.size) f 0).map (· + (i : Int)) := by
  refine rise_ext (endT_rise _ _ _) ?_ fun x => ?_
  · rw [List.pairwise_map]
    exact (endT_rise _ _ _).imp fun h => by omega
  · have hsz : (w.extract i w.size).size = w.size - i := by rw [ByteArray.size_extract]; omega
    simp only [List.mem_map, endT_mem hd hs, hsz]
    constructor
    · rintro ⟨k, rfl, h1, h2, h3⟩
      refine ⟨(k - i : Nat), ⟨k - i, rfl, Nat.zero_le _, by omega, ?_⟩, by omega⟩
      rw [subW_rest hi (by omega), show i + (k - i) = k by omega]
      exact h3
    · rintro ⟨y, ⟨k, rfl, _, h2, h3⟩, rfl⟩
      refine ⟨i + k, by omega, by omega, by omega, ?_⟩
      rw [subW_rest hi (by omega)] at h3
      exact h3
theorem head_nul {E : List Int} {fr : Int} {e0 : Int} (hs : E.Pairwise (· < ·)) (hf : ∀ x ∈ E, fr ≤ x) (h0 : E[0]? = some e0) : (e0 = fr) ↔ fr ∈ E := by
  constructor
  · rintro rfl; exact List.mem_of_getElem? h0
  · intro h
    match E, h0 with
    | x :: E, h0 =>
      simp only [List.getElem?_cons_zero, Option.some.injEq] at h0
      subst h0
      have h1 := hf x (by simp)
      rcases List.mem_cons.1 h with h | h
      · exact h.symm
      · have := (List.pairwise_cons.1 hs).1 fr h; omega
theorem langEmpty_c (l : List Node) (w : ByteArray) (at' : Int) (hl : l.length ≤ maxLen) (hn : ∀ n ∈ l, nodeFit n) (hw : w.size ≤ maxLen) (ha : fits .u8 at') :
    ACall Try.prog 6 [.sl true false (nodes l), .str w, .int .u8 at'] [] fun r _ => r = .bool true := by
  have ht := text7uc w hw
  have hy := cut_size (w := w) (n := 20)
  generalize w.extract 0 (min w.size 20) = y at ht hy
  clear hw
  obtain ⟨p, rfl, hp2⟩ := fits8 ha
  have a0 : (y.size : Int) + 1 = ((y.size + 1 : Nat) : Int) := by omega
  have a1 := tmod_nat p (y.size + 1)
  have a2 : ¬ ((y.size + 1 : Nat) : Int) = 0 := by omega
  have a3 : IntKind.i64.wrap (p : Int) = (p : Int) := wr_i64n (by omega)
  have b1 : p % (y.size + 1) < y.size + 1 := Nat.mod_lt _ (by omega)
  generalize p % (y.size + 1) = fr at a1 b1
  clear ha
  by_cases hgl : l.length ≤ 30 ∧ plainS l = true
  · have hg1 := good7uc l hn hgl.1 hgl.2
    obtain ⟨f, tf⟩ := Tree7.of hn hgl.1 hgl.2
    have hz : f.size ≤ 30 := by rw [← Fo.lay_len f 0, ← tf.lay]; exact tf.size
    have hwf : ∀ n ∈ f.lay 0, ∀ k, 0 ≤ n.s.word k := by rw [← tf.lay]; exact tf.words
    have hy2 : (y.extract fr y.size).size ≤ 900000 := by rw [ByteArray.size_extract]; omega
    have hE := endsTop_c (w := y) (by omega) false f tf.deg tf.shape (by omega) tf.six hwf fr (by omega)
    have hR := endsTop_c hy2 false f tf.deg tf.shape (by omega) tf.six hwf 0 (Nat.zero_le _)
    have hN := nulTop_c (f := false) tf.deg tf.shape (by omega) tf.six
    have hI := fun (k : Nat) (hk : k ≤ y.size) => isTree_c (f := f) (w := y.extract fr k) tf.deg tf.shape (by omega) tf.six hwf (by rw [ByteArray.size_extract]; omega)
    have hmem := endT_mem (w := y) tf.deg tf.shape fr
    have hnul := nulT_iff tf.deg tf.shape tf.six
    have hrise := endT_rise y f fr
    have hlen := endT_len (w := y) tf.deg fr
    have hrest := endT_rest (w := y) tf.deg tf.shape (i := fr) (by omega)
    have hIt : ∀ k : Nat, (k : Int) ∈ endT y f fr → isT (y.extract fr k) f = true := fun k hk => by
      obtain ⟨k', e, _, _, h⟩ := (hmem k).1 hk
      rw [isT_iff tf.deg tf.shape, bytesW_cut, show k = k' by omega]; exact h
    have hfr : ∀ x ∈ endT y f fr, ∃ k : Nat, x = k ∧ fr ≤ k ∧ k ≤ y.size := fun x hx => by
      obtain ⟨k, e, h1, h2, _⟩ := (hmem x).1 hx; exact ⟨k, e, h1, h2⟩
    have hnu : nulT f = true ↔ (fr : Int) ∈ endT y f fr := by
      rw [hnul, hmem]
      constructor
      · intro h; exact ⟨fr, rfl, Nat.le_refl _, by omega, by rw [subW_nil]; exact h⟩
      · rintro ⟨k, e, _, _, h⟩
        rw [show k = fr by omega, subW_nil] at h; exact h
    rw [← endT] at hE hR
    rw [← tf.lay] at hE hR hN
    simp only [← tf.lay] at hI
    clear hmem hnul hwf hz tf
    have hL := longest_c hE (by omega) fun x hx => by obtain ⟨k, rfl, h, _⟩ := hfr x hx; omega
    obtain ⟨y2, hy2'⟩ : ∃ t, y.extract fr y.size = t := ⟨_, rfl⟩
    rw [hy2'] at hR hrest hy2
    generalize endT y2 f 0 = R at hR hrest
    generalize endT y f fr = E at hE hL hrise hlen hrest hIt hfr hnu
    generalize nulT f = nu at hN hnu
    have c3 : (0 : Int) ≤ fr := by omega
    have c4 : fr ≤ y.size := by omega
    have c5 : fr ≤ y.size ∧ y.size ≤ y.size := ⟨c4, Nat.le_refl _⟩
    have hRl : R.length = E.length := by rw [hrest]; simp
    refine ACall.enter Try.func6 rfl (by kernel_rfl) (Nat.le_of_ble_eq_true rfl) ?_; simp only [initTm, Nat.reduceAdd]
    apply hv0
    case main =>
      intro key
      repeat' (first
  | refine gSq ?_ | refine gSk ?_ | refine gBl ?_ | refine gIb ?_ | refine gEx rfl ?_
  | ((first
  | (refine gRg [] [0, 1, 2, 6, 7, 8, 9, 10, 11, 12, 13, 14, 15, 27, 42, 44, 45, 46, 58] ?_; intro K hK)
  | (refine gDr 13 [] 11 [0, 1, 2, 3, 4, 5, 6, 7, 8, 9, 10] [0, 1, 2, 6, 7, 8, 9, 10, 11, 12, 13, 14, 15, 27, 42, 44, 45, 46, 58] rfl ?_; intro K hK)
  | refine cAl (shown7uc) rfl rfl rfl ?_
  | refine cAl (ht) rfl rfl rfl ?_
  | refine cAl (hE) rfl rfl rfl ?_
  | refine cAl (hR) rfl rfl rfl ?_
  | (refine ACall.use [] [] rfl hg1 rfl rfl rfl ?_; rintro _ _ ⟨⟨b, rfl⟩, rfl⟩; refine ⟨.inl rfl, rfl, ?_⟩; simp only [bk, bk1, bkS, delAll, go_sem, simprocAttr])
  | (refine gd_split ?_ ?_ <;> intro hb <;> (try simp only [bls] at hb) <;> (try simp only [hb]))
  | refine gRt [] [.tmp 6] rfl ?_ | refine gDn [] [.tmp 6] rfl ?_) <;> (try simp only [go_sem, simprocAttr, a0, a1, a2, a3, c3, c4, hy2', hRl]))
  | (refine hK _ _ ?_; clear hK K; simp only [go_sem, simprocAttr])
  | refine gCd (by simp only [go_sem, simprocAttr]; rfl) rfl ?_
  | refine brT ?_ | refine brF ?_
  | (refine brS ?_ ?_ <;> intro hc <;> (try simp only [bls] at hc) <;> (try simp only [hc, bls]))
  | intro _ | refine And.intro ?_ ?_)
      all_goals first | omega | (unfold bigLen; omega) | exact ⟨_, _, ⟨rfl, rfl⟩, rfl⟩ | exact ⟨_, rfl⟩ | (rename_i hy; simp only [List.mem_singleton] at hy; subst hy; rfl) | with_reducible rfl | skip
      refine AGood.prune [0, 6, 7, 8, 9, 10, 11, 44, 45] ?_; simp only [go_sem, simprocAttr]
      refine AGood.loopInv (α := Nat) (fun i => ([(0, .sl true false (nodes l)), (6, .bool false), (7, .bool true), (8, .str y), (9, .int .i64 fr), (10, .sl true false (ints E)), (11, .sl true false (ints R)), (44, .int .i64 E.length), (45, .int .i64 i)], [])) (fun i => i ≤ E.length) (fun i => E.length - i) 0 (Nat.zero_le _) rfl ?_
      rintro i hi ih
      simp only at hi ih ⊢
      by_cases hle : i < E.length
      · have f4 : (i : Int) < E.length := by omega
        have f4' : (i : Int) < R.length := by omega
        have f5 : (0 : Int) ≤ i := by omega
        have f6 : (i : Int) + 1 = ((i + 1 : Nat) : Int) := by omega
        obtain ⟨r, hr⟩ : ∃ r, R[i]? = some r := ⟨_, List.getElem?_eq_getElem (show i < R.length by omega)⟩
        have he : E[i]? = some (r + (fr : Int)) := by rw [hrest, List.getElem?_map, hr]; rfl
        have hbd := hfr _ (List.mem_of_getElem? he)
        have hbd : 0 ≤ r + fr ∧ r + fr ≤ 20 := by obtain ⟨k, h1, h2, h3⟩ := hbd; omega
        repeat' (first
  | refine gSq ?_ | refine gSk ?_ | refine gBl ?_ | refine gIb ?_ | refine gEx rfl ?_
  | ((first
  | (refine gRg [] [0, 1, 2, 6, 7, 8, 9, 10, 11, 12, 13, 14, 15, 27, 42, 44, 45, 46, 58] ?_; intro K hK)
  | (refine gDr 13 [] 11 [0, 1, 2, 3, 4, 5, 6, 7, 8, 9, 10] [0, 1, 2, 6, 7, 8, 9, 10, 11, 12, 13, 14, 15, 27, 42, 44, 45, 46, 58] rfl ?_; intro K hK)
  | (refine gd_split ?_ ?_ <;> intro hb <;> (try simp only [bls] at hb) <;> (try simp only [hb]))
  | refine gRt [] [.tmp 6] rfl ?_ | refine gDn [] [.tmp 6] rfl ?_) <;> (try simp only [go_sem, simprocAttr, f4, f4', f5, f6, hr, he, Option.some.injEq, forall_eq']))
  | (refine hK _ _ ?_; clear hK K; simp only [go_sem, simprocAttr])
  | refine gCd (by simp only [go_sem, simprocAttr]; rfl) rfl ?_
  | refine brT ?_ | refine brF ?_
  | (refine brS ?_ ?_ <;> intro hc <;> (try simp only [bls] at hc) <;> (try simp only [hc, bls]))
  | intro _ | refine And.intro ?_ ?_)
        all_goals first | omega | (unfold bigLen; omega) | exact ⟨_, _, ⟨rfl, rfl⟩, rfl⟩ | exact ⟨_, rfl⟩ | (rename_i hy; simp only [List.mem_singleton] at hy; subst hy; rfl) | with_reducible rfl | skip
        refine AGood.filt [] ?_
        simp only [sf_cons, sf_nil, go_sem, simprocAttr]
        refine AGood.prune [0, 6, 7, 8, 9, 10, 11, 44, 45] ?_; simp only [go_sem, simprocAttr]
        exact (ih (i + 1) (by omega) (by omega)).cast rfl rfl
      · have f4 : ¬ (i : Int) < E.length := by omega
        clear ih
        repeat' (first
  | (refine AGood.at 16 ?_; (refine AGood.prune [0, 6, 7, 8, 9, 10] ?_; simp only [go_sem, simprocAttr]; refine stopI ?_))
  | refine gSq ?_ | refine gSk ?_ | refine gBl ?_ | refine gIb ?_ | refine gEx rfl ?_
  | ((first
  | (refine gRg [] [0, 1, 2, 6, 7, 8, 9, 10, 11, 12, 13, 14, 15, 27, 42, 44, 45, 46, 58] ?_; intro K hK)
  | (refine gDr 13 [] 11 [0, 1, 2, 3, 4, 5, 6, 7, 8, 9, 10] [0, 1, 2, 6, 7, 8, 9, 10, 11, 12, 13, 14, 15, 27, 42, 44, 45, 46, 58] rfl ?_; intro K hK)
  | (refine gd_split ?_ ?_ <;> intro hb <;> (try simp only [bls] at hb) <;> (try simp only [hb]))
  | refine gRt [] [.tmp 6] rfl ?_ | refine gDn [] [.tmp 6] rfl ?_) <;> (try simp only [go_sem, simprocAttr, f4]))
  | (refine hK _ _ ?_; clear hK K; simp only [go_sem, simprocAttr])
  | refine gCd (by simp only [go_sem, simprocAttr]; rfl) rfl ?_
  | refine brT ?_ | refine brF ?_
  | (refine brS ?_ ?_ <;> intro hc <;> (try simp only [bls] at hc) <;> (try simp only [hc, bls]))
  | intro _ | refine And.intro ?_ ?_)
        refine stopE ?_; exact key.out
    case key =>
      clear hE hR hrest hRl
      cases hm : E.length with
      | zero =>
        have h0 : E = [] := List.length_eq_zero_iff.1 hm
        subst h0
        have hn0 : nu = false := by cases h : nu; rfl; exact absurd (hnu.1 h) (by simp)
        subst hn0
        rw [long_nil] at hL
        repeat' (first
  | refine gSq ?_ | refine gSk ?_ | refine gBl ?_ | refine gIb ?_ | refine gEx rfl ?_
  | ((first
  | (refine gRg [] [0, 1, 2, 6, 7, 8, 9, 10, 11, 12, 13, 14, 15, 27, 42, 44, 45, 46, 58] ?_; intro K hK)
  | (refine gDr 13 [] 11 [0, 1, 2, 3, 4, 5, 6, 7, 8, 9, 10] [0, 1, 2, 6, 7, 8, 9, 10, 11, 12, 13, 14, 15, 27, 42, 44, 45, 46, 58] rfl ?_; intro K hK)
  | refine cAl (hL) rfl rfl rfl ?_
  | refine cAl (hN) rfl rfl rfl ?_
  | (refine gd_split ?_ ?_ <;> intro hb <;> (try simp only [bls] at hb) <;> (try simp only [hb]))
  | refine gRt [] [.tmp 6] rfl ?_ | refine gDn [] [.tmp 6] rfl ?_) <;> (try simp only [go_sem, simprocAttr, beq_self_eq_true]))
  | (refine hK _ _ ?_; clear hK K; simp only [go_sem, simprocAttr])
  | refine gCd (by simp only [go_sem, simprocAttr]; rfl) rfl ?_
  | refine brT ?_ | refine brF ?_
  | (refine brS ?_ ?_ <;> intro hc <;> (try simp only [bls] at hc) <;> (try simp only [hc, bls]))
  | intro _ | refine And.intro ?_ ?_)
        all_goals first | omega | (unfold bigLen; omega) | exact ⟨_, _, ⟨rfl, rfl⟩, rfl⟩ | exact ⟨_, rfl⟩ | (rename_i hy; simp only [List.mem_singleton] at hy; subst hy; rfl) | with_reducible rfl | skip
      | succ m =>
        obtain ⟨x, hx⟩ : ∃ x, E[m]? = some x := ⟨_, List.getElem?_eq_getElem (show m < E.length by omega)⟩
        obtain ⟨e0, h0⟩ : ∃ x, E[0]? = some x := ⟨_, List.getElem?_eq_getElem (show 0 < E.length by omega)⟩
        obtain ⟨k, hk1, hk2, hk3⟩ := hfr x (List.mem_of_getElem? hx)
        obtain ⟨k0, g1, g2, g3⟩ := hfr e0 (List.mem_of_getElem? h0)
        have hhd := head_nul (fr := (fr : Int)) hrise (fun x hx => by obtain ⟨k, rfl, h, _⟩ := hfr x hx; omega) h0
        rw [long_last hm hx] at hL
        have e1 : (0 : Int) < E.length := by omega
        have e2 : ¬ (E.length : Int) = 0 := by omega
        by_cases c : x ≤ fr
        · have hm0 : m = 0 := by
            rcases Nat.eq_zero_or_pos m with h | h
            · exact h
            · obtain ⟨q1, q2⟩ := List.getElem?_eq_some_iff.1 h0
              obtain ⟨q3, q4⟩ := List.getElem?_eq_some_iff.1 hx
              have := List.pairwise_iff_getElem.1 hrise 0 m q1 q3 h
              omega
          subst hm0
          have hxe : x = e0 := by rw [hx] at h0; exact Option.some.inj h0
          have he : e0 = fr := by omega
          have hn1 : nu = true := hnu.2 (hhd.1 he)
          subst hn1
          rw [if_pos c] at hL
          have e3 : (E.length : Int) = 1 := by omega
          repeat' (first
  | refine gSq ?_ | refine gSk ?_ | refine gBl ?_ | refine gIb ?_ | refine gEx rfl ?_
  | ((first
  | (refine gRg [] [0, 1, 2, 6, 7, 8, 9, 10, 11, 12, 13, 14, 15, 27, 42, 44, 45, 46, 58] ?_; intro K hK)
  | (refine gDr 13 [] 11 [0, 1, 2, 3, 4, 5, 6, 7, 8, 9, 10] [0, 1, 2, 6, 7, 8, 9, 10, 11, 12, 13, 14, 15, 27, 42, 44, 45, 46, 58] rfl ?_; intro K hK)
  | refine cAl (hL) rfl rfl rfl ?_
  | refine cAl (hN) rfl rfl rfl ?_
  | (refine gd_split ?_ ?_ <;> intro hb <;> (try simp only [bls] at hb) <;> (try simp only [hb]))
  | refine gRt [] [.tmp 6] rfl ?_ | refine gDn [] [.tmp 6] rfl ?_) <;> (try simp only [go_sem, simprocAttr, beq_self_eq_true, e1, e2, eq_true e3, eq_true he, h0, Option.some.injEq, forall_eq']))
  | (refine hK _ _ ?_; clear hK K; simp only [go_sem, simprocAttr])
  | refine gCd (by simp only [go_sem, simprocAttr]; rfl) rfl ?_
  | refine brT ?_ | refine brF ?_
  | (refine brS ?_ ?_ <;> intro hc <;> (try simp only [bls] at hc) <;> (try simp only [hc, bls]))
  | intro _ | refine And.intro ?_ ?_)
          all_goals first | omega | (unfold bigLen; omega) | exact ⟨_, _, ⟨rfl, rfl⟩, rfl⟩ | exact ⟨_, rfl⟩ | (rename_i hy; simp only [List.mem_singleton] at hy; subst hy; rfl) | with_reducible rfl | skip
        · rw [if_neg c] at hL
          have hi := hI k hk3
          rw [hIt k (by rw [← hk1]; exact List.mem_of_getElem? hx)] at hi
          obtain ⟨y3, hy3⟩ : ∃ t, y.extract fr k = t := ⟨_, rfl⟩
          rw [hy3] at hi
          rw [hk1] at hL c
          have c5 : (fr : Int) < k := by omega
          have c6 : (fr : Int) ≤ k := by omega
          have c7 : fr ≤ k := hk2
          have c8 : (0 : Int) ≤ k := by omega
          have c9 : k ≤ y.size := hk3
          by_cases he : e0 = fr
          · have hn1 : nu = true := hnu.2 (hhd.1 he)
            subst hn1
            repeat' (first
  | refine gSq ?_ | refine gSk ?_ | refine gBl ?_ | refine gIb ?_ | refine gEx rfl ?_
  | ((first
  | (refine gRg [] [0, 1, 2, 6, 7, 8, 9, 10, 11, 12, 13, 14, 15, 27, 42, 44, 45, 46, 58] ?_; intro K hK)
  | (refine gDr 13 [] 11 [0, 1, 2, 3, 4, 5, 6, 7, 8, 9, 10] [0, 1, 2, 6, 7, 8, 9, 10, 11, 12, 13, 14, 15, 27, 42, 44, 45, 46, 58] rfl ?_; intro K hK)
  | refine cAl (hL) rfl rfl rfl ?_
  | refine cAl (hN) rfl rfl rfl ?_
  | refine cAl (hi) rfl rfl rfl ?_
  | (refine gd_split ?_ ?_ <;> intro hb <;> (try simp only [bls] at hb) <;> (try simp only [hb]))
  | refine gRt [] [.tmp 6] rfl ?_ | refine gDn [] [.tmp 6] rfl ?_) <;> (try simp only [go_sem, simprocAttr, beq_self_eq_true, e1, e2, c3, c4, c5, c6, c7, c8, c9, hy3, eq_true he, h0, Option.some.injEq, forall_eq']))
  | (refine hK _ _ ?_; clear hK K; simp only [go_sem, simprocAttr])
  | refine gCd (by simp only [go_sem, simprocAttr]; rfl) rfl ?_
  | refine brT ?_ | refine brF ?_
  | (refine brS ?_ ?_ <;> intro hc <;> (try simp only [bls] at hc) <;> (try simp only [hc, bls]))
  | intro _ | refine And.intro ?_ ?_)
            all_goals first | omega | (unfold bigLen; omega) | exact ⟨_, _, ⟨rfl, rfl⟩, rfl⟩ | exact ⟨_, rfl⟩ | (rename_i hy; simp only [List.mem_singleton] at hy; subst hy; rfl) | with_reducible rfl | skip
          · have hn0 : nu = false := by cases h : nu; rfl; exact absurd (hhd.2 (hnu.1 h)) he
            subst hn0
            repeat' (first
  | refine gSq ?_ | refine gSk ?_ | refine gBl ?_ | refine gIb ?_ | refine gEx rfl ?_
  | ((first
  | (refine gRg [] [0, 1, 2, 6, 7, 8, 9, 10, 11, 12, 13, 14, 15, 27, 42, 44, 45, 46, 58] ?_; intro K hK)
  | (refine gDr 13 [] 11 [0, 1, 2, 3, 4, 5, 6, 7, 8, 9, 10] [0, 1, 2, 6, 7, 8, 9, 10, 11, 12, 13, 14, 15, 27, 42, 44, 45, 46, 58] rfl ?_; intro K hK)
  | refine cAl (hL) rfl rfl rfl ?_
  | refine cAl (hN) rfl rfl rfl ?_
  | refine cAl (hi) rfl rfl rfl ?_
  | (refine gd_split ?_ ?_ <;> intro hb <;> (try simp only [bls] at hb) <;> (try simp only [hb]))
  | refine gRt [] [.tmp 6] rfl ?_ | refine gDn [] [.tmp 6] rfl ?_) <;> (try simp only [go_sem, simprocAttr, beq_self_eq_true, e1, e2, c3, c4, c5, c6, c7, c8, c9, hy3, he, h0, Option.some.injEq, forall_eq']))
  | (refine hK _ _ ?_; clear hK K; simp only [go_sem, simprocAttr])
  | refine gCd (by simp only [go_sem, simprocAttr]; rfl) rfl ?_
  | refine brT ?_ | refine brF ?_
  | (refine brS ?_ ?_ <;> intro hc <;> (try simp only [bls] at hc) <;> (try simp only [hc, bls]))
  | intro _ | refine And.intro ?_ ?_)
            all_goals first | omega | (unfold bigLen; omega) | exact ⟨_, _, ⟨rfl, rfl⟩, rfl⟩ | exact ⟨_, rfl⟩ | (rename_i hy; simp only [List.mem_singleton] at hy; subst hy; rfl) | with_reducible rfl | skip
  · have hg1 := good7No_c l hl hn hgl
    refine ACall.enter Try.func6 rfl (by kernel_rfl) (Nat.le_of_ble_eq_true rfl) ?_; simp only [initTm, Nat.reduceAdd]
    repeat' (first
  | refine gSq ?_ | refine gSk ?_ | refine gBl ?_ | refine gIb ?_ | refine gEx rfl ?_
  | ((first
  | (refine gRg [] [0, 1, 2, 6, 7, 8, 9, 10, 11, 12, 13, 14, 15, 27, 42, 44, 45, 46, 58] ?_; intro K hK)
  | (refine gDr 13 [] 11 [0, 1, 2, 3, 4, 5, 6, 7, 8, 9, 10] [0, 1, 2, 6, 7, 8, 9, 10, 11, 12, 13, 14, 15, 27, 42, 44, 45, 46, 58] rfl ?_; intro K hK)
  | refine cAl (shown7uc) rfl rfl rfl ?_
  | refine cAl (ht) rfl rfl rfl ?_
  | refine cAl (hg1) rfl rfl rfl ?_
  | (refine gd_split ?_ ?_ <;> intro hb <;> (try simp only [bls] at hb) <;> (try simp only [hb]))
  | refine gRt [] [.tmp 6] rfl ?_ | refine gDn [] [.tmp 6] rfl ?_) <;> (try simp only [go_sem, simprocAttr, a0, a1, a2, a3]))
  | (refine hK _ _ ?_; clear hK K; simp only [go_sem, simprocAttr])
  | refine gCd (by simp only [go_sem, simprocAttr]; rfl) rfl ?_
  | refine brT ?_ | refine brF ?_
  | (refine brS ?_ ?_ <;> intro hc <;> (try simp only [bls] at hc) <;> (try simp only [hc, bls]))
  | intro _ | refine And.intro ?_ ?_)
    all_goals first | omega | (unfold bigLen; omega) | exact ⟨_, _, ⟨rfl, rfl⟩, rfl⟩ | exact ⟨_, rfl⟩ | (rename_i hy; simp only [List.mem_singleton] at hy; subst hy; rfl) | with_reducible rfl | skip
end Go.Rad
/- What the last texts of layer 8 share. -/
namespace Go.Rad
open Go Go.Proofs
theorem nodeT : NodeTy LL 38 := ⟨5, 36, 27, 3, 9, 34, rfl, rfl, rfl, rfl, rfl, rfl, rfl⟩
theorem ownF : ownKnob Try.prog.godebug = none := by kernel_rfl
theorem laidF : laidOutB Try.prog = true := by kernel_rfl
abbrev kks (i : IntKind) (l : List Int) : List (List AVal) := l.map fun n => [.int i n]
theorem ty_ks {L : Lay} {k t e : Nat} {y : List AVal} {i : IntKind} (ht : (L t).ty = .slice e) (he : (L e).ty = .int i) (h : typed L (k + 2) t y) : ∃ l : List Int, y = [.sl true false (kks i l)] ∧ l.length ≤ maxLen ∧ ∀ n ∈ l, fits i n := by
  obtain ⟨l, rfl, hl, hx⟩ := ty_slice ht h
  obtain ⟨ns, rfl, hf⟩ := list_of (F := fun n => [AVal.int i n]) (P := fun n => fits i n) fun x hx' => by
    obtain ⟨n, rfl, hf⟩ := ty_int he (hx x hx')
    exact ⟨n, rfl, hf⟩
  exact ⟨ns, rfl, by simpa using hl, hf⟩
end Go.Rad
