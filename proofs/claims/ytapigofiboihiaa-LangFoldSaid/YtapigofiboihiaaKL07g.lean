/- The statements of layer 7: LangFold. -/
import Derived.Test.YtapigofiboihiaaKRSet
import Derived.Test.YtapigofiboihiaaKRNode
import Derived.Test.YtapigofiboihiaaRows
import Derived.Test.YtapigofiboihiaaKRRunC
set_option linter.all false
namespace Go.Rad
open Go Go.Proofs
set_option linter.all false
set_option maxRecDepth 20000
set_option maxHeartbeats 4000000

theorem strOf_V : ∀ bs : List Nat, strOf (bytesL bs) = some (bs.map UInt8.ofNat)
  | [] => rfl
  | c :: bs => by
    have ih := strOf_V bs
    show strOf ([.int .u8 (c : Int)] :: bytesL bs) = _
    rw [strOf_cons, ih]
    rfl
theorem bytesW_V {bs : List Nat} (h : ∀ c ∈ bs, c < 256) : bytesW ⟨(bs.map UInt8.ofNat).toArray⟩ = bs := by
  unfold bytesW
  simp only [List.map_map]
  conv => rhs; rw [← List.map_id bs]
  refine List.map_congr_left fun c hc => ?_
  have := h c hc
  simp only [Function.comp, id, UInt8.toNat_ofNat']
  omega
theorem xor_lo : ∀ c : Nat, c < 256 → 97 ≤ c → c ≤ 122 → bitsOf .xor .u8 (c : Int) 32 = ((c - 32 : Nat) : Int) := by decide +kernel
theorem xor_up : ∀ c : Nat, c < 256 → 65 ≤ c → c ≤ 90 → bitsOf .xor .u8 (c : Int) 32 = ((c + 32 : Nat) : Int) := by decide +kernel
theorem simW_of : ∀ {u v : List Nat}, v.length = u.length → (∀ (j c d : Nat), u[j]? = some c → v[j]? = some d → simB c d) → simW u v
  | [], [], _, _ => trivial
  | [], _ :: _, h, _ => by simp at h
  | _ :: _, [], h, _ => by simp at h
  | c :: u, d :: v, h, hj => ⟨hj 0 c d rfl rfl, simW_of (by simpa using h) fun j x y h1 h2 => hj (j + 1) x y (by simpa using h1) (by simpa using h2)⟩
theorem langFold_c (l : List Node) (w : ByteArray) (tn : Int) (hl : l.length ≤ maxLen) (hn : ∀ n ∈ l, nodeFit n) (hw : w.size ≤ maxLen) (htn : fits .u32 tn) :
    ACall Try.prog 9 [.sl true false (nodes l), .str w, .int .u32 tn] [] fun r _ => r = .bool true := by
  have ht := text7uc w hw
  have hy : (w.extract 0 (min w.size 20)).size ≤ 20 := by rw [ByteArray.size_extract]; omega
  generalize w.extract 0 (min w.size 20) = y at ht hy
  clear hw
  by_cases hgl : l.length ≤ 30 ∧ plainS l = true
  · have hg1 := good7uc l hn hgl.1 hgl.2
    obtain ⟨f, tf⟩ := Tree7.of hn hgl.1 hgl.2
    have hz : f.size ≤ 30 := by rw [← Fo.lay_len f 0, ← tf.lay]; exact tf.size
    have hwf : ∀ n ∈ f.lay 0, ∀ k, 0 ≤ n.s.word k := by rw [← tf.lay]; exact tf.words
    have hok : allS ISet.okI f := lay_allS f 0 fun n h => (hn n (by rw [tf.lay]; exact h)).2
    have hwF : ∀ n ∈ (fdF f).lay 0, ∀ k, 0 ≤ n.s.word k := by
      rw [fdF_lay]
      intro n h k
      obtain ⟨m, _, rfl⟩ := List.mem_map.1 h
      show 0 ≤ (fdI m.s).word k
      unfold fdI ISet.word
      split <;> exact Int.natCast_nonneg _
    have dF : (fdF f).deg = 1 := by rw [fdF, (mapS_deg fdI f).1]; exact tf.deg
    have sF : (fdF f).shapeF = true := by rw [fdF, fd_shape f hok]; exact tf.shape
    have zF : (fdF f).size ≤ 30 := by rw [fdF, (mapS_deg fdI f).2]; exact hz
    have nF : no6 (fdF f) = true := by rw [fdF, fd_no6]; exact tf.six
    have hI1 := fun (x : ByteArray) (hx : x.size ≤ 20) => isTree_c (f := fdF f) (w := x) dF sF (by omega) nF hwF (by omega)
    have hI3 := isTree_c (f := f) (w := y) tf.deg tf.shape (by omega) tf.six hwf (by omega)
    have hlaw := fun (z : ByteArray) h => fold_law (f := f) (y := y) (z := z) tf.deg tf.shape hok h
    rw [fdF_lay] at hI1
    have hr4 := right4uc true false l fun n h => (hn n h).1.symm
    have hr4t : right4 l = true := by have := hgl.2; rw [plainS, Bool.and_eq_true] at this; exact this.2
    rw [hr4t] at hr4
    have hkid : ∀ n ∈ l, n.l.length ≤ 1000000 := fun n h => by
      rw [← right_eq] at hr4t
      obtain ⟨i, hi⟩ := List.mem_iff_getElem?.1 h
      exact ((rightS_ok hr4t (fun n hn' => (hn n hn').1.1)).2 i n hi).2.1
    have hFo := foldR7uc true false l (by omega) (fun n h => ⟨(hn n h).1.1, hkid n h⟩) (fun n h => (hn n h).2) hr4
    rw [← tf.lay] at hI1 hI3
    clear hwf hwF hok dF sF zF nF hr4 hr4t hkid hz hgl hn
    generalize nodes (l.map fdN) = NF at hI1 hFo
    refine ACall.enter Try.func9 rfl (by kernel_rfl) (Nat.le_of_ble_eq_true rfl) ?_; simp only [initTm, Nat.reduceAdd]
    repeat' (first
  | (refine AGood.at 6 ?_; (refine stopI ?_))
  | refine gSq ?_ | refine gSk ?_ | refine gBl ?_ | refine gIb ?_ | refine gEx rfl ?_
  | ((first
  | (refine gRg [] [0, 1, 2, 6, 7, 8, 9, 10, 11, 12, 18, 24, 25, 26, 27, 52] ?_; intro K hK)
  | (refine gDr 13 [] 7 [0, 1, 2, 3, 5, 6, 7, 4, 8, 9, 10, 11, 12, 13, 14, 15, 16, 17, 18, 19, 20, 21, 22, 23] [0, 1, 2, 6, 7, 8, 9, 10, 11, 12, 18, 24, 25, 26, 27, 52] rfl ?_; intro K hK)
  | refine cAl (shown7uc) rfl rfl rfl ?_
  | refine cAl (ht) rfl rfl rfl ?_
  | refine cAl (hFo) rfl rfl rfl ?_
  | (refine ACall.use [] [] rfl hg1 rfl rfl rfl ?_; rintro _ _ ⟨⟨b, rfl⟩, rfl⟩; refine ⟨.inl rfl, rfl, ?_⟩; simp only [bk, bk2, bk1, bkS, delAll, go_sem, simprocAttr])
  | (refine gd_split ?_ ?_ <;> intro hb <;> (try simp only [bls] at hb) <;> (try simp only [hb]))
  | refine gRt [] [.tmp 6] rfl ?_ | refine gDn [] [.tmp 6] rfl ?_) <;> (try simp only [go_sem, simprocAttr]))
  | (refine hK _ _ ?_; clear hK K; simp only [go_sem, simprocAttr])
  | refine gCd (by simp only [go_sem, simprocAttr]; rfl) rfl ?_
  | refine brT ?_ | refine brF ?_
  | (refine brS ?_ ?_ <;> intro hc <;> (try simp only [bls] at hc) <;> (try simp only [hc, bls]))
  | intro _ | refine And.intro ?_ ?_)
    all_goals first | omega | (unfold bigLen; omega) | exact ⟨_, _, ⟨rfl, rfl⟩, rfl⟩ | exact ⟨_, rfl⟩ | (rename_i hy; simp only [List.mem_singleton] at hy; subst hy; rfl) | with_reducible rfl | skip
    refine stopE ?_
    refine gPt 6 ?_
    refine gSg [] 0 1 1 [0, 1, 2, 6, 7, 8, 9, 10, 11, 12, 18, 22, 24, 25, 26, 27, 52] rfl ?_
    intro K hK
    simp only [go_sem, simprocAttr]
    refine hK _ _ ?_
    clear hK K
    simp only [go_sem, simprocAttr]
    refine RGood.bytes LL_ok (i := 1) rfl (by decide) rfl rfl rfl rfl rfl (by unfold bigLen; omega) ?_
    intro g23
    simp only [go_sem, simprocAttr]
    refine gSg [] 2 1 3 [0, 1, 2, 6, 7, 8, 9, 10, 11, 12, 18, 24, 25, 26, 27, 52] rfl ?_
    intro K hK
    simp only [go_sem, simprocAttr]
    refine hK _ _ ?_
    clear hK K
    simp only [go_sem, simprocAttr]
    refine gFn 3 [0, 1, 2, 6, 7, 8, 9, 10, 11, 12, 18, 24, 25, 26, 27, 52] rfl ?_
    simp only [go_sem, simprocAttr]
    obtain ⟨B, hB⟩ : ∃ B, B = bytesW y := ⟨_, rfl⟩
    have hBl : B.length = y.size := by rw [hB]; exact bytes_len y
    have hBb : ∀ c ∈ B, c < 256 := fun c hc => by
      rw [hB] at hc
      obtain ⟨x, _, rfl⟩ := List.mem_map.1 hc
      exact x.toNat_lt
    have hBT : bytesT y = bytesL B := by rw [hB]; rfl
    simp only [hBT]
    rw [← hB] at hlaw
    repeat' (first
  | refine gSq ?_ | refine gSk ?_ | refine gBl ?_ | refine gIb ?_ | refine gEx rfl ?_
  | ((first
  | (refine gRg [] [0, 1, 2, 6, 7, 8, 9, 10, 11, 12, 18, 24, 25, 26, 27, 52] ?_; intro K hK)
  | (refine gDr 13 [] 7 [0, 1, 2, 3, 5, 6, 7, 4, 8, 9, 10, 11, 12, 13, 14, 15, 16, 17, 18, 19, 20, 21, 22, 23] [0, 1, 2, 6, 7, 8, 9, 10, 11, 12, 18, 24, 25, 26, 27, 52] rfl ?_; intro K hK)
  | (refine gd_split ?_ ?_ <;> intro hb <;> (try simp only [bls] at hb) <;> (try simp only [hb]))
  | refine gRt [] [.tmp 6] rfl ?_ | refine gDn [] [.tmp 6] rfl ?_) <;> (try simp only [go_sem, simprocAttr]))
  | (refine hK _ _ ?_; clear hK K; simp only [go_sem, simprocAttr])
  | refine gCd (by simp only [go_sem, simprocAttr]; rfl) rfl ?_
  | refine brT ?_ | refine brF ?_
  | (refine brS ?_ ?_ <;> intro hc <;> (try simp only [bls] at hc) <;> (try simp only [hc, bls]))
  | intro _ | refine And.intro ?_ ?_)
    all_goals first | omega | (unfold bigLen; omega) | exact ⟨_, _, ⟨rfl, rfl⟩, rfl⟩ | exact ⟨_, rfl⟩ | (rename_i hy; simp only [List.mem_singleton] at hy; subst hy; rfl) | with_reducible rfl | skip
    refine AGood.prune [0, 2, 6, 7, 8, 9, 10, 24, 25, 26] ?_; simp only [go_sem, simprocAttr]
    refine AGood.loopInv (α := Nat × List Nat) (fun z => ([(0, .sl true false (nodes l)), (2, .int .u32 tn), (6, .bool false), (7, .bool true), (8, .str y), (9, .sl true false NF), (10, .osl 23 g23 0 y.size), (24, .osl 23 g23 0 y.size), (25, .int .i64 y.size), (26, .int .i64 z.1)], [(23, (g23, .row 1 (bytesL z.2)))]))
      (fun z => z.1 ≤ y.size ∧ z.2.length = y.size ∧ (∀ c ∈ z.2, c < 256) ∧ (∀ j, z.1 ≤ j → z.2[j]? = B[j]?) ∧ ∀ (j c d : Nat), B[j]? = some c → z.2[j]? = some d → simB c d) (fun z => y.size - z.1) (0, B)
      ⟨Nat.zero_le _, hBl, hBb, fun j _ => rfl, fun j c d h1 h2 => by rw [h1] at h2; cases h2; exact .inl rfl⟩ rfl ?_
    rintro ⟨i, V⟩ ⟨hi, hVl, hVb, hVr, hVs⟩ ih
    simp only at hi hVl hVb hVr hVs ih ⊢
    have hTl : (bytesL V).length = y.size := by simp [hVl]
    by_cases hle : i < y.size
    · have f4 : (i : Int) < y.size := by omega
      have f5 : (0 : Int) ≤ i := by omega
      have f6 : (i : Int) + 1 = ((i + 1 : Nat) : Int) := by omega
      have f7 := tmod_nat i 32
      have f8 : (0 : Int) ≤ ((i % 32 : Nat) : Int) := by omega
      simp only [Int.cast_ofNat_Int] at f7
      obtain ⟨c, hc⟩ : ∃ c, V[i]? = some c := ⟨_, List.getElem?_eq_getElem (by omega)⟩
      have hc2 := hVb c (List.mem_of_getElem? hc)
      have hcB : B[i]? = some c := by rw [← hVr i (Nat.le_refl _)]; exact hc
      have hv : (bytesL V)[i]? = some [.int .u8 (c : Int)] := by simp [bytesL, hc]
      have f9 : i < V.length := by omega
      by_cases k1 : 97 ≤ c ∧ c ≤ 122
      · have a1 : (97 : Int) ≤ c := by omega
        have a2 : (c : Int) ≤ 122 := by omega
        have a3 := xor_lo c hc2 k1.1 k1.2
        repeat' (first
  | refine gSq ?_ | refine gSk ?_ | refine gBl ?_ | refine gIb ?_ | refine gEx rfl ?_
  | ((first
  | (refine gRg [] [0, 1, 2, 6, 7, 8, 9, 10, 11, 12, 18, 24, 25, 26, 27, 52] ?_; intro K hK)
  | (refine gDr 13 [] 7 [0, 1, 2, 3, 5, 6, 7, 4, 8, 9, 10, 11, 12, 13, 14, 15, 16, 17, 18, 19, 20, 21, 22, 23] [0, 1, 2, 6, 7, 8, 9, 10, 11, 12, 18, 24, 25, 26, 27, 52] rfl ?_; intro K hK)
  | (refine gd_split ?_ ?_ <;> intro hb <;> (try simp only [bls] at hb) <;> (try simp only [hb]))
  | refine gRt [] [.tmp 6] rfl ?_ | refine gDn [] [.tmp 6] rfl ?_) <;> (try simp only [go_sem, simprocAttr, f4, f5, f6, f7, f8, f9, hc, hv, hTl, a1, a2, a3, Option.some.injEq, forall_eq']))
  | (refine hK _ _ ?_; clear hK K; simp only [go_sem, simprocAttr])
  | refine gCd (by simp only [go_sem, simprocAttr]; rfl) rfl ?_
  | refine brT ?_ | refine brF ?_
  | (refine brS ?_ ?_ <;> intro hc <;> (try simp only [bls] at hc) <;> (try simp only [hc, bls]))
  | intro _ | refine And.intro ?_ ?_)
        all_goals first | omega | (unfold bigLen; omega) | exact ⟨_, _, ⟨rfl, rfl⟩, rfl⟩ | exact ⟨_, rfl⟩ | (rename_i hy; simp only [List.mem_singleton] at hy; subst hy; rfl) | with_reducible rfl | skip
        · refine AGood.filt [23] ?_
          simp only [sf_cons, sf_nil, go_sem, simprocAttr]
          refine AGood.prune [0, 2, 6, 7, 8, 9, 10, 24, 25, 26] ?_; simp only [go_sem, simprocAttr]
          refine AGood.cast (ih (i + 1, V.set i (c - 32)) ⟨by simp only; omega, by simp only [List.length_set]; exact hVl, fun x hx => by
             rcases List.mem_or_eq_of_mem_set hx with h | rfl
             · exact hVb x h
             · omega, fun j hj => by
             simp only at hj ⊢
             rw [List.getElem?_set_ne (by omega)]; exact hVr j (by omega), fun j x d h1 h2 => by
             simp only at h2
             by_cases e : j = i
             · subst e
               rw [hcB] at h1
               rw [List.getElem?_set_self f9] at h2
               cases h1; cases h2
               exact .inr (.inl ⟨k1.1, k1.2, rfl⟩)
             · rw [List.getElem?_set_ne (by omega)] at h2; exact hVs j x d h1 h2⟩ (by simp only; omega)) rfl ?_
          simp [bytesL, List.map_set]
        · refine AGood.filt [23] ?_
          simp only [sf_cons, sf_nil, go_sem, simprocAttr]
          refine AGood.prune [0, 2, 6, 7, 8, 9, 10, 24, 25, 26] ?_; simp only [go_sem, simprocAttr]
          exact AGood.cast (ih (i + 1, V) ⟨by simp only; omega, hVl, hVb, fun j hj => hVr j (by simp only at hj; omega), hVs⟩ (by simp only; omega)) rfl rfl
      · by_cases k2 : 65 ≤ c ∧ c ≤ 90
        · have a1 : ¬ (97 : Int) ≤ c := by omega
          have a2 : (65 : Int) ≤ c := by omega
          have a3 : (c : Int) ≤ 90 := by omega
          have a4 := xor_up c hc2 k2.1 k2.2
          repeat' (first
  | refine gSq ?_ | refine gSk ?_ | refine gBl ?_ | refine gIb ?_ | refine gEx rfl ?_
  | ((first
  | (refine gRg [] [0, 1, 2, 6, 7, 8, 9, 10, 11, 12, 18, 24, 25, 26, 27, 52] ?_; intro K hK)
  | (refine gDr 13 [] 7 [0, 1, 2, 3, 5, 6, 7, 4, 8, 9, 10, 11, 12, 13, 14, 15, 16, 17, 18, 19, 20, 21, 22, 23] [0, 1, 2, 6, 7, 8, 9, 10, 11, 12, 18, 24, 25, 26, 27, 52] rfl ?_; intro K hK)
  | (refine gd_split ?_ ?_ <;> intro hb <;> (try simp only [bls] at hb) <;> (try simp only [hb]))
  | refine gRt [] [.tmp 6] rfl ?_ | refine gDn [] [.tmp 6] rfl ?_) <;> (try simp only [go_sem, simprocAttr, f4, f5, f6, f7, f8, f9, hc, hv, hTl, a1, a2, a3, a4, Option.some.injEq, forall_eq']))
  | (refine hK _ _ ?_; clear hK K; simp only [go_sem, simprocAttr])
  | refine gCd (by simp only [go_sem, simprocAttr]; rfl) rfl ?_
  | refine brT ?_ | refine brF ?_
  | (refine brS ?_ ?_ <;> intro hc <;> (try simp only [bls] at hc) <;> (try simp only [hc, bls]))
  | intro _ | refine And.intro ?_ ?_)
          all_goals first | omega | (unfold bigLen; omega) | exact ⟨_, _, ⟨rfl, rfl⟩, rfl⟩ | exact ⟨_, rfl⟩ | (rename_i hy; simp only [List.mem_singleton] at hy; subst hy; rfl) | with_reducible rfl | skip
          · refine AGood.filt [23] ?_
            simp only [sf_cons, sf_nil, go_sem, simprocAttr]
            refine AGood.prune [0, 2, 6, 7, 8, 9, 10, 24, 25, 26] ?_; simp only [go_sem, simprocAttr]
            refine AGood.cast (ih (i + 1, V.set i (c + 32)) ⟨by simp only; omega, by simp only [List.length_set]; exact hVl, fun x hx => by
               rcases List.mem_or_eq_of_mem_set hx with h | rfl
               · exact hVb x h
               · omega, fun j hj => by
               simp only at hj ⊢
               rw [List.getElem?_set_ne (by omega)]; exact hVr j (by omega), fun j x d h1 h2 => by
               simp only at h2
               by_cases e : j = i
               · subst e
                 rw [hcB] at h1
                 rw [List.getElem?_set_self f9] at h2
                 cases h1; cases h2
                 exact .inr (.inr ⟨k2.1, k2.2, rfl⟩)
               · rw [List.getElem?_set_ne (by omega)] at h2; exact hVs j x d h1 h2⟩ (by simp only; omega)) rfl ?_
            simp [bytesL, List.map_set]
          · refine AGood.filt [23] ?_
            simp only [sf_cons, sf_nil, go_sem, simprocAttr]
            refine AGood.prune [0, 2, 6, 7, 8, 9, 10, 24, 25, 26] ?_; simp only [go_sem, simprocAttr]
            exact AGood.cast (ih (i + 1, V) ⟨by simp only; omega, hVl, hVb, fun j hj => hVr j (by simp only at hj; omega), hVs⟩ (by simp only; omega)) rfl rfl
        · by_cases k3 : 97 ≤ c
          · have a1 : (97 : Int) ≤ c := by omega
            have a2 : ¬ (c : Int) ≤ 122 := by omega
            have a3 : (65 : Int) ≤ c := by omega
            have a4 : ¬ (c : Int) ≤ 90 := by omega
            repeat' (first
  | refine gSq ?_ | refine gSk ?_ | refine gBl ?_ | refine gIb ?_ | refine gEx rfl ?_
  | ((first
  | (refine gRg [] [0, 1, 2, 6, 7, 8, 9, 10, 11, 12, 18, 24, 25, 26, 27, 52] ?_; intro K hK)
  | (refine gDr 13 [] 7 [0, 1, 2, 3, 5, 6, 7, 4, 8, 9, 10, 11, 12, 13, 14, 15, 16, 17, 18, 19, 20, 21, 22, 23] [0, 1, 2, 6, 7, 8, 9, 10, 11, 12, 18, 24, 25, 26, 27, 52] rfl ?_; intro K hK)
  | (refine gd_split ?_ ?_ <;> intro hb <;> (try simp only [bls] at hb) <;> (try simp only [hb]))
  | refine gRt [] [.tmp 6] rfl ?_ | refine gDn [] [.tmp 6] rfl ?_) <;> (try simp only [go_sem, simprocAttr, f4, f5, f6, f7, f8, f9, hc, hv, hTl, a1, a2, a3, a4, Option.some.injEq, forall_eq']))
  | (refine hK _ _ ?_; clear hK K; simp only [go_sem, simprocAttr])
  | refine gCd (by simp only [go_sem, simprocAttr]; rfl) rfl ?_
  | refine brT ?_ | refine brF ?_
  | (refine brS ?_ ?_ <;> intro hc <;> (try simp only [bls] at hc) <;> (try simp only [hc, bls]))
  | intro _ | refine And.intro ?_ ?_)
            all_goals first | omega | (unfold bigLen; omega) | exact ⟨_, _, ⟨rfl, rfl⟩, rfl⟩ | exact ⟨_, rfl⟩ | (rename_i hy; simp only [List.mem_singleton] at hy; subst hy; rfl) | with_reducible rfl | skip
            all_goals
              refine AGood.filt [23] ?_
              simp only [sf_cons, sf_nil, go_sem, simprocAttr]
              refine AGood.prune [0, 2, 6, 7, 8, 9, 10, 24, 25, 26] ?_; simp only [go_sem, simprocAttr]
              exact AGood.cast (ih (i + 1, V) ⟨by simp only; omega, hVl, hVb, fun j hj => hVr j (by simp only at hj; omega), hVs⟩ (by simp only; omega)) rfl rfl
          · have a1 : ¬ (97 : Int) ≤ c := by omega
            by_cases k4 : 65 ≤ c
            · have a3 : (65 : Int) ≤ c := by omega
              have a4 : ¬ (c : Int) ≤ 90 := by omega
              repeat' (first
  | refine gSq ?_ | refine gSk ?_ | refine gBl ?_ | refine gIb ?_ | refine gEx rfl ?_
  | ((first
  | (refine gRg [] [0, 1, 2, 6, 7, 8, 9, 10, 11, 12, 18, 24, 25, 26, 27, 52] ?_; intro K hK)
  | (refine gDr 13 [] 7 [0, 1, 2, 3, 5, 6, 7, 4, 8, 9, 10, 11, 12, 13, 14, 15, 16, 17, 18, 19, 20, 21, 22, 23] [0, 1, 2, 6, 7, 8, 9, 10, 11, 12, 18, 24, 25, 26, 27, 52] rfl ?_; intro K hK)
  | (refine gd_split ?_ ?_ <;> intro hb <;> (try simp only [bls] at hb) <;> (try simp only [hb]))
  | refine gRt [] [.tmp 6] rfl ?_ | refine gDn [] [.tmp 6] rfl ?_) <;> (try simp only [go_sem, simprocAttr, f4, f5, f6, f7, f8, f9, hc, hv, hTl, a1, a3, a4, Option.some.injEq, forall_eq']))
  | (refine hK _ _ ?_; clear hK K; simp only [go_sem, simprocAttr])
  | refine gCd (by simp only [go_sem, simprocAttr]; rfl) rfl ?_
  | refine brT ?_ | refine brF ?_
  | (refine brS ?_ ?_ <;> intro hc <;> (try simp only [bls] at hc) <;> (try simp only [hc, bls]))
  | intro _ | refine And.intro ?_ ?_)
              all_goals first | omega | (unfold bigLen; omega) | exact ⟨_, _, ⟨rfl, rfl⟩, rfl⟩ | exact ⟨_, rfl⟩ | (rename_i hy; simp only [List.mem_singleton] at hy; subst hy; rfl) | with_reducible rfl | skip
              all_goals
                refine AGood.filt [23] ?_
                simp only [sf_cons, sf_nil, go_sem, simprocAttr]
                refine AGood.prune [0, 2, 6, 7, 8, 9, 10, 24, 25, 26] ?_; simp only [go_sem, simprocAttr]
                exact AGood.cast (ih (i + 1, V) ⟨by simp only; omega, hVl, hVb, fun j hj => hVr j (by simp only at hj; omega), hVs⟩ (by simp only; omega)) rfl rfl
            · have a3 : ¬ (65 : Int) ≤ c := by omega
              repeat' (first
  | refine gSq ?_ | refine gSk ?_ | refine gBl ?_ | refine gIb ?_ | refine gEx rfl ?_
  | ((first
  | (refine gRg [] [0, 1, 2, 6, 7, 8, 9, 10, 11, 12, 18, 24, 25, 26, 27, 52] ?_; intro K hK)
  | (refine gDr 13 [] 7 [0, 1, 2, 3, 5, 6, 7, 4, 8, 9, 10, 11, 12, 13, 14, 15, 16, 17, 18, 19, 20, 21, 22, 23] [0, 1, 2, 6, 7, 8, 9, 10, 11, 12, 18, 24, 25, 26, 27, 52] rfl ?_; intro K hK)
  | (refine gd_split ?_ ?_ <;> intro hb <;> (try simp only [bls] at hb) <;> (try simp only [hb]))
  | refine gRt [] [.tmp 6] rfl ?_ | refine gDn [] [.tmp 6] rfl ?_) <;> (try simp only [go_sem, simprocAttr, f4, f5, f6, f7, f8, f9, hc, hv, hTl, a1, a3, Option.some.injEq, forall_eq']))
  | (refine hK _ _ ?_; clear hK K; simp only [go_sem, simprocAttr])
  | refine gCd (by simp only [go_sem, simprocAttr]; rfl) rfl ?_
  | refine brT ?_ | refine brF ?_
  | (refine brS ?_ ?_ <;> intro hc <;> (try simp only [bls] at hc) <;> (try simp only [hc, bls]))
  | intro _ | refine And.intro ?_ ?_)
              all_goals first | omega | (unfold bigLen; omega) | exact ⟨_, _, ⟨rfl, rfl⟩, rfl⟩ | exact ⟨_, rfl⟩ | (rename_i hy; simp only [List.mem_singleton] at hy; subst hy; rfl) | with_reducible rfl | skip
              all_goals
                refine AGood.filt [23] ?_
                simp only [sf_cons, sf_nil, go_sem, simprocAttr]
                refine AGood.prune [0, 2, 6, 7, 8, 9, 10, 24, 25, 26] ?_; simp only [go_sem, simprocAttr]
                exact AGood.cast (ih (i + 1, V) ⟨by simp only; omega, hVl, hVb, fun j hj => hVr j (by simp only at hj; omega), hVs⟩ (by simp only; omega)) rfl rfl
    · have f4 : ¬ (i : Int) < y.size := by omega
      have hin : i = y.size := by omega
      clear ih
      have hz := bytesW_V hVb
      obtain ⟨z, hzz⟩ : ∃ z : ByteArray, z = ⟨(V.map UInt8.ofNat).toArray⟩ := ⟨_, rfl⟩
      rw [← hzz] at hz
      obtain ⟨w1, w2⟩ := hlaw z (by rw [hz]; exact simW_of (by omega) hVs)
      have hzs : z.size = V.length := by rw [hzz]; simp [ByteArray.size]
      have hIz := hI1 z (by omega)
      have hIy := hI1 y hy
      rw [w1] at hIy
      have z1 := strOf_V V
      have z2 : (bytesL V).take y.size = bytesL V := List.take_of_length_le (by omega)
      have z3 : y.size ≤ V.length := by omega
      generalize isT z (fdF f) = b1 at hIz hIy w2
      generalize isT y f = b2 at hI3 w2
      cases b1 <;> cases b2
      · repeat' (first
  | refine gSq ?_ | refine gSk ?_ | refine gBl ?_ | refine gIb ?_ | refine gEx rfl ?_
  | ((first
  | (refine AGood.at 13 ?_; (refine AGood.freeze 23 rfl ?_; simp only [rfT, rfS, rfO, rf, rf1, z2, z3, hTl, List.length_map, Nat.le_refl, true_and, go_sem, simprocAttr]); (refine gDr 13 [] 24 [0, 1, 2, 3, 4, 5, 6, 7, 8, 9, 10, 11, 12, 13, 14, 15, 16, 17, 18, 19, 20, 21, 22, 23] [0, 1, 2, 6, 7, 8, 9, 10, 11, 12, 18, 24, 25, 26, 27, 52] rfl ?_; intro K hK))
  | (refine gRg [] [0, 1, 2, 6, 7, 8, 9, 10, 11, 12, 18, 24, 25, 26, 27, 52] ?_; intro K hK)
  | refine ⟨_, ACall.alone (hIy) rfl rfl rfl, ?_⟩
  | refine ⟨_, ACall.alone (hIz) rfl rfl rfl, ?_⟩
  | refine ⟨_, ACall.alone (hI3) rfl rfl rfl, ?_⟩
  | (refine gd_split ?_ ?_ <;> intro hb <;> (try simp only [bls] at hb) <;> (try simp only [hb]))
  | refine gRt [] [.tmp 6] rfl ?_ | refine gDn [] [.tmp 6] rfl ?_) <;> (try simp only [go_sem, simprocAttr, f4, z1, ← hzz, exists_eq_left', Option.some.injEq, beq_self_eq_true]))
  | (refine hK _ _ ?_; clear hK K; simp only [go_sem, simprocAttr])
  | refine gCd (by simp only [go_sem, simprocAttr]; rfl) rfl ?_
  | refine brT ?_ | refine brF ?_
  | (refine brS ?_ ?_ <;> intro hc <;> (try simp only [bls] at hc) <;> (try simp only [hc, bls]))
  | intro _ | refine And.intro ?_ ?_)
        all_goals first | omega | (unfold bigLen; omega) | exact ⟨_, _, ⟨rfl, rfl⟩, rfl⟩ | exact ⟨_, rfl⟩ | (rename_i hy; simp only [List.mem_singleton] at hy; subst hy; rfl) | with_reducible rfl | skip
      · exact absurd (w2 rfl) (by decide)
      · repeat' (first
  | refine gSq ?_ | refine gSk ?_ | refine gBl ?_ | refine gIb ?_ | refine gEx rfl ?_
  | ((first
  | (refine AGood.at 13 ?_; (refine AGood.freeze 23 rfl ?_; simp only [rfT, rfS, rfO, rf, rf1, z2, z3, hTl, List.length_map, Nat.le_refl, true_and, go_sem, simprocAttr]); (refine gDr 13 [] 24 [0, 1, 2, 3, 4, 5, 6, 7, 8, 9, 10, 11, 12, 13, 14, 15, 16, 17, 18, 19, 20, 21, 22, 23] [0, 1, 2, 6, 7, 8, 9, 10, 11, 12, 18, 24, 25, 26, 27, 52] rfl ?_; intro K hK))
  | (refine gRg [] [0, 1, 2, 6, 7, 8, 9, 10, 11, 12, 18, 24, 25, 26, 27, 52] ?_; intro K hK)
  | refine ⟨_, ACall.alone (hIy) rfl rfl rfl, ?_⟩
  | refine ⟨_, ACall.alone (hIz) rfl rfl rfl, ?_⟩
  | refine ⟨_, ACall.alone (hI3) rfl rfl rfl, ?_⟩
  | (refine gd_split ?_ ?_ <;> intro hb <;> (try simp only [bls] at hb) <;> (try simp only [hb]))
  | refine gRt [] [.tmp 6] rfl ?_ | refine gDn [] [.tmp 6] rfl ?_) <;> (try simp only [go_sem, simprocAttr, f4, z1, ← hzz, exists_eq_left', Option.some.injEq, beq_self_eq_true]))
  | (refine hK _ _ ?_; clear hK K; simp only [go_sem, simprocAttr])
  | refine gCd (by simp only [go_sem, simprocAttr]; rfl) rfl ?_
  | refine brT ?_ | refine brF ?_
  | (refine brS ?_ ?_ <;> intro hc <;> (try simp only [bls] at hc) <;> (try simp only [hc, bls]))
  | intro _ | refine And.intro ?_ ?_)
        all_goals first | omega | (unfold bigLen; omega) | exact ⟨_, _, ⟨rfl, rfl⟩, rfl⟩ | exact ⟨_, rfl⟩ | (rename_i hy; simp only [List.mem_singleton] at hy; subst hy; rfl) | with_reducible rfl | skip
      · repeat' (first
  | refine gSq ?_ | refine gSk ?_ | refine gBl ?_ | refine gIb ?_ | refine gEx rfl ?_
  | ((first
  | (refine AGood.at 13 ?_; (refine AGood.freeze 23 rfl ?_; simp only [rfT, rfS, rfO, rf, rf1, z2, z3, hTl, List.length_map, Nat.le_refl, true_and, go_sem, simprocAttr]); (refine gDr 13 [] 24 [0, 1, 2, 3, 4, 5, 6, 7, 8, 9, 10, 11, 12, 13, 14, 15, 16, 17, 18, 19, 20, 21, 22, 23] [0, 1, 2, 6, 7, 8, 9, 10, 11, 12, 18, 24, 25, 26, 27, 52] rfl ?_; intro K hK))
  | (refine gRg [] [0, 1, 2, 6, 7, 8, 9, 10, 11, 12, 18, 24, 25, 26, 27, 52] ?_; intro K hK)
  | refine ⟨_, ACall.alone (hIy) rfl rfl rfl, ?_⟩
  | refine ⟨_, ACall.alone (hIz) rfl rfl rfl, ?_⟩
  | refine ⟨_, ACall.alone (hI3) rfl rfl rfl, ?_⟩
  | (refine gd_split ?_ ?_ <;> intro hb <;> (try simp only [bls] at hb) <;> (try simp only [hb]))
  | refine gRt [] [.tmp 6] rfl ?_ | refine gDn [] [.tmp 6] rfl ?_) <;> (try simp only [go_sem, simprocAttr, f4, z1, ← hzz, exists_eq_left', Option.some.injEq, beq_self_eq_true]))
  | (refine hK _ _ ?_; clear hK K; simp only [go_sem, simprocAttr])
  | refine gCd (by simp only [go_sem, simprocAttr]; rfl) rfl ?_
  | refine brT ?_ | refine brF ?_
  | (refine brS ?_ ?_ <;> intro hc <;> (try simp only [bls] at hc) <;> (try simp only [hc, bls]))
  | intro _ | refine And.intro ?_ ?_)
        all_goals first | omega | (unfold bigLen; omega) | exact ⟨_, _, ⟨rfl, rfl⟩, rfl⟩ | exact ⟨_, rfl⟩ | (rename_i hy; simp only [List.mem_singleton] at hy; subst hy; rfl) | with_reducible rfl | skip
  · have hg1 := good7No_c l hl hn hgl
    refine ACall.enter Try.func9 rfl (by kernel_rfl) (Nat.le_of_ble_eq_true rfl) ?_; simp only [initTm, Nat.reduceAdd]
    repeat' (first
  | refine gSq ?_ | refine gSk ?_ | refine gBl ?_ | refine gIb ?_ | refine gEx rfl ?_
  | ((first
  | (refine gRg [] [0, 1, 2, 6, 7, 8, 9, 10, 11, 12, 18, 24, 25, 26, 27, 52] ?_; intro K hK)
  | (refine gDr 13 [] 7 [0, 1, 2, 3, 5, 6, 7, 4, 8, 9, 10, 11, 12, 13, 14, 15, 16, 17, 18, 19, 20, 21, 22, 23] [0, 1, 2, 6, 7, 8, 9, 10, 11, 12, 18, 24, 25, 26, 27, 52] rfl ?_; intro K hK)
  | refine cAl (shown7uc) rfl rfl rfl ?_
  | refine cAl (ht) rfl rfl rfl ?_
  | refine cAl (hg1) rfl rfl rfl ?_
  | (refine gd_split ?_ ?_ <;> intro hb <;> (try simp only [bls] at hb) <;> (try simp only [hb]))
  | refine gRt [] [.tmp 6] rfl ?_ | refine gDn [] [.tmp 6] rfl ?_) <;> (try simp only [go_sem, simprocAttr]))
  | (refine hK _ _ ?_; clear hK K; simp only [go_sem, simprocAttr])
  | refine gCd (by simp only [go_sem, simprocAttr]; rfl) rfl ?_
  | refine brT ?_ | refine brF ?_
  | (refine brS ?_ ?_ <;> intro hc <;> (try simp only [bls] at hc) <;> (try simp only [hc, bls]))
  | intro _ | refine And.intro ?_ ?_)
    all_goals first | omega | (unfold bigLen; omega) | exact ⟨_, _, ⟨rfl, rfl⟩, rfl⟩ | exact ⟨_, rfl⟩ | (rename_i hy; simp only [List.mem_singleton] at hy; subst hy; rfl) | with_reducible rfl | skip
end Go.Rad
/- What the last texts of layer 8 share. -/
namespace Go.Rad
open Go Go.Proofs
theorem nodeT : NodeTy LL 38 := ⟨5, 36, 27, 3, 9, 34, rfl, rfl, rfl, rfl, rfl, rfl, rfl⟩
theorem ownF : ownKnob Try.prog.godebug = none := by kernel_rfl
theorem laidF : laidOutB Try.prog = true := by kernel_rfl
abbrev kks (i : IntKind) (l : List Int) : List (List AVal) := l.map fun n => [.int i n]
theorem ty_ks {L : Lay} {k t e : Nat} {y : List AVal} {i : IntKind} (ht : (L t).ty = .slice e) (he : (L e).ty = .int i) (h : typed L (k + 2) t y) : ∃ l : List Int, y = [.sl true false (kks i l)] ∧ l.length ≤ maxLen ∧ ∀ n ∈ l, fits i n := by
  obtain ⟨l, rfl, hl, hx⟩ := ty_slice ht h
  obtain ⟨ns, rfl, hf⟩ := list_of (F := fun n => [AVal.int i n]) (P := fun n => fits i n) fun x hx' => by
    obtain ⟨n, rfl, hf⟩ := ty_int he (hx x hx')
    exact ⟨n, rfl, hf⟩
  exact ⟨ns, rfl, by simpa using hl, hf⟩
end Go.Rad
