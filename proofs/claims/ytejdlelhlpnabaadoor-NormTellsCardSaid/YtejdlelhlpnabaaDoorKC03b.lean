/- Contracts: sets by bits: their bytes; letters of both cases. -/
import Derived.Test.YtejdlelhlpnabaaDoorKC03
import Derived.Test.YtejdlelhlpnabaaDoorKRText
set_option linter.all false
namespace Go.Rad
open Go Go.Proofs
set_option linter.all false
set_option maxRecDepth 20000
set_option maxHeartbeats 4000000

def tzN (n : Nat) : Nat := (tzS n).toNat
theorem tzN_le (n : Nat) : tzN n ≤ 64 ∧ tzS n = (tzN n : Int) := by
  have h : 0 ≤ tzS n ∧ tzS n ≤ 64 := by
    unfold tzS
    split
    · decide
    · have := bruijn_le (tzI n); omega
  unfold tzN
  omega
/-- The bytes of a word of a set. -/
def listW : Nat → Nat → Nat → List Nat → List Nat
  | 0, _, _, acc => acc
  | f + 1, i, n, acc => if n = 0 then acc else listW f i (n &&& (n - 1)) (acc ++ [(64 * i + tzN n) % 256])
theorem listW_len : ∀ (f i n : Nat) (acc : List Nat), (listW f i n acc).length ≤ acc.length + f
  | 0, _, _, acc => Nat.le_refl _
  | f + 1, i, n, acc => by
    rw [listW]
    split
    · omega
    · have := listW_len f i (n &&& (n - 1)) (acc ++ [(64 * i + tzN n) % 256])
      simp only [List.length_append, List.length_cons, List.length_nil] at this
      omega
theorem listW_le : ∀ (f i n : Nat) (acc : List Nat), (∀ x ∈ acc, x ≤ 255) → ∀ x ∈ listW f i n acc, x ≤ 255
  | 0, _, _, acc, h => h
  | f + 1, i, n, acc, h => by
    rw [listW]
    split
    · exact h
    · refine listW_le f i _ _ fun x hx => ?_
      rcases List.mem_append.1 hx with hx | hx
      · exact h x hx
      · simp only [List.mem_singleton] at hx; omega
def listUpto (s : NSet) (m : Nat) : List Nat := (List.range m).foldl (fun acc i => listW 65 i (s.word i) acc) []
def listS (s : NSet) : List Nat := listUpto s 4
theorem listUpto_succ (s : NSet) (m : Nat) : listUpto s (m + 1) = listW 65 m (s.word m) (listUpto s m) := by
  simp [listUpto, List.range_succ]
theorem listUpto_len (s : NSet) : ∀ m, (listUpto s m).length ≤ 65 * m
  | 0 => Nat.le_refl _
  | m + 1 => by
    rw [listUpto_succ]
    have := listW_len 65 m (s.word m) (listUpto s m)
    have := listUpto_len s m
    omega
theorem listUpto_le (s : NSet) : ∀ m, ∀ x ∈ listUpto s m, x ≤ 255
  | 0, x, h => by simp [listUpto] at h
  | m + 1, x, h => by
    rw [listUpto_succ] at h
    exact listW_le _ _ _ _ (listUpto_le s m) x h
theorem word_lt {s : NSet} (h : s.ok) (i : Nat) : s.word i < 18446744073709551616 := by
  obtain ⟨a, b, c, d⟩ := h
  unfold NSet.word
  split <;> assumption
theorem list2uc (s : NSet) (hok : s.ok) : ACall Tryd.prog 40 [.agg s.I.cells] [] fun r s' => r = .sl true false (bytesL (listS s)) ∧ s' = [] := by
  obtain ⟨s0, s1, s2, s3⟩ := s
  obtain ⟨k0, k1, k2, k3⟩ := hok
  simp only at k0 k1 k2 k3
  refine ACall.enter Tryd.func40 rfl (by kernel_rfl) (Nat.le_of_ble_eq_true rfl) ?_; simp only [initTm, Nat.reduceAdd]
  repeat' (first
  | refine gSq ?_ | refine gSk ?_ | refine gBl ?_ | refine gIb ?_ | refine gEx rfl ?_
  | ((first
  | (refine gRg [] [0, 1, 2, 3, 4, 5, 6, 7, 8, 12] ?_; intro K hK)
  | (refine gd_split ?_ ?_ <;> intro hb <;> (try simp only [bls] at hb) <;> (try simp only [hb]))
  | refine gRt [] [.tmp 2] rfl ?_ | refine gDn [] [.tmp 2] rfl ?_) <;> (try simp only [go_sem, simprocAttr]))
  | (refine hK _ _ ?_; clear hK K; simp only [go_sem, simprocAttr])
  | refine gCd (by simp only [go_sem, simprocAttr]; rfl) rfl ?_
  | refine brT ?_ | refine brF ?_
  | (refine brS ?_ ?_ <;> intro hc <;> (try simp only [bls] at hc) <;> (try simp only [hc, bls]))
  | intro _ | refine And.intro ?_ ?_)
  refine AGood.ownTm 3 900 1 (by decide) rfl fun g => ?_
  simp only [go_sem, simprocAttr]
  refine AGood.filt [900] ?_
  simp only [sf_cons, sf_nil, go_sem, simprocAttr]
  refine AGood.prune [2, 3, 6, 7] ?_; simp only [go_sem, simprocAttr]
  refine AGood.loopInv (α := Nat × List Nat × Nat) (fun x => ([(2, .sl true true []), (3, .osl 900 x.2.2 0 x.2.1.length), (6, .agg [.int .u64 s0, .int .u64 s1, .int .u64 s2, .int .u64 s3]), (7, .int .i64 x.1)], [(900, (x.2.2, .row 1 (bytesL x.2.1)))])) (fun x => x.1 ≤ 4 ∧ listUpto ⟨s0, s1, s2, s3⟩ x.1 = x.2.1 ∧ x.2.1.length ≤ 65 * x.1) (fun x => 4 - x.1) (0, [], g) ⟨Nat.zero_le _, rfl, Nat.le_refl _⟩ rfl ?_
  rintro ⟨i, acc, g⟩ ⟨hi, hacc, hlen⟩ ih
  simp only at hi hacc hlen ih ⊢
  have hcase : i = 0 ∨ i = 1 ∨ i = 2 ∨ i = 3 ∨ i = 4 := by omega
  rcases hcase with rfl | rfl | rfl | rfl | rfl
  · repeat' (first
  | refine gSq ?_ | refine gSk ?_ | refine gBl ?_ | refine gIb ?_ | refine gEx rfl ?_
  | ((first
  | (refine gRg [] [0, 1, 2, 3, 4, 5, 6, 7, 8, 12] ?_; intro K hK)
  | (refine gd_split ?_ ?_ <;> intro hb <;> (try simp only [bls] at hb) <;> (try simp only [hb]))
  | refine gRt [] [.tmp 2] rfl ?_ | refine gDn [] [.tmp 2] rfl ?_) <;> (try simp only [go_sem, simprocAttr, Int.natCast_zero]))
  | (refine hK _ _ ?_; clear hK K; simp only [go_sem, simprocAttr])
  | refine gCd (by simp only [go_sem, simprocAttr]; rfl) rfl ?_
  | refine brT ?_ | refine brF ?_
  | (refine brS ?_ ?_ <;> intro hc <;> (try simp only [bls] at hc) <;> (try simp only [hc, bls]))
  | intro _ | refine And.intro ?_ ?_)
    all_goals first | omega | (unfold bigLen; omega) | exact ⟨_, _, ⟨rfl, rfl⟩, rfl⟩ | exact ⟨_, rfl⟩ | (rename_i hy; simp only [List.mem_singleton] at hy; subst hy; rfl) | skip
    refine AGood.prune [2, 3, 4, 5, 6, 7] ?_; simp only [go_sem, simprocAttr]
    simp only [bytesL]
    refine AGood.loopInv (α := Nat × Nat × List Nat × Nat) (fun x => ([(2, .sl true true []), (3, .osl 900 x.2.2.2 0 x.2.2.1.length), (4, .int .i64 (0 : Nat)), (5, .int .u64 x.2.1), (6, .agg [.int .u64 s0, .int .u64 s1, .int .u64 s2, .int .u64 s3]), (7, .int .i64 (0 : Nat))], [(900, (x.2.2.2, .row 1 (bytesL x.2.2.1)))])) (fun x => x.1 ≤ 64 ∧ 2 ^ x.1 ∣ x.2.1 ∧ x.2.1 < 18446744073709551616 ∧ x.2.2.1.length ≤ 65 * 0 + x.1 ∧ listUpto ⟨s0, s1, s2, s3⟩ (0 + 1) = listW (65 - x.1) 0 x.2.1 x.2.2.1) (fun x => x.2.1) (0, s0, acc, g) ⟨Nat.zero_le _, Nat.one_dvd _, k0, by simp only; omega, by rw [listUpto_succ, hacc]; rfl⟩ rfl ?_
    rintro ⟨k, n, ac, gg⟩ ⟨h1, h2, h3, h4, h5⟩ ih2
    simp only at h1 h2 h3 h4 h5 ih2 ⊢
    by_cases h0 : n = 0
    · subst h0
      obtain ⟨f, hf⟩ : ∃ f, 65 - k = f + 1 := ⟨64 - k, by omega⟩
      rw [hf, listW, if_pos rfl] at h5
      repeat' (first
  | refine gSq ?_ | refine gSk ?_ | refine gBl ?_ | refine gIb ?_ | refine gEx rfl ?_
  | ((first
  | (refine gRg [] [0, 1, 2, 3, 4, 5, 6, 7, 8, 12] ?_; intro K hK)
  | (refine gd_split ?_ ?_ <;> intro hb <;> (try simp only [bls] at hb) <;> (try simp only [hb]))
  | refine gRt [] [.tmp 2] rfl ?_ | refine gDn [] [.tmp 2] rfl ?_) <;> (try simp only [go_sem, simprocAttr, Int.natCast_zero]))
  | (refine hK _ _ ?_; clear hK K; simp only [go_sem, simprocAttr])
  | refine gCd (by simp only [go_sem, simprocAttr]; rfl) rfl ?_
  | refine brT ?_ | refine brF ?_
  | (refine brS ?_ ?_ <;> intro hc <;> (try simp only [bls] at hc) <;> (try simp only [hc, bls]))
  | intro _ | refine And.intro ?_ ?_)
      all_goals first | omega | (unfold bigLen; omega) | exact ⟨_, _, ⟨rfl, rfl⟩, rfl⟩ | exact ⟨_, rfl⟩ | (rename_i hy; simp only [List.mem_singleton] at hy; subst hy; rfl) | skip
      refine AGood.prune [2, 3, 6, 7] ?_; simp only [go_sem, simprocAttr]
      exact (ih (0 + 1, ac, gg) ⟨by simp only; omega, h5, by simp only; omega⟩ (by simp only; omega)).cast rfl rfl
    · have e0 : ¬ (n : Int) = 0 := by omega
      have hk := dvd_lt h2 h0 h3
      obtain ⟨f, hf⟩ : ∃ f, 65 - k = f + 1 := ⟨64 - k, by omega⟩
      have hf2 : 65 - (k + 1) = f := by omega
      rw [hf, listW, if_neg h0, ← hf2] at h5
      have htz := tz_c n h3
      obtain ⟨t1, t2⟩ := tzN_le n
      rw [t2] at htz
      have ih2 := fun g' => ih2 (k + 1, n &&& (n - 1), ac ++ [(64 * 0 + tzN n) % 256], g') ⟨by simp only; omega, clear_low h2 h0, Nat.lt_trans (clear_lt h0) h3, by simp; omega, h5⟩ (clear_lt h0)
      generalize tzN n = t at htz t1 ih2
      have f1 : (64 : Int) * (0 : Nat) = ((64 * 0 : Nat) : Int) := by omega
      have f2 : ((64 * 0 : Nat) : Int) + (t : Nat) = ((64 * 0 + t : Nat) : Int) := by omega
      have f3 : IntKind.u8.wrap ((64 * 0 + t : Nat) : Int) = (((64 * 0 + t) % 256 : Nat) : Int) := by
        simp [IntKind.wrap, IntKind.signed, IntKind.bits]
      have f4 : IntKind.u64.wrap ((n : Int) - 1) = ((n - 1 : Nat) : Int) := by
        rw [show ((n : Int) - 1) = ((n - 1 : Nat) : Int) by omega]
        exact wr_u64 (by omega) (by omega)
      have f5 := bits_and h3 (show n - 1 < 18446744073709551616 by omega)
      repeat' (first
  | refine gSq ?_ | refine gSk ?_ | refine gBl ?_ | refine gIb ?_ | refine gEx rfl ?_
  | ((first
  | (refine gRg [] [0, 1, 2, 3, 4, 5, 6, 7, 8, 12] ?_; intro K hK)
  | refine cAl (htz) rfl rfl rfl ?_
  | (refine gd_split ?_ ?_ <;> intro hb <;> (try simp only [bls] at hb) <;> (try simp only [hb]))
  | refine gRt [] [.tmp 2] rfl ?_ | refine gDn [] [.tmp 2] rfl ?_) <;> (try simp only [go_sem, simprocAttr, e0, f1, f2, f3, f4, f5]))
  | (refine hK _ _ ?_; clear hK K; simp only [go_sem, simprocAttr])
  | refine gCd (by simp only [go_sem, simprocAttr]; rfl) rfl ?_
  | refine brT ?_ | refine brF ?_
  | (refine brS ?_ ?_ <;> intro hc <;> (try simp only [bls] at hc) <;> (try simp only [hc, bls]))
  | intro _ | refine And.intro ?_ ?_)
      all_goals first | omega | (unfold bigLen; omega) | exact ⟨_, _, ⟨rfl, rfl⟩, rfl⟩ | exact ⟨_, rfl⟩ | (rename_i hy; simp only [List.mem_singleton] at hy; subst hy; rfl) | skip
      rename_i hh
      refine AGood.filt [900] ?_
      simp only [sf_cons, sf_nil, go_sem, simprocAttr]
      refine AGood.prune [2, 3, 4, 5, 6, 7] ?_; simp only [go_sem, simprocAttr]
      have f6 : ∀ z : Int, IntKind.u8.wrap z = z % 256 := by intro z; simp [IntKind.wrap, IntKind.signed, IntKind.bits]
      exact (ih2 hh).cast (by simp) (by simp [f6])
  · repeat' (first
  | refine gSq ?_ | refine gSk ?_ | refine gBl ?_ | refine gIb ?_ | refine gEx rfl ?_
  | ((first
  | (refine gRg [] [0, 1, 2, 3, 4, 5, 6, 7, 8, 12] ?_; intro K hK)
  | (refine gd_split ?_ ?_ <;> intro hb <;> (try simp only [bls] at hb) <;> (try simp only [hb]))
  | refine gRt [] [.tmp 2] rfl ?_ | refine gDn [] [.tmp 2] rfl ?_) <;> (try simp only [go_sem, simprocAttr, Int.natCast_zero]))
  | (refine hK _ _ ?_; clear hK K; simp only [go_sem, simprocAttr])
  | refine gCd (by simp only [go_sem, simprocAttr]; rfl) rfl ?_
  | refine brT ?_ | refine brF ?_
  | (refine brS ?_ ?_ <;> intro hc <;> (try simp only [bls] at hc) <;> (try simp only [hc, bls]))
  | intro _ | refine And.intro ?_ ?_)
    all_goals first | omega | (unfold bigLen; omega) | exact ⟨_, _, ⟨rfl, rfl⟩, rfl⟩ | exact ⟨_, rfl⟩ | (rename_i hy; simp only [List.mem_singleton] at hy; subst hy; rfl) | skip
    refine AGood.prune [2, 3, 4, 5, 6, 7] ?_; simp only [go_sem, simprocAttr]
    simp only [bytesL]
    refine AGood.loopInv (α := Nat × Nat × List Nat × Nat) (fun x => ([(2, .sl true true []), (3, .osl 900 x.2.2.2 0 x.2.2.1.length), (4, .int .i64 (1 : Nat)), (5, .int .u64 x.2.1), (6, .agg [.int .u64 s0, .int .u64 s1, .int .u64 s2, .int .u64 s3]), (7, .int .i64 (1 : Nat))], [(900, (x.2.2.2, .row 1 (bytesL x.2.2.1)))])) (fun x => x.1 ≤ 64 ∧ 2 ^ x.1 ∣ x.2.1 ∧ x.2.1 < 18446744073709551616 ∧ x.2.2.1.length ≤ 65 * 1 + x.1 ∧ listUpto ⟨s0, s1, s2, s3⟩ (1 + 1) = listW (65 - x.1) 1 x.2.1 x.2.2.1) (fun x => x.2.1) (0, s1, acc, g) ⟨Nat.zero_le _, Nat.one_dvd _, k1, by simp only; omega, by rw [listUpto_succ, hacc]; rfl⟩ rfl ?_
    rintro ⟨k, n, ac, gg⟩ ⟨h1, h2, h3, h4, h5⟩ ih2
    simp only at h1 h2 h3 h4 h5 ih2 ⊢
    by_cases h0 : n = 0
    · subst h0
      obtain ⟨f, hf⟩ : ∃ f, 65 - k = f + 1 := ⟨64 - k, by omega⟩
      rw [hf, listW, if_pos rfl] at h5
      repeat' (first
  | refine gSq ?_ | refine gSk ?_ | refine gBl ?_ | refine gIb ?_ | refine gEx rfl ?_
  | ((first
  | (refine gRg [] [0, 1, 2, 3, 4, 5, 6, 7, 8, 12] ?_; intro K hK)
  | (refine gd_split ?_ ?_ <;> intro hb <;> (try simp only [bls] at hb) <;> (try simp only [hb]))
  | refine gRt [] [.tmp 2] rfl ?_ | refine gDn [] [.tmp 2] rfl ?_) <;> (try simp only [go_sem, simprocAttr, Int.natCast_zero]))
  | (refine hK _ _ ?_; clear hK K; simp only [go_sem, simprocAttr])
  | refine gCd (by simp only [go_sem, simprocAttr]; rfl) rfl ?_
  | refine brT ?_ | refine brF ?_
  | (refine brS ?_ ?_ <;> intro hc <;> (try simp only [bls] at hc) <;> (try simp only [hc, bls]))
  | intro _ | refine And.intro ?_ ?_)
      all_goals first | omega | (unfold bigLen; omega) | exact ⟨_, _, ⟨rfl, rfl⟩, rfl⟩ | exact ⟨_, rfl⟩ | (rename_i hy; simp only [List.mem_singleton] at hy; subst hy; rfl) | skip
      refine AGood.prune [2, 3, 6, 7] ?_; simp only [go_sem, simprocAttr]
      exact (ih (1 + 1, ac, gg) ⟨by simp only; omega, h5, by simp only; omega⟩ (by simp only; omega)).cast rfl rfl
    · have e0 : ¬ (n : Int) = 0 := by omega
      have hk := dvd_lt h2 h0 h3
      obtain ⟨f, hf⟩ : ∃ f, 65 - k = f + 1 := ⟨64 - k, by omega⟩
      have hf2 : 65 - (k + 1) = f := by omega
      rw [hf, listW, if_neg h0, ← hf2] at h5
      have htz := tz_c n h3
      obtain ⟨t1, t2⟩ := tzN_le n
      rw [t2] at htz
      have ih2 := fun g' => ih2 (k + 1, n &&& (n - 1), ac ++ [(64 * 1 + tzN n) % 256], g') ⟨by simp only; omega, clear_low h2 h0, Nat.lt_trans (clear_lt h0) h3, by simp; omega, h5⟩ (clear_lt h0)
      generalize tzN n = t at htz t1 ih2
      have f1 : (64 : Int) * (1 : Nat) = ((64 * 1 : Nat) : Int) := by omega
      have f2 : ((64 * 1 : Nat) : Int) + (t : Nat) = ((64 * 1 + t : Nat) : Int) := by omega
      have f3 : IntKind.u8.wrap ((64 * 1 + t : Nat) : Int) = (((64 * 1 + t) % 256 : Nat) : Int) := by
        simp [IntKind.wrap, IntKind.signed, IntKind.bits]
      have f4 : IntKind.u64.wrap ((n : Int) - 1) = ((n - 1 : Nat) : Int) := by
        rw [show ((n : Int) - 1) = ((n - 1 : Nat) : Int) by omega]
        exact wr_u64 (by omega) (by omega)
      have f5 := bits_and h3 (show n - 1 < 18446744073709551616 by omega)
      repeat' (first
  | refine gSq ?_ | refine gSk ?_ | refine gBl ?_ | refine gIb ?_ | refine gEx rfl ?_
  | ((first
  | (refine gRg [] [0, 1, 2, 3, 4, 5, 6, 7, 8, 12] ?_; intro K hK)
  | refine cAl (htz) rfl rfl rfl ?_
  | (refine gd_split ?_ ?_ <;> intro hb <;> (try simp only [bls] at hb) <;> (try simp only [hb]))
  | refine gRt [] [.tmp 2] rfl ?_ | refine gDn [] [.tmp 2] rfl ?_) <;> (try simp only [go_sem, simprocAttr, e0, f1, f2, f3, f4, f5]))
  | (refine hK _ _ ?_; clear hK K; simp only [go_sem, simprocAttr])
  | refine gCd (by simp only [go_sem, simprocAttr]; rfl) rfl ?_
  | refine brT ?_ | refine brF ?_
  | (refine brS ?_ ?_ <;> intro hc <;> (try simp only [bls] at hc) <;> (try simp only [hc, bls]))
  | intro _ | refine And.intro ?_ ?_)
      all_goals first | omega | (unfold bigLen; omega) | exact ⟨_, _, ⟨rfl, rfl⟩, rfl⟩ | exact ⟨_, rfl⟩ | (rename_i hy; simp only [List.mem_singleton] at hy; subst hy; rfl) | skip
      rename_i hh
      refine AGood.filt [900] ?_
      simp only [sf_cons, sf_nil, go_sem, simprocAttr]
      refine AGood.prune [2, 3, 4, 5, 6, 7] ?_; simp only [go_sem, simprocAttr]
      have f6 : ∀ z : Int, IntKind.u8.wrap z = z % 256 := by intro z; simp [IntKind.wrap, IntKind.signed, IntKind.bits]
      exact (ih2 hh).cast (by simp) (by simp [f6])
  · repeat' (first
  | refine gSq ?_ | refine gSk ?_ | refine gBl ?_ | refine gIb ?_ | refine gEx rfl ?_
  | ((first
  | (refine gRg [] [0, 1, 2, 3, 4, 5, 6, 7, 8, 12] ?_; intro K hK)
  | (refine gd_split ?_ ?_ <;> intro hb <;> (try simp only [bls] at hb) <;> (try simp only [hb]))
  | refine gRt [] [.tmp 2] rfl ?_ | refine gDn [] [.tmp 2] rfl ?_) <;> (try simp only [go_sem, simprocAttr, Int.natCast_zero]))
  | (refine hK _ _ ?_; clear hK K; simp only [go_sem, simprocAttr])
  | refine gCd (by simp only [go_sem, simprocAttr]; rfl) rfl ?_
  | refine brT ?_ | refine brF ?_
  | (refine brS ?_ ?_ <;> intro hc <;> (try simp only [bls] at hc) <;> (try simp only [hc, bls]))
  | intro _ | refine And.intro ?_ ?_)
    all_goals first | omega | (unfold bigLen; omega) | exact ⟨_, _, ⟨rfl, rfl⟩, rfl⟩ | exact ⟨_, rfl⟩ | (rename_i hy; simp only [List.mem_singleton] at hy; subst hy; rfl) | skip
    refine AGood.prune [2, 3, 4, 5, 6, 7] ?_; simp only [go_sem, simprocAttr]
    simp only [bytesL]
    refine AGood.loopInv (α := Nat × Nat × List Nat × Nat) (fun x => ([(2, .sl true true []), (3, .osl 900 x.2.2.2 0 x.2.2.1.length), (4, .int .i64 (2 : Nat)), (5, .int .u64 x.2.1), (6, .agg [.int .u64 s0, .int .u64 s1, .int .u64 s2, .int .u64 s3]), (7, .int .i64 (2 : Nat))], [(900, (x.2.2.2, .row 1 (bytesL x.2.2.1)))])) (fun x => x.1 ≤ 64 ∧ 2 ^ x.1 ∣ x.2.1 ∧ x.2.1 < 18446744073709551616 ∧ x.2.2.1.length ≤ 65 * 2 + x.1 ∧ listUpto ⟨s0, s1, s2, s3⟩ (2 + 1) = listW (65 - x.1) 2 x.2.1 x.2.2.1) (fun x => x.2.1) (0, s2, acc, g) ⟨Nat.zero_le _, Nat.one_dvd _, k2, by simp only; omega, by rw [listUpto_succ, hacc]; rfl⟩ rfl ?_
    rintro ⟨k, n, ac, gg⟩ ⟨h1, h2, h3, h4, h5⟩ ih2
    simp only at h1 h2 h3 h4 h5 ih2 ⊢
    by_cases h0 : n = 0
    · subst h0
      obtain ⟨f, hf⟩ : ∃ f, 65 - k = f + 1 := ⟨64 - k, by omega⟩
      rw [hf, listW, if_pos rfl] at h5
      repeat' (first
  | refine gSq ?_ | refine gSk ?_ | refine gBl ?_ | refine gIb ?_ | refine gEx rfl ?_
  | ((first
  | (refine gRg [] [0, 1, 2, 3, 4, 5, 6, 7, 8, 12] ?_; intro K hK)
  | (refine gd_split ?_ ?_ <;> intro hb <;> (try simp only [bls] at hb) <;> (try simp only [hb]))
  | refine gRt [] [.tmp 2] rfl ?_ | refine gDn [] [.tmp 2] rfl ?_) <;> (try simp only [go_sem, simprocAttr, Int.natCast_zero]))
  | (refine hK _ _ ?_; clear hK K; simp only [go_sem, simprocAttr])
  | refine gCd (by simp only [go_sem, simprocAttr]; rfl) rfl ?_
  | refine brT ?_ | refine brF ?_
  | (refine brS ?_ ?_ <;> intro hc <;> (try simp only [bls] at hc) <;> (try simp only [hc, bls]))
  | intro _ | refine And.intro ?_ ?_)
      all_goals first | omega | (unfold bigLen; omega) | exact ⟨_, _, ⟨rfl, rfl⟩, rfl⟩ | exact ⟨_, rfl⟩ | (rename_i hy; simp only [List.mem_singleton] at hy; subst hy; rfl) | skip
      refine AGood.prune [2, 3, 6, 7] ?_; simp only [go_sem, simprocAttr]
      exact (ih (2 + 1, ac, gg) ⟨by simp only; omega, h5, by simp only; omega⟩ (by simp only; omega)).cast rfl rfl
    · have e0 : ¬ (n : Int) = 0 := by omega
      have hk := dvd_lt h2 h0 h3
      obtain ⟨f, hf⟩ : ∃ f, 65 - k = f + 1 := ⟨64 - k, by omega⟩
      have hf2 : 65 - (k + 1) = f := by omega
      rw [hf, listW, if_neg h0, ← hf2] at h5
      have htz := tz_c n h3
      obtain ⟨t1, t2⟩ := tzN_le n
      rw [t2] at htz
      have ih2 := fun g' => ih2 (k + 1, n &&& (n - 1), ac ++ [(64 * 2 + tzN n) % 256], g') ⟨by simp only; omega, clear_low h2 h0, Nat.lt_trans (clear_lt h0) h3, by simp; omega, h5⟩ (clear_lt h0)
      generalize tzN n = t at htz t1 ih2
      have f1 : (64 : Int) * (2 : Nat) = ((64 * 2 : Nat) : Int) := by omega
      have f2 : ((64 * 2 : Nat) : Int) + (t : Nat) = ((64 * 2 + t : Nat) : Int) := by omega
      have f3 : IntKind.u8.wrap ((64 * 2 + t : Nat) : Int) = (((64 * 2 + t) % 256 : Nat) : Int) := by
        simp [IntKind.wrap, IntKind.signed, IntKind.bits]
      have f4 : IntKind.u64.wrap ((n : Int) - 1) = ((n - 1 : Nat) : Int) := by
        rw [show ((n : Int) - 1) = ((n - 1 : Nat) : Int) by omega]
        exact wr_u64 (by omega) (by omega)
      have f5 := bits_and h3 (show n - 1 < 18446744073709551616 by omega)
      repeat' (first
  | refine gSq ?_ | refine gSk ?_ | refine gBl ?_ | refine gIb ?_ | refine gEx rfl ?_
  | ((first
  | (refine gRg [] [0, 1, 2, 3, 4, 5, 6, 7, 8, 12] ?_; intro K hK)
  | refine cAl (htz) rfl rfl rfl ?_
  | (refine gd_split ?_ ?_ <;> intro hb <;> (try simp only [bls] at hb) <;> (try simp only [hb]))
  | refine gRt [] [.tmp 2] rfl ?_ | refine gDn [] [.tmp 2] rfl ?_) <;> (try simp only [go_sem, simprocAttr, e0, f1, f2, f3, f4, f5]))
  | (refine hK _ _ ?_; clear hK K; simp only [go_sem, simprocAttr])
  | refine gCd (by simp only [go_sem, simprocAttr]; rfl) rfl ?_
  | refine brT ?_ | refine brF ?_
  | (refine brS ?_ ?_ <;> intro hc <;> (try simp only [bls] at hc) <;> (try simp only [hc, bls]))
  | intro _ | refine And.intro ?_ ?_)
      all_goals first | omega | (unfold bigLen; omega) | exact ⟨_, _, ⟨rfl, rfl⟩, rfl⟩ | exact ⟨_, rfl⟩ | (rename_i hy; simp only [List.mem_singleton] at hy; subst hy; rfl) | skip
      rename_i hh
      refine AGood.filt [900] ?_
      simp only [sf_cons, sf_nil, go_sem, simprocAttr]
      refine AGood.prune [2, 3, 4, 5, 6, 7] ?_; simp only [go_sem, simprocAttr]
      have f6 : ∀ z : Int, IntKind.u8.wrap z = z % 256 := by intro z; simp [IntKind.wrap, IntKind.signed, IntKind.bits]
      exact (ih2 hh).cast (by simp) (by simp [f6])
  · repeat' (first
  | refine gSq ?_ | refine gSk ?_ | refine gBl ?_ | refine gIb ?_ | refine gEx rfl ?_
  | ((first
  | (refine gRg [] [0, 1, 2, 3, 4, 5, 6, 7, 8, 12] ?_; intro K hK)
  | (refine gd_split ?_ ?_ <;> intro hb <;> (try simp only [bls] at hb) <;> (try simp only [hb]))
  | refine gRt [] [.tmp 2] rfl ?_ | refine gDn [] [.tmp 2] rfl ?_) <;> (try simp only [go_sem, simprocAttr, Int.natCast_zero]))
  | (refine hK _ _ ?_; clear hK K; simp only [go_sem, simprocAttr])
  | refine gCd (by simp only [go_sem, simprocAttr]; rfl) rfl ?_
  | refine brT ?_ | refine brF ?_
  | (refine brS ?_ ?_ <;> intro hc <;> (try simp only [bls] at hc) <;> (try simp only [hc, bls]))
  | intro _ | refine And.intro ?_ ?_)
    all_goals first | omega | (unfold bigLen; omega) | exact ⟨_, _, ⟨rfl, rfl⟩, rfl⟩ | exact ⟨_, rfl⟩ | (rename_i hy; simp only [List.mem_singleton] at hy; subst hy; rfl) | skip
    refine AGood.prune [2, 3, 4, 5, 6, 7] ?_; simp only [go_sem, simprocAttr]
    simp only [bytesL]
    refine AGood.loopInv (α := Nat × Nat × List Nat × Nat) (fun x => ([(2, .sl true true []), (3, .osl 900 x.2.2.2 0 x.2.2.1.length), (4, .int .i64 (3 : Nat)), (5, .int .u64 x.2.1), (6, .agg [.int .u64 s0, .int .u64 s1, .int .u64 s2, .int .u64 s3]), (7, .int .i64 (3 : Nat))], [(900, (x.2.2.2, .row 1 (bytesL x.2.2.1)))])) (fun x => x.1 ≤ 64 ∧ 2 ^ x.1 ∣ x.2.1 ∧ x.2.1 < 18446744073709551616 ∧ x.2.2.1.length ≤ 65 * 3 + x.1 ∧ listUpto ⟨s0, s1, s2, s3⟩ (3 + 1) = listW (65 - x.1) 3 x.2.1 x.2.2.1) (fun x => x.2.1) (0, s3, acc, g) ⟨Nat.zero_le _, Nat.one_dvd _, k3, by simp only; omega, by rw [listUpto_succ, hacc]; rfl⟩ rfl ?_
    rintro ⟨k, n, ac, gg⟩ ⟨h1, h2, h3, h4, h5⟩ ih2
    simp only at h1 h2 h3 h4 h5 ih2 ⊢
    by_cases h0 : n = 0
    · subst h0
      obtain ⟨f, hf⟩ : ∃ f, 65 - k = f + 1 := ⟨64 - k, by omega⟩
      rw [hf, listW, if_pos rfl] at h5
      repeat' (first
  | refine gSq ?_ | refine gSk ?_ | refine gBl ?_ | refine gIb ?_ | refine gEx rfl ?_
  | ((first
  | (refine gRg [] [0, 1, 2, 3, 4, 5, 6, 7, 8, 12] ?_; intro K hK)
  | (refine gd_split ?_ ?_ <;> intro hb <;> (try simp only [bls] at hb) <;> (try simp only [hb]))
  | refine gRt [] [.tmp 2] rfl ?_ | refine gDn [] [.tmp 2] rfl ?_) <;> (try simp only [go_sem, simprocAttr, Int.natCast_zero]))
  | (refine hK _ _ ?_; clear hK K; simp only [go_sem, simprocAttr])
  | refine gCd (by simp only [go_sem, simprocAttr]; rfl) rfl ?_
  | refine brT ?_ | refine brF ?_
  | (refine brS ?_ ?_ <;> intro hc <;> (try simp only [bls] at hc) <;> (try simp only [hc, bls]))
  | intro _ | refine And.intro ?_ ?_)
      all_goals first | omega | (unfold bigLen; omega) | exact ⟨_, _, ⟨rfl, rfl⟩, rfl⟩ | exact ⟨_, rfl⟩ | (rename_i hy; simp only [List.mem_singleton] at hy; subst hy; rfl) | skip
      refine AGood.prune [2, 3, 6, 7] ?_; simp only [go_sem, simprocAttr]
      exact (ih (3 + 1, ac, gg) ⟨by simp only; omega, h5, by simp only; omega⟩ (by simp only; omega)).cast rfl rfl
    · have e0 : ¬ (n : Int) = 0 := by omega
      have hk := dvd_lt h2 h0 h3
      obtain ⟨f, hf⟩ : ∃ f, 65 - k = f + 1 := ⟨64 - k, by omega⟩
      have hf2 : 65 - (k + 1) = f := by omega
      rw [hf, listW, if_neg h0, ← hf2] at h5
      have htz := tz_c n h3
      obtain ⟨t1, t2⟩ := tzN_le n
      rw [t2] at htz
      have ih2 := fun g' => ih2 (k + 1, n &&& (n - 1), ac ++ [(64 * 3 + tzN n) % 256], g') ⟨by simp only; omega, clear_low h2 h0, Nat.lt_trans (clear_lt h0) h3, by simp; omega, h5⟩ (clear_lt h0)
      generalize tzN n = t at htz t1 ih2
      have f1 : (64 : Int) * (3 : Nat) = ((64 * 3 : Nat) : Int) := by omega
      have f2 : ((64 * 3 : Nat) : Int) + (t : Nat) = ((64 * 3 + t : Nat) : Int) := by omega
      have f3 : IntKind.u8.wrap ((64 * 3 + t : Nat) : Int) = (((64 * 3 + t) % 256 : Nat) : Int) := by
        simp [IntKind.wrap, IntKind.signed, IntKind.bits]
      have f4 : IntKind.u64.wrap ((n : Int) - 1) = ((n - 1 : Nat) : Int) := by
        rw [show ((n : Int) - 1) = ((n - 1 : Nat) : Int) by omega]
        exact wr_u64 (by omega) (by omega)
      have f5 := bits_and h3 (show n - 1 < 18446744073709551616 by omega)
      repeat' (first
  | refine gSq ?_ | refine gSk ?_ | refine gBl ?_ | refine gIb ?_ | refine gEx rfl ?_
  | ((first
  | (refine gRg [] [0, 1, 2, 3, 4, 5, 6, 7, 8, 12] ?_; intro K hK)
  | refine cAl (htz) rfl rfl rfl ?_
  | (refine gd_split ?_ ?_ <;> intro hb <;> (try simp only [bls] at hb) <;> (try simp only [hb]))
  | refine gRt [] [.tmp 2] rfl ?_ | refine gDn [] [.tmp 2] rfl ?_) <;> (try simp only [go_sem, simprocAttr, e0, f1, f2, f3, f4, f5]))
  | (refine hK _ _ ?_; clear hK K; simp only [go_sem, simprocAttr])
  | refine gCd (by simp only [go_sem, simprocAttr]; rfl) rfl ?_
  | refine brT ?_ | refine brF ?_
  | (refine brS ?_ ?_ <;> intro hc <;> (try simp only [bls] at hc) <;> (try simp only [hc, bls]))
  | intro _ | refine And.intro ?_ ?_)
      all_goals first | omega | (unfold bigLen; omega) | exact ⟨_, _, ⟨rfl, rfl⟩, rfl⟩ | exact ⟨_, rfl⟩ | (rename_i hy; simp only [List.mem_singleton] at hy; subst hy; rfl) | skip
      rename_i hh
      refine AGood.filt [900] ?_
      simp only [sf_cons, sf_nil, go_sem, simprocAttr]
      refine AGood.prune [2, 3, 4, 5, 6, 7] ?_; simp only [go_sem, simprocAttr]
      have f6 : ∀ z : Int, IntKind.u8.wrap z = z % 256 := by intro z; simp [IntKind.wrap, IntKind.signed, IntKind.bits]
      exact (ih2 hh).cast (by simp) (by simp [f6])
  · repeat' (first
  | refine gSq ?_ | refine gSk ?_ | refine gBl ?_ | refine gIb ?_ | refine gEx rfl ?_
  | ((first
  | (refine AGood.at 9 ?_; (refine AGood.freeze 900 rfl ?_; simp only [rfT, rfS, rfO, rf, rf1, true_and, go_sem, simprocAttr]); (refine gRg [] [0, 1, 2, 3, 4, 5, 6, 7, 8, 12] ?_; intro K hK))
  | (refine gRg [] [0, 1, 2, 3, 4, 5, 6, 7, 8, 12] ?_; intro K hK)
  | (refine gd_split ?_ ?_ <;> intro hb <;> (try simp only [bls] at hb) <;> (try simp only [hb]))
  | refine gRt [] [.tmp 2] rfl ?_ | refine gDn [] [.tmp 2] rfl ?_) <;> (try simp only [go_sem, simprocAttr, Int.natCast_zero]))
  | (refine hK _ _ ?_; clear hK K; simp only [go_sem, simprocAttr])
  | refine gCd (by simp only [go_sem, simprocAttr]; rfl) rfl ?_
  | refine brT ?_ | refine brF ?_
  | (refine brS ?_ ?_ <;> intro hc <;> (try simp only [bls] at hc) <;> (try simp only [hc, bls]))
  | intro _ | refine And.intro ?_ ?_)
    rw [listS, hacc, List.take_of_length_le (by simp)]
end Go.Rad
