/- Contracts: sets by bits: made, put together. -/
import Derived.Test.YtejdlelhlpnabaaDoorKC02
import Derived.Test.YtejdlelhlpnabaaDoorKC01
set_option linter.all false
namespace Go.Rad
open Go Go.Proofs
set_option linter.all false
set_option maxRecDepth 20000
set_option maxHeartbeats 4000000

theorem add_facts {b : Nat} (_ : b ≤ 255) : ∃ p : Nat, p < 18446744073709551616 ∧ p = 2 ^ (b % 64) ∧ IntKind.u64.wrap (1 * 2 ^ (b % 64)) = (p : Int) := by
  have h : 2 ^ (b % 64) < 18446744073709551616 := by
    have : 2 ^ (b % 64) < 2 ^ 64 := Nat.pow_lt_pow_right (by decide) (Nat.mod_lt _ (by decide))
    simpa using this
  refine ⟨2 ^ (b % 64), h, rfl, ?_⟩
  rw [Int.one_mul]
  have e : ((2 : Int) ^ (b % 64)) = ((2 ^ (b % 64) : Nat) : Int) := by simp
  rw [e]
  generalize 2 ^ (b % 64) = p at h
  exact wr_u64 (by omega) (by omega)
theorem of2uc (q f : Bool) (l : List Nat) (h : ∀ x ∈ l, x ≤ 255) (hl : l.length ≤ 1000000) : ACall Tryd.prog 44 [.sl q f (bytesL l)] [] fun r s' => r = .agg (ofS l).I.cells ∧ s' = [] := by
  refine ACall.enter Tryd.func44 rfl (by kernel_rfl) (Nat.le_of_ble_eq_true rfl) ?_; simp only [initTm, Nat.reduceAdd]
  repeat' (first
  | refine gSq ?_ | refine gSk ?_ | refine gBl ?_ | refine gIb ?_ | refine gEx rfl ?_
  | ((first
  | (refine gRg [] [0, 2, 3, 5, 6, 7, 8, 9] ?_; intro K hK)
  | (refine gd_split ?_ ?_ <;> intro hb <;> (try simp only [bls] at hb) <;> (try simp only [hb]))
  | refine gRt [] [.cell 2 38] rfl ?_ | refine gDn [] [.cell 2 38] rfl ?_) <;> (try simp only [go_sem, simprocAttr]))
  | (refine hK _ _ ?_; clear hK K; simp only [go_sem, simprocAttr])
  | refine gCd (by simp only [go_sem, simprocAttr]; rfl) rfl ?_
  | refine brT ?_ | refine brF ?_
  | (refine brS ?_ ?_ <;> intro hc <;> (try simp only [bls] at hc) <;> (try simp only [hc, bls]))
  | intro _ | refine And.intro ?_ ?_)
  rename_i h2 h3
  refine AGood.prune [0, 2, 3, 6, 7, 8] ?_; simp only [go_sem, simprocAttr]
  refine AGood.loopInv (α := Nat) (fun i => ([(0, .sl q f (bytesL l)), (2, .bx 2 h2 0), (3, .bx 3 h3 0), (6, .sl q f (bytesL l)), (7, .int .i64 l.length), (8, .int .i64 i)], [(2, h2, .box ISet.none.cells), (3, h3, .box (ofS (l.take i)).I.cells)])) (fun i => i ≤ l.length ∧ (ofS (l.take i)).ok) (fun i => l.length - i) 0 ⟨Nat.zero_le _, by simp [ofS, nzero, NSet.ok]⟩ rfl ?_
  rintro i ⟨hi, hok⟩ ih
  simp only
  by_cases hle : i < l.length
  · have e4 : (i : Int) < l.length := by omega
    have e5 : (0 : Int) ≤ i := by omega
    have hx : l[i]? = some l[i] := List.getElem?_eq_getElem hle
    have hb := h l[i] (List.getElem_mem hle)
    have ht : ofS (l.take (i + 1)) = (ofS (l.take i)).add l[i] := by simp only [ofS]; rw [take_one hx, List.foldl_append]; rfl
    generalize l[i] = b at hx hb ht
    have hok2 : (ofS (l.take (i + 1))).ok := by rw [ht]; exact add_ok hok
    have ih := ih (i + 1) ⟨by omega, hok2⟩ (by omega)
    simp only [ht] at ih
    generalize ofS (l.take i) = s at hok ih ⊢
    obtain ⟨s0, s1, s2, s3⟩ := s
    obtain ⟨k0, k1, k2, k3⟩ := hok
    simp only at k0 k1 k2 k3
    obtain ⟨p, hp, hpe, hsh⟩ := add_facts hb
    have h4 : b / 64 = 0 ∨ b / 64 = 1 ∨ b / 64 = 2 ∨ b / 64 = 3 := by omega
    rcases h4 with h4 | h4 | h4 | h4
    all_goals
      simp only [NSet.add, h4, ← hpe] at ih
      (first | refine div64 (c := 0) h4 rfl fun hd hm hmin => ?_ | refine div64 (c := 1) h4 rfl fun hd hm hmin => ?_ | refine div64 (c := 2) h4 rfl fun hd hm hmin => ?_ | refine div64 (c := 3) h4 rfl fun hd hm hmin => ?_)
    · have ho := bits_or k0 hp
      repeat' (first
  | refine gSq ?_ | refine gSk ?_ | refine gBl ?_ | refine gIb ?_ | refine gEx rfl ?_
  | ((first
  | (refine gRg [] [0, 2, 3, 5, 6, 7, 8, 9] ?_; intro K hK)
  | (refine gd_split ?_ ?_ <;> intro hb <;> (try simp only [bls] at hb) <;> (try simp only [hb]))
  | refine gRt [] [.cell 2 38] rfl ?_ | refine gDn [] [.cell 2 38] rfl ?_) <;> (try simp only [go_sem, simprocAttr, e4, e5, hx, hd, hm, hmin, hsh, ho, Option.some.injEq, forall_eq', IntKind.bits, wr_u8]))
  | (refine hK _ _ ?_; clear hK K; simp only [go_sem, simprocAttr])
  | refine gCd (by simp only [go_sem, simprocAttr]; rfl) rfl ?_
  | refine brT ?_ | refine brF ?_
  | (refine brS ?_ ?_ <;> intro hc <;> (try simp only [bls] at hc) <;> (try simp only [hc, bls]))
  | intro _ | refine And.intro ?_ ?_)
      all_goals first | omega | (unfold bigLen; omega) | exact ⟨_, _, ⟨rfl, rfl⟩, rfl⟩ | exact ⟨_, rfl⟩ | (rename_i hy; simp only [List.mem_singleton] at hy; subst hy; rfl) | skip
      refine AGood.prune [0, 2, 3, 6, 7, 8] ?_; simp only [go_sem, simprocAttr]
      exact ih.cast rfl rfl
    · have ho := bits_or k1 hp
      repeat' (first
  | refine gSq ?_ | refine gSk ?_ | refine gBl ?_ | refine gIb ?_ | refine gEx rfl ?_
  | ((first
  | (refine gRg [] [0, 2, 3, 5, 6, 7, 8, 9] ?_; intro K hK)
  | (refine gd_split ?_ ?_ <;> intro hb <;> (try simp only [bls] at hb) <;> (try simp only [hb]))
  | refine gRt [] [.cell 2 38] rfl ?_ | refine gDn [] [.cell 2 38] rfl ?_) <;> (try simp only [go_sem, simprocAttr, e4, e5, hx, hd, hm, hmin, hsh, ho, Option.some.injEq, forall_eq', IntKind.bits, wr_u8]))
  | (refine hK _ _ ?_; clear hK K; simp only [go_sem, simprocAttr])
  | refine gCd (by simp only [go_sem, simprocAttr]; rfl) rfl ?_
  | refine brT ?_ | refine brF ?_
  | (refine brS ?_ ?_ <;> intro hc <;> (try simp only [bls] at hc) <;> (try simp only [hc, bls]))
  | intro _ | refine And.intro ?_ ?_)
      all_goals first | omega | (unfold bigLen; omega) | exact ⟨_, _, ⟨rfl, rfl⟩, rfl⟩ | exact ⟨_, rfl⟩ | (rename_i hy; simp only [List.mem_singleton] at hy; subst hy; rfl) | skip
      refine AGood.prune [0, 2, 3, 6, 7, 8] ?_; simp only [go_sem, simprocAttr]
      exact ih.cast rfl rfl
    · have ho := bits_or k2 hp
      repeat' (first
  | refine gSq ?_ | refine gSk ?_ | refine gBl ?_ | refine gIb ?_ | refine gEx rfl ?_
  | ((first
  | (refine gRg [] [0, 2, 3, 5, 6, 7, 8, 9] ?_; intro K hK)
  | (refine gd_split ?_ ?_ <;> intro hb <;> (try simp only [bls] at hb) <;> (try simp only [hb]))
  | refine gRt [] [.cell 2 38] rfl ?_ | refine gDn [] [.cell 2 38] rfl ?_) <;> (try simp only [go_sem, simprocAttr, e4, e5, hx, hd, hm, hmin, hsh, ho, Option.some.injEq, forall_eq', IntKind.bits, wr_u8]))
  | (refine hK _ _ ?_; clear hK K; simp only [go_sem, simprocAttr])
  | refine gCd (by simp only [go_sem, simprocAttr]; rfl) rfl ?_
  | refine brT ?_ | refine brF ?_
  | (refine brS ?_ ?_ <;> intro hc <;> (try simp only [bls] at hc) <;> (try simp only [hc, bls]))
  | intro _ | refine And.intro ?_ ?_)
      all_goals first | omega | (unfold bigLen; omega) | exact ⟨_, _, ⟨rfl, rfl⟩, rfl⟩ | exact ⟨_, rfl⟩ | (rename_i hy; simp only [List.mem_singleton] at hy; subst hy; rfl) | skip
      refine AGood.prune [0, 2, 3, 6, 7, 8] ?_; simp only [go_sem, simprocAttr]
      exact ih.cast rfl rfl
    · have ho := bits_or k3 hp
      repeat' (first
  | refine gSq ?_ | refine gSk ?_ | refine gBl ?_ | refine gIb ?_ | refine gEx rfl ?_
  | ((first
  | (refine gRg [] [0, 2, 3, 5, 6, 7, 8, 9] ?_; intro K hK)
  | (refine gd_split ?_ ?_ <;> intro hb <;> (try simp only [bls] at hb) <;> (try simp only [hb]))
  | refine gRt [] [.cell 2 38] rfl ?_ | refine gDn [] [.cell 2 38] rfl ?_) <;> (try simp only [go_sem, simprocAttr, e4, e5, hx, hd, hm, hmin, hsh, ho, Option.some.injEq, forall_eq', IntKind.bits, wr_u8]))
  | (refine hK _ _ ?_; clear hK K; simp only [go_sem, simprocAttr])
  | refine gCd (by simp only [go_sem, simprocAttr]; rfl) rfl ?_
  | refine brT ?_ | refine brF ?_
  | (refine brS ?_ ?_ <;> intro hc <;> (try simp only [bls] at hc) <;> (try simp only [hc, bls]))
  | intro _ | refine And.intro ?_ ?_)
      all_goals first | omega | (unfold bigLen; omega) | exact ⟨_, _, ⟨rfl, rfl⟩, rfl⟩ | exact ⟨_, rfl⟩ | (rename_i hy; simp only [List.mem_singleton] at hy; subst hy; rfl) | skip
      refine AGood.prune [0, 2, 3, 6, 7, 8] ?_; simp only [go_sem, simprocAttr]
      exact ih.cast rfl rfl
  · have e4 : ¬ (i : Int) < l.length := by omega
    rw [List.take_of_length_le (by omega)]
    generalize ofS l = s
    obtain ⟨s0, s1, s2, s3⟩ := s
    repeat' (first
  | refine gSq ?_ | refine gSk ?_ | refine gBl ?_ | refine gIb ?_ | refine gEx rfl ?_
  | ((first
  | (refine gRg [] [0, 2, 3, 5, 6, 7, 8, 9] ?_; intro K hK)
  | (refine gd_split ?_ ?_ <;> intro hb <;> (try simp only [bls] at hb) <;> (try simp only [hb]))
  | refine gRt [] [.cell 2 38] rfl ?_ | refine gDn [] [.cell 2 38] rfl ?_) <;> (try simp only [go_sem, simprocAttr, e4]))
  | (refine hK _ _ ?_; clear hK K; simp only [go_sem, simprocAttr])
  | refine gCd (by simp only [go_sem, simprocAttr]; rfl) rfl ?_
  | refine brT ?_ | refine brF ?_
  | (refine brS ?_ ?_ <;> intro hc <;> (try simp only [bls] at hc) <;> (try simp only [hc, bls]))
  | intro _ | refine And.intro ?_ ?_)

theorem range_facts {b : Nat} (h : b ≤ 255) {k : Nat} (h4 : b / 64 = k) {c : Int} (hk : (k : Int) = c) : (b : Int).tdiv 64 = c ∧ (b : Int).tmod 64 = ((b % 64 : Nat) : Int) ∧ min (b % 64) 64 = b % 64 :=
  ⟨(tdiv_nat b 64).trans (by rw [h4]; exact hk), tmod_nat b 64, by omega⟩
theorem range2uc (lo hi : Nat) (hl : lo ≤ 255) (hh : hi ≤ 255) : ACall Tryd.prog 42 [.int .u8 lo, .int .u8 hi] [] fun r s' => r = .agg (rangeS lo hi).I.cells ∧ s' = [] := by
  have w1 := wr_i64n (n := lo) (by omega)
  have w2 := wr_i64n (n := hi) (by omega)
  refine ACall.enter Tryd.func42 rfl (by kernel_rfl) (Nat.le_of_ble_eq_true rfl) ?_; simp only [initTm, Nat.reduceAdd]
  repeat' (first
  | refine gSq ?_ | refine gSk ?_ | refine gBl ?_ | refine gIb ?_ | refine gEx rfl ?_
  | ((first
  | (refine gRg [] [0, 1, 4, 5, 6, 12] ?_; intro K hK)
  | (refine gDr 5 [] 9 [0, 1, 2, 3, 4, 5, 6, 7, 8, 9] [0, 1, 4, 5, 6, 12] rfl ?_; intro K hK)
  | (refine gd_split ?_ ?_ <;> intro hb <;> (try simp only [bls] at hb) <;> (try simp only [hb]))
  | refine gRt [] [.cell 4 38] rfl ?_ | refine gDn [] [.cell 4 38] rfl ?_) <;> (try simp only [go_sem, simprocAttr, w1, w2]))
  | (refine hK _ _ ?_; clear hK K; simp only [go_sem, simprocAttr])
  | refine gCd (by simp only [go_sem, simprocAttr]; rfl) rfl ?_
  | refine brT ?_ | refine brF ?_
  | (refine brS ?_ ?_ <;> intro hc <;> (try simp only [bls] at hc) <;> (try simp only [hc, bls]))
  | intro _ | refine And.intro ?_ ?_)
  rename_i h4 h5
  refine AGood.prune [0, 1, 4, 5, 6] ?_; simp only [go_sem, simprocAttr]
  refine AGood.loopInv (α := Nat) (fun i => ([(0, .int .u8 lo), (1, .int .u8 hi), (4, .bx 4 h4 0), (5, .bx 5 h5 0), (6, .int .i64 (lo + i : Nat))], [(4, h4, .box ISet.none.cells), (5, h5, .box ((List.range i).foldl (fun s i => s.add (lo + i)) nzero).I.cells)])) (fun i => i ≤ hi + 1 - lo ∧ ((List.range i).foldl (fun s i => s.add (lo + i)) nzero).ok) (fun i => hi + 1 - lo - i) 0 ⟨Nat.zero_le _, by simp [nzero, NSet.ok]⟩ rfl ?_
  rintro i ⟨hi', hok⟩ ih
  simp only
  by_cases hle : lo + i ≤ hi
  · have e4 : ((lo + i : Nat) : Int) ≤ (hi : Int) := by omega
    have hb : lo + i ≤ 255 := by omega
    have hok2 : ((List.range (i + 1)).foldl (fun s i => s.add (lo + i)) nzero).ok := by rw [List.range_succ, List.foldl_append]; exact add_ok hok
    have ih := ih (i + 1) ⟨by omega, hok2⟩ (by omega)
    simp only [List.range_succ, List.foldl_append, List.foldl_cons, List.foldl_nil] at ih
    generalize (List.range i).foldl (fun s i => s.add (lo + i)) nzero = s at hok ih ⊢
    obtain ⟨s0, s1, s2, s3⟩ := s
    obtain ⟨k0, k1, k2, k3⟩ := hok
    simp only at k0 k1 k2 k3
    have e7 : ((lo + i : Nat) : Int) + 1 = ((lo + (i + 1) : Nat) : Int) := by omega
    generalize hbe : lo + i = b at hb ih e4 e7 ⊢
    obtain ⟨p, hp, hpe, hsh⟩ := add_facts hb
    have h64 : b / 64 = 0 ∨ b / 64 = 1 ∨ b / 64 = 2 ∨ b / 64 = 3 := by omega
    rcases h64 with h64 | h64 | h64 | h64
    all_goals
      simp only [NSet.add, h64, ← hpe] at ih
    · obtain ⟨hd, hm, hmin⟩ := range_facts hb h64 (c := 0) rfl
      have ho := bits_or k0 hp
      repeat' (first
  | refine gSq ?_ | refine gSk ?_ | refine gBl ?_ | refine gIb ?_ | refine gEx rfl ?_
  | ((first
  | (refine gRg [] [0, 1, 4, 5, 6, 12] ?_; intro K hK)
  | (refine gDr 5 [] 9 [0, 1, 2, 3, 4, 5, 6, 7, 8, 9] [0, 1, 4, 5, 6, 12] rfl ?_; intro K hK)
  | (refine gd_split ?_ ?_ <;> intro hb <;> (try simp only [bls] at hb) <;> (try simp only [hb]))
  | refine gRt [] [.cell 4 38] rfl ?_ | refine gDn [] [.cell 4 38] rfl ?_) <;> (try simp only [go_sem, simprocAttr, w2, e4, e7, hd, hm, hmin, hsh, ho, IntKind.bits]))
  | (refine hK _ _ ?_; clear hK K; simp only [go_sem, simprocAttr])
  | refine gCd (by simp only [go_sem, simprocAttr]; rfl) rfl ?_
  | refine brT ?_ | refine brF ?_
  | (refine brS ?_ ?_ <;> intro hc <;> (try simp only [bls] at hc) <;> (try simp only [hc, bls]))
  | intro _ | refine And.intro ?_ ?_)
      all_goals first | omega | (unfold bigLen; omega) | exact ⟨_, _, ⟨rfl, rfl⟩, rfl⟩ | exact ⟨_, rfl⟩ | (rename_i hy; simp only [List.mem_singleton] at hy; subst hy; rfl) | skip
      refine AGood.prune [0, 1, 4, 5, 6] ?_; simp only [go_sem, simprocAttr]
      exact ih.cast rfl rfl
    · obtain ⟨hd, hm, hmin⟩ := range_facts hb h64 (c := 1) rfl
      have ho := bits_or k1 hp
      repeat' (first
  | refine gSq ?_ | refine gSk ?_ | refine gBl ?_ | refine gIb ?_ | refine gEx rfl ?_
  | ((first
  | (refine gRg [] [0, 1, 4, 5, 6, 12] ?_; intro K hK)
  | (refine gDr 5 [] 9 [0, 1, 2, 3, 4, 5, 6, 7, 8, 9] [0, 1, 4, 5, 6, 12] rfl ?_; intro K hK)
  | (refine gd_split ?_ ?_ <;> intro hb <;> (try simp only [bls] at hb) <;> (try simp only [hb]))
  | refine gRt [] [.cell 4 38] rfl ?_ | refine gDn [] [.cell 4 38] rfl ?_) <;> (try simp only [go_sem, simprocAttr, w2, e4, e7, hd, hm, hmin, hsh, ho, IntKind.bits]))
  | (refine hK _ _ ?_; clear hK K; simp only [go_sem, simprocAttr])
  | refine gCd (by simp only [go_sem, simprocAttr]; rfl) rfl ?_
  | refine brT ?_ | refine brF ?_
  | (refine brS ?_ ?_ <;> intro hc <;> (try simp only [bls] at hc) <;> (try simp only [hc, bls]))
  | intro _ | refine And.intro ?_ ?_)
      all_goals first | omega | (unfold bigLen; omega) | exact ⟨_, _, ⟨rfl, rfl⟩, rfl⟩ | exact ⟨_, rfl⟩ | (rename_i hy; simp only [List.mem_singleton] at hy; subst hy; rfl) | skip
      refine AGood.prune [0, 1, 4, 5, 6] ?_; simp only [go_sem, simprocAttr]
      exact ih.cast rfl rfl
    · obtain ⟨hd, hm, hmin⟩ := range_facts hb h64 (c := 2) rfl
      have ho := bits_or k2 hp
      repeat' (first
  | refine gSq ?_ | refine gSk ?_ | refine gBl ?_ | refine gIb ?_ | refine gEx rfl ?_
  | ((first
  | (refine gRg [] [0, 1, 4, 5, 6, 12] ?_; intro K hK)
  | (refine gDr 5 [] 9 [0, 1, 2, 3, 4, 5, 6, 7, 8, 9] [0, 1, 4, 5, 6, 12] rfl ?_; intro K hK)
  | (refine gd_split ?_ ?_ <;> intro hb <;> (try simp only [bls] at hb) <;> (try simp only [hb]))
  | refine gRt [] [.cell 4 38] rfl ?_ | refine gDn [] [.cell 4 38] rfl ?_) <;> (try simp only [go_sem, simprocAttr, w2, e4, e7, hd, hm, hmin, hsh, ho, IntKind.bits]))
  | (refine hK _ _ ?_; clear hK K; simp only [go_sem, simprocAttr])
  | refine gCd (by simp only [go_sem, simprocAttr]; rfl) rfl ?_
  | refine brT ?_ | refine brF ?_
  | (refine brS ?_ ?_ <;> intro hc <;> (try simp only [bls] at hc) <;> (try simp only [hc, bls]))
  | intro _ | refine And.intro ?_ ?_)
      all_goals first | omega | (unfold bigLen; omega) | exact ⟨_, _, ⟨rfl, rfl⟩, rfl⟩ | exact ⟨_, rfl⟩ | (rename_i hy; simp only [List.mem_singleton] at hy; subst hy; rfl) | skip
      refine AGood.prune [0, 1, 4, 5, 6] ?_; simp only [go_sem, simprocAttr]
      exact ih.cast rfl rfl
    · obtain ⟨hd, hm, hmin⟩ := range_facts hb h64 (c := 3) rfl
      have ho := bits_or k3 hp
      repeat' (first
  | refine gSq ?_ | refine gSk ?_ | refine gBl ?_ | refine gIb ?_ | refine gEx rfl ?_
  | ((first
  | (refine gRg [] [0, 1, 4, 5, 6, 12] ?_; intro K hK)
  | (refine gDr 5 [] 9 [0, 1, 2, 3, 4, 5, 6, 7, 8, 9] [0, 1, 4, 5, 6, 12] rfl ?_; intro K hK)
  | (refine gd_split ?_ ?_ <;> intro hb <;> (try simp only [bls] at hb) <;> (try simp only [hb]))
  | refine gRt [] [.cell 4 38] rfl ?_ | refine gDn [] [.cell 4 38] rfl ?_) <;> (try simp only [go_sem, simprocAttr, w2, e4, e7, hd, hm, hmin, hsh, ho, IntKind.bits]))
  | (refine hK _ _ ?_; clear hK K; simp only [go_sem, simprocAttr])
  | refine gCd (by simp only [go_sem, simprocAttr]; rfl) rfl ?_
  | refine brT ?_ | refine brF ?_
  | (refine brS ?_ ?_ <;> intro hc <;> (try simp only [bls] at hc) <;> (try simp only [hc, bls]))
  | intro _ | refine And.intro ?_ ?_)
      all_goals first | omega | (unfold bigLen; omega) | exact ⟨_, _, ⟨rfl, rfl⟩, rfl⟩ | exact ⟨_, rfl⟩ | (rename_i hy; simp only [List.mem_singleton] at hy; subst hy; rfl) | skip
      refine AGood.prune [0, 1, 4, 5, 6] ?_; simp only [go_sem, simprocAttr]
      exact ih.cast rfl rfl
  · have e4 : ¬ ((lo + i : Nat) : Int) ≤ (hi : Int) := by omega
    have e5 : i = hi + 1 - lo := by omega
    subst e5
    simp only [rangeS]
    generalize (List.range (hi + 1 - lo)).foldl (fun s i => s.add (lo + i)) nzero = s
    obtain ⟨s0, s1, s2, s3⟩ := s
    repeat' (first
  | refine gSq ?_ | refine gSk ?_ | refine gBl ?_ | refine gIb ?_ | refine gEx rfl ?_
  | ((first
  | (refine gRg [] [0, 1, 4, 5, 6, 12] ?_; intro K hK)
  | (refine gDr 5 [] 9 [0, 1, 2, 3, 4, 5, 6, 7, 8, 9] [0, 1, 4, 5, 6, 12] rfl ?_; intro K hK)
  | (refine gd_split ?_ ?_ <;> intro hb <;> (try simp only [bls] at hb) <;> (try simp only [hb]))
  | refine gRt [] [.cell 4 38] rfl ?_ | refine gDn [] [.cell 4 38] rfl ?_) <;> (try simp only [go_sem, simprocAttr, w1, w2, e4]))
  | (refine hK _ _ ?_; clear hK K; simp only [go_sem, simprocAttr])
  | refine gCd (by simp only [go_sem, simprocAttr]; rfl) rfl ?_
  | refine brT ?_ | refine brF ?_
  | (refine brS ?_ ?_ <;> intro hc <;> (try simp only [bls] at hc) <;> (try simp only [hc, bls]))
  | intro _ | refine And.intro ?_ ?_)

theorem not2uc : ACall Tryd.prog 58 [.agg nzero.I.cells] [] fun r s' => r = .agg nfull.I.cells ∧ s' = [] := by
  have hx : bitsOf .xor .u64 IntKind.u64.max 0 = 18446744073709551615 := by kernel_rfl
  have hs : IntKind.u64.signed = false := rfl
  simp only [nzero, Int.natCast_zero]
  refine ACall.enter Tryd.func58 rfl (by kernel_rfl) (Nat.le_of_ble_eq_true rfl) ?_; simp only [initTm, Nat.reduceAdd]
  repeat' (first
  | refine AGood.loopAt 2 ?_
    | refine AGood.inLoopAt 2 ?_
  | refine gSq ?_ | refine gSk ?_ | refine gBl ?_ | refine gIb ?_ | refine gEx rfl ?_
  | ((first
  | (refine gRg [] [0, 1, 2, 3, 4, 5, 6, 7] ?_; intro K hK)
  | (refine gd_split ?_ ?_ <;> intro hb <;> (try simp only [bls] at hb) <;> (try simp only [hb]))
  | refine gRt [] [.cell 2 38] rfl ?_ | refine gDn [] [.cell 2 38] rfl ?_) <;> (try simp only [go_sem, simprocAttr, hx, hs]))
  | (refine hK _ _ ?_; clear hK K; simp only [go_sem, simprocAttr])
  | refine gCd (by simp only [go_sem, simprocAttr]; rfl) rfl ?_
  | refine brT ?_ | refine brF ?_
  | (refine brS ?_ ?_ <;> intro hc <;> (try simp only [bls] at hc) <;> (try simp only [hc, bls]))
  | intro _ | refine And.intro ?_ ?_)
  all_goals first | omega | (unfold bigLen; omega) | exact ⟨_, _, ⟨rfl, rfl⟩, rfl⟩ | exact ⟨_, rfl⟩ | (rename_i hy; simp only [List.mem_singleton] at hy; subst hy; rfl) | skip
  rfl

theorem or2uc (q f : Bool) (l : List NSet) (hok : ∀ s ∈ l, s.ok) (hl : l.length ≤ 1000000) : ACall Tryd.prog 43 [.sl q f (nsets l)] [] fun r s' => r = .agg (l.foldl NSet.or nzero).I.cells ∧ s' = [] := by
  refine ACall.enter Tryd.func43 rfl (by kernel_rfl) (Nat.le_of_ble_eq_true rfl) ?_; simp only [initTm, Nat.reduceAdd]
  repeat' (first
  | refine gSq ?_ | refine gSk ?_ | refine gBl ?_ | refine gIb ?_ | refine gEx rfl ?_
  | ((first
  | (refine gRg [] [0, 2, 3, 5, 6, 7, 8, 9, 10, 11, 14, 15, 16] ?_; intro K hK)
  | (refine gd_split ?_ ?_ <;> intro hb <;> (try simp only [bls] at hb) <;> (try simp only [hb]))
  | refine gRt [] [.cell 2 38] rfl ?_ | refine gDn [] [.cell 2 38] rfl ?_) <;> (try simp only [go_sem, simprocAttr]))
  | (refine hK _ _ ?_; clear hK K; simp only [go_sem, simprocAttr])
  | refine gCd (by simp only [go_sem, simprocAttr]; rfl) rfl ?_
  | refine brT ?_ | refine brF ?_
  | (refine brS ?_ ?_ <;> intro hc <;> (try simp only [bls] at hc) <;> (try simp only [hc, bls]))
  | intro _ | refine And.intro ?_ ?_)
  rename_i h2 h3
  refine AGood.prune [0, 2, 3, 8, 9, 10] ?_; simp only [go_sem, simprocAttr]
  refine AGood.loopInv (α := Nat) (fun i => ([(0, .sl q f (nsets l)), (2, .bx 2 h2 0), (3, .bx 3 h3 0), (8, .sl q f (nsets l)), (9, .int .i64 l.length), (10, .int .i64 i)], [(2, h2, .box ISet.none.cells), (3, h3, .box ((l.take i).foldl NSet.or nzero).I.cells)])) (fun i => i ≤ l.length ∧ ((l.take i).foldl NSet.or nzero).ok) (fun i => l.length - i) 0 ⟨Nat.zero_le _, by simp [nzero, NSet.ok]⟩ rfl ?_
  rintro i ⟨hi, hk⟩ ih
  simp only
  by_cases hle : i < l.length
  · have e4 : (i : Int) < l.length := by omega
    have e5 : (0 : Int) ≤ i := by omega
    have hx : l[i]? = some l[i] := List.getElem?_eq_getElem hle
    have hb := hok l[i] (List.getElem_mem hle)
    have ht : (l.take (i + 1)).foldl NSet.or nzero = ((l.take i).foldl NSet.or nzero).or l[i] := by rw [take_one hx, List.foldl_append]; rfl
    generalize l[i] = b at hx hb ht
    have hok2 : ((l.take (i + 1)).foldl NSet.or nzero).ok := by rw [ht]; exact or_ok hk hb
    have ih := ih (i + 1) ⟨by omega, hok2⟩ (by omega)
    simp only [ht] at ih
    generalize (l.take i).foldl NSet.or nzero = s at hk ih ⊢
    obtain ⟨s0, s1, s2, s3⟩ := s
    obtain ⟨b0, b1, b2, b3⟩ := b
    obtain ⟨k0, k1, k2, k3⟩ := hk
    obtain ⟨j0, j1, j2, j3⟩ := hb
    simp only at k0 k1 k2 k3 j0 j1 j2 j3
    have o0 := bits_or k0 j0
    have o1 := bits_or k1 j1
    have o2 := bits_or k2 j2
    have o3 := bits_or k3 j3
    repeat' (first
  | refine AGood.loopAt 6 ?_
    | refine AGood.inLoopAt 6 ?_
  | refine gSq ?_ | refine gSk ?_ | refine gBl ?_ | refine gIb ?_ | refine gEx rfl ?_
  | ((first
  | (refine gRg [] [0, 2, 3, 5, 6, 7, 8, 9, 10, 11, 14, 15, 16] ?_; intro K hK)
  | (refine gd_split ?_ ?_ <;> intro hb <;> (try simp only [bls] at hb) <;> (try simp only [hb]))
  | refine gRt [] [.cell 2 38] rfl ?_ | refine gDn [] [.cell 2 38] rfl ?_) <;> (try simp only [go_sem, simprocAttr, e4, e5, hx, o0, o1, o2, o3, Option.some.injEq, forall_eq']))
  | (refine hK _ _ ?_; clear hK K; simp only [go_sem, simprocAttr])
  | refine gCd (by simp only [go_sem, simprocAttr]; rfl) rfl ?_
  | refine brT ?_ | refine brF ?_
  | (refine brS ?_ ?_ <;> intro hc <;> (try simp only [bls] at hc) <;> (try simp only [hc, bls]))
  | intro _ | refine And.intro ?_ ?_)
    all_goals first | omega | (unfold bigLen; omega) | exact ⟨_, _, ⟨rfl, rfl⟩, rfl⟩ | exact ⟨_, rfl⟩ | (rename_i hy; simp only [List.mem_singleton] at hy; subst hy; rfl) | skip
    refine AGood.filt [2, 3] ?_
    simp only [sf_cons, sf_nil, go_sem, simprocAttr]
    refine AGood.prune [0, 2, 3, 8, 9, 10] ?_; simp only [go_sem, simprocAttr]
    exact ih.cast rfl rfl
  · have e4 : ¬ (i : Int) < l.length := by omega
    rw [List.take_of_length_le (by omega)]
    generalize l.foldl NSet.or nzero = s
    obtain ⟨s0, s1, s2, s3⟩ := s
    repeat' (first
  | refine gSq ?_ | refine gSk ?_ | refine gBl ?_ | refine gIb ?_ | refine gEx rfl ?_
  | ((first
  | (refine gRg [] [0, 2, 3, 5, 6, 7, 8, 9, 10, 11, 14, 15, 16] ?_; intro K hK)
  | (refine gd_split ?_ ?_ <;> intro hb <;> (try simp only [bls] at hb) <;> (try simp only [hb]))
  | refine gRt [] [.cell 2 38] rfl ?_ | refine gDn [] [.cell 2 38] rfl ?_) <;> (try simp only [go_sem, simprocAttr, e4]))
  | (refine hK _ _ ?_; clear hK K; simp only [go_sem, simprocAttr])
  | refine gCd (by simp only [go_sem, simprocAttr]; rfl) rfl ?_
  | refine brT ?_ | refine brF ?_
  | (refine brS ?_ ?_ <;> intro hc <;> (try simp only [bls] at hc) <;> (try simp only [hc, bls]))
  | intro _ | refine And.intro ?_ ?_)
theorem and2uc (q f : Bool) (l : List NSet) (hok : ∀ s ∈ l, s.ok) (hl : l.length ≤ 1000000) : ACall Tryd.prog 41 [.sl q f (nsets l)] [] fun r s' => r = .agg (l.foldl NSet.and nfull).I.cells ∧ s' = [] := by
  have hnot := not2uc
  simp only [nzero, nfull, Int.natCast_zero] at hnot
  refine ACall.enter Tryd.func41 rfl (by kernel_rfl) (Nat.le_of_ble_eq_true rfl) ?_; simp only [initTm, Nat.reduceAdd]
  repeat' (first
  | refine gSq ?_ | refine gSk ?_ | refine gBl ?_ | refine gIb ?_ | refine gEx rfl ?_
  | ((first
  | (refine gRg [] [0, 2, 3, 5, 6, 7, 10, 11, 12, 13, 16, 17, 18] ?_; intro K hK)
  | refine cAl (hnot) rfl rfl rfl ?_
  | (refine gd_split ?_ ?_ <;> intro hb <;> (try simp only [bls] at hb) <;> (try simp only [hb]))
  | refine gRt [] [.cell 2 38] rfl ?_ | refine gDn [] [.cell 2 38] rfl ?_) <;> (try simp only [go_sem, simprocAttr]))
  | (refine hK _ _ ?_; clear hK K; simp only [go_sem, simprocAttr])
  | refine gCd (by simp only [go_sem, simprocAttr]; rfl) rfl ?_
  | refine brT ?_ | refine brF ?_
  | (refine brS ?_ ?_ <;> intro hc <;> (try simp only [bls] at hc) <;> (try simp only [hc, bls]))
  | intro _ | refine And.intro ?_ ?_)
  rename_i h2 h3
  refine AGood.prune [0, 2, 3, 10, 11, 12] ?_; simp only [go_sem, simprocAttr]
  refine AGood.loopInv (α := Nat) (fun i => ([(0, .sl q f (nsets l)), (2, .bx 2 h2 0), (3, .bx 3 h3 0), (10, .sl q f (nsets l)), (11, .int .i64 l.length), (12, .int .i64 i)], [(2, h2, .box ISet.none.cells), (3, h3, .box ((l.take i).foldl NSet.and nfull).I.cells)])) (fun i => i ≤ l.length ∧ ((l.take i).foldl NSet.and nfull).ok) (fun i => l.length - i) 0 ⟨Nat.zero_le _, by simp [nfull, NSet.ok]⟩ rfl ?_
  rintro i ⟨hi, hk⟩ ih
  simp only
  by_cases hle : i < l.length
  · have e4 : (i : Int) < l.length := by omega
    have e5 : (0 : Int) ≤ i := by omega
    have hx : l[i]? = some l[i] := List.getElem?_eq_getElem hle
    have hb := hok l[i] (List.getElem_mem hle)
    have ht : (l.take (i + 1)).foldl NSet.and nfull = ((l.take i).foldl NSet.and nfull).and l[i] := by rw [take_one hx, List.foldl_append]; rfl
    generalize l[i] = b at hx hb ht
    have hok2 : ((l.take (i + 1)).foldl NSet.and nfull).ok := by rw [ht]; exact and_ok hk
    have ih := ih (i + 1) ⟨by omega, hok2⟩ (by omega)
    simp only [ht] at ih
    generalize (l.take i).foldl NSet.and nfull = s at hk ih ⊢
    obtain ⟨s0, s1, s2, s3⟩ := s
    obtain ⟨b0, b1, b2, b3⟩ := b
    obtain ⟨k0, k1, k2, k3⟩ := hk
    obtain ⟨j0, j1, j2, j3⟩ := hb
    simp only at k0 k1 k2 k3 j0 j1 j2 j3
    have o0 := bits_and k0 j0
    have o1 := bits_and k1 j1
    have o2 := bits_and k2 j2
    have o3 := bits_and k3 j3
    repeat' (first
  | refine AGood.loopAt 6 ?_
    | refine AGood.inLoopAt 6 ?_
  | refine gSq ?_ | refine gSk ?_ | refine gBl ?_ | refine gIb ?_ | refine gEx rfl ?_
  | ((first
  | (refine gRg [] [0, 2, 3, 5, 6, 7, 10, 11, 12, 13, 16, 17, 18] ?_; intro K hK)
  | (refine gd_split ?_ ?_ <;> intro hb <;> (try simp only [bls] at hb) <;> (try simp only [hb]))
  | refine gRt [] [.cell 2 38] rfl ?_ | refine gDn [] [.cell 2 38] rfl ?_) <;> (try simp only [go_sem, simprocAttr, e4, e5, hx, o0, o1, o2, o3, Option.some.injEq, forall_eq']))
  | (refine hK _ _ ?_; clear hK K; simp only [go_sem, simprocAttr])
  | refine gCd (by simp only [go_sem, simprocAttr]; rfl) rfl ?_
  | refine brT ?_ | refine brF ?_
  | (refine brS ?_ ?_ <;> intro hc <;> (try simp only [bls] at hc) <;> (try simp only [hc, bls]))
  | intro _ | refine And.intro ?_ ?_)
    all_goals first | omega | (unfold bigLen; omega) | exact ⟨_, _, ⟨rfl, rfl⟩, rfl⟩ | exact ⟨_, rfl⟩ | (rename_i hy; simp only [List.mem_singleton] at hy; subst hy; rfl) | skip
    refine AGood.filt [2, 3] ?_
    simp only [sf_cons, sf_nil, go_sem, simprocAttr]
    refine AGood.prune [0, 2, 3, 10, 11, 12] ?_; simp only [go_sem, simprocAttr]
    exact ih.cast rfl rfl
  · have e4 : ¬ (i : Int) < l.length := by omega
    rw [List.take_of_length_le (by omega)]
    generalize l.foldl NSet.and nfull = s
    obtain ⟨s0, s1, s2, s3⟩ := s
    repeat' (first
  | refine gSq ?_ | refine gSk ?_ | refine gBl ?_ | refine gIb ?_ | refine gEx rfl ?_
  | ((first
  | (refine gRg [] [0, 2, 3, 5, 6, 7, 10, 11, 12, 13, 16, 17, 18] ?_; intro K hK)
  | (refine gd_split ?_ ?_ <;> intro hb <;> (try simp only [bls] at hb) <;> (try simp only [hb]))
  | refine gRt [] [.cell 2 38] rfl ?_ | refine gDn [] [.cell 2 38] rfl ?_) <;> (try simp only [go_sem, simprocAttr, e4]))
  | (refine hK _ _ ?_; clear hK K; simp only [go_sem, simprocAttr])
  | refine gCd (by simp only [go_sem, simprocAttr]; rfl) rfl ?_
  | refine brT ?_ | refine brF ?_
  | (refine brS ?_ ?_ <;> intro hc <;> (try simp only [bls] at hc) <;> (try simp only [hc, bls]))
  | intro _ | refine And.intro ?_ ?_)
end Go.Rad
