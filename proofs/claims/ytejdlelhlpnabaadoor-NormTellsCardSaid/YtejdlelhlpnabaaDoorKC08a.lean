/- Contracts: the document's fold of sets, and of trees. -/
import Derived.Test.YtejdlelhlpnabaaDoorKC06h
import Derived.Test.YtejdlelhlpnabaaDoorKC03d
import Derived.Test.YtejdlelhlpnabaaDoorKC04c
import Derived.Test.YtejdlelhlpnabaaDoorKC06e
set_option linter.all false
namespace Go.Rad
open Go Go.Proofs
set_option linter.all false
set_option maxRecDepth 20000
set_option maxHeartbeats 4000000

def step1 (s out : ISet) (b : Nat) : ISet := if hasI s b || hasI s (b - 32) then withI (withI out b) (b - 32) else out
def fold1 (s : ISet) : ISet := (List.range 26).foldl (fun out i => step1 s out (97 + i)) s
theorem fold1uc (s0 s1 s2 s3 : Int) : ACall Tryd.prog 26 [.agg [.int .u64 s0, .int .u64 s1, .int .u64 s2, .int .u64 s3]] [] fun r s' => r = .agg (fold1 ⟨s0, s1, s2, s3⟩).cells ∧ s' = [] := by
  refine ACall.enter Tryd.func26 rfl (by kernel_rfl) (Nat.le_of_ble_eq_true rfl) ?_; simp only [initTm, Nat.reduceAdd]
  repeat' (first
  | refine gSq ?_ | refine gSk ?_ | refine gBl ?_ | refine gIb ?_ | refine gEx rfl ?_
  | ((first
  | (refine gRg [] [0, 1, 2, 3, 4, 7, 18] ?_; intro K hK)
  | (refine gd_split ?_ ?_ <;> intro hb <;> (try simp only [bls] at hb) <;> (try simp only [hb]))
  | refine gRt [] [.cell 2 38] rfl ?_ | refine gDn [] [.cell 2 38] rfl ?_) <;> (try simp only [go_sem, simprocAttr]))
  | (refine hK _ _ ?_; clear hK K; simp only [go_sem, simprocAttr])
  | refine gCd (by simp only [go_sem, simprocAttr]; rfl) rfl ?_
  | refine brT ?_ | refine brF ?_
  | (refine brS ?_ ?_ <;> intro hc <;> (try simp only [bls] at hc) <;> (try simp only [hc, bls]))
  | intro _ | refine And.intro ?_ ?_)
  rename_i g1 g2 g3
  refine AGood.prune [1, 2, 3, 4] ?_; simp only [go_sem, simprocAttr]
  refine AGood.loopInv (α := Nat) (fun i => ([(1, .bx 1 g1 0), (2, .bx 2 g2 0), (3, .bx 3 g3 0), (4, .int .u8 (97 + i : Nat))], [(1, g1, .box [.int .u64 s0, .int .u64 s1, .int .u64 s2, .int .u64 s3]), (2, g2, .box ISet.none.cells), (3, g3, .box ((List.range i).foldl (fun out i => step1 ⟨s0, s1, s2, s3⟩ out (97 + i)) ⟨s0, s1, s2, s3⟩).cells)])) (fun i => i ≤ 26) (fun i => 26 - i) 0 (Nat.zero_le _) rfl ?_
  intro i hi ih
  simp only
  by_cases hle : i < 26
  · have ht : (List.range (i + 1)).foldl (fun out i => step1 ⟨s0, s1, s2, s3⟩ out (97 + i)) ⟨s0, s1, s2, s3⟩ = step1 ⟨s0, s1, s2, s3⟩ ((List.range i).foldl (fun out i => step1 ⟨s0, s1, s2, s3⟩ out (97 + i)) ⟨s0, s1, s2, s3⟩) (97 + i) := by
      rw [List.range_succ, List.foldl_append]; rfl
    have ih := ih (i + 1) (by omega) (by omega)
    rw [ht] at ih
    generalize (List.range i).foldl (fun out i => step1 ⟨s0, s1, s2, s3⟩ out (97 + i)) ⟨s0, s1, s2, s3⟩ = o at ih ⊢
    have e1 : IntKind.u8.wrap (((97 + i : Nat) : Int) - 32) = ((97 + i - 32 : Nat) : Int) := by
      rw [show (((97 + i : Nat) : Int) - 32) = ((97 + i - 32 : Nat) : Int) by omega]
      exact wr_u8n (by omega)
    have e2 : IntKind.u8.wrap (((97 + i : Nat) : Int) + 1) = ((97 + (i + 1) : Nat) : Int) := by
      rw [show (((97 + i : Nat) : Int) + 1) = ((97 + (i + 1) : Nat) : Int) by omega]
      exact wr_u8n (by omega)
    have e4 : ((97 + i : Nat) : Int) ≤ 122 := by omega
    have hb : 97 + i ≤ 255 := by omega
    have hb2 : 97 + i - 32 ≤ 255 := by omega
    generalize hbb : 97 + i = b at *
    have hh1 := has_c s0 s1 s2 s3 b hb
    have hh2 := has_c s0 s1 s2 s3 (b - 32) hb2
    have hw1 := with_c o.a o.b o.c o.d b hb
    have hw2 := with_c (withI o b).a (withI o b).b (withI o b).c (withI o b).d (b - 32) hb2
    unfold step1 at ih
    cases h1 : hasI ⟨s0, s1, s2, s3⟩ b <;> cases h2 : hasI ⟨s0, s1, s2, s3⟩ (b - 32) <;> rw [h1] at hh1 ih <;> rw [h2] at hh2 ih <;> simp only [Bool.or_self, Bool.or_true, Bool.or_false, Bool.true_or, Bool.false_eq_true, if_true, if_false] at ih
    · repeat' (first
  | refine gSq ?_ | refine gSk ?_ | refine gBl ?_ | refine gIb ?_ | refine gEx rfl ?_
  | ((first
  | (refine gRg [] [0, 1, 2, 3, 4, 7, 18] ?_; intro K hK)
  | refine cAl (hh1) rfl rfl rfl ?_
  | refine cAl (hh2) rfl rfl rfl ?_
  | refine cAl (hw1) rfl rfl rfl ?_
  | refine cAl (hw2) rfl rfl rfl ?_
  | (refine gd_split ?_ ?_ <;> intro hb <;> (try simp only [bls] at hb) <;> (try simp only [hb]))
  | refine gRt [] [.cell 2 38] rfl ?_ | refine gDn [] [.cell 2 38] rfl ?_) <;> (try simp only [go_sem, simprocAttr, e1, e2, e4]))
  | (refine hK _ _ ?_; clear hK K; simp only [go_sem, simprocAttr])
  | refine gCd (by simp only [go_sem, simprocAttr]; rfl) rfl ?_
  | refine brT ?_ | refine brF ?_
  | (refine brS ?_ ?_ <;> intro hc <;> (try simp only [bls] at hc) <;> (try simp only [hc, bls]))
  | intro _ | refine And.intro ?_ ?_)
      all_goals first | omega | (unfold bigLen; omega) | exact ⟨_, _, ⟨rfl, rfl⟩, rfl⟩ | exact ⟨_, rfl⟩ | (rename_i hy; simp only [List.mem_singleton] at hy; subst hy; rfl) | skip
      refine AGood.prune [1, 2, 3, 4] ?_; simp only [go_sem, simprocAttr]
      exact ih.cast rfl rfl
    · repeat' (first
  | refine gSq ?_ | refine gSk ?_ | refine gBl ?_ | refine gIb ?_ | refine gEx rfl ?_
  | ((first
  | (refine gRg [] [0, 1, 2, 3, 4, 7, 18] ?_; intro K hK)
  | refine cAl (hh1) rfl rfl rfl ?_
  | refine cAl (hh2) rfl rfl rfl ?_
  | refine cAl (hw1) rfl rfl rfl ?_
  | refine cAl (hw2) rfl rfl rfl ?_
  | (refine gd_split ?_ ?_ <;> intro hb <;> (try simp only [bls] at hb) <;> (try simp only [hb]))
  | refine gRt [] [.cell 2 38] rfl ?_ | refine gDn [] [.cell 2 38] rfl ?_) <;> (try simp only [go_sem, simprocAttr, e1, e2, e4]))
  | (refine hK _ _ ?_; clear hK K; simp only [go_sem, simprocAttr])
  | refine gCd (by simp only [go_sem, simprocAttr]; rfl) rfl ?_
  | refine brT ?_ | refine brF ?_
  | (refine brS ?_ ?_ <;> intro hc <;> (try simp only [bls] at hc) <;> (try simp only [hc, bls]))
  | intro _ | refine And.intro ?_ ?_)
      all_goals first | omega | (unfold bigLen; omega) | exact ⟨_, _, ⟨rfl, rfl⟩, rfl⟩ | exact ⟨_, rfl⟩ | (rename_i hy; simp only [List.mem_singleton] at hy; subst hy; rfl) | skip
      refine AGood.prune [1, 2, 3, 4] ?_; simp only [go_sem, simprocAttr]
      exact ih.cast rfl rfl
    · repeat' (first
  | refine gSq ?_ | refine gSk ?_ | refine gBl ?_ | refine gIb ?_ | refine gEx rfl ?_
  | ((first
  | (refine gRg [] [0, 1, 2, 3, 4, 7, 18] ?_; intro K hK)
  | refine cAl (hh1) rfl rfl rfl ?_
  | refine cAl (hh2) rfl rfl rfl ?_
  | refine cAl (hw1) rfl rfl rfl ?_
  | refine cAl (hw2) rfl rfl rfl ?_
  | (refine gd_split ?_ ?_ <;> intro hb <;> (try simp only [bls] at hb) <;> (try simp only [hb]))
  | refine gRt [] [.cell 2 38] rfl ?_ | refine gDn [] [.cell 2 38] rfl ?_) <;> (try simp only [go_sem, simprocAttr, e1, e2, e4]))
  | (refine hK _ _ ?_; clear hK K; simp only [go_sem, simprocAttr])
  | refine gCd (by simp only [go_sem, simprocAttr]; rfl) rfl ?_
  | refine brT ?_ | refine brF ?_
  | (refine brS ?_ ?_ <;> intro hc <;> (try simp only [bls] at hc) <;> (try simp only [hc, bls]))
  | intro _ | refine And.intro ?_ ?_)
      all_goals first | omega | (unfold bigLen; omega) | exact ⟨_, _, ⟨rfl, rfl⟩, rfl⟩ | exact ⟨_, rfl⟩ | (rename_i hy; simp only [List.mem_singleton] at hy; subst hy; rfl) | skip
      refine AGood.prune [1, 2, 3, 4] ?_; simp only [go_sem, simprocAttr]
      exact ih.cast rfl rfl
    · repeat' (first
  | refine gSq ?_ | refine gSk ?_ | refine gBl ?_ | refine gIb ?_ | refine gEx rfl ?_
  | ((first
  | (refine gRg [] [0, 1, 2, 3, 4, 7, 18] ?_; intro K hK)
  | refine cAl (hh1) rfl rfl rfl ?_
  | refine cAl (hh2) rfl rfl rfl ?_
  | refine cAl (hw1) rfl rfl rfl ?_
  | refine cAl (hw2) rfl rfl rfl ?_
  | (refine gd_split ?_ ?_ <;> intro hb <;> (try simp only [bls] at hb) <;> (try simp only [hb]))
  | refine gRt [] [.cell 2 38] rfl ?_ | refine gDn [] [.cell 2 38] rfl ?_) <;> (try simp only [go_sem, simprocAttr, e1, e2, e4]))
  | (refine hK _ _ ?_; clear hK K; simp only [go_sem, simprocAttr])
  | refine gCd (by simp only [go_sem, simprocAttr]; rfl) rfl ?_
  | refine brT ?_ | refine brF ?_
  | (refine brS ?_ ?_ <;> intro hc <;> (try simp only [bls] at hc) <;> (try simp only [hc, bls]))
  | intro _ | refine And.intro ?_ ?_)
      all_goals first | omega | (unfold bigLen; omega) | exact ⟨_, _, ⟨rfl, rfl⟩, rfl⟩ | exact ⟨_, rfl⟩ | (rename_i hy; simp only [List.mem_singleton] at hy; subst hy; rfl) | skip
      refine AGood.prune [1, 2, 3, 4] ?_; simp only [go_sem, simprocAttr]
      exact ih.cast rfl rfl
  · have e4 : ¬ ((97 + i : Nat) : Int) ≤ 122 := by omega
    have hin : i = 26 := by omega
    subst hin
    rw [show (List.range 26).foldl (fun out i => step1 ⟨s0, s1, s2, s3⟩ out (97 + i)) ⟨s0, s1, s2, s3⟩ = fold1 ⟨s0, s1, s2, s3⟩ from rfl]
    generalize fold1 ⟨s0, s1, s2, s3⟩ = o
    clear ih
    repeat' (first
  | refine gSq ?_ | refine gSk ?_ | refine gBl ?_ | refine gIb ?_ | refine gEx rfl ?_
  | ((first
  | (refine gRg [] [0, 1, 2, 3, 4, 7, 18] ?_; intro K hK)
  | (refine gd_split ?_ ?_ <;> intro hb <;> (try simp only [bls] at hb) <;> (try simp only [hb]))
  | refine gRt [] [.cell 2 38] rfl ?_ | refine gDn [] [.cell 2 38] rfl ?_) <;> (try simp only [go_sem, simprocAttr, e4]))
  | (refine hK _ _ ?_; clear hK K; simp only [go_sem, simprocAttr])
  | refine gCd (by simp only [go_sem, simprocAttr]; rfl) rfl ?_
  | refine brT ?_ | refine brF ?_
  | (refine brS ?_ ?_ <;> intro hc <;> (try simp only [bls] at hc) <;> (try simp only [hc, bls]))
  | intro _ | refine And.intro ?_ ?_)
/-- A word's bit, as the document reckons it. -/
theorem hasI_has {s : NSet} {b : Nat} (hb : b < 256) : hasI s.I b = s.has b := by
  have hw : s.I.word (b / 64) = ((s.word (b / 64) : Nat) : Int) := by
    have h4 : b / 64 = 0 ∨ b / 64 = 1 ∨ b / 64 = 2 ∨ b / 64 = 3 := by omega
    rcases h4 with h | h | h | h <;> rw [h] <;> rfl
  unfold hasI NSet.has
  rw [hw, Int.fdiv_eq_ediv_of_nonneg _ (Int.pow_nonneg (by decide))]
  rw [show ((2 : Int) ^ (b % 64)) = ((2 ^ (b % 64) : Nat) : Int) by simp]
  rw [← Int.natCast_ediv, Nat.testBit_eq_decide_div_mod_eq]
  generalize s.word (b / 64) / 2 ^ (b % 64) = x
  rw [show ((x : Nat) : Int).tmod 2 = ((x % 2 : Nat) : Int) from tmod_nat x 2]
  have : ((x % 2 : Nat) : Int) = 1 ↔ x % 2 = 1 := by omega
  simp only [this]
theorem withI_add {s : NSet} (hs : s.ok) {b : Nat} (hb : b < 256) : withI s.I b = (s.add b).I := by
  have h4 : b / 64 = 0 ∨ b / 64 = 1 ∨ b / 64 = 2 ∨ b / 64 = 3 := by omega
  have hp : 2 ^ (b % 64) < 18446744073709551616 := by
    have : 2 ^ (b % 64) < 2 ^ 64 := Nat.pow_lt_pow_right (by decide) (Nat.mod_lt _ (by decide))
    simpa using this
  have hor : ∀ w : Nat, w.testBit (b % 64) = false → w ||| 2 ^ (b % 64) = w + 2 ^ (b % 64) := by
    intro w h
    generalize b % 64 = k at h
    have h1 : w / 2 ^ k % 2 = 0 := by
      rw [Nat.testBit_eq_decide_div_mod_eq] at h
      simp only [decide_eq_false_iff_not] at h
      omega
    have h2 : w % (2 ^ k * 2) = w % 2 ^ k := by rw [Nat.mod_mul, h1]; simp
    have h3 : w % 2 ^ k < 2 ^ k := Nat.mod_lt _ (Nat.pow_pos (by decide))
    have h4 : w = 2 ^ (k + 1) * (w / 2 ^ (k + 1)) + w % 2 ^ k := by
      rw [← h2, Nat.pow_succ]; exact (Nat.div_add_mod _ _).symm
    have h5 : 2 ^ k < 2 ^ (k + 1) := Nat.pow_lt_pow_right (by decide) (by omega)
    have h6 : 2 ^ k + w % 2 ^ k < 2 ^ (k + 1) := by rw [Nat.pow_succ]; omega
    have o1 := Nat.two_pow_add_eq_or_of_lt (i := k + 1) (b := w % 2 ^ k) (by omega) (w / 2 ^ (k + 1))
    have o2 := Nat.two_pow_add_eq_or_of_lt (i := k + 1) (b := 2 ^ k + w % 2 ^ k) h6 (w / 2 ^ (k + 1))
    have o3 := Nat.two_pow_add_eq_or_of_lt (i := k) (b := w % 2 ^ k) h3 1
    rw [Nat.mul_one] at o3
    have e1 : w ||| 2 ^ k = 2 ^ (k + 1) * (w / 2 ^ (k + 1)) ||| (2 ^ k ||| w % 2 ^ k) := by
      conv => lhs; rw [h4, o1]
      rw [Nat.or_assoc, Nat.or_comm (w % 2 ^ k)]
    rw [e1, ← o3, ← o2]
    omega
  have hone : IntKind.u64.wrap (1 * 2 ^ (b % 64)) = ((2 ^ (b % 64) : Nat) : Int) := by
    rw [Int.one_mul, show ((2 : Int) ^ (b % 64)) = ((2 ^ (b % 64) : Nat) : Int) by simp]
    generalize 2 ^ (b % 64) = p at hp
    exact wr_u64 (by omega) (by omega)
  have hwd : s.I.word (b / 64) = ((s.word (b / 64) : Nat) : Int) := by
    rcases h4 with h | h | h | h <;> rw [h] <;> rfl
  have hset : ∀ x : Nat, x = s.word (b / 64) ||| 2 ^ (b % 64) → s.I.set (b / 64) (x : Int) = (s.add b).I := by
    rintro x rfl
    unfold NSet.add
    rcases h4 with h | h | h | h <;> simp only [h] <;> rfl
  unfold withI
  rw [hasI_has hb]
  cases h : s.has b
  · simp only [Bool.false_eq_true, if_false]
    rw [hwd, hone]
    have hs2 := (or_ok hs (add_ok nzero_ok (n := b)))
    have hx := hor _ h
    have hlt : s.word (b / 64) + 2 ^ (b % 64) < 18446744073709551616 := by
      rw [← hx]
      have h7 := Nat.or_lt_two_pow (n := 64) (x := s.word (b / 64)) (y := 2 ^ (b % 64)) (by have := word_lt hs (b / 64); simpa using this) (by simpa using hp)
      simpa using h7
    have hset2 := hset _ hx.symm
    generalize 2 ^ (b % 64) = p at hlt hset2
    rw [show ((s.word (b / 64) : Nat) : Int) + (p : Int) = ((s.word (b / 64) + p : Nat) : Int) by omega, wr_u64 (by omega) (by omega)]
    exact hset2
  · simp only [if_true]
    have hx : s.word (b / 64) ||| 2 ^ (b % 64) = s.word (b / 64) := by
      refine Nat.eq_of_testBit_eq fun j => ?_
      rw [Nat.testBit_or, Nat.testBit_two_pow]
      by_cases hj : b % 64 = j
      · subst hj
        have : (s.word (b / 64)).testBit (b % 64) = true := h
        simp [this]
      · simp [hj]
    rw [← hset _ hx.symm, ← hwd]
    rcases h4 with h | h | h | h <;> rw [h] <;> rfl
theorem hasN {s : NSet} {b : Nat} (hb : b < 256) : hasI s.I b = s.has b := hasI_has hb
def stepN (s out : NSet) (b : Nat) : NSet := if s.has b || s.has (b - 32) then (out.add b).add (b - 32) else out
theorem step1uN {s out : NSet} (hs : out.ok) {b : Nat} (hb : b < 256) : step1 s.I out.I b = (stepN s out b).I ∧ (stepN s out b).ok := by
  unfold step1 stepN
  rw [hasI_has hb, hasI_has (show b - 32 < 256 by omega)]
  split
  · rw [withI_add hs hb, withI_add (add_ok hs) (show b - 32 < 256 by omega)]
    exact ⟨rfl, add_ok (add_ok hs)⟩
  · exact ⟨rfl, hs⟩
theorem fold1uN {s : NSet} (hs : s.ok) : fold1 s.I = (foldS s).I := by
  have key : ∀ m ≤ 26, ∃ t : NSet, t.ok ∧ (List.range m).foldl (fun out i => step1 s.I out (97 + i)) s.I = t.I ∧ ∀ b < 256, t.has b = true ↔ s.has b = true ∨ ∃ i < m, (s.has (97 + i) = true ∨ s.has (97 + i - 32) = true) ∧ (b = 97 + i ∨ b = 97 + i - 32) := by
    intro m
    induction m with
    | zero => intro _; exact ⟨s, hs, rfl, fun b _ => by simp⟩
    | succ m ih =>
      intro hm
      obtain ⟨t, ht, he, hb⟩ := ih (by omega)
      obtain ⟨h1, h2⟩ := step1uN (s := s) ht (b := 97 + m) (by omega)
      refine ⟨_, h2, by rw [List.range_succ, List.foldl_append, he]; exact h1, fun b hb' => ?_⟩
      unfold stepN
      by_cases hc : (s.has (97 + m) || s.has (97 + m - 32)) = true
      · rw [if_pos hc, has_add _ (by omega) hb', has_add _ (by omega) hb']
        simp only [Bool.or_eq_true, decide_eq_true_eq, hb b hb'] at hc ⊢
        constructor
        · rintro (((h | ⟨i, h1, h2⟩) | h) | h)
          · exact .inl h
          · exact .inr ⟨i, by omega, h2⟩
          · exact .inr ⟨m, by omega, hc, .inl h.symm⟩
          · exact .inr ⟨m, by omega, hc, .inr h.symm⟩
        · rintro (h | ⟨i, h1, h2, h3⟩)
          · exact .inl (.inl (.inl h))
          · by_cases hi : i = m
            · subst hi
              rcases h3 with h3 | h3
              · exact .inl (.inr h3.symm)
              · exact .inr h3.symm
            · exact .inl (.inl (.inr ⟨i, by omega, h2, h3⟩))
      · rw [if_neg hc, hb b hb']
        simp only [Bool.or_eq_true] at hc
        constructor
        · rintro (h | ⟨i, h1, h2⟩)
          · exact .inl h
          · exact .inr ⟨i, by omega, h2⟩
        · rintro (h | ⟨i, h1, h2, h3⟩)
          · exact .inl h
          · by_cases hi : i = m
            · rw [hi] at h2; exact absurd h2 hc
            · exact .inr ⟨i, by omega, h2, h3⟩
  obtain ⟨t, ht, he, hb⟩ := key 26 (Nat.le_refl _)
  rw [show fold1 s.I = t.I from he]
  have h : t = foldS s := by
    refine has_ext ht (foldS_ok hs) fun b hb' => ?_
    rw [Bool.eq_iff_iff, hb b hb', foldS_has hs hb']
    constructor
    · rintro (h | ⟨i, h1, h2, h3⟩)
      · exact .inl h
      · rcases h3 with rfl | rfl
        · rcases h2 with h2 | h2
          · exact .inl h2
          · exact .inr (.inr ⟨by omega, by omega, h2⟩)
        · rcases h2 with h2 | h2
          · refine .inr (.inl ⟨by omega, by omega, ?_⟩)
            rw [show 97 + i - 32 + 32 = 97 + i by omega]; exact h2
          · exact .inl h2
    · rintro (h | ⟨h1, h2, h3⟩ | ⟨h1, h2, h3⟩)
      · exact .inl h
      · exact .inr ⟨b - 65, by omega, .inl (by rw [show 97 + (b - 65) = b + 32 by omega]; exact h3), .inr (by omega)⟩
      · exact .inr ⟨b - 97, by omega, .inr (by rw [show 97 + (b - 97) - 32 = b - 32 by omega]; exact h3), .inl (by omega)⟩
  rw [h]
theorem foldR_c (q f : Bool) (l : List Node) (hlen : l.length ≤ maxLen) (hl : ∀ n ∈ l, n.name.size ≤ maxLen ∧ n.l.length ≤ maxLen) (hset : ∀ n ∈ l, n.s.okI) : ACall Tryd.prog 14 [.sl q f (nodes l)] [] fun r s => r = .sl true false (nodes (foldT l)) ∧ s = [] := by
  refine ACall.frzRes (R := fun r s => (∃ fl, r = .sl true fl (nodes (foldT l))) ∧ s = []) ?_ (by rintro r s ⟨⟨fl, rfl⟩, rfl⟩; exact .inr (.inl ⟨_, _, _, rfl, rfl, rfl⟩))
  have hr := right4uc q f l fun n h => (hl n h).symm
  rw [← right_eq] at hr
  refine ACall.enter Tryd.func14 rfl (by kernel_rfl) (Nat.le_of_ble_eq_true rfl) ?_; simp only [initTm, Nat.reduceAdd]
  cases hok : rightS l
  · rw [hok] at hr
    have e : foldT l = [] := by simp [foldT, hok]
    rw [e]
    repeat' (first
  | refine gSq ?_ | refine gSk ?_ | refine gBl ?_ | refine gIb ?_ | refine gEx rfl ?_
  | ((first
  | (refine gRg [] [0, 2, 3, 4, 5, 8, 12] ?_; intro K hK)
  | refine cAl (hr) rfl rfl rfl ?_
  | (refine gd_split ?_ ?_ <;> intro hb <;> (try simp only [bls] at hb) <;> (try simp only [hb]))
  | refine gRt [] [.tmp 2] rfl ?_ | refine gDn [] [.tmp 2] rfl ?_) <;> (try simp only [go_sem, simprocAttr]))
  | (refine hK _ _ ?_; clear hK K; simp only [go_sem, simprocAttr])
  | refine gCd (by simp only [go_sem, simprocAttr]; rfl) rfl ?_
  | refine brT ?_ | refine brF ?_
  | (refine brS ?_ ?_ <;> intro hc <;> (try simp only [bls] at hc) <;> (try simp only [hc, bls]))
  | intro _ | refine And.intro ?_ ?_)
    exact ⟨_, rfl⟩
  · rw [hok] at hr
    have e : foldT l = l.map foldN := by simp [foldT, hok]
    have htree := rightS_ok hok (fun n h => (hl n h).1)
    rw [e]
    repeat' (first
  | refine gSq ?_ | refine gSk ?_ | refine gBl ?_ | refine gIb ?_ | refine gEx rfl ?_
  | ((first
  | (refine gRg [] [0, 2, 3, 4, 5, 8, 12] ?_; intro K hK)
  | refine cAl (hr) rfl rfl rfl ?_
  | (refine gd_split ?_ ?_ <;> intro hb <;> (try simp only [bls] at hb) <;> (try simp only [hb]))
  | refine gRt [] [.tmp 2] rfl ?_ | refine gDn [] [.tmp 2] rfl ?_) <;> (try simp only [go_sem, simprocAttr]))
  | (refine hK _ _ ?_; clear hK K; simp only [go_sem, simprocAttr])
  | refine gCd (by simp only [go_sem, simprocAttr]; rfl) rfl ?_
  | refine brT ?_ | refine brF ?_
  | (refine brS ?_ ?_ <;> intro hc <;> (try simp only [bls] at hc) <;> (try simp only [hc, bls]))
  | intro _ | refine And.intro ?_ ?_)
    refine AGood.ownTm 3 900 9 (by decide) rfl fun g => ?_
    simp only [go_sem, simprocAttr]
    refine AGood.prune [0, 2, 3, 4] ?_; simp only [go_sem, simprocAttr]
    refine AGood.loopInv (α := Nat × Nat) (fun x => ([(0, .sl q f (nodes l)), (2, .sl true true []), (3, .osl 900 x.2 0 x.1), (4, .int .i64 x.1)], [(900, (x.2, .row 9 (nodes ((l.take x.1).map foldN))))])) (fun x => x.1 ≤ l.length) (fun x => l.length - x.1) (0, g) (Nat.zero_le _) rfl ?_
    rintro ⟨i, g⟩ hi ih
    simp only at hi ih ⊢
    by_cases hle : i < l.length
    · have e4 : (i : Int) < l.length := by omega
      have e5 : (0 : Int) ≤ i := by omega
      have hx : l[i]? = some l[i] := List.getElem?_eq_getElem hle
      have hmem := List.getElem_mem hle
      have ht : (l.take (i + 1)).map foldN = (l.take i).map foldN ++ [foldN l[i]] := by simp only [take_one hx, List.map_append, List.map_cons, List.map_nil]
      have hL := htree.1.2
      have hset1 := okI_N (hset _ hmem)
      have hlen1 := (htree.2 i _ hx).2.1
      have hlc : (nodes ((l.take i).map foldN)).length = i := by simp; omega
      generalize l[i] = n at hx ht hset1 hlen1
      obtain ⟨xo, xs, xl, xlo, xhi, xn⟩ := n
      simp only at hset1 hlen1
      have hf := fold1uc xs.a xs.b xs.c xs.d
      have hfn := fold1uN hset1.1
      rw [← hset1.2] at hfn
      rw [show (⟨xs.a, xs.b, xs.c, xs.d⟩ : ISet) = xs from rfl, hfn] at hf
      simp only [foldN] at ht
      generalize foldS xs.N = fs at hf ht
      obtain ⟨xa, xb, xc, xd⟩ := xs
      have ih := fun g' => ih (i + 1, g') (by simp only; omega) (by simp only; omega)
      simp only [ht] at ih
      generalize (l.take i).map foldN = out at ih hlc ⊢
      have e9 : (ints xl).take xl.length = ints xl := List.take_of_length_le (by simp)
      repeat' (first
  | refine gSq ?_ | refine gSk ?_ | refine gBl ?_ | refine gIb ?_ | refine gEx rfl ?_
  | ((first
  | (refine AGood.at 10 ?_; (refine AGood.freeze 23 rfl ?_; simp only [rfT, rfS, rfO, rf, rf1, e9, true_and, go_sem, simprocAttr]); (refine gRg [30] [0, 2, 3, 4, 5, 8, 12] ?_; intro K hK))
  | (refine gRg [30] [0, 2, 3, 4, 5, 8, 12] ?_; intro K hK)
  | refine cAl (hf) rfl rfl rfl ?_
  | (refine gd_split ?_ ?_ <;> intro hb <;> (try simp only [bls] at hb) <;> (try simp only [hb]))
  | refine gRt [] [.tmp 2] rfl ?_ | refine gDn [] [.tmp 2] rfl ?_) <;> (try simp only [go_sem, simprocAttr, e4, e5, hx, hlc, Option.some.injEq, forall_eq']))
  | (refine hK _ _ ?_; clear hK K; simp only [go_sem, simprocAttr])
  | refine gCd (by simp only [go_sem, simprocAttr]; rfl) rfl ?_
  | refine brT ?_ | refine brF ?_
  | (refine brS ?_ ?_ <;> intro hc <;> (try simp only [bls] at hc) <;> (try simp only [hc, bls]))
  | intro _ | refine And.intro ?_ ?_)
      all_goals first | omega | (unfold bigLen; omega) | exact ⟨_, _, ⟨rfl, rfl⟩, rfl⟩ | exact ⟨_, rfl⟩ | (rename_i hy; simp only [List.mem_singleton] at hy; subst hy; rfl) | skip
      · rename_i y hy; obtain ⟨k, _, rfl⟩ := List.mem_map.1 hy; rfl
      · rename_i y hy; obtain ⟨k, _, rfl⟩ := List.mem_map.1 hy; rfl
      refine AGood.filt [900] ?_
      simp only [sf_cons, sf_nil, go_sem, simprocAttr]
      refine AGood.prune [0, 2, 3, 4] ?_; simp only [go_sem, simprocAttr]
      exact (ih _).cast rfl (by simp)
    · have e4 : ¬ (i : Int) < l.length := by omega
      have hin : i = l.length := by omega
      subst hin
      rw [List.take_length]
      repeat' (first
  | refine gSq ?_ | refine gSk ?_ | refine gBl ?_ | refine gIb ?_ | refine gEx rfl ?_
  | ((first
  | (refine AGood.at 11 ?_; (refine AGood.freeze 900 rfl ?_; simp only [rfT, rfS, rfO, rf, rf1, true_and, go_sem, simprocAttr]); (refine gRg [] [0, 2, 3, 4, 5, 8, 12] ?_; intro K hK))
  | (refine gRg [] [0, 2, 3, 4, 5, 8, 12] ?_; intro K hK)
  | (refine gd_split ?_ ?_ <;> intro hb <;> (try simp only [bls] at hb) <;> (try simp only [hb]))
  | refine gRt [] [.tmp 2] rfl ?_ | refine gDn [] [.tmp 2] rfl ?_) <;> (try simp only [go_sem, simprocAttr, e4]))
  | (refine hK _ _ ?_; clear hK K; simp only [go_sem, simprocAttr])
  | refine gCd (by simp only [go_sem, simprocAttr]; rfl) rfl ?_
  | refine brT ?_ | refine brF ?_
  | (refine brS ?_ ?_ <;> intro hc <;> (try simp only [bls] at hc) <;> (try simp only [hc, bls]))
  | intro _ | refine And.intro ?_ ?_)
      exact ⟨false, by rw [List.take_of_length_le (by simp)]⟩
end Go.Rad
