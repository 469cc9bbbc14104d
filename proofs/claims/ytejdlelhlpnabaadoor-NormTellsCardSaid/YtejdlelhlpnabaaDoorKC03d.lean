/- What sets by bits have: the plain law. -/
import Derived.Test.YtejdlelhlpnabaaDoorKC03c
set_option linter.all false
namespace Go.Rad
open Go Go.Proofs
theorem odd_split {n : Nat} (h0 : n ≠ 0) : ∃ k q, n = 2 ^ k * q ∧ q % 2 = 1 := by
  induction n using Nat.strongRecOn with
  | ind n ih =>
    by_cases h : n % 2 = 1
    · exact ⟨0, n, by simp, h⟩
    · obtain ⟨k, q, h1, h2⟩ := ih (n / 2) (by omega) (by omega)
      refine ⟨k + 1, q, ?_, h2⟩
      have : n = 2 * (n / 2) := by omega
      rw [this, h1, Nat.pow_succ, Nat.mul_comm (2 ^ k) 2, Nat.mul_assoc]
theorem bit_pred {q i : Nat} (h : q % 2 = 1) : (q - 1).testBit i = (q.testBit i && decide (i ≠ 0)) := by
  cases i with
  | zero => simp [Nat.testBit_zero]; omega
  | succ i =>
    rw [Nat.testBit_succ, Nat.testBit_succ]
    have : (q - 1) / 2 = q / 2 := by omega
    rw [this]; simp
theorem low_clear {k q j : Nat} (h : q % 2 = 1) : (2 ^ k * q &&& (2 ^ k * q - 1)).testBit j = ((2 ^ k * q).testBit j && decide (j ≠ k)) := by
  have hp : 0 < 2 ^ k := Nat.pow_pos (by decide)
  have e : 2 ^ k * q - 1 = 2 ^ k * (q - 1) + (2 ^ k - 1) := by
    have : 2 ^ k * q = 2 ^ k * (q - 1) + 2 ^ k := by rw [← Nat.mul_succ]; congr 1; omega
    omega
  rw [Nat.testBit_and, e, Nat.testBit_two_pow_mul_add _ (by omega), Nat.testBit_two_pow_mul]
  by_cases hj : j < k
  · have : ¬ k ≤ j := by omega
    simp [this]
  · have hk : k ≤ j := by omega
    rw [if_neg hj, bit_pred h]
    by_cases e2 : j = k
    · subst e2; simp
    · have : j - k ≠ 0 := by omega
      simp [hk, e2, this]
theorem low_only {k q : Nat} (h : q % 2 = 1) (hn : 2 ^ k * q < 18446744073709551616) : 2 ^ k * q &&& (18446744073709551616 - 2 ^ k * q) = 2 ^ k ∧ k < 64 := by
  have hk : k < 64 := by
    rcases Nat.lt_or_ge k 64 with h1 | h1
    · exact h1
    · have h2 : 2 ^ 64 ≤ 2 ^ k := Nat.pow_le_pow_right (by decide) h1
      have h3 : 2 ^ k * 1 ≤ 2 ^ k * q := Nat.mul_le_mul_left _ (by omega)
      have h64 : (2 : Nat) ^ 64 = 18446744073709551616 := by decide
      omega
  refine ⟨?_, hk⟩
  obtain ⟨m, hm⟩ : ∃ m, 64 = k + m := ⟨64 - k, by omega⟩
  have hp : 0 < 2 ^ k := Nat.pow_pos (by decide)
  have h64 : (18446744073709551616 : Nat) = 2 ^ k * 2 ^ m := by rw [← Nat.pow_add, ← hm]
  have hq : q < 2 ^ m := by
    rw [h64] at hn
    exact Nat.lt_of_mul_lt_mul_left hn
  have e1 : 18446744073709551616 - 2 ^ k * q = 2 ^ k * (2 ^ m - q) := by rw [h64, Nat.mul_sub]
  rw [e1]
  refine Nat.eq_of_testBit_eq fun j => ?_
  rw [Nat.testBit_and, Nat.testBit_two_pow_mul, Nat.testBit_two_pow_mul, Nat.testBit_two_pow]
  by_cases hj : j < k
  · have h1 : ¬ k ≤ j := by omega
    have h2 : ¬ k = j := by omega
    simp [h1, h2]
  · have hkj : k ≤ j := by omega
    have e2 : 2 ^ m - q = 2 ^ m - ((q - 1) + 1) := by congr 1; omega
    rw [e2, Nat.testBit_two_pow_sub_succ (by omega), bit_pred h]
    by_cases e3 : j = k
    · subst e3
      have : 0 < m := by omega
      simp [this, h]
    · have h1 : j - k ≠ 0 := by omega
      have h2 : ¬ k = j := by omega
      simp [hkj, h1, h2]
      intro h3 _
      simp [h3]
theorem tz_all : ∀ k : Nat, k < 64 → bruijn.getD (2 ^ k * 285870213051353865 % 18446744073709551616 / 288230376151711744) 0 = (k : Int) := by decide +kernel
theorem tz_low {k q : Nat} (h : q % 2 = 1) (hn : 2 ^ k * q < 18446744073709551616) : tzN (2 ^ k * q) = k := by
  obtain ⟨h1, h2⟩ := low_only h hn
  have h0 : ¬ 2 ^ k * q = 0 := by
    have : 0 < 2 ^ k := Nat.pow_pos (by decide)
    intro h0
    rcases Nat.mul_eq_zero.1 h0 with h3 | h3
    · omega
    · omega
  unfold tzN tzS
  rw [if_neg h0]
  unfold tzI
  rw [h1, tz_all k h2]
  rfl
theorem listW_mem : ∀ (f k i n : Nat) (acc : List Nat), 2 ^ k ∣ n → n < 18446744073709551616 → 65 ≤ f + k → i < 4 → ∀ x, x ∈ listW f i n acc ↔ x ∈ acc ∨ ∃ j, n.testBit j = true ∧ x = 64 * i + j := by
  intro f
  induction f with
  | zero =>
    intro k i n acc hd hn hf hi x
    have h0 : n = 0 := by
      rcases Nat.eq_zero_or_pos n with h | h
      · exact h
      · have := dvd_lt hd (by omega) hn; omega
    subst h0
    simp [listW]
  | succ f ih =>
    intro k i n acc hd hn hf hi x
    rw [listW]
    by_cases h0 : n = 0
    · subst h0; simp
    · rw [if_neg h0, ih (k + 1) i _ _ (clear_low hd h0) (Nat.lt_trans (clear_lt h0) hn) (by omega) hi x]
      obtain ⟨k', q, rfl, hq⟩ := odd_split h0
      have hk' := (low_only hq hn).2
      rw [tz_low hq hn, List.mem_append, List.mem_singleton]
      have e : (64 * i + k') % 256 = 64 * i + k' := by omega
      rw [e]
      have hb : (2 ^ k' * q).testBit k' = true := by
        rw [Nat.testBit_two_pow_mul]; simp [hq]
      simp only [low_clear hq]
      constructor
      · rintro ((h | h) | ⟨j, h1, h2⟩)
        · exact .inl h
        · exact .inr ⟨k', hb, h⟩
        · simp only [Bool.and_eq_true] at h1
          exact .inr ⟨j, h1.1, h2⟩
      · rintro (h | ⟨j, h1, h2⟩)
        · exact .inl (.inl h)
        · by_cases hj : j = k'
          · subst hj; exact .inl (.inr h2)
          · exact .inr ⟨j, by simp [h1, hj], h2⟩
def NSet.has (s : NSet) (b : Nat) : Bool := (s.word (b / 64)).testBit (b % 64)
theorem lt_bit {n j : Nat} (h : n < 18446744073709551616) (hj : n.testBit j = true) : j < 64 := by
  rcases Nat.lt_or_ge j 64 with h1 | h1
  · exact h1
  · have h64 : (18446744073709551616 : Nat) = 2 ^ 64 := by decide
    rw [Nat.testBit_lt_two_pow (Nat.lt_of_lt_of_le (h64 ▸ h) (Nat.pow_le_pow_right (by decide) h1))] at hj
    cases hj
theorem listUpto_mem {s : NSet} (hs : s.ok) : ∀ m ≤ 4, ∀ x, x ∈ listUpto s m ↔ x < 64 * m ∧ s.has x = true := by
  intro m
  induction m with
  | zero => intro _ x; simp [listUpto]
  | succ m ih =>
    intro hm x
    rw [listUpto_succ, listW_mem 65 0 m _ _ (Nat.one_dvd _) (word_lt hs m) (by omega) (by omega), ih (by omega) x]
    constructor
    · rintro (⟨h1, h2⟩ | ⟨j, h1, h2⟩)
      · exact ⟨by omega, h2⟩
      · have := lt_bit (word_lt hs m) h1
        refine ⟨by omega, ?_⟩
        have e1 : x / 64 = m := by omega
        have e2 : x % 64 = j := by omega
        unfold NSet.has; rw [e1, e2]; exact h1
    · rintro ⟨h1, h2⟩
      by_cases hx : x < 64 * m
      · exact .inl ⟨hx, h2⟩
      · refine .inr ⟨x % 64, ?_, by omega⟩
        have e1 : x / 64 = m := by omega
        unfold NSet.has at h2; rw [e1] at h2; exact h2
theorem listS_mem {s : NSet} (hs : s.ok) (x : Nat) : x ∈ listS s ↔ x < 256 ∧ s.has x = true := listUpto_mem hs 4 (by decide) x
theorem word_or (s t : NSet) (i : Nat) : (s.or t).word i = s.word i ||| t.word i := by
  unfold NSet.word NSet.or; split <;> rfl
theorem word_and (s t : NSet) (i : Nat) : (s.and t).word i = s.word i &&& t.word i := by
  unfold NSet.word NSet.and; split <;> rfl
theorem has_or (s t : NSet) (b : Nat) : (s.or t).has b = (s.has b || t.has b) := by
  unfold NSet.has; rw [word_or, Nat.testBit_or]
theorem has_and (s t : NSet) (b : Nat) : (s.and t).has b = (s.has b && t.has b) := by
  unfold NSet.has; rw [word_and, Nat.testBit_and]
theorem has_zero (b : Nat) : nzero.has b = false := by
  unfold NSet.has NSet.word nzero; split <;> simp
theorem has_full (b : Nat) : nfull.has b = true := by
  have h : (18446744073709551615 : Nat) = 2 ^ 64 - 1 := by decide
  have h2 : b % 64 < 64 := Nat.mod_lt _ (by decide)
  unfold NSet.has NSet.word nfull
  split <;> simp only [h, Nat.testBit_two_pow_sub_one, h2, decide_true]
theorem word_add (s : NSet) {n i : Nat} (hn : n < 256) (hi : i < 4) : (s.add n).word i = if i = n / 64 then s.word i ||| 2 ^ (n % 64) else s.word i := by
  have h4 : n / 64 = 0 ∨ n / 64 = 1 ∨ n / 64 = 2 ∨ n / 64 = 3 := by omega
  have i4 : i = 0 ∨ i = 1 ∨ i = 2 ∨ i = 3 := by omega
  unfold NSet.add
  rcases h4 with h | h | h | h <;> rcases i4 with rfl | rfl | rfl | rfl <;> simp [h, NSet.word]
theorem has_add (s : NSet) {n b : Nat} (hn : n < 256) (hb : b < 256) : (s.add n).has b = (s.has b || decide (n = b)) := by
  unfold NSet.has
  rw [word_add s hn (by omega)]
  by_cases h : b / 64 = n / 64
  · rw [if_pos h, Nat.testBit_or, Nat.testBit_two_pow]
    congr 1
    have : n % 64 = b % 64 ↔ n = b := by omega
    simp [this]
  · rw [if_neg h]
    have : ¬ n = b := by rintro rfl; exact h rfl
    simp [this]
theorem has_one {n b : Nat} (hn : n < 256) (hb : b < 256) : (ofS [n]).has b = decide (n = b) := by
  rw [show ofS [n] = nzero.add n from rfl, has_add _ hn hb, has_zero, Bool.false_or]
theorem has_ext {s t : NSet} (hs : s.ok) (ht : t.ok) (h : ∀ b < 256, s.has b = t.has b) : s = t := by
  have hw : ∀ i < 4, s.word i = t.word i := by
    intro i hi
    refine Nat.eq_of_testBit_eq fun j => ?_
    by_cases hj : j < 64
    · have := h (64 * i + j) (by omega)
      unfold NSet.has at this
      have e1 : (64 * i + j) / 64 = i := by omega
      have e2 : (64 * i + j) % 64 = j := by omega
      rwa [e1, e2] at this
    · cases h1 : (s.word i).testBit j with
      | true => exact absurd (lt_bit (word_lt hs i) h1) hj
      | false =>
        cases h2 : (t.word i).testBit j with
        | true => exact absurd (lt_bit (word_lt ht i) h2) hj
        | false => rfl
  obtain ⟨s0, s1, s2, s3⟩ := s
  obtain ⟨t0, t1, t2, t3⟩ := t
  have h0 := hw 0 (by decide)
  have h1 := hw 1 (by decide)
  have h2 := hw 2 (by decide)
  have h3 := hw 3 (by decide)
  simp only [NSet.word] at h0 h1 h2 h3
  rw [h0, h1, h2, h3]
theorem has_lower : ∀ b < 256, (rangeS 97 122).has b = decide (97 ≤ b ∧ b ≤ 122) := by decide +kernel
theorem has_upper : ∀ b < 256, (rangeS 65 90).has b = decide (65 ≤ b ∧ b ≤ 90) := by decide +kernel
theorem has_fold {f : Nat → Nat} (hf : ∀ x, f x < 256) {b : Nat} (hb : b < 256) : ∀ (l : List Nat) (s : NSet), ((l.foldl (fun o x => (nzero.or o).or (ofS [f x])) s).has b = true ↔ s.has b = true ∨ ∃ x ∈ l, f x = b)
  | [], s => by simp
  | x :: l, s => by
    rw [List.foldl_cons, has_fold hf hb l, has_or, has_or, has_zero, has_one (hf x) hb]
    simp only [Bool.false_or, Bool.or_eq_true, decide_eq_true_eq, List.mem_cons, exists_eq_or_imp]
    rw [or_assoc]
theorem foldS_has {s : NSet} (hs : s.ok) {b : Nat} (hb : b < 256) : (foldS s).has b = true ↔ s.has b = true ∨ (65 ≤ b ∧ b ≤ 90 ∧ s.has (b + 32) = true) ∨ (97 ≤ b ∧ b ≤ 122 ∧ s.has (b - 32) = true) := by
  have k1 : ((nfull.and s).and (rangeS 65 90)).ok := and_ok (and_ok nfull_ok)
  have k2 : ((nfull.and s).and (rangeS 97 122)).ok := and_ok (and_ok nfull_ok)
  unfold foldS
  rw [show foldHi = fun o x => (nzero.or o).or (ofS [(x + 32) % 256]) from rfl, has_fold (fun x => Nat.mod_lt _ (by decide)) hb]
  rw [show foldLo = fun o x => (nzero.or o).or (ofS [(x + 224) % 256]) from rfl, has_fold (fun x => Nat.mod_lt _ (by decide)) hb]
  simp only [listS_mem k1, listS_mem k2, has_and, has_full, Bool.true_and, Bool.and_eq_true]
  constructor
  · rintro ((h | ⟨x, ⟨h1, h2, h3⟩, h4⟩) | ⟨x, ⟨h1, h2, h3⟩, h4⟩)
    · exact .inl h
    · rw [has_lower x h1] at h3
      simp only [decide_eq_true_eq] at h3
      refine .inr (.inl ⟨by omega, by omega, ?_⟩)
      have : b + 32 = x := by omega
      rw [this]; exact h2
    · rw [has_upper x h1] at h3
      simp only [decide_eq_true_eq] at h3
      refine .inr (.inr ⟨by omega, by omega, ?_⟩)
      have : b - 32 = x := by omega
      rw [this]; exact h2
  · rintro (h | ⟨h1, h2, h3⟩ | ⟨h1, h2, h3⟩)
    · exact .inl (.inl h)
    · refine .inl (.inr ⟨b + 32, ⟨by omega, h3, ?_⟩, by omega⟩)
      rw [has_lower _ (by omega)]; simp only [decide_eq_true_eq]; omega
    · refine .inr ⟨b - 32, ⟨by omega, h3, ?_⟩, by omega⟩
      rw [has_upper _ (by omega)]; simp only [decide_eq_true_eq]; omega
theorem foldS_twice {s : NSet} (hs : s.ok) : foldS (foldS s) = foldS s := by
  have k := foldS_ok hs
  refine has_ext (foldS_ok k) k fun b hb => ?_
  rw [Bool.eq_iff_iff, foldS_has k hb, foldS_has hs hb]
  constructor
  · rintro (h | ⟨h1, h2, h3⟩ | ⟨h1, h2, h3⟩)
    · exact h
    · rw [foldS_has hs (by omega)] at h3
      rcases h3 with h | ⟨h4, h5, h6⟩ | ⟨h4, h5, h6⟩
      · exact .inr (.inl ⟨h1, h2, h⟩)
      · omega
      · rw [show b + 32 - 32 = b by omega] at h6; exact .inl h6
    · rw [foldS_has hs (by omega)] at h3
      rcases h3 with h | ⟨h4, h5, h6⟩ | ⟨h4, h5, h6⟩
      · exact .inr (.inr ⟨h1, h2, h⟩)
      · rw [show b - 32 + 32 = b by omega] at h6; exact .inl h6
      · omega
  · intro h; exact .inl h
end Go.Rad
