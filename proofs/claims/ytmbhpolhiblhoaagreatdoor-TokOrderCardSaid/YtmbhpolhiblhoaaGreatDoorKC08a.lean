/- A part of the proof. -/
import Derived.Test.YtmbhpolhiblhoaaGreatDoorKP15b
import Derived.Test.YtmbhpolhiblhoaaGreatDoorKC05a
import Derived.Test.YtmbhpolhiblhoaaGreatDoorKRDefer
import Derived.Test.YtmbhpolhiblhoaaGreatDoorKC03c
set_option linter.all false
namespace Go.Rad
open Go Go.Proofs
set_option linter.all false
set_option maxRecDepth 20000
set_option maxHeartbeats 4000000
def iC (s out : av) (b : Nat) : av := if dz s b || dz s (b - 32) then cA (cA out b) (b - 32) else out
def sB (s : av) : av := (List.range 26).foldl (fun out i => iC s out (97 + i)) s
theorem Cg (s0 s1 s2 s3 : Int) : ah Tryz.prog 71 [.agg [.int .u64 s0, .int .u64 s1, .int .u64 s2, .int .u64 s3]] [] fun r s' => r = .agg (sB ⟨s0, s1, s2, s3⟩).cells ∧ s' = [] := by
 refine ah.enter Tryz.func71 rfl (by kernel_rfl) (Nat.le_of_ble_eq_true rfl) ?_; simp only [ai, Nat.reduceAdd]
 repeat' (first
 | refine gCt rfl ?_
 | ((first
 | ((first | refine gR fp71 ?_); intro K hK)
 | (refine ab ?_ ?_ <;> intro hb <;> (try simp only [bls] at hb) <;> (try simp only [hb]))
 | refine gRe [] [.cell 2 46] rfl rfl ?_) <;> (try simp only [go_sem, simprocAttr]))
 | (refine hK _ _ ?_; clear hK K; simp only [go_sem, simprocAttr])
 | refine gCd ?_ | refine brT ?_ | refine brF ?_
 | (refine brS ?_ ?_ <;> intro hc <;> (try simp only [bls] at hc) <;> (try simp only [hc, bls]))
 | intro _ | refine And.intro ?_ ?_)
 rename_i g1 g2 g3
 refine ae.prune [1, 2, 3, 4] ?_; simp only [go_sem, simprocAttr]
 refine ae.al (α := Nat) (fun i => ([(1, .bx 1 g1 0), (2, .bx 2 g2 0), (3, .bx 3 g3 0), (4, .int .u8 (97 + i : Nat))], [(1, g1, .box [.int .u64 s0, .int .u64 s1, .int .u64 s2, .int .u64 s3]), (2, g2, .box av.none.cells), (3, g3, .box ((List.range i).foldl (fun out i => iC ⟨s0, s1, s2, s3⟩ out (97 + i)) ⟨s0, s1, s2, s3⟩).cells)])) (fun i => i ≤ 26) (fun i => 26 - i) 0 (Nat.zero_le _) rfl ?_
 intro i hi ih
 simp only
 by_cases hle : i < 26
 ·have ht : (List.range (i + 1)).foldl (fun out i => iC ⟨s0, s1, s2, s3⟩ out (97 + i)) ⟨s0, s1, s2, s3⟩ = iC ⟨s0, s1, s2, s3⟩ ((List.range i).foldl (fun out i => iC ⟨s0, s1, s2, s3⟩ out (97 + i)) ⟨s0, s1, s2, s3⟩) (97 + i) := by
   rw [List.range_succ, List.foldl_append]; rfl
  have ih := ih (i + 1) (by omega) (by omega)
  rw [ht] at ih
  generalize (List.range i).foldl (fun out i => iC ⟨s0, s1, s2, s3⟩ out (97 + i)) ⟨s0, s1, s2, s3⟩ = o at ih ⊢
  have e1 : IntKind.u8.wrap (((97 + i : Nat) : Int) - 32) = ((97 + i - 32 : Nat) : Int) := by
   rw [show (((97 + i : Nat) : Int) - 32) = ((97 + i - 32 : Nat) : Int) by omega]
   exact oO (by omega)
  have e2 : IntKind.u8.wrap (((97 + i : Nat) : Int) + 1) = ((97 + (i + 1) : Nat) : Int) := by
   rw [show (((97 + i : Nat) : Int) + 1) = ((97 + (i + 1) : Nat) : Int) by omega]
   exact oO (by omega)
  have e4 : ((97 + i : Nat) : Int) ≤ 122 := by omega
  have hb : 97 + i ≤ 255 := by omega
  have hb2 : 97 + i - 32 ≤ 255 := by omega
  generalize hbb : 97 + i = b at *
  have hh1 := pD s0 s1 s2 s3 b hb
  have hh2 := pD s0 s1 s2 s3 (b - 32) hb2
  have hw1 := lD o.a o.b o.c o.d b hb
  have hw2 := lD (cA o b).a (cA o b).b (cA o b).c (cA o b).d (b - 32) hb2
  unfold iC at ih
  cases h1 : dz ⟨s0, s1, s2, s3⟩ b <;> cases h2 : dz ⟨s0, s1, s2, s3⟩ (b - 32) <;> rw [h1] at hh1 ih <;> rw [h2] at hh2 ih <;> simp only [Bool.or_self, Bool.or_true, Bool.or_false, Bool.true_or, Bool.false_eq_true, if_true, if_false] at ih
  ·repeat' (first
 | refine gCt rfl ?_
 | ((first
 | ((first | refine gR fp71 ?_); intro K hK)
 | refine cAl (hh1) rfl rfl rfl ?_
 | refine cAl (hh2) rfl rfl rfl ?_
 | refine cAl (hw1) rfl rfl rfl ?_
 | refine cAl (hw2) rfl rfl rfl ?_
 | (refine ab ?_ ?_ <;> intro hb <;> (try simp only [bls] at hb) <;> (try simp only [hb]))
 | refine gRe [] [.cell 2 46] rfl rfl ?_) <;> (try simp only [go_sem, simprocAttr, e1, e2, e4]))
 | (refine hK _ _ ?_; clear hK K; simp only [go_sem, simprocAttr])
 | refine gCd ?_ | refine brT ?_ | refine brF ?_
 | (refine brS ?_ ?_ <;> intro hc <;> (try simp only [bls] at hc) <;> (try simp only [hc, bls]))
 | intro _ | refine And.intro ?_ ?_)
   all_goals try exact zsd
   refine ae.prune [1, 2, 3, 4] ?_; simp only [go_sem, simprocAttr]
   exact ih.cast rfl rfl
  ·repeat' (first
 | refine gCt rfl ?_
 | ((first
 | ((first | refine gR fp71 ?_); intro K hK)
 | refine cAl (hh1) rfl rfl rfl ?_
 | refine cAl (hh2) rfl rfl rfl ?_
 | refine cAl (hw1) rfl rfl rfl ?_
 | refine cAl (hw2) rfl rfl rfl ?_
 | (refine ab ?_ ?_ <;> intro hb <;> (try simp only [bls] at hb) <;> (try simp only [hb]))
 | refine gRe [] [.cell 2 46] rfl rfl ?_) <;> (try simp only [go_sem, simprocAttr, e1, e2, e4]))
 | (refine hK _ _ ?_; clear hK K; simp only [go_sem, simprocAttr])
 | refine gCd ?_ | refine brT ?_ | refine brF ?_
 | (refine brS ?_ ?_ <;> intro hc <;> (try simp only [bls] at hc) <;> (try simp only [hc, bls]))
 | intro _ | refine And.intro ?_ ?_)
   all_goals try exact zsd
   refine ae.prune [1, 2, 3, 4] ?_; simp only [go_sem, simprocAttr]
   exact ih.cast rfl rfl
  ·repeat' (first
 | refine gCt rfl ?_
 | ((first
 | ((first | refine gR fp71 ?_); intro K hK)
 | refine cAl (hh1) rfl rfl rfl ?_
 | refine cAl (hh2) rfl rfl rfl ?_
 | refine cAl (hw1) rfl rfl rfl ?_
 | refine cAl (hw2) rfl rfl rfl ?_
 | (refine ab ?_ ?_ <;> intro hb <;> (try simp only [bls] at hb) <;> (try simp only [hb]))
 | refine gRe [] [.cell 2 46] rfl rfl ?_) <;> (try simp only [go_sem, simprocAttr, e1, e2, e4]))
 | (refine hK _ _ ?_; clear hK K; simp only [go_sem, simprocAttr])
 | refine gCd ?_ | refine brT ?_ | refine brF ?_
 | (refine brS ?_ ?_ <;> intro hc <;> (try simp only [bls] at hc) <;> (try simp only [hc, bls]))
 | intro _ | refine And.intro ?_ ?_)
   all_goals try exact zsd
   refine ae.prune [1, 2, 3, 4] ?_; simp only [go_sem, simprocAttr]
   exact ih.cast rfl rfl
  ·repeat' (first
 | refine gCt rfl ?_
 | ((first
 | ((first | refine gR fp71 ?_); intro K hK)
 | refine cAl (hh1) rfl rfl rfl ?_
 | refine cAl (hh2) rfl rfl rfl ?_
 | refine cAl (hw1) rfl rfl rfl ?_
 | refine cAl (hw2) rfl rfl rfl ?_
 | (refine ab ?_ ?_ <;> intro hb <;> (try simp only [bls] at hb) <;> (try simp only [hb]))
 | refine gRe [] [.cell 2 46] rfl rfl ?_) <;> (try simp only [go_sem, simprocAttr, e1, e2, e4]))
 | (refine hK _ _ ?_; clear hK K; simp only [go_sem, simprocAttr])
 | refine gCd ?_ | refine brT ?_ | refine brF ?_
 | (refine brS ?_ ?_ <;> intro hc <;> (try simp only [bls] at hc) <;> (try simp only [hc, bls]))
 | intro _ | refine And.intro ?_ ?_)
   all_goals try exact zsd
   refine ae.prune [1, 2, 3, 4] ?_; simp only [go_sem, simprocAttr]
   exact ih.cast rfl rfl
 ·have e4 : ¬ ((97 + i : Nat) : Int) ≤ 122 := by omega
  have hin : i = 26 := by omega
  subst hin
  rw [show (List.range 26).foldl (fun out i => iC ⟨s0, s1, s2, s3⟩ out (97 + i)) ⟨s0, s1, s2, s3⟩ = sB ⟨s0, s1, s2, s3⟩ from rfl]
  generalize sB ⟨s0, s1, s2, s3⟩ = o
  clear ih
  repeat' (first
 | refine gCt rfl ?_
 | ((first
 | ((first | refine gR fp71 ?_); intro K hK)
 | (refine ab ?_ ?_ <;> intro hb <;> (try simp only [bls] at hb) <;> (try simp only [hb]))
 | refine gRe [] [.cell 2 46] rfl rfl ?_) <;> (try simp only [go_sem, simprocAttr, e4]))
 | (refine hK _ _ ?_; clear hK K; simp only [go_sem, simprocAttr])
 | refine gCd ?_ | refine brT ?_ | refine brF ?_
 | (refine brS ?_ ?_ <;> intro hc <;> (try simp only [bls] at hc) <;> (try simp only [hc, bls]))
 | intro _ | refine And.intro ?_ ?_)
theorem nL {s : aw} {b : Nat} (hb : b < 256) : dz s.I b = s.has b := by
 have hw : s.I.word (b / 64) = ((s.word (b / 64) : Nat) : Int) := by
  have h4 : b / 64 = 0 ∨ b / 64 = 1 ∨ b / 64 = 2 ∨ b / 64 = 3 := by omega
  rcases h4 with h | h | h | h <;> rw [h] <;> rfl
 unfold dz aw.has
 rw [hw, Int.fdiv_eq_ediv_of_nonneg _ (Int.pow_nonneg (by decide))]
 rw [show ((2 : Int) ^ (b % 64)) = ((2 ^ (b % 64) : Nat) : Int) by simp]
 rw [← Int.natCast_ediv, Nat.testBit_eq_decide_div_mod_eq]
 generalize s.word (b / 64) / 2 ^ (b % 64) = x
 rw [show ((x : Nat) : Int).tmod 2 = ((x % 2 : Nat) : Int) from oF x 2]
 have : ((x % 2 : Nat) : Int) = 1 ↔ x % 2 = 1 := by omega
 simp only [this]
theorem qg {s : aw} (hs : s.ok) {b : Nat} (hb : b < 256) : cA s.I b = (s.add b).I := by
 have h4 : b / 64 = 0 ∨ b / 64 = 1 ∨ b / 64 = 2 ∨ b / 64 = 3 := by omega
 have hp : 2 ^ (b % 64) < 18446744073709551616 := by
  have : 2 ^ (b % 64) < 2 ^ 64 := Nat.pow_lt_pow_right (by decide) (Nat.mod_lt _ (by decide))
  simpa using this
 have hor : ∀ w : Nat, w.testBit (b % 64) = false → w ||| 2 ^ (b % 64) = w + 2 ^ (b % 64) := by
  intro w h
  generalize b % 64 = k at h
  have h1 : w / 2 ^ k % 2 = 0 := by
   rw [Nat.testBit_eq_decide_div_mod_eq] at h
   simp only [decide_eq_false_iff_not] at h
   omega
  have h2 : w % (2 ^ k * 2) = w % 2 ^ k := by rw [Nat.mod_mul, h1]; simp
  have h3 : w % 2 ^ k < 2 ^ k := Nat.mod_lt _ (Nat.pow_pos (by decide))
  have h4 : w = 2 ^ (k + 1) * (w / 2 ^ (k + 1)) + w % 2 ^ k := by
   rw [← h2, Nat.pow_succ]; exact (Nat.div_add_mod _ _).symm
  have h5 : 2 ^ k < 2 ^ (k + 1) := Nat.pow_lt_pow_right (by decide) (by omega)
  have h6 : 2 ^ k + w % 2 ^ k < 2 ^ (k + 1) := by rw [Nat.pow_succ]; omega
  have o1 := Nat.two_pow_add_eq_or_of_lt (i := k + 1) (b := w % 2 ^ k) (by omega) (w / 2 ^ (k + 1))
  have o2 := Nat.two_pow_add_eq_or_of_lt (i := k + 1) (b := 2 ^ k + w % 2 ^ k) h6 (w / 2 ^ (k + 1))
  have o3 := Nat.two_pow_add_eq_or_of_lt (i := k) (b := w % 2 ^ k) h3 1
  rw [Nat.mul_one] at o3
  have e1 : w ||| 2 ^ k = 2 ^ (k + 1) * (w / 2 ^ (k + 1)) ||| (2 ^ k ||| w % 2 ^ k) := by
   conv => lhs; rw [h4, o1]
   rw [Nat.or_assoc, Nat.or_comm (w % 2 ^ k)]
  rw [e1, ← o3, ← o2]
  omega
 have hone : IntKind.u64.wrap (1 * 2 ^ (b % 64)) = ((2 ^ (b % 64) : Nat) : Int) := by
  rw [Int.one_mul, show ((2 : Int) ^ (b % 64)) = ((2 ^ (b % 64) : Nat) : Int) by simp]
  generalize 2 ^ (b % 64) = p at hp
  exact gM (by omega) (by omega)
 have hwd : s.I.word (b / 64) = ((s.word (b / 64) : Nat) : Int) := by
  rcases h4 with h | h | h | h <;> rw [h] <;> rfl
 have hset : ∀ x : Nat, x = s.word (b / 64) ||| 2 ^ (b % 64) → s.I.set (b / 64) (x : Int) = (s.add b).I := by
  rintro x rfl
  unfold aw.add
  rcases h4 with h | h | h | h <;> simp only [h] <;> rfl
 unfold cA
 rw [nL hb]
 cases h : s.has b
 ·simp only [Bool.false_eq_true, if_false]
  rw [hwd, hone]
  have hs2 := (jm hs (jw eS (n := b)))
  have hx := hor _ h
  have hlt : s.word (b / 64) + 2 ^ (b % 64) < 18446744073709551616 := by
   rw [← hx]
   have h7 := Nat.or_lt_two_pow (n := 64) (x := s.word (b / 64)) (y := 2 ^ (b % 64)) (by have := kK hs (b / 64); simpa using this) (by simpa using hp)
   simpa using h7
  have hset2 := hset _ hx.symm
  generalize 2 ^ (b % 64) = p at hlt hset2
  rw [show ((s.word (b / 64) : Nat) : Int) + (p : Int) = ((s.word (b / 64) + p : Nat) : Int) by omega, gM (by omega) (by omega)]
  exact hset2
 ·simp only [if_true]
  have hx : s.word (b / 64) ||| 2 ^ (b % 64) = s.word (b / 64) := by
   refine Nat.eq_of_testBit_eq fun j => ?_
   rw [Nat.testBit_or, Nat.testBit_two_pow]
   by_cases hj : b % 64 = j
   ·subst hj
    have : (s.word (b / 64)).testBit (b % 64) = true := h
    simp [this]
   ·simp [hj]
  rw [← hset _ hx.symm, ← hwd]
  rcases h4 with h | h | h | h <;> rw [h] <;> rfl
def wD (s out : aw) (b : Nat) : aw := if s.has b || s.has (b - 32) then (out.add b).add (b - 32) else out
theorem DJ {s out : aw} (hs : out.ok) {b : Nat} (hb : b < 256) : iC s.I out.I b = (wD s out b).I ∧ (wD s out b).ok := by
 unfold iC wD
 rw [nL hb, nL (show b - 32 < 256 by omega)]
 split
 ·rw [qg hs hb, qg (jw hs) (show b - 32 < 256 by omega)]
  exact ⟨rfl, jw (jw hs)⟩
 ·exact ⟨rfl, hs⟩
theorem Cf {s : aw} (hs : s.ok) : sB s.I = (fk s).I := by
 have key : ∀ m ≤ 26, ∃ t : aw, t.ok ∧ (List.range m).foldl (fun out i => iC s.I out (97 + i)) s.I = t.I ∧ ∀ b < 256, t.has b = true ↔ s.has b = true ∨ ∃ i < m, (s.has (97 + i) = true ∨ s.has (97 + i - 32) = true) ∧ (b = 97 + i ∨ b = 97 + i - 32) := by
  intro m
  induction m with
  | zero => intro _; exact ⟨s, hs, rfl, fun b _ => by simp⟩
  | succ m ih =>
   intro hm
   obtain ⟨t, ht, he, hb⟩ := ih (by omega)
   obtain ⟨h1, h2⟩ := DJ (s := s) ht (b := 97 + m) (by omega)
   refine ⟨_, h2, by rw [List.range_succ, List.foldl_append, he]; exact h1, fun b hb' => ?_⟩
   unfold wD
   by_cases hc : (s.has (97 + m) || s.has (97 + m - 32)) = true
   ·rw [if_pos hc, has_add _ (by omega) hb', has_add _ (by omega) hb']
    simp only [Bool.or_eq_true, decide_eq_true_eq, hb b hb'] at hc ⊢
    constructor
    ·rintro (((h | ⟨i, h1, h2⟩) | h) | h)
     ·exact .inl h
     ·exact .inr ⟨i, by omega, h2⟩
     ·exact .inr ⟨m, by omega, hc, .inl h.symm⟩
     ·exact .inr ⟨m, by omega, hc, .inr h.symm⟩
    ·rintro (h | ⟨i, h1, h2, h3⟩)
     ·exact .inl (.inl (.inl h))
     ·by_cases hi : i = m
      ·subst hi
       rcases h3 with h3 | h3
       ·exact .inl (.inr h3.symm)
       ·exact .inr h3.symm
      ·exact .inl (.inl (.inr ⟨i, by omega, h2, h3⟩))
   ·rw [if_neg hc, hb b hb']
    simp only [Bool.or_eq_true] at hc
    constructor
    ·rintro (h | ⟨i, h1, h2⟩)
     ·exact .inl h
     ·exact .inr ⟨i, by omega, h2⟩
    ·rintro (h | ⟨i, h1, h2, h3⟩)
     ·exact .inl h
     ·by_cases hi : i = m
      ·rw [hi] at h2; exact absurd h2 hc
      ·exact .inr ⟨i, by omega, h2, h3⟩
 obtain ⟨t, ht, he, hb⟩ := key 26 (Nat.le_refl _)
 rw [show sB s.I = t.I from he]
 have h : t = fk s := by
  refine Cv ht (zu hs) fun b hb' => ?_
  rw [Bool.eq_iff_iff, hb b hb', xi hs hb']
  constructor
  ·rintro (h | ⟨i, h1, h2, h3⟩)
   ·exact .inl h
   ·rcases h3 with rfl | rfl
    ·rcases h2 with h2 | h2
     ·exact .inl h2
     ·exact .inr (.inr ⟨by omega, by omega, h2⟩)
    ·rcases h2 with h2 | h2
     ·refine .inr (.inl ⟨by omega, by omega, ?_⟩)
      rw [show 97 + i - 32 + 32 = 97 + i by omega]; exact h2
     ·exact .inl h2
  ·rintro (h | ⟨h1, h2, h3⟩ | ⟨h1, h2, h3⟩)
   ·exact .inl h
   ·exact .inr ⟨b - 65, by omega, .inl (by rw [show 97 + (b - 65) = b + 32 by omega]; exact h3), .inr (by omega)⟩
   ·exact .inr ⟨b - 97, by omega, .inr (by rw [show 97 + (b - 97) - 32 = b - 32 by omega]; exact h3), .inl (by omega)⟩
 rw [h]
theorem Cj (q f : Bool) (l : List Node) (hlen : l.length ≤ maxLen) (hl : ∀ n ∈ l, n.name.size ≤ maxLen ∧ n.l.length ≤ maxLen) (hset : ∀ n ∈ l, n.s.okI) : ah Tryz.prog 44 [.sl q f (nodes l)] [] fun r s => r = .sl true false (nodes (dZ l)) ∧ s = [] := by
 refine ah.nH (R := fun r s => (∃ fl, r = .sl true fl (nodes (dZ l))) ∧ s = []) ?_ (by rintro r s ⟨⟨fl, rfl⟩, rfl⟩; exact .inr (.inl ⟨_, _, _, rfl, rfl, rfl⟩))
 have hr := kr q f l fun n h => (hl n h).symm
 rw [← dE] at hr
 refine ah.enter Tryz.func44 rfl (by kernel_rfl) (Nat.le_of_ble_eq_true rfl) ?_; simp only [ai, Nat.reduceAdd]
 cases hok : az l
 ·rw [hok] at hr
  have e : dZ l = [] := by simp [dZ, hok]
  rw [e]
  repeat' (first
 | refine gCt rfl ?_
 | ((first
 | ((first | refine gR fp44 ?_); intro K hK)
 | refine cAl (hr) rfl rfl rfl ?_
 | (refine ab ?_ ?_ <;> intro hb <;> (try simp only [bls] at hb) <;> (try simp only [hb]))
 | refine gRe [] [.tmp 2] rfl rfl ?_) <;> (try simp only [go_sem, simprocAttr]))
 | (refine hK _ _ ?_; clear hK K; simp only [go_sem, simprocAttr])
 | refine gCd ?_ | refine brT ?_ | refine brF ?_
 | (refine brS ?_ ?_ <;> intro hc <;> (try simp only [bls] at hc) <;> (try simp only [hc, bls]))
 | intro _ | refine And.intro ?_ ?_)
  exact ⟨_, rfl⟩
 ·rw [hok] at hr
  have e : dZ l = l.map dY := by simp [dZ, hok]
  have htree := dp hok (fun n h => (hl n h).1)
  rw [e]
  repeat' (first
 | refine gCt rfl ?_
 | ((first
 | ((first | refine gR fp44 ?_); intro K hK)
 | refine cAl (hr) rfl rfl rfl ?_
 | (refine ab ?_ ?_ <;> intro hb <;> (try simp only [bls] at hb) <;> (try simp only [hb]))
 | refine gRe [] [.tmp 2] rfl rfl ?_) <;> (try simp only [go_sem, simprocAttr]))
 | (refine hK _ _ ?_; clear hK K; simp only [go_sem, simprocAttr])
 | refine gCd ?_ | refine brT ?_ | refine brF ?_
 | (refine brS ?_ ?_ <;> intro hc <;> (try simp only [bls] at hc) <;> (try simp only [hc, bls]))
 | intro _ | refine And.intro ?_ ?_)
  refine ae.lQ 3 900 9 (by decide) rfl fun g => ?_
  simp only [go_sem, simprocAttr]
  refine ae.prune [0, 2, 3, 4] ?_; simp only [go_sem, simprocAttr]
  refine ae.al (α := Nat × Nat) (fun x => ([(0, .sl q f (nodes l)), (2, .sl true true []), (3, .osl 900 x.2 0 x.1), (4, .int .i64 x.1)], [(900, (x.2, .row 9 (nodes ((l.take x.1).map dY))))])) (fun x => x.1 ≤ l.length) (fun x => l.length - x.1) (0, g) (Nat.zero_le _) rfl ?_
  rintro ⟨i, g⟩ hi ih
  simp only at hi ih ⊢
  by_cases hle : i < l.length
  ·have e4 : (i : Int) < l.length := by omega
   have e5 : (0 : Int) ≤ i := by omega
   have hx : l[i]? = some l[i] := List.getElem?_eq_getElem hle
   have hmem := List.getElem_mem hle
   have ht : (l.take (i + 1)).map dY = (l.take i).map dY ++ [dY l[i]] := by simp only [take_one hx, List.map_append, List.map_cons, List.map_nil]
   have hL := htree.1.2
   have hset1 := Ak (hset _ hmem)
   have hlen1 := (htree.2 i _ hx).2.1
   have hlc : (nodes ((l.take i).map dY)).length = i := by simp; omega
   generalize l[i] = n at hx ht hset1 hlen1
   obtain ⟨xo, xs, xl, xlo, xhi, xn⟩ := n
   simp only at hset1 hlen1
   have hf := Cg xs.a xs.b xs.c xs.d
   have hfn := Cf hset1.1
   rw [← hset1.2] at hfn
   rw [show (⟨xs.a, xs.b, xs.c, xs.d⟩ : av) = xs from rfl, hfn] at hf
   simp only [dY] at ht
   generalize fk xs.N = fs at hf ht
   obtain ⟨xa, xb, xc, xd⟩ := xs
   have ih := fun g' => ih (i + 1, g') (by simp only; omega) (by simp only; omega)
   simp only [ht] at ih
   generalize (l.take i).map dY = out at ih hlc ⊢
   have e9 : (ints xl).take xl.length = ints xl := List.take_of_length_le (by simp)
   repeat' (first
 | refine gCt rfl ?_
 | ((first
 | (refine ae.at 10 ?_; (refine ae.freeze 23 rfl ?_; simp only [rfT, rfS, rfO, rf, rf1, e9, true_and, go_sem, simprocAttr]); refine gRg [30] fp44 ?_; intro K hK)
 | ((first | refine gRg [30] fp44 ?_); intro K hK)
 | refine cAl (hf) rfl rfl rfl ?_
 | (refine ab ?_ ?_ <;> intro hb <;> (try simp only [bls] at hb) <;> (try simp only [hb]))
 | refine gRe [] [.tmp 2] rfl rfl ?_) <;> (try simp only [go_sem, simprocAttr, e4, e5, hx, hlc, Option.some.injEq, forall_eq']))
 | (refine hK _ _ ?_; clear hK K; simp only [go_sem, simprocAttr])
 | refine gCd ?_ | refine brT ?_ | refine brF ?_
 | (refine brS ?_ ?_ <;> intro hc <;> (try simp only [bls] at hc) <;> (try simp only [hc, bls]))
 | intro _ | refine And.intro ?_ ?_)
   all_goals try exact zsd
   ·rename_i y hy; obtain ⟨k, _, rfl⟩ := List.mem_map.1 hy; rfl
   ·rename_i y hy; obtain ⟨k, _, rfl⟩ := List.mem_map.1 hy; rfl
   refine ae.bC [900] ?_
   simp only [aq, ax, go_sem, simprocAttr]
   refine ae.prune [0, 2, 3, 4] ?_; simp only [go_sem, simprocAttr]
   exact (ih _).cast rfl (by simp)
  ·have e4 : ¬ (i : Int) < l.length := by omega
   have hin : i = l.length := by omega
   subst hin
   rw [List.take_length]
   repeat' (first
 | refine gCt rfl ?_
 | ((first
 | (refine ae.at 11 ?_; (refine ae.freeze 900 rfl ?_; simp only [rfT, rfS, rfO, rf, rf1, true_and, go_sem, simprocAttr]); refine gR fp44 ?_; intro K hK)
 | ((first | refine gR fp44 ?_); intro K hK)
 | (refine ab ?_ ?_ <;> intro hb <;> (try simp only [bls] at hb) <;> (try simp only [hb]))
 | refine gRe [] [.tmp 2] rfl rfl ?_) <;> (try simp only [go_sem, simprocAttr, e4]))
 | (refine hK _ _ ?_; clear hK K; simp only [go_sem, simprocAttr])
 | refine gCd ?_ | refine brT ?_ | refine brF ?_
 | (refine brS ?_ ?_ <;> intro hc <;> (try simp only [bls] at hc) <;> (try simp only [hc, bls]))
 | intro _ | refine And.intro ?_ ?_)
   exact ⟨false, by rw [List.take_of_length_le (by simp)]⟩
end Go.Rad
namespace Go.Rad
open Go Go.Proofs
set_option linter.all false
set_option maxRecDepth 20000
set_option maxHeartbeats 4000000
abbrev cJ (l : List Bool) : List (List aa) := l.map fun b => [.bool b]
end Go.Rad
namespace Go.Rad
open Go
def goA (nm : ByteArray → List Node → Out) : List Node → List Int → List Node → List Int × List Node × Int
 | [], A, out => (A, out, 0)
 | n :: ns, A, out =>
  if (stepT nm n A out).2.2 = 0 then goA nm ns (A ++ [(stepT nm n A out).2.1]) (stepT nm n A out).1
  else (A, (stepT nm n A out).1, (stepT nm n A out).2.2)
theorem qG (nm : ByteArray → List Node → Out) : ∀ (ns : List Node) (A : List Int) (out : List Node), goT nm ns A out = ((goA nm ns A out).2.1, if (goA nm ns A out).2.2 = 0 then (goA nm ns A out).1.getLastD 0 else 0, (goA nm ns A out).2.2)
 | [], A, out => by simp [goT, goA]
 | n :: ns, A, out => by
  rw [goT, goA]
  by_cases h : (stepT nm n A out).2.2 = 0
  ·rw [if_pos h, if_pos h]; exact qG nm ns _ _
  ·rw [if_neg h, if_neg h]; simp only [if_neg h]
theorem mw (nm : ByteArray → List Node → Out) (ms : List Node) : ∀ (ns : List Node) (A : List Int) (out : List Node), goA nm (ns ++ ms) A out = if (goA nm ns A out).2.2 = 0 then goA nm ms (goA nm ns A out).1 (goA nm ns A out).2.1 else goA nm ns A out
 | [], A, out => by simp [goA]
 | n :: ns, A, out => by
  rw [List.cons_append, goA, goA]
  by_cases h : (stepT nm n A out).2.2 = 0
  ·simp only [if_pos h]; exact mw nm ms ns _ _
  ·simp only [if_neg h]
theorem qF (nm : ByteArray → List Node → Out) : ∀ (ns : List Node) (A : List Int) (out : List Node), (goA nm ns A out).2.2 = 0 → ∃ B, (goA nm ns A out).1 = A ++ B ∧ B.length = ns.length
 | [], A, out, _ => ⟨[], by simp [goA], rfl⟩
 | n :: ns, A, out, h => by
  rw [goA] at h ⊢
  by_cases h0 : (stepT nm n A out).2.2 = 0
  ·rw [if_pos h0] at h ⊢
   obtain ⟨B, h1, h2⟩ := qF nm ns _ _ h
   exact ⟨(stepT nm n A out).2.1 :: B, by rw [h1]; simp, by simp [h2]⟩
  ·rw [if_neg h0] at h; exact absurd h h0
theorem qE {nm : ByteArray → List Node → Out} (hn : ∀ s out, out.length ≤ 1024 → (nm s out).1.length ≤ 1024) : ∀ (ns : List Node) (A : List Int) (out : List Node), out.length ≤ 1024 → (goA nm ns A out).2.1.length ≤ 1024
 | [], A, out, h => h
 | n :: ns, A, out, h => by
  have h1 : (stepT nm n A out).1.length ≤ 1024 := by
   unfold stepT
   split
   ·exact hn _ _ h
   ·exact n7 h
  rw [goA]
  split
  ·exact qE hn ns _ _ h1
  ·exact h1
abbrev c6 (l : List Node) (lo hi : Nat) : List Node := (l.drop lo).take (hi - lo)
theorem oj (l : List Node) {a b c : Nat} (h1 : a ≤ b) (h2 : b ≤ c) : c6 l a c = c6 l a b ++ c6 l b c := by
 have e : c - a = (b - a) + (c - b) := by omega
 rw [c6, e, List.take_add, List.drop_drop]
 congr 3
 omega
theorem tz {l : List Node} {i : Nat} {n : Node} (h : l[i]? = some n) : c6 l i (i + 1) = [n] := by
 have hi := (List.getElem?_eq_some_iff.1 h).1
 rw [c6, List.drop_eq_getElem_cons hi, show i + 1 - i = 1 by omega, List.take_succ_cons, List.take_zero]
 rw [List.getElem?_eq_getElem hi] at h
 rw [Option.some.inj h]
theorem tw (l : List Node) : c6 l 0 l.length = l := by simp [c6]
theorem AJ (l : List Node) (a : Nat) : c6 l a a = [] := by simp [c6]
theorem tx {l : List Node} {a b : Nat} (h : b ≤ l.length) : (c6 l a b).length = b - a := by
 simp [c6]; omega
abbrev opB (ds : List Df) (op : List ByteArray) : List Bool := ds.map fun d => hasB op d.name
theorem wv {ds : List Df} {op : List ByteArray} {k : Nat} {d : Df} (hd : distinct ds) (hk : ds[k]? = some d) : (opB ds op).set k true = opB ds (op ++ [d.name]) := by
 have hkl := (List.getElem?_eq_some_iff.1 hk).1
 refine List.ext_getElem? fun j => ?_
 by_cases hj : j < ds.length
 ·rw [List.getElem?_set, List.getElem?_map, List.getElem?_map, List.getElem?_eq_getElem hj]
  simp only [List.length_map, hkl, if_true, Option.map_some]
  by_cases e : k = j
  ·subst e
   have : ds[k] = d := by rw [List.getElem?_eq_getElem hj] at hk; exact Option.some.inj hk
   simp [hasB, this]
  ·rw [if_neg e]
   have hne : d.name ≠ ds[j].name := by
    have e2 : ds[k] = d := by rw [List.getElem?_eq_getElem hkl] at hk; exact Option.some.inj hk
    rw [← e2]
    rcases Nat.lt_or_gt_of_ne e with h | h
    ·exact List.pairwise_iff_getElem.1 hd k j hkl hj h
    ·exact Ne.symm (List.pairwise_iff_getElem.1 hd j k hj hkl h)
   simp [hasB, hne]
 ·rw [List.getElem?_eq_none (by simp; omega), List.getElem?_eq_none (by simp; omega)]
theorem xN {ds : List Df} {op : List ByteArray} {k : Nat} {d : Df} (hd : distinct ds) (hk : ds[k]? = some d) (h : hasB op d.name = false) : (opB ds (op ++ [d.name])).set k false = opB ds op := by
 rw [← wv hd hk, List.set_set]
 have hkl := (List.getElem?_eq_some_iff.1 hk).1
 refine List.ext_getElem? fun j => ?_
 rw [List.getElem?_set]
 by_cases e : k = j
 ·subst e
  have : ds[k] = d := by rw [List.getElem?_eq_getElem hkl] at hk; exact Option.some.inj hk
  simp [hkl, this, h]
 ·rw [if_neg e]
theorem Dl (ds : List Df) : opB ds [] = List.replicate ds.length false := by
 induction ds with
 | nil => rfl
 | cons d ds ih => rw [opB, List.map_cons, List.length_cons, List.replicate_succ]; exact congrArg _ ih
def jh (s : ByteArray) : List Df → Nat → Int
 | [], _ => -1
 | d :: ds, i => if d.name = s then i else jh s ds (i + 1)
theorem nC {s : ByteArray} : ∀ {ds : List Df} {i : Nat}, dJ ds s = none → jh s ds i = -1
 | [], _, _ => rfl
 | d :: ds, i, h => by
  rw [gk] at h
  rw [jh]
  by_cases e : d.name = s
  ·rw [if_pos e] at h; cases h
  ·rw [if_neg e] at h ⊢; exact nC h
theorem nD {s : ByteArray} {d : Df} : ∀ {ds : List Df} {i : Nat}, dJ ds s = some d → ∃ k, jh s ds i = ((i + k : Nat) : Int) ∧ ds[k]? = some d
 | [], _, h => by simp [dJ] at h
 | e :: ds, i, h => by
  rw [gk] at h
  rw [jh]
  by_cases he : e.name = s
  ·rw [if_pos he] at h ⊢; exact ⟨0, by simp, by simpa using h⟩
  ·rw [if_neg he] at h ⊢
   obtain ⟨k, h1, h2⟩ := nD (i := i + 1) h
   exact ⟨k + 1, by rw [h1]; congr 1; omega, by simpa using h2⟩
end Go.Rad
namespace Go.Rad
open Go Go.Proofs
set_option linter.all false
set_option maxRecDepth 20000
set_option maxHeartbeats 4000000
abbrev lE (g g1 g2 : Nat) (f : Bool) (ds : List Df) (bs : List Bool) (out : List Node) (e : Int) : Sto := [(1000, (g, .box [.sl true f (defs ds), .osl 1001 g1 0 bs.length, .osl 1002 g2 0 out.length, .int .i64 e])), (1001, (g1, .row 1 (cJ bs))), (1002, (g2, .row 9 (nodes out)))]
theorem H2 (s : ByteArray) (hs : s.size ≤ maxLen) (g g1 g2 : Nat) (f : Bool) (ds : List Df) (bs : List Bool) (out : List Node) (e : Int) (hl : ds.length ≤ 1000000) :
  ah Tryz.prog 93 [.bx 1000 g 0, .str s] (lE g g1 g2 f ds bs out e) fun r s' => r = .int .i64 (jh s ds 0) ∧ s' = lE g g1 g2 f ds bs out e := by
 obtain ⟨S, hS⟩ : ∃ S, S = jh s ds 0 := ⟨_, rfl⟩
 rw [← hS]
 simp only [lE]
 refine ah.enter Tryz.func93 rfl (by kernel_rfl) (Nat.le_of_ble_eq_true rfl) ?_; simp only [ai, Nat.reduceAdd]
 repeat' (first
 | refine gCt rfl ?_
 | ((first
 | ((first | refine gR fp93 ?_); intro K hK)
 | (refine ab ?_ ?_ <;> intro hb <;> (try simp only [bls] at hb) <;> (try simp only [hb]))
 | refine gRe [1000, 1001, 1002] [.tmp 4] rfl rfl ?_) <;> (try simp only [go_sem, simprocAttr]))
 | (refine hK _ _ ?_; clear hK K; simp only [go_sem, simprocAttr])
 | refine gCd ?_ | refine brT ?_ | refine brF ?_
 | (refine brS ?_ ?_ <;> intro hc <;> (try simp only [bls] at hc) <;> (try simp only [hc, bls]))
 | intro _ | refine And.intro ?_ ?_)
 refine ae.prune [0, 1, 4, 5] ?_; simp only [go_sem, simprocAttr]
 refine ae.al (α := Nat) (fun i => ([(0, .bx 1000 g 0), (1, .str s), (4, .int .i64 0), (5, .int .i64 i)], lE g g1 g2 f ds bs out e)) (fun i => i ≤ ds.length ∧ S = jh s (ds.drop i) i) (fun i => ds.length - i) 0 ⟨Nat.zero_le _, hS⟩ rfl ?_
 rintro i ⟨hi, hrun⟩ ih
 simp only
 by_cases hle : i < ds.length
 ·have e4 : (i : Int) < ds.length := by omega
  have e5 : (0 : Int) ≤ i := by omega
  have hx : ds[i]? = some ds[i] := List.getElem?_eq_getElem hle
  have hdr : ds.drop i = ds[i] :: ds.drop (i + 1) := List.drop_eq_getElem_cons hle
  rw [hdr, jh] at hrun
  generalize ds[i] = x at hx hrun
  obtain ⟨xn, xl⟩ := x
  simp only at hrun
  by_cases hn : xn = s
  ·rw [if_pos hn] at hrun
   subst hrun
   repeat' (first
 | refine gCt rfl ?_
 | ((first
 | ((first | refine gR fp93 ?_); intro K hK)
 | (refine ab ?_ ?_ <;> intro hb <;> (try simp only [bls] at hb) <;> (try simp only [hb]))
 | refine gRe [1000, 1001, 1002] [.tmp 4] rfl rfl ?_) <;> (try simp only [go_sem, simprocAttr, e4, e5, hx, hn, Option.some.injEq, forall_eq']))
 | (refine hK _ _ ?_; clear hK K; simp only [go_sem, simprocAttr])
 | refine gCd ?_ | refine brT ?_ | refine brF ?_
 | (refine brS ?_ ?_ <;> intro hc <;> (try simp only [bls] at hc) <;> (try simp only [hc, bls]))
 | intro _ | refine And.intro ?_ ?_)
  ·rw [if_neg hn] at hrun
   repeat' (first
 | refine gCt rfl ?_
 | ((first
 | ((first | refine gR fp93 ?_); intro K hK)
 | (refine ab ?_ ?_ <;> intro hb <;> (try simp only [bls] at hb) <;> (try simp only [hb]))
 | refine gRe [1000, 1001, 1002] [.tmp 4] rfl rfl ?_) <;> (try simp only [go_sem, simprocAttr, e4, e5, hx, hn, Option.some.injEq, forall_eq']))
 | (refine hK _ _ ?_; clear hK K; simp only [go_sem, simprocAttr])
 | refine gCd ?_ | refine brT ?_ | refine brF ?_
 | (refine brS ?_ ?_ <;> intro hc <;> (try simp only [bls] at hc) <;> (try simp only [hc, bls]))
 | intro _ | refine And.intro ?_ ?_)
   all_goals try exact zsd
   refine ae.prune [0, 1, 4, 5] ?_; simp only [go_sem, simprocAttr]
   exact (ih (i + 1) ⟨by omega, hrun⟩ (by omega)).cast rfl rfl
 ·have e4 : ¬ (i : Int) < ds.length := by omega
  rw [List.drop_of_length_le (by omega), jh] at hrun
  subst hrun
  repeat' (first
 | refine gCt rfl ?_
 | ((first
 | ((first | refine gR fp93 ?_); intro K hK)
 | (refine ab ?_ ?_ <;> intro hb <;> (try simp only [bls] at hb) <;> (try simp only [hb]))
 | refine gRe [1000, 1001, 1002] [.tmp 4] rfl rfl ?_) <;> (try simp only [go_sem, simprocAttr, e4]))
 | (refine hK _ _ ?_; clear hK K; simp only [go_sem, simprocAttr])
 | refine gCd ?_ | refine brT ?_ | refine brF ?_
 | (refine brS ?_ ?_ <;> intro hc <;> (try simp only [bls] at hc) <;> (try simp only [hc, bls]))
 | intro _ | refine And.intro ?_ ?_)
def Ex (ds : List Df) (f : Bool) (nm : ByteArray → List Node → Out) (bs : List Bool) (q : Bool) (fl : Bool) (l : List Node) (i : Nat) : Prop :=
 ∀ (n : Node) (lo : Nat), l[i]? = some n → Kids l lo n.l i → ∀ (A : List Int) (out : List Node), A.length = lo → out.length ≤ 1024 → ∀ (g g1 g2 : Nat),
   ah Tryz.prog 70 [.bx 1000 g 0, .sl q fl (nodes l), .int .i64 i] (lE g g1 g2 f ds bs out 0) fun r s => r = .int .i64 (if (goA nm (c6 l lo (i + 1)) A out).2.2 = 0 then (goA nm (c6 l lo (i + 1)) A out).1.getLastD 0 else 0) ∧ ∃ h2, s = lE g g1 h2 f ds bs (goA nm (c6 l lo (i + 1)) A out).2.1 (goA nm (c6 l lo (i + 1)) A out).2.2
theorem yA (ds : List Df) (f : Bool) (nm : ByteArray → List Node → Out) (hnl : ∀ s out, out.length ≤ 1024 → (nm s out).1.length ≤ 1024) (bs : List Bool) (q fl : Bool) (l : List Node) (htree : oH l) (i : Nat) (ih : ∀ k < i, Ex ds f nm bs q fl l k) (n : Node) (lo : Nat) (hx : l[i]? = some n) (hk : Kids l lo n.l i) (h6 : n.op ≠ 6) (A : List Int) (out : List Node) (hA : A.length = lo) (ho : out.length ≤ 1024) (g g1 g2 : Nat) :
  ah Tryz.prog 70 [.bx 1000 g 0, .sl q fl (nodes l), .int .i64 i] (lE g g1 g2 f ds bs out 0) fun r s => r = .int .i64 (if (goA nm (c6 l lo (i + 1)) A out).2.2 = 0 then (goA nm (c6 l lo (i + 1)) A out).1.getLastD 0 else 0) ∧ ∃ h2, s = lE g g1 h2 f ds bs (goA nm (c6 l lo (i + 1)) A out).2.1 (goA nm (c6 l lo (i + 1)) A out).2.2 := by
 have hil := (List.getElem?_eq_some_iff.1 hx).1
 have hL := htree.1.2
 obtain ⟨-, hn1, -⟩ := htree.2 i _ hx
 obtain ⟨R, hR⟩ : ∃ R, R = goA nm (c6 l lo (i + 1)) A out := ⟨_, rfl⟩
 have hseg : goA nm (c6 l lo (i + 1)) A out = if (goA nm (c6 l lo i) A out).2.2 = 0 then goA nm [n] (goA nm (c6 l lo i) A out).1 (goA nm (c6 l lo i) A out).2.1 else goA nm (c6 l lo i) A out := by
  rw [oj l (show lo ≤ i from hk.le) (show i ≤ i + 1 by omega), tz hx, mw]
 rw [← hR]
 have e4 : (i : Int) < l.length := by omega
 have e5 : (0 : Int) ≤ i := by omega
 have hop : n.op = 6 ↔ False := by simp [h6]
 obtain ⟨xo, ⟨xa, xb, xc, xd⟩, xl, xlo, xhi, xn⟩ := n
 simp only at hk h6 hop hn1
 simp only [lE]
 refine ah.enter Tryz.func70 rfl (by kernel_rfl) (Nat.le_of_ble_eq_true rfl) ?_; simp only [ai, Nat.reduceAdd]
 repeat' (first
 | refine gCt rfl ?_
 | ((first
 | ((first | refine gR fp70 ?_ | refine gD 11 19 th fp70 ?_ | refine gD 25 6 ea fp70 ?_); intro K hK)
 | (refine ab ?_ ?_ <;> intro hb <;> (try simp only [bls] at hb) <;> (try simp only [hb]))
 | refine gRe [1000, 1001, 1002] [.tmp 6] rfl rfl ?_) <;> (try simp only [go_sem, simprocAttr, e4, e5, hx, h6, Option.some.injEq, forall_eq']))
 | (refine hK _ _ ?_; clear hK K; simp only [go_sem, simprocAttr])
 | refine gCd ?_ | refine brT ?_ | refine brF ?_
 | (refine brS ?_ ?_ <;> intro hc <;> (try simp only [bls] at hc) <;> (try simp only [hc, bls]))
 | intro _ | refine And.intro ?_ ?_)
 rename_i g7
 refine ae.lQ 10 900 1 (by decide) rfl fun g9 => ?_
 simp only [go_sem, simprocAttr]
 refine ae.prune [0, 1, 6, 7, 10, 11] ?_; simp only [go_sem, simprocAttr]
 refine ae.al (α := Nat × Nat × List Int × List Node × Nat × Nat) (fun x => ([(0, .bx 1000 g 0), (1, .sl q fl (nodes l)), (6, .int .i64 0), (7, .bx 7 g7 0), (10, .osl 900 x.2.2.2.2.2 0 x.1), (11, .int .i64 x.1)],
   [(7, g7, .box [.int .u8 xo, .int .u64 xa, .int .u64 xb, .int .u64 xc, .int .u64 xd, .sl true false (ints xl), .int .i64 xlo, .int .i64 xhi, .str xn]), (900, x.2.2.2.2.2, .row 1 (ints ((xl.take x.1).map (atF x.2.2.1)))), (1000, g, .box [.sl true f (defs ds), .osl 1001 g1 0 bs.length, .osl 1002 x.2.2.2.2.1 0 x.2.2.2.1.length, .int .i64 0]), (1001, g1, .row 1 (cJ bs)), (1002, x.2.2.2.2.1, .row 9 (nodes x.2.2.2.1))]))
  (fun x => x.1 ≤ xl.length ∧ Kids l lo (xl.take x.1) x.2.1 ∧ Kids l x.2.1 (xl.drop x.1) i ∧ goA nm (c6 l lo x.2.1) A out = (x.2.2.1, x.2.2.2.1, 0)) (fun x => xl.length - x.1) (0, lo, A, out, g2, g9) ⟨Nat.zero_le _, .nil, hk, by simp only [AJ, goA]⟩ rfl ?_
 rintro ⟨j, m, A1, o1, g3, g9⟩ ⟨hj, hk1, hk2, hgo⟩ ih2
 simp only at hj hk1 hk2 hgo ih2 ⊢
 have hmi : m ≤ i := hk2.le
 obtain ⟨B1, hB1, hB2⟩ := qF nm (c6 l lo m) A out (by rw [hgo])
 rw [hgo] at hB1
 simp only at hB1
 rw [tx (by omega)] at hB2
 have hlom : lo ≤ m := hk1.le
 have hA1 : A1.length = m := by rw [hB1, List.length_append]; omega
 have ho1 : o1.length ≤ 1024 := by have := qE hnl (c6 l lo m) A out ho; rw [hgo] at this; exact this
 have hrl : ((xl.take j).map (atF A1)).length = j := by simp; omega
 by_cases hle : j < xl.length
 ·have f4 : (j : Int) < xl.length := by omega
  have f5 : (0 : Int) ≤ j := by omega
  have hxk : xl[j]? = some xl[j] := List.getElem?_eq_getElem hle
  have hdr : xl.drop j = xl[j] :: xl.drop (j + 1) := List.drop_eq_getElem_cons hle
  have ht := take_one hxk
  rw [hdr] at hk2
  generalize xl[j] = k at hxk hk2 ht
  cases hk2 with
  | @cons _ k' _ nk _ hnk hkk hkr =>
   have hki : k' + 1 ≤ i := hkr.le
   have hcall := ih k' (by omega) nk m hnk hkk A1 o1 hA1 ho1 g g1 g3
   simp only [lE] at hcall
   rcases hR1 : goA nm (c6 l m (k' + 1)) A1 o1 with ⟨A2, o2, e2⟩
   rw [hR1] at hcall
   simp only at hcall
   have hmk : m ≤ k' := hkk.le
   have hgo2 : goA nm (c6 l lo (k' + 1)) A out = (A2, o2, e2) := by
    rw [oj l hlom (show m ≤ k' + 1 by omega), mw, hgo]
    simp only [if_true]; exact hR1
   by_cases he : e2 = 0
   ·subst he
    simp only [if_true] at hcall
    obtain ⟨B2, hB3, hB4⟩ := qF nm (c6 l m (k' + 1)) A1 o1 (by rw [hR1])
    rw [hR1] at hB3
    simp only at hB3
    rw [tx (by omega)] at hB4
    have hA2 : A2.length = k' + 1 := by rw [hB3, List.length_append]; omega
    have ho2 : o2.length ≤ 1024 := by have := qE hnl (c6 l m (k' + 1)) A1 o1 ho1; rw [hR1] at this; exact this
    have hlast : A2.getLastD 0 = atF A2 (k' : Int) := by
     rw [List.getLastD_eq_getLast?, List.getLast?_eq_getElem?, hA2]; rfl
    have hrow : (xl.take (j + 1)).map (atF A2) = (xl.take j).map (atF A1) ++ [A2.getLastD 0] := by
     rw [ht, List.map_append, hlast]
     congr 1
     refine List.map_congr_left fun k hk => ?_
     rw [hB3]
     have := hk1.lt k hk
     exact qp this.1 (by omega)
    have ih2 := fun h2 h9 => ih2 (j + 1, k' + 1, A2, o2, h2, h9) ⟨by simp only; omega, by simp only; rw [ht]; exact hk1.append (.cons hnk hkk .nil), by simpa only using hkr, by simpa only using hgo2⟩ (by simp only; omega)
    simp only [hrow] at ih2
    generalize A2.getLastD 0 = v at hcall ih2
    generalize (xl.take j).map (atF A1) = row at hrl ih2 ⊢
    repeat' (first
 | refine gCt rfl ?_
 | ((first
 | ((first | refine gRg [87] fp70 ?_ | refine gDr 11 [87] 19 th fp70 rfl ?_ | refine gDr 25 [87] 6 ea fp70 rfl ?_); intro K hK)
 | (refine ah.use [(1000, 1000), (1001, 1001), (1002, 1002)] [] rfl hcall rfl rfl rfl ?_; rintro _ _ ⟨rfl, h2, rfl⟩; refine ⟨.inl rfl, rfl, ?_⟩; simp only [bk, bk2, bk1, bkS, bkO, bw, aH, go_sem, simprocAttr])
 | (refine ab ?_ ?_ <;> intro hb <;> (try simp only [bls] at hb) <;> (try simp only [hb]))
 | refine gRe [1000, 1001, 1002] [.tmp 6] rfl rfl ?_) <;> (try simp only [go_sem, simprocAttr, f4, f5, hxk, hrl, Option.some.injEq, forall_eq']))
 | (refine hK _ _ ?_; clear hK K; simp only [go_sem, simprocAttr])
 | refine gCd ?_ | refine brT ?_ | refine brF ?_
 | (refine brS ?_ ?_ <;> intro hc <;> (try simp only [bls] at hc) <;> (try simp only [hc, bls]))
 | intro _ | refine And.intro ?_ ?_)
    all_goals try exact zsd
    rename_i h9
    refine ae.bC [7, 900, 1000, 1001, 1002] ?_
    simp only [aq, ax, go_sem, simprocAttr]
    refine ae.prune [0, 1, 6, 7, 10, 11] ?_; simp only [go_sem, simprocAttr]
    exact (ih2 h2 h9).cast (by simp [hrl]) (by simp)
   ·simp only [he, if_false] at hcall
    have hRR : R = (A2, o2, e2) := by
     rw [hR, oj l (show lo ≤ k' + 1 by omega) (show k' + 1 ≤ i + 1 by omega), mw, hgo2]
     simp only [he, if_false]
    rw [hRR]
    simp only [he, if_false]
    generalize (xl.take j).map (atF A1) = row at hrl ih2 ⊢
    repeat' (first
 | refine gCt rfl ?_
 | ((first
 | ((first | refine gRg [87] fp70 ?_ | refine gDr 11 [87] 19 th fp70 rfl ?_ | refine gDr 25 [87] 6 ea fp70 rfl ?_); intro K hK)
 | (refine ah.use [(1000, 1000), (1001, 1001), (1002, 1002)] [] rfl hcall rfl rfl rfl ?_; rintro _ _ ⟨rfl, h2, rfl⟩; refine ⟨.inl rfl, rfl, ?_⟩; simp only [bk, bk2, bk1, bkS, bkO, bw, aH, go_sem, simprocAttr])
 | (refine ab ?_ ?_ <;> intro hb <;> (try simp only [bls] at hb) <;> (try simp only [hb]))
 | refine gRe [1000, 1001, 1002] [.tmp 6] rfl rfl ?_) <;> (try simp only [go_sem, simprocAttr, f4, f5, hxk, hrl, he, Option.some.injEq, forall_eq']))
 | (refine hK _ _ ?_; clear hK K; simp only [go_sem, simprocAttr])
 | refine gCd ?_ | refine brT ?_ | refine brF ?_
 | (refine brS ?_ ?_ <;> intro hc <;> (try simp only [bls] at hc) <;> (try simp only [hc, bls]))
 | intro _ | refine And.intro ?_ ?_)
    all_goals try exact zsd
 ·have f4 : ¬ (j : Int) < xl.length := by omega
  have hjl : j = xl.length := by omega
  subst hjl
  rw [List.drop_length] at hk2
  cases hk2
  rw [List.take_length] at hk1 hrl ⊢
  have hstep : stepT nm ⟨xo, ⟨xa, xb, xc, xd⟩, xl, xlo, xhi, xn⟩ A1 o1 = ek ⟨xo, ⟨xa, xb, xc, xd⟩, xl, xlo, xhi, xn⟩ A1 o1 := by simp only [stepT, h6, if_false]
  rw [← hR, hgo] at hseg
  simp only [if_true, goA, hstep] at hseg
  clear hR ih2 ih
  by_cases hlong : 1024 ≤ o1.length
  ·have f5 : (1024 : Int) ≤ o1.length := by omega
   have hp : ek ⟨xo, ⟨xa, xb, xc, xd⟩, xl, xlo, xhi, xn⟩ A1 o1 = (o1, 0, 3) := by simp only [ek, if_pos hlong]
   rw [hp] at hseg
   have hRR : R = (A1, o1, 3) := by rw [hseg]; rfl
   subst hRR
   generalize xl.map (atF A1) = row at hrl ⊢
   repeat' (first
 | refine gCt rfl ?_
 | ((first
 | ((first | refine gR fp70 ?_ | refine gD 11 19 th fp70 ?_ | refine gD 25 6 ea fp70 ?_); intro K hK)
 | (refine ab ?_ ?_ <;> intro hb <;> (try simp only [bls] at hb) <;> (try simp only [hb]))
 | refine gRe [1000, 1001, 1002] [.tmp 6] rfl rfl ?_) <;> (try simp only [go_sem, simprocAttr, f4, f5]))
 | (refine hK _ _ ?_; clear hK K; simp only [go_sem, simprocAttr])
 | refine gCd ?_ | refine brT ?_ | refine brF ?_
 | (refine brS ?_ ?_ <;> intro hc <;> (try simp only [bls] at hc) <;> (try simp only [hc, bls]))
 | intro _ | refine And.intro ?_ ?_)
   exact ⟨_, rfl⟩
  ·have f5 : ¬ (1024 : Int) ≤ o1.length := by omega
   have hp : ek ⟨xo, ⟨xa, xb, xc, xd⟩, xl, xlo, xhi, xn⟩ A1 o1 = (o1 ++ [⟨xo, ⟨xa, xb, xc, xd⟩, xl.map (atF A1), xlo, xhi, xn⟩], (o1.length : Int), 0) := by simp only [ek, if_neg hlong]
   rw [hp] at hseg
   have hRR : R = (A1 ++ [(o1.length : Int)], o1 ++ [⟨xo, ⟨xa, xb, xc, xd⟩, xl.map (atF A1), xlo, xhi, xn⟩], 0) := by rw [hseg]; rfl
   have hgl : (A1 ++ [(o1.length : Int)]).getLastD 0 = (o1.length : Int) := by simp
   subst hRR
   simp only [hgl, if_true]
   have e9 : (ints (xl.map (atF A1))).take xl.length = ints (xl.map (atF A1)) := List.take_of_length_le (by simp)
   have e10 : xl.length ≤ (xl.map (atF A1)).length := by simp
   generalize xl.map (atF A1) = row at hrl e9 e10 ⊢
   repeat' (first
 | refine gCt rfl ?_
 | ((first
 | (refine ae.at 25 ?_; (refine ae.freeze 900 rfl ?_; simp only [rfT, rfS, rfO, rf, rf1, e9, e10, true_and, go_sem, simprocAttr]); refine gDr 25 [111] 7 ea fp70 rfl ?_; intro K hK)
 | ((first | refine gRg [111] fp70 ?_ | refine gDr 11 [111] 19 th fp70 rfl ?_); intro K hK)
 | (refine ab ?_ ?_ <;> intro hb <;> (try simp only [bls] at hb) <;> (try simp only [hb]))
 | refine gRe [1000, 1001, 1002] [.tmp 6] rfl rfl ?_) <;> (try simp only [go_sem, simprocAttr, f4, f5]))
 | (refine hK _ _ ?_; clear hK K; simp only [go_sem, simprocAttr])
 | refine gCd ?_ | refine brT ?_ | refine brF ?_
 | (refine brS ?_ ?_ <;> intro hc <;> (try simp only [bls] at hc) <;> (try simp only [hc, bls]))
 | intro _ | refine And.intro ?_ ?_)
   all_goals try exact zsd
   ·congr 1; omega
   ·rename_i hh; exact ⟨hh, by simp⟩
theorem JY (ds : List Df) (f : Bool) (hdl : ds.length ≤ 900000) (hds : ∀ d ∈ ds, az d.l = true ∧ ∀ n ∈ d.l, n.name.size ≤ maxLen) (hdist : distinct ds) : ∀ (fuel : Nat) (op : List ByteArray), re ds op < fuel → ∀ (q fl : Bool) (l : List Node), oH l → l.all aD = true → ∀ i : Nat, Ex ds f (aP ds fuel op) (opB ds op) q fl l i := by
 intro fuel
 induction fuel with
 | zero => intro op h; omega
 | succ fuel ihf =>
  intro op hrem q fl l htree hall i
  induction i using Nat.strongRecOn with
  | ind i ih =>
   intro n lo hx hk A out hA ho g g1 g2
   have hnl : ∀ s out, out.length ≤ 1024 → (aP ds (fuel + 1) op s out).1.length ≤ 1024 := fun s out h => fV ds _ op s out h
   by_cases h6 : n.op = 6
   ·have hil := (List.getElem?_eq_some_iff.1 hx).1
    have hL := htree.1.2
    obtain ⟨hsz, -, -⟩ := htree.2 i _ hx
    have hno : n.l = [] := by
     have := List.all_eq_true.1 hall n (List.mem_of_getElem? hx)
     simp [aD, h6] at this
     exact this.2
    rw [hno] at hk
    cases hk
    rw [tz hx]
    have hst : stepT (aP ds (fuel + 1) op) n A out = aP ds (fuel + 1) op n.name out := by simp [stepT, h6]
    have e4 : (i : Int) < l.length := by omega
    have e5 : (0 : Int) ≤ i := by omega
    simp only [goA, hst]
    obtain ⟨xo, ⟨xa, xb, xc, xd⟩, xl, xlo, xhi, xn⟩ := n
    simp only at h6 hsz ⊢
    subst h6
    have hfind := H2 xn hsz g g1 g2 f ds (opB ds op) out 0 (by omega)
    have hbl : (opB ds op).length = ds.length := by simp
    simp only [lE] at hfind ⊢
    cases hf : dJ ds xn with
    | none =>
     have hn : aP ds (fuel + 1) op xn out = (out, 0, 60) := by rw [aP, hf]
     rw [nC hf] at hfind
     simp only [hn]
     clear ih ihf hst
     generalize opB ds op = bs at hfind hbl ⊢
     refine ah.enter Tryz.func70 rfl (by kernel_rfl) (Nat.le_of_ble_eq_true rfl) ?_; simp only [ai, Nat.reduceAdd]
     repeat' (first
 | refine gCt rfl ?_
 | ((first
 | ((first | refine gR fp70 ?_ | refine gD 11 19 th fp70 ?_ | refine gD 25 6 ea fp70 ?_); intro K hK)
 | (refine ah.use [(1000, 1000), (1001, 1001), (1002, 1002)] [] rfl hfind rfl rfl rfl ?_; rintro _ _ ⟨rfl, rfl⟩; refine ⟨.inl rfl, rfl, ?_⟩; simp only [bk, bk2, bk1, bkS, bkO, bw, aH, go_sem, simprocAttr])
 | (refine ab ?_ ?_ <;> intro hb <;> (try simp only [bls] at hb) <;> (try simp only [hb]))
 | refine gRe [1000, 1001, 1002] [.tmp 6] rfl rfl ?_) <;> (try simp only [go_sem, simprocAttr, e4, e5, hx, Option.some.injEq, forall_eq']))
 | (refine hK _ _ ?_; clear hK K; simp only [go_sem, simprocAttr])
 | refine gCd ?_ | refine brT ?_ | refine brF ?_
 | (refine brS ?_ ?_ <;> intro hc <;> (try simp only [bls] at hc) <;> (try simp only [hc, bls]))
 | intro _ | refine And.intro ?_ ?_)
     all_goals try exact zsd
    | some d =>
     obtain ⟨k, hk1, hk2⟩ := nD (i := 0) hf
     obtain ⟨hdm, hdn⟩ := np hf
     rw [hk1, Nat.zero_add] at hfind
     have hkl := (List.getElem?_eq_some_iff.1 hk2).1
     have f4 : (k : Int) < ds.length := by omega
     have f5 : ¬ (k : Int) < 0 := by omega
     have f6 : (0 : Int) ≤ k := by omega
     have hbk : (opB ds op)[k]? = some (hasB op xn) := by rw [List.getElem?_map, hk2, ← hdn]; rfl
     have hnm : aP ds (fuel + 1) op xn out = if hasB op xn = true then (out, 0, 61) else goT (aP ds fuel (op ++ [xn])) d.l [] out := by rw [aP, hf]
     cases hb : hasB op xn
     ·have hset := wv (op := op) hdist hk2
      have hunset := xN (op := op) hdist hk2 (by rw [hdn]; exact hb)
      rw [hdn] at hset hunset
      rw [hb] at hnm hbk
      simp only [Bool.false_eq_true, if_false] at hnm
      have hd2 := hds d hdm
      obtain ⟨r1, r2, r3, r4⟩ := bH hd2.1
      have htree2 := dp hd2.1 hd2.2
      have hrem2 : re ds (op ++ [xn]) < fuel := by have := Aw hdm hdn hb; omega
      obtain ⟨rn, hr1, hr2⟩ : ∃ n, d.l[d.l.length - 1]? = some n ∧ Kids d.l 0 n.l (d.l.length - 1) := by
       generalize hcc : (d.l.length : Int) - 1 = cc at r1
       cases r1 with
       | @cons _ kk _ nn _ q1 q2 q3 =>
        have : kk = d.l.length - 1 := by omega
        subst this; exact ⟨nn, q1, q2⟩
      have hwalk := fun g2 => ihf (op ++ [xn]) hrem2 true false d.l htree2 r2 (d.l.length - 1) rn 0 hr1 hr2 [] out rfl ho g g1 g2
      rw [show d.l.length - 1 + 1 = d.l.length by omega, tw] at hwalk
      rw [qG] at hnm
      generalize goA (aP ds fuel (op ++ [xn])) d.l [] out = R at hwalk hnm
      obtain ⟨RA, Ro, Re⟩ := R
      simp only at hwalk hnm
      have f7 : ((d.l.length - 1 : Nat) : Int) = (d.l.length : Int) - 1 := by omega
      rw [f7] at hwalk
      have f8 : gS ((d.l.length : Int) - 1) := by unfold gS; omega
      simp only [hnm]
      rw [show (cJ (opB ds op)) = cJ (opB ds op) from rfl] at hfind
      have hbl2 : (opB ds (op ++ [xn])).length = ds.length := by simp
      simp only [lE] at hwalk
      clear ih ihf hst hf htree hall hds r1 r2
      have hs1 : (cJ (opB ds op)).set k [.bool true] = cJ (opB ds (op ++ [xn])) := by rw [← hset]; simp [cJ, List.map_set]
      have hs2 : (cJ (opB ds (op ++ [xn]))).set k [.bool false] = cJ (opB ds op) := by rw [← hunset]; simp [cJ, List.map_set]
      obtain ⟨dn, dl⟩ := d
      simp only at hwalk hk2 f8 f7 r3 r4 hdn
      subst hdn
      have hbk2 : (opB ds (op ++ [dn]))[k]? = some true := by rw [← hset]; rw [List.getElem?_set]; simp [hkl]
      have hbr : (cJ (opB ds op))[k]? = some [aa.bool false] := by rw [List.getElem?_map, hbk]; rfl
      have hbr2 : (cJ (opB ds (op ++ [dn])))[k]? = some [aa.bool true] := by rw [List.getElem?_map, hbk2]; rfl
      generalize opB ds op = bs at hfind hbl hbk hbr hs1 hs2 ⊢
      generalize opB ds (op ++ [dn]) = bs2 at hwalk hbl2 hbk2 hbr2 hs1 hs2
      rw [hbl] at hfind
      simp only [hbl2] at hwalk
      refine ah.enter Tryz.func70 rfl (by kernel_rfl) (Nat.le_of_ble_eq_true rfl) ?_; simp only [ai, Nat.reduceAdd]
      repeat' (first
 | refine gCt rfl ?_
 | ((first
 | ((first | refine gR fp70 ?_ | refine gD 11 19 th fp70 ?_ | refine gD 25 6 ea fp70 ?_); intro K hK)
 | (refine ah.use [(1000, 1000), (1001, 1001), (1002, 1002)] [] rfl hfind rfl rfl rfl ?_; rintro _ _ ⟨rfl, rfl⟩; refine ⟨.inl rfl, rfl, ?_⟩; simp only [bk, bk2, bk1, bkS, bkO, bw, aH, go_sem, simprocAttr])
 | (refine ah.use [(1000, 1000), (1001, 1001), (1002, 1002)] [] rfl (hwalk _) rfl rfl rfl ?_; rintro _ _ ⟨rfl, h2, rfl⟩; refine ⟨.inl rfl, rfl, ?_⟩; simp only [bk, bk2, bk1, bkS, bkO, bw, aH, go_sem, simprocAttr])
 | (refine ab ?_ ?_ <;> intro hb <;> (try simp only [bls] at hb) <;> (try simp only [hb]))
 | refine gRe [1000, 1001, 1002] [.tmp 6] rfl rfl ?_) <;> (try simp only [go_sem, simprocAttr, e4, e5, hx, f4, f5, f6, f8, hbl, hbl2, hbk, hbk2, hbr, hbr2, hk2, hs1, hs2, Option.some.injEq, forall_eq']))
 | (refine hK _ _ ?_; clear hK K; simp only [go_sem, simprocAttr])
 | refine gCd ?_ | refine brT ?_ | refine brF ?_
 | (refine brS ?_ ?_ <;> intro hc <;> (try simp only [bls] at hc) <;> (try simp only [hc, bls]))
 | intro _ | refine And.intro ?_ ?_)
      all_goals try exact zsd
      ·by_cases he : Re = 0 <;> simp [he]
      ·rename_i h2
       refine ⟨h2, ?_⟩
       by_cases he : Re = 0 <;> simp [he]
     ·rw [hb] at hnm hbk
      simp only [if_true] at hnm
      simp only [hnm]
      clear ih ihf hst hf htree hall hds
      generalize opB ds op = bs at hfind hbl hbk ⊢
      rw [hbl] at hfind
      refine ah.enter Tryz.func70 rfl (by kernel_rfl) (Nat.le_of_ble_eq_true rfl) ?_; simp only [ai, Nat.reduceAdd]
      repeat' (first
 | refine gCt rfl ?_
 | ((first
 | ((first | refine gR fp70 ?_ | refine gD 11 19 th fp70 ?_ | refine gD 25 6 ea fp70 ?_); intro K hK)
 | (refine ah.use [(1000, 1000), (1001, 1001), (1002, 1002)] [] rfl hfind rfl rfl rfl ?_; rintro _ _ ⟨rfl, rfl⟩; refine ⟨.inl rfl, rfl, ?_⟩; simp only [bk, bk2, bk1, bkS, bkO, bw, aH, go_sem, simprocAttr])
 | (refine ab ?_ ?_ <;> intro hb <;> (try simp only [bls] at hb) <;> (try simp only [hb]))
 | refine gRe [1000, 1001, 1002] [.tmp 6] rfl rfl ?_) <;> (try simp only [go_sem, simprocAttr, e4, e5, hx, f4, f5, f6, hbl, hbk, Option.some.injEq, forall_eq']))
 | (refine hK _ _ ?_; clear hK K; simp only [go_sem, simprocAttr])
 | refine gCd ?_ | refine brT ?_ | refine brF ?_
 | (refine brS ?_ ?_ <;> intro hc <;> (try simp only [bls] at hc) <;> (try simp only [hc, bls]))
 | intro _ | refine And.intro ?_ ?_)
      all_goals try exact zsd
   ·exact yA ds f _ hnl _ q fl l htree i ih n lo hx hk h6 A out hA ho g g1 g2
end Go.Rad
namespace Go.Rad
open Go Go.Proofs
set_option linter.all false
set_option maxRecDepth 20000
set_option maxHeartbeats 4000000
theorem tf (q f : Bool) (ds : List Df) (hl : ds.length ≤ 1000000) (hd : ∀ d ∈ ds, ze d) : ah Tryz.prog 39 [.sl q f (defs ds)] [] fun r s => r = .bool (bz [] ds) ∧ s = [] := by
 obtain ⟨S, hS⟩ : ∃ S, S = bz [] ds := ⟨_, rfl⟩
 rw [← hS]
 have hall : S = true ↔ (∀ d ∈ ds, bl d.name = true ∧ az d.l = true) ∧ distinct ds := by
  rw [hS, jF]; simp [hasB]
 refine ah.enter Tryz.func39 rfl (by kernel_rfl) (Nat.le_of_ble_eq_true rfl) ?_; simp only [ai, Nat.reduceAdd]
 repeat' (first
 | refine gCt rfl ?_
 | ((first
 | ((first | refine gR fp39 ?_ | refine gD 9 11 ea fp39 ?_); intro K hK)
 | (refine ab ?_ ?_ <;> intro hb <;> (try simp only [bls] at hb) <;> (try simp only [hb]))
 | refine gRe [] [.tmp 2] rfl rfl ?_) <;> (try simp only [go_sem, simprocAttr]))
 | (refine hK _ _ ?_; clear hK K; simp only [go_sem, simprocAttr])
 | refine gCd ?_ | refine brT ?_ | refine brF ?_
 | (refine brS ?_ ?_ <;> intro hc <;> (try simp only [bls] at hc) <;> (try simp only [hc, bls]))
 | intro _ | refine And.intro ?_ ?_)
 refine ae.prune [0, 2, 3] ?_; simp only [go_sem, simprocAttr]
 refine ae.al (α := Nat) (fun i => ([(0, .sl q f (defs ds)), (2, .bool false), (3, .int .i64 i)], [])) (fun i => i ≤ ds.length ∧ (∀ d ∈ ds.take i, bl d.name = true ∧ az d.l = true) ∧ distinct (ds.take i)) (fun i => ds.length - i) 0 ⟨Nat.zero_le _, by simp, by simp [distinct]⟩ rfl ?_
 rintro i ⟨hi, ha, hdi⟩ ih
 simp only
 by_cases hle : i < ds.length
 ·have e4 : (i : Int) < ds.length := by omega
  have e5 : (0 : Int) ≤ i := by omega
  have hx : ds[i]? = some ds[i] := List.getElem?_eq_getElem hle
  have hmem := List.getElem_mem hle
  have hm := hd _ hmem
  have ht := take_one hx
  have hno : S = true → bl ds[i].name = true ∧ az ds[i].l = true := fun h => (hall.1 h).1 _ hmem
  have hne : S = true → ∀ (j : Nat) (e : Df), j < i → ds[j]? = some e → e.name ≠ ds[i].name := by
   intro h j e hj he
   have h2 := (hall.1 h).2
   rw [List.getElem?_eq_some_iff] at he
   obtain ⟨hjl, rfl⟩ := he
   exact List.pairwise_iff_getElem.1 h2 j i hjl hle hj
  generalize ds[i] = x at hx hm ht hno hne
  obtain ⟨xn, xl⟩ := x
  obtain ⟨hm1, hm2⟩ := hm
  simp only at hm1 hm2 hno hne
  have hn := j8 xn hm1
  have hr := kr true false xl fun n h => (hm2 n h).symm
  rw [← dE] at hr
  by_cases hc : bl xn = true ∧ az xl = true
  ·obtain ⟨h1, h2⟩ := hc
   rw [h1] at hn
   rw [h2] at hr
   repeat' (first
 | refine gCt rfl ?_
 | ((first
 | ((first | refine gR fp39 ?_ | refine gD 9 11 ea fp39 ?_); intro K hK)
 | refine cAl (hn) rfl rfl rfl ?_
 | refine cAl (hr) rfl rfl rfl ?_
 | (refine ab ?_ ?_ <;> intro hb <;> (try simp only [bls] at hb) <;> (try simp only [hb]))
 | refine gRe [] [.tmp 2] rfl rfl ?_) <;> (try simp only [go_sem, simprocAttr, e4, e5, hx, Option.some.injEq, forall_eq']))
 | (refine hK _ _ ?_; clear hK K; simp only [go_sem, simprocAttr])
 | refine gCd ?_ | refine brT ?_ | refine brF ?_
 | (refine brS ?_ ?_ <;> intro hc <;> (try simp only [bls] at hc) <;> (try simp only [hc, bls]))
 | intro _ | refine And.intro ?_ ?_)
   have ih := fun h => ih (i + 1) h (by omega)
   refine ae.prune [0, 2, 3, 4] ?_; simp only [go_sem, simprocAttr]
   refine ae.al (α := Nat) (fun k => ([(0, .sl q f (defs ds)), (2, .bool false), (3, .int .i64 i), (4, .int .i64 k)], [])) (fun k => k ≤ i ∧ ∀ (j : Nat) (e : Df), j < k → ds[j]? = some e → e.name ≠ xn) (fun k => i - k) 0 ⟨Nat.zero_le _, fun j e h => by omega⟩ rfl ?_
   rintro k ⟨hk, hkn⟩ ih2
   simp only
   by_cases hki : k < i
   ·have f4 : (k : Int) < i := by omega
    have f5 : (0 : Int) ≤ k := by omega
    have f6 : (k : Int) < ds.length := by omega
    have hy : ds[k]? = some ds[k] := List.getElem?_eq_getElem (by omega)
    have ih2 := fun h => ih2 (k + 1) h (by omega)
    have hkn2 : ds[k].name ≠ xn → ∀ (j : Nat) (e : Df), j < k + 1 → ds[j]? = some e → e.name ≠ xn := by
     intro h j e hj he
     by_cases hjk : j = k
     ·subst hjk; rw [hy] at he; cases he; exact h
     ·exact hkn j e (by omega) he
    have hne2 := fun h => hne h k _ hki hy
    generalize ds[k] = y at hy hkn2 hne2
    obtain ⟨yn, yl⟩ := y
    simp only at hkn2 hne2
    by_cases hyx : yn = xn
    ·have hS2 : S = false := by
      cases h : S with
      | false => rfl
      | true => exact absurd hyx (hne2 h)
     subst hS2
     repeat' (first
 | refine gCt rfl ?_
 | ((first
 | ((first | refine gR fp39 ?_ | refine gD 9 11 ea fp39 ?_); intro K hK)
 | (refine ab ?_ ?_ <;> intro hb <;> (try simp only [bls] at hb) <;> (try simp only [hb]))
 | refine gRe [] [.tmp 2] rfl rfl ?_) <;> (try simp only [go_sem, simprocAttr, e4, e5, f4, f5, f6, hx, hy, hyx, Option.some.injEq, forall_eq']))
 | (refine hK _ _ ?_; clear hK K; simp only [go_sem, simprocAttr])
 | refine gCd ?_ | refine brT ?_ | refine brF ?_
 | (refine brS ?_ ?_ <;> intro hc <;> (try simp only [bls] at hc) <;> (try simp only [hc, bls]))
 | intro _ | refine And.intro ?_ ?_)
    ·repeat' (first
 | refine gCt rfl ?_
 | ((first
 | ((first | refine gR fp39 ?_ | refine gD 9 11 ea fp39 ?_); intro K hK)
 | (refine ab ?_ ?_ <;> intro hb <;> (try simp only [bls] at hb) <;> (try simp only [hb]))
 | refine gRe [] [.tmp 2] rfl rfl ?_) <;> (try simp only [go_sem, simprocAttr, e4, e5, f4, f5, f6, hx, hy, hyx, Option.some.injEq, forall_eq']))
 | (refine hK _ _ ?_; clear hK K; simp only [go_sem, simprocAttr])
 | refine gCd ?_ | refine brT ?_ | refine brF ?_
 | (refine brS ?_ ?_ <;> intro hc <;> (try simp only [bls] at hc) <;> (try simp only [hc, bls]))
 | intro _ | refine And.intro ?_ ?_)
     all_goals try exact zsd
     refine ae.prune [0, 2, 3, 4] ?_; simp only [go_sem, simprocAttr]
     exact (ih2 ⟨by omega, hkn2 hyx⟩).cast rfl rfl
   ·have f4 : ¬ (k : Int) < i := by omega
    have hki2 : k = i := by omega
    subst hki2
    repeat' (first
 | refine gCt rfl ?_
 | ((first
 | ((first | refine gR fp39 ?_ | refine gD 9 11 ea fp39 ?_); intro K hK)
 | (refine ab ?_ ?_ <;> intro hb <;> (try simp only [bls] at hb) <;> (try simp only [hb]))
 | refine gRe [] [.tmp 2] rfl rfl ?_) <;> (try simp only [go_sem, simprocAttr, f4]))
 | (refine hK _ _ ?_; clear hK K; simp only [go_sem, simprocAttr])
 | refine gCd ?_ | refine brT ?_ | refine brF ?_
 | (refine brS ?_ ?_ <;> intro hc <;> (try simp only [bls] at hc) <;> (try simp only [hc, bls]))
 | intro _ | refine And.intro ?_ ?_)
    all_goals try exact zsd
    refine ae.prune [0, 2, 3] ?_; simp only [go_sem, simprocAttr]
    refine (ih ⟨by omega, ?_, ?_⟩).cast rfl rfl
    ·intro d hd'
     rw [ht] at hd'
     rcases List.mem_append.1 hd' with h | h
     ·exact ha d h
     ·simp only [List.mem_singleton] at h; subst h; exact ⟨h1, h2⟩
    ·rw [ht]
     refine List.pairwise_append.2 ⟨hdi, by simp, fun a ha' b hb => ?_⟩
     simp only [List.mem_singleton] at hb
     subst hb
     obtain ⟨j, hj⟩ := List.mem_iff_getElem?.1 ha'
     rw [List.getElem?_take] at hj
     split at hj
     ·rename_i hjk; exact hkn j a hjk hj
     ·cases hj
  ·have hS2 : S = false := by
    cases h : S with
    | false => rfl
    | true => exact absurd (hno h) hc
   subst hS2
   cases h1 : bl xn <;> rw [h1] at hn
   ·repeat' (first
 | refine gCt rfl ?_
 | ((first
 | ((first | refine gR fp39 ?_ | refine gD 9 11 ea fp39 ?_); intro K hK)
 | refine cAl (hn) rfl rfl rfl ?_
 | refine cAl (hr) rfl rfl rfl ?_
 | (refine ab ?_ ?_ <;> intro hb <;> (try simp only [bls] at hb) <;> (try simp only [hb]))
 | refine gRe [] [.tmp 2] rfl rfl ?_) <;> (try simp only [go_sem, simprocAttr, e4, e5, hx, Option.some.injEq, forall_eq']))
 | (refine hK _ _ ?_; clear hK K; simp only [go_sem, simprocAttr])
 | refine gCd ?_ | refine brT ?_ | refine brF ?_
 | (refine brS ?_ ?_ <;> intro hc <;> (try simp only [bls] at hc) <;> (try simp only [hc, bls]))
 | intro _ | refine And.intro ?_ ?_)
   ·have h2 : az xl = false := by simpa [h1] using hc
    rw [h2] at hr
    repeat' (first
 | refine gCt rfl ?_
 | ((first
 | ((first | refine gR fp39 ?_ | refine gD 9 11 ea fp39 ?_); intro K hK)
 | refine cAl (hn) rfl rfl rfl ?_
 | refine cAl (hr) rfl rfl rfl ?_
 | (refine ab ?_ ?_ <;> intro hb <;> (try simp only [bls] at hb) <;> (try simp only [hb]))
 | refine gRe [] [.tmp 2] rfl rfl ?_) <;> (try simp only [go_sem, simprocAttr, e4, e5, hx, Option.some.injEq, forall_eq']))
 | (refine hK _ _ ?_; clear hK K; simp only [go_sem, simprocAttr])
 | refine gCd ?_ | refine brT ?_ | refine brF ?_
 | (refine brS ?_ ?_ <;> intro hc <;> (try simp only [bls] at hc) <;> (try simp only [hc, bls]))
 | intro _ | refine And.intro ?_ ?_)
 ·have e4 : ¬ (i : Int) < ds.length := by omega
  rw [List.take_of_length_le (by omega)] at ha hdi
  have hS2 : S = true := hall.2 ⟨ha, hdi⟩
  subst hS2
  repeat' (first
 | refine gCt rfl ?_
 | ((first
 | ((first | refine gR fp39 ?_ | refine gD 9 11 ea fp39 ?_); intro K hK)
 | (refine ab ?_ ?_ <;> intro hb <;> (try simp only [bls] at hb) <;> (try simp only [hb]))
 | refine gRe [] [.tmp 2] rfl rfl ?_) <;> (try simp only [go_sem, simprocAttr, e4]))
 | (refine hK _ _ ?_; clear hK K; simp only [go_sem, simprocAttr])
 | refine gCd ?_ | refine brT ?_ | refine brF ?_
 | (refine brS ?_ ?_ <;> intro hc <;> (try simp only [bls] at hc) <;> (try simp only [hc, bls]))
 | intro _ | refine And.intro ?_ ?_)
end Go.Rad
namespace Go.Rad
open Go Go.Proofs
set_option linter.all false
set_option maxRecDepth 20000
set_option maxHeartbeats 4000000
theorem kV (q f q' f' : Bool) (l : List Node) (ds : List Df) (hlen : l.length ≤ maxLen) (hl : ∀ n ∈ l, n.name.size ≤ maxLen ∧ n.l.length ≤ maxLen) (hdl : ds.length ≤ 900000) (hd : ∀ d ∈ ds, ze d) :
  ah Tryz.prog 42 [.sl q f (nodes l), .sl true f' (defs ds)] [] fun r s => (∃ fl, r = .tup [.sl true fl (nodes (ay l ds).1), .int .i64 (ay l ds).2]) ∧ s = [] := by
 have hr := kr q f l fun n h => (hl n h).symm
 rw [← dE] at hr
 have hr2 := tf true f' ds (by omega) hd
 refine ah.enter Tryz.func42 rfl (by kernel_rfl) (Nat.le_of_ble_eq_true rfl) ?_; simp only [ai, Nat.reduceAdd]
 by_cases hok : az l = true ∧ bz [] ds = true
 ·obtain ⟨h1, h2⟩ := hok
  have htree := dp h1 (fun n h => (hl n h).1)
  obtain ⟨k1, k2⟩ := (jF ds []).1 h2
  have hds : ∀ d ∈ ds, az d.l = true ∧ ∀ n ∈ d.l, n.name.size ≤ maxLen := fun d h => ⟨(k1 d h).2.2, fun n hn => ((hd d h).2 n hn).1⟩
  obtain ⟨r1, r2, r3, r4⟩ := bH h1
  obtain ⟨rn, hr1, hr2'⟩ : ∃ n, l[l.length - 1]? = some n ∧ Kids l 0 n.l (l.length - 1) := by
   generalize hcc : (l.length : Int) - 1 = cc at r1
   cases r1 with
   | @cons _ kk _ nn _ q1 q2 q3 =>
    have : kk = l.length - 1 := by omega
    subst this; exact ⟨nn, q1, q2⟩
  have hwalk := fun g g1 g2 => JY ds f' hdl hds k2 (ds.length + 1) [] (Nat.lt_succ_of_le (List.length_filter_le _ _)) q f l htree r2 (l.length - 1) rn 0 hr1 hr2' [] [] rfl (by simp) g g1 g2
  rw [show l.length - 1 + 1 = l.length by omega, tw] at hwalk
  have hexp : ay l ds = if (goT (aP ds (ds.length + 1) []) l [] []).2.2 = 0 then ((goT (aP ds (ds.length + 1) []) l [] []).1, 0) else ([], (goT (aP ds (ds.length + 1) []) l [] []).2.2) := by
   rw [ay, if_pos ⟨h1, h2⟩]
  rw [qG] at hexp
  generalize goA (aP ds (ds.length + 1) []) l [] [] = R at hwalk hexp
  obtain ⟨RA, Ro, Re⟩ := R
  simp only at hwalk hexp
  have hbl : (opB ds []).length = ds.length := by simp
  have hb0 : opB ds [] = List.replicate ds.length false := Dl ds
  have f7 : ((l.length - 1 : Nat) : Int) = (l.length : Int) - 1 := by omega
  rw [f7] at hwalk
  have f8 : gS ((l.length : Int) - 1) := by unfold gS; omega
  simp only [lE, hbl, List.length_nil] at hwalk
  rw [h1] at hr
  rw [h2] at hr2
  rw [hexp]
  have hb1 : List.replicate ds.length [aa.bool false] = cJ (opB ds []) := by rw [hb0]; simp [cJ]
  have hb2 : List.map (List.map c8) (cJ (opB ds [])) = cJ (opB ds []) := by simp [cJ, c8]
  clear hexp k1 k2 hds r1 r2 htree hb0 hbl hr1 hr2'
  generalize opB ds [] = bs at hwalk hb1 hb2
  by_cases he : Re = 0
  ·subst he
   simp only [if_true]
   have e9 : ∀ o : List Node, (nodes o).take o.length = nodes o := fun o => List.take_of_length_le (by simp)
   repeat' (first
 | refine gCt rfl ?_
 | ((first
 | (refine ae.at 4 ?_; (refine ae.n0 20 2 901 9 (by decide) rfl rfl (by decide) ?_; intro g901; simp only [List.set_cons_succ, List.set_cons_zero, go_sem, simprocAttr]); refine gR fp42 ?_; intro K hK)
 | (refine ae.at 7 ?_; (refine ae.freeze 901 rfl ?_; simp only [rfT, rfS, rfO, rf, rf1, e9, xJ, true_and, Nat.le_refl, go_sem, simprocAttr]); refine gR fp42 ?_; intro K hK)
 | ((first | refine gR fp42 ?_ | refine gD 6 6 ro6 fp42 ?_); intro K hK)
 | refine cAl (hr) rfl rfl rfl ?_
 | refine cAl (hr2) rfl rfl rfl ?_
 | (refine ah.use [(1000, 20), (1001, 18), (1002, 901)] [] rfl (hwalk _ _ _) rfl rfl rfl ?_; rintro _ _ ⟨rfl, h1, rfl⟩; refine ⟨.inl rfl, rfl, ?_⟩; simp only [bk, bk2, bk1, bkS, bkO, bw, aH, go_sem, simprocAttr])
 | (refine ab ?_ ?_ <;> intro hb <;> (try simp only [bls] at hb) <;> (try simp only [hb]))
 | refine gRe [] [.tmp 4, .tmp 5] rfl rfl ?_) <;> (try simp only [go_sem, simprocAttr, f8, hb1, hb2]))
 | (refine hK _ _ ?_; clear hK K; simp only [go_sem, simprocAttr])
 | refine gCd ?_ | refine brT ?_ | refine brF ?_
 | (refine brS ?_ ?_ <;> intro hc <;> (try simp only [bls] at hc) <;> (try simp only [hc, bls]))
 | intro _ | refine And.intro ?_ ?_)
   all_goals try exact zsd
  ·simp only [if_neg he]
   repeat' (first
 | refine gCt rfl ?_
 | ((first
 | (refine ae.at 4 ?_; (refine ae.n0 20 2 901 9 (by decide) rfl rfl (by decide) ?_; intro g901; simp only [List.set_cons_succ, List.set_cons_zero, go_sem, simprocAttr]); refine gR fp42 ?_; intro K hK)
 | ((first | refine gR fp42 ?_ | refine gD 6 6 ro6 fp42 ?_); intro K hK)
 | refine cAl (hr) rfl rfl rfl ?_
 | refine cAl (hr2) rfl rfl rfl ?_
 | (refine ah.use [(1000, 20), (1001, 18), (1002, 901)] [] rfl (hwalk _ _ _) rfl rfl rfl ?_; rintro _ _ ⟨rfl, h1, rfl⟩; refine ⟨.inl rfl, rfl, ?_⟩; simp only [bk, bk2, bk1, bkS, bkO, bw, aH, go_sem, simprocAttr])
 | (refine ab ?_ ?_ <;> intro hb <;> (try simp only [bls] at hb) <;> (try simp only [hb]))
 | refine gRe [] [.tmp 4, .tmp 5] rfl rfl ?_) <;> (try simp only [go_sem, simprocAttr, f8, hb1, hb2, he]))
 | (refine hK _ _ ?_; clear hK K; simp only [go_sem, simprocAttr])
 | refine gCd ?_ | refine brT ?_ | refine brF ?_
 | (refine brS ?_ ?_ <;> intro hc <;> (try simp only [bls] at hc) <;> (try simp only [hc, bls]))
 | intro _ | refine And.intro ?_ ?_)
   all_goals try exact zsd
 ·have hexp : ay l ds = ([], 1) := by rw [ay, if_neg hok]
  rw [hexp]
  by_cases h1 : az l = true
  ·have h2 : bz [] ds = false := by simpa [h1] using hok
   rw [h1] at hr
   rw [h2] at hr2
   repeat' (first
 | refine gCt rfl ?_
 | ((first
 | ((first | refine gR fp42 ?_ | refine gD 6 6 ro6 fp42 ?_); intro K hK)
 | refine cAl (hr) rfl rfl rfl ?_
 | refine cAl (hr2) rfl rfl rfl ?_
 | (refine ab ?_ ?_ <;> intro hb <;> (try simp only [bls] at hb) <;> (try simp only [hb]))
 | refine gRe [] [.tmp 4, .tmp 5] rfl rfl ?_) <;> (try simp only [go_sem, simprocAttr]))
 | (refine hK _ _ ?_; clear hK K; simp only [go_sem, simprocAttr])
 | refine gCd ?_ | refine brT ?_ | refine brF ?_
 | (refine brS ?_ ?_ <;> intro hc <;> (try simp only [bls] at hc) <;> (try simp only [hc, bls]))
 | intro _ | refine And.intro ?_ ?_)
   all_goals try exact zsd
  ·rw [show az l = false from by simpa using h1] at hr
   repeat' (first
 | refine gCt rfl ?_
 | ((first
 | ((first | refine gR fp42 ?_ | refine gD 6 6 ro6 fp42 ?_); intro K hK)
 | refine cAl (hr) rfl rfl rfl ?_
 | refine cAl (hr2) rfl rfl rfl ?_
 | (refine ab ?_ ?_ <;> intro hb <;> (try simp only [bls] at hb) <;> (try simp only [hb]))
 | refine gRe [] [.tmp 4, .tmp 5] rfl rfl ?_) <;> (try simp only [go_sem, simprocAttr]))
 | (refine hK _ _ ?_; clear hK K; simp only [go_sem, simprocAttr])
 | refine gCd ?_ | refine brT ?_ | refine brF ?_
 | (refine brS ?_ ?_ <;> intro hc <;> (try simp only [bls] at hc) <;> (try simp only [hc, bls]))
 | intro _ | refine And.intro ?_ ?_)
   all_goals try exact zsd
end Go.Rad
