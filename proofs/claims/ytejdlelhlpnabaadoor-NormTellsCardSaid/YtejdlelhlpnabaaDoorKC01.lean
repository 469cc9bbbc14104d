/- Contracts: sets, byte by byte. -/
import Derived.Test.YtejdlelhlpnabaaDoorKC00
import Derived.Test.YtejdlelhlpnabaaDoorKRNode
set_option linter.all false
namespace Go.Rad
open Go Go.Proofs
set_option linter.all false
set_option maxRecDepth 20000
set_option maxHeartbeats 4000000

def hasI (s : ISet) (n : Nat) : Bool := decide (((s.word (n / 64)).fdiv (2 ^ (n % 64))).tmod 2 = 1)
theorem div64 {n k : Nat} {c : Int} {X : Prop} (h4 : n / 64 = k) (hk : (k : Int) = c) (h : (n : Int).tdiv 64 = c → (n : Int).tmod 64 = ((n % 64 : Nat) : Int) → min (n % 64) 64 = n % 64 → X) : X :=
  h ((tdiv_nat n 64).trans (by rw [h4]; exact hk)) (tmod_nat n 64) (by omega)
theorem has_c (s0 s1 s2 s3 : Int) (n : Nat) (h1 : n ≤ 255) : ACall Tryd.prog 48 [.agg [.int .u64 s0, .int .u64 s1, .int .u64 s2, .int .u64 s3], .int .u8 n] [] fun r s' => r = .bool (hasI ⟨s0, s1, s2, s3⟩ n) ∧ s' = [] := by
  have h4 : n / 64 = 0 ∨ n / 64 = 1 ∨ n / 64 = 2 ∨ n / 64 = 3 := by omega
  rcases h4 with h4 | h4 | h4 | h4
  all_goals
    (first | refine div64 (c := 0) h4 rfl fun hd hm hmin => ?_ | refine div64 (c := 1) h4 rfl fun hd hm hmin => ?_ | refine div64 (c := 2) h4 rfl fun hd hm hmin => ?_ | refine div64 (c := 3) h4 rfl fun hd hm hmin => ?_)
    simp only [hasI, h4, ISet.word]
    refine ACall.enter Tryd.func48 rfl (by kernel_rfl) (Nat.le_of_ble_eq_true rfl) ?_; simp only [initTm, Nat.reduceAdd]
    repeat' (first
  | refine gSq ?_ | refine gSk ?_ | refine gBl ?_ | refine gIb ?_ | refine gEx rfl ?_
  | ((first
  | (refine gRg [] [0, 1, 2, 4] ?_; intro K hK)
  | (refine gd_split ?_ ?_ <;> intro hb <;> (try simp only [bls] at hb) <;> (try simp only [hb]))
  | refine gRt [] [.tmp 4] rfl ?_ | refine gDn [] [.tmp 4] rfl ?_) <;> (try simp only [go_sem, simprocAttr, hd, hm, hmin, wr_u8, IntKind.bits, Int.toNat_natCast, Int.natCast_nonneg]))
  | (refine hK _ _ ?_; clear hK K; simp only [go_sem, simprocAttr])
  | refine gCd (by simp only [go_sem, simprocAttr]; rfl) rfl ?_
  | refine brT ?_ | refine brF ?_
  | (refine brS ?_ ?_ <;> intro hc <;> (try simp only [bls] at hc) <;> (try simp only [hc, bls]))
  | intro _ | refine And.intro ?_ ?_)
  all_goals exact ⟨rfl, rfl⟩

def withI (s : ISet) (n : Nat) : ISet := if hasI s n then s else s.set (n / 64) (IntKind.u64.wrap (s.word (n / 64) + IntKind.u64.wrap (1 * 2 ^ (n % 64))))
theorem with_c (s0 s1 s2 s3 : Int) (n : Nat) (h1 : n ≤ 255) : ACall Tryd.prog 49 [.agg [.int .u64 s0, .int .u64 s1, .int .u64 s2, .int .u64 s3], .int .u8 n] [] fun r s' => r = .agg (withI ⟨s0, s1, s2, s3⟩ n).cells ∧ s' = [] := by
  have h4 : n / 64 = 0 ∨ n / 64 = 1 ∨ n / 64 = 2 ∨ n / 64 = 3 := by omega
  rcases h4 with h4 | h4 | h4 | h4
  all_goals
    (first | refine div64 (c := 0) h4 rfl fun hd hm hmin => ?_ | refine div64 (c := 1) h4 rfl fun hd hm hmin => ?_ | refine div64 (c := 2) h4 rfl fun hd hm hmin => ?_ | refine div64 (c := 3) h4 rfl fun hd hm hmin => ?_)
    simp only [withI, h4, ISet.word]
    refine ACall.enter Tryd.func49 rfl (by kernel_rfl) (Nat.le_of_ble_eq_true rfl) ?_; simp only [initTm, Nat.reduceAdd]
    repeat' (first
  | refine gSq ?_ | refine gSk ?_ | refine gBl ?_ | refine gIb ?_ | refine gEx rfl ?_
  | ((first
  | (refine gRg [] [0, 1, 2, 4, 8] ?_; intro K hK)
  | refine cAl (has_c _ _ _ _ _ h1) rfl rfl rfl ?_
  | (refine gd_split ?_ ?_ <;> intro hb <;> (try simp only [bls] at hb) <;> (try simp only [hb]))
  | refine gRt [] [.cell 4 38] rfl ?_ | refine gDn [] [.cell 4 38] rfl ?_) <;> (try simp only [go_sem, simprocAttr, hd, hm, hmin, wr_u8, IntKind.bits, Int.toNat_natCast, Int.natCast_nonneg]))
  | (refine hK _ _ ?_; clear hK K; simp only [go_sem, simprocAttr])
  | refine gCd (by simp only [go_sem, simprocAttr]; rfl) rfl ?_
  | refine brT ?_ | refine brF ?_
  | (refine brS ?_ ?_ <;> intro hc <;> (try simp only [bls] at hc) <;> (try simp only [hc, bls]))
  | intro _ | refine And.intro ?_ ?_)
  all_goals first | (simp only [hc]; rfl) | (simp [hc]; done) | (simp [hc, ISet.set]; done)

abbrev bytesL (l : List Nat) : List (List AVal) := l.map fun (k : Nat) => [.int .u8 k]
theorem of_c (q f : Bool) (l : List Nat) (h : ∀ x ∈ l, x ≤ 255) (hl : l.length ≤ 1000000) : ACall Tryd.prog 65 [.sl q f (bytesL l)] [] fun r s' => r = .agg (l.foldl withI ISet.none).cells ∧ s' = [] := by
  refine ACall.enter Tryd.func65 rfl (by kernel_rfl) (Nat.le_of_ble_eq_true rfl) ?_; simp only [initTm, Nat.reduceAdd]
  repeat' (first
  | refine gSq ?_ | refine gSk ?_ | refine gBl ?_ | refine gIb ?_ | refine gEx rfl ?_
  | ((first
  | (refine gRg [] [0, 2, 3, 4, 9] ?_; intro K hK)
  | (refine gDr 5 [] 5 [0, 1, 2, 3, 4, 5, 6] [0, 2, 3, 4, 9] rfl ?_; intro K hK)
  | (refine gd_split ?_ ?_ <;> intro hb <;> (try simp only [bls] at hb) <;> (try simp only [hb]))
  | refine gRt [] [.cell 2 38] rfl ?_ | refine gDn [] [.cell 2 38] rfl ?_) <;> (try simp only [go_sem, simprocAttr]))
  | (refine hK _ _ ?_; clear hK K; simp only [go_sem, simprocAttr])
  | refine gCd (by simp only [go_sem, simprocAttr]; rfl) rfl ?_
  | refine brT ?_ | refine brF ?_
  | (refine brS ?_ ?_ <;> intro hc <;> (try simp only [bls] at hc) <;> (try simp only [hc, bls]))
  | intro _ | refine And.intro ?_ ?_)
  rename_i h2 h3
  refine AGood.prune [0, 2, 3, 4] ?_; simp only [go_sem, simprocAttr]
  refine AGood.loopInv (α := Nat) (fun i => ([(0, .sl q f (bytesL l)), (2, .bx 2 h2 0), (3, .bx 3 h3 0), (4, .int .i64 i)], [(2, h2, .box ISet.none.cells), (3, h3, .box ((l.take i).foldl withI ISet.none).cells)])) (fun i => i ≤ l.length) (fun i => l.length - i) 0 (Nat.zero_le _) rfl ?_
  intro i hi ih
  simp only
  generalize hs : (l.take i).foldl withI ISet.none = s
  obtain ⟨s0, s1, s2, s3⟩ := s
  repeat' (first
  | refine gSq ?_ | refine gSk ?_ | refine gBl ?_ | refine gIb ?_ | refine gEx rfl ?_
  | ((first
  | (refine gRg [] [0, 2, 3, 4, 9] ?_; intro K hK)
  | (refine gDr 5 [] 5 [0, 1, 2, 3, 4, 5, 6] [0, 2, 3, 4, 9] rfl ?_; intro K hK)
  | refine cAl (with_c _ _ _ _ _ (h _ (List.mem_of_getElem? (by assumption)))) rfl rfl rfl ?_
  | (refine gd_split ?_ ?_ <;> intro hb <;> (try simp only [bls] at hb) <;> (try simp only [hb]))
  | refine gRt [] [.cell 2 38] rfl ?_ | refine gDn [] [.cell 2 38] rfl ?_) <;> (try simp only [go_sem, simprocAttr]))
  | (refine hK _ _ ?_; clear hK K; simp only [go_sem, simprocAttr])
  | refine gCd (by simp only [go_sem, simprocAttr]; rfl) rfl ?_
  | refine brT ?_ | refine brF ?_
  | (refine brS ?_ ?_ <;> intro hc <;> (try simp only [bls] at hc) <;> (try simp only [hc, bls]))
  | intro _ | refine And.intro ?_ ?_)
  all_goals try simp only [decide_eq_true_eq, decide_eq_false_iff_not] at hc
  · exact hc
  · omega
  · omega
  · rename_i k hk
    refine AGood.prune [0, 2, 3, 4] ?_; simp only [go_sem, simprocAttr]
    exact (ih (i + 1) (by omega) (by omega)).cast rfl (by rw [take_one hk, List.foldl_append, hs]; rfl)
  · rw [List.take_of_length_le (by omega)] at hs
    rw [hs]

/-- The bytes from one to another. -/
def rangeI (lo hi : Nat) : ISet := (List.range (hi + 1 - lo)).foldl (fun s i => withI s (lo + i)) ISet.none
theorem range_c (lo hi : Nat) (h : hi ≤ 255) (h' : lo ≤ 255) : ACall Tryd.prog 72 [.int .u8 lo, .int .u8 hi] [] fun r s' => r = .agg (rangeI lo hi).cells ∧ s' = [] := by
  have e1 := wr_i64n (n := lo) (by omega)
  have e2 := wr_i64n (n := hi) (by omega)
  refine ACall.enter Tryd.func72 rfl (by kernel_rfl) (Nat.le_of_ble_eq_true rfl) ?_; simp only [initTm, Nat.reduceAdd]
  repeat' (first
  | refine gSq ?_ | refine gSk ?_ | refine gBl ?_ | refine gIb ?_ | refine gEx rfl ?_
  | ((first
  | (refine gRg [] [0, 1, 4, 5, 6, 13] ?_; intro K hK)
  | (refine gd_split ?_ ?_ <;> intro hb <;> (try simp only [bls] at hb) <;> (try simp only [hb]))
  | refine gRt [] [.cell 4 38] rfl ?_ | refine gDn [] [.cell 4 38] rfl ?_) <;> (try simp only [go_sem, simprocAttr, e1, e2]))
  | (refine hK _ _ ?_; clear hK K; simp only [go_sem, simprocAttr])
  | refine gCd (by simp only [go_sem, simprocAttr]; rfl) rfl ?_
  | refine brT ?_ | refine brF ?_
  | (refine brS ?_ ?_ <;> intro hc <;> (try simp only [bls] at hc) <;> (try simp only [hc, bls]))
  | intro _ | refine And.intro ?_ ?_)
  rename_i h4 h5
  refine AGood.prune [0, 1, 4, 5, 6] ?_; simp only [go_sem, simprocAttr]
  refine AGood.loopInv (α := Nat) (fun i => ([(0, .int .u8 lo), (1, .int .u8 hi), (4, .bx 4 h4 0), (5, .bx 5 h5 0), (6, .int .i64 (lo + i : Nat))], [(4, h4, .box ISet.none.cells), (5, h5, .box ((List.range i).foldl (fun s i => withI s (lo + i)) ISet.none).cells)])) (fun i => i ≤ hi + 1 - lo) (fun i => hi + 1 - lo - i) 0 (Nat.zero_le _) rfl ?_
  intro i hi' ih
  simp only
  generalize hs : (List.range i).foldl (fun s i => withI s (lo + i)) ISet.none = s
  obtain ⟨s0, s1, s2, s3⟩ := s
  by_cases hle : lo + i ≤ hi
  · have e3 := wr_u8n (n := lo + i) (by omega)
    have e4 : ((lo + i : Nat) : Int) ≤ (hi : Int) := by omega
    repeat' (first
  | refine gSq ?_ | refine gSk ?_ | refine gBl ?_ | refine gIb ?_ | refine gEx rfl ?_
  | ((first
  | (refine gRg [] [0, 1, 4, 5, 6, 13] ?_; intro K hK)
  | refine cAl (with_c _ _ _ _ (lo + i) (by omega)) rfl rfl rfl ?_
  | (refine gd_split ?_ ?_ <;> intro hb <;> (try simp only [bls] at hb) <;> (try simp only [hb]))
  | refine gRt [] [.cell 4 38] rfl ?_ | refine gDn [] [.cell 4 38] rfl ?_) <;> (try simp only [go_sem, simprocAttr, e1, e2, e3, e4]))
  | (refine hK _ _ ?_; clear hK K; simp only [go_sem, simprocAttr])
  | refine gCd (by simp only [go_sem, simprocAttr]; rfl) rfl ?_
  | refine brT ?_ | refine brF ?_
  | (refine brS ?_ ?_ <;> intro hc <;> (try simp only [bls] at hc) <;> (try simp only [hc, bls]))
  | intro _ | refine And.intro ?_ ?_)
    · omega
    · omega
    · refine AGood.prune [0, 1, 4, 5, 6] ?_; simp only [go_sem, simprocAttr]
      exact (ih (i + 1) (by omega) (by omega)).cast rfl (by rw [List.range_succ, List.foldl_append, hs]; rfl)
  · have e4 : ¬ ((lo + i : Nat) : Int) ≤ (hi : Int) := by omega
    have e5 : i = hi + 1 - lo := by omega
    subst e5
    repeat' (first
  | refine gSq ?_ | refine gSk ?_ | refine gBl ?_ | refine gIb ?_ | refine gEx rfl ?_
  | ((first
  | (refine gRg [] [0, 1, 4, 5, 6, 13] ?_; intro K hK)
  | (refine gd_split ?_ ?_ <;> intro hb <;> (try simp only [bls] at hb) <;> (try simp only [hb]))
  | refine gRt [] [.cell 4 38] rfl ?_ | refine gDn [] [.cell 4 38] rfl ?_) <;> (try simp only [go_sem, simprocAttr, e1, e2, e4]))
  | (refine hK _ _ ?_; clear hK K; simp only [go_sem, simprocAttr])
  | refine gCd (by simp only [go_sem, simprocAttr]; rfl) rfl ?_
  | refine brT ?_ | refine brF ?_
  | (refine brS ?_ ?_ <;> intro hc <;> (try simp only [bls] at hc) <;> (try simp only [hc, bls]))
  | intro _ | refine And.intro ?_ ?_)
    simp only [rangeI, hs]

def notI (x : ISet) : ISet := (List.range 256).foldl (fun s b => if hasI x b then s else withI s b) ISet.none
theorem not_c (x0 x1 x2 x3 : Int) : ACall Tryd.prog 64 [.agg [.int .u64 x0, .int .u64 x1, .int .u64 x2, .int .u64 x3]] [] fun r s' => r = .agg (notI ⟨x0, x1, x2, x3⟩).cells ∧ s' = [] := by
  refine ACall.enter Tryd.func64 rfl (by kernel_rfl) (Nat.le_of_ble_eq_true rfl) ?_; simp only [initTm, Nat.reduceAdd]
  repeat' (first
  | refine gSq ?_ | refine gSk ?_ | refine gBl ?_ | refine gIb ?_ | refine gEx rfl ?_
  | ((first
  | (refine gRg [] [0, 1, 2, 3, 4, 7, 14] ?_; intro K hK)
  | (refine gd_split ?_ ?_ <;> intro hb <;> (try simp only [bls] at hb) <;> (try simp only [hb]))
  | refine gRt [] [.cell 2 38] rfl ?_ | refine gDn [] [.cell 2 38] rfl ?_) <;> (try simp only [go_sem, simprocAttr]))
  | (refine hK _ _ ?_; clear hK K; simp only [go_sem, simprocAttr])
  | refine gCd (by simp only [go_sem, simprocAttr]; rfl) rfl ?_
  | refine brT ?_ | refine brF ?_
  | (refine brS ?_ ?_ <;> intro hc <;> (try simp only [bls] at hc) <;> (try simp only [hc, bls]))
  | intro _ | refine And.intro ?_ ?_)
  rename_i h1 h2 h3
  refine AGood.prune [0, 1, 2, 3, 4] ?_; simp only [go_sem, simprocAttr]
  refine AGood.loopInv (α := Nat) (fun i => ([(0, .agg [.int .u64 x0, .int .u64 x1, .int .u64 x2, .int .u64 x3]), (1, .bx 1 h1 0), (2, .bx 2 h2 0), (3, .bx 3 h3 0), (4, .int .i64 i)], [(1, h1, .box [.int .u64 x0, .int .u64 x1, .int .u64 x2, .int .u64 x3]), (2, h2, .box ISet.none.cells), (3, h3, .box ((List.range i).foldl (fun s b => if hasI ⟨x0, x1, x2, x3⟩ b then s else withI s b) ISet.none).cells)])) (fun i => i ≤ 256) (fun i => 256 - i) 0 (Nat.zero_le _) rfl ?_
  intro i hi ih
  simp only
  generalize hs : (List.range i).foldl (fun s b => if hasI ⟨x0, x1, x2, x3⟩ b then s else withI s b) ISet.none = s
  obtain ⟨s0, s1, s2, s3⟩ := s
  by_cases hle : i < 256
  · have e3 := wr_u8n (n := i) (by omega)
    have e4 : (i : Int) < 256 := by omega
    have ih := ih (i + 1) (by omega) (by omega)
    rw [List.range_succ, List.foldl_append, hs] at ih
    cases hh : hasI ⟨x0, x1, x2, x3⟩ i
    all_goals
      repeat' (first
  | refine gSq ?_ | refine gSk ?_ | refine gBl ?_ | refine gIb ?_ | refine gEx rfl ?_
  | ((first
  | (refine gRg [] [0, 1, 2, 3, 4, 7, 14] ?_; intro K hK)
  | refine cAl (with_c _ _ _ _ i (by omega)) rfl rfl rfl ?_
  | refine cAl (has_c _ _ _ _ i (by omega)) rfl rfl rfl ?_
  | (refine gd_split ?_ ?_ <;> intro hb <;> (try simp only [bls] at hb) <;> (try simp only [hb]))
  | refine gRt [] [.cell 2 38] rfl ?_ | refine gDn [] [.cell 2 38] rfl ?_) <;> (try simp only [go_sem, simprocAttr, e3, e4, hh]))
  | (refine hK _ _ ?_; clear hK K; simp only [go_sem, simprocAttr])
  | refine gCd (by simp only [go_sem, simprocAttr]; rfl) rfl ?_
  | refine brT ?_ | refine brF ?_
  | (refine brS ?_ ?_ <;> intro hc <;> (try simp only [bls] at hc) <;> (try simp only [hc, bls]))
  | intro _ | refine And.intro ?_ ?_)
    all_goals first | omega | skip
    all_goals
      refine AGood.prune [0, 1, 2, 3, 4] ?_; simp only [go_sem, simprocAttr]
      exact ih.cast rfl (by simp [hh])
  · have e4 : ¬ (i : Int) < 256 := by omega
    have e5 : i = 256 := by omega
    subst e5
    repeat' (first
  | refine gSq ?_ | refine gSk ?_ | refine gBl ?_ | refine gIb ?_ | refine gEx rfl ?_
  | ((first
  | (refine gRg [] [0, 1, 2, 3, 4, 7, 14] ?_; intro K hK)
  | (refine gd_split ?_ ?_ <;> intro hb <;> (try simp only [bls] at hb) <;> (try simp only [hb]))
  | refine gRt [] [.cell 2 38] rfl ?_ | refine gDn [] [.cell 2 38] rfl ?_) <;> (try simp only [go_sem, simprocAttr, e4]))
  | (refine hK _ _ ?_; clear hK K; simp only [go_sem, simprocAttr])
  | refine gCd (by simp only [go_sem, simprocAttr]; rfl) rfl ?_
  | refine brT ?_ | refine brF ?_
  | (refine brS ?_ ?_ <;> intro hc <;> (try simp only [bls] at hc) <;> (try simp only [hc, bls]))
  | intro _ | refine And.intro ?_ ?_)
    simp only [notI, hs]

def orI (l : List ISet) : ISet := (List.range 256).foldl (fun s b => l.foldl (fun s x => if hasI x b then withI s b else s) s) ISet.none
abbrev sets (l : List ISet) : List (List AVal) := l.map ISet.cells
theorem or_c (q f : Bool) (l : List ISet) (hl : l.length ≤ 1000000) : ACall Tryd.prog 73 [.sl q f (sets l)] [] fun r s' => r = .agg (orI l).cells ∧ s' = [] := by
  refine ACall.enter Tryd.func73 rfl (by kernel_rfl) (Nat.le_of_ble_eq_true rfl) ?_; simp only [initTm, Nat.reduceAdd]
  repeat' (first
  | refine gSq ?_ | refine gSk ?_ | refine gBl ?_ | refine gIb ?_ | refine gEx rfl ?_
  | ((first
  | (refine gRg [] [0, 2, 3, 4, 5, 8, 14, 23] ?_; intro K hK)
  | (refine gd_split ?_ ?_ <;> intro hb <;> (try simp only [bls] at hb) <;> (try simp only [hb]))
  | refine gRt [] [.cell 2 38] rfl ?_ | refine gDn [] [.cell 2 38] rfl ?_) <;> (try simp only [go_sem, simprocAttr]))
  | (refine hK _ _ ?_; clear hK K; simp only [go_sem, simprocAttr])
  | refine gCd (by simp only [go_sem, simprocAttr]; rfl) rfl ?_
  | refine brT ?_ | refine brF ?_
  | (refine brS ?_ ?_ <;> intro hc <;> (try simp only [bls] at hc) <;> (try simp only [hc, bls]))
  | intro _ | refine And.intro ?_ ?_)
  rename_i h2 h3
  refine AGood.prune [0, 2, 3, 4] ?_; simp only [go_sem, simprocAttr]
  refine AGood.loopInv (α := Nat) (fun b => ([(0, .sl q f (sets l)), (2, .bx 2 h2 0), (3, .bx 3 h3 0), (4, .int .i64 b)], [(2, h2, .box ISet.none.cells), (3, h3, .box ((List.range b).foldl (fun s b => l.foldl (fun s x => if hasI x b then withI s b else s) s) ISet.none).cells)])) (fun b => b ≤ 256) (fun b => 256 - b) 0 (Nat.zero_le _) rfl ?_
  intro b hb ih
  simp only
  generalize hs : (List.range b).foldl (fun s b => l.foldl (fun s x => if hasI x b then withI s b else s) s) ISet.none = s
  obtain ⟨s0, s1, s2, s3⟩ := s
  by_cases hle : b < 256
  · have e4 : (b : Int) < 256 := by omega
    have e3 := wr_u8n (n := b) (by omega)
    have ih := ih (b + 1) (by omega) (by omega)
    rw [List.range_succ, List.foldl_append, hs] at ih
    repeat' (first
  | refine gSq ?_ | refine gSk ?_ | refine gBl ?_ | refine gIb ?_ | refine gEx rfl ?_
  | ((first
  | (refine gRg [] [0, 2, 3, 4, 5, 8, 14, 23] ?_; intro K hK)
  | (refine gd_split ?_ ?_ <;> intro hb <;> (try simp only [bls] at hb) <;> (try simp only [hb]))
  | refine gRt [] [.cell 2 38] rfl ?_ | refine gDn [] [.cell 2 38] rfl ?_) <;> (try simp only [go_sem, simprocAttr, e4]))
  | (refine hK _ _ ?_; clear hK K; simp only [go_sem, simprocAttr])
  | refine gCd (by simp only [go_sem, simprocAttr]; rfl) rfl ?_
  | refine brT ?_ | refine brF ?_
  | (refine brS ?_ ?_ <;> intro hc <;> (try simp only [bls] at hc) <;> (try simp only [hc, bls]))
  | intro _ | refine And.intro ?_ ?_)
    refine AGood.prune [0, 2, 3, 4, 5] ?_; simp only [go_sem, simprocAttr]
    refine AGood.loopInv (α := Nat) (fun i => ([(0, .sl q f (sets l)), (2, .bx 2 h2 0), (3, .bx 3 h3 0), (4, .int .i64 b), (5, .int .i64 i)], [(2, h2, .box ISet.none.cells), (3, h3, .box ((l.take i).foldl (fun s x => if hasI x b then withI s b else s) ⟨s0, s1, s2, s3⟩).cells)])) (fun i => i ≤ l.length) (fun i => l.length - i) 0 (Nat.zero_le _) rfl ?_
    intro i hi ih2
    simp only
    generalize ht : (l.take i).foldl (fun s x => if hasI x b then withI s b else s) ⟨s0, s1, s2, s3⟩ = t
    obtain ⟨t0, t1, t2, t3⟩ := t
    by_cases hil : i < l.length
    · have e5 : (i : Int) < l.length := by omega
      have ih2 := ih2 (i + 1) (by omega) (by omega)
      have hk : l[i]? = some l[i] := List.getElem?_eq_getElem hil
      rw [take_one hk, List.foldl_append, ht] at ih2
      generalize l[i] = x at hk ih2
      obtain ⟨x0, x1, x2, x3⟩ := x
      cases hh : hasI ⟨x0, x1, x2, x3⟩ b
      all_goals
        repeat' (first
  | refine gSq ?_ | refine gSk ?_ | refine gBl ?_ | refine gIb ?_ | refine gEx rfl ?_
  | ((first
  | (refine gRg [] [0, 2, 3, 4, 5, 8, 14, 23] ?_; intro K hK)
  | refine cAl (has_c _ _ _ _ b (by omega)) rfl rfl rfl ?_
  | refine cAl (with_c _ _ _ _ b (by omega)) rfl rfl rfl ?_
  | (refine gd_split ?_ ?_ <;> intro hb <;> (try simp only [bls] at hb) <;> (try simp only [hb]))
  | refine gRt [] [.cell 2 38] rfl ?_ | refine gDn [] [.cell 2 38] rfl ?_) <;> (try simp only [go_sem, simprocAttr, e3, e4, e5, hk, hh, Option.some.injEq, forall_eq']))
  | (refine hK _ _ ?_; clear hK K; simp only [go_sem, simprocAttr])
  | refine gCd (by simp only [go_sem, simprocAttr]; rfl) rfl ?_
  | refine brT ?_ | refine brF ?_
  | (refine brS ?_ ?_ <;> intro hc <;> (try simp only [bls] at hc) <;> (try simp only [hc, bls]))
  | intro _ | refine And.intro ?_ ?_)
      all_goals first | omega | skip
      all_goals
        refine AGood.prune [0, 2, 3, 4, 5] ?_; simp only [go_sem, simprocAttr]
        exact ih2.cast rfl (by simp [hh])
    · have e5 : ¬ (i : Int) < l.length := by omega
      rw [List.take_of_length_le (by omega)] at ht
      repeat' (first
  | refine gSq ?_ | refine gSk ?_ | refine gBl ?_ | refine gIb ?_ | refine gEx rfl ?_
  | ((first
  | (refine gRg [] [0, 2, 3, 4, 5, 8, 14, 23] ?_; intro K hK)
  | (refine gd_split ?_ ?_ <;> intro hb <;> (try simp only [bls] at hb) <;> (try simp only [hb]))
  | refine gRt [] [.cell 2 38] rfl ?_ | refine gDn [] [.cell 2 38] rfl ?_) <;> (try simp only [go_sem, simprocAttr, e5]))
  | (refine hK _ _ ?_; clear hK K; simp only [go_sem, simprocAttr])
  | refine gCd (by simp only [go_sem, simprocAttr]; rfl) rfl ?_
  | refine brT ?_ | refine brF ?_
  | (refine brS ?_ ?_ <;> intro hc <;> (try simp only [bls] at hc) <;> (try simp only [hc, bls]))
  | intro _ | refine And.intro ?_ ?_)
      all_goals first | omega | skip
      refine AGood.prune [0, 2, 3, 4] ?_; simp only [go_sem, simprocAttr]
      exact ih.cast rfl (by simp [ht])
  · have e4 : ¬ (b : Int) < 256 := by omega
    have e5 : b = 256 := by omega
    subst e5
    repeat' (first
  | refine gSq ?_ | refine gSk ?_ | refine gBl ?_ | refine gIb ?_ | refine gEx rfl ?_
  | ((first
  | (refine gRg [] [0, 2, 3, 4, 5, 8, 14, 23] ?_; intro K hK)
  | (refine gd_split ?_ ?_ <;> intro hb <;> (try simp only [bls] at hb) <;> (try simp only [hb]))
  | refine gRt [] [.cell 2 38] rfl ?_ | refine gDn [] [.cell 2 38] rfl ?_) <;> (try simp only [go_sem, simprocAttr, e4]))
  | (refine hK _ _ ?_; clear hK K; simp only [go_sem, simprocAttr])
  | refine gCd (by simp only [go_sem, simprocAttr]; rfl) rfl ?_
  | refine brT ?_ | refine brF ?_
  | (refine brS ?_ ?_ <;> intro hc <;> (try simp only [bls] at hc) <;> (try simp only [hc, bls]))
  | intro _ | refine And.intro ?_ ?_)
    simp only [orI, hs]
end Go.Rad
