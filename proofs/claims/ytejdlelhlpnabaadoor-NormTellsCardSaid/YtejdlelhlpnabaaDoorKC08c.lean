/- Contracts: whether a tree may be nothing, as the document asks it. -/
import Derived.Test.YtejdlelhlpnabaaDoorKC04c
import Derived.Test.YtejdlelhlpnabaaDoorKC07a
set_option linter.all false
namespace Go.Rad
open Go Go.Proofs
set_option linter.all false
set_option maxRecDepth 20000
set_option maxHeartbeats 4000000

theorem mays_pre (l : List Node) (i : Nat) : ∃ r, mays l = mays (l.take i) ++ r := by
  have h : ∀ (l : List Node) (bs : List Bool), ∃ r, l.foldl (fun bs n => bs ++ [mayStep bs n]) bs = bs ++ r := by
    intro l
    induction l with
    | nil => intro bs; exact ⟨[], by simp⟩
    | cons n l ih =>
      intro bs
      obtain ⟨r, hr⟩ := ih (bs ++ [mayStep bs n])
      exact ⟨mayStep bs n :: r, by rw [List.foldl_cons, hr]; simp⟩
  obtain ⟨r, hr⟩ := h (l.drop i) (mays (l.take i))
  refine ⟨r, ?_⟩
  conv => lhs; rw [← List.take_append_drop i l, mays, List.foldl_append]
  exact hr
theorem mays_at {l : List Node} {i : Nat} {n : Node} (hx : l[i]? = some n) (hk : ∀ k ∈ n.l, 0 ≤ k ∧ k < (i : Int)) (h5 : n.op = 5 → n.l ≠ []) : (mays l).getD i false = mayStep (mays l) n := by
  have hi := (List.getElem?_eq_some_iff.1 hx).1
  obtain ⟨r, hr⟩ := mays_pre l i
  obtain ⟨r2, hr2⟩ := mays_pre l (i + 1)
  have hm : (mays (l.take i)).length = i := by rw [mays_len, List.length_take]; omega
  have e : mayStep (mays l) n = mayStep (mays (l.take i)) n := by
    refine mayStep_ext (fun k hk' => ?_) h5
    have := hk k hk'
    rw [hr]
    simp [List.getD, List.getElem?_append_left (show k.toNat < (mays (l.take i)).length by omega)]
  rw [e, hr2, take_one hx, mays_snoc]
  simp [List.getD, hm]
theorem nullR_c (q f : Bool) (l : List Node) (htree : treeOk l) (hall : l.all shapeOk = true) : ∀ (i : Nat), i < l.length → ACall Tryd.prog 30 [.sl q f (nodes l), .int .i64 i] [] fun r s => r = .bool ((mays l).getD i false) ∧ s = [] := by
  intro i
  induction i using Nat.strongRecOn with
  | ind i ih =>
    intro hi
    have ih := fun k hk => ih k hk (by omega)
    have e4 : (i : Int) < l.length := by omega
    have e5 : (0 : Int) ≤ i := by omega
    have hx : l[i]? = some l[i] := List.getElem?_eq_getElem hi
    obtain ⟨-, hn1, hk⟩ := htree.2 i _ hx
    obtain ⟨hops, hop5⟩ := shape_kids (List.all_eq_true.1 hall _ (List.getElem_mem hi))
    have hat := mays_at hx hk (fun e h => by rw [h] at hop5; simpa using hop5 e)
    generalize l[i] = n at hx hn1 hk hops hop5 hat
    rw [hat]
    obtain ⟨M, hM⟩ : ∃ M : Int → Bool, M = fun k => (mays l).getD k.toNat false := ⟨_, rfl⟩
    have hMs : mayStep (mays l) n = if n.op = 1 then true else if n.op = 3 then !(n.l.any fun k => !(M k)) else if n.op = 4 then n.l.any M else if n.op = 5 then (if n.lo = 0 then true else M (n.l.headD 0)) else false := by rw [hM]; rfl
    rw [hMs]
    have ih : ∀ (k : Int), 0 ≤ k → k < i → ACall Tryd.prog 30 [.sl q f (nodes l), .int .i64 k] [] fun r s => r = .bool (M k) ∧ s = [] := by
      intro k h1 h2
      obtain ⟨m, rfl⟩ : ∃ m : Nat, k = m := ⟨k.toNat, by omega⟩
      have := ih m (by omega)
      rw [hM]; exact this
    clear hM hMs hat
    obtain ⟨xo, ⟨xa, xb, xc, xd⟩, xl, xlo, xhi, xn⟩ := n
    simp only at hn1 hk hops hop5 ⊢
    refine ACall.enter Tryd.func30 rfl (by kernel_rfl) (Nat.le_of_ble_eq_true rfl) ?_; simp only [initTm, Nat.reduceAdd]
    by_cases h1 : xo = 1
    · subst h1
      simp only [if_true]
      repeat' (first
  | refine gSq ?_ | refine gSk ?_ | refine gBl ?_ | refine gIb ?_ | refine gEx rfl ?_
  | ((first
  | (refine gRg [] [0, 1, 4, 5, 6, 7, 13, 14, 16, 22, 32, 33, 39, 48, 49] ?_; intro K hK)
  | (refine gd_split ?_ ?_ <;> intro hb <;> (try simp only [bls] at hb) <;> (try simp only [hb]))
  | refine gRt [] [.tmp 4] rfl ?_ | refine gDn [] [.tmp 4] rfl ?_) <;> (try simp only [go_sem, simprocAttr, e4, e5, hx, Option.some.injEq, forall_eq']))
  | (refine hK _ _ ?_; clear hK K; simp only [go_sem, simprocAttr])
  | refine gCd (by simp only [go_sem, simprocAttr]; rfl) rfl ?_
  | refine brT ?_ | refine brF ?_
  | (refine brS ?_ ?_ <;> intro hc <;> (try simp only [bls] at hc) <;> (try simp only [hc, bls]))
  | intro _ | refine And.intro ?_ ?_)
    by_cases h3 : xo = 3
    · subst h3
      simp only [h1, if_true, if_false]
      repeat' (first
  | refine gSq ?_ | refine gSk ?_ | refine gBl ?_ | refine gIb ?_ | refine gEx rfl ?_
  | ((first
  | (refine gRg [] [0, 1, 4, 5, 6, 7, 13, 14, 16, 22, 32, 33, 39, 48, 49] ?_; intro K hK)
  | (refine gd_split ?_ ?_ <;> intro hb <;> (try simp only [bls] at hb) <;> (try simp only [hb]))
  | refine gRt [] [.tmp 4] rfl ?_ | refine gDn [] [.tmp 4] rfl ?_) <;> (try simp only [go_sem, simprocAttr, e4, e5, hx, Option.some.injEq, forall_eq']))
  | (refine hK _ _ ?_; clear hK K; simp only [go_sem, simprocAttr])
  | refine gCd (by simp only [go_sem, simprocAttr]; rfl) rfl ?_
  | refine brT ?_ | refine brF ?_
  | (refine brS ?_ ?_ <;> intro hc <;> (try simp only [bls] at hc) <;> (try simp only [hc, bls]))
  | intro _ | refine And.intro ?_ ?_)
      rename_i g5
      clear h1
      refine AGood.prune [0, 4, 5, 6] ?_; simp only [go_sem, simprocAttr]
      refine AGood.loopInv (α := Nat) (fun j => ([(0, .sl q f (nodes l)), (4, .bool false), (5, .bx 5 g5 0), (6, .int .i64 j)], [(5, g5, .box [.int .u8 3, .int .u64 xa, .int .u64 xb, .int .u64 xc, .int .u64 xd, .sl true false (ints xl), .int .i64 xlo, .int .i64 xhi, .str xn])])) (fun j => j ≤ xl.length ∧ ∀ k ∈ xl.take j, M k = true) (fun j => xl.length - j) 0 ⟨Nat.zero_le _, by simp⟩ rfl ?_
      rintro j ⟨hj, hjm⟩ ih2
      simp only
      by_cases hle : j < xl.length
      · have f4 : (j : Int) < xl.length := by omega
        have f5 : (0 : Int) ≤ j := by omega
        have hxk : xl[j]? = some xl[j] := List.getElem?_eq_getElem hle
        have hmem := List.getElem_mem hle
        have hkk := hk _ hmem
        have ht := take_one hxk
        have hcall := ih _ hkk.1 hkk.2
        generalize xl[j] = k at hxk hmem hkk ht hcall
        by_cases hM : M k = true
        · rw [hM] at hcall
          repeat' (first
  | refine gSq ?_ | refine gSk ?_ | refine gBl ?_ | refine gIb ?_ | refine gEx rfl ?_
  | ((first
  | (refine gRg [] [0, 1, 4, 5, 6, 7, 13, 14, 16, 22, 32, 33, 39, 48, 49] ?_; intro K hK)
  | refine cAl (hcall) rfl rfl rfl ?_
  | (refine gd_split ?_ ?_ <;> intro hb <;> (try simp only [bls] at hb) <;> (try simp only [hb]))
  | refine gRt [] [.tmp 4] rfl ?_ | refine gDn [] [.tmp 4] rfl ?_) <;> (try simp only [go_sem, simprocAttr, f4, f5, hxk, Option.some.injEq, forall_eq']))
  | (refine hK _ _ ?_; clear hK K; simp only [go_sem, simprocAttr])
  | refine gCd (by simp only [go_sem, simprocAttr]; rfl) rfl ?_
  | refine brT ?_ | refine brF ?_
  | (refine brS ?_ ?_ <;> intro hc <;> (try simp only [bls] at hc) <;> (try simp only [hc, bls]))
  | intro _ | refine And.intro ?_ ?_)
          all_goals first | omega | (unfold bigLen; omega) | exact ⟨_, _, ⟨rfl, rfl⟩, rfl⟩ | exact ⟨_, rfl⟩ | (rename_i hy; simp only [List.mem_singleton] at hy; subst hy; rfl) | skip
          refine AGood.prune [0, 4, 5, 6] ?_; simp only [go_sem, simprocAttr]
          refine (ih2 (j + 1) ⟨by omega, fun k' hk' => ?_⟩ (by omega)).cast rfl rfl
          rw [ht] at hk'
          rcases List.mem_append.1 hk' with h | h
          · exact hjm k' h
          · simp only [List.mem_singleton] at h; subst h; exact hM
        · have hM2 : M k = !true := by cases h : M k <;> simp [h] at hM ⊢
          rw [hM2] at hcall
          have hany : xl.any (fun k => !M k) = true := List.any_eq_true.2 ⟨k, hmem, by simp [hM2]⟩
          rw [hany]
          repeat' (first
  | refine gSq ?_ | refine gSk ?_ | refine gBl ?_ | refine gIb ?_ | refine gEx rfl ?_
  | ((first
  | (refine gRg [] [0, 1, 4, 5, 6, 7, 13, 14, 16, 22, 32, 33, 39, 48, 49] ?_; intro K hK)
  | refine cAl (hcall) rfl rfl rfl ?_
  | (refine gd_split ?_ ?_ <;> intro hb <;> (try simp only [bls] at hb) <;> (try simp only [hb]))
  | refine gRt [] [.tmp 4] rfl ?_ | refine gDn [] [.tmp 4] rfl ?_) <;> (try simp only [go_sem, simprocAttr, f4, f5, hxk, Option.some.injEq, forall_eq']))
  | (refine hK _ _ ?_; clear hK K; simp only [go_sem, simprocAttr])
  | refine gCd (by simp only [go_sem, simprocAttr]; rfl) rfl ?_
  | refine brT ?_ | refine brF ?_
  | (refine brS ?_ ?_ <;> intro hc <;> (try simp only [bls] at hc) <;> (try simp only [hc, bls]))
  | intro _ | refine And.intro ?_ ?_)
      · have f4 : ¬ (j : Int) < xl.length := by omega
        rw [List.take_of_length_le (by omega)] at hjm
        have hany : xl.any (fun k => !M k) = false := List.any_eq_false.2 fun k hk' => by simp [hjm k hk']
        rw [hany]
        repeat' (first
  | refine gSq ?_ | refine gSk ?_ | refine gBl ?_ | refine gIb ?_ | refine gEx rfl ?_
  | ((first
  | (refine gRg [] [0, 1, 4, 5, 6, 7, 13, 14, 16, 22, 32, 33, 39, 48, 49] ?_; intro K hK)
  | (refine gd_split ?_ ?_ <;> intro hb <;> (try simp only [bls] at hb) <;> (try simp only [hb]))
  | refine gRt [] [.tmp 4] rfl ?_ | refine gDn [] [.tmp 4] rfl ?_) <;> (try simp only [go_sem, simprocAttr, f4]))
  | (refine hK _ _ ?_; clear hK K; simp only [go_sem, simprocAttr])
  | refine gCd (by simp only [go_sem, simprocAttr]; rfl) rfl ?_
  | refine brT ?_ | refine brF ?_
  | (refine brS ?_ ?_ <;> intro hc <;> (try simp only [bls] at hc) <;> (try simp only [hc, bls]))
  | intro _ | refine And.intro ?_ ?_)
    by_cases h4 : xo = 4
    · subst h4
      simp only [h1, h3, if_true, if_false]
      repeat' (first
  | refine gSq ?_ | refine gSk ?_ | refine gBl ?_ | refine gIb ?_ | refine gEx rfl ?_
  | ((first
  | (refine gRg [] [0, 1, 4, 5, 6, 7, 13, 14, 16, 22, 32, 33, 39, 48, 49] ?_; intro K hK)
  | (refine gd_split ?_ ?_ <;> intro hb <;> (try simp only [bls] at hb) <;> (try simp only [hb]))
  | refine gRt [] [.tmp 4] rfl ?_ | refine gDn [] [.tmp 4] rfl ?_) <;> (try simp only [go_sem, simprocAttr, e4, e5, hx, Option.some.injEq, forall_eq']))
  | (refine hK _ _ ?_; clear hK K; simp only [go_sem, simprocAttr])
  | refine gCd (by simp only [go_sem, simprocAttr]; rfl) rfl ?_
  | refine brT ?_ | refine brF ?_
  | (refine brS ?_ ?_ <;> intro hc <;> (try simp only [bls] at hc) <;> (try simp only [hc, bls]))
  | intro _ | refine And.intro ?_ ?_)
      rename_i g5
      clear h1
      refine AGood.prune [0, 4, 5, 7] ?_; simp only [go_sem, simprocAttr]
      refine AGood.loopInv (α := Nat) (fun j => ([(0, .sl q f (nodes l)), (4, .bool false), (5, .bx 5 g5 0), (7, .int .i64 j)], [(5, g5, .box [.int .u8 4, .int .u64 xa, .int .u64 xb, .int .u64 xc, .int .u64 xd, .sl true false (ints xl), .int .i64 xlo, .int .i64 xhi, .str xn])])) (fun j => j ≤ xl.length ∧ ∀ k ∈ xl.take j, M k = false) (fun j => xl.length - j) 0 ⟨Nat.zero_le _, by simp⟩ rfl ?_
      rintro j ⟨hj, hjm⟩ ih2
      simp only
      by_cases hle : j < xl.length
      · have f4 : (j : Int) < xl.length := by omega
        have f5 : (0 : Int) ≤ j := by omega
        have hxk : xl[j]? = some xl[j] := List.getElem?_eq_getElem hle
        have hmem := List.getElem_mem hle
        have hkk := hk _ hmem
        have ht := take_one hxk
        have hcall := ih _ hkk.1 hkk.2
        generalize xl[j] = k at hxk hmem hkk ht hcall
        by_cases hM : M k = false
        · rw [hM] at hcall
          repeat' (first
  | refine gSq ?_ | refine gSk ?_ | refine gBl ?_ | refine gIb ?_ | refine gEx rfl ?_
  | ((first
  | (refine gRg [] [0, 1, 4, 5, 6, 7, 13, 14, 16, 22, 32, 33, 39, 48, 49] ?_; intro K hK)
  | refine cAl (hcall) rfl rfl rfl ?_
  | (refine gd_split ?_ ?_ <;> intro hb <;> (try simp only [bls] at hb) <;> (try simp only [hb]))
  | refine gRt [] [.tmp 4] rfl ?_ | refine gDn [] [.tmp 4] rfl ?_) <;> (try simp only [go_sem, simprocAttr, f4, f5, hxk, Option.some.injEq, forall_eq']))
  | (refine hK _ _ ?_; clear hK K; simp only [go_sem, simprocAttr])
  | refine gCd (by simp only [go_sem, simprocAttr]; rfl) rfl ?_
  | refine brT ?_ | refine brF ?_
  | (refine brS ?_ ?_ <;> intro hc <;> (try simp only [bls] at hc) <;> (try simp only [hc, bls]))
  | intro _ | refine And.intro ?_ ?_)
          all_goals first | omega | (unfold bigLen; omega) | exact ⟨_, _, ⟨rfl, rfl⟩, rfl⟩ | exact ⟨_, rfl⟩ | (rename_i hy; simp only [List.mem_singleton] at hy; subst hy; rfl) | skip
          refine AGood.prune [0, 4, 5, 7] ?_; simp only [go_sem, simprocAttr]
          refine (ih2 (j + 1) ⟨by omega, fun k' hk' => ?_⟩ (by omega)).cast rfl rfl
          rw [ht] at hk'
          rcases List.mem_append.1 hk' with h | h
          · exact hjm k' h
          · simp only [List.mem_singleton] at h; subst h; exact hM
        · have hM2 : M k = !false := by cases h : M k <;> simp [h] at hM ⊢
          rw [hM2] at hcall
          have hany : xl.any M = true := List.any_eq_true.2 ⟨k, hmem, by simp [hM2]⟩
          rw [hany]
          repeat' (first
  | refine gSq ?_ | refine gSk ?_ | refine gBl ?_ | refine gIb ?_ | refine gEx rfl ?_
  | ((first
  | (refine gRg [] [0, 1, 4, 5, 6, 7, 13, 14, 16, 22, 32, 33, 39, 48, 49] ?_; intro K hK)
  | refine cAl (hcall) rfl rfl rfl ?_
  | (refine gd_split ?_ ?_ <;> intro hb <;> (try simp only [bls] at hb) <;> (try simp only [hb]))
  | refine gRt [] [.tmp 4] rfl ?_ | refine gDn [] [.tmp 4] rfl ?_) <;> (try simp only [go_sem, simprocAttr, f4, f5, hxk, Option.some.injEq, forall_eq']))
  | (refine hK _ _ ?_; clear hK K; simp only [go_sem, simprocAttr])
  | refine gCd (by simp only [go_sem, simprocAttr]; rfl) rfl ?_
  | refine brT ?_ | refine brF ?_
  | (refine brS ?_ ?_ <;> intro hc <;> (try simp only [bls] at hc) <;> (try simp only [hc, bls]))
  | intro _ | refine And.intro ?_ ?_)
      · have f4 : ¬ (j : Int) < xl.length := by omega
        rw [List.take_of_length_le (by omega)] at hjm
        have hany : xl.any M = false := List.any_eq_false.2 fun k hk' => by simp [hjm k hk']
        rw [hany]
        repeat' (first
  | refine gSq ?_ | refine gSk ?_ | refine gBl ?_ | refine gIb ?_ | refine gEx rfl ?_
  | ((first
  | (refine gRg [] [0, 1, 4, 5, 6, 7, 13, 14, 16, 22, 32, 33, 39, 48, 49] ?_; intro K hK)
  | (refine gd_split ?_ ?_ <;> intro hb <;> (try simp only [bls] at hb) <;> (try simp only [hb]))
  | refine gRt [] [.tmp 4] rfl ?_ | refine gDn [] [.tmp 4] rfl ?_) <;> (try simp only [go_sem, simprocAttr, f4]))
  | (refine hK _ _ ?_; clear hK K; simp only [go_sem, simprocAttr])
  | refine gCd (by simp only [go_sem, simprocAttr]; rfl) rfl ?_
  | refine brT ?_ | refine brF ?_
  | (refine brS ?_ ?_ <;> intro hc <;> (try simp only [bls] at hc) <;> (try simp only [hc, bls]))
  | intro _ | refine And.intro ?_ ?_)
    by_cases h5 : xo = 5
    · subst h5
      simp only [h1, h3, h4, if_true, if_false]
      obtain ⟨k, hxl⟩ : ∃ k, xl = [k] := List.length_eq_one_iff.1 (hop5 rfl)
      have hk1 := hk k (by simp [hxl])
      have hcall := ih k hk1.1 hk1.2
      have hx0 : xl[0]? = some k := by simp [hxl]
      have hx1 : (0 : Int) < xl.length := by simp [hxl]
      have hx2 : xl.headD 0 = k := by simp [hxl]
      rw [hx2]
      clear hxl hk hop5
      by_cases hlo : xlo = 0
      · subst hlo
        simp only [if_true]
        repeat' (first
  | refine gSq ?_ | refine gSk ?_ | refine gBl ?_ | refine gIb ?_ | refine gEx rfl ?_
  | ((first
  | (refine gRg [] [0, 1, 4, 5, 6, 7, 13, 14, 16, 22, 32, 33, 39, 48, 49] ?_; intro K hK)
  | (refine gd_split ?_ ?_ <;> intro hb <;> (try simp only [bls] at hb) <;> (try simp only [hb]))
  | refine gRt [] [.tmp 4] rfl ?_ | refine gDn [] [.tmp 4] rfl ?_) <;> (try simp only [go_sem, simprocAttr, e4, e5, hx, Option.some.injEq, forall_eq']))
  | (refine hK _ _ ?_; clear hK K; simp only [go_sem, simprocAttr])
  | refine gCd (by simp only [go_sem, simprocAttr]; rfl) rfl ?_
  | refine brT ?_ | refine brF ?_
  | (refine brS ?_ ?_ <;> intro hc <;> (try simp only [bls] at hc) <;> (try simp only [hc, bls]))
  | intro _ | refine And.intro ?_ ?_)
      · simp only [hlo, if_false]
        repeat' (first
  | refine gSq ?_ | refine gSk ?_ | refine gBl ?_ | refine gIb ?_ | refine gEx rfl ?_
  | ((first
  | (refine gRg [] [0, 1, 4, 5, 6, 7, 13, 14, 16, 22, 32, 33, 39, 48, 49] ?_; intro K hK)
  | refine cAl (hcall) rfl rfl rfl ?_
  | (refine gd_split ?_ ?_ <;> intro hb <;> (try simp only [bls] at hb) <;> (try simp only [hb]))
  | refine gRt [] [.tmp 4] rfl ?_ | refine gDn [] [.tmp 4] rfl ?_) <;> (try simp only [go_sem, simprocAttr, e4, e5, hx, hlo, hx0, hx1, Int.le_refl, Option.some.injEq, forall_eq']))
  | (refine hK _ _ ?_; clear hK K; simp only [go_sem, simprocAttr])
  | refine gCd (by simp only [go_sem, simprocAttr]; rfl) rfl ?_
  | refine brT ?_ | refine brF ?_
  | (refine brS ?_ ?_ <;> intro hc <;> (try simp only [bls] at hc) <;> (try simp only [hc, bls]))
  | intro _ | refine And.intro ?_ ?_)
    simp only [h1, h3, h4, h5, if_false]
    repeat' (first
  | refine gSq ?_ | refine gSk ?_ | refine gBl ?_ | refine gIb ?_ | refine gEx rfl ?_
  | ((first
  | (refine gRg [] [0, 1, 4, 5, 6, 7, 13, 14, 16, 22, 32, 33, 39, 48, 49] ?_; intro K hK)
  | (refine gd_split ?_ ?_ <;> intro hb <;> (try simp only [bls] at hb) <;> (try simp only [hb]))
  | refine gRt [] [.tmp 4] rfl ?_ | refine gDn [] [.tmp 4] rfl ?_) <;> (try simp only [go_sem, simprocAttr, e4, e5, hx, h1, h3, h4, h5, Option.some.injEq, forall_eq']))
  | (refine hK _ _ ?_; clear hK K; simp only [go_sem, simprocAttr])
  | refine gCd (by simp only [go_sem, simprocAttr]; rfl) rfl ?_
  | refine brT ?_ | refine brF ?_
  | (refine brS ?_ ?_ <;> intro hc <;> (try simp only [bls] at hc) <;> (try simp only [hc, bls]))
  | intro _ | refine And.intro ?_ ?_)
theorem nullTop_c (q f : Bool) (l : List Node) (hlen : l.length ≤ maxLen) (hl : ∀ n ∈ l, n.name.size ≤ maxLen ∧ n.l.length ≤ maxLen) : ACall Tryd.prog 16 [.sl q f (nodes l)] [] fun r s => r = .bool (nullS l) ∧ s = [] := by
  unfold maxLen at hlen
  have hr := right4uc q f l fun n h => (hl n h).symm
  rw [← right_eq] at hr
  refine ACall.enter Tryd.func16 rfl (by kernel_rfl) (Nat.le_of_ble_eq_true rfl) ?_; simp only [initTm, Nat.reduceAdd]
  cases hok : rightS l
  · rw [hok] at hr
    have e : nullS l = false := by simp [nullS, hok]
    rw [e]
    repeat' (first
  | refine gSq ?_ | refine gSk ?_ | refine gBl ?_ | refine gIb ?_ | refine gEx rfl ?_
  | ((first
  | (refine gRg [] [0, 2] ?_; intro K hK)
  | refine cAl (hr) rfl rfl rfl ?_
  | (refine gd_split ?_ ?_ <;> intro hb <;> (try simp only [bls] at hb) <;> (try simp only [hb]))
  | refine gRt [] [.tmp 2] rfl ?_ | refine gDn [] [.tmp 2] rfl ?_) <;> (try simp only [go_sem, simprocAttr]))
  | (refine hK _ _ ?_; clear hK K; simp only [go_sem, simprocAttr])
  | refine gCd (by simp only [go_sem, simprocAttr]; rfl) rfl ?_
  | refine brT ?_ | refine brF ?_
  | (refine brS ?_ ?_ <;> intro hc <;> (try simp only [bls] at hc) <;> (try simp only [hc, bls]))
  | intro _ | refine And.intro ?_ ?_)
  · rw [hok] at hr
    have htree := rightS_ok hok (fun n h => (hl n h).1)
    obtain ⟨_, hall, _, _⟩ := rightS_kids hok
    have h1 := htree.1.1
    have e6 : (l.length : Int) - 1 = ((l.length - 1 : Nat) : Int) := by omega
    have hcall := nullR_c q f l htree hall (l.length - 1) (by omega)
    have hml := mays_len l
    have e9 : nullS l = (mays l).getD (l.length - 1) false := by
      unfold nullS
      rw [if_pos hok, List.getLastD_eq_getLast?, List.getLast?_eq_getElem?, hml]; rfl
    rw [e9]
    generalize (mays l).getD (l.length - 1) false = b at hcall
    generalize l.length - 1 = m at e6 hcall
    repeat' (first
  | refine gSq ?_ | refine gSk ?_ | refine gBl ?_ | refine gIb ?_ | refine gEx rfl ?_
  | ((first
  | (refine gRg [] [0, 2] ?_; intro K hK)
  | refine cAl (hr) rfl rfl rfl ?_
  | refine cAl (hcall) rfl rfl rfl ?_
  | (refine gd_split ?_ ?_ <;> intro hb <;> (try simp only [bls] at hb) <;> (try simp only [hb]))
  | refine gRt [] [.tmp 2] rfl ?_ | refine gDn [] [.tmp 2] rfl ?_) <;> (try simp only [go_sem, simprocAttr, e6]))
  | (refine hK _ _ ?_; clear hK K; simp only [go_sem, simprocAttr])
  | refine gCd (by simp only [go_sem, simprocAttr]; rfl) rfl ?_
  | refine brT ?_ | refine brF ?_
  | (refine brS ?_ ?_ <;> intro hc <;> (try simp only [bls] at hc) <;> (try simp only [hc, bls]))
  | intro _ | refine And.intro ?_ ?_)
    all_goals first | omega | (unfold bigLen; omega) | exact ⟨_, _, ⟨rfl, rfl⟩, rfl⟩ | exact ⟨_, rfl⟩ | (rename_i hy; simp only [List.mem_singleton] at hy; subst hy; rfl) | skip
end Go.Rad
