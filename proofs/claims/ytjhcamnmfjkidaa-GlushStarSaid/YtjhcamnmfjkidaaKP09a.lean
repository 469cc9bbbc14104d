/- Contracts: lists of numbers put together, sorted, cleared of doubles: merge. -/
import Derived.Test.YtjhcamnmfjkidaaKRNode
import Derived.Test.YtjhcamnmfjkidaaKRNorm
import Derived.Shelf.SlGeneric
import Derived.Shelf.Spec.SlicesGrow
import Derived.Ground.Names8Prog
import Derived.Test.YtjhcamnmfjkidaaProg
set_option linter.all false
namespace Go.Rad
open Go Go.Proofs
set_option linter.all false
set_option maxRecDepth 20000
set_option maxHeartbeats 4000000

def lsV (ls : List (Bool × Bool × List Int)) : List (List AVal) := ls.map fun x => [.sl x.1 x.2.1 (ints x.2.2)]
theorem lsV_len (ls : List (Bool × Bool × List Int)) : (lsV ls).length = ls.length := by simp [lsV]
def catL (ls : List (Bool × Bool × List Int)) : List Int := ls.flatMap (·.2.2)
theorem catL_one {ls : List (Bool × Bool × List Int)} {i : Nat} {q f : Bool} {l : List Int} (h : ls[i]? = some (q, f, l)) : catL (ls.take (i + 1)) = catL (ls.take i) ++ l ∧ (catL (ls.take (i + 1))).length ≤ (catL ls).length := by
  have h1 : catL (ls.take (i + 1)) = catL (ls.take i) ++ l := by rw [take_one h]; simp [catL]
  refine ⟨h1, ?_⟩
  have : catL ls = catL (ls.take (i + 1)) ++ catL (ls.drop (i + 1)) := by rw [catL, catL, catL, ← List.flatMap_append, List.take_append_drop]
  rw [this, List.length_append]; omega
theorem concat_c (hG : GrowRuns Try.prog 54) (ls : List (Bool × Bool × List Int)) (q f : Bool) (hn : ls.length ≤ 1000) (hb : (catL ls).length ≤ 100000000) : ACall Try.prog 42 [.sl q f (lsV ls)] [] fun r s => ∃ g, r = .osl 24 g 0 (catL ls).length ∧ s = [(24, (g, .row 1 (ints (catL ls))))] := by
  have hlen := lsV_len ls
  have hgr : ACall Try.prog 54 [.sl true true [], .int .i64 ((catL ls).length : Nat)] [] fun r s => ∃ g, r = .osl 1000 g 0 0 ∧ s = [(1000, (g, .row 1 []))] := ACall.growNil ⟨_, Try.func54, by kernel_rfl, rfl⟩ hG 1000 (catL ls).length (by omega)
  have e0 : ([] : List (List AVal)) = ints [] := rfl
  refine ACall.enter Try.func42 rfl (by kernel_rfl) (Nat.le_of_ble_eq_true rfl) ?_; simp only [initTm, Nat.reduceAdd]
  repeat' (first
  | refine gSq ?_ | refine gSk ?_ | refine gBl ?_ | refine gIb ?_ | refine gEx rfl ?_
  | ((first
  | (refine gRg [] [0, 2, 3, 5, 6, 8, 9, 10, 11, 12, 20, 25, 26, 27, 28] ?_; intro K hK)
  | (refine gd_split ?_ ?_ <;> intro hb <;> (try simp only [bls] at hb) <;> (try simp only [hb]))
  | refine gRt [] [.tmp 2] rfl ?_ | refine gDn [] [.tmp 2] rfl ?_) <;> (try simp only [go_sem, simprocAttr, hlen]))
  | (refine hK _ _ ?_; clear hK K; simp only [go_sem, simprocAttr])
  | refine gCd (by simp only [go_sem, simprocAttr]; rfl) rfl ?_
  | refine brT ?_ | refine brF ?_
  | (refine brS ?_ ?_ <;> intro hc <;> (try simp only [bls] at hc) <;> (try simp only [hc, bls]))
  | intro _ | refine And.intro ?_ ?_)
  all_goals first | omega | (unfold bigLen; omega) | exact ⟨_, _, ⟨rfl, rfl⟩, rfl⟩ | exact ⟨_, rfl⟩ | (rename_i hy; simp only [List.mem_singleton] at hy; subst hy; rfl) | with_reducible rfl | skip
  refine AGood.prune [0, 2, 3, 9, 10, 11] ?_; simp only [go_sem, simprocAttr]
  refine AGood.loopInv (α := Nat) (fun i => ([(0, .sl q f (lsV ls)), (2, .sl true true []), (3, .int .i64 (catL (ls.take i)).length), (9, .sl q f (lsV ls)), (10, .int .i64 ls.length), (11, .int .i64 i)], [])) (fun i => i ≤ ls.length) (fun i => ls.length - i) 0 (Nat.zero_le _) (by simp [catL]) ?_
  rintro i hi ih
  simp only at hi ih ⊢
  by_cases hle : i < ls.length
  · have e4 : (i : Int) < ls.length := by omega
    have e5 : (0 : Int) ≤ i := by omega
    have e7 : (i : Int) + 1 = ((i + 1 : Nat) : Int) := by omega
    obtain ⟨⟨q1, f1, l1⟩, hx⟩ : ∃ x, ls[i]? = some x := ⟨_, List.getElem?_eq_getElem hle⟩
    have hv : (lsV ls)[i]? = some [.sl q1 f1 (ints l1)] := by simp [lsV, hx]
    obtain ⟨hc, hs⟩ := catL_one hx
    have e8 : ((catL (ls.take i)).length : Int) + (l1.length : Int) = ((catL (ls.take (i + 1))).length : Int) := by rw [hc]; simp
    have e9 : ¬ ((catL (ls.take (i + 1))).length : Int) < 0 := by omega
    have e10 : (ints l1).length = l1.length := by simp
    repeat' (first
  | refine gSq ?_ | refine gSk ?_ | refine gBl ?_ | refine gIb ?_ | refine gEx rfl ?_
  | ((first
  | (refine gRg [] [0, 2, 3, 5, 6, 8, 9, 10, 11, 12, 20, 25, 26, 27, 28] ?_; intro K hK)
  | (refine gd_split ?_ ?_ <;> intro hb <;> (try simp only [bls] at hb) <;> (try simp only [hb]))
  | refine gRt [] [.tmp 2] rfl ?_ | refine gDn [] [.tmp 2] rfl ?_) <;> (try simp only [go_sem, simprocAttr, hlen, e4, e5, e7, e8, e9, e10, hv, ixA_sl, Option.some.injEq, forall_eq']))
  | (refine hK _ _ ?_; clear hK K; simp only [go_sem, simprocAttr])
  | refine gCd (by simp only [go_sem, simprocAttr]; rfl) rfl ?_
  | refine brT ?_ | refine brF ?_
  | (refine brS ?_ ?_ <;> intro hc <;> (try simp only [bls] at hc) <;> (try simp only [hc, bls]))
  | intro _ | refine And.intro ?_ ?_)
    all_goals first | omega | (unfold bigLen; omega) | exact ⟨_, _, ⟨rfl, rfl⟩, rfl⟩ | exact ⟨_, rfl⟩ | (rename_i hy; simp only [List.mem_singleton] at hy; subst hy; rfl) | with_reducible rfl | skip
    refine AGood.filt [] ?_
    simp only [sf_cons, sf_nil, go_sem, simprocAttr]
    refine AGood.prune [0, 2, 3, 9, 10, 11] ?_; simp only [go_sem, simprocAttr]
    exact (ih (i + 1) (by omega) (by omega)).cast rfl rfl
  · have e4 : ¬ (i : Int) < ls.length := by omega
    rw [List.take_of_length_le (by omega)]
    clear ih
    repeat' (first
  | refine gSq ?_ | refine gSk ?_ | refine gBl ?_ | refine gIb ?_ | refine gEx rfl ?_
  | ((first
  | (refine gRg [] [0, 2, 3, 5, 6, 8, 9, 10, 11, 12, 20, 25, 26, 27, 28] ?_; intro K hK)
  | (refine ACall.use [(1000, 24)] [] rfl hgr rfl rfl rfl ?_; rintro _ _ ⟨h24, rfl, rfl⟩; refine ⟨.inl rfl, rfl, ?_⟩; simp only [bk, bk2, bk1, bkS, bkO, idOf, delAll, go_sem, simprocAttr])
  | (refine gd_split ?_ ?_ <;> intro hb <;> (try simp only [bls] at hb) <;> (try simp only [hb]))
  | refine gRt [] [.tmp 2] rfl ?_ | refine gDn [] [.tmp 2] rfl ?_) <;> (try simp only [go_sem, simprocAttr, hlen, e4]))
  | (refine hK _ _ ?_; clear hK K; simp only [go_sem, simprocAttr])
  | refine gCd (by simp only [go_sem, simprocAttr]; rfl) rfl ?_
  | refine brT ?_ | refine brF ?_
  | (refine brS ?_ ?_ <;> intro hc <;> (try simp only [bls] at hc) <;> (try simp only [hc, bls]))
  | intro _ | refine And.intro ?_ ?_)
    all_goals first | omega | (unfold bigLen; omega) | exact ⟨_, _, ⟨rfl, rfl⟩, rfl⟩ | exact ⟨_, rfl⟩ | (rename_i hy; simp only [List.mem_singleton] at hy; subst hy; rfl) | with_reducible rfl | skip
    refine AGood.prune [6, 25, 26, 27] ?_; simp only [go_sem, simprocAttr]
    refine AGood.loopInv (α := Nat × Nat) (fun x => ([(6, .osl 24 x.2 0 (catL (ls.take x.1)).length), (25, .sl q f (lsV ls)), (26, .int .i64 ls.length), (27, .int .i64 x.1)], [(24, (x.2, .row 1 (ints (catL (ls.take x.1)))))])) (fun x => x.1 ≤ ls.length) (fun x => ls.length - x.1) (0, h24) (Nat.zero_le _) (by simp [catL]) ?_
    rintro ⟨i, g⟩ hi ih
    simp only at hi ih ⊢
    by_cases hle : i < ls.length
    · have e4 : (i : Int) < ls.length := by omega
      have e5 : (0 : Int) ≤ i := by omega
      have e7 : (i : Int) + 1 = ((i + 1 : Nat) : Int) := by omega
      obtain ⟨⟨q1, f1, l1⟩, hx⟩ : ∃ x, ls[i]? = some x := ⟨_, List.getElem?_eq_getElem hle⟩
      have hv : (lsV ls)[i]? = some [.sl q1 f1 (ints l1)] := by simp [lsV, hx]
      obtain ⟨hc, hs⟩ := catL_one hx
      have e8 : (ints (catL (ls.take i))).length + (ints l1).length = (catL (ls.take (i + 1))).length := by rw [hc]; simp
      have e9 : (ints (catL (ls.take i))).length = (catL (ls.take i)).length := by simp
      repeat' (first
  | refine gSq ?_ | refine gSk ?_ | refine gBl ?_ | refine gIb ?_ | refine gEx rfl ?_
  | ((first
  | (refine gRg [] [0, 2, 3, 5, 6, 8, 9, 10, 11, 12, 20, 25, 26, 27, 28] ?_; intro K hK)
  | (refine gd_split ?_ ?_ <;> intro hb <;> (try simp only [bls] at hb) <;> (try simp only [hb]))
  | refine gRt [] [.tmp 2] rfl ?_ | refine gDn [] [.tmp 2] rfl ?_) <;> (try simp only [go_sem, simprocAttr, hlen, e4, e5, e7, hv, ixA_sl, Option.some.injEq, forall_eq']))
  | (refine hK _ _ ?_; clear hK K; simp only [go_sem, simprocAttr])
  | refine gCd (by simp only [go_sem, simprocAttr]; rfl) rfl ?_
  | refine brT ?_ | refine brF ?_
  | (refine brS ?_ ?_ <;> intro hc <;> (try simp only [bls] at hc) <;> (try simp only [hc, bls]))
  | intro _ | refine And.intro ?_ ?_)
      all_goals first | omega | (unfold bigLen; omega) | exact ⟨_, _, ⟨rfl, rfl⟩, rfl⟩ | exact ⟨_, rfl⟩ | (rename_i hy; simp only [List.mem_singleton] at hy; subst hy; rfl) | with_reducible rfl | skip
      · rename_i y hy; obtain ⟨x, _, rfl⟩ := List.mem_map.1 hy; rfl
      · rename_i y hy; obtain ⟨x, _, rfl⟩ := List.mem_map.1 hy; rfl
      · have h9 : (catL (ls.take (i + 1))).length = (catL (ls.take i)).length + l1.length := by rw [hc]; simp
        unfold bigLen; omega
      · have h9 : (catL (ls.take (i + 1))).length = (catL (ls.take i)).length + l1.length := by rw [hc]; simp
        unfold bigLen; omega
      rename_i h9
      refine AGood.filt [24] ?_
      simp only [sf_cons, sf_nil, go_sem, simprocAttr]
      refine AGood.prune [6, 25, 26, 27] ?_; simp only [go_sem, simprocAttr]
      exact AGood.cast (ih (i + 1, h9) (by simp only; omega) (by simp only; omega)) (by simp [hc]) (by simp [hc])
    · have e4 : ¬ (i : Int) < ls.length := by omega
      rw [List.take_of_length_le (by omega)]
      clear ih
      repeat' (first
  | refine gSq ?_ | refine gSk ?_ | refine gBl ?_ | refine gIb ?_ | refine gEx rfl ?_
  | ((first
  | (refine gRg [] [0, 2, 3, 5, 6, 8, 9, 10, 11, 12, 20, 25, 26, 27, 28] ?_; intro K hK)
  | (refine gd_split ?_ ?_ <;> intro hb <;> (try simp only [bls] at hb) <;> (try simp only [hb]))
  | refine gRt [24] [.tmp 2] rfl ?_ | refine gDn [24] [.tmp 2] rfl ?_) <;> (try simp only [go_sem, simprocAttr, hlen, e4]))
  | (refine hK _ _ ?_; clear hK K; simp only [go_sem, simprocAttr])
  | refine gCd (by simp only [go_sem, simprocAttr]; rfl) rfl ?_
  | refine brT ?_ | refine brF ?_
  | (refine brS ?_ ?_ <;> intro hc <;> (try simp only [bls] at hc) <;> (try simp only [hc, bls]))
  | intro _ | refine And.intro ?_ ?_)
      all_goals first | omega | (unfold bigLen; omega) | exact ⟨_, _, ⟨rfl, rfl⟩, rfl⟩ | exact ⟨_, rfl⟩ | (rename_i hy; simp only [List.mem_singleton] at hy; subst hy; rfl) | with_reducible rfl | skip
      exact ⟨_, rfl, rfl⟩
theorem merge_c (hG : GrowRuns Try.prog 54) (q f q' f' : Bool) (a b : List Int) (h : a.length + b.length ≤ 100000000) : ACall Try.prog 23 [.sl q f (ints a), .sl q' f' (ints b)] [] fun r s => r = .sl true false (ints (Lib.compact (sortI (a ++ b)))) ∧ s = [] := by
  obtain ⟨X, hX⟩ : ∃ X, X = a ++ b := ⟨_, rfl⟩
  have hcc : ∀ q0 f0, ACall Try.prog 42 [.sl q0 f0 [[.sl q false (ints a)], [.sl q' false (ints b)]]] [] fun r s => ∃ g, r = .osl 24 g 0 X.length ∧ s = [(24, (g, .row 1 (ints X)))] := fun q0 f0 => by
    have := concat_c hG [(q, false, a), (q', false, b)] q0 f0 (by simp) (by simp [catL]; omega)
    have hc : catL [(q, false, a), (q', false, b)] = X := by rw [hX]; simp [catL]
    rw [hc] at this
    exact this
  rw [← hX]
  obtain ⟨Y, hY⟩ : ∃ Y, Y = sortI X := ⟨_, rfl⟩
  have hYl : Y.length = X.length := by rw [hY, sortI_len]
  have hso : ∀ g, ACall Try.prog 43 [.osl 1000 g 0 X.length] [(1000, (g, .row 1 (ints X)))] fun r s => r = .tup [] ∧ s = [(1000, (g, .row 1 (ints Y)))] := fun g => by
    rw [hY]
    exact ACall.sortInts ⟨_, Try.func43, by kernel_rfl, rfl⟩ Try.slices_Sort_int Try.slices_Sort_int_none 1000 g X
  have hco : ∀ g, ACall Try.prog 44 [.osl 1000 g 0 X.length] [(1000, (g, .row 1 (ints Y)))] fun r s => r = .osl 1000 g 0 (Lib.compact Y).length ∧ s = [(1000, (g, .row 1 (ints (Lib.compact Y))))] := fun g => by
    rw [← hYl]
    exact ACall.compactInts ⟨_, Try.func44, by kernel_rfl, rfl⟩ Try.slices_Compact_int Try.slices_Compact_int_empty 1000 g Y
  rw [← hY]
  generalize Lib.compact Y = Z at hco ⊢
  have hZ : (ints Z).length = Z.length := by simp
  refine ACall.give (id := 9) (ACall.mono (R := fun r s => ∃ g, r = .osl 9 g 0 Z.length ∧ s = [(9, (g, .row 1 (ints Z)))]) ?_ fun r s h => by rw [hZ]; exact h)
  clear hG hX hY hYl hZ
  refine ACall.enter Try.func23 rfl (by kernel_rfl) (Nat.le_of_ble_eq_true rfl) ?_; simp only [initTm, Nat.reduceAdd]
  repeat' (first
  | refine gSq ?_ | refine gSk ?_ | refine gBl ?_ | refine gIb ?_ | refine gEx rfl ?_
  | ((first
  | (refine gRg [8] [0, 1, 4, 5] ?_; intro K hK)
  | (refine ACall.use [(24, 9)] [] rfl (hcc _ _) rfl rfl rfl ?_; rintro _ _ ⟨h9, rfl, rfl⟩; refine ⟨.inl rfl, rfl, ?_⟩; simp only [bk, bk2, bk1, bkS, bkO, idOf, delAll, go_sem, simprocAttr])
  | (refine ACall.use [(1000, 9)] [] rfl (hso _) rfl rfl rfl ?_; rintro _ _ ⟨rfl, rfl⟩; refine ⟨.inl rfl, rfl, ?_⟩; simp only [bk, bk2, bk1, bkS, bkO, idOf, delAll, go_sem, simprocAttr])
  | (refine ACall.use [(1000, 9)] [] rfl (hco _) rfl rfl rfl ?_; rintro _ _ ⟨rfl, rfl⟩; refine ⟨.inl rfl, rfl, ?_⟩; simp only [bk, bk2, bk1, bkS, bkO, idOf, delAll, go_sem, simprocAttr])
  | (refine gd_split ?_ ?_ <;> intro hb <;> (try simp only [bls] at hb) <;> (try simp only [hb]))
  | refine gRt [9] [.tmp 4] rfl ?_ | refine gDn [9] [.tmp 4] rfl ?_) <;> (try simp only [go_sem, simprocAttr]))
  | (refine hK _ _ ?_; clear hK K; simp only [go_sem, simprocAttr])
  | refine gCd (by simp only [go_sem, simprocAttr]; rfl) rfl ?_
  | refine brT ?_ | refine brF ?_
  | (refine brS ?_ ?_ <;> intro hc <;> (try simp only [bls] at hc) <;> (try simp only [hc, bls]))
  | intro _ | refine And.intro ?_ ?_)
  all_goals first | omega | (unfold bigLen; omega) | exact ⟨_, _, ⟨rfl, rfl⟩, rfl⟩ | exact ⟨_, rfl⟩ | (rename_i hy; simp only [List.mem_singleton] at hy; subst hy; rfl) | with_reducible rfl | skip
  exact ⟨_, rfl, rfl⟩
end Go.Rad
/- The library's Grow at this program: the laying in the plain words of the shelf's tools; what it does at an empty list. -/
namespace Go.Proofs
open Go.Shelf
def Try.growI_ren : Go.Shelf.Ren := ⟨fun | 4 => 54 | n => n, fun | 22 => 25 | 25 => 3 | 3 => 3 | 4 => 4 | 9 => 9 | 20 => 20 | 0 => 0 | n => n, fun | n => n⟩
theorem Try.growI : Go.Proofs.Lays8.n4 Try.prog Try.growI_ren := {
  mixed := by kernel_rfl
  f4 := ⟨Try.f54.name, by decide, Try.func54.trans (congrArg some (by kernel_rfl))⟩
  t0 := Try.underlying0
  a0 := Try.isAgg0
  z0 := Try.sizeOf0
  v0 := Try.zeroValue0
  t3 := Try.underlying3
  a3 := Try.isAgg3
  z3 := Try.sizeOf3
  v3 := Try.zeroValue3
  t4 := Try.underlying4
  a4 := Try.isAgg4
  z4 := Try.sizeOf4
  v4 := Try.zeroValue4
  t9 := Try.underlying9
  a9 := Try.isAgg9
  z9 := Try.sizeOf9
  v9 := Try.zeroValue9
  t20 := Try.underlying20
  a20 := Try.isAgg20
  z20 := Try.sizeOf20
  v20 := Try.zeroValue20
  t22 := Try.underlying25
  a22 := Try.isAgg25
  z22 := Try.sizeOf25
  v22 := Try.zeroValue25 }
end Go.Proofs
namespace Go.Rad
open Go Go.Proofs
theorem growRuns : GrowRuns Try.prog 54 := by
  refine ⟨fun a w => ?_, fun a n w h0 hn => ?_⟩
  · exact Any8.slices_Grow_room Try.growI a 0 0 0 w (Nat.le_refl _) (by omega) (by omega) (Nat.le_refl _)
  · have h := Any8.slices_Grow_grow Try.growI Try.t3 (.int .i64 0) (by kernel_rfl) (by kernel_rfl) (by decide) a 0 0 n [] w (Nat.le_refl _) (by omega) (by show (0 + n) * 8 ≤ _; omega) (by omega) rfl (fun _ => rfl) (fun _ _ j v hv => by simp at hv)
    refine h.mono fun e w' h => ?_
    obtain ⟨h1, h2⟩ := h
    have hg := grown_facts (w := w) (need := 0 + n) (old := 0) (e := Try.growI_ren.t 25) (by unfold bigLen; omega)
    refine ⟨_, _, _, hg.2, ?_, h1, h2⟩
    have hz : (Value.int IntKind.i64 0).cells.size = 1 := rfl
    simp only [Array.size_append, Go.size_zeroCells, hz]
    generalize grownCap w (0 + n) 0 (Try.growI_ren.t 25) = C at hg ⊢
    simp
    omega
end Go.Rad
/- Rising lists of integers: what sorting and clearing of doubles leaves. -/
namespace Go.Rad
open Go
theorem rise_ext : ∀ {a b : List Int}, a.Pairwise (· < ·) → b.Pairwise (· < ·) → (∀ x, x ∈ a ↔ x ∈ b) → a = b
  | [], [], _, _, _ => rfl
  | [], y :: b, _, _, h => absurd ((h y).2 (by simp)) (by simp)
  | x :: a, [], _, _, h => absurd ((h x).1 (by simp)) (by simp)
  | x :: a, y :: b, ha, hb, h => by
    rw [List.pairwise_cons] at ha hb
    have hxy : x = y := by
      have h1 : x = y ∨ x ∈ b := by simpa using (h x).1 (by simp)
      have h2 : y = x ∨ y ∈ a := by simpa using (h y).2 (by simp)
      rcases h1 with h1 | h1
      · exact h1
      · rcases h2 with h2 | h2
        · exact h2.symm
        · have := ha.1 y h2; have := hb.1 x h1; omega
    subst hxy
    refine congrArg (x :: ·) (rise_ext ha.2 hb.2 fun z => ?_)
    have hz := h z
    simp only [List.mem_cons] at hz
    constructor
    · intro hm
      rcases hz.1 (.inr hm) with rfl | h1
      · have := ha.1 z hm; omega
      · exact h1
    · intro hm
      rcases hz.2 (.inr hm) with rfl | h1
      · have := hb.1 z hm; omega
      · exact h1
theorem sortI_mem {l : List Int} {x : Int} : x ∈ sortI l ↔ x ∈ l := (List.mergeSort_perm l _).mem_iff
theorem sortI_rise (l : List Int) : (sortI l).Pairwise (· ≤ ·) := by
  have := List.pairwise_mergeSort (le := fun x y : Int => decide (x ≤ y)) (fun a b c h1 h2 => by simp at *; omega) (fun a b => by simp; omega) l
  exact this.imp fun h => by simpa using h
theorem compact_rise {l : List Int} (h : l.Pairwise (· ≤ ·)) : (Lib.compact l).Pairwise (· < ·) ∧ ∀ x, x ∈ Lib.compact l ↔ x ∈ l := by
  have hle : ∀ i j (hi : i < l.length) (hj : j < l.length), i ≤ j → l[i] ≤ l[j] := fun i j hi hj hij => by
    rcases Nat.lt_or_eq_of_le hij with h1 | h1
    · exact List.pairwise_iff_getElem.1 h i j hi hj h1
    · subst h1; exact Int.le_refl _
  refine ⟨?_, fun x => ⟨compact_mem, fun hx => ?_⟩⟩
  · unfold Lib.compact Lib.compactUpTo
    rw [List.pairwise_map]
    refine (List.pairwise_iff_forall_sublist.2 fun {i j} hs => ?_)
    have hm : ∀ k ∈ [i, j], k ∈ (List.range l.length).filter (Lib.keeps l.toArray) := fun k hk => hs.subset hk
    have hij : i < j := by
      have hp : ((List.range l.length).filter (Lib.keeps l.toArray)).Pairwise (· < ·) := (List.pairwise_lt_range).filter _
      exact List.pairwise_iff_forall_sublist.1 hp hs
    have hi := List.mem_filter.1 (hm i (by simp))
    have hj := List.mem_filter.1 (hm j (by simp))
    have hil : i < l.length := by simpa using hi.1
    have hjl : j < l.length := by simpa using hj.1
    have hk := hj.2
    simp only [Lib.keeps, Bool.or_eq_true, decide_eq_true_eq, bne_iff_ne, ne_eq, beq_iff_eq] at hk
    have h1 := hle i (j - 1) hil (by omega) (by omega)
    have h2 := hle (j - 1) j (by omega) hjl (by omega)
    simp only [List.getElem!_toArray, List.getElem!_eq_getElem?_getD, List.getElem?_eq_getElem hil, List.getElem?_eq_getElem hjl, List.getElem?_eq_getElem (show j - 1 < l.length by omega), Option.getD_some] at hk ⊢
    omega
  · obtain ⟨j, hj, rfl⟩ := List.getElem_of_mem hx
    induction j with
    | zero =>
      unfold Lib.compact Lib.compactUpTo
      exact List.mem_map.2 ⟨0, List.mem_filter.2 ⟨by simpa using hj, by simp [Lib.keeps]⟩, by simp [hj]⟩
    | succ j ih =>
      by_cases he : l[j + 1] = l[j]'(by omega)
      · rw [he]; exact ih (by omega) (List.getElem_mem _)
      · unfold Lib.compact Lib.compactUpTo
        refine List.mem_map.2 ⟨j + 1, List.mem_filter.2 ⟨by simpa using hj, ?_⟩, by simp [hj]⟩
        have hj0 : j < l.length := by omega
        simp [Lib.keeps, hj, hj0, he]
theorem compact_sort {l m : List Int} (hm : m.Pairwise (· < ·)) (h : ∀ x, x ∈ l ↔ x ∈ m) : Lib.compact (sortI l) = m := by
  obtain ⟨h1, h2⟩ := compact_rise (sortI_rise l)
  exact rise_ext h1 hm fun x => by rw [h2, sortI_mem, h]
end Go.Rad
/- Whether a tree is a plan, and how much is counted there. -/
namespace Go.Rad
open Go
/-- A list that is told with an error is nil. -/
def flS (e : Int) : Bool := decide (e ≠ 0)
theorem flS_0 : flS 0 = false := rfl
theorem flS_1 : flS 1 = true := rfl
theorem flS_3 : flS 3 = true := rfl
def starB (n : Node) : Bool := decide (n.lo = 0 ∧ n.hi = -1)
/-- A repetition that may be in no plan. -/
def badB (l : List Node) (n : Node) : Bool := decide (n.op = 5 ∧ ¬ (n.lo = 0 ∧ n.hi = -1) ∧ ((nAt l (kid0 n)).op ≠ 2 ∨ n.lo < 1 ∨ n.hi < 2))
def rightP (l : List Node) : Bool := plainS l && l.all fun n => !badB l n
def cntB (n : Node) : Bool := decide (n.op = 5 ∧ ¬ (n.lo = 0 ∧ n.hi = -1))
def countedP (l : List Node) : Nat := if rightP l = true then l.countP cntB else 0
theorem all_false {α : Type} {p : α → Bool} {l : List α} {i : Nat} {x : α} (h : l[i]? = some x) (hx : p x = false) : l.all p = false := by
  rw [Bool.eq_false_iff]
  intro h2
  rw [List.all_eq_true] at h2
  rw [h2 x (List.mem_of_getElem? h)] at hx
  cases hx
end Go.Rad
/- Plans: the document's way. -/
namespace Go.Rad
open Go Fo
abbrev RS := List Node × Bool
abbrev RO := RS × Int
def putQ (n : Node) (s : RS) : RO := if 1024 ≤ s.1.length then ((s.1, true), 0) else ((s.1 ++ [n], s.2), s.1.length)
def twoR (op a : Int) (x : RO) : RO := putQ (opNd op [a, x.2]) x.1
def restR (pl : RS → RO) : Nat → RS → RO
  | 0, s => (s, 0)
  | m + 1, s =>
    if (putQ (opNd 1 []) s).1.2 = true then ((putQ (opNd 1 []) s).1, 0)
    else if m ≠ 0 ∧ (pl (putQ (opNd 1 []) s).1).1.2 = false then twoR 4 (putQ (opNd 1 []) s).2 (twoR 3 (pl (putQ (opNd 1 []) s).1).2 (restR pl m (pl (putQ (opNd 1 []) s).1).1))
    else twoR 4 (putQ (opNd 1 []) s).2 (pl (putQ (opNd 1 []) s).1)
def starR (pl : RS → RO) (s : RS) : RO := putQ (repNd 0 (-1) (pl s).2) (pl s).1
def rowLR (pl : RS → RO) : Nat → RS → List Int → RS × List Int
  | 0, s, row => (s, row)
  | n + 1, s, row => if s.2 = true then (s, row) else rowLR pl n (pl s).1 (row ++ [(pl s).2])
def catR (b : RS × List Int) : RO := if b.2.length = 1 then (b.1, b.2.headD 0) else putQ (opNd 3 b.2) b.1
def rowER (pl : RS → RO) (lo hi : Int) (a : RS × List Int) : RS × List Int :=
  if hi = -1 then ((starR pl a.1).1, a.2 ++ [(starR pl a.1).2])
  else if lo < hi then ((restR pl (hi - lo).toNat a.1).1, a.2 ++ [(restR pl (hi - lo).toNat a.1).2])
  else a
def rowQ (pl : RS → RO) (lo hi : Int) (s : RS) : RO := catR (rowER pl lo hi (rowLR pl lo.toNat s []))
def cntR (pl : RS → RO) (lo hi : Int) (s : RS) : RO :=
  if 0 < lo then putQ (repNd lo hi (pl s).2) (pl s).1
  else twoR 4 (putQ (opNd 1 []) s).2 (putQ (repNd 1 hi (pl (putQ (opNd 1 []) s).1).2) (pl (putQ (opNd 1 []) s).1).1)
def endR (pl : RS → RO) (lo : Int) (s : RS) : RO := twoR 3 (putQ (repNd lo lo (pl s).2) (pl s).1).2 (starR pl (putQ (repNd lo lo (pl s).2) (pl s).1).1)
def repR (pl : RS → RO) (most : Int) (bytes : Bool) (lo hi : Int) (s : RS) : RO :=
  if bytes = true ∧ most < hi then cntR pl lo hi s
  else if bytes = true ∧ hi = -1 ∧ most < lo ∧ 1 < lo then endR pl lo s
  else rowQ pl lo hi s
def kidsR (pl : Int → RS → RO) : List Int → RS → List Int → RS × List Int
  | [], s, ks => (s, ks)
  | k :: l, s, ks => kidsR pl l (pl k s).1 (ks ++ [(pl k s).2])
def planR (ns : List Node) (most : Int) : Nat → Int → RS → RO
  | 0, _, s => (s, 0)
  | f + 1, k, s =>
    if s.2 = true then (s, 0)
    else if (nAt ns k).op = 5 then repR (planR ns most f (kid0 (nAt ns k))) most (decide ((nAt ns (kid0 (nAt ns k))).op = 2)) (nAt ns k).lo (nAt ns k).hi s
    else putQ { nAt ns k with l := (kidsR (planR ns most f) (nAt ns k).l s []).2 } (kidsR (planR ns most f) (nAt ns k).l s []).1
def ref8S (ns : List Node) (most : Int) : List Node × Int :=
  if plainS ns = false ∨ most < 1 ∨ 4096 < most then ([], 1)
  else if (planR ns most ns.length ((ns.length : Int) - 1) ([], false)).1.2 = true ∨ right4 (planR ns most ns.length ((ns.length : Int) - 1) ([], false)).1.1 = false then ([], 3)
  else ((planR ns most ns.length ((ns.length : Int) - 1) ([], false)).1.1, 0)

/-! No more than there is room for. -/
def PBR (pl : RS → RO) : Prop := ∀ s, s.1.length ≤ 1024 → (pl s).1.1.length ≤ 1024
theorem putQ_len (n : Node) : PBR (putQ n) := fun s h => by
  unfold putQ; split
  · exact h
  · simp only [List.length_append, List.length_cons, List.length_nil]; omega
theorem twoR_len (op a : Int) {x : RO} (h : x.1.1.length ≤ 1024) : (twoR op a x).1.1.length ≤ 1024 := putQ_len _ _ h
section
variable {pl : RS → RO} (hb : PBR pl)
include hb
theorem restR_len : ∀ m, PBR (restR pl m)
  | 0, s, h => h
  | m + 1, s, h => by
    have h1 := putQ_len (opNd 1 []) s h
    have h2 := hb _ h1
    rw [restR]
    split
    · exact h1
    · split
      · exact twoR_len _ _ (twoR_len _ _ (restR_len m _ h2))
      · exact twoR_len _ _ h2
theorem starR_len : PBR (starR pl) := fun s h => putQ_len _ _ (hb s h)
theorem rowLR_len : ∀ (n : Nat) (s : RS) (row : List Int), s.1.length ≤ 1024 → (rowLR pl n s row).1.1.length ≤ 1024 ∧ (rowLR pl n s row).2.length ≤ row.length + n
  | 0, s, row, h => ⟨h, by simp [rowLR]⟩
  | n + 1, s, row, h => by
    rw [rowLR]
    split
    · exact ⟨h, by simp only []; omega⟩
    · have := rowLR_len n (pl s).1 (row ++ [(pl s).2]) (hb s h)
      simp only [List.length_append, List.length_cons, List.length_nil] at this
      omega
theorem rowER_len (lo hi : Int) (a : RS × List Int) (h : a.1.1.length ≤ 1024) : (rowER pl lo hi a).1.1.length ≤ 1024 ∧ (rowER pl lo hi a).2.length ≤ a.2.length + 1 := by
  unfold rowER
  split
  · exact ⟨starR_len hb _ h, by simp⟩
  · split
    · exact ⟨restR_len hb _ _ h, by simp⟩
    · exact ⟨h, by omega⟩
theorem catR_len (b : RS × List Int) (h : b.1.1.length ≤ 1024) : (catR b).1.1.length ≤ 1024 := by
  unfold catR; split
  · exact h
  · exact putQ_len _ _ h
theorem rowQ_len (lo hi : Int) : PBR (rowQ pl lo hi) := fun s h => catR_len hb _ (rowER_len hb lo hi _ (rowLR_len hb _ s [] h).1).1
theorem cntR_len (lo hi : Int) : PBR (cntR pl lo hi) := fun s h => by
  unfold cntR; split
  · exact putQ_len _ _ (hb s h)
  · exact twoR_len _ _ (putQ_len _ _ (hb _ (putQ_len _ _ h)))
theorem endR_len (lo : Int) : PBR (endR pl lo) := fun s h => twoR_len _ _ (starR_len hb _ (putQ_len _ _ (hb s h)))
theorem repR_len (most : Int) (bytes : Bool) (lo hi : Int) : PBR (repR pl most bytes lo hi) := fun s h => by
  unfold repR; split
  · exact cntR_len hb lo hi s h
  · split
    · exact endR_len hb lo s h
    · exact rowQ_len hb lo hi s h
end
theorem kidsR_len {pl : Int → RS → RO} (hb : ∀ k, PBR (pl k)) : ∀ (l : List Int) (s : RS) (row : List Int), s.1.length ≤ 1024 → (kidsR pl l s row).1.1.length ≤ 1024 ∧ (kidsR pl l s row).2.length = row.length + l.length
  | [], s, row, h => ⟨h, rfl⟩
  | k :: l, s, row, h => by
    have := kidsR_len hb l (pl k s).1 (row ++ [(pl k s).2]) (hb k s h)
    simp only [List.length_append, List.length_cons, List.length_nil] at this
    rw [kidsR]
    simp only [List.length_cons]; omega
theorem planR_len (ns : List Node) (most : Int) : ∀ (f : Nat) (k : Int), PBR (planR ns most f k)
  | 0, k, s, h => h
  | f + 1, k, s, h => by
    rw [planR]
    split
    · exact h
    · split
      · exact repR_len (planR_len ns most f _) most _ _ _ s h
      · exact putQ_len _ _ (kidsR_len (planR_len ns most f) _ s [] h).1

/-! What puts a forest, or says that there is no room. -/
abbrev RF := RS → RS × List Int
def ROk (s : RF) (f : Fo) : Prop := (∀ out, out.length ≤ 1024 → (out.length + f.size ≤ 1024 → s (out, false) = ((out ++ f.lay out.length, false), f.roots out.length)) ∧ (1024 < out.length + f.size → (s (out, false)).1.2 = true)) ∧ ∀ out, (s (out, true)).1.2 = true
def seqR (s t : RF) (x : RS) : RS × List Int := ((t (s x).1).1, (s x).2 ++ (t (s x).1).2)
abbrev sgR (pl : RS → RO) : RF := fun x => ((pl x).1, [(pl x).2])
def wrapR (b : Lb) (s : RF) : RF := sgR fun x => putQ (b.node (s x).2) (s x).1
abbrev nilR : RF := fun x => (x, [])
theorem putQ_true (n : Node) (out : List Node) : (putQ n (out, true)).1.2 = true := by unfold putQ; split <;> rfl
theorem true_pair {x : RS} (h : x.2 = true) : x = (x.1, true) := Prod.ext rfl h
theorem ROk.nil : ROk nilR .nil := ⟨fun out h => ⟨fun _ => by simp [lay, roots], fun h2 => by simp only [size] at h2; omega⟩, fun out => rfl⟩
theorem ROk.seq {s t : RF} {f g : Fo} (hs : ROk s f) (ht : ROk t g) : ROk (seqR s t) (f.app g) := by
  refine ⟨fun out h => ?_, fun out => ?_⟩
  · rw [size_app]
    by_cases h1 : out.length + f.size ≤ 1024
    · have e := (hs.1 out h).1 h1
      have el : (out ++ f.lay out.length).length = out.length + f.size := by simp [lay_len]
      obtain ⟨t1, t2⟩ := ht.1 (out ++ f.lay out.length) (by omega)
      rw [el] at t1 t2
      refine ⟨fun h => ?_, fun h => ?_⟩
      · simp only [seqR, e]
        rw [t1 (by omega), lay_app, roots_app]
        simp
      · simp only [seqR, e]
        exact t2 (by omega)
    · have e := (hs.1 out h).2 (by omega)
      refine ⟨fun h => by omega, fun _ => ?_⟩
      simp only [seqR]
      rw [true_pair e]
      exact ht.2 _
  · simp only [seqR]
    rw [true_pair (hs.2 out)]
    exact ht.2 _
theorem ROk.wrap {s : RF} {f : Fo} (b : Lb) (hs : ROk s f) : ROk (wrapR b s) (one b f) := by
  refine ⟨fun out h => ?_, fun out => ?_⟩
  · simp only [size, Nat.add_zero]
    by_cases h1 : out.length + f.size ≤ 1024
    · have e := (hs.1 out h).1 h1
      have el : (out ++ f.lay out.length).length = out.length + f.size := by simp [lay_len]
      refine ⟨fun h2 => ?_, fun h2 => ?_⟩
      · simp only [wrapR, sgR, e, putQ, el]
        rw [if_neg (by omega)]
        simp [lay, roots]
      · simp only [wrapR, sgR, e, putQ, el]
        rw [if_pos (by omega)]
    · have e := (hs.1 out h).2 (by omega)
      refine ⟨fun h => by omega, fun _ => ?_⟩
      simp only [wrapR, sgR]
      rw [true_pair e]
      exact putQ_true _ _
  · simp only [wrapR, sgR]
    rw [true_pair (hs.2 out)]
    exact putQ_true _ _
theorem ROk.guard {s s' : RF} {f : Fo} (h : ∀ out, out.length ≤ 1024 → s' (out, false) = s (out, false) ∨ ((s' (out, false)).1.2 = true ∧ 1024 < out.length + f.size)) (ht : ∀ out, (s' (out, true)).1.2 = true) (hs : ROk s f) : ROk s' f := by
  refine ⟨fun out ho => ?_, ht⟩
  rcases h out ho with e | ⟨e1, e2⟩
  · rw [e]; exact hs.1 out ho
  · exact ⟨fun h => by omega, fun _ => e1⟩
theorem ROk.eq {s s' : RF} {f : Fo} (h : ∀ x, s' x = s x) (hs : ROk s f) : ROk s' f := hs.guard (fun out _ => .inl (h _)) fun out => by rw [h]; exact hs.2 out
theorem twoR_true (op a : Int) {x : RO} (h : x.1.2 = true) : (twoR op a x).1.2 = true := by
  unfold twoR; rw [true_pair h]; exact putQ_true _ _
theorem restR_ok {pl : RS → RO} {p : Fo} (hp : ROk (sgR pl) p) : ∀ m, ROk (sgR (restR pl (m + 1))) (restT p (m + 1)) := by
  have htrue : ∀ m out, (sgR (restR pl (m + 1)) (out, true)).1.2 = true := by
    intro m out
    simp only [sgR, restR, putQ_true, if_true]
  have hfull : ∀ m out, out.length ≤ 1024 → 1024 ≤ out.length → (sgR (restR pl (m + 1)) (out, false)).1.2 = true ∧ 1024 < out.length + (restT p (m + 1)).size := by
    intro m out _ h
    have e : putQ (opNd 1 []) (out, false) = ((out, true), 0) := by simp only [putQ, if_pos h]
    refine ⟨?_, ?_⟩
    · simp only [sgR, restR, e, if_true]
    · simp only [restT, size, size_app]; omega
  intro m
  induction m with
  | zero =>
    refine ROk.guard (s := wrapR (opL 4) (seqR (wrapR (opL 1) nilR) (sgR pl))) (fun out ho => ?_) (htrue 0) (((ROk.nil.wrap _).seq hp).wrap _)
    by_cases h : 1024 ≤ out.length
    · exact .inr (hfull 0 out ho h)
    · have e : putQ (opNd 1 []) (out, false) = ((out ++ [opNd 1 []], false), (out.length : Int)) := by simp only [putQ, if_neg h]
      left
      simp only [sgR, restR, e, Bool.false_eq_true, if_false, ne_eq, not_true_eq_false, false_and, wrapR, seqR, nilR]
      rw [show (opL 1).node [] = opNd 1 [] from rfl, e]
      rfl
  | succ m ih =>
    refine ROk.guard (s := wrapR (opL 4) (seqR (wrapR (opL 1) nilR) (wrapR (opL 3) (seqR (sgR pl) (sgR (restR pl (m + 1))))))) (fun out ho => ?_) (htrue (m + 1)) (((ROk.nil.wrap _).seq ((hp.seq ih).wrap _)).wrap _)
    by_cases h : 1024 ≤ out.length
    · exact .inr (hfull (m + 1) out ho h)
    · have e : putQ (opNd 1 []) (out, false) = ((out ++ [opNd 1 []], false), (out.length : Int)) := by simp only [putQ, if_neg h]
      have el : (out ++ [opNd 1 []]).length = out.length + 1 := by simp
      cases hx : (pl (out ++ [opNd 1 []], false)).1.2
      · left
        have hm : m + 1 ≠ 0 ∧ (pl (out ++ [opNd 1 []], false)).1.2 = false := ⟨by omega, hx⟩
        simp only [sgR]
        rw [restR, e]
        simp only [Bool.false_eq_true, if_false]
        rw [if_pos hm]
        simp only [wrapR, seqR, nilR, sgR]
        rw [show (opL 1).node [] = opNd 1 [] from rfl, e]
        rfl
      · right
        have hm : ¬ (m + 1 ≠ 0 ∧ (pl (out ++ [opNd 1 []], false)).1.2 = false) := fun h => by rw [hx] at h; exact absurd h.2 (by decide)
        refine ⟨?_, ?_⟩
        · simp only [sgR]
          rw [restR, e]
          simp only [Bool.false_eq_true, if_false]
          rw [if_neg hm]
          exact twoR_true _ _ hx
        · have hov : 1024 < out.length + 1 + p.size := by
            refine Nat.lt_of_not_le fun hle => ?_
            have := (hp.1 (out ++ [opNd 1 []]) (by omega)).1 (by omega)
            simp only [sgR, Prod.mk.injEq] at this
            rw [this.1] at hx; cases hx
          simp only [restT, size, size_app, if_neg (show ¬ m + 1 = 0 by omega)]; omega
theorem rowLR_ok {pl : RS → RO} {p : Fo} (hp : ROk (sgR pl) p) : ∀ (n : Nat) (out : List Node) (row : List Int), out.length ≤ 1024 → (out.length + (copies p n).size ≤ 1024 → rowLR pl n (out, false) row = ((out ++ (copies p n).lay out.length, false), row ++ (copies p n).roots out.length)) ∧ (1024 < out.length + (copies p n).size → (rowLR pl n (out, false) row).1.2 = true)
  | 0, out, row, ho => ⟨fun _ => by simp [rowLR, copies, lay, roots], fun h => by simp only [copies, size] at h; omega⟩
  | n + 1, out, row, ho => by
    rw [rowLR]
    simp only [Bool.false_eq_true, if_false, copies, size_app]
    obtain ⟨a1, a2⟩ := hp.1 out ho
    by_cases h1 : out.length + p.size ≤ 1024
    · have e := a1 h1
      simp only [sgR, Prod.mk.injEq] at e
      rw [e.1]
      have el : (out ++ p.lay out.length).length = out.length + p.size := by simp [lay_len]
      obtain ⟨b1, b2⟩ := rowLR_ok hp n (out ++ p.lay out.length) (row ++ [(pl (out, false)).2]) (by omega)
      rw [el] at b1 b2
      refine ⟨fun h2 => ?_, fun h2 => b2 (by omega)⟩
      rw [b1 (by omega), lay_app, roots_app, e.2]
      simp
    · have e := a2 (by omega)
      refine ⟨fun h2 => by omega, fun _ => ?_⟩
      simp only [sgR] at e
      rw [true_pair e]
      cases n with
      | zero => rfl
      | succ n => rw [rowLR]; rfl
theorem catR_ok {s : RF} {f : Fo} (hs : ROk s f) : ROk (sgR fun x => catR (s x)) f.catT := by
  have key : ∀ x : RS × List Int, x.1.2 = true → (catR x).1.2 = true := by
    intro x h
    unfold catR; split
    · exact h
    · rw [true_pair h]; exact putQ_true _ _
  refine ⟨fun out ho => ?_, fun out => key _ (hs.2 out)⟩
  by_cases h1 : out.length + f.size ≤ 1024
  · have e := (hs.1 out ho).1 h1
    unfold catT
    split
    · rename_i hd
      simp only [sgR, catR, e, roots_len, hd, if_true]
      refine ⟨fun _ => ?_, fun h => by omega⟩
      rw [roots_one hd]; rfl
    · rename_i hd
      simp only [sgR, catR, e, roots_len, hd, if_false]
      have := (hs.wrap (opL 3)).1 out ho
      simp only [wrapR, sgR, e] at this
      exact this
  · have e := (hs.1 out ho).2 (by omega)
    refine ⟨fun h => ?_, fun _ => key _ e⟩
    unfold catT at h
    split at h
    · omega
    · simp only [size] at h; omega
theorem rowQ_ok {pl : RS → RO} {p : Fo} (hp : ROk (sgR pl) p) (lo hi : Int) : ROk (sgR (rowQ pl lo hi)) (p.rowT lo hi) := by
  have hL : ROk (fun x => rowLR pl lo.toNat x []) (copies p lo.toNat) := by
    refine ⟨fun out ho => ?_, fun out => ?_⟩
    · obtain ⟨a, b⟩ := rowLR_ok hp lo.toNat out [] ho
      exact ⟨fun h => by show rowLR pl lo.toNat (out, false) [] = _; rw [a h]; simp, b⟩
    · show (rowLR pl lo.toNat (out, true) []).1.2 = true
      cases lo.toNat with
      | zero => rfl
      | succ n => rw [rowLR]; rfl
  refine catR_ok ?_
  unfold rowOf
  by_cases h1 : hi = -1
  · rw [if_pos h1]
    refine (hL.seq (hp.wrap (repL 0 (-1)))).eq fun x => ?_
    simp only [rowER, if_pos h1]; rfl
  · by_cases h2 : lo < hi
    · rw [if_neg h1, if_pos h2]
      obtain ⟨m, hm⟩ : ∃ m, (hi - lo).toNat = m + 1 := ⟨(hi - lo).toNat - 1, by omega⟩
      rw [hm]
      refine (hL.seq (restR_ok hp m)).eq fun x => ?_
      simp only [rowER, if_neg h1, if_pos h2, hm]; rfl
    · rw [if_neg h1, if_neg h2, app_nil]
      refine hL.eq fun x => ?_
      simp only [rowER, if_neg h1, if_neg h2]
theorem repR_ok {pl : RS → RO} {p : Fo} (hp : ROk (sgR pl) p) (most : Int) (bytes : Bool) (lo hi : Int) : ROk (sgR (repR pl most bytes lo hi)) (repT most lo hi bytes p) := by
  unfold repT
  cases bytes
  · rw [if_pos rfl]
    exact (rowQ_ok hp lo hi).eq fun x => by simp only [sgR, repR, Bool.false_eq_true, false_and, if_false]
  · rw [if_neg (by decide)]
    by_cases h2 : most < hi
    · rw [if_pos h2]
      by_cases h3 : 0 < lo
      · rw [if_pos h3]
        exact (hp.wrap (repL lo hi)).eq fun x => by simp only [sgR, repR, h2, and_self, if_true, cntR, if_pos h3]; rfl
      · rw [if_neg h3]
        exact (((ROk.nil.wrap (opL 1)).seq (hp.wrap (repL 1 hi))).wrap (opL 4)).eq fun x => by simp only [sgR, repR, h2, and_self, if_true, cntR, if_neg h3]; rfl
    · rw [if_neg h2]
      by_cases h3 : hi = -1 ∧ max most 1 < lo
      · rw [if_pos h3]
        exact (((hp.wrap (repL lo lo)).seq (hp.wrap (repL 0 (-1)))).wrap (opL 3)).eq fun x => by
          simp only [sgR, repR]
          rw [if_neg (fun h => h2 h.2), if_pos ⟨trivial, h3.1, by omega, by omega⟩]; rfl
      · rw [if_neg h3]
        exact (rowQ_ok hp lo hi).eq fun x => by
          simp only [sgR, repR]
          rw [if_neg (fun h => h2 h.2), if_neg (fun h => h3 ⟨h.2.1, by omega⟩)]

/-- All that is no repetition has neither bounds nor a name. -/
def bareOk (f : Fo) : Bool := f.all fun b _ => decide (b.op = 5 ∨ b.bare = b)
theorem planR_ok {ns : List Node} (most : Int) : ∀ (f : Fo) (ks : List Int) (fuel : Nat), f.Sub ns ks → f.size ≤ fuel → repOne f = true → bareOk f = true →
    (∀ (k : Int), ks = [k] → ROk (sgR (planR ns most fuel k)) (f.planT most)) ∧ (∀ row, ROk (fun x => ((kidsR (planR ns most fuel) ks x row).1, ((kidsR (planR ns most fuel) ks x row).2.drop row.length))) (f.planT most) ∧ ∀ x, (kidsR (planR ns most fuel) ks x row).2 = row ++ (kidsR (planR ns most fuel) ks x row).2.drop row.length)
  | .nil, ks, fuel, hs, _, _, _ => by
    simp only [Fo.Sub] at hs
    subst hs
    refine ⟨fun k h => by simp at h, fun row => ⟨?_, fun x => by simp [kidsR]⟩⟩
    exact ROk.nil.eq fun x => by simp [kidsR]
  | .node b kf r, ks, fuel, hs, hf, hr, hbr => by
    obtain ⟨i, n, ks', rfl, h1, h2, h3, h4⟩ := hs
    simp only [repOne, bareOk, all, Bool.and_eq_true, decide_eq_true_eq] at hr hbr
    simp only [size] at hf
    obtain ⟨fu, rfl⟩ : ∃ fu, fuel = fu + 1 := ⟨fuel - 1, by omega⟩
    obtain ⟨a1, a2⟩ := planR_ok most kf n.l fu h3 (by omega) hr.1.2 hbr.1.2
    obtain ⟨b1, b2⟩ := planR_ok most r ks' (fu + 1) h4 (by omega) hr.2 hbr.2
    have hone : ROk (sgR (planR ns most (fu + 1) i)) (if b.op = 5 then repT most b.lo b.hi kf.isBytes (kf.planT most) else one b.bare (kf.planT most)) := by
      have hb : b.op = n.op ∧ b.lo = n.lo ∧ b.hi = n.hi ∧ b.s = n.s := by rw [← h2]; exact ⟨rfl, rfl, rfl, rfl⟩
      by_cases h5 : b.op = 5
      · have hd := hr.1.1 h5
        have hl := h3.len
        rw [hd] at hl
        have hkid : n.l = [kid0 n] := by
          match hn : n.l, hl with
          | [x], _ => simp [kid0, hn]
        rw [if_pos h5]
        refine (repR_ok (a1 _ hkid) most kf.isBytes b.lo b.hi).guard (fun out _ => ?_) fun out => ?_
        · left
          simp only [sgR, planR, nAt_get h1]
          rw [if_neg (by decide), if_pos (by rw [← hb.1]; exact h5), isBytes_sub h3 hd, hb.2.1, hb.2.2.1]
        · simp only [sgR, planR, if_true]
      · rw [if_neg h5]
        obtain ⟨c1, c2⟩ := a2 []
        refine (c1.wrap b.bare).guard (fun out _ => ?_) fun out => ?_
        · left
          have hbare : b.bare = b := by
            rcases hbr.1.1 with h | h
            · exact absurd h h5
            · exact h
          simp only [sgR, planR, nAt_get h1]
          rw [if_neg (by decide), if_neg (by rw [← hb.1]; exact h5), hbare]
          simp only [wrapR, sgR, List.length_nil, List.drop_zero]
          rw [← h2]
        · simp only [sgR, planR, if_true]
    refine ⟨fun k hk => ?_, fun row => ?_⟩
    · simp only [List.cons.injEq] at hk
      obtain ⟨rfl, rfl⟩ := hk
      have : r = .nil := by
        match r, h4 with
        | .nil, _ => rfl
        | .node _ _ _, h4 => obtain ⟨_, _, _, e, _⟩ := h4; simp at e
      subst this
      simp only [planT, app_nil]
      exact hone
    · have key : ∀ x, kidsR (planR ns most (fu + 1)) ((i : Int) :: ks') x row = kidsR (planR ns most (fu + 1)) ks' (planR ns most (fu + 1) i x).1 (row ++ [(planR ns most (fu + 1) i x).2]) := fun x => rfl
      have hl1 : ∀ x : Int, (row ++ [x]).length = row.length + 1 := fun x => by simp
      have hdrop : ∀ x, (kidsR (planR ns most (fu + 1)) ((i : Int) :: ks') x row).2.drop row.length = (planR ns most (fu + 1) i x).2 :: (kidsR (planR ns most (fu + 1)) ks' (planR ns most (fu + 1) i x).1 (row ++ [(planR ns most (fu + 1) i x).2])).2.drop (row.length + 1) := by
        intro x
        rw [key]
        have := (b2 (row ++ [(planR ns most (fu + 1) i x).2])).2 (planR ns most (fu + 1) i x).1
        rw [hl1] at this
        conv => lhs; rw [this]
        simp
      refine ⟨?_, fun x => ?_⟩
      · simp only [planT]
        have hx := fun v : Int => (b2 (row ++ [v])).1
        have step : ∀ x, ((kidsR (planR ns most (fu + 1)) ((i : Int) :: ks') x row).1, (kidsR (planR ns most (fu + 1)) ((i : Int) :: ks') x row).2.drop row.length) = seqR (sgR (planR ns most (fu + 1) i)) (fun y => ((kidsR (planR ns most (fu + 1)) ks' y (row ++ [(planR ns most (fu + 1) i x).2])).1, (kidsR (planR ns most (fu + 1)) ks' y (row ++ [(planR ns most (fu + 1) i x).2])).2.drop (row ++ [(planR ns most (fu + 1) i x).2]).length)) x := by
          intro x
          rw [hdrop, key]
          simp only [seqR, sgR, hl1, List.cons_append, List.nil_append]
        refine ⟨fun out ho => ?_, fun out => ?_⟩
        · have := (hone.seq (hx (planR ns most (fu + 1) i (out, false)).2)).1 out ho
          rw [← step] at this
          exact this
        · have := (hone.seq (hx (planR ns most (fu + 1) i (out, true)).2)).2 out
          rw [← step] at this
          exact this
      · rw [hdrop, key]
        have := (b2 (row ++ [(planR ns most (fu + 1) i x).2])).2 (planR ns most (fu + 1) i x).1
        rw [hl1] at this
        conv => lhs; rw [this]
        simp
end Go.Rad
/- The plain laws of plans. -/
namespace Go.Rad
open Go Fo

theorem shapeL_rep {b : Lb} {d : Nat} (h : shapeL b d = true) (h5 : b.op = 5) : d = 1 ∧ b.s = ISet.none ∧ b.name = ByteArray.empty ∧ 0 ≤ b.lo ∧ b.lo ≤ 4096 ∧ (b.hi = -1 ∨ 1 ≤ b.hi ∧ b.hi ≤ 4096 ∧ b.lo ≤ b.hi) := by
  simp only [shapeL, shapeOk, h5] at h
  simp only [show ¬ (5 : Int) = 1 by decide, show ¬ (5 : Int) = 2 by decide, show ¬ ((5 : Int) = 3 ∨ (5 : Int) = 4) by decide, if_false, if_true, Bool.and_eq_true, Bool.not_eq_true', decide_eq_true_eq, decide_eq_false_iff_not, Decidable.not_not, List.length_replicate] at h
  obtain ⟨⟨⟨⟨h1, h2⟩, h3⟩, h4⟩, h6⟩ := h
  exact ⟨h3, h1, h2, h4.1, h4.2, h6⟩
theorem shapeL_bare {b : Lb} {d : Nat} (h : shapeL b d = true) (h5 : b.op ≠ 5) (h6 : b.op ≠ 6) : b.bare = b := by
  obtain ⟨op, s, lo, hi, nm⟩ := b
  simp only at h5 h6
  simp only [Lb.bare, Lb.mk.injEq, true_and]
  simp only [shapeL, shapeOk, if_neg h5, if_neg h6] at h
  split at h
  · simp only [Bool.and_eq_true, Bool.not_eq_true', decide_eq_false_iff_not, Decidable.not_not] at h
    exact ⟨by omega, by omega, h.1.2.symm⟩
  · split at h
    · simp only [Bool.and_eq_true, Bool.not_eq_true', decide_eq_false_iff_not, Decidable.not_not] at h
      exact ⟨by omega, by omega, h.1.2.symm⟩
    · split at h
      · simp only [Bool.and_eq_true, Bool.not_eq_true', decide_eq_false_iff_not, Decidable.not_not] at h
        exact ⟨by omega, by omega, h.1.2.symm⟩
      · cases h
abbrev no6 (f : Fo) : Bool := f.all fun b _ => decide (b.op ≠ 6)
theorem shape_one {f : Fo} (h : f.shapeF = true) : repOne f = true := by
  refine all_mono (fun b k hb => ?_) h
  simp only [decide_eq_true_eq]
  exact fun h5 => (shapeL_rep hb h5).1
theorem shape_bare {f : Fo} (h : f.shapeF = true) (h6 : no6 f = true) : bareOk f = true := by
  have h2 : f.all (fun b k => shapeL b k.deg && decide (b.op ≠ 6)) = true := by rw [all_and]; simp only [shapeF] at h; rw [h]; exact h6
  refine all_mono (fun b k hb => ?_) h2
  simp only [Bool.and_eq_true, decide_eq_true_eq] at hb ⊢
  by_cases h5 : b.op = 5
  · exact .inl h5
  · exact .inr (shapeL_bare hb.1 h5 hb.2)
theorem plain_fo (l : List Node) : plainS l = true ↔ ∃ f : Fo, f.deg = 1 ∧ l = f.lay 0 ∧ f.shapeF = true ∧ f.size ≤ 1024 ∧ no6 f = true := by
  have hno : ∀ f : Fo, (f.lay 0).all plainN = no6 f := fun f => lay_all0 fun n k _ => rfl
  constructor
  · intro h
    simp only [plainS, Bool.and_eq_true] at h
    obtain ⟨h1, h2⟩ := h
    rw [← right_eq] at h2
    obtain ⟨f, a, rfl, b, c⟩ := right_iff.1 h2
    exact ⟨f, a, rfl, b, c, by rw [← hno]; exact h1⟩
  · rintro ⟨f, a, rfl, b, c, d⟩
    simp only [plainS, Bool.and_eq_true]
    exact ⟨by rw [hno]; exact d, by rw [← right_eq]; exact right_iff.2 ⟨f, a, rfl, b, c⟩⟩

/-! A plan's nodes. -/
/-- A label that may stand in a plan. -/
def goodL (most : Int) (b : Lb) (k : Fo) : Bool := shapeL b k.deg && decide (b.op ≠ 6) && decide (b.op = 5 → b = repL 0 (-1) ∨ (b = repL b.lo b.hi ∧ k.isBytes = true ∧ 1 ≤ b.lo ∧ 2 ≤ b.hi ∧ most < b.hi))
abbrev goodP (most : Int) (f : Fo) : Bool := f.all (goodL most)
theorem shapeL_cat {d : Nat} (h : 2 ≤ d) : shapeL (opL 3) d = true := by
  simp only [shapeL, shapeOk, opL, List.length_replicate, ISet.none]
  simp [h]
theorem good_cat {most : Int} {k : Fo} (h : 2 ≤ k.deg) : goodL most (opL 3) k = true := by
  simp only [goodL, shapeL_cat h, Bool.true_and, Bool.and_eq_true, decide_eq_true_eq]
  exact ⟨by decide, fun h => absurd h (by decide)⟩
theorem good_alt {most : Int} {k : Fo} (h : k.deg = 2) : goodL most (opL 4) k = true := by
  simp only [goodL, h, Bool.and_eq_true, decide_eq_true_eq]
  exact ⟨⟨by decide, by decide⟩, fun h => absurd h (by decide)⟩
theorem good_empty {most : Int} : goodL most (opL 1) .nil = true := by
  simp only [goodL, Bool.and_eq_true, decide_eq_true_eq]
  exact ⟨⟨by decide, by decide⟩, fun h => absurd h (by decide)⟩
theorem good_star {most : Int} {k : Fo} (h : k.deg = 1) : goodL most (repL 0 (-1)) k = true := by
  simp only [goodL, h, Bool.and_eq_true, decide_eq_true_eq]
  exact ⟨⟨by decide, by decide⟩, by simp⟩
theorem good_rep {most lo hi : Int} {k : Fo} (h : k.deg = 1) (hb : k.isBytes = true) (h1 : 1 ≤ lo) (h2 : lo ≤ hi) (h3 : hi ≤ 4096) (h4 : 2 ≤ hi) (h5 : most < hi) : goodL most (repL lo hi) k = true := by
  simp only [goodL, h, Bool.and_eq_true, decide_eq_true_eq]
  refine ⟨⟨?_, by simp [repL]⟩, fun _ => .inr ⟨rfl, hb, h1, h4, h5⟩⟩
  have e : hi = -1 ∨ 1 ≤ hi ∧ hi ≤ 4096 ∧ lo ≤ hi := by omega
  have e1 : 0 ≤ lo := by omega
  have e2 : lo ≤ 4096 := by omega
  simp [shapeL, shapeOk, repL, e, e1, e2]
theorem all_one {P : Lb → Fo → Bool} {b : Lb} {k : Fo} : (one b k).all P = (P b k && k.all P) := by simp only [all, Bool.and_true]
section
variable {most : Int} {p : Fo} (hp : goodP most p = true) (hd : p.deg = 1)
include hp hd
theorem good_starT : goodP most p.starT = true := by
  simp only [goodP, starT, all_one, Bool.and_eq_true]; exact ⟨good_star hd, hp⟩
theorem good_rest : ∀ m, goodP most (restT p (m + 1)) = true
  | 0 => by
    simp only [goodP, restT, if_true, all_one, all_app, Bool.and_eq_true]
    exact ⟨good_alt (by simp only [deg_app, hd, deg]), ⟨good_empty, rfl⟩, hp⟩
  | m + 1 => by
    rw [restT, if_neg (by omega)]
    simp only [goodP, all_one, all_app, Bool.and_eq_true]
    refine ⟨good_alt (by simp only [deg_app, deg]), ⟨good_empty, rfl⟩, good_cat (by rw [deg_app, hd, rest_deg]; exact Nat.le_refl _), hp, good_rest m⟩
theorem good_copies : ∀ n, goodP most (copies p n) = true
  | 0 => rfl
  | n + 1 => by simp only [goodP, copies, all_app, Bool.and_eq_true]; exact ⟨hp, good_copies n⟩
omit hp in
theorem copies_deg : ∀ n, (copies p n).deg = n
  | 0 => rfl
  | n + 1 => by simp only [copies, deg_app, hd, copies_deg n]; omega
theorem good_row {lo hi : Int} (h0 : 0 ≤ lo) (h : hi = -1 ∨ 1 ≤ hi) : goodP most (p.rowT lo hi) = true := by
  have h1 : goodP most (rowOf p lo hi) = true := by
    simp only [goodP, rowOf, all_app, Bool.and_eq_true]
    refine ⟨good_copies hp hd _, ?_⟩
    split
    · exact good_starT hp hd
    · split
      · obtain ⟨m, hm⟩ : ∃ m, (hi - lo).toNat = m + 1 := ⟨(hi - lo).toNat - 1, by omega⟩
        rw [hm]; exact good_rest hp hd m
      · rfl
  have h2 : 1 ≤ (rowOf p lo hi).deg := by
    simp only [rowOf, deg_app, copies_deg hd]
    split
    · simp only [starT, deg]; omega
    · split
      · obtain ⟨m, hm⟩ : ∃ m, (hi - lo).toNat = m + 1 := ⟨(hi - lo).toNat - 1, by omega⟩
        rw [hm, rest_deg]; omega
      · omega
  unfold rowT catT
  split
  · exact h1
  · simp only [goodP, all_one, Bool.and_eq_true]
    exact ⟨good_cat (by omega), h1⟩
theorem good_repT {lo hi : Int} {bytes : Bool} (hm : 1 ≤ most) (hb : bytes = true → p.isBytes = true) (h0 : 0 ≤ lo ∧ lo ≤ 4096) (h : hi = -1 ∨ 1 ≤ hi ∧ hi ≤ 4096 ∧ lo ≤ hi) : goodP most (repT most lo hi bytes p) = true := by
  unfold repT
  split
  · exact good_row hp hd h0.1 (by omega)
  · rename_i hbt
    have hb := hb (by simpa using hbt)
    split
    · split
      · simp only [goodP, all_one, Bool.and_eq_true]
        exact ⟨good_rep hd hb (by omega) (by omega) (by omega) (by omega) (by omega), hp⟩
      · simp only [goodP, all_one, all_app, Bool.and_eq_true]
        exact ⟨good_alt (by simp only [deg_app, deg]), ⟨good_empty, rfl⟩, good_rep hd hb (by omega) (by omega) (by omega) (by omega) (by omega), hp⟩
    · split
      · rename_i hc
        simp only [goodP, all_one, all_app, Bool.and_eq_true]
        exact ⟨good_cat (by simp only [deg_app, deg, starT]; omega), ⟨good_rep hd hb (by omega) (by omega) (by omega) (by omega) (by omega), hp⟩, good_starT hp hd⟩
      · exact good_row hp hd h0.1 (by omega)
end
theorem isBytes_plan {most : Int} {k : Fo} (h : k.isBytes = true) : (k.planT most).isBytes = true := by
  match k, h with
  | .node b k1 r, h =>
    simp only [isBytes, decide_eq_true_eq] at h
    simp only [planT, h, show ¬ (2 : Int) = 5 by decide, if_false, app, isBytes, Lb.bare, decide_true]
theorem plan_good {most : Int} (hm : 1 ≤ most) : ∀ {f : Fo}, f.shapeF = true → no6 f = true → goodP most (f.planT most) = true
  | .nil, _, _ => rfl
  | .node b k r, h, h6 => by
    simp only [shapeF, no6, all, Bool.and_eq_true, decide_eq_true_eq] at h h6
    have hk := plan_good hm h.1.2 h6.1.2
    have hr := plan_good hm h.2 h6.2
    simp only [goodP, planT, all_app, Bool.and_eq_true]
    refine ⟨?_, hr⟩
    split
    · rename_i h5
      obtain ⟨q1, _, _, q4, q5, q6⟩ := shapeL_rep h.1.1 h5
      exact good_repT hk (by rw [planT_deg]; exact q1) hm isBytes_plan ⟨q4, q5⟩ q6
    · rename_i h5
      simp only [all_one, Bool.and_eq_true]
      refine ⟨?_, hk⟩
      rw [shapeL_bare h.1.1 h5 h6.1.1]
      simp only [goodL, planT_deg, Bool.and_eq_true, decide_eq_true_eq]
      exact ⟨⟨h.1.1, h6.1.1⟩, fun h => absurd h h5⟩
theorem good_shape {most : Int} {f : Fo} (h : goodP most f = true) : f.shapeF = true ∧ no6 f = true :=
  ⟨all_mono (fun b k hb => by simp only [goodL, Bool.and_eq_true] at hb; exact hb.1.1) h, all_mono (fun b k hb => by simp only [goodL, Bool.and_eq_true] at hb; exact hb.1.2) h⟩

/-! The plan of a plan. -/
theorem plan_again {most : Int} (hm : 1 ≤ most) : ∀ {f : Fo}, goodP most f = true → f.planT most = f
  | .nil, _ => rfl
  | .node b k r, h => by
    simp only [goodP, all, Bool.and_eq_true] at h
    obtain ⟨⟨h1, h2⟩, h3⟩ := h
    rw [planT, plan_again hm h2, plan_again hm h3]
    simp only [goodL, Bool.and_eq_true, decide_eq_true_eq] at h1
    obtain ⟨⟨a1, a2⟩, a3⟩ := h1
    have hone : ∀ b : Lb, (one b k).app r = .node b k r := fun b => rfl
    split
    · rename_i h5
      rcases a3 h5 with e | ⟨e, e1, e2, e3, e4⟩
      · have e5 : repT most b.lo b.hi k.isBytes k = one b k := by
          have r1 : k.rowT 0 (-1) = one (repL 0 (-1)) k := by simp only [rowT, rowOf, Int.toNat_zero, copies, app, if_true, catT, starT, deg]
          rw [e]
          simp only [repL]
          unfold repT
          split
          · exact r1
          · rw [if_neg (by omega), if_neg (by omega)]; exact r1
        rw [e5]; exact hone b
      · have e5 : repT most b.lo b.hi k.isBytes k = one b k := by
          unfold repT
          rw [e1, if_neg (by decide), if_pos e4, if_pos (by omega), ← e]
        rw [e5]; exact hone b
    · rename_i h5
      rw [shapeL_bare a1 h5 a2]; exact hone b
/-- Without repetitions a tree stays. -/
theorem plan_stay {most : Int} : ∀ {f : Fo}, f.shapeF = true → no6 f = true → f.all (fun b _ => decide (b.op ≠ 5)) = true → f.planT most = f
  | .nil, _, _, _ => rfl
  | .node b k r, h, h6, h5 => by
    simp only [shapeF, no6, all, Bool.and_eq_true, decide_eq_true_eq] at h h6 h5
    rw [planT, plan_stay h.1.2 h6.1.2 h5.1.2, plan_stay h.2 h6.2 h5.2, if_neg h5.1.1, shapeL_bare h.1.1 h5.1.1 h6.1.1]
    rfl

/-! What both tell. -/
theorem plan_tells {f : Fo} {most : Int} (hd : f.deg = 1) (hs : f.shapeF = true) (hz : f.size ≤ 1024) (h6 : no6 f = true) (hm : 1 ≤ most ∧ most ≤ 4096) :
    planS (f.lay 0) most = (if (f.planT most).size ≤ 1024 then ((f.planT most).lay 0, 0) else ([], 3)) := by
  have hp : plainS (f.lay 0) = true := (plain_fo _).2 ⟨f, hd, rfl, hs, hz, h6⟩
  have hsub := sub_lay hd
  obtain ⟨a, _⟩ := plan_ok most f [(f.size : Int) - 1] (f.lay 0).length hsub (by rw [lay_len]; exact Nat.le_refl _) (shape_one hs)
  obtain ⟨a1, a2⟩ := a _ rfl []
  simp only [List.length_nil, Nat.zero_add, List.nil_append, lay_len] at a1 a2
  rw [planS, if_neg (by rw [hp]; simp; omega), lay_len]
  by_cases h : (f.planT most).size ≤ 1024
  · have e := congrArg Prod.fst (a1 h)
    simp only [sg] at e
    rw [if_pos h, e, if_neg (by rw [lay_len]; omega)]
  · have e := a2 (by omega)
    rw [if_neg h, if_pos e]
theorem ref8utells {f : Fo} {most : Int} (hd : f.deg = 1) (hs : f.shapeF = true) (hz : f.size ≤ 1024) (h6 : no6 f = true) (hm : 1 ≤ most ∧ most ≤ 4096) :
    ref8S (f.lay 0) most = (if (f.planT most).size ≤ 1024 then ((f.planT most).lay 0, 0) else ([], 3)) ∧ ((planR (f.lay 0) most (f.lay 0).length (((f.lay 0).length : Int) - 1) ([], false)).1.2 = false → (planR (f.lay 0) most (f.lay 0).length (((f.lay 0).length : Int) - 1) ([], false)).1.1 = (f.planT most).lay 0 ∧ (f.planT most).size ≤ 1024) := by
  have hp : plainS (f.lay 0) = true := (plain_fo _).2 ⟨f, hd, rfl, hs, hz, h6⟩
  have hsub := sub_lay hd
  obtain ⟨a, _⟩ := planR_ok most f [(f.size : Int) - 1] (f.lay 0).length hsub (by rw [lay_len]; exact Nat.le_refl _) (shape_one hs) (shape_bare hs h6)
  obtain ⟨a1, a2⟩ := (a _ rfl).1 [] (Nat.zero_le _)
  simp only [List.length_nil, Nat.zero_add, List.nil_append, lay_len, sgR] at a1 a2
  have hg := good_shape (plan_good hm.1 hs h6 (most := most))
  rw [ref8S, if_neg (by rw [hp]; simp; omega)]
  simp only [lay_len]
  by_cases h : (f.planT most).size ≤ 1024
  · have e := congrArg Prod.fst (a1 h)
    simp only at e
    rw [if_pos h, e]
    have hr : right4 ((f.planT most).lay 0) = true := by
      rw [← right_eq]
      exact right_iff.2 ⟨_, by rw [planT_deg]; exact hd, rfl, hg.1, h⟩
    refine ⟨?_, fun _ => ⟨rfl, h⟩⟩
    rw [hr]; rfl
  · have e := a2 (by omega)
    rw [if_neg h, e]
    exact ⟨rfl, fun h => by cases h⟩

theorem plan_eq (l : List Node) (most : Int) : ref8S l most = planS l most := by
  by_cases hm : 1 ≤ most ∧ most ≤ 4096
  · cases hp : plainS l
    · rw [ref8S, planS, if_pos (.inl hp), if_pos (.inr (.inr hp))]
    · obtain ⟨f, a, rfl, b, c, d⟩ := (plain_fo l).1 hp
      rw [(ref8utells a b c d hm).1, plan_tells a b c d hm]
  · rw [ref8S, planS, if_pos (by omega), if_pos (by omega)]
/-- What a plan's nodes are like. -/
theorem planS_tree (l : List Node) (most : Int) : (planS l most = ([], 1) ∧ ¬ (plainS l = true ∧ 1 ≤ most ∧ most ≤ 4096)) ∨ (plainS l = true ∧ (1 ≤ most ∧ most ≤ 4096) ∧ ∃ f : Fo, f.deg = 1 ∧ l = f.lay 0 ∧ f.shapeF = true ∧ f.size ≤ 1024 ∧ no6 f = true ∧ planS l most = (if (f.planT most).size ≤ 1024 then ((f.planT most).lay 0, 0) else ([], 3))) := by
  by_cases hm : 1 ≤ most ∧ most ≤ 4096
  · cases hp : plainS l
    · left
      exact ⟨by rw [planS, if_pos (.inr (.inr hp))], by simp⟩
    · right
      obtain ⟨f, a, rfl, b, c, d⟩ := (plain_fo l).1 hp
      exact ⟨rfl, hm, f, a, rfl, b, c, d, plan_tells a b c d hm⟩
  · left
    exact ⟨by rw [planS, if_pos (by omega)], fun h => hm h.2⟩
theorem good_plain {most : Int} {f : Fo} (hd : f.deg = 1) (hg : goodP most f = true) (hz : f.size ≤ 1024) : plainS (f.lay 0) = true :=
  (plain_fo _).2 ⟨f, hd, rfl, (good_shape hg).1, hz, (good_shape hg).2⟩
theorem plainS_nd {l : List Node} (h : plainS l = true) : (∀ n ∈ l, n.name.size ≤ maxLen ∧ n.l.length ≤ maxLen) ∧ l.length ≤ 1024 := by
  simp only [plainS, Bool.and_eq_true] at h
  have hr := h.2
  rw [← right_eq] at hr
  exact ⟨rightS_bounds hr, (rightS_kids hr).2.2.2⟩
theorem planS_nd (l : List Node) (most : Int) : (∀ n ∈ (planS l most).1, n.name.size ≤ maxLen ∧ n.l.length ≤ maxLen) ∧ (planS l most).1.length ≤ 1024 := by
  rcases planS_tree l most with ⟨e, _⟩ | ⟨_, hm, f, a, _, b, c, d, e⟩
  · rw [e]; exact ⟨fun n hn => by simp at hn, by simp⟩
  · rw [e]
    split
    · rename_i h
      exact plainS_nd (good_plain (by rw [planT_deg]; exact a) (plan_good hm.1 b d (most := most)) h)
    · exact ⟨fun n hn => by simp at hn, by simp⟩
theorem planR_nd {l : List Node} {most : Int} (h : plainS l = true) (hm : 1 ≤ most ∧ most ≤ 4096) (hl : (planR l most l.length ((l.length : Int) - 1) ([], false)).1.2 = false) : ∀ n ∈ (planR l most l.length ((l.length : Int) - 1) ([], false)).1.1, n.l.length ≤ maxLen ∧ n.name.size ≤ maxLen := by
  obtain ⟨f, a, rfl, b, c, d⟩ := (plain_fo l).1 h
  obtain ⟨e1, e2⟩ := (ref8utells a b c d hm).2 hl
  rw [e1]
  intro n hn
  exact And.symm ((plainS_nd (good_plain (by rw [planT_deg]; exact a) (plan_good hm.1 b d (most := most)) e2)).1 n hn)
/-- Whether a tree is a plan, by its forest. -/
def isP (f : Fo) : Bool := f.all fun b k => !decide (b.op = 5 ∧ ¬ (b.lo = 0 ∧ b.hi = -1) ∧ (k.isBytes = false ∨ b.lo < 1 ∨ b.hi < 2))
theorem right_fo {f : Fo} (hd : f.deg = 1) (hs : f.shapeF = true) (hz : f.size ≤ 1024) (h6 : no6 f = true) : rightP (f.lay 0) = isP f := by
  rw [rightP, (plain_fo _).2 ⟨f, hd, rfl, hs, hz, h6⟩, Bool.true_and]
  have h1 := shape_one hs
  have key : (f.lay 0).all (fun n => (!badB (f.lay 0) n) && decide (n.op = 5 → n.l.length = 1)) = f.all fun b k => (!decide (b.op = 5 ∧ ¬ (b.lo = 0 ∧ b.hi = -1) ∧ (k.isBytes = false ∨ b.lo < 1 ∨ b.hi < 2))) && decide (b.op = 5 → k.deg = 1) := by
    refine lay_all0 fun n k hk => ?_
    have hl := hk.len
    by_cases h5 : n.op = 5
    · by_cases h1 : k.deg = 1
      · have hb := isBytes_sub hk h1
        have e : ((nAt (f.lay 0) (kid0 n)).op ≠ 2) = (k.isBytes = false) := by
          rw [← hb]; simp
        simp only [badB, e, hl]
      · simp only [hl, h5, h1, forall_const, decide_false, Bool.and_false]
    · simp [badB, h5]
  have hall : (f.lay 0).all (fun n => decide (n.op = 5 → n.l.length = 1)) = true := by
    rw [lay_all0 (P := fun b k => decide (b.op = 5 → k.deg = 1)) fun n k hk => by rw [hk.len]]; exact h1
  rw [all_and] at key
  unfold repOne at h1
  rw [h1, Bool.and_true] at key
  rw [isP, ← key]
  rw [Bool.eq_iff_iff, List.all_eq_true, List.all_eq_true]
  rw [List.all_eq_true] at hall
  constructor
  · intro h n hn; rw [h n hn, hall n hn]; rfl
  · intro h n hn; have := h n hn; simp only [Bool.and_eq_true] at this; exact this.1
theorem good_isP {most : Int} {f : Fo} (hg : goodP most f = true) : isP f = true := by
  refine all_mono (fun b k hb => ?_) hg
  simp only [goodL, Bool.and_eq_true, decide_eq_true_eq] at hb
  simp only [Bool.not_eq_true', decide_eq_false_iff_not]
  rintro ⟨h5, h1, h2⟩
  rcases hb.2 h5 with e | ⟨_, e1, e2, e3, _⟩
  · rw [e] at h1; exact h1 ⟨rfl, rfl⟩
  · rcases h2 with h2 | h2 | h2
    · rw [e1] at h2; cases h2
    · omega
    · omega
/-- A plan is one. -/
theorem plan_right {l : List Node} {most : Int} (h : (planS l most).2 = 0) : rightP (planS l most).1 = true := by
  rcases planS_tree l most with ⟨e, _⟩ | ⟨_, hm, f, a, _, b, c, d, e⟩
  · rw [e] at h; cases h
  · rw [e] at h ⊢
    split at h
    · rename_i hz
      rw [if_pos hz]
      have hg := plan_good hm.1 b d (most := most)
      rw [right_fo (by rw [planT_deg]; exact a) (good_shape hg).1 hz (good_shape hg).2]
      exact good_isP hg
    · cases h
theorem counted_eq (l : List Node) : (if rightP l = true then l.countP (fun n => decide (n.op = 5 ∧ n.hi ≠ -1)) else 0) = countedP l := by
  unfold countedP
  split
  · rename_i h
    rw [rightP, Bool.and_eq_true, List.all_eq_true] at h
    refine List.countP_congr fun n hn => ?_
    have hb := h.2 n hn
    have hpl := h.1
    simp only [plainS, Bool.and_eq_true] at hpl
    have hr := hpl.2
    rw [← right_eq] at hr
    simp only [badB, Bool.not_eq_true', decide_eq_false_iff_not] at hb
    simp only [cntB, decide_eq_true_eq]
    constructor
    · rintro ⟨h5, h1⟩; exact ⟨h5, fun h => h1 h.2⟩
    · rintro ⟨h5, h1⟩
      refine ⟨h5, fun h => hb ⟨h5, h1, ?_⟩⟩
      omega
  · rfl

/-- What PlanRight tells, of a tree that could be planned. -/
theorem plan_facts {l : List Node} {most : Int} (h : (planS l most).2 = 0) : (∀ n ∈ (planS l most).1, n.op = 5 → n.hi = -1 ∨ most < n.hi) ∧ (l.all (fun n => decide (n.op ≠ 5)) = true → (planS l most).1 = l) := by
  rcases planS_tree l most with ⟨e, _⟩ | ⟨_, hm, f, a, rfl, b, c, d, e⟩
  · rw [e] at h; cases h
  · rw [e] at h ⊢
    split at h
    · rename_i hz
      rw [if_pos hz]
      have hg := plan_good hm.1 b d (most := most)
      constructor
      · have hall : ((f.planT most).lay 0).all (fun n => decide (n.op = 5 → n.hi = -1 ∨ most < n.hi)) = true := by
          rw [lay_all0 (P := fun b _ => decide (b.op = 5 → b.hi = -1 ∨ most < b.hi)) fun n k _ => rfl]
          refine all_mono (fun b k hb => ?_) hg
          simp only [goodL, Bool.and_eq_true, decide_eq_true_eq] at hb ⊢
          intro h5
          rcases hb.2 h5 with e | ⟨_, _, _, _, e⟩
          · rw [e]; exact .inl rfl
          · exact .inr e
        intro n hn
        exact of_decide_eq_true (List.all_eq_true.1 hall n hn)
      · intro h5
        rw [lay_all0 (P := fun b _ => decide (b.op ≠ 5)) fun n k _ => rfl] at h5
        simp only [plan_stay b d h5]
    · cases h
theorem plan_errs {l : List Node} {most : Int} (hm : 1 ≤ most ∧ most ≤ 4096) (h : (planS l most).2 ≠ 0) : (planS l most).1 = [] ∧ ((planS l most).2 = 3 ∨ plainS l = false) := by
  rcases planS_tree l most with ⟨e, e2⟩ | ⟨_, _, f, a, rfl, b, c, d, e⟩
  · rw [e]
    refine ⟨rfl, .inr ?_⟩
    cases hp : plainS l
    · rfl
    · exact absurd ⟨hp, hm⟩ e2
  · rw [e] at h ⊢
    split at h
    · exact absurd rfl h
    · rename_i hz
      rw [if_neg hz]
      exact ⟨rfl, .inl rfl⟩
end Go.Rad
/- Places of plans, and what may follow what: by nodes one by one, and by forests. -/
namespace Go.Rad
open Go Fo
/-- A place. -/
structure Po where
  s : ISet
  lo : Int
  hi : Int
  rule : Int
  last : Bool
  next : List Int
  deriving DecidableEq
/-- What is told of a node: whether it may be nothing, its first places, its last ones. -/
structure En where
  null : Bool
  first : List Int
  last : List Int
instance : Inhabited En := ⟨⟨false, [], []⟩⟩
def enN : En := ⟨false, [], []⟩
def insD (x : Int) : List Int → List Int
  | [] => [x]
  | y :: l => if x < y then x :: y :: l else if x = y then y :: l else y :: insD x l
/-- Places of both lists, rising. -/
def uni (a b : List Int) : List Int := (a ++ b).foldr insD []
theorem insD_mem (x y : Int) : ∀ l : List Int, y ∈ insD x l ↔ y = x ∨ y ∈ l
  | [] => by simp [insD]
  | z :: l => by
    rw [insD]
    split
    · simp
    · split
      · rename_i h; subst h; simp
      · simp only [List.mem_cons, insD_mem x y l]
        constructor
        · rintro (h | h | h)
          · exact .inr (.inl h)
          · exact .inl h
          · exact .inr (.inr h)
        · rintro (h | h | h)
          · exact .inr (.inl h)
          · exact .inl h
          · exact .inr (.inr h)
theorem insD_rise (x : Int) : ∀ {l : List Int}, l.Pairwise (· < ·) → (insD x l).Pairwise (· < ·)
  | [], _ => List.pairwise_singleton _ _
  | z :: l, h => by
    rw [insD]
    rw [List.pairwise_cons] at h
    split
    · rename_i hx
      refine List.pairwise_cons.2 ⟨fun y hy => ?_, List.pairwise_cons.2 h⟩
      rcases List.mem_cons.1 hy with rfl | hy
      · exact hx
      · have := h.1 y hy; omega
    · split
      · exact List.pairwise_cons.2 h
      · refine List.pairwise_cons.2 ⟨fun y hy => ?_, insD_rise x h.2⟩
        rcases (insD_mem x y l).1 hy with rfl | hy
        · omega
        · exact h.1 y hy
theorem uni_mem0 (y : Int) : ∀ l : List Int, y ∈ l.foldr insD [] ↔ y ∈ l
  | [] => by simp
  | x :: l => by rw [List.foldr_cons, insD_mem, uni_mem0 y l, List.mem_cons]
theorem uni_rise0 : ∀ l : List Int, (l.foldr insD []).Pairwise (· < ·)
  | [] => .nil
  | x :: l => by rw [List.foldr_cons]; exact insD_rise x (uni_rise0 l)
theorem uni_lib (a b : List Int) : Lib.compact (sortI (a ++ b)) = uni a b := compact_sort (uni_rise0 _) fun x => (uni_mem0 x _).symm
def lnk1 (to : List Int) (ps : List Po) (i : Int) : List Po := ps.modify i.toNat fun p => { p with next := uni p.next to }
def lnk (from' to : List Int) (ps : List Po) : List Po := from'.foldl (lnk1 to) ps
def putG (p : Po) (ps : List Po) : List Po × En := (ps ++ [p], ⟨false, [(ps.length : Int)], [(ps.length : Int)]⟩)
def thenE (x y : En) : En := ⟨x.null && y.null, if x.null then uni x.first y.first else x.first, if y.null then uni x.last y.last else y.last⟩
def thenG (s : List Po × En) (y : En) : List Po × En := (lnk s.2.last y.first s.1, thenE s.2 y)
def orE (x y : En) : En := ⟨x.null || y.null, uni x.first y.first, uni x.last y.last⟩
def catG (ps : List Po) (ks : List En) : List Po × En := ks.foldl thenG (ps, ⟨true, [], []⟩)
def altG (ks : List En) : En := ks.foldl orE enN
def nodeG (rule : Int) (b : Lb) (ksn : ISet) (ks : List En) (ps : List Po) : List Po × En :=
  if b.op = 1 then (ps, ⟨true, [], []⟩)
  else if b.op = 2 then putG ⟨b.s, 1, 1, rule, false, []⟩ ps
  else if b.op = 5 then (if 0 < b.hi then putG ⟨ksn, b.lo, b.hi, rule, false, []⟩ ps else (lnk (ks.headD enN).last (ks.headD enN).first ps, { ks.headD enN with null := true }))
  else if b.op = 3 then catG ps ks
  else (ps, altG ks)
def cntd (b : Lb) : Bool := decide (b.op = 5 ∧ 0 < b.hi)
def setOf : Fo → ISet
  | .nil => ISet.none
  | .node b _ _ => b.s
/-- By forests. -/
def glF (rule : Int) : Fo → List Po → List Po × List En
  | .nil, ps => (ps, [])
  | .node b k r, ps =>
    let s1 := if cntd b then (ps, []) else glF rule k ps
    let s2 := nodeG rule b (setOf k) s1.2 s1.1
    let s3 := glF rule r s2.1
    (s3.1, s2.2 :: s3.2)
/-- Node by node: which nodes are within a counted repetition, and what is told of each. -/
def innerS (l : List Node) (i : Nat) : Bool := l.any fun n => decide (n.op = 5 ∧ 0 < n.hi ∧ n.l.headD 0 = (i : Int))
def stepG (l : List Node) (rule : Int) (s : List Po × List En) (n : Node) : List Po × List En :=
  if n.op = 2 ∧ innerS l s.2.length = true then (s.1, s.2 ++ [enN])
  else
    let r := nodeG rule n.lb (nAt l (n.l.headD 0)).s (n.l.map fun k => s.2.getD k.toNat enN) s.1
    (r.1, s.2 ++ [r.2])
def listG (l : List Node) (rule : Int) (ps : List Po) : List Po × List En := l.foldl (stepG l rule) (ps, [])

/-! Both tell the same. -/
/-- The nodes within counted repetitions of a forest. -/
def inP : Fo → Nat → Nat → Prop
  | .nil, _, _ => False
  | .node b k r, i, j => (cntd b = true ∧ j + 1 = i + k.size) ∨ inP k i j ∨ inP r (i + k.size + 1) j
theorem inP_lt : ∀ (f : Fo) (i j : Nat), f.shapeF = true → inP f i j → i ≤ j ∧ j + 1 < i + f.size
  | .nil, _, _, _, h => h.elim
  | .node b k r, i, j, hs, h => by
    simp only [shapeF, all, Bool.and_eq_true] at hs
    simp only [size]
    rcases h with ⟨h1, h2⟩ | h | h
    · simp only [cntd, decide_eq_true_eq] at h1
      have := (shapeL_rep hs.1.1 h1.1).1
      have := deg_le k
      omega
    · have := inP_lt k i j hs.1.2 h; omega
    · have := inP_lt r _ j hs.2 h; omega
theorem inner_lay : ∀ (f : Fo) (i j : Nat), f.shapeF = true → ((∃ n ∈ f.lay i, n.op = 5 ∧ 0 < n.hi ∧ n.l.headD 0 = (j : Int)) ↔ inP f i j)
  | .nil, _, _, _ => by simp [lay, inP]
  | .node b k r, i, j, hs => by
    simp only [shapeF, all, Bool.and_eq_true] at hs
    simp only [lay, List.mem_append, List.mem_cons, inP]
    rw [← inner_lay k i j hs.1.2, ← inner_lay r (i + k.size + 1) j hs.2]
    have hb : (b.op = 5 ∧ 0 < b.hi ∧ (k.roots i).headD 0 = (j : Int)) ↔ (cntd b = true ∧ j + 1 = i + k.size) := by
      simp only [cntd, decide_eq_true_eq]
      constructor
      · rintro ⟨h1, h2, h3⟩
        have hd := (shapeL_rep hs.1.1 h1).1
        rw [roots_one hd, List.headD_cons] at h3
        have := size_pos hd
        exact ⟨⟨h1, h2⟩, by omega⟩
      · rintro ⟨⟨h1, h2⟩, h3⟩
        have hd := (shapeL_rep hs.1.1 h1).1
        rw [roots_one hd, List.headD_cons]
        have := size_pos hd
        exact ⟨h1, h2, by omega⟩
    constructor
    · rintro ⟨n, h1 | h1 | h1, h2⟩
      · exact .inr (.inl ⟨n, h1, h2⟩)
      · subst h1; exact .inl (hb.1 h2)
      · exact .inr (.inr ⟨n, h1, h2⟩)
    · rintro (h | ⟨n, h1, h2⟩ | ⟨n, h1, h2⟩)
      · exact ⟨_, .inr (.inl rfl), hb.2 h⟩
      · exact ⟨n, .inl h1, h2⟩
      · exact ⟨n, .inr (.inr h1), h2⟩
theorem glF_len (rule : Int) : ∀ (f : Fo) (ps : List Po), (glF rule f ps).2.length = f.deg
  | .nil, _ => rfl
  | .node b k r, ps => by simp only [glF, List.length_cons, glF_len rule r, deg]
theorem node_irr {rule : Int} {b : Lb} {s s' : ISet} {ks : List En} {ps : List Po} (h : cntd b = false) : nodeG rule b s ks ps = nodeG rule b s' ks ps := by
  have h : ¬ (b.op = 5 ∧ 0 < b.hi) := by simpa [cntd] using h
  unfold nodeG
  by_cases h5 : b.op = 5
  · have : ¬ 0 < b.hi := fun e => h ⟨h5, e⟩
    simp only [if_neg this]
  · simp only [if_neg h5]
theorem node_cnt {rule : Int} {b : Lb} {s : ISet} {ks ks' : List En} {ps : List Po} (h : cntd b = true) : nodeG rule b s ks ps = nodeG rule b s ks' ps := by
  have h : b.op = 5 ∧ 0 < b.hi := by simpa [cntd] using h
  unfold nodeG
  rw [if_neg (by omega), if_neg (by omega), if_pos h.1, if_pos h.2, if_neg (by omega), if_neg (by omega), if_pos h.1, if_pos h.2]
theorem bytes_one {k : Fo} (hd : k.deg = 1) (hb : k.isBytes = true) (hs : k.shapeF = true) : ∃ b, k = .node b .nil .nil ∧ b.op = 2 := by
  match k, hd with
  | .node b c .nil, _ =>
    simp only [isBytes, decide_eq_true_eq] at hb
    simp only [shapeF, all, Bool.and_eq_true] at hs
    have h1 := hs.1.1
    simp only [shapeL, shapeOk, hb] at h1
    simp only [show ¬ (2 : Int) = 1 by decide, if_false, if_true, Bool.and_eq_true, decide_eq_true_eq, List.length_replicate] at h1
    match c, h1.2 with
    | .nil, _ => exact ⟨b, rfl, hb⟩
/-- A forest's nodes one by one: the places, and what is told of its roots. -/
theorem run_lay (l : List Node) (rule : Int) : ∀ (f : Fo) (i : Nat) (ps : List Po) (al : List En), f.shapeF = true → isP f = true → (∀ (j : Nat) (n : Node), (f.lay i)[j]? = some n → l[i + j]? = some n) → al.length = i → (∀ j, i ≤ j → j < i + f.size → (innerS l j = true ↔ inP f i j)) →
    ∃ A, (f.lay i).foldl (stepG l rule) (ps, al) = ((glF rule f ps).1, al ++ A) ∧ A.length = f.size ∧ (f.roots i).map (fun k => (al ++ A).getD k.toNat enN) = (glF rule f ps).2
  | .nil, i, ps, al, _, _, _, _, _ => ⟨[], by simp [lay, glF], rfl, by simp [roots, glF]⟩
  | .node b k r, i, ps, al, hs, hp, hget, hal, hin => by
    simp only [shapeF, isP, all, Bool.and_eq_true] at hs hp
    simp only [size] at hin
    have hkl : (k.lay i).length = k.size := lay_len k i
    have hgk : ∀ (j : Nat) (n : Node), (k.lay i)[j]? = some n → l[i + j]? = some n := fun j n h => by
      refine hget j n ?_
      have := (List.getElem?_eq_some_iff.1 h).1
      rw [lay, List.getElem?_append_left this]; exact h
    have hgr : ∀ (j : Nat) (n : Node), (r.lay (i + k.size + 1))[j]? = some n → l[i + k.size + 1 + j]? = some n := fun j n h => by
      have := hget (k.size + 1 + j) n (by
        rw [lay, List.getElem?_append_right (by omega), hkl, show k.size + 1 + j - k.size = j + 1 by omega, List.getElem?_cons_succ]; exact h)
      rwa [show i + (k.size + 1 + j) = i + k.size + 1 + j by omega] at this
    simp only [lay, List.foldl_append, List.foldl_cons]
    -- the kids
    have hkid : ∃ A, (k.lay i).foldl (stepG l rule) (ps, al) = ((if cntd b then (ps, []) else glF rule k ps).1, al ++ A) ∧ A.length = k.size ∧ (cntd b = false → (k.roots i).map (fun k => (al ++ A).getD k.toNat enN) = (glF rule k ps).2) ∧ (cntd b = true → (nAt l ((k.roots i).headD 0)).s = setOf k) := by
      cases hc : cntd b
      · have hki : ∀ j, i ≤ j → j < i + k.size → (innerS l j = true ↔ inP k i j) := fun j h1 h2 => by
          rw [hin j h1 (by omega)]
          simp only [inP, hc, Bool.false_eq_true, false_and, false_or]
          constructor
          · rintro (h | h)
            · exact h
            · have := inP_lt r _ j hs.2 h; omega
          · exact .inl
        obtain ⟨A, h1, h2, h3⟩ := run_lay l rule k i ps al hs.1.2 hp.1.2 hgk hal hki
        exact ⟨A, by rw [h1]; rfl, h2, fun _ => h3, fun h => by cases h⟩
      · have h5 : b.op = 5 ∧ 0 < b.hi := by simpa [cntd] using hc
        have hd := (shapeL_rep hs.1.1 h5.1).1
        have hb : k.isBytes = true := by
          have := hp.1.1
          simp only [Bool.not_eq_true', decide_eq_false_iff_not] at this
          cases hx : k.isBytes
          · exact absurd ⟨h5.1, by omega, .inl hx⟩ this
          · rfl
        obtain ⟨b', rfl, h2⟩ := bytes_one hd hb hs.1.2
        have hii : innerS l i = true := (hin i (Nat.le_refl _) (by omega)).2 (.inl ⟨hc, rfl⟩)
        have h0 := hgk 0 _ rfl
        refine ⟨[enN], ?_, rfl, fun h => (nomatch h), fun _ => ?_⟩
        · simp only [lay, List.nil_append, List.foldl_cons, List.foldl_nil, if_true]
          rw [stepG, if_pos ⟨h2, by rw [hal]; exact hii⟩]
        · simp only [roots, size, Nat.add_zero, List.headD_cons, setOf]
          rw [nAt_get (by simpa using h0)]
    obtain ⟨A, h1, h2, h3, h4⟩ := hkid
    rw [h1]
    have hno : ¬ innerS l (al ++ A).length = true := by
      rw [List.length_append, hal, h2, hin (i + k.size) (by omega) (by omega)]
      rintro (⟨_, h⟩ | h | h)
      · omega
      · have := inP_lt k i _ hs.1.2 h; omega
      · have := inP_lt r _ _ hs.2 h; omega
    have hst : stepG l rule ((if cntd b then (ps, []) else glF rule k ps).1, al ++ A) (b.node (k.roots i)) = ((nodeG rule b (setOf k) (if cntd b then (ps, []) else glF rule k ps).2 (if cntd b then (ps, []) else glF rule k ps).1).1, al ++ A ++ [(nodeG rule b (setOf k) (if cntd b then (ps, []) else glF rule k ps).2 (if cntd b then (ps, []) else glF rule k ps).1).2]) := by
      rw [stepG, if_neg (fun h => hno h.2)]
      simp only
      cases hc : cntd b
      · simp only [Bool.false_eq_true, if_false]
        rw [h3 hc, node_irr (s' := setOf k) hc]
      · simp only [if_true]
        rw [h4 hc, node_cnt (ks' := []) hc]
    rw [hst]
    have hlen : (al ++ A ++ [(nodeG rule b (setOf k) (if cntd b then (ps, []) else glF rule k ps).2 (if cntd b then (ps, []) else glF rule k ps).1).2]).length = i + k.size + 1 := by
      simp only [List.length_append, List.length_cons, List.length_nil, hal, h2]
    have hri : ∀ j, i + k.size + 1 ≤ j → j < i + k.size + 1 + r.size → (innerS l j = true ↔ inP r (i + k.size + 1) j) := fun j h1 h2 => by
      rw [hin j (by omega) (by omega)]
      constructor
      · rintro (⟨_, h⟩ | h | h)
        · omega
        · have := inP_lt k i _ hs.1.2 h; omega
        · exact h
      · exact fun h => .inr (.inr h)
    obtain ⟨A', g1, g2, g3⟩ := run_lay l rule r (i + k.size + 1) (nodeG rule b (setOf k) (if cntd b then (ps, []) else glF rule k ps).2 (if cntd b then (ps, []) else glF rule k ps).1).1 _ hs.2 hp.2 hgr hlen hri
    rw [g1]
    generalize hE : (nodeG rule b (setOf k) (if cntd b then (ps, []) else glF rule k ps).2 (if cntd b then (ps, []) else glF rule k ps).1) = S at g3 hlen ⊢
    refine ⟨A ++ [S.2] ++ A', ?_, ?_, ?_⟩
    · simp only [glF, hE, List.append_assoc]
    · simp only [List.length_append, List.length_cons, List.length_nil, h2, g2, size]
    · simp only [roots, List.map_cons, glF, hE, ← g3]
      have hassoc : al ++ (A ++ [S.2] ++ A') = al ++ A ++ [S.2] ++ A' := by simp only [List.append_assoc]
      rw [hassoc]
      congr 1
      rw [Int.toNat_natCast, List.getD_eq_getElem?_getD, List.append_assoc (al ++ A), List.getElem?_append_right (by simp only [List.length_append, hal, h2]; exact Nat.le_refl _)]
      simp [hal, h2]
theorem list_tree {f : Fo} (hd : f.deg = 1) (hs : f.shapeF = true) (hp : isP f = true) (rule : Int) (ps : List Po) : (listG (f.lay 0) rule ps).1 = (glF rule f ps).1 ∧ (listG (f.lay 0) rule ps).2.getLastD enN = (glF rule f ps).2.headD enN ∧ (listG (f.lay 0) rule ps).2.length = f.size := by
  obtain ⟨A, h1, h2, h3⟩ := run_lay (f.lay 0) rule f 0 ps [] hs hp (fun j n h => by rw [Nat.zero_add]; exact h) rfl fun j _ h => by
    rw [← inner_lay f 0 j hs]
    simp only [innerS, List.any_eq_true, decide_eq_true_eq]
  rw [listG, h1]
  simp only [List.nil_append] at h3 ⊢
  refine ⟨trivial, ?_, h2⟩
  rw [← h3, roots_one hd]
  have := size_pos hd
  simp only [List.map_cons, List.map_nil, List.headD_cons]
  rw [List.getLastD_eq_getLast?, List.getLast?_eq_getElem?, List.getD_eq_getElem?_getD, h2]
  congr 2
  omega
end Go.Rad
/- Rising lists of places; places keep theirs so. -/
namespace Go.Rad
open Go Fo
/-- Places below n, rising. -/
def Rs (n : Nat) (l : List Int) : Prop := l.Pairwise (· < ·) ∧ ∀ x ∈ l, 0 ≤ x ∧ x < (n : Int)
theorem rs_nil (n : Nat) : Rs n [] := ⟨.nil, fun x h => by simp at h⟩
theorem rs_one {n k : Nat} (h : k < n) : Rs n [(k : Int)] := ⟨List.pairwise_singleton _ _, fun x hx => by rw [List.mem_singleton.1 hx]; omega⟩
theorem rs_mono {n m : Nat} {l : List Int} (h : Rs n l) (hm : n ≤ m) : Rs m l := ⟨h.1, fun x hx => by have := h.2 x hx; omega⟩
theorem rise_len : ∀ {l : List Int} {a n : Int}, l.Pairwise (· < ·) → (∀ x ∈ l, a ≤ x ∧ x < n) → a ≤ n → (l.length : Int) ≤ n - a
  | [], a, n, _, _, h => by simp; omega
  | x :: l, a, n, hp, hb, h => by
    rw [List.pairwise_cons] at hp
    have hx := hb x (by simp)
    have := rise_len (l := l) (a := x + 1) (n := n) hp.2 (fun y hy => by have h1 := hp.1 y hy; have h2 := hb y (by simp [hy]); omega) (by omega)
    simp only [List.length_cons]
    omega
theorem rs_len {n : Nat} {l : List Int} (h : Rs n l) : l.length ≤ n := by
  have := rise_len (a := 0) (n := n) h.1 h.2 (by omega)
  omega
theorem uni_eq {n : Nat} {a b : List Int} (ha : ∀ x ∈ a, 0 ≤ x ∧ x < (n : Int)) (hb : ∀ x ∈ b, 0 ≤ x ∧ x < (n : Int)) : Rs n (uni a b) ∧ ∀ x, x ∈ uni a b ↔ x ∈ a ∨ x ∈ b := by
  obtain ⟨c, hc⟩ : ∃ c, c = ((List.range n).filter fun (i : Nat) => decide ((i : Int) ∈ a ∨ (i : Int) ∈ b)).map fun (i : Nat) => (i : Int) := ⟨_, rfl⟩
  have h1 : c.Pairwise (· < ·) := by
    rw [hc, List.pairwise_map]
    exact (List.pairwise_lt_range.filter _).imp fun h => by omega
  have h2 : ∀ x, x ∈ c ↔ x ∈ a ∨ x ∈ b := by
    intro x
    rw [hc]
    simp only [List.mem_map, List.mem_filter, List.mem_range, decide_eq_true_eq]
    constructor
    · rintro ⟨i, ⟨_, h⟩, rfl⟩; exact h
    · intro h
      have hx : 0 ≤ x ∧ x < (n : Int) := h.elim (ha x) (hb x)
      exact ⟨x.toNat, ⟨by omega, by rw [Int.toNat_of_nonneg hx.1]; exact h⟩, Int.toNat_of_nonneg hx.1⟩
  have h3 : uni a b = c := by rw [← uni_lib]; exact compact_sort h1 fun x => by rw [List.mem_append, h2]
  rw [h3]
  exact ⟨⟨h1, fun x hx => ((h2 x).1 hx).elim (ha x) (hb x)⟩, h2⟩
theorem rs_uni {n : Nat} {a b : List Int} (ha : Rs n a) (hb : Rs n b) : Rs n (uni a b) := (uni_eq ha.2 hb.2).1
theorem uni_nil {n : Nat} {a : List Int} (ha : Rs n a) : uni [] a = a := by
  obtain ⟨h1, h2⟩ := uni_eq (rs_nil n).2 ha.2
  exact rise_ext h1.1 ha.1 fun x => by rw [h2]; simp
def Rn (n : Nat) (ps : List Po) : Prop := ∀ p ∈ ps, Rs n p.next
def Re (n : Nat) (e : En) : Prop := Rs n e.first ∧ Rs n e.last
theorem rn_mono {n m : Nat} {ps : List Po} (h : Rn n ps) (hm : n ≤ m) : Rn m ps := fun p hp => rs_mono (h p hp) hm
theorem re_mono {n m : Nat} {e : En} (h : Re n e) (hm : n ≤ m) : Re m e := ⟨rs_mono h.1 hm, rs_mono h.2 hm⟩
theorem re_nil (n : Nat) (b : Bool) : Re n ⟨b, [], []⟩ := ⟨rs_nil n, rs_nil n⟩
theorem modify_get {α : Type} {l : List α} {k : Nat} {x : α} (f : α → α) (h : l[k]? = some x) : l.modify k f = l.set k (f x) := by
  refine List.ext_getElem? fun j => ?_
  rw [List.getElem?_modify, List.getElem?_set]
  obtain ⟨h1, h2⟩ := List.getElem?_eq_some_iff.1 h
  by_cases e : k = j
  · subst e; simp [h1, h2]
  · simp [e]
theorem lnk1ulen (to : List Int) (ps : List Po) (i : Int) : (lnk1 to ps i).length = ps.length := by simp [lnk1]
theorem lnk_len (to : List Int) : ∀ (fr : List Int) (ps : List Po), (lnk fr to ps).length = ps.length
  | [], _ => rfl
  | i :: fr, ps => by rw [lnk, List.foldl_cons]; exact (lnk_len to fr _).trans (lnk1ulen to ps i)
theorem rn_lnk1 {n : Nat} {to : List Int} {ps : List Po} (h : Rn n ps) (ht : Rs n to) (i : Int) : Rn n (lnk1 to ps i) := by
  intro p hp
  obtain ⟨j, hj, rfl⟩ := List.getElem_of_mem hp
  simp only [lnk1, List.getElem_modify]
  have hj' : j < ps.length := by simpa [lnk1] using hj
  have := h ps[j] (List.getElem_mem hj')
  split
  · exact rs_uni this ht
  · exact this
theorem rn_lnk {n : Nat} {to : List Int} (ht : Rs n to) : ∀ (fr : List Int) {ps : List Po}, Rn n ps → Rn n (lnk fr to ps)
  | [], _, h => h
  | i :: fr, ps, h => by rw [lnk, List.foldl_cons]; exact rn_lnk ht fr (rn_lnk1 h ht i)
end Go.Rad
