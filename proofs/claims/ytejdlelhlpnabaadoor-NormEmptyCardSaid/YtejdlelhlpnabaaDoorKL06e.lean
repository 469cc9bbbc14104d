/- NormEmpty: what it computes. -/
import Derived.Test.YtejdlelhlpnabaaDoorKRNormLaw
import Derived.Test.YtejdlelhlpnabaaDoorKROrder
import Derived.Test.YtejdlelhlpnabaaDoorKRDefer
import Derived.Test.YtejdlelhlpnabaaDoorKC05a
set_option linter.all false
namespace Go.Rad
open Go Go.Proofs
set_option linter.all false
set_option maxRecDepth 20000
set_option maxHeartbeats 4000000

set_option maxHeartbeats 10000000
theorem apE_full {sto : Sto} {U : AVal → Sto → Prop} (d e : Nat) (q : Bool) (l m : List (List AVal)) : apE LL d e (.sl q true l) sto U (some m) = (0 < (LL e).sz ∧ (∀ y ∈ m, y.length = (LL e).sz ∧ y.all AVal.isFz = true) ∧ (∀ y ∈ l, y.length = (LL e).sz ∧ y.all AVal.isFz = true) ∧ (l.length + m.length) * (LL e).by8 ≤ bigLen ∧ l.length + m.length ≤ bigLen ∧ (m ≠ [] ∨ l = []) ∧ ∀ h, U (.osl d h 0 (l.length + m.length)) (sput sto d (h, .row (LL e).sz (l ++ m)))) := by
  simp [apE]
theorem nodes_fz (l : List Node) : (∀ y ∈ nodes l, y.length = 9 ∧ y.all AVal.isFz = true) = True := by
  simp only [eq_iff_iff, iff_true]
  intro y hy; obtain ⟨n, _, rfl⟩ := List.mem_map.1 hy; exact ⟨rfl, rfl⟩
theorem min_nat (a b : Nat) : min (a : Int) (b : Int) = ((min a b : Nat) : Int) := by omega
theorem normEmpty_c (hsh : ACall Tryd.prog 7 [] [] fun r s => r = .bool true ∧ s = []) (l m : List Node) (hl : nodesOk l) (hm : nodesOk m) (hl2 : ∀ n ∈ l, n.s.okI) (hm2 : ∀ n ∈ m, n.s.okI) :
    ACall Tryd.prog 5 [.sl true false (nodes l), .sl true false (nodes m)] [] fun r _ => r = .bool true := by
  have b1 : ∀ n ∈ l.take 100, n.name.size ≤ maxLen ∧ n.l.length ≤ maxLen := fun n h => hl.2 n (List.mem_of_mem_take h)
  have b2 : ∀ n ∈ m.take 100, n.name.size ≤ maxLen ∧ n.l.length ≤ maxLen := fun n h => hm.2 n (List.mem_of_mem_take h)
  have e1 : min (l.length : Int) 100 = ((min l.length 100 : Nat) : Int) := min_nat _ 100
  have e2 : min (m.length : Int) 100 = ((min m.length 100 : Nat) : Int) := min_nat _ 100
  have e3 : (nodes l).take (min l.length 100) = nodes (l.take 100) := by rw [nodes, nodes, ← List.map_take]; congr 1; rw [List.take_eq_take_iff]; omega
  have e4 : (nodes m).take (min m.length 100) = nodes (m.take 100) := by rw [nodes, nodes, ← List.map_take]; congr 1; rw [List.take_eq_take_iff]; omega
  have e5 : min l.length 100 ≤ l.length := by omega
  have e6 : min m.length 100 ≤ m.length := by omega
  have hxl : (l.take 100).length ≤ 100 := by simp; omega
  have hyl : (m.take 100).length ≤ 100 := by simp; omega
  generalize l.take 100 = x at b1 e3 hxl
  generalize m.take 100 = y at b2 e4 hyl
  generalize min l.length 100 = nl at e1 e3 e5
  generalize min m.length 100 = nm at e2 e4 e6
  have hrx := right4uc true false x fun n h => (b1 n h).symm
  have hry := right4uc true false y fun n h => (b2 n h).symm
  rw [← right_eq] at hrx hry
  have hnx := nullable_c true false x b1
  have hfy := foldF_c true false y b2
  refine ACall.enter Tryd.func5 rfl (by kernel_rfl) (Nat.le_of_ble_eq_true rfl) ?_; simp only [initTm, Nat.reduceAdd]
  cases hx : rightS x
  · rw [hx] at hrx
    have en : nullS x = false := by simp [nullS, hx]
    rw [en] at hnx
    cases hy : rightS y
    · rw [hy] at hry
      have ef : foldT y = [] := by simp [foldT, hy]
      rw [ef] at hfy
      repeat' (first
  | refine gSq ?_ | refine gSk ?_ | refine gBl ?_ | refine gIb ?_ | refine gEx rfl ?_
  | ((first
  | (refine gRg [] [0, 1, 4, 5, 6, 7, 8, 9, 10, 12, 13, 15, 16, 17, 36, 64, 65, 66, 67, 71, 72, 73, 74] ?_; intro K hK)
  | (refine gDr 2 [] 12 [0, 1, 2, 3, 4, 5, 6, 7, 8, 9, 10, 11] [0, 1, 4, 5, 6, 7, 8, 9, 10, 12, 13, 15, 16, 17, 36, 64, 65, 66, 67, 71, 72, 73, 74] rfl ?_; intro K hK)
  | refine cAl (hsh) rfl rfl rfl ?_
  | refine cAl (hrx) rfl rfl rfl ?_
  | refine cAl (hry) rfl rfl rfl ?_
  | refine cAl (hnx) rfl rfl rfl ?_
  | refine cAl (hfy) rfl rfl rfl ?_
  | (refine gd_split ?_ ?_ <;> intro hb <;> (try simp only [bls] at hb) <;> (try simp only [hb]))
  | refine gRt [] [.tmp 4] rfl ?_ | refine gDn [] [.tmp 4] rfl ?_) <;> (try simp only [go_sem, simprocAttr, e1, e2, e3, e4, e5, e6, slFull, intArg, Bool.false_and]))
  | (refine hK _ _ ?_; clear hK K; simp only [go_sem, simprocAttr])
  | refine gCd (by simp only [go_sem, simprocAttr]; rfl) rfl ?_
  | refine brT ?_ | refine brF ?_
  | (refine brS ?_ ?_ <;> intro hc <;> (try simp only [bls] at hc) <;> (try simp only [hc, bls]))
  | intro _ | refine And.intro ?_ ?_)
      all_goals first | omega | (unfold bigLen; omega) | exact ⟨_, _, ⟨rfl, rfl⟩, rfl⟩ | exact ⟨_, rfl⟩ | (rename_i hy; simp only [List.mem_singleton] at hy; subst hy; rfl) | skip
      all_goals exact .inl trivial
    · rw [hy] at hry
      repeat' (first
  | refine gSq ?_ | refine gSk ?_ | refine gBl ?_ | refine gIb ?_ | refine gEx rfl ?_
  | ((first
  | (refine gRg [] [0, 1, 4, 5, 6, 7, 8, 9, 10, 12, 13, 15, 16, 17, 36, 64, 65, 66, 67, 71, 72, 73, 74] ?_; intro K hK)
  | (refine gDr 2 [] 12 [0, 1, 2, 3, 4, 5, 6, 7, 8, 9, 10, 11] [0, 1, 4, 5, 6, 7, 8, 9, 10, 12, 13, 15, 16, 17, 36, 64, 65, 66, 67, 71, 72, 73, 74] rfl ?_; intro K hK)
  | refine cAl (hsh) rfl rfl rfl ?_
  | refine cAl (hrx) rfl rfl rfl ?_
  | refine cAl (hry) rfl rfl rfl ?_
  | refine cAl (hnx) rfl rfl rfl ?_
  | refine cAl (hfy) rfl rfl rfl ?_
  | (refine gd_split ?_ ?_ <;> intro hb <;> (try simp only [bls] at hb) <;> (try simp only [hb]))
  | refine gRt [] [.tmp 4] rfl ?_ | refine gDn [] [.tmp 4] rfl ?_) <;> (try simp only [go_sem, simprocAttr, e1, e2, e3, e4, e5, e6, slFull, intArg, Bool.false_and]))
  | (refine hK _ _ ?_; clear hK K; simp only [go_sem, simprocAttr])
  | refine gCd (by simp only [go_sem, simprocAttr]; rfl) rfl ?_
  | refine brT ?_ | refine brF ?_
  | (refine brS ?_ ?_ <;> intro hc <;> (try simp only [bls] at hc) <;> (try simp only [hc, bls]))
  | intro _ | refine And.intro ?_ ?_)
      all_goals first | omega | (unfold bigLen; omega) | exact ⟨_, _, ⟨rfl, rfl⟩, rfl⟩ | exact ⟨_, rfl⟩ | (rename_i hy; simp only [List.mem_singleton] at hy; subst hy; rfl) | skip
      all_goals exact .inl trivial
  · rw [hx] at hrx
    cases hy : rightS y
    · rw [hy] at hry
      have ef : foldT y = [] := by simp [foldT, hy]
      rw [ef] at hfy
      repeat' (first
  | refine gSq ?_ | refine gSk ?_ | refine gBl ?_ | refine gIb ?_ | refine gEx rfl ?_
  | ((first
  | (refine gRg [] [0, 1, 4, 5, 6, 7, 8, 9, 10, 12, 13, 15, 16, 17, 36, 64, 65, 66, 67, 71, 72, 73, 74] ?_; intro K hK)
  | (refine gDr 2 [] 12 [0, 1, 2, 3, 4, 5, 6, 7, 8, 9, 10, 11] [0, 1, 4, 5, 6, 7, 8, 9, 10, 12, 13, 15, 16, 17, 36, 64, 65, 66, 67, 71, 72, 73, 74] rfl ?_; intro K hK)
  | refine cAl (hsh) rfl rfl rfl ?_
  | refine cAl (hrx) rfl rfl rfl ?_
  | refine cAl (hry) rfl rfl rfl ?_
  | refine cAl (hnx) rfl rfl rfl ?_
  | refine cAl (hfy) rfl rfl rfl ?_
  | (refine gd_split ?_ ?_ <;> intro hb <;> (try simp only [bls] at hb) <;> (try simp only [hb]))
  | refine gRt [] [.tmp 4] rfl ?_ | refine gDn [] [.tmp 4] rfl ?_) <;> (try simp only [go_sem, simprocAttr, e1, e2, e3, e4, e5, e6, slFull, intArg, Bool.false_and]))
  | (refine hK _ _ ?_; clear hK K; simp only [go_sem, simprocAttr])
  | refine gCd (by simp only [go_sem, simprocAttr]; rfl) rfl ?_
  | refine brT ?_ | refine brF ?_
  | (refine brS ?_ ?_ <;> intro hc <;> (try simp only [bls] at hc) <;> (try simp only [hc, bls]))
  | intro _ | refine And.intro ?_ ?_)
      all_goals first | omega | (unfold bigLen; omega) | exact ⟨_, _, ⟨rfl, rfl⟩, rfl⟩ | exact ⟨_, rfl⟩ | (rename_i hy; simp only [List.mem_singleton] at hy; subst hy; rfl) | skip
      all_goals exact .inl trivial
    · rw [hy] at hry
      have hny := nullable_c true false y b2
      clear hfy
      repeat' (first
  | refine gSq ?_ | refine gSk ?_ | refine gBl ?_ | refine gIb ?_ | refine gEx rfl ?_
  | ((first
  | (refine gRg [] [0, 1, 4, 5, 6, 7, 8, 9, 10, 12, 13, 15, 16, 17, 36, 64, 65, 66, 67, 71, 72, 73, 74] ?_; intro K hK)
  | (refine gDr 2 [] 12 [0, 1, 2, 3, 4, 5, 6, 7, 8, 9, 10, 11] [0, 1, 4, 5, 6, 7, 8, 9, 10, 12, 13, 15, 16, 17, 36, 64, 65, 66, 67, 71, 72, 73, 74] rfl ?_; intro K hK)
  | refine cAl (hsh) rfl rfl rfl ?_
  | refine cAl (hrx) rfl rfl rfl ?_
  | refine cAl (hry) rfl rfl rfl ?_
  | refine cAl (hnx) rfl rfl rfl ?_
  | refine cAl (hny) rfl rfl rfl ?_
  | (refine gd_split ?_ ?_ <;> intro hb <;> (try simp only [bls] at hb) <;> (try simp only [hb]))
  | refine gRt [] [.tmp 4] rfl ?_ | refine gDn [] [.tmp 4] rfl ?_) <;> (try simp only [go_sem, simprocAttr, e1, e2, e3, e4, e5, e6, slFull, intArg, Bool.false_and]))
  | (refine hK _ _ ?_; clear hK K; simp only [go_sem, simprocAttr])
  | refine gCd (by simp only [go_sem, simprocAttr]; rfl) rfl ?_
  | refine brT ?_ | refine brF ?_
  | (refine brS ?_ ?_ <;> intro hc <;> (try simp only [bls] at hc) <;> (try simp only [hc, bls]))
  | intro _ | refine And.intro ?_ ?_)
      all_goals first | omega | (unfold bigLen; omega) | exact ⟨_, _, ⟨rfl, rfl⟩, rfl⟩ | exact ⟨_, rfl⟩ | (rename_i hy; simp only [List.mem_singleton] at hy; subst hy; rfl) | skip
      · exact .inl trivial
      · exact .inl trivial
      · rename_i y hy; obtain ⟨k, _, rfl⟩ := List.mem_map.1 hy; rfl
      · rename_i y hy; obtain ⟨k, _, rfl⟩ := List.mem_map.1 hy; rfl
      have hxt := rightS_ok hx fun n h => (b1 n h).1
      have hyt := rightS_ok hy fun n h => (b2 n h).1
      rename_i g10
      refine AGood.filt [61] ?_
      simp only [sf_cons, sf_nil, go_sem, simprocAttr]
      refine AGood.prune [0, 1, 5, 6, 8, 9, 10, 64, 65, 66] ?_; simp only [go_sem, simprocAttr]
      clear hrx hry hnx hny hsh
      refine AGood.loopInv (α := Nat × Nat) (fun s => ([(0, .sl true false (nodes l)), (1, .sl true false (nodes m)), (5, .bool true), (6, .sl true false (nodes x)), (8, .bool (nullS x)), (9, .bool (nullS y)), (10, .osl 61 s.2 0 (x.length + s.1)), (64, .sl true false (nodes y)), (65, .int .i64 y.length), (66, .int .i64 s.1)], [(61, s.2, .row 9 (nodes (x ++ (y.take s.1).map (shN x.length))))])) (fun s => s.1 ≤ y.length) (fun s => y.length - s.1) (0, g10) (Nat.zero_le _) (by simp) ?_
      rintro ⟨i, g⟩ hi ih
      simp only at hi ih ⊢
      by_cases hle : i < y.length
      · have f4 : (i : Int) < y.length := by omega
        have f5 : (0 : Int) ≤ i := by omega
        have hyi : y[i]? = some y[i] := List.getElem?_eq_getElem hle
        have htk := take_one hyi
        obtain ⟨w1, w2, w3⟩ := hyt.2 i _ hyi
        have ih := fun g => ih (i + 1, g) (by simp only; omega) (by simp only; omega)
        have hk : x ++ (y.take (i + 1)).map (shN x.length) = (x ++ (y.take i).map (shN x.length)) ++ [shN x.length y[i]] := by rw [htk, List.map_append, List.append_assoc]; rfl
        simp only [hk] at ih
        clear hk
        have hlen : (x ++ (y.take i).map (shN x.length)).length = x.length + i := by simp; omega
        generalize y[i] = n at hyi htk w1 w2 w3 ih
        generalize x ++ (y.take i).map (shN x.length) = acc at ih hlen ⊢
        obtain ⟨xo, ⟨xa, xb, xc, xd⟩, xl, xlo, xhi, xn⟩ := n
        simp only at w1 w2 w3
        repeat' (first
  | refine gSq ?_ | refine gSk ?_ | refine gBl ?_ | refine gIb ?_ | refine gEx rfl ?_
  | ((first
  | (refine gRg [] [0, 1, 4, 5, 6, 7, 8, 9, 10, 12, 13, 15, 16, 17, 36, 64, 65, 66, 67, 71, 72, 73, 74] ?_; intro K hK)
  | (refine gDr 2 [] 12 [0, 1, 2, 3, 4, 5, 6, 7, 8, 9, 10, 11] [0, 1, 4, 5, 6, 7, 8, 9, 10, 12, 13, 15, 16, 17, 36, 64, 65, 66, 67, 71, 72, 73, 74] rfl ?_; intro K hK)
  | (refine gd_split ?_ ?_ <;> intro hb <;> (try simp only [bls] at hb) <;> (try simp only [hb]))
  | refine gRt [61] [.tmp 4] rfl ?_ | refine gDn [61] [.tmp 4] rfl ?_) <;> (try simp only [go_sem, simprocAttr, f4, f5, hyi, Option.some.injEq, forall_eq']))
  | (refine hK _ _ ?_; clear hK K; simp only [go_sem, simprocAttr])
  | refine gCd (by simp only [go_sem, simprocAttr]; rfl) rfl ?_
  | refine brT ?_ | refine brF ?_
  | (refine brS ?_ ?_ <;> intro hc <;> (try simp only [bls] at hc) <;> (try simp only [hc, bls]))
  | intro _ | refine And.intro ?_ ?_)
        all_goals first | omega | (unfold bigLen; omega) | exact ⟨_, _, ⟨rfl, rfl⟩, rfl⟩ | exact ⟨_, rfl⟩ | (rename_i hy; simp only [List.mem_singleton] at hy; subst hy; rfl) | skip
        rename_i g12
        refine AGood.ownTm 13 902 1 (by decide) rfl fun g13 => ?_
        simp only [go_sem, simprocAttr]
        refine AGood.prune [0, 1, 5, 6, 8, 9, 10, 12, 13, 64, 65, 66, 71, 72, 73] ?_; simp only [go_sem, simprocAttr]
        refine AGood.loopInv (α := Nat × Nat) (fun s => ([(0, .sl true false (nodes l)), (1, .sl true false (nodes m)), (5, .bool true), (6, .sl true false (nodes x)), (8, .bool (nullS x)), (9, .bool (nullS y)), (10, .osl 61 g 0 (x.length + i)), (12, .bx 12 g12 0), (13, .osl 902 s.2 0 s.1), (64, .sl true false (nodes y)), (65, .int .i64 y.length), (66, .int .i64 i), (71, .sl true false (ints xl)), (72, .int .i64 xl.length), (73, .int .i64 s.1)],
          [(12, g12, .box [.int .u8 xo, .int .u64 xa, .int .u64 xb, .int .u64 xc, .int .u64 xd, .sl true false (ints xl), .int .i64 xlo, .int .i64 xhi, .str xn]), (61, g, .row 9 (nodes acc)), (902, s.2, .row 1 (ints ((xl.take s.1).map fun k => k + (x.length : Nat))))])) (fun s => s.1 ≤ xl.length) (fun s => xl.length - s.1) (0, g13) (Nat.zero_le _) (by simp) ?_
        rintro ⟨j, g13⟩ hj ih2
        simp only at hj ih2 ⊢
        by_cases hjl : j < xl.length
        · have f6 : (j : Int) < xl.length := by omega
          have f7 : (0 : Int) ≤ j := by omega
          have hxj : xl[j]? = some xl[j] := List.getElem?_eq_getElem hjl
          have htk2 := take_one hxj
          have hkb := w3 _ (List.getElem_mem hjl)
          have ih2 := fun g => ih2 (j + 1, g) (by simp only; omega) (by simp only; omega)
          have hk : (xl.take (j + 1)).map (fun k => k + (x.length : Int)) = (xl.take j).map (fun k => k + (x.length : Int)) ++ [xl[j] + x.length] := by rw [htk2, List.map_append]; rfl
          simp only [hk] at ih2
          have hlen2 : ((xl.take j).map fun k => k + (x.length : Int)).length = j := by simp; omega
          clear hk htk2
          generalize xl[j] = k at hxj hkb ih2
          have f8 : inI64 (k + x.length) := by unfold inI64; omega
          generalize (xl.take j).map (fun k => k + (x.length : Int)) = kacc at ih2 hlen2 ⊢
          repeat' (first
  | refine gSq ?_ | refine gSk ?_ | refine gBl ?_ | refine gIb ?_ | refine gEx rfl ?_
  | ((first
  | (refine gRg [] [0, 1, 4, 5, 6, 7, 8, 9, 10, 12, 13, 15, 16, 17, 36, 64, 65, 66, 67, 71, 72, 73, 74] ?_; intro K hK)
  | (refine gDr 2 [] 12 [0, 1, 2, 3, 4, 5, 6, 7, 8, 9, 10, 11] [0, 1, 4, 5, 6, 7, 8, 9, 10, 12, 13, 15, 16, 17, 36, 64, 65, 66, 67, 71, 72, 73, 74] rfl ?_; intro K hK)
  | (refine gd_split ?_ ?_ <;> intro hb <;> (try simp only [bls] at hb) <;> (try simp only [hb]))
  | refine gRt [12, 61, 902] [.tmp 4] rfl ?_ | refine gDn [12, 61, 902] [.tmp 4] rfl ?_) <;> (try simp only [go_sem, simprocAttr, f6, f7, f8, hxj, hlen2, Option.some.injEq, forall_eq']))
  | (refine hK _ _ ?_; clear hK K; simp only [go_sem, simprocAttr])
  | refine gCd (by simp only [go_sem, simprocAttr]; rfl) rfl ?_
  | refine brT ?_ | refine brF ?_
  | (refine brS ?_ ?_ <;> intro hc <;> (try simp only [bls] at hc) <;> (try simp only [hc, bls]))
  | intro _ | refine And.intro ?_ ?_)
          all_goals first | omega | (unfold bigLen; omega) | exact ⟨_, _, ⟨rfl, rfl⟩, rfl⟩ | exact ⟨_, rfl⟩ | (rename_i hy; simp only [List.mem_singleton] at hy; subst hy; rfl) | skip
          refine AGood.filt [12, 61, 902] ?_
          simp only [sf_cons, sf_nil, go_sem, simprocAttr]
          refine AGood.prune [0, 1, 5, 6, 8, 9, 10, 12, 13, 64, 65, 66, 71, 72, 73] ?_; simp only [go_sem, simprocAttr]
          rename_i h9
          exact (ih2 h9).cast (by simp) (by simp)
        · have f6 : ¬ (j : Int) < xl.length := by omega
          have hjn : j = xl.length := by omega
          subst hjn
          rw [List.take_length]
          clear ih2
          have hlen2 : (xl.map fun k => k + (x.length : Int)).length = xl.length := by simp
          simp only [shN] at ih
          generalize xl.map (fun k => k + (x.length : Int)) = kl at ih hlen2 ⊢
          have e9 : (ints kl).take xl.length = ints kl := List.take_of_length_le (by simp; omega)
          have e10 : xl.length ≤ kl.length := by omega
          repeat' (first
  | refine gSq ?_ | refine gSk ?_ | refine gBl ?_ | refine gIb ?_ | refine gEx rfl ?_
  | ((first
  | (refine AGood.at 16 ?_; (refine AGood.freeze 902 rfl ?_; simp only [rfT, rfS, rfO, rf, rf1, e9, e10, true_and, Nat.le_refl, ints_len, go_sem, simprocAttr]); (refine gRg [89] [0, 1, 4, 5, 6, 7, 8, 9, 10, 12, 13, 15, 16, 17, 36, 64, 65, 66, 67, 71, 72, 73, 74] ?_; intro K hK))
  | (refine gRg [89] [0, 1, 4, 5, 6, 7, 8, 9, 10, 12, 13, 15, 16, 17, 36, 64, 65, 66, 67, 71, 72, 73, 74] ?_; intro K hK)
  | (refine gDr 2 [89] 12 [0, 1, 2, 3, 4, 5, 6, 7, 8, 9, 10, 11] [0, 1, 4, 5, 6, 7, 8, 9, 10, 12, 13, 15, 16, 17, 36, 64, 65, 66, 67, 71, 72, 73, 74] rfl ?_; intro K hK)
  | (refine gd_split ?_ ?_ <;> intro hb <;> (try simp only [bls] at hb) <;> (try simp only [hb]))
  | refine gRt [61] [.tmp 4] rfl ?_ | refine gDn [61] [.tmp 4] rfl ?_) <;> (try simp only [go_sem, simprocAttr, f6, hlen]))
  | (refine hK _ _ ?_; clear hK K; simp only [go_sem, simprocAttr])
  | refine gCd (by simp only [go_sem, simprocAttr]; rfl) rfl ?_
  | refine brT ?_ | refine brF ?_
  | (refine brS ?_ ?_ <;> intro hc <;> (try simp only [bls] at hc) <;> (try simp only [hc, bls]))
  | intro _ | refine And.intro ?_ ?_)
          all_goals first | omega | (unfold bigLen; omega) | exact ⟨_, _, ⟨rfl, rfl⟩, rfl⟩ | exact ⟨_, rfl⟩ | (rename_i hy; simp only [List.mem_singleton] at hy; subst hy; rfl) | skip
          refine AGood.filt [61] ?_
          simp only [sf_cons, sf_nil, go_sem, simprocAttr]
          refine AGood.prune [0, 1, 5, 6, 8, 9, 10, 64, 65, 66] ?_; simp only [go_sem, simprocAttr]
          rename_i h9
          exact (ih h9).cast (by simp; omega) (by simp)
      · have f4 : ¬ (i : Int) < y.length := by omega
        have hin : i = y.length := by omega
        subst hin
        rw [List.take_length]
        clear ih
        have hPl : (x ++ List.map (shN x.length) y).length = x.length + y.length := by simp
        have hPn : ∀ n ∈ pairL x y, n.name.size ≤ maxLen ∧ n.l.length ≤ maxLen := by
          intro n hn
          rcases List.mem_append.1 hn with h | h
          · exact b1 n h
          · obtain ⟨k, hk, rfl⟩ := List.mem_map.1 h
            exact ⟨(b2 k hk).1, by simpa [shN] using (b2 k hk).2⟩
        have hlx := hxt.1.1
        have hly := hyt.1.1
        have c1 := nullable_c true false (pairL x y ++ [opN 3 [(x.length : Int) - 1, ((x.length + y.length : Nat) : Int) - 1] 0 0]) fun n hn => by
          rcases List.mem_append.1 hn with h | h
          · exact hPn n h
          · simp only [List.mem_singleton] at h; subst h; exact ⟨Nat.zero_le _, by unfold maxLen; simp⟩
        have c2 := nullable_c true false (pairL x y ++ [opN 4 [(x.length : Int) - 1, ((x.length + y.length : Nat) : Int) - 1] 0 0]) fun n hn => by
          rcases List.mem_append.1 hn with h | h
          · exact hPn n h
          · simp only [List.mem_singleton] at h; subst h; exact ⟨Nat.zero_le _, by unfold maxLen; simp⟩
        have c3 := nullable_c true false (x ++ [opN 5 [(x.length : Int) - 1] 0 3]) fun n hn => by
          rcases List.mem_append.1 hn with h | h
          · exact b1 n h
          · simp only [List.mem_singleton] at h; subst h; exact ⟨Nat.zero_le _, by unfold maxLen; simp⟩
        have c4 := nullable_c true false (x ++ [opN 5 [(x.length : Int) - 1] 2 (-1)]) fun n hn => by
          rcases List.mem_append.1 hn with h | h
          · exact b1 n h
          · simp only [List.mem_singleton] at h; subst h; exact ⟨Nat.zero_le _, by unfold maxLen; simp⟩
        rw [null_cat hx hy (fun n h => (b2 n h).1) (by omega)] at c1
        rw [null_alt hx hy (fun n h => (b2 n h).1) (by omega)] at c2
        rw [null_rep hx (by omega)] at c3
        rw [null_rep2 hx (by omega)] at c4
        simp only [nodes, List.map_append, List.map_cons, List.map_nil] at c1 c2 c3 c4
        rw [← List.map_append] at c1 c2
        clear hPn
        generalize x ++ List.map (shN x.length) y = P at c1 c2 hPl ⊢
        generalize nullS x = nx at *
        generalize nullS y = ny at *
        have f5 : inI64 ((x.length : Int) - 1) := by unfold inI64; omega
        have f6 : inI64 (((x.length + y.length : Nat) : Int) - 1) := by unfold inI64; omega
        have e9 : (nodes P).take (x.length + y.length) = nodes P := List.take_of_length_le (by simp; omega)
        have e10 : x.length + y.length ≤ P.length := by omega
        obtain ⟨e12, e13⟩ : ((x.length + y.length + 1) * 96 ≤ bigLen ∧ x.length + y.length + 1 ≤ bigLen) ∧ ((x.length + 1) * 96 ≤ bigLen ∧ x.length + 1 ≤ bigLen) := by unfold bigLen; omega
        have e11 : (nodes x).take x.length = nodes x := List.take_of_length_le (by simp)
        cases nx <;> cases ny <;> simp only [Bool.and_self, Bool.and_true, Bool.true_and, Bool.and_false, Bool.false_and, Bool.or_self, Bool.or_true, Bool.or_false, Bool.true_or, Bool.false_or] at c1 c2
        all_goals (
          repeat' (first
  | refine gSq ?_ | refine gSk ?_ | refine gBl ?_ | refine gIb ?_ | refine gEx rfl ?_
  | ((first
  | (refine AGood.at 19 ?_; (refine AGood.freeze 61 rfl ?_; simp only [rfT, rfS, rfO, rf, rf1, e9, e10, nodes_len, true_and, Nat.le_refl, go_sem, simprocAttr]); (refine gRg [98, 102, 113, 114, 131, 132, 149, 150, 162, 163] [0, 1, 4, 5, 6, 7, 8, 9, 10, 12, 13, 15, 16, 17, 36, 64, 65, 66, 67, 71, 72, 73, 74] ?_; intro K hK))
  | refine gPt 21 ?_
  | (refine gSg [98, 102, 113, 114, 131, 132, 149, 150, 162, 163] 0 13 13 [0, 1, 4, 5, 6, 7, 8, 9, 10, 12, 13, 15, 16, 17, 36, 64, 65, 66, 67, 71, 72, 73, 74, 104, 115] rfl ?_; intro K hK)
  | (refine gSg [98, 102, 113, 114, 131, 132, 149, 150, 162, 163] 13 5 18 [0, 1, 4, 5, 6, 7, 8, 9, 10, 12, 13, 15, 16, 17, 36, 64, 65, 66, 67, 71, 72, 73, 74, 104, 120] rfl ?_; intro K hK)
  | (refine gSg [98, 102, 113, 114, 131, 132, 149, 150, 162, 163] 18 13 31 [0, 1, 4, 5, 6, 7, 8, 9, 10, 12, 13, 15, 16, 17, 36, 64, 65, 66, 67, 71, 72, 73, 74, 122, 133] rfl ?_; intro K hK)
  | (refine gSg [98, 102, 113, 114, 131, 132, 149, 150, 162, 163] 31 5 36 [0, 1, 4, 5, 6, 7, 8, 9, 10, 12, 13, 15, 16, 17, 36, 64, 65, 66, 67, 71, 72, 73, 74, 122, 138] rfl ?_; intro K hK)
  | (refine gSg [98, 102, 113, 114, 131, 132, 149, 150, 162, 163] 36 13 49 [0, 1, 4, 5, 6, 7, 8, 9, 10, 12, 13, 15, 16, 17, 36, 64, 65, 66, 67, 71, 72, 73, 74, 140, 151] rfl ?_; intro K hK)
  | (refine gSg [98, 102, 113, 114, 131, 132, 149, 150, 162, 163] 49 13 62 [0, 1, 4, 5, 6, 7, 8, 9, 10, 12, 13, 15, 16, 17, 36, 64, 65, 66, 67, 71, 72, 73, 74, 153, 164] rfl ?_; intro K hK)
  | (refine gSg [98, 102, 113, 114, 131, 132, 149, 150, 162, 163] 62 4 66 [0, 1, 4, 5, 6, 7, 8, 9, 10, 12, 13, 15, 16, 17, 36, 64, 65, 66, 67, 71, 72, 73, 74] rfl ?_; intro K hK)
  | (refine gFn 66 [0, 1, 4, 5, 6, 7, 8, 9, 10, 12, 13, 15, 16, 17, 36, 64, 65, 66, 67, 71, 72, 73, 74] rfl ?_)
  | (refine gRg [98, 102, 113, 114, 131, 132, 149, 150, 162, 163] [0, 1, 4, 5, 6, 7, 8, 9, 10, 12, 13, 15, 16, 17, 36, 64, 65, 66, 67, 71, 72, 73, 74] ?_; intro K hK)
  | (refine gDr 2 [98, 102, 113, 114, 131, 132, 149, 150, 162, 163] 12 [0, 1, 2, 3, 4, 5, 6, 7, 8, 9, 10, 11] [0, 1, 4, 5, 6, 7, 8, 9, 10, 12, 13, 15, 16, 17, 36, 64, 65, 66, 67, 71, 72, 73, 74] rfl ?_; intro K hK)
  | refine cAl (c1) rfl rfl rfl ?_
  | refine cAl (c2) rfl rfl rfl ?_
  | refine cAl (c3) rfl rfl rfl ?_
  | refine cAl (c4) rfl rfl rfl ?_
  | (refine gd_split ?_ ?_ <;> intro hb <;> (try simp only [bls] at hb) <;> (try simp only [hb]))
  | refine gRt [] [.tmp 4] rfl ?_ | refine gDn [] [.tmp 4] rfl ?_) <;> (try simp only [go_sem, simprocAttr, f4, f5, f6, hPl, e9, e11, e12, e13, nodes_len, apE_full, List.length_append, slFull, intArg, true_or, Bool.false_and, List.append_eq, List.cons_append]))
  | (refine hK _ _ ?_; clear hK K; simp only [go_sem, simprocAttr])
  | refine gCd (by simp only [go_sem, simprocAttr]; rfl) rfl ?_
  | refine brT ?_ | refine brF ?_
  | (refine brS ?_ ?_ <;> intro hc <;> (try simp only [bls] at hc) <;> (try simp only [hc, bls]))
  | intro _ | refine And.intro ?_ ?_))
        all_goals clear e12 e13
        all_goals first | omega | (unfold bigLen; omega) | exact ⟨_, _, ⟨rfl, rfl⟩, rfl⟩ | exact ⟨_, rfl⟩ | (rename_i hy; simp only [List.mem_singleton] at hy; subst hy; rfl) | skip
        all_goals first
          | rfl
          | exact absurd hb (by decide)
          | (rename_i y hy; obtain ⟨k, _, rfl⟩ := List.mem_map.1 hy; rfl)
end Go.Rad
/- Contracts of the reader's small parts. -/
namespace Go.Rad
open Go Go.Proofs
set_option linter.all false
set_option maxRecDepth 20000
set_option maxHeartbeats 4000000

theorem in_no {c : Nat} {l : ByteArray} {i : Nat} (h : i < l.size) (hc : bt l i = c) : inS c l = true := by
  simp only [inS, List.any_eq_true, List.mem_range, decide_eq_true_eq]
  exact ⟨i, h, hc⟩
theorem in4uc (c : Nat) (l : ByteArray) (hl : l.size ≤ 1000000) : ACall Tryd.prog 67 [.int .u8 c, .str l] [] fun r s => r = .bool (inS c l) ∧ s = [] := by
  refine ACall.enter Tryd.func67 rfl (by kernel_rfl) (Nat.le_of_ble_eq_true rfl) ?_; simp only [initTm, Nat.reduceAdd]
  repeat' (first
  | refine gSq ?_ | refine gSk ?_ | refine gBl ?_ | refine gIb ?_ | refine gEx rfl ?_
  | ((first
  | (refine gRg [] [0, 1, 4, 5, 9, 16] ?_; intro K hK)
  | (refine gd_split ?_ ?_ <;> intro hb <;> (try simp only [bls] at hb) <;> (try simp only [hb]))
  | refine gRt [] [.tmp 4] rfl ?_ | refine gDn [] [.tmp 4] rfl ?_) <;> (try simp only [go_sem, simprocAttr]))
  | (refine hK _ _ ?_; clear hK K; simp only [go_sem, simprocAttr])
  | refine gCd (by simp only [go_sem, simprocAttr]; rfl) rfl ?_
  | refine brT ?_ | refine brF ?_
  | (refine brS ?_ ?_ <;> intro hc <;> (try simp only [bls] at hc) <;> (try simp only [hc, bls]))
  | intro _ | refine And.intro ?_ ?_)
  refine AGood.prune [0, 1, 4, 5] ?_; simp only [go_sem, simprocAttr]
  refine AGood.loopInv (α := Nat) (fun i => ([(0, .int .u8 c), (1, .str l), (4, .bool false), (5, .int .i64 i)], [])) (fun i => i ≤ l.size ∧ (List.range i).any (fun i => decide (bt l i = c)) = false) (fun i => l.size - i) 0 ⟨Nat.zero_le _, rfl⟩ rfl ?_
  rintro i ⟨hi, hall⟩ ih
  simp only
  by_cases hle : i < l.size
  · have e4 : (i : Int) < l.size := by omega
    have e5 : (0 : Int) ≤ i := by omega
    by_cases hc : bt l i = c
    · rw [in_no hle hc]
      have e6 : (bt l i : Int) = c := by omega
      repeat' (first
  | refine gSq ?_ | refine gSk ?_ | refine gBl ?_ | refine gIb ?_ | refine gEx rfl ?_
  | ((first
  | (refine gRg [] [0, 1, 4, 5, 9, 16] ?_; intro K hK)
  | (refine gd_split ?_ ?_ <;> intro hb <;> (try simp only [bls] at hb) <;> (try simp only [hb]))
  | refine gRt [] [.tmp 4] rfl ?_ | refine gDn [] [.tmp 4] rfl ?_) <;> (try simp only [go_sem, simprocAttr, e4, e5, e6, sbyte_bt]))
  | (refine hK _ _ ?_; clear hK K; simp only [go_sem, simprocAttr])
  | refine gCd (by simp only [go_sem, simprocAttr]; rfl) rfl ?_
  | refine brT ?_ | refine brF ?_
  | (refine brS ?_ ?_ <;> intro hc <;> (try simp only [bls] at hc) <;> (try simp only [hc, bls]))
  | intro _ | refine And.intro ?_ ?_)
    · have e6 : ¬ (bt l i : Int) = c := by omega
      repeat' (first
  | refine gSq ?_ | refine gSk ?_ | refine gBl ?_ | refine gIb ?_ | refine gEx rfl ?_
  | ((first
  | (refine gRg [] [0, 1, 4, 5, 9, 16] ?_; intro K hK)
  | (refine gd_split ?_ ?_ <;> intro hb <;> (try simp only [bls] at hb) <;> (try simp only [hb]))
  | refine gRt [] [.tmp 4] rfl ?_ | refine gDn [] [.tmp 4] rfl ?_) <;> (try simp only [go_sem, simprocAttr, e4, e5, e6, sbyte_bt]))
  | (refine hK _ _ ?_; clear hK K; simp only [go_sem, simprocAttr])
  | refine gCd (by simp only [go_sem, simprocAttr]; rfl) rfl ?_
  | refine brT ?_ | refine brF ?_
  | (refine brS ?_ ?_ <;> intro hc <;> (try simp only [bls] at hc) <;> (try simp only [hc, bls]))
  | intro _ | refine And.intro ?_ ?_)
      all_goals first | omega | (unfold bigLen; omega) | exact ⟨_, _, ⟨rfl, rfl⟩, rfl⟩ | exact ⟨_, rfl⟩ | (rename_i hy; simp only [List.mem_singleton] at hy; subst hy; rfl) | skip
      refine AGood.prune [0, 1, 4, 5] ?_; simp only [go_sem, simprocAttr]
      exact (ih (i + 1) ⟨by omega, by rw [List.range_succ, List.any_append, hall]; simp [hc]⟩ (by omega)).cast rfl rfl
  · have e4 : ¬ (i : Int) < l.size := by omega
    have e5 : i = l.size := by omega
    subst e5
    repeat' (first
  | refine gSq ?_ | refine gSk ?_ | refine gBl ?_ | refine gIb ?_ | refine gEx rfl ?_
  | ((first
  | (refine gRg [] [0, 1, 4, 5, 9, 16] ?_; intro K hK)
  | (refine gd_split ?_ ?_ <;> intro hb <;> (try simp only [bls] at hb) <;> (try simp only [hb]))
  | refine gRt [] [.tmp 4] rfl ?_ | refine gDn [] [.tmp 4] rfl ?_) <;> (try simp only [go_sem, simprocAttr, e4]))
  | (refine hK _ _ ?_; clear hK K; simp only [go_sem, simprocAttr])
  | refine gCd (by simp only [go_sem, simprocAttr]; rfl) rfl ?_
  | refine brT ?_ | refine brF ?_
  | (refine brS ?_ ?_ <;> intro hc <;> (try simp only [bls] at hc) <;> (try simp only [hc, bls]))
  | intro _ | refine And.intro ?_ ?_)
    exact congrArg AVal.bool hall.symm
theorem special4uc : ACall Tryd.prog 68 [] [] fun r s => r = .str specialS ∧ s = [] := by
  refine ACall.enter Tryd.func68 rfl (by kernel_rfl) (Nat.le_of_ble_eq_true rfl) ?_; simp only [initTm, Nat.reduceAdd]
  repeat' (first
  | refine gSq ?_ | refine gSk ?_ | refine gBl ?_ | refine gIb ?_ | refine gEx rfl ?_
  | ((first
  | (refine gRg [] [0] ?_; intro K hK)
  | (refine gd_split ?_ ?_ <;> intro hb <;> (try simp only [bls] at hb) <;> (try simp only [hb]))
  | refine gRt [] [.tmp 0] rfl ?_ | refine gDn [] [.tmp 0] rfl ?_) <;> (try simp only [go_sem, simprocAttr]))
  | (refine hK _ _ ?_; clear hK K; simp only [go_sem, simprocAttr])
  | refine gCd (by simp only [go_sem, simprocAttr]; rfl) rfl ?_
  | refine brT ?_ | refine brF ?_
  | (refine brS ?_ ?_ <;> intro hc <;> (try simp only [bls] at hc) <;> (try simp only [hc, bls]))
  | intro _ | refine And.intro ?_ ?_)
  rfl
end Go.Rad
