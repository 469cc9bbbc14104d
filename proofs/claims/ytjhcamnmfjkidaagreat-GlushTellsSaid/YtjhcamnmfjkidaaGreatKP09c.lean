/- Contracts: glush: the places of one plan. -/
import Derived.Test.YtjhcamnmfjkidaaGreatKP09b
import Derived.Test.YtjhcamnmfjkidaaGreatKRNode
set_option linter.all false
namespace Go.Rad
open Go Go.Proofs
set_option linter.all false
set_option maxRecDepth 20000
set_option maxHeartbeats 4000000

abbrev blsG (l : List Bool) : List (List AVal) := l.map fun b => [.bool b]
abbrev En.cells0 (e : En) : List AVal := [.bool e.null, .sl true true [], .sl true true []]
/-- Nodes as the code leans on them. -/
def kidsOk (l : List Node) : Prop := 1 ≤ l.length ∧ l.length ≤ 1024 ∧ ∀ (i : Nat) (n : Node), l[i]? = some n → n.l.length ≤ 1024 ∧ (∀ k ∈ n.l, 0 ≤ k ∧ k < (i : Int)) ∧ (n.op = 5 → n.l.length = 1)
/-- What is told of the nodes so far, with one more. -/
def rowG (n : Nat) (al : List En) (c : En) : List En := al ++ c :: List.replicate (n - al.length - 1) enN
theorem rowG_facts {n : Nat} {al : List En} (h : al.length < n) (c : En) : (rowG n al c).length = n ∧ (rowG n al c)[al.length]? = some c ∧ (∀ k, k < al.length → (rowG n al c)[k]? = some (al.getD k enN)) ∧ ∀ c', (rowG n al c).set al.length c' = rowG n al c' := by
  refine ⟨by simp [rowG]; omega, by simp [rowG], fun k hk => ?_, fun c' => by simp [rowG]⟩
  rw [rowG, List.getElem?_append_left hk, List.getElem?_eq_getElem hk]
  simp [List.getD, hk]
theorem rowG_next {n : Nat} {al : List En} (h : al.length < n) (c : En) : rowG n al c = (al ++ [c]) ++ List.replicate (n - (al.length + 1)) enN := by
  simp only [rowG, List.append_assoc, List.cons_append, List.nil_append, Nat.sub_sub]
theorem rowG_now {n : Nat} {al : List En} (h : al.length < n) : al ++ List.replicate (n - al.length) enN = rowG n al enN := by
  rw [rowG, ← List.replicate_succ, show n - al.length - 1 + 1 = n - al.length by omega]
theorem tree9uc (g g1 : Nat) (f : Bool) (l : List Node) (rule : Nat) (ps : List Po) (hl : kidsOk l) (hps : ps.length ≤ 900000) (hn : Rn ps.length ps) :
    ACall Tryz.prog 15 [.bx 1000 g 0, .sl true f (nodes l), .int .i64 rule] (gsto g g1 ps) fun r s => r = .agg ((listG l rule ps).2.getLastD enN).cells ∧ ∃ h1, s = gsto g h1 (listG l rule ps).1 := by
  obtain ⟨l1, l2, hkids⟩ := hl
  have hrep : List.map (List.map nrm1) (List.replicate l.length [AVal.bool false]) = blsG (innR l 0) := by rw [innR_zero]; simp [nrm1]
  have hrep2 : List.map (List.map nrm1) (List.replicate l.length [AVal.bool false, AVal.sl true true [], AVal.sl true true []]) = ens (List.replicate l.length enN) := by simp [nrm1, enN]
  simp only [gsto]
  refine ACall.enter Tryz.func15 rfl (by kernel_rfl) (Nat.le_of_ble_eq_true rfl) ?_; simp only [initTm, Nat.reduceAdd]
  repeat' (first
  | refine gSq ?_ | refine gSk ?_ | refine gBl ?_ | refine gIb ?_ | refine gEx rfl ?_
  | ((first
  | (refine gRg [] [0, 1, 2, 6, 7, 9, 10, 11, 12, 13, 15, 17, 21, 22, 23, 24, 34, 45, 46, 47, 48, 53, 54, 55, 56, 72, 80, 100, 104, 132, 154, 163, 164, 165, 166] ?_; intro K hK)
  | (refine gDr 23 [] 17 [0, 1, 2, 3, 4, 5, 6, 7, 8, 9, 10, 11, 12, 13, 14, 15, 16, 17, 18, 19] [0, 1, 2, 6, 7, 9, 10, 11, 12, 13, 15, 17, 21, 22, 23, 24, 34, 45, 46, 47, 48, 53, 54, 55, 56, 72, 80, 100, 104, 132, 154, 163, 164, 165, 166] rfl ?_; intro K hK)
  | (refine gDr 34 [] 11 [0, 1, 2, 3, 4, 5, 6, 7, 8, 9, 10, 11, 12, 13] [0, 1, 2, 6, 7, 9, 10, 11, 12, 13, 15, 17, 21, 22, 23, 24, 34, 45, 46, 47, 48, 53, 54, 55, 56, 72, 80, 100, 104, 132, 154, 163, 164, 165, 166] rfl ?_; intro K hK)
  | (refine gDr 15 [] 10 [0, 1, 2, 3, 4, 5, 6, 7, 8, 9, 10, 11, 12] [0, 1, 2, 6, 7, 9, 10, 11, 12, 13, 15, 17, 21, 22, 23, 24, 34, 45, 46, 47, 48, 53, 54, 55, 56, 72, 80, 100, 104, 132, 154, 163, 164, 165, 166] rfl ?_; intro K hK)
  | (refine gd_split ?_ ?_ <;> intro hb <;> (try simp only [bls] at hb) <;> (try simp only [hb]))
  | refine gRt [1000, 1001] [.cell 6 49] rfl ?_ | refine gDn [1000, 1001] [.cell 6 49] rfl ?_) <;> (try simp only [go_sem, simprocAttr, hrep]))
  | (refine hK _ _ ?_; clear hK K; simp only [go_sem, simprocAttr])
  | refine gCd (by simp only [go_sem, simprocAttr]; rfl) rfl ?_
  | refine brT ?_ | refine brF ?_
  | (refine brS ?_ ?_ <;> intro hc <;> (try simp only [bls] at hc) <;> (try simp only [hc, bls]))
  | intro _ | refine And.intro ?_ ?_)
  all_goals first | omega | (unfold bigLen; omega) | exact ⟨_, _, ⟨rfl, rfl⟩, rfl⟩ | exact ⟨_, rfl⟩ | (rename_i hy; simp only [List.mem_singleton] at hy; subst hy; rfl) | with_reducible rfl | skip
  rename_i h6 h20
  refine AGood.prune [0, 1, 2, 6, 7, 21, 22, 23] ?_; simp only [go_sem, simprocAttr]
  refine AGood.loopInv (α := Nat) (fun j => ([(0, .bx 1000 g 0), (1, .sl true f (nodes l)), (2, .int .i64 rule), (6, .bx 6 h6 0), (7, .osl 20 h20 0 l.length), (21, .sl true f (nodes l)), (22, .int .i64 l.length), (23, .int .i64 j)], [(6, h6, .box enN.cells0), (20, h20, .row 1 (blsG (innR l j))), (1000, g, .box [.osl 1001 g1 0 ps.length]), (1001, g1, .row 9 (poss ps))])) (fun j => j ≤ l.length) (fun j => l.length - j) 0 (Nat.zero_le _) rfl ?_
  rintro j hj ih
  simp only at hj ih ⊢
  by_cases hle : j < l.length
  · have e4 : (j : Int) < l.length := by omega
    have e5 : (0 : Int) ≤ j := by omega
    have e6 : (j : Int) + 1 = ((j + 1 : Nat) : Int) := by omega
    obtain ⟨n, hx⟩ : ∃ n, l[j]? = some n := ⟨_, List.getElem?_eq_getElem hle⟩
    obtain ⟨k1, k2, k3⟩ := hkids j n hx
    by_cases hc : n.op = 5 ∧ 0 < n.hi
    · obtain ⟨kd, hkd⟩ : ∃ kd, n.l = [kd] := List.length_eq_one_iff.1 (k3 hc.1)
      have hkb := k2 kd (by simp [hkd])
      obtain ⟨k, rfl⟩ : ∃ k : Nat, kd = k := ⟨kd.toNat, by omega⟩
      have hI := innR_yes hx hc (k := k) (by rw [hkd]; rfl)
      have hIl := innR_len l j
      generalize innR l j = I at hI hIl
      have f1 : k < I.length := by omega
      have f2 : (k : Int) < l.length := by omega
      have f3 : (0 : Int) ≤ k := by omega
      have hIk : I[k]? = some I[k] := List.getElem?_eq_getElem f1
      obtain ⟨hc1, hc2⟩ := hc
      obtain ⟨xo, ⟨xa, xb, xc, xd⟩, xl, xlo, xhi, xn⟩ := n
      simp only at hc1 hc2 hkd
      have hx0 : xl[0]? = some (k : Int) := by rw [hkd]; rfl
      have hx1 : (0 : Int) < xl.length := by rw [hkd]; exact Int.one_pos
      clear hkd k1 k2 k3
      repeat' (first
  | refine gSq ?_ | refine gSk ?_ | refine gBl ?_ | refine gIb ?_ | refine gEx rfl ?_
  | ((first
  | (refine gRg [] [0, 1, 2, 6, 7, 9, 10, 11, 12, 13, 15, 17, 21, 22, 23, 24, 34, 45, 46, 47, 48, 53, 54, 55, 56, 72, 80, 100, 104, 132, 154, 163, 164, 165, 166] ?_; intro K hK)
  | (refine gDr 23 [] 17 [0, 1, 2, 3, 4, 5, 6, 7, 8, 9, 10, 11, 12, 13, 14, 15, 16, 17, 18, 19] [0, 1, 2, 6, 7, 9, 10, 11, 12, 13, 15, 17, 21, 22, 23, 24, 34, 45, 46, 47, 48, 53, 54, 55, 56, 72, 80, 100, 104, 132, 154, 163, 164, 165, 166] rfl ?_; intro K hK)
  | (refine gDr 34 [] 11 [0, 1, 2, 3, 4, 5, 6, 7, 8, 9, 10, 11, 12, 13] [0, 1, 2, 6, 7, 9, 10, 11, 12, 13, 15, 17, 21, 22, 23, 24, 34, 45, 46, 47, 48, 53, 54, 55, 56, 72, 80, 100, 104, 132, 154, 163, 164, 165, 166] rfl ?_; intro K hK)
  | (refine gDr 15 [] 10 [0, 1, 2, 3, 4, 5, 6, 7, 8, 9, 10, 11, 12] [0, 1, 2, 6, 7, 9, 10, 11, 12, 13, 15, 17, 21, 22, 23, 24, 34, 45, 46, 47, 48, 53, 54, 55, 56, 72, 80, 100, 104, 132, 154, 163, 164, 165, 166] rfl ?_; intro K hK)
  | (refine gd_split ?_ ?_ <;> intro hb <;> (try simp only [bls] at hb) <;> (try simp only [hb]))
  | refine gRt [1000, 1001] [.cell 6 49] rfl ?_ | refine gDn [1000, 1001] [.cell 6 49] rfl ?_) <;> (try simp only [go_sem, simprocAttr, e4, e5, e6, f1, f2, f3, hx, hx0, hx1, hIk, eq_true hc1, hc2, Option.some.injEq, forall_eq']))
  | (refine hK _ _ ?_; clear hK K; simp only [go_sem, simprocAttr])
  | refine gCd (by simp only [go_sem, simprocAttr]; rfl) rfl ?_
  | refine brT ?_ | refine brF ?_
  | (refine brS ?_ ?_ <;> intro hc <;> (try simp only [bls] at hc) <;> (try simp only [hc, bls]))
  | intro _ | refine And.intro ?_ ?_)
      all_goals first | omega | (unfold bigLen; omega) | exact ⟨_, _, ⟨rfl, rfl⟩, rfl⟩ | exact ⟨_, rfl⟩ | (rename_i hy; simp only [List.mem_singleton] at hy; subst hy; rfl) | with_reducible rfl | skip
      rename_i z hz
      have hz2 : z = [.bool I[k]] := by rw [List.getElem?_map, hIk] at hz; exact (Option.some.inj hz).symm
      subst hz2
      refine AGood.filt [6, 20, 1000, 1001] ?_
      simp only [sf_cons, sf_nil, go_sem, simprocAttr]
      refine AGood.prune [0, 1, 2, 6, 7, 21, 22, 23] ?_; simp only [go_sem, simprocAttr]
      exact AGood.cast (ih (j + 1) (by omega) (by omega)) rfl (by rw [hI]; simp [List.map_set])
    · have hI := innR_no hx hc
      obtain ⟨xo, ⟨xa, xb, xc, xd⟩, xl, xlo, xhi, xn⟩ := n
      simp only at hc
      clear k1 k2 k3
      by_cases h5 : xo = 5
      · have h6' : ¬ 0 < xhi := fun h => hc ⟨h5, h⟩
        repeat' (first
  | refine gSq ?_ | refine gSk ?_ | refine gBl ?_ | refine gIb ?_ | refine gEx rfl ?_
  | ((first
  | (refine gRg [] [0, 1, 2, 6, 7, 9, 10, 11, 12, 13, 15, 17, 21, 22, 23, 24, 34, 45, 46, 47, 48, 53, 54, 55, 56, 72, 80, 100, 104, 132, 154, 163, 164, 165, 166] ?_; intro K hK)
  | (refine gDr 23 [] 17 [0, 1, 2, 3, 4, 5, 6, 7, 8, 9, 10, 11, 12, 13, 14, 15, 16, 17, 18, 19] [0, 1, 2, 6, 7, 9, 10, 11, 12, 13, 15, 17, 21, 22, 23, 24, 34, 45, 46, 47, 48, 53, 54, 55, 56, 72, 80, 100, 104, 132, 154, 163, 164, 165, 166] rfl ?_; intro K hK)
  | (refine gDr 34 [] 11 [0, 1, 2, 3, 4, 5, 6, 7, 8, 9, 10, 11, 12, 13] [0, 1, 2, 6, 7, 9, 10, 11, 12, 13, 15, 17, 21, 22, 23, 24, 34, 45, 46, 47, 48, 53, 54, 55, 56, 72, 80, 100, 104, 132, 154, 163, 164, 165, 166] rfl ?_; intro K hK)
  | (refine gDr 15 [] 10 [0, 1, 2, 3, 4, 5, 6, 7, 8, 9, 10, 11, 12] [0, 1, 2, 6, 7, 9, 10, 11, 12, 13, 15, 17, 21, 22, 23, 24, 34, 45, 46, 47, 48, 53, 54, 55, 56, 72, 80, 100, 104, 132, 154, 163, 164, 165, 166] rfl ?_; intro K hK)
  | (refine gd_split ?_ ?_ <;> intro hb <;> (try simp only [bls] at hb) <;> (try simp only [hb]))
  | refine gRt [1000, 1001] [.cell 6 49] rfl ?_ | refine gDn [1000, 1001] [.cell 6 49] rfl ?_) <;> (try simp only [go_sem, simprocAttr, e4, e5, e6, hx, eq_true h5, h6', Option.some.injEq, forall_eq']))
  | (refine hK _ _ ?_; clear hK K; simp only [go_sem, simprocAttr])
  | refine gCd (by simp only [go_sem, simprocAttr]; rfl) rfl ?_
  | refine brT ?_ | refine brF ?_
  | (refine brS ?_ ?_ <;> intro hc <;> (try simp only [bls] at hc) <;> (try simp only [hc, bls]))
  | intro _ | refine And.intro ?_ ?_)
        all_goals first | omega | (unfold bigLen; omega) | exact ⟨_, _, ⟨rfl, rfl⟩, rfl⟩ | exact ⟨_, rfl⟩ | (rename_i hy; simp only [List.mem_singleton] at hy; subst hy; rfl) | with_reducible rfl | skip
        refine AGood.filt [6, 20, 1000, 1001] ?_
        simp only [sf_cons, sf_nil, go_sem, simprocAttr]
        refine AGood.prune [0, 1, 2, 6, 7, 21, 22, 23] ?_; simp only [go_sem, simprocAttr]
        exact AGood.cast (ih (j + 1) (by omega) (by omega)) rfl (by rw [hI])
      · repeat' (first
  | refine gSq ?_ | refine gSk ?_ | refine gBl ?_ | refine gIb ?_ | refine gEx rfl ?_
  | ((first
  | (refine gRg [] [0, 1, 2, 6, 7, 9, 10, 11, 12, 13, 15, 17, 21, 22, 23, 24, 34, 45, 46, 47, 48, 53, 54, 55, 56, 72, 80, 100, 104, 132, 154, 163, 164, 165, 166] ?_; intro K hK)
  | (refine gDr 23 [] 17 [0, 1, 2, 3, 4, 5, 6, 7, 8, 9, 10, 11, 12, 13, 14, 15, 16, 17, 18, 19] [0, 1, 2, 6, 7, 9, 10, 11, 12, 13, 15, 17, 21, 22, 23, 24, 34, 45, 46, 47, 48, 53, 54, 55, 56, 72, 80, 100, 104, 132, 154, 163, 164, 165, 166] rfl ?_; intro K hK)
  | (refine gDr 34 [] 11 [0, 1, 2, 3, 4, 5, 6, 7, 8, 9, 10, 11, 12, 13] [0, 1, 2, 6, 7, 9, 10, 11, 12, 13, 15, 17, 21, 22, 23, 24, 34, 45, 46, 47, 48, 53, 54, 55, 56, 72, 80, 100, 104, 132, 154, 163, 164, 165, 166] rfl ?_; intro K hK)
  | (refine gDr 15 [] 10 [0, 1, 2, 3, 4, 5, 6, 7, 8, 9, 10, 11, 12] [0, 1, 2, 6, 7, 9, 10, 11, 12, 13, 15, 17, 21, 22, 23, 24, 34, 45, 46, 47, 48, 53, 54, 55, 56, 72, 80, 100, 104, 132, 154, 163, 164, 165, 166] rfl ?_; intro K hK)
  | (refine gd_split ?_ ?_ <;> intro hb <;> (try simp only [bls] at hb) <;> (try simp only [hb]))
  | refine gRt [1000, 1001] [.cell 6 49] rfl ?_ | refine gDn [1000, 1001] [.cell 6 49] rfl ?_) <;> (try simp only [go_sem, simprocAttr, e4, e5, e6, hx, h5, Option.some.injEq, forall_eq']))
  | (refine hK _ _ ?_; clear hK K; simp only [go_sem, simprocAttr])
  | refine gCd (by simp only [go_sem, simprocAttr]; rfl) rfl ?_
  | refine brT ?_ | refine brF ?_
  | (refine brS ?_ ?_ <;> intro hc <;> (try simp only [bls] at hc) <;> (try simp only [hc, bls]))
  | intro _ | refine And.intro ?_ ?_)
        all_goals first | omega | (unfold bigLen; omega) | exact ⟨_, _, ⟨rfl, rfl⟩, rfl⟩ | exact ⟨_, rfl⟩ | (rename_i hy; simp only [List.mem_singleton] at hy; subst hy; rfl) | with_reducible rfl | skip
        refine AGood.filt [6, 20, 1000, 1001] ?_
        simp only [sf_cons, sf_nil, go_sem, simprocAttr]
        refine AGood.prune [0, 1, 2, 6, 7, 21, 22, 23] ?_; simp only [go_sem, simprocAttr]
        exact AGood.cast (ih (j + 1) (by omega) (by omega)) rfl (by rw [hI])
  · have e4 : ¬ (j : Int) < l.length := by omega
    have hin : j = l.length := by omega
    rw [hin]
    rw [hin] at e4
    clear ih
    repeat' (first
  | refine gSq ?_ | refine gSk ?_ | refine gBl ?_ | refine gIb ?_ | refine gEx rfl ?_
  | ((first
  | (refine gRg [] [0, 1, 2, 6, 7, 9, 10, 11, 12, 13, 15, 17, 21, 22, 23, 24, 34, 45, 46, 47, 48, 53, 54, 55, 56, 72, 80, 100, 104, 132, 154, 163, 164, 165, 166] ?_; intro K hK)
  | (refine gDr 23 [] 17 [0, 1, 2, 3, 4, 5, 6, 7, 8, 9, 10, 11, 12, 13, 14, 15, 16, 17, 18, 19] [0, 1, 2, 6, 7, 9, 10, 11, 12, 13, 15, 17, 21, 22, 23, 24, 34, 45, 46, 47, 48, 53, 54, 55, 56, 72, 80, 100, 104, 132, 154, 163, 164, 165, 166] rfl ?_; intro K hK)
  | (refine gDr 34 [] 11 [0, 1, 2, 3, 4, 5, 6, 7, 8, 9, 10, 11, 12, 13] [0, 1, 2, 6, 7, 9, 10, 11, 12, 13, 15, 17, 21, 22, 23, 24, 34, 45, 46, 47, 48, 53, 54, 55, 56, 72, 80, 100, 104, 132, 154, 163, 164, 165, 166] rfl ?_; intro K hK)
  | (refine gDr 15 [] 10 [0, 1, 2, 3, 4, 5, 6, 7, 8, 9, 10, 11, 12] [0, 1, 2, 6, 7, 9, 10, 11, 12, 13, 15, 17, 21, 22, 23, 24, 34, 45, 46, 47, 48, 53, 54, 55, 56, 72, 80, 100, 104, 132, 154, 163, 164, 165, 166] rfl ?_; intro K hK)
  | (refine gd_split ?_ ?_ <;> intro hb <;> (try simp only [bls] at hb) <;> (try simp only [hb]))
  | refine gRt [1000, 1001] [.cell 6 49] rfl ?_ | refine gDn [1000, 1001] [.cell 6 49] rfl ?_) <;> (try simp only [go_sem, simprocAttr, e4, hrep2]))
  | (refine hK _ _ ?_; clear hK K; simp only [go_sem, simprocAttr])
  | refine gCd (by simp only [go_sem, simprocAttr]; rfl) rfl ?_
  | refine brT ?_ | refine brF ?_
  | (refine brS ?_ ?_ <;> intro hc <;> (try simp only [bls] at hc) <;> (try simp only [hc, bls]))
  | intro _ | refine And.intro ?_ ?_)
    all_goals first | omega | (unfold bigLen; omega) | exact ⟨_, _, ⟨rfl, rfl⟩, rfl⟩ | exact ⟨_, rfl⟩ | (rename_i hy; simp only [List.mem_singleton] at hy; subst hy; rfl) | with_reducible rfl | skip
    rename_i h44
    refine AGood.prune [0, 1, 2, 6, 7, 10, 45, 46, 47] ?_; simp only [go_sem, simprocAttr]
    obtain ⟨S, hS⟩ : ∃ S : Nat → List Po × List En, S = fun i => (l.take i).foldl (stepG l rule) (ps, []) := ⟨_, rfl⟩
    have hS0 : S 0 = (ps, []) := by rw [hS]; rfl
    have hS1 : ∀ (i : Nat) (n : Node), l[i]? = some n → S (i + 1) = stepG l rule (S i) n := fun i n h => by rw [hS]; simp only [take_one h, List.foldl_append]; rfl
    have hSf : ∀ i, i ≤ l.length → SOk (S i) ∧ (S i).2.length = i ∧ (S i).1.length ≤ ps.length + i := fun i hi => by
      obtain ⟨a, b, _, d⟩ := runG_ok l rule (l.take i) (s := (ps, [])) ⟨hn, fun e he => by simp at he⟩
      rw [List.length_take] at b d
      rw [hS]
      exact ⟨a, by rw [b]; simp; omega, by simp only at d ⊢; omega⟩
    have hSE : listG l rule ps = S l.length := by rw [hS, listG]; simp only [List.take_length]
    rw [hSE]
    clear hS hSE
    refine AGood.loopInv (α := Nat × Nat) (fun z => ([(0, .bx 1000 g 0), (1, .sl true f (nodes l)), (2, .int .i64 rule), (6, .bx 6 h6 0), (7, .osl 20 h20 0 l.length), (10, .osl 44 h44 0 l.length), (45, .sl true f (nodes l)), (46, .int .i64 l.length), (47, .int .i64 z.1)], [(6, h6, .box enN.cells0), (20, h20, .row 1 (blsG (innR l l.length))), (44, h44, .row 3 (ens ((S z.1).2 ++ List.replicate (l.length - z.1) enN))), (1000, g, .box [.osl 1001 z.2 0 (S z.1).1.length]), (1001, z.2, .row 9 (poss (S z.1).1))])) (fun z => z.1 ≤ l.length) (fun z => l.length - z.1) (0, g1) (Nat.zero_le _) (by simp only [hS0]; rfl) ?_
    rintro ⟨i, g1⟩ hi ih
    simp only at hi ih ⊢
    obtain ⟨hok, hal, hpl⟩ := hSf i hi
    by_cases hle : i < l.length
    · have e4 : (i : Int) < l.length := by omega
      have e5 : (0 : Int) ≤ i := by omega
      have e6 : (i : Int) + 1 = ((i + 1 : Nat) : Int) := by omega
      obtain ⟨n, hx⟩ : ∃ n, l[i]? = some n := ⟨_, List.getElem?_eq_getElem hle⟩
      obtain ⟨k1, k2, k3⟩ := hkids i n hx
      have hst := hS1 i n hx
      have hin := innR_get hle
      generalize innR l l.length = I at hin ih ⊢
      generalize S i = s at hst hok hal hpl ⊢
      obtain ⟨Q, al⟩ := s
      simp only at hst hok hal hpl ⊢
      obtain ⟨hQ, hA⟩ := hok
      simp only at hQ hA
      have hrow := rowG_now (n := l.length) (al := al) (by omega)
      rw [hal] at hrow
      rw [hrow]
      obtain ⟨r1, r2, r3, r4⟩ := rowG_facts (n := l.length) (al := al) (by omega) enN
      have rn := rowG_next (n := l.length) (al := al) (by omega)
      rw [hal] at r2 r3 r4 rn
      have f1 : i < (rowG l.length al enN).length := by omega
      simp only [stepG, hal] at hst
      by_cases c1 : n.op = 1
      · rw [if_neg (by omega), nodeG, if_pos c1] at hst
        obtain ⟨xo, ⟨xa, xb, xc, xd⟩, xl, xlo, xhi, xn⟩ := n
        simp only at c1
        clear k1 k2 k3
        generalize rowG l.length al enN = W at r2 r4 f1
        repeat' (first
  | refine gSq ?_ | refine gSk ?_ | refine gBl ?_ | refine gIb ?_ | refine gEx rfl ?_
  | ((first
  | (refine gRg [] [0, 1, 2, 6, 7, 9, 10, 11, 12, 13, 15, 17, 21, 22, 23, 24, 34, 45, 46, 47, 48, 53, 54, 55, 56, 72, 80, 100, 104, 132, 154, 163, 164, 165, 166] ?_; intro K hK)
  | (refine gDr 23 [] 17 [0, 1, 2, 3, 4, 5, 6, 7, 8, 9, 10, 11, 12, 13, 14, 15, 16, 17, 18, 19] [0, 1, 2, 6, 7, 9, 10, 11, 12, 13, 15, 17, 21, 22, 23, 24, 34, 45, 46, 47, 48, 53, 54, 55, 56, 72, 80, 100, 104, 132, 154, 163, 164, 165, 166] rfl ?_; intro K hK)
  | (refine gDr 34 [] 11 [0, 1, 2, 3, 4, 5, 6, 7, 8, 9, 10, 11, 12, 13] [0, 1, 2, 6, 7, 9, 10, 11, 12, 13, 15, 17, 21, 22, 23, 24, 34, 45, 46, 47, 48, 53, 54, 55, 56, 72, 80, 100, 104, 132, 154, 163, 164, 165, 166] rfl ?_; intro K hK)
  | (refine gDr 15 [] 10 [0, 1, 2, 3, 4, 5, 6, 7, 8, 9, 10, 11, 12] [0, 1, 2, 6, 7, 9, 10, 11, 12, 13, 15, 17, 21, 22, 23, 24, 34, 45, 46, 47, 48, 53, 54, 55, 56, 72, 80, 100, 104, 132, 154, 163, 164, 165, 166] rfl ?_; intro K hK)
  | (refine gd_split ?_ ?_ <;> intro hb <;> (try simp only [bls] at hb) <;> (try simp only [hb]))
  | refine gRt [1000, 1001] [.cell 6 49] rfl ?_ | refine gDn [1000, 1001] [.cell 6 49] rfl ?_) <;> (try simp only [go_sem, simprocAttr, e4, e5, e6, f1, hx, r2, eq_true c1, Option.some.injEq, forall_eq']))
  | (refine hK _ _ ?_; clear hK K; simp only [go_sem, simprocAttr])
  | refine gCd (by simp only [go_sem, simprocAttr]; rfl) rfl ?_
  | refine brT ?_ | refine brF ?_
  | (refine brS ?_ ?_ <;> intro hc <;> (try simp only [bls] at hc) <;> (try simp only [hc, bls]))
  | intro _ | refine And.intro ?_ ?_)
        all_goals first | omega | (unfold bigLen; omega) | exact ⟨_, _, ⟨rfl, rfl⟩, rfl⟩ | exact ⟨_, rfl⟩ | (rename_i hy; simp only [List.mem_singleton] at hy; subst hy; rfl) | with_reducible rfl | skip
        rename_i z hz
        have hz2 : z = enN.cells := by rw [List.getElem?_map, r2] at hz; exact (Option.some.inj hz).symm
        subst hz2
        refine AGood.filt [6, 20, 44, 1000, 1001] ?_
        simp only [sf_cons, sf_nil, go_sem, simprocAttr]
        refine AGood.prune [0, 1, 2, 6, 7, 10, 45, 46, 47] ?_; simp only [go_sem, simprocAttr]
        exact AGood.cast (ih (i + 1, g1) (by simp only; omega) (by simp only; omega)) rfl (by simp only [hst, ← rn, ← r4, List.map_set]; rfl)
      by_cases c2 : n.op = 2
      · cases hc : innerS l i
        · rw [hc] at hin
          rw [if_neg (by simp [hc]), nodeG, if_neg c1, if_pos c2] at hst
          obtain ⟨xo, ⟨xa, xb, xc, xd⟩, xl, xlo, xhi, xn⟩ := n
          simp only at c1 c2
          clear k1 k2 k3
          have hput := put9uc g g1 Q ⟨⟨xa, xb, xc, xd⟩, 1, 1, rule, false, []⟩ true (by omega)
          simp only [putG, En.cells, Po.cellsF, gsto, List.map_nil, List.map_cons] at hput
          simp only [putG] at hst
          generalize rowG l.length al enN = W at r2 r4 f1
          have f2 : (i : Int) < I.length := by have := (List.getElem?_eq_some_iff.1 hin).1; omega
          repeat' (first
  | refine gSq ?_ | refine gSk ?_ | refine gBl ?_ | refine gIb ?_ | refine gEx rfl ?_
  | ((first
  | (refine gRg [] [0, 1, 2, 6, 7, 9, 10, 11, 12, 13, 15, 17, 21, 22, 23, 24, 34, 45, 46, 47, 48, 53, 54, 55, 56, 72, 80, 100, 104, 132, 154, 163, 164, 165, 166] ?_; intro K hK)
  | (refine gDr 23 [] 17 [0, 1, 2, 3, 4, 5, 6, 7, 8, 9, 10, 11, 12, 13, 14, 15, 16, 17, 18, 19] [0, 1, 2, 6, 7, 9, 10, 11, 12, 13, 15, 17, 21, 22, 23, 24, 34, 45, 46, 47, 48, 53, 54, 55, 56, 72, 80, 100, 104, 132, 154, 163, 164, 165, 166] rfl ?_; intro K hK)
  | (refine gDr 34 [] 11 [0, 1, 2, 3, 4, 5, 6, 7, 8, 9, 10, 11, 12, 13] [0, 1, 2, 6, 7, 9, 10, 11, 12, 13, 15, 17, 21, 22, 23, 24, 34, 45, 46, 47, 48, 53, 54, 55, 56, 72, 80, 100, 104, 132, 154, 163, 164, 165, 166] rfl ?_; intro K hK)
  | (refine gDr 15 [] 10 [0, 1, 2, 3, 4, 5, 6, 7, 8, 9, 10, 11, 12] [0, 1, 2, 6, 7, 9, 10, 11, 12, 13, 15, 17, 21, 22, 23, 24, 34, 45, 46, 47, 48, 53, 54, 55, 56, 72, 80, 100, 104, 132, 154, 163, 164, 165, 166] rfl ?_; intro K hK)
  | (refine ACall.use [(1000, 1000), (1001, 1001)] [] rfl (hput) rfl rfl rfl ?_; (first | rintro _ _ ⟨rfl, rfl⟩ | rintro _ _ ⟨rfl, h1, rfl⟩); refine ⟨.inl rfl, rfl, ?_⟩; simp only [bk, bk2, bk1, bkS, bkO, idOf, delAll, go_sem, simprocAttr])
  | (refine gd_split ?_ ?_ <;> intro hb <;> (try simp only [bls] at hb) <;> (try simp only [hb]))
  | refine gRt [1000, 1001] [.cell 6 49] rfl ?_ | refine gDn [1000, 1001] [.cell 6 49] rfl ?_) <;> (try simp only [go_sem, simprocAttr, e4, e5, e6, f1, f2, hx, r2, hin, c1, eq_true c2, AVal.isCell, Option.some.injEq, forall_eq']))
  | (refine hK _ _ ?_; clear hK K; simp only [go_sem, simprocAttr])
  | refine gCd (by simp only [go_sem, simprocAttr]; rfl) rfl ?_
  | refine brT ?_ | refine brF ?_
  | (refine brS ?_ ?_ <;> intro hc <;> (try simp only [bls] at hc) <;> (try simp only [hc, bls]))
  | intro _ | refine And.intro ?_ ?_)
          all_goals first | omega | (unfold bigLen; omega) | exact ⟨_, _, ⟨rfl, rfl⟩, rfl⟩ | exact ⟨_, rfl⟩ | (rename_i hy; simp only [List.mem_singleton] at hy; subst hy; rfl) | with_reducible rfl | skip
          rename_i z hz
          have hz2 : z = enN.cells := by rw [List.getElem?_map, r2] at hz; exact (Option.some.inj hz).symm
          subst hz2
          refine AGood.filt [6, 20, 44, 1000, 1001] ?_
          simp only [sf_cons, sf_nil, go_sem, simprocAttr]
          refine AGood.prune [0, 1, 2, 6, 7, 10, 45, 46, 47] ?_; simp only [go_sem, simprocAttr]
          exact AGood.cast (ih (i + 1, h1) (by simp only; omega) (by simp only; omega)) rfl (by simp only [hst, ← rn, ← r4, List.map_set]; rfl)
        · rw [hc] at hin
          rw [if_pos ⟨c2, hc⟩] at hst
          obtain ⟨xo, ⟨xa, xb, xc, xd⟩, xl, xlo, xhi, xn⟩ := n
          simp only at c1 c2
          clear k1 k2 k3
          have f2 : (i : Int) < I.length := by have := (List.getElem?_eq_some_iff.1 hin).1; omega
          repeat' (first
  | refine gSq ?_ | refine gSk ?_ | refine gBl ?_ | refine gIb ?_ | refine gEx rfl ?_
  | ((first
  | (refine gRg [] [0, 1, 2, 6, 7, 9, 10, 11, 12, 13, 15, 17, 21, 22, 23, 24, 34, 45, 46, 47, 48, 53, 54, 55, 56, 72, 80, 100, 104, 132, 154, 163, 164, 165, 166] ?_; intro K hK)
  | (refine gDr 23 [] 17 [0, 1, 2, 3, 4, 5, 6, 7, 8, 9, 10, 11, 12, 13, 14, 15, 16, 17, 18, 19] [0, 1, 2, 6, 7, 9, 10, 11, 12, 13, 15, 17, 21, 22, 23, 24, 34, 45, 46, 47, 48, 53, 54, 55, 56, 72, 80, 100, 104, 132, 154, 163, 164, 165, 166] rfl ?_; intro K hK)
  | (refine gDr 34 [] 11 [0, 1, 2, 3, 4, 5, 6, 7, 8, 9, 10, 11, 12, 13] [0, 1, 2, 6, 7, 9, 10, 11, 12, 13, 15, 17, 21, 22, 23, 24, 34, 45, 46, 47, 48, 53, 54, 55, 56, 72, 80, 100, 104, 132, 154, 163, 164, 165, 166] rfl ?_; intro K hK)
  | (refine gDr 15 [] 10 [0, 1, 2, 3, 4, 5, 6, 7, 8, 9, 10, 11, 12] [0, 1, 2, 6, 7, 9, 10, 11, 12, 13, 15, 17, 21, 22, 23, 24, 34, 45, 46, 47, 48, 53, 54, 55, 56, 72, 80, 100, 104, 132, 154, 163, 164, 165, 166] rfl ?_; intro K hK)
  | (refine gd_split ?_ ?_ <;> intro hb <;> (try simp only [bls] at hb) <;> (try simp only [hb]))
  | refine gRt [1000, 1001] [.cell 6 49] rfl ?_ | refine gDn [1000, 1001] [.cell 6 49] rfl ?_) <;> (try simp only [go_sem, simprocAttr, e4, e5, e6, f2, hx, hin, c1, eq_true c2, Option.some.injEq, forall_eq']))
  | (refine hK _ _ ?_; clear hK K; simp only [go_sem, simprocAttr])
  | refine gCd (by simp only [go_sem, simprocAttr]; rfl) rfl ?_
  | refine brT ?_ | refine brF ?_
  | (refine brS ?_ ?_ <;> intro hc <;> (try simp only [bls] at hc) <;> (try simp only [hc, bls]))
  | intro _ | refine And.intro ?_ ?_)
          all_goals first | omega | (unfold bigLen; omega) | exact ⟨_, _, ⟨rfl, rfl⟩, rfl⟩ | exact ⟨_, rfl⟩ | (rename_i hy; simp only [List.mem_singleton] at hy; subst hy; rfl) | with_reducible rfl | skip
          refine AGood.filt [6, 20, 44, 1000, 1001] ?_
          simp only [sf_cons, sf_nil, go_sem, simprocAttr]
          refine AGood.prune [0, 1, 2, 6, 7, 10, 45, 46, 47] ?_; simp only [go_sem, simprocAttr]
          exact AGood.cast (ih (i + 1, g1) (by simp only; omega) (by simp only; omega)) rfl (by simp only [hst, ← rn])
      rw [if_neg (fun h => c2 h.1), nodeG, if_neg c1, if_neg c2] at hst
      by_cases c5 : n.op = 5
      · obtain ⟨kd, hkd⟩ : ∃ kd, n.l = [kd] := List.length_eq_one_iff.1 (k3 c5)
        have hkb := k2 kd (by simp [hkd])
        obtain ⟨k, rfl⟩ : ∃ k : Nat, kd = k := ⟨kd.toNat, by omega⟩
        rw [if_pos c5] at hst
        have hx0 : n.l[0]? = some (k : Int) := by rw [hkd]; rfl
        have hx1 : (0 : Int) < n.l.length := by rw [hkd]; exact Int.one_pos
        have f2 : (k : Int) < l.length := by omega
        have f3 : (0 : Int) ≤ k := by omega
        have f4 : k < l.length := by omega
        simp only [hkd, List.headD_cons, List.map_cons, List.map_nil, Int.toNat_natCast] at hst
        by_cases ch : 0 < n.hi
        · rw [if_pos ch] at hst
          obtain ⟨w, hw⟩ : ∃ w, l[k]? = some w := ⟨_, List.getElem?_eq_getElem f4⟩
          rw [nAt_get hw] at hst
          obtain ⟨xo, ⟨xa, xb, xc, xd⟩, xl, xlo, xhi, xn⟩ := n
          obtain ⟨wo, ⟨wa, wb, wc, wd⟩, wl, wlo, whi, wn⟩ := w
          simp only at c1 c2 c5 ch hx0 hx1 hst
          clear k1 k2 k3 hkd
          have hput := put9uc g g1 Q ⟨⟨wa, wb, wc, wd⟩, xlo, xhi, rule, false, []⟩ true (by omega)
          simp only [putG, En.cells, Po.cellsF, gsto, List.map_nil, List.map_cons] at hput
          simp only [putG] at hst
          generalize rowG l.length al enN = W at r2 r4 f1
          repeat' (first
  | refine gSq ?_ | refine gSk ?_ | refine gBl ?_ | refine gIb ?_ | refine gEx rfl ?_
  | ((first
  | (refine gRg [] [0, 1, 2, 6, 7, 9, 10, 11, 12, 13, 15, 17, 21, 22, 23, 24, 34, 45, 46, 47, 48, 53, 54, 55, 56, 72, 80, 100, 104, 132, 154, 163, 164, 165, 166] ?_; intro K hK)
  | (refine gDr 23 [] 17 [0, 1, 2, 3, 4, 5, 6, 7, 8, 9, 10, 11, 12, 13, 14, 15, 16, 17, 18, 19] [0, 1, 2, 6, 7, 9, 10, 11, 12, 13, 15, 17, 21, 22, 23, 24, 34, 45, 46, 47, 48, 53, 54, 55, 56, 72, 80, 100, 104, 132, 154, 163, 164, 165, 166] rfl ?_; intro K hK)
  | (refine gDr 34 [] 11 [0, 1, 2, 3, 4, 5, 6, 7, 8, 9, 10, 11, 12, 13] [0, 1, 2, 6, 7, 9, 10, 11, 12, 13, 15, 17, 21, 22, 23, 24, 34, 45, 46, 47, 48, 53, 54, 55, 56, 72, 80, 100, 104, 132, 154, 163, 164, 165, 166] rfl ?_; intro K hK)
  | (refine gDr 15 [] 10 [0, 1, 2, 3, 4, 5, 6, 7, 8, 9, 10, 11, 12] [0, 1, 2, 6, 7, 9, 10, 11, 12, 13, 15, 17, 21, 22, 23, 24, 34, 45, 46, 47, 48, 53, 54, 55, 56, 72, 80, 100, 104, 132, 154, 163, 164, 165, 166] rfl ?_; intro K hK)
  | (refine ACall.use [(1000, 1000), (1001, 1001)] [] rfl (hput) rfl rfl rfl ?_; (first | rintro _ _ ⟨rfl, rfl⟩ | rintro _ _ ⟨rfl, h1, rfl⟩); refine ⟨.inl rfl, rfl, ?_⟩; simp only [bk, bk2, bk1, bkS, bkO, idOf, delAll, go_sem, simprocAttr])
  | (refine gd_split ?_ ?_ <;> intro hb <;> (try simp only [bls] at hb) <;> (try simp only [hb]))
  | refine gRt [1000, 1001] [.cell 6 49] rfl ?_ | refine gDn [1000, 1001] [.cell 6 49] rfl ?_) <;> (try simp only [go_sem, simprocAttr, e4, e5, e6, f1, f2, f3, f4, hx, hx0, hx1, hw, r2, c1, c2, eq_true c5, ch, AVal.isCell, Option.some.injEq, forall_eq']))
  | (refine hK _ _ ?_; clear hK K; simp only [go_sem, simprocAttr])
  | refine gCd (by simp only [go_sem, simprocAttr]; rfl) rfl ?_
  | refine brT ?_ | refine brF ?_
  | (refine brS ?_ ?_ <;> intro hc <;> (try simp only [bls] at hc) <;> (try simp only [hc, bls]))
  | intro _ | refine And.intro ?_ ?_)
          all_goals first | omega | (unfold bigLen; omega) | exact ⟨_, _, ⟨rfl, rfl⟩, rfl⟩ | exact ⟨_, rfl⟩ | (rename_i hy; simp only [List.mem_singleton] at hy; subst hy; rfl) | with_reducible rfl | skip
          rename_i z hz
          have hz2 : z = enN.cells := by rw [List.getElem?_map, r2] at hz; exact (Option.some.inj hz).symm
          subst hz2
          refine AGood.filt [6, 20, 44, 1000, 1001] ?_
          simp only [sf_cons, sf_nil, go_sem, simprocAttr]
          refine AGood.prune [0, 1, 2, 6, 7, 10, 45, 46, 47] ?_; simp only [go_sem, simprocAttr]
          exact AGood.cast (ih (i + 1, h1) (by simp only; omega) (by simp only; omega)) rfl (by simp only [hst, ← rn, ← r4, List.map_set]; rfl)
        · rw [if_neg ch] at hst
          have hki : k < i := by omega
          have hyk := r3 k hki
          have hy := getD_ok hA k
          obtain ⟨y, hyd⟩ : ∃ y, y = al.getD k enN := ⟨_, rfl⟩
          rw [← hyd] at hst hyk hy
          clear hyd
          obtain ⟨xo, ⟨xa, xb, xc, xd⟩, xl, xlo, xhi, xn⟩ := n
          simp only at c1 c2 c5 ch hx0 hx1 hst
          clear k1 k2 k3 hkd
          have hlk := link9uc g g1 true false true false y.last y.first Q (by omega) hQ hy.2.2 hy.1 (by have := rs_len hy.2; omega)
          simp only [gsto, lnk_len] at hlk
          obtain ⟨yn, yf, yl⟩ := y
          simp only at hlk hst
          have hql : (lnk yl yf Q).length = Q.length := lnk_len _ _ _
          generalize lnk yl yf Q = Q2 at hlk hst hql
          generalize rowG l.length al enN = W at r2 r4 f1 hyk
          have f5 : k < W.length := by omega
          repeat' (first
  | refine gSq ?_ | refine gSk ?_ | refine gBl ?_ | refine gIb ?_ | refine gEx rfl ?_
  | ((first
  | (refine gRg [] [0, 1, 2, 6, 7, 9, 10, 11, 12, 13, 15, 17, 21, 22, 23, 24, 34, 45, 46, 47, 48, 53, 54, 55, 56, 72, 80, 100, 104, 132, 154, 163, 164, 165, 166] ?_; intro K hK)
  | (refine gDr 23 [] 17 [0, 1, 2, 3, 4, 5, 6, 7, 8, 9, 10, 11, 12, 13, 14, 15, 16, 17, 18, 19] [0, 1, 2, 6, 7, 9, 10, 11, 12, 13, 15, 17, 21, 22, 23, 24, 34, 45, 46, 47, 48, 53, 54, 55, 56, 72, 80, 100, 104, 132, 154, 163, 164, 165, 166] rfl ?_; intro K hK)
  | (refine gDr 34 [] 11 [0, 1, 2, 3, 4, 5, 6, 7, 8, 9, 10, 11, 12, 13] [0, 1, 2, 6, 7, 9, 10, 11, 12, 13, 15, 17, 21, 22, 23, 24, 34, 45, 46, 47, 48, 53, 54, 55, 56, 72, 80, 100, 104, 132, 154, 163, 164, 165, 166] rfl ?_; intro K hK)
  | (refine gDr 15 [] 10 [0, 1, 2, 3, 4, 5, 6, 7, 8, 9, 10, 11, 12] [0, 1, 2, 6, 7, 9, 10, 11, 12, 13, 15, 17, 21, 22, 23, 24, 34, 45, 46, 47, 48, 53, 54, 55, 56, 72, 80, 100, 104, 132, 154, 163, 164, 165, 166] rfl ?_; intro K hK)
  | (refine ACall.use [(1000, 1000), (1001, 1001)] [] rfl (hlk) rfl rfl rfl ?_; (first | rintro _ _ ⟨rfl, rfl⟩ | rintro _ _ ⟨rfl, h1, rfl⟩); refine ⟨.inl rfl, rfl, ?_⟩; simp only [bk, bk2, bk1, bkS, bkO, idOf, delAll, go_sem, simprocAttr])
  | (refine gd_split ?_ ?_ <;> intro hb <;> (try simp only [bls] at hb) <;> (try simp only [hb]))
  | refine gRt [1000, 1001] [.cell 6 49] rfl ?_ | refine gDn [1000, 1001] [.cell 6 49] rfl ?_) <;> (try simp only [go_sem, simprocAttr, e4, e5, e6, f1, f2, f3, f4, f5, hx, hx0, hx1, hyk, r2, c1, c2, eq_true c5, ch, AVal.isCell, Option.some.injEq, forall_eq']))
  | (refine hK _ _ ?_; clear hK K; simp only [go_sem, simprocAttr])
  | refine gCd (by simp only [go_sem, simprocAttr]; rfl) rfl ?_
  | refine brT ?_ | refine brF ?_
  | (refine brS ?_ ?_ <;> intro hc <;> (try simp only [bls] at hc) <;> (try simp only [hc, bls]))
  | intro _ | refine And.intro ?_ ?_)
          all_goals first | omega | (unfold bigLen; omega) | exact ⟨_, _, ⟨rfl, rfl⟩, rfl⟩ | exact ⟨_, rfl⟩ | (rename_i hy; simp only [List.mem_singleton] at hy; subst hy; rfl) | with_reducible rfl | skip
          rename_i z hz
          have hz2 : z = enN.cells := by rw [List.getElem?_map, r2] at hz; exact (Option.some.inj hz).symm
          subst hz2
          refine AGood.filt [6, 20, 44, 1000, 1001] ?_
          simp only [sf_cons, sf_nil, go_sem, simprocAttr]
          refine AGood.prune [0, 1, 2, 6, 7, 10, 45, 46, 47] ?_; simp only [go_sem, simprocAttr]
          exact AGood.cast (ih (i + 1, g1) (by simp only; omega) (by simp only; omega)) rfl (by simp only [hst, ← rn, ← r4, List.map_set, hql])
      · rw [if_neg c5] at hst
        obtain ⟨ks, hks⟩ : ∃ ks, ks = n.l.map fun k => al.getD k.toNat enN := ⟨_, rfl⟩
        rw [← hks] at hst
        have hkl : ks.length = n.l.length := by rw [hks]; simp
        have hkr : ∀ y ∈ ks, Re Q.length y := fun y hy => by
          rw [hks] at hy
          obtain ⟨k, _, rfl⟩ := List.mem_map.1 hy
          exact getD_ok hA _
        have hkg : ∀ (j : Nat) (k : Nat), n.l[j]? = some (k : Int) → ks[j]? = some (al.getD k enN) := fun j k h => by rw [hks, List.getElem?_map, h]; rfl
        clear hks
        by_cases c3 : n.op = 3
        · rw [if_pos c3, catG] at hst
          obtain ⟨F, hF⟩ : ∃ F : Nat → List Po × En, F = fun j => (ks.take j).foldl thenG (Q, ⟨true, [], []⟩) := ⟨_, rfl⟩
          have hF0 : F 0 = (Q, ⟨true, [], []⟩) := by rw [hF]; rfl
          have hF1 : ∀ (j : Nat) (y : En), ks[j]? = some y → F (j + 1) = thenG (F j) y := fun j y h => by rw [hF]; simp only [take_one h, List.foldl_append]; rfl
          have hFk : ∀ j, (F j).1.length = Q.length ∧ Rn Q.length (F j).1 ∧ Re Q.length (F j).2 := fun j => by rw [hF]; exact catG_ok (ks.take j) (s := (Q, ⟨true, [], []⟩)) hQ (re_nil _ _) fun y hy => hkr y (List.mem_of_mem_take hy)
          have hFE : F ks.length = ks.foldl thenG (Q, ⟨true, [], []⟩) := by rw [hF]; simp only [List.take_length]
          rw [← hFE] at hst
          clear hF hFE
          obtain ⟨xo, ⟨xa, xb, xc, xd⟩, xl, xlo, xhi, xn⟩ := n
          simp only at c1 c2 c5 c3 k1 k2 hkl hkg hst
          clear k3
          generalize hW : rowG l.length al enN = W at r2 r4 f1
          repeat' (first
  | refine gSq ?_ | refine gSk ?_ | refine gBl ?_ | refine gIb ?_ | refine gEx rfl ?_
  | ((first
  | (refine gRg [] [0, 1, 2, 6, 7, 9, 10, 11, 12, 13, 15, 17, 21, 22, 23, 24, 34, 45, 46, 47, 48, 53, 54, 55, 56, 72, 80, 100, 104, 132, 154, 163, 164, 165, 166] ?_; intro K hK)
  | (refine gDr 23 [] 17 [0, 1, 2, 3, 4, 5, 6, 7, 8, 9, 10, 11, 12, 13, 14, 15, 16, 17, 18, 19] [0, 1, 2, 6, 7, 9, 10, 11, 12, 13, 15, 17, 21, 22, 23, 24, 34, 45, 46, 47, 48, 53, 54, 55, 56, 72, 80, 100, 104, 132, 154, 163, 164, 165, 166] rfl ?_; intro K hK)
  | (refine gDr 34 [] 11 [0, 1, 2, 3, 4, 5, 6, 7, 8, 9, 10, 11, 12, 13] [0, 1, 2, 6, 7, 9, 10, 11, 12, 13, 15, 17, 21, 22, 23, 24, 34, 45, 46, 47, 48, 53, 54, 55, 56, 72, 80, 100, 104, 132, 154, 163, 164, 165, 166] rfl ?_; intro K hK)
  | (refine gDr 15 [] 10 [0, 1, 2, 3, 4, 5, 6, 7, 8, 9, 10, 11, 12] [0, 1, 2, 6, 7, 9, 10, 11, 12, 13, 15, 17, 21, 22, 23, 24, 34, 45, 46, 47, 48, 53, 54, 55, 56, 72, 80, 100, 104, 132, 154, 163, 164, 165, 166] rfl ?_; intro K hK)
  | (refine gd_split ?_ ?_ <;> intro hb <;> (try simp only [bls] at hb) <;> (try simp only [hb]))
  | refine gRt [1000, 1001] [.cell 6 49] rfl ?_ | refine gDn [1000, 1001] [.cell 6 49] rfl ?_) <;> (try simp only [go_sem, simprocAttr, e4, e5, e6, f1, hx, r2, c1, c2, c5, eq_true c3, AVal.isCell, Option.some.injEq, forall_eq']))
  | (refine hK _ _ ?_; clear hK K; simp only [go_sem, simprocAttr])
  | refine gCd (by simp only [go_sem, simprocAttr]; rfl) rfl ?_
  | refine brT ?_ | refine brF ?_
  | (refine brS ?_ ?_ <;> intro hc <;> (try simp only [bls] at hc) <;> (try simp only [hc, bls]))
  | intro _ | refine And.intro ?_ ?_)
          all_goals first | omega | (unfold bigLen; omega) | exact ⟨_, _, ⟨rfl, rfl⟩, rfl⟩ | exact ⟨_, rfl⟩ | (rename_i hy; simp only [List.mem_singleton] at hy; subst hy; rfl) | with_reducible rfl | skip
          rename_i z hz
          have hz2 : z = enN.cells := by rw [List.getElem?_map, r2] at hz; exact (Option.some.inj hz).symm
          subst hz2
          refine AGood.filt [6, 20, 44, 1000, 1001] ?_
          simp only [sf_cons, sf_nil, go_sem, simprocAttr]
          refine AGood.prune [0, 1, 2, 6, 7, 10, 11, 45, 46, 47, 163, 164, 165] ?_; simp only [go_sem, simprocAttr]
          refine AGood.loopInv (α := Nat) (fun j => ([(0, .bx 1000 g 0), (1, .sl true f (nodes l)), (2, .int .i64 rule), (6, .bx 6 h6 0), (7, .osl 20 h20 0 l.length), (10, .osl 44 h44 0 l.length), (11, .int .i64 i), (45, .sl true f (nodes l)), (46, .int .i64 l.length), (47, .int .i64 i), (163, .sl true false (ints xl)), (164, .int .i64 xl.length), (165, .int .i64 j)], [(6, h6, .box enN.cells0), (20, h20, .row 1 (blsG I)), (44, h44, .row 3 (ens (rowG l.length al (F j).2))), (1000, g, .box [.osl 1001 g1 0 Q.length]), (1001, g1, .row 9 (poss (F j).1))])) (fun j => j ≤ xl.length) (fun j => xl.length - j) 0 (Nat.zero_le _) (by simp only [hF0, ← r4, List.map_set]; rfl) ?_
          rintro j hj ih2
          simp only at hj ih2 ⊢
          obtain ⟨q1, q2, q3⟩ := hFk j
          by_cases hlj : j < xl.length
          · have d4 : (j : Int) < xl.length := by omega
            have d5 : (0 : Int) ≤ j := by omega
            have d6 : (j : Int) + 1 = ((j + 1 : Nat) : Int) := by omega
            obtain ⟨kd, hkd⟩ : ∃ kd, xl[j]? = some kd := ⟨_, List.getElem?_eq_getElem hlj⟩
            have hkb := k2 kd (List.mem_of_getElem? hkd)
            obtain ⟨k, rfl⟩ : ∃ k : Nat, kd = k := ⟨kd.toNat, by omega⟩
            have hyk := hkg j k hkd
            have hyr := hkr _ (List.mem_of_getElem? hyk)
            have hf1 := hF1 j _ hyk
            obtain ⟨w1, w2, w3, w4⟩ := rowG_facts (n := l.length) (al := al) (by omega) (F j).2
            rw [hal] at w2 w3 w4
            have w5 := w3 k (by omega)
            generalize al.getD k enN = y at hyr hf1 w5
            generalize rowG l.length al (F j).2 = V at w1 w2 w4 w5 ⊢
            generalize F j = s at hf1 q1 q2 q3 w2 ⊢
            obtain ⟨Q1, x⟩ := s
            simp only at hf1 q1 q2 q3 w2 ⊢
            have hth := then9uc g g1 Q1 x y (by omega) (by rw [q1]; exact q2) (by rw [q1]; exact q3) (by rw [q1]; exact hyr)
            rw [← hf1] at hth
            have hql : (F (j + 1)).1.length = Q.length := (hFk (j + 1)).1
            have m1 : i < V.length := by omega
            have m2 : k < V.length := by omega
            have m3 : (k : Int) < l.length := by omega
            have m4 : (0 : Int) ≤ k := by omega
            simp only [gsto, q1, hql] at hth
            obtain ⟨s', hs'⟩ : ∃ s', s' = F (j + 1) := ⟨_, rfl⟩
            rw [← hs'] at hth hql
            obtain ⟨Q2, x'⟩ := s'
            obtain ⟨xn', xf', xl'⟩ := x'
            obtain ⟨cn, cf, cl⟩ := x
            obtain ⟨yn, yf, yl⟩ := y
            simp only [En.cells] at hth
            repeat' (first
  | refine gSq ?_ | refine gSk ?_ | refine gBl ?_ | refine gIb ?_ | refine gEx rfl ?_
  | ((first
  | (refine gRg [] [0, 1, 2, 6, 7, 9, 10, 11, 12, 13, 15, 17, 21, 22, 23, 24, 34, 45, 46, 47, 48, 53, 54, 55, 56, 72, 80, 100, 104, 132, 154, 163, 164, 165, 166] ?_; intro K hK)
  | (refine gDr 23 [] 17 [0, 1, 2, 3, 4, 5, 6, 7, 8, 9, 10, 11, 12, 13, 14, 15, 16, 17, 18, 19] [0, 1, 2, 6, 7, 9, 10, 11, 12, 13, 15, 17, 21, 22, 23, 24, 34, 45, 46, 47, 48, 53, 54, 55, 56, 72, 80, 100, 104, 132, 154, 163, 164, 165, 166] rfl ?_; intro K hK)
  | (refine gDr 34 [] 11 [0, 1, 2, 3, 4, 5, 6, 7, 8, 9, 10, 11, 12, 13] [0, 1, 2, 6, 7, 9, 10, 11, 12, 13, 15, 17, 21, 22, 23, 24, 34, 45, 46, 47, 48, 53, 54, 55, 56, 72, 80, 100, 104, 132, 154, 163, 164, 165, 166] rfl ?_; intro K hK)
  | (refine gDr 15 [] 10 [0, 1, 2, 3, 4, 5, 6, 7, 8, 9, 10, 11, 12] [0, 1, 2, 6, 7, 9, 10, 11, 12, 13, 15, 17, 21, 22, 23, 24, 34, 45, 46, 47, 48, 53, 54, 55, 56, 72, 80, 100, 104, 132, 154, 163, 164, 165, 166] rfl ?_; intro K hK)
  | (refine ACall.use [(1000, 1000), (1001, 1001)] [] rfl (hth) rfl rfl rfl ?_; (first | rintro _ _ ⟨rfl, rfl⟩ | rintro _ _ ⟨rfl, h1, rfl⟩); refine ⟨.inl rfl, rfl, ?_⟩; simp only [bk, bk2, bk1, bkS, bkO, idOf, delAll, go_sem, simprocAttr])
  | (refine gd_split ?_ ?_ <;> intro hb <;> (try simp only [bls] at hb) <;> (try simp only [hb]))
  | refine gRt [1000, 1001] [.cell 6 49] rfl ?_ | refine gDn [1000, 1001] [.cell 6 49] rfl ?_) <;> (try simp only [go_sem, simprocAttr, d4, d5, d6, e4, e5, m1, m2, m3, m4, hkd, w2, w5, AVal.isCell, Option.some.injEq, forall_eq']))
  | (refine hK _ _ ?_; clear hK K; simp only [go_sem, simprocAttr])
  | refine gCd (by simp only [go_sem, simprocAttr]; rfl) rfl ?_
  | refine brT ?_ | refine brF ?_
  | (refine brS ?_ ?_ <;> intro hc <;> (try simp only [bls] at hc) <;> (try simp only [hc, bls]))
  | intro _ | refine And.intro ?_ ?_)
            all_goals first | omega | (unfold bigLen; omega) | exact ⟨_, _, ⟨rfl, rfl⟩, rfl⟩ | exact ⟨_, rfl⟩ | (rename_i hy; simp only [List.mem_singleton] at hy; subst hy; rfl) | with_reducible rfl | skip
            rename_i z hz
            have hz2 : z = En.cells ⟨cn, cf, cl⟩ := by rw [List.getElem?_map, w2] at hz; exact (Option.some.inj hz).symm
            subst hz2
            refine AGood.filt [6, 20, 44, 1000, 1001] ?_
            simp only [sf_cons, sf_nil, go_sem, simprocAttr]
            refine AGood.prune [0, 1, 2, 6, 7, 10, 11, 45, 46, 47, 163, 164, 165] ?_; simp only [go_sem, simprocAttr]
            exact AGood.cast (ih2 (j + 1) (by omega) (by omega)) rfl (by simp only [← hs', ← w4, List.map_set])
          · have d4 : ¬ (j : Int) < xl.length := by omega
            have hjn : j = ks.length := by omega
            subst hjn
            clear ih2
            repeat' (first
  | refine gSq ?_ | refine gSk ?_ | refine gBl ?_ | refine gIb ?_ | refine gEx rfl ?_
  | ((first
  | (refine gRg [] [0, 1, 2, 6, 7, 9, 10, 11, 12, 13, 15, 17, 21, 22, 23, 24, 34, 45, 46, 47, 48, 53, 54, 55, 56, 72, 80, 100, 104, 132, 154, 163, 164, 165, 166] ?_; intro K hK)
  | (refine gDr 23 [] 17 [0, 1, 2, 3, 4, 5, 6, 7, 8, 9, 10, 11, 12, 13, 14, 15, 16, 17, 18, 19] [0, 1, 2, 6, 7, 9, 10, 11, 12, 13, 15, 17, 21, 22, 23, 24, 34, 45, 46, 47, 48, 53, 54, 55, 56, 72, 80, 100, 104, 132, 154, 163, 164, 165, 166] rfl ?_; intro K hK)
  | (refine gDr 34 [] 11 [0, 1, 2, 3, 4, 5, 6, 7, 8, 9, 10, 11, 12, 13] [0, 1, 2, 6, 7, 9, 10, 11, 12, 13, 15, 17, 21, 22, 23, 24, 34, 45, 46, 47, 48, 53, 54, 55, 56, 72, 80, 100, 104, 132, 154, 163, 164, 165, 166] rfl ?_; intro K hK)
  | (refine gDr 15 [] 10 [0, 1, 2, 3, 4, 5, 6, 7, 8, 9, 10, 11, 12] [0, 1, 2, 6, 7, 9, 10, 11, 12, 13, 15, 17, 21, 22, 23, 24, 34, 45, 46, 47, 48, 53, 54, 55, 56, 72, 80, 100, 104, 132, 154, 163, 164, 165, 166] rfl ?_; intro K hK)
  | (refine gd_split ?_ ?_ <;> intro hb <;> (try simp only [bls] at hb) <;> (try simp only [hb]))
  | refine gRt [1000, 1001] [.cell 6 49] rfl ?_ | refine gDn [1000, 1001] [.cell 6 49] rfl ?_) <;> (try simp only [go_sem, simprocAttr, d4, e6]))
  | (refine hK _ _ ?_; clear hK K; simp only [go_sem, simprocAttr])
  | refine gCd (by simp only [go_sem, simprocAttr]; rfl) rfl ?_
  | refine brT ?_ | refine brF ?_
  | (refine brS ?_ ?_ <;> intro hc <;> (try simp only [bls] at hc) <;> (try simp only [hc, bls]))
  | intro _ | refine And.intro ?_ ?_)
            all_goals first | omega | (unfold bigLen; omega) | exact ⟨_, _, ⟨rfl, rfl⟩, rfl⟩ | exact ⟨_, rfl⟩ | (rename_i hy; simp only [List.mem_singleton] at hy; subst hy; rfl) | with_reducible rfl | skip
            refine AGood.filt [6, 20, 44, 1000, 1001] ?_
            simp only [sf_cons, sf_nil, go_sem, simprocAttr]
            refine AGood.prune [0, 1, 2, 6, 7, 10, 45, 46, 47] ?_; simp only [go_sem, simprocAttr]
            exact AGood.cast (ih (i + 1, g1) (by simp only; omega) (by simp only; omega)) rfl (by simp only [hst, ← rn, q1])
        · rw [if_neg c3] at hst
          obtain ⟨F, hF⟩ : ∃ F : Nat → En, F = fun j => (ks.take j).foldl orE enN := ⟨_, rfl⟩
          have hF0 : F 0 = enN := by rw [hF]; rfl
          have hF1 : ∀ (j : Nat) (y : En), ks[j]? = some y → F (j + 1) = orE (F j) y := fun j y h => by rw [hF]; simp only [take_one h, List.foldl_append]; rfl
          have hFk : ∀ j, Re Q.length (F j) := fun j => by rw [hF]; exact altG_ok (ks.take j) (re_nil _ _) fun y hy => hkr y (List.mem_of_mem_take hy)
          have hFE : altG ks = F ks.length := by rw [hF, altG]; simp only [List.take_length]
          rw [hFE] at hst
          clear hF hFE
          obtain ⟨xo, ⟨xa, xb, xc, xd⟩, xl, xlo, xhi, xn⟩ := n
          simp only at c1 c2 c5 c3 k1 k2 hkl hkg hst
          clear k3
          repeat' (first
  | refine gSq ?_ | refine gSk ?_ | refine gBl ?_ | refine gIb ?_ | refine gEx rfl ?_
  | ((first
  | (refine gRg [] [0, 1, 2, 6, 7, 9, 10, 11, 12, 13, 15, 17, 21, 22, 23, 24, 34, 45, 46, 47, 48, 53, 54, 55, 56, 72, 80, 100, 104, 132, 154, 163, 164, 165, 166] ?_; intro K hK)
  | (refine gDr 23 [] 17 [0, 1, 2, 3, 4, 5, 6, 7, 8, 9, 10, 11, 12, 13, 14, 15, 16, 17, 18, 19] [0, 1, 2, 6, 7, 9, 10, 11, 12, 13, 15, 17, 21, 22, 23, 24, 34, 45, 46, 47, 48, 53, 54, 55, 56, 72, 80, 100, 104, 132, 154, 163, 164, 165, 166] rfl ?_; intro K hK)
  | (refine gDr 34 [] 11 [0, 1, 2, 3, 4, 5, 6, 7, 8, 9, 10, 11, 12, 13] [0, 1, 2, 6, 7, 9, 10, 11, 12, 13, 15, 17, 21, 22, 23, 24, 34, 45, 46, 47, 48, 53, 54, 55, 56, 72, 80, 100, 104, 132, 154, 163, 164, 165, 166] rfl ?_; intro K hK)
  | (refine gDr 15 [] 10 [0, 1, 2, 3, 4, 5, 6, 7, 8, 9, 10, 11, 12] [0, 1, 2, 6, 7, 9, 10, 11, 12, 13, 15, 17, 21, 22, 23, 24, 34, 45, 46, 47, 48, 53, 54, 55, 56, 72, 80, 100, 104, 132, 154, 163, 164, 165, 166] rfl ?_; intro K hK)
  | (refine gd_split ?_ ?_ <;> intro hb <;> (try simp only [bls] at hb) <;> (try simp only [hb]))
  | refine gRt [1000, 1001] [.cell 6 49] rfl ?_ | refine gDn [1000, 1001] [.cell 6 49] rfl ?_) <;> (try simp only [go_sem, simprocAttr, e4, e5, e6, f1, hx, r2, c1, c2, c5, c3, AVal.isCell, Option.some.injEq, forall_eq']))
  | (refine hK _ _ ?_; clear hK K; simp only [go_sem, simprocAttr])
  | refine gCd (by simp only [go_sem, simprocAttr]; rfl) rfl ?_
  | refine brT ?_ | refine brF ?_
  | (refine brS ?_ ?_ <;> intro hc <;> (try simp only [bls] at hc) <;> (try simp only [hc, bls]))
  | intro _ | refine And.intro ?_ ?_)
          all_goals first | omega | (unfold bigLen; omega) | exact ⟨_, _, ⟨rfl, rfl⟩, rfl⟩ | exact ⟨_, rfl⟩ | (rename_i hy; simp only [List.mem_singleton] at hy; subst hy; rfl) | with_reducible rfl | skip
          refine AGood.filt [6, 20, 44, 1000, 1001] ?_
          simp only [sf_cons, sf_nil, go_sem, simprocAttr]
          refine AGood.prune [0, 1, 2, 6, 7, 10, 11, 45, 46, 47, 53, 54, 55] ?_; simp only [go_sem, simprocAttr]
          refine AGood.loopInv (α := Nat) (fun j => ([(0, .bx 1000 g 0), (1, .sl true f (nodes l)), (2, .int .i64 rule), (6, .bx 6 h6 0), (7, .osl 20 h20 0 l.length), (10, .osl 44 h44 0 l.length), (11, .int .i64 i), (45, .sl true f (nodes l)), (46, .int .i64 l.length), (47, .int .i64 i), (53, .sl true false (ints xl)), (54, .int .i64 xl.length), (55, .int .i64 j)], [(6, h6, .box enN.cells0), (20, h20, .row 1 (blsG I)), (44, h44, .row 3 (ens (rowG l.length al (F j)))), (1000, g, .box [.osl 1001 g1 0 Q.length]), (1001, g1, .row 9 (poss Q))])) (fun j => j ≤ xl.length) (fun j => xl.length - j) 0 (Nat.zero_le _) (by simp only [hF0]; rfl) ?_
          rintro j hj ih2
          simp only at hj ih2 ⊢
          have q3 := hFk j
          by_cases hlj : j < xl.length
          · have d4 : (j : Int) < xl.length := by omega
            have d5 : (0 : Int) ≤ j := by omega
            have d6 : (j : Int) + 1 = ((j + 1 : Nat) : Int) := by omega
            obtain ⟨kd, hkd⟩ : ∃ kd, xl[j]? = some kd := ⟨_, List.getElem?_eq_getElem hlj⟩
            have hkb := k2 kd (List.mem_of_getElem? hkd)
            obtain ⟨k, rfl⟩ : ∃ k : Nat, kd = k := ⟨kd.toNat, by omega⟩
            have hyk := hkg j k hkd
            have hyr := hkr _ (List.mem_of_getElem? hyk)
            have hf1 := hF1 j _ hyk
            obtain ⟨w1, w2, w3, w4⟩ := rowG_facts (n := l.length) (al := al) (by omega) (F j)
            rw [hal] at w2 w3 w4
            have w5 := w3 k (by omega)
            generalize al.getD k enN = y at hyr hf1 w5
            generalize rowG l.length al (F j) = V at w1 w2 w4 w5 ⊢
            generalize F j = x at hf1 q3 w2 ⊢
            have hth := or9uc Q.length x y q3 hyr (by omega)
            rw [← hf1] at hth
            have m1 : i < V.length := by omega
            have m2 : k < V.length := by omega
            have m3 : (k : Int) < l.length := by omega
            have m4 : (0 : Int) ≤ k := by omega
            obtain ⟨x', hs'⟩ : ∃ s', s' = F (j + 1) := ⟨_, rfl⟩
            rw [← hs'] at hth
            obtain ⟨xn', xf', xl'⟩ := x'
            obtain ⟨cn, cf, cl⟩ := x
            obtain ⟨yn, yf, yl⟩ := y
            simp only [En.cells] at hth
            repeat' (first
  | refine gSq ?_ | refine gSk ?_ | refine gBl ?_ | refine gIb ?_ | refine gEx rfl ?_
  | ((first
  | (refine gRg [] [0, 1, 2, 6, 7, 9, 10, 11, 12, 13, 15, 17, 21, 22, 23, 24, 34, 45, 46, 47, 48, 53, 54, 55, 56, 72, 80, 100, 104, 132, 154, 163, 164, 165, 166] ?_; intro K hK)
  | (refine gDr 23 [] 17 [0, 1, 2, 3, 4, 5, 6, 7, 8, 9, 10, 11, 12, 13, 14, 15, 16, 17, 18, 19] [0, 1, 2, 6, 7, 9, 10, 11, 12, 13, 15, 17, 21, 22, 23, 24, 34, 45, 46, 47, 48, 53, 54, 55, 56, 72, 80, 100, 104, 132, 154, 163, 164, 165, 166] rfl ?_; intro K hK)
  | (refine gDr 34 [] 11 [0, 1, 2, 3, 4, 5, 6, 7, 8, 9, 10, 11, 12, 13] [0, 1, 2, 6, 7, 9, 10, 11, 12, 13, 15, 17, 21, 22, 23, 24, 34, 45, 46, 47, 48, 53, 54, 55, 56, 72, 80, 100, 104, 132, 154, 163, 164, 165, 166] rfl ?_; intro K hK)
  | (refine gDr 15 [] 12 [0, 1, 2, 3, 4, 5, 6, 7, 8, 9, 10, 11, 12] [0, 1, 2, 6, 7, 9, 10, 11, 12, 13, 15, 17, 21, 22, 23, 24, 34, 45, 46, 47, 48, 53, 54, 55, 56, 72, 80, 100, 104, 132, 154, 163, 164, 165, 166] rfl ?_; intro K hK)
  | refine ⟨_, ACall.alone (hth) rfl rfl rfl, ?_⟩
  | (refine gd_split ?_ ?_ <;> intro hb <;> (try simp only [bls] at hb) <;> (try simp only [hb]))
  | refine gRt [1000, 1001] [.cell 6 49] rfl ?_ | refine gDn [1000, 1001] [.cell 6 49] rfl ?_) <;> (try simp only [go_sem, simprocAttr, d4, d5, d6, e4, e5, m1, m2, m3, m4, hkd, w2, w5, AVal.isCell, Option.some.injEq, forall_eq']))
  | (refine hK _ _ ?_; clear hK K; simp only [go_sem, simprocAttr])
  | refine gCd (by simp only [go_sem, simprocAttr]; rfl) rfl ?_
  | refine brT ?_ | refine brF ?_
  | (refine brS ?_ ?_ <;> intro hc <;> (try simp only [bls] at hc) <;> (try simp only [hc, bls]))
  | intro _ | refine And.intro ?_ ?_)
            all_goals first | omega | (unfold bigLen; omega) | exact ⟨_, _, ⟨rfl, rfl⟩, rfl⟩ | exact ⟨_, rfl⟩ | (rename_i hy; simp only [List.mem_singleton] at hy; subst hy; rfl) | with_reducible rfl | skip
            rename_i z hz
            have hz2 : z = En.cells ⟨cn, cf, cl⟩ := by rw [List.getElem?_map, w2] at hz; exact (Option.some.inj hz).symm
            subst hz2
            refine AGood.filt [6, 20, 44, 1000, 1001] ?_
            simp only [sf_cons, sf_nil, go_sem, simprocAttr]
            refine AGood.prune [0, 1, 2, 6, 7, 10, 11, 45, 46, 47, 53, 54, 55] ?_; simp only [go_sem, simprocAttr]
            exact AGood.cast (ih2 (j + 1) (by omega) (by omega)) rfl (by simp only [← hs', ← w4, List.map_set])
          · have d4 : ¬ (j : Int) < xl.length := by omega
            have hjn : j = ks.length := by omega
            subst hjn
            clear ih2
            repeat' (first
  | refine gSq ?_ | refine gSk ?_ | refine gBl ?_ | refine gIb ?_ | refine gEx rfl ?_
  | ((first
  | (refine gRg [] [0, 1, 2, 6, 7, 9, 10, 11, 12, 13, 15, 17, 21, 22, 23, 24, 34, 45, 46, 47, 48, 53, 54, 55, 56, 72, 80, 100, 104, 132, 154, 163, 164, 165, 166] ?_; intro K hK)
  | (refine gDr 23 [] 17 [0, 1, 2, 3, 4, 5, 6, 7, 8, 9, 10, 11, 12, 13, 14, 15, 16, 17, 18, 19] [0, 1, 2, 6, 7, 9, 10, 11, 12, 13, 15, 17, 21, 22, 23, 24, 34, 45, 46, 47, 48, 53, 54, 55, 56, 72, 80, 100, 104, 132, 154, 163, 164, 165, 166] rfl ?_; intro K hK)
  | (refine gDr 34 [] 11 [0, 1, 2, 3, 4, 5, 6, 7, 8, 9, 10, 11, 12, 13] [0, 1, 2, 6, 7, 9, 10, 11, 12, 13, 15, 17, 21, 22, 23, 24, 34, 45, 46, 47, 48, 53, 54, 55, 56, 72, 80, 100, 104, 132, 154, 163, 164, 165, 166] rfl ?_; intro K hK)
  | (refine gDr 15 [] 10 [0, 1, 2, 3, 4, 5, 6, 7, 8, 9, 10, 11, 12] [0, 1, 2, 6, 7, 9, 10, 11, 12, 13, 15, 17, 21, 22, 23, 24, 34, 45, 46, 47, 48, 53, 54, 55, 56, 72, 80, 100, 104, 132, 154, 163, 164, 165, 166] rfl ?_; intro K hK)
  | (refine gd_split ?_ ?_ <;> intro hb <;> (try simp only [bls] at hb) <;> (try simp only [hb]))
  | refine gRt [1000, 1001] [.cell 6 49] rfl ?_ | refine gDn [1000, 1001] [.cell 6 49] rfl ?_) <;> (try simp only [go_sem, simprocAttr, d4, e6]))
  | (refine hK _ _ ?_; clear hK K; simp only [go_sem, simprocAttr])
  | refine gCd (by simp only [go_sem, simprocAttr]; rfl) rfl ?_
  | refine brT ?_ | refine brF ?_
  | (refine brS ?_ ?_ <;> intro hc <;> (try simp only [bls] at hc) <;> (try simp only [hc, bls]))
  | intro _ | refine And.intro ?_ ?_)
            all_goals first | omega | (unfold bigLen; omega) | exact ⟨_, _, ⟨rfl, rfl⟩, rfl⟩ | exact ⟨_, rfl⟩ | (rename_i hy; simp only [List.mem_singleton] at hy; subst hy; rfl) | with_reducible rfl | skip
            refine AGood.filt [6, 20, 44, 1000, 1001] ?_
            simp only [sf_cons, sf_nil, go_sem, simprocAttr]
            refine AGood.prune [0, 1, 2, 6, 7, 10, 45, 46, 47] ?_; simp only [go_sem, simprocAttr]
            exact AGood.cast (ih (i + 1, g1) (by simp only; omega) (by simp only; omega)) rfl (by simp only [hst, ← rn])
    · have e4 : ¬ (i : Int) < l.length := by omega
      have hin : i = l.length := by omega
      subst hin
      clear ih
      generalize S l.length = s at hok hal hpl ⊢
      obtain ⟨Q, al⟩ := s
      simp only at hok hal hpl ⊢
      rw [Nat.sub_self, List.replicate_zero, List.append_nil]
      obtain ⟨m, hm⟩ : ∃ m, l.length = m + 1 := ⟨l.length - 1, by omega⟩
      obtain ⟨e, hlast⟩ : ∃ e, al[m]? = some e := ⟨_, List.getElem?_eq_getElem (show m < al.length by omega)⟩
      have hld : al.getLastD enN = e := by
        rw [List.getLastD_eq_getLast?, List.getLast?_eq_getElem?, show al.length - 1 = m by omega, hlast]; rfl
      rw [hld]
      have d1 : (l.length : Int) - 1 = (m : Int) := by omega
      have d2 : (m : Int) < l.length := by omega
      have d3 : m < al.length := by omega
      have d4 : (0 : Int) ≤ m := by omega
      obtain ⟨en, ef, el⟩ := e
      clear hld hok hkids hS1 hSf hS0
      repeat' (first
  | refine gSq ?_ | refine gSk ?_ | refine gBl ?_ | refine gIb ?_ | refine gEx rfl ?_
  | ((first
  | (refine gRg [] [0, 1, 2, 6, 7, 9, 10, 11, 12, 13, 15, 17, 21, 22, 23, 24, 34, 45, 46, 47, 48, 53, 54, 55, 56, 72, 80, 100, 104, 132, 154, 163, 164, 165, 166] ?_; intro K hK)
  | (refine gDr 23 [] 17 [0, 1, 2, 3, 4, 5, 6, 7, 8, 9, 10, 11, 12, 13, 14, 15, 16, 17, 18, 19] [0, 1, 2, 6, 7, 9, 10, 11, 12, 13, 15, 17, 21, 22, 23, 24, 34, 45, 46, 47, 48, 53, 54, 55, 56, 72, 80, 100, 104, 132, 154, 163, 164, 165, 166] rfl ?_; intro K hK)
  | (refine gDr 34 [] 11 [0, 1, 2, 3, 4, 5, 6, 7, 8, 9, 10, 11, 12, 13] [0, 1, 2, 6, 7, 9, 10, 11, 12, 13, 15, 17, 21, 22, 23, 24, 34, 45, 46, 47, 48, 53, 54, 55, 56, 72, 80, 100, 104, 132, 154, 163, 164, 165, 166] rfl ?_; intro K hK)
  | (refine gDr 15 [] 10 [0, 1, 2, 3, 4, 5, 6, 7, 8, 9, 10, 11, 12] [0, 1, 2, 6, 7, 9, 10, 11, 12, 13, 15, 17, 21, 22, 23, 24, 34, 45, 46, 47, 48, 53, 54, 55, 56, 72, 80, 100, 104, 132, 154, 163, 164, 165, 166] rfl ?_; intro K hK)
  | (refine gd_split ?_ ?_ <;> intro hb <;> (try simp only [bls] at hb) <;> (try simp only [hb]))
  | refine gRt [1000, 1001] [.cell 6 49] rfl ?_ | refine gDn [1000, 1001] [.cell 6 49] rfl ?_) <;> (try simp only [go_sem, simprocAttr, e4, d1, d2, d3, d4, hlast, AVal.isCell, Option.some.injEq, forall_eq']))
  | (refine hK _ _ ?_; clear hK K; simp only [go_sem, simprocAttr])
  | refine gCd (by simp only [go_sem, simprocAttr]; rfl) rfl ?_
  | refine brT ?_ | refine brF ?_
  | (refine brS ?_ ?_ <;> intro hc <;> (try simp only [bls] at hc) <;> (try simp only [hc, bls]))
  | intro _ | refine And.intro ?_ ?_)
      all_goals first | omega | (unfold bigLen; omega) | exact ⟨_, _, ⟨rfl, rfl⟩, rfl⟩ | exact ⟨_, rfl⟩ | (rename_i hy; simp only [List.mem_singleton] at hy; subst hy; rfl) | with_reducible rfl | skip
      all_goals trace_state
end Go.Rad
/- Contracts: syntax, byte by byte: names, trees that are alike. -/
namespace Go.Rad
open Go Go.Proofs
set_option linter.all false
set_option maxRecDepth 20000
set_option maxHeartbeats 4000000

theorem letter4uc (c : Nat) : ACall Tryz.prog 92 [.int .u8 c] [] fun r s => r = .bool (letterN c) ∧ s = [] := by
  refine ACall.enter Tryz.func92 rfl (by kernel_rfl) (Nat.le_of_ble_eq_true rfl) ?_; simp only [initTm, Nat.reduceAdd]
  repeat' (first
  | refine gSq ?_ | refine gSk ?_ | refine gBl ?_ | refine gIb ?_ | refine gEx rfl ?_
  | ((first
  | (refine gRg [] [0, 2] ?_; intro K hK)
  | (refine gd_split ?_ ?_ <;> intro hb <;> (try simp only [bls] at hb) <;> (try simp only [hb]))
  | refine gRt [] [.tmp 2] rfl ?_ | refine gDn [] [.tmp 2] rfl ?_) <;> (try simp only [go_sem, simprocAttr]))
  | (refine hK _ _ ?_; clear hK K; simp only [go_sem, simprocAttr])
  | refine gCd (by simp only [go_sem, simprocAttr]; rfl) rfl ?_
  | refine brT ?_ | refine brF ?_
  | (refine brS ?_ ?_ <;> intro hc <;> (try simp only [bls] at hc) <;> (try simp only [hc, bls]))
  | intro _ | refine And.intro ?_ ?_)
  all_goals (refine congrArg AVal.bool ?_; rw [Bool.eq_iff_iff]; simp [letterN] <;> omega)
theorem digit4uc (c : Nat) : ACall Tryz.prog 93 [.int .u8 c] [] fun r s => r = .bool (digitN c) ∧ s = [] := by
  refine ACall.enter Tryz.func93 rfl (by kernel_rfl) (Nat.le_of_ble_eq_true rfl) ?_; simp only [initTm, Nat.reduceAdd]
  repeat' (first
  | refine gSq ?_ | refine gSk ?_ | refine gBl ?_ | refine gIb ?_ | refine gEx rfl ?_
  | ((first
  | (refine gRg [] [0, 2] ?_; intro K hK)
  | (refine gd_split ?_ ?_ <;> intro hb <;> (try simp only [bls] at hb) <;> (try simp only [hb]))
  | refine gRt [] [.tmp 2] rfl ?_ | refine gDn [] [.tmp 2] rfl ?_) <;> (try simp only [go_sem, simprocAttr]))
  | (refine hK _ _ ?_; clear hK K; simp only [go_sem, simprocAttr])
  | refine gCd (by simp only [go_sem, simprocAttr]; rfl) rfl ?_
  | refine brT ?_ | refine brF ?_
  | (refine brS ?_ ?_ <;> intro hc <;> (try simp only [bls] at hc) <;> (try simp only [hc, bls]))
  | intro _ | refine And.intro ?_ ?_)
  all_goals (refine congrArg AVal.bool ?_; rw [Bool.eq_iff_iff]; simp [digitN] <;> omega)

theorem name4uc (s : ByteArray) (hs : s.size ≤ maxLen) : ACall Tryz.prog 76 [.str s] [] fun r s' => r = .bool (nameOk s) ∧ s' = [] := by
  unfold maxLen at hs
  refine ACall.enter Tryz.func76 rfl (by kernel_rfl) (Nat.le_of_ble_eq_true rfl) ?_; simp only [initTm, Nat.reduceAdd]
  repeat' (first
  | refine gSq ?_ | refine gSk ?_ | refine gBl ?_ | refine gIb ?_ | refine gEx rfl ?_
  | ((first
  | (refine gRg [] [0, 2, 3, 7, 25] ?_; intro K hK)
  | (refine gd_split ?_ ?_ <;> intro hb <;> (try simp only [bls] at hb) <;> (try simp only [hb]))
  | refine gRt [] [.tmp 2] rfl ?_ | refine gDn [] [.tmp 2] rfl ?_) <;> (try simp only [go_sem, simprocAttr]))
  | (refine hK _ _ ?_; clear hK K; simp only [go_sem, simprocAttr])
  | refine gCd (by simp only [go_sem, simprocAttr]; rfl) rfl ?_
  | refine brT ?_ | refine brF ?_
  | (refine brS ?_ ?_ <;> intro hc <;> (try simp only [bls] at hc) <;> (try simp only [hc, bls]))
  | intro _ | refine And.intro ?_ ?_)
  refine AGood.prune [0, 2, 3] ?_; simp only [go_sem, simprocAttr]
  refine AGood.loopInv (α := Nat) (fun i => ([(0, .str s), (2, .bool false), (3, .int .i64 i)], [])) (fun i => i ≤ s.size ∧ (List.range i).all (nmB s) = true) (fun i => s.size - i) 0 ⟨Nat.zero_le _, rfl⟩ rfl ?_
  rintro i ⟨hi, hall⟩ ih
  simp only
  by_cases hle : i < s.size
  · have e4 : (i : Int) < s.size := by omega
    have e6 : (0 : Int) ≤ i := by omega
    repeat' (first
  | refine gSq ?_ | refine gSk ?_ | refine gBl ?_ | refine gIb ?_ | refine gEx rfl ?_
  | ((first
  | (refine gRg [] [0, 2, 3, 7, 25] ?_; intro K hK)
  | refine cAl (letter4uc _) rfl rfl rfl ?_
  | refine cAl (digit4uc _) rfl rfl rfl ?_
  | (refine gd_split ?_ ?_ <;> intro hb <;> (try simp only [bls] at hb) <;> (try simp only [hb]))
  | refine gRt [] [.tmp 2] rfl ?_ | refine gDn [] [.tmp 2] rfl ?_) <;> (try simp only [go_sem, simprocAttr, e4, e6, sbyte_bt]))
  | (refine hK _ _ ?_; clear hK K; simp only [go_sem, simprocAttr])
  | refine gCd (by simp only [go_sem, simprocAttr]; rfl) rfl ?_
  | refine brT ?_ | refine brF ?_
  | (refine brS ?_ ?_ <;> intro hc <;> (try simp only [bls] at hc) <;> (try simp only [hc, bls]))
  | intro _ | refine And.intro ?_ ?_)
    all_goals first
      | omega
      | exact congrArg AVal.bool (name_no hle (by simp [nmB, *]; try omega))
      | (refine AGood.prune [0, 2, 3] ?_; simp only [go_sem, simprocAttr]
         exact (ih (i + 1) ⟨by omega, all_succ hall (by simp [nmB, *]; try omega)⟩ (by omega)).cast rfl rfl)
  · have e4 : ¬ (i : Int) < s.size := by omega
    have e5 : i = s.size := by omega
    subst e5
    repeat' (first
  | refine gSq ?_ | refine gSk ?_ | refine gBl ?_ | refine gIb ?_ | refine gEx rfl ?_
  | ((first
  | (refine gRg [] [0, 2, 3, 7, 25] ?_; intro K hK)
  | (refine gd_split ?_ ?_ <;> intro hb <;> (try simp only [bls] at hb) <;> (try simp only [hb]))
  | refine gRt [] [.tmp 2] rfl ?_ | refine gDn [] [.tmp 2] rfl ?_) <;> (try simp only [go_sem, simprocAttr, e4]))
  | (refine hK _ _ ?_; clear hK K; simp only [go_sem, simprocAttr])
  | refine gCd (by simp only [go_sem, simprocAttr]; rfl) rfl ?_
  | refine brT ?_ | refine brF ?_
  | (refine brS ?_ ?_ <;> intro hc <;> (try simp only [bls] at hc) <;> (try simp only [hc, bls]))
  | intro _ | refine And.intro ?_ ?_)
    all_goals (refine congrArg AVal.bool ?_; rw [Bool.eq_iff_iff]; simp [nameOk, hall] <;> omega)

end Go.Rad
/- Contracts: syntax: names, nodes, trees. -/
namespace Go.Rad
open Go Go.Proofs
set_option linter.all false
set_option maxRecDepth 20000
set_option maxHeartbeats 4000000

theorem letterS_c (c : Nat) : ACall Tryz.prog 94 [.int .u8 c] [] fun r s => r = .bool (letterN c) ∧ s = [] := by
  refine ACall.enter Tryz.func94 rfl (by kernel_rfl) (Nat.le_of_ble_eq_true rfl) ?_; simp only [initTm, Nat.reduceAdd]
  repeat' (first
  | refine gSq ?_ | refine gSk ?_ | refine gBl ?_ | refine gIb ?_ | refine gEx rfl ?_
  | ((first
  | (refine gRg [] [0, 2] ?_; intro K hK)
  | (refine gd_split ?_ ?_ <;> intro hb <;> (try simp only [bls] at hb) <;> (try simp only [hb]))
  | refine gRt [] [.tmp 2] rfl ?_ | refine gDn [] [.tmp 2] rfl ?_) <;> (try simp only [go_sem, simprocAttr]))
  | (refine hK _ _ ?_; clear hK K; simp only [go_sem, simprocAttr])
  | refine gCd (by simp only [go_sem, simprocAttr]; rfl) rfl ?_
  | refine brT ?_ | refine brF ?_
  | (refine brS ?_ ?_ <;> intro hc <;> (try simp only [bls] at hc) <;> (try simp only [hc, bls]))
  | intro _ | refine And.intro ?_ ?_)
  all_goals (refine congrArg AVal.bool ?_; rw [Bool.eq_iff_iff]; simp [letterN] <;> omega)
theorem digitS_c (c : Nat) : ACall Tryz.prog 95 [.int .u8 c] [] fun r s => r = .bool (digitN c) ∧ s = [] := by
  refine ACall.enter Tryz.func95 rfl (by kernel_rfl) (Nat.le_of_ble_eq_true rfl) ?_; simp only [initTm, Nat.reduceAdd]
  repeat' (first
  | refine gSq ?_ | refine gSk ?_ | refine gBl ?_ | refine gIb ?_ | refine gEx rfl ?_
  | ((first
  | (refine gRg [] [0, 2] ?_; intro K hK)
  | (refine gd_split ?_ ?_ <;> intro hb <;> (try simp only [bls] at hb) <;> (try simp only [hb]))
  | refine gRt [] [.tmp 2] rfl ?_ | refine gDn [] [.tmp 2] rfl ?_) <;> (try simp only [go_sem, simprocAttr]))
  | (refine hK _ _ ?_; clear hK K; simp only [go_sem, simprocAttr])
  | refine gCd (by simp only [go_sem, simprocAttr]; rfl) rfl ?_
  | refine brT ?_ | refine brF ?_
  | (refine brS ?_ ?_ <;> intro hc <;> (try simp only [bls] at hc) <;> (try simp only [hc, bls]))
  | intro _ | refine And.intro ?_ ?_)
  all_goals (refine congrArg AVal.bool ?_; rw [Bool.eq_iff_iff]; simp [digitN] <;> omega)
theorem nameS_c (s : ByteArray) (hs : s.size ≤ maxLen) : ACall Tryz.prog 79 [.str s] [] fun r s' => r = .bool (nameOk s) ∧ s' = [] := by
  unfold maxLen at hs
  refine ACall.enter Tryz.func79 rfl (by kernel_rfl) (Nat.le_of_ble_eq_true rfl) ?_; simp only [initTm, Nat.reduceAdd]
  repeat' (first
  | refine gSq ?_ | refine gSk ?_ | refine gBl ?_ | refine gIb ?_ | refine gEx rfl ?_
  | ((first
  | (refine gRg [] [0, 2, 3, 5, 6, 7, 24] ?_; intro K hK)
  | (refine gd_split ?_ ?_ <;> intro hb <;> (try simp only [bls] at hb) <;> (try simp only [hb]))
  | refine gRt [] [.tmp 2] rfl ?_ | refine gDn [] [.tmp 2] rfl ?_) <;> (try simp only [go_sem, simprocAttr]))
  | (refine hK _ _ ?_; clear hK K; simp only [go_sem, simprocAttr])
  | refine gCd (by simp only [go_sem, simprocAttr]; rfl) rfl ?_
  | refine brT ?_ | refine brF ?_
  | (refine brS ?_ ?_ <;> intro hc <;> (try simp only [bls] at hc) <;> (try simp only [hc, bls]))
  | intro _ | refine And.intro ?_ ?_)
  refine AGood.prune [0, 2, 5, 6] ?_; simp only [go_sem, simprocAttr]
  refine AGood.loopInv (α := Nat) (fun i => ([(0, .str s), (2, .bool false), (5, .int .i64 s.size), (6, .int .i64 i)], [])) (fun i => i ≤ s.size ∧ (List.range i).all (nmB s) = true) (fun i => s.size - i) 0 ⟨Nat.zero_le _, rfl⟩ rfl ?_
  rintro i ⟨hi, hall⟩ ih
  simp only
  by_cases hle : i < s.size
  · have e4 : (i : Int) < s.size := by omega
    have e6 : (0 : Int) ≤ i := by omega
    repeat' (first
  | refine gSq ?_ | refine gSk ?_ | refine gBl ?_ | refine gIb ?_ | refine gEx rfl ?_
  | ((first
  | (refine gRg [] [0, 2, 3, 5, 6, 7, 24] ?_; intro K hK)
  | refine cAl (letterS_c _) rfl rfl rfl ?_
  | refine cAl (digitS_c _) rfl rfl rfl ?_
  | (refine gd_split ?_ ?_ <;> intro hb <;> (try simp only [bls] at hb) <;> (try simp only [hb]))
  | refine gRt [] [.tmp 2] rfl ?_ | refine gDn [] [.tmp 2] rfl ?_) <;> (try simp only [go_sem, simprocAttr, e4, e6, sbyte_bt]))
  | (refine hK _ _ ?_; clear hK K; simp only [go_sem, simprocAttr])
  | refine gCd (by simp only [go_sem, simprocAttr]; rfl) rfl ?_
  | refine brT ?_ | refine brF ?_
  | (refine brS ?_ ?_ <;> intro hc <;> (try simp only [bls] at hc) <;> (try simp only [hc, bls]))
  | intro _ | refine And.intro ?_ ?_)
    all_goals first
      | omega
      | exact congrArg AVal.bool (name_no hle (by simp [nmB, *]; try omega))
      | (refine AGood.prune [0, 2, 5, 6] ?_; simp only [go_sem, simprocAttr]
         exact (ih (i + 1) ⟨by omega, all_succ hall (by simp [nmB, *]; try omega)⟩ (by omega)).cast rfl rfl)
  · have e4 : ¬ (i : Int) < s.size := by omega
    have e5 : i = s.size := by omega
    subst e5
    repeat' (first
  | refine gSq ?_ | refine gSk ?_ | refine gBl ?_ | refine gIb ?_ | refine gEx rfl ?_
  | ((first
  | (refine gRg [] [0, 2, 3, 5, 6, 7, 24] ?_; intro K hK)
  | (refine gd_split ?_ ?_ <;> intro hb <;> (try simp only [bls] at hb) <;> (try simp only [hb]))
  | refine gRt [] [.tmp 2] rfl ?_ | refine gDn [] [.tmp 2] rfl ?_) <;> (try simp only [go_sem, simprocAttr, e4]))
  | (refine hK _ _ ?_; clear hK K; simp only [go_sem, simprocAttr])
  | refine gCd (by simp only [go_sem, simprocAttr]; rfl) rfl ?_
  | refine brT ?_ | refine brF ?_
  | (refine brS ?_ ?_ <;> intro hc <;> (try simp only [bls] at hc) <;> (try simp only [hc, bls]))
  | intro _ | refine And.intro ?_ ?_)
    all_goals (refine congrArg AVal.bool ?_; rw [Bool.eq_iff_iff]; simp [nameOk, hall] <;> omega)

theorem equal_c (q f q' f' : Bool) (a b : List Int) (ha : a.length ≤ maxLen) : ACall Tryz.prog 78 [.sl q f (ints a), .sl q' f' (ints b)] [] fun r s => r = .bool (decide (a = b)) ∧ s = [] := by
  unfold maxLen at ha
  refine ACall.enter Tryz.func78 rfl (by kernel_rfl) (Nat.le_of_ble_eq_true rfl) ?_; simp only [initTm, Nat.reduceAdd]
  repeat' (first
  | refine gSq ?_ | refine gSk ?_ | refine gBl ?_ | refine gIb ?_ | refine gEx rfl ?_
  | ((first
  | (refine gRg [] [0, 1, 4, 5, 10, 12, 13, 14, 24] ?_; intro K hK)
  | (refine gDr 6 [] 9 [0, 1, 2, 3, 4, 5, 6, 7, 8] [0, 1, 4, 5, 10, 12, 13, 14, 24] rfl ?_; intro K hK)
  | (refine gd_split ?_ ?_ <;> intro hb <;> (try simp only [bls] at hb) <;> (try simp only [hb]))
  | refine gRt [] [.tmp 4] rfl ?_ | refine gDn [] [.tmp 4] rfl ?_) <;> (try simp only [go_sem, simprocAttr]))
  | (refine hK _ _ ?_; clear hK K; simp only [go_sem, simprocAttr])
  | refine gCd (by simp only [go_sem, simprocAttr]; rfl) rfl ?_
  | refine brT ?_ | refine brF ?_
  | (refine brS ?_ ?_ <;> intro hc <;> (try simp only [bls] at hc) <;> (try simp only [hc, bls]))
  | intro _ | refine And.intro ?_ ?_)
  · exact congrArg AVal.bool (by simp only [Bool.false_eq, decide_eq_false_iff_not]; rintro rfl; exact hc rfl)
  have hab : a.length = b.length := by omega
  refine AGood.prune [0, 1, 4, 12, 13] ?_; simp only [go_sem, simprocAttr]
  refine AGood.loopInv (α := Nat) (fun i => ([(0, .sl q f (ints a)), (1, .sl q' f' (ints b)), (4, .bool false), (12, .int .i64 a.length), (13, .int .i64 i)], [])) (fun i => i ≤ a.length ∧ a.take i = b.take i) (fun i => a.length - i) 0 ⟨Nat.zero_le _, rfl⟩ rfl ?_
  rintro i ⟨hi, htk⟩ ih
  simp only
  by_cases hle : i < a.length
  · have e4 : (i : Int) < a.length := by omega
    have e6 : (0 : Int) ≤ i := by omega
    have e7 : (i : Int) < b.length := by omega
    have hx : a[i]? = some a[i] := List.getElem?_eq_getElem hle
    have hy : b[i]? = some b[i] := List.getElem?_eq_getElem (by omega)
    generalize a[i] = x at hx
    generalize b[i] = y at hy
    by_cases hxy : x = y
    · subst hxy
      repeat' (first
  | refine gSq ?_ | refine gSk ?_ | refine gBl ?_ | refine gIb ?_ | refine gEx rfl ?_
  | ((first
  | (refine gRg [] [0, 1, 4, 5, 10, 12, 13, 14, 24] ?_; intro K hK)
  | (refine gDr 6 [] 9 [0, 1, 2, 3, 4, 5, 6, 7, 8] [0, 1, 4, 5, 10, 12, 13, 14, 24] rfl ?_; intro K hK)
  | (refine gd_split ?_ ?_ <;> intro hb <;> (try simp only [bls] at hb) <;> (try simp only [hb]))
  | refine gRt [] [.tmp 4] rfl ?_ | refine gDn [] [.tmp 4] rfl ?_) <;> (try simp only [go_sem, simprocAttr, e4, e6, e7, hx, hy, Option.some.injEq, forall_eq']))
  | (refine hK _ _ ?_; clear hK K; simp only [go_sem, simprocAttr])
  | refine gCd (by simp only [go_sem, simprocAttr]; rfl) rfl ?_
  | refine brT ?_ | refine brF ?_
  | (refine brS ?_ ?_ <;> intro hc <;> (try simp only [bls] at hc) <;> (try simp only [hc, bls]))
  | intro _ | refine And.intro ?_ ?_)
      all_goals first | omega | skip
      refine AGood.prune [0, 1, 4, 12, 13] ?_; simp only [go_sem, simprocAttr]
      exact (ih (i + 1) ⟨by omega, by rw [take_one hx, take_one hy, htk]⟩ (by omega)).cast rfl rfl
    · repeat' (first
  | refine gSq ?_ | refine gSk ?_ | refine gBl ?_ | refine gIb ?_ | refine gEx rfl ?_
  | ((first
  | (refine gRg [] [0, 1, 4, 5, 10, 12, 13, 14, 24] ?_; intro K hK)
  | (refine gDr 6 [] 9 [0, 1, 2, 3, 4, 5, 6, 7, 8] [0, 1, 4, 5, 10, 12, 13, 14, 24] rfl ?_; intro K hK)
  | (refine gd_split ?_ ?_ <;> intro hb <;> (try simp only [bls] at hb) <;> (try simp only [hb]))
  | refine gRt [] [.tmp 4] rfl ?_ | refine gDn [] [.tmp 4] rfl ?_) <;> (try simp only [go_sem, simprocAttr, e4, e6, e7, hx, hy, hxy, Option.some.injEq, forall_eq']))
  | (refine hK _ _ ?_; clear hK K; simp only [go_sem, simprocAttr])
  | refine gCd (by simp only [go_sem, simprocAttr]; rfl) rfl ?_
  | refine brT ?_ | refine brF ?_
  | (refine brS ?_ ?_ <;> intro hc <;> (try simp only [bls] at hc) <;> (try simp only [hc, bls]))
  | intro _ | refine And.intro ?_ ?_)
      refine congrArg AVal.bool ?_
      simp only [Bool.false_eq, decide_eq_false_iff_not]
      rintro rfl
      rw [hx] at hy; exact hxy (Option.some.inj hy)
  · rw [List.take_of_length_le (by omega), List.take_of_length_le (by omega)] at htk
    have e4 : ¬ (i : Int) < a.length := by omega
    repeat' (first
  | refine gSq ?_ | refine gSk ?_ | refine gBl ?_ | refine gIb ?_ | refine gEx rfl ?_
  | ((first
  | (refine gRg [] [0, 1, 4, 5, 10, 12, 13, 14, 24] ?_; intro K hK)
  | (refine gDr 6 [] 9 [0, 1, 2, 3, 4, 5, 6, 7, 8] [0, 1, 4, 5, 10, 12, 13, 14, 24] rfl ?_; intro K hK)
  | (refine gd_split ?_ ?_ <;> intro hb <;> (try simp only [bls] at hb) <;> (try simp only [hb]))
  | refine gRt [] [.tmp 4] rfl ?_ | refine gDn [] [.tmp 4] rfl ?_) <;> (try simp only [go_sem, simprocAttr, e4]))
  | (refine hK _ _ ?_; clear hK K; simp only [go_sem, simprocAttr])
  | refine gCd (by simp only [go_sem, simprocAttr]; rfl) rfl ?_
  | refine brT ?_ | refine brF ?_
  | (refine brS ?_ ?_ <;> intro hc <;> (try simp only [bls] at hc) <;> (try simp only [hc, bls]))
  | intro _ | refine And.intro ?_ ?_)
    simp [htk]
end Go.Rad
/- Contracts: syntax: what a node has; whether nodes are a tree. -/
namespace Go.Rad
open Go Go.Proofs
set_option linter.all false
set_option maxRecDepth 20000
set_option maxHeartbeats 4000000

theorem ba_emptyS : (ByteArray.mk #[]) = ByteArray.empty := Eq.trans rfl rfl
theorem shaped_c (fl : Bool) (n : Node) (hn : n.name.size ≤ maxLen ∧ n.l.length ≤ maxLen) : ACall Tryz.prog 77 [.agg (n.cellsF fl)] [] fun r s' => r = .bool (shapeOk n) ∧ s' = [] := by
  obtain ⟨hn, hm⟩ := hn
  unfold maxLen at hm
  obtain ⟨no, ⟨na, nb, nc, nd⟩, nl, nlo, nhi, nn⟩ := n
  simp only at hn hm
  simp only [Node.cellsF]
  refine ACall.enter Tryz.func77 rfl (by kernel_rfl) (Nat.le_of_ble_eq_true rfl) ?_; simp only [initTm, Nat.reduceAdd]
  repeat' (first
  | refine gSq ?_ | refine gSk ?_ | refine gBl ?_ | refine gIb ?_ | refine gEx rfl ?_
  | ((first
  | (refine AGood.at 10 ?_; refine AGood.boxRef 1 1 rfl rfl rfl ?_; simp only [go_sem, simprocAttr]; (refine gDl 10 [] 5 [0, 1, 2, 3, 4, 5, 6, 7] [] [26] [0, 1, 2, 3, 4, 12, 13, 21, 22, 55, 58, 62, 63, 71, 72] rfl ?_; intro K hK))
  | (refine gRg [] [0, 1, 2, 3, 4, 12, 13, 21, 22, 55, 58, 62, 63, 71, 72] ?_; intro K hK)
  | refine cAl (nameS_c _ hn) rfl rfl rfl ?_
  | (refine gd_split ?_ ?_ <;> intro hb <;> (try simp only [bls] at hb) <;> (try simp only [hb]))
  | refine gRt [] [.tmp 2] rfl ?_ | refine gDn [] [.tmp 2] rfl ?_) <;> (try simp only [go_sem, simprocAttr, ba_emptyS]))
  | (refine hK _ _ ?_; clear hK K; simp only [go_sem, simprocAttr])
  | refine gCd (by simp only [go_sem, simprocAttr]; rfl) rfl ?_
  | refine brT ?_ | refine brF ?_
  | (refine brS ?_ ?_ <;> intro hc <;> (try simp only [bls] at hc) <;> (try simp only [hc, bls]))
  | intro _ | refine And.intro ?_ ?_)
  all_goals first
    | omega
    | (refine congrArg AVal.bool ?_; rw [Bool.eq_iff_iff]; simp_all [shapeOk, ISet.none] <;> first | omega | (have h1 : nl.length = 1 := (by omega); have h2 : 1 ≤ nhi ∧ nlo ≤ nhi := (by omega); simp [h1, h2]))
end Go.Rad
/- Contracts: syntax: whether nodes are a tree. -/
namespace Go.Rad
open Go Go.Proofs
set_option linter.all false
set_option maxRecDepth 20000
set_option maxHeartbeats 4000000

theorem stk_no {ns : List Node} {i : Nat} {st : List Int} {n : Node} (h : ¬ (shapeOk n = true ∧ n.l.length ≤ st.length ∧ st.drop (st.length - n.l.length) = n.l)) : stkS (n :: ns) i st = none := by
  rw [stkS, if_neg h]
theorem rightS_no {l : List Node} (h : stkS l 0 [] = none) : false = rightS l := by
  simp [rightS, h]
theorem rightS_c (q f : Bool) (ns : List Node) (hl : ∀ n ∈ ns, n.name.size ≤ maxLen ∧ n.l.length ≤ maxLen) : ACall Tryz.prog 58 [.sl q f (nodes ns)] [] fun r s => r = .bool (rightS ns) ∧ s = [] := by
  refine ACall.enter Tryz.func58 rfl (by kernel_rfl) (Nat.le_of_ble_eq_true rfl) ?_; simp only [initTm, Nat.reduceAdd]
  repeat' (first
  | refine gSq ?_ | refine gSk ?_ | refine gBl ?_ | refine gIb ?_ | refine gEx rfl ?_
  | ((first
  | (refine gRg [] [0, 2, 3, 4, 5, 6, 14, 15, 16, 17, 18, 32, 45] ?_; intro K hK)
  | (refine gDr 10 [] 7 [0, 1, 2, 3, 4, 5, 6] [0, 2, 3, 4, 5, 6, 14, 15, 16, 17, 18, 32, 45] rfl ?_; intro K hK)
  | (refine gd_split ?_ ?_ <;> intro hb <;> (try simp only [bls] at hb) <;> (try simp only [hb]))
  | refine gRt [] [.tmp 2] rfl ?_ | refine gDn [] [.tmp 2] rfl ?_) <;> (try simp only [go_sem, simprocAttr]))
  | (refine hK _ _ ?_; clear hK K; simp only [go_sem, simprocAttr])
  | refine gCd (by simp only [go_sem, simprocAttr]; rfl) rfl ?_
  | refine brT ?_ | refine brF ?_
  | (refine brS ?_ ?_ <;> intro hc <;> (try simp only [bls] at hc) <;> (try simp only [hc, bls]))
  | intro _ | refine And.intro ?_ ?_)
  · refine congrArg AVal.bool ?_; simp only [rightS]; rw [show decide (1 ≤ ns.length ∧ ns.length ≤ 1024) = false from by simp; omega, Bool.false_and]
  · have hn1 : 1 ≤ ns.length ∧ ns.length ≤ 1024 := by omega
    refine AGood.ownTm 3 900 1 (by decide) rfl fun g => ?_
    simp only [go_sem, simprocAttr]
    refine AGood.prune [0, 2, 3, 15, 16, 17] ?_; simp only [go_sem, simprocAttr]
    refine AGood.loopInv (α := Nat × List Int × Nat) (fun x => ([(0, .sl q f (nodes ns)), (2, .bool false), (3, .osl 900 x.2.2 0 x.2.1.length), (15, .sl q f (nodes ns)), (16, .int .i64 ns.length), (17, .int .i64 x.1)], [(900, (x.2.2, .row 1 (ints x.2.1)))])) (fun x => x.1 ≤ ns.length ∧ x.2.1.length ≤ x.1 ∧ stkS ns 0 [] = stkS (ns.drop x.1) x.1 x.2.1) (fun x => ns.length - x.1) (0, [], g) ⟨Nat.zero_le _, Nat.zero_le _, rfl⟩ rfl ?_
    rintro ⟨i, st, g⟩ ⟨hi, hst, hrun⟩ ih
    simp only at hi hst hrun ih ⊢
    by_cases hle : i < ns.length
    · have e4 : (i : Int) < ns.length := by omega
      have e5 : (0 : Int) ≤ i := by omega
      have hx : ns[i]? = some ns[i] := List.getElem?_eq_getElem hle
      have hm := hl ns[i] (List.getElem_mem hle)
      have hd : ns.drop i = ns[i] :: ns.drop (i + 1) := List.drop_eq_getElem_cons hle
      rw [hd] at hrun
      generalize ns[i] = x at hx hm hrun
      have hsh := shaped_c false x hm
      by_cases hok : shapeOk x = true
      · by_cases hlt : st.length < x.l.length
        · have hno := stk_no (ns := ns.drop (i + 1)) (i := i) (st := st) (n := x) (by rintro ⟨_, h, _⟩; omega)
          rw [hno] at hrun
          rw [hok] at hsh
          obtain ⟨xo, ⟨xa, xb, xc, xd⟩, xl, xlo, xhi, xn⟩ := x
          simp only at hlt
          have e6 : (st.length : Int) < xl.length := by omega
          repeat' (first
  | refine gSq ?_ | refine gSk ?_ | refine gBl ?_ | refine gIb ?_ | refine gEx rfl ?_
  | ((first
  | (refine gRg [] [0, 2, 3, 4, 5, 6, 14, 15, 16, 17, 18, 32, 45] ?_; intro K hK)
  | (refine gDr 10 [] 7 [0, 1, 2, 3, 4, 5, 6] [0, 2, 3, 4, 5, 6, 14, 15, 16, 17, 18, 32, 45] rfl ?_; intro K hK)
  | refine cAl (hsh) rfl rfl rfl ?_
  | (refine gd_split ?_ ?_ <;> intro hb <;> (try simp only [bls] at hb) <;> (try simp only [hb]))
  | refine gRt [] [.tmp 2] rfl ?_ | refine gDn [] [.tmp 2] rfl ?_) <;> (try simp only [go_sem, simprocAttr, e4, e5, e6, hx, Option.some.injEq, forall_eq']))
  | (refine hK _ _ ?_; clear hK K; simp only [go_sem, simprocAttr])
  | refine gCd (by simp only [go_sem, simprocAttr]; rfl) rfl ?_
  | refine brT ?_ | refine brF ?_
  | (refine brS ?_ ?_ <;> intro hc <;> (try simp only [bls] at hc) <;> (try simp only [hc, bls]))
  | intro _ | refine And.intro ?_ ?_)
          exact congrArg AVal.bool (rightS_no hrun)
        · obtain ⟨m, hm2⟩ : ∃ m, st.length = m + x.l.length := ⟨st.length - x.l.length, by omega⟩
          have hmm : st.length - x.l.length = m := by omega
          by_cases heq : st.drop m = x.l
          · rw [stkS, if_pos ⟨hok, by omega, by rw [hmm]; exact heq⟩, hmm] at hrun
            rw [hok] at hsh
            have ih := fun g' => ih (i + 1, st.take m ++ [(i : Int)], g') ⟨by simp only; omega, by simp; omega, hrun⟩ (by simp only; omega)
            obtain ⟨xo, ⟨xa, xb, xc, xd⟩, xl, xlo, xhi, xn⟩ := x
            simp only at hlt hm2 hmm heq hm
            have e6 : ¬ (st.length : Int) < xl.length := by omega
            have e7 : (st.length : Int) - xl.length = (m : Nat) := by omega
            have e8 : min m st.length = m := by omega
            have hcall := equal_c false false true false (st.drop m) xl (by unfold maxLen; rw [List.length_drop]; omega)
            rw [heq, decide_eq_true rfl] at hcall
            repeat' (first
  | refine gSq ?_ | refine gSk ?_ | refine gBl ?_ | refine gIb ?_ | refine gEx rfl ?_
  | ((first
  | (refine AGood.at 12 ?_; (refine AGood.shrink 900 m rfl ?_; simp only [go_sem, simprocAttr, ← List.map_take]); (refine gRg [] [0, 2, 3, 4, 5, 6, 14, 15, 16, 17, 18, 32, 45] ?_; intro K hK))
  | (refine gRg [] [0, 2, 3, 4, 5, 6, 14, 15, 16, 17, 18, 32, 45] ?_; intro K hK)
  | (refine gDr 10 [] 7 [0, 1, 2, 3, 4, 5, 6] [0, 2, 3, 4, 5, 6, 14, 15, 16, 17, 18, 32, 45] rfl ?_; intro K hK)
  | refine cAl (hsh) rfl rfl rfl ?_
  | (refine ⟨.bool true, ACall.lent [900] hcall (map_two ((tr_lent rfl rfl rfl (by simp; omega)).trans ((congrArg (AVal.sl false false) (ints_part _ _ _)).trans (sl_ints (by rw [List.take_of_length_le (by simp), heq])))) rfl) rfl rfl rfl, ?_⟩)
  | (refine gd_split ?_ ?_ <;> intro hb <;> (try simp only [bls] at hb) <;> (try simp only [hb]))
  | refine gRt [] [.tmp 2] rfl ?_ | refine gDn [] [.tmp 2] rfl ?_) <;> (try simp only [go_sem, simprocAttr, e4, e5, e6, e7, e8, hx, Option.some.injEq, forall_eq', List.length_take]))
  | (refine hK _ _ ?_; clear hK K; simp only [go_sem, simprocAttr])
  | refine gCd (by simp only [go_sem, simprocAttr]; rfl) rfl ?_
  | refine brT ?_ | refine brF ?_
  | (refine brS ?_ ?_ <;> intro hc <;> (try simp only [bls] at hc) <;> (try simp only [hc, bls]))
  | intro _ | refine And.intro ?_ ?_)
            all_goals first | omega | (unfold bigLen; omega) | exact ⟨_, _, ⟨rfl, rfl⟩, rfl⟩ | exact ⟨_, rfl⟩ | (rename_i hy; simp only [List.mem_singleton] at hy; subst hy; rfl) | with_reducible rfl | skip
            rename_i h'
            refine AGood.filt [900] ?_
            simp only [sf_cons, sf_nil, go_sem, simprocAttr]
            refine AGood.prune [0, 2, 3, 15, 16, 17] ?_; simp only [go_sem, simprocAttr]
            exact (ih h').cast (by simp; omega) (by simp)
          · have hno := stk_no (ns := ns.drop (i + 1)) (i := i) (st := st) (n := x) (by rintro ⟨_, _, h⟩; rw [hmm] at h; exact heq h)
            rw [hno] at hrun
            rw [hok] at hsh
            obtain ⟨xo, ⟨xa, xb, xc, xd⟩, xl, xlo, xhi, xn⟩ := x
            simp only at hlt hm2 hmm heq hm
            have e6 : ¬ (st.length : Int) < xl.length := by omega
            have e7 : (st.length : Int) - xl.length = (m : Nat) := by omega
            have hcall := equal_c false false true false (st.drop m) xl (by unfold maxLen; rw [List.length_drop]; omega)
            rw [decide_eq_false heq] at hcall
            repeat' (first
  | refine gSq ?_ | refine gSk ?_ | refine gBl ?_ | refine gIb ?_ | refine gEx rfl ?_
  | ((first
  | (refine gRg [] [0, 2, 3, 4, 5, 6, 14, 15, 16, 17, 18, 32, 45] ?_; intro K hK)
  | (refine gDr 10 [] 7 [0, 1, 2, 3, 4, 5, 6] [0, 2, 3, 4, 5, 6, 14, 15, 16, 17, 18, 32, 45] rfl ?_; intro K hK)
  | refine cAl (hsh) rfl rfl rfl ?_
  | (refine ⟨.bool false, ACall.lent [900] hcall (map_two ((tr_lent rfl rfl rfl (by simp; omega)).trans ((congrArg (AVal.sl false false) (ints_part _ _ _)).trans (sl_ints (by rw [List.take_of_length_le (by simp)])))) rfl) rfl rfl rfl, ?_⟩)
  | (refine gd_split ?_ ?_ <;> intro hb <;> (try simp only [bls] at hb) <;> (try simp only [hb]))
  | refine gRt [] [.tmp 2] rfl ?_ | refine gDn [] [.tmp 2] rfl ?_) <;> (try simp only [go_sem, simprocAttr, e4, e5, e6, e7, hx, Option.some.injEq, forall_eq', List.length_take]))
  | (refine hK _ _ ?_; clear hK K; simp only [go_sem, simprocAttr])
  | refine gCd (by simp only [go_sem, simprocAttr]; rfl) rfl ?_
  | refine brT ?_ | refine brF ?_
  | (refine brS ?_ ?_ <;> intro hc <;> (try simp only [bls] at hc) <;> (try simp only [hc, bls]))
  | intro _ | refine And.intro ?_ ?_)
            all_goals first | omega | (unfold bigLen; omega) | exact ⟨_, _, ⟨rfl, rfl⟩, rfl⟩ | exact ⟨_, rfl⟩ | (rename_i hy; simp only [List.mem_singleton] at hy; subst hy; rfl) | with_reducible rfl | skip
            exact congrArg AVal.bool (rightS_no hrun)
      · have hno := stk_no (ns := ns.drop (i + 1)) (i := i) (st := st) (n := x) (by rintro ⟨h, _⟩; exact hok h)
        rw [hno] at hrun
        rw [show shapeOk x = false from by simpa using hok] at hsh
        obtain ⟨xo, ⟨xa, xb, xc, xd⟩, xl, xlo, xhi, xn⟩ := x
        repeat' (first
  | refine gSq ?_ | refine gSk ?_ | refine gBl ?_ | refine gIb ?_ | refine gEx rfl ?_
  | ((first
  | (refine gRg [] [0, 2, 3, 4, 5, 6, 14, 15, 16, 17, 18, 32, 45] ?_; intro K hK)
  | (refine gDr 10 [] 7 [0, 1, 2, 3, 4, 5, 6] [0, 2, 3, 4, 5, 6, 14, 15, 16, 17, 18, 32, 45] rfl ?_; intro K hK)
  | refine cAl (hsh) rfl rfl rfl ?_
  | (refine gd_split ?_ ?_ <;> intro hb <;> (try simp only [bls] at hb) <;> (try simp only [hb]))
  | refine gRt [] [.tmp 2] rfl ?_ | refine gDn [] [.tmp 2] rfl ?_) <;> (try simp only [go_sem, simprocAttr, e4, e5, hx, Option.some.injEq, forall_eq']))
  | (refine hK _ _ ?_; clear hK K; simp only [go_sem, simprocAttr])
  | refine gCd (by simp only [go_sem, simprocAttr]; rfl) rfl ?_
  | refine brT ?_ | refine brF ?_
  | (refine brS ?_ ?_ <;> intro hc <;> (try simp only [bls] at hc) <;> (try simp only [hc, bls]))
  | intro _ | refine And.intro ?_ ?_)
        exact congrArg AVal.bool (rightS_no hrun)
    · have e4 : ¬ (i : Int) < ns.length := by omega
      have hin : i = ns.length := by omega
      subst hin
      rw [List.drop_length] at hrun
      repeat' (first
  | refine gSq ?_ | refine gSk ?_ | refine gBl ?_ | refine gIb ?_ | refine gEx rfl ?_
  | ((first
  | (refine gRg [] [0, 2, 3, 4, 5, 6, 14, 15, 16, 17, 18, 32, 45] ?_; intro K hK)
  | (refine gDr 10 [] 7 [0, 1, 2, 3, 4, 5, 6] [0, 2, 3, 4, 5, 6, 14, 15, 16, 17, 18, 32, 45] rfl ?_; intro K hK)
  | (refine gd_split ?_ ?_ <;> intro hb <;> (try simp only [bls] at hb) <;> (try simp only [hb]))
  | refine gRt [] [.tmp 2] rfl ?_ | refine gDn [] [.tmp 2] rfl ?_) <;> (try simp only [go_sem, simprocAttr, e4]))
  | (refine hK _ _ ?_; clear hK K; simp only [go_sem, simprocAttr])
  | refine gCd (by simp only [go_sem, simprocAttr]; rfl) rfl ?_
  | refine brT ?_ | refine brF ?_
  | (refine brS ?_ ?_ <;> intro hc <;> (try simp only [bls] at hc) <;> (try simp only [hc, bls]))
  | intro _ | refine And.intro ?_ ?_)
      refine congrArg AVal.bool ?_
      simp only [rightS, hrun, stkS, hn1, and_self, decide_true, Bool.true_and]
      rw [decide_eq_decide]
      omega
  · refine congrArg AVal.bool ?_; simp only [rightS]; rw [show decide (1 ≤ ns.length ∧ ns.length ≤ 1024) = false from by simp; omega, Bool.false_and]
end Go.Rad
