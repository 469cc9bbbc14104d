/- Contracts: where a repetition may end. -/
import Derived.Test.YtapigofiboihiaaKRSort
import Derived.Test.YtapigofiboihiaaKC06b
import Derived.Test.YtapigofiboihiaaKRNode
import Derived.Test.YtapigofiboihiaaKRNorm
set_option linter.all false
namespace Go.Rad
open Go Go.Proofs
set_option linter.all false
set_option maxRecDepth 20000
set_option maxHeartbeats 4000000

theorem pos_cnt (s : List Bool) : (posS s).length = cntB2 s := by
  have h : s = (List.range s.length).map fun i => s.getD i false := by
    refine List.ext_getElem (by simp) fun i h1 h2 => ?_
    simp [List.getD, h1]
  rw [posS, List.length_map, posN, ← List.countP_eq_length_filter]
  conv => rhs; rw [h, cntB2, List.countP_map]
  rfl
theorem pos_inj {a b : List Bool} (h : a.length = b.length) (e : posS a = posS b) : a = b := by
  refine bool_ext h fun i => ?_
  have key : ∀ s : List Bool, s.getD i false = true ↔ (i : Int) ∈ posS s := fun s => by
    rw [posS_mem]
    exact ⟨fun h => ⟨i, rfl, h⟩, fun ⟨k, h1, h2⟩ => by rw [show i = k by omega]; exact h2⟩
  have := (key a).trans (e ▸ (key b).symm)
  cases ha : a.getD i false with
  | true => exact (this.1 ha).symm
  | false =>
    cases hb : b.getD i false with
    | false => rfl
    | true => rw [this.2 hb] at ha; exact ha.symm
/-- What a node's call tells. -/
def EndsL (P : Program) (fno : Nat) (q f : Bool) (ns : List Node) (w : ByteArray) (kd : Int) (g : List Bool → List Bool) : Prop :=
  ∀ s : List Bool, s.length = w.size + 1 → ACall P fno [.agg [.sl q f (nodes ns), .str w], .int .i64 kd, .sl true false (ints (posS s))] [] fun r s' => r = .sl true false (ints (posS (g s))) ∧ s' = []
theorem times_c {q f : Bool} {ns : List Node} {w : ByteArray} (hw : w.size ≤ 1000000) (n : Node) (kid : Int) (g : List Bool → List Bool) (hn : n.l = [kid]) (hlo : 0 ≤ n.lo ∧ n.lo ≤ 4096) (hhi : n.hi = -1 ∨ n.lo ≤ n.hi ∧ n.hi ≤ 4096) (hk : EndsL Try.prog 31 q f ns w kid g) (hg : Add (w.size + 1) g) (s : List Bool) (hs : s.length = w.size + 1) :
    ACall Try.prog 44 [.agg [.sl q f (nodes ns), .str w], .agg n.cells, .sl true false (ints (posS s))] [] fun r s' => r = .sl true false (ints (posS (repB w n.lo n.hi g s))) ∧ s' = [] := by
  obtain ⟨xo, ⟨xa, xb, xc, xd⟩, xl, xlo, xhi, xn⟩ := n
  simp only at hn hlo hhi
  have hx0 : xl[0]? = some kid := by rw [hn]; rfl
  have e0 : (0 : Int) < xl.length := by rw [hn]; exact Int.one_pos
  clear hn
  obtain ⟨lo, rfl⟩ : ∃ lo : Nat, xlo = lo := ⟨xlo.toNat, by omega⟩
  simp only [Node.cells, Node.cellsF]
  obtain ⟨S1, hS1⟩ : ∃ S1, S1 = itB g lo s := ⟨_, rfl⟩
  have hS1l : S1.length = w.size + 1 := by rw [hS1]; exact it_len hg hs lo
  obtain ⟨M, hM⟩ : ∃ M : Nat, M = if xhi = -1 then w.size + 1 else (xhi - lo).toNat := ⟨_, rfl⟩
  have hrep : repB w lo xhi g s = uB g M S1 := by rw [repB, ← hM, Int.toNat_natCast, ← hS1]
  rw [hrep]
  clear hrep
  refine ACall.enter Try.func44 rfl (by kernel_rfl) (Nat.le_of_ble_eq_true rfl) ?_; simp only [initTm, Nat.reduceAdd]
  repeat' (first
  | refine gSq ?_ | refine gSk ?_ | refine gBl ?_ | refine gIb ?_ | refine gEx rfl ?_
  | ((first
  | (refine gRg [] [0, 1, 2, 3, 4, 6, 7, 8, 9, 10, 12, 13, 14, 24, 33, 50] ?_; intro K hK)
  | (refine gDr 3 [] 8 [0, 1, 2, 3, 4, 5, 6, 7] [0, 1, 2, 3, 4, 6, 7, 8, 9, 10, 12, 13, 14, 24, 33, 50] rfl ?_; intro K hK)
  | (refine gDr 11 [] 8 [0, 1, 2, 3, 4, 5, 6, 7] [0, 1, 2, 3, 4, 6, 7, 8, 9, 10, 12, 13, 14, 24, 33, 50] rfl ?_; intro K hK)
  | (refine gd_split ?_ ?_ <;> intro hb <;> (try simp only [bls] at hb) <;> (try simp only [hb]))
  | refine gRt [] [.tmp 6] rfl ?_ | refine gDn [] [.tmp 6] rfl ?_) <;> (try simp only [go_sem, simprocAttr]))
  | (refine hK _ _ ?_; clear hK K; simp only [go_sem, simprocAttr])
  | refine gCd (by simp only [go_sem, simprocAttr]; rfl) rfl ?_
  | refine brT ?_ | refine brF ?_
  | (refine brS ?_ ?_ <;> intro hc <;> (try simp only [bls] at hc) <;> (try simp only [hc, bls]))
  | intro _ | refine And.intro ?_ ?_)
  all_goals first | omega | (unfold bigLen; omega) | exact ⟨_, _, ⟨rfl, rfl⟩, rfl⟩ | exact ⟨_, rfl⟩ | (rename_i hy; simp only [List.mem_singleton] at hy; subst hy; rfl) | with_reducible rfl | skip
  rename_i h3 h4
  refine AGood.prune [2, 3, 4, 6, 12, 13] ?_; simp only [go_sem, simprocAttr]
  apply hv0
  case main =>
    intro key
    refine AGood.loopInv (α := Nat) (fun i => ([(2, .sl true false (ints (posS (itB g i s)))), (3, .bx 3 h3 0), (4, .bx 4 h4 0), (6, .sl true true []), (12, .int .i64 lo), (13, .int .i64 i)], [(3, h3, .box [.sl q f (nodes ns), .str w]), (4, h4, .box [.int .u8 xo, .int .u64 xa, .int .u64 xb, .int .u64 xc, .int .u64 xd, .sl true false (ints xl), .int .i64 lo, .int .i64 xhi, .str xn])]))
      (fun i => i ≤ lo) (fun i => lo - i) 0 (Nat.zero_le _) rfl ?_
    rintro i hi ih
    simp only at hi ih ⊢
    have hil := it_len hg hs i
    by_cases hle : i < lo
    · have e4 : (i : Int) < lo := by omega
      have e6 : (i : Int) + 1 = ((i + 1 : Nat) : Int) := by omega
      have hc := hk (itB g i s) hil
      rw [← it_succ g] at hc
      have hsm := equalI_c true false true false (posS (itB g (i + 1) s)) (posS (itB g i s))
      by_cases hst : posS (itB g (i + 1) s) = posS (itB g i s)
      · rw [decide_eq_true hst] at hsm
        have hst := pos_inj (by rw [it_len hg hs, hil]) hst
        have hfin : itB g i s = S1 := by
          have := it_stop (g := g) (s := s) (i := i) (show g (itB g i s) = itB g i s by rw [← it_succ g]; exact hst) (lo - i)
          rw [show i + (lo - i) = lo by omega] at this
          rw [hS1, this]
        rw [hst] at hc hsm
        rw [hfin] at hc hsm ⊢
        repeat' (first
  | (refine AGood.at 7 ?_; (refine AGood.prune [2, 3, 4, 6] ?_; simp only [go_sem, simprocAttr]; refine stopI ?_))
  | refine gSq ?_ | refine gSk ?_ | refine gBl ?_ | refine gIb ?_ | refine gEx rfl ?_
  | ((first
  | (refine gRg [] [0, 1, 2, 3, 4, 6, 7, 8, 9, 10, 12, 13, 14, 24, 33, 50] ?_; intro K hK)
  | (refine gDr 3 [] 8 [0, 1, 2, 3, 4, 5, 6, 7] [0, 1, 2, 3, 4, 6, 7, 8, 9, 10, 12, 13, 14, 24, 33, 50] rfl ?_; intro K hK)
  | (refine gDr 11 [] 8 [0, 1, 2, 3, 4, 5, 6, 7] [0, 1, 2, 3, 4, 6, 7, 8, 9, 10, 12, 13, 14, 24, 33, 50] rfl ?_; intro K hK)
  | refine cAl (hsm) rfl rfl rfl ?_
  | refine ⟨_, ACall.alone (hc) rfl rfl rfl, ?_⟩
  | (refine gd_split ?_ ?_ <;> intro hb <;> (try simp only [bls] at hb) <;> (try simp only [hb]))
  | refine gRt [] [.tmp 6] rfl ?_ | refine gDn [] [.tmp 6] rfl ?_) <;> (try simp only [go_sem, simprocAttr, e4, e6, hx0, e0, Option.some.injEq, forall_eq']))
  | (refine hK _ _ ?_; clear hK K; simp only [go_sem, simprocAttr])
  | refine gCd (by simp only [go_sem, simprocAttr]; rfl) rfl ?_
  | refine brT ?_ | refine brF ?_
  | (refine brS ?_ ?_ <;> intro hc <;> (try simp only [bls] at hc) <;> (try simp only [hc, bls]))
  | intro _ | refine And.intro ?_ ?_)
        all_goals first | omega | (unfold bigLen; omega) | exact ⟨_, _, ⟨rfl, rfl⟩, rfl⟩ | exact ⟨_, rfl⟩ | (rename_i hy; simp only [List.mem_singleton] at hy; subst hy; rfl) | with_reducible rfl | skip
        refine stopE ?_; exact key.out
      · rw [decide_eq_false hst] at hsm
        repeat' (first
  | refine gSq ?_ | refine gSk ?_ | refine gBl ?_ | refine gIb ?_ | refine gEx rfl ?_
  | ((first
  | (refine gRg [] [0, 1, 2, 3, 4, 6, 7, 8, 9, 10, 12, 13, 14, 24, 33, 50] ?_; intro K hK)
  | (refine gDr 3 [] 8 [0, 1, 2, 3, 4, 5, 6, 7] [0, 1, 2, 3, 4, 6, 7, 8, 9, 10, 12, 13, 14, 24, 33, 50] rfl ?_; intro K hK)
  | (refine gDr 11 [] 8 [0, 1, 2, 3, 4, 5, 6, 7] [0, 1, 2, 3, 4, 6, 7, 8, 9, 10, 12, 13, 14, 24, 33, 50] rfl ?_; intro K hK)
  | refine cAl (hsm) rfl rfl rfl ?_
  | refine ⟨_, ACall.alone (hc) rfl rfl rfl, ?_⟩
  | (refine gd_split ?_ ?_ <;> intro hb <;> (try simp only [bls] at hb) <;> (try simp only [hb]))
  | refine gRt [] [.tmp 6] rfl ?_ | refine gDn [] [.tmp 6] rfl ?_) <;> (try simp only [go_sem, simprocAttr, e4, e6, hx0, e0, Option.some.injEq, forall_eq']))
  | (refine hK _ _ ?_; clear hK K; simp only [go_sem, simprocAttr])
  | refine gCd (by simp only [go_sem, simprocAttr]; rfl) rfl ?_
  | refine brT ?_ | refine brF ?_
  | (refine brS ?_ ?_ <;> intro hc <;> (try simp only [bls] at hc) <;> (try simp only [hc, bls]))
  | intro _ | refine And.intro ?_ ?_)
        all_goals first | omega | (unfold bigLen; omega) | exact ⟨_, _, ⟨rfl, rfl⟩, rfl⟩ | exact ⟨_, rfl⟩ | (rename_i hy; simp only [List.mem_singleton] at hy; subst hy; rfl) | with_reducible rfl | skip
        refine AGood.filt [3, 4] ?_
        simp only [sf_cons, sf_nil, go_sem, simprocAttr]
        refine AGood.prune [2, 3, 4, 6, 12, 13] ?_; simp only [go_sem, simprocAttr]
        exact (ih (i + 1) (by omega) (by omega)).cast rfl rfl
    · have e4 : ¬ (i : Int) < lo := by omega
      have hfin : itB g i s = S1 := by rw [hS1, show i = lo by omega]
      rw [hfin]
      repeat' (first
  | (refine AGood.at 7 ?_; (refine AGood.prune [2, 3, 4, 6] ?_; simp only [go_sem, simprocAttr]; refine stopI ?_))
  | refine gSq ?_ | refine gSk ?_ | refine gBl ?_ | refine gIb ?_ | refine gEx rfl ?_
  | ((first
  | (refine gRg [] [0, 1, 2, 3, 4, 6, 7, 8, 9, 10, 12, 13, 14, 24, 33, 50] ?_; intro K hK)
  | (refine gDr 3 [] 8 [0, 1, 2, 3, 4, 5, 6, 7] [0, 1, 2, 3, 4, 6, 7, 8, 9, 10, 12, 13, 14, 24, 33, 50] rfl ?_; intro K hK)
  | (refine gDr 11 [] 8 [0, 1, 2, 3, 4, 5, 6, 7] [0, 1, 2, 3, 4, 6, 7, 8, 9, 10, 12, 13, 14, 24, 33, 50] rfl ?_; intro K hK)
  | (refine gd_split ?_ ?_ <;> intro hb <;> (try simp only [bls] at hb) <;> (try simp only [hb]))
  | refine gRt [] [.tmp 6] rfl ?_ | refine gDn [] [.tmp 6] rfl ?_) <;> (try simp only [go_sem, simprocAttr, e4]))
  | (refine hK _ _ ?_; clear hK K; simp only [go_sem, simprocAttr])
  | refine gCd (by simp only [go_sem, simprocAttr]; rfl) rfl ?_
  | refine brT ?_ | refine brF ?_
  | (refine brS ?_ ?_ <;> intro hc <;> (try simp only [bls] at hc) <;> (try simp only [hc, bls]))
  | intro _ | refine And.intro ?_ ?_)
      refine stopE ?_; exact key.out
  case key =>
    clear hS1 hs
    repeat' (first
  | refine gSq ?_ | refine gSk ?_ | refine gBl ?_ | refine gIb ?_ | refine gEx rfl ?_
  | ((first
  | (refine gRg [] [0, 1, 2, 3, 4, 6, 7, 8, 9, 10, 12, 13, 14, 24, 33, 50] ?_; intro K hK)
  | (refine gDr 3 [] 8 [0, 1, 2, 3, 4, 5, 6, 7] [0, 1, 2, 3, 4, 6, 7, 8, 9, 10, 12, 13, 14, 24, 33, 50] rfl ?_; intro K hK)
  | (refine gDr 11 [] 8 [0, 1, 2, 3, 4, 5, 6, 7] [0, 1, 2, 3, 4, 6, 7, 8, 9, 10, 12, 13, 14, 24, 33, 50] rfl ?_; intro K hK)
  | (refine gd_split ?_ ?_ <;> intro hb <;> (try simp only [bls] at hb) <;> (try simp only [hb]))
  | refine gRt [] [.tmp 6] rfl ?_ | refine gDn [] [.tmp 6] rfl ?_) <;> (try simp only [go_sem, simprocAttr]))
  | (refine hK _ _ ?_; clear hK K; simp only [go_sem, simprocAttr])
  | refine gCd (by simp only [go_sem, simprocAttr]; rfl) rfl ?_
  | refine brT ?_ | refine brF ?_
  | (refine brS ?_ ?_ <;> intro hc <;> (try simp only [bls] at hc) <;> (try simp only [hc, bls]))
  | intro _ | refine And.intro ?_ ?_)
    refine AGood.prune [2, 3, 4, 6, 8, 9] ?_; simp only [go_sem, simprocAttr]
    refine AGood.loopInv (α := Nat) (fun k => ([(2, .sl true false (ints (posS (itB g k S1)))), (3, .bx 3 h3 0), (4, .bx 4 h4 0), (6, .sl true true []), (8, .sl true false (ints (posS (uB g k S1)))), (9, .int .i64 (lo + k : Nat))], [(3, h3, .box [.sl q f (nodes ns), .str w]), (4, h4, .box [.int .u8 xo, .int .u64 xa, .int .u64 xb, .int .u64 xc, .int .u64 xd, .sl true false (ints xl), .int .i64 lo, .int .i64 xhi, .str xn])]))
      (fun k => k ≤ cntB2 (uB g k S1) ∧ (xhi = -1 ∨ k ≤ M)) (fun k => w.size + 1 - k) 0 ⟨Nat.zero_le _, .inr (Nat.zero_le _)⟩ rfl ?_
    rintro k ⟨hkc, hkM⟩ ih
    simp only at hkc hkM ih ⊢
    have hul := u_len hg hS1l k
    have hil := it_len hg hS1l k
    have hcl : cntB2 (uB g k S1) ≤ w.size + 1 := by rw [← hul]; exact cnt_le
    by_cases hgo : xhi = -1 ∨ k < M
    · have e6 : ((lo + k : Nat) : Int) + 1 = ((lo + (k + 1) : Nat) : Int) := by omega
      have hc := hk (itB g k S1) hil
      rw [← it_succ g] at hc
      have ho := mergeP_c true false true false (uB g k S1) (itB g (k + 1) S1) (by rw [hul, it_len hg hS1l]) (by omega)
      rw [← u_snoc hg hS1l] at ho
      have hgr := cnt_or hul (it_len hg hS1l (k + 1))
      rw [← u_snoc hg hS1l] at hgr
      have e7 : ¬ ((lo + k : Nat) : Int) = xhi := by
        by_cases h1 : xhi = -1
        · omega
        · rw [if_neg h1] at hM; omega
      by_cases hst : uB g (k + 1) S1 = uB g k S1
      · have hfin : uB g M S1 = uB g k S1 := by
          rcases hgo with h1 | h1
          · rw [hM, if_pos h1]; exact u_end hg hS1l hst
          · have := u_stop hg hS1l hst (M - k)
            rw [show k + (M - k) = M by omega] at this
            exact this
        rw [hfin]
        rw [hst] at ho
        repeat' (first
  | refine gSq ?_ | refine gSk ?_ | refine gBl ?_ | refine gIb ?_ | refine gEx rfl ?_
  | ((first
  | (refine gRg [] [0, 1, 2, 3, 4, 6, 7, 8, 9, 10, 12, 13, 14, 24, 33, 50] ?_; intro K hK)
  | (refine gDr 3 [] 8 [0, 1, 2, 3, 4, 5, 6, 7] [0, 1, 2, 3, 4, 6, 7, 8, 9, 10, 12, 13, 14, 24, 33, 50] rfl ?_; intro K hK)
  | (refine gDr 11 [] 8 [0, 1, 2, 3, 4, 5, 6, 7] [0, 1, 2, 3, 4, 6, 7, 8, 9, 10, 12, 13, 14, 24, 33, 50] rfl ?_; intro K hK)
  | refine cAl (ho) rfl rfl rfl ?_
  | refine ⟨_, ACall.alone (hc) rfl rfl rfl, ?_⟩
  | (refine gd_split ?_ ?_ <;> intro hb <;> (try simp only [bls] at hb) <;> (try simp only [hb]))
  | refine gRt [] [.tmp 6] rfl ?_ | refine gDn [] [.tmp 6] rfl ?_) <;> (try simp only [go_sem, simprocAttr, e6, e7, hx0, e0, Option.some.injEq, forall_eq']))
  | (refine hK _ _ ?_; clear hK K; simp only [go_sem, simprocAttr])
  | refine gCd (by simp only [go_sem, simprocAttr]; rfl) rfl ?_
  | refine brT ?_ | refine brF ?_
  | (refine brS ?_ ?_ <;> intro hc <;> (try simp only [bls] at hc) <;> (try simp only [hc, bls]))
  | intro _ | refine And.intro ?_ ?_)
        all_goals first | omega | (unfold bigLen; omega) | exact ⟨_, _, ⟨rfl, rfl⟩, rfl⟩ | exact ⟨_, rfl⟩ | (rename_i hy; simp only [List.mem_singleton] at hy; subst hy; rfl) | with_reducible rfl | skip
      · have hlt : cntB2 (uB g k S1) ≠ cntB2 (uB g (k + 1) S1) := fun e => hst (hgr.2 e)
        have hcl2 : cntB2 (uB g (k + 1) S1) ≤ w.size + 1 := by rw [← u_len hg hS1l (k + 1)]; exact cnt_le
        have e8 : ¬ ((posN (uB g (k + 1) S1)).length : Int) = ((posN (uB g k S1)).length : Int) := by
          have a1 := pos_cnt (uB g (k + 1) S1)
          have a2 := pos_cnt (uB g k S1)
          rw [posS, List.length_map] at a1 a2
          omega
        repeat' (first
  | refine gSq ?_ | refine gSk ?_ | refine gBl ?_ | refine gIb ?_ | refine gEx rfl ?_
  | ((first
  | (refine gRg [] [0, 1, 2, 3, 4, 6, 7, 8, 9, 10, 12, 13, 14, 24, 33, 50] ?_; intro K hK)
  | (refine gDr 3 [] 8 [0, 1, 2, 3, 4, 5, 6, 7] [0, 1, 2, 3, 4, 6, 7, 8, 9, 10, 12, 13, 14, 24, 33, 50] rfl ?_; intro K hK)
  | (refine gDr 11 [] 8 [0, 1, 2, 3, 4, 5, 6, 7] [0, 1, 2, 3, 4, 6, 7, 8, 9, 10, 12, 13, 14, 24, 33, 50] rfl ?_; intro K hK)
  | refine cAl (ho) rfl rfl rfl ?_
  | refine ⟨_, ACall.alone (hc) rfl rfl rfl, ?_⟩
  | (refine gd_split ?_ ?_ <;> intro hb <;> (try simp only [bls] at hb) <;> (try simp only [hb]))
  | refine gRt [] [.tmp 6] rfl ?_ | refine gDn [] [.tmp 6] rfl ?_) <;> (try simp only [go_sem, simprocAttr, e6, e7, e8, hx0, e0, Option.some.injEq, forall_eq']))
  | (refine hK _ _ ?_; clear hK K; simp only [go_sem, simprocAttr])
  | refine gCd (by simp only [go_sem, simprocAttr]; rfl) rfl ?_
  | refine brT ?_ | refine brF ?_
  | (refine brS ?_ ?_ <;> intro hc <;> (try simp only [bls] at hc) <;> (try simp only [hc, bls]))
  | intro _ | refine And.intro ?_ ?_)
        all_goals first | omega | (unfold bigLen; omega) | exact ⟨_, _, ⟨rfl, rfl⟩, rfl⟩ | exact ⟨_, rfl⟩ | (rename_i hy; simp only [List.mem_singleton] at hy; subst hy; rfl) | with_reducible rfl | skip
        refine AGood.filt [3, 4] ?_
        simp only [sf_cons, sf_nil, go_sem, simprocAttr]
        refine AGood.prune [2, 3, 4, 6, 8, 9] ?_; simp only [go_sem, simprocAttr]
        exact (ih (k + 1) ⟨by omega, by omega⟩ (by omega)).cast rfl rfl
    · have h1 : ¬ xhi = -1 := fun h => hgo (.inl h)
      have e7 : ((lo + k : Nat) : Int) = xhi := by rw [if_neg h1] at hM; omega
      have hkm : k = M := by omega
      subst hkm
      clear ih
      repeat' (first
  | refine gSq ?_ | refine gSk ?_ | refine gBl ?_ | refine gIb ?_ | refine gEx rfl ?_
  | ((first
  | (refine gRg [] [0, 1, 2, 3, 4, 6, 7, 8, 9, 10, 12, 13, 14, 24, 33, 50] ?_; intro K hK)
  | (refine gDr 3 [] 8 [0, 1, 2, 3, 4, 5, 6, 7] [0, 1, 2, 3, 4, 6, 7, 8, 9, 10, 12, 13, 14, 24, 33, 50] rfl ?_; intro K hK)
  | (refine gDr 11 [] 8 [0, 1, 2, 3, 4, 5, 6, 7] [0, 1, 2, 3, 4, 6, 7, 8, 9, 10, 12, 13, 14, 24, 33, 50] rfl ?_; intro K hK)
  | (refine gd_split ?_ ?_ <;> intro hb <;> (try simp only [bls] at hb) <;> (try simp only [hb]))
  | refine gRt [] [.tmp 6] rfl ?_ | refine gDn [] [.tmp 6] rfl ?_) <;> (try simp only [go_sem, simprocAttr, eq_true e7]))
  | (refine hK _ _ ?_; clear hK K; simp only [go_sem, simprocAttr])
  | refine gCd (by simp only [go_sem, simprocAttr]; rfl) rfl ?_
  | refine brT ?_ | refine brF ?_
  | (refine brS ?_ ?_ <;> intro hc <;> (try simp only [bls] at hc) <;> (try simp only [hc, bls]))
  | intro _ | refine And.intro ?_ ?_)
      all_goals first | omega | (unfold bigLen; omega) | exact ⟨_, _, ⟨rfl, rfl⟩, rfl⟩ | exact ⟨_, rfl⟩ | (rename_i hy; simp only [List.mem_singleton] at hy; subst hy; rfl) | with_reducible rfl | skip
end Go.Rad
/- Contracts: where a node may end, from some places on. -/
namespace Go.Rad
open Go Go.Proofs
set_option linter.all false
set_option maxRecDepth 20000
set_option maxHeartbeats 4000000

theorem endsL_c {q f : Bool} {ns : List Node} {w : ByteArray} (hw : w.size ≤ 1000000) (hll : ns.length ≤ 1000000) (hss : ∀ n ∈ ns, ∀ k, 0 ≤ n.s.word k) : ∀ (fo : Fo) (ks : List Int), fo.Sub ns ks → fo.shapeF = true → fo.size ≤ 1000000 → ∀ (j : Nat) (kd : Int) (g : List Bool → List Bool), ks[j]? = some kd → (sem w fo)[j]? = some g → EndsL Try.prog 31 q f ns w kd g
  | .nil, ks, hs, _, _, j, kd, g, hj, hg => by simp [sem] at hg
  | .node b k r, ks, hsub, hsh, hsz, j, kd, g, hj, hg => by
    obtain ⟨i, n, ks', rfl, h1, h2, h3, h4⟩ := hsub
    simp only [Fo.shapeF, Fo.all, Bool.and_eq_true] at hsh
    simp only [Fo.size] at hsz
    cases j with
    | succ j => exact endsL_c hw hll hss r ks' h4 hsh.2 (by omega) j kd g (by simpa using hj) (by simpa [sem] using hg)
    | zero =>
      simp only [List.getElem?_cons_zero, Option.some.injEq, sem] at hj hg
      subst hj hg
      have ih := endsL_c (q := q) (f := f) hw hll hss k n.l h3 hsh.1.2 (by omega)
      have hlen := h3.len
      have hsl := sem_len w k
      have hadd := sem_add w k
      have hkd : k.deg ≤ 1000000 := Nat.le_trans (Fo.deg_le k) (by omega)
      generalize sem w k = fs at ih hsl hadd
      have hshape := hsh.1.1
      have hlk : n.l.length = fs.length := by omega
      rw [← hlen] at hshape
      clear h3 h4 hsh
      intro s hs
      have hi := (List.getElem?_eq_some_iff.1 h1).1
      have e1 : (i : Int) < ns.length := by omega
      have e2 : (0 : Int) ≤ i := by omega
      have hbyte := fun h => ends2uc (q := q) (f := f) hw n i h1 h (hss n (List.mem_of_getElem? h1)) s hs
      clear hss
      obtain ⟨xo, ⟨xa, xb, xc, xd⟩, xl, xlo, xhi, xn⟩ := n
      subst h2
      simp only at hshape ih hlk hlen hbyte
      simp only [semNode]
      by_cases h2 : xo = 2
      · rw [if_pos h2]
        exact hbyte h2
      · rw [if_neg h2]
        clear hbyte
        by_cases h3 : xo = 3
        · rw [if_pos h3]
          obtain ⟨S, hS⟩ : ∃ S, S = fs.foldl (fun s f => f s) s := ⟨_, rfl⟩
          rw [← hS]
          refine ACall.enter Try.func31 rfl (by kernel_rfl) (Nat.le_of_ble_eq_true rfl) ?_; simp only [initTm, Nat.reduceAdd]
          repeat' (first
  | refine gSq ?_ | refine gSk ?_ | refine gBl ?_ | refine gIb ?_ | refine gEx rfl ?_
  | ((first
  | (refine gRg [] [0, 1, 2, 3, 6, 7, 8, 10, 12, 13, 15, 22, 23, 25, 26, 27, 28, 44, 52, 55, 56, 57, 58, 67, 70, 71, 72, 73, 84] ?_; intro K hK)
  | (refine gDr 8 [] 14 [0, 1, 2, 3, 4, 5, 6, 7, 8, 9, 10, 11, 12, 13] [0, 1, 2, 3, 6, 7, 8, 10, 12, 13, 15, 22, 23, 25, 26, 27, 28, 44, 52, 55, 56, 57, 58, 67, 70, 71, 72, 73, 84] rfl ?_; intro K hK)
  | (refine gd_split ?_ ?_ <;> intro hb <;> (try simp only [bls] at hb) <;> (try simp only [hb]))
  | refine gRt [] [.tmp 6] rfl ?_ | refine gDn [] [.tmp 6] rfl ?_) <;> (try simp only [go_sem, simprocAttr, e1, e2, h1, h2, eq_true h3, Option.some.injEq, forall_eq']))
  | (refine hK _ _ ?_; clear hK K; simp only [go_sem, simprocAttr])
  | refine gCd (by simp only [go_sem, simprocAttr]; rfl) rfl ?_
  | refine brT ?_ | refine brF ?_
  | (refine brS ?_ ?_ <;> intro hc <;> (try simp only [bls] at hc) <;> (try simp only [hc, bls]))
  | intro _ | refine And.intro ?_ ?_)
          all_goals first | omega | (unfold bigLen; omega) | exact ⟨_, _, ⟨rfl, rfl⟩, rfl⟩ | exact ⟨_, rfl⟩ | (rename_i hy; simp only [List.mem_singleton] at hy; subst hy; rfl) | with_reducible rfl | skip
          rename_i m3 m7
          refine AGood.filt [3] ?_
          simp only [sf_cons, sf_nil, go_sem, simprocAttr]
          refine AGood.prune [2, 3, 6, 55, 56, 57] ?_; simp only [go_sem, simprocAttr]
          refine AGood.loopInv (α := Nat × List Bool) (fun z => ([(2, .sl true false (ints (posS z.2))), (3, .bx 3 m3 0), (6, .sl true true []), (55, .sl true false (ints xl)), (56, .int .i64 xl.length), (57, .int .i64 z.1)], [(3, m3, .box [.sl q f (nodes ns), .str w])]))
            (fun z => z.1 ≤ xl.length ∧ z.2.length = w.size + 1 ∧ S = (fs.drop z.1).foldl (fun s f => f s) z.2) (fun z => xl.length - z.1) (0, s) ⟨Nat.zero_le _, hs, hS⟩ rfl ?_
          rintro ⟨j, t⟩ ⟨hj, ht, hrun⟩ ih2
          simp only at hj ht hrun ih2 ⊢
          by_cases hle : j < xl.length
          · have f4 : (j : Int) < xl.length := by omega
            have f5 : (0 : Int) ≤ j := by omega
            have f6 : (j : Int) + 1 = ((j + 1 : Nat) : Int) := by omega
            have hx : xl[j]? = some xl[j] := List.getElem?_eq_getElem hle
            have hfx : fs[j]? = some (fs[j]'(by omega)) := List.getElem?_eq_getElem (by omega)
            have hc := ih j _ _ hx hfx t ht
            rw [List.drop_eq_getElem_cons (by omega : j < fs.length), List.foldl_cons] at hrun
            have ha := (hadd (fs[j]'(by omega)) (List.getElem_mem _)).len t ht
            generalize (fs[j]'(by omega)) t = u at hc hrun ha
            generalize xl[j] = kd at hx hc
            repeat' (first
  | refine gSq ?_ | refine gSk ?_ | refine gBl ?_ | refine gIb ?_ | refine gEx rfl ?_
  | ((first
  | (refine gRg [] [0, 1, 2, 3, 6, 7, 8, 10, 12, 13, 15, 22, 23, 25, 26, 27, 28, 44, 52, 55, 56, 57, 58, 67, 70, 71, 72, 73, 84] ?_; intro K hK)
  | (refine gDr 8 [] 14 [0, 1, 2, 3, 4, 5, 6, 7, 8, 9, 10, 11, 12, 13] [0, 1, 2, 3, 6, 7, 8, 10, 12, 13, 15, 22, 23, 25, 26, 27, 28, 44, 52, 55, 56, 57, 58, 67, 70, 71, 72, 73, 84] rfl ?_; intro K hK)
  | refine cAl (hc) rfl rfl rfl ?_
  | (refine gd_split ?_ ?_ <;> intro hb <;> (try simp only [bls] at hb) <;> (try simp only [hb]))
  | refine gRt [] [.tmp 6] rfl ?_ | refine gDn [] [.tmp 6] rfl ?_) <;> (try simp only [go_sem, simprocAttr, f4, f5, f6, hx, Option.some.injEq, forall_eq']))
  | (refine hK _ _ ?_; clear hK K; simp only [go_sem, simprocAttr])
  | refine gCd (by simp only [go_sem, simprocAttr]; rfl) rfl ?_
  | refine brT ?_ | refine brF ?_
  | (refine brS ?_ ?_ <;> intro hc <;> (try simp only [bls] at hc) <;> (try simp only [hc, bls]))
  | intro _ | refine And.intro ?_ ?_)
            all_goals first | omega | (unfold bigLen; omega) | exact ⟨_, _, ⟨rfl, rfl⟩, rfl⟩ | exact ⟨_, rfl⟩ | (rename_i hy; simp only [List.mem_singleton] at hy; subst hy; rfl) | with_reducible rfl | skip
            refine AGood.filt [3] ?_
            simp only [sf_cons, sf_nil, go_sem, simprocAttr]
            refine AGood.prune [2, 3, 6, 55, 56, 57] ?_; simp only [go_sem, simprocAttr]
            exact (ih2 (j + 1, u) ⟨by simp only; omega, ha, hrun⟩ (by simp only; omega)).cast rfl rfl
          · have f4 : ¬ (j : Int) < xl.length := by omega
            rw [List.drop_eq_nil_of_le (by omega)] at hrun
            simp only [List.foldl_nil] at hrun
            subst hrun
            clear ih2
            repeat' (first
  | refine gSq ?_ | refine gSk ?_ | refine gBl ?_ | refine gIb ?_ | refine gEx rfl ?_
  | ((first
  | (refine gRg [] [0, 1, 2, 3, 6, 7, 8, 10, 12, 13, 15, 22, 23, 25, 26, 27, 28, 44, 52, 55, 56, 57, 58, 67, 70, 71, 72, 73, 84] ?_; intro K hK)
  | (refine gDr 8 [] 14 [0, 1, 2, 3, 4, 5, 6, 7, 8, 9, 10, 11, 12, 13] [0, 1, 2, 3, 6, 7, 8, 10, 12, 13, 15, 22, 23, 25, 26, 27, 28, 44, 52, 55, 56, 57, 58, 67, 70, 71, 72, 73, 84] rfl ?_; intro K hK)
  | (refine gd_split ?_ ?_ <;> intro hb <;> (try simp only [bls] at hb) <;> (try simp only [hb]))
  | refine gRt [] [.tmp 6] rfl ?_ | refine gDn [] [.tmp 6] rfl ?_) <;> (try simp only [go_sem, simprocAttr, f4]))
  | (refine hK _ _ ?_; clear hK K; simp only [go_sem, simprocAttr])
  | refine gCd (by simp only [go_sem, simprocAttr]; rfl) rfl ?_
  | refine brT ?_ | refine brF ?_
  | (refine brS ?_ ?_ <;> intro hc <;> (try simp only [bls] at hc) <;> (try simp only [hc, bls]))
  | intro _ | refine And.intro ?_ ?_)
            all_goals first | omega | (unfold bigLen; omega) | exact ⟨_, _, ⟨rfl, rfl⟩, rfl⟩ | exact ⟨_, rfl⟩ | (rename_i hy; simp only [List.mem_singleton] at hy; subst hy; rfl) | with_reducible rfl | skip
        · rw [if_neg h3]
          by_cases h4 : xo = 4
          · rw [if_pos h4]
            obtain ⟨S, hS⟩ : ∃ S, S = fs.foldl (fun o f => orB o (f s)) (falses (w.size + 1)) := ⟨_, rfl⟩
            rw [← hS]
            have hp0 : ints (posS (falses (w.size + 1))) = [] := by
              have : posS (falses (w.size + 1)) = [] := by
                rw [posS, posN, List.filter_eq_nil_iff.2 fun i _ => by rw [falses_get]; exact Bool.false_ne_true]
                rfl
              rw [this]; rfl
            refine ACall.enter Try.func31 rfl (by kernel_rfl) (Nat.le_of_ble_eq_true rfl) ?_; simp only [initTm, Nat.reduceAdd]
            repeat' (first
  | refine gSq ?_ | refine gSk ?_ | refine gBl ?_ | refine gIb ?_ | refine gEx rfl ?_
  | ((first
  | (refine gRg [] [0, 1, 2, 3, 6, 7, 8, 10, 12, 13, 15, 22, 23, 25, 26, 27, 28, 44, 52, 55, 56, 57, 58, 67, 70, 71, 72, 73, 84] ?_; intro K hK)
  | (refine gDr 8 [] 14 [0, 1, 2, 3, 4, 5, 6, 7, 8, 9, 10, 11, 12, 13] [0, 1, 2, 3, 6, 7, 8, 10, 12, 13, 15, 22, 23, 25, 26, 27, 28, 44, 52, 55, 56, 57, 58, 67, 70, 71, 72, 73, 84] rfl ?_; intro K hK)
  | (refine gd_split ?_ ?_ <;> intro hb <;> (try simp only [bls] at hb) <;> (try simp only [hb]))
  | refine gRt [] [.tmp 6] rfl ?_ | refine gDn [] [.tmp 6] rfl ?_) <;> (try simp only [go_sem, simprocAttr, e1, e2, h1, h2, h3, eq_true h4, Option.some.injEq, forall_eq']))
  | (refine hK _ _ ?_; clear hK K; simp only [go_sem, simprocAttr])
  | refine gCd (by simp only [go_sem, simprocAttr]; rfl) rfl ?_
  | refine brT ?_ | refine brF ?_
  | (refine brS ?_ ?_ <;> intro hc <;> (try simp only [bls] at hc) <;> (try simp only [hc, bls]))
  | intro _ | refine And.intro ?_ ?_)
            all_goals first | omega | (unfold bigLen; omega) | exact ⟨_, _, ⟨rfl, rfl⟩, rfl⟩ | exact ⟨_, rfl⟩ | (rename_i hy; simp only [List.mem_singleton] at hy; subst hy; rfl) | with_reducible rfl | skip
            rename_i m3 m7
            refine AGood.unfull 13 (by rfl) ?_
            refine AGood.filt [3] ?_
            simp only [sf_cons, sf_nil, go_sem, simprocAttr]
            refine AGood.prune [2, 3, 6, 13, 70, 71, 72] ?_; simp only [go_sem, simprocAttr]
            refine AGood.loopInv (α := Nat × List Bool) (fun z => ([(2, .sl true false (ints (posS s))), (3, .bx 3 m3 0), (6, .sl true true []), (13, .sl true false (ints (posS z.2))), (70, .sl true false (ints xl)), (71, .int .i64 xl.length), (72, .int .i64 z.1)], [(3, m3, .box [.sl q f (nodes ns), .str w])]))
              (fun z => z.1 ≤ xl.length ∧ z.2.length = w.size + 1 ∧ S = (fs.drop z.1).foldl (fun o f => orB o (f s)) z.2) (fun z => xl.length - z.1) (0, falses (w.size + 1)) ⟨Nat.zero_le _, falses_len _, hS⟩ (by simp only [hp0]; rfl) ?_
            rintro ⟨j, t⟩ ⟨hj, ht, hrun⟩ ih2
            simp only at hj ht hrun ih2 ⊢
            by_cases hle : j < xl.length
            · have f4 : (j : Int) < xl.length := by omega
              have f5 : (0 : Int) ≤ j := by omega
              have f6 : (j : Int) + 1 = ((j + 1 : Nat) : Int) := by omega
              have hx : xl[j]? = some xl[j] := List.getElem?_eq_getElem hle
              have hfx : fs[j]? = some (fs[j]'(by omega)) := List.getElem?_eq_getElem (by omega)
              have hc := ih j _ _ hx hfx s hs
              rw [List.drop_eq_getElem_cons (by omega : j < fs.length), List.foldl_cons] at hrun
              have ha := (hadd (fs[j]'(by omega)) (List.getElem_mem _)).len s hs
              generalize (fs[j]'(by omega)) s = u at hc hrun ha
              generalize xl[j] = kd at hx hc
              have ho := mergeP_c true false true false t u (by omega) (by omega)
              have hol := orB_len ht ha
              repeat' (first
  | refine gSq ?_ | refine gSk ?_ | refine gBl ?_ | refine gIb ?_ | refine gEx rfl ?_
  | ((first
  | (refine gRg [] [0, 1, 2, 3, 6, 7, 8, 10, 12, 13, 15, 22, 23, 25, 26, 27, 28, 44, 52, 55, 56, 57, 58, 67, 70, 71, 72, 73, 84] ?_; intro K hK)
  | (refine gDr 8 [] 14 [0, 1, 2, 3, 4, 5, 6, 7, 8, 9, 10, 11, 12, 13] [0, 1, 2, 3, 6, 7, 8, 10, 12, 13, 15, 22, 23, 25, 26, 27, 28, 44, 52, 55, 56, 57, 58, 67, 70, 71, 72, 73, 84] rfl ?_; intro K hK)
  | refine cAl (hc) rfl rfl rfl ?_
  | refine cAl (ho) rfl rfl rfl ?_
  | (refine gd_split ?_ ?_ <;> intro hb <;> (try simp only [bls] at hb) <;> (try simp only [hb]))
  | refine gRt [] [.tmp 6] rfl ?_ | refine gDn [] [.tmp 6] rfl ?_) <;> (try simp only [go_sem, simprocAttr, f4, f5, f6, hx, Option.some.injEq, forall_eq']))
  | (refine hK _ _ ?_; clear hK K; simp only [go_sem, simprocAttr])
  | refine gCd (by simp only [go_sem, simprocAttr]; rfl) rfl ?_
  | refine brT ?_ | refine brF ?_
  | (refine brS ?_ ?_ <;> intro hc <;> (try simp only [bls] at hc) <;> (try simp only [hc, bls]))
  | intro _ | refine And.intro ?_ ?_)
              all_goals first | omega | (unfold bigLen; omega) | exact ⟨_, _, ⟨rfl, rfl⟩, rfl⟩ | exact ⟨_, rfl⟩ | (rename_i hy; simp only [List.mem_singleton] at hy; subst hy; rfl) | with_reducible rfl | skip
              refine AGood.filt [3] ?_
              simp only [sf_cons, sf_nil, go_sem, simprocAttr]
              refine AGood.prune [2, 3, 6, 13, 70, 71, 72] ?_; simp only [go_sem, simprocAttr]
              exact (ih2 (j + 1, orB t u) ⟨by simp only; omega, hol, hrun⟩ (by simp only; omega)).cast rfl rfl
            · have f4 : ¬ (j : Int) < xl.length := by omega
              rw [List.drop_eq_nil_of_le (by omega)] at hrun
              simp only [List.foldl_nil] at hrun
              subst hrun
              clear ih2
              repeat' (first
  | refine gSq ?_ | refine gSk ?_ | refine gBl ?_ | refine gIb ?_ | refine gEx rfl ?_
  | ((first
  | (refine gRg [] [0, 1, 2, 3, 6, 7, 8, 10, 12, 13, 15, 22, 23, 25, 26, 27, 28, 44, 52, 55, 56, 57, 58, 67, 70, 71, 72, 73, 84] ?_; intro K hK)
  | (refine gDr 8 [] 14 [0, 1, 2, 3, 4, 5, 6, 7, 8, 9, 10, 11, 12, 13] [0, 1, 2, 3, 6, 7, 8, 10, 12, 13, 15, 22, 23, 25, 26, 27, 28, 44, 52, 55, 56, 57, 58, 67, 70, 71, 72, 73, 84] rfl ?_; intro K hK)
  | (refine gd_split ?_ ?_ <;> intro hb <;> (try simp only [bls] at hb) <;> (try simp only [hb]))
  | refine gRt [] [.tmp 6] rfl ?_ | refine gDn [] [.tmp 6] rfl ?_) <;> (try simp only [go_sem, simprocAttr, f4]))
  | (refine hK _ _ ?_; clear hK K; simp only [go_sem, simprocAttr])
  | refine gCd (by simp only [go_sem, simprocAttr]; rfl) rfl ?_
  | refine brT ?_ | refine brF ?_
  | (refine brS ?_ ?_ <;> intro hc <;> (try simp only [bls] at hc) <;> (try simp only [hc, bls]))
  | intro _ | refine And.intro ?_ ?_)
              all_goals first | omega | (unfold bigLen; omega) | exact ⟨_, _, ⟨rfl, rfl⟩, rfl⟩ | exact ⟨_, rfl⟩ | (rename_i hy; simp only [List.mem_singleton] at hy; subst hy; rfl) | with_reducible rfl | skip
          · rw [if_neg h4]
            by_cases h5 : xo = 5
            · rw [if_pos h5]
              obtain ⟨q1, _, _, q4, q5, q6⟩ := shapeL_rep hshape h5
              simp only at q1 q4 q5 q6
              obtain ⟨kd, hkd⟩ : ∃ kd, xl = [kd] := List.length_eq_one_iff.1 q1
              obtain ⟨g, hg⟩ : ∃ g, fs = [g] := List.length_eq_one_iff.1 (by omega)
              have hc := times_c (q := q) (f := f) (ns := ns) hw ⟨xo, ⟨xa, xb, xc, xd⟩, xl, xlo, xhi, xn⟩ kd g hkd ⟨q4, q5⟩ (by simp only; omega) (ih 0 kd g (by rw [hkd]; rfl) (by rw [hg]; rfl)) (hadd g (by rw [hg]; simp)) s hs
              rw [hg, List.headD_cons]
              simp only [Node.cells, Node.cellsF] at hc
              clear hkd hg
              refine ACall.enter Try.func31 rfl (by kernel_rfl) (Nat.le_of_ble_eq_true rfl) ?_; simp only [initTm, Nat.reduceAdd]
              repeat' (first
  | refine gSq ?_ | refine gSk ?_ | refine gBl ?_ | refine gIb ?_ | refine gEx rfl ?_
  | ((first
  | (refine gRg [] [0, 1, 2, 3, 6, 7, 8, 10, 12, 13, 15, 22, 23, 25, 26, 27, 28, 44, 52, 55, 56, 57, 58, 67, 70, 71, 72, 73, 84] ?_; intro K hK)
  | (refine gDr 8 [] 14 [0, 1, 2, 3, 4, 5, 6, 7, 8, 9, 10, 11, 12, 13] [0, 1, 2, 3, 6, 7, 8, 10, 12, 13, 15, 22, 23, 25, 26, 27, 28, 44, 52, 55, 56, 57, 58, 67, 70, 71, 72, 73, 84] rfl ?_; intro K hK)
  | refine cAl (hc) rfl rfl rfl ?_
  | (refine gd_split ?_ ?_ <;> intro hb <;> (try simp only [bls] at hb) <;> (try simp only [hb]))
  | refine gRt [] [.tmp 6] rfl ?_ | refine gDn [] [.tmp 6] rfl ?_) <;> (try simp only [go_sem, simprocAttr, e1, e2, h1, h2, h3, h4, eq_true h5, Option.some.injEq, forall_eq']))
  | (refine hK _ _ ?_; clear hK K; simp only [go_sem, simprocAttr])
  | refine gCd (by simp only [go_sem, simprocAttr]; rfl) rfl ?_
  | refine brT ?_ | refine brF ?_
  | (refine brS ?_ ?_ <;> intro hc <;> (try simp only [bls] at hc) <;> (try simp only [hc, bls]))
  | intro _ | refine And.intro ?_ ?_)
              all_goals first | omega | (unfold bigLen; omega) | exact ⟨_, _, ⟨rfl, rfl⟩, rfl⟩ | exact ⟨_, rfl⟩ | (rename_i hy; simp only [List.mem_singleton] at hy; subst hy; rfl) | with_reducible rfl | skip
            · rw [if_neg h5]
              refine ACall.enter Try.func31 rfl (by kernel_rfl) (Nat.le_of_ble_eq_true rfl) ?_; simp only [initTm, Nat.reduceAdd]
              repeat' (first
  | refine gSq ?_ | refine gSk ?_ | refine gBl ?_ | refine gIb ?_ | refine gEx rfl ?_
  | ((first
  | (refine gRg [] [0, 1, 2, 3, 6, 7, 8, 10, 12, 13, 15, 22, 23, 25, 26, 27, 28, 44, 52, 55, 56, 57, 58, 67, 70, 71, 72, 73, 84] ?_; intro K hK)
  | (refine gDr 8 [] 14 [0, 1, 2, 3, 4, 5, 6, 7, 8, 9, 10, 11, 12, 13] [0, 1, 2, 3, 6, 7, 8, 10, 12, 13, 15, 22, 23, 25, 26, 27, 28, 44, 52, 55, 56, 57, 58, 67, 70, 71, 72, 73, 84] rfl ?_; intro K hK)
  | (refine gd_split ?_ ?_ <;> intro hb <;> (try simp only [bls] at hb) <;> (try simp only [hb]))
  | refine gRt [] [.tmp 6] rfl ?_ | refine gDn [] [.tmp 6] rfl ?_) <;> (try simp only [go_sem, simprocAttr, e1, e2, h1, h2, h3, h4, h5, Option.some.injEq, forall_eq']))
  | (refine hK _ _ ?_; clear hK K; simp only [go_sem, simprocAttr])
  | refine gCd (by simp only [go_sem, simprocAttr]; rfl) rfl ?_
  | refine brT ?_ | refine brF ?_
  | (refine brS ?_ ?_ <;> intro hc <;> (try simp only [bls] at hc) <;> (try simp only [hc, bls]))
  | intro _ | refine And.intro ?_ ?_)
              all_goals first | omega | (unfold bigLen; omega) | exact ⟨_, _, ⟨rfl, rfl⟩, rfl⟩ | exact ⟨_, rfl⟩ | (rename_i hy; simp only [List.mem_singleton] at hy; subst hy; rfl) | with_reducible rfl | skip
end Go.Rad
/- Trees as sets of texts: a place is an end just if the text between is one of the tree. -/
namespace Go.Rad
open Go Fo
abbrev Lan := List Nat → Prop
/-- A text's bytes from a place to another. -/
def subW (w : ByteArray) (i k : Nat) : List Nat := ((w.data.toList.map UInt8.toNat).drop i).take (k - i)
theorem bytes_len (w : ByteArray) : (w.data.toList.map UInt8.toNat).length = w.size := by rw [List.length_map, Array.length_toList]; rfl
theorem subW_len {w : ByteArray} {i k : Nat} (h : i ≤ k) (hk : k ≤ w.size) : (subW w i k).length = k - i := by
  have := bytes_len w
  simp only [subW, List.length_take, List.length_drop]
  omega
theorem subW_nil (w : ByteArray) (i : Nat) : subW w i i = [] := by simp [subW]
theorem subW_app {w : ByteArray} {i j k : Nat} (h1 : i ≤ j) (h2 : j ≤ k) : subW w i k = subW w i j ++ subW w j k := by
  unfold subW
  rw [show k - i = (j - i) + (k - j) by omega, List.take_add, List.drop_drop, show i + (j - i) = j by omega]
theorem subW_cut {w : ByteArray} {i k : Nat} {a b : List Nat} (h : i ≤ k) (hk : k ≤ w.size) (e : subW w i k = a ++ b) : ∃ j, i ≤ j ∧ j ≤ k ∧ a = subW w i j ∧ b = subW w j k := by
  have hl := subW_len h hk
  rw [e, List.length_append] at hl
  have e2 := subW_app (w := w) (show i ≤ i + a.length by omega) (show i + a.length ≤ k by omega)
  rw [e] at e2
  have hl2 := subW_len (w := w) (show i ≤ i + a.length by omega) (show i + a.length ≤ w.size by omega)
  obtain ⟨h1, h2⟩ := List.append_inj e2 (by omega)
  exact ⟨i + a.length, by omega, by omega, h1, h2⟩
theorem byteAt_get {w : ByteArray} {i : Nat} (h : i < w.size) : (w.data.toList.map UInt8.toNat)[i]? = some (byteAt w i) := by
  have h' : i < w.data.toList.length := by rw [Array.length_toList]; exact h
  rw [List.getElem?_map, byteAt, List.getElem?_eq_getElem h']
  rfl
theorem subW_one {w : ByteArray} {i : Nat} (h : i < w.size) : subW w i (i + 1) = [byteAt w i] := by
  have hb := byteAt_get h
  obtain ⟨h1, h2⟩ := List.getElem?_eq_some_iff.1 hb
  rw [subW, show i + 1 - i = 1 by omega, List.drop_eq_getElem_cons h1, List.take_succ_cons, List.take_zero, h2]

def catW (A B : Lan) : Lan := fun u => ∃ a b, u = a ++ b ∧ A a ∧ B b
def epsW : Lan := fun u => u = []
def powW (A : Lan) : Nat → Lan
  | 0 => epsW
  | n + 1 => catW A (powW A n)
def rowW : List Lan → Lan
  | [] => epsW
  | A :: l => catW A (rowW l)
def repW (lo hi : Int) (A : Lan) : Lan := fun u => ∃ k : Nat, lo.toNat ≤ k ∧ (hi = -1 ∨ (k : Int) ≤ hi) ∧ powW A k u
def lanNode (b : Lb) (ls : List Lan) : Lan := fun u =>
  if b.op = 2 then ∃ c, u = [c] ∧ hasI b.s c = true
  else if b.op = 3 then rowW ls u
  else if b.op = 4 then ∃ A ∈ ls, A u
  else if b.op = 5 then repW b.lo b.hi (ls.headD epsW) u
  else u = []
def lan : Fo → List Lan
  | .nil => []
  | .node b k r => lanNode b (lan k) :: lan r
theorem lan_len (f : Fo) : (lan f).length = f.deg := by
  induction f with
  | nil => rfl
  | node b k r _ ih => simp only [lan, List.length_cons, ih, deg]
theorem lan_app (f g : Fo) : lan (f.app g) = lan f ++ lan g := by
  induction f with
  | nil => rfl
  | node b k r _ ih => simp only [app, lan, ih, List.cons_append]

/-- What a function of places tells are the ends of a set's texts. -/
structure Tells (w : ByteArray) (g : List Bool → List Bool) (A : Lan) : Prop where
  len : ∀ s, s.length = w.size + 1 → (g s).length = w.size + 1
  iff : ∀ s, s.length = w.size + 1 → ∀ k, (g s).getD k false = true ↔ k ≤ w.size ∧ ∃ i, i ≤ k ∧ s.getD i false = true ∧ A (subW w i k)
theorem getD_lt {s : List Bool} {i : Nat} (h : s.getD i false = true) : i < s.length := by
  rcases Nat.lt_or_ge i s.length with h1 | h1
  · exact h1
  · simp [List.getD_eq_getElem?_getD, List.getElem?_eq_none h1] at h
section
variable {w : ByteArray}
theorem Tells.congr {f g : List Bool → List Bool} {A B : Lan} (h : Tells w f A) (e : ∀ s, s.length = w.size + 1 → f s = g s) (hab : ∀ u, A u ↔ B u) : Tells w g B :=
  ⟨fun s hs => by rw [← e s hs]; exact h.len s hs, fun s hs k => by rw [← e s hs, h.iff s hs]; simp only [hab]⟩
theorem Tells.eps : Tells w id epsW := ⟨fun _ h => h, fun s hs k => by
  constructor
  · intro h
    have : k < s.length := getD_lt h
    exact ⟨by omega, k, Nat.le_refl _, h, subW_nil w k⟩
  · rintro ⟨h1, i, h2, h3, h4⟩
    have := subW_len (w := w) h2 h1
    rw [show subW w i k = [] from h4] at this
    have : i = k := by simp at this; omega
    subst this; exact h3⟩
theorem Tells.one {s : ISet} : Tells w (oneB s w) fun u => ∃ c, u = [c] ∧ hasI s c = true := by
  refine ⟨fun fr _ => by simp [oneB], fun fr hf k => ?_⟩
  cases k with
  | zero =>
    simp only [oneB, List.getD_cons_zero, Bool.false_eq_true, false_iff]
    rintro ⟨_, i, h2, _, c, h4, _⟩
    have := subW_len (w := w) h2 (by omega)
    rw [h4] at this
    simp at this
  | succ k =>
    have hone : (oneB s w fr).getD (k + 1) false = (decide (k < w.size) && hit s w fr k) := by
      simp only [oneB, List.getD_eq_getElem?_getD, List.getElem?_cons_succ, List.getElem?_map]
      by_cases h : k < w.size <;> simp [h]
    rw [hone, hit]
    simp only [Bool.and_eq_true, decide_eq_true_eq]
    constructor
    · rintro ⟨h1, h2, h3⟩
      exact ⟨by omega, k, by omega, h2, _, subW_one h1, h3⟩
    · rintro ⟨h1, i, h2, h3, c, h4, h5⟩
      have := subW_len (w := w) h2 (by omega)
      rw [h4] at this
      simp only [List.length_cons, List.length_nil] at this
      have hi : i = k := by omega
      subst hi
      rw [subW_one (by omega)] at h4
      simp only [List.cons.injEq, and_true] at h4
      exact ⟨by omega, h3, by rw [h4]; exact h5⟩
theorem Tells.comp {f g : List Bool → List Bool} {A B : Lan} (hf : Tells w f A) (hg : Tells w g B) : Tells w (fun s => g (f s)) (catW A B) := by
  refine ⟨fun s h => hg.len _ (hf.len s h), fun s hs k => ?_⟩
  rw [hg.iff _ (hf.len s hs)]
  constructor
  · rintro ⟨h1, j, h2, h3, h4⟩
    obtain ⟨_, i, h6, h7, h8⟩ := (hf.iff s hs j).1 h3
    exact ⟨h1, i, by omega, h7, _, _, subW_app h6 h2, h8, h4⟩
  · rintro ⟨h1, i, h2, h3, a, b, h4, h5, h6⟩
    obtain ⟨j, h7, h8, rfl, rfl⟩ := subW_cut h2 h1 h4
    exact ⟨h1, j, h8, (hf.iff s hs j).2 ⟨by omega, i, h7, h3, h5⟩, h6⟩
theorem Tells.or {f g : List Bool → List Bool} {A B : Lan} (hf : Tells w f A) (hg : Tells w g B) : Tells w (fun s => orB (f s) (g s)) fun u => A u ∨ B u := by
  refine ⟨fun s h => orB_len (hf.len s h) (hg.len s h), fun s hs k => ?_⟩
  rw [orB_get (hf.len s hs) (hg.len s hs), Bool.or_eq_true, hf.iff s hs, hg.iff s hs]
  constructor
  · rintro (⟨h1, i, h2, h3, h4⟩ | ⟨h1, i, h2, h3, h4⟩)
    · exact ⟨h1, i, h2, h3, .inl h4⟩
    · exact ⟨h1, i, h2, h3, .inr h4⟩
  · rintro ⟨h1, i, h2, h3, h4 | h4⟩
    · exact .inl ⟨h1, i, h2, h3, h4⟩
    · exact .inr ⟨h1, i, h2, h3, h4⟩
/-- Functions and sets, one by one. -/
def tellsL (w : ByteArray) : List (List Bool → List Bool) → List Lan → Prop
  | [], [] => True
  | g :: gs, A :: l => Tells w g A ∧ tellsL w gs l
  | _, _ => False
theorem Tells.row : ∀ {gs : List (List Bool → List Bool)} {l : List Lan}, tellsL w gs l → Tells w (fun s => gs.foldl (fun s f => f s) s) (rowW l)
  | [], [], _ => Tells.eps
  | _ :: _, _ :: _, ⟨h1, h2⟩ => h1.comp (Tells.row h2)
theorem Tells.alt : ∀ {gs : List (List Bool → List Bool)} {l : List Lan} {o : List Bool → List Bool} {B : Lan}, Tells w o B → tellsL w gs l → Tells w (fun s => gs.foldl (fun o f => orB o (f s)) (o s)) fun u => B u ∨ ∃ A ∈ l, A u
  | [], [], o, B, ho, _ => ho.congr (fun _ _ => rfl) fun u => by simp
  | g :: gs, A :: l, o, B, ho, ⟨h1, h2⟩ => (Tells.alt (o := fun s => orB (o s) (g s)) (ho.or h1) h2).congr (fun _ _ => rfl) fun u => by simp [or_assoc]
theorem Tells.none : Tells w (fun _ => falses (w.size + 1)) fun _ => False :=
  ⟨fun _ _ => falses_len _, fun s _ k => by rw [falses_get]; simp⟩
theorem Tells.pow {g : List Bool → List Bool} {A : Lan} (hg : Tells w g A) : ∀ n, Tells w (itB g n) (powW A n)
  | 0 => Tells.eps
  | n + 1 => hg.comp (Tells.pow hg n)
theorem Tells.upto {g : List Bool → List Bool} {A : Lan} (hg : Tells w g A) : ∀ n, Tells w (uB g n) fun u => ∃ k, k ≤ n ∧ powW A k u
  | 0 => Tells.eps.congr (fun _ _ => rfl) fun u => ⟨fun h => ⟨0, Nat.le_refl _, h⟩, fun ⟨k, h, h2⟩ => by
      have : k = 0 := by omega
      subst this; exact h2⟩
  | n + 1 => (Tells.eps.or (hg.comp (Tells.upto hg n))).congr (fun _ _ => rfl) fun u => by
      constructor
      · rintro (h | ⟨a, b, rfl, h1, k, h2, h3⟩)
        · exact ⟨0, Nat.zero_le _, h⟩
        · exact ⟨k + 1, by omega, a, b, rfl, h1, h3⟩
      · rintro ⟨k, h, h2⟩
        cases k with
        | zero => exact .inl h2
        | succ k =>
          obtain ⟨a, b, rfl, h3, h4⟩ := h2
          exact .inr ⟨a, b, rfl, h3, k, by omega, h4⟩
theorem pow_add {A : Lan} : ∀ (m n : Nat) (u : List Nat), powW A (m + n) u ↔ catW (powW A m) (powW A n) u
  | 0, n, u => by
    rw [Nat.zero_add]
    exact ⟨fun h => ⟨[], u, rfl, rfl, h⟩, fun ⟨a, b, h1, h2, h3⟩ => by rw [show a = [] from h2] at h1; rw [h1]; exact h3⟩
  | m + 1, n, u => by
    rw [show m + 1 + n = (m + n) + 1 by omega]
    constructor
    · rintro ⟨a, b, rfl, h1, h2⟩
      obtain ⟨c, d, rfl, h3, h4⟩ := (pow_add m n b).1 h2
      exact ⟨a ++ c, d, by simp, ⟨a, c, rfl, h1, h3⟩, h4⟩
    · rintro ⟨_, d, rfl, ⟨a, c, rfl, h1, h3⟩, h4⟩
      exact ⟨a, c ++ d, by simp, h1, (pow_add m n _).2 ⟨c, d, rfl, h3, h4⟩⟩
theorem Tells.rep {g : List Bool → List Bool} {A : Lan} (hg : Tells w g A) (ha : Add (w.size + 1) g) {lo hi : Int} (hl : 0 ≤ lo) (hh : hi = -1 ∨ lo ≤ hi) : Tells w (repB w lo hi g) (repW lo hi A) := by
  by_cases h : hi = -1
  · have h0 := (hg.pow lo.toNat)
    refine ⟨fun s hs => (Add.rep ha).len s hs, fun s hs k => ?_⟩
    have key : ∀ M, w.size + 1 ≤ M → uB g M (itB g lo.toNat s) = repB w lo hi g s := fun M hM => by
      rw [repB, if_pos h]
      have hl := h0.len s hs
      have := u_stop ha hl (u_full ha hl) (M - (w.size + 1))
      rwa [show w.size + 1 + (M - (w.size + 1)) = M by omega] at this
    constructor
    · intro h1
      rw [← key _ (Nat.le_refl _)] at h1
      obtain ⟨h2, i, h3, h4, a, b, h5, h6, m, _, h8⟩ := ((h0.comp (hg.upto (w.size + 1))).iff s hs k).1 h1
      exact ⟨h2, i, h3, h4, lo.toNat + m, by omega, .inl h, (pow_add _ _ _).2 ⟨a, b, h5, h6, h8⟩⟩
    · rintro ⟨h2, i, h3, h4, m, h5, _, h7⟩
      obtain ⟨d, rfl⟩ : ∃ d, m = lo.toNat + d := ⟨m - lo.toNat, by omega⟩
      obtain ⟨a, b, h8, h9, h10⟩ := (pow_add _ _ _).1 h7
      rw [← key (w.size + 1 + d) (by omega)]
      exact ((h0.comp (hg.upto (w.size + 1 + d))).iff s hs k).2 ⟨h2, i, h3, h4, a, b, h8, h9, d, by omega, h10⟩
  · have e : ∀ s, s.length = w.size + 1 → uB g (hi - lo).toNat (itB g lo.toNat s) = repB w lo hi g s := fun s _ => by rw [repB, if_neg h]
    refine ((hg.pow lo.toNat).comp (hg.upto (hi - lo).toNat)).congr e fun u => ?_
    constructor
    · rintro ⟨a, b, h5, h6, m, h7, h8⟩
      exact ⟨lo.toNat + m, by omega, .inr (by omega), (pow_add _ _ _).2 ⟨a, b, h5, h6, h8⟩⟩
    · rintro ⟨m, h5, h6, h7⟩
      obtain ⟨d, rfl⟩ : ∃ d, m = lo.toNat + d := ⟨m - lo.toNat, by omega⟩
      obtain ⟨a, b, h8, h9, h10⟩ := (pow_add _ _ _).1 h7
      exact ⟨a, b, h8, h9, d, by omega, h10⟩
theorem Tells.node {b : Lb} {gs : List (List Bool → List Bool)} {l : List Lan} (h : tellsL w gs l) (ha : ∀ g ∈ gs, Add (w.size + 1) g) (hd : gs ≠ [] ∨ b.op ≠ 5) (hb : b.op = 5 → 0 ≤ b.lo ∧ (b.hi = -1 ∨ b.lo ≤ b.hi)) : Tells w (semNode w b gs) (lanNode b l) := by
  by_cases h2 : b.op = 2
  · exact Tells.one.congr (fun s _ => by rw [semNode, if_pos h2]) fun u => by rw [lanNode, if_pos h2]
  by_cases h3 : b.op = 3
  · exact (Tells.row h).congr (fun s _ => by rw [semNode, if_neg h2, if_pos h3]) fun u => by rw [lanNode, if_neg h2, if_pos h3]
  by_cases h4 : b.op = 4
  · exact (Tells.alt Tells.none h).congr (fun s _ => by rw [semNode, if_neg h2, if_neg h3, if_pos h4]) fun u => by rw [lanNode, if_neg h2, if_neg h3, if_pos h4]; simp
  by_cases h5 : b.op = 5
  · match gs, l, h with
    | [], _, _ => rcases hd with hd | hd; exact absurd rfl hd; exact absurd h5 hd
    | g :: gs, A :: l, ⟨h6, _⟩ =>
      obtain ⟨h7, h8⟩ := hb h5
      exact (h6.rep (ha g (by simp)) h7 h8).congr (fun s _ => by rw [semNode, if_neg h2, if_neg h3, if_neg h4, if_pos h5]; rfl) fun u => by rw [lanNode, if_neg h2, if_neg h3, if_neg h4, if_pos h5]; rfl
  · exact Tells.eps.congr (fun s _ => by rw [semNode, if_neg h2, if_neg h3, if_neg h4, if_neg h5]; rfl) fun u => by rw [lanNode, if_neg h2, if_neg h3, if_neg h4, if_neg h5]; rfl
theorem sem_tells : ∀ f : Fo, f.shapeF = true → tellsL w (sem w f) (lan f)
  | .nil, _ => trivial
  | .node b k r, h => by
    simp only [Fo.shapeF, Fo.all, Bool.and_eq_true] at h
    refine ⟨Tells.node (sem_tells k h.1.2) (sem_add w k) ?_ fun h5 => ?_, sem_tells r h.2⟩
    · by_cases h5 : b.op = 5
      · refine .inl fun e => ?_
        have := (shapeL_rep h.1.1 h5).1
        have h7 := sem_len w k
        rw [e] at h7
        simp at h7; omega
      · exact .inr h5
    · obtain ⟨_, _, _, q4, q5, q6⟩ := shapeL_rep h.1.1 h5
      exact ⟨q4, by omega⟩
end
end Go.Rad
/- What a call tells, said otherwise: an own row that it tells is given away. -/
namespace Go.Rad
open Go
theorem ACall.post {P : Program} {f : Nat} {args : List AVal} {sto : Sto} {R R' : AVal → Sto → Prop} (h : ACall P f args sto R)
    (hp : ∀ (G : Gh) (w : World) (r : AVal) (s : Sto) (v : Value), WOk G w → StoOk G w s → Rep G true r v → R r s → ∃ G' r' s', Ext G G' ∧ WOk G' w ∧ StoOk G' w s' ∧ Rep G' true r' v ∧ R' r' s') : ACall P f args sto R' := by
  refine ⟨h.able, fun G w cargs a b c => (h.calls G w cargs a b c).mono fun _ _ p => ?_⟩
  obtain ⟨G', cr, r, sto', a, b, c, d, e', f⟩ := p
  obtain ⟨G2, r2, s2, x1, x2, x3, x4, x5⟩ := hp _ _ _ _ _ c d e' f
  exact ⟨G2, cr, r2, s2, a, b.trans x1, x2, x3, x4, x5⟩
theorem ACall.frzRes {P : Program} {f : Nat} {args : List AVal} {sto : Sto} {R R' : AVal → Sto → Prop} (h : ACall P f args sto R)
    (hp : ∀ r s, R r s → (∃ id g esz l, r = .osl id g 0 l.length ∧ sget s id = some (g, .row esz l) ∧ R' (.sl true false l) (sdel s id)) ∨ (∃ q full l, r = .sl q full l ∧ R' (.sl q false l) s) ∨ R' r s) : ACall P f args sto R' := by
  refine h.post fun G w r s v hw hs hr hR => ?_
  rcases hp r s hR with ⟨id, g, esz, l, rfl, hg, h'⟩ | ⟨q, full, l, rfl, h'⟩ | h'
  · obtain ⟨G', hext, hw', hs', hR⟩ := sto_freeze hw hs hg
    have := hR 0 l.length v (by omega) hr
    simp only [List.drop_zero, List.take_length] at this
    exact ⟨G', _, _, hext, hw', hs', this, h'⟩
  · refine ⟨G, _, s, .refl G, hw, hs, ?_, h'⟩
    cases hr with
    | slnil => exact .slnil (fun h => by cases h)
    | sl a _ b c d e f g h => exact .sl a (fun h => by cases h) b c d e f g h
  · exact ⟨G, r, s, .refl G, hw, hs, hr, h'⟩
/-- The numbers within an argument that is a list are what their kinds hold. -/
theorem ACall.fitSl {P : Program} {f : Nat} {args : List AVal} {sto : Sto} {R : AVal → Sto → Prop} (i : Nat) {q full : Bool} {l : List (List AVal)} (able : Callable P f) (hi : args[i]? = some (.sl q full l))
    (h : (∀ (m j : Nat) (x : List AVal) (k : IntKind) (n : Int), l[m]? = some x → x[j]? = some (.int k n) → fits k n) → ACall P f args sto R) : ACall P f args sto R := by
  refine ⟨able, fun G w cargs hw hs ha => ?_⟩
  have hr := ha.2 i _ hi
  generalize cargs.getD i undef = v at hr
  refine (h fun m j x k n hm hj => ?_).calls G w cargs hw hs ha
  cases hr with
  | slnil => simp at hm
  | sl _ _ _ _ _ _ _ _ hc =>
    have := hc m j x _ hm hj
    revert this
    generalize Array.getD _ _ undef = u
    intro this
    cases this with
    | int hf => exact hf
end Go.Rad
/- Contracts: lang: Ends, Is, Longest. -/
namespace Go.Rad
open Go Go.Proofs
set_option linter.all false
set_option maxRecDepth 20000
set_option maxHeartbeats 4000000

theorem cloneG_c (q f : Bool) (l : List Int) (hl : l.length ≤ 1000000) : ACall Try.prog 30 [.sl q f (ints l)] [] fun r s => r = .sl true false (ints l) ∧ s = [] := by
  refine (clone_c q f l hl).frzRes ?_
  rintro r s (⟨rfl, rfl, rfl⟩ | ⟨h, rfl, rfl⟩)
  · exact .inr (.inl ⟨_, _, _, rfl, rfl, rfl⟩)
  · exact .inl ⟨5, h, 1, ints l, by simp, rfl, rfl, rfl⟩
theorem lplain_c (q f : Bool) (l : List Node) (hl : ∀ n ∈ l, n.name.size ≤ maxLen ∧ n.l.length ≤ maxLen) : ACall Try.prog 29 [.sl q f (nodes l)] [] fun r s => r = .bool (plainS l) ∧ s = [] := by
  have he := expand_c q f true true l [] hl (by simp) (fun d hd => by simp at hd)
  rw [← plain_iff]
  generalize expandS l [] = x at he
  refine ACall.enter Try.func29 rfl (by kernel_rfl) (Nat.le_of_ble_eq_true rfl) ?_; simp only [initTm, Nat.reduceAdd]
  repeat' (first
  | refine gSq ?_ | refine gSk ?_ | refine gBl ?_ | refine gIb ?_ | refine gEx rfl ?_
  | ((first
  | (refine gRg [] [0, 2, 4] ?_; intro K hK)
  | (refine ACall.use [] [] rfl he rfl rfl rfl ?_; rintro _ _ ⟨⟨fl, rfl⟩, rfl⟩; refine ⟨.inl rfl, rfl, ?_⟩; simp only [bk, bk2, bk1, bkS, bkO, idOf, delAll, go_sem, simprocAttr])
  | (refine gd_split ?_ ?_ <;> intro hb <;> (try simp only [bls] at hb) <;> (try simp only [hb]))
  | refine gRt [] [.tmp 2] rfl ?_ | refine gDn [] [.tmp 2] rfl ?_) <;> (try simp only [go_sem, simprocAttr]))
  | (refine hK _ _ ?_; clear hK K; simp only [go_sem, simprocAttr])
  | refine gCd (by simp only [go_sem, simprocAttr]; rfl) rfl ?_
  | refine brT ?_ | refine brF ?_
  | (refine brS ?_ ?_ <;> intro hc <;> (try simp only [bls] at hc) <;> (try simp only [hc, bls]))
  | intro _ | refine And.intro ?_ ?_)
  all_goals first | omega | (unfold bigLen; omega) | exact ⟨_, _, ⟨rfl, rfl⟩, rfl⟩ | exact ⟨_, rfl⟩ | (rename_i hy; simp only [List.mem_singleton] at hy; subst hy; rfl) | with_reducible rfl | skip
theorem point_get (n i k : Nat) : (pointB n i).getD k false = (decide (k = i) && decide (i < n)) := by
  simp only [pointB, List.getD_eq_getElem?_getD, List.getElem?_set, falses_len]
  by_cases h : i = k
  · subst h
    by_cases h2 : i < n <;> simp [h2]
  · have h3 := falses_get n k
    rw [List.getD_eq_getElem?_getD] at h3
    have h4 : ¬ k = i := fun e => h e.symm
    simp [h, h3, h4]
theorem point_pos {n i : Nat} (h : i < n) : posS (pointB n i) = [(i : Int)] := by
  refine rise_ext (posS_rise _) (by simp) fun x => ?_
  rw [posS_mem]
  simp only [point_get, Bool.and_eq_true, decide_eq_true_eq, List.mem_singleton]
  constructor
  · rintro ⟨k, rfl, rfl, _⟩; rfl
  · rintro rfl; exact ⟨i, rfl, rfl, h⟩
theorem endsTop_c {w : ByteArray} (hw : w.size ≤ 900000) (f : Bool) (fo : Fo) (hd : fo.deg = 1) (hsh : fo.shapeF = true) (hz : fo.size ≤ 1024) (h6 : no6 fo = true) (hss : ∀ n ∈ fo.lay 0, ∀ k, 0 ≤ n.s.word k) (fr : Nat) (hfr : fr ≤ w.size) :
    ACall Try.prog 13 [.sl true f (nodes (fo.lay 0)), .str w, .int .i64 fr] [] fun r s => r = .sl true false (ints (posS (semT w fo (pointB (w.size + 1) fr)))) ∧ s = [] := by
  have hp : plainS (fo.lay 0) = true := (plain_fo _).2 ⟨fo, hd, rfl, hsh, hz, h6⟩
  obtain ⟨n1, n2⟩ := plainS_nd hp
  have hpl := lplain_c true f (fo.lay 0) n1
  rw [hp] at hpl
  have hsub := Fo.sub_lay hd
  have hsl := sem_len w fo
  rw [hd] at hsl
  obtain ⟨g, hg⟩ : ∃ g, sem w fo = [g] := List.length_eq_one_iff.1 hsl
  have hcall := endsL_c (q := true) (f := f) (show w.size ≤ 1000000 by omega) (by omega) hss fo _ hsub hsh (by omega) 0 _ g rfl (by rw [hg]; rfl) (pointB (w.size + 1) fr) (pointB_len _ _)
  have hel := semT_len hd (pointB_len (w.size + 1) fr)
  have hsg : semT w fo (pointB (w.size + 1) fr) = g (pointB (w.size + 1) fr) := by rw [semT, hg]; rfl
  rw [← hsg, point_pos (by omega)] at hcall
  have hcall : ∀ e, ACall _ _ [_, _, .sl true e [[.int .i64 fr]]] _ _ := fun e => hcall.unfull
  have hpe := posS_len (semT w fo (pointB (w.size + 1) fr))
  rw [hel] at hpe
  generalize posS (semT w fo (pointB (w.size + 1) fr)) = E at hcall hpe
  have hcl := cloneG_c true false E (by omega)
  have hln : (fo.lay 0).length = fo.size := Fo.lay_len _ _
  have hsp := Fo.size_pos hd
  rw [← hln] at hcall
  generalize fo.lay 0 = l at hpl hcall hln
  clear hsub hg hsg hp n1 n2 hsl hsh h6 hss hel
  have e1 : ¬ (fr : Int) < 0 := by omega
  have e2 : ¬ (w.size : Int) < fr := by omega
  have e8 : (1 : Int) ≤ l.length := by omega
  refine ACall.enter Try.func13 rfl (by kernel_rfl) (Nat.le_of_ble_eq_true rfl) ?_; simp only [initTm, Nat.reduceAdd]
  repeat' (first
  | refine gSq ?_ | refine gSk ?_ | refine gBl ?_ | refine gIb ?_ | refine gEx rfl ?_
  | ((first
  | (refine gRg [27] [0, 1, 2, 6, 19] ?_; intro K hK)
  | refine cAl (hpl) rfl rfl rfl ?_
  | refine cAl (hcall _) rfl rfl rfl ?_
  | refine cAl (hcl) rfl rfl rfl ?_
  | (refine gd_split ?_ ?_ <;> intro hb <;> (try simp only [bls] at hb) <;> (try simp only [hb]))
  | refine gRt [] [.tmp 6] rfl ?_ | refine gDn [] [.tmp 6] rfl ?_) <;> (try simp only [go_sem, simprocAttr, e1, e2, e8]))
  | (refine hK _ _ ?_; clear hK K; simp only [go_sem, simprocAttr])
  | refine gCd (by simp only [go_sem, simprocAttr]; rfl) rfl ?_
  | refine brT ?_ | refine brF ?_
  | (refine brS ?_ ?_ <;> intro hc <;> (try simp only [bls] at hc) <;> (try simp only [hc, bls]))
  | intro _ | refine And.intro ?_ ?_)
  all_goals first | omega | (unfold bigLen; omega) | exact ⟨_, _, ⟨rfl, rfl⟩, rfl⟩ | exact ⟨_, rfl⟩ | (rename_i hy; simp only [List.mem_singleton] at hy; subst hy; rfl) | with_reducible rfl | skip
theorem endsNo_c (f : Bool) (l : List Node) (w : ByteArray) (fr : Int) (hl : ∀ n ∈ l, n.name.size ≤ maxLen ∧ n.l.length ≤ maxLen) (hw : w.size ≤ maxLen) (hno : fr < 0 ∨ (w.size : Int) < fr ∨ plainS l = false) :
    ACall Try.prog 13 [.sl true f (nodes l), .str w, .int .i64 fr] [] fun r s => r = .sl true true [] ∧ s = [] := by
  have hpl := lplain_c true f l hl
  by_cases e1 : fr < 0
  · refine ACall.enter Try.func13 rfl (by kernel_rfl) (Nat.le_of_ble_eq_true rfl) ?_; simp only [initTm, Nat.reduceAdd]
    repeat' (first
  | refine gSq ?_ | refine gSk ?_ | refine gBl ?_ | refine gIb ?_ | refine gEx rfl ?_
  | ((first
  | (refine gRg [] [0, 1, 2, 6, 19] ?_; intro K hK)
  | (refine gd_split ?_ ?_ <;> intro hb <;> (try simp only [bls] at hb) <;> (try simp only [hb]))
  | refine gRt [] [.tmp 6] rfl ?_ | refine gDn [] [.tmp 6] rfl ?_) <;> (try simp only [go_sem, simprocAttr, e1]))
  | (refine hK _ _ ?_; clear hK K; simp only [go_sem, simprocAttr])
  | refine gCd (by simp only [go_sem, simprocAttr]; rfl) rfl ?_
  | refine brT ?_ | refine brF ?_
  | (refine brS ?_ ?_ <;> intro hc <;> (try simp only [bls] at hc) <;> (try simp only [hc, bls]))
  | intro _ | refine And.intro ?_ ?_)
    all_goals first | omega | (unfold bigLen; omega) | exact ⟨_, _, ⟨rfl, rfl⟩, rfl⟩ | exact ⟨_, rfl⟩ | (rename_i hy; simp only [List.mem_singleton] at hy; subst hy; rfl) | with_reducible rfl | skip
  · by_cases e2 : (w.size : Int) < fr
    · refine ACall.enter Try.func13 rfl (by kernel_rfl) (Nat.le_of_ble_eq_true rfl) ?_; simp only [initTm, Nat.reduceAdd]
      repeat' (first
  | refine gSq ?_ | refine gSk ?_ | refine gBl ?_ | refine gIb ?_ | refine gEx rfl ?_
  | ((first
  | (refine gRg [] [0, 1, 2, 6, 19] ?_; intro K hK)
  | (refine gd_split ?_ ?_ <;> intro hb <;> (try simp only [bls] at hb) <;> (try simp only [hb]))
  | refine gRt [] [.tmp 6] rfl ?_ | refine gDn [] [.tmp 6] rfl ?_) <;> (try simp only [go_sem, simprocAttr, e1, e2]))
  | (refine hK _ _ ?_; clear hK K; simp only [go_sem, simprocAttr])
  | refine gCd (by simp only [go_sem, simprocAttr]; rfl) rfl ?_
  | refine brT ?_ | refine brF ?_
  | (refine brS ?_ ?_ <;> intro hc <;> (try simp only [bls] at hc) <;> (try simp only [hc, bls]))
  | intro _ | refine And.intro ?_ ?_)
      all_goals first | omega | (unfold bigLen; omega) | exact ⟨_, _, ⟨rfl, rfl⟩, rfl⟩ | exact ⟨_, rfl⟩ | (rename_i hy; simp only [List.mem_singleton] at hy; subst hy; rfl) | with_reducible rfl | skip
    · rw [show plainS l = false by rcases hno with h | h | h; exact absurd h e1; exact absurd h e2; exact h] at hpl
      refine ACall.enter Try.func13 rfl (by kernel_rfl) (Nat.le_of_ble_eq_true rfl) ?_; simp only [initTm, Nat.reduceAdd]
      repeat' (first
  | refine gSq ?_ | refine gSk ?_ | refine gBl ?_ | refine gIb ?_ | refine gEx rfl ?_
  | ((first
  | (refine gRg [] [0, 1, 2, 6, 19] ?_; intro K hK)
  | refine cAl (hpl) rfl rfl rfl ?_
  | (refine gd_split ?_ ?_ <;> intro hb <;> (try simp only [bls] at hb) <;> (try simp only [hb]))
  | refine gRt [] [.tmp 6] rfl ?_ | refine gDn [] [.tmp 6] rfl ?_) <;> (try simp only [go_sem, simprocAttr, e1, e2]))
  | (refine hK _ _ ?_; clear hK K; simp only [go_sem, simprocAttr])
  | refine gCd (by simp only [go_sem, simprocAttr]; rfl) rfl ?_
  | refine brT ?_ | refine brF ?_
  | (refine brS ?_ ?_ <;> intro hc <;> (try simp only [bls] at hc) <;> (try simp only [hc, bls]))
  | intro _ | refine And.intro ?_ ?_)
      all_goals first | omega | (unfold bigLen; omega) | exact ⟨_, _, ⟨rfl, rfl⟩, rfl⟩ | exact ⟨_, rfl⟩ | (rename_i hy; simp only [List.mem_singleton] at hy; subst hy; rfl) | with_reducible rfl | skip
theorem ends7No_c (f : Bool) (l : List Node) (w : ByteArray) (fr : Int) (hll : l.length ≤ maxLen) (hl : ∀ n ∈ l, n.name.size ≤ maxLen ∧ n.l.length ≤ maxLen) (hw : w.size ≤ maxLen) (hno : fr < 0 ∨ (w.size : Int) < fr ∨ plainS l = false) :
    ACall Try.prog 22 [.sl true f (nodes l), .str w, .int .i64 fr] [] fun r s => r = .sl true true [] ∧ s = [] := by
  have hpl := plain_c f l hll (fun n h => (hl n h).symm)
  cases hp : plainS l
  · rw [hp] at hpl
    refine ACall.enter Try.func22 rfl (by kernel_rfl) (Nat.le_of_ble_eq_true rfl) ?_; simp only [initTm, Nat.reduceAdd]
    repeat' (first
  | refine gSq ?_ | refine gSk ?_ | refine gBl ?_ | refine gIb ?_ | refine gEx rfl ?_
  | ((first
  | (refine gRg [] [0, 1, 2, 6, 7, 8, 9, 10, 23, 39, 45] ?_; intro K hK)
  | refine cAl (hpl) rfl rfl rfl ?_
  | (refine gd_split ?_ ?_ <;> intro hb <;> (try simp only [bls] at hb) <;> (try simp only [hb]))
  | refine gRt [] [.tmp 6] rfl ?_ | refine gDn [] [.tmp 6] rfl ?_) <;> (try simp only [go_sem, simprocAttr]))
  | (refine hK _ _ ?_; clear hK K; simp only [go_sem, simprocAttr])
  | refine gCd (by simp only [go_sem, simprocAttr]; rfl) rfl ?_
  | refine brT ?_ | refine brF ?_
  | (refine brS ?_ ?_ <;> intro hc <;> (try simp only [bls] at hc) <;> (try simp only [hc, bls]))
  | intro _ | refine And.intro ?_ ?_)
    all_goals first | omega | (unfold bigLen; omega) | exact ⟨_, _, ⟨rfl, rfl⟩, rfl⟩ | exact ⟨_, rfl⟩ | (rename_i hy; simp only [List.mem_singleton] at hy; subst hy; rfl) | with_reducible rfl | skip
  · rw [hp] at hpl
    by_cases e1 : fr < 0
    · refine ACall.enter Try.func22 rfl (by kernel_rfl) (Nat.le_of_ble_eq_true rfl) ?_; simp only [initTm, Nat.reduceAdd]
      repeat' (first
  | refine gSq ?_ | refine gSk ?_ | refine gBl ?_ | refine gIb ?_ | refine gEx rfl ?_
  | ((first
  | (refine gRg [] [0, 1, 2, 6, 7, 8, 9, 10, 23, 39, 45] ?_; intro K hK)
  | refine cAl (hpl) rfl rfl rfl ?_
  | (refine gd_split ?_ ?_ <;> intro hb <;> (try simp only [bls] at hb) <;> (try simp only [hb]))
  | refine gRt [] [.tmp 6] rfl ?_ | refine gDn [] [.tmp 6] rfl ?_) <;> (try simp only [go_sem, simprocAttr, e1]))
  | (refine hK _ _ ?_; clear hK K; simp only [go_sem, simprocAttr])
  | refine gCd (by simp only [go_sem, simprocAttr]; rfl) rfl ?_
  | refine brT ?_ | refine brF ?_
  | (refine brS ?_ ?_ <;> intro hc <;> (try simp only [bls] at hc) <;> (try simp only [hc, bls]))
  | intro _ | refine And.intro ?_ ?_)
      all_goals first | omega | (unfold bigLen; omega) | exact ⟨_, _, ⟨rfl, rfl⟩, rfl⟩ | exact ⟨_, rfl⟩ | (rename_i hy; simp only [List.mem_singleton] at hy; subst hy; rfl) | with_reducible rfl | skip
    · have e2 : (w.size : Int) < fr := by rcases hno with h | h | h; exact absurd h e1; exact h; rw [hp] at h; cases h
      refine ACall.enter Try.func22 rfl (by kernel_rfl) (Nat.le_of_ble_eq_true rfl) ?_; simp only [initTm, Nat.reduceAdd]
      repeat' (first
  | refine gSq ?_ | refine gSk ?_ | refine gBl ?_ | refine gIb ?_ | refine gEx rfl ?_
  | ((first
  | (refine gRg [] [0, 1, 2, 6, 7, 8, 9, 10, 23, 39, 45] ?_; intro K hK)
  | refine cAl (hpl) rfl rfl rfl ?_
  | (refine gd_split ?_ ?_ <;> intro hb <;> (try simp only [bls] at hb) <;> (try simp only [hb]))
  | refine gRt [] [.tmp 6] rfl ?_ | refine gDn [] [.tmp 6] rfl ?_) <;> (try simp only [go_sem, simprocAttr, e1, e2]))
  | (refine hK _ _ ?_; clear hK K; simp only [go_sem, simprocAttr])
  | refine gCd (by simp only [go_sem, simprocAttr]; rfl) rfl ?_
  | refine brT ?_ | refine brF ?_
  | (refine brS ?_ ?_ <;> intro hc <;> (try simp only [bls] at hc) <;> (try simp only [hc, bls]))
  | intro _ | refine And.intro ?_ ?_)
      all_goals first | omega | (unfold bigLen; omega) | exact ⟨_, _, ⟨rfl, rfl⟩, rfl⟩ | exact ⟨_, rfl⟩ | (rename_i hy; simp only [List.mem_singleton] at hy; subst hy; rfl) | with_reducible rfl | skip
end Go.Rad
/- Contracts: Is, Longest, of the program and of the document. -/
namespace Go.Rad
open Go Go.Proofs
set_option linter.all false
set_option maxRecDepth 20000
set_option maxHeartbeats 4000000

def longS (E : List Int) (fr : Int) : Int × Bool := match E.getLast? with
  | none => (0, false)
  | some x => if x ≤ fr then (0, false) else (x, true)
theorem long_nil (fr : Int) : longS [] fr = (0, false) := rfl
theorem long_last {E : List Int} {m : Nat} {x : Int} (hl : E.length = m + 1) (h : E[m]? = some x) (fr : Int) : longS E fr = if x ≤ fr then (0, false) else (x, true) := by
  have : E.getLast? = some x := by rw [List.getLast?_eq_getElem?, hl]; exact h
  rw [longS, this]
theorem last_has {E : List Int} {m : Nat} {x n : Int} (hl : E.length = m + 1) (h : E[m]? = some x) (hs : E.Pairwise (· < ·)) (hn : ∀ y ∈ E, y ≤ n) : E.contains n = decide (x = n) := by
  have hx := List.mem_of_getElem? h
  by_cases e : x = n
  · subst e; rw [decide_eq_true rfl]; simpa using hx
  · rw [decide_eq_false e]
    cases hc : E.contains n with
    | false => rfl
    | true =>
      have hn' : n ∈ E := by simpa using hc
      obtain ⟨i, hi, h1⟩ := List.getElem_of_mem hn'
      obtain ⟨h2, h3⟩ := List.getElem?_eq_some_iff.1 h
      rcases Nat.lt_or_ge i m with h4 | h4
      · have := List.pairwise_iff_getElem.1 hs i m hi h2 h4
        rw [h1, h3] at this
        have := hn x hx
        omega
      · have : i = m := by omega
        subst this
        exact absurd (h3.symm.trans h1) e
section
variable {b f : Bool} {l : List Node} {w : ByteArray} {E : List Int}
theorem longest_c {fr : Int} (hE : ACall Try.prog 13 [.sl true f (nodes l), .str w, .int .i64 fr] [] fun r s => r = .sl true b (ints E) ∧ s = []) (hb : E.length ≤ 1000001) (h : ∀ x ∈ E, fr ≤ x) :
    ACall Try.prog 20 [.sl true f (nodes l), .str w, .int .i64 fr] [] fun r s => r = .tup [.int .i64 (longS E fr).1, .bool (longS E fr).2] ∧ s = [] := by
  cases hl : E.length with
  | zero =>
    have h0 : E = [] := List.length_eq_zero_iff.1 hl
    subst h0
    rw [long_nil]
    refine ACall.enter Try.func20 rfl (by kernel_rfl) (Nat.le_of_ble_eq_true rfl) ?_; simp only [initTm, Nat.reduceAdd]
    repeat' (first
  | refine gSq ?_ | refine gSk ?_ | refine gBl ?_ | refine gIb ?_ | refine gEx rfl ?_
  | ((first
  | (refine gRg [] [0, 1, 2, 6, 7, 8, 25] ?_; intro K hK)
  | refine cAl (hE) rfl rfl rfl ?_
  | (refine gd_split ?_ ?_ <;> intro hb <;> (try simp only [bls] at hb) <;> (try simp only [hb]))
  | refine gRt [] [.tmp 6, .tmp 7] rfl ?_ | refine gDn [] [.tmp 6, .tmp 7] rfl ?_) <;> (try simp only [go_sem, simprocAttr]))
  | (refine hK _ _ ?_; clear hK K; simp only [go_sem, simprocAttr])
  | refine gCd (by simp only [go_sem, simprocAttr]; rfl) rfl ?_
  | refine brT ?_ | refine brF ?_
  | (refine brS ?_ ?_ <;> intro hc <;> (try simp only [bls] at hc) <;> (try simp only [hc, bls]))
  | intro _ | refine And.intro ?_ ?_)
    all_goals first | omega | (unfold bigLen; omega) | exact ⟨_, _, ⟨rfl, rfl⟩, rfl⟩ | exact ⟨_, rfl⟩ | (rename_i hy; simp only [List.mem_singleton] at hy; subst hy; rfl) | with_reducible rfl | skip
  | succ m =>
    have hx : E[m]? = some (E[m]'(by omega)) := List.getElem?_eq_getElem (by omega)
    have hf := h _ (List.getElem_mem (by omega : m < E.length))
    generalize E[m]'(by omega) = x at hx hf
    rw [long_last hl hx]
    have e1 : ¬ (E.length : Int) = 0 := by omega
    have e2 : (E.length : Int) - 1 = (m : Nat) := by omega
    have e3 : (m : Int) < E.length := by omega
    have e4 : (0 : Int) ≤ m := by omega
    by_cases c : x ≤ fr
    · have e5 : x = fr := by omega
      rw [if_pos c]
      refine ACall.enter Try.func20 rfl (by kernel_rfl) (Nat.le_of_ble_eq_true rfl) ?_; simp only [initTm, Nat.reduceAdd]
      repeat' (first
  | refine gSq ?_ | refine gSk ?_ | refine gBl ?_ | refine gIb ?_ | refine gEx rfl ?_
  | ((first
  | (refine gRg [] [0, 1, 2, 6, 7, 8, 25] ?_; intro K hK)
  | refine cAl (hE) rfl rfl rfl ?_
  | (refine gd_split ?_ ?_ <;> intro hb <;> (try simp only [bls] at hb) <;> (try simp only [hb]))
  | refine gRt [] [.tmp 6, .tmp 7] rfl ?_ | refine gDn [] [.tmp 6, .tmp 7] rfl ?_) <;> (try simp only [go_sem, simprocAttr, e1, e2, e3, e4, eq_true e5, hx, Option.some.injEq, forall_eq']))
  | (refine hK _ _ ?_; clear hK K; simp only [go_sem, simprocAttr])
  | refine gCd (by simp only [go_sem, simprocAttr]; rfl) rfl ?_
  | refine brT ?_ | refine brF ?_
  | (refine brS ?_ ?_ <;> intro hc <;> (try simp only [bls] at hc) <;> (try simp only [hc, bls]))
  | intro _ | refine And.intro ?_ ?_)
      all_goals first | omega | (unfold bigLen; omega) | exact ⟨_, _, ⟨rfl, rfl⟩, rfl⟩ | exact ⟨_, rfl⟩ | (rename_i hy; simp only [List.mem_singleton] at hy; subst hy; rfl) | with_reducible rfl | skip
    · have e5 : ¬ x = fr := by omega
      rw [if_neg c]
      refine ACall.enter Try.func20 rfl (by kernel_rfl) (Nat.le_of_ble_eq_true rfl) ?_; simp only [initTm, Nat.reduceAdd]
      repeat' (first
  | refine gSq ?_ | refine gSk ?_ | refine gBl ?_ | refine gIb ?_ | refine gEx rfl ?_
  | ((first
  | (refine gRg [] [0, 1, 2, 6, 7, 8, 25] ?_; intro K hK)
  | refine cAl (hE) rfl rfl rfl ?_
  | (refine gd_split ?_ ?_ <;> intro hb <;> (try simp only [bls] at hb) <;> (try simp only [hb]))
  | refine gRt [] [.tmp 6, .tmp 7] rfl ?_ | refine gDn [] [.tmp 6, .tmp 7] rfl ?_) <;> (try simp only [go_sem, simprocAttr, e1, e2, e3, e4, e5, hx, Option.some.injEq, forall_eq']))
  | (refine hK _ _ ?_; clear hK K; simp only [go_sem, simprocAttr])
  | refine gCd (by simp only [go_sem, simprocAttr]; rfl) rfl ?_
  | refine brT ?_ | refine brF ?_
  | (refine brS ?_ ?_ <;> intro hc <;> (try simp only [bls] at hc) <;> (try simp only [hc, bls]))
  | intro _ | refine And.intro ?_ ?_)
      all_goals first | omega | (unfold bigLen; omega) | exact ⟨_, _, ⟨rfl, rfl⟩, rfl⟩ | exact ⟨_, rfl⟩ | (rename_i hy; simp only [List.mem_singleton] at hy; subst hy; rfl) | with_reducible rfl | skip
theorem longest7uc {fr : Int} (hE : ACall Try.prog 22 [.sl true f (nodes l), .str w, .int .i64 fr] [] fun r s => r = .sl true b (ints E) ∧ s = []) (hb : E.length ≤ 1000001) :
    ACall Try.prog 21 [.sl true f (nodes l), .str w, .int .i64 fr] [] fun r s => r = .tup [.int .i64 (longS E fr).1, .bool (longS E fr).2] ∧ s = [] := by
  cases hl : E.length with
  | zero =>
    have h0 : E = [] := List.length_eq_zero_iff.1 hl
    subst h0
    rw [long_nil]
    refine ACall.enter Try.func21 rfl (by kernel_rfl) (Nat.le_of_ble_eq_true rfl) ?_; simp only [initTm, Nat.reduceAdd]
    repeat' (first
  | refine gSq ?_ | refine gSk ?_ | refine gBl ?_ | refine gIb ?_ | refine gEx rfl ?_
  | ((first
  | (refine gRg [] [0, 1, 2, 6, 7, 8, 25] ?_; intro K hK)
  | refine cAl (hE) rfl rfl rfl ?_
  | (refine gd_split ?_ ?_ <;> intro hb <;> (try simp only [bls] at hb) <;> (try simp only [hb]))
  | refine gRt [] [.tmp 6, .tmp 7] rfl ?_ | refine gDn [] [.tmp 6, .tmp 7] rfl ?_) <;> (try simp only [go_sem, simprocAttr]))
  | (refine hK _ _ ?_; clear hK K; simp only [go_sem, simprocAttr])
  | refine gCd (by simp only [go_sem, simprocAttr]; rfl) rfl ?_
  | refine brT ?_ | refine brF ?_
  | (refine brS ?_ ?_ <;> intro hc <;> (try simp only [bls] at hc) <;> (try simp only [hc, bls]))
  | intro _ | refine And.intro ?_ ?_)
    all_goals first | omega | (unfold bigLen; omega) | exact ⟨_, _, ⟨rfl, rfl⟩, rfl⟩ | exact ⟨_, rfl⟩ | (rename_i hy; simp only [List.mem_singleton] at hy; subst hy; rfl) | with_reducible rfl | skip
  | succ m =>
    have hx : E[m]? = some (E[m]'(by omega)) := List.getElem?_eq_getElem (by omega)
    generalize E[m]'(by omega) = x at hx
    rw [long_last hl hx]
    have e1 : ¬ (E.length : Int) = 0 := by omega
    have e2 : (E.length : Int) - 1 = (m : Nat) := by omega
    have e3 : (m : Int) < E.length := by omega
    have e4 : (0 : Int) ≤ m := by omega
    by_cases c : x ≤ fr
    · have e5 : ¬ fr < x := by omega
      rw [if_pos c]
      refine ACall.enter Try.func21 rfl (by kernel_rfl) (Nat.le_of_ble_eq_true rfl) ?_; simp only [initTm, Nat.reduceAdd]
      repeat' (first
  | refine gSq ?_ | refine gSk ?_ | refine gBl ?_ | refine gIb ?_ | refine gEx rfl ?_
  | ((first
  | (refine gRg [] [0, 1, 2, 6, 7, 8, 25] ?_; intro K hK)
  | refine cAl (hE) rfl rfl rfl ?_
  | (refine gd_split ?_ ?_ <;> intro hb <;> (try simp only [bls] at hb) <;> (try simp only [hb]))
  | refine gRt [] [.tmp 6, .tmp 7] rfl ?_ | refine gDn [] [.tmp 6, .tmp 7] rfl ?_) <;> (try simp only [go_sem, simprocAttr, e1, e2, e3, e4, c, e5, hx, Option.some.injEq, forall_eq']))
  | (refine hK _ _ ?_; clear hK K; simp only [go_sem, simprocAttr])
  | refine gCd (by simp only [go_sem, simprocAttr]; rfl) rfl ?_
  | refine brT ?_ | refine brF ?_
  | (refine brS ?_ ?_ <;> intro hc <;> (try simp only [bls] at hc) <;> (try simp only [hc, bls]))
  | intro _ | refine And.intro ?_ ?_)
      all_goals first | omega | (unfold bigLen; omega) | exact ⟨_, _, ⟨rfl, rfl⟩, rfl⟩ | exact ⟨_, rfl⟩ | (rename_i hy; simp only [List.mem_singleton] at hy; subst hy; rfl) | with_reducible rfl | skip
    · have e5 : fr < x := by omega
      rw [if_neg c]
      refine ACall.enter Try.func21 rfl (by kernel_rfl) (Nat.le_of_ble_eq_true rfl) ?_; simp only [initTm, Nat.reduceAdd]
      repeat' (first
  | refine gSq ?_ | refine gSk ?_ | refine gBl ?_ | refine gIb ?_ | refine gEx rfl ?_
  | ((first
  | (refine gRg [] [0, 1, 2, 6, 7, 8, 25] ?_; intro K hK)
  | refine cAl (hE) rfl rfl rfl ?_
  | (refine gd_split ?_ ?_ <;> intro hb <;> (try simp only [bls] at hb) <;> (try simp only [hb]))
  | refine gRt [] [.tmp 6, .tmp 7] rfl ?_ | refine gDn [] [.tmp 6, .tmp 7] rfl ?_) <;> (try simp only [go_sem, simprocAttr, e1, e2, e3, e4, c, e5, hx, Option.some.injEq, forall_eq']))
  | (refine hK _ _ ?_; clear hK K; simp only [go_sem, simprocAttr])
  | refine gCd (by simp only [go_sem, simprocAttr]; rfl) rfl ?_
  | refine brT ?_ | refine brF ?_
  | (refine brS ?_ ?_ <;> intro hc <;> (try simp only [bls] at hc) <;> (try simp only [hc, bls]))
  | intro _ | refine And.intro ?_ ?_)
      all_goals first | omega | (unfold bigLen; omega) | exact ⟨_, _, ⟨rfl, rfl⟩, rfl⟩ | exact ⟨_, rfl⟩ | (rename_i hy; simp only [List.mem_singleton] at hy; subst hy; rfl) | with_reducible rfl | skip
theorem isL_c (hE : ACall Try.prog 13 [.sl true f (nodes l), .str w, .int .i64 0] [] fun r s => r = .sl true b (ints E) ∧ s = []) (hl : E.length ≤ 1000001) (hs : E.Pairwise (· < ·)) :
    ACall Try.prog 23 [.sl true f (nodes l), .str w] [] fun r s => r = .bool (E.contains (w.size : Int)) ∧ s = [] := by
  have hb := seekI_c true b E (w.size : Int) (by omega) (hs.imp fun h => by omega)
  refine ACall.enter Try.func23 rfl (by kernel_rfl) (Nat.le_of_ble_eq_true rfl) ?_; simp only [initTm, Nat.reduceAdd]
  repeat' (first
  | refine gSq ?_ | refine gSk ?_ | refine gBl ?_ | refine gIb ?_ | refine gEx rfl ?_
  | ((first
  | (refine gRg [] [0, 1, 4, 6] ?_; intro K hK)
  | refine cAl (hE) rfl rfl rfl ?_
  | refine cAl (hb) rfl rfl rfl ?_
  | (refine gd_split ?_ ?_ <;> intro hb <;> (try simp only [bls] at hb) <;> (try simp only [hb]))
  | refine gRt [] [.tmp 4] rfl ?_ | refine gDn [] [.tmp 4] rfl ?_) <;> (try simp only [go_sem, simprocAttr]))
  | (refine hK _ _ ?_; clear hK K; simp only [go_sem, simprocAttr])
  | refine gCd (by simp only [go_sem, simprocAttr]; rfl) rfl ?_
  | refine brT ?_ | refine brF ?_
  | (refine brS ?_ ?_ <;> intro hc <;> (try simp only [bls] at hc) <;> (try simp only [hc, bls]))
  | intro _ | refine And.intro ?_ ?_)
  all_goals first | omega | (unfold bigLen; omega) | exact ⟨_, _, ⟨rfl, rfl⟩, rfl⟩ | exact ⟨_, rfl⟩ | (rename_i hy; simp only [List.mem_singleton] at hy; subst hy; rfl) | with_reducible rfl | skip
theorem is7uc (hE : ACall Try.prog 22 [.sl true f (nodes l), .str w, .int .i64 0] [] fun r s => r = .sl true b (ints E) ∧ s = []) (hb : E.length ≤ 1000001) (hs : E.Pairwise (· < ·)) (hn : ∀ y ∈ E, y ≤ (w.size : Int)) :
    ACall Try.prog 24 [.sl true f (nodes l), .str w] [] fun r s => r = .bool (E.contains (w.size : Int)) ∧ s = [] := by
  cases hl : E.length with
  | zero =>
    have h0 : E = [] := List.length_eq_zero_iff.1 hl
    subst h0
    refine ACall.enter Try.func24 rfl (by kernel_rfl) (Nat.le_of_ble_eq_true rfl) ?_; simp only [initTm, Nat.reduceAdd]
    repeat' (first
  | refine gSq ?_ | refine gSk ?_ | refine gBl ?_ | refine gIb ?_ | refine gEx rfl ?_
  | ((first
  | (refine gRg [] [0, 1, 4, 5] ?_; intro K hK)
  | refine cAl (hE) rfl rfl rfl ?_
  | (refine gd_split ?_ ?_ <;> intro hb <;> (try simp only [bls] at hb) <;> (try simp only [hb]))
  | refine gRt [] [.tmp 4] rfl ?_ | refine gDn [] [.tmp 4] rfl ?_) <;> (try simp only [go_sem, simprocAttr]))
  | (refine hK _ _ ?_; clear hK K; simp only [go_sem, simprocAttr])
  | refine gCd (by simp only [go_sem, simprocAttr]; rfl) rfl ?_
  | refine brT ?_ | refine brF ?_
  | (refine brS ?_ ?_ <;> intro hc <;> (try simp only [bls] at hc) <;> (try simp only [hc, bls]))
  | intro _ | refine And.intro ?_ ?_)
    all_goals first | omega | (unfold bigLen; omega) | exact ⟨_, _, ⟨rfl, rfl⟩, rfl⟩ | exact ⟨_, rfl⟩ | (rename_i hy; simp only [List.mem_singleton] at hy; subst hy; rfl) | with_reducible rfl | skip
  | succ m =>
    have hx : E[m]? = some (E[m]'(by omega)) := List.getElem?_eq_getElem (by omega)
    generalize E[m]'(by omega) = x at hx
    rw [last_has hl hx hs hn]
    have e1 : (0 : Int) < E.length := by omega
    have e2 : (E.length : Int) - 1 = (m : Nat) := by omega
    have e3 : (m : Int) < E.length := by omega
    have e4 : (0 : Int) ≤ m := by omega
    by_cases c : x = w.size
    · refine ACall.enter Try.func24 rfl (by kernel_rfl) (Nat.le_of_ble_eq_true rfl) ?_; simp only [initTm, Nat.reduceAdd]
      repeat' (first
  | refine gSq ?_ | refine gSk ?_ | refine gBl ?_ | refine gIb ?_ | refine gEx rfl ?_
  | ((first
  | (refine gRg [] [0, 1, 4, 5] ?_; intro K hK)
  | refine cAl (hE) rfl rfl rfl ?_
  | (refine gd_split ?_ ?_ <;> intro hb <;> (try simp only [bls] at hb) <;> (try simp only [hb]))
  | refine gRt [] [.tmp 4] rfl ?_ | refine gDn [] [.tmp 4] rfl ?_) <;> (try simp only [go_sem, simprocAttr, e1, e2, e3, e4, c, hx, Option.some.injEq, forall_eq']))
  | (refine hK _ _ ?_; clear hK K; simp only [go_sem, simprocAttr])
  | refine gCd (by simp only [go_sem, simprocAttr]; rfl) rfl ?_
  | refine brT ?_ | refine brF ?_
  | (refine brS ?_ ?_ <;> intro hc <;> (try simp only [bls] at hc) <;> (try simp only [hc, bls]))
  | intro _ | refine And.intro ?_ ?_)
      all_goals first | omega | (unfold bigLen; omega) | exact ⟨_, _, ⟨rfl, rfl⟩, rfl⟩ | exact ⟨_, rfl⟩ | (rename_i hy; simp only [List.mem_singleton] at hy; subst hy; rfl) | with_reducible rfl | skip
    · refine ACall.enter Try.func24 rfl (by kernel_rfl) (Nat.le_of_ble_eq_true rfl) ?_; simp only [initTm, Nat.reduceAdd]
      repeat' (first
  | refine gSq ?_ | refine gSk ?_ | refine gBl ?_ | refine gIb ?_ | refine gEx rfl ?_
  | ((first
  | (refine gRg [] [0, 1, 4, 5] ?_; intro K hK)
  | refine cAl (hE) rfl rfl rfl ?_
  | (refine gd_split ?_ ?_ <;> intro hb <;> (try simp only [bls] at hb) <;> (try simp only [hb]))
  | refine gRt [] [.tmp 4] rfl ?_ | refine gDn [] [.tmp 4] rfl ?_) <;> (try simp only [go_sem, simprocAttr, e1, e2, e3, e4, c, hx, Option.some.injEq, forall_eq']))
  | (refine hK _ _ ?_; clear hK K; simp only [go_sem, simprocAttr])
  | refine gCd (by simp only [go_sem, simprocAttr]; rfl) rfl ?_
  | refine brT ?_ | refine brF ?_
  | (refine brS ?_ ?_ <;> intro hc <;> (try simp only [bls] at hc) <;> (try simp only [hc, bls]))
  | intro _ | refine And.intro ?_ ?_)
      all_goals first | omega | (unfold bigLen; omega) | exact ⟨_, _, ⟨rfl, rfl⟩, rfl⟩ | exact ⟨_, rfl⟩ | (rename_i hy; simp only [List.mem_singleton] at hy; subst hy; rfl) | with_reducible rfl | skip
end
end Go.Rad
/- What the document's reader of patterns does. -/
namespace Go.Rad
open Go
structure Rd where
  p : Nat
  nodes : List Node
  deep : Int
  e : Int
  wh : Int
  deriving DecidableEq
abbrev rsto (g g1 : Nat) (s : ByteArray) (r : Rd) : Sto := [(1000, (g, .box [.str s, .int .i64 r.p, .osl 1001 g1 0 r.nodes.length, .int .i64 r.deep, .int .i64 r.e, .int .i64 r.wh])), (1001, (g1, .row 9 (nodes r.nodes)))]
def endsB (s : ByteArray) (r : Rd) : Bool := decide (s.size ≤ r.p) || decide (r.e ≠ 0)
def failS (r : Rd) (e w : Int) : Rd := if r.e = 0 then { r with e := e, wh := w } else r
def Rd.next (r : Rd) (n : Nat) : Rd := { r with p := r.p + n }
def putR (r : Rd) (n : Node) : Rd := { r with nodes := r.nodes ++ [n] }
def inS (c : Nat) (l : ByteArray) : Bool := (List.range l.size).any fun i => decide (bt l i = c)
def specialS : ByteArray := ⟨#[124, 42, 43, 63, 123, 125, 40, 41, 91, 93, 46, 92, 47, 36, 94, 34]⟩
def markS : ByteArray := ⟨#[93, 45, 94]⟩
def hexS (c : Nat) : Int := if 48 ≤ c ∧ c ≤ 57 then (c : Int) - 48 else if 97 ≤ c ∧ c ≤ 102 then (c : Int) - 97 + 10 else -1
abbrev bI (s : ByteArray) (n : Nat) : Int := (bt s n : Int)
/-- A byte, or an escape. -/
def oneS (s : ByteArray) (r : Rd) : Rd × Int :=
  if bI s r.p ≠ 92 then (r.next 1, bI s r.p)
  else if endsB s (r.next 1) = true then (failS (r.next 1) 40 s.size, 0)
  else if bI s (r.p + 1) = 110 then (r.next 2, 10)
  else if bI s (r.p + 1) = 116 then (r.next 2, 9)
  else if bI s (r.p + 1) = 114 then (r.next 2, 13)
  else if bI s (r.p + 1) = 120 then
    if (s.size : Int) ≤ (r.p : Int) + 3 then (failS (r.next 2) 40 s.size, 0)
    else if 0 ≤ hexS (bt s (r.p + 2)) ∧ 0 ≤ hexS (bt s (r.p + 3)) then (r.next 4, IntKind.u8.wrap (16 * hexS (bt s (r.p + 2)) + hexS (bt s (r.p + 3))))
    else (failS (r.next 4) 43 r.p, 0)
  else if inS (bt s (r.p + 1)) specialS = true ∨ bI s (r.p + 1) = 45 then (r.next 2, bI s (r.p + 1))
  else (failS (r.next 2) 43 r.p, 0)
def memberS (s : ByteArray) (r : Rd) : Rd × Int :=
  if endsB s r = true then (failS r 40 s.size, 0)
  else if inS (bt s r.p) markS = true then (failS r 44 r.p, 0)
  else oneS s r
/-- A number of bounds, as far as there are digits. -/
def numLoop (s : ByteArray) : Nat → Rd → Int → Option (Rd × Int)
  | 0, _, _ => none
  | f + 1, r, n => if endsB s r = false ∧ digitN (bt s r.p) = true then numLoop s f (r.next 1) (min (n * 10 + (bI s r.p - 48)) 1000000) else some (r, n)

def nameLoop (s : ByteArray) : Nat → Rd → Option Rd
  | 0, _ => none
  | f + 1, r => if endsB s r = false ∧ bI s r.p ≠ 125 then nameLoop s f (r.next 1) else some r
/-- A name in braces. -/
def nameR (s : ByteArray) (f : Nat) (r : Rd) : Option (Rd × Int) :=
  match nameLoop s f (r.next 1) with
  | none => none
  | some q =>
    if 100000 < q.nodes.length then none
    else if endsB s q = true then some (failS q 40 s.size, 0)
    else if nameOk (s.extract (r.p + 1) q.p) = false then some (failS q 41 (r.p + 1 : Nat), 0)
    else some (putR (q.next 1) ⟨6, ISet.none, [], 0, 0, s.extract (r.p + 1) q.p⟩, q.nodes.length)
theorem nameLoop_facts {s : ByteArray} : ∀ {f : Nat} {r q : Rd}, nameLoop s f r = some q → q.nodes = r.nodes ∧ q.deep = r.deep ∧ q.e = r.e ∧ q.wh = r.wh ∧ r.p ≤ q.p
  | 0, _, _, h => by simp [nameLoop] at h
  | f + 1, r, q, h => by
    rw [nameLoop] at h
    split at h
    · obtain ⟨a, b, c, d, e⟩ := nameLoop_facts h
      simp only [Rd.next] at a b c d e
      exact ⟨a, b, c, d, by omega⟩
    · simp only [Option.some.injEq] at h
      subst h
      exact ⟨rfl, rfl, rfl, rfl, Nat.le_refl _⟩

theorem failS_facts (r : Rd) (e w : Int) : (failS r e w).p = r.p ∧ (failS r e w).nodes = r.nodes ∧ (failS r e w).deep = r.deep := by
  unfold failS; split <;> exact ⟨rfl, rfl, rfl⟩
theorem oneS_facts (s : ByteArray) (r : Rd) : r.p < (oneS s r).1.p ∧ (oneS s r).1.nodes = r.nodes ∧ (oneS s r).1.deep = r.deep ∧ 0 ≤ (oneS s r).2 ∧ (oneS s r).2 ≤ 255 := by
  have hb : ∀ n, 0 ≤ bI s n ∧ bI s n ≤ 255 := fun n => by have := bt_le s n; unfold bI; omega
  have hw : ∀ n, 0 ≤ IntKind.u8.wrap n ∧ IntKind.u8.wrap n ≤ 255 := by
    intro n; simp [IntKind.wrap, IntKind.signed, IntKind.bits]; omega
  unfold oneS
  repeat' split
  all_goals simp only [(failS_facts _ _ _).1, (failS_facts _ _ _).2.1, (failS_facts _ _ _).2.2, Rd.next, true_and]
  all_goals first
    | (refine ⟨by omega, ?_, ?_⟩ <;> first | omega | exact (hb _).1 | exact (hb _).2 | exact (hw _).1 | exact (hw _).2)
theorem memberS_facts (s : ByteArray) (r : Rd) : r.p ≤ (memberS s r).1.p ∧ (memberS s r).1.nodes = r.nodes ∧ (memberS s r).1.deep = r.deep ∧ 0 ≤ (memberS s r).2 ∧ (memberS s r).2 ≤ 255 := by
  unfold memberS
  split
  · simp only [(failS_facts _ _ _).1, (failS_facts _ _ _).2.1, (failS_facts _ _ _).2.2, true_and]; omega
  · split
    · simp only [(failS_facts _ _ _).1, (failS_facts _ _ _).2.1, (failS_facts _ _ _).2.2, true_and]; omega
    · have := oneS_facts s r
      exact ⟨by omega, this.2⟩

theorem ACall.part {P : Program} {f : Nat} {args args1 : List AVal} {sto sto1 : Sto} {v : AVal} (σ : Ids) (hσ : okIds σ = true) (h : ACall P f args1 sto1 fun r s => r = v ∧ s = sto1) (ha : args.map (tr σ [] sto) = args1) (hs1 : mkSto σ [] sto σ = sto1) (hc1 : stoCells sto1 = true) (hv : bk σ v = v) (hb : bkS σ sto1 (delAll σ sto) = sto) (hc : stoCells sto = true) :
    ACall P f args sto fun r s => r = v ∧ s = sto := by
  refine ACall.use σ [] hσ h ha hs1 hc1 fun r s hr => ?_
  obtain ⟨rfl, rfl⟩ := hr
  rw [hb]
  exact ⟨.inl rfl, hc, hv, rfl⟩
end Go.Rad
