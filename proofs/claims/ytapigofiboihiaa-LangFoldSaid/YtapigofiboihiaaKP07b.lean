/- Contracts: the document's meaning of trees: repetitions, nodes. -/
import Derived.Test.YtapigofiboihiaaKP07a
import Derived.Test.YtapigofiboihiaaKRNode
import Derived.Test.YtapigofiboihiaaKRNorm
set_option linter.all false
namespace Go.Rad
open Go Go.Proofs
set_option linter.all false
set_option maxRecDepth 20000
set_option maxHeartbeats 4000000

/-- What a node's call tells. -/
def EndsC (P : Program) (fno : Nat) (q f : Bool) (ns : List Node) (w : ByteArray) (kd : Int) (g : List Bool → List Bool) : Prop :=
  ∀ s : List Bool, s.length = w.size + 1 → ACall P fno [.sl q f (nodes ns), .int .i64 kd, .str w, .sl true false (bools s)] [] fun r s' => r = .sl true false (bools (g s)) ∧ s' = []
theorem rep7uc {q f : Bool} {ns : List Node} {w : ByteArray} (hw : w.size ≤ 1000000) (n : Node) (kid : Int) (g : List Bool → List Bool) (hn : n.l = [kid]) (hlo : 0 ≤ n.lo ∧ n.lo ≤ 4096) (hhi : n.hi = -1 ∨ n.lo ≤ n.hi ∧ n.hi ≤ 4096) (hk : EndsC Try.prog 33 q f ns w kid g) (hg : Add (w.size + 1) g) (s : List Bool) (hs : s.length = w.size + 1) :
    ACall Try.prog 47 [.sl q f (nodes ns), .agg n.cells, .str w, .sl true false (bools s)] [] fun r s' => r = .sl true false (bools (repB w n.lo n.hi g s)) ∧ s' = [] := by
  obtain ⟨xo, ⟨xa, xb, xc, xd⟩, xl, xlo, xhi, xn⟩ := n
  simp only at hn hlo hhi
  have hx0 : xl[0]? = some kid := by rw [hn]; rfl
  have e0 : (0 : Int) < xl.length := by rw [hn]; exact Int.one_pos
  clear hn
  obtain ⟨lo, rfl⟩ : ∃ lo : Nat, xlo = lo := ⟨xlo.toNat, by omega⟩
  simp only [Node.cells, Node.cellsF]
  obtain ⟨S1, hS1⟩ : ∃ S1, S1 = itB g lo s := ⟨_, rfl⟩
  have hS1l : S1.length = w.size + 1 := by rw [hS1]; exact it_len hg hs lo
  obtain ⟨M, hM⟩ : ∃ M : Nat, M = if xhi = -1 then w.size + 1 else (xhi - lo).toNat := ⟨_, rfl⟩
  have hrep : repB w lo xhi g s = uB g M S1 := by rw [repB, ← hM, Int.toNat_natCast, ← hS1]
  rw [hrep]
  clear hrep
  refine ACall.enter Try.func47 rfl (by kernel_rfl) (Nat.le_of_ble_eq_true rfl) ?_; simp only [initTm, Nat.reduceAdd]
  repeat' (first
  | refine gSq ?_ | refine gSk ?_ | refine gBl ?_ | refine gIb ?_ | refine gEx rfl ?_
  | ((first
  | (refine gRg [] [0, 1, 2, 3, 5, 8, 9, 10, 11, 12, 13, 17, 30, 43, 59] ?_; intro K hK)
  | (refine gd_split ?_ ?_ <;> intro hb <;> (try simp only [bls] at hb) <;> (try simp only [hb]))
  | refine gRt [] [.tmp 8] rfl ?_ | refine gDn [] [.tmp 8] rfl ?_) <;> (try simp only [go_sem, simprocAttr]))
  | (refine hK _ _ ?_; clear hK K; simp only [go_sem, simprocAttr])
  | refine gCd (by simp only [go_sem, simprocAttr]; rfl) rfl ?_
  | refine brT ?_ | refine brF ?_
  | (refine brS ?_ ?_ <;> intro hc <;> (try simp only [bls] at hc) <;> (try simp only [hc, bls]))
  | intro _ | refine And.intro ?_ ?_)
  all_goals first | omega | (unfold bigLen; omega) | exact ⟨_, _, ⟨rfl, rfl⟩, rfl⟩ | exact ⟨_, rfl⟩ | (rename_i hy; simp only [List.mem_singleton] at hy; subst hy; rfl) | with_reducible rfl | skip
  rename_i h5
  refine AGood.prune [0, 2, 3, 5, 8, 9] ?_; simp only [go_sem, simprocAttr]
  apply hv0
  case main =>
    intro key
    refine AGood.loopInv (α := Nat) (fun i => ([(0, .sl q f (nodes ns)), (2, .str w), (3, .sl true false (bools (itB g i s))), (5, .bx 5 h5 0), (8, .sl true true []), (9, .int .i64 i)], [(5, h5, .box [.int .u8 xo, .int .u64 xa, .int .u64 xb, .int .u64 xc, .int .u64 xd, .sl true false (ints xl), .int .i64 lo, .int .i64 xhi, .str xn])]))
      (fun i => i ≤ lo) (fun i => lo - i) 0 (Nat.zero_le _) rfl ?_
    rintro i hi ih
    simp only at hi ih ⊢
    have hil := it_len hg hs i
    by_cases hle : i < lo
    · have e4 : (i : Int) < lo := by omega
      have e6 : (i : Int) + 1 = ((i + 1 : Nat) : Int) := by omega
      have hc := hk (itB g i s) hil
      rw [← it_succ g] at hc
      have hsm := same7uc true false true false (itB g (i + 1) s) (itB g i s) (by rw [it_len hg hs, hil]) (by rw [it_len hg hs]; omega)
      by_cases hst : itB g (i + 1) s = itB g i s
      · rw [decide_eq_true hst] at hsm
        have hfin : itB g i s = S1 := by
          have := it_stop (g := g) (s := s) (i := i) (show g (itB g i s) = itB g i s by rw [← it_succ g]; exact hst) (lo - i)
          rw [show i + (lo - i) = lo by omega] at this
          rw [hS1, this]
        rw [hst] at hc hsm
        rw [hfin] at hc hsm ⊢
        repeat' (first
  | (refine AGood.at 7 ?_; (refine AGood.prune [0, 2, 3, 5, 8] ?_; simp only [go_sem, simprocAttr]; refine stopI ?_))
  | refine gSq ?_ | refine gSk ?_ | refine gBl ?_ | refine gIb ?_ | refine gEx rfl ?_
  | ((first
  | (refine gRg [] [0, 1, 2, 3, 5, 8, 9, 10, 11, 12, 13, 17, 30, 43, 59] ?_; intro K hK)
  | refine cAl (hc) rfl rfl rfl ?_
  | refine cAl (hsm) rfl rfl rfl ?_
  | (refine gd_split ?_ ?_ <;> intro hb <;> (try simp only [bls] at hb) <;> (try simp only [hb]))
  | refine gRt [] [.tmp 8] rfl ?_ | refine gDn [] [.tmp 8] rfl ?_) <;> (try simp only [go_sem, simprocAttr, e4, e6, hx0, e0, Option.some.injEq, forall_eq']))
  | (refine hK _ _ ?_; clear hK K; simp only [go_sem, simprocAttr])
  | refine gCd (by simp only [go_sem, simprocAttr]; rfl) rfl ?_
  | refine brT ?_ | refine brF ?_
  | (refine brS ?_ ?_ <;> intro hc <;> (try simp only [bls] at hc) <;> (try simp only [hc, bls]))
  | intro _ | refine And.intro ?_ ?_)
        all_goals first | omega | (unfold bigLen; omega) | exact ⟨_, _, ⟨rfl, rfl⟩, rfl⟩ | exact ⟨_, rfl⟩ | (rename_i hy; simp only [List.mem_singleton] at hy; subst hy; rfl) | with_reducible rfl | skip
        refine stopE ?_; exact key.out
      · rw [decide_eq_false hst] at hsm
        repeat' (first
  | refine gSq ?_ | refine gSk ?_ | refine gBl ?_ | refine gIb ?_ | refine gEx rfl ?_
  | ((first
  | (refine gRg [] [0, 1, 2, 3, 5, 8, 9, 10, 11, 12, 13, 17, 30, 43, 59] ?_; intro K hK)
  | refine cAl (hc) rfl rfl rfl ?_
  | refine cAl (hsm) rfl rfl rfl ?_
  | (refine gd_split ?_ ?_ <;> intro hb <;> (try simp only [bls] at hb) <;> (try simp only [hb]))
  | refine gRt [] [.tmp 8] rfl ?_ | refine gDn [] [.tmp 8] rfl ?_) <;> (try simp only [go_sem, simprocAttr, e4, e6, hx0, e0, Option.some.injEq, forall_eq']))
  | (refine hK _ _ ?_; clear hK K; simp only [go_sem, simprocAttr])
  | refine gCd (by simp only [go_sem, simprocAttr]; rfl) rfl ?_
  | refine brT ?_ | refine brF ?_
  | (refine brS ?_ ?_ <;> intro hc <;> (try simp only [bls] at hc) <;> (try simp only [hc, bls]))
  | intro _ | refine And.intro ?_ ?_)
        all_goals first | omega | (unfold bigLen; omega) | exact ⟨_, _, ⟨rfl, rfl⟩, rfl⟩ | exact ⟨_, rfl⟩ | (rename_i hy; simp only [List.mem_singleton] at hy; subst hy; rfl) | with_reducible rfl | skip
        refine AGood.filt [5] ?_
        simp only [sf_cons, sf_nil, go_sem, simprocAttr]
        refine AGood.prune [0, 2, 3, 5, 8, 9] ?_; simp only [go_sem, simprocAttr]
        exact (ih (i + 1) (by omega) (by omega)).cast rfl rfl
    · have e4 : ¬ (i : Int) < lo := by omega
      have hfin : itB g i s = S1 := by rw [hS1, show i = lo by omega]
      rw [hfin]
      repeat' (first
  | (refine AGood.at 7 ?_; (refine AGood.prune [0, 2, 3, 5, 8] ?_; simp only [go_sem, simprocAttr]; refine stopI ?_))
  | refine gSq ?_ | refine gSk ?_ | refine gBl ?_ | refine gIb ?_ | refine gEx rfl ?_
  | ((first
  | (refine gRg [] [0, 1, 2, 3, 5, 8, 9, 10, 11, 12, 13, 17, 30, 43, 59] ?_; intro K hK)
  | (refine gd_split ?_ ?_ <;> intro hb <;> (try simp only [bls] at hb) <;> (try simp only [hb]))
  | refine gRt [] [.tmp 8] rfl ?_ | refine gDn [] [.tmp 8] rfl ?_) <;> (try simp only [go_sem, simprocAttr, e4]))
  | (refine hK _ _ ?_; clear hK K; simp only [go_sem, simprocAttr])
  | refine gCd (by simp only [go_sem, simprocAttr]; rfl) rfl ?_
  | refine brT ?_ | refine brF ?_
  | (refine brS ?_ ?_ <;> intro hc <;> (try simp only [bls] at hc) <;> (try simp only [hc, bls]))
  | intro _ | refine And.intro ?_ ?_)
      refine stopE ?_; exact key.out
  case key =>
    clear hS1 hs
    repeat' (first
  | refine gSq ?_ | refine gSk ?_ | refine gBl ?_ | refine gIb ?_ | refine gEx rfl ?_
  | ((first
  | (refine gRg [] [0, 1, 2, 3, 5, 8, 9, 10, 11, 12, 13, 17, 30, 43, 59] ?_; intro K hK)
  | (refine gd_split ?_ ?_ <;> intro hb <;> (try simp only [bls] at hb) <;> (try simp only [hb]))
  | refine gRt [] [.tmp 8] rfl ?_ | refine gDn [] [.tmp 8] rfl ?_) <;> (try simp only [go_sem, simprocAttr]))
  | (refine hK _ _ ?_; clear hK K; simp only [go_sem, simprocAttr])
  | refine gCd (by simp only [go_sem, simprocAttr]; rfl) rfl ?_
  | refine brT ?_ | refine brF ?_
  | (refine brS ?_ ?_ <;> intro hc <;> (try simp only [bls] at hc) <;> (try simp only [hc, bls]))
  | intro _ | refine And.intro ?_ ?_)
    refine AGood.prune [0, 2, 3, 5, 8, 11, 12] ?_; simp only [go_sem, simprocAttr]
    refine AGood.loopInv (α := Nat) (fun k => ([(0, .sl q f (nodes ns)), (2, .str w), (3, .sl true false (bools (itB g k S1))), (5, .bx 5 h5 0), (8, .sl true true []), (11, .sl true false (bools (uB g k S1))), (12, .int .i64 (lo + k : Nat))], [(5, h5, .box [.int .u8 xo, .int .u64 xa, .int .u64 xb, .int .u64 xc, .int .u64 xd, .sl true false (ints xl), .int .i64 lo, .int .i64 xhi, .str xn])]))
      (fun k => k ≤ cntB2 (uB g k S1) ∧ (xhi = -1 ∨ k ≤ M)) (fun k => w.size + 1 - k) 0 ⟨Nat.zero_le _, .inr (Nat.zero_le _)⟩ rfl ?_
    rintro k ⟨hkc, hkM⟩ ih
    simp only at hkc hkM ih ⊢
    have hul := u_len hg hS1l k
    have hil := it_len hg hS1l k
    have hcl : cntB2 (uB g k S1) ≤ w.size + 1 := by rw [← hul]; exact cnt_le
    by_cases hgo : xhi = -1 ∨ k < M
    · have e6 : ((lo + k : Nat) : Int) + 1 = ((lo + (k + 1) : Nat) : Int) := by omega
      have hc := hk (itB g k S1) hil
      rw [← it_succ g] at hc
      have ho := or7uc true false true false (uB g k S1) (itB g (k + 1) S1) (by rw [hul, it_len hg hS1l]) (by omega)
      rw [← u_snoc hg hS1l] at ho
      have hsm := same7uc true false true false (uB g (k + 1) S1) (uB g k S1) (by rw [hul, u_len hg hS1l]) (by rw [u_len hg hS1l]; omega)
      have hgr := cnt_or hul (it_len hg hS1l (k + 1))
      rw [← u_snoc hg hS1l] at hgr
      by_cases hst : uB g (k + 1) S1 = uB g k S1
      · rw [decide_eq_true hst] at hsm
        have hfin : uB g M S1 = uB g k S1 := by
          rcases hgo with h1 | h1
          · rw [hM, if_pos h1]; exact u_end hg hS1l hst
          · have := u_stop hg hS1l hst (M - k)
            rw [show k + (M - k) = M by omega] at this
            exact this
        rw [hfin]
        rw [hst] at ho hsm
        by_cases h1 : xhi = -1
        · have e7 : ¬ ((lo + k : Nat) : Int) < xhi := by omega
          repeat' (first
  | refine gSq ?_ | refine gSk ?_ | refine gBl ?_ | refine gIb ?_ | refine gEx rfl ?_
  | ((first
  | (refine gRg [] [0, 1, 2, 3, 5, 8, 9, 10, 11, 12, 13, 17, 30, 43, 59] ?_; intro K hK)
  | refine cAl (hc) rfl rfl rfl ?_
  | refine cAl (ho) rfl rfl rfl ?_
  | refine cAl (hsm) rfl rfl rfl ?_
  | (refine gd_split ?_ ?_ <;> intro hb <;> (try simp only [bls] at hb) <;> (try simp only [hb]))
  | refine gRt [] [.tmp 8] rfl ?_ | refine gDn [] [.tmp 8] rfl ?_) <;> (try simp only [go_sem, simprocAttr, e6, e7, eq_true h1, hx0, e0, Option.some.injEq, forall_eq']))
  | (refine hK _ _ ?_; clear hK K; simp only [go_sem, simprocAttr])
  | refine gCd (by simp only [go_sem, simprocAttr]; rfl) rfl ?_
  | refine brT ?_ | refine brF ?_
  | (refine brS ?_ ?_ <;> intro hc <;> (try simp only [bls] at hc) <;> (try simp only [hc, bls]))
  | intro _ | refine And.intro ?_ ?_)
          all_goals first | omega | (unfold bigLen; omega) | exact ⟨_, _, ⟨rfl, rfl⟩, rfl⟩ | exact ⟨_, rfl⟩ | (rename_i hy; simp only [List.mem_singleton] at hy; subst hy; rfl) | with_reducible rfl | skip
        · have e7 : ((lo + k : Nat) : Int) < xhi := by rw [if_neg h1] at hM; omega
          repeat' (first
  | refine gSq ?_ | refine gSk ?_ | refine gBl ?_ | refine gIb ?_ | refine gEx rfl ?_
  | ((first
  | (refine gRg [] [0, 1, 2, 3, 5, 8, 9, 10, 11, 12, 13, 17, 30, 43, 59] ?_; intro K hK)
  | refine cAl (hc) rfl rfl rfl ?_
  | refine cAl (ho) rfl rfl rfl ?_
  | refine cAl (hsm) rfl rfl rfl ?_
  | (refine gd_split ?_ ?_ <;> intro hb <;> (try simp only [bls] at hb) <;> (try simp only [hb]))
  | refine gRt [] [.tmp 8] rfl ?_ | refine gDn [] [.tmp 8] rfl ?_) <;> (try simp only [go_sem, simprocAttr, e6, e7, h1, hx0, e0, Option.some.injEq, forall_eq']))
  | (refine hK _ _ ?_; clear hK K; simp only [go_sem, simprocAttr])
  | refine gCd (by simp only [go_sem, simprocAttr]; rfl) rfl ?_
  | refine brT ?_ | refine brF ?_
  | (refine brS ?_ ?_ <;> intro hc <;> (try simp only [bls] at hc) <;> (try simp only [hc, bls]))
  | intro _ | refine And.intro ?_ ?_)
          all_goals first | omega | (unfold bigLen; omega) | exact ⟨_, _, ⟨rfl, rfl⟩, rfl⟩ | exact ⟨_, rfl⟩ | (rename_i hy; simp only [List.mem_singleton] at hy; subst hy; rfl) | with_reducible rfl | skip
      · rw [decide_eq_false hst] at hsm
        have hlt : cntB2 (uB g k S1) ≠ cntB2 (uB g (k + 1) S1) := fun e => hst (hgr.2 e)
        have hcl2 : cntB2 (uB g (k + 1) S1) ≤ w.size + 1 := by rw [← u_len hg hS1l (k + 1)]; exact cnt_le
        by_cases h1 : xhi = -1
        · have e7 : ¬ ((lo + k : Nat) : Int) < xhi := by omega
          repeat' (first
  | refine gSq ?_ | refine gSk ?_ | refine gBl ?_ | refine gIb ?_ | refine gEx rfl ?_
  | ((first
  | (refine gRg [] [0, 1, 2, 3, 5, 8, 9, 10, 11, 12, 13, 17, 30, 43, 59] ?_; intro K hK)
  | refine cAl (hc) rfl rfl rfl ?_
  | refine cAl (ho) rfl rfl rfl ?_
  | refine cAl (hsm) rfl rfl rfl ?_
  | (refine gd_split ?_ ?_ <;> intro hb <;> (try simp only [bls] at hb) <;> (try simp only [hb]))
  | refine gRt [] [.tmp 8] rfl ?_ | refine gDn [] [.tmp 8] rfl ?_) <;> (try simp only [go_sem, simprocAttr, e6, e7, eq_true h1, hx0, e0, Option.some.injEq, forall_eq']))
  | (refine hK _ _ ?_; clear hK K; simp only [go_sem, simprocAttr])
  | refine gCd (by simp only [go_sem, simprocAttr]; rfl) rfl ?_
  | refine brT ?_ | refine brF ?_
  | (refine brS ?_ ?_ <;> intro hc <;> (try simp only [bls] at hc) <;> (try simp only [hc, bls]))
  | intro _ | refine And.intro ?_ ?_)
          all_goals first | omega | (unfold bigLen; omega) | exact ⟨_, _, ⟨rfl, rfl⟩, rfl⟩ | exact ⟨_, rfl⟩ | (rename_i hy; simp only [List.mem_singleton] at hy; subst hy; rfl) | with_reducible rfl | skip
          refine AGood.filt [5] ?_
          simp only [sf_cons, sf_nil, go_sem, simprocAttr]
          refine AGood.prune [0, 2, 3, 5, 8, 11, 12] ?_; simp only [go_sem, simprocAttr]
          exact (ih (k + 1) ⟨by omega, .inl h1⟩ (by omega)).cast rfl rfl
        · have e7 : ((lo + k : Nat) : Int) < xhi := by rw [if_neg h1] at hM; omega
          repeat' (first
  | refine gSq ?_ | refine gSk ?_ | refine gBl ?_ | refine gIb ?_ | refine gEx rfl ?_
  | ((first
  | (refine gRg [] [0, 1, 2, 3, 5, 8, 9, 10, 11, 12, 13, 17, 30, 43, 59] ?_; intro K hK)
  | refine cAl (hc) rfl rfl rfl ?_
  | refine cAl (ho) rfl rfl rfl ?_
  | refine cAl (hsm) rfl rfl rfl ?_
  | (refine gd_split ?_ ?_ <;> intro hb <;> (try simp only [bls] at hb) <;> (try simp only [hb]))
  | refine gRt [] [.tmp 8] rfl ?_ | refine gDn [] [.tmp 8] rfl ?_) <;> (try simp only [go_sem, simprocAttr, e6, e7, h1, hx0, e0, Option.some.injEq, forall_eq']))
  | (refine hK _ _ ?_; clear hK K; simp only [go_sem, simprocAttr])
  | refine gCd (by simp only [go_sem, simprocAttr]; rfl) rfl ?_
  | refine brT ?_ | refine brF ?_
  | (refine brS ?_ ?_ <;> intro hc <;> (try simp only [bls] at hc) <;> (try simp only [hc, bls]))
  | intro _ | refine And.intro ?_ ?_)
          all_goals first | omega | (unfold bigLen; omega) | exact ⟨_, _, ⟨rfl, rfl⟩, rfl⟩ | exact ⟨_, rfl⟩ | (rename_i hy; simp only [List.mem_singleton] at hy; subst hy; rfl) | with_reducible rfl | skip
          refine AGood.filt [5] ?_
          simp only [sf_cons, sf_nil, go_sem, simprocAttr]
          refine AGood.prune [0, 2, 3, 5, 8, 11, 12] ?_; simp only [go_sem, simprocAttr]
          exact (ih (k + 1) ⟨by omega, .inr (by omega)⟩ (by omega)).cast rfl rfl
    · have h1 : ¬ xhi = -1 := fun h => hgo (.inl h)
      have e7 : ¬ ((lo + k : Nat) : Int) < xhi := by rw [if_neg h1] at hM; omega
      have hkm : k = M := by omega
      subst hkm
      clear ih
      repeat' (first
  | refine gSq ?_ | refine gSk ?_ | refine gBl ?_ | refine gIb ?_ | refine gEx rfl ?_
  | ((first
  | (refine gRg [] [0, 1, 2, 3, 5, 8, 9, 10, 11, 12, 13, 17, 30, 43, 59] ?_; intro K hK)
  | (refine gd_split ?_ ?_ <;> intro hb <;> (try simp only [bls] at hb) <;> (try simp only [hb]))
  | refine gRt [] [.tmp 8] rfl ?_ | refine gDn [] [.tmp 8] rfl ?_) <;> (try simp only [go_sem, simprocAttr, e7, h1]))
  | (refine hK _ _ ?_; clear hK K; simp only [go_sem, simprocAttr])
  | refine gCd (by simp only [go_sem, simprocAttr]; rfl) rfl ?_
  | refine brT ?_ | refine brF ?_
  | (refine brS ?_ ?_ <;> intro hc <;> (try simp only [bls] at hc) <;> (try simp only [hc, bls]))
  | intro _ | refine And.intro ?_ ?_)
      all_goals first | omega | (unfold bigLen; omega) | exact ⟨_, _, ⟨rfl, rfl⟩, rfl⟩ | exact ⟨_, rfl⟩ | (rename_i hy; simp only [List.mem_singleton] at hy; subst hy; rfl) | with_reducible rfl | skip
theorem ends7uc {q f : Bool} {ns : List Node} {w : ByteArray} (hw : w.size ≤ 1000000) (hll : ns.length ≤ 1000000) : ∀ (fo : Fo) (ks : List Int), fo.Sub ns ks → fo.shapeF = true → fo.size ≤ 1000000 → ∀ (j : Nat) (kd : Int) (g : List Bool → List Bool), ks[j]? = some kd → (sem w fo)[j]? = some g → EndsC Try.prog 33 q f ns w kd g
  | .nil, ks, hs, _, _, j, kd, g, hj, hg => by simp [sem] at hg
  | .node b k r, ks, hsub, hsh, hsz, j, kd, g, hj, hg => by
    obtain ⟨i, n, ks', rfl, h1, h2, h3, h4⟩ := hsub
    simp only [Fo.shapeF, Fo.all, Bool.and_eq_true] at hsh
    simp only [Fo.size] at hsz
    cases j with
    | succ j => exact ends7uc hw hll r ks' h4 hsh.2 (by omega) j kd g (by simpa using hj) (by simpa [sem] using hg)
    | zero =>
      simp only [List.getElem?_cons_zero, Option.some.injEq, sem] at hj hg
      subst hj hg
      have ih := ends7uc (q := q) (f := f) hw hll k n.l h3 hsh.1.2 (by omega)
      have hlen := h3.len
      have hsl := sem_len w k
      have hadd := sem_add w k
      have hkd : k.deg ≤ 1000000 := Nat.le_trans (Fo.deg_le k) (by omega)
      generalize sem w k = fs at ih hsl hadd
      have hshape := hsh.1.1
      have hlk : n.l.length = fs.length := by omega
      rw [← hlen] at hshape
      clear h3 h4 hsh
      intro s hs
      have hi := (List.getElem?_eq_some_iff.1 h1).1
      have e1 : (i : Int) < ns.length := by omega
      have e2 : (0 : Int) ≤ i := by omega
      obtain ⟨xo, ⟨xa, xb, xc, xd⟩, xl, xlo, xhi, xn⟩ := n
      subst h2
      simp only at hshape ih hlk hlen
      simp only [semNode]
      by_cases h2 : xo = 2
      · rw [if_pos h2]
        have hc := one7uc ⟨xa, xb, xc, xd⟩ true false w s hw hs
        simp only [ISet.cells] at hc
        refine ACall.enter Try.func33 rfl (by kernel_rfl) (Nat.le_of_ble_eq_true rfl) ?_; simp only [initTm, Nat.reduceAdd]
        repeat' (first
  | refine gSq ?_ | refine gSk ?_ | refine gBl ?_ | refine gIb ?_ | refine gEx rfl ?_
  | ((first
  | (refine gRg [] [0, 1, 2, 3, 8, 9, 10, 11, 12, 18, 19, 26, 32, 44, 52, 67] ?_; intro K hK)
  | refine cAl (hc) rfl rfl rfl ?_
  | (refine gd_split ?_ ?_ <;> intro hb <;> (try simp only [bls] at hb) <;> (try simp only [hb]))
  | refine gRt [] [.tmp 8] rfl ?_ | refine gDn [] [.tmp 8] rfl ?_) <;> (try simp only [go_sem, simprocAttr, e1, e2, h1, eq_true h2, Option.some.injEq, forall_eq']))
  | (refine hK _ _ ?_; clear hK K; simp only [go_sem, simprocAttr])
  | refine gCd (by simp only [go_sem, simprocAttr]; rfl) rfl ?_
  | refine brT ?_ | refine brF ?_
  | (refine brS ?_ ?_ <;> intro hc <;> (try simp only [bls] at hc) <;> (try simp only [hc, bls]))
  | intro _ | refine And.intro ?_ ?_)
        all_goals first | omega | (unfold bigLen; omega) | exact ⟨_, _, ⟨rfl, rfl⟩, rfl⟩ | exact ⟨_, rfl⟩ | (rename_i hy; simp only [List.mem_singleton] at hy; subst hy; rfl) | with_reducible rfl | skip
      · rw [if_neg h2]
        by_cases h3 : xo = 3
        · rw [if_pos h3]
          obtain ⟨S, hS⟩ : ∃ S, S = fs.foldl (fun s f => f s) s := ⟨_, rfl⟩
          rw [← hS]
          refine ACall.enter Try.func33 rfl (by kernel_rfl) (Nat.le_of_ble_eq_true rfl) ?_; simp only [initTm, Nat.reduceAdd]
          repeat' (first
  | refine gSq ?_ | refine gSk ?_ | refine gBl ?_ | refine gIb ?_ | refine gEx rfl ?_
  | ((first
  | (refine gRg [] [0, 1, 2, 3, 8, 9, 10, 11, 12, 18, 19, 26, 32, 44, 52, 67] ?_; intro K hK)
  | (refine gd_split ?_ ?_ <;> intro hb <;> (try simp only [bls] at hb) <;> (try simp only [hb]))
  | refine gRt [] [.tmp 8] rfl ?_ | refine gDn [] [.tmp 8] rfl ?_) <;> (try simp only [go_sem, simprocAttr, e1, e2, h1, h2, eq_true h3, Option.some.injEq, forall_eq']))
  | (refine hK _ _ ?_; clear hK K; simp only [go_sem, simprocAttr])
  | refine gCd (by simp only [go_sem, simprocAttr]; rfl) rfl ?_
  | refine brT ?_ | refine brF ?_
  | (refine brS ?_ ?_ <;> intro hc <;> (try simp only [bls] at hc) <;> (try simp only [hc, bls]))
  | intro _ | refine And.intro ?_ ?_)
          all_goals first | omega | (unfold bigLen; omega) | exact ⟨_, _, ⟨rfl, rfl⟩, rfl⟩ | exact ⟨_, rfl⟩ | (rename_i hy; simp only [List.mem_singleton] at hy; subst hy; rfl) | with_reducible rfl | skip
          rename_i h9
          refine AGood.prune [0, 2, 3, 8, 9, 10] ?_; simp only [go_sem, simprocAttr]
          refine AGood.loopInv (α := Nat × List Bool) (fun z => ([(0, .sl q f (nodes ns)), (2, .str w), (3, .sl true false (bools z.2)), (8, .sl true true []), (9, .bx 9 h9 0), (10, .int .i64 z.1)], [(9, h9, .box [.int .u8 xo, .int .u64 xa, .int .u64 xb, .int .u64 xc, .int .u64 xd, .sl true false (ints xl), .int .i64 xlo, .int .i64 xhi, .str xn])]))
            (fun z => z.1 ≤ xl.length ∧ z.2.length = w.size + 1 ∧ S = (fs.drop z.1).foldl (fun s f => f s) z.2) (fun z => xl.length - z.1) (0, s) ⟨Nat.zero_le _, hs, hS⟩ rfl ?_
          rintro ⟨j, t⟩ ⟨hj, ht, hrun⟩ ih2
          simp only at hj ht hrun ih2 ⊢
          by_cases hle : j < xl.length
          · have f4 : (j : Int) < xl.length := by omega
            have f5 : (0 : Int) ≤ j := by omega
            have f6 : (j : Int) + 1 = ((j + 1 : Nat) : Int) := by omega
            have hx : xl[j]? = some xl[j] := List.getElem?_eq_getElem hle
            have hfx : fs[j]? = some (fs[j]'(by omega)) := List.getElem?_eq_getElem (by omega)
            have hc := ih j _ _ hx hfx t ht
            rw [List.drop_eq_getElem_cons (by omega : j < fs.length), List.foldl_cons] at hrun
            have ha := (hadd (fs[j]'(by omega)) (List.getElem_mem _)).len t ht
            generalize (fs[j]'(by omega)) t = u at hc hrun ha
            generalize xl[j] = kd at hx hc
            repeat' (first
  | refine gSq ?_ | refine gSk ?_ | refine gBl ?_ | refine gIb ?_ | refine gEx rfl ?_
  | ((first
  | (refine gRg [] [0, 1, 2, 3, 8, 9, 10, 11, 12, 18, 19, 26, 32, 44, 52, 67] ?_; intro K hK)
  | refine cAl (hc) rfl rfl rfl ?_
  | (refine gd_split ?_ ?_ <;> intro hb <;> (try simp only [bls] at hb) <;> (try simp only [hb]))
  | refine gRt [] [.tmp 8] rfl ?_ | refine gDn [] [.tmp 8] rfl ?_) <;> (try simp only [go_sem, simprocAttr, f4, f5, f6, hx, Option.some.injEq, forall_eq']))
  | (refine hK _ _ ?_; clear hK K; simp only [go_sem, simprocAttr])
  | refine gCd (by simp only [go_sem, simprocAttr]; rfl) rfl ?_
  | refine brT ?_ | refine brF ?_
  | (refine brS ?_ ?_ <;> intro hc <;> (try simp only [bls] at hc) <;> (try simp only [hc, bls]))
  | intro _ | refine And.intro ?_ ?_)
            all_goals first | omega | (unfold bigLen; omega) | exact ⟨_, _, ⟨rfl, rfl⟩, rfl⟩ | exact ⟨_, rfl⟩ | (rename_i hy; simp only [List.mem_singleton] at hy; subst hy; rfl) | with_reducible rfl | skip
            refine AGood.filt [9] ?_
            simp only [sf_cons, sf_nil, go_sem, simprocAttr]
            refine AGood.prune [0, 2, 3, 8, 9, 10] ?_; simp only [go_sem, simprocAttr]
            exact (ih2 (j + 1, u) ⟨by simp only; omega, ha, hrun⟩ (by simp only; omega)).cast rfl rfl
          · have f4 : ¬ (j : Int) < xl.length := by omega
            rw [List.drop_eq_nil_of_le (by omega)] at hrun
            simp only [List.foldl_nil] at hrun
            subst hrun
            clear ih2
            repeat' (first
  | refine gSq ?_ | refine gSk ?_ | refine gBl ?_ | refine gIb ?_ | refine gEx rfl ?_
  | ((first
  | (refine gRg [] [0, 1, 2, 3, 8, 9, 10, 11, 12, 18, 19, 26, 32, 44, 52, 67] ?_; intro K hK)
  | (refine gd_split ?_ ?_ <;> intro hb <;> (try simp only [bls] at hb) <;> (try simp only [hb]))
  | refine gRt [] [.tmp 8] rfl ?_ | refine gDn [] [.tmp 8] rfl ?_) <;> (try simp only [go_sem, simprocAttr, f4]))
  | (refine hK _ _ ?_; clear hK K; simp only [go_sem, simprocAttr])
  | refine gCd (by simp only [go_sem, simprocAttr]; rfl) rfl ?_
  | refine brT ?_ | refine brF ?_
  | (refine brS ?_ ?_ <;> intro hc <;> (try simp only [bls] at hc) <;> (try simp only [hc, bls]))
  | intro _ | refine And.intro ?_ ?_)
            all_goals first | omega | (unfold bigLen; omega) | exact ⟨_, _, ⟨rfl, rfl⟩, rfl⟩ | exact ⟨_, rfl⟩ | (rename_i hy; simp only [List.mem_singleton] at hy; subst hy; rfl) | with_reducible rfl | skip
        · rw [if_neg h3]
          by_cases h4 : xo = 4
          · rw [if_pos h4]
            obtain ⟨S, hS⟩ : ∃ S, S = fs.foldl (fun o f => orB o (f s)) (falses (w.size + 1)) := ⟨_, rfl⟩
            rw [← hS]
            have hpl := places_c w hw
            have e15 : (bools (falses (w.size + 1))).take (w.size + 1) = bools (falses (w.size + 1)) := List.take_of_length_le (by simp [falses_len])
            have e16 : (falses (w.size + 1)).length = w.size + 1 := falses_len _
            refine ACall.enter Try.func33 rfl (by kernel_rfl) (Nat.le_of_ble_eq_true rfl) ?_; simp only [initTm, Nat.reduceAdd]
            repeat' (first
  | refine gSq ?_ | refine gSk ?_ | refine gBl ?_ | refine gIb ?_ | refine gEx rfl ?_
  | ((first
  | (refine AGood.at 12 ?_; (refine AGood.freeze 11 rfl ?_; simp only [rfT, rfS, rfO, rf, rf1, e15, e16, Nat.le_refl, true_and, go_sem, simprocAttr]); (refine gRg [] [0, 1, 2, 3, 8, 9, 10, 11, 12, 18, 19, 26, 32, 44, 52, 67] ?_; intro K hK))
  | (refine gRg [] [0, 1, 2, 3, 8, 9, 10, 11, 12, 18, 19, 26, 32, 44, 52, 67] ?_; intro K hK)
  | (refine ACall.use [(6, 11)] [] rfl hpl rfl rfl rfl ?_; rintro _ _ ⟨h6, rfl, rfl⟩; refine ⟨.inl rfl, rfl, ?_⟩; simp only [bk, bk2, bk1, bkS, bkO, idOf, delAll, go_sem, simprocAttr])
  | (refine gd_split ?_ ?_ <;> intro hb <;> (try simp only [bls] at hb) <;> (try simp only [hb]))
  | refine gRt [] [.tmp 8] rfl ?_ | refine gDn [] [.tmp 8] rfl ?_) <;> (try simp only [go_sem, simprocAttr, e1, e2, h1, h2, h3, eq_true h4, Option.some.injEq, forall_eq']))
  | (refine hK _ _ ?_; clear hK K; simp only [go_sem, simprocAttr])
  | refine gCd (by simp only [go_sem, simprocAttr]; rfl) rfl ?_
  | refine brT ?_ | refine brF ?_
  | (refine brS ?_ ?_ <;> intro hc <;> (try simp only [bls] at hc) <;> (try simp only [hc, bls]))
  | intro _ | refine And.intro ?_ ?_)
            all_goals first | omega | (unfold bigLen; omega) | exact ⟨_, _, ⟨rfl, rfl⟩, rfl⟩ | exact ⟨_, rfl⟩ | (rename_i hy; simp only [List.mem_singleton] at hy; subst hy; rfl) | with_reducible rfl | skip
            rename_i h9
            refine AGood.prune [0, 2, 3, 8, 9, 11, 12] ?_; simp only [go_sem, simprocAttr]
            refine AGood.loopInv (α := Nat × List Bool) (fun z => ([(0, .sl q f (nodes ns)), (2, .str w), (3, .sl true false (bools s)), (8, .sl true true []), (9, .bx 9 h9 0), (11, .sl true false (bools z.2)), (12, .int .i64 z.1)], [(9, h9, .box [.int .u8 xo, .int .u64 xa, .int .u64 xb, .int .u64 xc, .int .u64 xd, .sl true false (ints xl), .int .i64 xlo, .int .i64 xhi, .str xn])]))
              (fun z => z.1 ≤ xl.length ∧ z.2.length = w.size + 1 ∧ S = (fs.drop z.1).foldl (fun o f => orB o (f s)) z.2) (fun z => xl.length - z.1) (0, falses (w.size + 1)) ⟨Nat.zero_le _, falses_len _, hS⟩ rfl ?_
            rintro ⟨j, t⟩ ⟨hj, ht, hrun⟩ ih2
            simp only at hj ht hrun ih2 ⊢
            by_cases hle : j < xl.length
            · have f4 : (j : Int) < xl.length := by omega
              have f5 : (0 : Int) ≤ j := by omega
              have f6 : (j : Int) + 1 = ((j + 1 : Nat) : Int) := by omega
              have hx : xl[j]? = some xl[j] := List.getElem?_eq_getElem hle
              have hfx : fs[j]? = some (fs[j]'(by omega)) := List.getElem?_eq_getElem (by omega)
              have hc := ih j _ _ hx hfx s hs
              rw [List.drop_eq_getElem_cons (by omega : j < fs.length), List.foldl_cons] at hrun
              have ha := (hadd (fs[j]'(by omega)) (List.getElem_mem _)).len s hs
              generalize (fs[j]'(by omega)) s = u at hc hrun ha
              generalize xl[j] = kd at hx hc
              have ho := or7uc true false true false t u (by omega) (by omega)
              have hol := orB_len ht ha
              repeat' (first
  | refine gSq ?_ | refine gSk ?_ | refine gBl ?_ | refine gIb ?_ | refine gEx rfl ?_
  | ((first
  | (refine gRg [] [0, 1, 2, 3, 8, 9, 10, 11, 12, 18, 19, 26, 32, 44, 52, 67] ?_; intro K hK)
  | refine cAl (hc) rfl rfl rfl ?_
  | refine cAl (ho) rfl rfl rfl ?_
  | (refine gd_split ?_ ?_ <;> intro hb <;> (try simp only [bls] at hb) <;> (try simp only [hb]))
  | refine gRt [] [.tmp 8] rfl ?_ | refine gDn [] [.tmp 8] rfl ?_) <;> (try simp only [go_sem, simprocAttr, f4, f5, f6, hx, Option.some.injEq, forall_eq']))
  | (refine hK _ _ ?_; clear hK K; simp only [go_sem, simprocAttr])
  | refine gCd (by simp only [go_sem, simprocAttr]; rfl) rfl ?_
  | refine brT ?_ | refine brF ?_
  | (refine brS ?_ ?_ <;> intro hc <;> (try simp only [bls] at hc) <;> (try simp only [hc, bls]))
  | intro _ | refine And.intro ?_ ?_)
              all_goals first | omega | (unfold bigLen; omega) | exact ⟨_, _, ⟨rfl, rfl⟩, rfl⟩ | exact ⟨_, rfl⟩ | (rename_i hy; simp only [List.mem_singleton] at hy; subst hy; rfl) | with_reducible rfl | skip
              refine AGood.filt [9] ?_
              simp only [sf_cons, sf_nil, go_sem, simprocAttr]
              refine AGood.prune [0, 2, 3, 8, 9, 11, 12] ?_; simp only [go_sem, simprocAttr]
              exact (ih2 (j + 1, orB t u) ⟨by simp only; omega, hol, hrun⟩ (by simp only; omega)).cast rfl rfl
            · have f4 : ¬ (j : Int) < xl.length := by omega
              rw [List.drop_eq_nil_of_le (by omega)] at hrun
              simp only [List.foldl_nil] at hrun
              subst hrun
              clear ih2
              repeat' (first
  | refine gSq ?_ | refine gSk ?_ | refine gBl ?_ | refine gIb ?_ | refine gEx rfl ?_
  | ((first
  | (refine gRg [] [0, 1, 2, 3, 8, 9, 10, 11, 12, 18, 19, 26, 32, 44, 52, 67] ?_; intro K hK)
  | (refine gd_split ?_ ?_ <;> intro hb <;> (try simp only [bls] at hb) <;> (try simp only [hb]))
  | refine gRt [] [.tmp 8] rfl ?_ | refine gDn [] [.tmp 8] rfl ?_) <;> (try simp only [go_sem, simprocAttr, f4]))
  | (refine hK _ _ ?_; clear hK K; simp only [go_sem, simprocAttr])
  | refine gCd (by simp only [go_sem, simprocAttr]; rfl) rfl ?_
  | refine brT ?_ | refine brF ?_
  | (refine brS ?_ ?_ <;> intro hc <;> (try simp only [bls] at hc) <;> (try simp only [hc, bls]))
  | intro _ | refine And.intro ?_ ?_)
              all_goals first | omega | (unfold bigLen; omega) | exact ⟨_, _, ⟨rfl, rfl⟩, rfl⟩ | exact ⟨_, rfl⟩ | (rename_i hy; simp only [List.mem_singleton] at hy; subst hy; rfl) | with_reducible rfl | skip
          · rw [if_neg h4]
            by_cases h5 : xo = 5
            · rw [if_pos h5]
              obtain ⟨q1, _, _, q4, q5, q6⟩ := shapeL_rep hshape h5
              simp only at q1 q4 q5 q6
              obtain ⟨kd, hkd⟩ : ∃ kd, xl = [kd] := List.length_eq_one_iff.1 q1
              obtain ⟨g, hg⟩ : ∃ g, fs = [g] := List.length_eq_one_iff.1 (by omega)
              have hc := rep7uc (q := q) (f := f) (ns := ns) hw ⟨xo, ⟨xa, xb, xc, xd⟩, xl, xlo, xhi, xn⟩ kd g hkd ⟨q4, q5⟩ (by simp only; omega) (ih 0 kd g (by rw [hkd]; rfl) (by rw [hg]; rfl)) (hadd g (by rw [hg]; simp)) s hs
              rw [hg, List.headD_cons]
              simp only [Node.cells, Node.cellsF] at hc
              clear hkd hg
              refine ACall.enter Try.func33 rfl (by kernel_rfl) (Nat.le_of_ble_eq_true rfl) ?_; simp only [initTm, Nat.reduceAdd]
              repeat' (first
  | refine gSq ?_ | refine gSk ?_ | refine gBl ?_ | refine gIb ?_ | refine gEx rfl ?_
  | ((first
  | (refine gRg [] [0, 1, 2, 3, 8, 9, 10, 11, 12, 18, 19, 26, 32, 44, 52, 67] ?_; intro K hK)
  | refine cAl (hc) rfl rfl rfl ?_
  | (refine gd_split ?_ ?_ <;> intro hb <;> (try simp only [bls] at hb) <;> (try simp only [hb]))
  | refine gRt [] [.tmp 8] rfl ?_ | refine gDn [] [.tmp 8] rfl ?_) <;> (try simp only [go_sem, simprocAttr, e1, e2, h1, h2, h3, h4, eq_true h5, Option.some.injEq, forall_eq']))
  | (refine hK _ _ ?_; clear hK K; simp only [go_sem, simprocAttr])
  | refine gCd (by simp only [go_sem, simprocAttr]; rfl) rfl ?_
  | refine brT ?_ | refine brF ?_
  | (refine brS ?_ ?_ <;> intro hc <;> (try simp only [bls] at hc) <;> (try simp only [hc, bls]))
  | intro _ | refine And.intro ?_ ?_)
              all_goals first | omega | (unfold bigLen; omega) | exact ⟨_, _, ⟨rfl, rfl⟩, rfl⟩ | exact ⟨_, rfl⟩ | (rename_i hy; simp only [List.mem_singleton] at hy; subst hy; rfl) | with_reducible rfl | skip
            · rw [if_neg h5]
              refine ACall.enter Try.func33 rfl (by kernel_rfl) (Nat.le_of_ble_eq_true rfl) ?_; simp only [initTm, Nat.reduceAdd]
              repeat' (first
  | refine gSq ?_ | refine gSk ?_ | refine gBl ?_ | refine gIb ?_ | refine gEx rfl ?_
  | ((first
  | (refine gRg [] [0, 1, 2, 3, 8, 9, 10, 11, 12, 18, 19, 26, 32, 44, 52, 67] ?_; intro K hK)
  | (refine gd_split ?_ ?_ <;> intro hb <;> (try simp only [bls] at hb) <;> (try simp only [hb]))
  | refine gRt [] [.tmp 8] rfl ?_ | refine gDn [] [.tmp 8] rfl ?_) <;> (try simp only [go_sem, simprocAttr, e1, e2, h1, h2, h3, h4, h5, Option.some.injEq, forall_eq']))
  | (refine hK _ _ ?_; clear hK K; simp only [go_sem, simprocAttr])
  | refine gCd (by simp only [go_sem, simprocAttr]; rfl) rfl ?_
  | refine brT ?_ | refine brF ?_
  | (refine brS ?_ ?_ <;> intro hc <;> (try simp only [bls] at hc) <;> (try simp only [hc, bls]))
  | intro _ | refine And.intro ?_ ?_)
              all_goals first | omega | (unfold bigLen; omega) | exact ⟨_, _, ⟨rfl, rfl⟩, rfl⟩ | exact ⟨_, rfl⟩ | (rename_i hy; simp only [List.mem_singleton] at hy; subst hy; rfl) | with_reducible rfl | skip
end Go.Rad
/- Contracts: syntax, byte by byte: names, trees that are alike. -/
namespace Go.Rad
open Go Go.Proofs
set_option linter.all false
set_option maxRecDepth 20000
set_option maxHeartbeats 4000000

theorem letter4uc (c : Nat) : ACall Try.prog 74 [.int .u8 c] [] fun r s => r = .bool (letterN c) ∧ s = [] := by
  refine ACall.enter Try.func74 rfl (by kernel_rfl) (Nat.le_of_ble_eq_true rfl) ?_; simp only [initTm, Nat.reduceAdd]
  repeat' (first
  | refine gSq ?_ | refine gSk ?_ | refine gBl ?_ | refine gIb ?_ | refine gEx rfl ?_
  | ((first
  | (refine gRg [] [0, 2] ?_; intro K hK)
  | (refine gd_split ?_ ?_ <;> intro hb <;> (try simp only [bls] at hb) <;> (try simp only [hb]))
  | refine gRt [] [.tmp 2] rfl ?_ | refine gDn [] [.tmp 2] rfl ?_) <;> (try simp only [go_sem, simprocAttr]))
  | (refine hK _ _ ?_; clear hK K; simp only [go_sem, simprocAttr])
  | refine gCd (by simp only [go_sem, simprocAttr]; rfl) rfl ?_
  | refine brT ?_ | refine brF ?_
  | (refine brS ?_ ?_ <;> intro hc <;> (try simp only [bls] at hc) <;> (try simp only [hc, bls]))
  | intro _ | refine And.intro ?_ ?_)
  all_goals (refine congrArg AVal.bool ?_; rw [Bool.eq_iff_iff]; simp [letterN] <;> omega)
theorem digit4uc (c : Nat) : ACall Try.prog 75 [.int .u8 c] [] fun r s => r = .bool (digitN c) ∧ s = [] := by
  refine ACall.enter Try.func75 rfl (by kernel_rfl) (Nat.le_of_ble_eq_true rfl) ?_; simp only [initTm, Nat.reduceAdd]
  repeat' (first
  | refine gSq ?_ | refine gSk ?_ | refine gBl ?_ | refine gIb ?_ | refine gEx rfl ?_
  | ((first
  | (refine gRg [] [0, 2] ?_; intro K hK)
  | (refine gd_split ?_ ?_ <;> intro hb <;> (try simp only [bls] at hb) <;> (try simp only [hb]))
  | refine gRt [] [.tmp 2] rfl ?_ | refine gDn [] [.tmp 2] rfl ?_) <;> (try simp only [go_sem, simprocAttr]))
  | (refine hK _ _ ?_; clear hK K; simp only [go_sem, simprocAttr])
  | refine gCd (by simp only [go_sem, simprocAttr]; rfl) rfl ?_
  | refine brT ?_ | refine brF ?_
  | (refine brS ?_ ?_ <;> intro hc <;> (try simp only [bls] at hc) <;> (try simp only [hc, bls]))
  | intro _ | refine And.intro ?_ ?_)
  all_goals (refine congrArg AVal.bool ?_; rw [Bool.eq_iff_iff]; simp [digitN] <;> omega)

theorem name4uc (s : ByteArray) (hs : s.size ≤ maxLen) : ACall Try.prog 65 [.str s] [] fun r s' => r = .bool (nameOk s) ∧ s' = [] := by
  unfold maxLen at hs
  refine ACall.enter Try.func65 rfl (by kernel_rfl) (Nat.le_of_ble_eq_true rfl) ?_; simp only [initTm, Nat.reduceAdd]
  repeat' (first
  | refine gSq ?_ | refine gSk ?_ | refine gBl ?_ | refine gIb ?_ | refine gEx rfl ?_
  | ((first
  | (refine gRg [] [0, 2, 3, 7, 25] ?_; intro K hK)
  | (refine gd_split ?_ ?_ <;> intro hb <;> (try simp only [bls] at hb) <;> (try simp only [hb]))
  | refine gRt [] [.tmp 2] rfl ?_ | refine gDn [] [.tmp 2] rfl ?_) <;> (try simp only [go_sem, simprocAttr]))
  | (refine hK _ _ ?_; clear hK K; simp only [go_sem, simprocAttr])
  | refine gCd (by simp only [go_sem, simprocAttr]; rfl) rfl ?_
  | refine brT ?_ | refine brF ?_
  | (refine brS ?_ ?_ <;> intro hc <;> (try simp only [bls] at hc) <;> (try simp only [hc, bls]))
  | intro _ | refine And.intro ?_ ?_)
  refine AGood.prune [0, 2, 3] ?_; simp only [go_sem, simprocAttr]
  refine AGood.loopInv (α := Nat) (fun i => ([(0, .str s), (2, .bool false), (3, .int .i64 i)], [])) (fun i => i ≤ s.size ∧ (List.range i).all (nmB s) = true) (fun i => s.size - i) 0 ⟨Nat.zero_le _, rfl⟩ rfl ?_
  rintro i ⟨hi, hall⟩ ih
  simp only
  by_cases hle : i < s.size
  · have e4 : (i : Int) < s.size := by omega
    have e6 : (0 : Int) ≤ i := by omega
    repeat' (first
  | refine gSq ?_ | refine gSk ?_ | refine gBl ?_ | refine gIb ?_ | refine gEx rfl ?_
  | ((first
  | (refine gRg [] [0, 2, 3, 7, 25] ?_; intro K hK)
  | refine cAl (letter4uc _) rfl rfl rfl ?_
  | refine cAl (digit4uc _) rfl rfl rfl ?_
  | (refine gd_split ?_ ?_ <;> intro hb <;> (try simp only [bls] at hb) <;> (try simp only [hb]))
  | refine gRt [] [.tmp 2] rfl ?_ | refine gDn [] [.tmp 2] rfl ?_) <;> (try simp only [go_sem, simprocAttr, e4, e6, sbyte_bt]))
  | (refine hK _ _ ?_; clear hK K; simp only [go_sem, simprocAttr])
  | refine gCd (by simp only [go_sem, simprocAttr]; rfl) rfl ?_
  | refine brT ?_ | refine brF ?_
  | (refine brS ?_ ?_ <;> intro hc <;> (try simp only [bls] at hc) <;> (try simp only [hc, bls]))
  | intro _ | refine And.intro ?_ ?_)
    all_goals first
      | omega
      | exact congrArg AVal.bool (name_no hle (by simp [nmB, *]; try omega))
      | (refine AGood.prune [0, 2, 3] ?_; simp only [go_sem, simprocAttr]
         exact (ih (i + 1) ⟨by omega, all_succ hall (by simp [nmB, *]; try omega)⟩ (by omega)).cast rfl rfl)
  · have e4 : ¬ (i : Int) < s.size := by omega
    have e5 : i = s.size := by omega
    subst e5
    repeat' (first
  | refine gSq ?_ | refine gSk ?_ | refine gBl ?_ | refine gIb ?_ | refine gEx rfl ?_
  | ((first
  | (refine gRg [] [0, 2, 3, 7, 25] ?_; intro K hK)
  | (refine gd_split ?_ ?_ <;> intro hb <;> (try simp only [bls] at hb) <;> (try simp only [hb]))
  | refine gRt [] [.tmp 2] rfl ?_ | refine gDn [] [.tmp 2] rfl ?_) <;> (try simp only [go_sem, simprocAttr, e4]))
  | (refine hK _ _ ?_; clear hK K; simp only [go_sem, simprocAttr])
  | refine gCd (by simp only [go_sem, simprocAttr]; rfl) rfl ?_
  | refine brT ?_ | refine brF ?_
  | (refine brS ?_ ?_ <;> intro hc <;> (try simp only [bls] at hc) <;> (try simp only [hc, bls]))
  | intro _ | refine And.intro ?_ ?_)
    all_goals (refine congrArg AVal.bool ?_; rw [Bool.eq_iff_iff]; simp [nameOk, hall] <;> omega)

end Go.Rad
/- Contracts: syntax: names, nodes, trees. -/
namespace Go.Rad
open Go Go.Proofs
set_option linter.all false
set_option maxRecDepth 20000
set_option maxHeartbeats 4000000

theorem letterS_c (c : Nat) : ACall Try.prog 78 [.int .u8 c] [] fun r s => r = .bool (letterN c) ∧ s = [] := by
  refine ACall.enter Try.func78 rfl (by kernel_rfl) (Nat.le_of_ble_eq_true rfl) ?_; simp only [initTm, Nat.reduceAdd]
  repeat' (first
  | refine gSq ?_ | refine gSk ?_ | refine gBl ?_ | refine gIb ?_ | refine gEx rfl ?_
  | ((first
  | (refine gRg [] [0, 2] ?_; intro K hK)
  | (refine gd_split ?_ ?_ <;> intro hb <;> (try simp only [bls] at hb) <;> (try simp only [hb]))
  | refine gRt [] [.tmp 2] rfl ?_ | refine gDn [] [.tmp 2] rfl ?_) <;> (try simp only [go_sem, simprocAttr]))
  | (refine hK _ _ ?_; clear hK K; simp only [go_sem, simprocAttr])
  | refine gCd (by simp only [go_sem, simprocAttr]; rfl) rfl ?_
  | refine brT ?_ | refine brF ?_
  | (refine brS ?_ ?_ <;> intro hc <;> (try simp only [bls] at hc) <;> (try simp only [hc, bls]))
  | intro _ | refine And.intro ?_ ?_)
  all_goals (refine congrArg AVal.bool ?_; rw [Bool.eq_iff_iff]; simp [letterN] <;> omega)
theorem digitS_c (c : Nat) : ACall Try.prog 79 [.int .u8 c] [] fun r s => r = .bool (digitN c) ∧ s = [] := by
  refine ACall.enter Try.func79 rfl (by kernel_rfl) (Nat.le_of_ble_eq_true rfl) ?_; simp only [initTm, Nat.reduceAdd]
  repeat' (first
  | refine gSq ?_ | refine gSk ?_ | refine gBl ?_ | refine gIb ?_ | refine gEx rfl ?_
  | ((first
  | (refine gRg [] [0, 2] ?_; intro K hK)
  | (refine gd_split ?_ ?_ <;> intro hb <;> (try simp only [bls] at hb) <;> (try simp only [hb]))
  | refine gRt [] [.tmp 2] rfl ?_ | refine gDn [] [.tmp 2] rfl ?_) <;> (try simp only [go_sem, simprocAttr]))
  | (refine hK _ _ ?_; clear hK K; simp only [go_sem, simprocAttr])
  | refine gCd (by simp only [go_sem, simprocAttr]; rfl) rfl ?_
  | refine brT ?_ | refine brF ?_
  | (refine brS ?_ ?_ <;> intro hc <;> (try simp only [bls] at hc) <;> (try simp only [hc, bls]))
  | intro _ | refine And.intro ?_ ?_)
  all_goals (refine congrArg AVal.bool ?_; rw [Bool.eq_iff_iff]; simp [digitN] <;> omega)
theorem nameS_c (s : ByteArray) (hs : s.size ≤ maxLen) : ACall Try.prog 68 [.str s] [] fun r s' => r = .bool (nameOk s) ∧ s' = [] := by
  unfold maxLen at hs
  refine ACall.enter Try.func68 rfl (by kernel_rfl) (Nat.le_of_ble_eq_true rfl) ?_; simp only [initTm, Nat.reduceAdd]
  repeat' (first
  | refine gSq ?_ | refine gSk ?_ | refine gBl ?_ | refine gIb ?_ | refine gEx rfl ?_
  | ((first
  | (refine gRg [] [0, 2, 3, 5, 6, 7, 24] ?_; intro K hK)
  | (refine gd_split ?_ ?_ <;> intro hb <;> (try simp only [bls] at hb) <;> (try simp only [hb]))
  | refine gRt [] [.tmp 2] rfl ?_ | refine gDn [] [.tmp 2] rfl ?_) <;> (try simp only [go_sem, simprocAttr]))
  | (refine hK _ _ ?_; clear hK K; simp only [go_sem, simprocAttr])
  | refine gCd (by simp only [go_sem, simprocAttr]; rfl) rfl ?_
  | refine brT ?_ | refine brF ?_
  | (refine brS ?_ ?_ <;> intro hc <;> (try simp only [bls] at hc) <;> (try simp only [hc, bls]))
  | intro _ | refine And.intro ?_ ?_)
  refine AGood.prune [0, 2, 5, 6] ?_; simp only [go_sem, simprocAttr]
  refine AGood.loopInv (α := Nat) (fun i => ([(0, .str s), (2, .bool false), (5, .int .i64 s.size), (6, .int .i64 i)], [])) (fun i => i ≤ s.size ∧ (List.range i).all (nmB s) = true) (fun i => s.size - i) 0 ⟨Nat.zero_le _, rfl⟩ rfl ?_
  rintro i ⟨hi, hall⟩ ih
  simp only
  by_cases hle : i < s.size
  · have e4 : (i : Int) < s.size := by omega
    have e6 : (0 : Int) ≤ i := by omega
    repeat' (first
  | refine gSq ?_ | refine gSk ?_ | refine gBl ?_ | refine gIb ?_ | refine gEx rfl ?_
  | ((first
  | (refine gRg [] [0, 2, 3, 5, 6, 7, 24] ?_; intro K hK)
  | refine cAl (letterS_c _) rfl rfl rfl ?_
  | refine cAl (digitS_c _) rfl rfl rfl ?_
  | (refine gd_split ?_ ?_ <;> intro hb <;> (try simp only [bls] at hb) <;> (try simp only [hb]))
  | refine gRt [] [.tmp 2] rfl ?_ | refine gDn [] [.tmp 2] rfl ?_) <;> (try simp only [go_sem, simprocAttr, e4, e6, sbyte_bt]))
  | (refine hK _ _ ?_; clear hK K; simp only [go_sem, simprocAttr])
  | refine gCd (by simp only [go_sem, simprocAttr]; rfl) rfl ?_
  | refine brT ?_ | refine brF ?_
  | (refine brS ?_ ?_ <;> intro hc <;> (try simp only [bls] at hc) <;> (try simp only [hc, bls]))
  | intro _ | refine And.intro ?_ ?_)
    all_goals first
      | omega
      | exact congrArg AVal.bool (name_no hle (by simp [nmB, *]; try omega))
      | (refine AGood.prune [0, 2, 5, 6] ?_; simp only [go_sem, simprocAttr]
         exact (ih (i + 1) ⟨by omega, all_succ hall (by simp [nmB, *]; try omega)⟩ (by omega)).cast rfl rfl)
  · have e4 : ¬ (i : Int) < s.size := by omega
    have e5 : i = s.size := by omega
    subst e5
    repeat' (first
  | refine gSq ?_ | refine gSk ?_ | refine gBl ?_ | refine gIb ?_ | refine gEx rfl ?_
  | ((first
  | (refine gRg [] [0, 2, 3, 5, 6, 7, 24] ?_; intro K hK)
  | (refine gd_split ?_ ?_ <;> intro hb <;> (try simp only [bls] at hb) <;> (try simp only [hb]))
  | refine gRt [] [.tmp 2] rfl ?_ | refine gDn [] [.tmp 2] rfl ?_) <;> (try simp only [go_sem, simprocAttr, e4]))
  | (refine hK _ _ ?_; clear hK K; simp only [go_sem, simprocAttr])
  | refine gCd (by simp only [go_sem, simprocAttr]; rfl) rfl ?_
  | refine brT ?_ | refine brF ?_
  | (refine brS ?_ ?_ <;> intro hc <;> (try simp only [bls] at hc) <;> (try simp only [hc, bls]))
  | intro _ | refine And.intro ?_ ?_)
    all_goals (refine congrArg AVal.bool ?_; rw [Bool.eq_iff_iff]; simp [nameOk, hall] <;> omega)

theorem equal_c (q f q' f' : Bool) (a b : List Int) (ha : a.length ≤ maxLen) : ACall Try.prog 62 [.sl q f (ints a), .sl q' f' (ints b)] [] fun r s => r = .bool (decide (a = b)) ∧ s = [] := by
  unfold maxLen at ha
  refine ACall.enter Try.func62 rfl (by kernel_rfl) (Nat.le_of_ble_eq_true rfl) ?_; simp only [initTm, Nat.reduceAdd]
  repeat' (first
  | refine gSq ?_ | refine gSk ?_ | refine gBl ?_ | refine gIb ?_ | refine gEx rfl ?_
  | ((first
  | (refine gRg [] [0, 1, 4, 5, 10, 12, 13, 14, 24] ?_; intro K hK)
  | (refine gDr 6 [] 9 [0, 1, 2, 3, 4, 5, 6, 7, 8] [0, 1, 4, 5, 10, 12, 13, 14, 24] rfl ?_; intro K hK)
  | (refine gd_split ?_ ?_ <;> intro hb <;> (try simp only [bls] at hb) <;> (try simp only [hb]))
  | refine gRt [] [.tmp 4] rfl ?_ | refine gDn [] [.tmp 4] rfl ?_) <;> (try simp only [go_sem, simprocAttr]))
  | (refine hK _ _ ?_; clear hK K; simp only [go_sem, simprocAttr])
  | refine gCd (by simp only [go_sem, simprocAttr]; rfl) rfl ?_
  | refine brT ?_ | refine brF ?_
  | (refine brS ?_ ?_ <;> intro hc <;> (try simp only [bls] at hc) <;> (try simp only [hc, bls]))
  | intro _ | refine And.intro ?_ ?_)
  · exact congrArg AVal.bool (by simp only [Bool.false_eq, decide_eq_false_iff_not]; rintro rfl; exact hc rfl)
  have hab : a.length = b.length := by omega
  refine AGood.prune [0, 1, 4, 12, 13] ?_; simp only [go_sem, simprocAttr]
  refine AGood.loopInv (α := Nat) (fun i => ([(0, .sl q f (ints a)), (1, .sl q' f' (ints b)), (4, .bool false), (12, .int .i64 a.length), (13, .int .i64 i)], [])) (fun i => i ≤ a.length ∧ a.take i = b.take i) (fun i => a.length - i) 0 ⟨Nat.zero_le _, rfl⟩ rfl ?_
  rintro i ⟨hi, htk⟩ ih
  simp only
  by_cases hle : i < a.length
  · have e4 : (i : Int) < a.length := by omega
    have e6 : (0 : Int) ≤ i := by omega
    have e7 : (i : Int) < b.length := by omega
    have hx : a[i]? = some a[i] := List.getElem?_eq_getElem hle
    have hy : b[i]? = some b[i] := List.getElem?_eq_getElem (by omega)
    generalize a[i] = x at hx
    generalize b[i] = y at hy
    by_cases hxy : x = y
    · subst hxy
      repeat' (first
  | refine gSq ?_ | refine gSk ?_ | refine gBl ?_ | refine gIb ?_ | refine gEx rfl ?_
  | ((first
  | (refine gRg [] [0, 1, 4, 5, 10, 12, 13, 14, 24] ?_; intro K hK)
  | (refine gDr 6 [] 9 [0, 1, 2, 3, 4, 5, 6, 7, 8] [0, 1, 4, 5, 10, 12, 13, 14, 24] rfl ?_; intro K hK)
  | (refine gd_split ?_ ?_ <;> intro hb <;> (try simp only [bls] at hb) <;> (try simp only [hb]))
  | refine gRt [] [.tmp 4] rfl ?_ | refine gDn [] [.tmp 4] rfl ?_) <;> (try simp only [go_sem, simprocAttr, e4, e6, e7, hx, hy, Option.some.injEq, forall_eq']))
  | (refine hK _ _ ?_; clear hK K; simp only [go_sem, simprocAttr])
  | refine gCd (by simp only [go_sem, simprocAttr]; rfl) rfl ?_
  | refine brT ?_ | refine brF ?_
  | (refine brS ?_ ?_ <;> intro hc <;> (try simp only [bls] at hc) <;> (try simp only [hc, bls]))
  | intro _ | refine And.intro ?_ ?_)
      all_goals first | omega | skip
      refine AGood.prune [0, 1, 4, 12, 13] ?_; simp only [go_sem, simprocAttr]
      exact (ih (i + 1) ⟨by omega, by rw [take_one hx, take_one hy, htk]⟩ (by omega)).cast rfl rfl
    · repeat' (first
  | refine gSq ?_ | refine gSk ?_ | refine gBl ?_ | refine gIb ?_ | refine gEx rfl ?_
  | ((first
  | (refine gRg [] [0, 1, 4, 5, 10, 12, 13, 14, 24] ?_; intro K hK)
  | (refine gDr 6 [] 9 [0, 1, 2, 3, 4, 5, 6, 7, 8] [0, 1, 4, 5, 10, 12, 13, 14, 24] rfl ?_; intro K hK)
  | (refine gd_split ?_ ?_ <;> intro hb <;> (try simp only [bls] at hb) <;> (try simp only [hb]))
  | refine gRt [] [.tmp 4] rfl ?_ | refine gDn [] [.tmp 4] rfl ?_) <;> (try simp only [go_sem, simprocAttr, e4, e6, e7, hx, hy, hxy, Option.some.injEq, forall_eq']))
  | (refine hK _ _ ?_; clear hK K; simp only [go_sem, simprocAttr])
  | refine gCd (by simp only [go_sem, simprocAttr]; rfl) rfl ?_
  | refine brT ?_ | refine brF ?_
  | (refine brS ?_ ?_ <;> intro hc <;> (try simp only [bls] at hc) <;> (try simp only [hc, bls]))
  | intro _ | refine And.intro ?_ ?_)
      refine congrArg AVal.bool ?_
      simp only [Bool.false_eq, decide_eq_false_iff_not]
      rintro rfl
      rw [hx] at hy; exact hxy (Option.some.inj hy)
  · rw [List.take_of_length_le (by omega), List.take_of_length_le (by omega)] at htk
    have e4 : ¬ (i : Int) < a.length := by omega
    repeat' (first
  | refine gSq ?_ | refine gSk ?_ | refine gBl ?_ | refine gIb ?_ | refine gEx rfl ?_
  | ((first
  | (refine gRg [] [0, 1, 4, 5, 10, 12, 13, 14, 24] ?_; intro K hK)
  | (refine gDr 6 [] 9 [0, 1, 2, 3, 4, 5, 6, 7, 8] [0, 1, 4, 5, 10, 12, 13, 14, 24] rfl ?_; intro K hK)
  | (refine gd_split ?_ ?_ <;> intro hb <;> (try simp only [bls] at hb) <;> (try simp only [hb]))
  | refine gRt [] [.tmp 4] rfl ?_ | refine gDn [] [.tmp 4] rfl ?_) <;> (try simp only [go_sem, simprocAttr, e4]))
  | (refine hK _ _ ?_; clear hK K; simp only [go_sem, simprocAttr])
  | refine gCd (by simp only [go_sem, simprocAttr]; rfl) rfl ?_
  | refine brT ?_ | refine brF ?_
  | (refine brS ?_ ?_ <;> intro hc <;> (try simp only [bls] at hc) <;> (try simp only [hc, bls]))
  | intro _ | refine And.intro ?_ ?_)
    simp [htk]
end Go.Rad
/- Contracts: syntax: what a node has; whether nodes are a tree. -/
namespace Go.Rad
open Go Go.Proofs
set_option linter.all false
set_option maxRecDepth 20000
set_option maxHeartbeats 4000000

theorem ba_emptyS : (ByteArray.mk #[]) = ByteArray.empty := Eq.trans rfl rfl
theorem shaped_c (fl : Bool) (n : Node) (hn : n.name.size ≤ maxLen ∧ n.l.length ≤ maxLen) : ACall Try.prog 67 [.agg (n.cellsF fl)] [] fun r s' => r = .bool (shapeOk n) ∧ s' = [] := by
  obtain ⟨hn, hm⟩ := hn
  unfold maxLen at hm
  obtain ⟨no, ⟨na, nb, nc, nd⟩, nl, nlo, nhi, nn⟩ := n
  simp only at hn hm
  simp only [Node.cellsF]
  refine ACall.enter Try.func67 rfl (by kernel_rfl) (Nat.le_of_ble_eq_true rfl) ?_; simp only [initTm, Nat.reduceAdd]
  repeat' (first
  | refine gSq ?_ | refine gSk ?_ | refine gBl ?_ | refine gIb ?_ | refine gEx rfl ?_
  | ((first
  | (refine AGood.at 10 ?_; refine AGood.boxRef 1 1 rfl rfl rfl ?_; simp only [go_sem, simprocAttr]; (refine gDl 10 [] 5 [0, 1, 2, 3, 4, 5, 6, 7] [] [26] [0, 1, 2, 3, 4, 12, 13, 21, 22, 55, 58, 62, 63, 71, 72] rfl ?_; intro K hK))
  | (refine gRg [] [0, 1, 2, 3, 4, 12, 13, 21, 22, 55, 58, 62, 63, 71, 72] ?_; intro K hK)
  | refine cAl (nameS_c _ hn) rfl rfl rfl ?_
  | (refine gd_split ?_ ?_ <;> intro hb <;> (try simp only [bls] at hb) <;> (try simp only [hb]))
  | refine gRt [] [.tmp 2] rfl ?_ | refine gDn [] [.tmp 2] rfl ?_) <;> (try simp only [go_sem, simprocAttr, ba_emptyS]))
  | (refine hK _ _ ?_; clear hK K; simp only [go_sem, simprocAttr])
  | refine gCd (by simp only [go_sem, simprocAttr]; rfl) rfl ?_
  | refine brT ?_ | refine brF ?_
  | (refine brS ?_ ?_ <;> intro hc <;> (try simp only [bls] at hc) <;> (try simp only [hc, bls]))
  | intro _ | refine And.intro ?_ ?_)
  all_goals first
    | omega
    | (refine congrArg AVal.bool ?_; rw [Bool.eq_iff_iff]; simp_all [shapeOk, ISet.none] <;> first | omega | (have h1 : nl.length = 1 := (by omega); have h2 : 1 ≤ nhi ∧ nlo ≤ nhi := (by omega); simp [h1, h2]))
end Go.Rad
/- Contracts: syntax: whether nodes are a tree. -/
namespace Go.Rad
open Go Go.Proofs
set_option linter.all false
set_option maxRecDepth 20000
set_option maxHeartbeats 4000000

theorem stk_no {ns : List Node} {i : Nat} {st : List Int} {n : Node} (h : ¬ (shapeOk n = true ∧ n.l.length ≤ st.length ∧ st.drop (st.length - n.l.length) = n.l)) : stkS (n :: ns) i st = none := by
  rw [stkS, if_neg h]
theorem rightS_no {l : List Node} (h : stkS l 0 [] = none) : false = rightS l := by
  simp [rightS, h]
theorem rightS_c (q f : Bool) (ns : List Node) (hl : ∀ n ∈ ns, n.name.size ≤ maxLen ∧ n.l.length ≤ maxLen) : ACall Try.prog 56 [.sl q f (nodes ns)] [] fun r s => r = .bool (rightS ns) ∧ s = [] := by
  refine ACall.enter Try.func56 rfl (by kernel_rfl) (Nat.le_of_ble_eq_true rfl) ?_; simp only [initTm, Nat.reduceAdd]
  repeat' (first
  | refine gSq ?_ | refine gSk ?_ | refine gBl ?_ | refine gIb ?_ | refine gEx rfl ?_
  | ((first
  | (refine gRg [] [0, 2, 3, 4, 5, 6, 14, 15, 16, 17, 18, 32, 45] ?_; intro K hK)
  | (refine gDr 10 [] 7 [0, 1, 2, 3, 4, 5, 6] [0, 2, 3, 4, 5, 6, 14, 15, 16, 17, 18, 32, 45] rfl ?_; intro K hK)
  | (refine gd_split ?_ ?_ <;> intro hb <;> (try simp only [bls] at hb) <;> (try simp only [hb]))
  | refine gRt [] [.tmp 2] rfl ?_ | refine gDn [] [.tmp 2] rfl ?_) <;> (try simp only [go_sem, simprocAttr]))
  | (refine hK _ _ ?_; clear hK K; simp only [go_sem, simprocAttr])
  | refine gCd (by simp only [go_sem, simprocAttr]; rfl) rfl ?_
  | refine brT ?_ | refine brF ?_
  | (refine brS ?_ ?_ <;> intro hc <;> (try simp only [bls] at hc) <;> (try simp only [hc, bls]))
  | intro _ | refine And.intro ?_ ?_)
  · refine congrArg AVal.bool ?_; simp only [rightS]; rw [show decide (1 ≤ ns.length ∧ ns.length ≤ 1024) = false from by simp; omega, Bool.false_and]
  · have hn1 : 1 ≤ ns.length ∧ ns.length ≤ 1024 := by omega
    refine AGood.ownTm 3 900 1 (by decide) rfl fun g => ?_
    simp only [go_sem, simprocAttr]
    refine AGood.prune [0, 2, 3, 15, 16, 17] ?_; simp only [go_sem, simprocAttr]
    refine AGood.loopInv (α := Nat × List Int × Nat) (fun x => ([(0, .sl q f (nodes ns)), (2, .bool false), (3, .osl 900 x.2.2 0 x.2.1.length), (15, .sl q f (nodes ns)), (16, .int .i64 ns.length), (17, .int .i64 x.1)], [(900, (x.2.2, .row 1 (ints x.2.1)))])) (fun x => x.1 ≤ ns.length ∧ x.2.1.length ≤ x.1 ∧ stkS ns 0 [] = stkS (ns.drop x.1) x.1 x.2.1) (fun x => ns.length - x.1) (0, [], g) ⟨Nat.zero_le _, Nat.zero_le _, rfl⟩ rfl ?_
    rintro ⟨i, st, g⟩ ⟨hi, hst, hrun⟩ ih
    simp only at hi hst hrun ih ⊢
    by_cases hle : i < ns.length
    · have e4 : (i : Int) < ns.length := by omega
      have e5 : (0 : Int) ≤ i := by omega
      have hx : ns[i]? = some ns[i] := List.getElem?_eq_getElem hle
      have hm := hl ns[i] (List.getElem_mem hle)
      have hd : ns.drop i = ns[i] :: ns.drop (i + 1) := List.drop_eq_getElem_cons hle
      rw [hd] at hrun
      generalize ns[i] = x at hx hm hrun
      have hsh := shaped_c false x hm
      by_cases hok : shapeOk x = true
      · by_cases hlt : st.length < x.l.length
        · have hno := stk_no (ns := ns.drop (i + 1)) (i := i) (st := st) (n := x) (by rintro ⟨_, h, _⟩; omega)
          rw [hno] at hrun
          rw [hok] at hsh
          obtain ⟨xo, ⟨xa, xb, xc, xd⟩, xl, xlo, xhi, xn⟩ := x
          simp only at hlt
          have e6 : (st.length : Int) < xl.length := by omega
          repeat' (first
  | refine gSq ?_ | refine gSk ?_ | refine gBl ?_ | refine gIb ?_ | refine gEx rfl ?_
  | ((first
  | (refine gRg [] [0, 2, 3, 4, 5, 6, 14, 15, 16, 17, 18, 32, 45] ?_; intro K hK)
  | (refine gDr 10 [] 7 [0, 1, 2, 3, 4, 5, 6] [0, 2, 3, 4, 5, 6, 14, 15, 16, 17, 18, 32, 45] rfl ?_; intro K hK)
  | refine cAl (hsh) rfl rfl rfl ?_
  | (refine gd_split ?_ ?_ <;> intro hb <;> (try simp only [bls] at hb) <;> (try simp only [hb]))
  | refine gRt [] [.tmp 2] rfl ?_ | refine gDn [] [.tmp 2] rfl ?_) <;> (try simp only [go_sem, simprocAttr, e4, e5, e6, hx, Option.some.injEq, forall_eq']))
  | (refine hK _ _ ?_; clear hK K; simp only [go_sem, simprocAttr])
  | refine gCd (by simp only [go_sem, simprocAttr]; rfl) rfl ?_
  | refine brT ?_ | refine brF ?_
  | (refine brS ?_ ?_ <;> intro hc <;> (try simp only [bls] at hc) <;> (try simp only [hc, bls]))
  | intro _ | refine And.intro ?_ ?_)
          exact congrArg AVal.bool (rightS_no hrun)
        · obtain ⟨m, hm2⟩ : ∃ m, st.length = m + x.l.length := ⟨st.length - x.l.length, by omega⟩
          have hmm : st.length - x.l.length = m := by omega
          by_cases heq : st.drop m = x.l
          · rw [stkS, if_pos ⟨hok, by omega, by rw [hmm]; exact heq⟩, hmm] at hrun
            rw [hok] at hsh
            have ih := fun g' => ih (i + 1, st.take m ++ [(i : Int)], g') ⟨by simp only; omega, by simp; omega, hrun⟩ (by simp only; omega)
            obtain ⟨xo, ⟨xa, xb, xc, xd⟩, xl, xlo, xhi, xn⟩ := x
            simp only at hlt hm2 hmm heq hm
            have e6 : ¬ (st.length : Int) < xl.length := by omega
            have e7 : (st.length : Int) - xl.length = (m : Nat) := by omega
            have e8 : min m st.length = m := by omega
            have hcall := equal_c false false true false (st.drop m) xl (by unfold maxLen; rw [List.length_drop]; omega)
            rw [heq, decide_eq_true rfl] at hcall
            repeat' (first
  | refine gSq ?_ | refine gSk ?_ | refine gBl ?_ | refine gIb ?_ | refine gEx rfl ?_
  | ((first
  | (refine AGood.at 12 ?_; (refine AGood.shrink 900 m rfl ?_; simp only [go_sem, simprocAttr, ← List.map_take]); (refine gRg [] [0, 2, 3, 4, 5, 6, 14, 15, 16, 17, 18, 32, 45] ?_; intro K hK))
  | (refine gRg [] [0, 2, 3, 4, 5, 6, 14, 15, 16, 17, 18, 32, 45] ?_; intro K hK)
  | (refine gDr 10 [] 7 [0, 1, 2, 3, 4, 5, 6] [0, 2, 3, 4, 5, 6, 14, 15, 16, 17, 18, 32, 45] rfl ?_; intro K hK)
  | refine cAl (hsh) rfl rfl rfl ?_
  | (refine ⟨.bool true, ACall.lent [900] hcall (map_two ((tr_lent rfl rfl rfl (by simp; omega)).trans ((congrArg (AVal.sl false false) (ints_part _ _ _)).trans (sl_ints (by rw [List.take_of_length_le (by simp), heq])))) rfl) rfl rfl rfl, ?_⟩)
  | (refine gd_split ?_ ?_ <;> intro hb <;> (try simp only [bls] at hb) <;> (try simp only [hb]))
  | refine gRt [] [.tmp 2] rfl ?_ | refine gDn [] [.tmp 2] rfl ?_) <;> (try simp only [go_sem, simprocAttr, e4, e5, e6, e7, e8, hx, Option.some.injEq, forall_eq', List.length_take]))
  | (refine hK _ _ ?_; clear hK K; simp only [go_sem, simprocAttr])
  | refine gCd (by simp only [go_sem, simprocAttr]; rfl) rfl ?_
  | refine brT ?_ | refine brF ?_
  | (refine brS ?_ ?_ <;> intro hc <;> (try simp only [bls] at hc) <;> (try simp only [hc, bls]))
  | intro _ | refine And.intro ?_ ?_)
            all_goals first | omega | (unfold bigLen; omega) | exact ⟨_, _, ⟨rfl, rfl⟩, rfl⟩ | exact ⟨_, rfl⟩ | (rename_i hy; simp only [List.mem_singleton] at hy; subst hy; rfl) | with_reducible rfl | skip
            rename_i h'
            refine AGood.filt [900] ?_
            simp only [sf_cons, sf_nil, go_sem, simprocAttr]
            refine AGood.prune [0, 2, 3, 15, 16, 17] ?_; simp only [go_sem, simprocAttr]
            exact (ih h').cast (by simp; omega) (by simp)
          · have hno := stk_no (ns := ns.drop (i + 1)) (i := i) (st := st) (n := x) (by rintro ⟨_, _, h⟩; rw [hmm] at h; exact heq h)
            rw [hno] at hrun
            rw [hok] at hsh
            obtain ⟨xo, ⟨xa, xb, xc, xd⟩, xl, xlo, xhi, xn⟩ := x
            simp only at hlt hm2 hmm heq hm
            have e6 : ¬ (st.length : Int) < xl.length := by omega
            have e7 : (st.length : Int) - xl.length = (m : Nat) := by omega
            have hcall := equal_c false false true false (st.drop m) xl (by unfold maxLen; rw [List.length_drop]; omega)
            rw [decide_eq_false heq] at hcall
            repeat' (first
  | refine gSq ?_ | refine gSk ?_ | refine gBl ?_ | refine gIb ?_ | refine gEx rfl ?_
  | ((first
  | (refine gRg [] [0, 2, 3, 4, 5, 6, 14, 15, 16, 17, 18, 32, 45] ?_; intro K hK)
  | (refine gDr 10 [] 7 [0, 1, 2, 3, 4, 5, 6] [0, 2, 3, 4, 5, 6, 14, 15, 16, 17, 18, 32, 45] rfl ?_; intro K hK)
  | refine cAl (hsh) rfl rfl rfl ?_
  | (refine ⟨.bool false, ACall.lent [900] hcall (map_two ((tr_lent rfl rfl rfl (by simp; omega)).trans ((congrArg (AVal.sl false false) (ints_part _ _ _)).trans (sl_ints (by rw [List.take_of_length_le (by simp)])))) rfl) rfl rfl rfl, ?_⟩)
  | (refine gd_split ?_ ?_ <;> intro hb <;> (try simp only [bls] at hb) <;> (try simp only [hb]))
  | refine gRt [] [.tmp 2] rfl ?_ | refine gDn [] [.tmp 2] rfl ?_) <;> (try simp only [go_sem, simprocAttr, e4, e5, e6, e7, hx, Option.some.injEq, forall_eq', List.length_take]))
  | (refine hK _ _ ?_; clear hK K; simp only [go_sem, simprocAttr])
  | refine gCd (by simp only [go_sem, simprocAttr]; rfl) rfl ?_
  | refine brT ?_ | refine brF ?_
  | (refine brS ?_ ?_ <;> intro hc <;> (try simp only [bls] at hc) <;> (try simp only [hc, bls]))
  | intro _ | refine And.intro ?_ ?_)
            all_goals first | omega | (unfold bigLen; omega) | exact ⟨_, _, ⟨rfl, rfl⟩, rfl⟩ | exact ⟨_, rfl⟩ | (rename_i hy; simp only [List.mem_singleton] at hy; subst hy; rfl) | with_reducible rfl | skip
            exact congrArg AVal.bool (rightS_no hrun)
      · have hno := stk_no (ns := ns.drop (i + 1)) (i := i) (st := st) (n := x) (by rintro ⟨h, _⟩; exact hok h)
        rw [hno] at hrun
        rw [show shapeOk x = false from by simpa using hok] at hsh
        obtain ⟨xo, ⟨xa, xb, xc, xd⟩, xl, xlo, xhi, xn⟩ := x
        repeat' (first
  | refine gSq ?_ | refine gSk ?_ | refine gBl ?_ | refine gIb ?_ | refine gEx rfl ?_
  | ((first
  | (refine gRg [] [0, 2, 3, 4, 5, 6, 14, 15, 16, 17, 18, 32, 45] ?_; intro K hK)
  | (refine gDr 10 [] 7 [0, 1, 2, 3, 4, 5, 6] [0, 2, 3, 4, 5, 6, 14, 15, 16, 17, 18, 32, 45] rfl ?_; intro K hK)
  | refine cAl (hsh) rfl rfl rfl ?_
  | (refine gd_split ?_ ?_ <;> intro hb <;> (try simp only [bls] at hb) <;> (try simp only [hb]))
  | refine gRt [] [.tmp 2] rfl ?_ | refine gDn [] [.tmp 2] rfl ?_) <;> (try simp only [go_sem, simprocAttr, e4, e5, hx, Option.some.injEq, forall_eq']))
  | (refine hK _ _ ?_; clear hK K; simp only [go_sem, simprocAttr])
  | refine gCd (by simp only [go_sem, simprocAttr]; rfl) rfl ?_
  | refine brT ?_ | refine brF ?_
  | (refine brS ?_ ?_ <;> intro hc <;> (try simp only [bls] at hc) <;> (try simp only [hc, bls]))
  | intro _ | refine And.intro ?_ ?_)
        exact congrArg AVal.bool (rightS_no hrun)
    · have e4 : ¬ (i : Int) < ns.length := by omega
      have hin : i = ns.length := by omega
      subst hin
      rw [List.drop_length] at hrun
      repeat' (first
  | refine gSq ?_ | refine gSk ?_ | refine gBl ?_ | refine gIb ?_ | refine gEx rfl ?_
  | ((first
  | (refine gRg [] [0, 2, 3, 4, 5, 6, 14, 15, 16, 17, 18, 32, 45] ?_; intro K hK)
  | (refine gDr 10 [] 7 [0, 1, 2, 3, 4, 5, 6] [0, 2, 3, 4, 5, 6, 14, 15, 16, 17, 18, 32, 45] rfl ?_; intro K hK)
  | (refine gd_split ?_ ?_ <;> intro hb <;> (try simp only [bls] at hb) <;> (try simp only [hb]))
  | refine gRt [] [.tmp 2] rfl ?_ | refine gDn [] [.tmp 2] rfl ?_) <;> (try simp only [go_sem, simprocAttr, e4]))
  | (refine hK _ _ ?_; clear hK K; simp only [go_sem, simprocAttr])
  | refine gCd (by simp only [go_sem, simprocAttr]; rfl) rfl ?_
  | refine brT ?_ | refine brF ?_
  | (refine brS ?_ ?_ <;> intro hc <;> (try simp only [bls] at hc) <;> (try simp only [hc, bls]))
  | intro _ | refine And.intro ?_ ?_)
      refine congrArg AVal.bool ?_
      simp only [rightS, hrun, stkS, hn1, and_self, decide_true, Bool.true_and]
      rw [decide_eq_decide]
      omega
  · refine congrArg AVal.bool ?_; simp only [rightS]; rw [show decide (1 ≤ ns.length ∧ ns.length ≤ 1024) = false from by simp; omega, Bool.false_and]
end Go.Rad
/- Contracts: norm: a node is put. -/
namespace Go.Rad
open Go Go.Proofs
set_option linter.all false
set_option maxRecDepth 20000
set_option maxHeartbeats 4000000

theorem clone_c (q f : Bool) (l : List Int) (hl : l.length ≤ 1000000) : ACall Try.prog 30 [.sl q f (ints l)] [] fun r s => (l = [] ∧ r = .sl true true [] ∧ s = []) ∨ (∃ h, r = .osl 5 h 0 l.length ∧ s = [(5, (h, .row 1 (ints l)))]) := by
  refine ACall.enter Try.func30 rfl (by kernel_rfl) (Nat.le_of_ble_eq_true rfl) ?_; simp only [initTm, Nat.reduceAdd]
  repeat' (first
  | refine gSq ?_ | refine gSk ?_ | refine gBl ?_ | refine gIb ?_ | refine gEx rfl ?_
  | ((first
  | (refine gRg [] [0, 2, 4] ?_; intro K hK)
  | (refine gd_split ?_ ?_ <;> intro hb <;> (try simp only [bls] at hb) <;> (try simp only [hb]))
  | refine gRt [5] [.tmp 2] rfl ?_ | refine gDn [5] [.tmp 2] rfl ?_) <;> (try simp only [go_sem, simprocAttr]))
  | (refine hK _ _ ?_; clear hK K; simp only [go_sem, simprocAttr])
  | refine gCd (by simp only [go_sem, simprocAttr]; rfl) rfl ?_
  | refine brT ?_ | refine brF ?_
  | (refine brS ?_ ?_ <;> intro hc <;> (try simp only [bls] at hc) <;> (try simp only [hc, bls]))
  | intro _ | refine And.intro ?_ ?_)
  all_goals first | omega | (unfold bigLen; omega) | exact ⟨_, _, ⟨rfl, rfl⟩, rfl⟩ | exact ⟨_, rfl⟩ | (rename_i hy; simp only [List.mem_singleton] at hy; subst hy; rfl) | with_reducible rfl | skip
  · rename_i h; exact .inl (by simpa using h hc)
  · rename_i y hy; obtain ⟨k, _, rfl⟩ := List.mem_map.1 hy; rfl
  · rename_i y hy; obtain ⟨k, _, rfl⟩ := List.mem_map.1 hy; rfl
  · rename_i h; exact .inr ⟨h, by simp⟩

abbrev xbox (g2 g3 g1 n : Nat) : AObj := .box [.map 1002 g2, .map 1003 g3, .osl 1001 g1 0 n]
abbrev xsto (g g1 g2 g3 : Nat) (dm om : List (ByteArray × AVal)) (out : List Node) : Sto := [(1000, (g, xbox g2 g3 g1 out.length)), (1001, (g1, .row 9 (nodes out))), (1002, (g2, .mp dm)), (1003, (g3, .mp om))]
theorem put_c (n : Node) (q f : Bool) (A : List Int) (out : List Node) (g g1 g2 g3 : Nat) (dm om : List (ByteArray × AVal)) (hk : ∀ k ∈ n.l, 0 ≤ k ∧ k < A.length) (hn : n.l.length ≤ 1000000) (ho : out.length ≤ 1000000) :
    ACall Try.prog 70 [.bx 1000 g 0, .agg n.cells, .sl q f (ints A)] (xsto g g1 g2 g3 dm om out) fun r s => r = .tup [.int .i64 (putS n A out).2.1, .int .i64 (putS n A out).2.2] ∧ ∃ h1, s = xsto g h1 g2 g3 dm om (putS n A out).1 := by
  obtain ⟨xo, ⟨xa, xb, xc, xd⟩, xl, xlo, xhi, xn⟩ := n
  simp only at hk hn
  simp only [xsto, xbox, Node.cells, Node.cellsF]
  refine ACall.enter Try.func70 rfl (by kernel_rfl) (Nat.le_of_ble_eq_true rfl) ?_; simp only [initTm, Nat.reduceAdd]
  by_cases hlong : 1024 ≤ out.length
  · have e1 : (1024 : Int) ≤ out.length := by omega
    repeat' (first
  | refine gSq ?_ | refine gSk ?_ | refine gBl ?_ | refine gIb ?_ | refine gEx rfl ?_
  | ((first
  | (refine gRg [43] [0, 1, 2, 4, 6, 7, 8, 9, 15, 21, 22, 23, 24] ?_; intro K hK)
  | (refine gDr 7 [43] 8 [0, 1, 2, 3, 4, 5, 6, 7, 8] [0, 1, 2, 4, 6, 7, 8, 9, 15, 21, 22, 23, 24] rfl ?_; intro K hK)
  | (refine gDr 9 [43] 7 [0, 1, 2, 3, 4, 5, 6, 7, 8, 9, 10] [0, 1, 2, 4, 6, 7, 8, 9, 15, 21, 22, 23, 24] rfl ?_; intro K hK)
  | (refine gd_split ?_ ?_ <;> intro hb <;> (try simp only [bls] at hb) <;> (try simp only [hb]))
  | refine gRt [1000, 1001, 1002, 1003] [.tmp 6, .tmp 7] rfl ?_ | refine gDn [1000, 1001, 1002, 1003] [.tmp 6, .tmp 7] rfl ?_) <;> (try simp only [go_sem, simprocAttr, e1]))
  | (refine hK _ _ ?_; clear hK K; simp only [go_sem, simprocAttr])
  | refine gCd (by simp only [go_sem, simprocAttr]; rfl) rfl ?_
  | refine brT ?_ | refine brF ?_
  | (refine brS ?_ ?_ <;> intro hc <;> (try simp only [bls] at hc) <;> (try simp only [hc, bls]))
  | intro _ | refine And.intro ?_ ?_)
    · simp [putS, hlong]
    · exact ⟨g1, by simp [putS, hlong]⟩
  · have e1 : ¬ (1024 : Int) ≤ out.length := by omega
    have hp : putS ⟨xo, ⟨xa, xb, xc, xd⟩, xl, xlo, xhi, xn⟩ A out = (out ++ [⟨xo, ⟨xa, xb, xc, xd⟩, xl.map (atF A), xlo, xhi, xn⟩], (out.length : Int), 0) := by simp only [putS, if_neg hlong]
    rw [hp]; clear hp
    simp only
    repeat' (first
  | refine gSq ?_ | refine gSk ?_ | refine gBl ?_ | refine gIb ?_ | refine gEx rfl ?_
  | ((first
  | (refine gRg [43] [0, 1, 2, 4, 6, 7, 8, 9, 15, 21, 22, 23, 24] ?_; intro K hK)
  | (refine gDr 7 [43] 8 [0, 1, 2, 3, 4, 5, 6, 7, 8] [0, 1, 2, 4, 6, 7, 8, 9, 15, 21, 22, 23, 24] rfl ?_; intro K hK)
  | (refine gDr 9 [43] 7 [0, 1, 2, 3, 4, 5, 6, 7, 8, 9, 10] [0, 1, 2, 4, 6, 7, 8, 9, 15, 21, 22, 23, 24] rfl ?_; intro K hK)
  | (refine ACall.use [(5, 18)] [] rfl (clone_c true false xl hn) rfl rfl rfl ?_; rintro _ _ (⟨rfl, rfl, rfl⟩ | ⟨h5, rfl, rfl⟩) <;> refine ⟨.inl rfl, rfl, ?_⟩ <;> simp only [bk, bk2, bk1, bkS, bkO, idOf, delAll, go_sem, simprocAttr])
  | (refine gd_split ?_ ?_ <;> intro hb <;> (try simp only [bls] at hb) <;> (try simp only [hb]))
  | refine gRt [1000, 1001, 1002, 1003] [.tmp 6, .tmp 7] rfl ?_ | refine gDn [1000, 1001, 1002, 1003] [.tmp 6, .tmp 7] rfl ?_) <;> (try simp only [go_sem, simprocAttr, e1]))
  | (refine hK _ _ ?_; clear hK K; simp only [go_sem, simprocAttr])
  | refine gCd (by simp only [go_sem, simprocAttr]; rfl) rfl ?_
  | refine brT ?_ | refine brF ?_
  | (refine brS ?_ ?_ <;> intro hc <;> (try simp only [bls] at hc) <;> (try simp only [hc, bls]))
  | intro _ | refine And.intro ?_ ?_)
    · refine AGood.loop ?_
      repeat' (first
  | refine gSq ?_ | refine gSk ?_ | refine gBl ?_ | refine gIb ?_ | refine gEx rfl ?_
  | ((first
  | (refine gRg [43] [0, 1, 2, 4, 6, 7, 8, 9, 15, 21, 22, 23, 24] ?_; intro K hK)
  | (refine gDr 7 [43] 8 [0, 1, 2, 3, 4, 5, 6, 7, 8] [0, 1, 2, 4, 6, 7, 8, 9, 15, 21, 22, 23, 24] rfl ?_; intro K hK)
  | (refine gDr 9 [43] 7 [0, 1, 2, 3, 4, 5, 6, 7, 8, 9, 10] [0, 1, 2, 4, 6, 7, 8, 9, 15, 21, 22, 23, 24] rfl ?_; intro K hK)
  | (refine gd_split ?_ ?_ <;> intro hb <;> (try simp only [bls] at hb) <;> (try simp only [hb]))
  | refine gRt [1000, 1001, 1002, 1003] [.tmp 6, .tmp 7] rfl ?_ | refine gDn [1000, 1001, 1002, 1003] [.tmp 6, .tmp 7] rfl ?_) <;> (try simp only [go_sem, simprocAttr, e1]))
  | (refine hK _ _ ?_; clear hK K; simp only [go_sem, simprocAttr])
  | refine gCd (by simp only [go_sem, simprocAttr]; rfl) rfl ?_
  | refine brT ?_ | refine brF ?_
  | (refine brS ?_ ?_ <;> intro hc <;> (try simp only [bls] at hc) <;> (try simp only [hc, bls]))
  | intro _ | refine And.intro ?_ ?_)
      all_goals first | omega | (unfold bigLen; omega) | exact ⟨_, _, ⟨rfl, rfl⟩, rfl⟩ | exact ⟨_, rfl⟩ | (rename_i hy; simp only [List.mem_singleton] at hy; subst hy; rfl) | with_reducible rfl | skip
      · simp
      · rename_i h' ; exact ⟨h', by simp⟩
    · rename_i h4
      refine AGood.prune [0, 2, 4, 21, 22, 23] ?_; simp only [go_sem, simprocAttr]
      refine AGood.loopInv (α := Nat × List Int) (fun x => ([(0, .bx 1000 g 0), (2, .sl q f (ints A)), (4, .bx 4 h4 0), (21, .osl 18 h5 0 xl.length), (22, .int .i64 xl.length), (23, .int .i64 x.1)],
        [(4, h4, .box [.int .u8 xo, .int .u64 xa, .int .u64 xb, .int .u64 xc, .int .u64 xd, .osl 18 h5 0 xl.length, .int .i64 xlo, .int .i64 xhi, .str xn]), (18, h5, .row 1 (ints x.2)), (1000, g, .box [.map 1002 g2, .map 1003 g3, .osl 1001 g1 0 out.length]), (1001, g1, .row 9 (nodes out)), (1002, g2, .mp dm), (1003, g3, .mp om)]))
        (fun x => x.1 ≤ xl.length ∧ x.2 = (xl.take x.1).map (atF A) ++ xl.drop x.1) (fun x => xl.length - x.1) (0, xl) ⟨Nat.zero_le _, by simp⟩ rfl ?_
      rintro ⟨i, W⟩ ⟨hi, hW⟩ ih
      simp only at hi hW ih ⊢
      by_cases hle : i < xl.length
      · have e4 : (i : Int) < xl.length := by omega
        have e5 : (0 : Int) ≤ i := by omega
        have hk2 : xl[i]? = some xl[i] := List.getElem?_eq_getElem hle
        have hmem := hk xl[i] (List.getElem_mem hle)
        generalize xl[i] = k at hk2 hmem
        obtain ⟨w1, w2, w3⟩ := put_row hW hk2
        have e6 : i < W.length := by omega
        obtain ⟨m, rfl⟩ : ∃ m : Nat, k = m := ⟨k.toNat, by omega⟩
        have e7 : (m : Int) < A.length := hmem.2
        have e8 : (0 : Int) ≤ m := by omega
        have hA : A[m]? = some (atF A m) := by
          have : m < A.length := by omega
          simp [atF, List.getElem?_eq_getElem this]
        repeat' (first
  | refine gSq ?_ | refine gSk ?_ | refine gBl ?_ | refine gIb ?_ | refine gEx rfl ?_
  | ((first
  | (refine gRg [43] [0, 1, 2, 4, 6, 7, 8, 9, 15, 21, 22, 23, 24] ?_; intro K hK)
  | (refine gDr 7 [43] 8 [0, 1, 2, 3, 4, 5, 6, 7, 8] [0, 1, 2, 4, 6, 7, 8, 9, 15, 21, 22, 23, 24] rfl ?_; intro K hK)
  | (refine gDr 9 [43] 7 [0, 1, 2, 3, 4, 5, 6, 7, 8, 9, 10] [0, 1, 2, 4, 6, 7, 8, 9, 15, 21, 22, 23, 24] rfl ?_; intro K hK)
  | (refine gd_split ?_ ?_ <;> intro hb <;> (try simp only [bls] at hb) <;> (try simp only [hb]))
  | refine gRt [1000, 1001, 1002, 1003] [.tmp 6, .tmp 7] rfl ?_ | refine gDn [1000, 1001, 1002, 1003] [.tmp 6, .tmp 7] rfl ?_) <;> (try simp only [go_sem, simprocAttr, e1, e4, e5, e6, e7, e8, w2, hA, Option.some.injEq, forall_eq']))
  | (refine hK _ _ ?_; clear hK K; simp only [go_sem, simprocAttr])
  | refine gCd (by simp only [go_sem, simprocAttr]; rfl) rfl ?_
  | refine brT ?_ | refine brF ?_
  | (refine brS ?_ ?_ <;> intro hc <;> (try simp only [bls] at hc) <;> (try simp only [hc, bls]))
  | intro _ | refine And.intro ?_ ?_)
        all_goals first | omega | (unfold bigLen; omega) | exact ⟨_, _, ⟨rfl, rfl⟩, rfl⟩ | exact ⟨_, rfl⟩ | (rename_i hy; simp only [List.mem_singleton] at hy; subst hy; rfl) | with_reducible rfl | skip
        rename_i y hy
        have hy2 : y = [.int .i64 m] := by
          rw [List.getElem?_map, w2] at hy
          simpa using hy.symm
        subst hy2
        refine AGood.prune [0, 2, 4, 21, 22, 23] ?_; simp only [go_sem, simprocAttr]
        exact (ih (i + 1, W.set i (atF A m)) ⟨by simp only; omega, w3⟩ (by simp only; omega)).cast rfl (by simp [ints, List.map_set])
      · have e4 : ¬ (i : Int) < xl.length := by omega
        have hin : i = xl.length := by omega
        subst hin
        simp only [List.take_length, List.drop_length, List.append_nil] at hW
        subst hW
        have e5 : (ints (xl.map (atF A))).take xl.length = ints (xl.map (atF A)) := List.take_of_length_le (by simp)
        repeat' (first
  | refine gSq ?_ | refine gSk ?_ | refine gBl ?_ | refine gIb ?_ | refine gEx rfl ?_
  | ((first
  | (refine AGood.at 9 ?_; (refine AGood.freeze 18 rfl ?_; simp only [rfT, rfS, rfO, rf, rf1, e5, true_and, go_sem, simprocAttr]); (refine gDr 9 [43] 7 [0, 1, 2, 3, 4, 5, 6, 7, 8, 9, 10] [0, 1, 2, 4, 6, 7, 8, 9, 15, 21, 22, 23, 24] rfl ?_; intro K hK))
  | (refine gRg [43] [0, 1, 2, 4, 6, 7, 8, 9, 15, 21, 22, 23, 24] ?_; intro K hK)
  | (refine gDr 7 [43] 8 [0, 1, 2, 3, 4, 5, 6, 7, 8] [0, 1, 2, 4, 6, 7, 8, 9, 15, 21, 22, 23, 24] rfl ?_; intro K hK)
  | (refine gd_split ?_ ?_ <;> intro hb <;> (try simp only [bls] at hb) <;> (try simp only [hb]))
  | refine gRt [1000, 1001, 1002, 1003] [.tmp 6, .tmp 7] rfl ?_ | refine gDn [1000, 1001, 1002, 1003] [.tmp 6, .tmp 7] rfl ?_) <;> (try simp only [go_sem, simprocAttr, e1, e4]))
  | (refine hK _ _ ?_; clear hK K; simp only [go_sem, simprocAttr])
  | refine gCd (by simp only [go_sem, simprocAttr]; rfl) rfl ?_
  | refine brT ?_ | refine brF ?_
  | (refine brS ?_ ?_ <;> intro hc <;> (try simp only [bls] at hc) <;> (try simp only [hc, bls]))
  | intro _ | refine And.intro ?_ ?_)
        all_goals first | omega | (unfold bigLen; omega) | exact ⟨_, _, ⟨rfl, rfl⟩, rfl⟩ | exact ⟨_, rfl⟩ | (rename_i hy; simp only [List.mem_singleton] at hy; subst hy; rfl) | with_reducible rfl | skip
        · simp
        · rename_i h'; exact ⟨h', by simp⟩
end Go.Rad
