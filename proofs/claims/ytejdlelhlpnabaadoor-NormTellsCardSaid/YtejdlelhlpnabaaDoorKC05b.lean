/- Contracts: syntax: what a node has; whether nodes are a tree. -/
import Derived.Test.YtejdlelhlpnabaaDoorKC05a
import Derived.Test.YtejdlelhlpnabaaDoorKRText
set_option linter.all false
namespace Go.Rad
open Go Go.Proofs
set_option linter.all false
set_option maxRecDepth 20000
set_option maxHeartbeats 4000000

theorem ba_emptyS : (ByteArray.mk #[]) = ByteArray.empty := Eq.trans rfl rfl
theorem shaped_c (fl : Bool) (n : Node) (hn : n.name.size ≤ maxLen ∧ n.l.length ≤ maxLen) : ACall Tryd.prog 38 [.agg (n.cellsF fl)] [] fun r s' => r = .bool (shapeOk n) ∧ s' = [] := by
  obtain ⟨hn, hm⟩ := hn
  unfold maxLen at hm
  obtain ⟨no, ⟨na, nb, nc, nd⟩, nl, nlo, nhi, nn⟩ := n
  simp only at hn hm
  simp only [Node.cellsF]
  refine ACall.enter Tryd.func38 rfl (by kernel_rfl) (Nat.le_of_ble_eq_true rfl) ?_; simp only [initTm, Nat.reduceAdd]
  repeat' (first
  | refine gSq ?_ | refine gSk ?_ | refine gBl ?_ | refine gIb ?_ | refine gEx rfl ?_
  | ((first
  | (refine AGood.at 10 ?_; refine AGood.boxRef 1 1 rfl rfl rfl ?_; simp only [go_sem, simprocAttr]; (refine gDl 10 [] 5 [0, 1, 2, 3, 4, 5, 6, 7] [] [26] [0, 1, 2, 3, 4, 12, 13, 21, 22, 55, 58, 62, 63, 71, 72] rfl ?_; intro K hK))
  | (refine gRg [] [0, 1, 2, 3, 4, 12, 13, 21, 22, 55, 58, 62, 63, 71, 72] ?_; intro K hK)
  | refine cAl (nameS_c _ hn) rfl rfl rfl ?_
  | (refine gd_split ?_ ?_ <;> intro hb <;> (try simp only [bls] at hb) <;> (try simp only [hb]))
  | refine gRt [] [.tmp 2] rfl ?_ | refine gDn [] [.tmp 2] rfl ?_) <;> (try simp only [go_sem, simprocAttr, ba_emptyS]))
  | (refine hK _ _ ?_; clear hK K; simp only [go_sem, simprocAttr])
  | refine gCd (by simp only [go_sem, simprocAttr]; rfl) rfl ?_
  | refine brT ?_ | refine brF ?_
  | (refine brS ?_ ?_ <;> intro hc <;> (try simp only [bls] at hc) <;> (try simp only [hc, bls]))
  | intro _ | refine And.intro ?_ ?_)
  all_goals first
    | omega
    | (refine congrArg AVal.bool ?_; rw [Bool.eq_iff_iff]; simp_all [shapeOk, ISet.none] <;> first | omega | (have h1 : nl.length = 1 := (by omega); have h2 : 1 ≤ nhi ∧ nlo ≤ nhi := (by omega); simp [h1, h2]))
end Go.Rad
