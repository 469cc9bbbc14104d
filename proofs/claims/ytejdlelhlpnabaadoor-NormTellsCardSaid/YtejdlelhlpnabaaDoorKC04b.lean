/- Contracts: syntax, byte by byte: what a node has; whether nodes are a tree. -/
import Derived.Test.YtejdlelhlpnabaaDoorKC04a
import Derived.Test.YtejdlelhlpnabaaDoorKRText
set_option linter.all false
namespace Go.Rad
open Go Go.Proofs
set_option linter.all false
set_option maxRecDepth 20000
set_option maxHeartbeats 4000000

theorem ba_empty : (ByteArray.mk #[]) = ByteArray.empty := Eq.trans rfl rfl
theorem shape4uc (fl : Bool) (n : Node) (hn : n.name.size ≤ maxLen) : ACall Tryd.prog 33 [.agg (n.cellsF fl)] [] fun r s' => r = .bool (shapeOk n) ∧ s' = [] := by
  obtain ⟨no, ⟨na, nb, nc, nd⟩, nl, nlo, nhi, nn⟩ := n
  simp only [Node.cellsF]
  refine ACall.enter Tryd.func33 rfl (by kernel_rfl) (Nat.le_of_ble_eq_true rfl) ?_; simp only [initTm, Nat.reduceAdd]
  repeat' (first
  | refine gSq ?_ | refine gSk ?_ | refine gBl ?_ | refine gIb ?_ | refine gEx rfl ?_
  | ((first
  | (refine gRg [] [0, 1, 2, 3, 4, 5, 6, 23, 24, 42, 59, 78, 125] ?_; intro K hK)
  | refine cAl (name4uc _ hn) rfl rfl rfl ?_
  | (refine gd_split ?_ ?_ <;> intro hb <;> (try simp only [bls] at hb) <;> (try simp only [hb]))
  | refine gRt [] [.tmp 2] rfl ?_ | refine gDn [] [.tmp 2] rfl ?_) <;> (try simp only [go_sem, simprocAttr, ba_empty]))
  | (refine hK _ _ ?_; clear hK K; simp only [go_sem, simprocAttr])
  | refine gCd (by simp only [go_sem, simprocAttr]; rfl) rfl ?_
  | refine brT ?_ | refine brF ?_
  | (refine brS ?_ ?_ <;> intro hc <;> (try simp only [bls] at hc) <;> (try simp only [hc, bls]))
  | intro _ | refine And.intro ?_ ?_)
  all_goals (refine congrArg AVal.bool ?_; simp_all [shapeOk, ISet.none] <;> omega)
end Go.Rad
