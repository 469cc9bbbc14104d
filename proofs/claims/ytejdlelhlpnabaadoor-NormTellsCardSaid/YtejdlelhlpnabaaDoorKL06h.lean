/- What arguments of the laws of layer 6 are. -/
import Derived.Test.YtejdlelhlpnabaaDoorKC06e
import Derived.Test.YtejdlelhlpnabaaDoorKRRow
set_option linter.all false
namespace Go.Rad
open Go Go.Proofs
def nodesOk (l : List Node) : Prop := l.length ≤ maxLen ∧ ∀ n ∈ l, n.name.size ≤ maxLen ∧ n.l.length ≤ maxLen
def dfsOk (ds : List Df) : Prop := ds.length ≤ maxLen ∧ ∀ d ∈ ds, d.name.size ≤ maxLen ∧ nodesOk d.l
theorem rightS_nodesOk {l : List Node} (h : rightS l = true) : nodesOk l := by
  obtain ⟨_, _, _, h2⟩ := rightS_kids h
  exact ⟨by unfold maxLen; omega, rightS_bounds h⟩
theorem some_ok {ds : List Df} (h : dfsOk ds) : (someS ds).length ≤ 900000 ∧ ∀ d ∈ someS ds, dfOk d := by
  refine ⟨?_, fun d hd => ?_⟩
  · refine Nat.le_trans (List.length_filter_le _ _) ?_
    rw [List.length_take]; omega
  · obtain ⟨a, b⟩ := h.2 d (List.mem_of_mem_take (List.mem_filter.1 hd).1)
    exact ⟨a, b.2⟩
end Go.Rad
