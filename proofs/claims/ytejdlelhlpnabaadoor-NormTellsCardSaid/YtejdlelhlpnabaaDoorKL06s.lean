/- What the head of all statements of layer 6 computes. -/
import Derived.Test.YtejdlelhlpnabaaDoorKL06h
import Derived.Test.YtejdlelhlpnabaaDoorKP06
set_option linter.all false
namespace Go.Rad
open Go Go.Proofs
set_option linter.all false
set_option maxRecDepth 20000
set_option maxHeartbeats 4000000

theorem shown6uc : ACall Tryd.prog 7 [] [] fun r s => r = .bool true ∧ s = [] := by
  have r1 : rightS [nRefD, nRep] = true := by decide +kernel
  have r2 : rightS [nDig] = true := by decide +kernel
  have r4 : rightS [nRefD] = true := by decide +kernel
  have r5 : rightS [nRefD, nA, nCat] = true := by decide +kernel
  have x1 : expandS [nRefD, nRep] [⟨tD, [nDig]⟩] = ([nDig, nRep], 0) := by decide +kernel
  have x2 : (expandS [nRefD] [⟨tD, [nRefD, nA, nCat]⟩]).2 = 61 := by decide +kernel
  have y1 := expand_c true false true false [nRefD, nRep] [⟨tD, [nDig]⟩] (rightS_bounds r1) (by simp) (fun d hd => by simp only [List.mem_singleton] at hd; subst hd; exact ⟨(show tD.size ≤ maxLen by decide), rightS_bounds r2⟩)
  have y2 := expand_c true false true false [nRefD] [⟨tD, [nRefD, nA, nCat]⟩] (rightS_bounds r4) (by simp) (fun d hd => by simp only [List.mem_singleton] at hd; subst hd; exact ⟨(show tD.size ≤ maxLen by decide), rightS_bounds r5⟩)
  rw [x1] at y1
  rw [x2] at y2
  generalize (expandS [nRefD] [⟨tD, [nRefD, nA, nCat]⟩]).1 = z at y2
  have hsame := fun q f q' f' => same4uc q f q' f' [nDig, nRep] [nDig, nRep] (by decide) fun n h => by simp only [List.mem_cons, List.not_mem_nil, or_false] at h; rcases h with rfl | rfl <;> decide
  simp only [decide_true] at hsame
  have p1 := p6a
  have p2 := p6b
  have p3 := p6c
  have p4 := p6d
  have p5 := p6e
  rw [show defs [⟨tD, [nDig]⟩] = [[.str tD, .sl true false (nodes [nDig])]] from rfl] at y1
  rw [show defs [⟨tD, [nRefD, nA, nCat]⟩] = [[.str tD, .sl true false (nodes [nRefD, nA, nCat])]] from rfl] at y2
  clear r1 r2 r4 r5 x1 x2
  generalize nodes [nRefD, nRep] = a1 at p1 y1
  generalize nodes [nRefD, nA, nCat] = a5 at p5 y2
  generalize nodes [nDig, nRep] = a3 at p3 y1 hsame
  generalize nodes [nDig] = a2 at p2 y1
  generalize nodes [nRefD] = a4 at p4 y2
  refine ACall.enter Tryd.func7 rfl (by kernel_rfl) (Nat.le_of_ble_eq_true rfl) ?_; simp only [initTm, Nat.reduceAdd]
  repeat' (first
  | refine gSq ?_ | refine gSk ?_ | refine gBl ?_ | refine gIb ?_ | refine gEx rfl ?_
  | ((first
  | (refine gRg [49, 57] [0, 1, 4, 7, 10, 13, 16, 17, 19] ?_; intro K hK)
  | refine cAl (p1) rfl rfl rfl ?_
  | refine cAl (p2) rfl rfl rfl ?_
  | refine cAl (p3) rfl rfl rfl ?_
  | refine cAl (p4) rfl rfl rfl ?_
  | refine cAl (p5) rfl rfl rfl ?_
  | refine cAl (hsame _ _ _ _) rfl rfl rfl ?_
  | (refine ACall.use [] [] rfl y1 rfl rfl rfl ?_; rintro _ _ ⟨⟨fl, rfl⟩, rfl⟩; refine ⟨.inl rfl, rfl, ?_⟩; simp only [bk, bk1, bkS, delAll, List.map_cons, List.map_nil])
  | (refine ACall.use [] [] rfl y2 rfl rfl rfl ?_; rintro _ _ ⟨⟨fl2, rfl⟩, rfl⟩; refine ⟨.inl rfl, rfl, ?_⟩; simp only [bk, bk1, bkS, delAll, List.map_cons, List.map_nil])
  | (refine gd_split ?_ ?_ <;> intro hb <;> (try simp only [bls] at hb) <;> (try simp only [hb]))
  | refine gRt [] [.tmp 0] rfl ?_ | refine gDn [] [.tmp 0] rfl ?_) <;> (try simp only [go_sem, simprocAttr]))
  | (refine hK _ _ ?_; clear hK K; simp only [go_sem, simprocAttr])
  | refine gCd (by simp only [go_sem, simprocAttr]; rfl) rfl ?_
  | refine brT ?_ | refine brF ?_
  | (refine brS ?_ ?_ <;> intro hc <;> (try simp only [bls] at hc) <;> (try simp only [hc, bls]))
  | intro _ | refine And.intro ?_ ?_)
  all_goals first | omega | (unfold bigLen; omega) | exact ⟨_, _, ⟨rfl, rfl⟩, rfl⟩ | exact ⟨_, rfl⟩ | (rename_i hy; simp only [List.mem_singleton] at hy; subst hy; rfl) | skip
end Go.Rad
