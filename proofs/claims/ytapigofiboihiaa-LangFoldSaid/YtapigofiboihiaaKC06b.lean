/- Contracts: norm: a tree with what its names stand for. -/
import Derived.Test.YtapigofiboihiaaKP07b
import Derived.Test.YtapigofiboihiaaKRNode
import Derived.Test.YtapigofiboihiaaKRNorm
set_option linter.all false
namespace Go.Rad
open Go Go.Proofs
set_option linter.all false
set_option maxRecDepth 20000
set_option maxHeartbeats 4000000

theorem tree_c (nm : ByteArray → List Node → Out) (g g2 g3 : Nat) (dm om : List (ByteArray × AVal)) (hdm : cleanM dm = true) (hom : cleanM om = true)
    (hlen : ∀ s out, out.length ≤ 1024 → (nm s out).1.length ≤ 1024)
    (hname : ∀ s out g1, s.size ≤ maxLen → out.length ≤ 1024 → ACall Try.prog 69 [.bx 1000 g 0, .str s] (xsto g g1 g2 g3 dm om out) fun r s' => r = .tup [.int .i64 (nm s out).2.1, .int .i64 (nm s out).2.2] ∧ ∃ h1, s' = xsto g h1 g2 g3 dm om (nm s out).1)
    (q f : Bool) (l : List Node) (hl : 1 ≤ l.length ∧ l.length ≤ 1000000) (hk : ∀ (i : Nat) (n : Node), l[i]? = some n → n.name.size ≤ maxLen ∧ n.l.length ≤ 1000000 ∧ ∀ k ∈ n.l, 0 ≤ k ∧ k < (i : Int)) (out : List Node) (ho : out.length ≤ 1024) (g1 : Nat) :
    ACall Try.prog 58 [.bx 1000 g 0, .sl q f (nodes l)] (xsto g g1 g2 g3 dm om out) fun r s => r = .tup [.int .i64 (goT nm l [] out).2.1, .int .i64 (goT nm l [] out).2.2] ∧ ∃ h1, s = xsto g h1 g2 g3 dm om (goT nm l [] out).1 := by
  simp only [xsto, xbox] at hname ⊢
  obtain ⟨S, hS⟩ : ∃ S, S = goT nm l [] out := ⟨_, rfl⟩
  rw [← hS]
  refine ACall.enter Try.func58 rfl (by kernel_rfl) (Nat.le_of_ble_eq_true rfl) ?_; simp only [initTm, Nat.reduceAdd]
  repeat' (first
  | refine gSq ?_ | refine gSk ?_ | refine gBl ?_ | refine gIb ?_ | refine gEx rfl ?_
  | ((first
  | (refine gRg [] [0, 1, 4, 5, 6, 7, 8, 9, 13, 14, 15, 16, 22, 44] ?_; intro K hK)
  | (refine gd_split ?_ ?_ <;> intro hb <;> (try simp only [bls] at hb) <;> (try simp only [hb]))
  | refine gRt [1000, 1001, 1002, 1003] [.tmp 4, .tmp 5] rfl ?_ | refine gDn [1000, 1001, 1002, 1003] [.tmp 4, .tmp 5] rfl ?_) <;> (try simp only [go_sem, simprocAttr]))
  | (refine hK _ _ ?_; clear hK K; simp only [go_sem, simprocAttr])
  | refine gCd (by simp only [go_sem, simprocAttr]; rfl) rfl ?_
  | refine brT ?_ | refine brF ?_
  | (refine brS ?_ ?_ <;> intro hc <;> (try simp only [bls] at hc) <;> (try simp only [hc, bls]))
  | intro _ | refine And.intro ?_ ?_)
  all_goals first | omega | (unfold bigLen; omega) | exact ⟨_, _, ⟨rfl, rfl⟩, rfl⟩ | exact ⟨_, rfl⟩ | (rename_i hy; simp only [List.mem_singleton] at hy; subst hy; rfl) | with_reducible rfl | skip
  rename_i h12
  refine AGood.prune [0, 1, 6, 13, 14, 15] ?_; simp only [go_sem, simprocAttr]
  refine AGood.loopInv (α := Nat × List Int × List Node × Nat) (fun x => ([(0, .bx 1000 g 0), (1, .sl q f (nodes l)), (6, .osl 12 h12 0 l.length), (13, .sl q f (nodes l)), (14, .int .i64 l.length), (15, .int .i64 x.1)],
      [(12, h12, .row 1 (ints (x.2.1 ++ List.replicate (l.length - x.1) 0))), (1000, g, .box [.map 1002 g2, .map 1003 g3, .osl 1001 x.2.2.2 0 x.2.2.1.length]), (1001, x.2.2.2, .row 9 (nodes x.2.2.1)), (1002, g2, .mp dm), (1003, g3, .mp om)]))
    (fun x => x.1 ≤ l.length ∧ x.2.1.length = x.1 ∧ x.2.2.1.length ≤ 1024 ∧ S = goT nm (l.drop x.1) x.2.1 x.2.2.1) (fun x => l.length - x.1) (0, [], out, g1) ⟨Nat.zero_le _, rfl, ho, hS⟩ (by simp only [ints, List.nil_append, List.map_replicate, Nat.sub_zero]; rfl) ?_
  rintro ⟨i, A, o, gg⟩ ⟨hi, hA, ho', hrun⟩ ih
  simp only at hi hA ho' hrun ih ⊢
  generalize hW : A ++ List.replicate (l.length - i) 0 = W
  have hWl : W.length = l.length := by subst hW; simp; omega
  by_cases hle : i < l.length
  · have e4 : (i : Int) < l.length := by omega
    have e5 : (0 : Int) ≤ i := by omega
    have e6 : i < W.length := by omega
    have hx : l[i]? = some l[i] := List.getElem?_eq_getElem hle
    have hm := hk i _ hx
    have hd : l.drop i = l[i] :: l.drop (i + 1) := List.drop_eq_getElem_cons hle
    rw [hd, goT] at hrun
    generalize l[i] = x at hx hm hrun
    have hWi : W[i]? = some 0 := by
      subst hW
      rw [List.getElem?_append_right (by omega), hA, Nat.sub_self, List.getElem?_replicate, if_pos (by omega)]
    have hset : ∀ v, W.set i v = (A ++ [v]) ++ List.replicate (l.length - (i + 1)) 0 := by
      intro v
      subst hW
      rw [List.set_append_right _ _ (by omega), hA, Nat.sub_self, show l.length - i = (l.length - (i + 1)) + 1 by omega, List.replicate_succ, List.set_cons_zero]
      simp
    have hst : (stepT nm x A o).1.length ≤ 1024 := by
      unfold stepT
      split
      · exact hlen _ _ ho'
      · exact putS_len ho'
    by_cases h6 : x.op = 6
    · have hs : stepT nm x A o = nm x.name o := by simp [stepT, h6]
      rw [hs] at hst hrun
      have hcall := hname x.name o gg hm.1 ho'
      clear hs hm
      obtain ⟨xo, ⟨xa, xb, xc, xd⟩, xl, xlo, xhi, xn⟩ := x
      simp only at h6 hcall hst hrun
      subst h6
      rcases hres : nm xn o with ⟨o2, v, e⟩
      rw [hres] at hcall hst hrun
      simp only at hcall hst hrun
      by_cases he : e = 0
      · subst he
        simp only [if_true] at hrun
        repeat' (first
  | refine gSq ?_ | refine gSk ?_ | refine gBl ?_ | refine gIb ?_ | refine gEx rfl ?_
  | ((first
  | (refine gRg [] [0, 1, 4, 5, 6, 7, 8, 9, 13, 14, 15, 16, 22, 44] ?_; intro K hK)
  | (refine ACall.use [(1000, 1000), (1001, 1001), (1002, 1002), (1003, 1003)] [] rfl hcall rfl rfl rfl ?_; rintro _ _ ⟨rfl, h1, rfl⟩; refine ⟨.inl rfl, rfl, ?_⟩; simp only [bk, bk2, bk1, bkS, bkO, idOf, delAll, go_sem, simprocAttr])
  | (refine gd_split ?_ ?_ <;> intro hb <;> (try simp only [bls] at hb) <;> (try simp only [hb]))
  | refine gRt [1000, 1001, 1002, 1003] [.tmp 4, .tmp 5] rfl ?_ | refine gDn [1000, 1001, 1002, 1003] [.tmp 4, .tmp 5] rfl ?_) <;> (try simp only [go_sem, simprocAttr, e4, e5, e6, hx, Option.some.injEq, forall_eq']))
  | (refine hK _ _ ?_; clear hK K; simp only [go_sem, simprocAttr])
  | refine gCd (by simp only [go_sem, simprocAttr]; rfl) rfl ?_
  | refine brT ?_ | refine brF ?_
  | (refine brS ?_ ?_ <;> intro hc <;> (try simp only [bls] at hc) <;> (try simp only [hc, bls]))
  | intro _ | refine And.intro ?_ ?_)
        all_goals first | omega | (unfold bigLen; omega) | exact ⟨_, _, ⟨rfl, rfl⟩, rfl⟩ | exact ⟨_, rfl⟩ | (rename_i hy; simp only [List.mem_singleton] at hy; subst hy; rfl) | with_reducible rfl | skip
        rename_i y hy
        have hy2 : y = [.int .i64 0] := by
          rw [List.getElem?_map, hWi] at hy
          simpa using hy.symm
        subst hy2
        refine AGood.filt [12, 1000, 1001, 1002, 1003] ?_
        simp only [sf_cons, sf_nil, go_sem, simprocAttr]
        refine AGood.prune [0, 1, 6, 13, 14, 15] ?_; simp only [go_sem, simprocAttr]
        refine AGood.cast (ih (i + 1, A ++ [v], o2, h1) ⟨by simp only; omega, by simp [hA], hst, hrun⟩ (by simp only; omega)) rfl ?_
        simp only [← hset v]
        simp [ints, List.map_set]
      · simp only [if_neg he] at hrun
        subst hrun
        repeat' (first
  | refine gSq ?_ | refine gSk ?_ | refine gBl ?_ | refine gIb ?_ | refine gEx rfl ?_
  | ((first
  | (refine gRg [] [0, 1, 4, 5, 6, 7, 8, 9, 13, 14, 15, 16, 22, 44] ?_; intro K hK)
  | (refine ACall.use [(1000, 1000), (1001, 1001), (1002, 1002), (1003, 1003)] [] rfl hcall rfl rfl rfl ?_; rintro _ _ ⟨rfl, h1, rfl⟩; refine ⟨.inl rfl, rfl, ?_⟩; simp only [bk, bk2, bk1, bkS, bkO, idOf, delAll, go_sem, simprocAttr])
  | (refine gd_split ?_ ?_ <;> intro hb <;> (try simp only [bls] at hb) <;> (try simp only [hb]))
  | refine gRt [1000, 1001, 1002, 1003] [.tmp 4, .tmp 5] rfl ?_ | refine gDn [1000, 1001, 1002, 1003] [.tmp 4, .tmp 5] rfl ?_) <;> (try simp only [go_sem, simprocAttr, e4, e5, e6, hx, he, Option.some.injEq, forall_eq']))
  | (refine hK _ _ ?_; clear hK K; simp only [go_sem, simprocAttr])
  | refine gCd (by simp only [go_sem, simprocAttr]; rfl) rfl ?_
  | refine brT ?_ | refine brF ?_
  | (refine brS ?_ ?_ <;> intro hc <;> (try simp only [bls] at hc) <;> (try simp only [hc, bls]))
  | intro _ | refine And.intro ?_ ?_)
        all_goals first | omega | (unfold bigLen; omega) | exact ⟨_, _, ⟨rfl, rfl⟩, rfl⟩ | exact ⟨_, rfl⟩ | (rename_i hy; simp only [List.mem_singleton] at hy; subst hy; rfl) | with_reducible rfl | skip
    · have hs : stepT nm x A o = putS x A o := by simp [stepT, h6]
      rw [hs] at hst hrun
      have hcall := put_c x false false W o g gg g2 g3 dm om (fun k hk => by have := hm.2.2 k hk; omega) hm.2.1 (by omega)
      rw [putS_ext (A := A) (W := W) (fun k hk => by have := hm.2.2 k hk; subst hW; exact atF_app this.1 (by omega))] at hcall
      clear hs hm
      obtain ⟨xo, ⟨xa, xb, xc, xd⟩, xl, xlo, xhi, xn⟩ := x
      simp only [xsto, xbox, Node.cells, Node.cellsF] at h6 hcall hst hrun
      rcases hres : putS ⟨xo, ⟨xa, xb, xc, xd⟩, xl, xlo, xhi, xn⟩ A o with ⟨o2, v, e⟩
      rw [hres] at hcall hst hrun
      simp only at hcall hst hrun
      by_cases he : e = 0
      · subst he
        simp only [if_true] at hrun
        repeat' (first
  | refine gSq ?_ | refine gSk ?_ | refine gBl ?_ | refine gIb ?_ | refine gEx rfl ?_
  | ((first
  | (refine gRg [] [0, 1, 4, 5, 6, 7, 8, 9, 13, 14, 15, 16, 22, 44] ?_; intro K hK)
  | (refine ACall.use [(1000, 1000), (1001, 1001), (1002, 1002), (1003, 1003)] [12] rfl hcall (map_three rfl rfl ((tr_lent rfl rfl rfl (by simp; omega)).trans ((congrArg (AVal.sl false false) (ints_part _ _ _)).trans (sl_ints (by rw [List.drop_zero, List.take_of_length_le (by omega)]))))) rfl rfl ?_; rintro _ _ ⟨rfl, h1, rfl⟩; refine ⟨.inr ⟨rfl, by simp only [cleanS, cleanO, cleanL, clean, clean_nodes, hdm, hom, Bool.and_self]⟩, rfl, ?_⟩; simp only [bk, bk2, bk1, bkS, bkO, idOf, delAll, go_sem, simprocAttr])
  | (refine gd_split ?_ ?_ <;> intro hb <;> (try simp only [bls] at hb) <;> (try simp only [hb]))
  | refine gRt [1000, 1001, 1002, 1003] [.tmp 4, .tmp 5] rfl ?_ | refine gDn [1000, 1001, 1002, 1003] [.tmp 4, .tmp 5] rfl ?_) <;> (try simp only [go_sem, simprocAttr, e4, e5, e6, hx, h6, Option.some.injEq, forall_eq']))
  | (refine hK _ _ ?_; clear hK K; simp only [go_sem, simprocAttr])
  | refine gCd (by simp only [go_sem, simprocAttr]; rfl) rfl ?_
  | refine brT ?_ | refine brF ?_
  | (refine brS ?_ ?_ <;> intro hc <;> (try simp only [bls] at hc) <;> (try simp only [hc, bls]))
  | intro _ | refine And.intro ?_ ?_)
        all_goals first | omega | (unfold bigLen; omega) | exact ⟨_, _, ⟨rfl, rfl⟩, rfl⟩ | exact ⟨_, rfl⟩ | (rename_i hy; simp only [List.mem_singleton] at hy; subst hy; rfl) | with_reducible rfl | skip
        rename_i y hy
        have hy2 : y = [.int .i64 0] := by
          rw [List.getElem?_map, hWi] at hy
          simpa using hy.symm
        subst hy2
        refine AGood.filt [12, 1000, 1001, 1002, 1003] ?_
        simp only [sf_cons, sf_nil, go_sem, simprocAttr]
        refine AGood.prune [0, 1, 6, 13, 14, 15] ?_; simp only [go_sem, simprocAttr]
        refine AGood.cast (ih (i + 1, A ++ [v], o2, h1) ⟨by simp only; omega, by simp [hA], hst, hrun⟩ (by simp only; omega)) rfl ?_
        simp only [← hset v]
        simp [ints, List.map_set]
      · simp only [if_neg he] at hrun
        subst hrun
        repeat' (first
  | refine gSq ?_ | refine gSk ?_ | refine gBl ?_ | refine gIb ?_ | refine gEx rfl ?_
  | ((first
  | (refine gRg [] [0, 1, 4, 5, 6, 7, 8, 9, 13, 14, 15, 16, 22, 44] ?_; intro K hK)
  | (refine ACall.use [(1000, 1000), (1001, 1001), (1002, 1002), (1003, 1003)] [12] rfl hcall (map_three rfl rfl ((tr_lent rfl rfl rfl (by simp; omega)).trans ((congrArg (AVal.sl false false) (ints_part _ _ _)).trans (sl_ints (by rw [List.drop_zero, List.take_of_length_le (by omega)]))))) rfl rfl ?_; rintro _ _ ⟨rfl, h1, rfl⟩; refine ⟨.inr ⟨rfl, by simp only [cleanS, cleanO, cleanL, clean, clean_nodes, hdm, hom, Bool.and_self]⟩, rfl, ?_⟩; simp only [bk, bk2, bk1, bkS, bkO, idOf, delAll, go_sem, simprocAttr])
  | (refine gd_split ?_ ?_ <;> intro hb <;> (try simp only [bls] at hb) <;> (try simp only [hb]))
  | refine gRt [1000, 1001, 1002, 1003] [.tmp 4, .tmp 5] rfl ?_ | refine gDn [1000, 1001, 1002, 1003] [.tmp 4, .tmp 5] rfl ?_) <;> (try simp only [go_sem, simprocAttr, e4, e5, e6, hx, he, h6, Option.some.injEq, forall_eq']))
  | (refine hK _ _ ?_; clear hK K; simp only [go_sem, simprocAttr])
  | refine gCd (by simp only [go_sem, simprocAttr]; rfl) rfl ?_
  | refine brT ?_ | refine brF ?_
  | (refine brS ?_ ?_ <;> intro hc <;> (try simp only [bls] at hc) <;> (try simp only [hc, bls]))
  | intro _ | refine And.intro ?_ ?_)
        all_goals first | omega | (unfold bigLen; omega) | exact ⟨_, _, ⟨rfl, rfl⟩, rfl⟩ | exact ⟨_, rfl⟩ | (rename_i hy; simp only [List.mem_singleton] at hy; subst hy; rfl) | with_reducible rfl | skip
  · have e4 : ¬ (i : Int) < l.length := by omega
    have hin : i = l.length := by omega
    subst hin
    obtain ⟨m, hm⟩ : ∃ m, l.length = m + 1 := ⟨l.length - 1, by omega⟩
    have e5 : (l.length : Int) - 1 = (m : Nat) := by omega
    have e6 : (m : Int) < l.length := by omega
    have e7 : (0 : Int) ≤ m := by omega
    have e8 : m < W.length := by omega
    have hlast : W[m]? = some (A.getLastD 0) := by
      subst hW
      rw [Nat.sub_self, List.replicate_zero, List.append_nil, List.getLastD_eq_getLast?, List.getLast?_eq_getElem?, show A.length - 1 = m by omega, List.getElem?_eq_getElem (by omega)]
      rfl
    simp only [List.drop_length, goT] at hrun
    subst hrun
    repeat' (first
  | refine gSq ?_ | refine gSk ?_ | refine gBl ?_ | refine gIb ?_ | refine gEx rfl ?_
  | ((first
  | (refine gRg [] [0, 1, 4, 5, 6, 7, 8, 9, 13, 14, 15, 16, 22, 44] ?_; intro K hK)
  | (refine gd_split ?_ ?_ <;> intro hb <;> (try simp only [bls] at hb) <;> (try simp only [hb]))
  | refine gRt [1000, 1001, 1002, 1003] [.tmp 4, .tmp 5] rfl ?_ | refine gDn [1000, 1001, 1002, 1003] [.tmp 4, .tmp 5] rfl ?_) <;> (try simp only [go_sem, simprocAttr, e4, e5, e6, e7, e8, hlast, Option.some.injEq, forall_eq']))
  | (refine hK _ _ ?_; clear hK K; simp only [go_sem, simprocAttr])
  | refine gCd (by simp only [go_sem, simprocAttr]; rfl) rfl ?_
  | refine brT ?_ | refine brF ?_
  | (refine brS ?_ ?_ <;> intro hc <;> (try simp only [bls] at hc) <;> (try simp only [hc, bls]))
  | intro _ | refine And.intro ?_ ?_)
    all_goals first | omega | (unfold bigLen; omega) | exact ⟨_, _, ⟨rfl, rfl⟩, rfl⟩ | exact ⟨_, rfl⟩ | (rename_i hy; simp only [List.mem_singleton] at hy; subst hy; rfl) | with_reducible rfl | skip
end Go.Rad
/- Contracts: norm: what a name stands for. -/
namespace Go.Rad
open Go Go.Proofs
set_option linter.all false
set_option maxRecDepth 20000
set_option maxHeartbeats 4000000

def remS (ds : List Df) (op : List ByteArray) : Nat := (ds.filter fun d => !hasB op d.name).length
theorem rem_lt {ds : List Df} {op : List ByteArray} {d : Df} {s : ByteArray} (hd : d ∈ ds) (hs : d.name = s) (h : hasB op s = false) : remS ds (op ++ [s]) < remS ds op := by
  have hle : ∀ ds : List Df, remS ds (op ++ [s]) ≤ remS ds op := by
    intro ds
    induction ds with
    | nil => exact Nat.le_refl _
    | cons x ds ih =>
      simp only [remS, List.filter_cons, hasB, List.any_append] at ih ⊢
      cases h1 : (op.any fun y => decide (y = x.name))
      · simp only [Bool.false_or]
        split
        · simp only [Bool.not_false, if_true, List.length_cons]; omega
        · simp only [Bool.not_false, if_true, List.length_cons]; omega
      · simp only [Bool.true_or, Bool.not_true, Bool.false_eq_true, if_false]; exact ih
  induction ds with
  | nil => simp at hd
  | cons x ds ih =>
    have ih := ih
    have hle := hle ds
    simp only [remS, List.filter_cons] at ih hle ⊢
    rcases List.mem_cons.1 hd with rfl | hd
    · have e1 : hasB op d.name = false := by rw [hs]; exact h
      have e2 : hasB (op ++ [s]) d.name = true := by simp [hasB, hs]
      simp only [e1, e2, Bool.not_true, Bool.not_false, Bool.false_eq_true, if_false, if_true, List.length_cons]
      omega
    · have ih := ih hd
      have e : hasB op x.name = true → hasB (op ++ [s]) x.name = true := by
        intro h; simp only [hasB, List.any_append] at h ⊢; rw [h]; rfl
      cases h1 : hasB op x.name
      · cases h2 : hasB (op ++ [s]) x.name
        · simp only [Bool.not_false, if_true, List.length_cons]; omega
        · simp only [Bool.not_true, Bool.not_false, Bool.false_eq_true, if_false, if_true, List.length_cons]; omega
      · simp only [e h1, Bool.not_true, Bool.false_eq_true, if_false]; exact ih
theorem dfind_some {ds : List Df} {s : ByteArray} {d : Df} (h : dfind ds s = some d) : d ∈ ds ∧ d.name = s :=
  ⟨List.mem_of_find?_eq_some h, by simpa using List.find?_some h⟩
theorem name_c (ds : List Df) (hds : ∀ d ∈ ds, treeOk d.l) (g g2 g3 : Nat) : ∀ (fuel : Nat) (op : List ByteArray), remS ds op < fuel → op.length + fuel ≤ 1000000 → ∀ (s : ByteArray) (out : List Node) (g1 : Nat), s.size ≤ maxLen → out.length ≤ 1024 →
    ACall Try.prog 69 [.bx 1000 g 0, .str s] (xsto g g1 g2 g3 (dmap ds) (omap op) out) fun r s' => r = .tup [.int .i64 (nameT ds fuel op s out).2.1, .int .i64 (nameT ds fuel op s out).2.2] ∧ ∃ h1, s' = xsto g h1 g2 g3 (dmap ds) (omap op) (nameT ds fuel op s out).1 := by
  intro fuel
  induction fuel with
  | zero => intro op h; omega
  | succ fuel ih =>
    intro op hrem hop s out g1 hs ho
    simp only [xsto, xbox]
    have hmf := mfind_dmap ds s
    have hmo := mfind_omap op s
    have hol : (omap op).length = op.length := by simp [omap]
    cases hf : dfind ds s with
    | none =>
      have hn : nameT ds (fuel + 1) op s out = (out, 0, 60) := by rw [nameT, hf]
      rw [hn]
      rw [hf] at hmf
      simp only [Option.map_none] at hmf
      refine ACall.enter Try.func69 rfl (by kernel_rfl) (Nat.le_of_ble_eq_true rfl) ?_; simp only [initTm, Nat.reduceAdd]
      repeat' (first
  | refine gSq ?_ | refine gSk ?_ | refine gBl ?_ | refine gIb ?_ | refine gEx rfl ?_
  | ((first
  | (refine gRg [] [0, 1, 4, 5, 6, 7, 17, 20] ?_; intro K hK)
  | (refine gd_split ?_ ?_ <;> intro hb <;> (try simp only [bls] at hb) <;> (try simp only [hb]))
  | refine gRt [1000, 1001, 1002, 1003] [.tmp 4, .tmp 5] rfl ?_ | refine gDn [1000, 1001, 1002, 1003] [.tmp 4, .tmp 5] rfl ?_) <;> (try simp only [go_sem, simprocAttr, hmf]))
  | (refine hK _ _ ?_; clear hK K; simp only [go_sem, simprocAttr])
  | refine gCd (by simp only [go_sem, simprocAttr]; rfl) rfl ?_
  | refine brT ?_ | refine brF ?_
  | (refine brS ?_ ?_ <;> intro hc <;> (try simp only [bls] at hc) <;> (try simp only [hc, bls]))
  | intro _ | refine And.intro ?_ ?_)
      all_goals first | omega | (unfold bigLen; omega) | exact ⟨_, _, ⟨rfl, rfl⟩, rfl⟩ | exact ⟨_, rfl⟩ | (rename_i hy; simp only [List.mem_singleton] at hy; subst hy; rfl) | with_reducible rfl | skip
    | some d =>
      rw [hf] at hmf
      simp only [Option.map_some] at hmf
      obtain ⟨hd, hdn⟩ := dfind_some hf
      cases hb : hasB op s
      · have hmp := mput_omap (hasB_no.1 hb)
        have hmd := mdel_omap (hasB_no.1 hb)
        have hn : nameT ds (fuel + 1) op s out = goT (nameT ds fuel (op ++ [s])) d.l [] out := by rw [nameT, hf]; simp [hb]
        rw [hn]
        rw [hb] at hmo
        simp only [Bool.false_eq_true, if_false] at hmo
        have hcall := fun g1 => tree_c (nameT ds fuel (op ++ [s])) g g2 g3 (dmap ds) (omap (op ++ [s])) (clean_dmap ds) (clean_omap _) (fun s out h => nameT_len ds fuel _ s out h)
          (fun s' out g1 h1 h2 => ih (op ++ [s]) (by have := rem_lt hd hdn hb; omega) (by simp; omega) s' out g1 h1 h2) true false d.l (hds d hd).1 (hds d hd).2 out ho g1
        refine ACall.enter Try.func69 rfl (by kernel_rfl) (Nat.le_of_ble_eq_true rfl) ?_; simp only [initTm, Nat.reduceAdd]
        repeat' (first
  | refine gSq ?_ | refine gSk ?_ | refine gBl ?_ | refine gIb ?_ | refine gEx rfl ?_
  | ((first
  | (refine AGood.at 7 ?_; refine AGood.regDeferN LL_ok [] 5 [0, 1, 4, 5, 6, 7, 17, 20] rfl rfl rfl (by kernel_rfl) ?_; intro K hK; simp only [hmf, hmo, hmp, hmd, go_sem, simprocAttr])
  | (refine AGood.retD LL_ok [1000, 1001, 1002, 1003] [.tmp 4, .tmp 5] rfl (by kernel_rfl) ?_; simp only [runDf])
  | (refine gRg [] [0, 1, 4, 5, 6, 7, 17, 20] ?_; intro K hK)
  | (refine ACall.mono (hcall _) ?_; rintro _ _ ⟨rfl, h1, rfl⟩)
  | (refine gd_split ?_ ?_ <;> intro hb <;> (try simp only [bls] at hb) <;> (try simp only [hb]))
  | refine gRt [1000, 1001, 1002, 1003] [.tmp 4, .tmp 5] rfl ?_ | refine gDn [1000, 1001, 1002, 1003] [.tmp 4, .tmp 5] rfl ?_) <;> (try simp only [go_sem, simprocAttr, hmf, hmo, hmp, hmd, hol]))
  | (refine hK _ _ ?_; clear hK K; simp only [go_sem, simprocAttr])
  | refine gCd (by simp only [go_sem, simprocAttr]; rfl) rfl ?_
  | refine brT ?_ | refine brF ?_
  | (refine brS ?_ ?_ <;> intro hc <;> (try simp only [bls] at hc) <;> (try simp only [hc, bls]))
  | intro _ | refine And.intro ?_ ?_)
        all_goals first | omega | (unfold bigLen; omega) | exact ⟨_, _, ⟨rfl, rfl⟩, rfl⟩ | exact ⟨_, rfl⟩ | (rename_i hy; simp only [List.mem_singleton] at hy; subst hy; rfl) | with_reducible rfl | skip
      · have hn : nameT ds (fuel + 1) op s out = (out, 0, 61) := by rw [nameT, hf]; simp [hb]
        rw [hn]
        rw [hb] at hmo
        simp only [if_true] at hmo
        refine ACall.enter Try.func69 rfl (by kernel_rfl) (Nat.le_of_ble_eq_true rfl) ?_; simp only [initTm, Nat.reduceAdd]
        repeat' (first
  | refine gSq ?_ | refine gSk ?_ | refine gBl ?_ | refine gIb ?_ | refine gEx rfl ?_
  | ((first
  | (refine gRg [] [0, 1, 4, 5, 6, 7, 17, 20] ?_; intro K hK)
  | (refine gd_split ?_ ?_ <;> intro hb <;> (try simp only [bls] at hb) <;> (try simp only [hb]))
  | refine gRt [1000, 1001, 1002, 1003] [.tmp 4, .tmp 5] rfl ?_ | refine gDn [1000, 1001, 1002, 1003] [.tmp 4, .tmp 5] rfl ?_) <;> (try simp only [go_sem, simprocAttr, hmf, hmo]))
  | (refine hK _ _ ?_; clear hK K; simp only [go_sem, simprocAttr])
  | refine gCd (by simp only [go_sem, simprocAttr]; rfl) rfl ?_
  | refine brT ?_ | refine brF ?_
  | (refine brS ?_ ?_ <;> intro hc <;> (try simp only [bls] at hc) <;> (try simp only [hc, bls]))
  | intro _ | refine And.intro ?_ ?_)
        all_goals first | omega | (unfold bigLen; omega) | exact ⟨_, _, ⟨rfl, rfl⟩, rfl⟩ | exact ⟨_, rfl⟩ | (rename_i hy; simp only [List.mem_singleton] at hy; subst hy; rfl) | with_reducible rfl | skip
end Go.Rad
/- Contracts: norm: Right, Expand. -/
namespace Go.Rad
open Go Go.Proofs
set_option linter.all false
set_option maxRecDepth 20000
set_option maxHeartbeats 4000000

def dfOk (d : Df) : Prop := d.name.size ≤ maxLen ∧ ∀ n ∈ d.l, n.name.size ≤ maxLen ∧ n.l.length ≤ maxLen
theorem rightD_c (q f : Bool) (ds : List Df) (hl : ds.length ≤ 1000000) (hd : ∀ d ∈ ds, dfOk d) : ACall Try.prog 57 [.sl q f (defs ds)] [] fun r s => r = .bool (rightD [] ds) ∧ s = [] := by
  obtain ⟨S, hS⟩ : ∃ S, S = rightD [] ds := ⟨_, rfl⟩
  rw [← hS]
  refine ACall.enter Try.func57 rfl (by kernel_rfl) (Nat.le_of_ble_eq_true rfl) ?_; simp only [initTm, Nat.reduceAdd]
  repeat' (first
  | refine gSq ?_ | refine gSk ?_ | refine gBl ?_ | refine gIb ?_ | refine gEx rfl ?_
  | ((first
  | (refine gRg [] [0, 2, 3, 5, 7, 8, 9, 10, 28] ?_; intro K hK)
  | (refine gd_split ?_ ?_ <;> intro hb <;> (try simp only [bls] at hb) <;> (try simp only [hb]))
  | refine gRt [] [.tmp 2] rfl ?_ | refine gDn [] [.tmp 2] rfl ?_) <;> (try simp only [go_sem, simprocAttr]))
  | (refine hK _ _ ?_; clear hK K; simp only [go_sem, simprocAttr])
  | refine gCd (by simp only [go_sem, simprocAttr]; rfl) rfl ?_
  | refine brT ?_ | refine brF ?_
  | (refine brS ?_ ?_ <;> intro hc <;> (try simp only [bls] at hc) <;> (try simp only [hc, bls]))
  | intro _ | refine And.intro ?_ ?_)
  all_goals first | omega | (unfold bigLen; omega) | exact ⟨_, _, ⟨rfl, rfl⟩, rfl⟩ | exact ⟨_, rfl⟩ | (rename_i hy; simp only [List.mem_singleton] at hy; subst hy; rfl) | with_reducible rfl | skip
  rename_i h6
  refine AGood.prune [0, 2, 3, 7, 8, 9] ?_; simp only [go_sem, simprocAttr]
  refine AGood.loopInv (α := Nat × List ByteArray) (fun x => ([(0, .sl q f (defs ds)), (2, .bool false), (3, .map 6 h6), (7, .sl q f (defs ds)), (8, .int .i64 ds.length), (9, .int .i64 x.1)], [(6, h6, .mp (omap x.2))]))
    (fun x => x.1 ≤ ds.length ∧ x.2.length = x.1 ∧ S = rightD x.2 (ds.drop x.1)) (fun x => ds.length - x.1) (0, []) ⟨Nat.zero_le _, rfl, hS⟩ rfl ?_
  rintro ⟨i, seen⟩ ⟨hi, hsl, hrun⟩ ih
  simp only at hi hsl hrun ih ⊢
  by_cases hle : i < ds.length
  · have e4 : (i : Int) < ds.length := by omega
    have e5 : (0 : Int) ≤ i := by omega
    have hx : ds[i]? = some ds[i] := List.getElem?_eq_getElem hle
    have hm := hd ds[i] (List.getElem_mem hle)
    have hdr : ds.drop i = ds[i] :: ds.drop (i + 1) := List.drop_eq_getElem_cons hle
    rw [hdr, rightD] at hrun
    generalize ds[i] = x at hx hm hrun
    obtain ⟨xn, xl⟩ := x
    obtain ⟨hm1, hm2⟩ := hm
    simp only at hm1 hm2 hrun
    have hmo := mfind_omap seen xn
    have hol : (omap seen).length = seen.length := by simp [omap]
    have hn := nameS_c xn hm1
    have hr := rightS_c true false xl hm2
    by_cases hc : hasB seen xn = true ∨ nameOk xn = false ∨ rightS xl = false
    · rw [if_pos hc] at hrun
      subst hrun
      rcases hc with h | h | h
      · rw [h] at hmo
        simp only [if_true] at hmo
        repeat' (first
  | refine gSq ?_ | refine gSk ?_ | refine gBl ?_ | refine gIb ?_ | refine gEx rfl ?_
  | ((first
  | (refine gRg [] [0, 2, 3, 5, 7, 8, 9, 10, 28] ?_; intro K hK)
  | refine cAl (hn) rfl rfl rfl ?_
  | refine cAl (hr) rfl rfl rfl ?_
  | (refine gd_split ?_ ?_ <;> intro hb <;> (try simp only [bls] at hb) <;> (try simp only [hb]))
  | refine gRt [] [.tmp 2] rfl ?_ | refine gDn [] [.tmp 2] rfl ?_) <;> (try simp only [go_sem, simprocAttr, e4, e5, hx, hmo, Option.some.injEq, forall_eq']))
  | (refine hK _ _ ?_; clear hK K; simp only [go_sem, simprocAttr])
  | refine gCd (by simp only [go_sem, simprocAttr]; rfl) rfl ?_
  | refine brT ?_ | refine brF ?_
  | (refine brS ?_ ?_ <;> intro hc <;> (try simp only [bls] at hc) <;> (try simp only [hc, bls]))
  | intro _ | refine And.intro ?_ ?_)
      · rw [h] at hn
        cases hb : hasB seen xn <;> rw [hb] at hmo <;> simp only [if_true, Bool.false_eq_true, if_false] at hmo
        all_goals repeat' (first
  | refine gSq ?_ | refine gSk ?_ | refine gBl ?_ | refine gIb ?_ | refine gEx rfl ?_
  | ((first
  | (refine gRg [] [0, 2, 3, 5, 7, 8, 9, 10, 28] ?_; intro K hK)
  | refine cAl (hn) rfl rfl rfl ?_
  | refine cAl (hr) rfl rfl rfl ?_
  | (refine gd_split ?_ ?_ <;> intro hb <;> (try simp only [bls] at hb) <;> (try simp only [hb]))
  | refine gRt [] [.tmp 2] rfl ?_ | refine gDn [] [.tmp 2] rfl ?_) <;> (try simp only [go_sem, simprocAttr, e4, e5, hx, hmo, Option.some.injEq, forall_eq']))
  | (refine hK _ _ ?_; clear hK K; simp only [go_sem, simprocAttr])
  | refine gCd (by simp only [go_sem, simprocAttr]; rfl) rfl ?_
  | refine brT ?_ | refine brF ?_
  | (refine brS ?_ ?_ <;> intro hc <;> (try simp only [bls] at hc) <;> (try simp only [hc, bls]))
  | intro _ | refine And.intro ?_ ?_)
      · rw [h] at hr
        cases hb : hasB seen xn <;> rw [hb] at hmo <;> simp only [if_true, Bool.false_eq_true, if_false] at hmo
        all_goals cases hnn : nameOk xn <;> rw [hnn] at hn
        all_goals repeat' (first
  | refine gSq ?_ | refine gSk ?_ | refine gBl ?_ | refine gIb ?_ | refine gEx rfl ?_
  | ((first
  | (refine gRg [] [0, 2, 3, 5, 7, 8, 9, 10, 28] ?_; intro K hK)
  | refine cAl (hn) rfl rfl rfl ?_
  | refine cAl (hr) rfl rfl rfl ?_
  | (refine gd_split ?_ ?_ <;> intro hb <;> (try simp only [bls] at hb) <;> (try simp only [hb]))
  | refine gRt [] [.tmp 2] rfl ?_ | refine gDn [] [.tmp 2] rfl ?_) <;> (try simp only [go_sem, simprocAttr, e4, e5, hx, hmo, Option.some.injEq, forall_eq']))
  | (refine hK _ _ ?_; clear hK K; simp only [go_sem, simprocAttr])
  | refine gCd (by simp only [go_sem, simprocAttr]; rfl) rfl ?_
  | refine brT ?_ | refine brF ?_
  | (refine brS ?_ ?_ <;> intro hc <;> (try simp only [bls] at hc) <;> (try simp only [hc, bls]))
  | intro _ | refine And.intro ?_ ?_)
    · rw [if_neg hc] at hrun
      simp only [not_or, Bool.not_eq_true, Bool.not_eq_false] at hc
      obtain ⟨h1, h2, h3⟩ := hc
      rw [h1] at hmo
      simp only [Bool.false_eq_true, if_false] at hmo
      rw [h2] at hn
      rw [h3] at hr
      have hmp := mput_omap (hasB_no.1 h1)
      repeat' (first
  | refine gSq ?_ | refine gSk ?_ | refine gBl ?_ | refine gIb ?_ | refine gEx rfl ?_
  | ((first
  | (refine gRg [] [0, 2, 3, 5, 7, 8, 9, 10, 28] ?_; intro K hK)
  | refine cAl (hn) rfl rfl rfl ?_
  | refine cAl (hr) rfl rfl rfl ?_
  | (refine gd_split ?_ ?_ <;> intro hb <;> (try simp only [bls] at hb) <;> (try simp only [hb]))
  | refine gRt [] [.tmp 2] rfl ?_ | refine gDn [] [.tmp 2] rfl ?_) <;> (try simp only [go_sem, simprocAttr, e4, e5, hx, hmo, hmp, hol, Option.some.injEq, forall_eq']))
  | (refine hK _ _ ?_; clear hK K; simp only [go_sem, simprocAttr])
  | refine gCd (by simp only [go_sem, simprocAttr]; rfl) rfl ?_
  | refine brT ?_ | refine brF ?_
  | (refine brS ?_ ?_ <;> intro hc <;> (try simp only [bls] at hc) <;> (try simp only [hc, bls]))
  | intro _ | refine And.intro ?_ ?_)
      all_goals first | omega | (unfold bigLen; omega) | exact ⟨_, _, ⟨rfl, rfl⟩, rfl⟩ | exact ⟨_, rfl⟩ | (rename_i hy; simp only [List.mem_singleton] at hy; subst hy; rfl) | with_reducible rfl | skip
      refine AGood.filt [6] ?_
      simp only [sf_cons, sf_nil, go_sem, simprocAttr]
      refine AGood.prune [0, 2, 3, 7, 8, 9] ?_; simp only [go_sem, simprocAttr]
      exact (ih (i + 1, seen ++ [xn]) ⟨by simp only; omega, by simp [hsl], hrun⟩ (by simp only; omega)).cast rfl rfl
  · have e4 : ¬ (i : Int) < ds.length := by omega
    rw [List.drop_of_length_le (by omega), rightD] at hrun
    subst hrun
    repeat' (first
  | refine gSq ?_ | refine gSk ?_ | refine gBl ?_ | refine gIb ?_ | refine gEx rfl ?_
  | ((first
  | (refine gRg [] [0, 2, 3, 5, 7, 8, 9, 10, 28] ?_; intro K hK)
  | (refine gd_split ?_ ?_ <;> intro hb <;> (try simp only [bls] at hb) <;> (try simp only [hb]))
  | refine gRt [] [.tmp 2] rfl ?_ | refine gDn [] [.tmp 2] rfl ?_) <;> (try simp only [go_sem, simprocAttr, e4]))
  | (refine hK _ _ ?_; clear hK K; simp only [go_sem, simprocAttr])
  | refine gCd (by simp only [go_sem, simprocAttr]; rfl) rfl ?_
  | refine brT ?_ | refine brF ?_
  | (refine brS ?_ ?_ <;> intro hc <;> (try simp only [bls] at hc) <;> (try simp only [hc, bls]))
  | intro _ | refine And.intro ?_ ?_)

theorem expand_c (q f q' f' : Bool) (l : List Node) (ds : List Df) (hl : ∀ n ∈ l, n.name.size ≤ maxLen ∧ n.l.length ≤ maxLen) (hdl : ds.length ≤ 900000) (hd : ∀ d ∈ ds, dfOk d) :
    ACall Try.prog 41 [.sl q f (nodes l), .sl q' f' (defs ds)] [] fun r s => (∃ fl, r = .tup [.sl true fl (nodes (expandS l ds).1), .int .i64 (expandS l ds).2]) ∧ s = [] := by
  have hr := rightS_c q f l hl
  have hr2 := rightD_c q' f' ds (by omega) hd
  refine ACall.enter Try.func41 rfl (by kernel_rfl) (Nat.le_of_ble_eq_true rfl) ?_; simp only [initTm, Nat.reduceAdd]
  by_cases hok : rightS l = true ∧ rightD [] ds = true
  · obtain ⟨h1, h2⟩ := hok
    have htree := rightS_ok h1 (fun n h => (hl n h).1)
    obtain ⟨hf1, hf2⟩ := rightD_facts ds [] h2
    have hds : ∀ d ∈ ds, treeOk d.l := fun d h => rightS_ok (hf1 d h).2.2 (fun n hn => ((hd d h).2 n hn).1)
    have hcall := fun g g1 g2 g3 => tree_c (nameT ds (ds.length + 1) []) g g2 g3 (dmap ds) (omap []) (clean_dmap ds) (clean_omap _) (fun s out h => nameT_len ds _ _ s out h)
      (fun s out g1 h1 h2 => name_c ds hds g g2 g3 (ds.length + 1) [] (Nat.lt_succ_of_le (List.length_filter_le _ _)) (by simp; omega) s out g1 h1 h2) q f l htree.1 htree.2 [] (by simp) g1
    have hexp : expandS l ds = if (goT (nameT ds (ds.length + 1) []) l [] []).2.2 = 0 then ((goT (nameT ds (ds.length + 1) []) l [] []).1, 0) else ([], (goT (nameT ds (ds.length + 1) []) l [] []).2.2) := by
      rw [expandS, if_pos ⟨h1, h2⟩]
    rw [h1] at hr
    rw [h2] at hr2
    rw [hexp]
    rcases hres : goT (nameT ds (ds.length + 1) []) l [] [] with ⟨o2, v, e⟩
    rw [hres] at hcall
    simp only at hcall ⊢
    repeat' (first
  | refine gSq ?_ | refine gSk ?_ | refine gBl ?_ | refine gIb ?_ | refine gEx rfl ?_
  | ((first
  | (refine AGood.at 4 ?_; (refine AGood.ownBox 22 2 901 9 (by decide) rfl rfl (by decide) ?_; intro g901; simp only [List.set_cons_succ, List.set_cons_zero, go_sem, simprocAttr]); (refine gRg [] [0, 1, 4, 5, 6, 8, 10, 18, 23, 24, 25, 26, 45] ?_; intro K hK))
  | (refine gRg [] [0, 1, 4, 5, 6, 8, 10, 18, 23, 24, 25, 26, 45] ?_; intro K hK)
  | (refine gDr 7 [] 8 [0, 1, 2, 3, 4, 5, 6, 7, 8] [0, 1, 4, 5, 6, 8, 10, 18, 23, 24, 25, 26, 45] rfl ?_; intro K hK)
  | refine cAl (hr) rfl rfl rfl ?_
  | refine cAl (hr2) rfl rfl rfl ?_
  | (refine gd_split ?_ ?_ <;> intro hb <;> (try simp only [bls] at hb) <;> (try simp only [hb]))
  | refine gRt [] [.tmp 4, .tmp 5] rfl ?_ | refine gDn [] [.tmp 4, .tmp 5] rfl ?_) <;> (try simp only [go_sem, simprocAttr]))
  | (refine hK _ _ ?_; clear hK K; simp only [go_sem, simprocAttr])
  | refine gCd (by simp only [go_sem, simprocAttr]; rfl) rfl ?_
  | refine brT ?_ | refine brF ?_
  | (refine brS ?_ ?_ <;> intro hc <;> (try simp only [bls] at hc) <;> (try simp only [hc, bls]))
  | intro _ | refine And.intro ?_ ?_)
    all_goals first | omega | (unfold bigLen; omega) | exact ⟨_, _, ⟨rfl, rfl⟩, rfl⟩ | exact ⟨_, rfl⟩ | (rename_i hy; simp only [List.mem_singleton] at hy; subst hy; rfl) | with_reducible rfl | skip
    rename_i h19 h20 h22
    refine AGood.prune [0, 1, 6, 23, 24, 25] ?_; simp only [go_sem, simprocAttr]
    refine AGood.loopInv (α := Nat) (fun i => ([(0, .sl q f (nodes l)), (1, .sl q' f' (defs ds)), (6, .bx 22 h22 0), (23, .sl q' f' (defs ds)), (24, .int .i64 ds.length), (25, .int .i64 i)],
      [(19, h19, .mp (dmap (ds.take i))), (20, h20, .mp []), (22, h22, .box [.map 19 h19, .map 20 h20, .osl 901 g901 0 0]), (901, g901, .row 9 [])])) (fun i => i ≤ ds.length) (fun i => ds.length - i) 0 (Nat.zero_le _) rfl ?_
    intro i hi ih
    simp only
    by_cases hle : i < ds.length
    · have e4 : (i : Int) < ds.length := by omega
      have e5 : (0 : Int) ≤ i := by omega
      have hx : ds[i]? = some ds[i] := List.getElem?_eq_getElem hle
      have ht := take_one hx
      have hne := hf2 i _ hx
      generalize ds[i] = x at hx hne ht
      have hmp := mput_dmap hne
      rw [← ht] at hmp
      obtain ⟨xn, xl⟩ := x
      simp only at hmp
      have hol : (dmap (ds.take i)).length = min i ds.length := by simp [dmap]
      repeat' (first
  | refine gSq ?_ | refine gSk ?_ | refine gBl ?_ | refine gIb ?_ | refine gEx rfl ?_
  | ((first
  | (refine gRg [] [0, 1, 4, 5, 6, 8, 10, 18, 23, 24, 25, 26, 45] ?_; intro K hK)
  | (refine gDr 7 [] 8 [0, 1, 2, 3, 4, 5, 6, 7, 8] [0, 1, 4, 5, 6, 8, 10, 18, 23, 24, 25, 26, 45] rfl ?_; intro K hK)
  | (refine gd_split ?_ ?_ <;> intro hb <;> (try simp only [bls] at hb) <;> (try simp only [hb]))
  | refine gRt [] [.tmp 4, .tmp 5] rfl ?_ | refine gDn [] [.tmp 4, .tmp 5] rfl ?_) <;> (try simp only [go_sem, simprocAttr, e4, e5, hx, hmp, hol, Option.some.injEq, forall_eq']))
  | (refine hK _ _ ?_; clear hK K; simp only [go_sem, simprocAttr])
  | refine gCd (by simp only [go_sem, simprocAttr]; rfl) rfl ?_
  | refine brT ?_ | refine brF ?_
  | (refine brS ?_ ?_ <;> intro hc <;> (try simp only [bls] at hc) <;> (try simp only [hc, bls]))
  | intro _ | refine And.intro ?_ ?_)
      all_goals first | omega | (unfold bigLen; omega) | exact ⟨_, _, ⟨rfl, rfl⟩, rfl⟩ | exact ⟨_, rfl⟩ | (rename_i hy; simp only [List.mem_singleton] at hy; subst hy; rfl) | with_reducible rfl | skip
      refine AGood.filt [19, 20, 22, 901] ?_
      simp only [sf_cons, sf_nil, go_sem, simprocAttr]
      refine AGood.prune [0, 1, 6, 23, 24, 25] ?_; simp only [go_sem, simprocAttr]
      exact (ih (i + 1) (by omega) (by omega)).cast rfl rfl
    · have e4 : ¬ (i : Int) < ds.length := by omega
      rw [List.take_of_length_le (by omega)]
      have huse := hcall h22 g901 h19 h20
      by_cases he : e = 0
      · subst he
        simp only [if_true]
        have e9 : ∀ o : List Node, (nodes o).take o.length = nodes o := fun o => List.take_of_length_le (by simp)
        repeat' (first
  | refine gSq ?_ | refine gSk ?_ | refine gBl ?_ | refine gIb ?_ | refine gEx rfl ?_
  | ((first
  | (refine AGood.at 12 ?_; (refine AGood.freeze 901 rfl ?_; simp only [rfT, rfS, rfO, rf, rf1, e9, true_and, go_sem, simprocAttr]); (refine gRg [] [0, 1, 4, 5, 6, 8, 10, 18, 23, 24, 25, 26, 45] ?_; intro K hK))
  | (refine gRg [] [0, 1, 4, 5, 6, 8, 10, 18, 23, 24, 25, 26, 45] ?_; intro K hK)
  | (refine gDr 7 [] 8 [0, 1, 2, 3, 4, 5, 6, 7, 8] [0, 1, 4, 5, 6, 8, 10, 18, 23, 24, 25, 26, 45] rfl ?_; intro K hK)
  | (refine ACall.use [(1000, 22), (1001, 901), (1002, 19), (1003, 20)] [] rfl huse rfl rfl rfl ?_; rintro _ _ ⟨rfl, h1, rfl⟩; refine ⟨.inl rfl, rfl, ?_⟩; simp only [bk, bk2, bk1, bkS, bkO, idOf, delAll, go_sem, simprocAttr])
  | (refine gd_split ?_ ?_ <;> intro hb <;> (try simp only [bls] at hb) <;> (try simp only [hb]))
  | refine gRt [] [.tmp 4, .tmp 5] rfl ?_ | refine gDn [] [.tmp 4, .tmp 5] rfl ?_) <;> (try simp only [go_sem, simprocAttr, e4]))
  | (refine hK _ _ ?_; clear hK K; simp only [go_sem, simprocAttr])
  | refine gCd (by simp only [go_sem, simprocAttr]; rfl) rfl ?_
  | refine brT ?_ | refine brF ?_
  | (refine brS ?_ ?_ <;> intro hc <;> (try simp only [bls] at hc) <;> (try simp only [hc, bls]))
  | intro _ | refine And.intro ?_ ?_)
        exact ⟨_, rfl⟩
      · simp only [if_neg he]
        repeat' (first
  | refine gSq ?_ | refine gSk ?_ | refine gBl ?_ | refine gIb ?_ | refine gEx rfl ?_
  | ((first
  | (refine gRg [] [0, 1, 4, 5, 6, 8, 10, 18, 23, 24, 25, 26, 45] ?_; intro K hK)
  | (refine gDr 7 [] 8 [0, 1, 2, 3, 4, 5, 6, 7, 8] [0, 1, 4, 5, 6, 8, 10, 18, 23, 24, 25, 26, 45] rfl ?_; intro K hK)
  | (refine ACall.use [(1000, 22), (1001, 901), (1002, 19), (1003, 20)] [] rfl huse rfl rfl rfl ?_; rintro _ _ ⟨rfl, h1, rfl⟩; refine ⟨.inl rfl, rfl, ?_⟩; simp only [bk, bk2, bk1, bkS, bkO, idOf, delAll, go_sem, simprocAttr])
  | (refine gd_split ?_ ?_ <;> intro hb <;> (try simp only [bls] at hb) <;> (try simp only [hb]))
  | refine gRt [] [.tmp 4, .tmp 5] rfl ?_ | refine gDn [] [.tmp 4, .tmp 5] rfl ?_) <;> (try simp only [go_sem, simprocAttr, e4, he]))
  | (refine hK _ _ ?_; clear hK K; simp only [go_sem, simprocAttr])
  | refine gCd (by simp only [go_sem, simprocAttr]; rfl) rfl ?_
  | refine brT ?_ | refine brF ?_
  | (refine brS ?_ ?_ <;> intro hc <;> (try simp only [bls] at hc) <;> (try simp only [hc, bls]))
  | intro _ | refine And.intro ?_ ?_)
        exact ⟨_, rfl⟩
  · have hexp : expandS l ds = ([], 1) := by rw [expandS, if_neg hok]
    rw [hexp]
    by_cases h1 : rightS l = true
    · have h2 : rightD [] ds = false := by simpa [h1] using hok
      rw [h1] at hr
      rw [h2] at hr2
      repeat' (first
  | refine gSq ?_ | refine gSk ?_ | refine gBl ?_ | refine gIb ?_ | refine gEx rfl ?_
  | ((first
  | (refine gRg [] [0, 1, 4, 5, 6, 8, 10, 18, 23, 24, 25, 26, 45] ?_; intro K hK)
  | (refine gDr 7 [] 8 [0, 1, 2, 3, 4, 5, 6, 7, 8] [0, 1, 4, 5, 6, 8, 10, 18, 23, 24, 25, 26, 45] rfl ?_; intro K hK)
  | refine cAl (hr) rfl rfl rfl ?_
  | refine cAl (hr2) rfl rfl rfl ?_
  | (refine gd_split ?_ ?_ <;> intro hb <;> (try simp only [bls] at hb) <;> (try simp only [hb]))
  | refine gRt [] [.tmp 4, .tmp 5] rfl ?_ | refine gDn [] [.tmp 4, .tmp 5] rfl ?_) <;> (try simp only [go_sem, simprocAttr]))
  | (refine hK _ _ ?_; clear hK K; simp only [go_sem, simprocAttr])
  | refine gCd (by simp only [go_sem, simprocAttr]; rfl) rfl ?_
  | refine brT ?_ | refine brF ?_
  | (refine brS ?_ ?_ <;> intro hc <;> (try simp only [bls] at hc) <;> (try simp only [hc, bls]))
  | intro _ | refine And.intro ?_ ?_)
      exact ⟨_, rfl⟩
    · rw [show rightS l = false from by simpa using h1] at hr
      repeat' (first
  | refine gSq ?_ | refine gSk ?_ | refine gBl ?_ | refine gIb ?_ | refine gEx rfl ?_
  | ((first
  | (refine gRg [] [0, 1, 4, 5, 6, 8, 10, 18, 23, 24, 25, 26, 45] ?_; intro K hK)
  | (refine gDr 7 [] 8 [0, 1, 2, 3, 4, 5, 6, 7, 8] [0, 1, 4, 5, 6, 8, 10, 18, 23, 24, 25, 26, 45] rfl ?_; intro K hK)
  | refine cAl (hr) rfl rfl rfl ?_
  | refine cAl (hr2) rfl rfl rfl ?_
  | (refine gd_split ?_ ?_ <;> intro hb <;> (try simp only [bls] at hb) <;> (try simp only [hb]))
  | refine gRt [] [.tmp 4, .tmp 5] rfl ?_ | refine gDn [] [.tmp 4, .tmp 5] rfl ?_) <;> (try simp only [go_sem, simprocAttr]))
  | (refine hK _ _ ?_; clear hK K; simp only [go_sem, simprocAttr])
  | refine gCd (by simp only [go_sem, simprocAttr]; rfl) rfl ?_
  | refine brT ?_ | refine brF ?_
  | (refine brS ?_ ?_ <;> intro hc <;> (try simp only [bls] at hc) <;> (try simp only [hc, bls]))
  | intro _ | refine And.intro ?_ ?_)
      exact ⟨_, rfl⟩
end Go.Rad
/- Contracts: syntax, byte by byte: what a node has; whether nodes are a tree. -/
namespace Go.Rad
open Go Go.Proofs
set_option linter.all false
set_option maxRecDepth 20000
set_option maxHeartbeats 4000000

theorem ba_empty : (ByteArray.mk #[]) = ByteArray.empty := Eq.trans rfl rfl
theorem shape4uc (fl : Bool) (n : Node) (hn : n.name.size ≤ maxLen) : ACall Try.prog 50 [.agg (n.cellsF fl)] [] fun r s' => r = .bool (shapeOk n) ∧ s' = [] := by
  obtain ⟨no, ⟨na, nb, nc, nd⟩, nl, nlo, nhi, nn⟩ := n
  simp only [Node.cellsF]
  refine ACall.enter Try.func50 rfl (by kernel_rfl) (Nat.le_of_ble_eq_true rfl) ?_; simp only [initTm, Nat.reduceAdd]
  repeat' (first
  | refine gSq ?_ | refine gSk ?_ | refine gBl ?_ | refine gIb ?_ | refine gEx rfl ?_
  | ((first
  | (refine gRg [] [0, 1, 2, 3, 4, 5, 6, 23, 24, 42, 59, 78, 125] ?_; intro K hK)
  | refine cAl (name4uc _ hn) rfl rfl rfl ?_
  | (refine gd_split ?_ ?_ <;> intro hb <;> (try simp only [bls] at hb) <;> (try simp only [hb]))
  | refine gRt [] [.tmp 2] rfl ?_ | refine gDn [] [.tmp 2] rfl ?_) <;> (try simp only [go_sem, simprocAttr, ba_empty]))
  | (refine hK _ _ ?_; clear hK K; simp only [go_sem, simprocAttr])
  | refine gCd (by simp only [go_sem, simprocAttr]; rfl) rfl ?_
  | refine brT ?_ | refine brF ?_
  | (refine brS ?_ ?_ <;> intro hc <;> (try simp only [bls] at hc) <;> (try simp only [hc, bls]))
  | intro _ | refine And.intro ?_ ?_)
  all_goals (refine congrArg AVal.bool ?_; simp_all [shapeOk, ISet.none] <;> omega)
end Go.Rad
/- Contracts: syntax, byte by byte: whether nodes are a tree. -/
namespace Go.Rad
open Go Go.Proofs
set_option linter.all false
set_option maxRecDepth 20000
set_option maxHeartbeats 4000000

theorem walk4uc (q f : Bool) (ns : List Node) (hns : ns.length ≤ 1000000) (hl : ∀ n ∈ ns, n.l.length ≤ maxLen) : ∀ (fuel at_ : Nat) (seen : List Int) (g : Nat), at_ < fuel → at_ < ns.length → seen.length ≤ 4000000 →
    ACall Try.prog 51 [.sl q f (nodes ns), .int .i64 at_, .osl 1000 g 0 seen.length] [(1000, (g, .row 1 (ints seen)))] fun r s => (walkS ns fuel at_ seen).1.length ≤ max seen.length (ns.length + at_ + 1) ∧ ∃ h, r = .tup [.osl 1000 h 0 (walkS ns fuel at_ seen).1.length, .bool (walkS ns fuel at_ seen).2] ∧ s = [(1000, (h, .row 1 (ints (walkS ns fuel at_ seen).1)))] := by
  unfold maxLen at hl
  intro fuel
  induction fuel with
  | zero => intro at_ seen g h; omega
  | succ fuel ih =>
    intro at_ seen g h1 h2 h3
    refine ACall.enter Try.func51 rfl (by kernel_rfl) (Nat.le_of_ble_eq_true rfl) ?_; simp only [initTm, Nat.reduceAdd]
    repeat' (first
  | refine gSq ?_ | refine gSk ?_ | refine gBl ?_ | refine gIb ?_ | refine gEx rfl ?_
  | ((first
  | (refine gRg [] [0, 1, 2, 6, 7, 8, 9, 10, 11, 16, 25, 42, 52] ?_; intro K hK)
  | (refine gd_split ?_ ?_ <;> intro hb <;> (try simp only [bls] at hb) <;> (try simp only [hb]))
  | refine gRt [1000] [.tmp 6, .tmp 7] rfl ?_ | refine gDn [1000] [.tmp 6, .tmp 7] rfl ?_) <;> (try simp only [go_sem, simprocAttr]))
  | (refine hK _ _ ?_; clear hK K; simp only [go_sem, simprocAttr])
  | refine gCd (by simp only [go_sem, simprocAttr]; rfl) rfl ?_
  | refine brT ?_ | refine brF ?_
  | (refine brS ?_ ?_ <;> intro hc <;> (try simp only [bls] at hc) <;> (try simp only [hc, bls]))
  | intro _ | refine And.intro ?_ ?_)
    · rw [walkS, if_pos (by omega)]; exact Nat.le_max_left _ _
    · rw [walkS, if_pos (by omega)]; exact ⟨g, rfl, rfl⟩
    have hx : ns[at_]? = some ns[at_] := List.getElem?_eq_getElem h2
    have hm := hl ns[at_] (List.getElem_mem h2)
    have hgd : ns.getD (at_ : Int).toNat default = ns[at_] := by simp [List.getD, hx]
    have hw : walkS ns (fuel + 1) at_ seen = if (ns[at_].l.foldl (kidStep (walkS ns fuel) at_) (seen, true)).2 then ((ns[at_].l.foldl (kidStep (walkS ns fuel) at_) (seen, true)).1 ++ [(at_ : Int)], true) else ns[at_].l.foldl (kidStep (walkS ns fuel) at_) (seen, true) := by
      rw [walkS, if_neg (by omega), hgd]
    rw [hw]; clear hw
    generalize ns[at_] = x at hx hm hgd
    clear hgd
    obtain ⟨xo, ⟨xa, xb, xc, xd⟩, xl, xlo, xhi, xn⟩ := x
    simp only at hm ⊢
    refine AGood.prune [0, 1, 2, 6, 7, 8] ?_; simp only [go_sem, simprocAttr]
    refine AGood.loopInv (α := Nat × List Int × Nat) (fun x => ([(0, .sl q f (nodes ns)), (1, .int .i64 at_), (2, .osl 1000 x.2.2 0 x.2.1.length), (6, .sl true true []), (7, .bool false), (8, .int .i64 x.1)], [(1000, (x.2.2, .row 1 (ints x.2.1)))]))
      (fun x => x.1 ≤ xl.length ∧ x.2.1.length ≤ ns.length + at_ ∧ (xl.take x.1).foldl (kidStep (walkS ns fuel) at_) (seen, true) = (x.2.1, true)) (fun x => xl.length - x.1) (0, seen, g) ⟨Nat.zero_le _, by simp only; omega, rfl⟩ rfl ?_
    rintro ⟨i, sn, gg⟩ ⟨hi, hs, hfold⟩ ih2
    simp only at hi hs hfold ih2 ⊢
    have e1 : (at_ : Int) < ns.length := by omega
    have e2 : (0 : Int) ≤ at_ := by omega
    by_cases hle : i < xl.length
    · have e4 : (i : Int) < xl.length := by omega
      have e5 : (0 : Int) ≤ i := by omega
      have hk : xl[i]? = some xl[i] := List.getElem?_eq_getElem hle
      generalize xl[i] = k at hk
      by_cases hbad : k < 0 ∨ (at_ : Int) ≤ k
      · have hst : kidStep (walkS ns fuel) at_ (sn, true) k = (sn, false) := by simp [kidStep, hbad]
        rw [kid_at hk hfold (by rw [hst]), hst]
        repeat' (first
  | refine gSq ?_ | refine gSk ?_ | refine gBl ?_ | refine gIb ?_ | refine gEx rfl ?_
  | ((first
  | (refine gRg [] [0, 1, 2, 6, 7, 8, 9, 10, 11, 16, 25, 42, 52] ?_; intro K hK)
  | (refine gd_split ?_ ?_ <;> intro hb <;> (try simp only [bls] at hb) <;> (try simp only [hb]))
  | refine gRt [1000] [.tmp 6, .tmp 7] rfl ?_ | refine gDn [1000] [.tmp 6, .tmp 7] rfl ?_) <;> (try simp only [go_sem, simprocAttr, e1, e2, e4, e5, hx, hk, Option.some.injEq, forall_eq']))
  | (refine hK _ _ ?_; clear hK K; simp only [go_sem, simprocAttr])
  | refine gCd (by simp only [go_sem, simprocAttr]; rfl) rfl ?_
  | refine brT ?_ | refine brF ?_
  | (refine brS ?_ ?_ <;> intro hc <;> (try simp only [bls] at hc) <;> (try simp only [hc, bls]))
  | intro _ | refine And.intro ?_ ?_)
        all_goals first | exact ⟨gg, rfl, rfl⟩ | omega
      · obtain ⟨m, rfl⟩ : ∃ m : Nat, k = m := ⟨k.toNat, by omega⟩
        have hst : kidStep (walkS ns fuel) at_ (sn, true) m = walkS ns fuel m sn := by simp [kidStep]; omega
        have e6 : ¬ (m : Int) < 0 := by omega
        have e7 : ¬ (at_ : Int) ≤ m := by omega
        have hcall := ih m sn gg (by omega) (by omega) (by omega)
        rcases hres : walkS ns fuel m sn with ⟨w, b⟩
        rw [hres] at hcall hst
        cases b
        · rw [kid_at hk hfold (by rw [hst]), hst]
          repeat' (first
  | refine gSq ?_ | refine gSk ?_ | refine gBl ?_ | refine gIb ?_ | refine gEx rfl ?_
  | ((first
  | (refine gRg [] [0, 1, 2, 6, 7, 8, 9, 10, 11, 16, 25, 42, 52] ?_; intro K hK)
  | (refine ACall.mono hcall ?_; rintro _ _ ⟨hlen, h', rfl, rfl⟩)
  | (refine gd_split ?_ ?_ <;> intro hb <;> (try simp only [bls] at hb) <;> (try simp only [hb]))
  | refine gRt [1000] [.tmp 6, .tmp 7] rfl ?_ | refine gDn [1000] [.tmp 6, .tmp 7] rfl ?_) <;> (try simp only [go_sem, simprocAttr, e1, e2, e4, e5, e6, e7, hx, hk, Option.some.injEq, forall_eq']))
  | (refine hK _ _ ?_; clear hK K; simp only [go_sem, simprocAttr])
  | refine gCd (by simp only [go_sem, simprocAttr]; rfl) rfl ?_
  | refine brT ?_ | refine brF ?_
  | (refine brS ?_ ?_ <;> intro hc <;> (try simp only [bls] at hc) <;> (try simp only [hc, bls]))
  | intro _ | refine And.intro ?_ ?_)
          all_goals (simp only at hlen; first | exact ⟨h', rfl, rfl⟩ | omega)
        · repeat' (first
  | refine gSq ?_ | refine gSk ?_ | refine gBl ?_ | refine gIb ?_ | refine gEx rfl ?_
  | ((first
  | (refine gRg [] [0, 1, 2, 6, 7, 8, 9, 10, 11, 16, 25, 42, 52] ?_; intro K hK)
  | (refine ACall.mono hcall ?_; rintro _ _ ⟨hlen, h', rfl, rfl⟩)
  | (refine gd_split ?_ ?_ <;> intro hb <;> (try simp only [bls] at hb) <;> (try simp only [hb]))
  | refine gRt [1000] [.tmp 6, .tmp 7] rfl ?_ | refine gDn [1000] [.tmp 6, .tmp 7] rfl ?_) <;> (try simp only [go_sem, simprocAttr, e1, e2, e4, e5, e6, e7, hx, hk, Option.some.injEq, forall_eq']))
  | (refine hK _ _ ?_; clear hK K; simp only [go_sem, simprocAttr])
  | refine gCd (by simp only [go_sem, simprocAttr]; rfl) rfl ?_
  | refine brT ?_ | refine brF ?_
  | (refine brS ?_ ?_ <;> intro hc <;> (try simp only [bls] at hc) <;> (try simp only [hc, bls]))
  | intro _ | refine And.intro ?_ ?_)
          · omega
          · omega
          · refine AGood.prune [0, 1, 2, 6, 7, 8] ?_; simp only [go_sem, simprocAttr]
            exact (ih2 (i + 1, w, h') ⟨by omega, by simp only at hlen ⊢; omega, by rw [take_one hk, List.foldl_append, hfold]; exact hst⟩ (by simp only; omega)).cast rfl rfl
    · have e4 : ¬ (i : Int) < xl.length := by omega
      rw [List.take_of_length_le (by omega)] at hfold
      rw [hfold]
      repeat' (first
  | refine gSq ?_ | refine gSk ?_ | refine gBl ?_ | refine gIb ?_ | refine gEx rfl ?_
  | ((first
  | (refine gRg [] [0, 1, 2, 6, 7, 8, 9, 10, 11, 16, 25, 42, 52] ?_; intro K hK)
  | (refine gd_split ?_ ?_ <;> intro hb <;> (try simp only [bls] at hb) <;> (try simp only [hb]))
  | refine gRt [1000] [.tmp 6, .tmp 7] rfl ?_ | refine gDn [1000] [.tmp 6, .tmp 7] rfl ?_) <;> (try simp only [go_sem, simprocAttr, e1, e2, e4, hx, Option.some.injEq, forall_eq']))
  | (refine hK _ _ ?_; clear hK K; simp only [go_sem, simprocAttr])
  | refine gCd (by simp only [go_sem, simprocAttr]; rfl) rfl ?_
  | refine brT ?_ | refine brF ?_
  | (refine brS ?_ ?_ <;> intro hc <;> (try simp only [bls] at hc) <;> (try simp only [hc, bls]))
  | intro _ | refine And.intro ?_ ?_)
      · rename_i y hy; simp only [List.mem_singleton] at hy; subst hy; rfl
      · rename_i y hy; simp only [List.mem_singleton] at hy; subst hy; rfl
      · unfold bigLen; omega
      · unfold bigLen; omega
      · simp only [List.length_append, List.length_cons, List.length_nil]; omega
      · rename_i h'
        exact ⟨h', by simp, by simp⟩

theorem right4uc (q f : Bool) (ns : List Node) (hl : ∀ n ∈ ns, n.l.length ≤ maxLen ∧ n.name.size ≤ maxLen) : ACall Try.prog 35 [.sl q f (nodes ns)] [] fun r s => r = .bool (right4 ns) ∧ s = [] := by
  refine ACall.enter Try.func35 rfl (by kernel_rfl) (Nat.le_of_ble_eq_true rfl) ?_; simp only [initTm, Nat.reduceAdd]
  repeat' (first
  | refine gSq ?_ | refine gSk ?_ | refine gBl ?_ | refine gIb ?_ | refine gEx rfl ?_
  | ((first
  | (refine gRg [] [0, 2, 3, 4, 5, 6, 14, 18, 26, 43, 47, 55] ?_; intro K hK)
  | (refine gd_split ?_ ?_ <;> intro hb <;> (try simp only [bls] at hb) <;> (try simp only [hb]))
  | refine gRt [] [.tmp 2] rfl ?_ | refine gDn [] [.tmp 2] rfl ?_) <;> (try simp only [go_sem, simprocAttr]))
  | (refine hK _ _ ?_; clear hK K; simp only [go_sem, simprocAttr])
  | refine gCd (by simp only [go_sem, simprocAttr]; rfl) rfl ?_
  | refine brT ?_ | refine brF ?_
  | (refine brS ?_ ?_ <;> intro hc <;> (try simp only [bls] at hc) <;> (try simp only [hc, bls]))
  | intro _ | refine And.intro ?_ ?_)
  · refine congrArg AVal.bool ?_; simp only [right4]; rw [if_pos (by omega)]
  · have hn1 : ¬ (ns.length < 1 ∨ 1024 < ns.length) := by omega
    have hr : right4 ns = (ns.all shapeOk && ((walkS ns ns.length ((ns.length : Int) - 1) []).2 && decide ((walkS ns ns.length ((ns.length : Int) - 1) []).1 = (List.range ns.length).map fun (i : Nat) => (i : Int)))) := by
      simp only [right4, if_neg hn1]
      cases ns.all shapeOk <;> simp
    rw [hr]; clear hr
    refine AGood.prune [0, 2, 3] ?_; simp only [go_sem, simprocAttr]
    refine AGood.loopInv (α := Nat) (fun i => ([(0, .sl q f (nodes ns)), (2, .bool false), (3, .int .i64 i)], [])) (fun i => i ≤ ns.length ∧ (ns.take i).all shapeOk = true) (fun i => ns.length - i) 0 ⟨Nat.zero_le _, rfl⟩ rfl ?_
    rintro i ⟨hi, hall⟩ ih
    simp only
    by_cases hle : i < ns.length
    · have e4 : (i : Int) < ns.length := by omega
      have e5 : (0 : Int) ≤ i := by omega
      have hx : ns[i]? = some ns[i] := List.getElem?_eq_getElem hle
      have hm := hl ns[i] (List.getElem_mem hle)
      generalize ns[i] = x at hx hm
      have hsh := fun fl => shape4uc fl x hm.2
      cases hok : shapeOk x
      all_goals
        rw [hok] at hsh
        obtain ⟨xo, ⟨xa, xb, xc, xd⟩, xl, xlo, xhi, xn⟩ := x
        repeat' (first
  | refine gSq ?_ | refine gSk ?_ | refine gBl ?_ | refine gIb ?_ | refine gEx rfl ?_
  | ((first
  | (refine gRg [] [0, 2, 3, 4, 5, 6, 14, 18, 26, 43, 47, 55] ?_; intro K hK)
  | refine cAl (hsh false) rfl rfl rfl ?_
  | (refine gd_split ?_ ?_ <;> intro hb <;> (try simp only [bls] at hb) <;> (try simp only [hb]))
  | refine gRt [] [.tmp 2] rfl ?_ | refine gDn [] [.tmp 2] rfl ?_) <;> (try simp only [go_sem, simprocAttr, e4, e5, hx, Option.some.injEq, forall_eq']))
  | (refine hK _ _ ?_; clear hK K; simp only [go_sem, simprocAttr])
  | refine gCd (by simp only [go_sem, simprocAttr]; rfl) rfl ?_
  | refine brT ?_ | refine brF ?_
  | (refine brS ?_ ?_ <;> intro hc <;> (try simp only [bls] at hc) <;> (try simp only [hc, bls]))
  | intro _ | refine And.intro ?_ ?_)
      · have : ns.all shapeOk = false := by
          rw [List.all_eq_false]
          exact ⟨_, List.mem_of_getElem? hx, by simp [hok]⟩
        rw [this]; rfl
      · omega
      · omega
      · refine AGood.prune [0, 2, 3] ?_; simp only [go_sem, simprocAttr]
        exact (ih (i + 1) ⟨by omega, by rw [take_one hx, List.all_append, hall]; simp [hok]⟩ (by omega)).cast rfl rfl
    · have e4 : ¬ (i : Int) < ns.length := by omega
      rw [List.take_of_length_le (by omega)] at hall
      rw [hall]
      obtain ⟨m, hm⟩ : ∃ m, ns.length = m + 1 := ⟨ns.length - 1, by omega⟩
      have e5 : (ns.length : Int) - 1 = (m : Nat) := by omega
      have hwalk := fun g => walk4uc q f ns (by omega) (fun n h => (hl n h).1) ns.length m [] g (by omega) (by omega) (Nat.zero_le _)
      rw [e5]
      rcases hres : walkS ns ns.length m [] with ⟨w, b⟩
      rw [hres] at hwalk
      simp only at hwalk
      cases b
      · repeat' (first
  | refine gSq ?_ | refine gSk ?_ | refine gBl ?_ | refine gIb ?_ | refine gEx rfl ?_
  | ((first
  | (refine gRg [] [0, 2, 3, 4, 5, 6, 14, 18, 26, 43, 47, 55] ?_; intro K hK)
  | (refine ACall.ownArg 2 1000 1 (by decide) rfl (fun g => ?_); refine ACall.mono (hwalk g) ?_; rintro _ _ ⟨hlen, h', rfl, rfl⟩)
  | (refine gd_split ?_ ?_ <;> intro hb <;> (try simp only [bls] at hb) <;> (try simp only [hb]))
  | refine gRt [] [.tmp 2] rfl ?_ | refine gDn [] [.tmp 2] rfl ?_) <;> (try simp only [go_sem, simprocAttr, e4, e5]))
  | (refine hK _ _ ?_; clear hK K; simp only [go_sem, simprocAttr])
  | refine gCd (by simp only [go_sem, simprocAttr]; rfl) rfl ?_
  | refine brT ?_ | refine brF ?_
  | (refine brS ?_ ?_ <;> intro hc <;> (try simp only [bls] at hc) <;> (try simp only [hc, bls]))
  | intro _ | refine And.intro ?_ ?_)
        · omega
        · omega
        · rfl
      · repeat' (first
  | refine gSq ?_ | refine gSk ?_ | refine gBl ?_ | refine gIb ?_ | refine gEx rfl ?_
  | ((first
  | (refine gRg [] [0, 2, 3, 4, 5, 6, 14, 18, 26, 43, 47, 55] ?_; intro K hK)
  | (refine ACall.ownArg 2 1000 1 (by decide) rfl (fun g => ?_); refine ACall.mono (hwalk g) ?_; rintro _ _ ⟨hlen, h', rfl, rfl⟩)
  | (refine gd_split ?_ ?_ <;> intro hb <;> (try simp only [bls] at hb) <;> (try simp only [hb]))
  | refine gRt [] [.tmp 2] rfl ?_ | refine gDn [] [.tmp 2] rfl ?_) <;> (try simp only [go_sem, simprocAttr, e4, e5]))
  | (refine hK _ _ ?_; clear hK K; simp only [go_sem, simprocAttr])
  | refine gCd (by simp only [go_sem, simprocAttr]; rfl) rfl ?_
  | refine brT ?_ | refine brF ?_
  | (refine brS ?_ ?_ <;> intro hc <;> (try simp only [bls] at hc) <;> (try simp only [hc, bls]))
  | intro _ | refine And.intro ?_ ?_)
        · omega
        · omega
        · refine congrArg AVal.bool ?_
          simp only [Bool.false_eq, decide_eq_false_iff_not]
          rintro rfl
          skip
          exact hc (by simp)
        · skip
          try simp only [Bool.true_and]
          refine AGood.prune [0, 2, 4, 6] ?_; simp only [go_sem, simprocAttr]
          refine AGood.loopInv (α := Nat) (fun i => ([(0, .sl q f (nodes ns)), (2, .bool false), (4, .osl 1000 h' 0 w.length), (6, .int .i64 i)], [(1000, (h', .row 1 (ints w)))])) (fun i => i ≤ w.length ∧ w.take i = (List.range i).map fun (i : Nat) => (i : Int)) (fun i => w.length - i) 0 ⟨Nat.zero_le _, rfl⟩ rfl ?_
          rintro j ⟨hj, htk⟩ ih2
          simp only
          by_cases hle2 : j < w.length
          · have f4 : (j : Int) < w.length := by omega
            have f5 : (0 : Int) ≤ j := by omega
            have hk : w[j]? = some w[j] := List.getElem?_eq_getElem hle2
            generalize w[j] = k at hk
            by_cases hkj : k = j
            · repeat' (first
  | refine gSq ?_ | refine gSk ?_ | refine gBl ?_ | refine gIb ?_ | refine gEx rfl ?_
  | ((first
  | (refine gRg [] [0, 2, 3, 4, 5, 6, 14, 18, 26, 43, 47, 55] ?_; intro K hK)
  | (refine gd_split ?_ ?_ <;> intro hb <;> (try simp only [bls] at hb) <;> (try simp only [hb]))
  | refine gRt [] [.tmp 2] rfl ?_ | refine gDn [] [.tmp 2] rfl ?_) <;> (try simp only [go_sem, simprocAttr, f4, f5, hk, hkj, hle2, Option.some.injEq, forall_eq']))
  | (refine hK _ _ ?_; clear hK K; simp only [go_sem, simprocAttr])
  | refine gCd (by simp only [go_sem, simprocAttr]; rfl) rfl ?_
  | refine brT ?_ | refine brF ?_
  | (refine brS ?_ ?_ <;> intro hc <;> (try simp only [bls] at hc) <;> (try simp only [hc, bls]))
  | intro _ | refine And.intro ?_ ?_)
              · omega
              · omega
              · refine AGood.prune [0, 2, 4, 6] ?_; simp only [go_sem, simprocAttr]
                exact (ih2 (j + 1) ⟨by omega, by rw [take_one hk, htk, hkj, List.range_succ]; simp⟩ (by omega)).cast rfl rfl
            · repeat' (first
  | refine gSq ?_ | refine gSk ?_ | refine gBl ?_ | refine gIb ?_ | refine gEx rfl ?_
  | ((first
  | (refine gRg [] [0, 2, 3, 4, 5, 6, 14, 18, 26, 43, 47, 55] ?_; intro K hK)
  | (refine gd_split ?_ ?_ <;> intro hb <;> (try simp only [bls] at hb) <;> (try simp only [hb]))
  | refine gRt [] [.tmp 2] rfl ?_ | refine gDn [] [.tmp 2] rfl ?_) <;> (try simp only [go_sem, simprocAttr, f4, f5, hk, hkj, hle2, Option.some.injEq, forall_eq']))
  | (refine hK _ _ ?_; clear hK K; simp only [go_sem, simprocAttr])
  | refine gCd (by simp only [go_sem, simprocAttr]; rfl) rfl ?_
  | refine brT ?_ | refine brF ?_
  | (refine brS ?_ ?_ <;> intro hc <;> (try simp only [bls] at hc) <;> (try simp only [hc, bls]))
  | intro _ | refine And.intro ?_ ?_)
              refine congrArg AVal.bool ?_
              simp only [Bool.false_eq, decide_eq_false_iff_not]
              intro hw
              rw [hw] at hk
              exact hkj (rg_get hk)
          · have f4 : ¬ (j : Int) < w.length := by omega
            rw [List.take_of_length_le (by omega)] at htk
            have hjn : j = ns.length := by omega
            subst hjn
            repeat' (first
  | refine gSq ?_ | refine gSk ?_ | refine gBl ?_ | refine gIb ?_ | refine gEx rfl ?_
  | ((first
  | (refine gRg [] [0, 2, 3, 4, 5, 6, 14, 18, 26, 43, 47, 55] ?_; intro K hK)
  | (refine gd_split ?_ ?_ <;> intro hb <;> (try simp only [bls] at hb) <;> (try simp only [hb]))
  | refine gRt [] [.tmp 2] rfl ?_ | refine gDn [] [.tmp 2] rfl ?_) <;> (try simp only [go_sem, simprocAttr, f4]))
  | (refine hK _ _ ?_; clear hK K; simp only [go_sem, simprocAttr])
  | refine gCd (by simp only [go_sem, simprocAttr]; rfl) rfl ?_
  | refine brT ?_ | refine brF ?_
  | (refine brS ?_ ?_ <;> intro hc <;> (try simp only [bls] at hc) <;> (try simp only [hc, bls]))
  | intro _ | refine And.intro ?_ ?_)
            rw [htk]; simp
  · refine congrArg AVal.bool ?_; simp only [right4]; rw [if_pos (by omega)]
end Go.Rad
/- Contracts: whether a tree has no names. -/
namespace Go.Rad
open Go Go.Proofs
set_option linter.all false
set_option maxRecDepth 20000
set_option maxHeartbeats 4000000

theorem plain_c (f : Bool) (l : List Node) (hlen : l.length ≤ maxLen) (hl : ∀ n ∈ l, n.l.length ≤ maxLen ∧ n.name.size ≤ maxLen) : ACall Try.prog 28 [.sl true f (nodes l)] [] fun r s => r = .bool (plainS l) ∧ s = [] := by
  unfold maxLen at hlen
  have hr := right4uc true f l hl
  refine ACall.enter Try.func28 rfl (by kernel_rfl) (Nat.le_of_ble_eq_true rfl) ?_; simp only [initTm, Nat.reduceAdd]
  repeat' (first
  | refine gSq ?_ | refine gSk ?_ | refine gBl ?_ | refine gIb ?_ | refine gEx rfl ?_
  | ((first
  | (refine gRg [] [0, 2, 3, 7, 15] ?_; intro K hK)
  | (refine gd_split ?_ ?_ <;> intro hb <;> (try simp only [bls] at hb) <;> (try simp only [hb]))
  | refine gRt [] [.tmp 2] rfl ?_ | refine gDn [] [.tmp 2] rfl ?_) <;> (try simp only [go_sem, simprocAttr]))
  | (refine hK _ _ ?_; clear hK K; simp only [go_sem, simprocAttr])
  | refine gCd (by simp only [go_sem, simprocAttr]; rfl) rfl ?_
  | refine brT ?_ | refine brF ?_
  | (refine brS ?_ ?_ <;> intro hc <;> (try simp only [bls] at hc) <;> (try simp only [hc, bls]))
  | intro _ | refine And.intro ?_ ?_)
  refine AGood.prune [0, 2, 3] ?_; simp only [go_sem, simprocAttr]
  refine AGood.loopInv (α := Nat) (fun i => ([(0, .sl true f (nodes l)), (2, .bool false), (3, .int .i64 i)], [])) (fun i => i ≤ l.length ∧ (l.take i).all plainN = true) (fun i => l.length - i) 0 ⟨Nat.zero_le _, rfl⟩ rfl ?_
  rintro i ⟨hi, hall⟩ ih
  simp only
  by_cases hle : i < l.length
  · have e4 : (i : Int) < l.length := by omega
    have e5 : (0 : Int) ≤ i := by omega
    have hx : l[i]? = some l[i] := List.getElem?_eq_getElem hle
    generalize l[i] = x at hx
    by_cases h6 : x.op = 6
    · have hno : plainS l = false := by
        have : l.all plainN = false := List.all_eq_false.2 ⟨x, List.mem_of_getElem? hx, by simp [plainN, h6]⟩
        simp [plainS, this]
      rw [hno]
      obtain ⟨xo, ⟨xa, xb, xc, xd⟩, xl, xlo, xhi, xn⟩ := x
      simp only at h6
      subst h6
      repeat' (first
  | refine gSq ?_ | refine gSk ?_ | refine gBl ?_ | refine gIb ?_ | refine gEx rfl ?_
  | ((first
  | (refine gRg [] [0, 2, 3, 7, 15] ?_; intro K hK)
  | (refine gd_split ?_ ?_ <;> intro hb <;> (try simp only [bls] at hb) <;> (try simp only [hb]))
  | refine gRt [] [.tmp 2] rfl ?_ | refine gDn [] [.tmp 2] rfl ?_) <;> (try simp only [go_sem, simprocAttr, e4, e5, hx, Option.some.injEq, forall_eq']))
  | (refine hK _ _ ?_; clear hK K; simp only [go_sem, simprocAttr])
  | refine gCd (by simp only [go_sem, simprocAttr]; rfl) rfl ?_
  | refine brT ?_ | refine brF ?_
  | (refine brS ?_ ?_ <;> intro hc <;> (try simp only [bls] at hc) <;> (try simp only [hc, bls]))
  | intro _ | refine And.intro ?_ ?_)
    · have hyes : plainN x = true := by simp [plainN, h6]
      obtain ⟨xo, ⟨xa, xb, xc, xd⟩, xl, xlo, xhi, xn⟩ := x
      simp only at h6
      repeat' (first
  | refine gSq ?_ | refine gSk ?_ | refine gBl ?_ | refine gIb ?_ | refine gEx rfl ?_
  | ((first
  | (refine gRg [] [0, 2, 3, 7, 15] ?_; intro K hK)
  | (refine gd_split ?_ ?_ <;> intro hb <;> (try simp only [bls] at hb) <;> (try simp only [hb]))
  | refine gRt [] [.tmp 2] rfl ?_ | refine gDn [] [.tmp 2] rfl ?_) <;> (try simp only [go_sem, simprocAttr, e4, e5, hx, h6, Option.some.injEq, forall_eq']))
  | (refine hK _ _ ?_; clear hK K; simp only [go_sem, simprocAttr])
  | refine gCd (by simp only [go_sem, simprocAttr]; rfl) rfl ?_
  | refine brT ?_ | refine brF ?_
  | (refine brS ?_ ?_ <;> intro hc <;> (try simp only [bls] at hc) <;> (try simp only [hc, bls]))
  | intro _ | refine And.intro ?_ ?_)
      all_goals first | omega | (unfold bigLen; omega) | exact ⟨_, _, ⟨rfl, rfl⟩, rfl⟩ | exact ⟨_, rfl⟩ | (rename_i hy; simp only [List.mem_singleton] at hy; subst hy; rfl) | with_reducible rfl | skip
      refine AGood.prune [0, 2, 3] ?_; simp only [go_sem, simprocAttr]
      exact (ih (i + 1) ⟨by omega, by rw [take_one hx, List.all_append, hall]; simp [hyes]⟩ (by omega)).cast rfl rfl
  · have e4 : ¬ (i : Int) < l.length := by omega
    rw [List.take_of_length_le (by omega)] at hall
    repeat' (first
  | refine gSq ?_ | refine gSk ?_ | refine gBl ?_ | refine gIb ?_ | refine gEx rfl ?_
  | ((first
  | (refine gRg [] [0, 2, 3, 7, 15] ?_; intro K hK)
  | refine cAl (hr) rfl rfl rfl ?_
  | (refine gd_split ?_ ?_ <;> intro hb <;> (try simp only [bls] at hb) <;> (try simp only [hb]))
  | refine gRt [] [.tmp 2] rfl ?_ | refine gDn [] [.tmp 2] rfl ?_) <;> (try simp only [go_sem, simprocAttr, e4]))
  | (refine hK _ _ ?_; clear hK K; simp only [go_sem, simprocAttr])
  | refine gCd (by simp only [go_sem, simprocAttr]; rfl) rfl ?_
  | refine brT ?_ | refine brF ?_
  | (refine brS ?_ ?_ <;> intro hc <;> (try simp only [bls] at hc) <;> (try simp only [hc, bls]))
  | intro _ | refine And.intro ?_ ?_)
    simp [plainS, hall]
end Go.Rad
/- Contracts: the document's meaning of trees: Ends. -/
namespace Go.Rad
open Go Go.Proofs
set_option linter.all false
set_option maxRecDepth 20000
set_option maxHeartbeats 4000000

/-- Which places there are. -/
def posN (s : List Bool) : List Nat := (List.range s.length).filter fun i => s.getD i false
abbrev posS (s : List Bool) : List Int := (posN s).map fun (i : Nat) => (i : Int)
theorem posS_len (s : List Bool) : (posS s).length ≤ s.length := by
  rw [posS, List.length_map]
  refine Nat.le_trans (List.length_filter_le _ _) ?_
  simp
def pointB (n i : Nat) : List Bool := (falses n).set i true
theorem pointB_len (n i : Nat) : (pointB n i).length = n := by simp [pointB, falses]
theorem semT_len {w : ByteArray} {fo : Fo} (hd : fo.deg = 1) {s : List Bool} (hs : s.length = w.size + 1) : (semT w fo s).length = w.size + 1 := by
  have hl := sem_len w fo
  rw [hd] at hl
  unfold semT
  match h : sem w fo, hl with
  | [g], _ => exact (sem_add w fo g (by rw [h]; simp)).len s hs
theorem ends7Top_c {w : ByteArray} (hw : w.size ≤ 1000000) (f : Bool) (fo : Fo) (hd : fo.deg = 1) (hsh : fo.shapeF = true) (hz : fo.size ≤ 1024) (h6 : no6 fo = true) (fr : Nat) (hfr : fr ≤ w.size) :
    ACall Try.prog 22 [.sl true f (nodes (fo.lay 0)), .str w, .int .i64 fr] [] fun r s => r = .sl true false (ints (posS (semT w fo (pointB (w.size + 1) fr)))) ∧ s = [] := by
  have hp : plainS (fo.lay 0) = true := (plain_fo _).2 ⟨fo, hd, rfl, hsh, hz, h6⟩
  obtain ⟨n1, n2⟩ := plainS_nd hp
  have hpl := plain_c f (fo.lay 0) (by unfold maxLen; omega) (fun n hn => (n1 n hn).symm)
  rw [hp] at hpl
  have hsub := Fo.sub_lay hd
  have hsl := sem_len w fo
  rw [hd] at hsl
  obtain ⟨g, hg⟩ : ∃ g, sem w fo = [g] := List.length_eq_one_iff.1 hsl
  have hcall := ends7uc (q := true) (f := f) hw (by omega) fo _ hsub hsh (by omega) 0 _ g rfl (by rw [hg]; rfl) (pointB (w.size + 1) fr) (pointB_len _ _)
  have hel := semT_len hd (pointB_len (w.size + 1) fr)
  have hsg : semT w fo (pointB (w.size + 1) fr) = g (pointB (w.size + 1) fr) := by rw [semT, hg]; rfl
  rw [← hsg] at hcall
  generalize semT w fo (pointB (w.size + 1) fr) = E at hcall hel
  have hln : (fo.lay 0).length = fo.size := Fo.lay_len _ _
  have hsp := Fo.size_pos hd
  rw [← hln] at hcall
  generalize fo.lay 0 = l at hpl hcall hln
  clear hsub hg hsg hp n1 n2 hsl hsh h6
  have hpc := places_c w hw
  have e1 : ¬ (fr : Int) < 0 := by omega
  have e2 : ¬ (w.size : Int) < fr := by omega
  have e3 : (0 : Int) ≤ fr := by omega
  have e4 : (fr : Int) < ((w.size + 1 : Nat) : Int) := by omega
  have e5 : fr < (falses (w.size + 1)).length := by rw [falses_len]; omega
  have e6 : (falses (w.size + 1))[fr]? = some false := by
    rw [List.getElem?_eq_getElem e5]; simp [falses]
  have e7 : (bools (falses (w.size + 1))).set fr [.bool true] = bools (pointB (w.size + 1) fr) := by simp [pointB, List.map_set]
  have e15 : (bools (pointB (w.size + 1) fr)).take (w.size + 1) = bools (pointB (w.size + 1) fr) := List.take_of_length_le (by simp [pointB_len])
  have e16 := pointB_len (w.size + 1) fr
  refine ACall.enter Try.func22 rfl (by kernel_rfl) (Nat.le_of_ble_eq_true rfl) ?_; simp only [initTm, Nat.reduceAdd]
  repeat' (first
  | (refine AGood.at 5 ?_; (refine stopI ?_))
  | refine gSq ?_ | refine gSk ?_ | refine gBl ?_ | refine gIb ?_ | refine gEx rfl ?_
  | ((first
  | (refine gRg [] [0, 1, 2, 6, 7, 8, 9, 10, 23, 39, 45] ?_; intro K hK)
  | refine cAl (hpl) rfl rfl rfl ?_
  | refine cAl (hcall) rfl rfl rfl ?_
  | (refine ACall.use [(6, 7)] [] rfl hpc rfl rfl rfl ?_; rintro _ _ ⟨h6, rfl, rfl⟩; refine ⟨.inl rfl, rfl, ?_⟩; simp only [bk, bk2, bk1, bkS, bkO, idOf, delAll, go_sem, simprocAttr])
  | (refine gd_split ?_ ?_ <;> intro hb <;> (try simp only [bls] at hb) <;> (try simp only [hb]))
  | refine gRt [] [.tmp 6] rfl ?_ | refine gDn [] [.tmp 6] rfl ?_) <;> (try simp only [go_sem, simprocAttr, e1, e2, e3, e4, e5, e6, Option.some.injEq, forall_eq']))
  | (refine hK _ _ ?_; clear hK K; simp only [go_sem, simprocAttr])
  | refine gCd (by simp only [go_sem, simprocAttr]; rfl) rfl ?_
  | refine brT ?_ | refine brF ?_
  | (refine brS ?_ ?_ <;> intro hc <;> (try simp only [bls] at hc) <;> (try simp only [hc, bls]))
  | intro _ | refine And.intro ?_ ?_)
  all_goals first | omega | (unfold bigLen; omega) | exact ⟨_, _, ⟨rfl, rfl⟩, rfl⟩ | exact ⟨_, rfl⟩ | (rename_i hy; simp only [List.mem_singleton] at hy; subst hy; rfl) | with_reducible rfl | skip
  rename_i z hz
  have hz2 : z = [.bool false] := by rw [List.getElem?_map, e6] at hz; exact (Option.some.inj hz).symm
  subst hz2
  refine stopE ?_
  refine AGood.reRow 7 (bools (pointB (w.size + 1) fr)) rfl (by rw [← e7]; rfl) ?_
  simp only [go_sem, simprocAttr]
  refine AGood.freeze 7 rfl ?_
  simp only [rfT, rfS, rfO, rf, rf1, e15, e16, List.length_map, Nat.le_refl, true_and, go_sem, simprocAttr]
  have e8 : (1 : Int) ≤ l.length := by omega
  repeat' (first
  | refine gSq ?_ | refine gSk ?_ | refine gBl ?_ | refine gIb ?_ | refine gEx rfl ?_
  | ((first
  | (refine gRg [] [0, 1, 2, 6, 7, 8, 9, 10, 23, 39, 45] ?_; intro K hK)
  | refine cAl (hcall) rfl rfl rfl ?_
  | (refine gd_split ?_ ?_ <;> intro hb <;> (try simp only [bls] at hb) <;> (try simp only [hb]))
  | refine gRt [] [.tmp 6] rfl ?_ | refine gDn [] [.tmp 6] rfl ?_) <;> (try simp only [go_sem, simprocAttr, e8]))
  | (refine hK _ _ ?_; clear hK K; simp only [go_sem, simprocAttr])
  | refine gCd (by simp only [go_sem, simprocAttr]; rfl) rfl ?_
  | refine brT ?_ | refine brF ?_
  | (refine brS ?_ ?_ <;> intro hc <;> (try simp only [bls] at hc) <;> (try simp only [hc, bls]))
  | intro _ | refine And.intro ?_ ?_)
  all_goals first | omega | (unfold bigLen; omega) | exact ⟨_, _, ⟨rfl, rfl⟩, rfl⟩ | exact ⟨_, rfl⟩ | (rename_i hy; simp only [List.mem_singleton] at hy; subst hy; rfl) | with_reducible rfl | skip
  refine AGood.ownTm 9 900 1 (by decide) rfl fun g9 => ?_
  simp only [go_sem, simprocAttr]
  refine AGood.prune [6, 8, 9, 10] ?_; simp only [go_sem, simprocAttr]
  obtain ⟨PS, hPS⟩ : ∃ PS : Nat → List Nat, PS = fun i => (List.range i).filter fun j => E.getD j false := ⟨_, rfl⟩
  have hp0 : PS 0 = [] := by rw [hPS]; rfl
  have hp1 : ∀ i, PS (i + 1) = PS i ++ (if E.getD i false = true then [i] else []) := by
    intro i
    rw [hPS]
    simp only [List.range_succ, List.filter_append]
    cases hb : E.getD i false <;> (rw [List.getD_eq_getElem?_getD] at hb; simp [hb])
  have hpE : posN E = PS E.length := by rw [hPS]; rfl
  have hpl2 : ∀ i, (PS i).length ≤ i := fun i => by
    rw [hPS]
    refine Nat.le_trans (List.length_filter_le _ _) ?_
    simp
  clear hPS
  rw [show posS E = (PS E.length).map fun (i : Nat) => (i : Int) from by rw [posS, hpE]]
  refine AGood.loopInv (α := Nat × Nat) (fun x => ([(6, .sl true true []), (8, .sl true false (bools E)), (9, .osl 900 x.2 0 (PS x.1).length), (10, .int .i64 x.1)], [(900, x.2, .row 1 (ints ((PS x.1).map fun (i : Nat) => (i : Int))))])) (fun x => x.1 ≤ E.length) (fun x => E.length - x.1) (0, g9) (Nat.zero_le _) (by simp only [hp0]; rfl) ?_
  rintro ⟨i, g⟩ hi ih
  simp only at hi ih ⊢
  have hl9 := hpl2 i
  by_cases hle : i < E.length
  · have f4 : (i : Int) < E.length := by omega
    have f5 : (0 : Int) ≤ i := by omega
    have f6 : (i : Int) + 1 = ((i + 1 : Nat) : Int) := by omega
    have hE : E[i]? = some E[i] := List.getElem?_eq_getElem hle
    have hgd : E.getD i false = E[i] := by simp [List.getD, hle]
    have h1 := hp1 i
    rw [hgd] at h1
    generalize E[i] = x at hE h1
    cases x
    · simp only [Bool.false_eq_true, if_false, List.append_nil] at h1
      repeat' (first
  | refine gSq ?_ | refine gSk ?_ | refine gBl ?_ | refine gIb ?_ | refine gEx rfl ?_
  | ((first
  | (refine gRg [] [0, 1, 2, 6, 7, 8, 9, 10, 23, 39, 45] ?_; intro K hK)
  | (refine gd_split ?_ ?_ <;> intro hb <;> (try simp only [bls] at hb) <;> (try simp only [hb]))
  | refine gRt [] [.tmp 6] rfl ?_ | refine gDn [] [.tmp 6] rfl ?_) <;> (try simp only [go_sem, simprocAttr, f4, f5, f6, hE, Option.some.injEq, forall_eq']))
  | (refine hK _ _ ?_; clear hK K; simp only [go_sem, simprocAttr])
  | refine gCd (by simp only [go_sem, simprocAttr]; rfl) rfl ?_
  | refine brT ?_ | refine brF ?_
  | (refine brS ?_ ?_ <;> intro hc <;> (try simp only [bls] at hc) <;> (try simp only [hc, bls]))
  | intro _ | refine And.intro ?_ ?_)
      all_goals first | omega | (unfold bigLen; omega) | exact ⟨_, _, ⟨rfl, rfl⟩, rfl⟩ | exact ⟨_, rfl⟩ | (rename_i hy; simp only [List.mem_singleton] at hy; subst hy; rfl) | with_reducible rfl | skip
      refine AGood.filt [900] ?_
      simp only [sf_cons, sf_nil, go_sem, simprocAttr]
      refine AGood.prune [6, 8, 9, 10] ?_; simp only [go_sem, simprocAttr]
      exact AGood.cast (ih (i + 1, g) (by simp only; omega) (by simp only; omega)) (by simp only [h1]) (by simp only [h1])
    · simp only [if_true] at h1
      repeat' (first
  | refine gSq ?_ | refine gSk ?_ | refine gBl ?_ | refine gIb ?_ | refine gEx rfl ?_
  | ((first
  | (refine gRg [48] [0, 1, 2, 6, 7, 8, 9, 10, 23, 39, 45] ?_; intro K hK)
  | (refine gd_split ?_ ?_ <;> intro hb <;> (try simp only [bls] at hb) <;> (try simp only [hb]))
  | refine gRt [] [.tmp 6] rfl ?_ | refine gDn [] [.tmp 6] rfl ?_) <;> (try simp only [go_sem, simprocAttr, f4, f5, f6, hE, Option.some.injEq, forall_eq']))
  | (refine hK _ _ ?_; clear hK K; simp only [go_sem, simprocAttr])
  | refine gCd (by simp only [go_sem, simprocAttr]; rfl) rfl ?_
  | refine brT ?_ | refine brF ?_
  | (refine brS ?_ ?_ <;> intro hc <;> (try simp only [bls] at hc) <;> (try simp only [hc, bls]))
  | intro _ | refine And.intro ?_ ?_)
      all_goals first | omega | (unfold bigLen; omega) | exact ⟨_, _, ⟨rfl, rfl⟩, rfl⟩ | exact ⟨_, rfl⟩ | (rename_i hy; simp only [List.mem_singleton] at hy; subst hy; rfl) | with_reducible rfl | skip
      rename_i h'
      refine AGood.filt [900] ?_
      simp only [sf_cons, sf_nil, go_sem, simprocAttr]
      refine AGood.prune [6, 8, 9, 10] ?_; simp only [go_sem, simprocAttr]
      exact AGood.cast (ih (i + 1, h') (by simp only; omega) (by simp only; omega)) (by simp only [h1]; simp) (by simp only [h1]; simp)
  · have f4 : ¬ (i : Int) < E.length := by omega
    have hin : i = E.length := by omega
    rw [hin]
    rw [hin] at f4 ih
    clear ih
    have g15 : (ints ((PS E.length).map fun (i : Nat) => (i : Int))).take (PS E.length).length = ints ((PS E.length).map fun (i : Nat) => (i : Int)) := List.take_of_length_le (by simp)
    repeat' (first
  | refine gSq ?_ | refine gSk ?_ | refine gBl ?_ | refine gIb ?_ | refine gEx rfl ?_
  | ((first
  | (refine AGood.at 12 ?_; (refine AGood.freeze 900 rfl ?_; simp only [rfT, rfS, rfO, rf, rf1, g15, List.length_map, Nat.le_refl, true_and, go_sem, simprocAttr]); (refine gRg [] [0, 1, 2, 6, 7, 8, 9, 10, 23, 39, 45] ?_; intro K hK))
  | (refine gRg [] [0, 1, 2, 6, 7, 8, 9, 10, 23, 39, 45] ?_; intro K hK)
  | (refine gd_split ?_ ?_ <;> intro hb <;> (try simp only [bls] at hb) <;> (try simp only [hb]))
  | refine gRt [] [.tmp 6] rfl ?_ | refine gDn [] [.tmp 6] rfl ?_) <;> (try simp only [go_sem, simprocAttr, f4]))
  | (refine hK _ _ ?_; clear hK K; simp only [go_sem, simprocAttr])
  | refine gCd (by simp only [go_sem, simprocAttr]; rfl) rfl ?_
  | refine brT ?_ | refine brF ?_
  | (refine brS ?_ ?_ <;> intro hc <;> (try simp only [bls] at hc) <;> (try simp only [hc, bls]))
  | intro _ | refine And.intro ?_ ?_)
    all_goals first | omega | (unfold bigLen; omega) | exact ⟨_, _, ⟨rfl, rfl⟩, rfl⟩ | exact ⟨_, rfl⟩ | (rename_i hy; simp only [List.mem_singleton] at hy; subst hy; rfl) | with_reducible rfl | skip
end Go.Rad
