/- Contracts: norm: a tree with what its names stand for. -/
import Derived.Test.YtejdlelhlpnabaaDoorKC06a
set_option linter.all false
namespace Go.Rad
open Go Go.Proofs
set_option linter.all false
set_option maxRecDepth 20000
set_option maxHeartbeats 4000000

theorem tree_c (nm : ByteArray → List Node → Out) (g g2 g3 : Nat) (dm om : List (ByteArray × AVal)) (hdm : cleanM dm = true) (hom : cleanM om = true)
    (hlen : ∀ s out, out.length ≤ 1024 → (nm s out).1.length ≤ 1024)
    (hname : ∀ s out g1, s.size ≤ maxLen → out.length ≤ 1024 → ACall Tryd.prog 45 [.bx 1000 g 0, .str s] (xsto g g1 g2 g3 dm om out) fun r s' => r = .tup [.int .i64 (nm s out).2.1, .int .i64 (nm s out).2.2] ∧ ∃ h1, s' = xsto g h1 g2 g3 dm om (nm s out).1)
    (q f : Bool) (l : List Node) (hl : 1 ≤ l.length ∧ l.length ≤ 1000000) (hk : ∀ (i : Nat) (n : Node), l[i]? = some n → n.name.size ≤ maxLen ∧ n.l.length ≤ 1000000 ∧ ∀ k ∈ n.l, 0 ≤ k ∧ k < (i : Int)) (out : List Node) (ho : out.length ≤ 1024) (g1 : Nat) :
    ACall Tryd.prog 24 [.bx 1000 g 0, .sl q f (nodes l)] (xsto g g1 g2 g3 dm om out) fun r s => r = .tup [.int .i64 (goT nm l [] out).2.1, .int .i64 (goT nm l [] out).2.2] ∧ ∃ h1, s = xsto g h1 g2 g3 dm om (goT nm l [] out).1 := by
  simp only [xsto, xbox] at hname ⊢
  obtain ⟨S, hS⟩ : ∃ S, S = goT nm l [] out := ⟨_, rfl⟩
  rw [← hS]
  refine ACall.enter Tryd.func24 rfl (by kernel_rfl) (Nat.le_of_ble_eq_true rfl) ?_; simp only [initTm, Nat.reduceAdd]
  repeat' (first
  | refine gSq ?_ | refine gSk ?_ | refine gBl ?_ | refine gIb ?_ | refine gEx rfl ?_
  | ((first
  | (refine gRg [] [0, 1, 4, 5, 6, 7, 8, 9, 13, 14, 15, 16, 22, 44] ?_; intro K hK)
  | (refine gd_split ?_ ?_ <;> intro hb <;> (try simp only [bls] at hb) <;> (try simp only [hb]))
  | refine gRt [1000, 1001, 1002, 1003] [.tmp 4, .tmp 5] rfl ?_ | refine gDn [1000, 1001, 1002, 1003] [.tmp 4, .tmp 5] rfl ?_) <;> (try simp only [go_sem, simprocAttr]))
  | (refine hK _ _ ?_; clear hK K; simp only [go_sem, simprocAttr])
  | refine gCd (by simp only [go_sem, simprocAttr]; rfl) rfl ?_
  | refine brT ?_ | refine brF ?_
  | (refine brS ?_ ?_ <;> intro hc <;> (try simp only [bls] at hc) <;> (try simp only [hc, bls]))
  | intro _ | refine And.intro ?_ ?_)
  all_goals first | omega | (unfold bigLen; omega) | exact ⟨_, _, ⟨rfl, rfl⟩, rfl⟩ | exact ⟨_, rfl⟩ | (rename_i hy; simp only [List.mem_singleton] at hy; subst hy; rfl) | skip
  rename_i h12
  refine AGood.prune [0, 1, 6, 13, 14, 15] ?_; simp only [go_sem, simprocAttr]
  refine AGood.loopInv (α := Nat × List Int × List Node × Nat) (fun x => ([(0, .bx 1000 g 0), (1, .sl q f (nodes l)), (6, .osl 12 h12 0 l.length), (13, .sl q f (nodes l)), (14, .int .i64 l.length), (15, .int .i64 x.1)],
      [(12, h12, .row 1 (ints (x.2.1 ++ List.replicate (l.length - x.1) 0))), (1000, g, .box [.map 1002 g2, .map 1003 g3, .osl 1001 x.2.2.2 0 x.2.2.1.length]), (1001, x.2.2.2, .row 9 (nodes x.2.2.1)), (1002, g2, .mp dm), (1003, g3, .mp om)]))
    (fun x => x.1 ≤ l.length ∧ x.2.1.length = x.1 ∧ x.2.2.1.length ≤ 1024 ∧ S = goT nm (l.drop x.1) x.2.1 x.2.2.1) (fun x => l.length - x.1) (0, [], out, g1) ⟨Nat.zero_le _, rfl, ho, hS⟩ (by simp only [ints, List.nil_append, List.map_replicate, Nat.sub_zero]; rfl) ?_
  rintro ⟨i, A, o, gg⟩ ⟨hi, hA, ho', hrun⟩ ih
  simp only at hi hA ho' hrun ih ⊢
  generalize hW : A ++ List.replicate (l.length - i) 0 = W
  have hWl : W.length = l.length := by subst hW; simp; omega
  by_cases hle : i < l.length
  · have e4 : (i : Int) < l.length := by omega
    have e5 : (0 : Int) ≤ i := by omega
    have e6 : i < W.length := by omega
    have hx : l[i]? = some l[i] := List.getElem?_eq_getElem hle
    have hm := hk i _ hx
    have hd : l.drop i = l[i] :: l.drop (i + 1) := List.drop_eq_getElem_cons hle
    rw [hd, goT] at hrun
    generalize l[i] = x at hx hm hrun
    have hWi : W[i]? = some 0 := by
      subst hW
      rw [List.getElem?_append_right (by omega), hA, Nat.sub_self, List.getElem?_replicate, if_pos (by omega)]
    have hset : ∀ v, W.set i v = (A ++ [v]) ++ List.replicate (l.length - (i + 1)) 0 := by
      intro v
      subst hW
      rw [List.set_append_right _ _ (by omega), hA, Nat.sub_self, show l.length - i = (l.length - (i + 1)) + 1 by omega, List.replicate_succ, List.set_cons_zero]
      simp
    have hst : (stepT nm x A o).1.length ≤ 1024 := by
      unfold stepT
      split
      · exact hlen _ _ ho'
      · exact putS_len ho'
    by_cases h6 : x.op = 6
    · have hs : stepT nm x A o = nm x.name o := by simp [stepT, h6]
      rw [hs] at hst hrun
      have hcall := hname x.name o gg hm.1 ho'
      clear hs hm
      obtain ⟨xo, ⟨xa, xb, xc, xd⟩, xl, xlo, xhi, xn⟩ := x
      simp only at h6 hcall hst hrun
      subst h6
      rcases hres : nm xn o with ⟨o2, v, e⟩
      rw [hres] at hcall hst hrun
      simp only at hcall hst hrun
      by_cases he : e = 0
      · subst he
        simp only [if_true] at hrun
        repeat' (first
  | refine gSq ?_ | refine gSk ?_ | refine gBl ?_ | refine gIb ?_ | refine gEx rfl ?_
  | ((first
  | (refine gRg [] [0, 1, 4, 5, 6, 7, 8, 9, 13, 14, 15, 16, 22, 44] ?_; intro K hK)
  | (refine ACall.use [(1000, 1000), (1001, 1001), (1002, 1002), (1003, 1003)] [] rfl hcall rfl rfl rfl ?_; rintro _ _ ⟨rfl, h1, rfl⟩; refine ⟨.inl rfl, rfl, ?_⟩; simp only [bk, bk1, bkS, bkO, idOf, delAll, go_sem, simprocAttr])
  | (refine gd_split ?_ ?_ <;> intro hb <;> (try simp only [bls] at hb) <;> (try simp only [hb]))
  | refine gRt [1000, 1001, 1002, 1003] [.tmp 4, .tmp 5] rfl ?_ | refine gDn [1000, 1001, 1002, 1003] [.tmp 4, .tmp 5] rfl ?_) <;> (try simp only [go_sem, simprocAttr, e4, e5, e6, hx, Option.some.injEq, forall_eq']))
  | (refine hK _ _ ?_; clear hK K; simp only [go_sem, simprocAttr])
  | refine gCd (by simp only [go_sem, simprocAttr]; rfl) rfl ?_
  | refine brT ?_ | refine brF ?_
  | (refine brS ?_ ?_ <;> intro hc <;> (try simp only [bls] at hc) <;> (try simp only [hc, bls]))
  | intro _ | refine And.intro ?_ ?_)
        all_goals first | omega | (unfold bigLen; omega) | exact ⟨_, _, ⟨rfl, rfl⟩, rfl⟩ | exact ⟨_, rfl⟩ | (rename_i hy; simp only [List.mem_singleton] at hy; subst hy; rfl) | skip
        rename_i y hy
        have hy2 : y = [.int .i64 0] := by
          rw [List.getElem?_map, hWi] at hy
          simpa using hy.symm
        subst hy2
        refine AGood.filt [12, 1000, 1001, 1002, 1003] ?_
        simp only [sf_cons, sf_nil, go_sem, simprocAttr]
        refine AGood.prune [0, 1, 6, 13, 14, 15] ?_; simp only [go_sem, simprocAttr]
        refine AGood.cast (ih (i + 1, A ++ [v], o2, h1) ⟨by simp only; omega, by simp [hA], hst, hrun⟩ (by simp only; omega)) rfl ?_
        simp only [← hset v]
        simp [ints, List.map_set]
      · simp only [if_neg he] at hrun
        subst hrun
        repeat' (first
  | refine gSq ?_ | refine gSk ?_ | refine gBl ?_ | refine gIb ?_ | refine gEx rfl ?_
  | ((first
  | (refine gRg [] [0, 1, 4, 5, 6, 7, 8, 9, 13, 14, 15, 16, 22, 44] ?_; intro K hK)
  | (refine ACall.use [(1000, 1000), (1001, 1001), (1002, 1002), (1003, 1003)] [] rfl hcall rfl rfl rfl ?_; rintro _ _ ⟨rfl, h1, rfl⟩; refine ⟨.inl rfl, rfl, ?_⟩; simp only [bk, bk1, bkS, bkO, idOf, delAll, go_sem, simprocAttr])
  | (refine gd_split ?_ ?_ <;> intro hb <;> (try simp only [bls] at hb) <;> (try simp only [hb]))
  | refine gRt [1000, 1001, 1002, 1003] [.tmp 4, .tmp 5] rfl ?_ | refine gDn [1000, 1001, 1002, 1003] [.tmp 4, .tmp 5] rfl ?_) <;> (try simp only [go_sem, simprocAttr, e4, e5, e6, hx, he, Option.some.injEq, forall_eq']))
  | (refine hK _ _ ?_; clear hK K; simp only [go_sem, simprocAttr])
  | refine gCd (by simp only [go_sem, simprocAttr]; rfl) rfl ?_
  | refine brT ?_ | refine brF ?_
  | (refine brS ?_ ?_ <;> intro hc <;> (try simp only [bls] at hc) <;> (try simp only [hc, bls]))
  | intro _ | refine And.intro ?_ ?_)
        all_goals first | omega | (unfold bigLen; omega) | exact ⟨_, _, ⟨rfl, rfl⟩, rfl⟩ | exact ⟨_, rfl⟩ | (rename_i hy; simp only [List.mem_singleton] at hy; subst hy; rfl) | skip
    · have hs : stepT nm x A o = putS x A o := by simp [stepT, h6]
      rw [hs] at hst hrun
      have hcall := put_c x false false W o g gg g2 g3 dm om (fun k hk => by have := hm.2.2 k hk; omega) hm.2.1 (by omega)
      rw [putS_ext (A := A) (W := W) (fun k hk => by have := hm.2.2 k hk; subst hW; exact atF_app this.1 (by omega))] at hcall
      clear hs hm
      obtain ⟨xo, ⟨xa, xb, xc, xd⟩, xl, xlo, xhi, xn⟩ := x
      simp only [xsto, xbox, Node.cells, Node.cellsF] at h6 hcall hst hrun
      rcases hres : putS ⟨xo, ⟨xa, xb, xc, xd⟩, xl, xlo, xhi, xn⟩ A o with ⟨o2, v, e⟩
      rw [hres] at hcall hst hrun
      simp only at hcall hst hrun
      by_cases he : e = 0
      · subst he
        simp only [if_true] at hrun
        repeat' (first
  | refine gSq ?_ | refine gSk ?_ | refine gBl ?_ | refine gIb ?_ | refine gEx rfl ?_
  | ((first
  | (refine gRg [] [0, 1, 4, 5, 6, 7, 8, 9, 13, 14, 15, 16, 22, 44] ?_; intro K hK)
  | (refine ACall.use [(1000, 1000), (1001, 1001), (1002, 1002), (1003, 1003)] [12] rfl hcall (map_three rfl rfl ((tr_lent rfl rfl rfl (by simp; omega)).trans ((congrArg (AVal.sl false false) (ints_part _ _ _)).trans (sl_ints (by rw [List.drop_zero, List.take_of_length_le (by omega)]))))) rfl rfl ?_; rintro _ _ ⟨rfl, h1, rfl⟩; refine ⟨.inr ⟨rfl, by simp only [cleanS, cleanO, cleanL, clean, clean_nodes, hdm, hom, Bool.and_self]⟩, rfl, ?_⟩; simp only [bk, bk1, bkS, bkO, idOf, delAll, go_sem, simprocAttr])
  | (refine gd_split ?_ ?_ <;> intro hb <;> (try simp only [bls] at hb) <;> (try simp only [hb]))
  | refine gRt [1000, 1001, 1002, 1003] [.tmp 4, .tmp 5] rfl ?_ | refine gDn [1000, 1001, 1002, 1003] [.tmp 4, .tmp 5] rfl ?_) <;> (try simp only [go_sem, simprocAttr, e4, e5, e6, hx, h6, Option.some.injEq, forall_eq']))
  | (refine hK _ _ ?_; clear hK K; simp only [go_sem, simprocAttr])
  | refine gCd (by simp only [go_sem, simprocAttr]; rfl) rfl ?_
  | refine brT ?_ | refine brF ?_
  | (refine brS ?_ ?_ <;> intro hc <;> (try simp only [bls] at hc) <;> (try simp only [hc, bls]))
  | intro _ | refine And.intro ?_ ?_)
        all_goals first | omega | (unfold bigLen; omega) | exact ⟨_, _, ⟨rfl, rfl⟩, rfl⟩ | exact ⟨_, rfl⟩ | (rename_i hy; simp only [List.mem_singleton] at hy; subst hy; rfl) | skip
        rename_i y hy
        have hy2 : y = [.int .i64 0] := by
          rw [List.getElem?_map, hWi] at hy
          simpa using hy.symm
        subst hy2
        refine AGood.filt [12, 1000, 1001, 1002, 1003] ?_
        simp only [sf_cons, sf_nil, go_sem, simprocAttr]
        refine AGood.prune [0, 1, 6, 13, 14, 15] ?_; simp only [go_sem, simprocAttr]
        refine AGood.cast (ih (i + 1, A ++ [v], o2, h1) ⟨by simp only; omega, by simp [hA], hst, hrun⟩ (by simp only; omega)) rfl ?_
        simp only [← hset v]
        simp [ints, List.map_set]
      · simp only [if_neg he] at hrun
        subst hrun
        repeat' (first
  | refine gSq ?_ | refine gSk ?_ | refine gBl ?_ | refine gIb ?_ | refine gEx rfl ?_
  | ((first
  | (refine gRg [] [0, 1, 4, 5, 6, 7, 8, 9, 13, 14, 15, 16, 22, 44] ?_; intro K hK)
  | (refine ACall.use [(1000, 1000), (1001, 1001), (1002, 1002), (1003, 1003)] [12] rfl hcall (map_three rfl rfl ((tr_lent rfl rfl rfl (by simp; omega)).trans ((congrArg (AVal.sl false false) (ints_part _ _ _)).trans (sl_ints (by rw [List.drop_zero, List.take_of_length_le (by omega)]))))) rfl rfl ?_; rintro _ _ ⟨rfl, h1, rfl⟩; refine ⟨.inr ⟨rfl, by simp only [cleanS, cleanO, cleanL, clean, clean_nodes, hdm, hom, Bool.and_self]⟩, rfl, ?_⟩; simp only [bk, bk1, bkS, bkO, idOf, delAll, go_sem, simprocAttr])
  | (refine gd_split ?_ ?_ <;> intro hb <;> (try simp only [bls] at hb) <;> (try simp only [hb]))
  | refine gRt [1000, 1001, 1002, 1003] [.tmp 4, .tmp 5] rfl ?_ | refine gDn [1000, 1001, 1002, 1003] [.tmp 4, .tmp 5] rfl ?_) <;> (try simp only [go_sem, simprocAttr, e4, e5, e6, hx, he, h6, Option.some.injEq, forall_eq']))
  | (refine hK _ _ ?_; clear hK K; simp only [go_sem, simprocAttr])
  | refine gCd (by simp only [go_sem, simprocAttr]; rfl) rfl ?_
  | refine brT ?_ | refine brF ?_
  | (refine brS ?_ ?_ <;> intro hc <;> (try simp only [bls] at hc) <;> (try simp only [hc, bls]))
  | intro _ | refine And.intro ?_ ?_)
        all_goals first | omega | (unfold bigLen; omega) | exact ⟨_, _, ⟨rfl, rfl⟩, rfl⟩ | exact ⟨_, rfl⟩ | (rename_i hy; simp only [List.mem_singleton] at hy; subst hy; rfl) | skip
  · have e4 : ¬ (i : Int) < l.length := by omega
    have hin : i = l.length := by omega
    subst hin
    obtain ⟨m, hm⟩ : ∃ m, l.length = m + 1 := ⟨l.length - 1, by omega⟩
    have e5 : (l.length : Int) - 1 = (m : Nat) := by omega
    have e6 : (m : Int) < l.length := by omega
    have e7 : (0 : Int) ≤ m := by omega
    have e8 : m < W.length := by omega
    have hlast : W[m]? = some (A.getLastD 0) := by
      subst hW
      rw [Nat.sub_self, List.replicate_zero, List.append_nil, List.getLastD_eq_getLast?, List.getLast?_eq_getElem?, show A.length - 1 = m by omega, List.getElem?_eq_getElem (by omega)]
      rfl
    simp only [List.drop_length, goT] at hrun
    subst hrun
    repeat' (first
  | refine gSq ?_ | refine gSk ?_ | refine gBl ?_ | refine gIb ?_ | refine gEx rfl ?_
  | ((first
  | (refine gRg [] [0, 1, 4, 5, 6, 7, 8, 9, 13, 14, 15, 16, 22, 44] ?_; intro K hK)
  | (refine gd_split ?_ ?_ <;> intro hb <;> (try simp only [bls] at hb) <;> (try simp only [hb]))
  | refine gRt [1000, 1001, 1002, 1003] [.tmp 4, .tmp 5] rfl ?_ | refine gDn [1000, 1001, 1002, 1003] [.tmp 4, .tmp 5] rfl ?_) <;> (try simp only [go_sem, simprocAttr, e4, e5, e6, e7, e8, hlast, Option.some.injEq, forall_eq']))
  | (refine hK _ _ ?_; clear hK K; simp only [go_sem, simprocAttr])
  | refine gCd (by simp only [go_sem, simprocAttr]; rfl) rfl ?_
  | refine brT ?_ | refine brF ?_
  | (refine brS ?_ ?_ <;> intro hc <;> (try simp only [bls] at hc) <;> (try simp only [hc, bls]))
  | intro _ | refine And.intro ?_ ?_)
    all_goals first | omega | (unfold bigLen; omega) | exact ⟨_, _, ⟨rfl, rfl⟩, rfl⟩ | exact ⟨_, rfl⟩ | (rename_i hy; simp only [List.mem_singleton] at hy; subst hy; rfl) | skip
end Go.Rad
