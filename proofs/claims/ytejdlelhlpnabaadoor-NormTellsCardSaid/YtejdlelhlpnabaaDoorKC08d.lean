/- Contracts: trees with what their names stand for, as the document walks them. -/
import Derived.Test.YtejdlelhlpnabaaDoorKC06d
import Derived.Test.YtejdlelhlpnabaaDoorKC06c
import Derived.Test.YtejdlelhlpnabaaDoorKC07a
import Derived.Test.YtejdlelhlpnabaaDoorKRWalk
set_option linter.all false
namespace Go.Rad
open Go Go.Proofs
set_option linter.all false
set_option maxRecDepth 20000
set_option maxHeartbeats 4000000

abbrev wsto (g g1 g2 : Nat) (f : Bool) (ds : List Df) (bs : List Bool) (out : List Node) (e : Int) : Sto := [(1000, (g, .box [.sl true f (defs ds), .osl 1001 g1 0 bs.length, .osl 1002 g2 0 out.length, .int .i64 e])), (1001, (g1, .row 1 (boolsL bs))), (1002, (g2, .row 9 (nodes out)))]
theorem find_c (s : ByteArray) (hs : s.size ≤ maxLen) (g g1 g2 : Nat) (f : Bool) (ds : List Df) (bs : List Bool) (out : List Node) (e : Int) (hl : ds.length ≤ 1000000) :
    ACall Tryd.prog 47 [.bx 1000 g 0, .str s] (wsto g g1 g2 f ds bs out e) fun r s' => r = .int .i64 (findI s ds 0) ∧ s' = wsto g g1 g2 f ds bs out e := by
  obtain ⟨S, hS⟩ : ∃ S, S = findI s ds 0 := ⟨_, rfl⟩
  rw [← hS]
  simp only [wsto]
  refine ACall.enter Tryd.func47 rfl (by kernel_rfl) (Nat.le_of_ble_eq_true rfl) ?_; simp only [initTm, Nat.reduceAdd]
  repeat' (first
  | refine gSq ?_ | refine gSk ?_ | refine gBl ?_ | refine gIb ?_ | refine gEx rfl ?_
  | ((first
  | (refine gRg [] [0, 1, 4, 5, 12, 24] ?_; intro K hK)
  | (refine gd_split ?_ ?_ <;> intro hb <;> (try simp only [bls] at hb) <;> (try simp only [hb]))
  | refine gRt [1000, 1001, 1002] [.tmp 4] rfl ?_ | refine gDn [1000, 1001, 1002] [.tmp 4] rfl ?_) <;> (try simp only [go_sem, simprocAttr]))
  | (refine hK _ _ ?_; clear hK K; simp only [go_sem, simprocAttr])
  | refine gCd (by simp only [go_sem, simprocAttr]; rfl) rfl ?_
  | refine brT ?_ | refine brF ?_
  | (refine brS ?_ ?_ <;> intro hc <;> (try simp only [bls] at hc) <;> (try simp only [hc, bls]))
  | intro _ | refine And.intro ?_ ?_)
  refine AGood.prune [0, 1, 4, 5] ?_; simp only [go_sem, simprocAttr]
  refine AGood.loopInv (α := Nat) (fun i => ([(0, .bx 1000 g 0), (1, .str s), (4, .int .i64 0), (5, .int .i64 i)], wsto g g1 g2 f ds bs out e)) (fun i => i ≤ ds.length ∧ S = findI s (ds.drop i) i) (fun i => ds.length - i) 0 ⟨Nat.zero_le _, hS⟩ rfl ?_
  rintro i ⟨hi, hrun⟩ ih
  simp only
  by_cases hle : i < ds.length
  · have e4 : (i : Int) < ds.length := by omega
    have e5 : (0 : Int) ≤ i := by omega
    have hx : ds[i]? = some ds[i] := List.getElem?_eq_getElem hle
    have hdr : ds.drop i = ds[i] :: ds.drop (i + 1) := List.drop_eq_getElem_cons hle
    rw [hdr, findI] at hrun
    generalize ds[i] = x at hx hrun
    obtain ⟨xn, xl⟩ := x
    simp only at hrun
    by_cases hn : xn = s
    · rw [if_pos hn] at hrun
      subst hrun
      repeat' (first
  | refine gSq ?_ | refine gSk ?_ | refine gBl ?_ | refine gIb ?_ | refine gEx rfl ?_
  | ((first
  | (refine gRg [] [0, 1, 4, 5, 12, 24] ?_; intro K hK)
  | (refine gd_split ?_ ?_ <;> intro hb <;> (try simp only [bls] at hb) <;> (try simp only [hb]))
  | refine gRt [1000, 1001, 1002] [.tmp 4] rfl ?_ | refine gDn [1000, 1001, 1002] [.tmp 4] rfl ?_) <;> (try simp only [go_sem, simprocAttr, e4, e5, hx, hn, Option.some.injEq, forall_eq']))
  | (refine hK _ _ ?_; clear hK K; simp only [go_sem, simprocAttr])
  | refine gCd (by simp only [go_sem, simprocAttr]; rfl) rfl ?_
  | refine brT ?_ | refine brF ?_
  | (refine brS ?_ ?_ <;> intro hc <;> (try simp only [bls] at hc) <;> (try simp only [hc, bls]))
  | intro _ | refine And.intro ?_ ?_)
    · rw [if_neg hn] at hrun
      repeat' (first
  | refine gSq ?_ | refine gSk ?_ | refine gBl ?_ | refine gIb ?_ | refine gEx rfl ?_
  | ((first
  | (refine gRg [] [0, 1, 4, 5, 12, 24] ?_; intro K hK)
  | (refine gd_split ?_ ?_ <;> intro hb <;> (try simp only [bls] at hb) <;> (try simp only [hb]))
  | refine gRt [1000, 1001, 1002] [.tmp 4] rfl ?_ | refine gDn [1000, 1001, 1002] [.tmp 4] rfl ?_) <;> (try simp only [go_sem, simprocAttr, e4, e5, hx, hn, Option.some.injEq, forall_eq']))
  | (refine hK _ _ ?_; clear hK K; simp only [go_sem, simprocAttr])
  | refine gCd (by simp only [go_sem, simprocAttr]; rfl) rfl ?_
  | refine brT ?_ | refine brF ?_
  | (refine brS ?_ ?_ <;> intro hc <;> (try simp only [bls] at hc) <;> (try simp only [hc, bls]))
  | intro _ | refine And.intro ?_ ?_)
      all_goals first | omega | (unfold bigLen; omega) | exact ⟨_, _, ⟨rfl, rfl⟩, rfl⟩ | exact ⟨_, rfl⟩ | (rename_i hy; simp only [List.mem_singleton] at hy; subst hy; rfl) | skip
      refine AGood.prune [0, 1, 4, 5] ?_; simp only [go_sem, simprocAttr]
      exact (ih (i + 1) ⟨by omega, hrun⟩ (by omega)).cast rfl rfl
  · have e4 : ¬ (i : Int) < ds.length := by omega
    rw [List.drop_of_length_le (by omega), findI] at hrun
    subst hrun
    repeat' (first
  | refine gSq ?_ | refine gSk ?_ | refine gBl ?_ | refine gIb ?_ | refine gEx rfl ?_
  | ((first
  | (refine gRg [] [0, 1, 4, 5, 12, 24] ?_; intro K hK)
  | (refine gd_split ?_ ?_ <;> intro hb <;> (try simp only [bls] at hb) <;> (try simp only [hb]))
  | refine gRt [1000, 1001, 1002] [.tmp 4] rfl ?_ | refine gDn [1000, 1001, 1002] [.tmp 4] rfl ?_) <;> (try simp only [go_sem, simprocAttr, e4]))
  | (refine hK _ _ ?_; clear hK K; simp only [go_sem, simprocAttr])
  | refine gCd (by simp only [go_sem, simprocAttr]; rfl) rfl ?_
  | refine brT ?_ | refine brF ?_
  | (refine brS ?_ ?_ <;> intro hc <;> (try simp only [bls] at hc) <;> (try simp only [hc, bls]))
  | intro _ | refine And.intro ?_ ?_)
/-- What the document's walk tells. -/
def walkP (ds : List Df) (f : Bool) (nm : ByteArray → List Node → Out) (bs : List Bool) (q : Bool) (fl : Bool) (l : List Node) (i : Nat) : Prop :=
  ∀ (n : Node) (lo : Nat), l[i]? = some n → Kids l lo n.l i → ∀ (A : List Int) (out : List Node), A.length = lo → out.length ≤ 1024 → ∀ (g g1 g2 : Nat),
    ACall Tryd.prog 25 [.bx 1000 g 0, .sl q fl (nodes l), .int .i64 i] (wsto g g1 g2 f ds bs out 0) fun r s => r = .int .i64 (if (goA nm (segL l lo (i + 1)) A out).2.2 = 0 then (goA nm (segL l lo (i + 1)) A out).1.getLastD 0 else 0) ∧ ∃ h2, s = wsto g g1 h2 f ds bs (goA nm (segL l lo (i + 1)) A out).2.1 (goA nm (segL l lo (i + 1)) A out).2.2
/-- A node that is no name: its kids, then itself. -/
theorem walkPut_c (ds : List Df) (f : Bool) (nm : ByteArray → List Node → Out) (hnl : ∀ s out, out.length ≤ 1024 → (nm s out).1.length ≤ 1024) (bs : List Bool) (q fl : Bool) (l : List Node) (htree : treeOk l) (i : Nat) (ih : ∀ k < i, walkP ds f nm bs q fl l k) (n : Node) (lo : Nat) (hx : l[i]? = some n) (hk : Kids l lo n.l i) (h6 : n.op ≠ 6) (A : List Int) (out : List Node) (hA : A.length = lo) (ho : out.length ≤ 1024) (g g1 g2 : Nat) :
    ACall Tryd.prog 25 [.bx 1000 g 0, .sl q fl (nodes l), .int .i64 i] (wsto g g1 g2 f ds bs out 0) fun r s => r = .int .i64 (if (goA nm (segL l lo (i + 1)) A out).2.2 = 0 then (goA nm (segL l lo (i + 1)) A out).1.getLastD 0 else 0) ∧ ∃ h2, s = wsto g g1 h2 f ds bs (goA nm (segL l lo (i + 1)) A out).2.1 (goA nm (segL l lo (i + 1)) A out).2.2 := by
  have hil := (List.getElem?_eq_some_iff.1 hx).1
  have hL := htree.1.2
  obtain ⟨-, hn1, -⟩ := htree.2 i _ hx
  obtain ⟨R, hR⟩ : ∃ R, R = goA nm (segL l lo (i + 1)) A out := ⟨_, rfl⟩
  have hseg : goA nm (segL l lo (i + 1)) A out = if (goA nm (segL l lo i) A out).2.2 = 0 then goA nm [n] (goA nm (segL l lo i) A out).1 (goA nm (segL l lo i) A out).2.1 else goA nm (segL l lo i) A out := by
    rw [segL_app l (show lo ≤ i from hk.le) (show i ≤ i + 1 by omega), segL_one hx, goA_app]
  rw [← hR]
  have e4 : (i : Int) < l.length := by omega
  have e5 : (0 : Int) ≤ i := by omega
  have hop : n.op = 6 ↔ False := by simp [h6]
  obtain ⟨xo, ⟨xa, xb, xc, xd⟩, xl, xlo, xhi, xn⟩ := n
  simp only at hk h6 hop hn1
  simp only [wsto]
  refine ACall.enter Tryd.func25 rfl (by kernel_rfl) (Nat.le_of_ble_eq_true rfl) ?_; simp only [initTm, Nat.reduceAdd]
  repeat' (first
  | refine gSq ?_ | refine gSk ?_ | refine gBl ?_ | refine gIb ?_ | refine gEx rfl ?_
  | ((first
  | (refine gRg [] [0, 1, 2, 6, 7, 8, 9, 10, 11, 18, 24, 34, 75, 93, 99] ?_; intro K hK)
  | (refine gDr 11 [] 19 [0, 1, 2, 3, 4, 5, 6, 7, 8, 9, 10, 11, 12, 13, 14, 15, 16, 17, 18, 19, 20] [0, 1, 2, 6, 7, 8, 9, 10, 11, 18, 24, 34, 75, 93, 99] rfl ?_; intro K hK)
  | (refine gDr 25 [] 6 [0, 1, 2, 3, 4, 5, 6, 7, 8, 9, 10] [0, 1, 2, 6, 7, 8, 9, 10, 11, 18, 24, 34, 75, 93, 99] rfl ?_; intro K hK)
  | (refine gd_split ?_ ?_ <;> intro hb <;> (try simp only [bls] at hb) <;> (try simp only [hb]))
  | refine gRt [1000, 1001, 1002] [.tmp 6] rfl ?_ | refine gDn [1000, 1001, 1002] [.tmp 6] rfl ?_) <;> (try simp only [go_sem, simprocAttr, e4, e5, hx, h6, Option.some.injEq, forall_eq']))
  | (refine hK _ _ ?_; clear hK K; simp only [go_sem, simprocAttr])
  | refine gCd (by simp only [go_sem, simprocAttr]; rfl) rfl ?_
  | refine brT ?_ | refine brF ?_
  | (refine brS ?_ ?_ <;> intro hc <;> (try simp only [bls] at hc) <;> (try simp only [hc, bls]))
  | intro _ | refine And.intro ?_ ?_)
  rename_i g7
  refine AGood.ownTm 10 900 1 (by decide) rfl fun g9 => ?_
  simp only [go_sem, simprocAttr]
  refine AGood.prune [0, 1, 6, 7, 10, 11] ?_; simp only [go_sem, simprocAttr]
  refine AGood.loopInv (α := Nat × Nat × List Int × List Node × Nat × Nat) (fun x => ([(0, .bx 1000 g 0), (1, .sl q fl (nodes l)), (6, .int .i64 0), (7, .bx 7 g7 0), (10, .osl 900 x.2.2.2.2.2 0 x.1), (11, .int .i64 x.1)],
      [(7, g7, .box [.int .u8 xo, .int .u64 xa, .int .u64 xb, .int .u64 xc, .int .u64 xd, .sl true false (ints xl), .int .i64 xlo, .int .i64 xhi, .str xn]), (900, x.2.2.2.2.2, .row 1 (ints ((xl.take x.1).map (atF x.2.2.1)))), (1000, g, .box [.sl true f (defs ds), .osl 1001 g1 0 bs.length, .osl 1002 x.2.2.2.2.1 0 x.2.2.2.1.length, .int .i64 0]), (1001, g1, .row 1 (boolsL bs)), (1002, x.2.2.2.2.1, .row 9 (nodes x.2.2.2.1))]))
    (fun x => x.1 ≤ xl.length ∧ Kids l lo (xl.take x.1) x.2.1 ∧ Kids l x.2.1 (xl.drop x.1) i ∧ goA nm (segL l lo x.2.1) A out = (x.2.2.1, x.2.2.2.1, 0)) (fun x => xl.length - x.1) (0, lo, A, out, g2, g9) ⟨Nat.zero_le _, .nil, hk, by simp only [segL_nil, goA]⟩ rfl ?_
  rintro ⟨j, m, A1, o1, g3, g9⟩ ⟨hj, hk1, hk2, hgo⟩ ih2
  simp only at hj hk1 hk2 hgo ih2 ⊢
  have hmi : m ≤ i := hk2.le
  obtain ⟨B1, hB1, hB2⟩ := goA_pre nm (segL l lo m) A out (by rw [hgo])
  rw [hgo] at hB1
  simp only at hB1
  rw [segL_len (by omega)] at hB2
  have hlom : lo ≤ m := hk1.le
  have hA1 : A1.length = m := by rw [hB1, List.length_append]; omega
  have ho1 : o1.length ≤ 1024 := by have := goA_len hnl (segL l lo m) A out ho; rw [hgo] at this; exact this
  have hrl : ((xl.take j).map (atF A1)).length = j := by simp; omega
  by_cases hle : j < xl.length
  · have f4 : (j : Int) < xl.length := by omega
    have f5 : (0 : Int) ≤ j := by omega
    have hxk : xl[j]? = some xl[j] := List.getElem?_eq_getElem hle
    have hdr : xl.drop j = xl[j] :: xl.drop (j + 1) := List.drop_eq_getElem_cons hle
    have ht := take_one hxk
    rw [hdr] at hk2
    generalize xl[j] = k at hxk hk2 ht
    cases hk2 with
    | @cons _ k' _ nk _ hnk hkk hkr =>
      have hki : k' + 1 ≤ i := hkr.le
      have hcall := ih k' (by omega) nk m hnk hkk A1 o1 hA1 ho1 g g1 g3
      simp only [wsto] at hcall
      rcases hR1 : goA nm (segL l m (k' + 1)) A1 o1 with ⟨A2, o2, e2⟩
      rw [hR1] at hcall
      simp only at hcall
      have hmk : m ≤ k' := hkk.le
      have hgo2 : goA nm (segL l lo (k' + 1)) A out = (A2, o2, e2) := by
        rw [segL_app l hlom (show m ≤ k' + 1 by omega), goA_app, hgo]
        simp only [if_true]; exact hR1
      by_cases he : e2 = 0
      · subst he
        simp only [if_true] at hcall
        obtain ⟨B2, hB3, hB4⟩ := goA_pre nm (segL l m (k' + 1)) A1 o1 (by rw [hR1])
        rw [hR1] at hB3
        simp only at hB3
        rw [segL_len (by omega)] at hB4
        have hA2 : A2.length = k' + 1 := by rw [hB3, List.length_append]; omega
        have ho2 : o2.length ≤ 1024 := by have := goA_len hnl (segL l m (k' + 1)) A1 o1 ho1; rw [hR1] at this; exact this
        have hlast : A2.getLastD 0 = atF A2 (k' : Int) := by
          rw [List.getLastD_eq_getLast?, List.getLast?_eq_getElem?, hA2]; rfl
        have hrow : (xl.take (j + 1)).map (atF A2) = (xl.take j).map (atF A1) ++ [A2.getLastD 0] := by
          rw [ht, List.map_append, hlast]
          congr 1
          refine List.map_congr_left fun k hk => ?_
          rw [hB3]
          have := hk1.lt k hk
          exact atF_app this.1 (by omega)
        have ih2 := fun h2 h9 => ih2 (j + 1, k' + 1, A2, o2, h2, h9) ⟨by simp only; omega, by simp only; rw [ht]; exact hk1.append (.cons hnk hkk .nil), by simpa only using hkr, by simpa only using hgo2⟩ (by simp only; omega)
        simp only [hrow] at ih2
        generalize A2.getLastD 0 = v at hcall ih2
        generalize (xl.take j).map (atF A1) = row at hrl ih2 ⊢
        repeat' (first
  | refine gSq ?_ | refine gSk ?_ | refine gBl ?_ | refine gIb ?_ | refine gEx rfl ?_
  | ((first
  | (refine gRg [87] [0, 1, 2, 6, 7, 8, 9, 10, 11, 18, 24, 34, 75, 93, 99] ?_; intro K hK)
  | (refine gDr 11 [87] 19 [0, 1, 2, 3, 4, 5, 6, 7, 8, 9, 10, 11, 12, 13, 14, 15, 16, 17, 18, 19, 20] [0, 1, 2, 6, 7, 8, 9, 10, 11, 18, 24, 34, 75, 93, 99] rfl ?_; intro K hK)
  | (refine gDr 25 [87] 6 [0, 1, 2, 3, 4, 5, 6, 7, 8, 9, 10] [0, 1, 2, 6, 7, 8, 9, 10, 11, 18, 24, 34, 75, 93, 99] rfl ?_; intro K hK)
  | (refine ACall.use [(1000, 1000), (1001, 1001), (1002, 1002)] [] rfl hcall rfl rfl rfl ?_; rintro _ _ ⟨rfl, h2, rfl⟩; refine ⟨.inl rfl, rfl, ?_⟩; simp only [bk, bk1, bkS, bkO, idOf, delAll, go_sem, simprocAttr])
  | (refine gd_split ?_ ?_ <;> intro hb <;> (try simp only [bls] at hb) <;> (try simp only [hb]))
  | refine gRt [1000, 1001, 1002] [.tmp 6] rfl ?_ | refine gDn [1000, 1001, 1002] [.tmp 6] rfl ?_) <;> (try simp only [go_sem, simprocAttr, f4, f5, hxk, hrl, Option.some.injEq, forall_eq']))
  | (refine hK _ _ ?_; clear hK K; simp only [go_sem, simprocAttr])
  | refine gCd (by simp only [go_sem, simprocAttr]; rfl) rfl ?_
  | refine brT ?_ | refine brF ?_
  | (refine brS ?_ ?_ <;> intro hc <;> (try simp only [bls] at hc) <;> (try simp only [hc, bls]))
  | intro _ | refine And.intro ?_ ?_)
        all_goals first | omega | (unfold bigLen; omega) | exact ⟨_, _, ⟨rfl, rfl⟩, rfl⟩ | exact ⟨_, rfl⟩ | (rename_i hy; simp only [List.mem_singleton] at hy; subst hy; rfl) | skip
        rename_i h9
        refine AGood.filt [7, 900, 1000, 1001, 1002] ?_
        simp only [sf_cons, sf_nil, go_sem, simprocAttr]
        refine AGood.prune [0, 1, 6, 7, 10, 11] ?_; simp only [go_sem, simprocAttr]
        exact (ih2 h2 h9).cast (by simp [hrl]) (by simp)
      · simp only [he, if_false] at hcall
        have hRR : R = (A2, o2, e2) := by
          rw [hR, segL_app l (show lo ≤ k' + 1 by omega) (show k' + 1 ≤ i + 1 by omega), goA_app, hgo2]
          simp only [he, if_false]
        rw [hRR]
        simp only [he, if_false]
        generalize (xl.take j).map (atF A1) = row at hrl ih2 ⊢
        repeat' (first
  | refine gSq ?_ | refine gSk ?_ | refine gBl ?_ | refine gIb ?_ | refine gEx rfl ?_
  | ((first
  | (refine gRg [87] [0, 1, 2, 6, 7, 8, 9, 10, 11, 18, 24, 34, 75, 93, 99] ?_; intro K hK)
  | (refine gDr 11 [87] 19 [0, 1, 2, 3, 4, 5, 6, 7, 8, 9, 10, 11, 12, 13, 14, 15, 16, 17, 18, 19, 20] [0, 1, 2, 6, 7, 8, 9, 10, 11, 18, 24, 34, 75, 93, 99] rfl ?_; intro K hK)
  | (refine gDr 25 [87] 6 [0, 1, 2, 3, 4, 5, 6, 7, 8, 9, 10] [0, 1, 2, 6, 7, 8, 9, 10, 11, 18, 24, 34, 75, 93, 99] rfl ?_; intro K hK)
  | (refine ACall.use [(1000, 1000), (1001, 1001), (1002, 1002)] [] rfl hcall rfl rfl rfl ?_; rintro _ _ ⟨rfl, h2, rfl⟩; refine ⟨.inl rfl, rfl, ?_⟩; simp only [bk, bk1, bkS, bkO, idOf, delAll, go_sem, simprocAttr])
  | (refine gd_split ?_ ?_ <;> intro hb <;> (try simp only [bls] at hb) <;> (try simp only [hb]))
  | refine gRt [1000, 1001, 1002] [.tmp 6] rfl ?_ | refine gDn [1000, 1001, 1002] [.tmp 6] rfl ?_) <;> (try simp only [go_sem, simprocAttr, f4, f5, hxk, hrl, he, Option.some.injEq, forall_eq']))
  | (refine hK _ _ ?_; clear hK K; simp only [go_sem, simprocAttr])
  | refine gCd (by simp only [go_sem, simprocAttr]; rfl) rfl ?_
  | refine brT ?_ | refine brF ?_
  | (refine brS ?_ ?_ <;> intro hc <;> (try simp only [bls] at hc) <;> (try simp only [hc, bls]))
  | intro _ | refine And.intro ?_ ?_)
        all_goals first | omega | (unfold bigLen; omega) | exact ⟨_, _, ⟨rfl, rfl⟩, rfl⟩ | exact ⟨_, rfl⟩ | (rename_i hy; simp only [List.mem_singleton] at hy; subst hy; rfl) | skip
  · have f4 : ¬ (j : Int) < xl.length := by omega
    have hjl : j = xl.length := by omega
    subst hjl
    rw [List.drop_length] at hk2
    cases hk2
    rw [List.take_length] at hk1 hrl ⊢
    have hstep : stepT nm ⟨xo, ⟨xa, xb, xc, xd⟩, xl, xlo, xhi, xn⟩ A1 o1 = putS ⟨xo, ⟨xa, xb, xc, xd⟩, xl, xlo, xhi, xn⟩ A1 o1 := by simp only [stepT, h6, if_false]
    rw [← hR, hgo] at hseg
    simp only [if_true, goA, hstep] at hseg
    clear hR ih2 ih
    by_cases hlong : 1024 ≤ o1.length
    · have f5 : (1024 : Int) ≤ o1.length := by omega
      have hp : putS ⟨xo, ⟨xa, xb, xc, xd⟩, xl, xlo, xhi, xn⟩ A1 o1 = (o1, 0, 3) := by simp only [putS, if_pos hlong]
      rw [hp] at hseg
      have hRR : R = (A1, o1, 3) := by rw [hseg]; rfl
      subst hRR
      generalize xl.map (atF A1) = row at hrl ⊢
      repeat' (first
  | refine gSq ?_ | refine gSk ?_ | refine gBl ?_ | refine gIb ?_ | refine gEx rfl ?_
  | ((first
  | (refine gRg [] [0, 1, 2, 6, 7, 8, 9, 10, 11, 18, 24, 34, 75, 93, 99] ?_; intro K hK)
  | (refine gDr 11 [] 19 [0, 1, 2, 3, 4, 5, 6, 7, 8, 9, 10, 11, 12, 13, 14, 15, 16, 17, 18, 19, 20] [0, 1, 2, 6, 7, 8, 9, 10, 11, 18, 24, 34, 75, 93, 99] rfl ?_; intro K hK)
  | (refine gDr 25 [] 6 [0, 1, 2, 3, 4, 5, 6, 7, 8, 9, 10] [0, 1, 2, 6, 7, 8, 9, 10, 11, 18, 24, 34, 75, 93, 99] rfl ?_; intro K hK)
  | (refine gd_split ?_ ?_ <;> intro hb <;> (try simp only [bls] at hb) <;> (try simp only [hb]))
  | refine gRt [1000, 1001, 1002] [.tmp 6] rfl ?_ | refine gDn [1000, 1001, 1002] [.tmp 6] rfl ?_) <;> (try simp only [go_sem, simprocAttr, f4, f5]))
  | (refine hK _ _ ?_; clear hK K; simp only [go_sem, simprocAttr])
  | refine gCd (by simp only [go_sem, simprocAttr]; rfl) rfl ?_
  | refine brT ?_ | refine brF ?_
  | (refine brS ?_ ?_ <;> intro hc <;> (try simp only [bls] at hc) <;> (try simp only [hc, bls]))
  | intro _ | refine And.intro ?_ ?_)
      exact ⟨_, rfl⟩
    · have f5 : ¬ (1024 : Int) ≤ o1.length := by omega
      have hp : putS ⟨xo, ⟨xa, xb, xc, xd⟩, xl, xlo, xhi, xn⟩ A1 o1 = (o1 ++ [⟨xo, ⟨xa, xb, xc, xd⟩, xl.map (atF A1), xlo, xhi, xn⟩], (o1.length : Int), 0) := by simp only [putS, if_neg hlong]
      rw [hp] at hseg
      have hRR : R = (A1 ++ [(o1.length : Int)], o1 ++ [⟨xo, ⟨xa, xb, xc, xd⟩, xl.map (atF A1), xlo, xhi, xn⟩], 0) := by rw [hseg]; rfl
      have hgl : (A1 ++ [(o1.length : Int)]).getLastD 0 = (o1.length : Int) := by simp
      subst hRR
      simp only [hgl, if_true]
      have e9 : (ints (xl.map (atF A1))).take xl.length = ints (xl.map (atF A1)) := List.take_of_length_le (by simp)
      have e10 : xl.length ≤ (xl.map (atF A1)).length := by simp
      generalize xl.map (atF A1) = row at hrl e9 e10 ⊢
      repeat' (first
  | refine gSq ?_ | refine gSk ?_ | refine gBl ?_ | refine gIb ?_ | refine gEx rfl ?_
  | ((first
  | (refine AGood.at 25 ?_; (refine AGood.freeze 900 rfl ?_; simp only [rfT, rfS, rfO, rf, rf1, e9, e10, true_and, go_sem, simprocAttr]); (refine gDr 25 [111] 7 [0, 1, 2, 3, 4, 5, 6, 7, 8, 9, 10] [0, 1, 2, 6, 7, 8, 9, 10, 11, 18, 24, 34, 75, 93, 99] rfl ?_; intro K hK))
  | (refine gRg [111] [0, 1, 2, 6, 7, 8, 9, 10, 11, 18, 24, 34, 75, 93, 99] ?_; intro K hK)
  | (refine gDr 11 [111] 19 [0, 1, 2, 3, 4, 5, 6, 7, 8, 9, 10, 11, 12, 13, 14, 15, 16, 17, 18, 19, 20] [0, 1, 2, 6, 7, 8, 9, 10, 11, 18, 24, 34, 75, 93, 99] rfl ?_; intro K hK)
  | (refine gd_split ?_ ?_ <;> intro hb <;> (try simp only [bls] at hb) <;> (try simp only [hb]))
  | refine gRt [1000, 1001, 1002] [.tmp 6] rfl ?_ | refine gDn [1000, 1001, 1002] [.tmp 6] rfl ?_) <;> (try simp only [go_sem, simprocAttr, f4, f5]))
  | (refine hK _ _ ?_; clear hK K; simp only [go_sem, simprocAttr])
  | refine gCd (by simp only [go_sem, simprocAttr]; rfl) rfl ?_
  | refine brT ?_ | refine brF ?_
  | (refine brS ?_ ?_ <;> intro hc <;> (try simp only [bls] at hc) <;> (try simp only [hc, bls]))
  | intro _ | refine And.intro ?_ ?_)
      all_goals first | omega | (unfold bigLen; omega) | exact ⟨_, _, ⟨rfl, rfl⟩, rfl⟩ | exact ⟨_, rfl⟩ | (rename_i hy; simp only [List.mem_singleton] at hy; subst hy; rfl) | skip
      · congr 1; omega
      · rename_i hh; exact ⟨hh, by simp⟩
theorem walk_c (ds : List Df) (f : Bool) (hdl : ds.length ≤ 900000) (hds : ∀ d ∈ ds, rightS d.l = true ∧ ∀ n ∈ d.l, n.name.size ≤ maxLen) (hdist : distinct ds) : ∀ (fuel : Nat) (op : List ByteArray), remS ds op < fuel → ∀ (q fl : Bool) (l : List Node), treeOk l → l.all shapeOk = true → ∀ i : Nat, walkP ds f (nameT ds fuel op) (opB ds op) q fl l i := by
  intro fuel
  induction fuel with
  | zero => intro op h; omega
  | succ fuel ihf =>
    intro op hrem q fl l htree hall i
    induction i using Nat.strongRecOn with
    | ind i ih =>
      intro n lo hx hk A out hA ho g g1 g2
      have hnl : ∀ s out, out.length ≤ 1024 → (nameT ds (fuel + 1) op s out).1.length ≤ 1024 := fun s out h => nameT_len ds _ op s out h
      by_cases h6 : n.op = 6
      · have hil := (List.getElem?_eq_some_iff.1 hx).1
        have hL := htree.1.2
        obtain ⟨hsz, -, -⟩ := htree.2 i _ hx
        have hno : n.l = [] := by
          have := List.all_eq_true.1 hall n (List.mem_of_getElem? hx)
          simp [shapeOk, h6] at this
          exact this.2
        rw [hno] at hk
        cases hk
        rw [segL_one hx]
        have hst : stepT (nameT ds (fuel + 1) op) n A out = nameT ds (fuel + 1) op n.name out := by simp [stepT, h6]
        have e4 : (i : Int) < l.length := by omega
        have e5 : (0 : Int) ≤ i := by omega
        simp only [goA, hst]
        obtain ⟨xo, ⟨xa, xb, xc, xd⟩, xl, xlo, xhi, xn⟩ := n
        simp only at h6 hsz ⊢
        subst h6
        have hfind := find_c xn hsz g g1 g2 f ds (opB ds op) out 0 (by omega)
        have hbl : (opB ds op).length = ds.length := by simp
        simp only [wsto] at hfind ⊢
        cases hf : dfind ds xn with
        | none =>
          have hn : nameT ds (fuel + 1) op xn out = (out, 0, 60) := by rw [nameT, hf]
          rw [findI_none hf] at hfind
          simp only [hn]
          clear ih ihf hst
          generalize opB ds op = bs at hfind hbl ⊢
          refine ACall.enter Tryd.func25 rfl (by kernel_rfl) (Nat.le_of_ble_eq_true rfl) ?_; simp only [initTm, Nat.reduceAdd]
          repeat' (first
  | refine gSq ?_ | refine gSk ?_ | refine gBl ?_ | refine gIb ?_ | refine gEx rfl ?_
  | ((first
  | (refine gRg [] [0, 1, 2, 6, 7, 8, 9, 10, 11, 18, 24, 34, 75, 93, 99] ?_; intro K hK)
  | (refine gDr 11 [] 19 [0, 1, 2, 3, 4, 5, 6, 7, 8, 9, 10, 11, 12, 13, 14, 15, 16, 17, 18, 19, 20] [0, 1, 2, 6, 7, 8, 9, 10, 11, 18, 24, 34, 75, 93, 99] rfl ?_; intro K hK)
  | (refine gDr 25 [] 6 [0, 1, 2, 3, 4, 5, 6, 7, 8, 9, 10] [0, 1, 2, 6, 7, 8, 9, 10, 11, 18, 24, 34, 75, 93, 99] rfl ?_; intro K hK)
  | (refine ACall.use [(1000, 1000), (1001, 1001), (1002, 1002)] [] rfl hfind rfl rfl rfl ?_; rintro _ _ ⟨rfl, rfl⟩; refine ⟨.inl rfl, rfl, ?_⟩; simp only [bk, bk1, bkS, bkO, idOf, delAll, go_sem, simprocAttr])
  | (refine gd_split ?_ ?_ <;> intro hb <;> (try simp only [bls] at hb) <;> (try simp only [hb]))
  | refine gRt [1000, 1001, 1002] [.tmp 6] rfl ?_ | refine gDn [1000, 1001, 1002] [.tmp 6] rfl ?_) <;> (try simp only [go_sem, simprocAttr, e4, e5, hx, Option.some.injEq, forall_eq']))
  | (refine hK _ _ ?_; clear hK K; simp only [go_sem, simprocAttr])
  | refine gCd (by simp only [go_sem, simprocAttr]; rfl) rfl ?_
  | refine brT ?_ | refine brF ?_
  | (refine brS ?_ ?_ <;> intro hc <;> (try simp only [bls] at hc) <;> (try simp only [hc, bls]))
  | intro _ | refine And.intro ?_ ?_)
          all_goals first | omega | (unfold bigLen; omega) | exact ⟨_, _, ⟨rfl, rfl⟩, rfl⟩ | exact ⟨_, rfl⟩ | (rename_i hy; simp only [List.mem_singleton] at hy; subst hy; rfl) | skip
        | some d =>
          obtain ⟨k, hk1, hk2⟩ := findI_some (i := 0) hf
          obtain ⟨hdm, hdn⟩ := dfind_some hf
          rw [hk1, Nat.zero_add] at hfind
          have hkl := (List.getElem?_eq_some_iff.1 hk2).1
          have f4 : (k : Int) < ds.length := by omega
          have f5 : ¬ (k : Int) < 0 := by omega
          have f6 : (0 : Int) ≤ k := by omega
          have hbk : (opB ds op)[k]? = some (hasB op xn) := by rw [List.getElem?_map, hk2, ← hdn]; rfl
          have hnm : nameT ds (fuel + 1) op xn out = if hasB op xn = true then (out, 0, 61) else goT (nameT ds fuel (op ++ [xn])) d.l [] out := by rw [nameT, hf]
          cases hb : hasB op xn
          · have hset := opB_set (op := op) hdist hk2
            have hunset := opB_unset (op := op) hdist hk2 (by rw [hdn]; exact hb)
            rw [hdn] at hset hunset
            rw [hb] at hnm hbk
            simp only [Bool.false_eq_true, if_false] at hnm
            have hd2 := hds d hdm
            obtain ⟨r1, r2, r3, r4⟩ := rightS_kids hd2.1
            have htree2 := rightS_ok hd2.1 hd2.2
            have hrem2 : remS ds (op ++ [xn]) < fuel := by have := rem_lt hdm hdn hb; omega
            obtain ⟨rn, hr1, hr2⟩ : ∃ n, d.l[d.l.length - 1]? = some n ∧ Kids d.l 0 n.l (d.l.length - 1) := by
              generalize hcc : (d.l.length : Int) - 1 = cc at r1
              cases r1 with
              | @cons _ kk _ nn _ q1 q2 q3 =>
                have : kk = d.l.length - 1 := by omega
                subst this; exact ⟨nn, q1, q2⟩
            have hwalk := fun g2 => ihf (op ++ [xn]) hrem2 true false d.l htree2 r2 (d.l.length - 1) rn 0 hr1 hr2 [] out rfl ho g g1 g2
            rw [show d.l.length - 1 + 1 = d.l.length by omega, segL_all] at hwalk
            rw [goT_goA] at hnm
            generalize goA (nameT ds fuel (op ++ [xn])) d.l [] out = R at hwalk hnm
            obtain ⟨RA, Ro, Re⟩ := R
            simp only at hwalk hnm
            have f7 : ((d.l.length - 1 : Nat) : Int) = (d.l.length : Int) - 1 := by omega
            rw [f7] at hwalk
            have f8 : inI64 ((d.l.length : Int) - 1) := by unfold inI64; omega
            simp only [hnm]
            rw [show (boolsL (opB ds op)) = boolsL (opB ds op) from rfl] at hfind
            have hbl2 : (opB ds (op ++ [xn])).length = ds.length := by simp
            simp only [wsto] at hwalk
            clear ih ihf hst hf htree hall hds r1 r2
            have hs1 : (boolsL (opB ds op)).set k [.bool true] = boolsL (opB ds (op ++ [xn])) := by rw [← hset]; simp [boolsL, List.map_set]
            have hs2 : (boolsL (opB ds (op ++ [xn]))).set k [.bool false] = boolsL (opB ds op) := by rw [← hunset]; simp [boolsL, List.map_set]
            obtain ⟨dn, dl⟩ := d
            simp only at hwalk hk2 f8 f7 r3 r4 hdn
            subst hdn
            have hbk2 : (opB ds (op ++ [dn]))[k]? = some true := by rw [← hset]; rw [List.getElem?_set]; simp [hkl]
            have hbr : (boolsL (opB ds op))[k]? = some [AVal.bool false] := by rw [List.getElem?_map, hbk]; rfl
            have hbr2 : (boolsL (opB ds (op ++ [dn])))[k]? = some [AVal.bool true] := by rw [List.getElem?_map, hbk2]; rfl
            generalize opB ds op = bs at hfind hbl hbk hbr hs1 hs2 ⊢
            generalize opB ds (op ++ [dn]) = bs2 at hwalk hbl2 hbk2 hbr2 hs1 hs2
            rw [hbl] at hfind
            simp only [hbl2] at hwalk
            refine ACall.enter Tryd.func25 rfl (by kernel_rfl) (Nat.le_of_ble_eq_true rfl) ?_; simp only [initTm, Nat.reduceAdd]
            repeat' (first
  | refine gSq ?_ | refine gSk ?_ | refine gBl ?_ | refine gIb ?_ | refine gEx rfl ?_
  | ((first
  | (refine gRg [] [0, 1, 2, 6, 7, 8, 9, 10, 11, 18, 24, 34, 75, 93, 99] ?_; intro K hK)
  | (refine gDr 11 [] 19 [0, 1, 2, 3, 4, 5, 6, 7, 8, 9, 10, 11, 12, 13, 14, 15, 16, 17, 18, 19, 20] [0, 1, 2, 6, 7, 8, 9, 10, 11, 18, 24, 34, 75, 93, 99] rfl ?_; intro K hK)
  | (refine gDr 25 [] 6 [0, 1, 2, 3, 4, 5, 6, 7, 8, 9, 10] [0, 1, 2, 6, 7, 8, 9, 10, 11, 18, 24, 34, 75, 93, 99] rfl ?_; intro K hK)
  | (refine ACall.use [(1000, 1000), (1001, 1001), (1002, 1002)] [] rfl hfind rfl rfl rfl ?_; rintro _ _ ⟨rfl, rfl⟩; refine ⟨.inl rfl, rfl, ?_⟩; simp only [bk, bk1, bkS, bkO, idOf, delAll, go_sem, simprocAttr])
  | (refine ACall.use [(1000, 1000), (1001, 1001), (1002, 1002)] [] rfl (hwalk _) rfl rfl rfl ?_; rintro _ _ ⟨rfl, h2, rfl⟩; refine ⟨.inl rfl, rfl, ?_⟩; simp only [bk, bk1, bkS, bkO, idOf, delAll, go_sem, simprocAttr])
  | (refine gd_split ?_ ?_ <;> intro hb <;> (try simp only [bls] at hb) <;> (try simp only [hb]))
  | refine gRt [1000, 1001, 1002] [.tmp 6] rfl ?_ | refine gDn [1000, 1001, 1002] [.tmp 6] rfl ?_) <;> (try simp only [go_sem, simprocAttr, e4, e5, hx, f4, f5, f6, f8, hbl, hbl2, hbk, hbk2, hbr, hbr2, hk2, hs1, hs2, Option.some.injEq, forall_eq']))
  | (refine hK _ _ ?_; clear hK K; simp only [go_sem, simprocAttr])
  | refine gCd (by simp only [go_sem, simprocAttr]; rfl) rfl ?_
  | refine brT ?_ | refine brF ?_
  | (refine brS ?_ ?_ <;> intro hc <;> (try simp only [bls] at hc) <;> (try simp only [hc, bls]))
  | intro _ | refine And.intro ?_ ?_)
            all_goals first | omega | (unfold bigLen; omega) | exact ⟨_, _, ⟨rfl, rfl⟩, rfl⟩ | exact ⟨_, rfl⟩ | (rename_i hy; simp only [List.mem_singleton] at hy; subst hy; rfl) | skip
            · by_cases he : Re = 0 <;> simp [he]
            · rename_i h2
              refine ⟨h2, ?_⟩
              by_cases he : Re = 0 <;> simp [he]
          · rw [hb] at hnm hbk
            simp only [if_true] at hnm
            simp only [hnm]
            clear ih ihf hst hf htree hall hds
            generalize opB ds op = bs at hfind hbl hbk ⊢
            rw [hbl] at hfind
            refine ACall.enter Tryd.func25 rfl (by kernel_rfl) (Nat.le_of_ble_eq_true rfl) ?_; simp only [initTm, Nat.reduceAdd]
            repeat' (first
  | refine gSq ?_ | refine gSk ?_ | refine gBl ?_ | refine gIb ?_ | refine gEx rfl ?_
  | ((first
  | (refine gRg [] [0, 1, 2, 6, 7, 8, 9, 10, 11, 18, 24, 34, 75, 93, 99] ?_; intro K hK)
  | (refine gDr 11 [] 19 [0, 1, 2, 3, 4, 5, 6, 7, 8, 9, 10, 11, 12, 13, 14, 15, 16, 17, 18, 19, 20] [0, 1, 2, 6, 7, 8, 9, 10, 11, 18, 24, 34, 75, 93, 99] rfl ?_; intro K hK)
  | (refine gDr 25 [] 6 [0, 1, 2, 3, 4, 5, 6, 7, 8, 9, 10] [0, 1, 2, 6, 7, 8, 9, 10, 11, 18, 24, 34, 75, 93, 99] rfl ?_; intro K hK)
  | (refine ACall.use [(1000, 1000), (1001, 1001), (1002, 1002)] [] rfl hfind rfl rfl rfl ?_; rintro _ _ ⟨rfl, rfl⟩; refine ⟨.inl rfl, rfl, ?_⟩; simp only [bk, bk1, bkS, bkO, idOf, delAll, go_sem, simprocAttr])
  | (refine gd_split ?_ ?_ <;> intro hb <;> (try simp only [bls] at hb) <;> (try simp only [hb]))
  | refine gRt [1000, 1001, 1002] [.tmp 6] rfl ?_ | refine gDn [1000, 1001, 1002] [.tmp 6] rfl ?_) <;> (try simp only [go_sem, simprocAttr, e4, e5, hx, f4, f5, f6, hbl, hbk, Option.some.injEq, forall_eq']))
  | (refine hK _ _ ?_; clear hK K; simp only [go_sem, simprocAttr])
  | refine gCd (by simp only [go_sem, simprocAttr]; rfl) rfl ?_
  | refine brT ?_ | refine brF ?_
  | (refine brS ?_ ?_ <;> intro hc <;> (try simp only [bls] at hc) <;> (try simp only [hc, bls]))
  | intro _ | refine And.intro ?_ ?_)
            all_goals first | omega | (unfold bigLen; omega) | exact ⟨_, _, ⟨rfl, rfl⟩, rfl⟩ | exact ⟨_, rfl⟩ | (rename_i hy; simp only [List.mem_singleton] at hy; subst hy; rfl) | skip
      · exact walkPut_c ds f _ hnl _ q fl l htree i ih n lo hx hk h6 A out hA ho g g1 g2
end Go.Rad
