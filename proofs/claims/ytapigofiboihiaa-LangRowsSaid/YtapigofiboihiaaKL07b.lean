/- The statements of layer 7: LangRows. -/
import Derived.Test.YtapigofiboihiaaKRSet
import Derived.Test.YtapigofiboihiaaKRNode
import Derived.Test.YtapigofiboihiaaRows
import Derived.Test.YtapigofiboihiaaKRRunC
set_option linter.all false
namespace Go.Rad
open Go Go.Proofs
set_option linter.all false
set_option maxRecDepth 20000
set_option maxHeartbeats 4000000

section
variable {w : ByteArray} {f g : Fo} (hf : f.deg = 1) (hg : g.deg = 1) (sf : f.shapeF = true) (sg : g.shapeF = true)
include hf hg sf sg
theorem rows_cat (h1 : (pairF 3 f g).shapeF = true) (i : Nat) : endT w (pairF 3 f g) i = posS (catAll (endT w g) (falses (w.size + 1)) (endT w f i)) := by
  refine rise_ext (endT_rise _ _ _) (posS_rise _) fun x => ?_
  rw [endT_mem rfl h1, posS_mem]
  have hb : ∀ x ∈ endT w f i, ∀ y ∈ endT w g x.toNat, 0 ≤ y ∧ y < (falses (w.size + 1)).length := by
    intro x _ y hy
    obtain ⟨k, rfl, _, h, _⟩ := (endT_mem hg sg _ y).1 hy
    rw [falses_len]; omega
  constructor
  · rintro ⟨k, rfl, h2, h3, h4⟩
    refine ⟨k, rfl, (catAll_get _ k _ _ hb).2 (.inr ?_)⟩
    obtain ⟨a, b, h5, h6, h7⟩ := (pair_lan3 hf hg _).1 h4
    obtain ⟨j, h8, h9, rfl, rfl⟩ := subW_cut h2 h3 h5
    exact ⟨(j : Nat), (endT_mem hf sf i _).2 ⟨j, rfl, h8, by omega, h6⟩, (endT_mem hg sg _ _).2 ⟨k, rfl, by simpa using h9, h3, by simpa using h7⟩⟩
  · rintro ⟨k, rfl, h⟩
    rcases (catAll_get _ k _ _ hb).1 h with h | ⟨x, hx, hk⟩
    · rw [falses_get] at h; cases h
    · obtain ⟨j, rfl, h1, h2, h3⟩ := (endT_mem hf sf i x).1 hx
      obtain ⟨k', hk', h4, h5, h6⟩ := (endT_mem hg sg _ _).1 hk
      have : k = k' := by omega
      subst this
      rw [Int.toNat_natCast] at h4 h6
      exact ⟨k, rfl, by omega, h5, (pair_lan3 hf hg _).2 ⟨_, _, subW_app h1 h4, h3, h6⟩⟩
theorem rows_alt (h1 : (pairF 4 f g).shapeF = true) (i : Nat) : endT w (pairF 4 f g) i = posS (setAll (setAll (falses (w.size + 1)) (endT w f i)) (endT w g i)) := by
  refine rise_ext (endT_rise _ _ _) (posS_rise _) fun x => ?_
  rw [endT_mem rfl h1, posS_mem]
  have hb : ∀ y ∈ endT w f i, 0 ≤ y ∧ y < (falses (w.size + 1)).length := by
    intro y hy
    obtain ⟨k, rfl, _, h, _⟩ := (endT_mem hf sf _ y).1 hy
    rw [falses_len]; omega
  have hb2 : ∀ y ∈ endT w g i, 0 ≤ y ∧ y < (setAll (falses (w.size + 1)) (endT w f i)).length := by
    intro y hy
    obtain ⟨k, rfl, _, h, _⟩ := (endT_mem hg sg _ y).1 hy
    rw [set_len, falses_len]; omega
  have key : ∀ k, (setAll (setAll (falses (w.size + 1)) (endT w f i)) (endT w g i)).getD k false = true ↔ (k : Int) ∈ endT w f i ∨ (k : Int) ∈ endT w g i := fun k => by
    rw [set_get k _ _ hb2, set_get k _ _ hb, falses_get]; simp
  simp only [key, endT_mem hf sf, endT_mem hg sg, pair_lan4 hf hg]
  constructor
  · rintro ⟨k, rfl, h2, h3, h4 | h4⟩
    · exact ⟨k, rfl, .inl ⟨k, rfl, h2, h3, h4⟩⟩
    · exact ⟨k, rfl, .inr ⟨k, rfl, h2, h3, h4⟩⟩
  · rintro ⟨k, rfl, ⟨k', e, h2, h3, h4⟩ | ⟨k', e, h2, h3, h4⟩⟩
    · have : k = k' := by omega
      subst this; exact ⟨k, rfl, h2, h3, .inl h4⟩
    · have : k = k' := by omega
      subst this; exact ⟨k, rfl, h2, h3, .inr h4⟩
end
theorem langRows_c (l m : List Node) (w : ByteArray) (at' : Int) (hl : l.length ≤ maxLen) (hn : ∀ n ∈ l, nodeFit n) (hml : m.length ≤ maxLen) (hmn : ∀ n ∈ m, nodeFit n) (hw : w.size ≤ maxLen) (ha : fits .u8 at') :
    ACall Try.prog 3 [.sl true false (nodes l), .sl true false (nodes m), .str w, .int .u8 at'] [] fun r _ => r = .bool true := by
  have ht := text7uc w hw
  have hy := cut_size (w := w) (n := 20)
  generalize w.extract 0 (min w.size 20) = y at ht hy
  clear hw
  obtain ⟨p, rfl, hp2⟩ := fits8 ha
  have a0 : (y.size : Int) + 1 = ((y.size + 1 : Nat) : Int) := by omega
  have a1 := tmod_nat p (y.size + 1)
  have a2 : ¬ ((y.size + 1 : Nat) : Int) = 0 := by omega
  have a3 : IntKind.i64.wrap (p : Int) = (p : Int) := wr_i64n (by omega)
  have b1 : p % (y.size + 1) < y.size + 1 := Nat.mod_lt _ (by omega)
  generalize p % (y.size + 1) = fr at a1 b1
  clear ha
  by_cases hgl : l.length ≤ 30 ∧ plainS l = true
  · by_cases hgm : m.length ≤ 30 ∧ plainS m = true
    · have hg1 := good7uc l hn hgl.1 hgl.2
      have hg2 := good7uc m hmn hgm.1 hgm.2
      obtain ⟨f, tf⟩ := Tree7.of hn hgl.1 hgl.2
      obtain ⟨g, tg⟩ := Tree7.of hmn hgm.1 hgm.2
      have hE1 := endsTop_c (w := y) (by omega) false f tf.deg tf.shape (by have := tf.size; rw [tf.lay, Fo.lay_len] at this; omega) tf.six (by rw [← tf.lay]; exact tf.words) fr (by omega)
      have hE2 := fun i (hi : i ≤ y.size) => endsTop_c (w := y) (by omega) false g tg.deg tg.shape (by have := tg.size; rw [tg.lay, Fo.lay_len] at this; omega) tg.six (by rw [← tg.lay]; exact tg.words) i hi
      have hz : f.size ≤ 30 := by rw [← Fo.lay_len f 0, ← tf.lay]; exact tf.size
      have hz2 : g.size ≤ 30 := by rw [← Fo.lay_len g 0, ← tg.lay]; exact tg.size
      have hpc := pair7uc 3 l m tf.pos (by have := tf.size; omega) tg.pos (by have := tg.size; omega) tg.kids
      have hpa := pair7uc 4 l m tf.pos (by have := tf.size; omega) tg.pos (by have := tg.size; omega) tg.kids
      obtain ⟨o1, o2, o3, o4⟩ := pair_ok tf.deg tg.deg (.inl rfl) tf.shape tg.shape tf.six tg.six
      obtain ⟨q1, q2, q3, q4⟩ := pair_ok tf.deg tg.deg (.inr rfl) tf.shape tg.shape tf.six tg.six
      have hl3 : (pairF 3 f g).lay 0 = pairS 3 l m := by rw [pair_lay _ tf.deg tg.deg, ← tf.lay, ← tg.lay]
      have hl4 : (pairF 4 f g).lay 0 = pairS 4 l m := by rw [pair_lay _ tf.deg tg.deg, ← tf.lay, ← tg.lay]
      have hE3 := endsTop_c (w := y) (by omega) false (pairF 3 f g) o1 o2 (by omega) o3 (by rw [hl3]; exact words_pair tf.words tg.words) fr (by omega)
      have hE4 := endsTop_c (w := y) (by omega) false (pairF 4 f g) q1 q2 (by omega) q3 (by rw [hl4]; exact words_pair tf.words tg.words) fr (by omega)
      rw [← endT, rows_cat tf.deg tg.deg tf.shape tg.shape o2, hl3] at hE3
      rw [← endT, rows_alt tf.deg tg.deg tf.shape tg.shape q2, hl4] at hE4
      rw [← endT, ← tf.lay] at hE1
      have hE2 : ∀ i, i ≤ y.size → ACall _ _ [.sl true false (nodes m), _, _] _ _ := fun i hi => by have := hE2 i hi; rw [← endT, ← tg.lay] at this; exact this
      have hm1 := endT_mem (w := y) tf.deg tf.shape
      have hm2 := endT_mem (w := y) tg.deg tg.shape
      have hlen1 := endT_len (w := y) tf.deg fr
      have hlen2 := endT_len (w := y) tg.deg
      have hb1 : ∀ x ∈ endT y f fr, ∃ k : Nat, x = k ∧ k ≤ y.size := fun x hx => by obtain ⟨k, e, _, h, _⟩ := (hm1 fr x).1 hx; exact ⟨k, e, h⟩
      have hb2 : ∀ i, ∀ x ∈ endT y g i, ∃ k : Nat, x = k ∧ i ≤ k ∧ k ≤ y.size := fun i x hx => by obtain ⟨k, e, h1, h, _⟩ := (hm2 i x).1 hx; exact ⟨k, e, h1, h⟩
      clear hm1 hm2 o1 o2 o3 o4 q1 q2 q3 q4 hl3 hl4 hz hz2 tf tg
      generalize pairS 3 l m = L3 at hpc hE3
      generalize pairS 4 l m = L4 at hpa hE4
      generalize endT y f fr = E1 at hE1 hE3 hE4 hlen1 hb1
      generalize endT y g = E2 at hE2 hE3 hE4 hlen2 hb2
      have hrep : [AVal.bool false] :: List.map (List.map nrm1) (List.replicate y.size [AVal.bool false]) = bools (falses (y.size + 1)) := by simp [nrm1, falses, List.replicate_succ]
      have a5 : (0 : Int) ≤ ((y.size + 1 : Nat) : Int) := by omega
      refine ACall.enter Try.func3 rfl (by kernel_rfl) (Nat.le_of_ble_eq_true rfl) ?_; simp only [initTm, Nat.reduceAdd]
      apply hv2
      case main =>
        intro key
        repeat' (first
  | (refine AGood.at 7 ?_; (refine AGood.filt [41, 45] ?_; simp only [sf_cons, sf_nil, go_sem, simprocAttr]; refine AGood.prune [0, 1, 8, 9, 10, 11, 12, 13] ?_; simp only [go_sem, simprocAttr]; refine stopI ?_))
  | refine gSq ?_ | refine gSk ?_ | refine gBl ?_ | refine gIb ?_ | refine gEx rfl ?_
  | ((first
  | (refine gRg [] [0, 1, 2, 3, 8, 9, 10, 11, 12, 13, 15, 17, 19, 36, 49, 50, 51, 52, 62, 69, 70, 71, 72, 83, 92, 93, 94, 95, 105] ?_; intro K hK)
  | (refine gWy 6 [] (.take 0 (.take 4 (.two 1 (.two 2 (.two 3 (.take 8 (.one 5 (.one 6 (.one 7 (.take 9 .done))))) 5 (.two 3 (.take 8 (.one 6 (.one 7 (.take 9 .done)))) 6 (.two 3 (.take 8 (.one 7 (.take 9 .done))) 7 (.one 3 (.take 8 (.take 9 .done)))))) 5 (.two 2 (.two 3 (.take 8 (.one 6 (.one 7 (.take 9 .done)))) 6 (.two 3 (.take 8 (.one 7 (.take 9 .done))) 7 (.one 3 (.take 8 (.take 9 .done))))) 6 (.two 2 (.two 3 (.take 8 (.one 7 (.take 9 .done))) 7 (.one 3 (.take 8 (.take 9 .done)))) 7 (.one 2 (.one 3 (.take 8 (.take 9 .done))))))) 5 (.two 1 (.two 2 (.two 3 (.take 8 (.one 6 (.one 7 (.take 9 .done)))) 6 (.two 3 (.take 8 (.one 7 (.take 9 .done))) 7 (.one 3 (.take 8 (.take 9 .done))))) 6 (.two 2 (.two 3 (.take 8 (.one 7 (.take 9 .done))) 7 (.one 3 (.take 8 (.take 9 .done)))) 7 (.one 2 (.one 3 (.take 8 (.take 9 .done)))))) 6 (.two 1 (.two 2 (.two 3 (.take 8 (.one 7 (.take 9 .done))) 7 (.one 3 (.take 8 (.take 9 .done)))) 7 (.one 2 (.one 3 (.take 8 (.take 9 .done))))) 7 (.one 1 (.one 2 (.one 3 (.take 8 (.take 9 .done)))))))))) [0, 1, 2, 3, 8, 9, 10, 11, 12, 13, 15, 17, 19, 36, 49, 50, 51, 52, 62, 69, 70, 71, 72, 83, 92, 93, 94, 95, 105] ?_; intro K hK)
  | refine cAl (shown7uc) rfl rfl rfl ?_
  | refine cAl (ht) rfl rfl rfl ?_
  | (refine ACall.use [] [] rfl hg1 rfl rfl rfl ?_; rintro _ _ ⟨⟨b, rfl⟩, rfl⟩; refine ⟨.inl rfl, rfl, ?_⟩; simp only [bk, bk1, bkS, delAll, go_sem, simprocAttr])
  | (refine ACall.use [] [] rfl hg2 rfl rfl rfl ?_; rintro _ _ ⟨⟨b, rfl⟩, rfl⟩; refine ⟨.inl rfl, rfl, ?_⟩; simp only [bk, bk1, bkS, delAll, go_sem, simprocAttr])
  | (refine gd_split ?_ ?_ <;> intro hb <;> (try simp only [bls] at hb) <;> (try simp only [hb]))
  | refine gRt [] [.tmp 8] rfl ?_ | refine gDn [] [.tmp 8] rfl ?_) <;> (try simp only [go_sem, simprocAttr, a0, a1, a2, a3, a5, hrep, vcW]))
  | (refine hK _ _ ?_; clear hK K; simp only [go_sem, simprocAttr])
  | refine gCd (by simp only [go_sem, simprocAttr]; rfl) rfl ?_
  | refine brT ?_ | refine brF ?_
  | (refine brS ?_ ?_ <;> intro hc <;> (try simp only [bls] at hc) <;> (try simp only [hc, bls]))
  | intro _ | refine And.intro ?_ ?_)
        all_goals first | omega | (unfold bigLen; omega) | exact ⟨_, _, ⟨rfl, rfl⟩, rfl⟩ | exact ⟨_, rfl⟩ | (rename_i hy; simp only [List.mem_singleton] at hy; subst hy; rfl) | with_reducible rfl | skip
        · rename_i h41 h45; refine stopE ?_; exact (key h41 h45).out
        all_goals (refine stopE ?_; exact (key _ _).out)
      case key =>
        intro h41 h45
        repeat' (first
  | refine gSq ?_ | refine gSk ?_ | refine gBl ?_ | refine gIb ?_ | refine gEx rfl ?_
  | ((first
  | (refine gRg [] [0, 1, 2, 3, 8, 9, 10, 11, 12, 13, 15, 17, 19, 36, 49, 50, 51, 52, 62, 69, 70, 71, 72, 83, 92, 93, 94, 95, 105] ?_; intro K hK)
  | (refine gDr 6 [] 6 [0, 1, 2, 4, 5, 6, 3, 7, 8, 9] [0, 1, 2, 3, 8, 9, 10, 11, 12, 13, 15, 17, 19, 36, 49, 50, 51, 52, 62, 69, 70, 71, 72, 83, 92, 93, 94, 95, 105] rfl ?_; intro K hK)
  | refine cAl (hE1) rfl rfl rfl ?_
  | (refine gd_split ?_ ?_ <;> intro hb <;> (try simp only [bls] at hb) <;> (try simp only [hb]))
  | refine gRt [] [.tmp 8] rfl ?_ | refine gDn [] [.tmp 8] rfl ?_) <;> (try simp only [go_sem, simprocAttr]))
  | (refine hK _ _ ?_; clear hK K; simp only [go_sem, simprocAttr])
  | refine gCd (by simp only [go_sem, simprocAttr]; rfl) rfl ?_
  | refine brT ?_ | refine brF ?_
  | (refine brS ?_ ?_ <;> intro hc <;> (try simp only [bls] at hc) <;> (try simp only [hc, bls]))
  | intro _ | refine And.intro ?_ ?_)
        all_goals first | omega | (unfold bigLen; omega) | exact ⟨_, _, ⟨rfl, rfl⟩, rfl⟩ | exact ⟨_, rfl⟩ | (rename_i hy; simp only [List.mem_singleton] at hy; subst hy; rfl) | with_reducible rfl | skip
        refine AGood.prune [0, 1, 8, 9, 10, 11, 12, 13, 49, 50, 51] ?_; simp only [go_sem, simprocAttr]
        refine AGood.loopInv (α := Nat) (fun j => ([(0, .sl true false (nodes l)), (1, .sl true false (nodes m)), (8, .bool false), (9, .bool true), (10, .str y), (11, .int .i64 fr), (12, .osl 41 h41 0 (y.size + 1)), (13, .osl 45 h45 0 (y.size + 1)), (49, .sl true false (ints E1)), (50, .int .i64 E1.length), (51, .int .i64 j)], [(41, h41, .row 1 (bools (catAll E2 (falses (y.size + 1)) (E1.take j)))), (45, h45, .row 1 (bools (setAll (falses (y.size + 1)) (E1.take j))))])) (fun j => j ≤ E1.length) (fun j => E1.length - j) 0 (Nat.zero_le _) rfl ?_
        rintro j hj ih
        simp only at hj ih ⊢
        by_cases hlj : j < E1.length
        · have f4 : (j : Int) < E1.length := by omega
          have f5 : (0 : Int) ≤ j := by omega
          have f6 : (j : Int) + 1 = ((j + 1 : Nat) : Int) := by omega
          have hx : E1[j]? = some E1[j] := List.getElem?_eq_getElem hlj
          obtain ⟨k, hk, hk2⟩ := hb1 E1[j] (List.getElem_mem hlj)
          have hca := catAll_one (E2 := E2) (s := falses (y.size + 1)) hx
          have hsa := setAll_one (s := falses (y.size + 1)) hx
          rw [hk] at hx hca hsa
          rw [Int.toNat_natCast] at hca hsa
          have hAl := set_len (E1.take j) (falses (y.size + 1))
          have hCl := catAll_len E2 (E1.take j) (falses (y.size + 1))
          rw [falses_len] at hAl hCl
          generalize setAll (falses (y.size + 1)) (E1.take j) = A at hsa hAl
          generalize catAll E2 (falses (y.size + 1)) (E1.take j) = C at hca hCl
          have g1 : ¬ (k : Int) < 0 := by omega
          have g2 : ¬ (y.size : Int) < (k : Int) := by omega
          have g3 : (k : Int) < ((y.size + 1 : Nat) : Int) := by omega
          have g4 : (0 : Int) ≤ k := by omega
          have g5 : k < A.length := by omega
          have hA : A[k]? = some A[k] := List.getElem?_eq_getElem g5
          have hcE := hE2 k hk2
          have hb3 := hb2 k
          have hln := hlen2 k
          generalize E2 k = F at hcE hb3 hca hln
          repeat' (first
  | (refine AGood.at 13 ?_; (refine stopI ?_))
  | refine gSq ?_ | refine gSk ?_ | refine gBl ?_ | refine gIb ?_ | refine gEx rfl ?_
  | ((first
  | (refine gRg [] [0, 1, 2, 3, 8, 9, 10, 11, 12, 13, 15, 17, 19, 36, 49, 50, 51, 52, 62, 69, 70, 71, 72, 83, 92, 93, 94, 95, 105] ?_; intro K hK)
  | (refine gDr 6 [] 6 [0, 1, 2, 4, 5, 6, 3, 7, 8, 9] [0, 1, 2, 3, 8, 9, 10, 11, 12, 13, 15, 17, 19, 36, 49, 50, 51, 52, 62, 69, 70, 71, 72, 83, 92, 93, 94, 95, 105] rfl ?_; intro K hK)
  | refine cAl (hcE) rfl rfl rfl ?_
  | (refine gd_split ?_ ?_ <;> intro hb <;> (try simp only [bls] at hb) <;> (try simp only [hb]))
  | refine gRt [] [.tmp 8] rfl ?_ | refine gDn [] [.tmp 8] rfl ?_) <;> (try simp only [go_sem, simprocAttr, f4, f5, f6, g1, g2, g3, g4, g5, hx, hA, Option.some.injEq, forall_eq']))
  | (refine hK _ _ ?_; clear hK K; simp only [go_sem, simprocAttr])
  | refine gCd (by simp only [go_sem, simprocAttr]; rfl) rfl ?_
  | refine brT ?_ | refine brF ?_
  | (refine brS ?_ ?_ <;> intro hc <;> (try simp only [bls] at hc) <;> (try simp only [hc, bls]))
  | intro _ | refine And.intro ?_ ?_)
          all_goals first | omega | (unfold bigLen; omega) | exact ⟨_, _, ⟨rfl, rfl⟩, rfl⟩ | exact ⟨_, rfl⟩ | (rename_i hy; simp only [List.mem_singleton] at hy; subst hy; rfl) | with_reducible rfl | skip
          rename_i z hz
          have hz2 : z = [.bool A[k]] := by rw [List.getElem?_map, hA] at hz; exact (Option.some.inj hz).symm
          subst hz2
          refine stopE ?_
          refine AGood.reRow 45 (bools (setAll (falses (y.size + 1)) (E1.take (j + 1)))) rfl (by rw [hsa]; simp [List.map_set]) ?_
          simp only [go_sem, simprocAttr]
          obtain ⟨B, hB⟩ : ∃ B, B = setAll (falses (y.size + 1)) (E1.take (j + 1)) := ⟨_, rfl⟩
          rw [← hB]
          clear hA hsa
          repeat' (first
  | refine gSq ?_ | refine gSk ?_ | refine gBl ?_ | refine gIb ?_ | refine gEx rfl ?_
  | ((first
  | (refine gRg [] [0, 1, 2, 3, 8, 9, 10, 11, 12, 13, 15, 17, 19, 36, 49, 50, 51, 52, 62, 69, 70, 71, 72, 83, 92, 93, 94, 95, 105] ?_; intro K hK)
  | (refine gDr 6 [] 6 [0, 1, 2, 4, 5, 6, 3, 7, 8, 9] [0, 1, 2, 3, 8, 9, 10, 11, 12, 13, 15, 17, 19, 36, 49, 50, 51, 52, 62, 69, 70, 71, 72, 83, 92, 93, 94, 95, 105] rfl ?_; intro K hK)
  | refine cAl (hcE) rfl rfl rfl ?_
  | (refine gd_split ?_ ?_ <;> intro hb <;> (try simp only [bls] at hb) <;> (try simp only [hb]))
  | refine gRt [] [.tmp 8] rfl ?_ | refine gDn [] [.tmp 8] rfl ?_) <;> (try simp only [go_sem, simprocAttr, f4, f5, f6, g1, g2, g3, g4]))
  | (refine hK _ _ ?_; clear hK K; simp only [go_sem, simprocAttr])
  | refine gCd (by simp only [go_sem, simprocAttr]; rfl) rfl ?_
  | refine brT ?_ | refine brF ?_
  | (refine brS ?_ ?_ <;> intro hc <;> (try simp only [bls] at hc) <;> (try simp only [hc, bls]))
  | intro _ | refine And.intro ?_ ?_)
          all_goals first | omega | (unfold bigLen; omega) | exact ⟨_, _, ⟨rfl, rfl⟩, rfl⟩ | exact ⟨_, rfl⟩ | (rename_i hy; simp only [List.mem_singleton] at hy; subst hy; rfl) | with_reducible rfl | skip
          refine AGood.prune [0, 1, 8, 9, 10, 11, 12, 13, 15, 49, 50, 51, 69, 70, 71] ?_; simp only [go_sem, simprocAttr]
          refine AGood.loopInv (α := Nat) (fun i => ([(0, .sl true false (nodes l)), (1, .sl true false (nodes m)), (8, .bool false), (9, .bool true), (10, .str y), (11, .int .i64 fr), (12, .osl 41 h41 0 (y.size + 1)), (13, .osl 45 h45 0 (y.size + 1)), (15, .int .i64 k), (49, .sl true false (ints E1)), (50, .int .i64 E1.length), (51, .int .i64 j), (69, .sl true false (ints F)), (70, .int .i64 F.length), (71, .int .i64 i)], [(41, h41, .row 1 (bools (setAll C (F.take i)))), (45, h45, .row 1 (bools B))])) (fun i => i ≤ F.length) (fun i => F.length - i) 0 (Nat.zero_le _) rfl ?_
          rintro i hi ih2
          simp only at hi ih2 ⊢
          by_cases hli : i < F.length
          · have k4 : (i : Int) < F.length := by omega
            have k5 : (0 : Int) ≤ i := by omega
            have k6 : (i : Int) + 1 = ((i + 1 : Nat) : Int) := by omega
            have hu : F[i]? = some F[i] := List.getElem?_eq_getElem hli
            obtain ⟨u, hu1, hu2, hu3⟩ := hb3 F[i] (List.getElem_mem hli)
            have hsa := setAll_one (s := C) hu
            rw [hu1] at hu hsa
            rw [Int.toNat_natCast] at hsa
            have hDl := set_len (F.take i) C
            generalize setAll C (F.take i) = D at hsa hDl
            have l1 : ¬ (u : Int) < k := by omega
            have l2 : ¬ (y.size : Int) < (u : Int) := by omega
            have l3 : (u : Int) < ((y.size + 1 : Nat) : Int) := by omega
            have l4 : (0 : Int) ≤ u := by omega
            have l5 : u < D.length := by omega
            have hD : D[u]? = some D[u] := List.getElem?_eq_getElem l5
            repeat' (first
  | refine gSq ?_ | refine gSk ?_ | refine gBl ?_ | refine gIb ?_ | refine gEx rfl ?_
  | ((first
  | (refine gRg [] [0, 1, 2, 3, 8, 9, 10, 11, 12, 13, 15, 17, 19, 36, 49, 50, 51, 52, 62, 69, 70, 71, 72, 83, 92, 93, 94, 95, 105] ?_; intro K hK)
  | (refine gDr 6 [] 6 [0, 1, 2, 4, 5, 6, 3, 7, 8, 9] [0, 1, 2, 3, 8, 9, 10, 11, 12, 13, 15, 17, 19, 36, 49, 50, 51, 52, 62, 69, 70, 71, 72, 83, 92, 93, 94, 95, 105] rfl ?_; intro K hK)
  | (refine gd_split ?_ ?_ <;> intro hb <;> (try simp only [bls] at hb) <;> (try simp only [hb]))
  | refine gRt [] [.tmp 8] rfl ?_ | refine gDn [] [.tmp 8] rfl ?_) <;> (try simp only [go_sem, simprocAttr, k4, k5, k6, l1, l2, l3, l4, l5, hu, hD, Option.some.injEq, forall_eq']))
  | (refine hK _ _ ?_; clear hK K; simp only [go_sem, simprocAttr])
  | refine gCd (by simp only [go_sem, simprocAttr]; rfl) rfl ?_
  | refine brT ?_ | refine brF ?_
  | (refine brS ?_ ?_ <;> intro hc <;> (try simp only [bls] at hc) <;> (try simp only [hc, bls]))
  | intro _ | refine And.intro ?_ ?_)
            all_goals first | omega | (unfold bigLen; omega) | exact ⟨_, _, ⟨rfl, rfl⟩, rfl⟩ | exact ⟨_, rfl⟩ | (rename_i hy; simp only [List.mem_singleton] at hy; subst hy; rfl) | with_reducible rfl | skip
            rename_i z hz
            have hz2 : z = [.bool D[u]] := by rw [List.getElem?_map, hD] at hz; exact (Option.some.inj hz).symm
            subst hz2
            refine AGood.filt [41, 45] ?_
            simp only [sf_cons, sf_nil, go_sem, simprocAttr]
            refine AGood.prune [0, 1, 8, 9, 10, 11, 12, 13, 15, 49, 50, 51, 69, 70, 71] ?_; simp only [go_sem, simprocAttr]
            exact AGood.cast (ih2 (i + 1) (by omega) (by omega)) rfl (by rw [hsa]; simp [List.map_set])
          · have k4 : ¬ (i : Int) < F.length := by omega
            rw [List.take_of_length_le (by omega)]
            clear ih2
            repeat' (first
  | refine gSq ?_ | refine gSk ?_ | refine gBl ?_ | refine gIb ?_ | refine gEx rfl ?_
  | ((first
  | (refine gRg [] [0, 1, 2, 3, 8, 9, 10, 11, 12, 13, 15, 17, 19, 36, 49, 50, 51, 52, 62, 69, 70, 71, 72, 83, 92, 93, 94, 95, 105] ?_; intro K hK)
  | (refine gDr 6 [] 6 [0, 1, 2, 4, 5, 6, 3, 7, 8, 9] [0, 1, 2, 3, 8, 9, 10, 11, 12, 13, 15, 17, 19, 36, 49, 50, 51, 52, 62, 69, 70, 71, 72, 83, 92, 93, 94, 95, 105] rfl ?_; intro K hK)
  | (refine gd_split ?_ ?_ <;> intro hb <;> (try simp only [bls] at hb) <;> (try simp only [hb]))
  | refine gRt [] [.tmp 8] rfl ?_ | refine gDn [] [.tmp 8] rfl ?_) <;> (try simp only [go_sem, simprocAttr, k4, f6]))
  | (refine hK _ _ ?_; clear hK K; simp only [go_sem, simprocAttr])
  | refine gCd (by simp only [go_sem, simprocAttr]; rfl) rfl ?_
  | refine brT ?_ | refine brF ?_
  | (refine brS ?_ ?_ <;> intro hc <;> (try simp only [bls] at hc) <;> (try simp only [hc, bls]))
  | intro _ | refine And.intro ?_ ?_)
            all_goals first | omega | (unfold bigLen; omega) | exact ⟨_, _, ⟨rfl, rfl⟩, rfl⟩ | exact ⟨_, rfl⟩ | (rename_i hy; simp only [List.mem_singleton] at hy; subst hy; rfl) | with_reducible rfl | skip
            refine AGood.filt [41, 45] ?_
            simp only [sf_cons, sf_nil, go_sem, simprocAttr]
            refine AGood.prune [0, 1, 8, 9, 10, 11, 12, 13, 49, 50, 51] ?_; simp only [go_sem, simprocAttr]
            exact AGood.cast (ih (j + 1) (by omega) (by omega)) rfl (by rw [hca, hB])
        · have f4 : ¬ (j : Int) < E1.length := by omega
          rw [List.take_of_length_le (by omega)]
          clear ih
          have hAl := set_len E1 (falses (y.size + 1))
          have hCl := catAll_len E2 E1 (falses (y.size + 1))
          rw [falses_len] at hAl hCl
          have hcE := hE2 fr (by omega)
          have hb3 := hb2 fr
          have hln := hlen2 fr
          clear hE2 hb2 hlen2 hE1 hb1
          generalize setAll (falses (y.size + 1)) E1 = A at hAl hE4
          generalize catAll E2 (falses (y.size + 1)) E1 = C at hCl hE3
          generalize E2 fr = F at hcE hb3 hln hE4
          repeat' (first
  | refine gSq ?_ | refine gSk ?_ | refine gBl ?_ | refine gIb ?_ | refine gEx rfl ?_
  | ((first
  | (refine gRg [] [0, 1, 2, 3, 8, 9, 10, 11, 12, 13, 15, 17, 19, 36, 49, 50, 51, 52, 62, 69, 70, 71, 72, 83, 92, 93, 94, 95, 105] ?_; intro K hK)
  | (refine gDr 6 [] 6 [0, 1, 2, 4, 5, 6, 3, 7, 8, 9] [0, 1, 2, 3, 8, 9, 10, 11, 12, 13, 15, 17, 19, 36, 49, 50, 51, 52, 62, 69, 70, 71, 72, 83, 92, 93, 94, 95, 105] rfl ?_; intro K hK)
  | refine cAl (hcE) rfl rfl rfl ?_
  | (refine gd_split ?_ ?_ <;> intro hb <;> (try simp only [bls] at hb) <;> (try simp only [hb]))
  | refine gRt [] [.tmp 8] rfl ?_ | refine gDn [] [.tmp 8] rfl ?_) <;> (try simp only [go_sem, simprocAttr, f4]))
  | (refine hK _ _ ?_; clear hK K; simp only [go_sem, simprocAttr])
  | refine gCd (by simp only [go_sem, simprocAttr]; rfl) rfl ?_
  | refine brT ?_ | refine brF ?_
  | (refine brS ?_ ?_ <;> intro hc <;> (try simp only [bls] at hc) <;> (try simp only [hc, bls]))
  | intro _ | refine And.intro ?_ ?_)
          all_goals first | omega | (unfold bigLen; omega) | exact ⟨_, _, ⟨rfl, rfl⟩, rfl⟩ | exact ⟨_, rfl⟩ | (rename_i hy; simp only [List.mem_singleton] at hy; subst hy; rfl) | with_reducible rfl | skip
          refine AGood.prune [0, 1, 8, 9, 10, 11, 12, 13, 92, 93, 94] ?_; simp only [go_sem, simprocAttr]
          refine AGood.loopInv (α := Nat) (fun i => ([(0, .sl true false (nodes l)), (1, .sl true false (nodes m)), (8, .bool false), (9, .bool true), (10, .str y), (11, .int .i64 fr), (12, .osl 41 h41 0 (y.size + 1)), (13, .osl 45 h45 0 (y.size + 1)), (92, .sl true false (ints F)), (93, .int .i64 F.length), (94, .int .i64 i)], [(41, h41, .row 1 (bools C)), (45, h45, .row 1 (bools (setAll A (F.take i))))])) (fun i => i ≤ F.length) (fun i => F.length - i) 0 (Nat.zero_le _) rfl ?_
          rintro i hi ih2
          simp only at hi ih2 ⊢
          by_cases hli : i < F.length
          · have k4 : (i : Int) < F.length := by omega
            have k5 : (0 : Int) ≤ i := by omega
            have k6 : (i : Int) + 1 = ((i + 1 : Nat) : Int) := by omega
            have hu : F[i]? = some F[i] := List.getElem?_eq_getElem hli
            obtain ⟨u, hu1, hu2, hu3⟩ := hb3 F[i] (List.getElem_mem hli)
            have hsa := setAll_one (s := A) hu
            rw [hu1] at hu hsa
            rw [Int.toNat_natCast] at hsa
            have hDl := set_len (F.take i) A
            generalize setAll A (F.take i) = D at hsa hDl
            have l1 : ¬ (u : Int) < 0 := by omega
            have l2 : ¬ (y.size : Int) < (u : Int) := by omega
            have l3 : (u : Int) < ((y.size + 1 : Nat) : Int) := by omega
            have l4 : (0 : Int) ≤ u := by omega
            have l5 : u < D.length := by omega
            have hD : D[u]? = some D[u] := List.getElem?_eq_getElem l5
            repeat' (first
  | refine gSq ?_ | refine gSk ?_ | refine gBl ?_ | refine gIb ?_ | refine gEx rfl ?_
  | ((first
  | (refine gRg [] [0, 1, 2, 3, 8, 9, 10, 11, 12, 13, 15, 17, 19, 36, 49, 50, 51, 52, 62, 69, 70, 71, 72, 83, 92, 93, 94, 95, 105] ?_; intro K hK)
  | (refine gDr 6 [] 6 [0, 1, 2, 4, 5, 6, 3, 7, 8, 9] [0, 1, 2, 3, 8, 9, 10, 11, 12, 13, 15, 17, 19, 36, 49, 50, 51, 52, 62, 69, 70, 71, 72, 83, 92, 93, 94, 95, 105] rfl ?_; intro K hK)
  | (refine gd_split ?_ ?_ <;> intro hb <;> (try simp only [bls] at hb) <;> (try simp only [hb]))
  | refine gRt [] [.tmp 8] rfl ?_ | refine gDn [] [.tmp 8] rfl ?_) <;> (try simp only [go_sem, simprocAttr, k4, k5, k6, l1, l2, l3, l4, l5, hu, hD, Option.some.injEq, forall_eq']))
  | (refine hK _ _ ?_; clear hK K; simp only [go_sem, simprocAttr])
  | refine gCd (by simp only [go_sem, simprocAttr]; rfl) rfl ?_
  | refine brT ?_ | refine brF ?_
  | (refine brS ?_ ?_ <;> intro hc <;> (try simp only [bls] at hc) <;> (try simp only [hc, bls]))
  | intro _ | refine And.intro ?_ ?_)
            all_goals first | omega | (unfold bigLen; omega) | exact ⟨_, _, ⟨rfl, rfl⟩, rfl⟩ | exact ⟨_, rfl⟩ | (rename_i hy; simp only [List.mem_singleton] at hy; subst hy; rfl) | with_reducible rfl | skip
            rename_i z hz
            have hz2 : z = [.bool D[u]] := by rw [List.getElem?_map, hD] at hz; exact (Option.some.inj hz).symm
            subst hz2
            refine AGood.filt [41, 45] ?_
            simp only [sf_cons, sf_nil, go_sem, simprocAttr]
            refine AGood.prune [0, 1, 8, 9, 10, 11, 12, 13, 92, 93, 94] ?_; simp only [go_sem, simprocAttr]
            exact AGood.cast (ih2 (i + 1) (by omega) (by omega)) rfl (by rw [hsa]; simp [List.map_set])
          · have k4 : ¬ (i : Int) < F.length := by omega
            rw [List.take_of_length_le (by omega)]
            clear ih2
            have hDl := set_len F A
            generalize setAll A F = D at hDl hE4
            have c15 : (bools C).take (y.size + 1) = bools C := List.take_of_length_le (by simp [hCl])
            have d15 : (bools D).take (y.size + 1) = bools D := List.take_of_length_le (by simp [hDl, hAl])
            have c16 : y.size + 1 ≤ C.length := by omega
            have d16 : y.size + 1 ≤ D.length := by omega
            have hlC := list7uc true false C (by omega)
            have hlD := list7uc true false D (by omega)
            have hiC := ints7uc true false true false (posS C) (posS C) (by have := posS_len C; omega)
            have hiD := ints7uc true false true false (posS D) (posS D) (by have := posS_len D; omega)
            rw [decide_eq_true rfl] at hiC hiD
            repeat' (first
  | refine gSq ?_ | refine gSk ?_ | refine gBl ?_ | refine gIb ?_ | refine gEx rfl ?_
  | ((first
  | (refine AGood.at 28 ?_; (refine AGood.freeze 41 rfl ?_; simp only [rfT, rfS, rfO, rf, rf1, c15, c16, List.length_map, Nat.le_refl, true_and, go_sem, simprocAttr]; refine AGood.freeze 45 rfl ?_; simp only [rfT, rfS, rfO, rf, rf1, d15, d16, List.length_map, Nat.le_refl, true_and, go_sem, simprocAttr]); (refine gRg [] [0, 1, 2, 3, 8, 9, 10, 11, 12, 13, 15, 17, 19, 36, 49, 50, 51, 52, 62, 69, 70, 71, 72, 83, 92, 93, 94, 95, 105] ?_; intro K hK))
  | (refine gRg [] [0, 1, 2, 3, 8, 9, 10, 11, 12, 13, 15, 17, 19, 36, 49, 50, 51, 52, 62, 69, 70, 71, 72, 83, 92, 93, 94, 95, 105] ?_; intro K hK)
  | (refine gDr 6 [] 6 [0, 1, 2, 4, 5, 6, 3, 7, 8, 9] [0, 1, 2, 3, 8, 9, 10, 11, 12, 13, 15, 17, 19, 36, 49, 50, 51, 52, 62, 69, 70, 71, 72, 83, 92, 93, 94, 95, 105] rfl ?_; intro K hK)
  | refine cAl (hpc) rfl rfl rfl ?_
  | refine cAl (hpa) rfl rfl rfl ?_
  | refine cAl (hE3) rfl rfl rfl ?_
  | refine cAl (hE4) rfl rfl rfl ?_
  | refine cAl (hlC) rfl rfl rfl ?_
  | refine cAl (hlD) rfl rfl rfl ?_
  | refine cAl (hiC) rfl rfl rfl ?_
  | refine cAl (hiD) rfl rfl rfl ?_
  | (refine gd_split ?_ ?_ <;> intro hb <;> (try simp only [bls] at hb) <;> (try simp only [hb]))
  | refine gRt [] [.tmp 8] rfl ?_ | refine gDn [] [.tmp 8] rfl ?_) <;> (try simp only [go_sem, simprocAttr, k4]))
  | (refine hK _ _ ?_; clear hK K; simp only [go_sem, simprocAttr])
  | refine gCd (by simp only [go_sem, simprocAttr]; rfl) rfl ?_
  | refine brT ?_ | refine brF ?_
  | (refine brS ?_ ?_ <;> intro hc <;> (try simp only [bls] at hc) <;> (try simp only [hc, bls]))
  | intro _ | refine And.intro ?_ ?_)
            all_goals first | omega | (unfold bigLen; omega) | exact ⟨_, _, ⟨rfl, rfl⟩, rfl⟩ | exact ⟨_, rfl⟩ | (rename_i hy; simp only [List.mem_singleton] at hy; subst hy; rfl) | with_reducible rfl | skip
    · have hg1 := good7uc l hn hgl.1 hgl.2
      have hg2 := good7No_c m hml hmn hgm
      refine ACall.enter Try.func3 rfl (by kernel_rfl) (Nat.le_of_ble_eq_true rfl) ?_; simp only [initTm, Nat.reduceAdd]
      repeat' (first
  | refine gSq ?_ | refine gSk ?_ | refine gBl ?_ | refine gIb ?_ | refine gEx rfl ?_
  | ((first
  | (refine gRg [] [0, 1, 2, 3, 8, 9, 10, 11, 12, 13, 15, 17, 19, 36, 49, 50, 51, 52, 62, 69, 70, 71, 72, 83, 92, 93, 94, 95, 105] ?_; intro K hK)
  | (refine gDr 6 [] 6 [0, 1, 2, 4, 5, 6, 3, 7, 8, 9] [0, 1, 2, 3, 8, 9, 10, 11, 12, 13, 15, 17, 19, 36, 49, 50, 51, 52, 62, 69, 70, 71, 72, 83, 92, 93, 94, 95, 105] rfl ?_; intro K hK)
  | refine cAl (shown7uc) rfl rfl rfl ?_
  | refine cAl (ht) rfl rfl rfl ?_
  | refine cAl (hg2) rfl rfl rfl ?_
  | (refine ACall.use [] [] rfl hg1 rfl rfl rfl ?_; rintro _ _ ⟨⟨b, rfl⟩, rfl⟩; refine ⟨.inl rfl, rfl, ?_⟩; simp only [bk, bk1, bkS, delAll, go_sem, simprocAttr])
  | (refine gd_split ?_ ?_ <;> intro hb <;> (try simp only [bls] at hb) <;> (try simp only [hb]))
  | refine gRt [] [.tmp 8] rfl ?_ | refine gDn [] [.tmp 8] rfl ?_) <;> (try simp only [go_sem, simprocAttr, a0, a1, a2, a3]))
  | (refine hK _ _ ?_; clear hK K; simp only [go_sem, simprocAttr])
  | refine gCd (by simp only [go_sem, simprocAttr]; rfl) rfl ?_
  | refine brT ?_ | refine brF ?_
  | (refine brS ?_ ?_ <;> intro hc <;> (try simp only [bls] at hc) <;> (try simp only [hc, bls]))
  | intro _ | refine And.intro ?_ ?_)
      all_goals first | omega | (unfold bigLen; omega) | exact ⟨_, _, ⟨rfl, rfl⟩, rfl⟩ | exact ⟨_, rfl⟩ | (rename_i hy; simp only [List.mem_singleton] at hy; subst hy; rfl) | with_reducible rfl | skip
  · have hg1 := good7No_c l hl hn hgl
    refine ACall.enter Try.func3 rfl (by kernel_rfl) (Nat.le_of_ble_eq_true rfl) ?_; simp only [initTm, Nat.reduceAdd]
    repeat' (first
  | refine gSq ?_ | refine gSk ?_ | refine gBl ?_ | refine gIb ?_ | refine gEx rfl ?_
  | ((first
  | (refine gRg [] [0, 1, 2, 3, 8, 9, 10, 11, 12, 13, 15, 17, 19, 36, 49, 50, 51, 52, 62, 69, 70, 71, 72, 83, 92, 93, 94, 95, 105] ?_; intro K hK)
  | (refine gDr 6 [] 6 [0, 1, 2, 4, 5, 6, 3, 7, 8, 9] [0, 1, 2, 3, 8, 9, 10, 11, 12, 13, 15, 17, 19, 36, 49, 50, 51, 52, 62, 69, 70, 71, 72, 83, 92, 93, 94, 95, 105] rfl ?_; intro K hK)
  | refine cAl (shown7uc) rfl rfl rfl ?_
  | refine cAl (ht) rfl rfl rfl ?_
  | refine cAl (hg1) rfl rfl rfl ?_
  | (refine gd_split ?_ ?_ <;> intro hb <;> (try simp only [bls] at hb) <;> (try simp only [hb]))
  | refine gRt [] [.tmp 8] rfl ?_ | refine gDn [] [.tmp 8] rfl ?_) <;> (try simp only [go_sem, simprocAttr, a0, a1, a2, a3]))
  | (refine hK _ _ ?_; clear hK K; simp only [go_sem, simprocAttr])
  | refine gCd (by simp only [go_sem, simprocAttr]; rfl) rfl ?_
  | refine brT ?_ | refine brF ?_
  | (refine brS ?_ ?_ <;> intro hc <;> (try simp only [bls] at hc) <;> (try simp only [hc, bls]))
  | intro _ | refine And.intro ?_ ?_)
    all_goals first | omega | (unfold bigLen; omega) | exact ⟨_, _, ⟨rfl, rfl⟩, rfl⟩ | exact ⟨_, rfl⟩ | (rename_i hy; simp only [List.mem_singleton] at hy; subst hy; rfl) | with_reducible rfl | skip
end Go.Rad
/- What the last texts of layer 8 share. -/
namespace Go.Rad
open Go Go.Proofs
theorem nodeT : NodeTy LL 38 := ⟨5, 36, 27, 3, 9, 34, rfl, rfl, rfl, rfl, rfl, rfl, rfl⟩
theorem ownF : ownKnob Try.prog.godebug = none := by kernel_rfl
theorem laidF : laidOutB Try.prog = true := by kernel_rfl
abbrev kks (i : IntKind) (l : List Int) : List (List AVal) := l.map fun n => [.int i n]
theorem ty_ks {L : Lay} {k t e : Nat} {y : List AVal} {i : IntKind} (ht : (L t).ty = .slice e) (he : (L e).ty = .int i) (h : typed L (k + 2) t y) : ∃ l : List Int, y = [.sl true false (kks i l)] ∧ l.length ≤ maxLen ∧ ∀ n ∈ l, fits i n := by
  obtain ⟨l, rfl, hl, hx⟩ := ty_slice ht h
  obtain ⟨ns, rfl, hf⟩ := list_of (F := fun n => [AVal.int i n]) (P := fun n => fits i n) fun x hx' => by
    obtain ⟨n, rfl, hf⟩ := ty_int he (hx x hx')
    exact ⟨n, rfl, hf⟩
  exact ⟨ns, rfl, by simpa using hl, hf⟩
end Go.Rad
