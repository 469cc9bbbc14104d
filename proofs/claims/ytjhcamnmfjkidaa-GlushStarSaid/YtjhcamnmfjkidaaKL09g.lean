/- The statements of layer 9: GlushStar. -/
import Derived.Test.YtjhcamnmfjkidaaKRRunC
import Derived.Test.YtjhcamnmfjkidaaKP09l
import Derived.Test.YtjhcamnmfjkidaaKRFrz
import Derived.OpenShut
import Derived.Carry
import Derived.Deep.Slices
import Derived.Deep.DeepHandedRow
import Derived.Test.YtjhcamnmfjkidaaKRNode
import Derived.Test.YtjhcamnmfjkidaaRows
set_option linter.all false
namespace Go.Rad
open Go Go.Proofs
set_option linter.all false
set_option maxRecDepth 20000
set_option maxHeartbeats 4000000

theorem glushStar_c (l : List Node) (h1 : l.length ≤ maxLen) (h2 : ∀ n ∈ l, n.name.size ≤ maxLen ∧ n.l.length ≤ maxLen) :
    ACall Try.prog 4 [.sl true false (nodes l)] [] fun r _ => r = .bool true := by
  by_cases c200 : 200 < l.length
  · have e1 : (200 : Int) < l.length := by omega
    refine ACall.enter Try.func4 rfl (by kernel_rfl) (Nat.le_of_ble_eq_true rfl) ?_; simp only [initTm, Nat.reduceAdd]
    repeat' (first
  | refine gSq ?_ | refine gSk ?_ | refine gBl ?_ | refine gIb ?_ | refine gEx rfl ?_
  | ((first
  | (refine gRg [] [0, 2, 3, 4, 5, 6, 7, 8, 9, 10, 11, 12, 14, 16, 18, 32, 42, 85, 87, 88, 89, 90, 101, 102, 103, 104, 111, 112, 113, 114, 118, 123, 124, 125, 126, 132, 167] ?_; intro K hK)
  | refine cAl (shown9uc) rfl rfl rfl ?_
  | (refine gd_split ?_ ?_ <;> intro hb <;> (try simp only [bls] at hb) <;> (try simp only [hb]))
  | refine gRt [] [.tmp 2] rfl ?_ | refine gDn [] [.tmp 2] rfl ?_) <;> (try simp only [go_sem, simprocAttr, e1]))
  | (refine hK _ _ ?_; clear hK K; simp only [go_sem, simprocAttr])
  | refine gCd (by simp only [go_sem, simprocAttr]; rfl) rfl ?_
  | refine brT ?_ | refine brF ?_
  | (refine brS ?_ ?_ <;> intro hc <;> (try simp only [bls] at hc) <;> (try simp only [hc, bls]))
  | intro _ | refine And.intro ?_ ?_)
    all_goals first | omega | (unfold bigLen; omega) | exact ⟨_, _, ⟨rfl, rfl⟩, rfl⟩ | exact ⟨_, rfl⟩ | (rename_i hy; simp only [List.mem_singleton] at hy; subst hy; rfl) | with_reducible rfl | skip
  have e1 : ¬ (200 : Int) < l.length := by omega
  have hR := rright_c false l h1 (fun n hn => ⟨(h2 n hn).2, (h2 n hn).1⟩)
  cases hr : rightP l
  · rw [hr] at hR
    refine ACall.enter Try.func4 rfl (by kernel_rfl) (Nat.le_of_ble_eq_true rfl) ?_; simp only [initTm, Nat.reduceAdd]
    repeat' (first
  | refine gSq ?_ | refine gSk ?_ | refine gBl ?_ | refine gIb ?_ | refine gEx rfl ?_
  | ((first
  | (refine gRg [] [0, 2, 3, 4, 5, 6, 7, 8, 9, 10, 11, 12, 14, 16, 18, 32, 42, 85, 87, 88, 89, 90, 101, 102, 103, 104, 111, 112, 113, 114, 118, 123, 124, 125, 126, 132, 167] ?_; intro K hK)
  | refine cAl (shown9uc) rfl rfl rfl ?_
  | refine cAl (hR) rfl rfl rfl ?_
  | (refine gd_split ?_ ?_ <;> intro hb <;> (try simp only [bls] at hb) <;> (try simp only [hb]))
  | refine gRt [] [.tmp 2] rfl ?_ | refine gDn [] [.tmp 2] rfl ?_) <;> (try simp only [go_sem, simprocAttr, e1]))
  | (refine hK _ _ ?_; clear hK K; simp only [go_sem, simprocAttr])
  | refine gCd (by simp only [go_sem, simprocAttr]; rfl) rfl ?_
  | refine brT ?_ | refine brF ?_
  | (refine brS ?_ ?_ <;> intro hc <;> (try simp only [bls] at hc) <;> (try simp only [hc, bls]))
  | intro _ | refine And.intro ?_ ?_)
    all_goals first | omega | (unfold bigLen; omega) | exact ⟨_, _, ⟨rfl, rfl⟩, rfl⟩ | exact ⟨_, rfl⟩ | (rename_i hy; simp only [List.mem_singleton] at hy; subst hy; rfl) | with_reducible rfl | skip
  rw [hr] at hR
  have hP := plain_c false l h1 (fun n hn => ⟨(h2 n hn).2, (h2 n hn).1⟩)
  have hpl : plainS l = true := by rw [rightP, Bool.and_eq_true] at hr; exact hr.1
  rw [hpl] at hP
  have hl1 := (right_kids hr).1
  have e2 : (l.length : Int) - 1 = ((l.length - 1 : Nat) : Int) := by omega
  have e3 : ((l.length - 1 : Nat) : Int) < l.length := by omega
  have e4 : (0 : Int) ≤ ((l.length - 1 : Nat) : Int) := by omega
  obtain ⟨rt, hrt⟩ : ∃ rt, l[l.length - 1]? = some rt := ⟨_, List.getElem?_eq_getElem (by omega)⟩
  have hO := fun f => of9F_c f [l] (by simp) (fun x hx => by rw [List.mem_singleton.1 hx]; exact h2)
  have hO2 := fun f => of9F_c f [starN l] (by simp) (fun x hx => by
    rw [List.mem_singleton.1 hx]
    intro n hn
    rcases List.mem_append.1 hn with hn | hn
    · exact h2 n hn
    · rw [List.mem_singleton.1 hn]
      exact ⟨by show _ ≤ maxLen; simp [maxLen], by show _ ≤ maxLen; simp [maxLen]⟩)
  obtain ⟨F, P, P', q1, q2, q3, q4, q5, q6, q7⟩ := star_law hr (by omega)
  rw [q1] at hO
  rw [q2] at hO2
  simp only [trees, List.map_cons, List.map_nil] at hO hO2
  clear q1 q2 h2 hpl
  obtain ⟨xo, ⟨xa, xb, xc, xd⟩, xl, xlo, xhi, xn⟩ := rt
  by_cases c2 : xo = 2
  · refine ACall.enter Try.func4 rfl (by kernel_rfl) (Nat.le_of_ble_eq_true rfl) ?_; simp only [initTm, Nat.reduceAdd]
    repeat' (first
  | refine gSq ?_ | refine gSk ?_ | refine gBl ?_ | refine gIb ?_ | refine gEx rfl ?_
  | ((first
  | (refine gRg [] [0, 2, 3, 4, 5, 6, 7, 8, 9, 10, 11, 12, 14, 16, 18, 32, 42, 85, 87, 88, 89, 90, 101, 102, 103, 104, 111, 112, 113, 114, 118, 123, 124, 125, 126, 132, 167] ?_; intro K hK)
  | refine cAl (shown9uc) rfl rfl rfl ?_
  | refine cAl (hR) rfl rfl rfl ?_
  | refine cAl (hP) rfl rfl rfl ?_
  | (refine gd_split ?_ ?_ <;> intro hb <;> (try simp only [bls] at hb) <;> (try simp only [hb]))
  | refine gRt [] [.tmp 2] rfl ?_ | refine gDn [] [.tmp 2] rfl ?_) <;> (try simp only [go_sem, simprocAttr, e1, e2, e3, e4, hrt, eq_true c2, Node.cells, Node.cellsF, ISet.cells, AVal.isCell, Option.some.injEq, forall_eq']))
  | (refine hK _ _ ?_; clear hK K; simp only [go_sem, simprocAttr])
  | refine gCd (by simp only [go_sem, simprocAttr]; rfl) rfl ?_
  | refine brT ?_ | refine brF ?_
  | (refine brS ?_ ?_ <;> intro hc <;> (try simp only [bls] at hc) <;> (try simp only [hc, bls]))
  | intro _ | refine And.intro ?_ ?_)
    all_goals first | omega | (unfold bigLen; omega) | exact ⟨_, _, ⟨rfl, rfl⟩, rfl⟩ | exact ⟨_, rfl⟩ | (rename_i hy; simp only [List.mem_singleton] at hy; subst hy; rfl) | with_reducible rfl | skip
  obtain ⟨W, hW⟩ : ∃ W, W = starN l := ⟨_, rfl⟩
  rw [← hW] at hO2
  have hWl : W.length = l.length + 1 := by rw [hW]; simp [starN]
  have w15 : (nodes W).take (l.length + 1) = nodes W := List.take_of_length_le (by simp [hWl])
  have w16 : l.length + 1 ≤ W.length := by omega
  have hrow : nodes l ++ [[.int .u8 5, .int .u64 0, .int .u64 0, .int .u64 0, .int .u64 0, .sl true false [[.int .i64 ((l.length - 1 : Nat) : Int)]], .int .i64 0, .int .i64 (-1), .str ByteArray.empty]] = nodes W := by
    rw [hW, starN, e2]
    simp only [nodes, List.map_append]
    rfl
  refine ACall.enter Try.func4 rfl (by kernel_rfl) (Nat.le_of_ble_eq_true rfl) ?_; simp only [initTm, Nat.reduceAdd]
  repeat' (first
  | refine gSq ?_ | refine gSk ?_ | refine gBl ?_ | refine gIb ?_ | refine gEx rfl ?_
  | ((first
  | refine gPt 8 ?_
  | (refine gSg [46, 57, 59, 61] 0 10 10 [0, 2, 3, 4, 5, 6, 7, 8, 9, 10, 11, 12, 14, 16, 18, 32, 42, 60, 85, 87, 88, 89, 90, 101, 102, 103, 104, 111, 112, 113, 114, 118, 123, 124, 125, 126, 132, 167] rfl ?_; intro K hK)
  | ((refine RGood.reRow 51 (nodes W) rfl hrow ?_); (simp only [go_sem, simprocAttr]); (refine RGood.freeze 51 rfl ?_); (simp only [rfT, rfS, rfO, rf, rf1, w15, w16, List.length_map, Nat.le_refl, true_and, go_sem, simprocAttr]); refine gSg [46, 57, 59, 61] 10 8 18 [0, 2, 3, 4, 5, 6, 7, 8, 9, 10, 11, 12, 14, 16, 18, 32, 42, 85, 87, 88, 89, 90, 101, 102, 103, 104, 111, 112, 113, 114, 118, 123, 124, 125, 126, 132, 167] rfl ?_; intro K hK)
  | (refine gFn 18 [0, 2, 3, 4, 5, 6, 7, 8, 9, 10, 11, 12, 14, 16, 18, 32, 42, 85, 87, 88, 89, 90, 101, 102, 103, 104, 111, 112, 113, 114, 118, 123, 124, 125, 126, 132, 167] rfl ?_)
  | (refine gRg [46, 57, 59, 61] [0, 2, 3, 4, 5, 6, 7, 8, 9, 10, 11, 12, 14, 16, 18, 32, 42, 85, 87, 88, 89, 90, 101, 102, 103, 104, 111, 112, 113, 114, 118, 123, 124, 125, 126, 132, 167] ?_; intro K hK)
  | refine cAl (shown9uc) rfl rfl rfl ?_
  | refine cAl (hR) rfl rfl rfl ?_
  | refine cAl (hP) rfl rfl rfl ?_
  | refine cAl (hO _) rfl rfl rfl ?_
  | refine cAl (hO2 _) rfl rfl rfl ?_
  | (refine gd_split ?_ ?_ <;> intro hb <;> (try simp only [bls] at hb) <;> (try simp only [hb]))
  | refine gRt [] [.tmp 2] rfl ?_ | refine gDn [] [.tmp 2] rfl ?_) <;> (try simp only [go_sem, simprocAttr, e1, e2, e3, e4, hrt, c2, q3, Node.cells, Node.cellsF, ISet.cells, AVal.isCell, beq_self_eq_true, Option.some.injEq, forall_eq']))
  | (refine hK _ _ ?_; clear hK K; simp only [go_sem, simprocAttr])
  | refine gCd (by simp only [go_sem, simprocAttr]; rfl) rfl ?_
  | refine brT ?_ | refine brF ?_
  | (refine brS ?_ ?_ <;> intro hc <;> (try simp only [bls] at hc) <;> (try simp only [hc, bls]))
  | intro _ | refine And.intro ?_ ?_)
  all_goals first | omega | (unfold bigLen; omega) | exact ⟨_, _, ⟨rfl, rfl⟩, rfl⟩ | exact ⟨_, rfl⟩ | (rename_i hy; simp only [List.mem_singleton] at hy; subst hy; rfl) | with_reducible rfl | skip
  · rename_i hy; obtain ⟨n, _, rfl⟩ := List.mem_map.1 hy; rfl
  · rename_i hy; obtain ⟨n, _, rfl⟩ := List.mem_map.1 hy; rfl
  rename_i h4 h5 _ _ _ h7
  refine AGood.boxRef 5 5 rfl rfl rfl ?_
  simp only [go_sem, simprocAttr]
  refine AGood.boxRef 7 7 rfl rfl rfl ?_
  simp only [go_sem, simprocAttr]
  refine AGood.filt [] ?_
  simp only [sf_cons, sf_nil, go_sem, simprocAttr]
  clear hO hO2 hR hP hW hWl w15 w16 hrow hrt
  refine AGood.prune [2, 3, 5, 7, 87, 88, 89] ?_; simp only [go_sem, simprocAttr]
  refine AGood.loopInv (α := Nat) (fun i => ([(2, .bool false), (3, .bool true), (5, .ref true [.sl true false (ints F), .sl true false (poss P)]), (7, .ref true [.sl true false (ints F), .sl true false (poss P')]), (87, .sl true false (poss P)), (88, .int .i64 P.length), (89, .int .i64 i)], [])) (fun i => i ≤ P.length) (fun i => P.length - i) 0 (Nat.zero_le _) rfl ?_
  rintro i hi ih
  simp only at hi ih ⊢
  by_cases hle : i < P.length
  · have f4 : (i : Int) < P.length := by omega
    have f5 : (0 : Int) ≤ i := by omega
    have f6 : (i : Int) + 1 = ((i + 1 : Nat) : Int) := by omega
    have f7 : (i : Int) < P'.length := by omega
    obtain ⟨p, hp⟩ : ∃ p, P[i]? = some p := ⟨_, List.getElem?_eq_getElem hle⟩
    have hp' := q7 i p hp
    have hnr := q5 p (List.mem_of_getElem? hp)
    have hnl := rs_len hnr
    have hfl := rs_len q6
    obtain ⟨⟨sa, sb, sc, sd⟩, lo, hi', rule, last, next⟩ := p
    simp only at hp' hnr hnl
    obtain ⟨N, hN⟩ : ∃ N, N = addAll [] next := ⟨_, rfl⟩
    obtain ⟨K, hK⟩ : ∃ K, K = if last = true then addAll N F else N := ⟨_, rfl⟩
    obtain ⟨qn, hqn⟩ : ∃ qn, qn = if last = true then uni next F else next := ⟨_, rfl⟩
    have hqr : Rs P.length qn := by rw [hqn]; split; exact rs_uni hnr q6; exact hnr
    have hql := rs_len hqr
    have hKm : ∀ x, x ∈ K ↔ x ∈ qn := fun x => by
      rw [hK, hqn, hN]
      split
      · rw [addAll_mem, addAll_mem, uni, uni_mem0, List.mem_append]; simp
      · rw [addAll_mem]; simp
    have hKd : K.Nodup := by
      rw [hK, hN]
      split
      · exact addAll_nodup _ (addAll_nodup _ List.nodup_nil)
      · exact addAll_nodup _ List.nodup_nil
    have hKl : K.length = qn.length := Nat.le_antisymm (nodup_len hKd fun x hx => (hKm x).1 hx) (nodup_len (rise_nodup hqr.1) fun x hx => (hKm x).2 hx)
    have hNl : N.length ≤ next.length := by rw [hN]; have := addAll_len next []; simpa using this
    rw [← hqn] at hp'
    clear hKd hqn
    repeat' (first
  | refine gSq ?_ | refine gSk ?_ | refine gBl ?_ | refine gIb ?_ | refine gEx rfl ?_
  | ((first
  | (refine gRg [] [0, 2, 3, 4, 5, 6, 7, 8, 9, 10, 11, 12, 14, 16, 18, 32, 42, 85, 87, 88, 89, 90, 101, 102, 103, 104, 111, 112, 113, 114, 118, 123, 124, 125, 126, 132, 167] ?_; intro K hK)
  | (refine gd_split ?_ ?_ <;> intro hb <;> (try simp only [bls] at hb) <;> (try simp only [hb]))
  | refine gRt [] [.tmp 2] rfl ?_ | refine gDn [] [.tmp 2] rfl ?_) <;> (try simp only [go_sem, simprocAttr, f4, f5, f7, hp, hp', Po.cells, Po.cellsF, ISet.cells, AVal.isCell, Option.some.injEq, forall_eq']))
  | (refine hK _ _ ?_; clear hK K; simp only [go_sem, simprocAttr])
  | refine gCd (by simp only [go_sem, simprocAttr]; rfl) rfl ?_
  | refine brT ?_ | refine brF ?_
  | (refine brS ?_ ?_ <;> intro hc <;> (try simp only [bls] at hc) <;> (try simp only [hc, bls]))
  | intro _ | refine And.intro ?_ ?_)
    all_goals first | omega | (unfold bigLen; omega) | exact ⟨_, _, ⟨rfl, rfl⟩, rfl⟩ | exact ⟨_, rfl⟩ | (rename_i hy; simp only [List.mem_singleton] at hy; subst hy; rfl) | with_reducible rfl | skip
    rename_i h10 h11 h99
    refine AGood.boxRef 10 10 rfl rfl rfl ?_
    simp only [go_sem, simprocAttr]
    refine AGood.boxRef 11 11 rfl rfl rfl ?_
    simp only [go_sem, simprocAttr]
    refine AGood.mapInt 99 rfl ?_
    simp only [go_sem, simprocAttr]
    refine AGood.prune [2, 3, 5, 7, 10, 11, 12, 87, 88, 89, 101, 102, 103] ?_; simp only [go_sem, simprocAttr]
    refine AGood.loopInv (α := Nat) (fun m => ([(2, .bool false), (3, .bool true), (5, .ref true [.sl true false (ints F), .sl true false (poss P)]), (7, .ref true [.sl true false (ints F), .sl true false (poss P')]), (10, .ref true [.int .u64 sa, .int .u64 sb, .int .u64 sc, .int .u64 sd, .int .i64 lo, .int .i64 hi', .int .i64 rule, .bool last, .sl true false (ints next)]), (11, .ref true [.int .u64 sa, .int .u64 sb, .int .u64 sc, .int .u64 sd, .int .i64 lo, .int .i64 hi', .int .i64 rule, .bool last, .sl true false (ints qn)]), (12, .map 99 h99), (87, .sl true false (poss P)), (88, .int .i64 P.length), (89, .int .i64 i), (101, .sl true false (ints next)), (102, .int .i64 next.length), (103, .int .i64 m)], [(99, (h99, .mpi (mkM (addAll [] (next.take m)))))])) (fun m => m ≤ next.length) (fun m => next.length - m) 0 (Nat.zero_le _) rfl ?_
    rintro m hm ih2
    simp only at hm ih2 ⊢
    by_cases hlm : m < next.length
    · have d4 : (m : Int) < next.length := by omega
      have d5 : (0 : Int) ≤ m := by omega
      have d6 : (m : Int) + 1 = ((m + 1 : Nat) : Int) := by omega
      obtain ⟨k, hk⟩ : ∃ k, next[m]? = some k := ⟨_, List.getElem?_eq_getElem hlm⟩
      have hst := addAll_take (ks := []) hk
      have hal : (addAll [] (next.take m)).length ≤ m := by have := addAll_len (next.take m) []; simp only [List.length_nil, List.length_take] at this; omega
      generalize addAll [] (next.take m) = Z at hst hal ⊢
      have hmp := mput_mkM k Z
      have hml : (mkM Z).length = Z.length := by simp [mkM]
      generalize mkM Z = MZ at hmp hml ⊢
      repeat' (first
  | refine gSq ?_ | refine gSk ?_ | refine gBl ?_ | refine gIb ?_ | refine gEx rfl ?_
  | ((first
  | (refine gRg [] [0, 2, 3, 4, 5, 6, 7, 8, 9, 10, 11, 12, 14, 16, 18, 32, 42, 85, 87, 88, 89, 90, 101, 102, 103, 104, 111, 112, 113, 114, 118, 123, 124, 125, 126, 132, 167] ?_; intro K hK)
  | (refine gd_split ?_ ?_ <;> intro hb <;> (try simp only [bls] at hb) <;> (try simp only [hb]))
  | refine gRt [] [.tmp 2] rfl ?_ | refine gDn [] [.tmp 2] rfl ?_) <;> (try simp only [go_sem, simprocAttr, d4, d5, d6, hk, hmp, Option.some.injEq, forall_eq']))
  | (refine hK _ _ ?_; clear hK K; simp only [go_sem, simprocAttr])
  | refine gCd (by simp only [go_sem, simprocAttr]; rfl) rfl ?_
  | refine brT ?_ | refine brF ?_
  | (refine brS ?_ ?_ <;> intro hc <;> (try simp only [bls] at hc) <;> (try simp only [hc, bls]))
  | intro _ | refine And.intro ?_ ?_)
      all_goals first | omega | (unfold bigLen; omega) | exact ⟨_, _, ⟨rfl, rfl⟩, rfl⟩ | exact ⟨_, rfl⟩ | (rename_i hy; simp only [List.mem_singleton] at hy; subst hy; rfl) | with_reducible rfl | skip
      refine AGood.filt [99] ?_
      simp only [sf_cons, sf_nil, go_sem, simprocAttr]
      refine AGood.prune [2, 3, 5, 7, 10, 11, 12, 87, 88, 89, 101, 102, 103] ?_; simp only [go_sem, simprocAttr]
      exact AGood.cast (ih2 (m + 1) (by omega) (by omega)) rfl (by rw [hst])
    · have d4 : ¬ (m : Int) < next.length := by omega
      clear ih2
      rw [List.take_of_length_le (by omega), ← hN]
      repeat' (first
  | refine gSq ?_ | refine gSk ?_ | refine gBl ?_ | refine gIb ?_ | refine gEx rfl ?_
  | ((first
  | (refine gRg [] [0, 2, 3, 4, 5, 6, 7, 8, 9, 10, 11, 12, 14, 16, 18, 32, 42, 85, 87, 88, 89, 90, 101, 102, 103, 104, 111, 112, 113, 114, 118, 123, 124, 125, 126, 132, 167] ?_; intro K hK)
  | (refine gd_split ?_ ?_ <;> intro hb <;> (try simp only [bls] at hb) <;> (try simp only [hb]))
  | refine gRt [] [.tmp 2] rfl ?_ | refine gDn [] [.tmp 2] rfl ?_) <;> (try simp only [go_sem, simprocAttr, d4]))
  | (refine hK _ _ ?_; clear hK K; simp only [go_sem, simprocAttr])
  | refine gCd (by simp only [go_sem, simprocAttr]; rfl) rfl ?_
  | refine brT ?_ | refine brF ?_
  | (refine brS ?_ ?_ <;> intro hc <;> (try simp only [bls] at hc) <;> (try simp only [hc, bls]))
  | intro _ | refine And.intro ?_ ?_)
      all_goals first | omega | (unfold bigLen; omega) | exact ⟨_, _, ⟨rfl, rfl⟩, rfl⟩ | exact ⟨_, rfl⟩ | (rename_i hy; simp only [List.mem_singleton] at hy; subst hy; rfl) | with_reducible rfl | skip
      refine AGood.prune [2, 3, 5, 7, 10, 11, 12, 87, 88, 89, 111, 112, 113] ?_; simp only [go_sem, simprocAttr]
      obtain ⟨S, hS⟩ : ∃ S : Nat → List Int, S = fun m => if last = true then addAll N (F.take m) else N := ⟨_, rfl⟩
      have hS0 : S 0 = N := by rw [hS]; simp [addAll]
      have hSE : S F.length = K := by rw [hS, hK]; simp only [List.take_length]
      have hSl : ∀ m, (S m).length ≤ 1000 := fun m => by
        rw [hS]
        simp only
        split
        · have := addAll_len (F.take m) N
          rw [List.length_take] at this
          omega
        · omega
      have hS1 : ∀ m k, F[m]? = some k → S (m + 1) = if last = true then addK (S m) k else S m := fun m k h => by
        rw [hS]; simp only
        split
        · exact addAll_take h
        · rfl
      clear hS
      refine AGood.loopInv (α := Nat) (fun m => ([(2, .bool false), (3, .bool true), (5, .ref true [.sl true false (ints F), .sl true false (poss P)]), (7, .ref true [.sl true false (ints F), .sl true false (poss P')]), (10, .ref true [.int .u64 sa, .int .u64 sb, .int .u64 sc, .int .u64 sd, .int .i64 lo, .int .i64 hi', .int .i64 rule, .bool last, .sl true false (ints next)]), (11, .ref true [.int .u64 sa, .int .u64 sb, .int .u64 sc, .int .u64 sd, .int .i64 lo, .int .i64 hi', .int .i64 rule, .bool last, .sl true false (ints qn)]), (12, .map 99 h99), (87, .sl true false (poss P)), (88, .int .i64 P.length), (89, .int .i64 i), (111, .sl true false (ints F)), (112, .int .i64 F.length), (113, .int .i64 m)], [(99, (h99, .mpi (mkM (S m))))])) (fun m => m ≤ F.length) (fun m => F.length - m) 0 (Nat.zero_le _) (by rw [hS0]; rfl) ?_
      rintro m hm ih2
      simp only at hm ih2 ⊢
      by_cases hlm : m < F.length
      · have d4 : (m : Int) < F.length := by omega
        have d5 : (0 : Int) ≤ m := by omega
        have d6 : (m : Int) + 1 = ((m + 1 : Nat) : Int) := by omega
        obtain ⟨k, hk⟩ : ∃ k, F[m]? = some k := ⟨_, List.getElem?_eq_getElem hlm⟩
        have hst := hS1 m k hk
        have hal := hSl m
        generalize S m = Z at hst hal ⊢
        have hmp := mput_mkM k Z
        have hml : (mkM Z).length = Z.length := by simp [mkM]
        cases last
        · simp only [Bool.false_eq_true, if_false] at hst
          repeat' (first
  | refine gSq ?_ | refine gSk ?_ | refine gBl ?_ | refine gIb ?_ | refine gEx rfl ?_
  | ((first
  | (refine gRg [] [0, 2, 3, 4, 5, 6, 7, 8, 9, 10, 11, 12, 14, 16, 18, 32, 42, 85, 87, 88, 89, 90, 101, 102, 103, 104, 111, 112, 113, 114, 118, 123, 124, 125, 126, 132, 167] ?_; intro K hK)
  | (refine gd_split ?_ ?_ <;> intro hb <;> (try simp only [bls] at hb) <;> (try simp only [hb]))
  | refine gRt [] [.tmp 2] rfl ?_ | refine gDn [] [.tmp 2] rfl ?_) <;> (try simp only [go_sem, simprocAttr, d4, d5, d6, hk, Option.some.injEq, forall_eq']))
  | (refine hK _ _ ?_; clear hK K; simp only [go_sem, simprocAttr])
  | refine gCd (by simp only [go_sem, simprocAttr]; rfl) rfl ?_
  | refine brT ?_ | refine brF ?_
  | (refine brS ?_ ?_ <;> intro hc <;> (try simp only [bls] at hc) <;> (try simp only [hc, bls]))
  | intro _ | refine And.intro ?_ ?_)
          all_goals first | omega | (unfold bigLen; omega) | exact ⟨_, _, ⟨rfl, rfl⟩, rfl⟩ | exact ⟨_, rfl⟩ | (rename_i hy; simp only [List.mem_singleton] at hy; subst hy; rfl) | with_reducible rfl | skip
          refine AGood.prune [2, 3, 5, 7, 10, 11, 12, 87, 88, 89, 111, 112, 113] ?_; simp only [go_sem, simprocAttr]
          exact AGood.cast (ih2 (m + 1) (by omega) (by omega)) rfl (by rw [hst])
        · simp only [if_true] at hst
          generalize mkM Z = MZ at hmp hml ⊢
          repeat' (first
  | refine gSq ?_ | refine gSk ?_ | refine gBl ?_ | refine gIb ?_ | refine gEx rfl ?_
  | ((first
  | (refine gRg [] [0, 2, 3, 4, 5, 6, 7, 8, 9, 10, 11, 12, 14, 16, 18, 32, 42, 85, 87, 88, 89, 90, 101, 102, 103, 104, 111, 112, 113, 114, 118, 123, 124, 125, 126, 132, 167] ?_; intro K hK)
  | (refine gd_split ?_ ?_ <;> intro hb <;> (try simp only [bls] at hb) <;> (try simp only [hb]))
  | refine gRt [] [.tmp 2] rfl ?_ | refine gDn [] [.tmp 2] rfl ?_) <;> (try simp only [go_sem, simprocAttr, d4, d5, d6, hk, hmp, Option.some.injEq, forall_eq']))
  | (refine hK _ _ ?_; clear hK K; simp only [go_sem, simprocAttr])
  | refine gCd (by simp only [go_sem, simprocAttr]; rfl) rfl ?_
  | refine brT ?_ | refine brF ?_
  | (refine brS ?_ ?_ <;> intro hc <;> (try simp only [bls] at hc) <;> (try simp only [hc, bls]))
  | intro _ | refine And.intro ?_ ?_)
          all_goals first | omega | (unfold bigLen; omega) | exact ⟨_, _, ⟨rfl, rfl⟩, rfl⟩ | exact ⟨_, rfl⟩ | (rename_i hy; simp only [List.mem_singleton] at hy; subst hy; rfl) | with_reducible rfl | skip
          refine AGood.filt [99] ?_
          simp only [sf_cons, sf_nil, go_sem, simprocAttr]
          refine AGood.prune [2, 3, 5, 7, 10, 11, 12, 87, 88, 89, 111, 112, 113] ?_; simp only [go_sem, simprocAttr]
          exact AGood.cast (ih2 (m + 1) (by omega) (by omega)) rfl (by rw [hst])
      · have d4 : ¬ (m : Int) < F.length := by omega
        have hmn : m = F.length := by omega
        clear ih2
        rw [hmn, hSE]
        clear hS0 hSE hSl hS1
        repeat' (first
  | refine gSq ?_ | refine gSk ?_ | refine gBl ?_ | refine gIb ?_ | refine gEx rfl ?_
  | ((first
  | (refine gRg [] [0, 2, 3, 4, 5, 6, 7, 8, 9, 10, 11, 12, 14, 16, 18, 32, 42, 85, 87, 88, 89, 90, 101, 102, 103, 104, 111, 112, 113, 114, 118, 123, 124, 125, 126, 132, 167] ?_; intro K hK)
  | (refine gd_split ?_ ?_ <;> intro hb <;> (try simp only [bls] at hb) <;> (try simp only [hb]))
  | refine gRt [] [.tmp 2] rfl ?_ | refine gDn [] [.tmp 2] rfl ?_) <;> (try simp only [go_sem, simprocAttr, d4]))
  | (refine hK _ _ ?_; clear hK K; simp only [go_sem, simprocAttr])
  | refine gCd (by simp only [go_sem, simprocAttr]; rfl) rfl ?_
  | refine brT ?_ | refine brF ?_
  | (refine brS ?_ ?_ <;> intro hc <;> (try simp only [bls] at hc) <;> (try simp only [hc, bls]))
  | intro _ | refine And.intro ?_ ?_)
        all_goals first | omega | (unfold bigLen; omega) | exact ⟨_, _, ⟨rfl, rfl⟩, rfl⟩ | exact ⟨_, rfl⟩ | (rename_i hy; simp only [List.mem_singleton] at hy; subst hy; rfl) | with_reducible rfl | skip
        refine AGood.prune [2, 3, 5, 7, 10, 11, 12, 87, 88, 89, 123, 124, 125] ?_; simp only [go_sem, simprocAttr]
        refine AGood.loopInv (α := Nat) (fun m => ([(2, .bool false), (3, .bool true), (5, .ref true [.sl true false (ints F), .sl true false (poss P)]), (7, .ref true [.sl true false (ints F), .sl true false (poss P')]), (10, .ref true [.int .u64 sa, .int .u64 sb, .int .u64 sc, .int .u64 sd, .int .i64 lo, .int .i64 hi', .int .i64 rule, .bool last, .sl true false (ints next)]), (11, .ref true [.int .u64 sa, .int .u64 sb, .int .u64 sc, .int .u64 sd, .int .i64 lo, .int .i64 hi', .int .i64 rule, .bool last, .sl true false (ints qn)]), (12, .map 99 h99), (87, .sl true false (poss P)), (88, .int .i64 P.length), (89, .int .i64 i), (123, .sl true false (ints qn)), (124, .int .i64 qn.length), (125, .int .i64 m)], [(99, (h99, .mpi (mkM K)))])) (fun m => m ≤ qn.length) (fun m => qn.length - m) 0 (Nat.zero_le _) rfl ?_
        rintro m hm ih2
        simp only at hm ih2 ⊢
        have hml : (mkM K).length = qn.length := by simp [mkM, hKl]
        by_cases hlm : m < qn.length
        · have d4 : (m : Int) < qn.length := by omega
          have d5 : (0 : Int) ≤ m := by omega
          have d6 : (m : Int) + 1 = ((m + 1 : Nat) : Int) := by omega
          obtain ⟨k, hk⟩ : ∃ k, qn[m]? = some k := ⟨_, List.getElem?_eq_getElem hlm⟩
          have hmf := mfind_mkM k K
          rw [if_pos ((hKm k).2 (List.mem_of_getElem? hk))] at hmf
          generalize mkM K = MK at hmf hml ih2 ⊢
          repeat' (first
  | refine gSq ?_ | refine gSk ?_ | refine gBl ?_ | refine gIb ?_ | refine gEx rfl ?_
  | ((first
  | (refine gRg [] [0, 2, 3, 4, 5, 6, 7, 8, 9, 10, 11, 12, 14, 16, 18, 32, 42, 85, 87, 88, 89, 90, 101, 102, 103, 104, 111, 112, 113, 114, 118, 123, 124, 125, 126, 132, 167] ?_; intro K hK)
  | (refine gd_split ?_ ?_ <;> intro hb <;> (try simp only [bls] at hb) <;> (try simp only [hb]))
  | refine gRt [] [.tmp 2] rfl ?_ | refine gDn [] [.tmp 2] rfl ?_) <;> (try simp only [go_sem, simprocAttr, d4, d5, d6, hk, hmf, Option.some.injEq, forall_eq']))
  | (refine hK _ _ ?_; clear hK K; simp only [go_sem, simprocAttr])
  | refine gCd (by simp only [go_sem, simprocAttr]; rfl) rfl ?_
  | refine brT ?_ | refine brF ?_
  | (refine brS ?_ ?_ <;> intro hc <;> (try simp only [bls] at hc) <;> (try simp only [hc, bls]))
  | intro _ | refine And.intro ?_ ?_)
          all_goals first | omega | (unfold bigLen; omega) | exact ⟨_, _, ⟨rfl, rfl⟩, rfl⟩ | exact ⟨_, rfl⟩ | (rename_i hy; simp only [List.mem_singleton] at hy; subst hy; rfl) | with_reducible rfl | skip
          refine AGood.filt [99] ?_
          simp only [sf_cons, sf_nil, go_sem, simprocAttr]
          refine AGood.prune [2, 3, 5, 7, 10, 11, 12, 87, 88, 89, 123, 124, 125] ?_; simp only [go_sem, simprocAttr]
          exact AGood.cast (ih2 (m + 1) (by omega) (by omega)) rfl rfl
        · have d4 : ¬ (m : Int) < qn.length := by omega
          clear ih2
          generalize mkM K = MK at hml ⊢
          repeat' (first
  | refine gSq ?_ | refine gSk ?_ | refine gBl ?_ | refine gIb ?_ | refine gEx rfl ?_
  | ((first
  | (refine gRg [] [0, 2, 3, 4, 5, 6, 7, 8, 9, 10, 11, 12, 14, 16, 18, 32, 42, 85, 87, 88, 89, 90, 101, 102, 103, 104, 111, 112, 113, 114, 118, 123, 124, 125, 126, 132, 167] ?_; intro K hK)
  | (refine gd_split ?_ ?_ <;> intro hb <;> (try simp only [bls] at hb) <;> (try simp only [hb]))
  | refine gRt [] [.tmp 2] rfl ?_ | refine gDn [] [.tmp 2] rfl ?_) <;> (try simp only [go_sem, simprocAttr, d4, f6, hml, AVal.isCell, eq_self, beq_self_eq_true]))
  | (refine hK _ _ ?_; clear hK K; simp only [go_sem, simprocAttr])
  | refine gCd (by simp only [go_sem, simprocAttr]; rfl) rfl ?_
  | refine brT ?_ | refine brF ?_
  | (refine brS ?_ ?_ <;> intro hc <;> (try simp only [bls] at hc) <;> (try simp only [hc, bls]))
  | intro _ | refine And.intro ?_ ?_)
          all_goals first | omega | (unfold bigLen; omega) | exact ⟨_, _, ⟨rfl, rfl⟩, rfl⟩ | exact ⟨_, rfl⟩ | (rename_i hy; simp only [List.mem_singleton] at hy; subst hy; rfl) | with_reducible rfl | skip
          refine AGood.filt [] ?_
          simp only [sf_cons, sf_nil, go_sem, simprocAttr]
          refine AGood.prune [2, 3, 5, 7, 87, 88, 89] ?_; simp only [go_sem, simprocAttr]
          exact (ih (i + 1) (by omega) (by omega)).cast rfl rfl
  · have f4 : ¬ (i : Int) < P.length := by omega
    clear ih
    repeat' (first
  | refine gSq ?_ | refine gSk ?_ | refine gBl ?_ | refine gIb ?_ | refine gEx rfl ?_
  | ((first
  | (refine gRg [] [0, 2, 3, 4, 5, 6, 7, 8, 9, 10, 11, 12, 14, 16, 18, 32, 42, 85, 87, 88, 89, 90, 101, 102, 103, 104, 111, 112, 113, 114, 118, 123, 124, 125, 126, 132, 167] ?_; intro K hK)
  | (refine gd_split ?_ ?_ <;> intro hb <;> (try simp only [bls] at hb) <;> (try simp only [hb]))
  | refine gRt [] [.tmp 2] rfl ?_ | refine gDn [] [.tmp 2] rfl ?_) <;> (try simp only [go_sem, simprocAttr, f4]))
  | (refine hK _ _ ?_; clear hK K; simp only [go_sem, simprocAttr])
  | refine gCd (by simp only [go_sem, simprocAttr]; rfl) rfl ?_
  | refine brT ?_ | refine brF ?_
  | (refine brS ?_ ?_ <;> intro hc <;> (try simp only [bls] at hc) <;> (try simp only [hc, bls]))
  | intro _ | refine And.intro ?_ ?_)
    all_goals first | omega | (unfold bigLen; omega) | exact ⟨_, _, ⟨rfl, rfl⟩, rfl⟩ | exact ⟨_, rfl⟩ | (rename_i hy; simp only [List.mem_singleton] at hy; subst hy; rfl) | with_reducible rfl | skip
end Go.Rad
/- From a contract to a given row: the arguments are frozen, as whatever they hold. -/
namespace Go.Rad
open Go Go.ChangeShapes Go.RowKit Go.Deep
variable {P : Program} {L : Lay}

/-- The ghost at a call: all that there is lies still. -/
def baseG (W : World) : Gh := { F := fun b => W.heap[b]?, S := fun _ => True, L := fun _ => False, M := fun _ _ => none, N := 0, W0 := W }

/-- The package variables that are known lie there. -/
def GlobIn (W : World) : Prop := ∀ (g : Nat) (l : List Int), globU8 g = some l → Rep (baseG W) true (.ref true (globC l)) (.pointer (some ⟨g, 0, none⟩))
theorem baseG_wok {W : World} (hT : GlobIn W) : WOk (baseG W) W := ⟨.refl W, fun _ _ h => h, fun _ _ _ _ h => by simp [baseG] at h, fun _ _ _ => rfl, hT⟩
theorem sto_nil {G : Gh} {w : World} : StoOk G w [] := ⟨fun _ _ _ h => by simp [sget] at h, fun _ _ _ _ _ _ h => by simp [sget] at h⟩

theorem base_grown {W W' : World} {G : Gh} (hx : Ext (baseG W) G) (hw : WOk G W') : W.keptBut W' (fun _ => False) ∧ ∀ a : Addr, a.block < W.heap.size → W'.frozen? a = W.frozen? a := by
  have hold : ∀ i, i < W.heap.size → W'.heap[i]? = W.heap[i]? := by
    intro i hi
    have h1 : (baseG W).F i = some W.heap[i] := Array.getElem?_eq_getElem hi
    rw [hw.F i _ (hx.F i _ h1), Array.getElem?_eq_getElem hi]
  have hk : Kept W W' := by have := hw.K; rw [hx.W0] at this; exact this
  refine ⟨⟨hk.os, hk.out, fun i hi => ?_⟩, fun a ha => ?_⟩
  · rw [hold i hi]
    cases W.heap[i]? with
    | none => rfl
    | some o => cases o <;> simp
  · simp only [World.frozen?, hold _ ha]

/-- What is told where the arguments lie as they lay, and nothing of them was shut: of what is new nothing is asked. -/
theorem post_old {H : Type} {enc : TypeId × Value → H} {f : Func} {s : ChangeSpec} {apart fresh handsOn again : Bool} {W W' : World} {args : Array Value} {v : Value} {ds gs : List (DataW H)} {before pa pv : List MemPlace}
    (hW : DataW.Whole enc P f.params.toList s.vars apart W args.toList ds gs before)
    (hres : ∀ (b : Nat) (sp : Nat → Bool) (hd : Bool), DataW.TrodAll enc P W' b sp hd f.resultTypes.toList (v.resultList f.resultTypes.size) (s.fn H (ds ++ gs)).results [])
    (hargs : ∀ sp : Nat → Bool, (∀ p ∈ before, sp p.block = true) → DataW.TrodAll enc P W' 0 sp true f.params.toList args.toList (s.fn H (ds ++ gs)).args pa)
    (hvars : ∀ sp : Nat → Bool, (∀ p ∈ before, sp p.block = true) → DataW.TrodVars enc P W' sp s.vars (s.fn H (ds ++ gs)).vars pv)
    (hps : before = pa ++ pv) (hk : W.keptBut W' (· ∈ before)) (hfz : ∀ a : Addr, a.block < W.heap.size → W'.frozen? a = W.frozen? a)
    (hok : ∀ (j : Nat) (t : TypeId) (r : Value), f.resultTypes[j]? = some t → (v.resultList f.resultTypes.size)[j]? = some r → Value.okWide P W' .any 0 t r) :
    s.post enc P f apart fresh handsOn again W args v W' := by
  have hall : ∀ p ∈ before, p.block < W.heap.size := fun p hp => hW.lt p hp
  have hin : ∀ p ∈ before, (fun b => decide (b < W.heap.size)) p.block = true := fun p hp => decide_eq_true (hall p hp)
  have hmem : ∀ p, p ∈ ([] ++ pa) ++ pv → p ∈ before := fun p hp => by rw [hps]; exact hp
  refine ⟨ds, gs, before, [], pa, pv, hW, hres _ _ _, hargs _ hin, hvars _ hin, World.keptBut_mono (fun p hp => ⟨hp, ?_⟩) hk, fun _ => ?_⟩
  · rw [hps] at hp
    exact .inr (List.mem_append.1 hp)
  · obtain ⟨_, _, _, _, _, hz, hn⟩ := hW
    refine ⟨hok, _, _, ([] ++ pa) ++ pv, ⟨[] ++ pa, pv, trodAll_append (hargs _ fun _ _ => rfl) (hres _ _ _), hvars _ fun _ _ => rfl, rfl, fun b off hp => ?_, fun ha => ?_⟩, fun p hp _ => ?_⟩
    · have := hall _ (hmem _ hp)
      rw [hfz _ this]
      exact hz b off (hmem _ hp)
    · have := hn ha
      rw [hps] at this
      simpa using this
    · rw [hps]
      simpa using hp

def typedL (p : Nat → List AVal → Prop) : List (Nat × Nat) → List AVal → Prop
  | [], cs => cs = []
  | (_, t) :: r, cs => ∃ xs rest, cs = xs ++ rest ∧ p t xs ∧ typedL p r rest
def typedN (p : List AVal → Prop) : Nat → List AVal → Prop
  | 0, cs => cs = []
  | n + 1, cs => ∃ xs rest, cs = xs ++ rest ∧ p xs ∧ typedN p n rest

/-- Cells of a type, by content. -/
def typed (L : Lay) : Nat → Nat → List AVal → Prop
  | 0, _, _ => False
  | k + 1, t, cs =>
    match (L t).ty with
    | .int i => ∃ n, cs = [.int i n] ∧ fits i n
    | .bool => ∃ b, cs = [.bool b]
    | .string => ∃ s : ByteArray, cs = [.str s] ∧ s.size ≤ maxLen
    | .slice e => ∃ (l : List (List AVal)), cs = [.sl true false l] ∧ l.length ≤ maxLen ∧ ∀ x ∈ l, typed L k e x
    | .struct fs => typedL (typed L k) fs cs
    | .array n e => typedN (typed L k e) n cs
    | _ => False

def offsOk (L : Lay) : Nat → List (Nat × Nat) → Nat → Bool
  | o, [], sz => o == sz
  | o, (a, t) :: r, sz => a == o && offsOk L (o + (L t).sz) r sz

/-- Types of plain data. -/
def dataTy (L : Lay) : Nat → Nat → Bool
  | 0, _ => false
  | k + 1, t =>
    match (L t).ty with
    | .int _ => (L t).sz == 1 && !(L t).ag
    | .bool => (L t).sz == 1 && !(L t).ag
    | .string => (L t).sz == 1 && !(L t).ag
    | .slice e => (L t).sz == 1 && !(L t).ag && decide (0 < (L e).sz) && dataTy L k e
    | .struct fs => (L t).ag && offsOk L 0 fs (L t).sz && fs.all fun f => dataTy L k f.2
    | .array n e => (L t).ag && (n * (L e).sz == (L t).sz) && dataTy L k e
    | _ => false

/-- Cells that stand for cells. -/
def RepL (G : Gh) (ys : List AVal) (cs : List Value) : Prop := ys.length = cs.length ∧ (∀ (j : Nat) (y : AVal), ys[j]? = some y → y.isCell = true) ∧ ∀ (j : Nat) (y : AVal), ys[j]? = some y → Rep G false y (cs.getD j undef)

theorem RepL.nil {G : Gh} : RepL G [] [] := ⟨rfl, fun _ _ h => by simp at h, fun _ _ h => by simp at h⟩
theorem RepL.one {G : Gh} {y : AVal} {v : Value} (hc : y.isCell = true) (h : Rep G false y v) : RepL G [y] [v] := by
  refine ⟨rfl, fun j x hx => ?_, fun j x hx => ?_⟩ <;>
  · cases j with
    | zero => simp at hx; subst hx; first | exact hc | exact h
    | succ j => simp at hx
theorem RepL.append {G : Gh} {ys zs : List AVal} {cs ds : List Value} (h : RepL G ys cs) (k : RepL G zs ds) : RepL G (ys ++ zs) (cs ++ ds) := by
  refine ⟨by simp [h.1, k.1], fun j x hx => ?_, fun j x hx => ?_⟩
  · rw [List.getElem?_append] at hx
    split at hx
    · exact h.2.1 j x hx
    · exact k.2.1 _ x hx
  · rw [List.getElem?_append] at hx
    split at hx
    · rename_i hlt
      have := h.2.2 j x hx
      simpa [List.getD, List.getElem?_append, h.1 ▸ hlt] using this
    · rename_i hlt
      have := k.2.2 _ x hx
      rw [h.1] at hlt this
      simpa [List.getD, List.getElem?_append, hlt] using this

theorem Known.cellsOf {t : Nat} {i : TypeInfo} {d : TypeDesc} {z : Value} (h : Known P L t i d z) : P.cellsOf t = (L t).sz := by
  simp [Program.cellsOf, h.info, h.size]

theorem dataTy_ne {k t : Nat} (h : dataTy L k t = true) : (L t).ty ≠ .other := by
  cases k with
  | zero => simp [dataTy] at h
  | succ k => intro e; simp [dataTy, e] at h

section
variable {H : Type} {enc : TypeId × Value → H} {W : World}

theorem trod_rep (hL : LOk P L) : ∀ (k t : Nat), dataTy L k t = true → ∀ (fuel : Nat) (cs : List Value) (x : DataW H × List MemPlace), DataW.trod enc P W 0 (fun _ => true) true fuel t cs = some x → cs.length = (L t).sz →
    ∃ ys, typed L k t ys ∧ RepL (baseG W) ys cs
  | 0, t, hd, _, _, _, _, _ => by simp [dataTy] at hd
  | k + 1, t, hd, fuel, cs, x, h, hlen => by
    obtain ⟨i, d, z, kn⟩ := hL.known (dataTy_ne hd)
    have hdesc := kn.desc
    have hu := kn.und
    unfold dataTy at hd
    unfold typed
    cases hty : (L t).ty with
    | int q =>
      simp only [hty] at hd hdesc ⊢
      cases d <;> simp only [descIs, Bool.false_eq_true] at hdesc
      rename_i q'
      obtain rfl : q = q' := by simpa using hdesc
      obtain ⟨n, rfl, _, hw⟩ := DataW.trod_int hu h
      have hf : fits q n := by simpa [Lit.wf, fits] using hw
      exact ⟨[.int q n], ⟨n, rfl, hf⟩, .one rfl (.int hf)⟩
    | bool =>
      simp only [hty] at hd hdesc ⊢
      cases d <;> simp only [descIs, Bool.false_eq_true] at hdesc
      obtain ⟨b, rfl, _⟩ := DataW.trod_bool hu h
      exact ⟨[.bool b], ⟨b, rfl⟩, .one rfl .bool⟩
    | string =>
      simp only [hty] at hd hdesc ⊢
      cases d <;> simp only [descIs, Bool.false_eq_true] at hdesc
      obtain ⟨s, rfl, _, hs⟩ := DataW.trod_string hu h
      exact ⟨[.str s], ⟨s, rfl, hs⟩, .one rfl (.str hs)⟩
    | slice e =>
      simp only [hty, Bool.and_eq_true, beq_iff_eq, decide_eq_true_eq] at hd hdesc ⊢
      cases d <;> simp only [descIs, Bool.false_eq_true] at hdesc
      rename_i e'
      obtain ⟨rfl, hne⟩ : e = e' ∧ _ := by simpa using hdesc
      obtain ⟨⟨_, hpos⟩, hde⟩ := hd
      obtain ⟨i2, d2, z2, kn2⟩ := hL.known (dataTy_ne hde)
      have hce := kn2.cellsOf
      rcases open_slice hu h with ⟨rfl, _⟩ | ⟨a, len, cap, m, n, D, Pl, rfl, _, hle, hcap, hm, _, hall⟩
      · exact ⟨[.sl true false []], ⟨[], rfl, Nat.zero_le _, fun x hx => by cases hx⟩, .one rfl (.slnil fun h => by cases h)⟩
      · simp only [if_true] at hm
        subst hm
        -- each element's cells
        have hel : ∀ i, i < len → ∃ ys cs', W.cells? 0 (a.add (i * (L e).sz)) (L e).sz = some cs' ∧ typed L k e ys ∧ RepL (baseG W) ys cs' := by
          intro i hi
          obtain ⟨cs', h1, h2⟩ := hall i (by omega)
          rw [hce] at h1
          obtain ⟨ys, h3, h4⟩ := trod_rep hL k e hde _ cs' _ h2 (World.cells?_some h1).2.1
          exact ⟨ys, cs', h1, h3, h4⟩
        rcases Nat.eq_zero_or_pos len with h0 | hl
        · subst h0
          exact ⟨[.sl true false []], ⟨[], rfl, Nat.zero_le _, fun x hx => by cases hx⟩, .one rfl (.slnil fun h => by cases h)⟩
        · have hpick : ∃ g : Nat → List AVal, ∀ i, i < len → ∃ cs', W.cells? 0 (a.add (i * (L e).sz)) (L e).sz = some cs' ∧ typed L k e (g i) ∧ RepL (baseG W) (g i) cs' := by
            refine ⟨fun i => if hi : i < len then Classical.choose (hel i hi) else [], fun i hi => ?_⟩
            simp only [hi, dif_pos]
            exact Classical.choose_spec (hel i hi)
          obtain ⟨g, hg⟩ := hpick
          -- the block that they lie in
          obtain ⟨cs0, h0, _, hr0⟩ := hg 0 hl
          have hspot : a.spot = none ∧ ∃ c t' fr, W.heap[a.block]? = some (.cells c t' fr) := by
            have hc0 := (World.cells?_some h0).2.2 0 hpos
            have hln := (World.cells?_some h0).2.1
            have ha : (a.add (0 * (L e).sz)).add 0 = a := by simp [Addr.add]
            rw [ha, List.getElem?_eq_getElem (by omega)] at hc0
            unfold World.cell? at hc0
            split at hc0
            · rename_i c t' fr hcell
              split at hc0
              · cases hc0
              · rename_i hs; exact ⟨by simpa using hs, c, t', fr, hcell⟩
            · cases hc0
          obtain ⟨hsp, c, t', fr, hblk⟩ := hspot
          have hcell : ∀ i j, i < len → j < (L e).sz → ∀ cs', W.cells? 0 (a.add (i * (L e).sz)) (L e).sz = some cs' → c[a.off + i * (L e).sz + j]? = cs'[j]? := by
            intro i j hi hj cs' hcs
            rw [← (World.cells?_some hcs).2.2 j hj]
            have : ((a.add (i * (L e).sz)).add j) = ⟨a.block, a.off + i * (L e).sz + j, none⟩ := by
              unfold Addr.add
              by_cases h1 : i * (L e).sz = 0 <;> by_cases h2 : j = 0 <;> simp [h1, h2, hsp] <;> try omega
              · cases a; simp_all
            rw [this]
            simp [World.cell?, hblk]
          obtain ⟨bk, off, sp⟩ := a
          simp only at hsp hblk hcell
          subst hsp
          have hlast : off + len * (L e).sz ≤ c.size := by
            obtain ⟨cs', h1, _, _⟩ := hg (len - 1) (by omega)
            have hln := (World.cells?_some h1).2.1
            have := hcell (len - 1) ((L e).sz - 1) (by omega) (by omega) cs' h1
            rw [List.getElem?_eq_getElem (by omega)] at this
            have hlt := (Array.getElem?_eq_some_iff.1 this).1
            have e1 : len * (L e).sz = (len - 1) * (L e).sz + (L e).sz := by
              rw [← Nat.succ_mul]; congr 1; omega
            omega
          have hl' : ∀ (i : Nat) (x : List AVal), ((List.range len).map g)[i]? = some x → i < len ∧ x = g i := by
            intro i x hx
            rw [List.getElem?_map] at hx
            obtain ⟨j, hj, rfl⟩ := Option.map_eq_some_iff.1 hx
            have := List.getElem?_eq_some_iff.1 hj
            obtain ⟨hlt, e⟩ := this
            simp at hlt e
            subst e; exact ⟨hlt, rfl⟩
          refine ⟨[.sl true false ((List.range len).map g)], ⟨_, rfl, by simp; exact Nat.le_trans hle hcap, fun x hx => ?_⟩, .one rfl ?_⟩
          · obtain ⟨i, hi, rfl⟩ := List.mem_map.1 hx
            obtain ⟨_, _, h1, _⟩ := hg i (by simpa using hi)
            exact h1
          · have hR := Rep.sl (G := baseG W) (o := false) (q := true) (full := false) (l := (List.range len).map g) (cap := m) (b := bk) (off := off) (c := c) (e := t') (fr := fr) (esz := (L e).sz)
              (by simpa using hle) (fun h => by cases h) (by simp; exact Nat.le_trans hle hcap) (.inl trivial) hblk (by simpa using hlast)
              (fun i x hx => by
                obtain ⟨hi, rfl⟩ := hl' i x hx
                obtain ⟨cs', h1, _, h3⟩ := hg i hi
                rw [h3.1, (World.cells?_some h1).2.1])
              (fun i j x y hx hy => by
                obtain ⟨hi, rfl⟩ := hl' i x hx
                obtain ⟨cs', h1, _, h3⟩ := hg i hi
                exact h3.2.1 j y hy)
              (fun i j x y hx hy => by
                obtain ⟨hi, rfl⟩ := hl' i x hx
                obtain ⟨cs', h1, _, h3⟩ := hg i hi
                have hj : j < (L e).sz := by
                  have := (List.getElem?_eq_some_iff.1 hy).1
                  rw [h3.1, (World.cells?_some h1).2.1] at this; exact this
                have h4 := h3.2.2 j y hy
                have h5 := hcell i j hi hj cs' h1
                have e : c.getD (off + i * (L e).sz + j) undef = cs'.getD j undef := by
                  simp only [Array.getD_eq_getD_getElem?, List.getD, h5]
                rw [e]; exact h4)
            simpa using hR
    | struct fs =>
      simp only [hty, Bool.and_eq_true] at hd hdesc ⊢
      cases d <;> simp only [descIs, Bool.false_eq_true] at hdesc
      rename_i gs
      obtain ⟨⟨_, hoff⟩, hall⟩ := hd
      obtain ⟨xs, n, _, _, _, hxl, hxs⟩ := DataW.trod_struct hu h
      have hall' := fun f hf => List.all_eq_true.1 hall f hf
      -- field by field
      have key : ∀ (fs' : List (Nat × Nat)) (gs' : List Field) (o m : Nat), fieldsAre L fs' gs' = true → offsOk L o fs' (L t).sz = true → (∀ f ∈ fs', dataTy L k f.2 = true) → (∀ (i : Nat) (f : Field), gs'[i]? = some f → gs[m + i]? = some f) → m + gs'.length = gs.size → o ≤ (L t).sz →
          ∃ ys, typedL (typed L k) fs' ys ∧ RepL (baseG W) ys (cs.drop o) := by
        intro fs'
        induction fs' with
        | nil =>
          intro gs' o m hf ho _ _ _ _
          simp only [offsOk, beq_iff_eq] at ho
          refine ⟨[], rfl, ?_⟩
          rw [List.drop_eq_nil_of_le (by omega)]; exact .nil
        | cons ft fs' ih =>
          intro gs' o m hf ho hda hgs hm hole
          obtain ⟨fo, ftt⟩ := ft
          cases gs' with
          | nil => simp [fieldsAre] at hf
          | cons g gs' =>
            simp only [fieldsAre, Bool.and_eq_true, beq_iff_eq, decide_eq_true_eq, bne_iff_ne] at hf
            obtain ⟨⟨⟨⟨h1, h2⟩, h3⟩, h4⟩, h5⟩ := hf
            simp only [offsOk, Bool.and_eq_true, beq_iff_eq] at ho
            obtain ⟨rfl, ho⟩ := ho
            have hdt : dataTy L k ftt = true := hda (fo, ftt) (by simp)
            obtain ⟨i2, d2, z2, kn2⟩ := hL.known h4
            have hce := kn2.cellsOf
            have hole2 : fo + (L ftt).sz ≤ (L t).sz := by
              have : ∀ (l : List (Nat × Nat)) (o : Nat), offsOk L o l (L t).sz = true → o ≤ (L t).sz := by
                intro l
                induction l with
                | nil => intro o h; simp only [offsOk, beq_iff_eq] at h; omega
                | cons a l ih => intro o h; simp only [offsOk, Bool.and_eq_true, beq_iff_eq] at h; have := ih _ h.2; omega
              exact this fs' _ ho
            have hg0 := hgs 0 g (by simp)
            have htr := hxs m g (by simpa using hg0)
            rw [h2, hce, h1] at htr
            have hml : m < xs.length := by
              rw [hxl]; have := (Array.getElem?_eq_some_iff.1 hg0).1; simpa using this
            rw [List.getElem?_eq_getElem hml] at htr
            obtain ⟨ys, hy1, hy2⟩ := trod_rep hL k ftt hdt n _ _ htr (by simp [hlen]; omega)
            obtain ⟨zs, hz1, hz2⟩ := ih gs' (fo + (L ftt).sz) (m + 1) h5 ho (fun f hf => hda f (by simp [hf])) (fun i f hi => by have := hgs (i + 1) f (by simpa using hi); rw [show m + 1 + i = m + (i + 1) by omega]; exact this) (by simp at hm ⊢; omega) hole2
            refine ⟨ys ++ zs, ⟨ys, zs, rfl, hy1, hz1⟩, ?_⟩
            have e : cs.drop fo = (cs.drop fo).take (L ftt).sz ++ cs.drop (fo + (L ftt).sz) := by
              rw [← List.drop_drop]; exact (List.take_append_drop _ _).symm
            rw [e]
            exact hy2.append hz2
      have hfd : fieldsAre L fs gs.toList = true := hdesc
      have := key fs gs.toList 0 0 hfd hoff hall' (fun i f hi => by simpa using hi) (by simp) (Nat.zero_le _)
      simpa using this
    | array n e =>
      simp only [hty, Bool.and_eq_true, beq_iff_eq] at hd hdesc ⊢
      cases d <;> simp only [descIs, Bool.false_eq_true] at hdesc
      rename_i n' e'
      simp only [Bool.and_eq_true, beq_iff_eq] at hdesc
      obtain ⟨⟨rfl, rfl⟩, hne⟩ := hdesc
      obtain ⟨⟨_, hsz⟩, hde⟩ := hd
      obtain ⟨i2, d2, z2, kn2⟩ := hL.known (dataTy_ne hde)
      have hce := kn2.cellsOf
      obtain ⟨xs, m, _, _, _, hxl, hxs⟩ := DataW.trod_array hu h
      have key : ∀ r o, r + o = n → ∃ ys, typedN (typed L k e) r ys ∧ RepL (baseG W) ys (cs.drop (o * (L e).sz)) := by
        intro r
        induction r with
        | zero =>
          intro o ho
          refine ⟨[], rfl, ?_⟩
          rw [List.drop_eq_nil_of_le (by rw [hlen, ← hsz, ← ho]; simp)]; exact .nil
        | succ r ih =>
          intro o ho
          have htr := hxs o (by omega)
          rw [hce, List.getElem?_eq_getElem (by omega)] at htr
          have hle : o * (L e).sz + (L e).sz ≤ cs.length := by
            rw [hlen, ← hsz, ← Nat.succ_mul]; exact Nat.mul_le_mul_right _ (by omega)
          obtain ⟨ys, hy1, hy2⟩ := trod_rep hL k e hde m _ _ htr (by simp; omega)
          obtain ⟨zs, hz1, hz2⟩ := ih (o + 1) (by omega)
          refine ⟨ys ++ zs, ⟨ys, zs, rfl, hy1, hz1⟩, ?_⟩
          have e' : cs.drop (o * (L e).sz) = (cs.drop (o * (L e).sz)).take (L e).sz ++ cs.drop ((o + 1) * (L e).sz) := by
            rw [Nat.succ_mul, ← List.drop_drop]; exact (List.take_append_drop _ _).symm
          rw [e']
          exact hy2.append hz2
      have := key n 0 (by omega)
      simpa using this
    | _ => simp [hty] at hd

/-- A parameter, by content. -/
def typedP (L : Lay) (t : Nat) (x : AVal) : Prop := if (L t).ag then ∃ ys, x = .agg ys ∧ typed L 9 t ys else typed L 9 t [x]
def typedAll (L : Lay) : List Nat → List AVal → Prop
  | [], xs => xs = []
  | t :: ts, xs => ∃ x r, xs = x :: r ∧ typedP L t x ∧ typedAll L ts r

theorem typed_len : ∀ (k t : Nat) (ys : List AVal), dataTy L k t = true → (L t).ag = false → typed L k t ys → ∃ y, ys = [y]
  | 0, t, ys, hd, _, _ => by simp [dataTy] at hd
  | k + 1, t, ys, hd, ha, h => by
    unfold dataTy at hd
    unfold typed at h
    cases hty : (L t).ty <;> simp only [hty] at hd h <;> try (cases hd; done)
    case int => obtain ⟨n, rfl, _⟩ := h; exact ⟨_, rfl⟩
    case bool => obtain ⟨n, rfl⟩ := h; exact ⟨_, rfl⟩
    case string => obtain ⟨n, rfl, _⟩ := h; exact ⟨_, rfl⟩
    case slice => obtain ⟨l, rfl, _⟩ := h; exact ⟨_, rfl⟩
    case struct => simp [ha] at hd
    case array => simp [ha] at hd

theorem arg_rep (hL : LOk P L) {t base : Nat} {v : Value} {d : DataW H} {ps : List MemPlace} (hd : dataTy L 9 t = true) (hok : Value.okWide P W .any base t v) (h : DataW.Trod enc P W 0 (fun _ => true) true t v d ps) :
    ∃ x, typedP L t x ∧ Rep (baseG W) false x v := by
  obtain ⟨i, ds, z, kn⟩ := hL.known (dataTy_ne hd)
  have hu := kn.und
  have hag := kn.agg
  obtain ⟨fuel, hf⟩ := h
  unfold Value.okWide at hok
  unfold typedP
  cases ha : (L t).ag with
  | true =>
    rw [ha] at hag
    have hv : ∃ cs, v = .agg cs ∧ cs.size = P.cellsOf t := by
      rw [hu] at hok
      cases ds <;> simp only [isAggD, Bool.false_eq_true] at hag
      all_goals obtain ⟨cs, h1, h2, _⟩ := hok; exact ⟨cs, h1, h2⟩
    obtain ⟨cs, rfl, hsz⟩ := hv
    obtain ⟨ys, h1, h2⟩ := trod_rep hL 9 t hd fuel _ _ hf (by simp [Value.cells, hsz, kn.cellsOf])
    refine ⟨.agg ys, by simp only [if_true]; exact ⟨ys, rfl, h1⟩, .agg (by have := h2.1; simpa [Value.cells] using this.symm) h2.2.1 fun j x hx => ?_⟩
    have := h2.2.2 j x hx
    simpa [Value.cells, List.getD] using this
  | false =>
    rw [ha] at hag
    have hv : v.cells = #[v] := by
      rw [hu] at hok
      cases ds <;> simp only [isAggD, Bool.true_eq_false] at hag <;> cases v <;> first | rfl | (simp [Cell.okWide, Cell.ok, hu] at hok)
    rw [hv] at hf
    have hs1 : (L t).sz = 1 := by
      unfold dataTy at hd
      cases hty : (L t).ty <;> simp only [hty] at hd <;> try (cases hd; done)
      all_goals first | (simp [ha] at hd; simp [hd]; done) | (simp [ha] at hd)
    obtain ⟨ys, h1, h2⟩ := trod_rep hL 9 t hd fuel _ _ hf (by simp [hs1])
    obtain ⟨y, rfl⟩ := typed_len 9 t ys hd ha h1
    refine ⟨y, by simpa using h1, ?_⟩
    have := h2.2.2 0 y rfl
    simpa using this

theorem args_rep (hL : LOk P L) {base : Nat} : ∀ (ts : List Nat) (vs : List Value) (ds : List (DataW H)) (ps : List MemPlace), (∀ t ∈ ts, dataTy L 9 t = true) → (∀ (j : Nat) t v, ts[j]? = some t → vs[j]? = some v → Value.okWide P W .any base t v) →
    DataW.TrodAll enc P W 0 (fun _ => true) true ts vs ds ps → ∃ xs, typedAll L ts xs ∧ vs.length = xs.length ∧ ∀ (j : Nat) (x : AVal), xs[j]? = some x → Rep (baseG W) false x (vs.getD j undef)
  | [], vs, ds, ps, _, _, h => by
    obtain ⟨rfl, _, _⟩ := trodAll_nil h
    exact ⟨[], rfl, rfl, fun j x hx => by simp at hx⟩
  | t :: ts, vs, ds, ps, hd, hok, h => by
    obtain ⟨v, vs', d, ds', p, q, rfl, rfl, rfl, h1, h2⟩ := trodAll_cons h
    obtain ⟨x, hx1, hx2⟩ := arg_rep hL (hd t (by simp)) (hok 0 t v rfl rfl) h1
    obtain ⟨xs, h3, h4, h5⟩ := args_rep hL ts vs' ds' q (fun t ht => hd t (by simp [ht])) (fun j t v hj hv => hok (j + 1) t v (by simpa using hj) (by simpa using hv)) h2
    refine ⟨x :: xs, ⟨x, xs, rfl, hx1, h3⟩, by simp [h4], fun j y hy => ?_⟩
    cases j with
    | zero => simp at hy; subst hy; simpa using hx2
    | succ j => simpa using h5 j y (by simpa using hy)

theorem trodAll_len : ∀ (ts : List Nat) (vs : List Value) (ds : List (DataW H)) (ps : List MemPlace), DataW.TrodAll enc P W 0 (fun _ => true) true ts vs ds ps → ds.length = ts.length
  | [], vs, ds, ps, h => by
    obtain ⟨rfl, rfl, rfl⟩ := trodAll_nil h
    rfl
  | t :: ts, vs, ds, ps, h => by
    obtain ⟨v, vs', d, ds', p, q, rfl, rfl, rfl, h1, h2⟩ := trodAll_cons h
    simp [trodAll_len ts _ _ _ h2]

theorem trodAll_stays (hl : laidOutB P = true) {W' : World} {sp : Nat → Bool} : ∀ (ts : List Nat) (vs : List Value) (ds : List (DataW H)) (ps : List MemPlace), (∀ t ∈ ts, P.readableRec t = true ∧ t < P.types.size) → (∀ p ∈ ps, W.sameAt W' p) → (∀ p ∈ ps, sp p.block = true) →
    DataW.TrodAll enc P W 0 (fun _ => true) true ts vs ds ps → DataW.TrodAll enc P W' 0 sp true ts vs ds ps
  | [], vs, ds, ps, _, _, _, h => by
    obtain ⟨rfl, rfl, rfl⟩ := trodAll_nil h
    exact rfl
  | t :: ts, vs, ds, ps, hr, hs, hsp, h => by
    obtain ⟨v, vs', d, ds', p, q, rfl, rfl, rfl, h1, h2⟩ := trodAll_cons h
    exact ⟨p, q, WideElems.Trod_stays hl (hr t (by simp)).1 (hr t (by simp)).2 h1 (fun x hx => hs x (by simp [hx])) (fun x hx => hsp x (by simp [hx])),
      trodAll_stays hl ts vs' ds' q (fun t ht => hr t (by simp [ht])) (fun x hx => hs x (by simp [hx])) (fun x hx => hsp x (by simp [hx])) h2, rfl⟩
end

/-- A LAW's ROW: from the contract that it tells true whatever the content. -/
theorem law_contract (hL : LOk P L) (hl : laidOutB P = true) {fn : Func} {f : Nat} {s : ChangeSpec} {ts : List Nat} {tb : Nat} {apart fresh handsOn again : Bool} (hts : fn.params.toList = ts) (hres : fn.resultTypes = #[tb]) (hb : P.underlying tb = some .bool) (hvars : s.vars = [])
    (hfn : ∀ (H : Type) (ds : List (DataW H)), ds.length = ts.length → s.fn H ds = { results := [.lit (.bool true)], args := ds }) (hread : ts.all (fun t => P.readableRec t && decide (t < P.types.size) && dataTy L 9 t) = true)
    (h : ∀ xs : List AVal, typedAll L ts xs → ACall P f xs [] fun r _ => r = .bool true)
    (H : Type) (enc : TypeId × Value → H) (W : World) (base : Nat) (args : Array Value) (ds gs : List (DataW H)) (before : List MemPlace)
    (hval : ∀ (j : Nat) t v, fn.params[j]? = some t → args[j]? = some v → Value.okWide P W .any base t v) (hW : DataW.Whole enc P fn.params.toList s.vars false W args.toList ds gs before) (hap : apart = false) (hT : GlobIn W) :
    Calls P f args W fun e W' => ∃ v, e = .returned v ∧ s.post enc P fn apart fresh handsOn again W args v W' := by
  subst hap
  have hW' := hW
  obtain ⟨p, q, hA, hV, hps, hfz, hnd⟩ := hW
  rw [hvars] at hV
  obtain ⟨rfl, rfl⟩ : gs = [] ∧ q = [] := by
    cases gs with
    | nil => exact ⟨rfl, hV⟩
    | cons => exact hV.elim
  simp only [List.append_nil] at hps
  subst hps
  have hr : ∀ t ∈ ts, (P.readableRec t = true ∧ t < P.types.size) ∧ dataTy L 9 t = true := by
    intro t ht
    have := List.all_eq_true.1 hread t ht
    simpa using this
  have hA' := hA
  rw [hts] at hA'
  have hlen := trodAll_len ts _ _ _ hA'
  obtain ⟨xs, h1, h2, h3⟩ := args_rep hL ts args.toList ds before (fun t ht => (hr t ht).2) (fun j t v hj hv => hval j t v (by rw [← hj, ← hts]; simp) (by rw [← hv]; simp)) hA'
  refine ((h xs h1).calls (baseG W) W args (baseG_wok hT) sto_nil ⟨by simpa using h2, fun j x hx => ?_⟩).mono fun e W' p => ?_
  · have := (h3 j x hx).up
    simpa [List.getD] using this
  · obtain ⟨G', cr, r, sto', rfl, hx', hw', _, hrep, rfl⟩ := p
    have hg := base_grown hx' hw'
    cases hrep
    have hsame : ∀ x ∈ before, W.sameAt W' x := by
      intro x hx
      have hlt := hW'.lt x hx
      have hold : W'.heap[x.block]? = W.heap[x.block]? := by
        have h1 : (baseG W).F x.block = some W.heap[x.block] := Array.getElem?_eq_getElem hlt
        have hlt' := hlt
        rw [hw'.F _ _ (hx'.F _ _ h1), Array.getElem?_eq_getElem hlt]
      cases x with
      | cell b off => simp only [World.sameAt, World.cell?]; simp only [MemPlace.block] at hold; rw [hold]
      | map b => exact hold
    refine ⟨_, rfl, post_old (pa := before) (pv := []) hW' (fun _ _ _ => ?_) (fun sp hsp => ?_) (fun _ _ => ?_) (by simp) (World.keptBut_mono (fun _ h => h.elim) hg.1) hg.2 (ok_one hres rfl (okWide_bool_mk hb true))⟩
    · rw [hfn H _ (by simpa using hlen), hres]
      exact trodAll_cons_mk (shut_bool hb true) trodAll_mk0
    · rw [hfn H _ (by simpa using hlen), hts]
      simp only [List.append_nil]
      exact trodAll_stays hl ts _ _ _ (fun t ht => (hr t ht).1) hsame hsp hA'
    · rw [hfn H _ (by simpa using hlen), hvars]; exact rfl
end Go.Rad
/- What an argument of a type is, by content. -/
namespace Go.Rad
open Go
theorem list_of {α : Type} {F : α → List AVal} {P : α → Prop} : ∀ {l : List (List AVal)}, (∀ y ∈ l, ∃ a, y = F a ∧ P a) → ∃ bs : List α, l = bs.map F ∧ ∀ a ∈ bs, P a
  | [], _ => ⟨[], rfl, fun a h => by simp at h⟩
  | y :: l, h => by
    obtain ⟨a, rfl, ha⟩ := h y (by simp)
    obtain ⟨bs, rfl, has⟩ := list_of (l := l) fun y hy => h y (by simp [hy])
    refine ⟨a :: bs, rfl, fun b hb => ?_⟩
    rcases List.mem_cons.1 hb with rfl | hb
    · exact ha
    · exact has b hb
section
variable {L : Lay} {k t : Nat} {y : List AVal}
theorem ty_int {i : IntKind} (ht : (L t).ty = .int i) (h : typed L (k + 1) t y) : ∃ n, y = [.int i n] ∧ fits i n := by
  unfold typed at h; rw [ht] at h; exact h
theorem ty_bool (ht : (L t).ty = .bool) (h : typed L (k + 1) t y) : ∃ b, y = [.bool b] := by
  unfold typed at h; rw [ht] at h; exact h
theorem ty_str (ht : (L t).ty = .string) (h : typed L (k + 1) t y) : ∃ s : ByteArray, y = [.str s] ∧ s.size ≤ maxLen := by
  unfold typed at h; rw [ht] at h; exact h
theorem ty_slice {e : Nat} (ht : (L t).ty = .slice e) (h : typed L (k + 1) t y) : ∃ l : List (List AVal), y = [.sl true false l] ∧ l.length ≤ maxLen ∧ ∀ x ∈ l, typed L k e x := by
  unfold typed at h; rw [ht] at h; exact h
theorem ty_struct {fs : List (Nat × Nat)} (ht : (L t).ty = .struct fs) (h : typed L (k + 1) t y) : typedL (typed L k) fs y := by
  unfold typed at h; rw [ht] at h; exact h
theorem ty_array {n e : Nat} (ht : (L t).ty = .array n e) (h : typed L (k + 1) t y) : typedN (typed L k e) n y := by
  unfold typed at h; rw [ht] at h; exact h
theorem ty_ints {e : Nat} (ht : (L t).ty = .slice e) (he : (L e).ty = .int .i64) (h : typed L (k + 2) t y) : ∃ l : List Int, y = [.sl true false (ints l)] ∧ l.length ≤ maxLen := by
  obtain ⟨l, rfl, hl, hx⟩ := ty_slice ht h
  obtain ⟨ns, rfl, _⟩ := list_of (F := fun n => [AVal.int .i64 n]) (P := fun _ => True) fun x hx' => by
    obtain ⟨n, rfl, _⟩ := ty_int he (hx x hx')
    exact ⟨n, rfl, trivial⟩
  exact ⟨ns, rfl, by simpa using hl⟩
theorem ty_set {e : Nat} (ht : (L t).ty = .array 4 e) (he : (L e).ty = .int .u64) (h : typed L (k + 2) t y) : ∃ s : ISet, y = s.cells := by
  have h := ty_array ht h
  obtain ⟨x1, r1, rfl, h1, x2, r2, rfl, h2, x3, r3, rfl, h3, x4, r4, rfl, h4, rfl⟩ := h
  obtain ⟨a, rfl, _⟩ := ty_int he h1
  obtain ⟨b, rfl, _⟩ := ty_int he h2
  obtain ⟨c, rfl, _⟩ := ty_int he h3
  obtain ⟨d, rfl, _⟩ := ty_int he h4
  exact ⟨⟨a, b, c, d⟩, rfl⟩
/-- The types of a node's parts. -/
structure NodeTy (L : Lay) (t : Nat) : Prop where
  ex : ∃ o st l i s w : Nat, (L t).ty = .struct [(0, o), (1, st), (5, l), (6, i), (7, i), (8, s)] ∧ (L o).ty = .int .u8 ∧ (L st).ty = .array 4 w ∧ (L w).ty = .int .u64 ∧ (L l).ty = .slice i ∧ (L i).ty = .int .i64 ∧ (L s).ty = .string
theorem ty_node (hn : NodeTy L t) (h : typed L (k + 3) t y) : ∃ n : Node, y = n.cells ∧ n.name.size ≤ maxLen ∧ n.l.length ≤ maxLen := by
  obtain ⟨o, st, l, i, s, w, h1, h2, h3, h4, h5, h6, h7⟩ := hn.ex
  have h := ty_struct h1 h
  obtain ⟨x1, r1, rfl, p1, x2, r2, rfl, p2, x3, r3, rfl, p3, x4, r4, rfl, p4, x5, r5, rfl, p5, x6, r6, rfl, p6, rfl⟩ := h
  obtain ⟨no, rfl, _⟩ := ty_int h2 p1
  obtain ⟨ns, rfl⟩ := ty_set h3 h4 p2
  obtain ⟨nl, rfl, hl⟩ := ty_ints h5 h6 p3
  obtain ⟨nlo, rfl, _⟩ := ty_int h6 p4
  obtain ⟨nhi, rfl, _⟩ := ty_int h6 p5
  obtain ⟨nn, rfl, hs⟩ := ty_str h7 p6
  exact ⟨⟨no, ns, nl, nlo, nhi, nn⟩, rfl, hs, hl⟩
theorem ty_nodes {e : Nat} (ht : (L t).ty = .slice e) (hn : NodeTy L e) (h : typed L (k + 4) t y) : ∃ l : List Node, y = [.sl true false (nodes l)] ∧ l.length ≤ maxLen ∧ ∀ n ∈ l, n.name.size ≤ maxLen ∧ n.l.length ≤ maxLen := by
  obtain ⟨l, rfl, hl, hx⟩ := ty_slice ht h
  obtain ⟨ns, rfl, hns⟩ := list_of (F := Node.cells) (P := fun n => n.name.size ≤ maxLen ∧ n.l.length ≤ maxLen) fun x hx' => ty_node hn (hx x hx')
  exact ⟨ns, rfl, by simpa using hl, hns⟩
structure DefTy (L : Lay) (t : Nat) : Prop where
  ex : ∃ s l n : Nat, (L t).ty = .struct [(0, s), (1, l)] ∧ (L s).ty = .string ∧ (L l).ty = .slice n ∧ NodeTy L n
theorem ty_defs {e : Nat} (ht : (L t).ty = .slice e) (hn : DefTy L e) (h : typed L (k + 6) t y) : ∃ l : List Df, y = [.sl true false (defs l)] ∧ l.length ≤ maxLen ∧ ∀ d ∈ l, d.name.size ≤ maxLen ∧ d.l.length ≤ maxLen ∧ ∀ n ∈ d.l, n.name.size ≤ maxLen ∧ n.l.length ≤ maxLen := by
  obtain ⟨s, ln, n, h1, h2, h3, h4⟩ := hn.ex
  obtain ⟨l, rfl, hl, hx⟩ := ty_slice ht h
  obtain ⟨ds, rfl, hds⟩ := list_of (F := Df.cells) (P := fun d => d.name.size ≤ maxLen ∧ d.l.length ≤ maxLen ∧ ∀ n ∈ d.l, n.name.size ≤ maxLen ∧ n.l.length ≤ maxLen) fun x hx' => by
    have h := ty_struct h1 (hx x hx')
    obtain ⟨x1, r1, rfl, p1, x2, r2, rfl, p2, rfl⟩ := h
    obtain ⟨nn, rfl, hs⟩ := ty_str h2 p1
    obtain ⟨dl, rfl, hd1, hd2⟩ := ty_nodes h3 h4 p2
    exact ⟨⟨nn, dl⟩, rfl, hs, hd1, hd2⟩
  exact ⟨ds, rfl, by simpa using hl, hds⟩
theorem ty_one (ha : (L t).ag = false) {x : AVal} (h : typedP L t x) : typed L 9 t [x] := by
  unfold typedP at h; rw [ha] at h; exact h
end
end Go.Rad
/- What the last texts of layer 8 share. -/
namespace Go.Rad
open Go Go.Proofs
theorem nodeT : NodeTy LL 42 := ⟨5, 35, 25, 3, 9, 33, rfl, rfl, rfl, rfl, rfl, rfl, rfl⟩
theorem ownF : ownKnob Try.prog.godebug = none := by kernel_rfl
theorem laidF : laidOutB Try.prog = true := by kernel_rfl
abbrev kks (i : IntKind) (l : List Int) : List (List AVal) := l.map fun n => [.int i n]
theorem ty_ks {L : Lay} {k t e : Nat} {y : List AVal} {i : IntKind} (ht : (L t).ty = .slice e) (he : (L e).ty = .int i) (h : typed L (k + 2) t y) : ∃ l : List Int, y = [.sl true false (kks i l)] ∧ l.length ≤ maxLen ∧ ∀ n ∈ l, fits i n := by
  obtain ⟨l, rfl, hl, hx⟩ := ty_slice ht h
  obtain ⟨ns, rfl, hf⟩ := list_of (F := fun n => [AVal.int i n]) (P := fun n => fits i n) fun x hx' => by
    obtain ⟨n, rfl, hf⟩ := ty_int he (hx x hx')
    exact ⟨n, rfl, hf⟩
  exact ⟨ns, rfl, by simpa using hl, hf⟩
end Go.Rad
