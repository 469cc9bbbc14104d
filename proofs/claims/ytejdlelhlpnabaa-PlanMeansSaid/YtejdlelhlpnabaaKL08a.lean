/- The statements of layer 8: PlanTells, PlanAgain. -/
import Derived.Test.YtejdlelhlpnabaaKP08f
import Derived.Test.YtejdlelhlpnabaaKP08l
import Derived.Test.YtejdlelhlpnabaaKRDefer
import Derived.Test.YtejdlelhlpnabaaKRRunC
set_option linter.all false
namespace Go.Rad
open Go Go.Proofs
set_option linter.all false
set_option maxRecDepth 20000
set_option maxHeartbeats 4000000

theorem few8uc (l : List Node) (hl : l.length ≤ maxLen) : ACall Try.prog 25 [.sl true false (nodes l)] [] fun r s => r = .sl true false (nodes (l.take 60)) ∧ s = [] := by
  unfold maxLen at hl
  by_cases h : l.length ≤ 60
  · have e1 : min (l.length : Int) 60 = l.length := by omega
    have e2 : (nodes l).take l.length = nodes (l.take 60) := by rw [List.take_of_length_le (by simp), List.take_of_length_le (by omega)]
    have e3 : (0 : Int) ≤ l.length := by omega
    refine ACall.enter Try.func25 rfl (by kernel_rfl) (Nat.le_of_ble_eq_true rfl) ?_; simp only [initTm, Nat.reduceAdd]
    repeat' (first
  | refine gSq ?_ | refine gSk ?_ | refine gBl ?_ | refine gIb ?_ | refine gEx rfl ?_
  | ((first
  | (refine gRg [] [0, 2] ?_; intro K hK)
  | (refine gd_split ?_ ?_ <;> intro hb <;> (try simp only [bls] at hb) <;> (try simp only [hb]))
  | refine gRt [] [.tmp 2] rfl ?_ | refine gDn [] [.tmp 2] rfl ?_) <;> (try simp only [go_sem, simprocAttr, e1, e2, e3, slFull, intArg, Bool.false_and]))
  | (refine hK _ _ ?_; clear hK K; simp only [go_sem, simprocAttr])
  | refine gCd (by simp only [go_sem, simprocAttr]; rfl) rfl ?_
  | refine brT ?_ | refine brF ?_
  | (refine brS ?_ ?_ <;> intro hc <;> (try simp only [bls] at hc) <;> (try simp only [hc, bls]))
  | intro _ | refine And.intro ?_ ?_)
    all_goals first | omega | (unfold bigLen; omega) | exact ⟨_, _, ⟨rfl, rfl⟩, rfl⟩ | exact ⟨_, rfl⟩ | (rename_i hy; simp only [List.mem_singleton] at hy; subst hy; rfl) | with_reducible rfl | skip
    all_goals exact .inl trivial
  · have e1 : min (l.length : Int) 60 = 60 := by omega
    have e2 : (nodes l).take 60 = nodes (l.take 60) := by simp
    have e3 : 60 ≤ l.length := by omega
    refine ACall.enter Try.func25 rfl (by kernel_rfl) (Nat.le_of_ble_eq_true rfl) ?_; simp only [initTm, Nat.reduceAdd]
    repeat' (first
  | refine gSq ?_ | refine gSk ?_ | refine gBl ?_ | refine gIb ?_ | refine gEx rfl ?_
  | ((first
  | (refine gRg [] [0, 2] ?_; intro K hK)
  | (refine gd_split ?_ ?_ <;> intro hb <;> (try simp only [bls] at hb) <;> (try simp only [hb]))
  | refine gRt [] [.tmp 2] rfl ?_ | refine gDn [] [.tmp 2] rfl ?_) <;> (try simp only [go_sem, simprocAttr, e1, e2, e3, slFull, intArg, Bool.false_and]))
  | (refine hK _ _ ?_; clear hK K; simp only [go_sem, simprocAttr])
  | refine gCd (by simp only [go_sem, simprocAttr]; rfl) rfl ?_
  | refine brT ?_ | refine brF ?_
  | (refine brS ?_ ?_ <;> intro hc <;> (try simp only [bls] at hc) <;> (try simp only [hc, bls]))
  | intro _ | refine And.intro ?_ ?_)
    all_goals first | omega | (unfold bigLen; omega) | exact ⟨_, _, ⟨rfl, rfl⟩, rfl⟩ | exact ⟨_, rfl⟩ | (rename_i hy; simp only [List.mem_singleton] at hy; subst hy; rfl) | with_reducible rfl | skip
    all_goals exact .inl trivial
theorem few_nd {l : List Node} (h : ∀ n ∈ l, n.name.size ≤ maxLen ∧ n.l.length ≤ maxLen) (k : Nat) : ndOk (l.take k) := fun n hn => h n (List.mem_of_mem_take hn)
theorem swap_nd {l : List Node} (h : ndOk l) : ∀ n ∈ l, n.l.length ≤ maxLen ∧ n.name.size ≤ maxLen := fun n hn => (h n hn).symm
theorem rcount2uc (f : Bool) (l : List Node) (hlen : l.length ≤ maxLen) (hl : ndOk l) : ACall Try.prog 30 [.sl true f (nodes l)] [] fun r s => r = .int .i64 (countedP l) ∧ s = [] := by
  have h := rcount_c f l hlen (swap_nd hl)
  unfold cntQ at h
  rw [counted_eq] at h
  exact h
theorem planTells_c (l : List Node) (most : Int) (hl : l.length ≤ maxLen) (hn : ∀ n ∈ l, n.name.size ≤ maxLen ∧ n.l.length ≤ maxLen) :
    ACall Try.prog 9 [.sl true false (nodes l), .int .i64 most] [] fun r _ => r = .bool true := by
  have hf := few8uc l hl
  have hx := few_nd hn 60
  have hxl : (l.take 60).length ≤ maxLen := by rw [List.length_take]; unfold maxLen; omega
  generalize l.take 60 = x at hf hx hxl
  have ha := ptree_c true false x most hx
  have hb := rtree_c false x most hxl (swap_nd hx) (fun h1 hm h2 => planR_nd h1 hm h2)
  rw [plan_eq] at hb
  obtain ⟨n1, n2⟩ := planS_nd x most
  have hr1 := pright_c true false x hx
  have hr2 := rright_c false x hxl (swap_nd hx)
  have hc1 := pcount_c true false x hx
  have hc2 := rcount2uc false x hxl hx
  generalize planS x most = a at ha hb n1 n2
  have hs := same4uc true (flS a.2) true (flS a.2) a.1 a.1 (by omega) (fun n hn => (n1 n hn).2)
  rw [decide_eq_true rfl] at hs
  have hd1 := pcount_c true (flS a.2) a.1 n1
  have hd2 := rcount2uc (flS a.2) a.1 (by unfold maxLen; omega) n1
  refine ACall.enter Try.func9 rfl (by kernel_rfl) (Nat.le_of_ble_eq_true rfl) ?_; simp only [initTm, Nat.reduceAdd]
  repeat' (first
  | refine gSq ?_ | refine gSk ?_ | refine gBl ?_ | refine gIb ?_ | refine gEx rfl ?_
  | ((first
  | (refine gRg [] [0, 1, 4, 5, 6, 7, 8] ?_; intro K hK)
  | refine cAl (shown8uc) rfl rfl rfl ?_
  | refine cAl (hf) rfl rfl rfl ?_
  | refine cAl (ha) rfl rfl rfl ?_
  | refine cAl (hb) rfl rfl rfl ?_
  | refine cAl (hr1) rfl rfl rfl ?_
  | refine cAl (hr2) rfl rfl rfl ?_
  | refine cAl (hc1) rfl rfl rfl ?_
  | refine cAl (hc2) rfl rfl rfl ?_
  | refine cAl (hs) rfl rfl rfl ?_
  | refine cAl (hd1) rfl rfl rfl ?_
  | refine cAl (hd2) rfl rfl rfl ?_
  | (refine gd_split ?_ ?_ <;> intro hb <;> (try simp only [bls] at hb) <;> (try simp only [hb]))
  | refine gRt [] [.tmp 4] rfl ?_ | refine gDn [] [.tmp 4] rfl ?_) <;> (try simp only [go_sem, simprocAttr, eq_self, beq_self_eq_true]))
  | (refine hK _ _ ?_; clear hK K; simp only [go_sem, simprocAttr])
  | refine gCd (by simp only [go_sem, simprocAttr]; rfl) rfl ?_
  | refine brT ?_ | refine brF ?_
  | (refine brS ?_ ?_ <;> intro hc <;> (try simp only [bls] at hc) <;> (try simp only [hc, bls]))
  | intro _ | refine And.intro ?_ ?_)
  all_goals first | omega | (unfold bigLen; omega) | exact ⟨_, _, ⟨rfl, rfl⟩, rfl⟩ | exact ⟨_, rfl⟩ | (rename_i hy; simp only [List.mem_singleton] at hy; subst hy; rfl) | with_reducible rfl | skip
theorem fits_u16 {n : Int} (h : fits .u16 n) : 0 ≤ n ∧ n ≤ 65535 := by
  have m1 : IntKind.u16.min = 0 := by kernel_rfl
  have m2 : IntKind.u16.max = 65535 := by kernel_rfl
  obtain ⟨a, b⟩ := h
  rw [m1] at a
  rw [m2] at b
  exact ⟨a, b⟩
theorem mod4096 {n : Int} (h : 0 ≤ n ∧ n ≤ 65535) : n.tmod 4096 = ((n.toNat % 4096 : Nat) : Int) ∧ IntKind.i64.wrap ((n.toNat % 4096 : Nat) : Int) = ((n.toNat % 4096 : Nat) : Int) := by
  obtain ⟨m, rfl⟩ : ∃ m : Nat, n = m := ⟨n.toNat, by omega⟩
  rw [Int.toNat_natCast]
  exact ⟨tmod_nat m 4096, wr_i64n (by omega)⟩
theorem planAgain_c (l : List Node) (most : Int) (hm : fits .u16 most) (hl : l.length ≤ maxLen) (hn : ∀ n ∈ l, n.name.size ≤ maxLen ∧ n.l.length ≤ maxLen) :
    ACall Try.prog 7 [.sl true false (nodes l), .int .u16 most] [] fun r _ => r = .bool true := by
  have hf := few8uc l hl
  have hx := few_nd hn 60
  generalize l.take 60 = x at hf hx
  obtain ⟨m1, m2⟩ := mod4096 (fits_u16 hm)
  obtain ⟨m, hmm⟩ : ∃ m : Nat, m = most.toNat % 4096 := ⟨_, rfl⟩
  rw [← hmm] at m1 m2
  have hm3 : m < 4096 := by omega
  have m4 : (m : Int) + 1 = ((m + 1 : Nat) : Int) := by omega
  have ha := ptree_c true false x (m + 1 : Nat) hx
  obtain ⟨n1, n2⟩ := planS_nd x (m + 1 : Nat)
  have hag : (planS x (m + 1 : Nat)).2 = 0 → planS (planS x (m + 1 : Nat)).1 (m + 1 : Nat) = ((planS x (m + 1 : Nat)).1, 0) := by
    intro h0
    rcases planS_tree x (m + 1 : Nat) with ⟨e, _⟩ | ⟨_, hm, f, a, _, b, c, d, e⟩
    · rw [e] at h0; cases h0
    · rw [e] at h0 ⊢
      split at h0
      · rename_i hz
        rw [if_pos hz]
        have hg := plan_good hm.1 b d (most := (m + 1 : Nat))
        have := plan_tells (f := f.planT (m + 1 : Nat)) (by rw [Fo.planT_deg]; exact a) (good_shape hg).1 hz (good_shape hg).2 hm
        rw [plan_again hm.1 hg, if_pos hz] at this
        exact this
      · cases h0
  have hb := ptree_c true (flS (planS x (m + 1 : Nat)).2) (planS x (m + 1 : Nat)).1 (m + 1 : Nat) n1
  by_cases h0 : (planS x (m + 1 : Nat)).2 = 0
  · rw [hag h0] at hb
    generalize planS x (m + 1 : Nat) = a at ha hb n1 n2 h0
    rw [h0] at ha hb
    have hs := same4uc true false true false a.1 a.1 (by omega) (fun n hn => (n1 n hn).2)
    rw [decide_eq_true rfl] at hs
    simp only [flS_0] at ha hb
    refine ACall.enter Try.func7 rfl (by kernel_rfl) (Nat.le_of_ble_eq_true rfl) ?_; simp only [initTm, Nat.reduceAdd]
    repeat' (first
  | refine gSq ?_ | refine gSk ?_ | refine gBl ?_ | refine gIb ?_ | refine gEx rfl ?_
  | ((first
  | (refine gRg [] [0, 1, 4, 5, 6, 7, 8, 9, 10, 24] ?_; intro K hK)
  | refine cAl (shown8uc) rfl rfl rfl ?_
  | refine cAl (hf) rfl rfl rfl ?_
  | refine cAl (ha) rfl rfl rfl ?_
  | refine cAl (hb) rfl rfl rfl ?_
  | refine cAl (hs) rfl rfl rfl ?_
  | (refine gd_split ?_ ?_ <;> intro hb <;> (try simp only [bls] at hb) <;> (try simp only [hb]))
  | refine gRt [] [.tmp 4] rfl ?_ | refine gDn [] [.tmp 4] rfl ?_) <;> (try simp only [go_sem, simprocAttr, m1, m2, m4, eq_self]))
  | (refine hK _ _ ?_; clear hK K; simp only [go_sem, simprocAttr])
  | refine gCd (by simp only [go_sem, simprocAttr]; rfl) rfl ?_
  | refine brT ?_ | refine brF ?_
  | (refine brS ?_ ?_ <;> intro hc <;> (try simp only [bls] at hc) <;> (try simp only [hc, bls]))
  | intro _ | refine And.intro ?_ ?_)
    all_goals first | omega | (unfold bigLen; omega) | exact ⟨_, _, ⟨rfl, rfl⟩, rfl⟩ | exact ⟨_, rfl⟩ | (rename_i hy; simp only [List.mem_singleton] at hy; subst hy; rfl) | with_reducible rfl | skip
  · generalize planS x (m + 1 : Nat) = a at ha n1 n2 h0
    refine ACall.enter Try.func7 rfl (by kernel_rfl) (Nat.le_of_ble_eq_true rfl) ?_; simp only [initTm, Nat.reduceAdd]
    repeat' (first
  | refine gSq ?_ | refine gSk ?_ | refine gBl ?_ | refine gIb ?_ | refine gEx rfl ?_
  | ((first
  | (refine gRg [] [0, 1, 4, 5, 6, 7, 8, 9, 10, 24] ?_; intro K hK)
  | refine cAl (shown8uc) rfl rfl rfl ?_
  | refine cAl (hf) rfl rfl rfl ?_
  | refine cAl (ha) rfl rfl rfl ?_
  | (refine gd_split ?_ ?_ <;> intro hb <;> (try simp only [bls] at hb) <;> (try simp only [hb]))
  | refine gRt [] [.tmp 4] rfl ?_ | refine gDn [] [.tmp 4] rfl ?_) <;> (try simp only [go_sem, simprocAttr, m1, m2, m4, h0, eq_self]))
  | (refine hK _ _ ?_; clear hK K; simp only [go_sem, simprocAttr])
  | refine gCd (by simp only [go_sem, simprocAttr]; rfl) rfl ?_
  | refine brT ?_ | refine brF ?_
  | (refine brS ?_ ?_ <;> intro hc <;> (try simp only [bls] at hc) <;> (try simp only [hc, bls]))
  | intro _ | refine And.intro ?_ ?_)
    all_goals first | omega | (unfold bigLen; omega) | exact ⟨_, _, ⟨rfl, rfl⟩, rfl⟩ | exact ⟨_, rfl⟩ | (rename_i hy; simp only [List.mem_singleton] at hy; subst hy; rfl) | with_reducible rfl | skip
end Go.Rad
/- How many nodes what is written out has, and how much is counted there. -/
namespace Go.Rad
open Go Fo
namespace Fo
def cL (b : Lb) : Bool := decide (b.op = 5 ∧ ¬ (b.lo = 0 ∧ b.hi = -1))
def cnt (f : Fo) : Nat := f.labels.countP cL
theorem cnt_app (f g : Fo) : (f.app g).cnt = f.cnt + g.cnt := by simp only [cnt, labels_app, List.countP_append]
theorem cnt_one (b : Lb) (k : Fo) : (one b k).cnt = k.cnt + (if cL b = true then 1 else 0) := by
  simp only [cnt, labels, List.countP_append, List.countP_cons, List.countP_nil, Nat.zero_add]
theorem cnt_nil : Fo.nil.cnt = 0 := rfl
theorem cL_op {op : Int} (h : op ≠ 5) : cL (opL op) = false := by simp [cL, opL, h]
theorem cL_star : cL (repL 0 (-1)) = false := by decide
theorem cL_rep {lo hi : Int} (h : hi ≠ -1) : cL (repL lo hi) = true := by simp [cL, repL, h]
theorem size_one (b : Lb) (k : Fo) : (one b k).size = k.size + 1 := by simp only [size, Nat.add_zero]
theorem copies_size (p : Fo) : ∀ n, (copies p n).size = n * p.size
  | 0 => by simp [copies, size]
  | n + 1 => by simp only [copies, size_app, copies_size p n, Nat.succ_mul]; omega
theorem copies_cnt (p : Fo) : ∀ n, (copies p n).cnt = n * p.cnt
  | 0 => by simp [copies, cnt_nil]
  | n + 1 => by simp only [copies, cnt_app, copies_cnt p n, Nat.succ_mul]; omega
theorem rest_size (p : Fo) : ∀ m, (restT p (m + 1)).size = (m + 1) * (p.size + 2) + m
  | 0 => by simp only [restT, if_true, size_one, size_app, size]; omega
  | m + 1 => by
    rw [restT, if_neg (by omega)]
    simp only [size_one, size_app, rest_size p m, size]
    rw [Nat.succ_mul (m + 1)]; omega
theorem rest_cnt (p : Fo) : ∀ m, (restT p (m + 1)).cnt = (m + 1) * p.cnt
  | 0 => by simp only [restT, if_true, cnt_one, cnt_app, cnt_nil, cL_op (show (4 : Int) ≠ 5 by decide), cL_op (show (1 : Int) ≠ 5 by decide), Bool.false_eq_true, if_false]; omega
  | m + 1 => by
    rw [restT, if_neg (by omega)]
    simp only [cnt_one, cnt_app, cnt_nil, rest_cnt p m, cL_op (show (4 : Int) ≠ 5 by decide), cL_op (show (3 : Int) ≠ 5 by decide), cL_op (show (1 : Int) ≠ 5 by decide), Bool.false_eq_true, if_false]
    rw [Nat.succ_mul (m + 1)]; omega
theorem row_cnt {p : Fo} (hp : p.cnt = 0) (lo hi : Int) : (p.rowT lo hi).cnt = 0 := by
  have h : (rowOf p lo hi).cnt = 0 := by
    simp only [rowOf, cnt_app, copies_cnt, hp]
    split
    · simp only [starT, cnt_one, hp, cL_star]; simp
    · split
      · obtain ⟨m, hm⟩ : ∃ m, (hi - lo).toNat = m + 1 := ⟨(hi - lo).toNat - 1, by omega⟩
        rw [hm, rest_cnt, hp]; simp
      · simp [cnt_nil]
  unfold rowT catT
  split
  · exact h
  · rw [cnt_one, h, cL_op (by decide)]; rfl
theorem row_size {p : Fo} (hd : p.deg = 1) (lo : Nat) (hi : Int) : (p.rowT lo hi).size = lo * p.size + (if hi = -1 then p.size + 1 else if (lo : Int) < hi then ((hi - lo).toNat) * (p.size + 2) + ((hi - lo).toNat - 1) else 0) + (if lo + (if hi = -1 then 1 else if (lo : Int) < hi then 1 else 0) = 1 then 0 else 1) := by
  have h1 : (rowOf p lo hi).size = lo * p.size + (if hi = -1 then p.size + 1 else if (lo : Int) < hi then ((hi - lo).toNat) * (p.size + 2) + ((hi - lo).toNat - 1) else 0) := by
    simp only [rowOf, size_app, copies_size, Int.toNat_natCast]
    split
    · simp only [starT, size_one]
    · split
      · obtain ⟨m, hm⟩ : ∃ m, (hi - lo).toNat = m + 1 := ⟨(hi - lo).toNat - 1, by omega⟩
        rw [hm, rest_size]; rfl
      · rfl
  have h2 : (rowOf p lo hi).deg = lo + (if hi = -1 then 1 else if (lo : Int) < hi then 1 else 0) := by
    simp only [rowOf, deg_app, copies_deg hd, Int.toNat_natCast]
    split
    · rfl
    · split
      · obtain ⟨m, hm⟩ : ∃ m, (hi - lo).toNat = m + 1 := ⟨(hi - lo).toNat - 1, by omega⟩
        rw [hm]; rfl
      · rfl
  unfold rowT catT
  by_cases hq : (rowOf p lo hi).deg = 1
  · rw [if_pos hq, h1]
    rw [h2] at hq
    rw [if_pos hq]; exact (Nat.add_zero _).symm
  · rw [if_neg hq, size_one, h1]
    rw [h2] at hq
    rw [if_neg hq]
end Fo
/-- How much is counted, by labels. -/
theorem counted_cnt {f : Fo} (h : rightP (f.lay 0) = true) : countedP (f.lay 0) = f.cnt := by
  rw [countedP, if_pos h, cnt, ← lay_labels f 0, List.countP_map]
  rfl
/-- The plan of a tree that is plain: a forest. -/
theorem planS_fo {f : Fo} {most : Int} (hd : f.deg = 1) (hs : f.shapeF = true) (hz : f.size ≤ 1024) (h6 : no6 f = true) (hm : 1 ≤ most ∧ most ≤ 4096) (hp : (f.planT most).size ≤ 1024) :
    planS (f.lay 0) most = ((f.planT most).lay 0, 0) ∧ rightP ((f.planT most).lay 0) = true ∧ countedP ((f.planT most).lay 0) = (f.planT most).cnt ∧ ((f.planT most).lay 0).length = (f.planT most).size := by
  have e := plan_tells hd hs hz h6 hm
  rw [if_pos hp] at e
  have hr := plan_right (l := f.lay 0) (most := most) (by rw [e])
  rw [e] at hr
  exact ⟨e, hr, counted_cnt hr, lay_len _ _⟩

abbrev byL (a : Int) : Lb := ⟨2, ⟨a, 0, 0, 0⟩, 0, 0, ByteArray.empty⟩
abbrev oneF (a b : Int) : Fo := one (repL a b) (one (byL 2) .nil)
theorem oneF_lay (a b : Int) : (oneF a b).lay 0 = [⟨2, ⟨2, 0, 0, 0⟩, [], 0, 0, ByteArray.empty⟩, repNd a b 0] := by
  simp [oneF, lay, roots, size, byL, repL, Lb.node]
theorem shapeL_repL {lo hi : Int} (h1 : 0 ≤ lo ∧ lo ≤ 4096) (h2 : hi = -1 ∨ 1 ≤ hi ∧ hi ≤ 4096 ∧ lo ≤ hi) : shapeL (repL lo hi) 1 = true := by
  simp [shapeL, shapeOk, repL, h1.1, h1.2, h2]
theorem oneF_ok {a b : Int} (h1 : 0 ≤ a ∧ a ≤ b) (h2 : 1 ≤ b ∧ b ≤ 4096) : (oneF a b).deg = 1 ∧ (oneF a b).shapeF = true ∧ (oneF a b).size ≤ 1024 ∧ no6 (oneF a b) = true := by
  refine ⟨rfl, ?_, by simp [size], ?_⟩
  · simp only [shapeF, all, Bool.and_true, deg, Nat.zero_add, Bool.and_eq_true]
    exact ⟨shapeL_repL (by omega) (by omega), by decide⟩
  · simp [no6, all, repL, byL]
theorem none_law {a b : Nat} (h1 : a ≤ b) (h2 : 1 ≤ b ∧ b ≤ 30) :
    (∃ x, planS [⟨2, ⟨2, 0, 0, 0⟩, [], 0, 0, ByteArray.empty⟩, repNd a b 0] 4096 = (x, 0) ∧ rightP x = true ∧ countedP x = 0 ∧ x.length ≤ 1024) ∧
    ∃ y, planS [⟨2, ⟨2, 0, 0, 0⟩, [], 0, 0, ByteArray.empty⟩, repNd a b 0] 1 = (y, 0) ∧ rightP y = true ∧ countedP y = (if 1 < b then 1 else 0) ∧ y.length ≤ 4 := by
  obtain ⟨o1, o2, o3, o4⟩ := oneF_ok (a := a) (b := b) (by omega) (by omega)
  have hp : ∀ most, (oneF a b).planT most = repT most a b true (one (byL 2) .nil) := by
    intro most
    simp only [oneF, planT, repL, byL, if_true, isBytes, decide_true, show ¬ (2 : Int) = 5 by decide, if_false, app_nil, Lb.bare]
  have hc0 : (one (byL 2) Fo.nil).cnt = 0 := rfl
  have hb : ¬ ((b : Int) = -1) := by omega
  rw [← oneF_lay]
  constructor
  · have e : (oneF a b).planT 4096 = (one (byL 2) Fo.nil).rowT a b := by
      rw [hp, repT, if_neg (by decide), if_neg (by omega), if_neg (fun h => hb h.1)]
    have hz : ((oneF a b).planT 4096).size ≤ 1024 := by
      rw [e, row_size rfl]
      rw [if_neg hb]
      simp only [size]
      split <;> split <;> omega
    obtain ⟨q1, q2, q3, q4⟩ := planS_fo o1 o2 o3 o4 (by decide : (1 : Int) ≤ 4096 ∧ (4096 : Int) ≤ 4096) hz
    exact ⟨_, q1, q2, by rw [q3, e, row_cnt hc0], by rw [q4]; exact hz⟩
  · by_cases hb1 : 1 < b
    · have hb2 : (1 : Int) < b := by omega
      by_cases ha : 0 < a
      · have e : (oneF a b).planT 1 = one (repL a b) (one (byL 2) .nil) := by
          rw [hp, repT, if_neg (by decide), if_pos hb2, if_pos (by omega)]
        obtain ⟨q1, q2, q3, q4⟩ := planS_fo o1 o2 o3 o4 (by decide : (1 : Int) ≤ 1 ∧ (1 : Int) ≤ 4096) (by rw [e]; simp [size])
        refine ⟨_, q1, q2, ?_, by rw [q4, e]; simp [size]⟩
        rw [q3, e, cnt_one, hc0, cL_rep hb, if_pos hb1]; rfl
      · have e : (oneF a b).planT 1 = one (opL 4) ((one (opL 1) .nil).app (one (repL 1 b) (one (byL 2) .nil))) := by
          rw [hp, repT, if_neg (by decide), if_pos hb2, if_neg (by omega)]
        obtain ⟨q1, q2, q3, q4⟩ := planS_fo o1 o2 o3 o4 (by decide : (1 : Int) ≤ 1 ∧ (1 : Int) ≤ 4096) (by rw [e]; simp [size, app])
        refine ⟨_, q1, q2, ?_, by rw [q4, e]; simp [size, app]⟩
        rw [q3, e, cnt_one, cnt_app, cnt_one, cnt_one, hc0, cL_rep hb, if_pos hb1, cL_op (by decide), cL_op (by decide)]; rfl
    · have e : (oneF a b).planT 1 = (one (byL 2) Fo.nil).rowT a b := by
        rw [hp, repT, if_neg (by decide), if_neg (by omega), if_neg (fun h => hb h.1)]
      have hz : ((oneF a b).planT 1).size ≤ 4 := by
        rw [e, row_size rfl]
        rw [if_neg hb]
        simp only [size]
        split <;> split <;> omega
      obtain ⟨q1, q2, q3, q4⟩ := planS_fo o1 o2 o3 o4 (by decide : (1 : Int) ≤ 1 ∧ (1 : Int) ≤ 4096) (by omega)
      refine ⟨_, q1, q2, ?_, by rw [q4]; exact hz⟩
      rw [q3, e, row_cnt hc0, if_neg hb1]

/-! Two bytes in a row. -/
abbrev twoP : Fo := one (opL 3) ((one (byL 2) .nil).app (one (byL 4) .nil))
abbrev twoF (a b : Int) : Fo := one (repL a b) twoP
theorem twoF_lay (a b : Int) : (twoF a b).lay 0 = [⟨2, ⟨2, 0, 0, 0⟩, [], 0, 0, ByteArray.empty⟩, ⟨2, ⟨4, 0, 0, 0⟩, [], 0, 0, ByteArray.empty⟩, opNd 3 [0, 1], repNd a b 2] := by
  simp [twoF, twoP, lay, roots, size, byL, repL, opL, app, Lb.node]
theorem copies_law {a : Nat} {b : Int} (h1 : a ≤ 30) (h2 : b = -1 ∨ 1 ≤ b ∧ b ≤ 90 ∧ (a : Int) ≤ b) :
    ∃ x, planS [⟨2, ⟨2, 0, 0, 0⟩, [], 0, 0, ByteArray.empty⟩, ⟨2, ⟨4, 0, 0, 0⟩, [], 0, 0, ByteArray.empty⟩, opNd 3 [0, 1], repNd a b 2] 5 = (x, 0) ∧ (∀ n ∈ x, n.name.size ≤ maxLen ∧ n.l.length ≤ maxLen) ∧ countedP x = 0 ∧ x.length ≤ 1024 ∧
      x.length = 3 * a + (if b = -1 then 4 else if (a : Int) < b then ((b - a).toNat) * 5 + ((b - a).toNat - 1) else 0) + (if a + (if b = -1 then 1 else if (a : Int) < b then 1 else 0) = 1 then 0 else 1) := by
  have o2 : (twoF a b).shapeF = true := by
    simp only [twoF, twoP, app, shapeF, all, Bool.and_true, deg, Nat.zero_add, Bool.and_eq_true]
    exact ⟨shapeL_repL (by omega) (by omega), by decide⟩
  have o4 : no6 (twoF a b) = true := by simp [no6, all, repL, byL, opL, app]
  have e : (twoF a b).planT 5 = twoP.rowT a b := by
    simp only [twoF, twoP, app, planT, repL, byL, opL, if_true, isBytes, show ¬ (2 : Int) = 5 by decide, show ¬ (3 : Int) = 5 by decide, if_false, app_nil, Lb.bare]
    rfl
  have hs := row_size (p := twoP) rfl a b
  have ht : twoP.size = 3 := rfl
  rw [ht] at hs
  have hz : ((twoF a b).planT 5).size ≤ 1024 := by
    rw [e, hs]
    split <;> (try split) <;> (try split) <;> omega
  obtain ⟨q1, q2, q3, q4⟩ := planS_fo (f := twoF a b) rfl o2 (by simp [size, app]) o4 (by decide : (1 : Int) ≤ 5 ∧ (5 : Int) ≤ 4096) hz
  rw [← twoF_lay]
  refine ⟨_, q1, ?_, by rw [q3, e, row_cnt rfl], by rw [q4]; exact hz, by rw [q4, e, hs, Nat.mul_comm]⟩
  rw [rightP, Bool.and_eq_true] at q2
  exact (plainS_nd q2.1).1
end Go.Rad
/- The statements of layer 8: PlanNone, PlanCopies. -/
namespace Go.Rad
open Go Go.Proofs
set_option linter.all false
set_option maxRecDepth 20000
set_option maxHeartbeats 4000000

theorem fits_u8 {n : Int} (h : fits .u8 n) : ∃ m : Nat, n = m ∧ m ≤ 255 := by
  have m1 : IntKind.u8.min = 0 := by kernel_rfl
  have m2 : IntKind.u8.max = 255 := by kernel_rfl
  obtain ⟨a, b⟩ := h
  rw [m1] at a
  rw [m2] at b
  exact ⟨n.toNat, by omega, by omega⟩
theorem modN (m k : Nat) (hm : m ≤ 255) : IntKind.i64.wrap ((m % k : Nat) : Int) = ((m % k : Nat) : Int) := wr_i64n (by have := Nat.mod_le m k; omega)
theorem rep_nd (lo hi k : Int) : (repNd lo hi k).name.size ≤ maxLen ∧ (repNd lo hi k).l.length ≤ maxLen := ⟨by show ByteArray.empty.size ≤ maxLen; decide, by show 1 ≤ maxLen; decide⟩
theorem planNone_c (lo hi : Int) (hlo : fits .u8 lo) (hhi : fits .u8 hi) : ACall Try.prog 11 [.int .u8 lo, .int .u8 hi] [] fun r _ => r = .bool true := by
  obtain ⟨p, rfl, hp⟩ := fits_u8 hlo
  obtain ⟨q, rfl, hq⟩ := fits_u8 hhi
  have a1 := tmod_nat p 31
  have a2 := tmod_nat q 30
  have a3 := modN p 31 hp
  have a4 := modN q 30 hq
  simp only [Int.cast_ofNat_Int] at a1 a2
  have b1 : p % 31 < 31 := Nat.mod_lt _ (by decide)
  have b2 : q % 30 < 30 := Nat.mod_lt _ (by decide)
  generalize p % 31 = a at a1 a3 b1
  generalize q % 30 = b at a2 a4 b2
  have c1 : (b : Int) + 1 = ((b + 1 : Nat) : Int) := by omega
  have c2 : min (a : Int) ((b + 1 : Nat) : Int) = ((min a (b + 1) : Nat) : Int) := by omega
  obtain ⟨⟨x, x1, x2, x3, x4⟩, y, y1, y2, y3, y4⟩ := none_law (a := min a (b + 1)) (b := b + 1) (Nat.min_le_right _ _) (by omega)
  have hnd : ndOk [⟨2, ⟨2, 0, 0, 0⟩, [], 0, 0, ByteArray.empty⟩, repNd ((min a (b + 1) : Nat) : Int) ((b + 1 : Nat) : Int) 0] := by
    intro n hn
    simp only [List.mem_cons, List.not_mem_nil, or_false] at hn
    rcases hn with rfl | rfl
    · exact ⟨by decide, by decide⟩
    · exact rep_nd _ _ _
  have ht := fun most => ptree_c true false _ most hnd
  have ht1 := ht 4096
  have ht2 := ht 1
  rw [x1] at ht1
  rw [y1] at ht2
  simp only [flS_0] at ht1 ht2
  clear ht hnd x1 y1
  have nx : ndOk x := by rw [rightP, Bool.and_eq_true] at x2; exact (plainS_nd x2.1).1
  have ny : ndOk y := by rw [rightP, Bool.and_eq_true] at y2; exact (plainS_nd y2.1).1
  have hc1 := pcount_c true false x nx
  have hc2 := pcount_c true false y ny
  have hr1 := pright_c true false x nx
  have hr2 := pright_c true false y ny
  rw [x3] at hc1
  rw [y3] at hc2
  rw [x2] at hr1
  rw [y2] at hr2
  have c4 : (y.length : Int) ≤ 4 := by omega
  by_cases h1 : 1 < b + 1
  · have c3 : (1 : Int) < ((b + 1 : Nat) : Int) := by omega
    rw [if_pos h1] at hc2
    refine ACall.enter Try.func11 rfl (by kernel_rfl) (Nat.le_of_ble_eq_true rfl) ?_; simp only [initTm, Nat.reduceAdd]
    repeat' (first
  | refine gSq ?_ | refine gSk ?_ | refine gBl ?_ | refine gIb ?_ | refine gEx rfl ?_
  | ((first
  | (refine gRg [26, 30] [0, 1, 4, 5, 6, 7, 8, 9, 10, 11, 12, 13, 42] ?_; intro K hK)
  | refine cAl (shown8uc) rfl rfl rfl ?_
  | refine cAl (ht1) rfl rfl rfl ?_
  | refine cAl (ht2) rfl rfl rfl ?_
  | refine cAl (hc1) rfl rfl rfl ?_
  | refine cAl (hc2) rfl rfl rfl ?_
  | refine cAl (hr1) rfl rfl rfl ?_
  | refine cAl (hr2) rfl rfl rfl ?_
  | (refine gd_split ?_ ?_ <;> intro hb <;> (try simp only [bls] at hb) <;> (try simp only [hb]))
  | refine gRt [] [.tmp 4] rfl ?_ | refine gDn [] [.tmp 4] rfl ?_) <;> (try simp only [go_sem, simprocAttr, a1, a2, a3, a4, c1, c2, c3, c4, eq_self]))
  | (refine hK _ _ ?_; clear hK K; simp only [go_sem, simprocAttr])
  | refine gCd (by simp only [go_sem, simprocAttr]; rfl) rfl ?_
  | refine brT ?_ | refine brF ?_
  | (refine brS ?_ ?_ <;> intro hc <;> (try simp only [bls] at hc) <;> (try simp only [hc, bls]))
  | intro _ | refine And.intro ?_ ?_)
    all_goals first | omega | (unfold bigLen; omega) | exact ⟨_, _, ⟨rfl, rfl⟩, rfl⟩ | exact ⟨_, rfl⟩ | (rename_i hy; simp only [List.mem_singleton] at hy; subst hy; rfl) | with_reducible rfl | skip
  · have c3 : ¬ (1 : Int) < ((b + 1 : Nat) : Int) := by omega
    rw [if_neg h1] at hc2
    refine ACall.enter Try.func11 rfl (by kernel_rfl) (Nat.le_of_ble_eq_true rfl) ?_; simp only [initTm, Nat.reduceAdd]
    repeat' (first
  | refine gSq ?_ | refine gSk ?_ | refine gBl ?_ | refine gIb ?_ | refine gEx rfl ?_
  | ((first
  | (refine gRg [26, 30] [0, 1, 4, 5, 6, 7, 8, 9, 10, 11, 12, 13, 42] ?_; intro K hK)
  | refine cAl (shown8uc) rfl rfl rfl ?_
  | refine cAl (ht1) rfl rfl rfl ?_
  | refine cAl (ht2) rfl rfl rfl ?_
  | refine cAl (hc1) rfl rfl rfl ?_
  | refine cAl (hc2) rfl rfl rfl ?_
  | refine cAl (hr1) rfl rfl rfl ?_
  | refine cAl (hr2) rfl rfl rfl ?_
  | (refine gd_split ?_ ?_ <;> intro hb <;> (try simp only [bls] at hb) <;> (try simp only [hb]))
  | refine gRt [] [.tmp 4] rfl ?_ | refine gDn [] [.tmp 4] rfl ?_) <;> (try simp only [go_sem, simprocAttr, a1, a2, a3, a4, c1, c2, c3, c4, eq_self]))
  | (refine hK _ _ ?_; clear hK K; simp only [go_sem, simprocAttr])
  | refine gCd (by simp only [go_sem, simprocAttr]; rfl) rfl ?_
  | refine brT ?_ | refine brF ?_
  | (refine brS ?_ ?_ <;> intro hc <;> (try simp only [bls] at hc) <;> (try simp only [hc, bls]))
  | intro _ | refine And.intro ?_ ?_)
    all_goals first | omega | (unfold bigLen; omega) | exact ⟨_, _, ⟨rfl, rfl⟩, rfl⟩ | exact ⟨_, rfl⟩ | (rename_i hy; simp only [List.mem_singleton] at hy; subst hy; rfl) | with_reducible rfl | skip
theorem planCopies_c (lo more : Int) (endless : Bool) (hlo : fits .u8 lo) (hmo : fits .u8 more) : ACall Try.prog 12 [.int .u8 lo, .int .u8 more, .bool endless] [] fun r _ => r = .bool true := by
  obtain ⟨p, rfl, hp⟩ := fits_u8 hlo
  obtain ⟨q, rfl, hq⟩ := fits_u8 hmo
  have a1 := tmod_nat p 31
  have a2 := tmod_nat q 61
  have a3 := modN p 31 hp
  have a4 := modN q 61 hq
  simp only [Int.cast_ofNat_Int] at a1 a2
  have b1 : p % 31 < 31 := Nat.mod_lt _ (by decide)
  have b2 : q % 61 < 61 := Nat.mod_lt _ (by decide)
  generalize p % 31 = a at a1 a3 b1
  generalize q % 61 = d at a2 a4 b2
  have c1 : (a : Int) + d = ((a + d : Nat) : Int) := by omega
  have c2 : (3 : Int) * a = ((3 * a : Nat) : Int) := by omega
  by_cases h0 : a + d = 0
  · have h0' : ((a + d : Nat) : Int) = 0 := by omega
    refine ACall.enter Try.func12 rfl (by kernel_rfl) (Nat.le_of_ble_eq_true rfl) ?_; simp only [initTm, Nat.reduceAdd]
    repeat' (first
  | refine gSq ?_ | refine gSk ?_ | refine gBl ?_ | refine gIb ?_ | refine gEx rfl ?_
  | ((first
  | (refine gRg [] [0, 1, 2, 6, 7, 8, 9, 10, 11, 12, 13, 14, 25, 41, 51, 66] ?_; intro K hK)
  | refine cAl (shown8uc) rfl rfl rfl ?_
  | (refine gd_split ?_ ?_ <;> intro hb <;> (try simp only [bls] at hb) <;> (try simp only [hb]))
  | refine gRt [] [.tmp 6] rfl ?_ | refine gDn [] [.tmp 6] rfl ?_) <;> (try simp only [go_sem, simprocAttr, a1, a2, a3, a4, c1, eq_true h0']))
  | (refine hK _ _ ?_; clear hK K; simp only [go_sem, simprocAttr])
  | refine gCd (by simp only [go_sem, simprocAttr]; rfl) rfl ?_
  | refine brT ?_ | refine brF ?_
  | (refine brS ?_ ?_ <;> intro hc <;> (try simp only [bls] at hc) <;> (try simp only [hc, bls]))
  | intro _ | refine And.intro ?_ ?_)
    all_goals first | omega | (unfold bigLen; omega) | exact ⟨_, _, ⟨rfl, rfl⟩, rfl⟩ | exact ⟨_, rfl⟩ | (rename_i hy; simp only [List.mem_singleton] at hy; subst hy; rfl) | with_reducible rfl | skip
  · have h0' : ¬ ((a + d : Nat) : Int) = 0 := by omega
    have hnd : ∀ b : Int, ndOk [⟨2, ⟨2, 0, 0, 0⟩, [], 0, 0, ByteArray.empty⟩, ⟨2, ⟨4, 0, 0, 0⟩, [], 0, 0, ByteArray.empty⟩, opNd 3 [0, 1], repNd a b 2] := by
      intro b n hn
      simp only [List.mem_cons, List.not_mem_nil, or_false] at hn
      rcases hn with rfl | rfl | rfl | rfl
      · exact ⟨by decide, by decide⟩
      · exact ⟨by decide, by decide⟩
      · exact ⟨by decide, by decide⟩
      · exact rep_nd _ _ _
    have ht := fun b => ptree_c true false _ 5 (hnd b)
    cases endless
    · obtain ⟨x, x1, x2, x3, x4, x5⟩ := copies_law (a := a) (b := ((a + d : Nat) : Int)) (by omega) (by omega)
      have ht := ht ((a + d : Nat) : Int)
      rw [x1] at ht
      simp only [flS_0] at ht
      have hc := pcount_c true false x x2
      rw [x3] at hc
      rw [if_neg (show ¬ ((a + d : Nat) : Int) = -1 by omega), if_neg (show ¬ ((a + d : Nat) : Int) = -1 by omega)] at x5
      clear x1 x2 x3
      by_cases hd : 0 < d
      · have d1 : (a : Int) < ((a + d : Nat) : Int) := by omega
        have d2 : ((a + d : Nat) : Int) - a = d := by omega
        have d3 : (5 : Int) * d = ((5 * d : Nat) : Int) := by omega
        have d4 : ((3 * a : Nat) : Int) + ((5 * d : Nat) : Int) = ((3 * a + 5 * d : Nat) : Int) := by omega
        have d5 : (d : Int) - 1 = ((d - 1 : Nat) : Int) := by omega
        have d6 : ((3 * a + 5 * d : Nat) : Int) + ((d - 1 : Nat) : Int) = ((3 * a + 5 * d + (d - 1) : Nat) : Int) := by omega
        have d7 : (a : Int) + 1 = ((a + 1 : Nat) : Int) := by omega
        rw [if_pos d1, if_pos d1, d2, Int.toNat_natCast] at x5
        by_cases h1 : 1 < a + 1
        · have d8 : (1 : Int) < ((a + 1 : Nat) : Int) := by omega
          have d9 : ((3 * a + 5 * d + (d - 1) : Nat) : Int) + 1 = ((3 * a + 5 * d + (d - 1) + 1 : Nat) : Int) := by omega
          have g : (x.length : Int) = ((3 * a + 5 * d + (d - 1) + 1 : Nat) : Int) := by rw [x5, if_neg (by omega)] <;> omega
          refine ACall.enter Try.func12 rfl (by kernel_rfl) (Nat.le_of_ble_eq_true rfl) ?_; simp only [initTm, Nat.reduceAdd]
          repeat' (first
  | refine gSq ?_ | refine gSk ?_ | refine gBl ?_ | refine gIb ?_ | refine gEx rfl ?_
  | ((first
  | (refine AGood.at 15 ?_; (refine AGood.freeze 37 rfl ?_; simp only [rfT, rfS, rfO, rf, rf1, true_and, go_sem, simprocAttr]); (refine gRg [31, 33] [0, 1, 2, 6, 7, 8, 9, 10, 11, 12, 13, 14, 25, 41, 51, 66] ?_; intro K hK))
  | (refine gRg [31, 33] [0, 1, 2, 6, 7, 8, 9, 10, 11, 12, 13, 14, 25, 41, 51, 66] ?_; intro K hK)
  | refine cAl (shown8uc) rfl rfl rfl ?_
  | refine cAl (ht) rfl rfl rfl ?_
  | refine cAl (hc) rfl rfl rfl ?_
  | (refine gd_split ?_ ?_ <;> intro hb <;> (try simp only [bls] at hb) <;> (try simp only [hb]))
  | refine gRt [] [.tmp 6] rfl ?_ | refine gDn [] [.tmp 6] rfl ?_) <;> (try simp only [go_sem, simprocAttr, a1, a2, a3, a4, c1, c2, h0', d1, d2, d3, d4, d5, d6, d7, d8, d9, eq_true g, eq_self]))
  | (refine hK _ _ ?_; clear hK K; simp only [go_sem, simprocAttr])
  | refine gCd (by simp only [go_sem, simprocAttr]; rfl) rfl ?_
  | refine brT ?_ | refine brF ?_
  | (refine brS ?_ ?_ <;> intro hc <;> (try simp only [bls] at hc) <;> (try simp only [hc, bls]))
  | intro _ | refine And.intro ?_ ?_)
          all_goals first | omega | (unfold bigLen; omega) | exact ⟨_, _, ⟨rfl, rfl⟩, rfl⟩ | exact ⟨_, rfl⟩ | (rename_i hy; simp only [List.mem_singleton] at hy; subst hy; rfl) | with_reducible rfl | skip
        · have d8 : ¬ (1 : Int) < ((a + 1 : Nat) : Int) := by omega
          have g : (x.length : Int) = ((3 * a + 5 * d + (d - 1) : Nat) : Int) := by rw [x5, if_pos (by omega)] <;> omega
          refine ACall.enter Try.func12 rfl (by kernel_rfl) (Nat.le_of_ble_eq_true rfl) ?_; simp only [initTm, Nat.reduceAdd]
          repeat' (first
  | refine gSq ?_ | refine gSk ?_ | refine gBl ?_ | refine gIb ?_ | refine gEx rfl ?_
  | ((first
  | (refine AGood.at 15 ?_; (refine AGood.freeze 37 rfl ?_; simp only [rfT, rfS, rfO, rf, rf1, true_and, go_sem, simprocAttr]); (refine gRg [31, 33] [0, 1, 2, 6, 7, 8, 9, 10, 11, 12, 13, 14, 25, 41, 51, 66] ?_; intro K hK))
  | (refine gRg [31, 33] [0, 1, 2, 6, 7, 8, 9, 10, 11, 12, 13, 14, 25, 41, 51, 66] ?_; intro K hK)
  | refine cAl (shown8uc) rfl rfl rfl ?_
  | refine cAl (ht) rfl rfl rfl ?_
  | refine cAl (hc) rfl rfl rfl ?_
  | (refine gd_split ?_ ?_ <;> intro hb <;> (try simp only [bls] at hb) <;> (try simp only [hb]))
  | refine gRt [] [.tmp 6] rfl ?_ | refine gDn [] [.tmp 6] rfl ?_) <;> (try simp only [go_sem, simprocAttr, a1, a2, a3, a4, c1, c2, h0', d1, d2, d3, d4, d5, d6, d7, d8, eq_true g, eq_self]))
  | (refine hK _ _ ?_; clear hK K; simp only [go_sem, simprocAttr])
  | refine gCd (by simp only [go_sem, simprocAttr]; rfl) rfl ?_
  | refine brT ?_ | refine brF ?_
  | (refine brS ?_ ?_ <;> intro hc <;> (try simp only [bls] at hc) <;> (try simp only [hc, bls]))
  | intro _ | refine And.intro ?_ ?_)
          all_goals first | omega | (unfold bigLen; omega) | exact ⟨_, _, ⟨rfl, rfl⟩, rfl⟩ | exact ⟨_, rfl⟩ | (rename_i hy; simp only [List.mem_singleton] at hy; subst hy; rfl) | with_reducible rfl | skip
      · have d1 : ¬ (a : Int) < ((a + d : Nat) : Int) := by omega
        rw [if_neg d1, if_neg d1] at x5
        by_cases h1 : 1 < a
        · have d8 : (1 : Int) < (a : Int) := by omega
          have d9 : ((3 * a : Nat) : Int) + 1 = ((3 * a + 1 : Nat) : Int) := by omega
          have g : (x.length : Int) = ((3 * a + 1 : Nat) : Int) := by rw [x5, if_neg (by omega)] <;> omega
          refine ACall.enter Try.func12 rfl (by kernel_rfl) (Nat.le_of_ble_eq_true rfl) ?_; simp only [initTm, Nat.reduceAdd]
          repeat' (first
  | refine gSq ?_ | refine gSk ?_ | refine gBl ?_ | refine gIb ?_ | refine gEx rfl ?_
  | ((first
  | (refine AGood.at 15 ?_; (refine AGood.freeze 37 rfl ?_; simp only [rfT, rfS, rfO, rf, rf1, true_and, go_sem, simprocAttr]); (refine gRg [31, 33] [0, 1, 2, 6, 7, 8, 9, 10, 11, 12, 13, 14, 25, 41, 51, 66] ?_; intro K hK))
  | (refine gRg [31, 33] [0, 1, 2, 6, 7, 8, 9, 10, 11, 12, 13, 14, 25, 41, 51, 66] ?_; intro K hK)
  | refine cAl (shown8uc) rfl rfl rfl ?_
  | refine cAl (ht) rfl rfl rfl ?_
  | refine cAl (hc) rfl rfl rfl ?_
  | (refine gd_split ?_ ?_ <;> intro hb <;> (try simp only [bls] at hb) <;> (try simp only [hb]))
  | refine gRt [] [.tmp 6] rfl ?_ | refine gDn [] [.tmp 6] rfl ?_) <;> (try simp only [go_sem, simprocAttr, a1, a2, a3, a4, c1, c2, h0', d1, d8, d9, eq_true g, eq_self]))
  | (refine hK _ _ ?_; clear hK K; simp only [go_sem, simprocAttr])
  | refine gCd (by simp only [go_sem, simprocAttr]; rfl) rfl ?_
  | refine brT ?_ | refine brF ?_
  | (refine brS ?_ ?_ <;> intro hc <;> (try simp only [bls] at hc) <;> (try simp only [hc, bls]))
  | intro _ | refine And.intro ?_ ?_)
          all_goals first | omega | (unfold bigLen; omega) | exact ⟨_, _, ⟨rfl, rfl⟩, rfl⟩ | exact ⟨_, rfl⟩ | (rename_i hy; simp only [List.mem_singleton] at hy; subst hy; rfl) | with_reducible rfl | skip
        · have d8 : ¬ (1 : Int) < (a : Int) := by omega
          have g : (x.length : Int) = ((3 * a : Nat) : Int) := by rw [x5, if_pos (by omega)] <;> omega
          refine ACall.enter Try.func12 rfl (by kernel_rfl) (Nat.le_of_ble_eq_true rfl) ?_; simp only [initTm, Nat.reduceAdd]
          repeat' (first
  | refine gSq ?_ | refine gSk ?_ | refine gBl ?_ | refine gIb ?_ | refine gEx rfl ?_
  | ((first
  | (refine AGood.at 15 ?_; (refine AGood.freeze 37 rfl ?_; simp only [rfT, rfS, rfO, rf, rf1, true_and, go_sem, simprocAttr]); (refine gRg [31, 33] [0, 1, 2, 6, 7, 8, 9, 10, 11, 12, 13, 14, 25, 41, 51, 66] ?_; intro K hK))
  | (refine gRg [31, 33] [0, 1, 2, 6, 7, 8, 9, 10, 11, 12, 13, 14, 25, 41, 51, 66] ?_; intro K hK)
  | refine cAl (shown8uc) rfl rfl rfl ?_
  | refine cAl (ht) rfl rfl rfl ?_
  | refine cAl (hc) rfl rfl rfl ?_
  | (refine gd_split ?_ ?_ <;> intro hb <;> (try simp only [bls] at hb) <;> (try simp only [hb]))
  | refine gRt [] [.tmp 6] rfl ?_ | refine gDn [] [.tmp 6] rfl ?_) <;> (try simp only [go_sem, simprocAttr, a1, a2, a3, a4, c1, c2, h0', d1, d8, eq_true g, eq_self]))
  | (refine hK _ _ ?_; clear hK K; simp only [go_sem, simprocAttr])
  | refine gCd (by simp only [go_sem, simprocAttr]; rfl) rfl ?_
  | refine brT ?_ | refine brF ?_
  | (refine brS ?_ ?_ <;> intro hc <;> (try simp only [bls] at hc) <;> (try simp only [hc, bls]))
  | intro _ | refine And.intro ?_ ?_)
          all_goals first | omega | (unfold bigLen; omega) | exact ⟨_, _, ⟨rfl, rfl⟩, rfl⟩ | exact ⟨_, rfl⟩ | (rename_i hy; simp only [List.mem_singleton] at hy; subst hy; rfl) | with_reducible rfl | skip
    · obtain ⟨x, x1, x2, x3, x4, x5⟩ := copies_law (a := a) (b := -1) (by omega) (.inl rfl)
      have ht := ht (-1)
      rw [x1] at ht
      simp only [flS_0] at ht
      have hc := pcount_c true false x x2
      rw [x3] at hc
      simp only [if_true] at x5
      clear x1 x2 x3
      have d2 : ((3 * a : Nat) : Int) + 4 = ((3 * a + 4 : Nat) : Int) := by omega
      have d7 : (a : Int) + 1 = ((a + 1 : Nat) : Int) := by omega
      by_cases h1 : 1 < a + 1
      · have d8 : (1 : Int) < ((a + 1 : Nat) : Int) := by omega
        have d9 : ((3 * a + 4 : Nat) : Int) + 1 = ((3 * a + 4 + 1 : Nat) : Int) := by omega
        have g : (x.length : Int) = ((3 * a + 4 + 1 : Nat) : Int) := by rw [x5, if_neg (by omega)] <;> omega
        refine ACall.enter Try.func12 rfl (by kernel_rfl) (Nat.le_of_ble_eq_true rfl) ?_; simp only [initTm, Nat.reduceAdd]
        repeat' (first
  | refine gSq ?_ | refine gSk ?_ | refine gBl ?_ | refine gIb ?_ | refine gEx rfl ?_
  | ((first
  | (refine AGood.at 15 ?_; (refine AGood.freeze 37 rfl ?_; simp only [rfT, rfS, rfO, rf, rf1, true_and, go_sem, simprocAttr]); (refine gRg [31, 33] [0, 1, 2, 6, 7, 8, 9, 10, 11, 12, 13, 14, 25, 41, 51, 66] ?_; intro K hK))
  | (refine gRg [31, 33] [0, 1, 2, 6, 7, 8, 9, 10, 11, 12, 13, 14, 25, 41, 51, 66] ?_; intro K hK)
  | refine cAl (shown8uc) rfl rfl rfl ?_
  | refine cAl (ht) rfl rfl rfl ?_
  | refine cAl (hc) rfl rfl rfl ?_
  | (refine gd_split ?_ ?_ <;> intro hb <;> (try simp only [bls] at hb) <;> (try simp only [hb]))
  | refine gRt [] [.tmp 6] rfl ?_ | refine gDn [] [.tmp 6] rfl ?_) <;> (try simp only [go_sem, simprocAttr, a1, a2, a3, a4, c1, c2, h0', d2, d7, d8, d9, eq_true g, eq_self]))
  | (refine hK _ _ ?_; clear hK K; simp only [go_sem, simprocAttr])
  | refine gCd (by simp only [go_sem, simprocAttr]; rfl) rfl ?_
  | refine brT ?_ | refine brF ?_
  | (refine brS ?_ ?_ <;> intro hc <;> (try simp only [bls] at hc) <;> (try simp only [hc, bls]))
  | intro _ | refine And.intro ?_ ?_)
        all_goals first | omega | (unfold bigLen; omega) | exact ⟨_, _, ⟨rfl, rfl⟩, rfl⟩ | exact ⟨_, rfl⟩ | (rename_i hy; simp only [List.mem_singleton] at hy; subst hy; rfl) | with_reducible rfl | skip
      · have d8 : ¬ (1 : Int) < ((a + 1 : Nat) : Int) := by omega
        have g : (x.length : Int) = ((3 * a + 4 : Nat) : Int) := by rw [x5, if_pos (by omega)] <;> omega
        refine ACall.enter Try.func12 rfl (by kernel_rfl) (Nat.le_of_ble_eq_true rfl) ?_; simp only [initTm, Nat.reduceAdd]
        repeat' (first
  | refine gSq ?_ | refine gSk ?_ | refine gBl ?_ | refine gIb ?_ | refine gEx rfl ?_
  | ((first
  | (refine AGood.at 15 ?_; (refine AGood.freeze 37 rfl ?_; simp only [rfT, rfS, rfO, rf, rf1, true_and, go_sem, simprocAttr]); (refine gRg [31, 33] [0, 1, 2, 6, 7, 8, 9, 10, 11, 12, 13, 14, 25, 41, 51, 66] ?_; intro K hK))
  | (refine gRg [31, 33] [0, 1, 2, 6, 7, 8, 9, 10, 11, 12, 13, 14, 25, 41, 51, 66] ?_; intro K hK)
  | refine cAl (shown8uc) rfl rfl rfl ?_
  | refine cAl (ht) rfl rfl rfl ?_
  | refine cAl (hc) rfl rfl rfl ?_
  | (refine gd_split ?_ ?_ <;> intro hb <;> (try simp only [bls] at hb) <;> (try simp only [hb]))
  | refine gRt [] [.tmp 6] rfl ?_ | refine gDn [] [.tmp 6] rfl ?_) <;> (try simp only [go_sem, simprocAttr, a1, a2, a3, a4, c1, c2, h0', d2, d7, d8, eq_true g, eq_self]))
  | (refine hK _ _ ?_; clear hK K; simp only [go_sem, simprocAttr])
  | refine gCd (by simp only [go_sem, simprocAttr]; rfl) rfl ?_
  | refine brT ?_ | refine brF ?_
  | (refine brS ?_ ?_ <;> intro hc <;> (try simp only [bls] at hc) <;> (try simp only [hc, bls]))
  | intro _ | refine And.intro ?_ ?_)
        all_goals first | omega | (unfold bigLen; omega) | exact ⟨_, _, ⟨rfl, rfl⟩, rfl⟩ | exact ⟨_, rfl⟩ | (rename_i hy; simp only [List.mem_singleton] at hy; subst hy; rfl) | with_reducible rfl | skip
end Go.Rad
/- What trees mean: where they may end, from some places of a text on. -/
namespace Go.Rad
open Go Fo
abbrev bools (l : List Bool) : List (List AVal) := l.map fun b => [.bool b]
def falses (n : Nat) : List Bool := List.replicate n false
def orB (a b : List Bool) : List Bool := List.zipWith (· || ·) a b
def byteAt (w : ByteArray) (i : Nat) : Nat := ((w.data.toList[i]?).getD 0).toNat
theorem sbyte_at (w : ByteArray) (i : Nat) : sbyte w i = (byteAt w i : Int) := rfl
theorem byteAt_le (w : ByteArray) (i : Nat) : byteAt w i ≤ 255 := by
  unfold byteAt
  have := ((w.data.toList[i]?).getD 0).toNat_lt
  omega
def hit (s : ISet) (w : ByteArray) (fr : List Bool) (i : Nat) : Bool := fr.getD i false && hasI s (byteAt w i)
def oneB (s : ISet) (w : ByteArray) (fr : List Bool) : List Bool := false :: (List.range w.size).map (hit s w fr)
def itB (g : List Bool → List Bool) : Nat → List Bool → List Bool
  | 0, s => s
  | n + 1, s => itB g n (g s)
def uB (g : List Bool → List Bool) : Nat → List Bool → List Bool
  | 0, s => s
  | n + 1, s => orB s (uB g n (g s))
def repB (w : ByteArray) (lo hi : Int) (g : List Bool → List Bool) (s : List Bool) : List Bool := uB g (if hi = -1 then w.size + 1 else (hi - lo).toNat) (itB g lo.toNat s)
def semNode (w : ByteArray) (b : Lb) (fs : List (List Bool → List Bool)) (s : List Bool) : List Bool :=
  if b.op = 2 then oneB b.s w s
  else if b.op = 3 then fs.foldl (fun s f => f s) s
  else if b.op = 4 then fs.foldl (fun o f => orB o (f s)) (falses (w.size + 1))
  else if b.op = 5 then repB w b.lo b.hi (fs.headD id) s
  else s
def sem (w : ByteArray) : Fo → List (List Bool → List Bool)
  | .nil => []
  | .node b k r => semNode w b (sem w k) :: sem w r

/-! Places that are added. -/
theorem orB_len {a b : List Bool} {n : Nat} (ha : a.length = n) (hb : b.length = n) : (orB a b).length = n := by simp [orB, ha, hb]
theorem orB_get {a b : List Bool} {n : Nat} (ha : a.length = n) (hb : b.length = n) (i : Nat) : (orB a b).getD i false = (a.getD i false || b.getD i false) := by
  simp only [orB, List.getD_eq_getElem?_getD, List.getElem?_zipWith]
  by_cases h : i < n
  · rw [List.getElem?_eq_getElem (by omega), List.getElem?_eq_getElem (by omega)]; rfl
  · rw [List.getElem?_eq_none (by omega : a.length ≤ i), List.getElem?_eq_none (by omega : b.length ≤ i)]; rfl
theorem bool_ext {a b : List Bool} (h : a.length = b.length) (hg : ∀ i, a.getD i false = b.getD i false) : a = b := by
  refine List.ext_getElem h fun i h1 h2 => ?_
  have := hg i
  simpa [List.getD, h1, h2] using this
theorem falses_len (n : Nat) : (falses n).length = n := by simp [falses]
theorem falses_get (n i : Nat) : (falses n).getD i false = false := by
  simp only [falses, List.getD_eq_getElem?_getD, List.getElem?_replicate]
  split <;> rfl
theorem orB_assoc {a b c : List Bool} {n : Nat} (ha : a.length = n) (hb : b.length = n) (hc : c.length = n) : orB (orB a b) c = orB a (orB b c) := by
  refine bool_ext (by rw [orB_len (orB_len ha hb) hc, orB_len ha (orB_len hb hc)]) fun i => ?_
  rw [orB_get (orB_len ha hb) hc, orB_get ha hb, orB_get ha (orB_len hb hc), orB_get hb hc, Bool.or_assoc]
theorem orB_falses {a : List Bool} {n : Nat} (ha : a.length = n) : orB (falses n) a = a := by
  refine bool_ext (by rw [orB_len (falses_len n) ha, ha]) fun i => ?_
  rw [orB_get (falses_len n) ha, falses_get, Bool.false_or]
theorem orB_swap {a b c d : List Bool} {n : Nat} (ha : a.length = n) (hb : b.length = n) (hc : c.length = n) (hd : d.length = n) : orB (orB a b) (orB c d) = orB (orB a c) (orB b d) := by
  refine bool_ext (by rw [orB_len (orB_len ha hb) (orB_len hc hd), orB_len (orB_len ha hc) (orB_len hb hd)]) fun i => ?_
  rw [orB_get (orB_len ha hb) (orB_len hc hd), orB_get ha hb, orB_get hc hd, orB_get (orB_len ha hc) (orB_len hb hd), orB_get ha hc, orB_get hb hd]
  cases a.getD i false <;> cases b.getD i false <;> cases c.getD i false <;> cases d.getD i false <;> rfl
/-- What is told of all places together is told of each. -/
structure Add (n : Nat) (g : List Bool → List Bool) : Prop where
  len : ∀ s, s.length = n → (g s).length = n
  or : ∀ s t, s.length = n → t.length = n → g (orB s t) = orB (g s) (g t)
  none : g (falses n) = falses n
theorem Add.same (n : Nat) : Add n id := ⟨fun _ h => h, fun _ _ _ _ => rfl, rfl⟩
theorem Add.comp {n : Nat} {f g : List Bool → List Bool} (hf : Add n f) (hg : Add n g) : Add n fun s => f (g s) :=
  ⟨fun s h => hf.len _ (hg.len s h), fun s t hs ht => by rw [hg.or s t hs ht, hf.or _ _ (hg.len s hs) (hg.len t ht)], by rw [hg.none, hf.none]⟩
theorem orB_self {a : List Bool} : orB a a = a := by
  refine bool_ext (by rw [orB_len rfl rfl]) fun i => ?_
  rw [orB_get rfl rfl, Bool.or_self]
theorem Add.sum {n : Nat} {f g : List Bool → List Bool} (hf : Add n f) (hg : Add n g) : Add n fun s => orB (f s) (g s) :=
  ⟨fun s h => orB_len (hf.len s h) (hg.len s h), fun s t hs ht => by rw [hf.or s t hs ht, hg.or s t hs ht, orB_swap (hf.len s hs) (hf.len t ht) (hg.len s hs) (hg.len t ht)], by rw [hf.none, hg.none, orB_self]⟩
theorem Add.it {n : Nat} {g : List Bool → List Bool} (hg : Add n g) : ∀ k, Add n (itB g k)
  | 0 => Add.same n
  | k + 1 => (Add.it hg k).comp hg
theorem Add.u {n : Nat} {g : List Bool → List Bool} (hg : Add n g) : ∀ k, Add n (uB g k)
  | 0 => Add.same n
  | k + 1 => (Add.same n).sum ((Add.u hg k).comp hg)
theorem Add.one {s : ISet} {w : ByteArray} : Add (w.size + 1) (oneB s w) := by
  have hl : ∀ fr, (oneB s w fr).length = w.size + 1 := fun fr => by simp [oneB]
  refine ⟨fun fr _ => hl fr, fun a b ha hb => ?_, ?_⟩
  · refine bool_ext (by rw [hl, orB_len (hl a) (hl b)]) fun i => ?_
    rw [orB_get (hl a) (hl b)]
    cases i with
    | zero => rfl
    | succ i =>
      simp only [oneB, List.getD_cons_succ]
      simp only [List.getD_eq_getElem?_getD, List.getElem?_map, List.getElem?_range]
      by_cases h : i < w.size
      · simp only [h, getElem?_pos, List.getElem?_range, Option.map_some, Option.getD_some, hit]
        rw [orB_get ha hb, Bool.and_or_distrib_right]
      · simp [h]
  · refine bool_ext (by rw [hl, falses_len]) fun i => ?_
    rw [falses_get]
    cases i with
    | zero => rfl
    | succ i =>
      simp only [oneB, List.getD_cons_succ]
      simp only [List.getD_eq_getElem?_getD, List.getElem?_map]
      cases h : (List.range w.size)[i]? with
      | none => rfl
      | some j => simp only [Option.map_some, Option.getD_some, hit, falses_get, Bool.false_and]
theorem Add.row {n : Nat} : ∀ {fs : List (List Bool → List Bool)}, (∀ f ∈ fs, Add n f) → Add n fun s => fs.foldl (fun s f => f s) s
  | [], _ => Add.same n
  | f :: fs, h => (Add.row (fs := fs) fun g hg => h g (by simp [hg])).comp (h f (by simp))
theorem Add.alt {n : Nat} : ∀ {fs : List (List Bool → List Bool)} {o : List Bool → List Bool}, Add n o → (∀ f ∈ fs, Add n f) → Add n fun s => fs.foldl (fun o f => orB o (f s)) (o s)
  | [], _, ho, _ => ho
  | f :: fs, o, ho, h => Add.alt (fs := fs) (o := fun s => orB (o s) (f s)) (ho.sum (h f (by simp))) fun g hg => h g (by simp [hg])
theorem Add.const (n : Nat) : Add n fun _ => falses n := ⟨fun _ _ => falses_len n, fun _ _ _ _ => orB_self.symm, rfl⟩
theorem Add.rep {w : ByteArray} {lo hi : Int} {g : List Bool → List Bool} (hg : Add (w.size + 1) g) : Add (w.size + 1) (repB w lo hi g) := (Add.u hg _).comp (Add.it hg _)
theorem Add.node {w : ByteArray} {b : Lb} {fs : List (List Bool → List Bool)} (h : ∀ f ∈ fs, Add (w.size + 1) f) : Add (w.size + 1) (semNode w b fs) := by
  have e : semNode w b fs = if b.op = 2 then oneB b.s w else if b.op = 3 then (fun s => fs.foldl (fun s f => f s) s) else if b.op = 4 then (fun s => fs.foldl (fun o f => orB o (f s)) (falses (w.size + 1))) else if b.op = 5 then repB w b.lo b.hi (fs.headD id) else id := by
    funext s
    unfold semNode
    split
    · rfl
    · split
      · rfl
      · split
        · rfl
        · split <;> rfl
  rw [e]
  split
  · exact Add.one
  · split
    · exact Add.row h
    · split
      · exact Add.alt (Add.const _) h
      · split
        · refine Add.rep ?_
          cases fs with
          | nil => exact Add.same _
          | cons f fs => exact h f (by simp)
        · exact Add.same _
theorem sem_add (w : ByteArray) : ∀ (f : Fo), ∀ g ∈ sem w f, Add (w.size + 1) g
  | .nil, g, h => by simp [sem] at h
  | .node b k r, g, h => by
    simp only [sem, List.mem_cons] at h
    rcases h with rfl | h
    · exact Add.node (sem_add w k)
    · exact sem_add w r g h

/-! Once more changes nothing: then never again. -/
section
variable {n : Nat} {g : List Bool → List Bool} (hg : Add n g) {s : List Bool} (hs : s.length = n)
theorem it_add (g : List Bool → List Bool) : ∀ (i j : Nat) (s : List Bool), itB g (i + j) s = itB g j (itB g i s)
  | 0, j, s => by simp [itB]
  | i + 1, j, s => by rw [Nat.add_right_comm, itB, it_add g i j, itB]
theorem it_succ (g : List Bool → List Bool) (i : Nat) (s : List Bool) : itB g (i + 1) s = g (itB g i s) := it_add g i 1 s
theorem it_stop {g : List Bool → List Bool} {s : List Bool} {i : Nat} (h : g (itB g i s) = itB g i s) (j : Nat) : itB g (i + j) s = itB g i s := by
  induction j with
  | zero => rfl
  | succ j ih => rw [← Nat.add_assoc, it_succ, ih, h]
include hg hs
theorem it_len (i : Nat) : (itB g i s).length = n := (Add.it hg i).len s hs
theorem u_len (i : Nat) : (uB g i s).length = n := (Add.u hg i).len s hs
theorem u_snoc : ∀ (i : Nat), uB g (i + 1) s = orB (uB g i s) (itB g (i + 1) s) := by
  intro i
  induction i generalizing s with
  | zero => rfl
  | succ i ih =>
    rw [uB, ih (hg.len s hs), ← orB_assoc hs (u_len hg (hg.len s hs) i) (it_len hg (hg.len s hs) (i + 1))]
    rfl
theorem u_push : ∀ (i : Nat), g (uB g i s) = uB g i (g s) := by
  intro i
  induction i generalizing s with
  | zero => rfl
  | succ i ih => rw [uB, hg.or _ _ hs (u_len hg (hg.len s hs) i), ih (hg.len s hs), uB]
theorem u_step (i : Nat) : uB g (i + 1) s = orB s (g (uB g i s)) := by rw [uB, u_push hg hs]
theorem u_stop {i : Nat} (h : uB g (i + 1) s = uB g i s) (j : Nat) : uB g (i + j) s = uB g i s := by
  induction j with
  | zero => rfl
  | succ j ih => rw [← Nat.add_assoc, u_step hg hs, ih, ← u_step hg hs, h]
end
def cntB2 (s : List Bool) : Nat := s.countP id
theorem cnt_or {n : Nat} : ∀ {a b : List Bool}, a.length = n → b.length = n → cntB2 a ≤ cntB2 (orB a b) ∧ (cntB2 a = cntB2 (orB a b) → orB a b = a)
  | [], [], _, _ => ⟨Nat.le_refl _, fun _ => rfl⟩
  | x :: a, y :: b, ha, hb => by
    obtain ⟨h1, h2⟩ := cnt_or (n := a.length) (a := a) (b := b) rfl (by simp only [List.length_cons] at ha hb; omega)
    simp only [cntB2, orB, List.zipWith_cons_cons, List.countP_cons] at h1 h2 ⊢
    cases x <;> cases y <;> simp only [Bool.or_true, Bool.or_false, Bool.false_or, Bool.true_or, id] at h1 h2 ⊢ <;> simp only [Bool.false_eq_true, if_false, if_true] at h1 h2 ⊢ <;> refine ⟨by omega, fun h => ?_⟩ <;> first | omega | rw [h2 (by omega)]
  | [], _ :: _, ha, hb => by simp at ha hb; omega
  | _ :: _, [], ha, hb => by simp at ha hb; omega
theorem cnt_le {a : List Bool} : cntB2 a ≤ a.length := List.countP_le_length
/-- After as many steps as there are places nothing is new. -/
theorem u_full {n : Nat} {g : List Bool → List Bool} (hg : Add n g) {s : List Bool} (hs : s.length = n) : uB g (n + 1) s = uB g n s := by
  have key : ∀ k, (∀ i, i < k → uB g (i + 1) s ≠ uB g i s) → k ≤ cntB2 (uB g k s) := by
    intro k
    induction k with
    | zero => intro _; exact Nat.zero_le _
    | succ k ih =>
      intro h
      have h1 := ih fun i hi => h i (by omega)
      have h2 := h k (by omega)
      rw [u_snoc hg hs] at h2 ⊢
      obtain ⟨a, b⟩ := cnt_or (u_len hg hs k) (it_len hg hs (k + 1))
      have : cntB2 (uB g k s) ≠ cntB2 (orB (uB g k s) (itB g (k + 1) s)) := fun e => h2 (b e)
      omega
  by_cases h : ∃ i, i < n + 1 ∧ uB g (i + 1) s = uB g i s
  · obtain ⟨i, hi, e⟩ := h
    have e1 := u_stop hg hs e (n - i)
    have e2 := u_stop hg hs e (n + 1 - i)
    rw [show i + (n - i) = n by omega] at e1
    rw [show i + (n + 1 - i) = n + 1 by omega] at e2
    rw [e1, e2]
  · have := key (n + 1) fun i hi e => h ⟨i, hi, e⟩
    have h2 := cnt_le (a := uB g (n + 1) s)
    rw [u_len hg hs] at h2
    omega
theorem u_end {n : Nat} {g : List Bool → List Bool} (hg : Add n g) {s : List Bool} (hs : s.length = n) {k : Nat} (h : uB g (k + 1) s = uB g k s) : uB g n s = uB g k s := by
  rcases Nat.le_total k n with hk | hk
  · have := u_stop hg hs h (n - k)
    rw [show k + (n - k) = n by omega] at this
    exact this
  · have := u_stop hg hs (u_full hg hs) (k - n)
    rw [show n + (k - n) = k by omega] at this
    exact this.symm

/-! A plan means what its tree does. -/
theorem sem_app (w : ByteArray) (f g : Fo) : sem w (f.app g) = sem w f ++ sem w g := by
  induction f with
  | nil => rfl
  | node b k r _ ih => simp only [app, sem, ih, List.cons_append]
theorem sem_len (w : ByteArray) (f : Fo) : (sem w f).length = f.deg := by
  induction f with
  | nil => rfl
  | node b k r _ ih => simp only [sem, List.length_cons, ih, deg]
end Go.Rad
/- Contracts: the document's meaning of trees: places of a text. -/
namespace Go.Rad
open Go Go.Proofs
set_option linter.all false
set_option maxRecDepth 20000
set_option maxHeartbeats 4000000

theorem places_c (w : ByteArray) (hw : w.size ≤ 1000000) : ACall Try.prog 40 [.str w] [] fun r s => ∃ h, r = .osl 6 h 0 (w.size + 1) ∧ s = [(6, (h, .row 1 (bools (falses (w.size + 1)))))] := by
  have e1 : (w.size : Int) + 1 = ((w.size + 1 : Nat) : Int) := by omega
  have e2 : List.map (List.map nrm1) (List.replicate (w.size + 1) [AVal.bool false]) = bools (falses (w.size + 1)) := by simp [falses, nrm1]
  refine ACall.enter Try.func40 rfl (by kernel_rfl) (Nat.le_of_ble_eq_true rfl) ?_; simp only [initTm, Nat.reduceAdd]
  repeat' (first
  | refine gSq ?_ | refine gSk ?_ | refine gBl ?_ | refine gIb ?_ | refine gEx rfl ?_
  | ((first
  | (refine gRg [] [0, 2] ?_; intro K hK)
  | (refine gd_split ?_ ?_ <;> intro hb <;> (try simp only [bls] at hb) <;> (try simp only [hb]))
  | refine gRt [6] [.tmp 2] rfl ?_ | refine gDn [6] [.tmp 2] rfl ?_) <;> (try simp only [go_sem, simprocAttr, e1, e2]))
  | (refine hK _ _ ?_; clear hK K; simp only [go_sem, simprocAttr])
  | refine gCd (by simp only [go_sem, simprocAttr]; rfl) rfl ?_
  | refine brT ?_ | refine brF ?_
  | (refine brS ?_ ?_ <;> intro hc <;> (try simp only [bls] at hc) <;> (try simp only [hc, bls]))
  | intro _ | refine And.intro ?_ ?_)
  all_goals first | omega | (unfold bigLen; omega) | exact ⟨_, _, ⟨rfl, rfl⟩, rfl⟩ | exact ⟨_, rfl⟩ | (rename_i hy; simp only [List.mem_singleton] at hy; subst hy; rfl) | with_reducible rfl | skip
  rename_i h
  exact ⟨h, rfl, by simp [falses, nrm1, List.replicate_succ]⟩
theorem same7uc (q f q' f' : Bool) (a b : List Bool) (h : a.length = b.length) (hl : a.length ≤ 1000001) : ACall Try.prog 73 [.sl q f (bools a), .sl q' f' (bools b)] [] fun r s => r = .bool (decide (a = b)) ∧ s = [] := by
  obtain ⟨S, hS⟩ : ∃ S : Bool, S = decide (a = b) := ⟨_, rfl⟩
  rw [← hS]
  refine ACall.enter Try.func73 rfl (by kernel_rfl) (Nat.le_of_ble_eq_true rfl) ?_; simp only [initTm, Nat.reduceAdd]
  repeat' (first
  | refine gSq ?_ | refine gSk ?_ | refine gBl ?_ | refine gIb ?_ | refine gEx rfl ?_
  | ((first
  | (refine gRg [] [0, 1, 4, 5, 9, 20] ?_; intro K hK)
  | (refine gDr 4 [] 9 [0, 1, 2, 3, 4, 5, 6, 7, 8] [0, 1, 4, 5, 9, 20] rfl ?_; intro K hK)
  | (refine gd_split ?_ ?_ <;> intro hb <;> (try simp only [bls] at hb) <;> (try simp only [hb]))
  | refine gRt [] [.tmp 4] rfl ?_ | refine gDn [] [.tmp 4] rfl ?_) <;> (try simp only [go_sem, simprocAttr]))
  | (refine hK _ _ ?_; clear hK K; simp only [go_sem, simprocAttr])
  | refine gCd (by simp only [go_sem, simprocAttr]; rfl) rfl ?_
  | refine brT ?_ | refine brF ?_
  | (refine brS ?_ ?_ <;> intro hc <;> (try simp only [bls] at hc) <;> (try simp only [hc, bls]))
  | intro _ | refine And.intro ?_ ?_)
  all_goals first | omega | (unfold bigLen; omega) | exact ⟨_, _, ⟨rfl, rfl⟩, rfl⟩ | exact ⟨_, rfl⟩ | (rename_i hy; simp only [List.mem_singleton] at hy; subst hy; rfl) | with_reducible rfl | skip
  refine AGood.prune [0, 1, 4, 5] ?_; simp only [go_sem, simprocAttr]
  refine AGood.loopInv (α := Nat) (fun i => ([(0, .sl q f (bools a)), (1, .sl q' f' (bools b)), (4, .bool false), (5, .int .i64 i)], [])) (fun i => i ≤ a.length ∧ S = decide (a.drop i = b.drop i)) (fun i => a.length - i) 0 ⟨Nat.zero_le _, by simpa using hS⟩ rfl ?_
  rintro i ⟨hi, hrun⟩ ih
  simp only at hi hrun ih ⊢
  by_cases hle : i < a.length
  · have e4 : (i : Int) < a.length := by omega
    have e5 : (0 : Int) ≤ i := by omega
    have e6 : (i : Int) < b.length := by omega
    have e7 : (i : Int) + 1 = ((i + 1 : Nat) : Int) := by omega
    have ha : a[i]? = some a[i] := List.getElem?_eq_getElem hle
    have hb : b[i]? = some (b[i]'(by omega)) := List.getElem?_eq_getElem (by omega)
    rw [List.drop_eq_getElem_cons hle, List.drop_eq_getElem_cons (by omega : i < b.length)] at hrun
    generalize a[i] = x at ha hrun
    generalize b[i]'(by omega) = y at hb hrun
    by_cases hxy : x = y
    · subst hxy
      simp only [List.cons.injEq, true_and] at hrun
      repeat' (first
  | refine gSq ?_ | refine gSk ?_ | refine gBl ?_ | refine gIb ?_ | refine gEx rfl ?_
  | ((first
  | (refine gRg [] [0, 1, 4, 5, 9, 20] ?_; intro K hK)
  | (refine gDr 4 [] 9 [0, 1, 2, 3, 4, 5, 6, 7, 8] [0, 1, 4, 5, 9, 20] rfl ?_; intro K hK)
  | (refine gd_split ?_ ?_ <;> intro hb <;> (try simp only [bls] at hb) <;> (try simp only [hb]))
  | refine gRt [] [.tmp 4] rfl ?_ | refine gDn [] [.tmp 4] rfl ?_) <;> (try simp only [go_sem, simprocAttr, e4, e5, e6, e7, ha, hb, bne_self_eq_false, beq_self_eq_true, Option.some.injEq, forall_eq']))
  | (refine hK _ _ ?_; clear hK K; simp only [go_sem, simprocAttr])
  | refine gCd (by simp only [go_sem, simprocAttr]; rfl) rfl ?_
  | refine brT ?_ | refine brF ?_
  | (refine brS ?_ ?_ <;> intro hc <;> (try simp only [bls] at hc) <;> (try simp only [hc, bls]))
  | intro _ | refine And.intro ?_ ?_)
      all_goals first | omega | (unfold bigLen; omega) | exact ⟨_, _, ⟨rfl, rfl⟩, rfl⟩ | exact ⟨_, rfl⟩ | (rename_i hy; simp only [List.mem_singleton] at hy; subst hy; rfl) | with_reducible rfl | skip
      refine AGood.filt [] ?_
      simp only [sf_cons, sf_nil, go_sem, simprocAttr]
      refine AGood.prune [0, 1, 4, 5] ?_; simp only [go_sem, simprocAttr]
      exact (ih (i + 1) ⟨by omega, hrun⟩ (by omega)).cast rfl rfl
    · rw [decide_eq_false (fun h => hxy (List.cons.inj h).1)] at hrun
      subst hrun
      have hb1 : (x == y) = false := by simpa using hxy
      repeat' (first
  | refine gSq ?_ | refine gSk ?_ | refine gBl ?_ | refine gIb ?_ | refine gEx rfl ?_
  | ((first
  | (refine gRg [] [0, 1, 4, 5, 9, 20] ?_; intro K hK)
  | (refine gDr 4 [] 9 [0, 1, 2, 3, 4, 5, 6, 7, 8] [0, 1, 4, 5, 9, 20] rfl ?_; intro K hK)
  | (refine gd_split ?_ ?_ <;> intro hb <;> (try simp only [bls] at hb) <;> (try simp only [hb]))
  | refine gRt [] [.tmp 4] rfl ?_ | refine gDn [] [.tmp 4] rfl ?_) <;> (try simp only [go_sem, simprocAttr, e4, e5, e6, e7, ha, hb, hb1, Option.some.injEq, forall_eq']))
  | (refine hK _ _ ?_; clear hK K; simp only [go_sem, simprocAttr])
  | refine gCd (by simp only [go_sem, simprocAttr]; rfl) rfl ?_
  | refine brT ?_ | refine brF ?_
  | (refine brS ?_ ?_ <;> intro hc <;> (try simp only [bls] at hc) <;> (try simp only [hc, bls]))
  | intro _ | refine And.intro ?_ ?_)
      all_goals first | omega | (unfold bigLen; omega) | exact ⟨_, _, ⟨rfl, rfl⟩, rfl⟩ | exact ⟨_, rfl⟩ | (rename_i hy; simp only [List.mem_singleton] at hy; subst hy; rfl) | with_reducible rfl | skip
  · have e4 : ¬ (i : Int) < a.length := by omega
    rw [List.drop_eq_nil_of_le (by omega), List.drop_eq_nil_of_le (by omega), decide_eq_true rfl] at hrun
    subst hrun
    clear ih
    repeat' (first
  | refine gSq ?_ | refine gSk ?_ | refine gBl ?_ | refine gIb ?_ | refine gEx rfl ?_
  | ((first
  | (refine gRg [] [0, 1, 4, 5, 9, 20] ?_; intro K hK)
  | (refine gDr 4 [] 9 [0, 1, 2, 3, 4, 5, 6, 7, 8] [0, 1, 4, 5, 9, 20] rfl ?_; intro K hK)
  | (refine gd_split ?_ ?_ <;> intro hb <;> (try simp only [bls] at hb) <;> (try simp only [hb]))
  | refine gRt [] [.tmp 4] rfl ?_ | refine gDn [] [.tmp 4] rfl ?_) <;> (try simp only [go_sem, simprocAttr, e4]))
  | (refine hK _ _ ?_; clear hK K; simp only [go_sem, simprocAttr])
  | refine gCd (by simp only [go_sem, simprocAttr]; rfl) rfl ?_
  | refine brT ?_ | refine brF ?_
  | (refine brS ?_ ?_ <;> intro hc <;> (try simp only [bls] at hc) <;> (try simp only [hc, bls]))
  | intro _ | refine And.intro ?_ ?_)
    all_goals first | omega | (unfold bigLen; omega) | exact ⟨_, _, ⟨rfl, rfl⟩, rfl⟩ | exact ⟨_, rfl⟩ | (rename_i hy; simp only [List.mem_singleton] at hy; subst hy; rfl) | with_reducible rfl | skip
/-- As far as both are put together. -/
def orP (a b : List Bool) (i : Nat) : List Bool := (orB a b).take i ++ a.drop i
theorem orP_len {a b : List Bool} (h : a.length = b.length) {i : Nat} (hi : i ≤ a.length) : (orP a b i).length = a.length := by
  simp only [orP, List.length_append, List.length_take, List.length_drop, orB, List.length_zipWith]; omega
theorem orP_get {a b : List Bool} (h : a.length = b.length) {i : Nat} {x y : Bool} (ha : a[i]? = some x) (hb : b[i]? = some y) : (orP a b i)[i]? = some x ∧ (orP a b i).set i (x || y) = orP a b (i + 1) := by
  have hi := (List.getElem?_eq_some_iff.1 ha).1
  have hl : ((orB a b).take i).length = i := by simp only [List.length_take, orB, List.length_zipWith]; omega
  have hd : a.drop i = x :: a.drop (i + 1) := by
    rw [List.drop_eq_getElem_cons hi]
    rw [List.getElem?_eq_getElem hi] at ha
    rw [Option.some.inj ha]
  have ho : (orB a b)[i]? = some (x || y) := by simp [orB, List.getElem?_zipWith, ha, hb]
  refine ⟨?_, ?_⟩
  · rw [orP, List.getElem?_append_right (by omega), hl, Nat.sub_self, hd]; rfl
  · rw [orP, List.set_append_right _ _ (by omega), hl, Nat.sub_self, hd, List.set_cons_zero, orP, take_one ho]
    simp
theorem or7uc (q f q' f' : Bool) (a b : List Bool) (h : a.length = b.length) (hl : a.length ≤ 1000001) : ACall Try.prog 60 [.sl q f (bools a), .sl q' f' (bools b)] [] fun r s => r = .sl true false (bools (orB a b)) ∧ s = [] := by
  refine ACall.enter Try.func60 rfl (by kernel_rfl) (Nat.le_of_ble_eq_true rfl) ?_; simp only [initTm, Nat.reduceAdd]
  repeat' (first
  | refine gSq ?_ | refine gSk ?_ | refine gBl ?_ | refine gIb ?_ | refine gEx rfl ?_
  | ((first
  | (refine gRg [] [0, 1, 4, 5, 6, 13] ?_; intro K hK)
  | (refine gd_split ?_ ?_ <;> intro hb <;> (try simp only [bls] at hb) <;> (try simp only [hb]))
  | refine gRt [] [.tmp 4] rfl ?_ | refine gDn [] [.tmp 4] rfl ?_) <;> (try simp only [go_sem, simprocAttr]))
  | (refine hK _ _ ?_; clear hK K; simp only [go_sem, simprocAttr])
  | refine gCd (by simp only [go_sem, simprocAttr]; rfl) rfl ?_
  | refine brT ?_ | refine brF ?_
  | (refine brS ?_ ?_ <;> intro hc <;> (try simp only [bls] at hc) <;> (try simp only [hc, bls]))
  | intro _ | refine And.intro ?_ ?_)
  all_goals first | omega | (unfold bigLen; omega) | exact ⟨_, _, ⟨rfl, rfl⟩, rfl⟩ | exact ⟨_, rfl⟩ | (rename_i hy; simp only [List.mem_singleton] at hy; subst hy; rfl) | with_reducible rfl | skip
  · rename_i y hy; obtain ⟨x, _, rfl⟩ := List.mem_map.1 hy; rfl
  · rename_i y hy; obtain ⟨x, _, rfl⟩ := List.mem_map.1 hy; rfl
  rename_i h7
  refine AGood.prune [0, 1, 4, 5, 6] ?_; simp only [go_sem, simprocAttr]
  refine AGood.loopInv (α := Nat) (fun i => ([(0, .sl q f (bools a)), (1, .sl q' f' (bools b)), (4, .sl true true []), (5, .osl 7 h7 0 a.length), (6, .int .i64 i)], [(7, h7, .row 1 (bools (orP a b i)))])) (fun i => i ≤ a.length) (fun i => a.length - i) 0 (Nat.zero_le _) (by simp [orP]) ?_
  rintro i hi ih
  simp only at hi ih ⊢
  have hol := orP_len h hi
  by_cases hle : i < a.length
  · have e4 : (i : Int) < b.length := by omega
    have e4' : (i : Int) < a.length := by omega
    have e5 : (0 : Int) ≤ i := by omega
    have e6 : i < (orP a b i).length := by omega
    have e7 : (i : Int) + 1 = ((i + 1 : Nat) : Int) := by omega
    have ha : a[i]? = some a[i] := List.getElem?_eq_getElem hle
    have hb : b[i]? = some (b[i]'(by omega)) := List.getElem?_eq_getElem (by omega)
    generalize a[i] = x at ha
    generalize b[i]'(by omega) = y at hb
    obtain ⟨hg, hs⟩ := orP_get h ha hb
    cases x
    · simp only [Bool.false_or] at hs
      repeat' (first
  | refine gSq ?_ | refine gSk ?_ | refine gBl ?_ | refine gIb ?_ | refine gEx rfl ?_
  | ((first
  | (refine gRg [] [0, 1, 4, 5, 6, 13] ?_; intro K hK)
  | (refine gd_split ?_ ?_ <;> intro hb <;> (try simp only [bls] at hb) <;> (try simp only [hb]))
  | refine gRt [] [.tmp 4] rfl ?_ | refine gDn [] [.tmp 4] rfl ?_) <;> (try simp only [go_sem, simprocAttr, e4, e4', e5, e6, e7, hg, hb, Option.some.injEq, forall_eq']))
  | (refine hK _ _ ?_; clear hK K; simp only [go_sem, simprocAttr])
  | refine gCd (by simp only [go_sem, simprocAttr]; rfl) rfl ?_
  | refine brT ?_ | refine brF ?_
  | (refine brS ?_ ?_ <;> intro hc <;> (try simp only [bls] at hc) <;> (try simp only [hc, bls]))
  | intro _ | refine And.intro ?_ ?_)
      all_goals first | omega | (unfold bigLen; omega) | exact ⟨_, _, ⟨rfl, rfl⟩, rfl⟩ | exact ⟨_, rfl⟩ | (rename_i hy; simp only [List.mem_singleton] at hy; subst hy; rfl) | with_reducible rfl | skip
      rename_i z hz
      have hz2 : z = [.bool false] := by rw [List.getElem?_map, hg] at hz; exact (Option.some.inj hz).symm
      subst hz2
      refine AGood.filt [7] ?_
      simp only [sf_cons, sf_nil, go_sem, simprocAttr]
      refine AGood.prune [0, 1, 4, 5, 6] ?_; simp only [go_sem, simprocAttr]
      exact AGood.cast (ih (i + 1) (by omega) (by omega)) rfl (by rw [← hs]; simp [List.map_set])
    · simp only [Bool.true_or] at hs
      repeat' (first
  | refine gSq ?_ | refine gSk ?_ | refine gBl ?_ | refine gIb ?_ | refine gEx rfl ?_
  | ((first
  | (refine gRg [] [0, 1, 4, 5, 6, 13] ?_; intro K hK)
  | (refine gd_split ?_ ?_ <;> intro hb <;> (try simp only [bls] at hb) <;> (try simp only [hb]))
  | refine gRt [] [.tmp 4] rfl ?_ | refine gDn [] [.tmp 4] rfl ?_) <;> (try simp only [go_sem, simprocAttr, e4, e4', e5, e6, e7, hg, hb, Option.some.injEq, forall_eq']))
  | (refine hK _ _ ?_; clear hK K; simp only [go_sem, simprocAttr])
  | refine gCd (by simp only [go_sem, simprocAttr]; rfl) rfl ?_
  | refine brT ?_ | refine brF ?_
  | (refine brS ?_ ?_ <;> intro hc <;> (try simp only [bls] at hc) <;> (try simp only [hc, bls]))
  | intro _ | refine And.intro ?_ ?_)
      all_goals first | omega | (unfold bigLen; omega) | exact ⟨_, _, ⟨rfl, rfl⟩, rfl⟩ | exact ⟨_, rfl⟩ | (rename_i hy; simp only [List.mem_singleton] at hy; subst hy; rfl) | with_reducible rfl | skip
      rename_i z hz
      have hz2 : z = [.bool true] := by rw [List.getElem?_map, hg] at hz; exact (Option.some.inj hz).symm
      subst hz2
      refine AGood.filt [7] ?_
      simp only [sf_cons, sf_nil, go_sem, simprocAttr]
      refine AGood.prune [0, 1, 4, 5, 6] ?_; simp only [go_sem, simprocAttr]
      exact AGood.cast (ih (i + 1) (by omega) (by omega)) rfl (by rw [← hs]; simp [List.map_set])
  · have e4 : ¬ (i : Int) < b.length := by omega
    have e8 : orP a b i = orB a b := by
      rw [orP, List.take_of_length_le (by simp [orB]; omega), List.drop_eq_nil_of_le (by omega), List.append_nil]
    rw [e8]
    have e9 : (orB a b).length = a.length := by simp [orB]; omega
    have e15 : (bools (orB a b)).take a.length = bools (orB a b) := List.take_of_length_le (by simp [e9])
    clear ih
    repeat' (first
  | refine gSq ?_ | refine gSk ?_ | refine gBl ?_ | refine gIb ?_ | refine gEx rfl ?_
  | ((first
  | (refine AGood.at 6 ?_; (refine AGood.freeze 7 rfl ?_; simp only [rfT, rfS, rfO, rf, rf1, e15, e9, Nat.le_refl, true_and, go_sem, simprocAttr]); (refine gRg [] [0, 1, 4, 5, 6, 13] ?_; intro K hK))
  | (refine gRg [] [0, 1, 4, 5, 6, 13] ?_; intro K hK)
  | (refine gd_split ?_ ?_ <;> intro hb <;> (try simp only [bls] at hb) <;> (try simp only [hb]))
  | refine gRt [] [.tmp 4] rfl ?_ | refine gDn [] [.tmp 4] rfl ?_) <;> (try simp only [go_sem, simprocAttr, e4]))
  | (refine hK _ _ ?_; clear hK K; simp only [go_sem, simprocAttr])
  | refine gCd (by simp only [go_sem, simprocAttr]; rfl) rfl ?_
  | refine brT ?_ | refine brF ?_
  | (refine brS ?_ ?_ <;> intro hc <;> (try simp only [bls] at hc) <;> (try simp only [hc, bls]))
  | intro _ | refine And.intro ?_ ?_)
    all_goals first | omega | (unfold bigLen; omega) | exact ⟨_, _, ⟨rfl, rfl⟩, rfl⟩ | exact ⟨_, rfl⟩ | (rename_i hy; simp only [List.mem_singleton] at hy; subst hy; rfl) | with_reducible rfl | skip
def oneP (s : ISet) (w : ByteArray) (fr : List Bool) (i : Nat) : List Bool := (false :: (List.range i).map (hit s w fr)) ++ falses (w.size - i)
theorem oneP_step {s : ISet} {w : ByteArray} {fr : List Bool} {i : Nat} (hi : i < w.size) : (oneP s w fr i).length = w.size + 1 ∧ (oneP s w fr i)[i + 1]? = some false ∧ (oneP s w fr i).set (i + 1) (hit s w fr i) = oneP s w fr (i + 1) := by
  have hl : (false :: (List.range i).map (hit s w fr)).length = i + 1 := by simp
  obtain ⟨k, hk⟩ : ∃ k, w.size - i = k + 1 := ⟨w.size - i - 1, by omega⟩
  have hk2 : w.size - (i + 1) = k := by omega
  refine ⟨by simp only [oneP, List.length_append, hl, falses_len]; omega, ?_, ?_⟩
  · rw [oneP, List.getElem?_append_right (by omega), hl, Nat.sub_self, hk]; rfl
  · rw [oneP, List.set_append_right _ _ (by omega), hl, Nat.sub_self, hk, oneP, hk2, List.range_succ, List.map_append]
    simp [falses, List.replicate_succ]
theorem one7uc (s : ISet) (q f : Bool) (w : ByteArray) (fr : List Bool) (hw : w.size ≤ 1000000) (hf : fr.length = w.size + 1) : ACall Try.prog 59 [.agg s.cells, .str w, .sl q f (bools fr)] [] fun r s' => r = .sl true false (bools (oneB s w fr)) ∧ s' = [] := by
  have hpl := places_c w hw
  have hh := fun b hb => has_c s.a s.b s.c s.d b hb
  obtain ⟨sa, sb, sc, sd⟩ := s
  simp only [ISet.cells]
  simp only at hh
  obtain ⟨S, hS⟩ : ∃ S : ISet, S = ⟨sa, sb, sc, sd⟩ := ⟨_, rfl⟩
  rw [← hS] at hh ⊢
  have h0 : oneP S w fr 0 = falses (w.size + 1) := by simp [oneP, falses, List.replicate_succ]
  refine ACall.enter Try.func59 rfl (by kernel_rfl) (Nat.le_of_ble_eq_true rfl) ?_; simp only [initTm, Nat.reduceAdd]
  repeat' (first
  | refine gSq ?_ | refine gSk ?_ | refine gBl ?_ | refine gIb ?_ | refine gEx rfl ?_
  | ((first
  | (refine gRg [] [0, 1, 2, 3, 6, 7, 8, 14, 27] ?_; intro K hK)
  | (refine gDr 5 [] 11 [0, 1, 2, 3, 4, 5, 6, 7, 8, 9, 10] [0, 1, 2, 3, 6, 7, 8, 14, 27] rfl ?_; intro K hK)
  | (refine ACall.use [(6, 10)] [] rfl hpl rfl rfl rfl ?_; rintro _ _ ⟨h6, rfl, rfl⟩; refine ⟨.inl rfl, rfl, ?_⟩; simp only [bk, bk1, bkS, bkO, idOf, delAll, go_sem, simprocAttr])
  | (refine gd_split ?_ ?_ <;> intro hb <;> (try simp only [bls] at hb) <;> (try simp only [hb]))
  | refine gRt [] [.tmp 6] rfl ?_ | refine gDn [] [.tmp 6] rfl ?_) <;> (try simp only [go_sem, simprocAttr]))
  | (refine hK _ _ ?_; clear hK K; simp only [go_sem, simprocAttr])
  | refine gCd (by simp only [go_sem, simprocAttr]; rfl) rfl ?_
  | refine brT ?_ | refine brF ?_
  | (refine brS ?_ ?_ <;> intro hc <;> (try simp only [bls] at hc) <;> (try simp only [hc, bls]))
  | intro _ | refine And.intro ?_ ?_)
  all_goals first | omega | (unfold bigLen; omega) | exact ⟨_, _, ⟨rfl, rfl⟩, rfl⟩ | exact ⟨_, rfl⟩ | (rename_i hy; simp only [List.mem_singleton] at hy; subst hy; rfl) | with_reducible rfl | skip
  rename_i h3
  refine AGood.prune [1, 2, 3, 6, 7, 8] ?_; simp only [go_sem, simprocAttr]
  refine AGood.loopInv (α := Nat) (fun i => ([(1, .str w), (2, .sl q f (bools fr)), (3, .bx 3 h3 0), (6, .sl true true []), (7, .osl 10 h6 0 (w.size + 1)), (8, .int .i64 i)], [(3, h3, .box [.int .u64 sa, .int .u64 sb, .int .u64 sc, .int .u64 sd]), (10, h6, .row 1 (bools (oneP S w fr i)))])) (fun i => i ≤ w.size) (fun i => w.size - i) 0 (Nat.zero_le _) (by rw [h0]; rfl) ?_
  rintro i hi ih
  simp only at hi ih ⊢
  by_cases hle : i < w.size
  · have e4 : (i : Int) < w.size := by omega
    have e5 : (0 : Int) ≤ i := by omega
    have e6 : (i : Int) + 1 = ((i + 1 : Nat) : Int) := by omega
    have e7 : (i : Int) < fr.length := by omega
    have e8 := sbyte_at w i
    obtain ⟨o1, o2, o3⟩ := oneP_step (s := S) (fr := fr) hle
    have e9 : i + 1 < (oneP S w fr i).length := by omega
    have e10 : ((i + 1 : Nat) : Int) < ((w.size + 1 : Nat) : Int) := by omega
    have e11 : (0 : Int) ≤ ((i + 1 : Nat) : Int) := by omega
    have hfr : fr[i]? = some (fr[i]'(by omega)) := List.getElem?_eq_getElem (by omega)
    have hgd : fr.getD i false = fr[i]'(by omega) := by simp [List.getD, hf, show i < w.size + 1 by omega]
    have hc := hh (byteAt w i) (byteAt_le w i)
    rw [hit, hgd] at o3
    generalize fr[i]'(by omega) = x at hfr o3
    cases x
    · rw [Bool.false_and] at o3
      have o4 : oneP S w fr (i + 1) = oneP S w fr i := by
        rw [← o3]
        refine List.ext_getElem? fun j => ?_
        rw [List.getElem?_set]
        split
        · rename_i e; subst e; first | exact o2.symm | (split <;> first | exact o2.symm | (rename_i h; exact absurd e9 h))
        · rfl
      repeat' (first
  | refine gSq ?_ | refine gSk ?_ | refine gBl ?_ | refine gIb ?_ | refine gEx rfl ?_
  | ((first
  | (refine gRg [] [0, 1, 2, 3, 6, 7, 8, 14, 27] ?_; intro K hK)
  | (refine gDr 5 [] 11 [0, 1, 2, 3, 4, 5, 6, 7, 8, 9, 10] [0, 1, 2, 3, 6, 7, 8, 14, 27] rfl ?_; intro K hK)
  | (refine gd_split ?_ ?_ <;> intro hb <;> (try simp only [bls] at hb) <;> (try simp only [hb]))
  | refine gRt [] [.tmp 6] rfl ?_ | refine gDn [] [.tmp 6] rfl ?_) <;> (try simp only [go_sem, simprocAttr, e4, e5, e6, e7, hfr, Option.some.injEq, forall_eq']))
  | (refine hK _ _ ?_; clear hK K; simp only [go_sem, simprocAttr])
  | refine gCd (by simp only [go_sem, simprocAttr]; rfl) rfl ?_
  | refine brT ?_ | refine brF ?_
  | (refine brS ?_ ?_ <;> intro hc <;> (try simp only [bls] at hc) <;> (try simp only [hc, bls]))
  | intro _ | refine And.intro ?_ ?_)
      all_goals first | omega | (unfold bigLen; omega) | exact ⟨_, _, ⟨rfl, rfl⟩, rfl⟩ | exact ⟨_, rfl⟩ | (rename_i hy; simp only [List.mem_singleton] at hy; subst hy; rfl) | with_reducible rfl | skip
      refine AGood.filt [3, 10] ?_
      simp only [sf_cons, sf_nil, go_sem, simprocAttr]
      refine AGood.prune [1, 2, 3, 6, 7, 8] ?_; simp only [go_sem, simprocAttr]
      exact AGood.cast (ih (i + 1) (by omega) (by omega)) rfl (by rw [o4])
    · rw [Bool.true_and] at o3
      cases hb : hasI S (byteAt w i)
      · rw [hb] at hc o3
        have o4 : oneP S w fr (i + 1) = oneP S w fr i := by
          rw [← o3]
          refine List.ext_getElem? fun j => ?_
          rw [List.getElem?_set]
          split
          · rename_i e; subst e; first | exact o2.symm | (split <;> first | exact o2.symm | (rename_i h; exact absurd e9 h))
          · rfl
        repeat' (first
  | refine gSq ?_ | refine gSk ?_ | refine gBl ?_ | refine gIb ?_ | refine gEx rfl ?_
  | ((first
  | (refine gRg [] [0, 1, 2, 3, 6, 7, 8, 14, 27] ?_; intro K hK)
  | (refine gDr 5 [] 11 [0, 1, 2, 3, 4, 5, 6, 7, 8, 9, 10] [0, 1, 2, 3, 6, 7, 8, 14, 27] rfl ?_; intro K hK)
  | refine ⟨_, ACall.alone (hc) rfl rfl rfl, ?_⟩
  | (refine gd_split ?_ ?_ <;> intro hb <;> (try simp only [bls] at hb) <;> (try simp only [hb]))
  | refine gRt [] [.tmp 6] rfl ?_ | refine gDn [] [.tmp 6] rfl ?_) <;> (try simp only [go_sem, simprocAttr, e4, e5, e6, e7, e8, hfr, Option.some.injEq, forall_eq']))
  | (refine hK _ _ ?_; clear hK K; simp only [go_sem, simprocAttr])
  | refine gCd (by simp only [go_sem, simprocAttr]; rfl) rfl ?_
  | refine brT ?_ | refine brF ?_
  | (refine brS ?_ ?_ <;> intro hc <;> (try simp only [bls] at hc) <;> (try simp only [hc, bls]))
  | intro _ | refine And.intro ?_ ?_)
        all_goals first | omega | (unfold bigLen; omega) | exact ⟨_, _, ⟨rfl, rfl⟩, rfl⟩ | exact ⟨_, rfl⟩ | (rename_i hy; simp only [List.mem_singleton] at hy; subst hy; rfl) | with_reducible rfl | skip
        refine AGood.filt [3, 10] ?_
        simp only [sf_cons, sf_nil, go_sem, simprocAttr]
        refine AGood.prune [1, 2, 3, 6, 7, 8] ?_; simp only [go_sem, simprocAttr]
        exact AGood.cast (ih (i + 1) (by omega) (by omega)) rfl (by rw [o4])
      · rw [hb] at hc o3
        repeat' (first
  | refine gSq ?_ | refine gSk ?_ | refine gBl ?_ | refine gIb ?_ | refine gEx rfl ?_
  | ((first
  | (refine gRg [] [0, 1, 2, 3, 6, 7, 8, 14, 27] ?_; intro K hK)
  | (refine gDr 5 [] 11 [0, 1, 2, 3, 4, 5, 6, 7, 8, 9, 10] [0, 1, 2, 3, 6, 7, 8, 14, 27] rfl ?_; intro K hK)
  | refine ⟨_, ACall.alone (hc) rfl rfl rfl, ?_⟩
  | (refine gd_split ?_ ?_ <;> intro hb <;> (try simp only [bls] at hb) <;> (try simp only [hb]))
  | refine gRt [] [.tmp 6] rfl ?_ | refine gDn [] [.tmp 6] rfl ?_) <;> (try simp only [go_sem, simprocAttr, e4, e5, e6, e7, e8, e9, e10, e11, hfr, Option.some.injEq, forall_eq']))
  | (refine hK _ _ ?_; clear hK K; simp only [go_sem, simprocAttr])
  | refine gCd (by simp only [go_sem, simprocAttr]; rfl) rfl ?_
  | refine brT ?_ | refine brF ?_
  | (refine brS ?_ ?_ <;> intro hc <;> (try simp only [bls] at hc) <;> (try simp only [hc, bls]))
  | intro _ | refine And.intro ?_ ?_)
        all_goals first | omega | (unfold bigLen; omega) | exact ⟨_, _, ⟨rfl, rfl⟩, rfl⟩ | exact ⟨_, rfl⟩ | (rename_i hy; simp only [List.mem_singleton] at hy; subst hy; rfl) | with_reducible rfl | skip
        rename_i z hz
        have hz2 : z = [.bool false] := by rw [List.getElem?_map, o2] at hz; exact (Option.some.inj hz).symm
        subst hz2
        refine AGood.filt [3, 10] ?_
        simp only [sf_cons, sf_nil, go_sem, simprocAttr]
        refine AGood.prune [1, 2, 3, 6, 7, 8] ?_; simp only [go_sem, simprocAttr]
        exact AGood.cast (ih (i + 1) (by omega) (by omega)) rfl (by rw [← o3]; simp [List.map_set])
  · have e4 : ¬ (i : Int) < w.size := by omega
    have e12 : oneP S w fr i = oneB S w fr := by
      have : i = w.size := by omega
      subst this
      simp [oneP, oneB, falses]
    rw [e12]
    have e13 : (oneB S w fr).length = w.size + 1 := by simp [oneB]
    have e15 : (bools (oneB S w fr)).take (w.size + 1) = bools (oneB S w fr) := List.take_of_length_le (by simp [e13])
    clear ih
    repeat' (first
  | refine gSq ?_ | refine gSk ?_ | refine gBl ?_ | refine gIb ?_ | refine gEx rfl ?_
  | ((first
  | (refine AGood.at 7 ?_; (refine AGood.freeze 10 rfl ?_; simp only [rfT, rfS, rfO, rf, rf1, e15, e13, Nat.le_refl, true_and, go_sem, simprocAttr]); (refine gRg [] [0, 1, 2, 3, 6, 7, 8, 14, 27] ?_; intro K hK))
  | (refine gRg [] [0, 1, 2, 3, 6, 7, 8, 14, 27] ?_; intro K hK)
  | (refine gDr 5 [] 11 [0, 1, 2, 3, 4, 5, 6, 7, 8, 9, 10] [0, 1, 2, 3, 6, 7, 8, 14, 27] rfl ?_; intro K hK)
  | (refine gd_split ?_ ?_ <;> intro hb <;> (try simp only [bls] at hb) <;> (try simp only [hb]))
  | refine gRt [] [.tmp 6] rfl ?_ | refine gDn [] [.tmp 6] rfl ?_) <;> (try simp only [go_sem, simprocAttr, e4]))
  | (refine hK _ _ ?_; clear hK K; simp only [go_sem, simprocAttr])
  | refine gCd (by simp only [go_sem, simprocAttr]; rfl) rfl ?_
  | refine brT ?_ | refine brF ?_
  | (refine brS ?_ ?_ <;> intro hc <;> (try simp only [bls] at hc) <;> (try simp only [hc, bls]))
  | intro _ | refine And.intro ?_ ?_)
    all_goals first | omega | (unfold bigLen; omega) | exact ⟨_, _, ⟨rfl, rfl⟩, rfl⟩ | exact ⟨_, rfl⟩ | (rename_i hy; simp only [List.mem_singleton] at hy; subst hy; rfl) | with_reducible rfl | skip
end Go.Rad
