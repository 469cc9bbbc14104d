/- What the head of all statements of layer 6 computes. -/
import Derived.Test.YtejdlelhlpnabaaDoorKL06h
import Derived.Test.YtejdlelhlpnabaaDoorKC04k
set_option linter.all false
namespace Go.Rad
open Go Go.Proofs
set_option linter.all false
set_option maxRecDepth 20000
set_option maxHeartbeats 4000000

abbrev tRef : ByteArray := ⟨#[123, 100, 125]⟩
abbrev tRefs : ByteArray := ⟨#[123, 100, 125, 43]⟩
abbrev tRefa : ByteArray := ⟨#[123, 100, 125, 97]⟩
abbrev tCls : ByteArray := ⟨#[91, 48, 45, 57, 93]⟩
abbrev tClss : ByteArray := ⟨#[91, 48, 45, 57, 93, 43]⟩
abbrev tD : ByteArray := ⟨#[100]⟩
def shown6 : Bool :=
  match parseR tRefs 12, parseR tCls 12, parseR tClss 12, parseR tRef 12, parseR tRefa 12 with
  | some a, some b, some c, some d, some e => rightS a && rightS b && rightS c && rightS d && rightS e && decide (expandS a [⟨tD, b⟩] = (c, 0)) && decide ((expandS d [⟨tD, e⟩]).2 = 61)
  | _, _, _, _, _ => false
theorem shown6utrue : shown6 = true := by decide +kernel
theorem shown6uc : ACall Tryd.prog 7 [] [] fun r s => r = .bool true ∧ s = [] := by
  have h := shown6utrue
  unfold shown6 at h
  split at h
  · rename_i a b c d e ha hb hc hd he
    simp only [Bool.and_eq_true, decide_eq_true_eq] at h
    obtain ⟨⟨⟨⟨⟨⟨r1, r2⟩, r3⟩, r4⟩, r5⟩, x1⟩, x2⟩ := h
    have p1 := parse_c _ _ _ ha
    have p2 := parse_c _ _ _ hb
    have p3 := parse_c _ _ _ hc
    have p4 := parse_c _ _ _ hd
    have p5 := parse_c _ _ _ he
    have y1 := expand_c true false true false a [⟨tD, b⟩] (rightS_bounds r1) (by simp) (fun d hd => by simp only [List.mem_singleton] at hd; subst hd; exact ⟨(show tD.size ≤ maxLen by decide), rightS_bounds r2⟩)
    have y2 := expand_c true false true false d [⟨tD, e⟩] (rightS_bounds r4) (by simp) (fun d hd => by simp only [List.mem_singleton] at hd; subst hd; exact ⟨(show tD.size ≤ maxLen by decide), rightS_bounds r5⟩)
    rw [x1] at y1
    rw [x2] at y2
    generalize (expandS d [⟨tD, e⟩]).1 = z at y2
    have hsame := fun q f q' f' => same4uc q f q' f' c c (by obtain ⟨_, _, _, h⟩ := rightS_kids r3; omega) fun n h => (rightS_bounds r3 n h).2
    simp only [decide_true] at hsame
    simp only [defs, List.map_cons, List.map_nil, Df.cells] at y1 y2
    refine ACall.enter Tryd.func7 rfl (by kernel_rfl) (Nat.le_of_ble_eq_true rfl) ?_; simp only [initTm, Nat.reduceAdd]
    repeat' (first
    | refine AGood.seq ?_ | refine AGood.skip ?_ | refine AGood.block ?_ | refine AGood.inBlock ?_ | refine AGood.exit rfl ?_
    | ((first
    | (refine AGood.reg LL_ok [49, 57] [0, 1, 4, 7, 10, 13, 16, 17, 19] (by kernel_rfl) ?_; intro K hK)
    | (refine ACall.mono (ACall.alone (p1) rfl rfl rfl) ?_; rintro _ _ ⟨rfl, rfl⟩)
    | (refine ACall.mono (ACall.alone (p2) rfl rfl rfl) ?_; rintro _ _ ⟨rfl, rfl⟩)
    | (refine ACall.mono (ACall.alone (p3) rfl rfl rfl) ?_; rintro _ _ ⟨rfl, rfl⟩)
    | (refine ACall.mono (ACall.alone (p4) rfl rfl rfl) ?_; rintro _ _ ⟨rfl, rfl⟩)
    | (refine ACall.mono (ACall.alone (p5) rfl rfl rfl) ?_; rintro _ _ ⟨rfl, rfl⟩)
    | (refine ACall.mono (ACall.alone (hsame _ _ _ _) rfl rfl rfl) ?_; rintro _ _ ⟨rfl, rfl⟩)
    | (refine ACall.use [] [] rfl y1 rfl rfl rfl ?_; rintro _ _ ⟨⟨fl, rfl⟩, rfl⟩; refine ⟨.inl rfl, rfl, ?_⟩; simp only [bk, bk1, bkS, delAll, List.map_cons, List.map_nil])
    | (refine ACall.use [] [] rfl y2 rfl rfl rfl ?_; rintro _ _ ⟨⟨fl2, rfl⟩, rfl⟩; refine ⟨.inl rfl, rfl, ?_⟩; simp only [bk, bk1, bkS, delAll, List.map_cons, List.map_nil])
    | (refine gd_split ?_ ?_ <;> intro hb <;> (try simp only [Bool.not_eq_true', Bool.not_eq_false', decide_eq_true_eq, decide_eq_false_iff_not, Bool.not_true, Bool.not_false, Bool.not_eq_true, Bool.not_eq_false] at hb) <;> (try simp only [hb]))
    | refine AGood.retF LL_ok [] [.tmp 0] rfl ?_
    | refine AGood.doneF LL_ok [] [.tmp 0] rfl ?_) <;> (try simp only [go_sem, Nat.reduceAdd, Nat.reduceSub, Nat.reduceMul, Nat.reduceLT, Nat.reduceLeDiff, Nat.reduceEqDiff, Nat.reduceDiv, Nat.reduceBEq, Int.reduceNeg, reduceCtorEq, ↓reduceIte, Int.reduceEq, Int.reduceLT, Int.reduceLE, Int.reduceToNat, Int.reduceAdd, Int.reduceSub, Int.reduceMul, Nat.reducePow, Nat.reduceBNe]))
    | (refine hK _ _ ?_; clear hK K; simp only [prune, List.map_cons, List.map_nil, lk_hit, lk_miss, lk_nil, ne_eq, Nat.reduceEqDiff, not_false_eq_true])
    | (refine AGood.condT ?_ rfl ?_; focus (simp only [ev_tmp, ev_const, oc_bool, lk_hit, lk_miss, ne_eq, Nat.reduceEqDiff, not_false_eq_true]; done))
    | (refine AGood.condF ?_ rfl ?_; focus (simp only [ev_tmp, ev_const, oc_bool, lk_hit, lk_miss, ne_eq, Nat.reduceEqDiff, not_false_eq_true]; done))
    | (refine AGood.cond (by simp only [ev_tmp, ev_const, oc_bool, lk_hit, lk_miss, ne_eq, Nat.reduceEqDiff, not_false_eq_true]; rfl) rfl ?_ ?_ <;> intro hc <;> (try simp only [Bool.not_eq_true', Bool.not_eq_false', decide_eq_true_eq, decide_eq_false_iff_not, Bool.not_true, Bool.not_false, Bool.not_eq_true, Bool.not_eq_false] at hc) <;> (try simp only [hc, decide_true, decide_false, Bool.not_true, Bool.not_false]))
    | (intro _)
    | (refine And.intro ?_ ?_))
    all_goals first | omega | (unfold bigLen; omega) | exact ⟨_, _, ⟨rfl, rfl⟩, rfl⟩ | exact ⟨_, rfl⟩ | (rename_i hy; simp only [List.mem_singleton] at hy; subst hy; rfl) | skip
  · cases h
end Go.Rad
