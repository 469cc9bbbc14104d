/- Contracts: the document's reader of patterns: a class of bytes. -/
import Derived.Test.YtejdlelhlpnabaaDoorKC04f
set_option linter.all false
namespace Go.Rad
open Go Go.Proofs
set_option linter.all false
set_option maxRecDepth 20000
set_option maxHeartbeats 4000000

def memPair (s : ByteArray) (r : Rd) : Rd × Int × Int :=
  if bI s (memberS s r).1.p = 45 then ((memberS s ((memberS s r).1.next 1)).1, (memberS s r).2, (memberS s ((memberS s r).1.next 1)).2)
  else ((memberS s r).1, (memberS s r).2, (memberS s r).2)
/-- What is told nothing of: a class without an end, bytes from one to a lesser one. -/
def memBad (s : ByteArray) (r : Rd) : Bool := endsB s (memberS s r).1 || (decide (bI s (memberS s r).1.p = 45) && decide ((memberS s ((memberS s r).1.next 1)).2 < (memberS s r).2))
def classLoop (s : ByteArray) : Nat → Rd → List ISet → Option (Rd × List ISet)
  | 0, _, _ => none
  | f + 1, r, l =>
    if 10000 < l.length ∨ endsB s r = true then none
    else if l = [] ∨ bI s r.p ≠ 93 then (if memBad s r = true then none else classLoop s f (memPair s r).1 (l ++ [rangeI (memPair s r).2.1.toNat (memPair s r).2.2.toNat]))
    else some (r, l)
theorem memPair_facts (s : ByteArray) (r : Rd) : (memPair s r).1.nodes = r.nodes ∧ (memPair s r).1.deep = r.deep := by
  have h1 := memberS_facts s r
  have h2 := memberS_facts s ((memberS s r).1.next 1)
  unfold memPair
  split
  · rw [h2.2.1, h2.2.2.1]; exact ⟨h1.2.1, h1.2.2.1⟩
  · exact ⟨h1.2.1, h1.2.2.1⟩
theorem classLoop_facts {s : ByteArray} : ∀ {f : Nat} {r q : Rd} {l m : List ISet}, classLoop s f r l = some (q, m) → q.nodes = r.nodes ∧ q.deep = r.deep ∧ m.length ≤ 10000 ∧ endsB s q = false
  | 0, _, _, _, _, h => by simp [classLoop] at h
  | f + 1, r, q, l, m, h => by
    rw [classLoop] at h
    split at h
    · cases h
    · rename_i hn
      split at h
      · split at h
        · cases h
        · obtain ⟨a, b, c⟩ := classLoop_facts h
          have := memPair_facts s r
          exact ⟨a.trans this.1, b.trans this.2, c⟩
      · simp only [Option.some.injEq, Prod.mk.injEq] at h
        obtain ⟨rfl, rfl⟩ := h
        simp only [not_or, Bool.not_eq_true] at hn
        exact ⟨rfl, rfl, by omega, hn.2⟩
/-- A class of bytes (not one of all others). -/
def classR (s : ByteArray) (F : Nat) (r : Rd) : Option (Rd × Int) :=
  if 100000 < r.nodes.length ∨ endsB s (r.next 1) = true ∨ bI s (r.p + 1) = 94 then none else
  match classLoop s F (r.next 1) [] with
  | none => none
  | some (q, l) =>
    if orI l = ISet.none then some (failS q 44 q.p, 0)
    else some (putR (q.next 1) ⟨2, orI l, [], 0, 0, ByteArray.empty⟩, q.nodes.length)

theorem classR_c (s : ByteArray) (hs : s.size ≤ 1000000) (F : Nat) (r q : Rd) (v : Int) (g g1 : Nat) (hp : r.p < s.size) (h : classR s F r = some (q, v)) :
    ACall Tryd.prog 63 [.bx 1000 g 0] (rsto g g1 s r) fun x s' => x = .int .i64 v ∧ ∃ h1, s' = rsto g h1 s q := by
  obtain ⟨p, ns, deep, e, wh⟩ := r
  simp only at hp
  unfold classR at h
  split at h
  · cases h
  rename_i hns
  simp only [not_or, Bool.not_eq_true] at hns
  obtain ⟨hns, he, h94⟩ := hns
  have e0 : (0 : Int) ≤ p := by omega
  have e1 : (p : Int) < s.size := by omega
  have e2 : (p : Int) + 1 = ((p + 1 : Nat) : Int) := by omega
  have hends := ends_c s ⟨p + 1, ns, deep, e, wh⟩ g g1
  simp only [Rd.next] at h he hns h94
  rw [he] at hends
  have he' := he
  simp only [endsB, Bool.or_eq_false_iff, decide_eq_false_iff_not, Decidable.not_not] at he'
  obtain ⟨he1, rfl⟩ := he'
  have e3 : (0 : Int) ≤ (p + 1 : Nat) := by omega
  have e4 : ((p + 1 : Nat) : Int) < s.size := by omega
  cases hlo : classLoop s F ⟨p + 1, ns, deep, 0, wh⟩ [] with
  | none => rw [hlo] at h; cases h
  | some w =>
    obtain ⟨⟨wp, wn, wd, we, ww⟩, m⟩ := w
    rw [hlo] at h
    simp only at h
    obtain ⟨f1, f2, f3, f4⟩ := classLoop_facts hlo
    simp only at f1 f2
    subst f1 f2
    simp only [rsto] at hends ⊢
    refine ACall.enter Tryd.func63 rfl (by kernel_rfl) (Nat.le_of_ble_eq_true rfl) ?_; simp only [initTm, Nat.reduceAdd]
    repeat' (first
    | refine AGood.seq ?_ | refine AGood.skip ?_ | refine AGood.block ?_ | refine AGood.inBlock ?_ | refine AGood.exit rfl ?_
    | ((first
    | (refine AGood.reg LL_ok [] [0, 2, 3, 4, 5, 6, 7, 8, 31, 65, 83, 99, 113, 116, 121] (by kernel_rfl) ?_; intro K hK)
    | (refine AGood.at 2 ?_; refine AGood.drawn LL_ok mixed [] 16 [0, 1, 2, 3, 4, 5, 6, 7, 8, 9, 10, 11, 12, 13, 14, 15] [0, 2, 3, 4, 5, 6, 7, 8, 31, 65, 83, 99, 113, 116, 121] (by kernel_rfl) (by rfl) ?_; intro K hK)
    | (refine AGood.at 6 ?_; refine AGood.drawn LL_ok mixed [] 26 [0, 1, 2, 3, 4, 5, 6, 7, 8, 9, 10, 11, 12, 13, 14, 15, 16, 17, 18, 19, 20, 21, 22, 23, 24, 25] [0, 2, 3, 4, 5, 6, 7, 8, 31, 65, 83, 99, 113, 116, 121] (by kernel_rfl) (by rfl) ?_; intro K hK)
    | (refine AGood.at 9 ?_; refine AGood.drawn LL_ok mixed [] 15 [0, 1, 2, 3, 4, 5, 6, 7, 8, 9, 10, 11, 12, 13, 14] [0, 2, 3, 4, 5, 6, 7, 8, 31, 65, 83, 99, 113, 116, 121] (by kernel_rfl) (by rfl) ?_; intro K hK)
    | (refine ⟨_, hends, ?_⟩)
    | (refine gd_split ?_ ?_ <;> intro hb <;> (try simp only [Bool.not_eq_true', Bool.not_eq_false', decide_eq_true_eq, decide_eq_false_iff_not, Bool.not_true, Bool.not_false, Bool.not_eq_true, Bool.not_eq_false] at hb) <;> (try simp only [hb]))
    | refine AGood.retF LL_ok [1000, 1001] [.tmp 2] rfl ?_
    | refine AGood.doneF LL_ok [1000, 1001] [.tmp 2] rfl ?_) <;> (try simp only [go_sem, Nat.reduceAdd, Nat.reduceSub, Nat.reduceMul, Nat.reduceLT, Nat.reduceLeDiff, Nat.reduceEqDiff, Nat.reduceDiv, Nat.reduceBEq, Int.reduceNeg, reduceCtorEq, ↓reduceIte, Int.reduceEq, Int.reduceLT, Int.reduceLE, Int.reduceToNat, Int.reduceAdd, Int.reduceSub, Int.reduceMul, Nat.reducePow, Nat.reduceBNe, e0, e1, e2, e3, e4, h94, sbyte_bt]))
    | (refine hK _ _ ?_; clear hK K; simp only [prune, List.map_cons, List.map_nil, lk_hit, lk_miss, lk_nil, ne_eq, Nat.reduceEqDiff, not_false_eq_true])
    | (refine AGood.condT ?_ rfl ?_; focus (simp only [ev_tmp, ev_const, oc_bool, lk_hit, lk_miss, ne_eq, Nat.reduceEqDiff, not_false_eq_true]; done))
    | (refine AGood.condF ?_ rfl ?_; focus (simp only [ev_tmp, ev_const, oc_bool, lk_hit, lk_miss, ne_eq, Nat.reduceEqDiff, not_false_eq_true]; done))
    | (refine AGood.cond (by simp only [ev_tmp, ev_const, oc_bool, lk_hit, lk_miss, ne_eq, Nat.reduceEqDiff, not_false_eq_true]; rfl) rfl ?_ ?_ <;> intro hc <;> (try simp only [Bool.not_eq_true', Bool.not_eq_false', decide_eq_true_eq, decide_eq_false_iff_not, Bool.not_true, Bool.not_false, Bool.not_eq_true, Bool.not_eq_false] at hc) <;> (try simp only [hc, decide_true, decide_false, Bool.not_true, Bool.not_false]))
    | (intro _)
    | (refine And.intro ?_ ?_))
    all_goals first | omega | (unfold bigLen; omega) | exact ⟨_, _, ⟨rfl, rfl⟩, rfl⟩ | exact ⟨_, rfl⟩ | (rename_i hy; simp only [List.mem_singleton] at hy; subst hy; rfl) | skip
    rename_i h39
    refine AGood.prune [0, 3, 4] ?_; simp only [prune, List.map_cons, List.map_nil, lk_hit, lk_miss, lk_nil, ne_eq, Nat.reduceEqDiff, not_false_eq_true]
    refine AGood.loopInv (α := Nat × Rd × List ISet × Nat) (fun x => ([(0, .bx 1000 g 0), (3, .bool false), (4, .osl 39 x.2.2.2 0 x.2.2.1.length)], (39, (x.2.2.2, .row 4 (sets x.2.2.1))) :: rsto g g1 s x.2.1)) (fun x => x.2.1.nodes = wn ∧ x.2.1.deep = wd ∧ classLoop s x.1 x.2.1 x.2.2.1 = some (⟨wp, wn, wd, we, ww⟩, m)) (fun x => x.1) (F, ⟨(p + 1), wn, wd, 0, wh⟩, [], h39) ⟨rfl, rfl, hlo⟩ rfl ?_
    rintro ⟨f, ⟨cp, cn, cd, ce, cw⟩, l, hh⟩ ⟨q1, q2, q3⟩ ih
    simp only at q1 q2 q3 ih ⊢
    subst q1 q2
    cases f with
    | zero => simp [classLoop] at q3
    | succ f =>
      rw [classLoop] at q3
      split at q3
      · cases q3
      rename_i hl10
      simp only [not_or, Bool.not_eq_true] at hl10
      obtain ⟨hl10, he2⟩ := hl10
      have hends2 := ends_c s ⟨cp, cn, cd, ce, cw⟩ g g1
      rw [he2] at hends2
      have he2' := he2
      simp only [endsB, Bool.or_eq_false_iff, decide_eq_false_iff_not, Decidable.not_not] at he2'
      obtain ⟨he3, rfl⟩ := he2'
      have j0 : (0 : Int) ≤ cp := by omega
      have j1 : (cp : Int) < s.size := by omega
      have j2 : (cp : Int) + 1 = ((cp + 1 : Nat) : Int) := by omega
      by_cases hC : l = [] ∨ bI s cp ≠ 93
      · rw [if_pos hC] at q3
        split at q3
        · cases q3
        rename_i hbad
        have hmem := member_c s ⟨cp, cn, cd, 0, cw⟩ g g1 hs
        have mf := memberS_facts s ⟨cp, cn, cd, 0, cw⟩
        simp only [memBad, Bool.not_eq_true, Bool.or_eq_false_iff, Bool.and_eq_false_iff, decide_eq_false_iff_not] at hbad
        rw [memPair] at q3
        rcases hm : memberS s ⟨cp, cn, cd, 0, cw⟩ with ⟨⟨p1, n1, d1, e1', w1⟩, v1⟩
        simp only [hm] at hmem mf q3 hbad
        obtain ⟨_, rfl, rfl, v0, v255⟩ := mf
        obtain ⟨lo, rfl⟩ : ∃ lo : Nat, v1 = lo := ⟨v1.toNat, by omega⟩
        have hends3 := ends_c s ⟨p1, n1, d1, e1', w1⟩ g g1
        obtain ⟨hD1, hbad⟩ := hbad
        have hD1' := hD1
        simp only [endsB, Bool.or_eq_false_iff, decide_eq_false_iff_not, Decidable.not_not] at hD1'
        obtain ⟨hD3, rfl⟩ := hD1'
        have i0 : (0 : Int) ≤ p1 := by omega
        have i1 : (p1 : Int) < s.size := by omega
        have i2 : (p1 : Int) + 1 = ((p1 + 1 : Nat) : Int) := by omega
        rw [hD1] at hends3
        by_cases hD2 : bI s p1 = 45
        · rw [if_pos hD2] at q3
          have hmem2 := member_c s ⟨p1 + 1, n1, d1, 0, w1⟩ g g1 hs
          have mf2 := memberS_facts s ⟨p1 + 1, n1, d1, 0, w1⟩
          simp only [Rd.next, hD2, not_true_eq_false, false_or] at q3 hbad
          rcases hm2 : memberS s ⟨p1 + 1, n1, d1, 0, w1⟩ with ⟨⟨p3, n3, d3, e3', w3⟩, v3⟩
          simp only [hm2] at hmem2 mf2 q3 hbad
          obtain ⟨_, rfl, rfl, x0, x255⟩ := mf2
          obtain ⟨hi, rfl⟩ : ∃ hi : Nat, v3 = hi := ⟨v3.toNat, by omega⟩
          rw [Int.toNat_natCast, Int.toNat_natCast] at q3
          simp only [rsto] at hends2 hends3 hmem hmem2 ih ⊢
          have hrg := range_c lo hi (by omega) (by omega)
          by_cases hnil : l = []
          · subst hnil
            repeat' (first
    | refine AGood.seq ?_ | refine AGood.skip ?_ | refine AGood.block ?_ | refine AGood.inBlock ?_ | refine AGood.exit rfl ?_
    | ((first
    | (refine AGood.reg LL_ok [] [0, 2, 3, 4, 5, 6, 7, 8, 31, 65, 83, 99, 113, 116, 121] (by kernel_rfl) ?_; intro K hK)
    | (refine AGood.at 2 ?_; refine AGood.drawn LL_ok mixed [] 16 [0, 1, 2, 3, 4, 5, 6, 7, 8, 9, 10, 11, 12, 13, 14, 15] [0, 2, 3, 4, 5, 6, 7, 8, 31, 65, 83, 99, 113, 116, 121] (by kernel_rfl) (by rfl) ?_; intro K hK)
    | (refine AGood.at 6 ?_; refine AGood.drawn LL_ok mixed [] 26 [0, 1, 2, 3, 4, 5, 6, 7, 8, 9, 10, 11, 12, 13, 14, 15, 16, 17, 18, 19, 20, 21, 22, 23, 24, 25] [0, 2, 3, 4, 5, 6, 7, 8, 31, 65, 83, 99, 113, 116, 121] (by kernel_rfl) (by rfl) ?_; intro K hK)
    | (refine AGood.at 9 ?_; refine AGood.drawn LL_ok mixed [] 15 [0, 1, 2, 3, 4, 5, 6, 7, 8, 9, 10, 11, 12, 13, 14] [0, 2, 3, 4, 5, 6, 7, 8, 31, 65, 83, 99, 113, 116, 121] (by kernel_rfl) (by rfl) ?_; intro K hK)
    | (refine ACall.mono (ACall.alone (hrg) rfl rfl rfl) ?_; rintro _ _ ⟨rfl, rfl⟩)
    | (refine ⟨_, ACall.part [(1000, 1000), (1001, 1001)] rfl hends2 rfl rfl rfl rfl rfl rfl, ?_⟩)
    | (refine ⟨_, ACall.part [(1000, 1000), (1001, 1001)] rfl hends3 rfl rfl rfl rfl rfl rfl, ?_⟩)
    | (refine ACall.use [(1000, 1000), (1001, 1001)] [] rfl hmem rfl rfl rfl ?_; rintro _ _ ⟨rfl, rfl⟩; refine ⟨.inl rfl, rfl, ?_⟩; simp only [bk, bk1, bkS, bkO, idOf, delAll, go_sem, Nat.reduceAdd, Nat.reduceSub, Nat.reduceMul, Nat.reduceLT, Nat.reduceLeDiff, Nat.reduceEqDiff, Nat.reduceDiv, Nat.reduceBEq, Int.reduceNeg, reduceCtorEq, ↓reduceIte, Int.reduceEq, Int.reduceLT, Int.reduceLE, Int.reduceToNat, Int.reduceAdd, Int.reduceSub, Int.reduceMul, Nat.reducePow, Nat.reduceBNe])
    | (refine ACall.use [(1000, 1000), (1001, 1001)] [] rfl hmem2 rfl rfl rfl ?_; rintro _ _ ⟨rfl, rfl⟩; refine ⟨.inl rfl, rfl, ?_⟩; simp only [bk, bk1, bkS, bkO, idOf, delAll, go_sem, Nat.reduceAdd, Nat.reduceSub, Nat.reduceMul, Nat.reduceLT, Nat.reduceLeDiff, Nat.reduceEqDiff, Nat.reduceDiv, Nat.reduceBEq, Int.reduceNeg, reduceCtorEq, ↓reduceIte, Int.reduceEq, Int.reduceLT, Int.reduceLE, Int.reduceToNat, Int.reduceAdd, Int.reduceSub, Int.reduceMul, Nat.reducePow, Nat.reduceBNe])
    | (refine gd_split ?_ ?_ <;> intro hb <;> (try simp only [Bool.not_eq_true', Bool.not_eq_false', decide_eq_true_eq, decide_eq_false_iff_not, Bool.not_true, Bool.not_false, Bool.not_eq_true, Bool.not_eq_false] at hb) <;> (try simp only [hb]))
    | refine AGood.retF LL_ok [1000, 1001] [.tmp 2] rfl ?_
    | refine AGood.doneF LL_ok [1000, 1001] [.tmp 2] rfl ?_) <;> (try simp only [go_sem, Nat.reduceAdd, Nat.reduceSub, Nat.reduceMul, Nat.reduceLT, Nat.reduceLeDiff, Nat.reduceEqDiff, Nat.reduceDiv, Nat.reduceBEq, Int.reduceNeg, reduceCtorEq, ↓reduceIte, Int.reduceEq, Int.reduceLT, Int.reduceLE, Int.reduceToNat, Int.reduceAdd, Int.reduceSub, Int.reduceMul, Nat.reducePow, Nat.reduceBNe, j0, j1, j2, hbad, hD2, i0, i1, i2, sbyte_bt, ISet.cells]))
    | (refine hK _ _ ?_; clear hK K; simp only [prune, List.map_cons, List.map_nil, lk_hit, lk_miss, lk_nil, ne_eq, Nat.reduceEqDiff, not_false_eq_true])
    | (refine AGood.condT ?_ rfl ?_; focus (simp only [ev_tmp, ev_const, oc_bool, lk_hit, lk_miss, ne_eq, Nat.reduceEqDiff, not_false_eq_true]; done))
    | (refine AGood.condF ?_ rfl ?_; focus (simp only [ev_tmp, ev_const, oc_bool, lk_hit, lk_miss, ne_eq, Nat.reduceEqDiff, not_false_eq_true]; done))
    | (refine AGood.cond (by simp only [ev_tmp, ev_const, oc_bool, lk_hit, lk_miss, ne_eq, Nat.reduceEqDiff, not_false_eq_true]; rfl) rfl ?_ ?_ <;> intro hc <;> (try simp only [Bool.not_eq_true', Bool.not_eq_false', decide_eq_true_eq, decide_eq_false_iff_not, Bool.not_true, Bool.not_false, Bool.not_eq_true, Bool.not_eq_false] at hc) <;> (try simp only [hc, decide_true, decide_false, Bool.not_true, Bool.not_false]))
    | (intro _)
    | (refine And.intro ?_ ?_))
            all_goals first | omega | (unfold bigLen; omega) | exact ⟨_, _, ⟨rfl, rfl⟩, rfl⟩ | exact ⟨_, rfl⟩ | (rename_i hy; simp only [List.mem_singleton] at hy; subst hy; rfl) | skip
            rename_i h'
            refine AGood.filt [39, 1000, 1001] ?_
            simp only [sf_cons, sf_nil, go_sem, Nat.reduceAdd, Nat.reduceSub, Nat.reduceMul, Nat.reduceLT, Nat.reduceLeDiff, Nat.reduceEqDiff, Nat.reduceDiv, Nat.reduceBEq, Int.reduceNeg, reduceCtorEq, ↓reduceIte, Int.reduceEq, Int.reduceLT, Int.reduceLE, Int.reduceToNat, Int.reduceAdd, Int.reduceSub, Int.reduceMul, Nat.reducePow, Nat.reduceBNe]
            refine AGood.prune [0, 3, 4] ?_; simp only [prune, List.map_cons, List.map_nil, lk_hit, lk_miss, lk_nil, ne_eq, Nat.reduceEqDiff, not_false_eq_true]
            refine AGood.cast (ih (f, ⟨p3, n3, d3, e3', w3⟩, [] ++ [rangeI lo hi], h') ⟨rfl, rfl, q3⟩ (by simp only; omega)) ?_ ?_
            · simp
            · simp [ISet.cells]
          · have c4 : ¬ (l.length : Int) = 0 := by intro h; exact hnil (List.eq_nil_of_length_eq_zero (by omega))
            have c3 : ¬ bI s cp = 93 := hC.resolve_left hnil
            repeat' (first
    | refine AGood.seq ?_ | refine AGood.skip ?_ | refine AGood.block ?_ | refine AGood.inBlock ?_ | refine AGood.exit rfl ?_
    | ((first
    | (refine AGood.reg LL_ok [] [0, 2, 3, 4, 5, 6, 7, 8, 31, 65, 83, 99, 113, 116, 121] (by kernel_rfl) ?_; intro K hK)
    | (refine AGood.at 2 ?_; refine AGood.drawn LL_ok mixed [] 16 [0, 1, 2, 3, 4, 5, 6, 7, 8, 9, 10, 11, 12, 13, 14, 15] [0, 2, 3, 4, 5, 6, 7, 8, 31, 65, 83, 99, 113, 116, 121] (by kernel_rfl) (by rfl) ?_; intro K hK)
    | (refine AGood.at 6 ?_; refine AGood.drawn LL_ok mixed [] 26 [0, 1, 2, 3, 4, 5, 6, 7, 8, 9, 10, 11, 12, 13, 14, 15, 16, 17, 18, 19, 20, 21, 22, 23, 24, 25] [0, 2, 3, 4, 5, 6, 7, 8, 31, 65, 83, 99, 113, 116, 121] (by kernel_rfl) (by rfl) ?_; intro K hK)
    | (refine AGood.at 9 ?_; refine AGood.drawn LL_ok mixed [] 15 [0, 1, 2, 3, 4, 5, 6, 7, 8, 9, 10, 11, 12, 13, 14] [0, 2, 3, 4, 5, 6, 7, 8, 31, 65, 83, 99, 113, 116, 121] (by kernel_rfl) (by rfl) ?_; intro K hK)
    | (refine ACall.mono (ACall.alone (hrg) rfl rfl rfl) ?_; rintro _ _ ⟨rfl, rfl⟩)
    | (refine ⟨_, ACall.part [(1000, 1000), (1001, 1001)] rfl hends2 rfl rfl rfl rfl rfl rfl, ?_⟩)
    | (refine ⟨_, ACall.part [(1000, 1000), (1001, 1001)] rfl hends3 rfl rfl rfl rfl rfl rfl, ?_⟩)
    | (refine ACall.use [(1000, 1000), (1001, 1001)] [] rfl hmem rfl rfl rfl ?_; rintro _ _ ⟨rfl, rfl⟩; refine ⟨.inl rfl, rfl, ?_⟩; simp only [bk, bk1, bkS, bkO, idOf, delAll, go_sem, Nat.reduceAdd, Nat.reduceSub, Nat.reduceMul, Nat.reduceLT, Nat.reduceLeDiff, Nat.reduceEqDiff, Nat.reduceDiv, Nat.reduceBEq, Int.reduceNeg, reduceCtorEq, ↓reduceIte, Int.reduceEq, Int.reduceLT, Int.reduceLE, Int.reduceToNat, Int.reduceAdd, Int.reduceSub, Int.reduceMul, Nat.reducePow, Nat.reduceBNe])
    | (refine ACall.use [(1000, 1000), (1001, 1001)] [] rfl hmem2 rfl rfl rfl ?_; rintro _ _ ⟨rfl, rfl⟩; refine ⟨.inl rfl, rfl, ?_⟩; simp only [bk, bk1, bkS, bkO, idOf, delAll, go_sem, Nat.reduceAdd, Nat.reduceSub, Nat.reduceMul, Nat.reduceLT, Nat.reduceLeDiff, Nat.reduceEqDiff, Nat.reduceDiv, Nat.reduceBEq, Int.reduceNeg, reduceCtorEq, ↓reduceIte, Int.reduceEq, Int.reduceLT, Int.reduceLE, Int.reduceToNat, Int.reduceAdd, Int.reduceSub, Int.reduceMul, Nat.reducePow, Nat.reduceBNe])
    | (refine gd_split ?_ ?_ <;> intro hb <;> (try simp only [Bool.not_eq_true', Bool.not_eq_false', decide_eq_true_eq, decide_eq_false_iff_not, Bool.not_true, Bool.not_false, Bool.not_eq_true, Bool.not_eq_false] at hb) <;> (try simp only [hb]))
    | refine AGood.retF LL_ok [1000, 1001] [.tmp 2] rfl ?_
    | refine AGood.doneF LL_ok [1000, 1001] [.tmp 2] rfl ?_) <;> (try simp only [go_sem, Nat.reduceAdd, Nat.reduceSub, Nat.reduceMul, Nat.reduceLT, Nat.reduceLeDiff, Nat.reduceEqDiff, Nat.reduceDiv, Nat.reduceBEq, Int.reduceNeg, reduceCtorEq, ↓reduceIte, Int.reduceEq, Int.reduceLT, Int.reduceLE, Int.reduceToNat, Int.reduceAdd, Int.reduceSub, Int.reduceMul, Nat.reducePow, Nat.reduceBNe, c3, c4, j0, j1, j2, hbad, hD2, i0, i1, i2, sbyte_bt, ISet.cells]))
    | (refine hK _ _ ?_; clear hK K; simp only [prune, List.map_cons, List.map_nil, lk_hit, lk_miss, lk_nil, ne_eq, Nat.reduceEqDiff, not_false_eq_true])
    | (refine AGood.condT ?_ rfl ?_; focus (simp only [ev_tmp, ev_const, oc_bool, lk_hit, lk_miss, ne_eq, Nat.reduceEqDiff, not_false_eq_true]; done))
    | (refine AGood.condF ?_ rfl ?_; focus (simp only [ev_tmp, ev_const, oc_bool, lk_hit, lk_miss, ne_eq, Nat.reduceEqDiff, not_false_eq_true]; done))
    | (refine AGood.cond (by simp only [ev_tmp, ev_const, oc_bool, lk_hit, lk_miss, ne_eq, Nat.reduceEqDiff, not_false_eq_true]; rfl) rfl ?_ ?_ <;> intro hc <;> (try simp only [Bool.not_eq_true', Bool.not_eq_false', decide_eq_true_eq, decide_eq_false_iff_not, Bool.not_true, Bool.not_false, Bool.not_eq_true, Bool.not_eq_false] at hc) <;> (try simp only [hc, decide_true, decide_false, Bool.not_true, Bool.not_false]))
    | (intro _)
    | (refine And.intro ?_ ?_))
            all_goals first | omega | (unfold bigLen; omega) | exact ⟨_, _, ⟨rfl, rfl⟩, rfl⟩ | exact ⟨_, rfl⟩ | (rename_i hy; simp only [List.mem_singleton] at hy; subst hy; rfl) | skip
            rename_i h'
            refine AGood.filt [39, 1000, 1001] ?_
            simp only [sf_cons, sf_nil, go_sem, Nat.reduceAdd, Nat.reduceSub, Nat.reduceMul, Nat.reduceLT, Nat.reduceLeDiff, Nat.reduceEqDiff, Nat.reduceDiv, Nat.reduceBEq, Int.reduceNeg, reduceCtorEq, ↓reduceIte, Int.reduceEq, Int.reduceLT, Int.reduceLE, Int.reduceToNat, Int.reduceAdd, Int.reduceSub, Int.reduceMul, Nat.reducePow, Nat.reduceBNe]
            refine AGood.prune [0, 3, 4] ?_; simp only [prune, List.map_cons, List.map_nil, lk_hit, lk_miss, lk_nil, ne_eq, Nat.reduceEqDiff, not_false_eq_true]
            refine AGood.cast (ih (f, ⟨p3, n3, d3, e3', w3⟩, l ++ [rangeI lo hi], h') ⟨rfl, rfl, q3⟩ (by simp only; omega)) ?_ ?_
            · simp
            · simp [ISet.cells]
        · rw [if_neg hD2] at q3
          simp only [Int.toNat_natCast] at q3
          simp only [rsto] at hends2 hends3 hmem ih ⊢
          have hrg := range_c lo lo (by omega) (by omega)
          by_cases hnil : l = []
          · subst hnil
            repeat' (first
    | refine AGood.seq ?_ | refine AGood.skip ?_ | refine AGood.block ?_ | refine AGood.inBlock ?_ | refine AGood.exit rfl ?_
    | ((first
    | (refine AGood.reg LL_ok [] [0, 2, 3, 4, 5, 6, 7, 8, 31, 65, 83, 99, 113, 116, 121] (by kernel_rfl) ?_; intro K hK)
    | (refine AGood.at 2 ?_; refine AGood.drawn LL_ok mixed [] 16 [0, 1, 2, 3, 4, 5, 6, 7, 8, 9, 10, 11, 12, 13, 14, 15] [0, 2, 3, 4, 5, 6, 7, 8, 31, 65, 83, 99, 113, 116, 121] (by kernel_rfl) (by rfl) ?_; intro K hK)
    | (refine AGood.at 6 ?_; refine AGood.drawn LL_ok mixed [] 26 [0, 1, 2, 3, 4, 5, 6, 7, 8, 9, 10, 11, 12, 13, 14, 15, 16, 17, 18, 19, 20, 21, 22, 23, 24, 25] [0, 2, 3, 4, 5, 6, 7, 8, 31, 65, 83, 99, 113, 116, 121] (by kernel_rfl) (by rfl) ?_; intro K hK)
    | (refine AGood.at 9 ?_; refine AGood.drawn LL_ok mixed [] 15 [0, 1, 2, 3, 4, 5, 6, 7, 8, 9, 10, 11, 12, 13, 14] [0, 2, 3, 4, 5, 6, 7, 8, 31, 65, 83, 99, 113, 116, 121] (by kernel_rfl) (by rfl) ?_; intro K hK)
    | (refine ACall.mono (ACall.alone (hrg) rfl rfl rfl) ?_; rintro _ _ ⟨rfl, rfl⟩)
    | (refine ⟨_, ACall.part [(1000, 1000), (1001, 1001)] rfl hends2 rfl rfl rfl rfl rfl rfl, ?_⟩)
    | (refine ⟨_, ACall.part [(1000, 1000), (1001, 1001)] rfl hends3 rfl rfl rfl rfl rfl rfl, ?_⟩)
    | (refine ACall.use [(1000, 1000), (1001, 1001)] [] rfl hmem rfl rfl rfl ?_; rintro _ _ ⟨rfl, rfl⟩; refine ⟨.inl rfl, rfl, ?_⟩; simp only [bk, bk1, bkS, bkO, idOf, delAll, go_sem, Nat.reduceAdd, Nat.reduceSub, Nat.reduceMul, Nat.reduceLT, Nat.reduceLeDiff, Nat.reduceEqDiff, Nat.reduceDiv, Nat.reduceBEq, Int.reduceNeg, reduceCtorEq, ↓reduceIte, Int.reduceEq, Int.reduceLT, Int.reduceLE, Int.reduceToNat, Int.reduceAdd, Int.reduceSub, Int.reduceMul, Nat.reducePow, Nat.reduceBNe])
    | (refine gd_split ?_ ?_ <;> intro hb <;> (try simp only [Bool.not_eq_true', Bool.not_eq_false', decide_eq_true_eq, decide_eq_false_iff_not, Bool.not_true, Bool.not_false, Bool.not_eq_true, Bool.not_eq_false] at hb) <;> (try simp only [hb]))
    | refine AGood.retF LL_ok [1000, 1001] [.tmp 2] rfl ?_
    | refine AGood.doneF LL_ok [1000, 1001] [.tmp 2] rfl ?_) <;> (try simp only [go_sem, Nat.reduceAdd, Nat.reduceSub, Nat.reduceMul, Nat.reduceLT, Nat.reduceLeDiff, Nat.reduceEqDiff, Nat.reduceDiv, Nat.reduceBEq, Int.reduceNeg, reduceCtorEq, ↓reduceIte, Int.reduceEq, Int.reduceLT, Int.reduceLE, Int.reduceToNat, Int.reduceAdd, Int.reduceSub, Int.reduceMul, Nat.reducePow, Nat.reduceBNe, j0, j1, j2, hD2, i0, i1, sbyte_bt, ISet.cells]))
    | (refine hK _ _ ?_; clear hK K; simp only [prune, List.map_cons, List.map_nil, lk_hit, lk_miss, lk_nil, ne_eq, Nat.reduceEqDiff, not_false_eq_true])
    | (refine AGood.condT ?_ rfl ?_; focus (simp only [ev_tmp, ev_const, oc_bool, lk_hit, lk_miss, ne_eq, Nat.reduceEqDiff, not_false_eq_true]; done))
    | (refine AGood.condF ?_ rfl ?_; focus (simp only [ev_tmp, ev_const, oc_bool, lk_hit, lk_miss, ne_eq, Nat.reduceEqDiff, not_false_eq_true]; done))
    | (refine AGood.cond (by simp only [ev_tmp, ev_const, oc_bool, lk_hit, lk_miss, ne_eq, Nat.reduceEqDiff, not_false_eq_true]; rfl) rfl ?_ ?_ <;> intro hc <;> (try simp only [Bool.not_eq_true', Bool.not_eq_false', decide_eq_true_eq, decide_eq_false_iff_not, Bool.not_true, Bool.not_false, Bool.not_eq_true, Bool.not_eq_false] at hc) <;> (try simp only [hc, decide_true, decide_false, Bool.not_true, Bool.not_false]))
    | (intro _)
    | (refine And.intro ?_ ?_))
            all_goals first | omega | (unfold bigLen; omega) | exact ⟨_, _, ⟨rfl, rfl⟩, rfl⟩ | exact ⟨_, rfl⟩ | (rename_i hy; simp only [List.mem_singleton] at hy; subst hy; rfl) | skip
            rename_i h'
            refine AGood.filt [39, 1000, 1001] ?_
            simp only [sf_cons, sf_nil, go_sem, Nat.reduceAdd, Nat.reduceSub, Nat.reduceMul, Nat.reduceLT, Nat.reduceLeDiff, Nat.reduceEqDiff, Nat.reduceDiv, Nat.reduceBEq, Int.reduceNeg, reduceCtorEq, ↓reduceIte, Int.reduceEq, Int.reduceLT, Int.reduceLE, Int.reduceToNat, Int.reduceAdd, Int.reduceSub, Int.reduceMul, Nat.reducePow, Nat.reduceBNe]
            refine AGood.prune [0, 3, 4] ?_; simp only [prune, List.map_cons, List.map_nil, lk_hit, lk_miss, lk_nil, ne_eq, Nat.reduceEqDiff, not_false_eq_true]
            refine AGood.cast (ih (f, ⟨p1, n1, d1, 0, w1⟩, [] ++ [rangeI lo lo], h') ⟨rfl, rfl, q3⟩ (by simp only; omega)) ?_ ?_
            · simp
            · simp [ISet.cells]
          · have c4 : ¬ (l.length : Int) = 0 := by intro h; exact hnil (List.eq_nil_of_length_eq_zero (by omega))
            have c3 : ¬ bI s cp = 93 := hC.resolve_left hnil
            repeat' (first
    | refine AGood.seq ?_ | refine AGood.skip ?_ | refine AGood.block ?_ | refine AGood.inBlock ?_ | refine AGood.exit rfl ?_
    | ((first
    | (refine AGood.reg LL_ok [] [0, 2, 3, 4, 5, 6, 7, 8, 31, 65, 83, 99, 113, 116, 121] (by kernel_rfl) ?_; intro K hK)
    | (refine AGood.at 2 ?_; refine AGood.drawn LL_ok mixed [] 16 [0, 1, 2, 3, 4, 5, 6, 7, 8, 9, 10, 11, 12, 13, 14, 15] [0, 2, 3, 4, 5, 6, 7, 8, 31, 65, 83, 99, 113, 116, 121] (by kernel_rfl) (by rfl) ?_; intro K hK)
    | (refine AGood.at 6 ?_; refine AGood.drawn LL_ok mixed [] 26 [0, 1, 2, 3, 4, 5, 6, 7, 8, 9, 10, 11, 12, 13, 14, 15, 16, 17, 18, 19, 20, 21, 22, 23, 24, 25] [0, 2, 3, 4, 5, 6, 7, 8, 31, 65, 83, 99, 113, 116, 121] (by kernel_rfl) (by rfl) ?_; intro K hK)
    | (refine AGood.at 9 ?_; refine AGood.drawn LL_ok mixed [] 15 [0, 1, 2, 3, 4, 5, 6, 7, 8, 9, 10, 11, 12, 13, 14] [0, 2, 3, 4, 5, 6, 7, 8, 31, 65, 83, 99, 113, 116, 121] (by kernel_rfl) (by rfl) ?_; intro K hK)
    | (refine ACall.mono (ACall.alone (hrg) rfl rfl rfl) ?_; rintro _ _ ⟨rfl, rfl⟩)
    | (refine ⟨_, ACall.part [(1000, 1000), (1001, 1001)] rfl hends2 rfl rfl rfl rfl rfl rfl, ?_⟩)
    | (refine ⟨_, ACall.part [(1000, 1000), (1001, 1001)] rfl hends3 rfl rfl rfl rfl rfl rfl, ?_⟩)
    | (refine ACall.use [(1000, 1000), (1001, 1001)] [] rfl hmem rfl rfl rfl ?_; rintro _ _ ⟨rfl, rfl⟩; refine ⟨.inl rfl, rfl, ?_⟩; simp only [bk, bk1, bkS, bkO, idOf, delAll, go_sem, Nat.reduceAdd, Nat.reduceSub, Nat.reduceMul, Nat.reduceLT, Nat.reduceLeDiff, Nat.reduceEqDiff, Nat.reduceDiv, Nat.reduceBEq, Int.reduceNeg, reduceCtorEq, ↓reduceIte, Int.reduceEq, Int.reduceLT, Int.reduceLE, Int.reduceToNat, Int.reduceAdd, Int.reduceSub, Int.reduceMul, Nat.reducePow, Nat.reduceBNe])
    | (refine gd_split ?_ ?_ <;> intro hb <;> (try simp only [Bool.not_eq_true', Bool.not_eq_false', decide_eq_true_eq, decide_eq_false_iff_not, Bool.not_true, Bool.not_false, Bool.not_eq_true, Bool.not_eq_false] at hb) <;> (try simp only [hb]))
    | refine AGood.retF LL_ok [1000, 1001] [.tmp 2] rfl ?_
    | refine AGood.doneF LL_ok [1000, 1001] [.tmp 2] rfl ?_) <;> (try simp only [go_sem, Nat.reduceAdd, Nat.reduceSub, Nat.reduceMul, Nat.reduceLT, Nat.reduceLeDiff, Nat.reduceEqDiff, Nat.reduceDiv, Nat.reduceBEq, Int.reduceNeg, reduceCtorEq, ↓reduceIte, Int.reduceEq, Int.reduceLT, Int.reduceLE, Int.reduceToNat, Int.reduceAdd, Int.reduceSub, Int.reduceMul, Nat.reducePow, Nat.reduceBNe, c3, c4, j0, j1, j2, hD2, i0, i1, sbyte_bt, ISet.cells]))
    | (refine hK _ _ ?_; clear hK K; simp only [prune, List.map_cons, List.map_nil, lk_hit, lk_miss, lk_nil, ne_eq, Nat.reduceEqDiff, not_false_eq_true])
    | (refine AGood.condT ?_ rfl ?_; focus (simp only [ev_tmp, ev_const, oc_bool, lk_hit, lk_miss, ne_eq, Nat.reduceEqDiff, not_false_eq_true]; done))
    | (refine AGood.condF ?_ rfl ?_; focus (simp only [ev_tmp, ev_const, oc_bool, lk_hit, lk_miss, ne_eq, Nat.reduceEqDiff, not_false_eq_true]; done))
    | (refine AGood.cond (by simp only [ev_tmp, ev_const, oc_bool, lk_hit, lk_miss, ne_eq, Nat.reduceEqDiff, not_false_eq_true]; rfl) rfl ?_ ?_ <;> intro hc <;> (try simp only [Bool.not_eq_true', Bool.not_eq_false', decide_eq_true_eq, decide_eq_false_iff_not, Bool.not_true, Bool.not_false, Bool.not_eq_true, Bool.not_eq_false] at hc) <;> (try simp only [hc, decide_true, decide_false, Bool.not_true, Bool.not_false]))
    | (intro _)
    | (refine And.intro ?_ ?_))
            all_goals first | omega | (unfold bigLen; omega) | exact ⟨_, _, ⟨rfl, rfl⟩, rfl⟩ | exact ⟨_, rfl⟩ | (rename_i hy; simp only [List.mem_singleton] at hy; subst hy; rfl) | skip
            rename_i h'
            refine AGood.filt [39, 1000, 1001] ?_
            simp only [sf_cons, sf_nil, go_sem, Nat.reduceAdd, Nat.reduceSub, Nat.reduceMul, Nat.reduceLT, Nat.reduceLeDiff, Nat.reduceEqDiff, Nat.reduceDiv, Nat.reduceBEq, Int.reduceNeg, reduceCtorEq, ↓reduceIte, Int.reduceEq, Int.reduceLT, Int.reduceLE, Int.reduceToNat, Int.reduceAdd, Int.reduceSub, Int.reduceMul, Nat.reducePow, Nat.reduceBNe]
            refine AGood.prune [0, 3, 4] ?_; simp only [prune, List.map_cons, List.map_nil, lk_hit, lk_miss, lk_nil, ne_eq, Nat.reduceEqDiff, not_false_eq_true]
            refine AGood.cast (ih (f, ⟨p1, n1, d1, 0, w1⟩, l ++ [rangeI lo lo], h') ⟨rfl, rfl, q3⟩ (by simp only; omega)) ?_ ?_
            · simp
            · simp [ISet.cells]
      · rw [if_neg hC] at q3
        simp only [Option.some.injEq, Prod.mk.injEq, Rd.mk.injEq, true_and] at q3
        obtain ⟨⟨rfl, rfl, rfl⟩, rfl⟩ := q3
        simp only [not_or, ne_eq, Decidable.not_not] at hC
        obtain ⟨c1, c3⟩ := hC
        have c4 : ¬ (l.length : Int) = 0 := by intro h; exact c1 (List.eq_nil_of_length_eq_zero (by omega))
        have hor := or_c false false l (by omega)
        rcases ho : orI l with ⟨o0, o1, o2, o3⟩
        simp only [ho] at hor h
        by_cases hz : (⟨o0, o1, o2, o3⟩ : ISet) = ISet.none
        · rw [if_pos hz] at h
          simp only [Option.some.injEq, Prod.mk.injEq] at h
          obtain ⟨rfl, rfl⟩ := h
          have hz2 : ([o0, o1, o2, o3] : List Int) = [0, 0, 0, 0] := by simpa [ISet.none] using hz
          have hfail := fail_c s ⟨cp, cn, cd, 0, cw⟩ g g1 44 cp
          simp only [rsto] at hends2 hfail ⊢
          repeat' (first
    | refine AGood.seq ?_ | refine AGood.skip ?_ | refine AGood.block ?_ | refine AGood.inBlock ?_ | refine AGood.exit rfl ?_
    | ((first
    | (refine AGood.reg LL_ok [] [0, 2, 3, 4, 5, 6, 7, 8, 31, 65, 83, 99, 113, 116, 121] (by kernel_rfl) ?_; intro K hK)
    | (refine AGood.at 2 ?_; refine AGood.drawn LL_ok mixed [] 16 [0, 1, 2, 3, 4, 5, 6, 7, 8, 9, 10, 11, 12, 13, 14, 15] [0, 2, 3, 4, 5, 6, 7, 8, 31, 65, 83, 99, 113, 116, 121] (by kernel_rfl) (by rfl) ?_; intro K hK)
    | (refine AGood.at 6 ?_; refine AGood.drawn LL_ok mixed [] 26 [0, 1, 2, 3, 4, 5, 6, 7, 8, 9, 10, 11, 12, 13, 14, 15, 16, 17, 18, 19, 20, 21, 22, 23, 24, 25] [0, 2, 3, 4, 5, 6, 7, 8, 31, 65, 83, 99, 113, 116, 121] (by kernel_rfl) (by rfl) ?_; intro K hK)
    | (refine AGood.at 9 ?_; refine AGood.drawn LL_ok mixed [] 15 [0, 1, 2, 3, 4, 5, 6, 7, 8, 9, 10, 11, 12, 13, 14] [0, 2, 3, 4, 5, 6, 7, 8, 31, 65, 83, 99, 113, 116, 121] (by kernel_rfl) (by rfl) ?_; intro K hK)
    | (refine ⟨_, ACall.part [(1000, 1000), (1001, 1001)] rfl hends2 rfl rfl rfl rfl rfl rfl, ?_⟩)
    | (refine ACall.mono (ACall.lent [39] hor (map_one ((tr_lent rfl rfl rfl (by simp)).trans (by rw [List.drop_zero, List.take_of_length_le (by simp)]))) rfl rfl rfl) ?_; rintro _ _ ⟨rfl, rfl⟩)
    | (refine ACall.use [(1000, 1000), (1001, 1001)] [] rfl hfail rfl rfl rfl ?_; rintro _ _ ⟨rfl, rfl⟩; refine ⟨.inl rfl, rfl, ?_⟩; simp only [bk, bk1, bkS, bkO, idOf, delAll, go_sem, Nat.reduceAdd, Nat.reduceSub, Nat.reduceMul, Nat.reduceLT, Nat.reduceLeDiff, Nat.reduceEqDiff, Nat.reduceDiv, Nat.reduceBEq, Int.reduceNeg, reduceCtorEq, ↓reduceIte, Int.reduceEq, Int.reduceLT, Int.reduceLE, Int.reduceToNat, Int.reduceAdd, Int.reduceSub, Int.reduceMul, Nat.reducePow, Nat.reduceBNe])
    | (refine gd_split ?_ ?_ <;> intro hb <;> (try simp only [Bool.not_eq_true', Bool.not_eq_false', decide_eq_true_eq, decide_eq_false_iff_not, Bool.not_true, Bool.not_false, Bool.not_eq_true, Bool.not_eq_false] at hb) <;> (try simp only [hb]))
    | refine AGood.retF LL_ok [1000, 1001] [.tmp 2] rfl ?_
    | refine AGood.doneF LL_ok [1000, 1001] [.tmp 2] rfl ?_) <;> (try simp only [go_sem, Nat.reduceAdd, Nat.reduceSub, Nat.reduceMul, Nat.reduceLT, Nat.reduceLeDiff, Nat.reduceEqDiff, Nat.reduceDiv, Nat.reduceBEq, Int.reduceNeg, reduceCtorEq, ↓reduceIte, Int.reduceEq, Int.reduceLT, Int.reduceLE, Int.reduceToNat, Int.reduceAdd, Int.reduceSub, Int.reduceMul, Nat.reducePow, Nat.reduceBNe, c3, c4, j0, j1, j2, hz2, sbyte_bt, ISet.cells]))
    | (refine hK _ _ ?_; clear hK K; simp only [prune, List.map_cons, List.map_nil, lk_hit, lk_miss, lk_nil, ne_eq, Nat.reduceEqDiff, not_false_eq_true])
    | (refine AGood.condT ?_ rfl ?_; focus (simp only [ev_tmp, ev_const, oc_bool, lk_hit, lk_miss, ne_eq, Nat.reduceEqDiff, not_false_eq_true]; done))
    | (refine AGood.condF ?_ rfl ?_; focus (simp only [ev_tmp, ev_const, oc_bool, lk_hit, lk_miss, ne_eq, Nat.reduceEqDiff, not_false_eq_true]; done))
    | (refine AGood.cond (by simp only [ev_tmp, ev_const, oc_bool, lk_hit, lk_miss, ne_eq, Nat.reduceEqDiff, not_false_eq_true]; rfl) rfl ?_ ?_ <;> intro hc <;> (try simp only [Bool.not_eq_true', Bool.not_eq_false', decide_eq_true_eq, decide_eq_false_iff_not, Bool.not_true, Bool.not_false, Bool.not_eq_true, Bool.not_eq_false] at hc) <;> (try simp only [hc, decide_true, decide_false, Bool.not_true, Bool.not_false]))
    | (intro _)
    | (refine And.intro ?_ ?_))
          all_goals first | omega | (unfold bigLen; omega) | exact ⟨_, _, ⟨rfl, rfl⟩, rfl⟩ | exact ⟨_, rfl⟩ | (rename_i hy; simp only [List.mem_singleton] at hy; subst hy; rfl) | skip
          all_goals exact ⟨g1, rfl⟩
        · rw [if_neg hz] at h
          simp only [Option.some.injEq, Prod.mk.injEq] at h
          obtain ⟨rfl, rfl⟩ := h
          have hz2 : ¬ ([o0, o1, o2, o3] : List Int) = [0, 0, 0, 0] := by simpa [ISet.none] using hz
          have hput := putR_c s ⟨cp + 1, cn, cd, 0, cw⟩ g g1 ⟨2, ⟨o0, o1, o2, o3⟩, [], 0, 0, ByteArray.empty⟩ true (by simp only; omega)
          simp only [rsto, Node.cellsF] at hends2 hput ⊢
          repeat' (first
    | refine AGood.seq ?_ | refine AGood.skip ?_ | refine AGood.block ?_ | refine AGood.inBlock ?_ | refine AGood.exit rfl ?_
    | ((first
    | (refine AGood.reg LL_ok [] [0, 2, 3, 4, 5, 6, 7, 8, 31, 65, 83, 99, 113, 116, 121] (by kernel_rfl) ?_; intro K hK)
    | (refine AGood.at 2 ?_; refine AGood.drawn LL_ok mixed [] 16 [0, 1, 2, 3, 4, 5, 6, 7, 8, 9, 10, 11, 12, 13, 14, 15] [0, 2, 3, 4, 5, 6, 7, 8, 31, 65, 83, 99, 113, 116, 121] (by kernel_rfl) (by rfl) ?_; intro K hK)
    | (refine AGood.at 6 ?_; refine AGood.drawn LL_ok mixed [] 26 [0, 1, 2, 3, 4, 5, 6, 7, 8, 9, 10, 11, 12, 13, 14, 15, 16, 17, 18, 19, 20, 21, 22, 23, 24, 25] [0, 2, 3, 4, 5, 6, 7, 8, 31, 65, 83, 99, 113, 116, 121] (by kernel_rfl) (by rfl) ?_; intro K hK)
    | (refine AGood.at 9 ?_; refine AGood.drawn LL_ok mixed [] 15 [0, 1, 2, 3, 4, 5, 6, 7, 8, 9, 10, 11, 12, 13, 14] [0, 2, 3, 4, 5, 6, 7, 8, 31, 65, 83, 99, 113, 116, 121] (by kernel_rfl) (by rfl) ?_; intro K hK)
    | (refine ⟨_, ACall.part [(1000, 1000), (1001, 1001)] rfl hends2 rfl rfl rfl rfl rfl rfl, ?_⟩)
    | (refine ACall.mono (ACall.lent [39] hor (map_one ((tr_lent rfl rfl rfl (by simp)).trans (by rw [List.drop_zero, List.take_of_length_le (by simp)]))) rfl rfl rfl) ?_; rintro _ _ ⟨rfl, rfl⟩)
    | (refine ACall.use [(1000, 1000), (1001, 1001)] [] rfl hput rfl rfl rfl ?_; rintro _ _ ⟨rfl, h1, rfl⟩; refine ⟨.inl rfl, rfl, ?_⟩; simp only [bk, bk1, bkS, bkO, idOf, delAll, go_sem, Nat.reduceAdd, Nat.reduceSub, Nat.reduceMul, Nat.reduceLT, Nat.reduceLeDiff, Nat.reduceEqDiff, Nat.reduceDiv, Nat.reduceBEq, Int.reduceNeg, reduceCtorEq, ↓reduceIte, Int.reduceEq, Int.reduceLT, Int.reduceLE, Int.reduceToNat, Int.reduceAdd, Int.reduceSub, Int.reduceMul, Nat.reducePow, Nat.reduceBNe])
    | (refine gd_split ?_ ?_ <;> intro hb <;> (try simp only [Bool.not_eq_true', Bool.not_eq_false', decide_eq_true_eq, decide_eq_false_iff_not, Bool.not_true, Bool.not_false, Bool.not_eq_true, Bool.not_eq_false] at hb) <;> (try simp only [hb]))
    | refine AGood.retF LL_ok [1000, 1001] [.tmp 2] rfl ?_
    | refine AGood.doneF LL_ok [1000, 1001] [.tmp 2] rfl ?_) <;> (try simp only [go_sem, Nat.reduceAdd, Nat.reduceSub, Nat.reduceMul, Nat.reduceLT, Nat.reduceLeDiff, Nat.reduceEqDiff, Nat.reduceDiv, Nat.reduceBEq, Int.reduceNeg, reduceCtorEq, ↓reduceIte, Int.reduceEq, Int.reduceLT, Int.reduceLE, Int.reduceToNat, Int.reduceAdd, Int.reduceSub, Int.reduceMul, Nat.reducePow, Nat.reduceBNe, c3, c4, j0, j1, j2, hz2, sbyte_bt, ISet.cells, ba_empty]))
    | (refine hK _ _ ?_; clear hK K; simp only [prune, List.map_cons, List.map_nil, lk_hit, lk_miss, lk_nil, ne_eq, Nat.reduceEqDiff, not_false_eq_true])
    | (refine AGood.condT ?_ rfl ?_; focus (simp only [ev_tmp, ev_const, oc_bool, lk_hit, lk_miss, ne_eq, Nat.reduceEqDiff, not_false_eq_true]; done))
    | (refine AGood.condF ?_ rfl ?_; focus (simp only [ev_tmp, ev_const, oc_bool, lk_hit, lk_miss, ne_eq, Nat.reduceEqDiff, not_false_eq_true]; done))
    | (refine AGood.cond (by simp only [ev_tmp, ev_const, oc_bool, lk_hit, lk_miss, ne_eq, Nat.reduceEqDiff, not_false_eq_true]; rfl) rfl ?_ ?_ <;> intro hc <;> (try simp only [Bool.not_eq_true', Bool.not_eq_false', decide_eq_true_eq, decide_eq_false_iff_not, Bool.not_true, Bool.not_false, Bool.not_eq_true, Bool.not_eq_false] at hc) <;> (try simp only [hc, decide_true, decide_false, Bool.not_true, Bool.not_false]))
    | (intro _)
    | (refine And.intro ?_ ?_))
          all_goals first | omega | (unfold bigLen; omega) | exact ⟨_, _, ⟨rfl, rfl⟩, rfl⟩ | exact ⟨_, rfl⟩ | (rename_i hy; simp only [List.mem_singleton] at hy; subst hy; rfl) | skip
end Go.Rad

