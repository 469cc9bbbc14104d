/- Contracts: norm: whether a tree may be nothing. -/
import Derived.Test.YtejdlelhlpnabaaDoorKC05c
import Derived.Test.YtejdlelhlpnabaaDoorKRText
set_option linter.all false
namespace Go.Rad
open Go Go.Proofs
set_option linter.all false
set_option maxRecDepth 20000
set_option maxHeartbeats 4000000

abbrev boolsL (l : List Bool) : List (List AVal) := l.map fun b => [.bool b]
abbrev bsto (g g1 : Nat) (bs : List Bool) : Sto := [(1000, (g, .box [.osl 1001 g1 0 bs.length])), (1001, (g1, .row 1 (boolsL bs)))]
theorem nul1uc (bs : List Bool) (g g1 i : Nat) (b : Bool) (hb : bs[i]? = some b) : ACall Tryd.prog 27 [.int .i64 i, .bx 1000 g 0] (bsto g g1 bs) fun r s => r = .bool b ∧ s = bsto g g1 bs := by
  have h := (List.getElem?_eq_some_iff.1 hb).1
  have e4 : (i : Int) < bs.length := by omega
  have e5 : (0 : Int) ≤ i := by omega
  refine ACall.enter Tryd.func27 rfl (by kernel_rfl) (Nat.le_of_ble_eq_true rfl) ?_; simp only [initTm, Nat.reduceAdd]
  repeat' (first
  | refine gSq ?_ | refine gSk ?_ | refine gBl ?_ | refine gIb ?_ | refine gEx rfl ?_
  | ((first
  | (refine gRg [] [0, 1, 3] ?_; intro K hK)
  | (refine gd_split ?_ ?_ <;> intro hb <;> (try simp only [bls] at hb) <;> (try simp only [hb]))
  | refine gRt [1000, 1001] [.tmp 3] rfl ?_ | refine gDn [1000, 1001] [.tmp 3] rfl ?_) <;> (try simp only [go_sem, simprocAttr, e4, e5, hb, h, Option.some.injEq, forall_eq']))
  | (refine hK _ _ ?_; clear hK K; simp only [go_sem, simprocAttr])
  | refine gCd (by simp only [go_sem, simprocAttr]; rfl) rfl ?_
  | refine brT ?_ | refine brF ?_
  | (refine brS ?_ ?_ <;> intro hc <;> (try simp only [bls] at hc) <;> (try simp only [hc, bls]))
  | intro _ | refine And.intro ?_ ?_)
  all_goals first | omega | (unfold bigLen; omega) | exact ⟨_, _, ⟨rfl, rfl⟩, rfl⟩ | exact ⟨_, rfl⟩ | (rename_i hy; simp only [List.mem_singleton] at hy; subst hy; rfl) | skip
theorem nul2uc (bs : List Bool) (g g1 i : Nat) (b : Bool) (hb : bs[i]? = some b) : ACall Tryd.prog 28 [.int .i64 i, .bx 1000 g 0] (bsto g g1 bs) fun r s => r = .bool (!b) ∧ s = bsto g g1 bs := by
  have h := (List.getElem?_eq_some_iff.1 hb).1
  have e4 : (i : Int) < bs.length := by omega
  have e5 : (0 : Int) ≤ i := by omega
  refine ACall.enter Tryd.func28 rfl (by kernel_rfl) (Nat.le_of_ble_eq_true rfl) ?_; simp only [initTm, Nat.reduceAdd]
  repeat' (first
  | refine gSq ?_ | refine gSk ?_ | refine gBl ?_ | refine gIb ?_ | refine gEx rfl ?_
  | ((first
  | (refine gRg [] [0, 1, 3] ?_; intro K hK)
  | (refine gd_split ?_ ?_ <;> intro hb <;> (try simp only [bls] at hb) <;> (try simp only [hb]))
  | refine gRt [1000, 1001] [.tmp 3] rfl ?_ | refine gDn [1000, 1001] [.tmp 3] rfl ?_) <;> (try simp only [go_sem, simprocAttr, e4, e5, hb, h, Option.some.injEq, forall_eq']))
  | (refine hK _ _ ?_; clear hK K; simp only [go_sem, simprocAttr])
  | refine gCd (by simp only [go_sem, simprocAttr]; rfl) rfl ?_
  | refine brT ?_ | refine brF ?_
  | (refine brS ?_ ?_ <;> intro hc <;> (try simp only [bls] at hc) <;> (try simp only [hc, bls]))
  | intro _ | refine And.intro ?_ ?_)
  all_goals first | omega | (unfold bigLen; omega) | exact ⟨_, _, ⟨rfl, rfl⟩, rfl⟩ | exact ⟨_, rfl⟩ | (rename_i hy; simp only [List.mem_singleton] at hy; subst hy; rfl) | skip
def idxF (p : Int → Bool) : List Int → Nat → Int
  | [], _ => -1
  | k :: l, i => if p k then i else idxF p l (i + 1)
theorem idxF_any (p : Int → Bool) : ∀ (l : List Int) (i : Nat), decide (0 ≤ idxF p l i) = l.any p
  | [], _ => rfl
  | k :: l, i => by
    rw [idxF, List.any_cons]
    cases h : p k
    · simp only [Bool.false_eq_true, if_false, Bool.false_or]; exact idxF_any p l _
    · simp
theorem index_c (F : Nat) (p : Int → Bool) (q f : Bool) (l : List Int) (bs : List Bool) (g g1 : Nat) (hl : l.length ≤ 1000000)
    (hF : ∀ k ∈ l, ACall Tryd.prog F [.int .i64 k, .bx 1000 g 0] (bsto g g1 bs) fun r s => r = .bool (p k) ∧ s = bsto g g1 bs) :
    ACall Tryd.prog 50 [.sl q f (ints l), .fn F [.bx 1000 g 0]] (bsto g g1 bs) fun r s => r = .int .i64 (idxF p l 0) ∧ s = bsto g g1 bs := by
  obtain ⟨S, hS⟩ : ∃ S, S = idxF p l 0 := ⟨_, rfl⟩
  rw [← hS]
  refine ACall.enter Tryd.func50 rfl (by kernel_rfl) (Nat.le_of_ble_eq_true rfl) ?_; simp only [initTm, Nat.reduceAdd]
  repeat' (first
  | refine gSq ?_ | refine gSk ?_ | refine gBl ?_ | refine gIb ?_ | refine gEx rfl ?_
  | ((first
  | (refine gRg [] [0, 1, 4, 5, 7, 8, 9, 16] ?_; intro K hK)
  | (refine gd_split ?_ ?_ <;> intro hb <;> (try simp only [bls] at hb) <;> (try simp only [hb]))
  | refine gRt [1000, 1001] [.tmp 4] rfl ?_ | refine gDn [1000, 1001] [.tmp 4] rfl ?_) <;> (try simp only [go_sem, simprocAttr]))
  | (refine hK _ _ ?_; clear hK K; simp only [go_sem, simprocAttr])
  | refine gCd (by simp only [go_sem, simprocAttr]; rfl) rfl ?_
  | refine brT ?_ | refine brF ?_
  | (refine brS ?_ ?_ <;> intro hc <;> (try simp only [bls] at hc) <;> (try simp only [hc, bls]))
  | intro _ | refine And.intro ?_ ?_)
  refine AGood.prune [0, 1, 4, 7, 8] ?_; simp only [go_sem, simprocAttr]
  refine AGood.loopInv (α := Nat) (fun i => ([(0, .sl q f (ints l)), (1, .fn F [.bx 1000 g 0]), (4, .int .i64 0), (7, .int .i64 l.length), (8, .int .i64 i)], bsto g g1 bs)) (fun i => i ≤ l.length ∧ S = idxF p (l.drop i) i) (fun i => l.length - i) 0 ⟨Nat.zero_le _, hS⟩ rfl ?_
  rintro i ⟨hi, hrun⟩ ih
  simp only
  by_cases hle : i < l.length
  · have e4 : (i : Int) < l.length := by omega
    have e5 : (0 : Int) ≤ i := by omega
    have hx : l[i]? = some l[i] := List.getElem?_eq_getElem hle
    have hc := hF l[i] (List.getElem_mem hle)
    have hdr : l.drop i = l[i] :: l.drop (i + 1) := List.drop_eq_getElem_cons hle
    rw [hdr, idxF] at hrun
    generalize l[i] = k at hx hc hrun
    cases hp : p k <;> rw [hp] at hrun hc <;> simp only [if_true, Bool.false_eq_true, if_false] at hrun
    · repeat' (first
  | refine gSq ?_ | refine gSk ?_ | refine gBl ?_ | refine gIb ?_ | refine gEx rfl ?_
  | ((first
  | (refine gRg [] [0, 1, 4, 5, 7, 8, 9, 16] ?_; intro K hK)
  | (refine ACall.mono hc ?_; rintro _ _ ⟨rfl, rfl⟩)
  | (refine gd_split ?_ ?_ <;> intro hb <;> (try simp only [bls] at hb) <;> (try simp only [hb]))
  | refine gRt [1000, 1001] [.tmp 4] rfl ?_ | refine gDn [1000, 1001] [.tmp 4] rfl ?_) <;> (try simp only [go_sem, simprocAttr, e4, e5, hx, Option.some.injEq, forall_eq']))
  | (refine hK _ _ ?_; clear hK K; simp only [go_sem, simprocAttr])
  | refine gCd (by simp only [go_sem, simprocAttr]; rfl) rfl ?_
  | refine brT ?_ | refine brF ?_
  | (refine brS ?_ ?_ <;> intro hc <;> (try simp only [bls] at hc) <;> (try simp only [hc, bls]))
  | intro _ | refine And.intro ?_ ?_)
      all_goals first | omega | (unfold bigLen; omega) | exact ⟨_, _, ⟨rfl, rfl⟩, rfl⟩ | exact ⟨_, rfl⟩ | (rename_i hy; simp only [List.mem_singleton] at hy; subst hy; rfl) | skip
      refine AGood.prune [0, 1, 4, 7, 8] ?_; simp only [go_sem, simprocAttr]
      exact (ih (i + 1) ⟨by omega, hrun⟩ (by omega)).cast rfl rfl
    · repeat' (first
  | refine gSq ?_ | refine gSk ?_ | refine gBl ?_ | refine gIb ?_ | refine gEx rfl ?_
  | ((first
  | (refine gRg [] [0, 1, 4, 5, 7, 8, 9, 16] ?_; intro K hK)
  | (refine ACall.mono hc ?_; rintro _ _ ⟨rfl, rfl⟩)
  | (refine gd_split ?_ ?_ <;> intro hb <;> (try simp only [bls] at hb) <;> (try simp only [hb]))
  | refine gRt [1000, 1001] [.tmp 4] rfl ?_ | refine gDn [1000, 1001] [.tmp 4] rfl ?_) <;> (try simp only [go_sem, simprocAttr, e4, e5, hx, Option.some.injEq, forall_eq']))
  | (refine hK _ _ ?_; clear hK K; simp only [go_sem, simprocAttr])
  | refine gCd (by simp only [go_sem, simprocAttr]; rfl) rfl ?_
  | refine brT ?_ | refine brF ?_
  | (refine brS ?_ ?_ <;> intro hc <;> (try simp only [bls] at hc) <;> (try simp only [hc, bls]))
  | intro _ | refine And.intro ?_ ?_)
      all_goals first | omega | (unfold bigLen; omega) | exact ⟨_, _, ⟨rfl, rfl⟩, rfl⟩ | exact ⟨_, rfl⟩ | (rename_i hy; simp only [List.mem_singleton] at hy; subst hy; rfl) | skip
      rw [hrun]
  · have e4 : ¬ (i : Int) < l.length := by omega
    rw [List.drop_of_length_le (by omega), idxF] at hrun
    subst hrun
    repeat' (first
  | refine gSq ?_ | refine gSk ?_ | refine gBl ?_ | refine gIb ?_ | refine gEx rfl ?_
  | ((first
  | (refine gRg [] [0, 1, 4, 5, 7, 8, 9, 16] ?_; intro K hK)
  | (refine gd_split ?_ ?_ <;> intro hb <;> (try simp only [bls] at hb) <;> (try simp only [hb]))
  | refine gRt [1000, 1001] [.tmp 4] rfl ?_ | refine gDn [1000, 1001] [.tmp 4] rfl ?_) <;> (try simp only [go_sem, simprocAttr, e4]))
  | (refine hK _ _ ?_; clear hK K; simp only [go_sem, simprocAttr])
  | refine gCd (by simp only [go_sem, simprocAttr]; rfl) rfl ?_
  | refine brT ?_ | refine brF ?_
  | (refine brS ?_ ?_ <;> intro hc <;> (try simp only [bls] at hc) <;> (try simp only [hc, bls]))
  | intro _ | refine And.intro ?_ ?_)
theorem contains_c (F : Nat) (p : Int → Bool) (q f : Bool) (l : List Int) (bs : List Bool) (g g1 : Nat) (hl : l.length ≤ 1000000)
    (hF : ∀ k ∈ l, ACall Tryd.prog F [.int .i64 k, .bx 1000 g 0] (bsto g g1 bs) fun r s => r = .bool (p k) ∧ s = bsto g g1 bs) :
    ACall Tryd.prog 29 [.sl q f (ints l), .fn F [.bx 1000 g 0]] (bsto g g1 bs) fun r s => r = .bool (l.any p) ∧ s = bsto g g1 bs := by
  have hc := index_c F p q f l bs g g1 hl hF
  rw [← idxF_any p l 0]
  generalize idxF p l 0 = S at hc
  refine ACall.enter Tryd.func29 rfl (by kernel_rfl) (Nat.le_of_ble_eq_true rfl) ?_; simp only [initTm, Nat.reduceAdd]
  repeat' (first
  | refine gSq ?_ | refine gSk ?_ | refine gBl ?_ | refine gIb ?_ | refine gEx rfl ?_
  | ((first
  | (refine gRg [] [0, 1, 4] ?_; intro K hK)
  | (refine ACall.mono hc ?_; rintro _ _ ⟨rfl, rfl⟩)
  | (refine gd_split ?_ ?_ <;> intro hb <;> (try simp only [bls] at hb) <;> (try simp only [hb]))
  | refine gRt [1000, 1001] [.tmp 4] rfl ?_ | refine gDn [1000, 1001] [.tmp 4] rfl ?_) <;> (try simp only [go_sem, simprocAttr]))
  | (refine hK _ _ ?_; clear hK K; simp only [go_sem, simprocAttr])
  | refine gCd (by simp only [go_sem, simprocAttr]; rfl) rfl ?_
  | refine brT ?_ | refine brF ?_
  | (refine brS ?_ ?_ <;> intro hc <;> (try simp only [bls] at hc) <;> (try simp only [hc, bls]))
  | intro _ | refine And.intro ?_ ?_)
def mayStep (bs : List Bool) (n : Node) : Bool :=
  if n.op = 1 then true
  else if n.op = 3 then !(n.l.any fun k => !(bs.getD k.toNat false))
  else if n.op = 4 then n.l.any fun k => bs.getD k.toNat false
  else if n.op = 5 then (if n.lo = 0 then true else bs.getD (n.l.headD 0).toNat false)
  else false
def mays (l : List Node) : List Bool := l.foldl (fun bs n => bs ++ [mayStep bs n]) []
theorem mays_len (l : List Node) : (mays l).length = l.length := by
  have h : ∀ (l : List Node) (bs : List Bool), (l.foldl (fun bs n => bs ++ [mayStep bs n]) bs).length = bs.length + l.length := by
    intro l
    induction l with
    | nil => intro bs; rfl
    | cons n l ih => intro bs; rw [List.foldl_cons, ih]; simp; omega
  simpa [mays] using h l []
def nullS (l : List Node) : Bool := if rightS l = true then (mays l).getLastD false else false
theorem mays_snoc (l : List Node) (n : Node) : mays (l ++ [n]) = mays l ++ [mayStep (mays l) n] := by simp [mays]
theorem mayStep_ext {n : Node} {a b : List Bool} (h : ∀ k ∈ n.l, a.getD k.toNat false = b.getD k.toNat false) (h5 : n.op = 5 → n.l ≠ []) : mayStep a n = mayStep b n := by
  have h3 : (n.l.any fun k => !(a.getD k.toNat false)) = n.l.any fun k => !(b.getD k.toNat false) := by
    rw [Bool.eq_iff_iff]; simp only [List.any_eq_true]
    exact ⟨fun ⟨k, x, y⟩ => ⟨k, x, by rw [← h k x]; exact y⟩, fun ⟨k, x, y⟩ => ⟨k, x, by rw [h k x]; exact y⟩⟩
  have h4 : (n.l.any fun k => a.getD k.toNat false) = n.l.any fun k => b.getD k.toNat false := by
    rw [Bool.eq_iff_iff]; simp only [List.any_eq_true]
    exact ⟨fun ⟨k, x, y⟩ => ⟨k, x, by rw [← h k x]; exact y⟩, fun ⟨k, x, y⟩ => ⟨k, x, by rw [h k x]; exact y⟩⟩
  unfold mayStep
  rw [h3, h4]
  by_cases e5 : n.op = 5
  · have := h (n.l.headD 0) (by
      cases hl : n.l with
      | nil => exact absurd hl (h5 e5)
      | cons x xs => simp)
    rw [this]
  · simp only [e5, if_false]
def mayRow (l : List Node) (i : Nat) : List Bool := mays (l.take i) ++ List.replicate (l.length - i) false
theorem mayRow_len {l : List Node} {i : Nat} (h : i ≤ l.length) : (mayRow l i).length = l.length := by
  simp [mayRow, mays_len]; omega
theorem mayRow_step {l : List Node} {i : Nat} {n : Node} (hx : l[i]? = some n) (hk : ∀ k ∈ n.l, 0 ≤ k ∧ k < (i : Int)) (h5 : n.op = 5 → n.l ≠ []) : (mayRow l i).set i (mayStep (mayRow l i) n) = mayRow l (i + 1) := by
  have hi := (List.getElem?_eq_some_iff.1 hx).1
  have hm : (mays (l.take i)).length = i := by rw [mays_len, List.length_take]; omega
  have e : mayStep (mayRow l i) n = mayStep (mays (l.take i)) n := by
    refine mayStep_ext (fun k hk' => ?_) h5
    have := hk k hk'
    have hlt : k.toNat < (mays (l.take i)).length := by omega
    simp [mayRow, List.getD, List.getElem?_append_left hlt]
  rw [e]
  obtain ⟨r, hr⟩ : ∃ r, l.length - i = r + 1 := ⟨l.length - i - 1, by omega⟩
  have hr2 : l.length - (i + 1) = r := by omega
  unfold mayRow
  rw [take_one hx, mays_snoc, hr, hr2, List.replicate_succ, List.set_append_right _ _ (by omega), hm, Nat.sub_self, List.set_cons_zero, List.append_assoc]
  rfl
theorem mayRow_same {l : List Node} {i : Nat} {n : Node} (hx : l[i]? = some n) (h : ∀ bs, mayStep bs n = false) : mayRow l i = mayRow l (i + 1) := by
  have hi := (List.getElem?_eq_some_iff.1 hx).1
  obtain ⟨r, hr⟩ : ∃ r, l.length - i = r + 1 := ⟨l.length - i - 1, by omega⟩
  have hr2 : l.length - (i + 1) = r := by omega
  unfold mayRow
  rw [take_one hx, mays_snoc, hr, hr2, List.replicate_succ, List.append_assoc, h]
  rfl
theorem mayRow_end (l : List Node) : mayRow l l.length = mays l := by simp [mayRow]
theorem shape_kids {n : Node} (h : shapeOk n = true) : (n.op = 1 ∨ n.op = 2 ∨ n.op = 3 ∨ n.op = 4 ∨ n.op = 5 ∨ n.op = 6) ∧ (n.op = 5 → n.l.length = 1) := by
  unfold shapeOk at h
  simp only at h
  split at h
  · rename_i e; exact ⟨.inl e, fun e5 => by omega⟩
  · split at h
    · rename_i e; exact ⟨.inr (.inl e), fun e5 => by omega⟩
    · split at h
      · rename_i e; exact ⟨by omega, fun e5 => by omega⟩
      · split at h
        · rename_i e
          simp only [Bool.and_eq_true, decide_eq_true_eq] at h
          exact ⟨by omega, fun _ => h.1.1.2⟩
        · split at h
          · rename_i e; exact ⟨by omega, fun e5 => by omega⟩
          · cases h
theorem nullable_c (q f : Bool) (l : List Node) (hl : ∀ n ∈ l, n.name.size ≤ maxLen ∧ n.l.length ≤ maxLen) : ACall Tryd.prog 15 [.sl q f (nodes l)] [] fun r s => r = .bool (nullS l) ∧ s = [] := by
  have hr := rightS_c q f l hl
  refine ACall.enter Tryd.func15 rfl (by kernel_rfl) (Nat.le_of_ble_eq_true rfl) ?_; simp only [initTm, Nat.reduceAdd]
  cases hok : rightS l
  · rw [hok] at hr
    have e : nullS l = false := by simp [nullS, hok]
    rw [e]
    repeat' (first
  | refine gSq ?_ | refine gSk ?_ | refine gBl ?_ | refine gIb ?_ | refine gEx rfl ?_
  | ((first
  | (refine gRg [] [0, 2, 3, 4, 5, 6, 7, 10, 16, 17, 18, 19, 24, 25, 30, 40, 49] ?_; intro K hK)
  | (refine gDr 13 [] 5 [0, 1, 2, 3, 4, 5, 6, 7, 8] [0, 2, 3, 4, 5, 6, 7, 10, 16, 17, 18, 19, 24, 25, 30, 40, 49] rfl ?_; intro K hK)
  | (refine gDr 15 [] 5 [0, 1, 2, 3, 4, 5, 6, 7] [0, 2, 3, 4, 5, 6, 7, 10, 16, 17, 18, 19, 24, 25, 30, 40, 49] rfl ?_; intro K hK)
  | (refine gDr 17 [] 15 [0, 1, 2, 3, 4, 5, 6, 7, 8, 9, 10, 11, 12, 13, 14, 15] [0, 2, 3, 4, 5, 6, 7, 10, 16, 17, 18, 19, 24, 25, 30, 40, 49] rfl ?_; intro K hK)
  | refine cAl (hr) rfl rfl rfl ?_
  | (refine gd_split ?_ ?_ <;> intro hb <;> (try simp only [bls] at hb) <;> (try simp only [hb]))
  | refine gRt [] [.tmp 2] rfl ?_ | refine gDn [] [.tmp 2] rfl ?_) <;> (try simp only [go_sem, simprocAttr]))
  | (refine hK _ _ ?_; clear hK K; simp only [go_sem, simprocAttr])
  | refine gCd (by simp only [go_sem, simprocAttr]; rfl) rfl ?_
  | refine brT ?_ | refine brF ?_
  | (refine brS ?_ ?_ <;> intro hc <;> (try simp only [bls] at hc) <;> (try simp only [hc, bls]))
  | intro _ | refine And.intro ?_ ?_)
  · rw [hok] at hr
    have e : nullS l = (mays l).getLastD false := by simp [nullS, hok]
    have htree := rightS_ok hok (fun n h => (hl n h).1)
    have hL := htree.1.2
    rw [e]
    repeat' (first
  | refine gSq ?_ | refine gSk ?_ | refine gBl ?_ | refine gIb ?_ | refine gEx rfl ?_
  | ((first
  | (refine gRg [] [0, 2, 3, 4, 5, 6, 7, 10, 16, 17, 18, 19, 24, 25, 30, 40, 49] ?_; intro K hK)
  | (refine gDr 13 [] 5 [0, 1, 2, 3, 4, 5, 6, 7, 8] [0, 2, 3, 4, 5, 6, 7, 10, 16, 17, 18, 19, 24, 25, 30, 40, 49] rfl ?_; intro K hK)
  | (refine gDr 15 [] 5 [0, 1, 2, 3, 4, 5, 6, 7] [0, 2, 3, 4, 5, 6, 7, 10, 16, 17, 18, 19, 24, 25, 30, 40, 49] rfl ?_; intro K hK)
  | (refine gDr 17 [] 15 [0, 1, 2, 3, 4, 5, 6, 7, 8, 9, 10, 11, 12, 13, 14, 15] [0, 2, 3, 4, 5, 6, 7, 10, 16, 17, 18, 19, 24, 25, 30, 40, 49] rfl ?_; intro K hK)
  | refine cAl (hr) rfl rfl rfl ?_
  | (refine gd_split ?_ ?_ <;> intro hb <;> (try simp only [bls] at hb) <;> (try simp only [hb]))
  | refine gRt [] [.tmp 2] rfl ?_ | refine gDn [] [.tmp 2] rfl ?_) <;> (try simp only [go_sem, simprocAttr]))
  | (refine hK _ _ ?_; clear hK K; simp only [go_sem, simprocAttr])
  | refine gCd (by simp only [go_sem, simprocAttr]; rfl) rfl ?_
  | refine brT ?_ | refine brF ?_
  | (refine brS ?_ ?_ <;> intro hc <;> (try simp only [bls] at hc) <;> (try simp only [hc, bls]))
  | intro _ | refine And.intro ?_ ?_)
    all_goals first | (unfold bigLen; omega) | skip
    rename_i h13 h3
    have hrep : List.map (List.map nrm1) (List.replicate l.length [AVal.bool false]) = boolsL (mayRow l 0) := by simp [mayRow, mays, nrm1]
    rw [hrep]
    refine AGood.prune [0, 2, 3, 4, 5, 16, 17, 18] ?_; simp only [go_sem, simprocAttr]
    refine AGood.loopInv (α := Nat) (fun i => ([(0, .sl q f (nodes l)), (2, .bool false), (3, .bx 3 h3 0), (4, .fn 27 [.bx 3 h3 0]), (5, .fn 28 [.bx 3 h3 0]), (16, .sl q f (nodes l)), (17, .int .i64 l.length), (18, .int .i64 i)], [(3, h3, .box [.osl 13 h13 0 l.length]), (13, h13, .row 1 (boolsL (mayRow l i)))])) (fun i => i ≤ l.length) (fun i => l.length - i) 0 (Nat.zero_le _) rfl ?_
    intro i hi ih
    simp only
    by_cases hle : i < l.length
    · have e4 : (i : Int) < l.length := by omega
      have e5 : (0 : Int) ≤ i := by omega
      have hx : l[i]? = some l[i] := List.getElem?_eq_getElem hle
      obtain ⟨-, hn1, hk⟩ := htree.2 i _ hx
      obtain ⟨_, hall, _, _⟩ := rightS_kids hok
      obtain ⟨hops, hop5⟩ := shape_kids (List.all_eq_true.1 hall _ (List.getElem_mem hle))
      have hlen := mayRow_len hi
      have hst := mayRow_step hx hk (fun e h => by rw [h] at hop5; simpa using hop5 e)
      have hsm := fun h => mayRow_same hx h
      have ih := ih (i + 1) (by omega) (by omega)
      generalize l[i] = n at hx hn1 hk hops hop5 hst hsm
      rw [← hst] at ih
      generalize mayRow l i = W at hlen hst hsm ih ⊢
      have hiW : i < W.length := by omega
      have hwi : (boolsL W)[i]? = some [.bool W[i]] := by simp [hiW]
      have hc1 := fun g g1 => contains_c 27 (fun k => W.getD k.toNat false) true false n.l W g g1 hn1 (fun k hk' => by
        have := hk k hk'
        obtain ⟨m, rfl⟩ : ∃ m : Nat, k = m := ⟨k.toNat, by omega⟩
        exact nul1uc W g g1 m _ (by simp [List.getD, List.getElem?_eq_getElem (show m < W.length by omega)]))
      have hc2 := fun g g1 => contains_c 28 (fun k => !(W.getD k.toNat false)) true false n.l W g g1 hn1 (fun k hk' => by
        have := hk k hk'
        obtain ⟨m, rfl⟩ : ∃ m : Nat, k = m := ⟨k.toNat, by omega⟩
        exact nul2uc W g g1 m _ (by simp [List.getD, List.getElem?_eq_getElem (show m < W.length by omega)]))
      simp only [bsto, hlen] at hc1 hc2
      obtain ⟨xo, ⟨xa, xb, xc, xd⟩, xl, xlo, xhi, xn⟩ := n
      simp only [mayStep] at hops hop5 hk ih hc1 hc2
      by_cases h1 : xo = 1
      · subst h1
        repeat' (first
  | refine gSq ?_ | refine gSk ?_ | refine gBl ?_ | refine gIb ?_ | refine gEx rfl ?_
  | ((first
  | (refine gRg [] [0, 2, 3, 4, 5, 6, 7, 10, 16, 17, 18, 19, 24, 25, 30, 40, 49] ?_; intro K hK)
  | (refine gDr 13 [] 5 [0, 1, 2, 3, 4, 5, 6, 7, 8] [0, 2, 3, 4, 5, 6, 7, 10, 16, 17, 18, 19, 24, 25, 30, 40, 49] rfl ?_; intro K hK)
  | (refine gDr 15 [] 5 [0, 1, 2, 3, 4, 5, 6, 7] [0, 2, 3, 4, 5, 6, 7, 10, 16, 17, 18, 19, 24, 25, 30, 40, 49] rfl ?_; intro K hK)
  | (refine gDr 17 [] 15 [0, 1, 2, 3, 4, 5, 6, 7, 8, 9, 10, 11, 12, 13, 14, 15] [0, 2, 3, 4, 5, 6, 7, 10, 16, 17, 18, 19, 24, 25, 30, 40, 49] rfl ?_; intro K hK)
  | (refine gd_split ?_ ?_ <;> intro hb <;> (try simp only [bls] at hb) <;> (try simp only [hb]))
  | refine gRt [] [.tmp 2] rfl ?_ | refine gDn [] [.tmp 2] rfl ?_) <;> (try simp only [go_sem, simprocAttr, e4, e5, hx, hiW, Option.some.injEq, forall_eq']))
  | (refine hK _ _ ?_; clear hK K; simp only [go_sem, simprocAttr])
  | refine gCd (by simp only [go_sem, simprocAttr]; rfl) rfl ?_
  | refine brT ?_ | refine brF ?_
  | (refine brS ?_ ?_ <;> intro hc <;> (try simp only [bls] at hc) <;> (try simp only [hc, bls]))
  | intro _ | refine And.intro ?_ ?_)
        simp only [if_true] at ih
        all_goals first | omega | (unfold bigLen; omega) | exact ⟨_, _, ⟨rfl, rfl⟩, rfl⟩ | exact ⟨_, rfl⟩ | (rename_i hy; simp only [List.mem_singleton] at hy; subst hy; rfl) | skip
        rename_i y hy
        rw [hwi] at hy
        obtain rfl := Option.some.inj hy
        refine AGood.filt [3, 13] ?_
        simp only [sf_cons, sf_nil, go_sem, simprocAttr]
        refine AGood.prune [0, 2, 3, 4, 5, 16, 17, 18] ?_; simp only [go_sem, simprocAttr]
        exact ih.cast rfl (by simp [List.map_set])
      by_cases h3' : xo = 3
      · subst h3'
        simp only [if_true, h1, if_false] at ih
        repeat' (first
  | refine gSq ?_ | refine gSk ?_ | refine gBl ?_ | refine gIb ?_ | refine gEx rfl ?_
  | ((first
  | (refine gRg [] [0, 2, 3, 4, 5, 6, 7, 10, 16, 17, 18, 19, 24, 25, 30, 40, 49] ?_; intro K hK)
  | (refine gDr 13 [] 8 [0, 1, 2, 3, 4, 5, 6, 7, 8] [0, 2, 3, 4, 5, 6, 7, 10, 16, 17, 18, 19, 24, 25, 30, 40, 49] rfl ?_; intro K hK)
  | (refine gDr 15 [] 7 [0, 1, 2, 3, 4, 5, 6, 7] [0, 2, 3, 4, 5, 6, 7, 10, 16, 17, 18, 19, 24, 25, 30, 40, 49] rfl ?_; intro K hK)
  | (refine gDr 17 [] 15 [0, 1, 2, 3, 4, 5, 6, 7, 8, 9, 10, 11, 12, 13, 14, 15] [0, 2, 3, 4, 5, 6, 7, 10, 16, 17, 18, 19, 24, 25, 30, 40, 49] rfl ?_; intro K hK)
  | (refine ⟨_, ACall.part [(1000, 3), (1001, 13)] rfl (hc2 h3 h13) rfl rfl rfl rfl rfl rfl, ?_⟩)
  | (refine gd_split ?_ ?_ <;> intro hb <;> (try simp only [bls] at hb) <;> (try simp only [hb]))
  | refine gRt [] [.tmp 2] rfl ?_ | refine gDn [] [.tmp 2] rfl ?_) <;> (try simp only [go_sem, simprocAttr, e4, e5, hx, hiW, hlen, hle, Option.some.injEq, forall_eq']))
  | (refine hK _ _ ?_; clear hK K; simp only [go_sem, simprocAttr])
  | refine gCd (by simp only [go_sem, simprocAttr]; rfl) rfl ?_
  | refine brT ?_ | refine brF ?_
  | (refine brS ?_ ?_ <;> intro hc <;> (try simp only [bls] at hc) <;> (try simp only [hc, bls]))
  | intro _ | refine And.intro ?_ ?_)
        all_goals first | omega | (unfold bigLen; omega) | exact ⟨_, _, ⟨rfl, rfl⟩, rfl⟩ | exact ⟨_, rfl⟩ | (rename_i hy; simp only [List.mem_singleton] at hy; subst hy; rfl) | skip
        rename_i y hy
        rw [hwi] at hy
        obtain rfl := Option.some.inj hy
        refine AGood.filt [3, 13] ?_
        simp only [sf_cons, sf_nil, go_sem, simprocAttr]
        refine AGood.prune [0, 2, 3, 4, 5, 16, 17, 18] ?_; simp only [go_sem, simprocAttr]
        exact ih.cast rfl (by simp [List.map_set])
      by_cases h4' : xo = 4
      · subst h4'
        simp only [if_true, h1, h3', if_false] at ih
        repeat' (first
  | refine gSq ?_ | refine gSk ?_ | refine gBl ?_ | refine gIb ?_ | refine gEx rfl ?_
  | ((first
  | (refine gRg [] [0, 2, 3, 4, 5, 6, 7, 10, 16, 17, 18, 19, 24, 25, 30, 40, 49] ?_; intro K hK)
  | (refine gDr 13 [] 8 [0, 1, 2, 3, 4, 5, 6, 7, 8] [0, 2, 3, 4, 5, 6, 7, 10, 16, 17, 18, 19, 24, 25, 30, 40, 49] rfl ?_; intro K hK)
  | (refine gDr 15 [] 7 [0, 1, 2, 3, 4, 5, 6, 7] [0, 2, 3, 4, 5, 6, 7, 10, 16, 17, 18, 19, 24, 25, 30, 40, 49] rfl ?_; intro K hK)
  | (refine gDr 17 [] 15 [0, 1, 2, 3, 4, 5, 6, 7, 8, 9, 10, 11, 12, 13, 14, 15] [0, 2, 3, 4, 5, 6, 7, 10, 16, 17, 18, 19, 24, 25, 30, 40, 49] rfl ?_; intro K hK)
  | (refine ⟨_, ACall.part [(1000, 3), (1001, 13)] rfl (hc1 h3 h13) rfl rfl rfl rfl rfl rfl, ?_⟩)
  | (refine gd_split ?_ ?_ <;> intro hb <;> (try simp only [bls] at hb) <;> (try simp only [hb]))
  | refine gRt [] [.tmp 2] rfl ?_ | refine gDn [] [.tmp 2] rfl ?_) <;> (try simp only [go_sem, simprocAttr, e4, e5, hx, hiW, hlen, hle, Option.some.injEq, forall_eq']))
  | (refine hK _ _ ?_; clear hK K; simp only [go_sem, simprocAttr])
  | refine gCd (by simp only [go_sem, simprocAttr]; rfl) rfl ?_
  | refine brT ?_ | refine brF ?_
  | (refine brS ?_ ?_ <;> intro hc <;> (try simp only [bls] at hc) <;> (try simp only [hc, bls]))
  | intro _ | refine And.intro ?_ ?_)
        all_goals first | omega | (unfold bigLen; omega) | exact ⟨_, _, ⟨rfl, rfl⟩, rfl⟩ | exact ⟨_, rfl⟩ | (rename_i hy; simp only [List.mem_singleton] at hy; subst hy; rfl) | skip
        rename_i y hy
        rw [hwi] at hy
        obtain rfl := Option.some.inj hy
        refine AGood.filt [3, 13] ?_
        simp only [sf_cons, sf_nil, go_sem, simprocAttr]
        refine AGood.prune [0, 2, 3, 4, 5, 16, 17, 18] ?_; simp only [go_sem, simprocAttr]
        exact ih.cast rfl (by simp [List.map_set])
      by_cases h5' : xo = 5
      · subst h5'
        simp only [if_true, h1, h3', h4', if_false] at ih
        by_cases hlo : xlo = 0
        · simp only [hlo, if_true] at ih
          subst hlo
          repeat' (first
  | refine gSq ?_ | refine gSk ?_ | refine gBl ?_ | refine gIb ?_ | refine gEx rfl ?_
  | ((first
  | (refine gRg [] [0, 2, 3, 4, 5, 6, 7, 10, 16, 17, 18, 19, 24, 25, 30, 40, 49] ?_; intro K hK)
  | (refine gDr 13 [] 5 [0, 1, 2, 3, 4, 5, 6, 7, 8] [0, 2, 3, 4, 5, 6, 7, 10, 16, 17, 18, 19, 24, 25, 30, 40, 49] rfl ?_; intro K hK)
  | (refine gDr 15 [] 5 [0, 1, 2, 3, 4, 5, 6, 7] [0, 2, 3, 4, 5, 6, 7, 10, 16, 17, 18, 19, 24, 25, 30, 40, 49] rfl ?_; intro K hK)
  | (refine gDr 17 [] 15 [0, 1, 2, 3, 4, 5, 6, 7, 8, 9, 10, 11, 12, 13, 14, 15] [0, 2, 3, 4, 5, 6, 7, 10, 16, 17, 18, 19, 24, 25, 30, 40, 49] rfl ?_; intro K hK)
  | (refine gd_split ?_ ?_ <;> intro hb <;> (try simp only [bls] at hb) <;> (try simp only [hb]))
  | refine gRt [] [.tmp 2] rfl ?_ | refine gDn [] [.tmp 2] rfl ?_) <;> (try simp only [go_sem, simprocAttr, e4, e5, hx, hiW, hlen, hle, Option.some.injEq, forall_eq']))
  | (refine hK _ _ ?_; clear hK K; simp only [go_sem, simprocAttr])
  | refine gCd (by simp only [go_sem, simprocAttr]; rfl) rfl ?_
  | refine brT ?_ | refine brF ?_
  | (refine brS ?_ ?_ <;> intro hc <;> (try simp only [bls] at hc) <;> (try simp only [hc, bls]))
  | intro _ | refine And.intro ?_ ?_)
          all_goals first | omega | (unfold bigLen; omega) | exact ⟨_, _, ⟨rfl, rfl⟩, rfl⟩ | exact ⟨_, rfl⟩ | (rename_i hy; simp only [List.mem_singleton] at hy; subst hy; rfl) | skip
          rename_i y hy
          rw [hwi] at hy
          obtain rfl := Option.some.inj hy
          refine AGood.filt [3, 13] ?_
          simp only [sf_cons, sf_nil, go_sem, simprocAttr]
          refine AGood.prune [0, 2, 3, 4, 5, 16, 17, 18] ?_; simp only [go_sem, simprocAttr]
          exact ih.cast rfl (by simp [List.map_set])
        · simp only [hlo, if_false] at ih
          obtain ⟨k, hxl⟩ : ∃ k, xl = [k] := List.length_eq_one_iff.1 (hop5 rfl)
          have hk1 := hk k (by simp [hxl])
          obtain ⟨m, rfl⟩ : ∃ m : Nat, k = m := ⟨k.toNat, by omega⟩
          have hx0 : xl[0]? = some (m : Int) := by simp [hxl]
          have hx1 : (0 : Int) < xl.length := by simp [hxl]
          have hx2 : xl.headD 0 = (m : Int) := by simp [hxl]
          clear hxl
          have hm : m < W.length := by omega
          have hm2 : (m : Int) < l.length := by omega
          have hm3 : m < l.length := by omega
          have hm4 : (0 : Int) ≤ m := by omega
          have hwm : W[m]? = some W[m] := List.getElem?_eq_getElem hm
          have hgm : W.getD m false = W[m] := by simp [List.getD, hm]
          simp only [hx2, Int.toNat_natCast, hgm] at ih
          generalize W[m] = b at hwm hgm ih
          repeat' (first
  | refine gSq ?_ | refine gSk ?_ | refine gBl ?_ | refine gIb ?_ | refine gEx rfl ?_
  | ((first
  | (refine gRg [] [0, 2, 3, 4, 5, 6, 7, 10, 16, 17, 18, 19, 24, 25, 30, 40, 49] ?_; intro K hK)
  | (refine gDr 13 [] 5 [0, 1, 2, 3, 4, 5, 6, 7, 8] [0, 2, 3, 4, 5, 6, 7, 10, 16, 17, 18, 19, 24, 25, 30, 40, 49] rfl ?_; intro K hK)
  | (refine gDr 15 [] 5 [0, 1, 2, 3, 4, 5, 6, 7] [0, 2, 3, 4, 5, 6, 7, 10, 16, 17, 18, 19, 24, 25, 30, 40, 49] rfl ?_; intro K hK)
  | (refine gDr 17 [] 15 [0, 1, 2, 3, 4, 5, 6, 7, 8, 9, 10, 11, 12, 13, 14, 15] [0, 2, 3, 4, 5, 6, 7, 10, 16, 17, 18, 19, 24, 25, 30, 40, 49] rfl ?_; intro K hK)
  | (refine gd_split ?_ ?_ <;> intro hb <;> (try simp only [bls] at hb) <;> (try simp only [hb]))
  | refine gRt [] [.tmp 2] rfl ?_ | refine gDn [] [.tmp 2] rfl ?_) <;> (try simp only [go_sem, simprocAttr, e4, e5, hx, hiW, hlen, hle, hlo, hx0, hx1, Int.le_refl, hm, hm2, hm3, hm4, hwm, Option.some.injEq, forall_eq']))
  | (refine hK _ _ ?_; clear hK K; simp only [go_sem, simprocAttr])
  | refine gCd (by simp only [go_sem, simprocAttr]; rfl) rfl ?_
  | refine brT ?_ | refine brF ?_
  | (refine brS ?_ ?_ <;> intro hc <;> (try simp only [bls] at hc) <;> (try simp only [hc, bls]))
  | intro _ | refine And.intro ?_ ?_)
          all_goals first | omega | (unfold bigLen; omega) | exact ⟨_, _, ⟨rfl, rfl⟩, rfl⟩ | exact ⟨_, rfl⟩ | (rename_i hy; simp only [List.mem_singleton] at hy; subst hy; rfl) | skip
          rename_i y hy
          rw [hwi] at hy
          obtain rfl := Option.some.inj hy
          refine AGood.filt [3, 13] ?_
          simp only [sf_cons, sf_nil, go_sem, simprocAttr]
          refine AGood.prune [0, 2, 3, 4, 5, 16, 17, 18] ?_; simp only [go_sem, simprocAttr]
          exact ih.cast rfl (by simp [List.map_set])
      have hno := hsm (fun bs => by simp [mayStep, h1, h3', h4', h5'])
      simp only [h1, h3', h4', h5', if_false] at ih
      simp only [mayStep, h1, h3', h4', h5', if_false] at hst
      rw [hst, ← hno] at ih
      repeat' (first
  | refine gSq ?_ | refine gSk ?_ | refine gBl ?_ | refine gIb ?_ | refine gEx rfl ?_
  | ((first
  | (refine gRg [] [0, 2, 3, 4, 5, 6, 7, 10, 16, 17, 18, 19, 24, 25, 30, 40, 49] ?_; intro K hK)
  | (refine gDr 13 [] 5 [0, 1, 2, 3, 4, 5, 6, 7, 8] [0, 2, 3, 4, 5, 6, 7, 10, 16, 17, 18, 19, 24, 25, 30, 40, 49] rfl ?_; intro K hK)
  | (refine gDr 15 [] 5 [0, 1, 2, 3, 4, 5, 6, 7] [0, 2, 3, 4, 5, 6, 7, 10, 16, 17, 18, 19, 24, 25, 30, 40, 49] rfl ?_; intro K hK)
  | (refine gDr 17 [] 15 [0, 1, 2, 3, 4, 5, 6, 7, 8, 9, 10, 11, 12, 13, 14, 15] [0, 2, 3, 4, 5, 6, 7, 10, 16, 17, 18, 19, 24, 25, 30, 40, 49] rfl ?_; intro K hK)
  | (refine gd_split ?_ ?_ <;> intro hb <;> (try simp only [bls] at hb) <;> (try simp only [hb]))
  | refine gRt [] [.tmp 2] rfl ?_ | refine gDn [] [.tmp 2] rfl ?_) <;> (try simp only [go_sem, simprocAttr, e4, e5, hx, h1, h3', h4', h5', hiW, hlen, Option.some.injEq, forall_eq']))
  | (refine hK _ _ ?_; clear hK K; simp only [go_sem, simprocAttr])
  | refine gCd (by simp only [go_sem, simprocAttr]; rfl) rfl ?_
  | refine brT ?_ | refine brF ?_
  | (refine brS ?_ ?_ <;> intro hc <;> (try simp only [bls] at hc) <;> (try simp only [hc, bls]))
  | intro _ | refine And.intro ?_ ?_)
      all_goals first | omega | (unfold bigLen; omega) | exact ⟨_, _, ⟨rfl, rfl⟩, rfl⟩ | exact ⟨_, rfl⟩ | (rename_i hy; simp only [List.mem_singleton] at hy; subst hy; rfl) | skip
      refine AGood.filt [3, 13] ?_
      simp only [sf_cons, sf_nil, go_sem, simprocAttr]
      refine AGood.prune [0, 2, 3, 4, 5, 16, 17, 18] ?_; simp only [go_sem, simprocAttr]
      exact ih.cast rfl rfl
    · have e4 : ¬ (i : Int) < l.length := by omega
      have hin : i = l.length := by omega
      subst hin
      clear ih
      rw [mayRow_end]
      have h1 := htree.1.1
      have hml := mays_len l
      have e6 : (l.length : Int) - 1 = ((l.length - 1 : Nat) : Int) := by omega
      have e7 : l.length - 1 < l.length := by omega
      have e8 : ((l.length - 1 : Nat) : Int) < l.length := by omega
      have e9 : (mays l).getLastD false = (mays l).getD (l.length - 1) false := by
        rw [List.getLastD_eq_getLast?, List.getLast?_eq_getElem?, hml]; rfl
      rw [e9]
      have hlt : l.length - 1 < (mays l).length := by omega
      have hlast : (mays l)[l.length - 1]? = some ((mays l).getD (l.length - 1) false) := by
        simp [List.getD, hlt]
      generalize (mays l).getD (l.length - 1) false = b at hlast
      generalize l.length - 1 = m at e6 e7 e8 hlast
      repeat' (first
  | refine gSq ?_ | refine gSk ?_ | refine gBl ?_ | refine gIb ?_ | refine gEx rfl ?_
  | ((first
  | (refine gRg [] [0, 2, 3, 4, 5, 6, 7, 10, 16, 17, 18, 19, 24, 25, 30, 40, 49] ?_; intro K hK)
  | (refine gDr 13 [] 5 [0, 1, 2, 3, 4, 5, 6, 7, 8] [0, 2, 3, 4, 5, 6, 7, 10, 16, 17, 18, 19, 24, 25, 30, 40, 49] rfl ?_; intro K hK)
  | (refine gDr 15 [] 5 [0, 1, 2, 3, 4, 5, 6, 7] [0, 2, 3, 4, 5, 6, 7, 10, 16, 17, 18, 19, 24, 25, 30, 40, 49] rfl ?_; intro K hK)
  | (refine gDr 17 [] 15 [0, 1, 2, 3, 4, 5, 6, 7, 8, 9, 10, 11, 12, 13, 14, 15] [0, 2, 3, 4, 5, 6, 7, 10, 16, 17, 18, 19, 24, 25, 30, 40, 49] rfl ?_; intro K hK)
  | (refine gd_split ?_ ?_ <;> intro hb <;> (try simp only [bls] at hb) <;> (try simp only [hb]))
  | refine gRt [] [.tmp 2] rfl ?_ | refine gDn [] [.tmp 2] rfl ?_) <;> (try simp only [go_sem, simprocAttr, e4, e6, e7, e8, hml, hlast, Option.some.injEq, forall_eq']))
  | (refine hK _ _ ?_; clear hK K; simp only [go_sem, simprocAttr])
  | refine gCd (by simp only [go_sem, simprocAttr]; rfl) rfl ?_
  | refine brT ?_ | refine brF ?_
  | (refine brS ?_ ?_ <;> intro hc <;> (try simp only [bls] at hc) <;> (try simp only [hc, bls]))
  | intro _ | refine And.intro ?_ ?_)
      all_goals first | omega | (unfold bigLen; omega) | exact ⟨_, _, ⟨rfl, rfl⟩, rfl⟩ | exact ⟨_, rfl⟩ | (rename_i hy; simp only [List.mem_singleton] at hy; subst hy; rfl) | skip
end Go.Rad
