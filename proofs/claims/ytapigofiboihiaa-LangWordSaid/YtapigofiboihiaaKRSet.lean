/- Sets of nodes whose words are what their kinds hold. -/
import Derived.Test.YtapigofiboihiaaKRGrow
import Derived.Test.YtapigofiboihiaaKRRunC
import Derived.Test.YtapigofiboihiaaKRNode
import Derived.Test.YtapigofiboihiaaRows
set_option linter.all false
namespace Go.Rad
open Go
def ISet.N (s : ISet) : NSet := ⟨s.a.toNat, s.b.toNat, s.c.toNat, s.d.toNat⟩
def ISet.okI (s : ISet) : Prop := fits .u64 s.a ∧ fits .u64 s.b ∧ fits .u64 s.c ∧ fits .u64 s.d
theorem okI_N {s : ISet} (h : s.okI) : s.N.ok ∧ s = s.N.I := by
  obtain ⟨a, b, c, d⟩ := s
  obtain ⟨h1, h2, h3, h4⟩ := h
  obtain ⟨a, rfl, k1⟩ := fit64 h1
  obtain ⟨b, rfl, k2⟩ := fit64 h2
  obtain ⟨c, rfl, k3⟩ := fit64 h3
  obtain ⟨d, rfl, k4⟩ := fit64 h4
  exact ⟨⟨k1, k2, k3, k4⟩, rfl⟩
section
variable {L : Lay} {k t : Nat} {y : List AVal}
theorem ty_setF {e : Nat} (ht : (L t).ty = .array 4 e) (he : (L e).ty = .int .u64) (h : typed L (k + 2) t y) : ∃ s : ISet, y = s.cells ∧ s.okI := by
  have h := ty_array ht h
  obtain ⟨x1, r1, rfl, h1, x2, r2, rfl, h2, x3, r3, rfl, h3, x4, r4, rfl, h4, rfl⟩ := h
  obtain ⟨a, rfl, f1⟩ := ty_int he h1
  obtain ⟨b, rfl, f2⟩ := ty_int he h2
  obtain ⟨c, rfl, f3⟩ := ty_int he h3
  obtain ⟨d, rfl, f4⟩ := ty_int he h4
  exact ⟨⟨a, b, c, d⟩, rfl, f1, f2, f3, f4⟩
def nodeFit (n : Node) : Prop := (n.name.size ≤ maxLen ∧ n.l.length ≤ maxLen) ∧ n.s.okI
theorem ty_nodeF (hn : NodeTy L t) (h : typed L (k + 3) t y) : ∃ n : Node, y = n.cells ∧ nodeFit n := by
  obtain ⟨o, st, l, i, s, w, h1, h2, h3, h4, h5, h6, h7⟩ := hn.ex
  have h := ty_struct h1 h
  obtain ⟨x1, r1, rfl, p1, x2, r2, rfl, p2, x3, r3, rfl, p3, x4, r4, rfl, p4, x5, r5, rfl, p5, x6, r6, rfl, p6, rfl⟩ := h
  obtain ⟨no, rfl, _⟩ := ty_int h2 p1
  obtain ⟨ns, rfl, hst⟩ := ty_setF h3 h4 p2
  obtain ⟨nl, rfl, hl⟩ := ty_ints h5 h6 p3
  obtain ⟨nlo, rfl, _⟩ := ty_int h6 p4
  obtain ⟨nhi, rfl, _⟩ := ty_int h6 p5
  obtain ⟨nn, rfl, hs⟩ := ty_str h7 p6
  exact ⟨⟨no, ns, nl, nlo, nhi, nn⟩, rfl, ⟨hs, hl⟩, hst⟩
theorem ty_nodesF {e : Nat} (ht : (L t).ty = .slice e) (hn : NodeTy L e) (h : typed L (k + 4) t y) : ∃ l : List Node, y = [.sl true false (nodes l)] ∧ l.length ≤ maxLen ∧ ∀ n ∈ l, nodeFit n := by
  obtain ⟨l, rfl, hl, hx⟩ := ty_slice ht h
  obtain ⟨ns, rfl, hns⟩ := list_of (F := Node.cells) (P := nodeFit) fun x hx' => ty_nodeF hn (hx x hx')
  exact ⟨ns, rfl, by simpa using hl, hns⟩
theorem ty_defsF {e : Nat} (ht : (L t).ty = .slice e) (hn : DefTy L e) (h : typed L (k + 6) t y) : ∃ l : List Df, y = [.sl true false (defs l)] ∧ l.length ≤ maxLen ∧ ∀ d ∈ l, d.name.size ≤ maxLen ∧ d.l.length ≤ maxLen ∧ ∀ n ∈ d.l, nodeFit n := by
  obtain ⟨s, ln, n, h1, h2, h3, h4⟩ := hn.ex
  obtain ⟨l, rfl, hl, hx⟩ := ty_slice ht h
  obtain ⟨ds, rfl, hds⟩ := list_of (F := Df.cells) (P := fun d => d.name.size ≤ maxLen ∧ d.l.length ≤ maxLen ∧ ∀ n ∈ d.l, nodeFit n) fun x hx' => by
    have h := ty_struct h1 (hx x hx')
    obtain ⟨x1, r1, rfl, p1, x2, r2, rfl, p2, rfl⟩ := h
    obtain ⟨nn, rfl, hs⟩ := ty_str h2 p1
    obtain ⟨dl, rfl, hd1, hd2⟩ := ty_nodesF h3 h4 p2
    exact ⟨⟨nn, dl⟩, rfl, hs, hd1, hd2⟩
  exact ⟨ds, rfl, by simpa using hl, hds⟩
end
end Go.Rad
/- The ends of a tree in a text, of the program and of the document: both, whatever the nodes are. -/
namespace Go.Rad
open Go Go.Proofs
set_option linter.all false
set_option maxRecDepth 20000
set_option maxHeartbeats 4000000

def lanT (f : Fo) : Lan := (lan f).headD epsW
theorem semT_tells {w : ByteArray} {fo : Fo} (hd : fo.deg = 1) (hs : fo.shapeF = true) : Tells w (semT w fo) (lanT fo) := by
  match fo, hd with
  | .node b k .nil, _ => exact (sem_tells (w := w) _ hs).1
/-- The ends from a place on. -/
def endT (w : ByteArray) (fo : Fo) (i : Nat) : List Int := posS (semT w fo (pointB (w.size + 1) i))
theorem endT_rise (w : ByteArray) (fo : Fo) (i : Nat) : (endT w fo i).Pairwise (· < ·) := posS_rise _
theorem endT_mem {w : ByteArray} {fo : Fo} (hd : fo.deg = 1) (hs : fo.shapeF = true) (i : Nat) (x : Int) : x ∈ endT w fo i ↔ ∃ k : Nat, x = k ∧ i ≤ k ∧ k ≤ w.size ∧ lanT fo (subW w i k) := by
  rw [endT, posS_mem]
  constructor
  · rintro ⟨k, rfl, h⟩
    obtain ⟨h1, j, h2, h3, h4⟩ := ((semT_tells hd hs).iff _ (pointB_len _ _) k).1 h
    simp only [point_get, Bool.and_eq_true, decide_eq_true_eq] at h3
    obtain ⟨rfl, _⟩ := h3
    exact ⟨k, rfl, h2, h1, h4⟩
  · rintro ⟨k, rfl, h1, h2, h3⟩
    refine ⟨k, rfl, ((semT_tells hd hs).iff _ (pointB_len _ _) k).2 ⟨h2, i, h1, ?_, h3⟩⟩
    simp only [point_get, Bool.and_eq_true, decide_eq_true_eq]
    exact ⟨trivial, by omega⟩
theorem endT_len {w : ByteArray} {fo : Fo} (hd : fo.deg = 1) (i : Nat) : (endT w fo i).length ≤ w.size + 1 := by
  have := posS_len (semT w fo (pointB (w.size + 1) i))
  rwa [semT_len hd (pointB_len _ _)] at this
theorem fit_words {l : List Node} (h : ∀ n ∈ l, nodeFit n) : ∀ n ∈ l, ∀ k, 0 ≤ n.s.word k := by
  intro n hn k
  obtain ⟨_, h1, h2, h3, h4⟩ := h n hn
  obtain ⟨h1, _⟩ := h1
  obtain ⟨h2, _⟩ := h2
  obtain ⟨h3, _⟩ := h3
  obtain ⟨h4, _⟩ := h4
  simp only [IntKind.min] at h1 h2 h3 h4
  unfold ISet.word
  split <;> first | exact h1 | exact h2 | exact h3 | exact h4
/-- What both packages tell of any nodes. -/
structure Both (P : Program) (fa fb : Nat) (f : Bool) (l : List Node) (w : ByteArray) (fr : Int) (b1 b2 : Bool) (E : List Int) : Prop where
  a : ACall P fa [.sl true f (nodes l), .str w, .int .i64 fr] [] fun r s => r = .sl true b1 (ints E) ∧ s = []
  b : ACall P fb [.sl true f (nodes l), .str w, .int .i64 fr] [] fun r s => r = .sl true b2 (ints E) ∧ s = []
  from' : ∀ x ∈ E, fr ≤ x
  upto : ∀ x ∈ E, x ≤ (w.size : Int)
  rise : E.Pairwise (· < ·)
  len : E.length ≤ 1000001
theorem both_c {f : Bool} {l : List Node} {w : ByteArray} {fr : Int} (hll : l.length ≤ maxLen) (hl : ∀ n ∈ l, nodeFit n) (hw : w.size ≤ 900000) : ∃ b1 b2 E, Both Try.prog 13 22 f l w fr b1 b2 E := by
  have hnd : ∀ n ∈ l, n.name.size ≤ maxLen ∧ n.l.length ≤ maxLen := fun n h => (hl n h).1
  by_cases hno : fr < 0 ∨ (w.size : Int) < fr ∨ plainS l = false
  · have hwm : w.size ≤ maxLen := by unfold maxLen; omega
    exact ⟨true, true, [], endsNo_c f l w fr hnd hwm hno, ends7No_c f l w fr hll hnd hwm hno, by simp, by simp, .nil, by simp⟩
  · have hp : plainS l = true := by cases h : plainS l; exact absurd (.inr (.inr h)) hno; rfl
    obtain ⟨fo, hd, rfl, hs, hz, h6⟩ := (plain_fo l).1 hp
    obtain ⟨i, rfl⟩ : ∃ i : Nat, fr = i := ⟨fr.toNat, by omega⟩
    have hi : i ≤ w.size := by omega
    refine ⟨false, false, endT w fo i, endsTop_c hw f fo hd hs hz h6 (fit_words hl) i hi, ends7Top_c (by omega) f fo hd hs hz h6 i hi, ?_, ?_, endT_rise _ _ _, by have := endT_len (w := w) hd i; omega⟩
    · intro x hx
      obtain ⟨k, rfl, h1, _⟩ := (endT_mem hd hs i x).1 hx
      omega
    · intro x hx
      obtain ⟨k, rfl, _, h1, _⟩ := (endT_mem hd hs i x).1 hx
      omega
end Go.Rad
/- Contracts: the statements of layer 7: lists, trees put together. -/
namespace Go.Rad
open Go Go.Proofs
set_option linter.all false
set_option maxRecDepth 20000
set_option maxHeartbeats 4000000

theorem list7uc (q f : Bool) (E : List Bool) (hl : E.length ≤ 1000000) : ACall Try.prog 16 [.sl q f (bools E)] [] fun r s => r = .sl true false (ints (posS E)) ∧ s = [] := by
  obtain ⟨PS, hPS⟩ : ∃ PS : Nat → List Nat, PS = fun i => (List.range i).filter fun j => E.getD j false := ⟨_, rfl⟩
  have hp0 : PS 0 = [] := by rw [hPS]; rfl
  have hp1 : ∀ i, PS (i + 1) = PS i ++ (if E.getD i false = true then [i] else []) := by
    intro i
    rw [hPS]
    simp only [List.range_succ, List.filter_append]
    cases hb : E.getD i false <;> (rw [List.getD_eq_getElem?_getD] at hb; simp [hb])
  have hpE : posN E = PS E.length := by rw [hPS]; rfl
  have hpl2 : ∀ i, (PS i).length ≤ i := fun i => by
    rw [hPS]
    refine Nat.le_trans (List.length_filter_le _ _) ?_
    simp
  clear hPS
  rw [show posS E = (PS E.length).map fun (i : Nat) => (i : Int) from by rw [posS, hpE]]
  refine ACall.enter Try.func16 rfl (by kernel_rfl) (Nat.le_of_ble_eq_true rfl) ?_; simp only [initTm, Nat.reduceAdd]
  repeat' (first
  | refine gSq ?_ | refine gSk ?_ | refine gBl ?_ | refine gIb ?_ | refine gEx rfl ?_
  | ((first
  | (refine gRg [] [0, 2, 3, 4, 5, 6, 7, 8, 9, 13] ?_; intro K hK)
  | (refine gd_split ?_ ?_ <;> intro hb <;> (try simp only [bls] at hb) <;> (try simp only [hb]))
  | refine gRt [] [.tmp 2] rfl ?_ | refine gDn [] [.tmp 2] rfl ?_) <;> (try simp only [go_sem, simprocAttr]))
  | (refine hK _ _ ?_; clear hK K; simp only [go_sem, simprocAttr])
  | refine gCd (by simp only [go_sem, simprocAttr]; rfl) rfl ?_
  | refine brT ?_ | refine brF ?_
  | (refine brS ?_ ?_ <;> intro hc <;> (try simp only [bls] at hc) <;> (try simp only [hc, bls]))
  | intro _ | refine And.intro ?_ ?_)
  all_goals first | omega | (unfold bigLen; omega) | exact ⟨_, _, ⟨rfl, rfl⟩, rfl⟩ | exact ⟨_, rfl⟩ | (rename_i hy; simp only [List.mem_singleton] at hy; subst hy; rfl) | with_reducible rfl | skip
  refine AGood.ownTm 3 900 1 (by decide) rfl fun g9 => ?_
  simp only [go_sem, simprocAttr]
  refine AGood.prune [2, 3, 6, 7, 8] ?_; simp only [go_sem, simprocAttr]
  refine AGood.loopInv (α := Nat × Nat) (fun x => ([(2, .sl true true []), (3, .osl 900 x.2 0 (PS x.1).length), (6, .sl q f (bools E)), (7, .int .i64 E.length), (8, .int .i64 x.1)], [(900, x.2, .row 1 (ints ((PS x.1).map fun (i : Nat) => (i : Int))))])) (fun x => x.1 ≤ E.length) (fun x => E.length - x.1) (0, g9) (Nat.zero_le _) (by simp only [hp0]; rfl) ?_
  rintro ⟨i, g⟩ hi ih
  simp only at hi ih ⊢
  have hl9 := hpl2 i
  by_cases hle : i < E.length
  · have f4 : (i : Int) < E.length := by omega
    have f5 : (0 : Int) ≤ i := by omega
    have f6 : (i : Int) + 1 = ((i + 1 : Nat) : Int) := by omega
    have hE : E[i]? = some E[i] := List.getElem?_eq_getElem hle
    have hgd : E.getD i false = E[i] := by simp [List.getD, hle]
    have h1 := hp1 i
    rw [hgd] at h1
    generalize E[i] = x at hE h1
    cases x
    · simp only [Bool.false_eq_true, if_false, List.append_nil] at h1
      repeat' (first
  | refine gSq ?_ | refine gSk ?_ | refine gBl ?_ | refine gIb ?_ | refine gEx rfl ?_
  | ((first
  | (refine gRg [] [0, 2, 3, 4, 5, 6, 7, 8, 9, 13] ?_; intro K hK)
  | (refine gd_split ?_ ?_ <;> intro hb <;> (try simp only [bls] at hb) <;> (try simp only [hb]))
  | refine gRt [] [.tmp 2] rfl ?_ | refine gDn [] [.tmp 2] rfl ?_) <;> (try simp only [go_sem, simprocAttr, f4, f5, f6, hE, Option.some.injEq, forall_eq']))
  | (refine hK _ _ ?_; clear hK K; simp only [go_sem, simprocAttr])
  | refine gCd (by simp only [go_sem, simprocAttr]; rfl) rfl ?_
  | refine brT ?_ | refine brF ?_
  | (refine brS ?_ ?_ <;> intro hc <;> (try simp only [bls] at hc) <;> (try simp only [hc, bls]))
  | intro _ | refine And.intro ?_ ?_)
      all_goals first | omega | (unfold bigLen; omega) | exact ⟨_, _, ⟨rfl, rfl⟩, rfl⟩ | exact ⟨_, rfl⟩ | (rename_i hy; simp only [List.mem_singleton] at hy; subst hy; rfl) | with_reducible rfl | skip
      refine AGood.filt [900] ?_
      simp only [sf_cons, sf_nil, go_sem, simprocAttr]
      refine AGood.prune [2, 3, 6, 7, 8] ?_; simp only [go_sem, simprocAttr]
      exact AGood.cast (ih (i + 1, g) (by simp only; omega) (by simp only; omega)) (by simp only [h1]) (by simp only [h1])
    · simp only [if_true] at h1
      repeat' (first
  | refine gSq ?_ | refine gSk ?_ | refine gBl ?_ | refine gIb ?_ | refine gEx rfl ?_
  | ((first
  | (refine gRg [16] [0, 2, 3, 4, 5, 6, 7, 8, 9, 13] ?_; intro K hK)
  | (refine gd_split ?_ ?_ <;> intro hb <;> (try simp only [bls] at hb) <;> (try simp only [hb]))
  | refine gRt [] [.tmp 2] rfl ?_ | refine gDn [] [.tmp 2] rfl ?_) <;> (try simp only [go_sem, simprocAttr, f4, f5, f6, hE, Option.some.injEq, forall_eq']))
  | (refine hK _ _ ?_; clear hK K; simp only [go_sem, simprocAttr])
  | refine gCd (by simp only [go_sem, simprocAttr]; rfl) rfl ?_
  | refine brT ?_ | refine brF ?_
  | (refine brS ?_ ?_ <;> intro hc <;> (try simp only [bls] at hc) <;> (try simp only [hc, bls]))
  | intro _ | refine And.intro ?_ ?_)
      all_goals first | omega | (unfold bigLen; omega) | exact ⟨_, _, ⟨rfl, rfl⟩, rfl⟩ | exact ⟨_, rfl⟩ | (rename_i hy; simp only [List.mem_singleton] at hy; subst hy; rfl) | with_reducible rfl | skip
      rename_i h'
      refine AGood.filt [900] ?_
      simp only [sf_cons, sf_nil, go_sem, simprocAttr]
      refine AGood.prune [2, 3, 6, 7, 8] ?_; simp only [go_sem, simprocAttr]
      exact AGood.cast (ih (i + 1, h') (by simp only; omega) (by simp only; omega)) (by simp only [h1]; simp) (by simp only [h1]; simp)
  · have f4 : ¬ (i : Int) < E.length := by omega
    have hin : i = E.length := by omega
    rw [hin]
    rw [hin] at f4 ih
    clear ih
    have g15 : (ints ((PS E.length).map fun (i : Nat) => (i : Int))).take (PS E.length).length = ints ((PS E.length).map fun (i : Nat) => (i : Int)) := List.take_of_length_le (by simp)
    repeat' (first
  | refine gSq ?_ | refine gSk ?_ | refine gBl ?_ | refine gIb ?_ | refine gEx rfl ?_
  | ((first
  | (refine AGood.at 8 ?_; (refine AGood.freeze 900 rfl ?_; simp only [rfT, rfS, rfO, rf, rf1, g15, List.length_map, Nat.le_refl, true_and, go_sem, simprocAttr]); (refine gRg [] [0, 2, 3, 4, 5, 6, 7, 8, 9, 13] ?_; intro K hK))
  | (refine gRg [] [0, 2, 3, 4, 5, 6, 7, 8, 9, 13] ?_; intro K hK)
  | (refine gd_split ?_ ?_ <;> intro hb <;> (try simp only [bls] at hb) <;> (try simp only [hb]))
  | refine gRt [] [.tmp 2] rfl ?_ | refine gDn [] [.tmp 2] rfl ?_) <;> (try simp only [go_sem, simprocAttr, f4]))
  | (refine hK _ _ ?_; clear hK K; simp only [go_sem, simprocAttr])
  | refine gCd (by simp only [go_sem, simprocAttr]; rfl) rfl ?_
  | refine brT ?_ | refine brF ?_
  | (refine brS ?_ ?_ <;> intro hc <;> (try simp only [bls] at hc) <;> (try simp only [hc, bls]))
  | intro _ | refine And.intro ?_ ?_)
    all_goals first | omega | (unfold bigLen; omega) | exact ⟨_, _, ⟨rfl, rfl⟩, rfl⟩ | exact ⟨_, rfl⟩ | (rename_i hy; simp only [List.mem_singleton] at hy; subst hy; rfl) | with_reducible rfl | skip
theorem good7No_c (l : List Node) (hll : l.length ≤ maxLen) (hl : ∀ n ∈ l, nodeFit n) (h : ¬ (l.length ≤ 30 ∧ plainS l = true)) : ACall Try.prog 12 [.sl true false (nodes l)] [] fun r s => r = .bool false ∧ s = [] := by
  have hpl := plain_c false l hll fun n h => ⟨(hl n h).1.2, (hl n h).1.1⟩
  by_cases h1 : l.length ≤ 30
  · rw [show plainS l = false by cases hp : plainS l; rfl; exact absurd ⟨h1, hp⟩ h] at hpl
    have e1 : (l.length : Int) ≤ 30 := by omega
    refine ACall.enter Try.func12 rfl (by kernel_rfl) (Nat.le_of_ble_eq_true rfl) ?_; simp only [initTm, Nat.reduceAdd]
    repeat' (first
  | refine gSq ?_ | refine gSk ?_ | refine gBl ?_ | refine gIb ?_ | refine gEx rfl ?_
  | ((first
  | (refine gRg [] [0, 2] ?_; intro K hK)
  | refine cAl (hpl) rfl rfl rfl ?_
  | (refine gd_split ?_ ?_ <;> intro hb <;> (try simp only [bls] at hb) <;> (try simp only [hb]))
  | refine gRt [] [.tmp 2] rfl ?_ | refine gDn [] [.tmp 2] rfl ?_) <;> (try simp only [go_sem, simprocAttr, e1]))
  | (refine hK _ _ ?_; clear hK K; simp only [go_sem, simprocAttr])
  | refine gCd (by simp only [go_sem, simprocAttr]; rfl) rfl ?_
  | refine brT ?_ | refine brF ?_
  | (refine brS ?_ ?_ <;> intro hc <;> (try simp only [bls] at hc) <;> (try simp only [hc, bls]))
  | intro _ | refine And.intro ?_ ?_)
    all_goals first | omega | (unfold bigLen; omega) | exact ⟨_, _, ⟨rfl, rfl⟩, rfl⟩ | exact ⟨_, rfl⟩ | (rename_i hy; simp only [List.mem_singleton] at hy; subst hy; rfl) | with_reducible rfl | skip
  · have e1 : ¬ (l.length : Int) ≤ 30 := by omega
    refine ACall.enter Try.func12 rfl (by kernel_rfl) (Nat.le_of_ble_eq_true rfl) ?_; simp only [initTm, Nat.reduceAdd]
    repeat' (first
  | refine gSq ?_ | refine gSk ?_ | refine gBl ?_ | refine gIb ?_ | refine gEx rfl ?_
  | ((first
  | (refine gRg [] [0, 2] ?_; intro K hK)
  | (refine gd_split ?_ ?_ <;> intro hb <;> (try simp only [bls] at hb) <;> (try simp only [hb]))
  | refine gRt [] [.tmp 2] rfl ?_ | refine gDn [] [.tmp 2] rfl ?_) <;> (try simp only [go_sem, simprocAttr, e1]))
  | (refine hK _ _ ?_; clear hK K; simp only [go_sem, simprocAttr])
  | refine gCd (by simp only [go_sem, simprocAttr]; rfl) rfl ?_
  | refine brT ?_ | refine brF ?_
  | (refine brS ?_ ?_ <;> intro hc <;> (try simp only [bls] at hc) <;> (try simp only [hc, bls]))
  | intro _ | refine And.intro ?_ ?_)
    all_goals first | omega | (unfold bigLen; omega) | exact ⟨_, _, ⟨rfl, rfl⟩, rfl⟩ | exact ⟨_, rfl⟩ | (rename_i hy; simp only [List.mem_singleton] at hy; subst hy; rfl) | with_reducible rfl | skip
theorem good7uc (l : List Node) (hl : ∀ n ∈ l, nodeFit n) (h1 : l.length ≤ 30) (hp : plainS l = true) : ACall Try.prog 12 [.sl true false (nodes l)] [] fun r s => (∃ b : Bool, r = .bool b) ∧ s = [] := by
  have hpl := plain_c false l (by unfold maxLen; omega) fun n h => ⟨(hl n h).1.2, (hl n h).1.1⟩
  have hli := light7uc l (by omega) fun n h => (hl n h).1
  rw [hp] at hpl
  have e1 : (l.length : Int) ≤ 30 := by omega
  refine ACall.enter Try.func12 rfl (by kernel_rfl) (Nat.le_of_ble_eq_true rfl) ?_; simp only [initTm, Nat.reduceAdd]
  repeat' (first
  | refine gSq ?_ | refine gSk ?_ | refine gBl ?_ | refine gIb ?_ | refine gEx rfl ?_
  | ((first
  | (refine gRg [] [0, 2] ?_; intro K hK)
  | refine cAl (hpl) rfl rfl rfl ?_
  | (refine ACall.use [] [] rfl hli rfl rfl rfl ?_; rintro _ _ ⟨⟨b, rfl⟩, rfl⟩; refine ⟨.inl rfl, rfl, ?_⟩; simp only [bk, bk1, bkS, delAll, go_sem, simprocAttr])
  | (refine gd_split ?_ ?_ <;> intro hb <;> (try simp only [bls] at hb) <;> (try simp only [hb]))
  | refine gRt [] [.tmp 2] rfl ?_ | refine gDn [] [.tmp 2] rfl ?_) <;> (try simp only [go_sem, simprocAttr, e1]))
  | (refine hK _ _ ?_; clear hK K; simp only [go_sem, simprocAttr])
  | refine gCd (by simp only [go_sem, simprocAttr]; rfl) rfl ?_
  | refine brT ?_ | refine brF ?_
  | (refine brS ?_ ?_ <;> intro hc <;> (try simp only [bls] at hc) <;> (try simp only [hc, bls]))
  | intro _ | refine And.intro ?_ ?_)
  all_goals first | omega | (unfold bigLen; omega) | exact ⟨_, _, ⟨rfl, rfl⟩, rfl⟩ | exact ⟨_, rfl⟩ | (rename_i hy; simp only [List.mem_singleton] at hy; subst hy; rfl) | with_reducible rfl | skip
  all_goals exact ⟨⟨_, rfl⟩, rfl⟩
theorem wrap7uc (l : List Node) (n : Node) (b : Bool) (hl : 1 ≤ l.length) (hl2 : l.length ≤ 1000) : ACall Try.prog 17 [.sl true false (nodes l), .agg (n.cellsF b)] [] fun r s => r = .sl true false (nodes (l ++ [{ n with l := [(l.length : Int) - 1] }])) ∧ s = [] := by
  obtain ⟨xo, ⟨xa, xb, xc, xd⟩, xl, xlo, xhi, xn⟩ := n
  simp only [Node.cellsF]
  have e1 : (1 : Int) ≤ l.length := by omega
  refine ACall.frzRes (R := fun r s => ∃ g, r = .osl 10 g 0 (l.length + 1) ∧ s = [(10, (g, .row 9 (nodes (l ++ [⟨xo, ⟨xa, xb, xc, xd⟩, [(l.length : Int) - 1], xlo, xhi, xn⟩]))))]) ?_ ?_
  rotate_left
  · rintro r s ⟨h, rfl, rfl⟩
    exact .inl ⟨10, h, 9, _, by simp, rfl, rfl, rfl⟩
  refine ACall.enter Try.func17 rfl (by kernel_rfl) (Nat.le_of_ble_eq_true rfl) ?_; simp only [initTm, Nat.reduceAdd]
  repeat' (first
  | refine gSq ?_ | refine gSk ?_ | refine gBl ?_ | refine gIb ?_ | refine gEx rfl ?_
  | ((first
  | (refine AGood.at 2 ?_; (refine AGood.boxRef 3 3 rfl rfl rfl ?_; simp only [go_sem, simprocAttr]); (refine gDl 2 [8, 14] 3 [1, 3, 4, 0, 2, 5, 6] [] [3] [0, 1, 3, 4] rfl ?_; intro K hK))
  | (refine gRg [8, 14] [0, 1, 3, 4] ?_; intro K hK)
  | (refine gd_split ?_ ?_ <;> intro hb <;> (try simp only [bls] at hb) <;> (try simp only [hb]))
  | refine gRt [10] [.tmp 4] rfl ?_ | refine gDn [10] [.tmp 4] rfl ?_) <;> (try simp only [go_sem, simprocAttr, e1]))
  | (refine hK _ _ ?_; clear hK K; simp only [go_sem, simprocAttr])
  | refine gCd (by simp only [go_sem, simprocAttr]; rfl) rfl ?_
  | refine brT ?_ | refine brF ?_
  | (refine brS ?_ ?_ <;> intro hc <;> (try simp only [bls] at hc) <;> (try simp only [hc, bls]))
  | intro _ | refine And.intro ?_ ?_)
  all_goals first | omega | (unfold bigLen; omega) | exact ⟨_, _, ⟨rfl, rfl⟩, rfl⟩ | exact ⟨_, rfl⟩ | (rename_i hy; simp only [List.mem_singleton] at hy; subst hy; rfl) | with_reducible rfl | skip
  · rename_i y hy; obtain ⟨x, _, rfl⟩ := List.mem_map.1 hy; rfl
  · rename_i y hy; obtain ⟨x, _, rfl⟩ := List.mem_map.1 hy; rfl
  · exact ⟨_, rfl, by simp⟩
end Go.Rad
/- Contracts: the statements of layer 7: two trees under one node. -/
namespace Go.Rad
open Go Go.Proofs
set_option linter.all false
set_option maxRecDepth 20000
set_option maxHeartbeats 4000000

def upN (m : Nat) (n : Node) : Node := { n with l := n.l.map (· + (m : Int)) }
abbrev pairN (op : Int) (a b : Int) : Node := ⟨op, ISet.none, [a, b], 0, 0, ByteArray.empty⟩
def pairS (op : Int) (l m : List Node) : List Node := l ++ m.map (upN l.length) ++ [pairN op ((l.length : Int) - 1) ((l.length + m.length : Nat) - 1)]
theorem pair7uc (op : Int) (l m : List Node) (hl : 1 ≤ l.length) (hl2 : l.length ≤ 1000) (hm : 1 ≤ m.length) (hm2 : m.length ≤ 1000) (hk : ∀ n ∈ m, n.l.length ≤ 1000 ∧ ∀ k ∈ n.l, 0 ≤ k ∧ k ≤ 1000) :
    ACall Try.prog 15 [.int .u8 op, .sl true false (nodes l), .sl true false (nodes m)] [] fun r s => r = .sl true false (nodes (pairS op l m)) ∧ s = [] := by
  refine ACall.frzRes (R := fun r s => ∃ g, r = .osl 13 g 0 (l.length + m.length + 1) ∧ s = [(13, (g, .row 9 (nodes (pairS op l m))))]) ?_ ?_
  rotate_left
  · rintro r s ⟨h, rfl, rfl⟩
    exact .inl ⟨13, h, 9, _, by simp [pairS]; omega, rfl, rfl, rfl⟩
  obtain ⟨Q, hQ⟩ : ∃ Q : Nat → List Node, Q = fun i => l ++ (m.take i).map (upN l.length) := ⟨_, rfl⟩
  have hQ0 : Q 0 = l := by rw [hQ]; simp
  have hQ1 : ∀ (i : Nat) (n : Node), m[i]? = some n → Q (i + 1) = Q i ++ [upN l.length n] := by
    intro i n h
    rw [hQ]
    simp only [take_one h, List.map_append, List.append_assoc]
    rfl
  have hQl : ∀ i, i ≤ m.length → (Q i).length = l.length + i := fun i hi => by rw [hQ]; simp; omega
  have hpS : pairS op l m = Q m.length ++ [pairN op ((l.length : Int) - 1) ((l.length + m.length : Nat) - 1)] := by rw [hQ, pairS]; simp
  rw [hpS]
  clear hQ hpS
  have e1 : (1 : Int) ≤ l.length := by omega
  refine ACall.enter Try.func15 rfl (by kernel_rfl) (Nat.le_of_ble_eq_true rfl) ?_; simp only [initTm, Nat.reduceAdd]
  repeat' (first
  | refine gSq ?_ | refine gSk ?_ | refine gBl ?_ | refine gIb ?_ | refine gEx rfl ?_
  | ((first
  | (refine gRg [] [0, 1, 2, 6, 7, 9, 10, 12, 16, 17, 18, 19, 23, 24, 25, 26] ?_; intro K hK)
  | (refine gd_split ?_ ?_ <;> intro hb <;> (try simp only [bls] at hb) <;> (try simp only [hb]))
  | refine gRt [] [.tmp 6] rfl ?_ | refine gDn [] [.tmp 6] rfl ?_) <;> (try simp only [go_sem, simprocAttr, e1]))
  | (refine hK _ _ ?_; clear hK K; simp only [go_sem, simprocAttr])
  | refine gCd (by simp only [go_sem, simprocAttr]; rfl) rfl ?_
  | refine brT ?_ | refine brF ?_
  | (refine brS ?_ ?_ <;> intro hc <;> (try simp only [bls] at hc) <;> (try simp only [hc, bls]))
  | intro _ | refine And.intro ?_ ?_)
  all_goals first | omega | (unfold bigLen; omega) | exact ⟨_, _, ⟨rfl, rfl⟩, rfl⟩ | exact ⟨_, rfl⟩ | (rename_i hy; simp only [List.mem_singleton] at hy; subst hy; rfl) | with_reducible rfl | skip
  · rename_i y hy; obtain ⟨x, _, rfl⟩ := List.mem_map.1 hy; rfl
  · rename_i y hy; obtain ⟨x, _, rfl⟩ := List.mem_map.1 hy; rfl
  rename_i h13
  refine AGood.prune [0, 1, 6, 7, 16, 17, 18] ?_; simp only [go_sem, simprocAttr]
  refine AGood.loopInv (α := Nat × Nat) (fun z => ([(0, .int .u8 op), (1, .sl true false (nodes l)), (6, .sl true true []), (7, .osl 13 z.2 0 (Q z.1).length), (16, .sl true false (nodes m)), (17, .int .i64 m.length), (18, .int .i64 z.1)], [(13, (z.2, .row 9 (nodes (Q z.1))))])) (fun z => z.1 ≤ m.length) (fun z => m.length - z.1) (0, h13) (Nat.zero_le _) (by simp [hQ0]) ?_
  rintro ⟨i, g⟩ hi ih
  simp only at hi ih ⊢
  have hql := hQl i hi
  by_cases hle : i < m.length
  · have e4 : (i : Int) < m.length := by omega
    have e5 : (0 : Int) ≤ i := by omega
    have e6 : (i : Int) + 1 = ((i + 1 : Nat) : Int) := by omega
    have hx : m[i]? = some m[i] := List.getElem?_eq_getElem hle
    obtain ⟨k1, k2⟩ := hk m[i] (List.getElem_mem hle)
    have hq1 := hQ1 i _ hx
    generalize m[i] = n at hx k1 k2 hq1
    obtain ⟨xo, ⟨xa, xb, xc, xd⟩, xl, xlo, xhi, xn⟩ := n
    simp only [upN] at k1 k2 hq1
    repeat' (first
  | refine gSq ?_ | refine gSk ?_ | refine gBl ?_ | refine gIb ?_ | refine gEx rfl ?_
  | ((first
  | (refine gRg [] [0, 1, 2, 6, 7, 9, 10, 12, 16, 17, 18, 19, 23, 24, 25, 26] ?_; intro K hK)
  | (refine gd_split ?_ ?_ <;> intro hb <;> (try simp only [bls] at hb) <;> (try simp only [hb]))
  | refine gRt [] [.tmp 6] rfl ?_ | refine gDn [] [.tmp 6] rfl ?_) <;> (try simp only [go_sem, simprocAttr, e4, e5, hx, Option.some.injEq, forall_eq']))
  | (refine hK _ _ ?_; clear hK K; simp only [go_sem, simprocAttr])
  | refine gCd (by simp only [go_sem, simprocAttr]; rfl) rfl ?_
  | refine brT ?_ | refine brF ?_
  | (refine brS ?_ ?_ <;> intro hc <;> (try simp only [bls] at hc) <;> (try simp only [hc, bls]))
  | intro _ | refine And.intro ?_ ?_)
    all_goals first | omega | (unfold bigLen; omega) | exact ⟨_, _, ⟨rfl, rfl⟩, rfl⟩ | exact ⟨_, rfl⟩ | (rename_i hy; simp only [List.mem_singleton] at hy; subst hy; rfl) | with_reducible rfl | skip
    rename_i h9
    refine AGood.ownTm 10 900 1 (by decide) rfl fun g9 => ?_
    simp only [go_sem, simprocAttr]
    refine AGood.prune [0, 1, 6, 7, 9, 10, 16, 17, 18, 23, 24, 25] ?_; simp only [go_sem, simprocAttr]
    obtain ⟨C, hC⟩ : ∃ C : Nat → List Int, C = fun j => (xl.take j).map (· + (l.length : Int)) := ⟨_, rfl⟩
    have hC0 : C 0 = [] := by rw [hC]; rfl
    have hC1 : ∀ (j : Nat) (k : Int), xl[j]? = some k → C (j + 1) = C j ++ [k + (l.length : Int)] := by
      intro j k h
      rw [hC]
      simp only [take_one h, List.map_append, List.map_cons, List.map_nil]
    have hCl : ∀ j, j ≤ xl.length → (C j).length = j := fun j hj => by rw [hC]; simp; omega
    have hCE : xl.map (· + (l.length : Int)) = C xl.length := by rw [hC]; simp
    rw [hCE] at hq1
    clear hC hCE
    refine AGood.loopInv (α := Nat × Nat) (fun z => ([(0, .int .u8 op), (1, .sl true false (nodes l)), (6, .sl true true []), (7, .osl 13 g 0 (Q i).length), (9, .bx 9 h9 0), (10, .osl 900 z.2 0 (C z.1).length), (16, .sl true false (nodes m)), (17, .int .i64 m.length), (18, .int .i64 i), (23, .sl true false (ints xl)), (24, .int .i64 xl.length), (25, .int .i64 z.1)], [(9, h9, .box [.int .u8 xo, .int .u64 xa, .int .u64 xb, .int .u64 xc, .int .u64 xd, .sl true false (ints xl), .int .i64 xlo, .int .i64 xhi, .str xn]), (13, (g, .row 9 (nodes (Q i)))), (900, (z.2, .row 1 (ints (C z.1))))])) (fun z => z.1 ≤ xl.length) (fun z => xl.length - z.1) (0, g9) (Nat.zero_le _) (by simp only [hC0]; rfl) ?_
    rintro ⟨j, g9⟩ hj ih2
    simp only at hj ih2 ⊢
    have hcl := hCl j hj
    by_cases hlj : j < xl.length
    · have f4 : (j : Int) < xl.length := by omega
      have f5 : (0 : Int) ≤ j := by omega
      have f6 : (j : Int) + 1 = ((j + 1 : Nat) : Int) := by omega
      have hy : xl[j]? = some xl[j] := List.getElem?_eq_getElem hlj
      have hk2 := k2 xl[j] (List.getElem_mem hlj)
      have hc1 := hC1 j _ hy
      generalize xl[j] = kd at hy hk2 hc1
      repeat' (first
  | refine gSq ?_ | refine gSk ?_ | refine gBl ?_ | refine gIb ?_ | refine gEx rfl ?_
  | ((first
  | (refine gRg [34] [0, 1, 2, 6, 7, 9, 10, 12, 16, 17, 18, 19, 23, 24, 25, 26] ?_; intro K hK)
  | (refine gd_split ?_ ?_ <;> intro hb <;> (try simp only [bls] at hb) <;> (try simp only [hb]))
  | refine gRt [] [.tmp 6] rfl ?_ | refine gDn [] [.tmp 6] rfl ?_) <;> (try simp only [go_sem, simprocAttr, f4, f5, f6, hy, Option.some.injEq, forall_eq']))
  | (refine hK _ _ ?_; clear hK K; simp only [go_sem, simprocAttr])
  | refine gCd (by simp only [go_sem, simprocAttr]; rfl) rfl ?_
  | refine brT ?_ | refine brF ?_
  | (refine brS ?_ ?_ <;> intro hc <;> (try simp only [bls] at hc) <;> (try simp only [hc, bls]))
  | intro _ | refine And.intro ?_ ?_)
      all_goals first | omega | (unfold bigLen; omega) | exact ⟨_, _, ⟨rfl, rfl⟩, rfl⟩ | exact ⟨_, rfl⟩ | (rename_i hy; simp only [List.mem_singleton] at hy; subst hy; rfl) | with_reducible rfl | skip
      rename_i h'
      refine AGood.filt [9, 13, 900] ?_
      simp only [sf_cons, sf_nil, go_sem, simprocAttr]
      refine AGood.prune [0, 1, 6, 7, 9, 10, 16, 17, 18, 23, 24, 25] ?_; simp only [go_sem, simprocAttr]
      exact AGood.cast (ih2 (j + 1, h') (by simp only; omega) (by simp only; omega)) (by simp only [hc1]; simp) (by simp only [hc1]; simp)
    · have f4 : ¬ (j : Int) < xl.length := by omega
      have hin : j = xl.length := by omega
      rw [hin]
      rw [hin] at f4 ih2 hcl
      clear ih2
      have g15 : (ints (C xl.length)).take (C xl.length).length = ints (C xl.length) := List.take_of_length_le (by simp)
      repeat' (first
  | refine gSq ?_ | refine gSk ?_ | refine gBl ?_ | refine gIb ?_ | refine gEx rfl ?_
  | ((first
  | (refine AGood.at 11 ?_; (refine AGood.freeze 900 rfl ?_; simp only [rfT, rfS, rfO, rf, rf1, g15, List.length_map, Nat.le_refl, true_and, go_sem, simprocAttr]); (refine gRg [41] [0, 1, 2, 6, 7, 9, 10, 12, 16, 17, 18, 19, 23, 24, 25, 26] ?_; intro K hK))
  | (refine gRg [41] [0, 1, 2, 6, 7, 9, 10, 12, 16, 17, 18, 19, 23, 24, 25, 26] ?_; intro K hK)
  | (refine gd_split ?_ ?_ <;> intro hb <;> (try simp only [bls] at hb) <;> (try simp only [hb]))
  | refine gRt [] [.tmp 6] rfl ?_ | refine gDn [] [.tmp 6] rfl ?_) <;> (try simp only [go_sem, simprocAttr, f4, e6]))
  | (refine hK _ _ ?_; clear hK K; simp only [go_sem, simprocAttr])
  | refine gCd (by simp only [go_sem, simprocAttr]; rfl) rfl ?_
  | refine brT ?_ | refine brF ?_
  | (refine brS ?_ ?_ <;> intro hc <;> (try simp only [bls] at hc) <;> (try simp only [hc, bls]))
  | intro _ | refine And.intro ?_ ?_)
      all_goals first | omega | (unfold bigLen; omega) | exact ⟨_, _, ⟨rfl, rfl⟩, rfl⟩ | exact ⟨_, rfl⟩ | (rename_i hy; simp only [List.mem_singleton] at hy; subst hy; rfl) | with_reducible rfl | skip
      rename_i h'
      refine AGood.filt [13] ?_
      simp only [sf_cons, sf_nil, go_sem, simprocAttr]
      refine AGood.prune [0, 1, 6, 7, 16, 17, 18] ?_; simp only [go_sem, simprocAttr]
      exact AGood.cast (ih (i + 1, h') (by simp only; omega) (by simp only; omega)) (by simp only [hq1]; simp) (by simp only [hq1]; simp)
  · have e4 : ¬ (i : Int) < m.length := by omega
    have hin : i = m.length := by omega
    rw [hin]
    rw [hin] at e4 ih hql
    clear ih
    repeat' (first
  | refine gSq ?_ | refine gSk ?_ | refine gBl ?_ | refine gIb ?_ | refine gEx rfl ?_
  | ((first
  | (refine gRg [52, 54] [0, 1, 2, 6, 7, 9, 10, 12, 16, 17, 18, 19, 23, 24, 25, 26] ?_; intro K hK)
  | (refine gd_split ?_ ?_ <;> intro hb <;> (try simp only [bls] at hb) <;> (try simp only [hb]))
  | refine gRt [13] [.tmp 6] rfl ?_ | refine gDn [13] [.tmp 6] rfl ?_) <;> (try simp only [go_sem, simprocAttr, e4, e1]))
  | (refine hK _ _ ?_; clear hK K; simp only [go_sem, simprocAttr])
  | refine gCd (by simp only [go_sem, simprocAttr]; rfl) rfl ?_
  | refine brT ?_ | refine brF ?_
  | (refine brS ?_ ?_ <;> intro hc <;> (try simp only [bls] at hc) <;> (try simp only [hc, bls]))
  | intro _ | refine And.intro ?_ ?_)
    all_goals first | omega | (unfold bigLen; omega) | exact ⟨_, _, ⟨rfl, rfl⟩, rfl⟩ | exact ⟨_, rfl⟩ | (rename_i hy; simp only [List.mem_singleton] at hy; subst hy; rfl) | with_reducible rfl | skip
    refine ⟨_, by rw [hql], ?_⟩
    rw [hql]
    simp only [nodes, List.map_append]
    rfl
end Go.Rad
/- Two trees under one node, and one under a node: as forests; the ends of them. -/
namespace Go.Rad
open Go Fo
theorem roots_up (m : Nat) : ∀ (f : Fo) (i : Nat), f.roots (i + m) = (f.roots i).map (· + (m : Int))
  | .nil, _ => rfl
  | .node b k r, i => by
    simp only [roots, List.map_cons]
    rw [show i + m + k.size + 1 = (i + k.size + 1) + m by omega, roots_up m r]
    congr 1
    omega
theorem lay_up (m : Nat) : ∀ (f : Fo) (i : Nat), f.lay (i + m) = (f.lay i).map (upN m)
  | .nil, _ => rfl
  | .node b k r, i => by
    simp only [lay, List.map_append, List.map_cons]
    rw [show i + m + k.size + 1 = (i + k.size + 1) + m by omega, lay_up m r, lay_up m k, roots_up m k]
    rfl
abbrev opB (op : Int) : Lb := ⟨op, ISet.none, 0, 0, ByteArray.empty⟩
abbrev repB' (lo hi : Int) : Lb := ⟨5, ISet.none, lo, hi, ByteArray.empty⟩
def pairF (op : Int) (f g : Fo) : Fo := .node (opB op) (f.app g) .nil
def wrapF (lo hi : Int) (f : Fo) : Fo := .node (repB' lo hi) f .nil
theorem pair_lay (op : Int) {f g : Fo} (hf : f.deg = 1) (hg : g.deg = 1) : (pairF op f g).lay 0 = pairS op (f.lay 0) (g.lay 0) := by
  have h1 := roots_one hf 0
  have h2 := roots_one hg f.size
  have h3 := lay_up f.size g 0
  rw [Nat.zero_add] at h3
  simp only [pairF, lay, lay_app, roots_app, h1, h2, Nat.zero_add, h3, pairS, lay_len, List.append_assoc]
  rfl
theorem wrap_lay (lo hi : Int) {f : Fo} (hf : f.deg = 1) : (wrapF lo hi f).lay 0 = f.lay 0 ++ [⟨5, ISet.none, [((f.lay 0).length : Int) - 1], lo, hi, ByteArray.empty⟩] := by
  have h1 := roots_one hf 0
  simp only [wrapF, lay, h1, Nat.zero_add, lay_len]
section
variable {f g : Fo} (hf : f.deg = 1) (hg : g.deg = 1)
include hf hg
theorem pair_ok {op : Int} (ho : op = 3 ∨ op = 4) (sf : f.shapeF = true) (sg : g.shapeF = true) (nf : no6 f = true) (ng : no6 g = true) : (pairF op f g).deg = 1 ∧ (pairF op f g).shapeF = true ∧ no6 (pairF op f g) = true ∧ (pairF op f g).size = f.size + g.size + 1 := by
  refine ⟨rfl, ?_, ?_, ?_⟩
  · have hd : (f.app g).deg = 2 := by rw [deg_app, hf, hg]
    have hs : shapeL (opB op) 2 = true := by rcases ho with rfl | rfl <;> decide +kernel
    simp only [pairF, shapeF, all, all_app, hd, hs, Bool.and_true, Bool.true_and]
    simp only [shapeF] at sf sg
    rw [sf, sg]; rfl
  · simp only [pairF, all, all_app, nf, ng, Bool.and_true]
    rcases ho with rfl | rfl <;> rfl
  · simp only [pairF, size, size_app]
theorem pair_lan3 (u : List Nat) : lanT (pairF 3 f g) u ↔ catW (lanT f) (lanT g) u := by
  match f, g, hf, hg with
  | .node b k .nil, .node b' k' .nil, _, _ =>
    show catW _ (catW _ epsW) u ↔ _
    constructor
    · rintro ⟨a, _, rfl, h1, c, d, rfl, h2, h3⟩
      have : d = [] := h3
      subst this
      exact ⟨a, c, by simp, h1, h2⟩
    · rintro ⟨a, c, rfl, h1, h2⟩
      exact ⟨a, c, rfl, h1, c, [], by simp, h2, rfl⟩
theorem pair_lan4 (u : List Nat) : lanT (pairF 4 f g) u ↔ lanT f u ∨ lanT g u := by
  match f, g, hf, hg with
  | .node b k .nil, .node b' k' .nil, _, _ =>
    show (∃ A ∈ [lanT (.node b k .nil), lanT (.node b' k' .nil)], A u) ↔ _
    simp
end
theorem wrap_ok {f : Fo} {lo hi : Int} (hf : f.deg = 1) (h1 : 0 ≤ lo ∧ lo ≤ 4096) (h2 : hi = -1 ∨ 1 ≤ hi ∧ hi ≤ 4096 ∧ lo ≤ hi) (sf : f.shapeF = true) (nf : no6 f = true) : (wrapF lo hi f).deg = 1 ∧ (wrapF lo hi f).shapeF = true ∧ no6 (wrapF lo hi f) = true ∧ (wrapF lo hi f).size = f.size + 1 := by
  refine ⟨rfl, ?_, ?_, rfl⟩
  · have hs : shapeL (repB' lo hi) 1 = true := by simp [shapeL, shapeOk, h1.1, h1.2, h2]
    simp only [shapeF] at sf
    simp only [wrapF, shapeF, all, hf, hs, sf]; rfl
  · simp only [wrapF, all, nf]; rfl
theorem wrap_lan {f : Fo} {lo hi : Int} (hf : f.deg = 1) (u : List Nat) : lanT (wrapF lo hi f) u ↔ repW lo hi (lanT f) u := by
  match f, hf with
  | .node b k .nil, _ => exact Iff.rfl
/-- Places that are set. -/
def setAll (s : List Bool) (E : List Int) : List Bool := E.foldl (fun s x => s.set x.toNat true) s
theorem set_len : ∀ (E : List Int) (s : List Bool), (setAll s E).length = s.length
  | [], _ => rfl
  | x :: E, s => by rw [setAll, List.foldl_cons]; exact (set_len E _).trans (by simp)
theorem set_get (i : Nat) : ∀ (E : List Int) (s : List Bool), (∀ x ∈ E, 0 ≤ x ∧ x < s.length) → ((setAll s E).getD i false = true ↔ s.getD i false = true ∨ (i : Int) ∈ E)
  | [], s, _ => by simp [setAll]
  | x :: E, s, h => by
    obtain ⟨h1, h2⟩ := h x (by simp)
    have ih := set_get i E (s.set x.toNat true) fun y hy => by simpa using h y (by simp [hy])
    rw [show setAll s (x :: E) = setAll (s.set x.toNat true) E from rfl, ih]
    have hs : (s.set x.toNat true).getD i false = true ↔ s.getD i false = true ∨ (i : Int) = x := by
      simp only [List.getD_eq_getElem?_getD, List.getElem?_set]
      by_cases e : x.toNat = i
      · rw [if_pos e, if_pos (by omega)]; simp; exact .inr (by omega)
      · rw [if_neg e]
        constructor
        · exact .inl
        · rintro (h | h)
          · exact h
          · omega
    rw [hs, List.mem_cons, or_assoc]
theorem words_pair {op : Int} {l m : List Node} (hl : ∀ n ∈ l, ∀ k, 0 ≤ n.s.word k) (hm : ∀ n ∈ m, ∀ k, 0 ≤ n.s.word k) : ∀ n ∈ pairS op l m, ∀ k, 0 ≤ n.s.word k := by
  intro n hn k
  simp only [pairS, List.mem_append, List.mem_map, List.mem_singleton] at hn
  rcases hn with (hn | ⟨n', hn, rfl⟩) | rfl
  · exact hl n hn k
  · exact hm n' hn k
  · unfold ISet.word; split <;> exact Int.le_refl _
theorem words_wrap {l : List Node} {n0 : Node} (hl : ∀ n ∈ l, ∀ k, 0 ≤ n.s.word k) (h0 : n0.s = ISet.none) : ∀ n ∈ l ++ [n0], ∀ k, 0 ≤ n.s.word k := by
  intro n hn k
  simp only [List.mem_append, List.mem_singleton] at hn
  rcases hn with hn | rfl
  · exact hl n hn k
  · rw [h0]; unfold ISet.word; split <;> exact Int.le_refl _
/-- A tree of the statements: what is known of it. -/
structure Tree7 (f : Fo) (l : List Node) : Prop where
  deg : f.deg = 1
  lay : l = f.lay 0
  shape : f.shapeF = true
  six : no6 f = true
  words : ∀ n ∈ l, ∀ k, 0 ≤ n.s.word k
  size : l.length ≤ 30
theorem Tree7.of {l : List Node} (hl : ∀ n ∈ l, nodeFit n) (h : l.length ≤ 30) (hp : plainS l = true) : ∃ f, Tree7 f l := by
  obtain ⟨fo, hd, rfl, hs, hz, h6⟩ := (plain_fo l).1 hp
  exact ⟨fo, hd, rfl, hs, h6, fit_words hl, h⟩
theorem Tree7.pos {f : Fo} {l : List Node} (t : Tree7 f l) : 1 ≤ l.length := by rw [t.lay, lay_len]; exact size_pos t.deg
theorem roots_in : ∀ (f : Fo) (i : Nat), ∀ k ∈ f.roots i, (i : Int) ≤ k ∧ k < i + f.size
  | .nil, _, k, h => by simp [roots] at h
  | .node b c r, i, k, h => by
    simp only [roots, List.mem_cons] at h
    simp only [size]
    rcases h with rfl | h
    · omega
    · have := roots_in r _ k h; omega
theorem lay_kids : ∀ (f : Fo) (i : Nat), ∀ n ∈ f.lay i, n.l.length ≤ f.size ∧ ∀ k ∈ n.l, (i : Int) ≤ k ∧ k < i + f.size
  | .nil, _, n, h => by simp [lay] at h
  | .node b c r, i, n, h => by
    simp only [lay, List.mem_append, List.mem_cons] at h
    simp only [size]
    rcases h with h | rfl | h
    · obtain ⟨h1, h2⟩ := lay_kids c i n h
      refine ⟨by omega, fun k hk => ?_⟩
      have := h2 k hk; omega
    · refine ⟨?_, fun k hk => ?_⟩
      · show (c.roots i).length ≤ _
        rw [roots_len]; have := deg_le c; omega
      · have := roots_in c i k hk; omega
    · obtain ⟨h1, h2⟩ := lay_kids r _ n h
      refine ⟨by omega, fun k hk => ?_⟩
      have := h2 k hk; omega
theorem Tree7.kids {f : Fo} {l : List Node} (t : Tree7 f l) : ∀ n ∈ l, n.l.length ≤ 1000 ∧ ∀ k ∈ n.l, 0 ≤ k ∧ k ≤ 1000 := by
  have hz : f.size ≤ 30 := by rw [← lay_len f 0, ← t.lay]; exact t.size
  intro n hn
  rw [t.lay] at hn
  obtain ⟨h1, h2⟩ := lay_kids f 0 n hn
  refine ⟨by omega, fun k hk => ?_⟩
  have := h2 k hk; omega
end Go.Rad
/- Whether a text is one of a tree: by sets of texts; the program's Is. -/
namespace Go.Rad
open Go Go.Proofs
set_option linter.all false
set_option maxRecDepth 20000
set_option maxHeartbeats 4000000

def bytesW (w : ByteArray) : List Nat := w.data.toList.map UInt8.toNat
theorem subW_all (w : ByteArray) : subW w 0 w.size = bytesW w := by
  rw [subW, List.drop_zero, Nat.sub_zero, List.take_of_length_le (by rw [bytes_len]; exact Nat.le_refl _)]
  rfl
theorem bytesW_cut {w : ByteArray} {i k : Nat} : bytesW (w.extract i k) = subW w i k := by
  unfold bytesW subW
  rw [ByteArray.data_extract, Array.toList_extract, List.extract_eq_take_drop, List.map_take, List.map_drop]
def isT (w : ByteArray) (f : Fo) : Bool := (endT w f 0).contains (w.size : Int)
theorem isT_iff {w : ByteArray} {f : Fo} (hd : f.deg = 1) (hs : f.shapeF = true) : isT w f = true ↔ lanT f (bytesW w) := by
  rw [isT, List.contains_iff_mem, endT_mem hd hs]
  constructor
  · rintro ⟨k, e, _, _, h⟩
    have : k = w.size := by omega
    subst this
    rwa [subW_all] at h
  · intro h
    exact ⟨w.size, rfl, Nat.zero_le _, Nat.le_refl _, by rwa [subW_all]⟩
theorem isTree_c {f : Fo} {w : ByteArray} (hd : f.deg = 1) (hs : f.shapeF = true) (hz : f.size ≤ 1024) (h6 : no6 f = true) (hss : ∀ n ∈ f.lay 0, ∀ k, 0 ≤ n.s.word k) (hw : w.size ≤ 900000) :
    ACall Try.prog 23 [.sl true false (nodes (f.lay 0)), .str w] [] fun r s => r = .bool (isT w f) ∧ s = [] := by
  have hE := endsTop_c hw false f hd hs hz h6 hss 0 (Nat.zero_le _)
  exact isL_c hE (by have := endT_len (w := w) hd 0; omega) (endT_rise w f 0)
section
variable {f g : Fo} (hf : f.deg = 1) (hg : g.deg = 1) (sf : f.shapeF = true) (sg : g.shapeF = true)
include hf sf
theorem join_alt (hg : g.deg = 1) (sg : g.shapeF = true) (hp : (pairF 4 f g).shapeF = true) (w : ByteArray) : isT w (pairF 4 f g) = (isT w f || isT w g) := by
  rw [Bool.eq_iff_iff, Bool.or_eq_true, isT_iff rfl hp, isT_iff hf sf, isT_iff hg sg, pair_lan4 hf hg]
theorem join_cat (hg : g.deg = 1) (sg : g.shapeF = true) (hp : (pairF 3 f g).shapeF = true) {w : ByteArray} {k : Nat} (hk : k ≤ w.size) (h1 : isT (w.extract 0 k) f = true) (h2 : isT (w.extract k w.size) g = true) : isT w (pairF 3 f g) = true := by
  rw [isT_iff hf sf, bytesW_cut] at h1
  rw [isT_iff hg sg, bytesW_cut] at h2
  rw [isT_iff rfl hp, pair_lan3 hf hg, ← subW_all, subW_app (Nat.zero_le k) hk]
  exact ⟨_, _, rfl, h1, h2⟩
theorem join_two (hp : (wrapF 2 2 f).shapeF = true) {w : ByteArray} {k : Nat} (hk : k ≤ w.size) (h1 : isT (w.extract 0 k) f = true) (h2 : isT (w.extract k w.size) f = true) : isT w (wrapF 2 2 f) = true := by
  rw [isT_iff hf sf, bytesW_cut] at h1
  rw [isT_iff hf sf, bytesW_cut] at h2
  rw [isT_iff rfl hp, wrap_lan hf, ← subW_all, subW_app (Nat.zero_le k) hk]
  exact ⟨2, by decide, .inr (by decide), _, _, rfl, h1, _, [], by simp, h2, rfl⟩
omit sf in
theorem join_nil (hp : (wrapF 0 (-1) f).shapeF = true) : isT ByteArray.empty (wrapF 0 (-1) f) = true := by
  rw [isT_iff rfl hp, wrap_lan hf]
  exact ⟨0, Nat.zero_le _, .inl rfl, rfl⟩
end
end Go.Rad
/- A row of bytes as a tree. -/
namespace Go.Rad
open Go Fo
def soloS (n : Nat) : ISet := ISet.none.set (n / 64) (IntKind.u64.wrap (1 * 2 ^ (n % 64)))
theorem soloS_has : ∀ n, n < 256 → ∀ m, m < 256 → hasI (soloS n) m = decide (m = n) := by decide +kernel
theorem soloS_ne : ∀ n, n < 256 → (soloS n ≠ ISet.none ∧ 0 ≤ (soloS n).a ∧ 0 ≤ (soloS n).b ∧ 0 ≤ (soloS n).c ∧ 0 ≤ (soloS n).d) := by decide +kernel
abbrev byB (c : Nat) : Lb := ⟨2, soloS c, 0, 0, ByteArray.empty⟩
abbrev byN (c : Nat) : Node := ⟨2, soloS c, [], 0, 0, ByteArray.empty⟩
def byteF : List Nat → Fo
  | [] => .nil
  | c :: bs => .node (byB c) .nil (byteF bs)
def wordF (bs : List Nat) : Fo := .node (opB 3) (byteF bs) .nil
theorem byteF_len : ∀ bs, (byteF bs).deg = bs.length ∧ (byteF bs).size = bs.length
  | [] => ⟨rfl, rfl⟩
  | c :: bs => by
    obtain ⟨h1, h2⟩ := byteF_len bs
    simp only [byteF, deg, size, h1, h2, List.length_cons]
    exact ⟨trivial, by omega⟩
theorem byteF_lay : ∀ bs i, (byteF bs).lay i = bs.map byN
  | [], _ => rfl
  | c :: bs, i => by simp only [byteF, lay, List.nil_append, byteF_lay bs, List.map_cons]; rfl
def ups (i n : Nat) : List Int := (List.range n).map fun j => ((i + j : Nat) : Int)
theorem byteF_roots : ∀ bs i, (byteF bs).roots i = ups i bs.length
  | [], _ => rfl
  | c :: bs, i => by
    simp only [byteF, roots, byteF_roots bs, ups, List.length_cons, List.range_succ_eq_map, List.map_cons, List.map_map, size, Nat.add_zero]
    congr 1
    refine List.map_congr_left fun j _ => ?_
    simp only [Function.comp]
    omega
theorem word_lay (bs : List Nat) : (wordF bs).lay 0 = bs.map byN ++ [⟨3, ISet.none, ups 0 bs.length, 0, 0, ByteArray.empty⟩] := by
  simp only [wordF, lay, byteF_lay, byteF_roots]
theorem byteF_ok {bs : List Nat} (h : ∀ c ∈ bs, c < 256) : (byteF bs).shapeF = true ∧ no6 (byteF bs) = true := by
  induction bs with
  | nil => exact ⟨rfl, rfl⟩
  | cons c bs ih =>
    obtain ⟨h1, h2⟩ := ih fun x hx => h x (by simp [hx])
    have h3 := (soloS_ne c (h c (by simp))).1
    have hs : shapeL (byB c) 0 = true := by simp [shapeL, shapeOk, h3]
    simp only [shapeF] at h1
    refine ⟨?_, ?_⟩
    · simp only [byteF, shapeF, all, deg, hs, h1]; rfl
    · simp only [byteF, all, h2]; rfl
theorem word_ok {bs : List Nat} (h : ∀ c ∈ bs, c < 256) (h2 : 2 ≤ bs.length) : (wordF bs).deg = 1 ∧ (wordF bs).shapeF = true ∧ no6 (wordF bs) = true ∧ (wordF bs).size = bs.length + 1 := by
  obtain ⟨h3, h4⟩ := byteF_ok h
  obtain ⟨h5, h6⟩ := byteF_len bs
  refine ⟨rfl, ?_, ?_, ?_⟩
  · have hs : shapeL (opB 3) bs.length = true := by simp [shapeL, shapeOk, opB, ISet.none, h2]
    simp only [shapeF] at h3
    simp only [wordF, shapeF, all, h5, hs, h3]; rfl
  · simp only [wordF, all, h4]; rfl
  · simp only [wordF, size, h6]
theorem word_words {bs : List Nat} (h : ∀ c ∈ bs, c < 256) : ∀ n ∈ (wordF bs).lay 0, ∀ k, 0 ≤ n.s.word k := by
  rw [word_lay]
  refine words_wrap (fun n hn k => ?_) rfl
  obtain ⟨c, hc, rfl⟩ := List.mem_map.1 hn
  obtain ⟨_, h1, h2, h3, h4⟩ := soloS_ne c (h c hc)
  unfold ISet.word
  split <;> assumption
theorem row_bytes : ∀ {bs : List Nat}, (∀ c ∈ bs, c < 256) → ∀ {u : List Nat}, (∀ c ∈ u, c < 256) → (rowW (lan (byteF bs)) u ↔ u = bs)
  | [], _, u, _ => Iff.rfl
  | c :: bs, h, u, hu => by
    have ih := fun (v : List Nat) (hv : ∀ c ∈ v, c < 256) => row_bytes (bs := bs) (fun x hx => h x (by simp [hx])) hv
    have h1 : lan (byteF (c :: bs)) = lanNode (byB c) [] :: lan (byteF bs) := rfl
    rw [h1]
    show catW _ _ u ↔ _
    have hb : ∀ a, lanNode (byB c) [] a ↔ ∃ d, a = [d] ∧ hasI (soloS c) d = true := fun a => by rw [lanNode, if_pos rfl]
    constructor
    · rintro ⟨a, b, rfl, h2, h3⟩
      obtain ⟨d, rfl, h4⟩ := (hb a).1 h2
      rw [soloS_has c (h c (by simp)) d (hu d (by simp))] at h4
      rw [of_decide_eq_true h4, (ih b fun x hx => hu x (by simp [hx])).1 h3]
      rfl
    · rintro rfl
      refine ⟨[c], bs, rfl, (hb _).2 ⟨c, rfl, ?_⟩, (ih bs fun x hx => h x (by simp [hx])).2 rfl⟩
      rw [soloS_has c (h c (by simp)) c (h c (by simp))]
      exact decide_eq_true rfl
theorem subW_byte (w : ByteArray) (i k : Nat) : ∀ c ∈ subW w i k, c < 256 := by
  intro c hc
  have h1 := List.mem_of_mem_drop (List.mem_of_mem_take hc)
  obtain ⟨x, _, rfl⟩ := List.mem_map.1 h1
  exact x.toNat_lt
def strB (bs : List Nat) : ByteArray := ⟨(bs.map UInt8.ofNat).toArray⟩
theorem strB_bytes {bs : List Nat} (h : ∀ c ∈ bs, c < 256) : bytesW (strB bs) = bs := by
  unfold bytesW strB
  simp only [List.map_map]
  conv => rhs; rw [← List.map_id bs]
  refine List.map_congr_left fun c hc => ?_
  have := h c hc
  simp only [Function.comp, id, UInt8.toNat_ofNat']
  omega
theorem bytes_inj {a b : ByteArray} (h : bytesW a = bytesW b) : a = b := by
  have h2 : a.data.toList = b.data.toList := List.map_inj_right (f := UInt8.toNat) (fun x y h => UInt8.toNat_inj.1 h) |>.1 h
  cases a; cases b
  exact congrArg ByteArray.mk (Array.toList_inj.1 h2)
theorem bytes_app (a b : ByteArray) : bytesW (a ++ b) = bytesW a ++ bytesW b := by
  unfold bytesW
  rw [ByteArray.data_append, Array.toList_append, List.map_append]
theorem bytesW_len (w : ByteArray) : (bytesW w).length = w.size := bytes_len w
theorem strOf_bytes : ∀ bs : List Nat, strOf (bytesL bs) = some (bs.map UInt8.ofNat)
  | [] => rfl
  | c :: bs => by
    have ih := strOf_bytes bs
    show strOf ([.int .u8 (c : Int)] :: bytesL bs) = _
    rw [strOf_cons, ih]
    rfl
theorem strB_size (bs : List Nat) : (strB bs).size = bs.length := by simp [strB, ByteArray.size]
section
variable {bs : List Nat} (h : ∀ c ∈ bs, c < 256) (h2 : 2 ≤ bs.length)
include h h2
theorem word_lan {u : List Nat} (hu : ∀ c ∈ u, c < 256) : lanT (wordF bs) u ↔ u = bs := row_bytes h hu
/-- Where a row of bytes ends. -/
theorem word_ends (w : ByteArray) (fr : Nat) : endT w (wordF bs) fr = if fr + bs.length ≤ w.size ∧ w.extract fr (fr + bs.length) = strB bs then [((fr + bs.length : Nat) : Int)] else [] := by
  obtain ⟨o1, o2, _, _⟩ := word_ok h h2
  have key : ∀ k, fr ≤ k → k ≤ w.size → (lanT (wordF bs) (subW w fr k) ↔ k = fr + bs.length ∧ w.extract fr (fr + bs.length) = strB bs) := by
    intro k h3 h4
    rw [word_lan h h2 (subW_byte w fr k)]
    constructor
    · intro e
      have hl := subW_len h3 h4
      rw [e] at hl
      have hk : k = fr + bs.length := by omega
      refine ⟨hk, bytes_inj ?_⟩
      rw [bytesW_cut, ← hk, e, strB_bytes h]
    · rintro ⟨rfl, e⟩
      rw [← bytesW_cut, e, strB_bytes h]
  refine rise_ext (endT_rise _ _ _) ?_ fun x => ?_
  · split
    · exact List.pairwise_singleton _ _
    · exact .nil
  · rw [endT_mem o1 o2]
    constructor
    · rintro ⟨k, rfl, h3, h4, h5⟩
      obtain ⟨rfl, e⟩ := (key k h3 h4).1 h5
      rw [if_pos ⟨h4, e⟩]; simp
    · split
      · rename_i hc
        intro hx
        rw [List.mem_singleton.1 hx]
        exact ⟨_, rfl, by omega, hc.1, (key _ (by omega) hc.1).2 ⟨rfl, hc.2⟩⟩
      · intro hx; cases hx
theorem word_self (w : ByteArray) : endT (strB bs ++ w) (wordF bs) 0 = [((bs.length : Nat) : Int)] := by
  rw [word_ends h h2, Nat.zero_add, if_pos]
  refine ⟨by rw [ByteArray.size_append, strB_size]; omega, bytes_inj ?_⟩
  rw [bytesW_cut, strB_bytes h, subW, List.drop_zero, Nat.sub_zero]
  have := bytes_app (strB bs) w
  rw [strB_bytes h] at this
  show List.take bs.length (bytesW (strB bs ++ w)) = bs
  rw [this, List.take_left]
theorem word_is : isT (strB bs) (wordF bs) = true := by
  obtain ⟨o1, o2, _, _⟩ := word_ok h h2
  rw [isT_iff o1 o2, strB_bytes h, word_lan h h2 h]
theorem word_isnt : isT (strB (bs.drop 1)) (wordF bs) = false := by
  obtain ⟨o1, o2, _, _⟩ := word_ok h h2
  have h3 : ∀ c ∈ bs.drop 1, c < 256 := fun c hc => h c (List.mem_of_mem_drop hc)
  cases hc : isT (strB (bs.drop 1)) (wordF bs) with
  | false => rfl
  | true =>
    rw [isT_iff o1 o2, strB_bytes h3, word_lan h h2 h3] at hc
    have := congrArg List.length hc
    rw [List.length_drop] at this
    omega
end
end Go.Rad
/- The statements of layer 7: LangTells. -/
namespace Go.Rad
open Go Go.Proofs
set_option linter.all false
set_option maxRecDepth 20000
set_option maxHeartbeats 4000000

theorem cut_size {w : ByteArray} {n : Nat} : (w.extract 0 (min w.size n)).size ≤ n := by rw [ByteArray.size_extract]; omega
theorem fits8 {n : Int} (h : fits .u8 n) : ∃ m : Nat, n = m ∧ m ≤ 255 := by
  have h : 0 ≤ n ∧ n ≤ 255 := h
  exact ⟨n.toNat, by omega, by omega⟩
theorem langTells_c (l : List Node) (w : ByteArray) (fr : Int) (hl : l.length ≤ maxLen) (hn : ∀ n ∈ l, nodeFit n) (hw : w.size ≤ maxLen) :
    ACall Try.prog 5 [.sl true false (nodes l), .str w, .int .i64 fr] [] fun r _ => r = .bool true := by
  have hf := few7uc l hl
  have ht := text7uc w hw
  have hx : ∀ n ∈ l.take 60, nodeFit n := fun n h => hn n (List.mem_of_mem_take h)
  have hxl : (l.take 60).length ≤ 60 := by rw [List.length_take]; omega
  have hy := cut_size (w := w) (n := 20)
  generalize l.take 60 = x at hf hx hxl
  generalize w.extract 0 (min w.size 20) = y at ht hy
  clear hn hl hw
  have hli := light7uc x hxl fun n h => (hx n h).1
  obtain ⟨b1, b2, E, hE⟩ := both_c (f := false) (fr := fr) (show x.length ≤ maxLen by unfold maxLen; omega) hx (show y.size ≤ 900000 by omega)
  obtain ⟨b3, b4, E0, hE0⟩ := both_c (f := false) (fr := 0) (show x.length ≤ maxLen by unfold maxLen; omega) hx (show y.size ≤ 900000 by omega)
  have hL := longest_c hE.a hE.len hE.from'
  have hL7 := longest7uc hE.b hE.len
  have hI := isL_c hE0.a hE0.len hE0.rise
  have hI7 := is7uc hE0.b hE0.len hE0.rise hE0.upto
  have hi := ints7uc true b1 true b2 E E (by have := hE.len; omega)
  rw [decide_eq_true rfl] at hi
  have ha := hE.a
  have hb := hE.b
  generalize E0.contains (y.size : Int) = is at hI hI7
  generalize longS E fr = n at hL hL7
  clear hE hE0 hx
  obtain ⟨n, ok⟩ := n
  refine ACall.enter Try.func5 rfl (by kernel_rfl) (Nat.le_of_ble_eq_true rfl) ?_; simp only [initTm, Nat.reduceAdd]
  repeat' (first
  | refine gSq ?_ | refine gSk ?_ | refine gBl ?_ | refine gIb ?_ | refine gEx rfl ?_
  | ((first
  | (refine gRg [] [0, 1, 2, 6, 7, 8, 9, 10, 11, 12, 13, 21] ?_; intro K hK)
  | refine cAl (shown7uc) rfl rfl rfl ?_
  | refine cAl (hf) rfl rfl rfl ?_
  | refine cAl (ht) rfl rfl rfl ?_
  | refine cAl (hL) rfl rfl rfl ?_
  | refine cAl (hL7) rfl rfl rfl ?_
  | refine cAl (ha) rfl rfl rfl ?_
  | refine cAl (hb) rfl rfl rfl ?_
  | refine cAl (hi) rfl rfl rfl ?_
  | refine cAl (hI) rfl rfl rfl ?_
  | refine cAl (hI7) rfl rfl rfl ?_
  | (refine ACall.use [] [] rfl hli rfl rfl rfl ?_; rintro _ _ ⟨⟨b, rfl⟩, rfl⟩; refine ⟨.inl rfl, rfl, ?_⟩; simp only [bk, bk1, bkS, delAll, go_sem, simprocAttr])
  | (refine gd_split ?_ ?_ <;> intro hb <;> (try simp only [bls] at hb) <;> (try simp only [hb]))
  | refine gRt [] [.tmp 6] rfl ?_ | refine gDn [] [.tmp 6] rfl ?_) <;> (try simp only [go_sem, simprocAttr, eq_self, beq_self_eq_true]))
  | (refine hK _ _ ?_; clear hK K; simp only [go_sem, simprocAttr])
  | refine gCd (by simp only [go_sem, simprocAttr]; rfl) rfl ?_
  | refine brT ?_ | refine brF ?_
  | (refine brS ?_ ?_ <;> intro hc <;> (try simp only [bls] at hc) <;> (try simp only [hc, bls]))
  | intro _ | refine And.intro ?_ ?_)
  all_goals first | omega | (unfold bigLen; omega) | exact ⟨_, _, ⟨rfl, rfl⟩, rfl⟩ | exact ⟨_, rfl⟩ | (rename_i hy; simp only [List.mem_singleton] at hy; subst hy; rfl) | with_reducible rfl | skip
end Go.Rad
/- The statements of layer 7: LangWord. -/
namespace Go.Rad
open Go Go.Proofs
set_option linter.all false
set_option maxRecDepth 20000
set_option maxHeartbeats 4000000

theorem kks_bytes {l : List Int} (h : ∀ n ∈ l, fits .u8 n) : (l.map fun n => [AVal.int .u8 n]) = bytesL (l.map Int.toNat) ∧ ∀ c ∈ l.map Int.toNat, c < 256 := by
  have h2 : ∀ n ∈ l, 0 ≤ n ∧ n ≤ 255 := fun n hn => h n hn
  refine ⟨?_, fun c hc => ?_⟩
  · simp only [bytesL, List.map_map]
    refine List.map_congr_left fun n hn => ?_
    have := h2 n hn
    simp only [Function.comp]
    rw [Int.toNat_of_nonneg this.1]
  · obtain ⟨n, hn, rfl⟩ := List.mem_map.1 hc
    have := h2 n hn
    omega
theorem langWord_c (b : List Int) (w : ByteArray) (at' : Int) (hbl : b.length ≤ maxLen) (hbf : ∀ n ∈ b, fits .u8 n) (hw : w.size ≤ maxLen) (ha : fits .u8 at') :
    ACall Try.prog 7 [.sl true false (b.map fun n => [.int .u8 n]), .str w, .int .u8 at'] [] fun r _ => r = .bool true := by
  have ht := text7uc w hw
  have hy := cut_size (w := w) (n := 20)
  generalize w.extract 0 (min w.size 20) = y at ht hy
  clear hw
  obtain ⟨e1, e2⟩ := kks_bytes hbf
  rw [e1]
  have hbl2 : (b.map Int.toNat).length ≤ maxLen := by rw [List.length_map]; exact hbl
  generalize b.map Int.toNat = B at e2 hbl2
  clear e1 hbf hbl
  unfold maxLen at hbl2
  obtain ⟨p, rfl, hp2⟩ := fits8 ha
  clear ha
  have a0 : (y.size : Int) + 1 = ((y.size + 1 : Nat) : Int) := by omega
  have a1 := tmod_nat p (y.size + 1)
  have a2 : ¬ ((y.size + 1 : Nat) : Int) = 0 := by omega
  have a3 : IntKind.i64.wrap (p : Int) = (p : Int) := wr_i64n (by omega)
  have b1 : p % (y.size + 1) < y.size + 1 := Nat.mod_lt _ (by omega)
  generalize p % (y.size + 1) = fr at a1 b1
  -- the first 15 bytes
  obtain ⟨k, hk⟩ : ∃ k, k = min B.length 15 := ⟨_, rfl⟩
  have k1 : min (B.length : Int) 15 = (k : Int) := by omega
  have k2 : (0 : Int) ≤ k := by omega
  have k3 : k ≤ B.length := by omega
  have hx : ∀ c ∈ B.take k, c < 256 := fun c hc => e2 c (List.mem_of_mem_take hc)
  have hxl : (B.take k).length = k := by rw [List.length_take]; omega
  have k4 : (bytesL B).take k = bytesL (B.take k) := by simp [List.map_take]
  have k5 : k ≤ 15 := by omega
  generalize B.take k = x at hx hxl k4
  subst hxl
  have hbl : (bytesL B).length = B.length := by simp
  clear hk e2
  by_cases hs : x.length < 2
  · have c1 : (x.length : Int) < 2 := by omega
    refine ACall.enter Try.func7 rfl (by kernel_rfl) (Nat.le_of_ble_eq_true rfl) ?_; simp only [initTm, Nat.reduceAdd]
    repeat' (first
  | refine gSq ?_ | refine gSk ?_ | refine gBl ?_ | refine gIb ?_ | refine gEx rfl ?_
  | ((first
  | (refine gRg [] [0, 1, 2, 6, 7, 8, 9, 10, 11, 12, 13, 14, 15, 16, 17, 18, 19, 30, 32, 33, 34, 35] ?_; intro K hK)
  | (refine gDr 2 [] 9 [0, 1, 2, 3, 4, 5, 6, 7, 8] [0, 1, 2, 6, 7, 8, 9, 10, 11, 12, 13, 14, 15, 16, 17, 18, 19, 30, 32, 33, 34, 35] rfl ?_; intro K hK)
  | (refine gDr 17 [] 20 [0, 1, 2, 3, 4, 5, 6, 7, 8, 9, 10, 11, 12, 13, 14, 15, 16, 17, 18, 19] [0, 1, 2, 6, 7, 8, 9, 10, 11, 12, 13, 14, 15, 16, 17, 18, 19, 30, 32, 33, 34, 35] rfl ?_; intro K hK)
  | refine cAl (shown7uc) rfl rfl rfl ?_
  | refine ⟨_, ACall.alone (ht) rfl rfl rfl, ?_⟩
  | (refine gd_split ?_ ?_ <;> intro hb <;> (try simp only [bls] at hb) <;> (try simp only [hb]))
  | refine gRt [] [.tmp 6] rfl ?_ | refine gDn [] [.tmp 6] rfl ?_) <;> (try simp only [go_sem, simprocAttr, k1, k2, k3, k4, c1, slFull, intArg, Bool.false_and]))
  | (refine hK _ _ ?_; clear hK K; simp only [go_sem, simprocAttr])
  | refine gCd (by simp only [go_sem, simprocAttr]; rfl) rfl ?_
  | refine brT ?_ | refine brF ?_
  | (refine brS ?_ ?_ <;> intro hc <;> (try simp only [bls] at hc) <;> (try simp only [hc, bls]))
  | intro _ | refine And.intro ?_ ?_)
    all_goals first | omega | (unfold bigLen; omega) | exact ⟨_, _, ⟨rfl, rfl⟩, rfl⟩ | exact ⟨_, rfl⟩ | (rename_i hy; simp only [List.mem_singleton] at hy; subst hy; rfl) | with_reducible rfl | skip
    all_goals exact .inl trivial
  · have c1 : ¬ (x.length : Int) < 2 := by omega
    have h2 : 2 ≤ x.length := by omega
    obtain ⟨o1, o2, o3, o4⟩ := word_ok hx h2
    have hwo := word_words hx
    have hly := word_lay x
    have hE := endsTop_c (w := y) (by omega) false (wordF x) o1 o2 (by omega) o3 hwo fr (by omega)
    have hE0 := endsTop_c (w := strB x ++ y) (by rw [ByteArray.size_append, strB_size]; omega) false (wordF x) o1 o2 (by omega) o3 hwo 0 (Nat.zero_le _)
    have hI1 := isTree_c (w := strB x) o1 o2 (by omega) o3 hwo (by rw [strB_size]; omega)
    have hI2 := isTree_c (w := strB (x.drop 1)) o1 o2 (by omega) o3 hwo (by rw [strB_size, List.length_drop]; omega)
    rw [← endT, word_ends hx h2] at hE
    rw [← endT, word_self hx h2] at hE0
    rw [word_is hx h2] at hI1
    rw [word_isnt hx h2] at hI2
    have hL := longest_c hE0 (by simp) (by simp)
    have hls : longS [((x.length : Nat) : Int)] ((0 : Nat) : Int) = ((x.length : Int), true) := by
      rw [long_last (m := 0) rfl rfl, if_neg (by omega)]
    rw [hls] at hL
    have hL : ACall _ _ [_, _, .int .i64 0] _ (fun r s => r = .tup [.int .i64 (x.length : Int), .bool true] ∧ s = []) := hL
    rw [hly] at hE hL hI1 hI2
    have z0 : (bytesL x).take x.length = bytesL x := List.take_of_length_le (by simp)
    have z1 := strOf_bytes x
    have z2 : strOf ((bytesL x).drop 1) = some ((x.drop 1).map UInt8.ofNat) := by rw [← List.map_drop]; exact strOf_bytes _
    have z3 : ByteArray.mk (x.map UInt8.ofNat).toArray = strB x := rfl
    have z4 : ByteArray.mk ((x.drop 1).map UInt8.ofNat).toArray = strB (x.drop 1) := rfl
    have z5 : (strB x).size = x.length := strB_size x
    clear hE0 hls hwo hly o1 o2 o3 o4
    refine ACall.enter Try.func7 rfl (by kernel_rfl) (Nat.le_of_ble_eq_true rfl) ?_; simp only [initTm, Nat.reduceAdd]
    repeat' (first
  | refine gSq ?_ | refine gSk ?_ | refine gBl ?_ | refine gIb ?_ | refine gEx rfl ?_
  | ((first
  | (refine gRg [] [0, 1, 2, 6, 7, 8, 9, 10, 11, 12, 13, 14, 15, 16, 17, 18, 19, 30, 32, 33, 34, 35] ?_; intro K hK)
  | (refine gDr 2 [] 9 [0, 1, 2, 3, 4, 5, 6, 7, 8] [0, 1, 2, 6, 7, 8, 9, 10, 11, 12, 13, 14, 15, 16, 17, 18, 19, 30, 32, 33, 34, 35] rfl ?_; intro K hK)
  | (refine gDr 17 [] 20 [0, 1, 2, 3, 4, 5, 6, 7, 8, 9, 10, 11, 12, 13, 14, 15, 16, 17, 18, 19] [0, 1, 2, 6, 7, 8, 9, 10, 11, 12, 13, 14, 15, 16, 17, 18, 19, 30, 32, 33, 34, 35] rfl ?_; intro K hK)
  | refine cAl (shown7uc) rfl rfl rfl ?_
  | refine ⟨_, ACall.alone (ht) rfl rfl rfl, ?_⟩
  | (refine gd_split ?_ ?_ <;> intro hb <;> (try simp only [bls] at hb) <;> (try simp only [hb]))
  | refine gRt [] [.tmp 6] rfl ?_ | refine gDn [] [.tmp 6] rfl ?_) <;> (try simp only [go_sem, simprocAttr, k1, k2, k3, k4, c1, slFull, intArg, Bool.false_and]))
  | (refine hK _ _ ?_; clear hK K; simp only [go_sem, simprocAttr])
  | refine gCd (by simp only [go_sem, simprocAttr]; rfl) rfl ?_
  | refine brT ?_ | refine brF ?_
  | (refine brS ?_ ?_ <;> intro hc <;> (try simp only [bls] at hc) <;> (try simp only [hc, bls]))
  | intro _ | refine And.intro ?_ ?_)
    all_goals first | omega | (unfold bigLen; omega) | exact ⟨_, _, ⟨rfl, rfl⟩, rfl⟩ | exact ⟨_, rfl⟩ | (rename_i hy; simp only [List.mem_singleton] at hy; subst hy; rfl) | with_reducible rfl | skip
    · exact .inl trivial
    refine AGood.ownTm 10 900 9 (by decide) rfl fun g10 => ?_
    simp only [go_sem, simprocAttr]
    refine AGood.ownTm 11 901 1 (by decide) rfl fun g11 => ?_
    simp only [go_sem, simprocAttr]
    refine AGood.prune [2, 6, 7, 8, 9, 10, 11, 32, 33, 34] ?_; simp only [go_sem, simprocAttr]
    refine AGood.loopInv (α := Nat × Nat × Nat) (fun z => ([(2, .int .u8 p), (6, .bool false), (7, .bool true), (8, .sl true false (bytesL x)), (9, .str y), (10, .osl 900 z.2.1 0 z.1), (11, .osl 901 z.2.2 0 z.1), (32, .sl true false (bytesL x)), (33, .int .i64 x.length), (34, .int .i64 z.1)], [(900, (z.2.1, .row 9 (nodes ((x.take z.1).map byN)))), (901, (z.2.2, .row 1 (ints (ups 0 z.1))))])) (fun z => z.1 ≤ x.length) (fun z => x.length - z.1) (0, g10, g11) (Nat.zero_le _) (by simp [ups]) ?_
    rintro ⟨i, g10, g11⟩ hi ih
    simp only at hi ih ⊢
    have hql : ((x.take i).map byN).length = i := by simp; omega
    have hul : (ups 0 i).length = i := by simp [ups]
    by_cases hle : i < x.length
    · have f4 : (i : Int) < x.length := by omega
      have f5 : (0 : Int) ≤ i := by omega
      have f6 : (i : Int) + 1 = ((i + 1 : Nat) : Int) := by omega
      obtain ⟨c, hc⟩ : ∃ c, x[i]? = some c := ⟨_, List.getElem?_eq_getElem hle⟩
      have hc2 := hx c (List.mem_of_getElem? hc)
      have hq1 : (x.take (i + 1)).map byN = (x.take i).map byN ++ [byN c] := by rw [take_one hc]; simp
      have hu1 : ups 0 (i + 1) = ups 0 i ++ [(i : Int)] := by simp [ups, List.range_succ]
      generalize ups 0 i = us at hul hu1 ⊢
      generalize (x.take i).map byN = Q at hql hq1 ⊢
      have hv : (bytesL x)[i]? = some [.int .u8 (c : Int)] := by simp [bytesL, hc]
      have h4 : c / 64 = 0 ∨ c / 64 = 1 ∨ c / 64 = 2 ∨ c / 64 = 3 := by omega
      rcases h4 with h4 | h4 | h4 | h4
      all_goals
        (first | refine div64 (c := 0) h4 rfl fun hd hm hmin => ?_ | refine div64 (c := 1) h4 rfl fun hd hm hmin => ?_ | refine div64 (c := 2) h4 rfl fun hd hm hmin => ?_ | refine div64 (c := 3) h4 rfl fun hd hm hmin => ?_)
        simp only [byN, soloS, h4, ISet.set, ISet.none] at hq1
        repeat' (first
  | refine gSq ?_ | refine gSk ?_ | refine gBl ?_ | refine gIb ?_ | refine gEx rfl ?_
  | ((first
  | (refine gRg [49, 53] [0, 1, 2, 6, 7, 8, 9, 10, 11, 12, 13, 14, 15, 16, 17, 18, 19, 30, 32, 33, 34, 35] ?_; intro K hK)
  | (refine gDr 2 [49, 53] 6 [0, 1, 2, 3, 4, 5, 6, 7, 8] [0, 1, 2, 6, 7, 8, 9, 10, 11, 12, 13, 14, 15, 16, 17, 18, 19, 30, 32, 33, 34, 35] rfl ?_; intro K hK)
  | (refine gDr 17 [49, 53] 20 [0, 1, 2, 3, 4, 5, 6, 7, 8, 9, 10, 11, 12, 13, 14, 15, 16, 17, 18, 19] [0, 1, 2, 6, 7, 8, 9, 10, 11, 12, 13, 14, 15, 16, 17, 18, 19, 30, 32, 33, 34, 35] rfl ?_; intro K hK)
  | (refine gd_split ?_ ?_ <;> intro hb <;> (try simp only [bls] at hb) <;> (try simp only [hb]))
  | refine gRt [] [.tmp 6] rfl ?_ | refine gDn [] [.tmp 6] rfl ?_) <;> (try simp only [go_sem, simprocAttr, f4, f5, f6, hc, hv, hd, hm, hmin, wr_u8, IntKind.bits, Int.toNat_natCast, Int.natCast_nonneg, Option.some.injEq, forall_eq']))
  | (refine hK _ _ ?_; clear hK K; simp only [go_sem, simprocAttr])
  | refine gCd (by simp only [go_sem, simprocAttr]; rfl) rfl ?_
  | refine brT ?_ | refine brF ?_
  | (refine brS ?_ ?_ <;> intro hc <;> (try simp only [bls] at hc) <;> (try simp only [hc, bls]))
  | intro _ | refine And.intro ?_ ?_)
        all_goals first | omega | (unfold bigLen; omega) | exact ⟨_, _, ⟨rfl, rfl⟩, rfl⟩ | exact ⟨_, rfl⟩ | (rename_i hy; simp only [List.mem_singleton] at hy; subst hy; rfl) | with_reducible rfl | skip
        rename_i h14 h10 h11
        refine AGood.filt [900, 901] ?_
        simp only [sf_cons, sf_nil, go_sem, simprocAttr]
        refine AGood.prune [2, 6, 7, 8, 9, 10, 11, 32, 33, 34] ?_; simp only [go_sem, simprocAttr]
        refine AGood.cast (ih (i + 1, h10, h11) (by simp only; omega) (by simp only; omega)) (by simp only [hql, hul]) ?_
        simp only [hq1, hu1, List.map_append]
        rfl
    · have f4 : ¬ (i : Int) < x.length := by omega
      have hin : i = x.length := by omega
      clear ih
      rw [List.take_of_length_le (by omega)] at hql ⊢
      subst hin
      have u15 : (ints (ups 0 x.length)).take x.length = ints (ups 0 x.length) := List.take_of_length_le (by simp [hul])
      have u16 : x.length ≤ (ups 0 x.length).length := by omega
      obtain ⟨W, hW⟩ : ∃ W, W = x.map byN ++ [⟨3, ISet.none, ups 0 x.length, 0, 0, ByteArray.empty⟩] := ⟨_, rfl⟩
      rw [← hW] at hE hL hI1 hI2
      have hWl : W.length = x.length + 1 := by rw [hW]; simp
      repeat' (first
  | (refine AGood.at 16 ?_; (refine stopI ?_))
  | refine gSq ?_ | refine gSk ?_ | refine gBl ?_ | refine gIb ?_ | refine gEx rfl ?_
  | ((first
  | (refine AGood.at 15 ?_; (refine AGood.freeze 901 rfl ?_; simp only [rfT, rfS, rfO, rf, rf1, u15, u16, List.length_map, Nat.le_refl, true_and, go_sem, simprocAttr]); (refine gRg [59] [0, 1, 2, 6, 7, 8, 9, 10, 11, 12, 13, 14, 15, 16, 17, 18, 19, 30, 32, 33, 34, 35] ?_; intro K hK))
  | (refine gRg [59] [0, 1, 2, 6, 7, 8, 9, 10, 11, 12, 13, 14, 15, 16, 17, 18, 19, 30, 32, 33, 34, 35] ?_; intro K hK)
  | (refine gDr 2 [59] 6 [0, 1, 2, 3, 4, 5, 6, 7, 8] [0, 1, 2, 6, 7, 8, 9, 10, 11, 12, 13, 14, 15, 16, 17, 18, 19, 30, 32, 33, 34, 35] rfl ?_; intro K hK)
  | (refine gDr 17 [59] 20 [0, 1, 2, 3, 4, 5, 6, 7, 8, 9, 10, 11, 12, 13, 14, 15, 16, 17, 18, 19] [0, 1, 2, 6, 7, 8, 9, 10, 11, 12, 13, 14, 15, 16, 17, 18, 19, 30, 32, 33, 34, 35] rfl ?_; intro K hK)
  | (refine gd_split ?_ ?_ <;> intro hb <;> (try simp only [bls] at hb) <;> (try simp only [hb]))
  | refine gRt [] [.tmp 6] rfl ?_ | refine gDn [] [.tmp 6] rfl ?_) <;> (try simp only [go_sem, simprocAttr, f4]))
  | (refine hK _ _ ?_; clear hK K; simp only [go_sem, simprocAttr])
  | refine gCd (by simp only [go_sem, simprocAttr]; rfl) rfl ?_
  | refine brT ?_ | refine brF ?_
  | (refine brS ?_ ?_ <;> intro hc <;> (try simp only [bls] at hc) <;> (try simp only [hc, bls]))
  | intro _ | refine And.intro ?_ ?_)
      all_goals first | omega | (unfold bigLen; omega) | exact ⟨_, _, ⟨rfl, rfl⟩, rfl⟩ | exact ⟨_, rfl⟩ | (rename_i hy; simp only [List.mem_singleton] at hy; subst hy; rfl) | with_reducible rfl | skip
      refine stopE ?_
      refine AGood.reRow 900 (nodes W) rfl (by rw [hW]; simp only [nodes, List.map_append]; rfl) ?_
      simp only [go_sem, simprocAttr]
      refine AGood.prune [2, 6, 7, 8, 9, 10] ?_; simp only [go_sem, simprocAttr]
      have w15 : (nodes W).take (x.length + 1) = nodes W := List.take_of_length_le (by simp [hWl])
      have w16 : x.length + 1 ≤ W.length := by omega
      refine AGood.freeze 900 rfl ?_
      simp only [rfT, rfS, rfO, rf, rf1, w15, w16, List.length_map, Nat.le_refl, true_and, go_sem, simprocAttr]
      clear hW hWl u15 u16 hql hul w15 w16 f4
      have d1 : (fr : Int) + (x.length : Int) = ((fr + x.length : Nat) : Int) := by omega
      have d2 : (0 : Int) ≤ fr := by omega
      have d6 : (strB x).size + y.size ≤ maxLen := by rw [z5]; unfold maxLen; omega
      have d7 : 1 ≤ x.length := by omega
      have d8 : (1 : Int) ≤ x.length := by omega
      by_cases q1 : fr + x.length ≤ y.size
      · have d3 : ((fr + x.length : Nat) : Int) ≤ y.size := by omega
        have d4 : fr ≤ fr + x.length := by omega
        have d5 : (0 : Int) ≤ ((fr + x.length : Nat) : Int) := by omega
        have d9 : (fr : Int) ≤ ((fr + x.length : Nat) : Int) := by omega
        obtain ⟨t, ht'⟩ : ∃ t, y.extract fr (fr + x.length) = t := ⟨_, rfl⟩
        rw [ht'] at hE
        by_cases q2 : t = strB x
        · rw [if_pos ⟨q1, q2⟩] at hE
          obtain ⟨E, hEe⟩ : ∃ E, E = [((fr + x.length : Nat) : Int)] := ⟨_, rfl⟩
          rw [← hEe] at hE
          have l1 : (E.length : Int) = 1 := by rw [hEe]; rfl
          have l2 : E[0]? = some ((fr + x.length : Nat) : Int) := by rw [hEe]; rfl
          have l3 : (0 : Int) < E.length := by omega
          clear hEe
          repeat' (first
  | refine gSq ?_ | refine gSk ?_ | refine gBl ?_ | refine gIb ?_ | refine gEx rfl ?_
  | ((first
  | (refine gRg [] [0, 1, 2, 6, 7, 8, 9, 10, 11, 12, 13, 14, 15, 16, 17, 18, 19, 30, 32, 33, 34, 35] ?_; intro K hK)
  | (refine gDr 2 [] 6 [0, 1, 2, 3, 4, 5, 6, 7, 8] [0, 1, 2, 6, 7, 8, 9, 10, 11, 12, 13, 14, 15, 16, 17, 18, 19, 30, 32, 33, 34, 35] rfl ?_; intro K hK)
  | (refine gDr 17 [] 20 [0, 1, 2, 3, 4, 5, 6, 7, 8, 9, 10, 11, 12, 13, 14, 15, 16, 17, 18, 19] [0, 1, 2, 6, 7, 8, 9, 10, 11, 12, 13, 14, 15, 16, 17, 18, 19, 30, 32, 33, 34, 35] rfl ?_; intro K hK)
  | refine cAl (hE) rfl rfl rfl ?_
  | refine cAl (hL) rfl rfl rfl ?_
  | refine cAl (hI1) rfl rfl rfl ?_
  | refine cAl (hI2) rfl rfl rfl ?_
  | (refine gd_split ?_ ?_ <;> intro hb <;> (try simp only [bls] at hb) <;> (try simp only [hb]))
  | refine gRt [] [.tmp 6] rfl ?_ | refine gDn [] [.tmp 6] rfl ?_) <;> (try simp only [go_sem, simprocAttr, l2, l3, eq_true l1, forall_eq', a0, a1, a2, a3, d1, d2, d3, d4, d5, d6, d7, d8, d9, q1, ht', eq_true q2, z0, z1, z2, z3, z4, beq_self_eq_true, exists_eq_left', Option.some.injEq]))
  | (refine hK _ _ ?_; clear hK K; simp only [go_sem, simprocAttr])
  | refine gCd (by simp only [go_sem, simprocAttr]; rfl) rfl ?_
  | refine brT ?_ | refine brF ?_
  | (refine brS ?_ ?_ <;> intro hc <;> (try simp only [bls] at hc) <;> (try simp only [hc, bls]))
  | intro _ | refine And.intro ?_ ?_)
          all_goals first | omega | (unfold bigLen; omega) | exact ⟨_, _, ⟨rfl, rfl⟩, rfl⟩ | exact ⟨_, rfl⟩ | (rename_i hy; simp only [List.mem_singleton] at hy; subst hy; rfl) | with_reducible rfl | skip
          · simp only [List.size_toArray, List.length_map]; unfold maxLen; omega
          · exact .inr fun y hy => by obtain ⟨k, _, rfl⟩ := List.mem_map.1 hy; rfl
        · rw [if_neg (fun h => q2 h.2)] at hE
          repeat' (first
  | refine gSq ?_ | refine gSk ?_ | refine gBl ?_ | refine gIb ?_ | refine gEx rfl ?_
  | ((first
  | (refine gRg [] [0, 1, 2, 6, 7, 8, 9, 10, 11, 12, 13, 14, 15, 16, 17, 18, 19, 30, 32, 33, 34, 35] ?_; intro K hK)
  | (refine gDr 2 [] 6 [0, 1, 2, 3, 4, 5, 6, 7, 8] [0, 1, 2, 6, 7, 8, 9, 10, 11, 12, 13, 14, 15, 16, 17, 18, 19, 30, 32, 33, 34, 35] rfl ?_; intro K hK)
  | (refine gDr 17 [] 20 [0, 1, 2, 3, 4, 5, 6, 7, 8, 9, 10, 11, 12, 13, 14, 15, 16, 17, 18, 19] [0, 1, 2, 6, 7, 8, 9, 10, 11, 12, 13, 14, 15, 16, 17, 18, 19, 30, 32, 33, 34, 35] rfl ?_; intro K hK)
  | refine cAl (hE) rfl rfl rfl ?_
  | refine cAl (hL) rfl rfl rfl ?_
  | refine cAl (hI1) rfl rfl rfl ?_
  | refine cAl (hI2) rfl rfl rfl ?_
  | (refine gd_split ?_ ?_ <;> intro hb <;> (try simp only [bls] at hb) <;> (try simp only [hb]))
  | refine gRt [] [.tmp 6] rfl ?_ | refine gDn [] [.tmp 6] rfl ?_) <;> (try simp only [go_sem, simprocAttr, a0, a1, a2, a3, d1, d2, d3, d4, d5, d6, d7, d8, d9, q1, ht', q2, z0, z1, z2, z3, z4, beq_self_eq_true, exists_eq_left', Option.some.injEq]))
  | (refine hK _ _ ?_; clear hK K; simp only [go_sem, simprocAttr])
  | refine gCd (by simp only [go_sem, simprocAttr]; rfl) rfl ?_
  | refine brT ?_ | refine brF ?_
  | (refine brS ?_ ?_ <;> intro hc <;> (try simp only [bls] at hc) <;> (try simp only [hc, bls]))
  | intro _ | refine And.intro ?_ ?_)
          all_goals first | omega | (unfold bigLen; omega) | exact ⟨_, _, ⟨rfl, rfl⟩, rfl⟩ | exact ⟨_, rfl⟩ | (rename_i hy; simp only [List.mem_singleton] at hy; subst hy; rfl) | with_reducible rfl | skip
          · simp only [List.size_toArray, List.length_map]; unfold maxLen; omega
          · exact .inr fun y hy => by obtain ⟨k, _, rfl⟩ := List.mem_map.1 hy; rfl
      · have d3 : ¬ ((fr + x.length : Nat) : Int) ≤ y.size := by omega
        rw [if_neg (fun h => q1 h.1)] at hE
        repeat' (first
  | refine gSq ?_ | refine gSk ?_ | refine gBl ?_ | refine gIb ?_ | refine gEx rfl ?_
  | ((first
  | (refine gRg [] [0, 1, 2, 6, 7, 8, 9, 10, 11, 12, 13, 14, 15, 16, 17, 18, 19, 30, 32, 33, 34, 35] ?_; intro K hK)
  | (refine gDr 2 [] 6 [0, 1, 2, 3, 4, 5, 6, 7, 8] [0, 1, 2, 6, 7, 8, 9, 10, 11, 12, 13, 14, 15, 16, 17, 18, 19, 30, 32, 33, 34, 35] rfl ?_; intro K hK)
  | (refine gDr 17 [] 20 [0, 1, 2, 3, 4, 5, 6, 7, 8, 9, 10, 11, 12, 13, 14, 15, 16, 17, 18, 19] [0, 1, 2, 6, 7, 8, 9, 10, 11, 12, 13, 14, 15, 16, 17, 18, 19, 30, 32, 33, 34, 35] rfl ?_; intro K hK)
  | refine cAl (hE) rfl rfl rfl ?_
  | refine cAl (hL) rfl rfl rfl ?_
  | refine cAl (hI1) rfl rfl rfl ?_
  | refine cAl (hI2) rfl rfl rfl ?_
  | (refine gd_split ?_ ?_ <;> intro hb <;> (try simp only [bls] at hb) <;> (try simp only [hb]))
  | refine gRt [] [.tmp 6] rfl ?_ | refine gDn [] [.tmp 6] rfl ?_) <;> (try simp only [go_sem, simprocAttr, a0, a1, a2, a3, d1, d2, d3, d6, d7, d8, z0, z1, z2, z3, z4, beq_self_eq_true, exists_eq_left', Option.some.injEq]))
  | (refine hK _ _ ?_; clear hK K; simp only [go_sem, simprocAttr])
  | refine gCd (by simp only [go_sem, simprocAttr]; rfl) rfl ?_
  | refine brT ?_ | refine brF ?_
  | (refine brS ?_ ?_ <;> intro hc <;> (try simp only [bls] at hc) <;> (try simp only [hc, bls]))
  | intro _ | refine And.intro ?_ ?_)
        all_goals first | omega | (unfold bigLen; omega) | exact ⟨_, _, ⟨rfl, rfl⟩, rfl⟩ | exact ⟨_, rfl⟩ | (rename_i hy; simp only [List.mem_singleton] at hy; subst hy; rfl) | with_reducible rfl | skip
        · simp only [List.size_toArray, List.length_map]; unfold maxLen; omega
        · exact .inr fun y hy => by obtain ⟨k, _, rfl⟩ := List.mem_map.1 hy; rfl
end Go.Rad
/- What the last texts of layer 8 share. -/
namespace Go.Rad
open Go Go.Proofs
theorem nodeT : NodeTy LL 38 := ⟨5, 36, 27, 3, 9, 34, rfl, rfl, rfl, rfl, rfl, rfl, rfl⟩
theorem ownF : ownKnob Try.prog.godebug = none := by kernel_rfl
theorem laidF : laidOutB Try.prog = true := by kernel_rfl
abbrev kks (i : IntKind) (l : List Int) : List (List AVal) := l.map fun n => [.int i n]
theorem ty_ks {L : Lay} {k t e : Nat} {y : List AVal} {i : IntKind} (ht : (L t).ty = .slice e) (he : (L e).ty = .int i) (h : typed L (k + 2) t y) : ∃ l : List Int, y = [.sl true false (kks i l)] ∧ l.length ≤ maxLen ∧ ∀ n ∈ l, fits i n := by
  obtain ⟨l, rfl, hl, hx⟩ := ty_slice ht h
  obtain ⟨ns, rfl, hf⟩ := list_of (F := fun n => [AVal.int i n]) (P := fun n => fits i n) fun x hx' => by
    obtain ⟨n, rfl, hf⟩ := ty_int he (hx x hx')
    exact ⟨n, rfl, hf⟩
  exact ⟨ns, rfl, by simpa using hl, hf⟩
end Go.Rad
