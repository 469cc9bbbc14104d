/- Sets of nodes whose words are what their kinds hold. -/
import Derived.Test.YtapigofiboihiaaKRGrow
import Derived.Test.YtapigofiboihiaaKRRunC
import Derived.Test.YtapigofiboihiaaKRDraw
import Derived.Test.YtapigofiboihiaaKRNode
set_option linter.all false
namespace Go.Rad
open Go
def ISet.N (s : ISet) : NSet := ⟨s.a.toNat, s.b.toNat, s.c.toNat, s.d.toNat⟩
def ISet.okI (s : ISet) : Prop := fits .u64 s.a ∧ fits .u64 s.b ∧ fits .u64 s.c ∧ fits .u64 s.d
theorem okI_N {s : ISet} (h : s.okI) : s.N.ok ∧ s = s.N.I := by
  obtain ⟨a, b, c, d⟩ := s
  obtain ⟨h1, h2, h3, h4⟩ := h
  obtain ⟨a, rfl, k1⟩ := fit64 h1
  obtain ⟨b, rfl, k2⟩ := fit64 h2
  obtain ⟨c, rfl, k3⟩ := fit64 h3
  obtain ⟨d, rfl, k4⟩ := fit64 h4
  exact ⟨⟨k1, k2, k3, k4⟩, rfl⟩
section
variable {L : Lay} {k t : Nat} {y : List AVal}
theorem ty_setF {e : Nat} (ht : (L t).ty = .array 4 e) (he : (L e).ty = .int .u64) (h : typed L (k + 2) t y) : ∃ s : ISet, y = s.cells ∧ s.okI := by
  have h := ty_array ht h
  obtain ⟨x1, r1, rfl, h1, x2, r2, rfl, h2, x3, r3, rfl, h3, x4, r4, rfl, h4, rfl⟩ := h
  obtain ⟨a, rfl, f1⟩ := ty_int he h1
  obtain ⟨b, rfl, f2⟩ := ty_int he h2
  obtain ⟨c, rfl, f3⟩ := ty_int he h3
  obtain ⟨d, rfl, f4⟩ := ty_int he h4
  exact ⟨⟨a, b, c, d⟩, rfl, f1, f2, f3, f4⟩
def nodeFit (n : Node) : Prop := (n.name.size ≤ maxLen ∧ n.l.length ≤ maxLen) ∧ n.s.okI
theorem ty_nodeF (hn : NodeTy L t) (h : typed L (k + 3) t y) : ∃ n : Node, y = n.cells ∧ nodeFit n := by
  obtain ⟨o, st, l, i, s, w, h1, h2, h3, h4, h5, h6, h7⟩ := hn.ex
  have h := ty_struct h1 h
  obtain ⟨x1, r1, rfl, p1, x2, r2, rfl, p2, x3, r3, rfl, p3, x4, r4, rfl, p4, x5, r5, rfl, p5, x6, r6, rfl, p6, rfl⟩ := h
  obtain ⟨no, rfl, _⟩ := ty_int h2 p1
  obtain ⟨ns, rfl, hst⟩ := ty_setF h3 h4 p2
  obtain ⟨nl, rfl, hl⟩ := ty_ints h5 h6 p3
  obtain ⟨nlo, rfl, _⟩ := ty_int h6 p4
  obtain ⟨nhi, rfl, _⟩ := ty_int h6 p5
  obtain ⟨nn, rfl, hs⟩ := ty_str h7 p6
  exact ⟨⟨no, ns, nl, nlo, nhi, nn⟩, rfl, ⟨hs, hl⟩, hst⟩
theorem ty_nodesF {e : Nat} (ht : (L t).ty = .slice e) (hn : NodeTy L e) (h : typed L (k + 4) t y) : ∃ l : List Node, y = [.sl true false (nodes l)] ∧ l.length ≤ maxLen ∧ ∀ n ∈ l, nodeFit n := by
  obtain ⟨l, rfl, hl, hx⟩ := ty_slice ht h
  obtain ⟨ns, rfl, hns⟩ := list_of (F := Node.cells) (P := nodeFit) fun x hx' => ty_nodeF hn (hx x hx')
  exact ⟨ns, rfl, by simpa using hl, hns⟩
theorem ty_defsF {e : Nat} (ht : (L t).ty = .slice e) (hn : DefTy L e) (h : typed L (k + 6) t y) : ∃ l : List Df, y = [.sl true false (defs l)] ∧ l.length ≤ maxLen ∧ ∀ d ∈ l, d.name.size ≤ maxLen ∧ d.l.length ≤ maxLen ∧ ∀ n ∈ d.l, nodeFit n := by
  obtain ⟨s, ln, n, h1, h2, h3, h4⟩ := hn.ex
  obtain ⟨l, rfl, hl, hx⟩ := ty_slice ht h
  obtain ⟨ds, rfl, hds⟩ := list_of (F := Df.cells) (P := fun d => d.name.size ≤ maxLen ∧ d.l.length ≤ maxLen ∧ ∀ n ∈ d.l, nodeFit n) fun x hx' => by
    have h := ty_struct h1 (hx x hx')
    obtain ⟨x1, r1, rfl, p1, x2, r2, rfl, p2, rfl⟩ := h
    obtain ⟨nn, rfl, hs⟩ := ty_str h2 p1
    obtain ⟨dl, rfl, hd1, hd2⟩ := ty_nodesF h3 h4 p2
    exact ⟨⟨nn, dl⟩, rfl, hs, hd1, hd2⟩
  exact ⟨ds, rfl, by simpa using hl, hds⟩
end
end Go.Rad
/- The ends of a tree in a text, of the program and of the document: both, whatever the nodes are. -/
namespace Go.Rad
open Go Go.Proofs
set_option linter.all false
set_option maxRecDepth 20000
set_option maxHeartbeats 4000000

def lanT (f : Fo) : Lan := (lan f).headD epsW
theorem semT_tells {w : ByteArray} {fo : Fo} (hd : fo.deg = 1) (hs : fo.shapeF = true) : Tells w (semT w fo) (lanT fo) := by
  match fo, hd with
  | .node b k .nil, _ => exact (sem_tells (w := w) _ hs).1
/-- The ends from a place on. -/
def endT (w : ByteArray) (fo : Fo) (i : Nat) : List Int := posS (semT w fo (pointB (w.size + 1) i))
theorem endT_rise (w : ByteArray) (fo : Fo) (i : Nat) : (endT w fo i).Pairwise (· < ·) := posS_rise _
theorem endT_mem {w : ByteArray} {fo : Fo} (hd : fo.deg = 1) (hs : fo.shapeF = true) (i : Nat) (x : Int) : x ∈ endT w fo i ↔ ∃ k : Nat, x = k ∧ i ≤ k ∧ k ≤ w.size ∧ lanT fo (subW w i k) := by
  rw [endT, posS_mem]
  constructor
  · rintro ⟨k, rfl, h⟩
    obtain ⟨h1, j, h2, h3, h4⟩ := ((semT_tells hd hs).iff _ (pointB_len _ _) k).1 h
    simp only [point_get, Bool.and_eq_true, decide_eq_true_eq] at h3
    obtain ⟨rfl, _⟩ := h3
    exact ⟨k, rfl, h2, h1, h4⟩
  · rintro ⟨k, rfl, h1, h2, h3⟩
    refine ⟨k, rfl, ((semT_tells hd hs).iff _ (pointB_len _ _) k).2 ⟨h2, i, h1, ?_, h3⟩⟩
    simp only [point_get, Bool.and_eq_true, decide_eq_true_eq]
    exact ⟨trivial, by omega⟩
theorem endT_len {w : ByteArray} {fo : Fo} (hd : fo.deg = 1) (i : Nat) : (endT w fo i).length ≤ w.size + 1 := by
  have := posS_len (semT w fo (pointB (w.size + 1) i))
  rwa [semT_len hd (pointB_len _ _)] at this
theorem fit_words {l : List Node} (h : ∀ n ∈ l, nodeFit n) : ∀ n ∈ l, ∀ k, 0 ≤ n.s.word k := by
  intro n hn k
  obtain ⟨_, h1, h2, h3, h4⟩ := h n hn
  obtain ⟨h1, _⟩ := h1
  obtain ⟨h2, _⟩ := h2
  obtain ⟨h3, _⟩ := h3
  obtain ⟨h4, _⟩ := h4
  simp only [IntKind.min] at h1 h2 h3 h4
  unfold ISet.word
  split <;> first | exact h1 | exact h2 | exact h3 | exact h4
/-- What both packages tell of any nodes. -/
structure Both (P : Program) (fa fb : Nat) (f : Bool) (l : List Node) (w : ByteArray) (fr : Int) (b1 b2 : Bool) (E : List Int) : Prop where
  a : ACall P fa [.sl true f (nodes l), .str w, .int .i64 fr] [] fun r s => r = .sl true b1 (ints E) ∧ s = []
  b : ACall P fb [.sl true f (nodes l), .str w, .int .i64 fr] [] fun r s => r = .sl true b2 (ints E) ∧ s = []
  from' : ∀ x ∈ E, fr ≤ x
  upto : ∀ x ∈ E, x ≤ (w.size : Int)
  rise : E.Pairwise (· < ·)
  len : E.length ≤ 1000001
theorem both_c {f : Bool} {l : List Node} {w : ByteArray} {fr : Int} (hll : l.length ≤ maxLen) (hl : ∀ n ∈ l, nodeFit n) (hw : w.size ≤ 900000) : ∃ b1 b2 E, Both Try.prog 13 22 f l w fr b1 b2 E := by
  have hnd : ∀ n ∈ l, n.name.size ≤ maxLen ∧ n.l.length ≤ maxLen := fun n h => (hl n h).1
  by_cases hno : fr < 0 ∨ (w.size : Int) < fr ∨ plainS l = false
  · have hwm : w.size ≤ maxLen := by unfold maxLen; omega
    exact ⟨true, true, [], endsNo_c f l w fr hnd hwm hno, ends7No_c f l w fr hll hnd hwm hno, by simp, by simp, .nil, by simp⟩
  · have hp : plainS l = true := by cases h : plainS l; exact absurd (.inr (.inr h)) hno; rfl
    obtain ⟨fo, hd, rfl, hs, hz, h6⟩ := (plain_fo l).1 hp
    obtain ⟨i, rfl⟩ : ∃ i : Nat, fr = i := ⟨fr.toNat, by omega⟩
    have hi : i ≤ w.size := by omega
    refine ⟨false, false, endT w fo i, endsTop_c hw f fo hd hs hz h6 (fit_words hl) i hi, ends7Top_c (by omega) f fo hd hs hz h6 i hi, ?_, ?_, endT_rise _ _ _, by have := endT_len (w := w) hd i; omega⟩
    · intro x hx
      obtain ⟨k, rfl, h1, _⟩ := (endT_mem hd hs i x).1 hx
      omega
    · intro x hx
      obtain ⟨k, rfl, _, h1, _⟩ := (endT_mem hd hs i x).1 hx
      omega
end Go.Rad
/- Contracts: the statements of layer 7: lists, trees put together. -/
namespace Go.Rad
open Go Go.Proofs
set_option linter.all false
set_option maxRecDepth 20000
set_option maxHeartbeats 4000000

theorem list7uc (q f : Bool) (E : List Bool) (hl : E.length ≤ 1000000) : ACall Try.prog 16 [.sl q f (bools E)] [] fun r s => r = .sl true false (ints (posS E)) ∧ s = [] := by
  obtain ⟨PS, hPS⟩ : ∃ PS : Nat → List Nat, PS = fun i => (List.range i).filter fun j => E.getD j false := ⟨_, rfl⟩
  have hp0 : PS 0 = [] := by rw [hPS]; rfl
  have hp1 : ∀ i, PS (i + 1) = PS i ++ (if E.getD i false = true then [i] else []) := by
    intro i
    rw [hPS]
    simp only [List.range_succ, List.filter_append]
    cases hb : E.getD i false <;> (rw [List.getD_eq_getElem?_getD] at hb; simp [hb])
  have hpE : posN E = PS E.length := by rw [hPS]; rfl
  have hpl2 : ∀ i, (PS i).length ≤ i := fun i => by
    rw [hPS]
    refine Nat.le_trans (List.length_filter_le _ _) ?_
    simp
  clear hPS
  rw [show posS E = (PS E.length).map fun (i : Nat) => (i : Int) from by rw [posS, hpE]]
  refine ACall.enter Try.func16 rfl (by kernel_rfl) (Nat.le_of_ble_eq_true rfl) ?_; simp only [initTm, Nat.reduceAdd]
  repeat' (first
  | refine gSq ?_ | refine gSk ?_ | refine gBl ?_ | refine gIb ?_ | refine gEx rfl ?_
  | ((first
  | (refine gRg [] [0, 2, 3, 4, 5, 6, 7, 8, 9, 13] ?_; intro K hK)
  | (refine gd_split ?_ ?_ <;> intro hb <;> (try simp only [bls] at hb) <;> (try simp only [hb]))
  | refine gRt [] [.tmp 2] rfl ?_ | refine gDn [] [.tmp 2] rfl ?_) <;> (try simp only [go_sem, simprocAttr]))
  | (refine hK _ _ ?_; clear hK K; simp only [go_sem, simprocAttr])
  | refine gCd (by simp only [go_sem, simprocAttr]; rfl) rfl ?_
  | refine brT ?_ | refine brF ?_
  | (refine brS ?_ ?_ <;> intro hc <;> (try simp only [bls] at hc) <;> (try simp only [hc, bls]))
  | intro _ | refine And.intro ?_ ?_)
  all_goals first | omega | (unfold bigLen; omega) | exact ⟨_, _, ⟨rfl, rfl⟩, rfl⟩ | exact ⟨_, rfl⟩ | (rename_i hy; simp only [List.mem_singleton] at hy; subst hy; rfl) | with_reducible rfl | skip
  refine AGood.ownTm 3 900 1 (by decide) rfl fun g9 => ?_
  simp only [go_sem, simprocAttr]
  refine AGood.prune [2, 3, 6, 7, 8] ?_; simp only [go_sem, simprocAttr]
  refine AGood.loopInv (α := Nat × Nat) (fun x => ([(2, .sl true true []), (3, .osl 900 x.2 0 (PS x.1).length), (6, .sl q f (bools E)), (7, .int .i64 E.length), (8, .int .i64 x.1)], [(900, x.2, .row 1 (ints ((PS x.1).map fun (i : Nat) => (i : Int))))])) (fun x => x.1 ≤ E.length) (fun x => E.length - x.1) (0, g9) (Nat.zero_le _) (by simp only [hp0]; rfl) ?_
  rintro ⟨i, g⟩ hi ih
  simp only at hi ih ⊢
  have hl9 := hpl2 i
  by_cases hle : i < E.length
  · have f4 : (i : Int) < E.length := by omega
    have f5 : (0 : Int) ≤ i := by omega
    have f6 : (i : Int) + 1 = ((i + 1 : Nat) : Int) := by omega
    have hE : E[i]? = some E[i] := List.getElem?_eq_getElem hle
    have hgd : E.getD i false = E[i] := by simp [List.getD, hle]
    have h1 := hp1 i
    rw [hgd] at h1
    generalize E[i] = x at hE h1
    cases x
    · simp only [Bool.false_eq_true, if_false, List.append_nil] at h1
      repeat' (first
  | refine gSq ?_ | refine gSk ?_ | refine gBl ?_ | refine gIb ?_ | refine gEx rfl ?_
  | ((first
  | (refine gRg [] [0, 2, 3, 4, 5, 6, 7, 8, 9, 13] ?_; intro K hK)
  | (refine gd_split ?_ ?_ <;> intro hb <;> (try simp only [bls] at hb) <;> (try simp only [hb]))
  | refine gRt [] [.tmp 2] rfl ?_ | refine gDn [] [.tmp 2] rfl ?_) <;> (try simp only [go_sem, simprocAttr, f4, f5, f6, hE, Option.some.injEq, forall_eq']))
  | (refine hK _ _ ?_; clear hK K; simp only [go_sem, simprocAttr])
  | refine gCd (by simp only [go_sem, simprocAttr]; rfl) rfl ?_
  | refine brT ?_ | refine brF ?_
  | (refine brS ?_ ?_ <;> intro hc <;> (try simp only [bls] at hc) <;> (try simp only [hc, bls]))
  | intro _ | refine And.intro ?_ ?_)
      all_goals first | omega | (unfold bigLen; omega) | exact ⟨_, _, ⟨rfl, rfl⟩, rfl⟩ | exact ⟨_, rfl⟩ | (rename_i hy; simp only [List.mem_singleton] at hy; subst hy; rfl) | with_reducible rfl | skip
      refine AGood.filt [900] ?_
      simp only [sf_cons, sf_nil, go_sem, simprocAttr]
      refine AGood.prune [2, 3, 6, 7, 8] ?_; simp only [go_sem, simprocAttr]
      exact AGood.cast (ih (i + 1, g) (by simp only; omega) (by simp only; omega)) (by simp only [h1]) (by simp only [h1])
    · simp only [if_true] at h1
      repeat' (first
  | refine gSq ?_ | refine gSk ?_ | refine gBl ?_ | refine gIb ?_ | refine gEx rfl ?_
  | ((first
  | (refine gRg [16] [0, 2, 3, 4, 5, 6, 7, 8, 9, 13] ?_; intro K hK)
  | (refine gd_split ?_ ?_ <;> intro hb <;> (try simp only [bls] at hb) <;> (try simp only [hb]))
  | refine gRt [] [.tmp 2] rfl ?_ | refine gDn [] [.tmp 2] rfl ?_) <;> (try simp only [go_sem, simprocAttr, f4, f5, f6, hE, Option.some.injEq, forall_eq']))
  | (refine hK _ _ ?_; clear hK K; simp only [go_sem, simprocAttr])
  | refine gCd (by simp only [go_sem, simprocAttr]; rfl) rfl ?_
  | refine brT ?_ | refine brF ?_
  | (refine brS ?_ ?_ <;> intro hc <;> (try simp only [bls] at hc) <;> (try simp only [hc, bls]))
  | intro _ | refine And.intro ?_ ?_)
      all_goals first | omega | (unfold bigLen; omega) | exact ⟨_, _, ⟨rfl, rfl⟩, rfl⟩ | exact ⟨_, rfl⟩ | (rename_i hy; simp only [List.mem_singleton] at hy; subst hy; rfl) | with_reducible rfl | skip
      rename_i h'
      refine AGood.filt [900] ?_
      simp only [sf_cons, sf_nil, go_sem, simprocAttr]
      refine AGood.prune [2, 3, 6, 7, 8] ?_; simp only [go_sem, simprocAttr]
      exact AGood.cast (ih (i + 1, h') (by simp only; omega) (by simp only; omega)) (by simp only [h1]; simp) (by simp only [h1]; simp)
  · have f4 : ¬ (i : Int) < E.length := by omega
    have hin : i = E.length := by omega
    rw [hin]
    rw [hin] at f4 ih
    clear ih
    have g15 : (ints ((PS E.length).map fun (i : Nat) => (i : Int))).take (PS E.length).length = ints ((PS E.length).map fun (i : Nat) => (i : Int)) := List.take_of_length_le (by simp)
    repeat' (first
  | refine gSq ?_ | refine gSk ?_ | refine gBl ?_ | refine gIb ?_ | refine gEx rfl ?_
  | ((first
  | (refine AGood.at 8 ?_; (refine AGood.freeze 900 rfl ?_; simp only [rfT, rfS, rfO, rf, rf1, g15, List.length_map, Nat.le_refl, true_and, go_sem, simprocAttr]); (refine gRg [] [0, 2, 3, 4, 5, 6, 7, 8, 9, 13] ?_; intro K hK))
  | (refine gRg [] [0, 2, 3, 4, 5, 6, 7, 8, 9, 13] ?_; intro K hK)
  | (refine gd_split ?_ ?_ <;> intro hb <;> (try simp only [bls] at hb) <;> (try simp only [hb]))
  | refine gRt [] [.tmp 2] rfl ?_ | refine gDn [] [.tmp 2] rfl ?_) <;> (try simp only [go_sem, simprocAttr, f4]))
  | (refine hK _ _ ?_; clear hK K; simp only [go_sem, simprocAttr])
  | refine gCd (by simp only [go_sem, simprocAttr]; rfl) rfl ?_
  | refine brT ?_ | refine brF ?_
  | (refine brS ?_ ?_ <;> intro hc <;> (try simp only [bls] at hc) <;> (try simp only [hc, bls]))
  | intro _ | refine And.intro ?_ ?_)
    all_goals first | omega | (unfold bigLen; omega) | exact ⟨_, _, ⟨rfl, rfl⟩, rfl⟩ | exact ⟨_, rfl⟩ | (rename_i hy; simp only [List.mem_singleton] at hy; subst hy; rfl) | with_reducible rfl | skip
theorem good7No_c (l : List Node) (hll : l.length ≤ maxLen) (hl : ∀ n ∈ l, nodeFit n) (h : ¬ (l.length ≤ 30 ∧ plainS l = true)) : ACall Try.prog 12 [.sl true false (nodes l)] [] fun r s => r = .bool false ∧ s = [] := by
  have hpl := plain_c false l hll fun n h => ⟨(hl n h).1.2, (hl n h).1.1⟩
  by_cases h1 : l.length ≤ 30
  · rw [show plainS l = false by cases hp : plainS l; rfl; exact absurd ⟨h1, hp⟩ h] at hpl
    have e1 : (l.length : Int) ≤ 30 := by omega
    refine ACall.enter Try.func12 rfl (by kernel_rfl) (Nat.le_of_ble_eq_true rfl) ?_; simp only [initTm, Nat.reduceAdd]
    repeat' (first
  | refine gSq ?_ | refine gSk ?_ | refine gBl ?_ | refine gIb ?_ | refine gEx rfl ?_
  | ((first
  | (refine gRg [] [0, 2] ?_; intro K hK)
  | refine cAl (hpl) rfl rfl rfl ?_
  | (refine gd_split ?_ ?_ <;> intro hb <;> (try simp only [bls] at hb) <;> (try simp only [hb]))
  | refine gRt [] [.tmp 2] rfl ?_ | refine gDn [] [.tmp 2] rfl ?_) <;> (try simp only [go_sem, simprocAttr, e1]))
  | (refine hK _ _ ?_; clear hK K; simp only [go_sem, simprocAttr])
  | refine gCd (by simp only [go_sem, simprocAttr]; rfl) rfl ?_
  | refine brT ?_ | refine brF ?_
  | (refine brS ?_ ?_ <;> intro hc <;> (try simp only [bls] at hc) <;> (try simp only [hc, bls]))
  | intro _ | refine And.intro ?_ ?_)
    all_goals first | omega | (unfold bigLen; omega) | exact ⟨_, _, ⟨rfl, rfl⟩, rfl⟩ | exact ⟨_, rfl⟩ | (rename_i hy; simp only [List.mem_singleton] at hy; subst hy; rfl) | with_reducible rfl | skip
  · have e1 : ¬ (l.length : Int) ≤ 30 := by omega
    refine ACall.enter Try.func12 rfl (by kernel_rfl) (Nat.le_of_ble_eq_true rfl) ?_; simp only [initTm, Nat.reduceAdd]
    repeat' (first
  | refine gSq ?_ | refine gSk ?_ | refine gBl ?_ | refine gIb ?_ | refine gEx rfl ?_
  | ((first
  | (refine gRg [] [0, 2] ?_; intro K hK)
  | (refine gd_split ?_ ?_ <;> intro hb <;> (try simp only [bls] at hb) <;> (try simp only [hb]))
  | refine gRt [] [.tmp 2] rfl ?_ | refine gDn [] [.tmp 2] rfl ?_) <;> (try simp only [go_sem, simprocAttr, e1]))
  | (refine hK _ _ ?_; clear hK K; simp only [go_sem, simprocAttr])
  | refine gCd (by simp only [go_sem, simprocAttr]; rfl) rfl ?_
  | refine brT ?_ | refine brF ?_
  | (refine brS ?_ ?_ <;> intro hc <;> (try simp only [bls] at hc) <;> (try simp only [hc, bls]))
  | intro _ | refine And.intro ?_ ?_)
    all_goals first | omega | (unfold bigLen; omega) | exact ⟨_, _, ⟨rfl, rfl⟩, rfl⟩ | exact ⟨_, rfl⟩ | (rename_i hy; simp only [List.mem_singleton] at hy; subst hy; rfl) | with_reducible rfl | skip
theorem good7uc (l : List Node) (hl : ∀ n ∈ l, nodeFit n) (h1 : l.length ≤ 30) (hp : plainS l = true) : ACall Try.prog 12 [.sl true false (nodes l)] [] fun r s => (∃ b : Bool, r = .bool b) ∧ s = [] := by
  have hpl := plain_c false l (by unfold maxLen; omega) fun n h => ⟨(hl n h).1.2, (hl n h).1.1⟩
  have hli := light7uc l (by omega) fun n h => (hl n h).1
  rw [hp] at hpl
  have e1 : (l.length : Int) ≤ 30 := by omega
  refine ACall.enter Try.func12 rfl (by kernel_rfl) (Nat.le_of_ble_eq_true rfl) ?_; simp only [initTm, Nat.reduceAdd]
  repeat' (first
  | refine gSq ?_ | refine gSk ?_ | refine gBl ?_ | refine gIb ?_ | refine gEx rfl ?_
  | ((first
  | (refine gRg [] [0, 2] ?_; intro K hK)
  | refine cAl (hpl) rfl rfl rfl ?_
  | (refine ACall.use [] [] rfl hli rfl rfl rfl ?_; rintro _ _ ⟨⟨b, rfl⟩, rfl⟩; refine ⟨.inl rfl, rfl, ?_⟩; simp only [bk, bk1, bkS, delAll, go_sem, simprocAttr])
  | (refine gd_split ?_ ?_ <;> intro hb <;> (try simp only [bls] at hb) <;> (try simp only [hb]))
  | refine gRt [] [.tmp 2] rfl ?_ | refine gDn [] [.tmp 2] rfl ?_) <;> (try simp only [go_sem, simprocAttr, e1]))
  | (refine hK _ _ ?_; clear hK K; simp only [go_sem, simprocAttr])
  | refine gCd (by simp only [go_sem, simprocAttr]; rfl) rfl ?_
  | refine brT ?_ | refine brF ?_
  | (refine brS ?_ ?_ <;> intro hc <;> (try simp only [bls] at hc) <;> (try simp only [hc, bls]))
  | intro _ | refine And.intro ?_ ?_)
  all_goals first | omega | (unfold bigLen; omega) | exact ⟨_, _, ⟨rfl, rfl⟩, rfl⟩ | exact ⟨_, rfl⟩ | (rename_i hy; simp only [List.mem_singleton] at hy; subst hy; rfl) | with_reducible rfl | skip
  all_goals exact ⟨⟨_, rfl⟩, rfl⟩
theorem wrap7uc (l : List Node) (n : Node) (b : Bool) (hl : 1 ≤ l.length) (hl2 : l.length ≤ 1000) : ACall Try.prog 17 [.sl true false (nodes l), .agg (n.cellsF b)] [] fun r s => r = .sl true false (nodes (l ++ [{ n with l := [(l.length : Int) - 1] }])) ∧ s = [] := by
  obtain ⟨xo, ⟨xa, xb, xc, xd⟩, xl, xlo, xhi, xn⟩ := n
  simp only [Node.cellsF]
  have e1 : (1 : Int) ≤ l.length := by omega
  refine ACall.frzRes (R := fun r s => ∃ g, r = .osl 10 g 0 (l.length + 1) ∧ s = [(10, (g, .row 9 (nodes (l ++ [⟨xo, ⟨xa, xb, xc, xd⟩, [(l.length : Int) - 1], xlo, xhi, xn⟩]))))]) ?_ ?_
  rotate_left
  · rintro r s ⟨h, rfl, rfl⟩
    exact .inl ⟨10, h, 9, _, by simp, rfl, rfl, rfl⟩
  refine ACall.enter Try.func17 rfl (by kernel_rfl) (Nat.le_of_ble_eq_true rfl) ?_; simp only [initTm, Nat.reduceAdd]
  repeat' (first
  | refine gSq ?_ | refine gSk ?_ | refine gBl ?_ | refine gIb ?_ | refine gEx rfl ?_
  | ((first
  | (refine AGood.at 2 ?_; (refine AGood.boxRef 3 3 rfl rfl rfl ?_; simp only [go_sem, simprocAttr]); (refine gDl 2 [8, 14] 3 [1, 3, 4, 0, 2, 5, 6] [] [3] [0, 1, 3, 4] rfl ?_; intro K hK))
  | (refine gRg [8, 14] [0, 1, 3, 4] ?_; intro K hK)
  | (refine gd_split ?_ ?_ <;> intro hb <;> (try simp only [bls] at hb) <;> (try simp only [hb]))
  | refine gRt [10] [.tmp 4] rfl ?_ | refine gDn [10] [.tmp 4] rfl ?_) <;> (try simp only [go_sem, simprocAttr, e1]))
  | (refine hK _ _ ?_; clear hK K; simp only [go_sem, simprocAttr])
  | refine gCd (by simp only [go_sem, simprocAttr]; rfl) rfl ?_
  | refine brT ?_ | refine brF ?_
  | (refine brS ?_ ?_ <;> intro hc <;> (try simp only [bls] at hc) <;> (try simp only [hc, bls]))
  | intro _ | refine And.intro ?_ ?_)
  all_goals first | omega | (unfold bigLen; omega) | exact ⟨_, _, ⟨rfl, rfl⟩, rfl⟩ | exact ⟨_, rfl⟩ | (rename_i hy; simp only [List.mem_singleton] at hy; subst hy; rfl) | with_reducible rfl | skip
  · rename_i y hy; obtain ⟨x, _, rfl⟩ := List.mem_map.1 hy; rfl
  · rename_i y hy; obtain ⟨x, _, rfl⟩ := List.mem_map.1 hy; rfl
  · exact ⟨_, rfl, by simp⟩
end Go.Rad
/- Contracts: the statements of layer 7: two trees under one node. -/
namespace Go.Rad
open Go Go.Proofs
set_option linter.all false
set_option maxRecDepth 20000
set_option maxHeartbeats 4000000

def upN (m : Nat) (n : Node) : Node := { n with l := n.l.map (· + (m : Int)) }
abbrev pairN (op : Int) (a b : Int) : Node := ⟨op, ISet.none, [a, b], 0, 0, ByteArray.empty⟩
def pairS (op : Int) (l m : List Node) : List Node := l ++ m.map (upN l.length) ++ [pairN op ((l.length : Int) - 1) ((l.length + m.length : Nat) - 1)]
theorem pair7uc (op : Int) (l m : List Node) (hl : 1 ≤ l.length) (hl2 : l.length ≤ 1000) (hm : 1 ≤ m.length) (hm2 : m.length ≤ 1000) (hk : ∀ n ∈ m, n.l.length ≤ 1000 ∧ ∀ k ∈ n.l, 0 ≤ k ∧ k ≤ 1000) :
    ACall Try.prog 15 [.int .u8 op, .sl true false (nodes l), .sl true false (nodes m)] [] fun r s => r = .sl true false (nodes (pairS op l m)) ∧ s = [] := by
  refine ACall.frzRes (R := fun r s => ∃ g, r = .osl 13 g 0 (l.length + m.length + 1) ∧ s = [(13, (g, .row 9 (nodes (pairS op l m))))]) ?_ ?_
  rotate_left
  · rintro r s ⟨h, rfl, rfl⟩
    exact .inl ⟨13, h, 9, _, by simp [pairS]; omega, rfl, rfl, rfl⟩
  obtain ⟨Q, hQ⟩ : ∃ Q : Nat → List Node, Q = fun i => l ++ (m.take i).map (upN l.length) := ⟨_, rfl⟩
  have hQ0 : Q 0 = l := by rw [hQ]; simp
  have hQ1 : ∀ (i : Nat) (n : Node), m[i]? = some n → Q (i + 1) = Q i ++ [upN l.length n] := by
    intro i n h
    rw [hQ]
    simp only [take_one h, List.map_append, List.append_assoc]
    rfl
  have hQl : ∀ i, i ≤ m.length → (Q i).length = l.length + i := fun i hi => by rw [hQ]; simp; omega
  have hpS : pairS op l m = Q m.length ++ [pairN op ((l.length : Int) - 1) ((l.length + m.length : Nat) - 1)] := by rw [hQ, pairS]; simp
  rw [hpS]
  clear hQ hpS
  have e1 : (1 : Int) ≤ l.length := by omega
  refine ACall.enter Try.func15 rfl (by kernel_rfl) (Nat.le_of_ble_eq_true rfl) ?_; simp only [initTm, Nat.reduceAdd]
  repeat' (first
  | refine gSq ?_ | refine gSk ?_ | refine gBl ?_ | refine gIb ?_ | refine gEx rfl ?_
  | ((first
  | (refine gRg [] [0, 1, 2, 6, 7, 9, 10, 12, 16, 17, 18, 19, 23, 24, 25, 26] ?_; intro K hK)
  | (refine gd_split ?_ ?_ <;> intro hb <;> (try simp only [bls] at hb) <;> (try simp only [hb]))
  | refine gRt [] [.tmp 6] rfl ?_ | refine gDn [] [.tmp 6] rfl ?_) <;> (try simp only [go_sem, simprocAttr, e1]))
  | (refine hK _ _ ?_; clear hK K; simp only [go_sem, simprocAttr])
  | refine gCd (by simp only [go_sem, simprocAttr]; rfl) rfl ?_
  | refine brT ?_ | refine brF ?_
  | (refine brS ?_ ?_ <;> intro hc <;> (try simp only [bls] at hc) <;> (try simp only [hc, bls]))
  | intro _ | refine And.intro ?_ ?_)
  all_goals first | omega | (unfold bigLen; omega) | exact ⟨_, _, ⟨rfl, rfl⟩, rfl⟩ | exact ⟨_, rfl⟩ | (rename_i hy; simp only [List.mem_singleton] at hy; subst hy; rfl) | with_reducible rfl | skip
  · rename_i y hy; obtain ⟨x, _, rfl⟩ := List.mem_map.1 hy; rfl
  · rename_i y hy; obtain ⟨x, _, rfl⟩ := List.mem_map.1 hy; rfl
  rename_i h13
  refine AGood.prune [0, 1, 6, 7, 16, 17, 18] ?_; simp only [go_sem, simprocAttr]
  refine AGood.loopInv (α := Nat × Nat) (fun z => ([(0, .int .u8 op), (1, .sl true false (nodes l)), (6, .sl true true []), (7, .osl 13 z.2 0 (Q z.1).length), (16, .sl true false (nodes m)), (17, .int .i64 m.length), (18, .int .i64 z.1)], [(13, (z.2, .row 9 (nodes (Q z.1))))])) (fun z => z.1 ≤ m.length) (fun z => m.length - z.1) (0, h13) (Nat.zero_le _) (by simp [hQ0]) ?_
  rintro ⟨i, g⟩ hi ih
  simp only at hi ih ⊢
  have hql := hQl i hi
  by_cases hle : i < m.length
  · have e4 : (i : Int) < m.length := by omega
    have e5 : (0 : Int) ≤ i := by omega
    have e6 : (i : Int) + 1 = ((i + 1 : Nat) : Int) := by omega
    have hx : m[i]? = some m[i] := List.getElem?_eq_getElem hle
    obtain ⟨k1, k2⟩ := hk m[i] (List.getElem_mem hle)
    have hq1 := hQ1 i _ hx
    generalize m[i] = n at hx k1 k2 hq1
    obtain ⟨xo, ⟨xa, xb, xc, xd⟩, xl, xlo, xhi, xn⟩ := n
    simp only [upN] at k1 k2 hq1
    repeat' (first
  | refine gSq ?_ | refine gSk ?_ | refine gBl ?_ | refine gIb ?_ | refine gEx rfl ?_
  | ((first
  | (refine gRg [] [0, 1, 2, 6, 7, 9, 10, 12, 16, 17, 18, 19, 23, 24, 25, 26] ?_; intro K hK)
  | (refine gd_split ?_ ?_ <;> intro hb <;> (try simp only [bls] at hb) <;> (try simp only [hb]))
  | refine gRt [] [.tmp 6] rfl ?_ | refine gDn [] [.tmp 6] rfl ?_) <;> (try simp only [go_sem, simprocAttr, e4, e5, hx, Option.some.injEq, forall_eq']))
  | (refine hK _ _ ?_; clear hK K; simp only [go_sem, simprocAttr])
  | refine gCd (by simp only [go_sem, simprocAttr]; rfl) rfl ?_
  | refine brT ?_ | refine brF ?_
  | (refine brS ?_ ?_ <;> intro hc <;> (try simp only [bls] at hc) <;> (try simp only [hc, bls]))
  | intro _ | refine And.intro ?_ ?_)
    all_goals first | omega | (unfold bigLen; omega) | exact ⟨_, _, ⟨rfl, rfl⟩, rfl⟩ | exact ⟨_, rfl⟩ | (rename_i hy; simp only [List.mem_singleton] at hy; subst hy; rfl) | with_reducible rfl | skip
    rename_i h9
    refine AGood.ownTm 10 900 1 (by decide) rfl fun g9 => ?_
    simp only [go_sem, simprocAttr]
    refine AGood.prune [0, 1, 6, 7, 9, 10, 16, 17, 18, 23, 24, 25] ?_; simp only [go_sem, simprocAttr]
    obtain ⟨C, hC⟩ : ∃ C : Nat → List Int, C = fun j => (xl.take j).map (· + (l.length : Int)) := ⟨_, rfl⟩
    have hC0 : C 0 = [] := by rw [hC]; rfl
    have hC1 : ∀ (j : Nat) (k : Int), xl[j]? = some k → C (j + 1) = C j ++ [k + (l.length : Int)] := by
      intro j k h
      rw [hC]
      simp only [take_one h, List.map_append, List.map_cons, List.map_nil]
    have hCl : ∀ j, j ≤ xl.length → (C j).length = j := fun j hj => by rw [hC]; simp; omega
    have hCE : xl.map (· + (l.length : Int)) = C xl.length := by rw [hC]; simp
    rw [hCE] at hq1
    clear hC hCE
    refine AGood.loopInv (α := Nat × Nat) (fun z => ([(0, .int .u8 op), (1, .sl true false (nodes l)), (6, .sl true true []), (7, .osl 13 g 0 (Q i).length), (9, .bx 9 h9 0), (10, .osl 900 z.2 0 (C z.1).length), (16, .sl true false (nodes m)), (17, .int .i64 m.length), (18, .int .i64 i), (23, .sl true false (ints xl)), (24, .int .i64 xl.length), (25, .int .i64 z.1)], [(9, h9, .box [.int .u8 xo, .int .u64 xa, .int .u64 xb, .int .u64 xc, .int .u64 xd, .sl true false (ints xl), .int .i64 xlo, .int .i64 xhi, .str xn]), (13, (g, .row 9 (nodes (Q i)))), (900, (z.2, .row 1 (ints (C z.1))))])) (fun z => z.1 ≤ xl.length) (fun z => xl.length - z.1) (0, g9) (Nat.zero_le _) (by simp only [hC0]; rfl) ?_
    rintro ⟨j, g9⟩ hj ih2
    simp only at hj ih2 ⊢
    have hcl := hCl j hj
    by_cases hlj : j < xl.length
    · have f4 : (j : Int) < xl.length := by omega
      have f5 : (0 : Int) ≤ j := by omega
      have f6 : (j : Int) + 1 = ((j + 1 : Nat) : Int) := by omega
      have hy : xl[j]? = some xl[j] := List.getElem?_eq_getElem hlj
      have hk2 := k2 xl[j] (List.getElem_mem hlj)
      have hc1 := hC1 j _ hy
      generalize xl[j] = kd at hy hk2 hc1
      repeat' (first
  | refine gSq ?_ | refine gSk ?_ | refine gBl ?_ | refine gIb ?_ | refine gEx rfl ?_
  | ((first
  | (refine gRg [34] [0, 1, 2, 6, 7, 9, 10, 12, 16, 17, 18, 19, 23, 24, 25, 26] ?_; intro K hK)
  | (refine gd_split ?_ ?_ <;> intro hb <;> (try simp only [bls] at hb) <;> (try simp only [hb]))
  | refine gRt [] [.tmp 6] rfl ?_ | refine gDn [] [.tmp 6] rfl ?_) <;> (try simp only [go_sem, simprocAttr, f4, f5, f6, hy, Option.some.injEq, forall_eq']))
  | (refine hK _ _ ?_; clear hK K; simp only [go_sem, simprocAttr])
  | refine gCd (by simp only [go_sem, simprocAttr]; rfl) rfl ?_
  | refine brT ?_ | refine brF ?_
  | (refine brS ?_ ?_ <;> intro hc <;> (try simp only [bls] at hc) <;> (try simp only [hc, bls]))
  | intro _ | refine And.intro ?_ ?_)
      all_goals first | omega | (unfold bigLen; omega) | exact ⟨_, _, ⟨rfl, rfl⟩, rfl⟩ | exact ⟨_, rfl⟩ | (rename_i hy; simp only [List.mem_singleton] at hy; subst hy; rfl) | with_reducible rfl | skip
      rename_i h'
      refine AGood.filt [9, 13, 900] ?_
      simp only [sf_cons, sf_nil, go_sem, simprocAttr]
      refine AGood.prune [0, 1, 6, 7, 9, 10, 16, 17, 18, 23, 24, 25] ?_; simp only [go_sem, simprocAttr]
      exact AGood.cast (ih2 (j + 1, h') (by simp only; omega) (by simp only; omega)) (by simp only [hc1]; simp) (by simp only [hc1]; simp)
    · have f4 : ¬ (j : Int) < xl.length := by omega
      have hin : j = xl.length := by omega
      rw [hin]
      rw [hin] at f4 ih2 hcl
      clear ih2
      have g15 : (ints (C xl.length)).take (C xl.length).length = ints (C xl.length) := List.take_of_length_le (by simp)
      repeat' (first
  | refine gSq ?_ | refine gSk ?_ | refine gBl ?_ | refine gIb ?_ | refine gEx rfl ?_
  | ((first
  | (refine AGood.at 11 ?_; (refine AGood.freeze 900 rfl ?_; simp only [rfT, rfS, rfO, rf, rf1, g15, List.length_map, Nat.le_refl, true_and, go_sem, simprocAttr]); (refine gRg [41] [0, 1, 2, 6, 7, 9, 10, 12, 16, 17, 18, 19, 23, 24, 25, 26] ?_; intro K hK))
  | (refine gRg [41] [0, 1, 2, 6, 7, 9, 10, 12, 16, 17, 18, 19, 23, 24, 25, 26] ?_; intro K hK)
  | (refine gd_split ?_ ?_ <;> intro hb <;> (try simp only [bls] at hb) <;> (try simp only [hb]))
  | refine gRt [] [.tmp 6] rfl ?_ | refine gDn [] [.tmp 6] rfl ?_) <;> (try simp only [go_sem, simprocAttr, f4, e6]))
  | (refine hK _ _ ?_; clear hK K; simp only [go_sem, simprocAttr])
  | refine gCd (by simp only [go_sem, simprocAttr]; rfl) rfl ?_
  | refine brT ?_ | refine brF ?_
  | (refine brS ?_ ?_ <;> intro hc <;> (try simp only [bls] at hc) <;> (try simp only [hc, bls]))
  | intro _ | refine And.intro ?_ ?_)
      all_goals first | omega | (unfold bigLen; omega) | exact ⟨_, _, ⟨rfl, rfl⟩, rfl⟩ | exact ⟨_, rfl⟩ | (rename_i hy; simp only [List.mem_singleton] at hy; subst hy; rfl) | with_reducible rfl | skip
      rename_i h'
      refine AGood.filt [13] ?_
      simp only [sf_cons, sf_nil, go_sem, simprocAttr]
      refine AGood.prune [0, 1, 6, 7, 16, 17, 18] ?_; simp only [go_sem, simprocAttr]
      exact AGood.cast (ih (i + 1, h') (by simp only; omega) (by simp only; omega)) (by simp only [hq1]; simp) (by simp only [hq1]; simp)
  · have e4 : ¬ (i : Int) < m.length := by omega
    have hin : i = m.length := by omega
    rw [hin]
    rw [hin] at e4 ih hql
    clear ih
    repeat' (first
  | refine gSq ?_ | refine gSk ?_ | refine gBl ?_ | refine gIb ?_ | refine gEx rfl ?_
  | ((first
  | (refine gRg [52, 54] [0, 1, 2, 6, 7, 9, 10, 12, 16, 17, 18, 19, 23, 24, 25, 26] ?_; intro K hK)
  | (refine gd_split ?_ ?_ <;> intro hb <;> (try simp only [bls] at hb) <;> (try simp only [hb]))
  | refine gRt [13] [.tmp 6] rfl ?_ | refine gDn [13] [.tmp 6] rfl ?_) <;> (try simp only [go_sem, simprocAttr, e4, e1]))
  | (refine hK _ _ ?_; clear hK K; simp only [go_sem, simprocAttr])
  | refine gCd (by simp only [go_sem, simprocAttr]; rfl) rfl ?_
  | refine brT ?_ | refine brF ?_
  | (refine brS ?_ ?_ <;> intro hc <;> (try simp only [bls] at hc) <;> (try simp only [hc, bls]))
  | intro _ | refine And.intro ?_ ?_)
    all_goals first | omega | (unfold bigLen; omega) | exact ⟨_, _, ⟨rfl, rfl⟩, rfl⟩ | exact ⟨_, rfl⟩ | (rename_i hy; simp only [List.mem_singleton] at hy; subst hy; rfl) | with_reducible rfl | skip
    refine ⟨_, by rw [hql], ?_⟩
    rw [hql]
    simp only [nodes, List.map_append]
    rfl
end Go.Rad
/- Two trees under one node, and one under a node: as forests; the ends of them. -/
namespace Go.Rad
open Go Fo
theorem roots_up (m : Nat) : ∀ (f : Fo) (i : Nat), f.roots (i + m) = (f.roots i).map (· + (m : Int))
  | .nil, _ => rfl
  | .node b k r, i => by
    simp only [roots, List.map_cons]
    rw [show i + m + k.size + 1 = (i + k.size + 1) + m by omega, roots_up m r]
    congr 1
    omega
theorem lay_up (m : Nat) : ∀ (f : Fo) (i : Nat), f.lay (i + m) = (f.lay i).map (upN m)
  | .nil, _ => rfl
  | .node b k r, i => by
    simp only [lay, List.map_append, List.map_cons]
    rw [show i + m + k.size + 1 = (i + k.size + 1) + m by omega, lay_up m r, lay_up m k, roots_up m k]
    rfl
abbrev opB (op : Int) : Lb := ⟨op, ISet.none, 0, 0, ByteArray.empty⟩
abbrev repB' (lo hi : Int) : Lb := ⟨5, ISet.none, lo, hi, ByteArray.empty⟩
def pairF (op : Int) (f g : Fo) : Fo := .node (opB op) (f.app g) .nil
def wrapF (lo hi : Int) (f : Fo) : Fo := .node (repB' lo hi) f .nil
theorem pair_lay (op : Int) {f g : Fo} (hf : f.deg = 1) (hg : g.deg = 1) : (pairF op f g).lay 0 = pairS op (f.lay 0) (g.lay 0) := by
  have h1 := roots_one hf 0
  have h2 := roots_one hg f.size
  have h3 := lay_up f.size g 0
  rw [Nat.zero_add] at h3
  simp only [pairF, lay, lay_app, roots_app, h1, h2, Nat.zero_add, h3, pairS, lay_len, List.append_assoc]
  rfl
theorem wrap_lay (lo hi : Int) {f : Fo} (hf : f.deg = 1) : (wrapF lo hi f).lay 0 = f.lay 0 ++ [⟨5, ISet.none, [((f.lay 0).length : Int) - 1], lo, hi, ByteArray.empty⟩] := by
  have h1 := roots_one hf 0
  simp only [wrapF, lay, h1, Nat.zero_add, lay_len]
section
variable {f g : Fo} (hf : f.deg = 1) (hg : g.deg = 1)
include hf hg
theorem pair_ok {op : Int} (ho : op = 3 ∨ op = 4) (sf : f.shapeF = true) (sg : g.shapeF = true) (nf : no6 f = true) (ng : no6 g = true) : (pairF op f g).deg = 1 ∧ (pairF op f g).shapeF = true ∧ no6 (pairF op f g) = true ∧ (pairF op f g).size = f.size + g.size + 1 := by
  refine ⟨rfl, ?_, ?_, ?_⟩
  · have hd : (f.app g).deg = 2 := by rw [deg_app, hf, hg]
    have hs : shapeL (opB op) 2 = true := by rcases ho with rfl | rfl <;> decide +kernel
    simp only [pairF, shapeF, all, all_app, hd, hs, Bool.and_true, Bool.true_and]
    simp only [shapeF] at sf sg
    rw [sf, sg]; rfl
  · simp only [pairF, all, all_app, nf, ng, Bool.and_true]
    rcases ho with rfl | rfl <;> rfl
  · simp only [pairF, size, size_app]
theorem pair_lan3 (u : List Nat) : lanT (pairF 3 f g) u ↔ catW (lanT f) (lanT g) u := by
  match f, g, hf, hg with
  | .node b k .nil, .node b' k' .nil, _, _ =>
    show catW _ (catW _ epsW) u ↔ _
    constructor
    · rintro ⟨a, _, rfl, h1, c, d, rfl, h2, h3⟩
      have : d = [] := h3
      subst this
      exact ⟨a, c, by simp, h1, h2⟩
    · rintro ⟨a, c, rfl, h1, h2⟩
      exact ⟨a, c, rfl, h1, c, [], by simp, h2, rfl⟩
theorem pair_lan4 (u : List Nat) : lanT (pairF 4 f g) u ↔ lanT f u ∨ lanT g u := by
  match f, g, hf, hg with
  | .node b k .nil, .node b' k' .nil, _, _ =>
    show (∃ A ∈ [lanT (.node b k .nil), lanT (.node b' k' .nil)], A u) ↔ _
    simp
end
theorem wrap_ok {f : Fo} {lo hi : Int} (hf : f.deg = 1) (h1 : 0 ≤ lo ∧ lo ≤ 4096) (h2 : hi = -1 ∨ 1 ≤ hi ∧ hi ≤ 4096 ∧ lo ≤ hi) (sf : f.shapeF = true) (nf : no6 f = true) : (wrapF lo hi f).deg = 1 ∧ (wrapF lo hi f).shapeF = true ∧ no6 (wrapF lo hi f) = true ∧ (wrapF lo hi f).size = f.size + 1 := by
  refine ⟨rfl, ?_, ?_, rfl⟩
  · have hs : shapeL (repB' lo hi) 1 = true := by simp [shapeL, shapeOk, h1.1, h1.2, h2]
    simp only [shapeF] at sf
    simp only [wrapF, shapeF, all, hf, hs, sf]; rfl
  · simp only [wrapF, all, nf]; rfl
theorem wrap_lan {f : Fo} {lo hi : Int} (hf : f.deg = 1) (u : List Nat) : lanT (wrapF lo hi f) u ↔ repW lo hi (lanT f) u := by
  match f, hf with
  | .node b k .nil, _ => exact Iff.rfl
/-- Places that are set. -/
def setAll (s : List Bool) (E : List Int) : List Bool := E.foldl (fun s x => s.set x.toNat true) s
theorem set_len : ∀ (E : List Int) (s : List Bool), (setAll s E).length = s.length
  | [], _ => rfl
  | x :: E, s => by rw [setAll, List.foldl_cons]; exact (set_len E _).trans (by simp)
theorem set_get (i : Nat) : ∀ (E : List Int) (s : List Bool), (∀ x ∈ E, 0 ≤ x ∧ x < s.length) → ((setAll s E).getD i false = true ↔ s.getD i false = true ∨ (i : Int) ∈ E)
  | [], s, _ => by simp [setAll]
  | x :: E, s, h => by
    obtain ⟨h1, h2⟩ := h x (by simp)
    have ih := set_get i E (s.set x.toNat true) fun y hy => by simpa using h y (by simp [hy])
    rw [show setAll s (x :: E) = setAll (s.set x.toNat true) E from rfl, ih]
    have hs : (s.set x.toNat true).getD i false = true ↔ s.getD i false = true ∨ (i : Int) = x := by
      simp only [List.getD_eq_getElem?_getD, List.getElem?_set]
      by_cases e : x.toNat = i
      · rw [if_pos e, if_pos (by omega)]; simp; exact .inr (by omega)
      · rw [if_neg e]
        constructor
        · exact .inl
        · rintro (h | h)
          · exact h
          · omega
    rw [hs, List.mem_cons, or_assoc]
theorem words_pair {op : Int} {l m : List Node} (hl : ∀ n ∈ l, ∀ k, 0 ≤ n.s.word k) (hm : ∀ n ∈ m, ∀ k, 0 ≤ n.s.word k) : ∀ n ∈ pairS op l m, ∀ k, 0 ≤ n.s.word k := by
  intro n hn k
  simp only [pairS, List.mem_append, List.mem_map, List.mem_singleton] at hn
  rcases hn with (hn | ⟨n', hn, rfl⟩) | rfl
  · exact hl n hn k
  · exact hm n' hn k
  · unfold ISet.word; split <;> exact Int.le_refl _
theorem words_wrap {l : List Node} {n0 : Node} (hl : ∀ n ∈ l, ∀ k, 0 ≤ n.s.word k) (h0 : n0.s = ISet.none) : ∀ n ∈ l ++ [n0], ∀ k, 0 ≤ n.s.word k := by
  intro n hn k
  simp only [List.mem_append, List.mem_singleton] at hn
  rcases hn with hn | rfl
  · exact hl n hn k
  · rw [h0]; unfold ISet.word; split <;> exact Int.le_refl _
/-- A tree of the statements: what is known of it. -/
structure Tree7 (f : Fo) (l : List Node) : Prop where
  deg : f.deg = 1
  lay : l = f.lay 0
  shape : f.shapeF = true
  six : no6 f = true
  words : ∀ n ∈ l, ∀ k, 0 ≤ n.s.word k
  size : l.length ≤ 30
theorem Tree7.of {l : List Node} (hl : ∀ n ∈ l, nodeFit n) (h : l.length ≤ 30) (hp : plainS l = true) : ∃ f, Tree7 f l := by
  obtain ⟨fo, hd, rfl, hs, hz, h6⟩ := (plain_fo l).1 hp
  exact ⟨fo, hd, rfl, hs, h6, fit_words hl, h⟩
theorem Tree7.pos {f : Fo} {l : List Node} (t : Tree7 f l) : 1 ≤ l.length := by rw [t.lay, lay_len]; exact size_pos t.deg
theorem roots_in : ∀ (f : Fo) (i : Nat), ∀ k ∈ f.roots i, (i : Int) ≤ k ∧ k < i + f.size
  | .nil, _, k, h => by simp [roots] at h
  | .node b c r, i, k, h => by
    simp only [roots, List.mem_cons] at h
    simp only [size]
    rcases h with rfl | h
    · omega
    · have := roots_in r _ k h; omega
theorem lay_kids : ∀ (f : Fo) (i : Nat), ∀ n ∈ f.lay i, n.l.length ≤ f.size ∧ ∀ k ∈ n.l, (i : Int) ≤ k ∧ k < i + f.size
  | .nil, _, n, h => by simp [lay] at h
  | .node b c r, i, n, h => by
    simp only [lay, List.mem_append, List.mem_cons] at h
    simp only [size]
    rcases h with h | rfl | h
    · obtain ⟨h1, h2⟩ := lay_kids c i n h
      refine ⟨by omega, fun k hk => ?_⟩
      have := h2 k hk; omega
    · refine ⟨?_, fun k hk => ?_⟩
      · show (c.roots i).length ≤ _
        rw [roots_len]; have := deg_le c; omega
      · have := roots_in c i k hk; omega
    · obtain ⟨h1, h2⟩ := lay_kids r _ n h
      refine ⟨by omega, fun k hk => ?_⟩
      have := h2 k hk; omega
theorem Tree7.kids {f : Fo} {l : List Node} (t : Tree7 f l) : ∀ n ∈ l, n.l.length ≤ 1000 ∧ ∀ k ∈ n.l, 0 ≤ k ∧ k ≤ 1000 := by
  have hz : f.size ≤ 30 := by rw [← lay_len f 0, ← t.lay]; exact t.size
  intro n hn
  rw [t.lay] at hn
  obtain ⟨h1, h2⟩ := lay_kids f 0 n hn
  refine ⟨by omega, fun k hk => ?_⟩
  have := h2 k hk; omega
end Go.Rad
/- Whether a text is one of a tree: by sets of texts; the program's Is. -/
namespace Go.Rad
open Go Go.Proofs
set_option linter.all false
set_option maxRecDepth 20000
set_option maxHeartbeats 4000000

def bytesW (w : ByteArray) : List Nat := w.data.toList.map UInt8.toNat
theorem subW_all (w : ByteArray) : subW w 0 w.size = bytesW w := by
  rw [subW, List.drop_zero, Nat.sub_zero, List.take_of_length_le (by rw [bytes_len]; exact Nat.le_refl _)]
  rfl
theorem bytesW_cut {w : ByteArray} {i k : Nat} : bytesW (w.extract i k) = subW w i k := by
  unfold bytesW subW
  rw [ByteArray.data_extract, Array.toList_extract, List.extract_eq_take_drop, List.map_take, List.map_drop]
def isT (w : ByteArray) (f : Fo) : Bool := (endT w f 0).contains (w.size : Int)
theorem isT_iff {w : ByteArray} {f : Fo} (hd : f.deg = 1) (hs : f.shapeF = true) : isT w f = true ↔ lanT f (bytesW w) := by
  rw [isT, List.contains_iff_mem, endT_mem hd hs]
  constructor
  · rintro ⟨k, e, _, _, h⟩
    have : k = w.size := by omega
    subst this
    rwa [subW_all] at h
  · intro h
    exact ⟨w.size, rfl, Nat.zero_le _, Nat.le_refl _, by rwa [subW_all]⟩
theorem isTree_c {f : Fo} {w : ByteArray} (hd : f.deg = 1) (hs : f.shapeF = true) (hz : f.size ≤ 1024) (h6 : no6 f = true) (hss : ∀ n ∈ f.lay 0, ∀ k, 0 ≤ n.s.word k) (hw : w.size ≤ 900000) :
    ACall Try.prog 23 [.sl true false (nodes (f.lay 0)), .str w] [] fun r s => r = .bool (isT w f) ∧ s = [] := by
  have hE := endsTop_c hw false f hd hs hz h6 hss 0 (Nat.zero_le _)
  exact isL_c hE (by have := endT_len (w := w) hd 0; omega) (endT_rise w f 0)
section
variable {f g : Fo} (hf : f.deg = 1) (hg : g.deg = 1) (sf : f.shapeF = true) (sg : g.shapeF = true)
include hf sf
theorem join_alt (hg : g.deg = 1) (sg : g.shapeF = true) (hp : (pairF 4 f g).shapeF = true) (w : ByteArray) : isT w (pairF 4 f g) = (isT w f || isT w g) := by
  rw [Bool.eq_iff_iff, Bool.or_eq_true, isT_iff rfl hp, isT_iff hf sf, isT_iff hg sg, pair_lan4 hf hg]
theorem join_cat (hg : g.deg = 1) (sg : g.shapeF = true) (hp : (pairF 3 f g).shapeF = true) {w : ByteArray} {k : Nat} (hk : k ≤ w.size) (h1 : isT (w.extract 0 k) f = true) (h2 : isT (w.extract k w.size) g = true) : isT w (pairF 3 f g) = true := by
  rw [isT_iff hf sf, bytesW_cut] at h1
  rw [isT_iff hg sg, bytesW_cut] at h2
  rw [isT_iff rfl hp, pair_lan3 hf hg, ← subW_all, subW_app (Nat.zero_le k) hk]
  exact ⟨_, _, rfl, h1, h2⟩
theorem join_two (hp : (wrapF 2 2 f).shapeF = true) {w : ByteArray} {k : Nat} (hk : k ≤ w.size) (h1 : isT (w.extract 0 k) f = true) (h2 : isT (w.extract k w.size) f = true) : isT w (wrapF 2 2 f) = true := by
  rw [isT_iff hf sf, bytesW_cut] at h1
  rw [isT_iff hf sf, bytesW_cut] at h2
  rw [isT_iff rfl hp, wrap_lan hf, ← subW_all, subW_app (Nat.zero_le k) hk]
  exact ⟨2, by decide, .inr (by decide), _, _, rfl, h1, _, [], by simp, h2, rfl⟩
omit sf in
theorem join_nil (hp : (wrapF 0 (-1) f).shapeF = true) : isT ByteArray.empty (wrapF 0 (-1) f) = true := by
  rw [isT_iff rfl hp, wrap_lan hf]
  exact ⟨0, Nat.zero_le _, .inl rfl, rfl⟩
end
end Go.Rad
/- Places reached by one more, and by so many. -/
namespace Go.Rad
open Go Go.Proofs
theorem setAll_one {s : List Bool} {E : List Int} {k : Nat} {x : Int} (h : E[k]? = some x) : setAll s (E.take (k + 1)) = (setAll s (E.take k)).set x.toNat true := by
  rw [take_one h]; simp [setAll]
def catAll (E2 : Nat → List Int) (s : List Bool) (E : List Int) : List Bool := E.foldl (fun s x => setAll s (E2 x.toNat)) s
theorem catAll_len (E2 : Nat → List Int) : ∀ (E : List Int) (s : List Bool), (catAll E2 s E).length = s.length
  | [], _ => rfl
  | x :: E, s => by rw [catAll, List.foldl_cons]; exact (catAll_len E2 E _).trans (set_len _ _)
theorem catAll_get (E2 : Nat → List Int) (i : Nat) : ∀ (E : List Int) (s : List Bool), (∀ x ∈ E, ∀ y ∈ E2 x.toNat, 0 ≤ y ∧ y < s.length) → ((catAll E2 s E).getD i false = true ↔ s.getD i false = true ∨ ∃ x ∈ E, (i : Int) ∈ E2 x.toNat)
  | [], s, _ => by simp [catAll]
  | x :: E, s, h => by
    have ih := catAll_get E2 i E (setAll s (E2 x.toNat)) fun y hy z hz => by rw [set_len]; exact h y (by simp [hy]) z hz
    rw [show catAll E2 s (x :: E) = catAll E2 (setAll s (E2 x.toNat)) E from rfl, ih, set_get i _ _ (h x (by simp)), or_assoc]
    simp
theorem catAll_one {E2 : Nat → List Int} {s : List Bool} {E : List Int} {k : Nat} {x : Int} (h : E[k]? = some x) : catAll E2 s (E.take (k + 1)) = setAll (catAll E2 s (E.take k)) (E2 x.toNat) := by
  rw [take_one h]; simp [catAll]
section
variable {w : ByteArray} {f : Fo} (hf : f.deg = 1) (sf : f.shapeF = true)
include hf sf
/-- One more step from all places. -/
theorem next_row {S : List Bool} (hS : S.length = w.size + 1) : catAll (endT w f) (falses (w.size + 1)) (posS S) = semT w f S := by
  have ht := semT_tells (w := w) hf sf
  refine bool_ext (by rw [catAll_len, falses_len, ht.len S hS]) fun k => ?_
  have hb : ∀ x ∈ posS S, ∀ y ∈ endT w f x.toNat, 0 ≤ y ∧ y < (falses (w.size + 1)).length := by
    intro x _ y hy
    obtain ⟨k, rfl, _, h, _⟩ := (endT_mem hf sf _ y).1 hy
    rw [falses_len]; omega
  rw [Bool.eq_iff_iff, catAll_get _ k _ _ hb, ht.iff S hS, falses_get]
  simp only [Bool.false_eq_true, false_or]
  constructor
  · rintro ⟨x, hx, hk⟩
    obtain ⟨i, rfl, hi⟩ := posS_mem.1 hx
    obtain ⟨k', e, h1, h2, h3⟩ := (endT_mem hf sf _ _).1 hk
    have : k = k' := by omega
    subst this
    rw [Int.toNat_natCast] at h1 h3
    exact ⟨h2, i, h1, hi, h3⟩
  · rintro ⟨h1, i, h2, h3, h4⟩
    exact ⟨(i : Nat), posS_mem.2 ⟨i, rfl, h3⟩, (endT_mem hf sf _ _).2 ⟨k, rfl, by simpa using h2, h1, by simpa using h4⟩⟩
/-- The places after so many steps. -/
def stp (w : ByteArray) (f : Fo) (fr i : Nat) : List Bool := itB (semT w f) i (pointB (w.size + 1) fr)
theorem stp_len (fr i : Nat) : (stp w f fr i).length = w.size + 1 := ((semT_tells (w := w) hf sf).pow i).len _ (pointB_len _ _)
omit hf sf in
theorem stp_succ (fr i : Nat) : stp w f fr (i + 1) = semT w f (stp w f fr i) := it_succ _ _ _
/-- All places after at least a steps, and less than i. -/
def allP (w : ByteArray) (f : Fo) (fr a : Nat) : Nat → List Bool
  | 0 => falses (w.size + 1)
  | i + 1 => if a ≤ i then setAll (allP w f fr a i) (posS (stp w f fr i)) else allP w f fr a i
omit hf sf in
theorem allP_len (fr a : Nat) : ∀ i, (allP w f fr a i).length = w.size + 1
  | 0 => falses_len _
  | i + 1 => by
    rw [allP]
    split
    · rw [set_len, allP_len fr a i]
    · exact allP_len fr a i
theorem allP_get (fr a k : Nat) : ∀ i, (allP w f fr a i).getD k false = true ↔ ∃ n, n < i ∧ a ≤ n ∧ (stp w f fr n).getD k false = true
  | 0 => by rw [allP, falses_get]; simp
  | i + 1 => by
    have ih := allP_get fr a k i
    rw [allP]
    split
    · rename_i h
      rw [set_get k _ _ (fun x hx => by
        obtain ⟨j, rfl, hj⟩ := posS_mem.1 hx
        have := getD_lt hj
        rw [stp_len hf sf] at this
        rw [allP_len]; omega), ih]
      constructor
      · rintro (⟨n, h1, h2, h3⟩ | h1)
        · exact ⟨n, by omega, h2, h3⟩
        · obtain ⟨j, e, hj⟩ := posS_mem.1 h1
          exact ⟨i, by omega, h, by rw [show k = j by omega]; exact hj⟩
      · rintro ⟨n, h1, h2, h3⟩
        by_cases e : n = i
        · subst e; exact .inr (posS_mem.2 ⟨k, rfl, h3⟩)
        · exact .inl ⟨n, by omega, h2, h3⟩
    · rename_i h
      rw [ih]
      constructor
      · rintro ⟨n, h1, h2, h3⟩; exact ⟨n, by omega, h2, h3⟩
      · rintro ⟨n, h1, h2, h3⟩; exact ⟨n, by omega, h2, h3⟩
theorem times_law {a b : Nat} (hab : a ≤ b) (hp : (wrapF a b f).shapeF = true) {fr : Nat} (hfr : fr ≤ w.size) : endT w (wrapF a b f) fr = posS (allP w f fr a (b + 1)) := by
  refine rise_ext (endT_rise _ _ _) (posS_rise _) fun x => ?_
  rw [endT_mem rfl hp, posS_mem]
  have key : ∀ n k, (stp w f fr n).getD k false = true ↔ k ≤ w.size ∧ fr ≤ k ∧ powW (lanT f) n (subW w fr k) := by
    intro n k
    rw [stp, ((semT_tells (w := w) hf sf).pow n).iff _ (pointB_len _ _)]
    constructor
    · rintro ⟨h1, i, h2, h3, h4⟩
      simp only [point_get, Bool.and_eq_true, decide_eq_true_eq] at h3
      obtain ⟨rfl, _⟩ := h3
      exact ⟨h1, h2, h4⟩
    · rintro ⟨h1, h2, h3⟩
      refine ⟨h1, fr, h2, ?_, h3⟩
      simp only [point_get, Bool.and_eq_true, decide_eq_true_eq]
      exact ⟨trivial, by omega⟩
  constructor
  · rintro ⟨k, rfl, h1, h2, h3⟩
    obtain ⟨n, h4, h5, h6⟩ := (wrap_lan hf _).1 h3
    exact ⟨k, rfl, (allP_get hf sf fr a k _).2 ⟨n, by omega, by omega, (key n k).2 ⟨h2, h1, h6⟩⟩⟩
  · rintro ⟨k, rfl, h⟩
    obtain ⟨n, h1, h2, h3⟩ := (allP_get hf sf fr a k _).1 h
    obtain ⟨h4, h5, h6⟩ := (key n k).1 h3
    exact ⟨k, rfl, h5, h4, (wrap_lan hf _).2 ⟨n, by omega, .inr (by omega), h6⟩⟩
omit sf in
theorem endless_law (a : Nat) (fr : Nat) : endT w (wrapF a (-1) f) fr = endT w (wrapF a ((a + w.size + 1 : Nat) : Int) f) fr := by
  match f, hf with
  | .node b k .nil, _ =>
    have e : ∀ s, repB w a (-1) (semNode w b (sem w k)) s = repB w a ((a + w.size + 1 : Nat) : Int) (semNode w b (sem w k)) s := fun s => by
      rw [repB, repB, if_pos rfl, if_neg (by omega), show (((a + w.size + 1 : Nat) : Int) - (a : Int)).toNat = w.size + 1 by omega]
    show posS (repB w a (-1) _ _) = posS (repB w a _ _ _)
    exact congrArg posS (e _)
end
end Go.Rad
/- The statements of layer 7: LangTells. -/
namespace Go.Rad
open Go Go.Proofs
set_option linter.all false
set_option maxRecDepth 20000
set_option maxHeartbeats 4000000

theorem cut_size {w : ByteArray} {n : Nat} : (w.extract 0 (min w.size n)).size ≤ n := by rw [ByteArray.size_extract]; omega
theorem fits8 {n : Int} (h : fits .u8 n) : ∃ m : Nat, n = m ∧ m ≤ 255 := by
  have h : 0 ≤ n ∧ n ≤ 255 := h
  exact ⟨n.toNat, by omega, by omega⟩
theorem langTells_c (l : List Node) (w : ByteArray) (fr : Int) (hl : l.length ≤ maxLen) (hn : ∀ n ∈ l, nodeFit n) (hw : w.size ≤ maxLen) :
    ACall Try.prog 5 [.sl true false (nodes l), .str w, .int .i64 fr] [] fun r _ => r = .bool true := by
  have hf := few7uc l hl
  have ht := text7uc w hw
  have hx : ∀ n ∈ l.take 60, nodeFit n := fun n h => hn n (List.mem_of_mem_take h)
  have hxl : (l.take 60).length ≤ 60 := by rw [List.length_take]; omega
  have hy := cut_size (w := w) (n := 20)
  generalize l.take 60 = x at hf hx hxl
  generalize w.extract 0 (min w.size 20) = y at ht hy
  clear hn hl hw
  have hli := light7uc x hxl fun n h => (hx n h).1
  obtain ⟨b1, b2, E, hE⟩ := both_c (f := false) (fr := fr) (show x.length ≤ maxLen by unfold maxLen; omega) hx (show y.size ≤ 900000 by omega)
  obtain ⟨b3, b4, E0, hE0⟩ := both_c (f := false) (fr := 0) (show x.length ≤ maxLen by unfold maxLen; omega) hx (show y.size ≤ 900000 by omega)
  have hL := longest_c hE.a hE.len hE.from'
  have hL7 := longest7uc hE.b hE.len
  have hI := isL_c hE0.a hE0.len hE0.rise
  have hI7 := is7uc hE0.b hE0.len hE0.rise hE0.upto
  have hi := ints7uc true b1 true b2 E E (by have := hE.len; omega)
  rw [decide_eq_true rfl] at hi
  have ha := hE.a
  have hb := hE.b
  generalize E0.contains (y.size : Int) = is at hI hI7
  generalize longS E fr = n at hL hL7
  clear hE hE0 hx
  obtain ⟨n, ok⟩ := n
  refine ACall.enter Try.func5 rfl (by kernel_rfl) (Nat.le_of_ble_eq_true rfl) ?_; simp only [initTm, Nat.reduceAdd]
  repeat' (first
  | refine gSq ?_ | refine gSk ?_ | refine gBl ?_ | refine gIb ?_ | refine gEx rfl ?_
  | ((first
  | (refine gRg [] [0, 1, 2, 6, 7, 8, 9, 10, 11, 12, 13, 21] ?_; intro K hK)
  | refine cAl (shown7uc) rfl rfl rfl ?_
  | refine cAl (hf) rfl rfl rfl ?_
  | refine cAl (ht) rfl rfl rfl ?_
  | refine cAl (hL) rfl rfl rfl ?_
  | refine cAl (hL7) rfl rfl rfl ?_
  | refine cAl (ha) rfl rfl rfl ?_
  | refine cAl (hb) rfl rfl rfl ?_
  | refine cAl (hi) rfl rfl rfl ?_
  | refine cAl (hI) rfl rfl rfl ?_
  | refine cAl (hI7) rfl rfl rfl ?_
  | (refine ACall.use [] [] rfl hli rfl rfl rfl ?_; rintro _ _ ⟨⟨b, rfl⟩, rfl⟩; refine ⟨.inl rfl, rfl, ?_⟩; simp only [bk, bk1, bkS, delAll, go_sem, simprocAttr])
  | (refine gd_split ?_ ?_ <;> intro hb <;> (try simp only [bls] at hb) <;> (try simp only [hb]))
  | refine gRt [] [.tmp 6] rfl ?_ | refine gDn [] [.tmp 6] rfl ?_) <;> (try simp only [go_sem, simprocAttr, eq_self, beq_self_eq_true]))
  | (refine hK _ _ ?_; clear hK K; simp only [go_sem, simprocAttr])
  | refine gCd (by simp only [go_sem, simprocAttr]; rfl) rfl ?_
  | refine brT ?_ | refine brF ?_
  | (refine brS ?_ ?_ <;> intro hc <;> (try simp only [bls] at hc) <;> (try simp only [hc, bls]))
  | intro _ | refine And.intro ?_ ?_)
  all_goals first | omega | (unfold bigLen; omega) | exact ⟨_, _, ⟨rfl, rfl⟩, rfl⟩ | exact ⟨_, rfl⟩ | (rename_i hy; simp only [List.mem_singleton] at hy; subst hy; rfl) | with_reducible rfl | skip
end Go.Rad
/- A region of any order, walked along every order that there may be: a tree of ways. Moves are taken as soon as they may be. -/
namespace Go.Rad
open Go

inductive Ways where
  | done
  | take (i : Nat) (t : Ways)
  | one (i : Nat) (t : Ways)
  | two (i : Nat) (t : Ways) (j : Nat) (u : Ways)

def isMove (o : Oper) : Bool := match o.op, o.guard with
  | .move _, none => true
  | .assign _, none => true
  | _, _ => false
def readyB (ops : List Oper) (l : Array Bool) : List Nat := Region.ready .any ops.toArray l
def Ways.ok (ops : List Oper) : Ways → Array Bool → Bool
  | .done, l => (readyB ops l).isEmpty
  | .take i t, l => (match ops[i]? with | some o => isMove o | none => false) && Region.free .any ops.toArray l i && (readyB ops l).contains i && t.ok ops (l.setIfInBounds i true)
  | .one i t, l => (readyB ops l == [i]) && t.ok ops (l.setIfInBounds i true)
  | .two i t j u, l => (readyB ops l == [i, j]) && t.ok ops (l.setIfInBounds i true) && u.ok ops (l.setIfInBounds j true)
def Ways.deep : Ways → Nat
  | .done => 0
  | .take _ t => t.deep + 1
  | .one _ t => t.deep + 1
  | .two _ t _ u => max t.deep u.deep + 1
def vcW (L : Lay) (P : Program) (z : List Nat) (ds : List (Option Nat)) (ops : List Oper) : Ways → Tm → Sto → (Tm → Sto → Prop) → Prop
  | .done, tm, sto, K => K tm sto
  | .take i t, tm, sto, K => vc L P false z ds ([i].filterMap (ops[·]?)) tm sto fun tm sto => vcW L P z ds ops t tm sto K
  | .one i t, tm, sto, K => vc L P false z ds ([i].filterMap (ops[·]?)) tm sto fun tm sto => vcW L P z ds ops t tm sto K
  | .two i t j u, tm, sto, K => (vc L P false z ds ([i].filterMap (ops[·]?)) tm sto fun tm sto => vcW L P z ds ops t tm sto K) ∧ (vc L P false z ds ([j].filterMap (ops[·]?)) tm sto fun tm sto => vcW L P z ds ops u tm sto K)

section
variable {P : Program} {L : Lay} {nt : Nat} {E : Gh} {dfs : List Deferred} {z : List Nat} {ops : List Oper} {Q : Exit → Act → World → Prop}
theorem wpOp_vc (hL : LOk P L) {i : Nat} {o : Oper} {tm : Tm} {sto : Sto} {a : Act} {w : World} {G : Gh} {K' : Tm → Sto → Prop} {N : Act → World → Prop} (hi : ops[i]? = some o) (hok1 : okOps L nt [o] = true) (hsim : Sim E nt dfs tm sto a w G)
    (h : vc L P false z (ops.map (·.dst)) [o] tm sto K') (hN : ∀ tm' sto' a' w' G', K' tm' sto' → Sim E nt dfs tm' sto' a' w' G' → N a' w') : wpOp P ops.toArray Q i N a w := by
  have hdst : (match o.dst with | some d => decide (d < nt) | none => true) = true := by
    simp only [okOps, List.all_cons, List.all_nil, Bool.and_true, Bool.and_eq_true] at hok1
    exact hok1.1.2
  unfold wpOp
  rw [show ops.toArray[i]? = some o by simpa using hi]
  simp only
  unfold vc at h
  split at h
  · rename_i hg
    rw [if_pos (by simp [Region.wanted, hg])]
    exact .inl (step_sound hL hsim hok1 h fun G' w' r v sto' hT hs => hN _ _ _ _ _ hT hs)
  · rename_i j want hg
    split at h
    · rename_i t hj
      split at h
      · rename_i b hb
        have hy := yielded_bool hsim.tok hj hb
        have hsub : ∀ c, b = c → Sim E nt dfs ((t, .bool c) :: tm) sto a w G := by
          rintro c rfl
          refine ⟨hsim.ext, hsim.wok, hsim.sok, fun t' => ?_, hsim.n, hsim.d⟩
          simp only [lk]
          split
          · rename_i e; subst e; rw [← hb]; exact hsim.tok _
          · exact hsim.tok t'
        by_cases hbw : b = want
        · rw [if_pos (by simp [Region.wanted, hg, hy, hbw])]
          exact .inl (step_sound hL (hsub want hbw) hok1 (h.1 hbw) fun G' w' r v sto' hT hs => hN _ _ _ _ _ hT hs)
        · rw [if_neg (by simp [Region.wanted, hg, hy, hbw])]
          have hbn : b = !want := by cases b <;> cases want <;> simp_all
          exact hN _ _ _ _ _ (h.2 hbn) ((hsub _ hbn).put (.refl G) hsim.wok hsim.sok hdst (.tup rfl fun j x hx => by simp at hx))
      · rename_i hb
        have hy := yielded_none hsim.tok hj hb
        rw [if_neg (by simp [Region.wanted, hg, hy])]
        exact hN _ _ _ _ _ h (hsim.put (.refl G) hsim.wok hsim.sok hdst (.tup rfl fun j x hx => by simp at hx))
      · exact h.elim
    · exact h.elim
theorem one_sel {i : Nat} {o : Oper} (hi : ops[i]? = some o) : [i].filterMap (ops[·]?) = [o] := by simp [hi]
theorem ok_one (hall : okOps L nt ops = true) {i : Nat} {o : Oper} (hi : ops[i]? = some o) : okOps L nt [o] = true := by
  have := List.all_eq_true.1 hall o (List.mem_of_getElem? hi)
  simp only [okOps, List.all_cons, List.all_nil, Bool.and_true]
  exact this
theorem ways_sound (hL : LOk P L) {K : Tm → Sto → Prop} (hall : okOps L nt ops = true) (hns : Region.noSelect ops.toArray = true) (hQp : ∀ c a w, ¬ Q (.panic c) a w) (hQ : ∀ G tm sto a w, K tm sto → Sim E nt dfs tm sto a w G → Q .normal a w) :
    ∀ (t : Ways) (listed : Array Bool) (tm : Tm) (sto : Sto) (a : Act) (w : World) (G : Gh) (fuel : Nat), t.ok ops listed = true → t.deep ≤ fuel → Sim E nt dfs tm sto a w G → vcW L P z (ops.map (·.dst)) ops t tm sto K → wpAny P .any ops.toArray Q fuel listed a w := by
  have step : ∀ (i : Nat) (t : Ways) (listed : Array Bool) (tm : Tm) (sto : Sto) (a : Act) (w : World) (G : Gh) (fuel : Nat), i ∈ Region.ready .any ops.toArray listed → (∀ (tm : Tm) (sto : Sto) (a : Act) (w : World) (G : Gh), Sim E nt dfs tm sto a w G → vcW L P z (ops.map (·.dst)) ops t tm sto K → wpAny P .any ops.toArray Q fuel (listed.setIfInBounds i true) a w) →
      Sim E nt dfs tm sto a w G → (vc L P false z (ops.map (·.dst)) ([i].filterMap (ops[·]?)) tm sto fun tm sto => vcW L P z (ops.map (·.dst)) ops t tm sto K) → wpOp P ops.toArray Q i (wpAny P .any ops.toArray Q fuel (listed.setIfInBounds i true)) a w := by
    intro i t listed tm sto a w G fuel hr ih hsim h
    obtain ⟨_, o, ho, _⟩ := mem_ready.1 hr
    have hi : ops[i]? = some o := by simpa using ho
    rw [one_sel hi] at h
    exact wpOp_vc hL hi (ok_one hall hi) hsim h fun tm' sto' a' w' G' hk hs => ih tm' sto' a' w' G' hs hk
  intro t
  induction t with
  | done =>
    intro listed tm sto a w G fuel hok _ hsim h
    refine wpAny_done ?_ (hQ G tm sto a w h hsim) fuel
    simpa [Ways.ok, readyB] using hok
  | take i t ih =>
    intro listed tm sto a w G fuel hok hd hsim h
    simp only [Ways.ok, Bool.and_eq_true] at hok
    obtain ⟨⟨⟨h1, h2⟩, h3⟩, h4⟩ := hok
    simp only [Ways.deep] at hd
    obtain ⟨fuel, rfl⟩ : ∃ f, fuel = f + 1 := ⟨fuel - 1, by omega⟩
    split at h1
    · rename_i o hi
      have hk := ok_one hall hi
      have hkd := hk
      simp only [okOps, List.all_cons, List.all_nil, Bool.and_true, Bool.and_eq_true] at hkd
      obtain ⟨⟨hop, hdst⟩, _⟩ := hkd
      simp only [opOk, Bool.and_eq_true] at hop
      have hops : ∀ x ∈ o.op.operands, operandOk x = true := fun x hx => Array.all_eq_true'.1 hop.1 x hx
      unfold vcW at h
      rw [one_sel hi] at h
      have key : ∀ x, (o.op = .move x ∨ o.op = .assign x) → o.guard = none → wpAny P .any ops.toArray Q (fuel + 1) listed a w := by
        intro x hx hg
        have hxm : operandOk x = true := hops x (by rcases hx with hx | hx <;> rw [hx] <;> simp [Op.operands])
        have hv : vcW L P z (ops.map (·.dst)) ops t (put o.dst (ev tm x) tm) sto K := by
          unfold vc at h
          rw [hg] at h
          simp only [vcStep] at h
          rcases hx with hx | hx <;> rw [hx] at h <;> exact h
        have hrun : ∀ w, (execOp a.eval o).run P w = .ok (.value (a.eval x)) w := fun w => by rcases hx with hx | hx <;> simp [execOp, hx]
        refine wpAny_take (v := a.eval x) (by simpa using hi) hns h2 h3 (fun c a w hq => absurd hq (hQp c _ _)) (.inl ⟨by simp [Region.wanted, hg], hrun⟩) ?_
        exact ih _ _ _ _ _ G fuel h4 (by omega) (hsim.put (.refl G) hsim.wok hsim.sok hdst (ev_rep hsim.wok hsim.tok hxm)) hv
      unfold isMove at h1
      split at h1
      · rename_i x hx hg; exact key x (.inl hx) hg
      · rename_i x hx hg; exact key x (.inr hx) hg
      · cases h1
    · cases h1
  | one i t ih =>
    intro listed tm sto a w G fuel hok hd hsim h
    simp only [Ways.ok, Bool.and_eq_true, beq_iff_eq, readyB] at hok
    simp only [Ways.deep] at hd
    obtain ⟨fuel, rfl⟩ : ∃ f, fuel = f + 1 := ⟨fuel - 1, by omega⟩
    refine wpAny_all hok.1 (by simp) fun k hk => ?_
    rw [List.mem_singleton] at hk
    subst hk
    exact step _ t listed tm sto a w G fuel (by rw [hok.1]; simp) (fun tm sto a w G hs hv => ih _ tm sto a w G fuel hok.2 (by omega) hs hv) hsim h
  | two i t j u ih1 ih2 =>
    intro listed tm sto a w G fuel hok hd hsim h
    simp only [Ways.ok, Bool.and_eq_true, beq_iff_eq, readyB] at hok
    simp only [Ways.deep] at hd
    obtain ⟨fuel, rfl⟩ : ∃ f, fuel = f + 1 := ⟨fuel - 1, by omega⟩
    obtain ⟨⟨h1, h2⟩, h3⟩ := hok
    refine wpAny_all h1 (by simp) fun k hk => ?_
    simp only [List.mem_cons, List.not_mem_nil, or_false] at hk
    rcases hk with rfl | rfl
    · exact step _ t listed tm sto a w G fuel (by rw [h1]; simp) (fun tm sto a w G hs hv => ih1 _ tm sto a w G fuel h2 (by omega) hs hv) hsim h.1
    · exact step _ u listed tm sto a w G fuel (by rw [h1]; simp) (fun tm sto a w G hs hv => ih2 _ tm sto a w G fuel h3 (by omega) hs hv) hsim h.2
end
theorem AGood.ways {P : Program} {L : Lay} {f : Nat} {fn : Func} {df : List DDel} {k : List Item} {tm : Tm} {sto : Sto} {R : AVal → Sto → Prop} (hL : LOk P L) (hm : P.follows .mixedOrders = true) (t : Ways) (z : List Nat) {id : Nat} {ops : List Oper} (ps : List Nat)
    (hok : (okOps L fn.ntmps ops && Region.noSelect ops.toArray && t.ok ops (Array.replicate ops.length false) && Nat.ble t.deep ops.length) = true)
    (h : ∀ K : Tm → Sto → Prop, (∀ tm' sto', AGood P f fn df k (Rad.prune ps tm') sto' R → K tm' sto') → vcW L P z (ops.map (·.dst)) ops t tm sto K) :
    AGood P f fn df (.code (.region id ops.toArray true) :: k) tm sto R := by
  simp only [Bool.and_eq_true, Nat.ble_eq] at hok
  obtain ⟨⟨⟨hall, hns⟩, hw⟩, hdp⟩ := hok
  refine ⟨?_⟩
  intro E G a w b h1 h2 h3 h4 h5 h6 h7 h8 h9
  refine Good.of_wp (Q := fun e a' w' => e = .normal ∧ Good P f (Post E R) b k a' w') (wp_region_any hm ?_) fun e a' w' hq => hq
  let K : Tm → Sto → Prop := fun tm' sto' => AGood P f fn df k (Rad.prune ps tm') sto' R
  have hQ : ∀ G' tm' sto' a' w', K tm' sto' → Sim G fn.ntmps a.defers tm' sto' a' w' G' → (fun e a' w' => e = Exit.normal ∧ Good P f (Post E R) b k a' w') .normal a' w' := fun G' tm' sto' a' w' hk hs =>
    ⟨rfl, hk.go E G' a' w' b h1 h2 h3 hs.n (hs.d ▸ h5.mono hs.ext.toMono) (h6.trans hs.ext) hs.wok hs.sok (hs.tok.prune ps)⟩
  obtain ⟨hw1, hs1⟩ := world_grown (w' := { w with drawn := w.drawn + 1 }) (Kept.draw w _) h7 h8 (Nat.le_refl _) (fun _ _ => rfl)
  have hsz : ops.toArray.size = ops.length := by simp
  rw [hsz]
  exact ways_sound hL hall hns (fun c a w h => by cases h.1) hQ t _ tm sto a _ G _ hw hdp ⟨.refl G, hw1, hs1, h9, h4, rfl⟩ (h K fun _ _ h => h)
end Go.Rad
/- The driver's name for a walk along all orders of a region. -/
namespace Go.Rad
open Go Go.Proofs
theorem gWy {f : Nat} {fn : Func} {df : List DDel} {k : List Item} {tm : Tm} {sto : Sto} {R : AVal → Sto → Prop} (id : Nat) (z : List Nat) (t : Ways) {ops : List Oper} (ps : List Nat)
    (h : ∀ K : Tm → Sto → Prop, (∀ tm' sto', AGood Try.prog f fn df k (Rad.prune ps tm') sto' R → K tm' sto') → vcW LL Try.prog z (ops.map (·.dst)) ops t tm sto K)
    (hok : (okOps LL fn.ntmps ops && Region.noSelect ops.toArray && t.ok ops (Array.replicate ops.length false) && Nat.ble t.deep ops.length) = true := by kernel_rfl) :
    AGood Try.prog f fn df (.code (.region id ops.toArray true) :: k) tm sto R := .ways LL_ok mixed t z ps hok h
end Go.Rad
