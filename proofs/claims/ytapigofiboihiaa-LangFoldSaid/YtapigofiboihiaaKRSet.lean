/- Sets of nodes whose words are what their kinds hold. -/
import Derived.Test.YtapigofiboihiaaKRSort
import Derived.Test.YtapigofiboihiaaKRRunC
import Derived.Test.YtapigofiboihiaaKP07n
import Derived.Test.YtapigofiboihiaaKRNorm
import Derived.Test.YtapigofiboihiaaKRNode
import Derived.Lib.ConvBytes
set_option linter.all false
namespace Go.Rad
open Go
def ISet.N (s : ISet) : NSet := ⟨s.a.toNat, s.b.toNat, s.c.toNat, s.d.toNat⟩
def ISet.okI (s : ISet) : Prop := fits .u64 s.a ∧ fits .u64 s.b ∧ fits .u64 s.c ∧ fits .u64 s.d
theorem okI_N {s : ISet} (h : s.okI) : s.N.ok ∧ s = s.N.I := by
  obtain ⟨a, b, c, d⟩ := s
  obtain ⟨h1, h2, h3, h4⟩ := h
  obtain ⟨a, rfl, k1⟩ := fit64 h1
  obtain ⟨b, rfl, k2⟩ := fit64 h2
  obtain ⟨c, rfl, k3⟩ := fit64 h3
  obtain ⟨d, rfl, k4⟩ := fit64 h4
  exact ⟨⟨k1, k2, k3, k4⟩, rfl⟩
section
variable {L : Lay} {k t : Nat} {y : List AVal}
theorem ty_setF {e : Nat} (ht : (L t).ty = .array 4 e) (he : (L e).ty = .int .u64) (h : typed L (k + 2) t y) : ∃ s : ISet, y = s.cells ∧ s.okI := by
  have h := ty_array ht h
  obtain ⟨x1, r1, rfl, h1, x2, r2, rfl, h2, x3, r3, rfl, h3, x4, r4, rfl, h4, rfl⟩ := h
  obtain ⟨a, rfl, f1⟩ := ty_int he h1
  obtain ⟨b, rfl, f2⟩ := ty_int he h2
  obtain ⟨c, rfl, f3⟩ := ty_int he h3
  obtain ⟨d, rfl, f4⟩ := ty_int he h4
  exact ⟨⟨a, b, c, d⟩, rfl, f1, f2, f3, f4⟩
def nodeFit (n : Node) : Prop := (n.name.size ≤ maxLen ∧ n.l.length ≤ maxLen) ∧ n.s.okI
theorem ty_nodeF (hn : NodeTy L t) (h : typed L (k + 3) t y) : ∃ n : Node, y = n.cells ∧ nodeFit n := by
  obtain ⟨o, st, l, i, s, w, h1, h2, h3, h4, h5, h6, h7⟩ := hn.ex
  have h := ty_struct h1 h
  obtain ⟨x1, r1, rfl, p1, x2, r2, rfl, p2, x3, r3, rfl, p3, x4, r4, rfl, p4, x5, r5, rfl, p5, x6, r6, rfl, p6, rfl⟩ := h
  obtain ⟨no, rfl, _⟩ := ty_int h2 p1
  obtain ⟨ns, rfl, hst⟩ := ty_setF h3 h4 p2
  obtain ⟨nl, rfl, hl⟩ := ty_ints h5 h6 p3
  obtain ⟨nlo, rfl, _⟩ := ty_int h6 p4
  obtain ⟨nhi, rfl, _⟩ := ty_int h6 p5
  obtain ⟨nn, rfl, hs⟩ := ty_str h7 p6
  exact ⟨⟨no, ns, nl, nlo, nhi, nn⟩, rfl, ⟨hs, hl⟩, hst⟩
theorem ty_nodesF {e : Nat} (ht : (L t).ty = .slice e) (hn : NodeTy L e) (h : typed L (k + 4) t y) : ∃ l : List Node, y = [.sl true false (nodes l)] ∧ l.length ≤ maxLen ∧ ∀ n ∈ l, nodeFit n := by
  obtain ⟨l, rfl, hl, hx⟩ := ty_slice ht h
  obtain ⟨ns, rfl, hns⟩ := list_of (F := Node.cells) (P := nodeFit) fun x hx' => ty_nodeF hn (hx x hx')
  exact ⟨ns, rfl, by simpa using hl, hns⟩
theorem ty_defsF {e : Nat} (ht : (L t).ty = .slice e) (hn : DefTy L e) (h : typed L (k + 6) t y) : ∃ l : List Df, y = [.sl true false (defs l)] ∧ l.length ≤ maxLen ∧ ∀ d ∈ l, d.name.size ≤ maxLen ∧ d.l.length ≤ maxLen ∧ ∀ n ∈ d.l, nodeFit n := by
  obtain ⟨s, ln, n, h1, h2, h3, h4⟩ := hn.ex
  obtain ⟨l, rfl, hl, hx⟩ := ty_slice ht h
  obtain ⟨ds, rfl, hds⟩ := list_of (F := Df.cells) (P := fun d => d.name.size ≤ maxLen ∧ d.l.length ≤ maxLen ∧ ∀ n ∈ d.l, nodeFit n) fun x hx' => by
    have h := ty_struct h1 (hx x hx')
    obtain ⟨x1, r1, rfl, p1, x2, r2, rfl, p2, rfl⟩ := h
    obtain ⟨nn, rfl, hs⟩ := ty_str h2 p1
    obtain ⟨dl, rfl, hd1, hd2⟩ := ty_nodesF h3 h4 p2
    exact ⟨⟨nn, dl⟩, rfl, hs, hd1, hd2⟩
  exact ⟨ds, rfl, by simpa using hl, hds⟩
end
end Go.Rad
/- The ends of a tree in a text, of the program and of the document: both, whatever the nodes are. -/
namespace Go.Rad
open Go Go.Proofs
set_option linter.all false
set_option maxRecDepth 20000
set_option maxHeartbeats 4000000

def lanT (f : Fo) : Lan := (lan f).headD epsW
theorem semT_tells {w : ByteArray} {fo : Fo} (hd : fo.deg = 1) (hs : fo.shapeF = true) : Tells w (semT w fo) (lanT fo) := by
  match fo, hd with
  | .node b k .nil, _ => exact (sem_tells (w := w) _ hs).1
/-- The ends from a place on. -/
def endT (w : ByteArray) (fo : Fo) (i : Nat) : List Int := posS (semT w fo (pointB (w.size + 1) i))
theorem endT_rise (w : ByteArray) (fo : Fo) (i : Nat) : (endT w fo i).Pairwise (· < ·) := posS_rise _
theorem endT_mem {w : ByteArray} {fo : Fo} (hd : fo.deg = 1) (hs : fo.shapeF = true) (i : Nat) (x : Int) : x ∈ endT w fo i ↔ ∃ k : Nat, x = k ∧ i ≤ k ∧ k ≤ w.size ∧ lanT fo (subW w i k) := by
  rw [endT, posS_mem]
  constructor
  · rintro ⟨k, rfl, h⟩
    obtain ⟨h1, j, h2, h3, h4⟩ := ((semT_tells hd hs).iff _ (pointB_len _ _) k).1 h
    simp only [point_get, Bool.and_eq_true, decide_eq_true_eq] at h3
    obtain ⟨rfl, _⟩ := h3
    exact ⟨k, rfl, h2, h1, h4⟩
  · rintro ⟨k, rfl, h1, h2, h3⟩
    refine ⟨k, rfl, ((semT_tells hd hs).iff _ (pointB_len _ _) k).2 ⟨h2, i, h1, ?_, h3⟩⟩
    simp only [point_get, Bool.and_eq_true, decide_eq_true_eq]
    exact ⟨trivial, by omega⟩
theorem endT_len {w : ByteArray} {fo : Fo} (hd : fo.deg = 1) (i : Nat) : (endT w fo i).length ≤ w.size + 1 := by
  have := posS_len (semT w fo (pointB (w.size + 1) i))
  rwa [semT_len hd (pointB_len _ _)] at this
theorem fit_words {l : List Node} (h : ∀ n ∈ l, nodeFit n) : ∀ n ∈ l, ∀ k, 0 ≤ n.s.word k := by
  intro n hn k
  obtain ⟨_, h1, h2, h3, h4⟩ := h n hn
  obtain ⟨h1, _⟩ := h1
  obtain ⟨h2, _⟩ := h2
  obtain ⟨h3, _⟩ := h3
  obtain ⟨h4, _⟩ := h4
  simp only [IntKind.min] at h1 h2 h3 h4
  unfold ISet.word
  split <;> first | exact h1 | exact h2 | exact h3 | exact h4
/-- What both packages tell of any nodes. -/
structure Both (P : Program) (fa fb : Nat) (f : Bool) (l : List Node) (w : ByteArray) (fr : Int) (b1 b2 : Bool) (E : List Int) : Prop where
  a : ACall P fa [.sl true f (nodes l), .str w, .int .i64 fr] [] fun r s => r = .sl true b1 (ints E) ∧ s = []
  b : ACall P fb [.sl true f (nodes l), .str w, .int .i64 fr] [] fun r s => r = .sl true b2 (ints E) ∧ s = []
  from' : ∀ x ∈ E, fr ≤ x
  upto : ∀ x ∈ E, x ≤ (w.size : Int)
  rise : E.Pairwise (· < ·)
  len : E.length ≤ 1000001
theorem both_c {f : Bool} {l : List Node} {w : ByteArray} {fr : Int} (hll : l.length ≤ maxLen) (hl : ∀ n ∈ l, nodeFit n) (hw : w.size ≤ 900000) : ∃ b1 b2 E, Both Try.prog 13 22 f l w fr b1 b2 E := by
  have hnd : ∀ n ∈ l, n.name.size ≤ maxLen ∧ n.l.length ≤ maxLen := fun n h => (hl n h).1
  by_cases hno : fr < 0 ∨ (w.size : Int) < fr ∨ plainS l = false
  · have hwm : w.size ≤ maxLen := by unfold maxLen; omega
    exact ⟨true, true, [], endsNo_c f l w fr hnd hwm hno, ends7No_c f l w fr hll hnd hwm hno, by simp, by simp, .nil, by simp⟩
  · have hp : plainS l = true := by cases h : plainS l; exact absurd (.inr (.inr h)) hno; rfl
    obtain ⟨fo, hd, rfl, hs, hz, h6⟩ := (plain_fo l).1 hp
    obtain ⟨i, rfl⟩ : ∃ i : Nat, fr = i := ⟨fr.toNat, by omega⟩
    have hi : i ≤ w.size := by omega
    refine ⟨false, false, endT w fo i, endsTop_c hw f fo hd hs hz h6 (fit_words hl) i hi, ends7Top_c (by omega) f fo hd hs hz h6 i hi, ?_, ?_, endT_rise _ _ _, by have := endT_len (w := w) hd i; omega⟩
    · intro x hx
      obtain ⟨k, rfl, h1, _⟩ := (endT_mem hd hs i x).1 hx
      omega
    · intro x hx
      obtain ⟨k, rfl, _, h1, _⟩ := (endT_mem hd hs i x).1 hx
      omega
end Go.Rad
/- Contracts: the statements of layer 7: lists, trees put together. -/
namespace Go.Rad
open Go Go.Proofs
set_option linter.all false
set_option maxRecDepth 20000
set_option maxHeartbeats 4000000

theorem list7uc (q f : Bool) (E : List Bool) (hl : E.length ≤ 1000000) : ACall Try.prog 16 [.sl q f (bools E)] [] fun r s => r = .sl true false (ints (posS E)) ∧ s = [] := by
  obtain ⟨PS, hPS⟩ : ∃ PS : Nat → List Nat, PS = fun i => (List.range i).filter fun j => E.getD j false := ⟨_, rfl⟩
  have hp0 : PS 0 = [] := by rw [hPS]; rfl
  have hp1 : ∀ i, PS (i + 1) = PS i ++ (if E.getD i false = true then [i] else []) := by
    intro i
    rw [hPS]
    simp only [List.range_succ, List.filter_append]
    cases hb : E.getD i false <;> (rw [List.getD_eq_getElem?_getD] at hb; simp [hb])
  have hpE : posN E = PS E.length := by rw [hPS]; rfl
  have hpl2 : ∀ i, (PS i).length ≤ i := fun i => by
    rw [hPS]
    refine Nat.le_trans (List.length_filter_le _ _) ?_
    simp
  clear hPS
  rw [show posS E = (PS E.length).map fun (i : Nat) => (i : Int) from by rw [posS, hpE]]
  refine ACall.enter Try.func16 rfl (by kernel_rfl) (Nat.le_of_ble_eq_true rfl) ?_; simp only [initTm, Nat.reduceAdd]
  repeat' (first
  | refine gSq ?_ | refine gSk ?_ | refine gBl ?_ | refine gIb ?_ | refine gEx rfl ?_
  | ((first
  | (refine gRg [] [0, 2, 3, 4, 5, 6, 7, 8, 9, 13] ?_; intro K hK)
  | (refine gd_split ?_ ?_ <;> intro hb <;> (try simp only [bls] at hb) <;> (try simp only [hb]))
  | refine gRt [] [.tmp 2] rfl ?_ | refine gDn [] [.tmp 2] rfl ?_) <;> (try simp only [go_sem, simprocAttr]))
  | (refine hK _ _ ?_; clear hK K; simp only [go_sem, simprocAttr])
  | refine gCd (by simp only [go_sem, simprocAttr]; rfl) rfl ?_
  | refine brT ?_ | refine brF ?_
  | (refine brS ?_ ?_ <;> intro hc <;> (try simp only [bls] at hc) <;> (try simp only [hc, bls]))
  | intro _ | refine And.intro ?_ ?_)
  all_goals first | omega | (unfold bigLen; omega) | exact ⟨_, _, ⟨rfl, rfl⟩, rfl⟩ | exact ⟨_, rfl⟩ | (rename_i hy; simp only [List.mem_singleton] at hy; subst hy; rfl) | with_reducible rfl | skip
  refine AGood.ownTm 3 900 1 (by decide) rfl fun g9 => ?_
  simp only [go_sem, simprocAttr]
  refine AGood.prune [2, 3, 6, 7, 8] ?_; simp only [go_sem, simprocAttr]
  refine AGood.loopInv (α := Nat × Nat) (fun x => ([(2, .sl true true []), (3, .osl 900 x.2 0 (PS x.1).length), (6, .sl q f (bools E)), (7, .int .i64 E.length), (8, .int .i64 x.1)], [(900, x.2, .row 1 (ints ((PS x.1).map fun (i : Nat) => (i : Int))))])) (fun x => x.1 ≤ E.length) (fun x => E.length - x.1) (0, g9) (Nat.zero_le _) (by simp only [hp0]; rfl) ?_
  rintro ⟨i, g⟩ hi ih
  simp only at hi ih ⊢
  have hl9 := hpl2 i
  by_cases hle : i < E.length
  · have f4 : (i : Int) < E.length := by omega
    have f5 : (0 : Int) ≤ i := by omega
    have f6 : (i : Int) + 1 = ((i + 1 : Nat) : Int) := by omega
    have hE : E[i]? = some E[i] := List.getElem?_eq_getElem hle
    have hgd : E.getD i false = E[i] := by simp [List.getD, hle]
    have h1 := hp1 i
    rw [hgd] at h1
    generalize E[i] = x at hE h1
    cases x
    · simp only [Bool.false_eq_true, if_false, List.append_nil] at h1
      repeat' (first
  | refine gSq ?_ | refine gSk ?_ | refine gBl ?_ | refine gIb ?_ | refine gEx rfl ?_
  | ((first
  | (refine gRg [] [0, 2, 3, 4, 5, 6, 7, 8, 9, 13] ?_; intro K hK)
  | (refine gd_split ?_ ?_ <;> intro hb <;> (try simp only [bls] at hb) <;> (try simp only [hb]))
  | refine gRt [] [.tmp 2] rfl ?_ | refine gDn [] [.tmp 2] rfl ?_) <;> (try simp only [go_sem, simprocAttr, f4, f5, f6, hE, Option.some.injEq, forall_eq']))
  | (refine hK _ _ ?_; clear hK K; simp only [go_sem, simprocAttr])
  | refine gCd (by simp only [go_sem, simprocAttr]; rfl) rfl ?_
  | refine brT ?_ | refine brF ?_
  | (refine brS ?_ ?_ <;> intro hc <;> (try simp only [bls] at hc) <;> (try simp only [hc, bls]))
  | intro _ | refine And.intro ?_ ?_)
      all_goals first | omega | (unfold bigLen; omega) | exact ⟨_, _, ⟨rfl, rfl⟩, rfl⟩ | exact ⟨_, rfl⟩ | (rename_i hy; simp only [List.mem_singleton] at hy; subst hy; rfl) | with_reducible rfl | skip
      refine AGood.filt [900] ?_
      simp only [sf_cons, sf_nil, go_sem, simprocAttr]
      refine AGood.prune [2, 3, 6, 7, 8] ?_; simp only [go_sem, simprocAttr]
      exact AGood.cast (ih (i + 1, g) (by simp only; omega) (by simp only; omega)) (by simp only [h1]) (by simp only [h1])
    · simp only [if_true] at h1
      repeat' (first
  | refine gSq ?_ | refine gSk ?_ | refine gBl ?_ | refine gIb ?_ | refine gEx rfl ?_
  | ((first
  | (refine gRg [16] [0, 2, 3, 4, 5, 6, 7, 8, 9, 13] ?_; intro K hK)
  | (refine gd_split ?_ ?_ <;> intro hb <;> (try simp only [bls] at hb) <;> (try simp only [hb]))
  | refine gRt [] [.tmp 2] rfl ?_ | refine gDn [] [.tmp 2] rfl ?_) <;> (try simp only [go_sem, simprocAttr, f4, f5, f6, hE, Option.some.injEq, forall_eq']))
  | (refine hK _ _ ?_; clear hK K; simp only [go_sem, simprocAttr])
  | refine gCd (by simp only [go_sem, simprocAttr]; rfl) rfl ?_
  | refine brT ?_ | refine brF ?_
  | (refine brS ?_ ?_ <;> intro hc <;> (try simp only [bls] at hc) <;> (try simp only [hc, bls]))
  | intro _ | refine And.intro ?_ ?_)
      all_goals first | omega | (unfold bigLen; omega) | exact ⟨_, _, ⟨rfl, rfl⟩, rfl⟩ | exact ⟨_, rfl⟩ | (rename_i hy; simp only [List.mem_singleton] at hy; subst hy; rfl) | with_reducible rfl | skip
      rename_i h'
      refine AGood.filt [900] ?_
      simp only [sf_cons, sf_nil, go_sem, simprocAttr]
      refine AGood.prune [2, 3, 6, 7, 8] ?_; simp only [go_sem, simprocAttr]
      exact AGood.cast (ih (i + 1, h') (by simp only; omega) (by simp only; omega)) (by simp only [h1]; simp) (by simp only [h1]; simp)
  · have f4 : ¬ (i : Int) < E.length := by omega
    have hin : i = E.length := by omega
    rw [hin]
    rw [hin] at f4 ih
    clear ih
    have g15 : (ints ((PS E.length).map fun (i : Nat) => (i : Int))).take (PS E.length).length = ints ((PS E.length).map fun (i : Nat) => (i : Int)) := List.take_of_length_le (by simp)
    repeat' (first
  | refine gSq ?_ | refine gSk ?_ | refine gBl ?_ | refine gIb ?_ | refine gEx rfl ?_
  | ((first
  | (refine AGood.at 8 ?_; (refine AGood.freeze 900 rfl ?_; simp only [rfT, rfS, rfO, rf, rf1, g15, List.length_map, Nat.le_refl, true_and, go_sem, simprocAttr]); (refine gRg [] [0, 2, 3, 4, 5, 6, 7, 8, 9, 13] ?_; intro K hK))
  | (refine gRg [] [0, 2, 3, 4, 5, 6, 7, 8, 9, 13] ?_; intro K hK)
  | (refine gd_split ?_ ?_ <;> intro hb <;> (try simp only [bls] at hb) <;> (try simp only [hb]))
  | refine gRt [] [.tmp 2] rfl ?_ | refine gDn [] [.tmp 2] rfl ?_) <;> (try simp only [go_sem, simprocAttr, f4]))
  | (refine hK _ _ ?_; clear hK K; simp only [go_sem, simprocAttr])
  | refine gCd (by simp only [go_sem, simprocAttr]; rfl) rfl ?_
  | refine brT ?_ | refine brF ?_
  | (refine brS ?_ ?_ <;> intro hc <;> (try simp only [bls] at hc) <;> (try simp only [hc, bls]))
  | intro _ | refine And.intro ?_ ?_)
    all_goals first | omega | (unfold bigLen; omega) | exact ⟨_, _, ⟨rfl, rfl⟩, rfl⟩ | exact ⟨_, rfl⟩ | (rename_i hy; simp only [List.mem_singleton] at hy; subst hy; rfl) | with_reducible rfl | skip
theorem good7No_c (l : List Node) (hll : l.length ≤ maxLen) (hl : ∀ n ∈ l, nodeFit n) (h : ¬ (l.length ≤ 30 ∧ plainS l = true)) : ACall Try.prog 12 [.sl true false (nodes l)] [] fun r s => r = .bool false ∧ s = [] := by
  have hpl := plain_c false l hll fun n h => ⟨(hl n h).1.2, (hl n h).1.1⟩
  by_cases h1 : l.length ≤ 30
  · rw [show plainS l = false by cases hp : plainS l; rfl; exact absurd ⟨h1, hp⟩ h] at hpl
    have e1 : (l.length : Int) ≤ 30 := by omega
    refine ACall.enter Try.func12 rfl (by kernel_rfl) (Nat.le_of_ble_eq_true rfl) ?_; simp only [initTm, Nat.reduceAdd]
    repeat' (first
  | refine gSq ?_ | refine gSk ?_ | refine gBl ?_ | refine gIb ?_ | refine gEx rfl ?_
  | ((first
  | (refine gRg [] [0, 2] ?_; intro K hK)
  | refine cAl (hpl) rfl rfl rfl ?_
  | (refine gd_split ?_ ?_ <;> intro hb <;> (try simp only [bls] at hb) <;> (try simp only [hb]))
  | refine gRt [] [.tmp 2] rfl ?_ | refine gDn [] [.tmp 2] rfl ?_) <;> (try simp only [go_sem, simprocAttr, e1]))
  | (refine hK _ _ ?_; clear hK K; simp only [go_sem, simprocAttr])
  | refine gCd (by simp only [go_sem, simprocAttr]; rfl) rfl ?_
  | refine brT ?_ | refine brF ?_
  | (refine brS ?_ ?_ <;> intro hc <;> (try simp only [bls] at hc) <;> (try simp only [hc, bls]))
  | intro _ | refine And.intro ?_ ?_)
    all_goals first | omega | (unfold bigLen; omega) | exact ⟨_, _, ⟨rfl, rfl⟩, rfl⟩ | exact ⟨_, rfl⟩ | (rename_i hy; simp only [List.mem_singleton] at hy; subst hy; rfl) | with_reducible rfl | skip
  · have e1 : ¬ (l.length : Int) ≤ 30 := by omega
    refine ACall.enter Try.func12 rfl (by kernel_rfl) (Nat.le_of_ble_eq_true rfl) ?_; simp only [initTm, Nat.reduceAdd]
    repeat' (first
  | refine gSq ?_ | refine gSk ?_ | refine gBl ?_ | refine gIb ?_ | refine gEx rfl ?_
  | ((first
  | (refine gRg [] [0, 2] ?_; intro K hK)
  | (refine gd_split ?_ ?_ <;> intro hb <;> (try simp only [bls] at hb) <;> (try simp only [hb]))
  | refine gRt [] [.tmp 2] rfl ?_ | refine gDn [] [.tmp 2] rfl ?_) <;> (try simp only [go_sem, simprocAttr, e1]))
  | (refine hK _ _ ?_; clear hK K; simp only [go_sem, simprocAttr])
  | refine gCd (by simp only [go_sem, simprocAttr]; rfl) rfl ?_
  | refine brT ?_ | refine brF ?_
  | (refine brS ?_ ?_ <;> intro hc <;> (try simp only [bls] at hc) <;> (try simp only [hc, bls]))
  | intro _ | refine And.intro ?_ ?_)
    all_goals first | omega | (unfold bigLen; omega) | exact ⟨_, _, ⟨rfl, rfl⟩, rfl⟩ | exact ⟨_, rfl⟩ | (rename_i hy; simp only [List.mem_singleton] at hy; subst hy; rfl) | with_reducible rfl | skip
theorem good7uc (l : List Node) (hl : ∀ n ∈ l, nodeFit n) (h1 : l.length ≤ 30) (hp : plainS l = true) : ACall Try.prog 12 [.sl true false (nodes l)] [] fun r s => (∃ b : Bool, r = .bool b) ∧ s = [] := by
  have hpl := plain_c false l (by unfold maxLen; omega) fun n h => ⟨(hl n h).1.2, (hl n h).1.1⟩
  have hli := light7uc l (by omega) fun n h => (hl n h).1
  rw [hp] at hpl
  have e1 : (l.length : Int) ≤ 30 := by omega
  refine ACall.enter Try.func12 rfl (by kernel_rfl) (Nat.le_of_ble_eq_true rfl) ?_; simp only [initTm, Nat.reduceAdd]
  repeat' (first
  | refine gSq ?_ | refine gSk ?_ | refine gBl ?_ | refine gIb ?_ | refine gEx rfl ?_
  | ((first
  | (refine gRg [] [0, 2] ?_; intro K hK)
  | refine cAl (hpl) rfl rfl rfl ?_
  | (refine ACall.use [] [] rfl hli rfl rfl rfl ?_; rintro _ _ ⟨⟨b, rfl⟩, rfl⟩; refine ⟨.inl rfl, rfl, ?_⟩; simp only [bk, bk2, bk1, bkS, delAll, go_sem, simprocAttr])
  | (refine gd_split ?_ ?_ <;> intro hb <;> (try simp only [bls] at hb) <;> (try simp only [hb]))
  | refine gRt [] [.tmp 2] rfl ?_ | refine gDn [] [.tmp 2] rfl ?_) <;> (try simp only [go_sem, simprocAttr, e1]))
  | (refine hK _ _ ?_; clear hK K; simp only [go_sem, simprocAttr])
  | refine gCd (by simp only [go_sem, simprocAttr]; rfl) rfl ?_
  | refine brT ?_ | refine brF ?_
  | (refine brS ?_ ?_ <;> intro hc <;> (try simp only [bls] at hc) <;> (try simp only [hc, bls]))
  | intro _ | refine And.intro ?_ ?_)
  all_goals first | omega | (unfold bigLen; omega) | exact ⟨_, _, ⟨rfl, rfl⟩, rfl⟩ | exact ⟨_, rfl⟩ | (rename_i hy; simp only [List.mem_singleton] at hy; subst hy; rfl) | with_reducible rfl | skip
  all_goals exact ⟨⟨_, rfl⟩, rfl⟩
theorem wrap7uc (l : List Node) (n : Node) (b : Bool) (hl : 1 ≤ l.length) (hl2 : l.length ≤ 1000) : ACall Try.prog 17 [.sl true false (nodes l), .agg (n.cellsF b)] [] fun r s => r = .sl true false (nodes (l ++ [{ n with l := [(l.length : Int) - 1] }])) ∧ s = [] := by
  obtain ⟨xo, ⟨xa, xb, xc, xd⟩, xl, xlo, xhi, xn⟩ := n
  simp only [Node.cellsF]
  have e1 : (1 : Int) ≤ l.length := by omega
  refine ACall.frzRes (R := fun r s => ∃ g, r = .osl 10 g 0 (l.length + 1) ∧ s = [(10, (g, .row 9 (nodes (l ++ [⟨xo, ⟨xa, xb, xc, xd⟩, [(l.length : Int) - 1], xlo, xhi, xn⟩]))))]) ?_ ?_
  rotate_left
  · rintro r s ⟨h, rfl, rfl⟩
    exact .inl ⟨10, h, 9, _, by simp, rfl, rfl, rfl⟩
  refine ACall.enter Try.func17 rfl (by kernel_rfl) (Nat.le_of_ble_eq_true rfl) ?_; simp only [initTm, Nat.reduceAdd]
  repeat' (first
  | refine gSq ?_ | refine gSk ?_ | refine gBl ?_ | refine gIb ?_ | refine gEx rfl ?_
  | ((first
  | (refine AGood.at 2 ?_; (refine AGood.boxRef 3 3 rfl rfl rfl ?_; simp only [go_sem, simprocAttr]); (refine gDl 2 [8, 14] 3 [1, 3, 4, 0, 2, 5, 6] [] [3] [0, 1, 3, 4] rfl ?_; intro K hK))
  | (refine gRg [8, 14] [0, 1, 3, 4] ?_; intro K hK)
  | (refine gd_split ?_ ?_ <;> intro hb <;> (try simp only [bls] at hb) <;> (try simp only [hb]))
  | refine gRt [10] [.tmp 4] rfl ?_ | refine gDn [10] [.tmp 4] rfl ?_) <;> (try simp only [go_sem, simprocAttr, e1]))
  | (refine hK _ _ ?_; clear hK K; simp only [go_sem, simprocAttr])
  | refine gCd (by simp only [go_sem, simprocAttr]; rfl) rfl ?_
  | refine brT ?_ | refine brF ?_
  | (refine brS ?_ ?_ <;> intro hc <;> (try simp only [bls] at hc) <;> (try simp only [hc, bls]))
  | intro _ | refine And.intro ?_ ?_)
  all_goals first | omega | (unfold bigLen; omega) | exact ⟨_, _, ⟨rfl, rfl⟩, rfl⟩ | exact ⟨_, rfl⟩ | (rename_i hy; simp only [List.mem_singleton] at hy; subst hy; rfl) | with_reducible rfl | skip
  · rename_i y hy; obtain ⟨x, _, rfl⟩ := List.mem_map.1 hy; rfl
  · rename_i y hy; obtain ⟨x, _, rfl⟩ := List.mem_map.1 hy; rfl
  · exact ⟨_, rfl, by simp⟩
end Go.Rad
/- Contracts: the statements of layer 7: two trees under one node. -/
namespace Go.Rad
open Go Go.Proofs
set_option linter.all false
set_option maxRecDepth 20000
set_option maxHeartbeats 4000000

def upN (m : Nat) (n : Node) : Node := { n with l := n.l.map (· + (m : Int)) }
abbrev pairN (op : Int) (a b : Int) : Node := ⟨op, ISet.none, [a, b], 0, 0, ByteArray.empty⟩
def pairS (op : Int) (l m : List Node) : List Node := l ++ m.map (upN l.length) ++ [pairN op ((l.length : Int) - 1) ((l.length + m.length : Nat) - 1)]
theorem pair7uc (op : Int) (l m : List Node) (hl : 1 ≤ l.length) (hl2 : l.length ≤ 1000) (hm : 1 ≤ m.length) (hm2 : m.length ≤ 1000) (hk : ∀ n ∈ m, n.l.length ≤ 1000 ∧ ∀ k ∈ n.l, 0 ≤ k ∧ k ≤ 1000) :
    ACall Try.prog 15 [.int .u8 op, .sl true false (nodes l), .sl true false (nodes m)] [] fun r s => r = .sl true false (nodes (pairS op l m)) ∧ s = [] := by
  refine ACall.frzRes (R := fun r s => ∃ g, r = .osl 13 g 0 (l.length + m.length + 1) ∧ s = [(13, (g, .row 9 (nodes (pairS op l m))))]) ?_ ?_
  rotate_left
  · rintro r s ⟨h, rfl, rfl⟩
    exact .inl ⟨13, h, 9, _, by simp [pairS]; omega, rfl, rfl, rfl⟩
  obtain ⟨Q, hQ⟩ : ∃ Q : Nat → List Node, Q = fun i => l ++ (m.take i).map (upN l.length) := ⟨_, rfl⟩
  have hQ0 : Q 0 = l := by rw [hQ]; simp
  have hQ1 : ∀ (i : Nat) (n : Node), m[i]? = some n → Q (i + 1) = Q i ++ [upN l.length n] := by
    intro i n h
    rw [hQ]
    simp only [take_one h, List.map_append, List.append_assoc]
    rfl
  have hQl : ∀ i, i ≤ m.length → (Q i).length = l.length + i := fun i hi => by rw [hQ]; simp; omega
  have hpS : pairS op l m = Q m.length ++ [pairN op ((l.length : Int) - 1) ((l.length + m.length : Nat) - 1)] := by rw [hQ, pairS]; simp
  rw [hpS]
  clear hQ hpS
  have e1 : (1 : Int) ≤ l.length := by omega
  refine ACall.enter Try.func15 rfl (by kernel_rfl) (Nat.le_of_ble_eq_true rfl) ?_; simp only [initTm, Nat.reduceAdd]
  repeat' (first
  | refine gSq ?_ | refine gSk ?_ | refine gBl ?_ | refine gIb ?_ | refine gEx rfl ?_
  | ((first
  | (refine gRg [] [0, 1, 2, 6, 7, 9, 10, 12, 16, 17, 18, 19, 23, 24, 25, 26] ?_; intro K hK)
  | (refine gd_split ?_ ?_ <;> intro hb <;> (try simp only [bls] at hb) <;> (try simp only [hb]))
  | refine gRt [] [.tmp 6] rfl ?_ | refine gDn [] [.tmp 6] rfl ?_) <;> (try simp only [go_sem, simprocAttr, e1]))
  | (refine hK _ _ ?_; clear hK K; simp only [go_sem, simprocAttr])
  | refine gCd (by simp only [go_sem, simprocAttr]; rfl) rfl ?_
  | refine brT ?_ | refine brF ?_
  | (refine brS ?_ ?_ <;> intro hc <;> (try simp only [bls] at hc) <;> (try simp only [hc, bls]))
  | intro _ | refine And.intro ?_ ?_)
  all_goals first | omega | (unfold bigLen; omega) | exact ⟨_, _, ⟨rfl, rfl⟩, rfl⟩ | exact ⟨_, rfl⟩ | (rename_i hy; simp only [List.mem_singleton] at hy; subst hy; rfl) | with_reducible rfl | skip
  · rename_i y hy; obtain ⟨x, _, rfl⟩ := List.mem_map.1 hy; rfl
  · rename_i y hy; obtain ⟨x, _, rfl⟩ := List.mem_map.1 hy; rfl
  rename_i h13
  refine AGood.prune [0, 1, 6, 7, 16, 17, 18] ?_; simp only [go_sem, simprocAttr]
  refine AGood.loopInv (α := Nat × Nat) (fun z => ([(0, .int .u8 op), (1, .sl true false (nodes l)), (6, .sl true true []), (7, .osl 13 z.2 0 (Q z.1).length), (16, .sl true false (nodes m)), (17, .int .i64 m.length), (18, .int .i64 z.1)], [(13, (z.2, .row 9 (nodes (Q z.1))))])) (fun z => z.1 ≤ m.length) (fun z => m.length - z.1) (0, h13) (Nat.zero_le _) (by simp [hQ0]) ?_
  rintro ⟨i, g⟩ hi ih
  simp only at hi ih ⊢
  have hql := hQl i hi
  by_cases hle : i < m.length
  · have e4 : (i : Int) < m.length := by omega
    have e5 : (0 : Int) ≤ i := by omega
    have e6 : (i : Int) + 1 = ((i + 1 : Nat) : Int) := by omega
    have hx : m[i]? = some m[i] := List.getElem?_eq_getElem hle
    obtain ⟨k1, k2⟩ := hk m[i] (List.getElem_mem hle)
    have hq1 := hQ1 i _ hx
    generalize m[i] = n at hx k1 k2 hq1
    obtain ⟨xo, ⟨xa, xb, xc, xd⟩, xl, xlo, xhi, xn⟩ := n
    simp only [upN] at k1 k2 hq1
    repeat' (first
  | refine gSq ?_ | refine gSk ?_ | refine gBl ?_ | refine gIb ?_ | refine gEx rfl ?_
  | ((first
  | (refine gRg [] [0, 1, 2, 6, 7, 9, 10, 12, 16, 17, 18, 19, 23, 24, 25, 26] ?_; intro K hK)
  | (refine gd_split ?_ ?_ <;> intro hb <;> (try simp only [bls] at hb) <;> (try simp only [hb]))
  | refine gRt [] [.tmp 6] rfl ?_ | refine gDn [] [.tmp 6] rfl ?_) <;> (try simp only [go_sem, simprocAttr, e4, e5, hx, Option.some.injEq, forall_eq']))
  | (refine hK _ _ ?_; clear hK K; simp only [go_sem, simprocAttr])
  | refine gCd (by simp only [go_sem, simprocAttr]; rfl) rfl ?_
  | refine brT ?_ | refine brF ?_
  | (refine brS ?_ ?_ <;> intro hc <;> (try simp only [bls] at hc) <;> (try simp only [hc, bls]))
  | intro _ | refine And.intro ?_ ?_)
    all_goals first | omega | (unfold bigLen; omega) | exact ⟨_, _, ⟨rfl, rfl⟩, rfl⟩ | exact ⟨_, rfl⟩ | (rename_i hy; simp only [List.mem_singleton] at hy; subst hy; rfl) | with_reducible rfl | skip
    rename_i h9
    refine AGood.ownTm 10 900 1 (by decide) rfl fun g9 => ?_
    simp only [go_sem, simprocAttr]
    refine AGood.prune [0, 1, 6, 7, 9, 10, 16, 17, 18, 23, 24, 25] ?_; simp only [go_sem, simprocAttr]
    obtain ⟨C, hC⟩ : ∃ C : Nat → List Int, C = fun j => (xl.take j).map (· + (l.length : Int)) := ⟨_, rfl⟩
    have hC0 : C 0 = [] := by rw [hC]; rfl
    have hC1 : ∀ (j : Nat) (k : Int), xl[j]? = some k → C (j + 1) = C j ++ [k + (l.length : Int)] := by
      intro j k h
      rw [hC]
      simp only [take_one h, List.map_append, List.map_cons, List.map_nil]
    have hCl : ∀ j, j ≤ xl.length → (C j).length = j := fun j hj => by rw [hC]; simp; omega
    have hCE : xl.map (· + (l.length : Int)) = C xl.length := by rw [hC]; simp
    rw [hCE] at hq1
    clear hC hCE
    refine AGood.loopInv (α := Nat × Nat) (fun z => ([(0, .int .u8 op), (1, .sl true false (nodes l)), (6, .sl true true []), (7, .osl 13 g 0 (Q i).length), (9, .bx 9 h9 0), (10, .osl 900 z.2 0 (C z.1).length), (16, .sl true false (nodes m)), (17, .int .i64 m.length), (18, .int .i64 i), (23, .sl true false (ints xl)), (24, .int .i64 xl.length), (25, .int .i64 z.1)], [(9, h9, .box [.int .u8 xo, .int .u64 xa, .int .u64 xb, .int .u64 xc, .int .u64 xd, .sl true false (ints xl), .int .i64 xlo, .int .i64 xhi, .str xn]), (13, (g, .row 9 (nodes (Q i)))), (900, (z.2, .row 1 (ints (C z.1))))])) (fun z => z.1 ≤ xl.length) (fun z => xl.length - z.1) (0, g9) (Nat.zero_le _) (by simp only [hC0]; rfl) ?_
    rintro ⟨j, g9⟩ hj ih2
    simp only at hj ih2 ⊢
    have hcl := hCl j hj
    by_cases hlj : j < xl.length
    · have f4 : (j : Int) < xl.length := by omega
      have f5 : (0 : Int) ≤ j := by omega
      have f6 : (j : Int) + 1 = ((j + 1 : Nat) : Int) := by omega
      have hy : xl[j]? = some xl[j] := List.getElem?_eq_getElem hlj
      have hk2 := k2 xl[j] (List.getElem_mem hlj)
      have hc1 := hC1 j _ hy
      generalize xl[j] = kd at hy hk2 hc1
      repeat' (first
  | refine gSq ?_ | refine gSk ?_ | refine gBl ?_ | refine gIb ?_ | refine gEx rfl ?_
  | ((first
  | (refine gRg [34] [0, 1, 2, 6, 7, 9, 10, 12, 16, 17, 18, 19, 23, 24, 25, 26] ?_; intro K hK)
  | (refine gd_split ?_ ?_ <;> intro hb <;> (try simp only [bls] at hb) <;> (try simp only [hb]))
  | refine gRt [] [.tmp 6] rfl ?_ | refine gDn [] [.tmp 6] rfl ?_) <;> (try simp only [go_sem, simprocAttr, f4, f5, f6, hy, Option.some.injEq, forall_eq']))
  | (refine hK _ _ ?_; clear hK K; simp only [go_sem, simprocAttr])
  | refine gCd (by simp only [go_sem, simprocAttr]; rfl) rfl ?_
  | refine brT ?_ | refine brF ?_
  | (refine brS ?_ ?_ <;> intro hc <;> (try simp only [bls] at hc) <;> (try simp only [hc, bls]))
  | intro _ | refine And.intro ?_ ?_)
      all_goals first | omega | (unfold bigLen; omega) | exact ⟨_, _, ⟨rfl, rfl⟩, rfl⟩ | exact ⟨_, rfl⟩ | (rename_i hy; simp only [List.mem_singleton] at hy; subst hy; rfl) | with_reducible rfl | skip
      rename_i h'
      refine AGood.filt [9, 13, 900] ?_
      simp only [sf_cons, sf_nil, go_sem, simprocAttr]
      refine AGood.prune [0, 1, 6, 7, 9, 10, 16, 17, 18, 23, 24, 25] ?_; simp only [go_sem, simprocAttr]
      exact AGood.cast (ih2 (j + 1, h') (by simp only; omega) (by simp only; omega)) (by simp only [hc1]; simp) (by simp only [hc1]; simp)
    · have f4 : ¬ (j : Int) < xl.length := by omega
      have hin : j = xl.length := by omega
      rw [hin]
      rw [hin] at f4 ih2 hcl
      clear ih2
      have g15 : (ints (C xl.length)).take (C xl.length).length = ints (C xl.length) := List.take_of_length_le (by simp)
      repeat' (first
  | refine gSq ?_ | refine gSk ?_ | refine gBl ?_ | refine gIb ?_ | refine gEx rfl ?_
  | ((first
  | (refine AGood.at 11 ?_; (refine AGood.freeze 900 rfl ?_; simp only [rfT, rfS, rfO, rf, rf1, g15, List.length_map, Nat.le_refl, true_and, go_sem, simprocAttr]); (refine gRg [41] [0, 1, 2, 6, 7, 9, 10, 12, 16, 17, 18, 19, 23, 24, 25, 26] ?_; intro K hK))
  | (refine gRg [41] [0, 1, 2, 6, 7, 9, 10, 12, 16, 17, 18, 19, 23, 24, 25, 26] ?_; intro K hK)
  | (refine gd_split ?_ ?_ <;> intro hb <;> (try simp only [bls] at hb) <;> (try simp only [hb]))
  | refine gRt [] [.tmp 6] rfl ?_ | refine gDn [] [.tmp 6] rfl ?_) <;> (try simp only [go_sem, simprocAttr, f4, e6]))
  | (refine hK _ _ ?_; clear hK K; simp only [go_sem, simprocAttr])
  | refine gCd (by simp only [go_sem, simprocAttr]; rfl) rfl ?_
  | refine brT ?_ | refine brF ?_
  | (refine brS ?_ ?_ <;> intro hc <;> (try simp only [bls] at hc) <;> (try simp only [hc, bls]))
  | intro _ | refine And.intro ?_ ?_)
      all_goals first | omega | (unfold bigLen; omega) | exact ⟨_, _, ⟨rfl, rfl⟩, rfl⟩ | exact ⟨_, rfl⟩ | (rename_i hy; simp only [List.mem_singleton] at hy; subst hy; rfl) | with_reducible rfl | skip
      rename_i h'
      refine AGood.filt [13] ?_
      simp only [sf_cons, sf_nil, go_sem, simprocAttr]
      refine AGood.prune [0, 1, 6, 7, 16, 17, 18] ?_; simp only [go_sem, simprocAttr]
      exact AGood.cast (ih (i + 1, h') (by simp only; omega) (by simp only; omega)) (by simp only [hq1]; simp) (by simp only [hq1]; simp)
  · have e4 : ¬ (i : Int) < m.length := by omega
    have hin : i = m.length := by omega
    rw [hin]
    rw [hin] at e4 ih hql
    clear ih
    repeat' (first
  | refine gSq ?_ | refine gSk ?_ | refine gBl ?_ | refine gIb ?_ | refine gEx rfl ?_
  | ((first
  | (refine gRg [52, 54] [0, 1, 2, 6, 7, 9, 10, 12, 16, 17, 18, 19, 23, 24, 25, 26] ?_; intro K hK)
  | (refine gd_split ?_ ?_ <;> intro hb <;> (try simp only [bls] at hb) <;> (try simp only [hb]))
  | refine gRt [13] [.tmp 6] rfl ?_ | refine gDn [13] [.tmp 6] rfl ?_) <;> (try simp only [go_sem, simprocAttr, e4, e1]))
  | (refine hK _ _ ?_; clear hK K; simp only [go_sem, simprocAttr])
  | refine gCd (by simp only [go_sem, simprocAttr]; rfl) rfl ?_
  | refine brT ?_ | refine brF ?_
  | (refine brS ?_ ?_ <;> intro hc <;> (try simp only [bls] at hc) <;> (try simp only [hc, bls]))
  | intro _ | refine And.intro ?_ ?_)
    all_goals first | omega | (unfold bigLen; omega) | exact ⟨_, _, ⟨rfl, rfl⟩, rfl⟩ | exact ⟨_, rfl⟩ | (rename_i hy; simp only [List.mem_singleton] at hy; subst hy; rfl) | with_reducible rfl | skip
    refine ⟨_, by rw [hql], ?_⟩
    rw [hql]
    simp only [nodes, List.map_append]
    rfl
end Go.Rad
/- Two trees under one node, and one under a node: as forests; the ends of them. -/
namespace Go.Rad
open Go Fo
theorem roots_up (m : Nat) : ∀ (f : Fo) (i : Nat), f.roots (i + m) = (f.roots i).map (· + (m : Int))
  | .nil, _ => rfl
  | .node b k r, i => by
    simp only [roots, List.map_cons]
    rw [show i + m + k.size + 1 = (i + k.size + 1) + m by omega, roots_up m r]
    congr 1
    omega
theorem lay_up (m : Nat) : ∀ (f : Fo) (i : Nat), f.lay (i + m) = (f.lay i).map (upN m)
  | .nil, _ => rfl
  | .node b k r, i => by
    simp only [lay, List.map_append, List.map_cons]
    rw [show i + m + k.size + 1 = (i + k.size + 1) + m by omega, lay_up m r, lay_up m k, roots_up m k]
    rfl
abbrev opB (op : Int) : Lb := ⟨op, ISet.none, 0, 0, ByteArray.empty⟩
abbrev repB' (lo hi : Int) : Lb := ⟨5, ISet.none, lo, hi, ByteArray.empty⟩
def pairF (op : Int) (f g : Fo) : Fo := .node (opB op) (f.app g) .nil
def wrapF (lo hi : Int) (f : Fo) : Fo := .node (repB' lo hi) f .nil
theorem pair_lay (op : Int) {f g : Fo} (hf : f.deg = 1) (hg : g.deg = 1) : (pairF op f g).lay 0 = pairS op (f.lay 0) (g.lay 0) := by
  have h1 := roots_one hf 0
  have h2 := roots_one hg f.size
  have h3 := lay_up f.size g 0
  rw [Nat.zero_add] at h3
  simp only [pairF, lay, lay_app, roots_app, h1, h2, Nat.zero_add, h3, pairS, lay_len, List.append_assoc]
  rfl
theorem wrap_lay (lo hi : Int) {f : Fo} (hf : f.deg = 1) : (wrapF lo hi f).lay 0 = f.lay 0 ++ [⟨5, ISet.none, [((f.lay 0).length : Int) - 1], lo, hi, ByteArray.empty⟩] := by
  have h1 := roots_one hf 0
  simp only [wrapF, lay, h1, Nat.zero_add, lay_len]
section
variable {f g : Fo} (hf : f.deg = 1) (hg : g.deg = 1)
include hf hg
theorem pair_ok {op : Int} (ho : op = 3 ∨ op = 4) (sf : f.shapeF = true) (sg : g.shapeF = true) (nf : no6 f = true) (ng : no6 g = true) : (pairF op f g).deg = 1 ∧ (pairF op f g).shapeF = true ∧ no6 (pairF op f g) = true ∧ (pairF op f g).size = f.size + g.size + 1 := by
  refine ⟨rfl, ?_, ?_, ?_⟩
  · have hd : (f.app g).deg = 2 := by rw [deg_app, hf, hg]
    have hs : shapeL (opB op) 2 = true := by rcases ho with rfl | rfl <;> decide +kernel
    simp only [pairF, shapeF, all, all_app, hd, hs, Bool.and_true, Bool.true_and]
    simp only [shapeF] at sf sg
    rw [sf, sg]; rfl
  · simp only [pairF, all, all_app, nf, ng, Bool.and_true]
    rcases ho with rfl | rfl <;> rfl
  · simp only [pairF, size, size_app]
theorem pair_lan3 (u : List Nat) : lanT (pairF 3 f g) u ↔ catW (lanT f) (lanT g) u := by
  match f, g, hf, hg with
  | .node b k .nil, .node b' k' .nil, _, _ =>
    show catW _ (catW _ epsW) u ↔ _
    constructor
    · rintro ⟨a, _, rfl, h1, c, d, rfl, h2, h3⟩
      have : d = [] := h3
      subst this
      exact ⟨a, c, by simp, h1, h2⟩
    · rintro ⟨a, c, rfl, h1, h2⟩
      exact ⟨a, c, rfl, h1, c, [], by simp, h2, rfl⟩
theorem pair_lan4 (u : List Nat) : lanT (pairF 4 f g) u ↔ lanT f u ∨ lanT g u := by
  match f, g, hf, hg with
  | .node b k .nil, .node b' k' .nil, _, _ =>
    show (∃ A ∈ [lanT (.node b k .nil), lanT (.node b' k' .nil)], A u) ↔ _
    simp
end
theorem wrap_ok {f : Fo} {lo hi : Int} (hf : f.deg = 1) (h1 : 0 ≤ lo ∧ lo ≤ 4096) (h2 : hi = -1 ∨ 1 ≤ hi ∧ hi ≤ 4096 ∧ lo ≤ hi) (sf : f.shapeF = true) (nf : no6 f = true) : (wrapF lo hi f).deg = 1 ∧ (wrapF lo hi f).shapeF = true ∧ no6 (wrapF lo hi f) = true ∧ (wrapF lo hi f).size = f.size + 1 := by
  refine ⟨rfl, ?_, ?_, rfl⟩
  · have hs : shapeL (repB' lo hi) 1 = true := by simp [shapeL, shapeOk, h1.1, h1.2, h2]
    simp only [shapeF] at sf
    simp only [wrapF, shapeF, all, hf, hs, sf]; rfl
  · simp only [wrapF, all, nf]; rfl
theorem wrap_lan {f : Fo} {lo hi : Int} (hf : f.deg = 1) (u : List Nat) : lanT (wrapF lo hi f) u ↔ repW lo hi (lanT f) u := by
  match f, hf with
  | .node b k .nil, _ => exact Iff.rfl
/-- Places that are set. -/
def setAll (s : List Bool) (E : List Int) : List Bool := E.foldl (fun s x => s.set x.toNat true) s
theorem set_len : ∀ (E : List Int) (s : List Bool), (setAll s E).length = s.length
  | [], _ => rfl
  | x :: E, s => by rw [setAll, List.foldl_cons]; exact (set_len E _).trans (by simp)
theorem set_get (i : Nat) : ∀ (E : List Int) (s : List Bool), (∀ x ∈ E, 0 ≤ x ∧ x < s.length) → ((setAll s E).getD i false = true ↔ s.getD i false = true ∨ (i : Int) ∈ E)
  | [], s, _ => by simp [setAll]
  | x :: E, s, h => by
    obtain ⟨h1, h2⟩ := h x (by simp)
    have ih := set_get i E (s.set x.toNat true) fun y hy => by simpa using h y (by simp [hy])
    rw [show setAll s (x :: E) = setAll (s.set x.toNat true) E from rfl, ih]
    have hs : (s.set x.toNat true).getD i false = true ↔ s.getD i false = true ∨ (i : Int) = x := by
      simp only [List.getD_eq_getElem?_getD, List.getElem?_set]
      by_cases e : x.toNat = i
      · rw [if_pos e, if_pos (by omega)]; simp; exact .inr (by omega)
      · rw [if_neg e]
        constructor
        · exact .inl
        · rintro (h | h)
          · exact h
          · omega
    rw [hs, List.mem_cons, or_assoc]
theorem words_pair {op : Int} {l m : List Node} (hl : ∀ n ∈ l, ∀ k, 0 ≤ n.s.word k) (hm : ∀ n ∈ m, ∀ k, 0 ≤ n.s.word k) : ∀ n ∈ pairS op l m, ∀ k, 0 ≤ n.s.word k := by
  intro n hn k
  simp only [pairS, List.mem_append, List.mem_map, List.mem_singleton] at hn
  rcases hn with (hn | ⟨n', hn, rfl⟩) | rfl
  · exact hl n hn k
  · exact hm n' hn k
  · unfold ISet.word; split <;> exact Int.le_refl _
theorem words_wrap {l : List Node} {n0 : Node} (hl : ∀ n ∈ l, ∀ k, 0 ≤ n.s.word k) (h0 : n0.s = ISet.none) : ∀ n ∈ l ++ [n0], ∀ k, 0 ≤ n.s.word k := by
  intro n hn k
  simp only [List.mem_append, List.mem_singleton] at hn
  rcases hn with hn | rfl
  · exact hl n hn k
  · rw [h0]; unfold ISet.word; split <;> exact Int.le_refl _
/-- A tree of the statements: what is known of it. -/
structure Tree7 (f : Fo) (l : List Node) : Prop where
  deg : f.deg = 1
  lay : l = f.lay 0
  shape : f.shapeF = true
  six : no6 f = true
  words : ∀ n ∈ l, ∀ k, 0 ≤ n.s.word k
  size : l.length ≤ 30
theorem Tree7.of {l : List Node} (hl : ∀ n ∈ l, nodeFit n) (h : l.length ≤ 30) (hp : plainS l = true) : ∃ f, Tree7 f l := by
  obtain ⟨fo, hd, rfl, hs, hz, h6⟩ := (plain_fo l).1 hp
  exact ⟨fo, hd, rfl, hs, h6, fit_words hl, h⟩
theorem Tree7.pos {f : Fo} {l : List Node} (t : Tree7 f l) : 1 ≤ l.length := by rw [t.lay, lay_len]; exact size_pos t.deg
theorem roots_in : ∀ (f : Fo) (i : Nat), ∀ k ∈ f.roots i, (i : Int) ≤ k ∧ k < i + f.size
  | .nil, _, k, h => by simp [roots] at h
  | .node b c r, i, k, h => by
    simp only [roots, List.mem_cons] at h
    simp only [size]
    rcases h with rfl | h
    · omega
    · have := roots_in r _ k h; omega
theorem lay_kids : ∀ (f : Fo) (i : Nat), ∀ n ∈ f.lay i, n.l.length ≤ f.size ∧ ∀ k ∈ n.l, (i : Int) ≤ k ∧ k < i + f.size
  | .nil, _, n, h => by simp [lay] at h
  | .node b c r, i, n, h => by
    simp only [lay, List.mem_append, List.mem_cons] at h
    simp only [size]
    rcases h with h | rfl | h
    · obtain ⟨h1, h2⟩ := lay_kids c i n h
      refine ⟨by omega, fun k hk => ?_⟩
      have := h2 k hk; omega
    · refine ⟨?_, fun k hk => ?_⟩
      · show (c.roots i).length ≤ _
        rw [roots_len]; have := deg_le c; omega
      · have := roots_in c i k hk; omega
    · obtain ⟨h1, h2⟩ := lay_kids r _ n h
      refine ⟨by omega, fun k hk => ?_⟩
      have := h2 k hk; omega
theorem Tree7.kids {f : Fo} {l : List Node} (t : Tree7 f l) : ∀ n ∈ l, n.l.length ≤ 1000 ∧ ∀ k ∈ n.l, 0 ≤ k ∧ k ≤ 1000 := by
  have hz : f.size ≤ 30 := by rw [← lay_len f 0, ← t.lay]; exact t.size
  intro n hn
  rw [t.lay] at hn
  obtain ⟨h1, h2⟩ := lay_kids f 0 n hn
  refine ⟨by omega, fun k hk => ?_⟩
  have := h2 k hk; omega
end Go.Rad
/- Whether a text is one of a tree: by sets of texts; the program's Is. -/
namespace Go.Rad
open Go Go.Proofs
set_option linter.all false
set_option maxRecDepth 20000
set_option maxHeartbeats 4000000

def bytesW (w : ByteArray) : List Nat := w.data.toList.map UInt8.toNat
theorem subW_all (w : ByteArray) : subW w 0 w.size = bytesW w := by
  rw [subW, List.drop_zero, Nat.sub_zero, List.take_of_length_le (by rw [bytes_len]; exact Nat.le_refl _)]
  rfl
theorem bytesW_cut {w : ByteArray} {i k : Nat} : bytesW (w.extract i k) = subW w i k := by
  unfold bytesW subW
  rw [ByteArray.data_extract, Array.toList_extract, List.extract_eq_take_drop, List.map_take, List.map_drop]
def isT (w : ByteArray) (f : Fo) : Bool := (endT w f 0).contains (w.size : Int)
theorem isT_iff {w : ByteArray} {f : Fo} (hd : f.deg = 1) (hs : f.shapeF = true) : isT w f = true ↔ lanT f (bytesW w) := by
  rw [isT, List.contains_iff_mem, endT_mem hd hs]
  constructor
  · rintro ⟨k, e, _, _, h⟩
    have : k = w.size := by omega
    subst this
    rwa [subW_all] at h
  · intro h
    exact ⟨w.size, rfl, Nat.zero_le _, Nat.le_refl _, by rwa [subW_all]⟩
theorem isTree_c {f : Fo} {w : ByteArray} (hd : f.deg = 1) (hs : f.shapeF = true) (hz : f.size ≤ 1024) (h6 : no6 f = true) (hss : ∀ n ∈ f.lay 0, ∀ k, 0 ≤ n.s.word k) (hw : w.size ≤ 900000) :
    ACall Try.prog 23 [.sl true false (nodes (f.lay 0)), .str w] [] fun r s => r = .bool (isT w f) ∧ s = [] := by
  have hE := endsTop_c hw false f hd hs hz h6 hss 0 (Nat.zero_le _)
  exact isL_c hE (by have := endT_len (w := w) hd 0; omega) (endT_rise w f 0)
section
variable {f g : Fo} (hf : f.deg = 1) (hg : g.deg = 1) (sf : f.shapeF = true) (sg : g.shapeF = true)
include hf sf
theorem join_alt (hg : g.deg = 1) (sg : g.shapeF = true) (hp : (pairF 4 f g).shapeF = true) (w : ByteArray) : isT w (pairF 4 f g) = (isT w f || isT w g) := by
  rw [Bool.eq_iff_iff, Bool.or_eq_true, isT_iff rfl hp, isT_iff hf sf, isT_iff hg sg, pair_lan4 hf hg]
theorem join_cat (hg : g.deg = 1) (sg : g.shapeF = true) (hp : (pairF 3 f g).shapeF = true) {w : ByteArray} {k : Nat} (hk : k ≤ w.size) (h1 : isT (w.extract 0 k) f = true) (h2 : isT (w.extract k w.size) g = true) : isT w (pairF 3 f g) = true := by
  rw [isT_iff hf sf, bytesW_cut] at h1
  rw [isT_iff hg sg, bytesW_cut] at h2
  rw [isT_iff rfl hp, pair_lan3 hf hg, ← subW_all, subW_app (Nat.zero_le k) hk]
  exact ⟨_, _, rfl, h1, h2⟩
theorem join_two (hp : (wrapF 2 2 f).shapeF = true) {w : ByteArray} {k : Nat} (hk : k ≤ w.size) (h1 : isT (w.extract 0 k) f = true) (h2 : isT (w.extract k w.size) f = true) : isT w (wrapF 2 2 f) = true := by
  rw [isT_iff hf sf, bytesW_cut] at h1
  rw [isT_iff hf sf, bytesW_cut] at h2
  rw [isT_iff rfl hp, wrap_lan hf, ← subW_all, subW_app (Nat.zero_le k) hk]
  exact ⟨2, by decide, .inr (by decide), _, _, rfl, h1, _, [], by simp, h2, rfl⟩
omit sf in
theorem join_nil (hp : (wrapF 0 (-1) f).shapeF = true) : isT ByteArray.empty (wrapF 0 (-1) f) = true := by
  rw [isT_iff rfl hp, wrap_lan hf]
  exact ⟨0, Nat.zero_le _, .inl rfl, rfl⟩
end
end Go.Rad
/- Both cases of letters: the document's fold of sets and of trees. -/
namespace Go.Rad
open Go Go.Proofs
set_option linter.all false
set_option maxRecDepth 20000
set_option maxHeartbeats 4000000

theorem word_lt {s : NSet} (h : s.ok) (i : Nat) : s.word i < 18446744073709551616 := by
  obtain ⟨a, b, c, d⟩ := h
  unfold NSet.word
  split <;> assumption
theorem nzero_ok : nzero.ok := ⟨by decide, by decide, by decide, by decide⟩
def NSet.has (s : NSet) (b : Nat) : Bool := (s.word (b / 64)).testBit (b % 64)
theorem lt_bit {n j : Nat} (h : n < 18446744073709551616) (hj : n.testBit j = true) : j < 64 := by
  rcases Nat.lt_or_ge j 64 with h1 | h1
  · exact h1
  · have h64 : (18446744073709551616 : Nat) = 2 ^ 64 := by decide
    rw [Nat.testBit_lt_two_pow (Nat.lt_of_lt_of_le (h64 ▸ h) (Nat.pow_le_pow_right (by decide) h1))] at hj
    cases hj
theorem word_add (s : NSet) {n i : Nat} (hn : n < 256) (hi : i < 4) : (s.add n).word i = if i = n / 64 then s.word i ||| 2 ^ (n % 64) else s.word i := by
  have h4 : n / 64 = 0 ∨ n / 64 = 1 ∨ n / 64 = 2 ∨ n / 64 = 3 := by omega
  have i4 : i = 0 ∨ i = 1 ∨ i = 2 ∨ i = 3 := by omega
  unfold NSet.add
  rcases h4 with h | h | h | h <;> rcases i4 with rfl | rfl | rfl | rfl <;> simp [h, NSet.word]
theorem has_add (s : NSet) {n b : Nat} (hn : n < 256) (hb : b < 256) : (s.add n).has b = (s.has b || decide (n = b)) := by
  unfold NSet.has
  rw [word_add s hn (by omega)]
  by_cases h : b / 64 = n / 64
  · rw [if_pos h, Nat.testBit_or, Nat.testBit_two_pow]
    congr 1
    have : n % 64 = b % 64 ↔ n = b := by omega
    simp [this]
  · rw [if_neg h]
    have : ¬ n = b := by rintro rfl; exact h rfl
    simp [this]
theorem has_ext {s t : NSet} (hs : s.ok) (ht : t.ok) (h : ∀ b < 256, s.has b = t.has b) : s = t := by
  have hw : ∀ i < 4, s.word i = t.word i := by
    intro i hi
    refine Nat.eq_of_testBit_eq fun j => ?_
    by_cases hj : j < 64
    · have := h (64 * i + j) (by omega)
      unfold NSet.has at this
      have e1 : (64 * i + j) / 64 = i := by omega
      have e2 : (64 * i + j) % 64 = j := by omega
      rwa [e1, e2] at this
    · cases h1 : (s.word i).testBit j with
      | true => exact absurd (lt_bit (word_lt hs i) h1) hj
      | false =>
        cases h2 : (t.word i).testBit j with
        | true => exact absurd (lt_bit (word_lt ht i) h2) hj
        | false => rfl
  obtain ⟨s0, s1, s2, s3⟩ := s
  obtain ⟨t0, t1, t2, t3⟩ := t
  have h0 := hw 0 (by decide)
  have h1 := hw 1 (by decide)
  have h2 := hw 2 (by decide)
  have h3 := hw 3 (by decide)
  simp only [NSet.word] at h0 h1 h2 h3
  rw [h0, h1, h2, h3]
def step1 (s out : ISet) (b : Nat) : ISet := if hasI s b || hasI s (b - 32) then withI (withI out b) (b - 32) else out
def fold1 (s : ISet) : ISet := (List.range 26).foldl (fun out i => step1 s out (97 + i)) s
theorem fold1uc (s0 s1 s2 s3 : Int) : ACall Try.prog 37 [.agg [.int .u64 s0, .int .u64 s1, .int .u64 s2, .int .u64 s3]] [] fun r s' => r = .agg (fold1 ⟨s0, s1, s2, s3⟩).cells ∧ s' = [] := by
  refine ACall.enter Try.func37 rfl (by kernel_rfl) (Nat.le_of_ble_eq_true rfl) ?_; simp only [initTm, Nat.reduceAdd]
  repeat' (first
  | refine gSq ?_ | refine gSk ?_ | refine gBl ?_ | refine gIb ?_ | refine gEx rfl ?_
  | ((first
  | (refine gRg [] [0, 1, 2, 3, 4, 7, 18] ?_; intro K hK)
  | (refine gd_split ?_ ?_ <;> intro hb <;> (try simp only [bls] at hb) <;> (try simp only [hb]))
  | refine gRt [] [.cell 2 36] rfl ?_ | refine gDn [] [.cell 2 36] rfl ?_) <;> (try simp only [go_sem, simprocAttr]))
  | (refine hK _ _ ?_; clear hK K; simp only [go_sem, simprocAttr])
  | refine gCd (by simp only [go_sem, simprocAttr]; rfl) rfl ?_
  | refine brT ?_ | refine brF ?_
  | (refine brS ?_ ?_ <;> intro hc <;> (try simp only [bls] at hc) <;> (try simp only [hc, bls]))
  | intro _ | refine And.intro ?_ ?_)
  rename_i g1 g2 g3
  refine AGood.prune [1, 2, 3, 4] ?_; simp only [go_sem, simprocAttr]
  refine AGood.loopInv (α := Nat) (fun i => ([(1, .bx 1 g1 0), (2, .bx 2 g2 0), (3, .bx 3 g3 0), (4, .int .u8 (97 + i : Nat))], [(1, g1, .box [.int .u64 s0, .int .u64 s1, .int .u64 s2, .int .u64 s3]), (2, g2, .box ISet.none.cells), (3, g3, .box ((List.range i).foldl (fun out i => step1 ⟨s0, s1, s2, s3⟩ out (97 + i)) ⟨s0, s1, s2, s3⟩).cells)])) (fun i => i ≤ 26) (fun i => 26 - i) 0 (Nat.zero_le _) rfl ?_
  intro i hi ih
  simp only
  by_cases hle : i < 26
  · have ht : (List.range (i + 1)).foldl (fun out i => step1 ⟨s0, s1, s2, s3⟩ out (97 + i)) ⟨s0, s1, s2, s3⟩ = step1 ⟨s0, s1, s2, s3⟩ ((List.range i).foldl (fun out i => step1 ⟨s0, s1, s2, s3⟩ out (97 + i)) ⟨s0, s1, s2, s3⟩) (97 + i) := by
      rw [List.range_succ, List.foldl_append]; rfl
    have ih := ih (i + 1) (by omega) (by omega)
    rw [ht] at ih
    generalize (List.range i).foldl (fun out i => step1 ⟨s0, s1, s2, s3⟩ out (97 + i)) ⟨s0, s1, s2, s3⟩ = o at ih ⊢
    have e1 : IntKind.u8.wrap (((97 + i : Nat) : Int) - 32) = ((97 + i - 32 : Nat) : Int) := by
      rw [show (((97 + i : Nat) : Int) - 32) = ((97 + i - 32 : Nat) : Int) by omega]
      exact wr_u8n (by omega)
    have e2 : IntKind.u8.wrap (((97 + i : Nat) : Int) + 1) = ((97 + (i + 1) : Nat) : Int) := by
      rw [show (((97 + i : Nat) : Int) + 1) = ((97 + (i + 1) : Nat) : Int) by omega]
      exact wr_u8n (by omega)
    have e4 : ((97 + i : Nat) : Int) ≤ 122 := by omega
    have hb : 97 + i ≤ 255 := by omega
    have hb2 : 97 + i - 32 ≤ 255 := by omega
    generalize hbb : 97 + i = b at *
    have hh1 := has_c s0 s1 s2 s3 b hb
    have hh2 := has_c s0 s1 s2 s3 (b - 32) hb2
    have hw1 := with_c o.a o.b o.c o.d b hb
    have hw2 := with_c (withI o b).a (withI o b).b (withI o b).c (withI o b).d (b - 32) hb2
    unfold step1 at ih
    cases h1 : hasI ⟨s0, s1, s2, s3⟩ b <;> cases h2 : hasI ⟨s0, s1, s2, s3⟩ (b - 32) <;> rw [h1] at hh1 ih <;> rw [h2] at hh2 ih <;> simp only [Bool.or_self, Bool.or_true, Bool.or_false, Bool.true_or, Bool.false_eq_true, if_true, if_false] at ih
    · repeat' (first
  | refine gSq ?_ | refine gSk ?_ | refine gBl ?_ | refine gIb ?_ | refine gEx rfl ?_
  | ((first
  | (refine gRg [] [0, 1, 2, 3, 4, 7, 18] ?_; intro K hK)
  | refine cAl (hh1) rfl rfl rfl ?_
  | refine cAl (hh2) rfl rfl rfl ?_
  | refine cAl (hw1) rfl rfl rfl ?_
  | refine cAl (hw2) rfl rfl rfl ?_
  | (refine gd_split ?_ ?_ <;> intro hb <;> (try simp only [bls] at hb) <;> (try simp only [hb]))
  | refine gRt [] [.cell 2 36] rfl ?_ | refine gDn [] [.cell 2 36] rfl ?_) <;> (try simp only [go_sem, simprocAttr, e1, e2, e4]))
  | (refine hK _ _ ?_; clear hK K; simp only [go_sem, simprocAttr])
  | refine gCd (by simp only [go_sem, simprocAttr]; rfl) rfl ?_
  | refine brT ?_ | refine brF ?_
  | (refine brS ?_ ?_ <;> intro hc <;> (try simp only [bls] at hc) <;> (try simp only [hc, bls]))
  | intro _ | refine And.intro ?_ ?_)
      all_goals first | omega | (unfold bigLen; omega) | exact ⟨_, _, ⟨rfl, rfl⟩, rfl⟩ | exact ⟨_, rfl⟩ | (rename_i hy; simp only [List.mem_singleton] at hy; subst hy; rfl) | with_reducible rfl | skip
      refine AGood.prune [1, 2, 3, 4] ?_; simp only [go_sem, simprocAttr]
      exact ih.cast rfl rfl
    · repeat' (first
  | refine gSq ?_ | refine gSk ?_ | refine gBl ?_ | refine gIb ?_ | refine gEx rfl ?_
  | ((first
  | (refine gRg [] [0, 1, 2, 3, 4, 7, 18] ?_; intro K hK)
  | refine cAl (hh1) rfl rfl rfl ?_
  | refine cAl (hh2) rfl rfl rfl ?_
  | refine cAl (hw1) rfl rfl rfl ?_
  | refine cAl (hw2) rfl rfl rfl ?_
  | (refine gd_split ?_ ?_ <;> intro hb <;> (try simp only [bls] at hb) <;> (try simp only [hb]))
  | refine gRt [] [.cell 2 36] rfl ?_ | refine gDn [] [.cell 2 36] rfl ?_) <;> (try simp only [go_sem, simprocAttr, e1, e2, e4]))
  | (refine hK _ _ ?_; clear hK K; simp only [go_sem, simprocAttr])
  | refine gCd (by simp only [go_sem, simprocAttr]; rfl) rfl ?_
  | refine brT ?_ | refine brF ?_
  | (refine brS ?_ ?_ <;> intro hc <;> (try simp only [bls] at hc) <;> (try simp only [hc, bls]))
  | intro _ | refine And.intro ?_ ?_)
      all_goals first | omega | (unfold bigLen; omega) | exact ⟨_, _, ⟨rfl, rfl⟩, rfl⟩ | exact ⟨_, rfl⟩ | (rename_i hy; simp only [List.mem_singleton] at hy; subst hy; rfl) | with_reducible rfl | skip
      refine AGood.prune [1, 2, 3, 4] ?_; simp only [go_sem, simprocAttr]
      exact ih.cast rfl rfl
    · repeat' (first
  | refine gSq ?_ | refine gSk ?_ | refine gBl ?_ | refine gIb ?_ | refine gEx rfl ?_
  | ((first
  | (refine gRg [] [0, 1, 2, 3, 4, 7, 18] ?_; intro K hK)
  | refine cAl (hh1) rfl rfl rfl ?_
  | refine cAl (hh2) rfl rfl rfl ?_
  | refine cAl (hw1) rfl rfl rfl ?_
  | refine cAl (hw2) rfl rfl rfl ?_
  | (refine gd_split ?_ ?_ <;> intro hb <;> (try simp only [bls] at hb) <;> (try simp only [hb]))
  | refine gRt [] [.cell 2 36] rfl ?_ | refine gDn [] [.cell 2 36] rfl ?_) <;> (try simp only [go_sem, simprocAttr, e1, e2, e4]))
  | (refine hK _ _ ?_; clear hK K; simp only [go_sem, simprocAttr])
  | refine gCd (by simp only [go_sem, simprocAttr]; rfl) rfl ?_
  | refine brT ?_ | refine brF ?_
  | (refine brS ?_ ?_ <;> intro hc <;> (try simp only [bls] at hc) <;> (try simp only [hc, bls]))
  | intro _ | refine And.intro ?_ ?_)
      all_goals first | omega | (unfold bigLen; omega) | exact ⟨_, _, ⟨rfl, rfl⟩, rfl⟩ | exact ⟨_, rfl⟩ | (rename_i hy; simp only [List.mem_singleton] at hy; subst hy; rfl) | with_reducible rfl | skip
      refine AGood.prune [1, 2, 3, 4] ?_; simp only [go_sem, simprocAttr]
      exact ih.cast rfl rfl
    · repeat' (first
  | refine gSq ?_ | refine gSk ?_ | refine gBl ?_ | refine gIb ?_ | refine gEx rfl ?_
  | ((first
  | (refine gRg [] [0, 1, 2, 3, 4, 7, 18] ?_; intro K hK)
  | refine cAl (hh1) rfl rfl rfl ?_
  | refine cAl (hh2) rfl rfl rfl ?_
  | refine cAl (hw1) rfl rfl rfl ?_
  | refine cAl (hw2) rfl rfl rfl ?_
  | (refine gd_split ?_ ?_ <;> intro hb <;> (try simp only [bls] at hb) <;> (try simp only [hb]))
  | refine gRt [] [.cell 2 36] rfl ?_ | refine gDn [] [.cell 2 36] rfl ?_) <;> (try simp only [go_sem, simprocAttr, e1, e2, e4]))
  | (refine hK _ _ ?_; clear hK K; simp only [go_sem, simprocAttr])
  | refine gCd (by simp only [go_sem, simprocAttr]; rfl) rfl ?_
  | refine brT ?_ | refine brF ?_
  | (refine brS ?_ ?_ <;> intro hc <;> (try simp only [bls] at hc) <;> (try simp only [hc, bls]))
  | intro _ | refine And.intro ?_ ?_)
      all_goals first | omega | (unfold bigLen; omega) | exact ⟨_, _, ⟨rfl, rfl⟩, rfl⟩ | exact ⟨_, rfl⟩ | (rename_i hy; simp only [List.mem_singleton] at hy; subst hy; rfl) | with_reducible rfl | skip
      refine AGood.prune [1, 2, 3, 4] ?_; simp only [go_sem, simprocAttr]
      exact ih.cast rfl rfl
  · have e4 : ¬ ((97 + i : Nat) : Int) ≤ 122 := by omega
    have hin : i = 26 := by omega
    subst hin
    rw [show (List.range 26).foldl (fun out i => step1 ⟨s0, s1, s2, s3⟩ out (97 + i)) ⟨s0, s1, s2, s3⟩ = fold1 ⟨s0, s1, s2, s3⟩ from rfl]
    generalize fold1 ⟨s0, s1, s2, s3⟩ = o
    clear ih
    repeat' (first
  | refine gSq ?_ | refine gSk ?_ | refine gBl ?_ | refine gIb ?_ | refine gEx rfl ?_
  | ((first
  | (refine gRg [] [0, 1, 2, 3, 4, 7, 18] ?_; intro K hK)
  | (refine gd_split ?_ ?_ <;> intro hb <;> (try simp only [bls] at hb) <;> (try simp only [hb]))
  | refine gRt [] [.cell 2 36] rfl ?_ | refine gDn [] [.cell 2 36] rfl ?_) <;> (try simp only [go_sem, simprocAttr, e4]))
  | (refine hK _ _ ?_; clear hK K; simp only [go_sem, simprocAttr])
  | refine gCd (by simp only [go_sem, simprocAttr]; rfl) rfl ?_
  | refine brT ?_ | refine brF ?_
  | (refine brS ?_ ?_ <;> intro hc <;> (try simp only [bls] at hc) <;> (try simp only [hc, bls]))
  | intro _ | refine And.intro ?_ ?_)
/-- A word's bit, as the document reckons it. -/
theorem hasI_has {s : NSet} {b : Nat} (hb : b < 256) : hasI s.I b = s.has b := by
  have hw : s.I.word (b / 64) = ((s.word (b / 64) : Nat) : Int) := by
    have h4 : b / 64 = 0 ∨ b / 64 = 1 ∨ b / 64 = 2 ∨ b / 64 = 3 := by omega
    rcases h4 with h | h | h | h <;> rw [h] <;> rfl
  unfold hasI NSet.has
  rw [hw, Int.fdiv_eq_ediv_of_nonneg _ (Int.pow_nonneg (by decide))]
  rw [show ((2 : Int) ^ (b % 64)) = ((2 ^ (b % 64) : Nat) : Int) by simp]
  rw [← Int.natCast_ediv, Nat.testBit_eq_decide_div_mod_eq]
  generalize s.word (b / 64) / 2 ^ (b % 64) = x
  rw [show ((x : Nat) : Int).tmod 2 = ((x % 2 : Nat) : Int) from tmod_nat x 2]
  have : ((x % 2 : Nat) : Int) = 1 ↔ x % 2 = 1 := by omega
  simp only [this]
theorem withI_add {s : NSet} (hs : s.ok) {b : Nat} (hb : b < 256) : withI s.I b = (s.add b).I := by
  have h4 : b / 64 = 0 ∨ b / 64 = 1 ∨ b / 64 = 2 ∨ b / 64 = 3 := by omega
  have hp : 2 ^ (b % 64) < 18446744073709551616 := by
    have : 2 ^ (b % 64) < 2 ^ 64 := Nat.pow_lt_pow_right (by decide) (Nat.mod_lt _ (by decide))
    simpa using this
  have hor : ∀ w : Nat, w.testBit (b % 64) = false → w ||| 2 ^ (b % 64) = w + 2 ^ (b % 64) := by
    intro w h
    generalize b % 64 = k at h
    have h1 : w / 2 ^ k % 2 = 0 := by
      rw [Nat.testBit_eq_decide_div_mod_eq] at h
      simp only [decide_eq_false_iff_not] at h
      omega
    have h2 : w % (2 ^ k * 2) = w % 2 ^ k := by rw [Nat.mod_mul, h1]; simp
    have h3 : w % 2 ^ k < 2 ^ k := Nat.mod_lt _ (Nat.pow_pos (by decide))
    have h4 : w = 2 ^ (k + 1) * (w / 2 ^ (k + 1)) + w % 2 ^ k := by
      rw [← h2, Nat.pow_succ]; exact (Nat.div_add_mod _ _).symm
    have h5 : 2 ^ k < 2 ^ (k + 1) := Nat.pow_lt_pow_right (by decide) (by omega)
    have h6 : 2 ^ k + w % 2 ^ k < 2 ^ (k + 1) := by rw [Nat.pow_succ]; omega
    have o1 := Nat.two_pow_add_eq_or_of_lt (i := k + 1) (b := w % 2 ^ k) (by omega) (w / 2 ^ (k + 1))
    have o2 := Nat.two_pow_add_eq_or_of_lt (i := k + 1) (b := 2 ^ k + w % 2 ^ k) h6 (w / 2 ^ (k + 1))
    have o3 := Nat.two_pow_add_eq_or_of_lt (i := k) (b := w % 2 ^ k) h3 1
    rw [Nat.mul_one] at o3
    have e1 : w ||| 2 ^ k = 2 ^ (k + 1) * (w / 2 ^ (k + 1)) ||| (2 ^ k ||| w % 2 ^ k) := by
      conv => lhs; rw [h4, o1]
      rw [Nat.or_assoc, Nat.or_comm (w % 2 ^ k)]
    rw [e1, ← o3, ← o2]
    omega
  have hone : IntKind.u64.wrap (1 * 2 ^ (b % 64)) = ((2 ^ (b % 64) : Nat) : Int) := by
    rw [Int.one_mul, show ((2 : Int) ^ (b % 64)) = ((2 ^ (b % 64) : Nat) : Int) by simp]
    generalize 2 ^ (b % 64) = p at hp
    exact wr_u64 (by omega) (by omega)
  have hwd : s.I.word (b / 64) = ((s.word (b / 64) : Nat) : Int) := by
    rcases h4 with h | h | h | h <;> rw [h] <;> rfl
  have hset : ∀ x : Nat, x = s.word (b / 64) ||| 2 ^ (b % 64) → s.I.set (b / 64) (x : Int) = (s.add b).I := by
    rintro x rfl
    unfold NSet.add
    rcases h4 with h | h | h | h <;> simp only [h] <;> rfl
  unfold withI
  rw [hasI_has hb]
  cases h : s.has b
  · simp only [Bool.false_eq_true, if_false]
    rw [hwd, hone]
    have hs2 := (or_ok hs (add_ok nzero_ok (n := b)))
    have hx := hor _ h
    have hlt : s.word (b / 64) + 2 ^ (b % 64) < 18446744073709551616 := by
      rw [← hx]
      have h7 := Nat.or_lt_two_pow (n := 64) (x := s.word (b / 64)) (y := 2 ^ (b % 64)) (by have := word_lt hs (b / 64); simpa using this) (by simpa using hp)
      simpa using h7
    have hset2 := hset _ hx.symm
    generalize 2 ^ (b % 64) = p at hlt hset2
    rw [show ((s.word (b / 64) : Nat) : Int) + (p : Int) = ((s.word (b / 64) + p : Nat) : Int) by omega, wr_u64 (by omega) (by omega)]
    exact hset2
  · simp only [if_true]
    have hx : s.word (b / 64) ||| 2 ^ (b % 64) = s.word (b / 64) := by
      refine Nat.eq_of_testBit_eq fun j => ?_
      rw [Nat.testBit_or, Nat.testBit_two_pow]
      by_cases hj : b % 64 = j
      · subst hj
        have : (s.word (b / 64)).testBit (b % 64) = true := h
        simp [this]
      · simp [hj]
    rw [← hset _ hx.symm, ← hwd]
    rcases h4 with h | h | h | h <;> rw [h] <;> rfl
def stepQ (s out : NSet) (b : Nat) : NSet := if s.has b || s.has (b - 32) then (out.add b).add (b - 32) else out
theorem step1uN {s out : NSet} (hs : out.ok) {b : Nat} (hb : b < 256) : step1 s.I out.I b = (stepQ s out b).I ∧ (stepQ s out b).ok := by
  unfold step1 stepQ
  rw [hasI_has hb, hasI_has (show b - 32 < 256 by omega)]
  split
  · rw [withI_add hs hb, withI_add (add_ok hs) (show b - 32 < 256 by omega)]
    exact ⟨rfl, add_ok (add_ok hs)⟩
  · exact ⟨rfl, hs⟩
def fdS (s : NSet) : NSet := (List.range 26).foldl (fun o i => stepQ s o (97 + i)) s
theorem fd_all {s : NSet} (hs : s.ok) : ∀ m, m ≤ 26 → (List.range m).foldl (fun out i => step1 s.I out (97 + i)) s.I = ((List.range m).foldl (fun o i => stepQ s o (97 + i)) s).I ∧ ((List.range m).foldl (fun o i => stepQ s o (97 + i)) s).ok ∧
    ∀ b < 256, ((List.range m).foldl (fun o i => stepQ s o (97 + i)) s).has b = true ↔ s.has b = true ∨ ∃ i < m, (s.has (97 + i) = true ∨ s.has (97 + i - 32) = true) ∧ (b = 97 + i ∨ b = 97 + i - 32) := by
  intro m
  induction m with
  | zero => intro _; exact ⟨rfl, hs, fun b _ => by simp⟩
  | succ m ih =>
    intro hm
    obtain ⟨he, ht, hb⟩ := ih (by omega)
    rw [List.range_succ, List.foldl_append, List.foldl_append, he]
    generalize (List.range m).foldl (fun o i => stepQ s o (97 + i)) s = t at ht hb ⊢
    obtain ⟨h1, h2⟩ := step1uN (s := s) ht (b := 97 + m) (by omega)
    refine ⟨h1, h2, fun b hb' => ?_⟩
    simp only [List.foldl_cons, List.foldl_nil]
    unfold stepQ
    by_cases hc : (s.has (97 + m) || s.has (97 + m - 32)) = true
    · rw [if_pos hc, has_add _ (by omega) hb', has_add _ (by omega) hb']
      simp only [Bool.or_eq_true, decide_eq_true_eq, hb b hb'] at hc ⊢
      constructor
      · rintro (((h | ⟨i, h1, h2⟩) | h) | h)
        · exact .inl h
        · exact .inr ⟨i, by omega, h2⟩
        · exact .inr ⟨m, by omega, hc, .inl h.symm⟩
        · exact .inr ⟨m, by omega, hc, .inr h.symm⟩
      · rintro (h | ⟨i, h1, h2, h3⟩)
        · exact .inl (.inl (.inl h))
        · by_cases hi : i = m
          · subst hi
            rcases h3 with h3 | h3
            · exact .inl (.inr h3.symm)
            · exact .inr h3.symm
          · exact .inl (.inl (.inr ⟨i, by omega, h2, h3⟩))
    · rw [if_neg hc, hb b hb']
      simp only [Bool.or_eq_true] at hc
      constructor
      · rintro (h | ⟨i, h1, h2⟩)
        · exact .inl h
        · exact .inr ⟨i, by omega, h2⟩
      · rintro (h | ⟨i, h1, h2, h3⟩)
        · exact .inl h
        · by_cases hi : i = m
          · rw [hi] at h2; exact absurd h2 hc
          · exact .inr ⟨i, by omega, h2, h3⟩
theorem fd_I {s : NSet} (hs : s.ok) : fold1 s.I = (fdS s).I := (fd_all hs 26 (Nat.le_refl _)).1
theorem fd_ok {s : NSet} (hs : s.ok) : (fdS s).ok := (fd_all hs 26 (Nat.le_refl _)).2.1
theorem fd_has {s : NSet} (hs : s.ok) {b : Nat} (hb : b < 256) : (fdS s).has b = true ↔ s.has b = true ∨ ∃ i < 26, (s.has (97 + i) = true ∨ s.has (97 + i - 32) = true) ∧ (b = 97 + i ∨ b = 97 + i - 32) := (fd_all hs 26 (Nat.le_refl _)).2.2 b hb
theorem fd_none : fdS nzero = nzero := by decide +kernel
theorem fd_ne {s : NSet} (hs : s.ok) (h : s ≠ nzero) : fdS s ≠ nzero := by
  intro e
  refine h (has_ext hs ⟨by decide, by decide, by decide, by decide⟩ fun b hb => ?_)
  have hz : nzero.has b = false := by unfold NSet.has NSet.word nzero; split <;> simp
  rw [hz]
  cases hc : s.has b with
  | false => rfl
  | true =>
    have := (fd_has hs hb).2 (.inl hc)
    rw [e, hz] at this; cases this
/-- Two bytes that are one letter, in either case. -/
def simB (c d : Nat) : Prop := c = d ∨ (97 ≤ c ∧ c ≤ 122 ∧ d = c - 32) ∨ (65 ≤ c ∧ c ≤ 90 ∧ d = c + 32)
theorem fd_sim {s : NSet} (hs : s.ok) {c d : Nat} (hc : c < 256) (h : simB c d) : ((fdS s).has c = true → (fdS s).has d = true) ∧ (s.has c = true → (fdS s).has d = true) := by
  have hd : d < 256 := by rcases h with h | h | h <;> omega
  have key : s.has c = true → (fdS s).has d = true := fun hsc => by
    rw [fd_has hs hd]
    rcases h with rfl | ⟨h1, h2, rfl⟩ | ⟨h1, h2, rfl⟩
    · exact .inl hsc
    · exact .inr ⟨c - 97, by omega, .inl (by rw [show 97 + (c - 97) = c by omega]; exact hsc), .inr (by omega)⟩
    · exact .inr ⟨c - 65, by omega, .inr (by rw [show 97 + (c - 65) - 32 = c by omega]; exact hsc), .inl (by omega)⟩
  refine ⟨fun h1 => ?_, key⟩
  rcases (fd_has hs hc).1 h1 with h2 | ⟨i, hi, h2, h3⟩
  · exact key h2
  · rw [fd_has hs hd]
    refine .inr ⟨i, hi, h2, ?_⟩
    rcases h with rfl | h | h <;> omega
def fdI (s : ISet) : ISet := (fdS s.N).I
def fdN (n : Node) : Node := { n with s := fdI n.s }
theorem foldR7uc (q f : Bool) (l : List Node) (hlen : l.length ≤ 1024) (hl : ∀ n ∈ l, n.name.size ≤ maxLen ∧ n.l.length ≤ 1000000) (hset : ∀ n ∈ l, n.s.okI) (hr : ACall Try.prog 35 [.sl q f (nodes l)] [] fun r s => r = .bool true ∧ s = []) : ACall Try.prog 26 [.sl q f (nodes l)] [] fun r s => r = .sl true false (nodes (l.map fdN)) ∧ s = [] := by
  refine ACall.frzRes (R := fun r s => (∃ fl, r = .sl true fl (nodes (l.map fdN))) ∧ s = []) ?_ (by rintro r s ⟨⟨fl, rfl⟩, rfl⟩; exact .inr (.inl ⟨_, _, _, rfl, rfl, rfl⟩))
  refine ACall.enter Try.func26 rfl (by kernel_rfl) (Nat.le_of_ble_eq_true rfl) ?_; simp only [initTm, Nat.reduceAdd]
  repeat' (first
  | refine gSq ?_ | refine gSk ?_ | refine gBl ?_ | refine gIb ?_ | refine gEx rfl ?_
  | ((first
  | (refine gRg [] [0, 2, 3, 4, 5, 8, 12] ?_; intro K hK)
  | refine cAl (hr) rfl rfl rfl ?_
  | (refine gd_split ?_ ?_ <;> intro hb <;> (try simp only [bls] at hb) <;> (try simp only [hb]))
  | refine gRt [] [.tmp 2] rfl ?_ | refine gDn [] [.tmp 2] rfl ?_) <;> (try simp only [go_sem, simprocAttr]))
  | (refine hK _ _ ?_; clear hK K; simp only [go_sem, simprocAttr])
  | refine gCd (by simp only [go_sem, simprocAttr]; rfl) rfl ?_
  | refine brT ?_ | refine brF ?_
  | (refine brS ?_ ?_ <;> intro hc <;> (try simp only [bls] at hc) <;> (try simp only [hc, bls]))
  | intro _ | refine And.intro ?_ ?_)
  refine AGood.ownTm 3 900 9 (by decide) rfl fun g => ?_
  simp only [go_sem, simprocAttr]
  refine AGood.prune [0, 2, 3, 4] ?_; simp only [go_sem, simprocAttr]
  refine AGood.loopInv (α := Nat × Nat) (fun x => ([(0, .sl q f (nodes l)), (2, .sl true true []), (3, .osl 900 x.2 0 x.1), (4, .int .i64 x.1)], [(900, (x.2, .row 9 (nodes ((l.take x.1).map fdN))))])) (fun x => x.1 ≤ l.length) (fun x => l.length - x.1) (0, g) (Nat.zero_le _) rfl ?_
  rintro ⟨i, g⟩ hi ih
  simp only at hi ih ⊢
  by_cases hle : i < l.length
  · have e4 : (i : Int) < l.length := by omega
    have e5 : (0 : Int) ≤ i := by omega
    have hx : l[i]? = some l[i] := List.getElem?_eq_getElem hle
    have hmem := List.getElem_mem hle
    have ht : (l.take (i + 1)).map fdN = (l.take i).map fdN ++ [fdN l[i]] := by simp only [take_one hx, List.map_append, List.map_cons, List.map_nil]
    have hset1 := okI_N (hset _ hmem)
    have hlen1 := (hl _ hmem).2
    have hlc : (nodes ((l.take i).map fdN)).length = i := by simp; omega
    generalize l[i] = n at hx ht hset1 hlen1
    obtain ⟨xo, xs, xl, xlo, xhi, xn⟩ := n
    simp only at hset1 hlen1
    have hf := fold1uc xs.a xs.b xs.c xs.d
    have hfn := fd_I hset1.1
    rw [← hset1.2] at hfn
    rw [show (⟨xs.a, xs.b, xs.c, xs.d⟩ : ISet) = xs from rfl, hfn] at hf
    simp only [fdN, fdI] at ht
    generalize fdS xs.N = fs at hf ht
    obtain ⟨xa, xb, xc, xd⟩ := xs
    have ih := fun g' => ih (i + 1, g') (by simp only; omega) (by simp only; omega)
    simp only [ht] at ih
    generalize (l.take i).map fdN = out at ih hlc ⊢
    have e9 : (ints xl).take xl.length = ints xl := List.take_of_length_le (by simp)
    repeat' (first
  | refine gSq ?_ | refine gSk ?_ | refine gBl ?_ | refine gIb ?_ | refine gEx rfl ?_
  | ((first
  | (refine AGood.at 10 ?_; (refine AGood.freeze 23 rfl ?_; simp only [rfT, rfS, rfO, rf, rf1, e9, true_and, go_sem, simprocAttr]); (refine gRg [30] [0, 2, 3, 4, 5, 8, 12] ?_; intro K hK))
  | (refine gRg [30] [0, 2, 3, 4, 5, 8, 12] ?_; intro K hK)
  | refine cAl (hf) rfl rfl rfl ?_
  | (refine gd_split ?_ ?_ <;> intro hb <;> (try simp only [bls] at hb) <;> (try simp only [hb]))
  | refine gRt [] [.tmp 2] rfl ?_ | refine gDn [] [.tmp 2] rfl ?_) <;> (try simp only [go_sem, simprocAttr, e4, e5, hx, hlc, Option.some.injEq, forall_eq']))
  | (refine hK _ _ ?_; clear hK K; simp only [go_sem, simprocAttr])
  | refine gCd (by simp only [go_sem, simprocAttr]; rfl) rfl ?_
  | refine brT ?_ | refine brF ?_
  | (refine brS ?_ ?_ <;> intro hc <;> (try simp only [bls] at hc) <;> (try simp only [hc, bls]))
  | intro _ | refine And.intro ?_ ?_)
    all_goals first | omega | (unfold bigLen; omega) | exact ⟨_, _, ⟨rfl, rfl⟩, rfl⟩ | exact ⟨_, rfl⟩ | (rename_i hy; simp only [List.mem_singleton] at hy; subst hy; rfl) | with_reducible rfl | skip
    · rename_i y hy; obtain ⟨k, _, rfl⟩ := List.mem_map.1 hy; rfl
    · rename_i y hy; obtain ⟨k, _, rfl⟩ := List.mem_map.1 hy; rfl
    refine AGood.filt [900] ?_
    simp only [sf_cons, sf_nil, go_sem, simprocAttr]
    refine AGood.prune [0, 2, 3, 4] ?_; simp only [go_sem, simprocAttr]
    exact (ih _).cast rfl (by simp)
  · have e4 : ¬ (i : Int) < l.length := by omega
    have hin : i = l.length := by omega
    subst hin
    rw [List.take_length]
    repeat' (first
  | refine gSq ?_ | refine gSk ?_ | refine gBl ?_ | refine gIb ?_ | refine gEx rfl ?_
  | ((first
  | (refine AGood.at 11 ?_; (refine AGood.freeze 900 rfl ?_; simp only [rfT, rfS, rfO, rf, rf1, true_and, go_sem, simprocAttr]); (refine gRg [] [0, 2, 3, 4, 5, 8, 12] ?_; intro K hK))
  | (refine gRg [] [0, 2, 3, 4, 5, 8, 12] ?_; intro K hK)
  | (refine gd_split ?_ ?_ <;> intro hb <;> (try simp only [bls] at hb) <;> (try simp only [hb]))
  | refine gRt [] [.tmp 2] rfl ?_ | refine gDn [] [.tmp 2] rfl ?_) <;> (try simp only [go_sem, simprocAttr, e4]))
  | (refine hK _ _ ?_; clear hK K; simp only [go_sem, simprocAttr])
  | refine gCd (by simp only [go_sem, simprocAttr]; rfl) rfl ?_
  | refine brT ?_ | refine brF ?_
  | (refine brS ?_ ?_ <;> intro hc <;> (try simp only [bls] at hc) <;> (try simp only [hc, bls]))
  | intro _ | refine And.intro ?_ ?_)
    exact ⟨false, by rw [List.take_of_length_le (by simp)]⟩
end Go.Rad
/- A folded tree takes a text just if it takes it with other cases of its letters: the plain law. -/
namespace Go.Rad
open Go Fo
def mapS (φ : ISet → ISet) : Fo → Fo
  | .nil => .nil
  | .node b k r => .node { b with s := φ b.s } (mapS φ k) (mapS φ r)
def allS (p : ISet → Prop) : Fo → Prop
  | .nil => True
  | .node b k r => p b.s ∧ allS p k ∧ allS p r
theorem mapS_deg (φ : ISet → ISet) : ∀ f : Fo, (mapS φ f).deg = f.deg ∧ (mapS φ f).size = f.size
  | .nil => ⟨rfl, rfl⟩
  | .node b k r => by
    obtain ⟨h1, h2⟩ := mapS_deg φ k
    obtain ⟨h3, h4⟩ := mapS_deg φ r
    simp only [mapS, deg, size, h2, h3, h4]
    exact ⟨trivial, trivial⟩
theorem mapS_roots (φ : ISet → ISet) : ∀ (f : Fo) (i : Nat), (mapS φ f).roots i = f.roots i
  | .nil, _ => rfl
  | .node b k r, i => by simp only [mapS, roots, (mapS_deg φ k).2, mapS_roots φ r]
theorem mapS_lay (φ : ISet → ISet) : ∀ (f : Fo) (i : Nat), (mapS φ f).lay i = (f.lay i).map fun n => { n with s := φ n.s }
  | .nil, _ => rfl
  | .node b k r, i => by
    simp only [mapS, lay, mapS_lay φ k, mapS_lay φ r, (mapS_deg φ k).2, mapS_roots, List.map_append, List.map_cons]
theorem mapS_id : ∀ f : Fo, mapS (fun s => s) f = f
  | .nil => rfl
  | .node b k r => by simp only [mapS, mapS_id k, mapS_id r]
theorem lay_allS {p : ISet → Prop} : ∀ (f : Fo) (i : Nat), (∀ n ∈ f.lay i, p n.s) → allS p f
  | .nil, _, _ => trivial
  | .node b k r, i, h => by
    simp only [lay, List.mem_append, List.mem_cons] at h
    exact ⟨h _ (.inr (.inl rfl)), lay_allS k i fun n hn => h n (.inl hn), lay_allS r _ fun n hn => h n (.inr (.inr hn))⟩
/-! Texts that differ in cases alone. -/
def simW : List Nat → List Nat → Prop
  | [], [] => True
  | c :: u, d :: v => simB c d ∧ simW u v
  | _, _ => False
theorem simB_symm {c d : Nat} (h : simB c d) : simB d c := by
  unfold simB at *
  omega
theorem simW_symm : ∀ {u v : List Nat}, simW u v → simW v u
  | [], [], _ => trivial
  | [], _ :: _, h => h.elim
  | _ :: _, [], h => h.elim
  | _ :: _, _ :: _, h => ⟨simB_symm h.1, simW_symm h.2⟩
theorem simW_app : ∀ {a b v : List Nat}, simW (a ++ b) v → ∃ x y, v = x ++ y ∧ simW a x ∧ simW b y
  | [], _, v, h => ⟨[], v, rfl, trivial, h⟩
  | c :: a, b, v, h => by
    match v, h with
    | d :: v, h =>
      obtain ⟨x, y, rfl, h1, h2⟩ := simW_app (a := a) h.2
      exact ⟨d :: x, y, rfl, ⟨h.1, h1⟩, h2⟩
def bytesOnly (u : List Nat) : Prop := ∀ c ∈ u, c < 256
def PW (A B : Lan) : Prop := ∀ u v, bytesOnly u → simW u v → A u → B v
def PL : List Lan → List Lan → Prop
  | [], [] => True
  | A :: l, B :: m => PW A B ∧ PL l m
  | _, _ => False
theorem pw_eps : PW epsW epsW := fun u v _ h e => by
  unfold epsW at *
  subst e
  match v, h with
  | [], _ => rfl
theorem pw_cat {A B A' B' : Lan} (h1 : PW A B) (h2 : PW A' B') : PW (catW A A') (catW B B') := by
  rintro u v hu hs ⟨a, b, rfl, ha, hb⟩
  obtain ⟨x, y, rfl, s1, s2⟩ := simW_app hs
  exact ⟨x, y, rfl, h1 a x (fun c hc => hu c (by simp [hc])) s1 ha, h2 b y (fun c hc => hu c (by simp [hc])) s2 hb⟩
theorem pw_row : ∀ {l m : List Lan}, PL l m → PW (rowW l) (rowW m)
  | [], [], _ => pw_eps
  | [], _ :: _, h => h.elim
  | _ :: _, [], h => h.elim
  | _ :: _, _ :: _, h => pw_cat h.1 (pw_row h.2)
theorem pw_pow {A B : Lan} (h : PW A B) : ∀ n, PW (powW A n) (powW B n)
  | 0 => pw_eps
  | n + 1 => pw_cat h (pw_pow h n)
theorem pw_some : ∀ {l m : List Lan}, PL l m → PW (fun u => ∃ A ∈ l, A u) (fun u => ∃ A ∈ m, A u)
  | [], [], _ => fun u v _ _ ⟨A, h, _⟩ => by cases h
  | [], _ :: _, h => h.elim
  | _ :: _, [], h => h.elim
  | A :: l, B :: m, h => fun u v hu hs ⟨X, hX, hx⟩ => by
    rcases List.mem_cons.1 hX with rfl | hX
    · exact ⟨B, by simp, h.1 u v hu hs hx⟩
    · obtain ⟨Y, hY, hy⟩ := pw_some h.2 u v hu hs ⟨X, hX, hx⟩
      exact ⟨Y, by simp [hY], hy⟩
theorem pw_head : ∀ {l m : List Lan}, PL l m → PW (l.headD epsW) (m.headD epsW)
  | [], [], _ => pw_eps
  | [], _ :: _, h => h.elim
  | _ :: _, [], h => h.elim
  | _ :: _, _ :: _, h => h.1
theorem pl_lan {φ ψ : ISet → ISet} {p : ISet → Prop} (hp : ∀ s, p s → ∀ c d, c < 256 → simB c d → hasI (φ s) c = true → hasI (ψ s) d = true) : ∀ f : Fo, allS p f → PL (lan (mapS φ f)) (lan (mapS ψ f))
  | .nil, _ => trivial
  | .node b k r, h => by
    obtain ⟨h1, h2, h3⟩ := h
    have hk := pl_lan hp k h2
    refine ⟨?_, pl_lan hp r h3⟩
    intro u v hu hs hA
    unfold lanNode at hA ⊢
    simp only at hA ⊢
    split
    · rename_i e
      rw [if_pos e] at hA
      obtain ⟨c, rfl, hc⟩ := hA
      match v, hs with
      | [d], hs => exact ⟨d, rfl, hp _ h1 c d (hu c (by simp)) hs.1 hc⟩
      | _ :: _ :: _, hs => exact hs.2.elim
    · rename_i e
      rw [if_neg e] at hA
      split
      · rename_i e; rw [if_pos e] at hA; exact pw_row hk u v hu hs hA
      · rename_i e
        rw [if_neg e] at hA
        split
        · rename_i e; rw [if_pos e] at hA; exact pw_some hk u v hu hs hA
        · rename_i e
          rw [if_neg e] at hA
          split
          · rename_i e
            rw [if_pos e] at hA
            obtain ⟨n, h1, h2, h3⟩ := hA
            exact ⟨n, h1, h2, pw_pow (pw_head hk) n u v hu hs h3⟩
          · rename_i e
            rw [if_neg e] at hA
            exact pw_eps u v hu hs hA
theorem fd_rel {s : ISet} (hs : s.okI) {c d : Nat} (hc : c < 256) (h : simB c d) : (hasI (fdI s) c = true → hasI (fdI s) d = true) ∧ (hasI s c = true → hasI (fdI s) d = true) := by
  have hd : d < 256 := by rcases h with h | h | h <;> omega
  obtain ⟨k1, k2⟩ := okI_N hs
  obtain ⟨r1, r2⟩ := fd_sim k1 hc h
  unfold fdI
  rw [hasI_has hc, hasI_has hd]
  refine ⟨r1, fun h2 => r2 ?_⟩
  rw [k2, hasI_has hc] at h2
  exact h2
/-- The folded tree. -/
def fdF (f : Fo) : Fo := mapS fdI f
theorem fdF_lay (f : Fo) : (fdF f).lay 0 = (f.lay 0).map fdN := mapS_lay fdI f 0
theorem fdI_none {s : ISet} (hs : s.okI) : fdI s = ISet.none ↔ s = ISet.none := by
  obtain ⟨k1, k2⟩ := okI_N hs
  have hz : ∀ n : NSet, n.I = ISet.none ↔ n = nzero := fun n => by
    obtain ⟨a, b, c, d⟩ := n
    simp only [NSet.I, ISet.none, nzero, ISet.mk.injEq, NSet.mk.injEq]
    omega
  unfold fdI
  rw [hz]
  conv => rhs; rw [k2, hz]
  constructor
  · intro h
    cases hd : decide (s.N = nzero) with
    | true => exact of_decide_eq_true hd
    | false => exact absurd h (fd_ne k1 (of_decide_eq_false hd))
  · intro h; rw [h]; exact fd_none
theorem fd_shape : ∀ f : Fo, allS ISet.okI f → (mapS fdI f).shapeF = f.shapeF
  | .nil, _ => rfl
  | .node b k r, h => by
    have hk := fd_shape k h.2.1
    have hr := fd_shape r h.2.2
    simp only [shapeF] at hk hr ⊢
    simp only [mapS, all, hk, hr, (mapS_deg fdI k).1]
    congr 2
    have hd : decide (fdI b.s ≠ ISet.none) = decide (b.s ≠ ISet.none) := by rw [decide_eq_decide]; exact not_congr (fdI_none h.1)
    simp only [shapeL, shapeOk, hd]
theorem fd_no6 : ∀ f : Fo, no6 (mapS fdI f) = no6 f
  | .nil => rfl
  | .node b k r => by
    have hk := fd_no6 k
    have hr := fd_no6 r
    simp only [no6] at hk hr ⊢
    simp only [mapS, all, hk, hr]
theorem lanT_pl {f g : Fo} (hf : f.deg = 1) (hg : g.deg = 1) (h : PL (lan f) (lan g)) : PW (lanT f) (lanT g) := by
  exact pw_head h
/-- What takes a text, and what takes it with other cases. -/
theorem fold_law {f : Fo} (hd : f.deg = 1) (hs : f.shapeF = true) (hok : allS ISet.okI f) {y z : ByteArray} (hyz : simW (bytesW y) (bytesW z)) :
    isT y (fdF f) = isT z (fdF f) ∧ (isT y f = true → isT z (fdF f) = true) := by
  have d1 : (fdF f).deg = 1 := by rw [fdF, (mapS_deg fdI f).1]; exact hd
  have s1 : (fdF f).shapeF = true := by rw [fdF, fd_shape f hok]; exact hs
  have hb : ∀ w : ByteArray, bytesOnly (bytesW w) := fun w c hc => by
    obtain ⟨x, _, rfl⟩ := List.mem_map.1 hc
    exact x.toNat_lt
  have p1 : PW (lanT (fdF f)) (lanT (fdF f)) := lanT_pl d1 d1 (pl_lan (p := ISet.okI) (fun s h c d hc hcd => (fd_rel h hc hcd).1) f hok)
  have p2 : PW (lanT f) (lanT (fdF f)) := by
    have := pl_lan (φ := fun s => s) (ψ := fdI) (p := ISet.okI) (fun s h c d hc hcd => (fd_rel h hc hcd).2) f hok
    rw [mapS_id] at this
    exact lanT_pl hd d1 this
  refine ⟨?_, fun h => ?_⟩
  · rw [Bool.eq_iff_iff, isT_iff d1 s1, isT_iff d1 s1]
    exact ⟨p1 _ _ (hb y) hyz, p1 _ _ (hb z) (simW_symm hyz)⟩
  · rw [isT_iff hd hs] at h
    rw [isT_iff d1 s1]
    exact p2 _ _ (hb y) hyz h
end Go.Rad
/- Ghost steps between a region's operations. -/
namespace Go.Rad
open Go
section
variable {P : Program} {f : Nat} {fn : Func} {ops : List Oper} {n : Nat} {k : List Item} {tm : Tm} {sto : Sto} {R : AVal → Sto → Prop}
theorem RGood.freeze (id : Nat) {g esz : Nat} {l : List (List AVal)} (hget : sget sto id = some (g, .row esz l)) (h : RGood P f fn [] ops n k (rfT id g l tm) (rfS id g l (sdel sto id)) R) : RGood P f fn [] ops n k tm sto R := by
  refine ⟨?_⟩
  intro E G a w b h1 h2 h3 h4 h5 h6 h7 h8 h9
  obtain ⟨G', hext, hw', hs', hr⟩ := all_freeze h7 h8 hget
  have hd : a.defers = [] := by
    cases hd : a.defers with
    | nil => rfl
    | cons => rw [hd] at h5; simp [DfOk] at h5
  exact h.go E G' a w b h1 h2 h3 h4 (by rw [hd]; trivial) (h6.trans hext) hw' hs' fun t => by rw [lk_rfT]; exact hr _ _ (h9 t)
theorem RGood.reRow {df : List DDel} (id : Nat) {g esz : Nat} {l : List (List AVal)} (l' : List (List AVal)) (hg : sget sto id = some (g, .row esz l)) (hl : l = l') (h : RGood P f fn df ops n k tm (sput sto id (g, .row esz l')) R) : RGood P f fn df ops n k tm sto R := by
  subst hl
  have hs : ∀ i, sget (sput sto id (g, .row esz l)) i = sget sto i := by
    intro i
    rw [sget_sput]
    split
    · rename_i e; subst e; exact hg.symm
    · rfl
  refine ⟨fun E G a w b h1 h2 h3 h4 h5 h6 h7 h8 h9 => h.go E G a w b h1 h2 h3 h4 h5 h6 h7 ⟨fun i g' o hi => ?_, fun i i' g1 g2 o o' hi hi' => ?_⟩ h9⟩
  · rw [hs] at hi; exact h8.obj _ _ _ hi
  · rw [hs] at hi hi'; exact h8.apart _ _ _ _ _ _ hi hi'
end
end Go.Rad
/- A row made of a text. -/
namespace Go.Rad
open Go Go.Lib
theorem Kept.bytes (w : World) (e : TypeId) (s : ByteArray) : Kept w (bytesWorld w e s) := by
  unfold bytesWorld World.freeze
  exact ⟨rfl, rfl⟩
abbrev bytesT (s : ByteArray) : List (List AVal) := (s.data.toList.map UInt8.toNat).map fun (n : Nat) => [AVal.int .u8 (n : Int)]
theorem bytesT_len (s : ByteArray) : (bytesT s).length = s.size := by
  rw [List.length_map, List.length_map, Array.length_toList]; rfl
theorem toBytes_sound {P : Program} {L : Lay} (hL : LOk P L) {s t e d : Nat} (hs' : (L s).ty = .string) (ht : (L t).ty = .slice e) (he : (L e).ty = .int .u8) {str : ByteArray} (hbig : str.size ≤ bigLen) {G : Gh} {w : World} {sto : Sto} {T : AVal → Sto → Prop} (hw : WOk G w) (hs : StoOk G w sto)
    (h : ∀ g, T (.osl d g 0 str.size) (sput sto d (g, .row 1 (bytesT str)))) : Runs P (convert s t (.string str)) G w T := by
  obtain ⟨i0, d0, z0, k0⟩ := hL.known (t := s) (by rw [hs']; exact fun h => nomatch h)
  obtain ⟨i1, d1, z1, k1⟩ := hL.known (t := t) (by rw [ht]; exact fun h => nomatch h)
  obtain ⟨i2, d2, z2, k2⟩ := hL.known (t := e) (by rw [he]; exact fun h => nomatch h)
  have u0 := desc_string k0 hs'
  obtain ⟨u1, _⟩ := desc_slice k1 ht
  have u2 := desc_int k2 he
  subst u0 u1 u2
  have hrun := Go.Lib.run_convert_string_bytes (P := P) w s t e str k0.und k1.und k2.und
  have hgf := grown_facts (w := w) (need := str.size) (old := 0) (e := e) hbig
  generalize hcap : grownCap w str.size 0 e = cap at hrun hgf
  have hcs : (bytesCells w e str).size = cap := by
    simp only [bytesCells, hcap, Array.size_append, Array.size_map, Array.size_replicate]
    have : str.data.size = str.size := rfl
    omega
  have hl : (bytesT str).length = str.size := bytesT_len str
  obtain ⟨a, b, c⟩ := sto_put (w' := bytesWorld w e str) (id := d) (o := .row 1 (bytesT str)) (hd := ⟨some w.heap.size, cap, 1⟩) (Kept.bytes w e str) hw hs (by rw [bytesWorld_size]; omega)
    (fun b hb _ => bytesWorld_at_old w e str b hb) (fun b hb => by simp only [Option.some.injEq] at hb; subst hb; exact ⟨by rw [bytesWorld_size]; omega, .inl (Nat.le_refl _)⟩)
    ⟨some w.heap.size, cap, newG_M _ _ _, by omega, by omega, Nat.one_pos, fun i x hx => by
        rw [List.getElem?_map] at hx
        obtain ⟨n, _, rfl⟩ := Option.map_eq_some_iff.1 hx
        rfl, fun i j x y hx hy => by
        rw [List.getElem?_map] at hx
        obtain ⟨n, _, rfl⟩ := Option.map_eq_some_iff.1 hx
        match j, hy with
        | 0, hy => simp only [List.getElem?_cons_zero, Option.some.injEq] at hy; subst hy; rfl, fun h => (nomatch h), fun b hb => by
        cases hb
        refine ⟨show G.F w.heap.size = none from fresh_none hw, hgf.2, bytesCells w e str, e, ⟨_, bytesWorld_at_new w e str, .inr (Nat.le_refl _)⟩, by rw [hcs, Nat.mul_one], fun i j x y hx hy => ?_⟩
        rw [List.getElem?_map, List.getElem?_map] at hx
        obtain ⟨n, hn, rfl⟩ := Option.map_eq_some_iff.1 hx
        obtain ⟨u, hu, rfl⟩ := Option.map_eq_some_iff.1 hn
        match j, hy with
        | 0, hy =>
          simp only [List.getElem?_cons_zero, Option.some.injEq] at hy
          subst hy
          have hlt := (List.getElem?_eq_some_iff.1 hu).1
          have hlt2 : i < str.data.size := by simpa using hlt
          have hg : (bytesCells w e str).getD (i * 1 + 0) undef = .int .u8 u.toNat := by
            have h3 : str.data[i] = u := by
              have := (List.getElem?_eq_some_iff.1 hu).2
              simpa using this
            simp only [bytesCells, Nat.mul_one, Nat.add_zero, Array.getD_eq_getD_getElem?]
            rw [Array.getElem?_append, if_pos (by simpa using hlt2), Array.getElem?_map, Array.getElem?_eq_getElem hlt2, h3]
            rfl
          rw [hg]
          exact .int (fits_byte u)⟩
  exact ⟨_, _, _, _, _, hrun, a, b, c, osl_rep (newG_M _ _ _) hgf.1 (by omega), h _⟩
section
variable {P : Program} {L : Lay} {f : Nat} {fn : Func} {df : List DDel} {k : List Item} {tm : Tm} {sto : Sto} {R : AVal → Sto → Prop}
/-- A text made a row of bytes, within a region. -/
theorem RGood.bytes (hL : LOk P L) {ops : List Oper} {i d s t e : Nat} {x : Operand} {ty : TypeId} {pos : String} {af : Array Edge} (hop : ops[i]? = some ⟨some d, .convert s t x, ty, pos, af, none⟩) (hd : d < fn.ntmps) (hx : operandOk x = true)
    (hs' : (L s).ty = .string) (ht : (L t).ty = .slice e) (he : (L e).ty = .int .u8) {str : ByteArray} (hv : ev tm x = .str str) (hbig : str.size ≤ bigLen)
    (h : ∀ g, RGood P f fn df ops (i + 1) k ((d, .osl d g 0 str.size) :: tm) (sput sto d (g, .row 1 (bytesT str))) R) : RGood P f fn df ops i k tm sto R := by
  refine ⟨?_⟩
  intro E G a w b h1 h2 h3 h4 h5 h6 h7 h8 h9
  obtain ⟨hlt, hoe⟩ := List.getElem?_eq_some_iff.1 hop
  rw [List.drop_eq_getElem_cons hlt, hoe]
  have hr := ev_rep h7 h9 hx
  rw [hv] at hr
  obtain ⟨hval, _⟩ := Rep.str_inv' hr
  obtain ⟨G', w', v, r, sto', hrun, hxt, hw', hs2, hrr, g, rfl, rfl⟩ := toBytes_sound (P := P) (L := L) hL (d := d) hs' ht he hbig h7 h8 (T := fun r s => ∃ g, r = .osl d g 0 str.size ∧ s = sput sto d (g, .row 1 (bytesT str))) fun g => ⟨g, rfl, rfl⟩
  unfold wpList
  rw [if_pos (by simp [Region.wanted])]
  refine .inl ?_
  have hex : (execOp a.eval ⟨some d, .convert s t x, ty, pos, af, none⟩).run P w = .ok (.value v) w' := by
    have e0 : execOp a.eval ⟨some d, .convert s t x, ty, pos, af, none⟩ = (do pure (.value (← convert s t (a.eval x)))) := rfl
    rw [e0, hval]
    simp [hrun]
  have hsim : Sim G fn.ntmps a.defers tm sto a w G := ⟨.refl G, h7, h8, h9, h4, rfl⟩
  have hs3 := hsim.put (d := some d) hxt hw' hs2 (by simpa using hd) hrr
  unfold Oper.wp
  rw [hex]
  exact (h g).go E G' (a.put (some d) v) w' b h1 h2 h3 hs3.n (hs3.d ▸ h5.mono hs3.ext.toMono) (h6.trans hs3.ext) hs3.wok hs3.sok hs3.tok
end
end Go.Rad
