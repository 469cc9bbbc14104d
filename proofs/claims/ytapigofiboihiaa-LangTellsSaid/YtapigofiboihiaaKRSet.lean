/- Sets of nodes whose words are what their kinds hold. -/
import Derived.Test.YtapigofiboihiaaKRGrow
import Derived.Test.YtapigofiboihiaaKRRunC
import Derived.Test.YtapigofiboihiaaKRNode
import Derived.Test.YtapigofiboihiaaRows
set_option linter.all false
namespace Go.Rad
open Go
def ISet.N (s : ISet) : NSet := ⟨s.a.toNat, s.b.toNat, s.c.toNat, s.d.toNat⟩
def ISet.okI (s : ISet) : Prop := fits .u64 s.a ∧ fits .u64 s.b ∧ fits .u64 s.c ∧ fits .u64 s.d
theorem okI_N {s : ISet} (h : s.okI) : s.N.ok ∧ s = s.N.I := by
  obtain ⟨a, b, c, d⟩ := s
  obtain ⟨h1, h2, h3, h4⟩ := h
  obtain ⟨a, rfl, k1⟩ := fit64 h1
  obtain ⟨b, rfl, k2⟩ := fit64 h2
  obtain ⟨c, rfl, k3⟩ := fit64 h3
  obtain ⟨d, rfl, k4⟩ := fit64 h4
  exact ⟨⟨k1, k2, k3, k4⟩, rfl⟩
section
variable {L : Lay} {k t : Nat} {y : List AVal}
theorem ty_setF {e : Nat} (ht : (L t).ty = .array 4 e) (he : (L e).ty = .int .u64) (h : typed L (k + 2) t y) : ∃ s : ISet, y = s.cells ∧ s.okI := by
  have h := ty_array ht h
  obtain ⟨x1, r1, rfl, h1, x2, r2, rfl, h2, x3, r3, rfl, h3, x4, r4, rfl, h4, rfl⟩ := h
  obtain ⟨a, rfl, f1⟩ := ty_int he h1
  obtain ⟨b, rfl, f2⟩ := ty_int he h2
  obtain ⟨c, rfl, f3⟩ := ty_int he h3
  obtain ⟨d, rfl, f4⟩ := ty_int he h4
  exact ⟨⟨a, b, c, d⟩, rfl, f1, f2, f3, f4⟩
def nodeFit (n : Node) : Prop := (n.name.size ≤ maxLen ∧ n.l.length ≤ maxLen) ∧ n.s.okI
theorem ty_nodeF (hn : NodeTy L t) (h : typed L (k + 3) t y) : ∃ n : Node, y = n.cells ∧ nodeFit n := by
  obtain ⟨o, st, l, i, s, w, h1, h2, h3, h4, h5, h6, h7⟩ := hn.ex
  have h := ty_struct h1 h
  obtain ⟨x1, r1, rfl, p1, x2, r2, rfl, p2, x3, r3, rfl, p3, x4, r4, rfl, p4, x5, r5, rfl, p5, x6, r6, rfl, p6, rfl⟩ := h
  obtain ⟨no, rfl, _⟩ := ty_int h2 p1
  obtain ⟨ns, rfl, hst⟩ := ty_setF h3 h4 p2
  obtain ⟨nl, rfl, hl⟩ := ty_ints h5 h6 p3
  obtain ⟨nlo, rfl, _⟩ := ty_int h6 p4
  obtain ⟨nhi, rfl, _⟩ := ty_int h6 p5
  obtain ⟨nn, rfl, hs⟩ := ty_str h7 p6
  exact ⟨⟨no, ns, nl, nlo, nhi, nn⟩, rfl, ⟨hs, hl⟩, hst⟩
theorem ty_nodesF {e : Nat} (ht : (L t).ty = .slice e) (hn : NodeTy L e) (h : typed L (k + 4) t y) : ∃ l : List Node, y = [.sl true false (nodes l)] ∧ l.length ≤ maxLen ∧ ∀ n ∈ l, nodeFit n := by
  obtain ⟨l, rfl, hl, hx⟩ := ty_slice ht h
  obtain ⟨ns, rfl, hns⟩ := list_of (F := Node.cells) (P := nodeFit) fun x hx' => ty_nodeF hn (hx x hx')
  exact ⟨ns, rfl, by simpa using hl, hns⟩
theorem ty_defsF {e : Nat} (ht : (L t).ty = .slice e) (hn : DefTy L e) (h : typed L (k + 6) t y) : ∃ l : List Df, y = [.sl true false (defs l)] ∧ l.length ≤ maxLen ∧ ∀ d ∈ l, d.name.size ≤ maxLen ∧ d.l.length ≤ maxLen ∧ ∀ n ∈ d.l, nodeFit n := by
  obtain ⟨s, ln, n, h1, h2, h3, h4⟩ := hn.ex
  obtain ⟨l, rfl, hl, hx⟩ := ty_slice ht h
  obtain ⟨ds, rfl, hds⟩ := list_of (F := Df.cells) (P := fun d => d.name.size ≤ maxLen ∧ d.l.length ≤ maxLen ∧ ∀ n ∈ d.l, nodeFit n) fun x hx' => by
    have h := ty_struct h1 (hx x hx')
    obtain ⟨x1, r1, rfl, p1, x2, r2, rfl, p2, rfl⟩ := h
    obtain ⟨nn, rfl, hs⟩ := ty_str h2 p1
    obtain ⟨dl, rfl, hd1, hd2⟩ := ty_nodesF h3 h4 p2
    exact ⟨⟨nn, dl⟩, rfl, hs, hd1, hd2⟩
  exact ⟨ds, rfl, by simpa using hl, hds⟩
end
end Go.Rad
/- The ends of a tree in a text, of the program and of the document: both, whatever the nodes are. -/
namespace Go.Rad
open Go Go.Proofs
set_option linter.all false
set_option maxRecDepth 20000
set_option maxHeartbeats 4000000

def lanT (f : Fo) : Lan := (lan f).headD epsW
theorem semT_tells {w : ByteArray} {fo : Fo} (hd : fo.deg = 1) (hs : fo.shapeF = true) : Tells w (semT w fo) (lanT fo) := by
  match fo, hd with
  | .node b k .nil, _ => exact (sem_tells (w := w) _ hs).1
/-- The ends from a place on. -/
def endT (w : ByteArray) (fo : Fo) (i : Nat) : List Int := posS (semT w fo (pointB (w.size + 1) i))
theorem endT_rise (w : ByteArray) (fo : Fo) (i : Nat) : (endT w fo i).Pairwise (· < ·) := posS_rise _
theorem endT_mem {w : ByteArray} {fo : Fo} (hd : fo.deg = 1) (hs : fo.shapeF = true) (i : Nat) (x : Int) : x ∈ endT w fo i ↔ ∃ k : Nat, x = k ∧ i ≤ k ∧ k ≤ w.size ∧ lanT fo (subW w i k) := by
  rw [endT, posS_mem]
  constructor
  · rintro ⟨k, rfl, h⟩
    obtain ⟨h1, j, h2, h3, h4⟩ := ((semT_tells hd hs).iff _ (pointB_len _ _) k).1 h
    simp only [point_get, Bool.and_eq_true, decide_eq_true_eq] at h3
    obtain ⟨rfl, _⟩ := h3
    exact ⟨k, rfl, h2, h1, h4⟩
  · rintro ⟨k, rfl, h1, h2, h3⟩
    refine ⟨k, rfl, ((semT_tells hd hs).iff _ (pointB_len _ _) k).2 ⟨h2, i, h1, ?_, h3⟩⟩
    simp only [point_get, Bool.and_eq_true, decide_eq_true_eq]
    exact ⟨trivial, by omega⟩
theorem endT_len {w : ByteArray} {fo : Fo} (hd : fo.deg = 1) (i : Nat) : (endT w fo i).length ≤ w.size + 1 := by
  have := posS_len (semT w fo (pointB (w.size + 1) i))
  rwa [semT_len hd (pointB_len _ _)] at this
theorem fit_words {l : List Node} (h : ∀ n ∈ l, nodeFit n) : ∀ n ∈ l, ∀ k, 0 ≤ n.s.word k := by
  intro n hn k
  obtain ⟨_, h1, h2, h3, h4⟩ := h n hn
  obtain ⟨h1, _⟩ := h1
  obtain ⟨h2, _⟩ := h2
  obtain ⟨h3, _⟩ := h3
  obtain ⟨h4, _⟩ := h4
  simp only [IntKind.min] at h1 h2 h3 h4
  unfold ISet.word
  split <;> first | exact h1 | exact h2 | exact h3 | exact h4
/-- What both packages tell of any nodes. -/
structure Both (P : Program) (fa fb : Nat) (f : Bool) (l : List Node) (w : ByteArray) (fr : Int) (b1 b2 : Bool) (E : List Int) : Prop where
  a : ACall P fa [.sl true f (nodes l), .str w, .int .i64 fr] [] fun r s => r = .sl true b1 (ints E) ∧ s = []
  b : ACall P fb [.sl true f (nodes l), .str w, .int .i64 fr] [] fun r s => r = .sl true b2 (ints E) ∧ s = []
  from' : ∀ x ∈ E, fr ≤ x
  upto : ∀ x ∈ E, x ≤ (w.size : Int)
  rise : E.Pairwise (· < ·)
  len : E.length ≤ 1000001
theorem both_c {f : Bool} {l : List Node} {w : ByteArray} {fr : Int} (hll : l.length ≤ maxLen) (hl : ∀ n ∈ l, nodeFit n) (hw : w.size ≤ 900000) : ∃ b1 b2 E, Both Try.prog 13 22 f l w fr b1 b2 E := by
  have hnd : ∀ n ∈ l, n.name.size ≤ maxLen ∧ n.l.length ≤ maxLen := fun n h => (hl n h).1
  by_cases hno : fr < 0 ∨ (w.size : Int) < fr ∨ plainS l = false
  · have hwm : w.size ≤ maxLen := by unfold maxLen; omega
    exact ⟨true, true, [], endsNo_c f l w fr hnd hwm hno, ends7No_c f l w fr hll hnd hwm hno, by simp, by simp, .nil, by simp⟩
  · have hp : plainS l = true := by cases h : plainS l; exact absurd (.inr (.inr h)) hno; rfl
    obtain ⟨fo, hd, rfl, hs, hz, h6⟩ := (plain_fo l).1 hp
    obtain ⟨i, rfl⟩ : ∃ i : Nat, fr = i := ⟨fr.toNat, by omega⟩
    have hi : i ≤ w.size := by omega
    refine ⟨false, false, endT w fo i, endsTop_c hw f fo hd hs hz h6 (fit_words hl) i hi, ends7Top_c (by omega) f fo hd hs hz h6 i hi, ?_, ?_, endT_rise _ _ _, by have := endT_len (w := w) hd i; omega⟩
    · intro x hx
      obtain ⟨k, rfl, h1, _⟩ := (endT_mem hd hs i x).1 hx
      omega
    · intro x hx
      obtain ⟨k, rfl, _, h1, _⟩ := (endT_mem hd hs i x).1 hx
      omega
end Go.Rad
/- The statements of layer 7: LangTells. -/
namespace Go.Rad
open Go Go.Proofs
set_option linter.all false
set_option maxRecDepth 20000
set_option maxHeartbeats 4000000

theorem cut_size {w : ByteArray} {n : Nat} : (w.extract 0 (min w.size n)).size ≤ n := by rw [ByteArray.size_extract]; omega
theorem langTells_c (l : List Node) (w : ByteArray) (fr : Int) (hl : l.length ≤ maxLen) (hn : ∀ n ∈ l, nodeFit n) (hw : w.size ≤ maxLen) :
    ACall Try.prog 5 [.sl true false (nodes l), .str w, .int .i64 fr] [] fun r _ => r = .bool true := by
  have hf := few7uc l hl
  have ht := text7uc w hw
  have hx : ∀ n ∈ l.take 60, nodeFit n := fun n h => hn n (List.mem_of_mem_take h)
  have hxl : (l.take 60).length ≤ 60 := by rw [List.length_take]; omega
  have hy := cut_size (w := w) (n := 20)
  generalize l.take 60 = x at hf hx hxl
  generalize w.extract 0 (min w.size 20) = y at ht hy
  clear hn hl hw
  have hli := light7uc x hxl fun n h => (hx n h).1
  obtain ⟨b1, b2, E, hE⟩ := both_c (f := false) (fr := fr) (show x.length ≤ maxLen by unfold maxLen; omega) hx (show y.size ≤ 900000 by omega)
  obtain ⟨b3, b4, E0, hE0⟩ := both_c (f := false) (fr := 0) (show x.length ≤ maxLen by unfold maxLen; omega) hx (show y.size ≤ 900000 by omega)
  have hL := longest_c hE.a hE.len hE.from'
  have hL7 := longest7uc hE.b hE.len
  have hI := isL_c hE0.a hE0.len hE0.rise
  have hI7 := is7uc hE0.b hE0.len hE0.rise hE0.upto
  have hi := ints7uc true b1 true b2 E E (by have := hE.len; omega)
  rw [decide_eq_true rfl] at hi
  have ha := hE.a
  have hb := hE.b
  generalize E0.contains (y.size : Int) = is at hI hI7
  generalize longS E fr = n at hL hL7
  clear hE hE0 hx
  obtain ⟨n, ok⟩ := n
  refine ACall.enter Try.func5 rfl (by kernel_rfl) (Nat.le_of_ble_eq_true rfl) ?_; simp only [initTm, Nat.reduceAdd]
  repeat' (first
  | refine gSq ?_ | refine gSk ?_ | refine gBl ?_ | refine gIb ?_ | refine gEx rfl ?_
  | ((first
  | (refine gRg [] [0, 1, 2, 6, 7, 8, 9, 10, 11, 12, 13, 21] ?_; intro K hK)
  | refine cAl (shown7uc) rfl rfl rfl ?_
  | refine cAl (hf) rfl rfl rfl ?_
  | refine cAl (ht) rfl rfl rfl ?_
  | refine cAl (hL) rfl rfl rfl ?_
  | refine cAl (hL7) rfl rfl rfl ?_
  | refine cAl (ha) rfl rfl rfl ?_
  | refine cAl (hb) rfl rfl rfl ?_
  | refine cAl (hi) rfl rfl rfl ?_
  | refine cAl (hI) rfl rfl rfl ?_
  | refine cAl (hI7) rfl rfl rfl ?_
  | (refine ACall.use [] [] rfl hli rfl rfl rfl ?_; rintro _ _ ⟨⟨b, rfl⟩, rfl⟩; refine ⟨.inl rfl, rfl, ?_⟩; simp only [bk, bk1, bkS, delAll, go_sem, simprocAttr])
  | (refine gd_split ?_ ?_ <;> intro hb <;> (try simp only [bls] at hb) <;> (try simp only [hb]))
  | refine gRt [] [.tmp 6] rfl ?_ | refine gDn [] [.tmp 6] rfl ?_) <;> (try simp only [go_sem, simprocAttr, eq_self, beq_self_eq_true]))
  | (refine hK _ _ ?_; clear hK K; simp only [go_sem, simprocAttr])
  | refine gCd (by simp only [go_sem, simprocAttr]; rfl) rfl ?_
  | refine brT ?_ | refine brF ?_
  | (refine brS ?_ ?_ <;> intro hc <;> (try simp only [bls] at hc) <;> (try simp only [hc, bls]))
  | intro _ | refine And.intro ?_ ?_)
  all_goals first | omega | (unfold bigLen; omega) | exact ⟨_, _, ⟨rfl, rfl⟩, rfl⟩ | exact ⟨_, rfl⟩ | (rename_i hy; simp only [List.mem_singleton] at hy; subst hy; rfl) | with_reducible rfl | skip
end Go.Rad
/- What the last texts of layer 8 share. -/
namespace Go.Rad
open Go Go.Proofs
theorem nodeT : NodeTy LL 38 := ⟨5, 36, 27, 3, 9, 34, rfl, rfl, rfl, rfl, rfl, rfl, rfl⟩
theorem ownF : ownKnob Try.prog.godebug = none := by kernel_rfl
theorem laidF : laidOutB Try.prog = true := by kernel_rfl
abbrev kks (i : IntKind) (l : List Int) : List (List AVal) := l.map fun n => [.int i n]
theorem ty_ks {L : Lay} {k t e : Nat} {y : List AVal} {i : IntKind} (ht : (L t).ty = .slice e) (he : (L e).ty = .int i) (h : typed L (k + 2) t y) : ∃ l : List Int, y = [.sl true false (kks i l)] ∧ l.length ≤ maxLen ∧ ∀ n ∈ l, fits i n := by
  obtain ⟨l, rfl, hl, hx⟩ := ty_slice ht h
  obtain ⟨ns, rfl, hf⟩ := list_of (F := fun n => [AVal.int i n]) (P := fun n => fits i n) fun x hx' => by
    obtain ⟨n, rfl, hf⟩ := ty_int he (hx x hx')
    exact ⟨n, rfl, hf⟩
  exact ⟨ns, rfl, by simpa using hl, hf⟩
end Go.Rad
