/- Sets of nodes whose words are what their kinds hold. -/
import Derived.Test.YtjhcamnmfjkidaaGreatKRGlushA
import Derived.Test.YtjhcamnmfjkidaaGreatKP09a
set_option linter.all false
namespace Go.Rad
open Go
def ISet.N (s : ISet) : NSet := ⟨s.a.toNat, s.b.toNat, s.c.toNat, s.d.toNat⟩
def ISet.okI (s : ISet) : Prop := fits .u64 s.a ∧ fits .u64 s.b ∧ fits .u64 s.c ∧ fits .u64 s.d
theorem okI_N {s : ISet} (h : s.okI) : s.N.ok ∧ s = s.N.I := by
  obtain ⟨a, b, c, d⟩ := s
  obtain ⟨h1, h2, h3, h4⟩ := h
  obtain ⟨a, rfl, k1⟩ := fit64 h1
  obtain ⟨b, rfl, k2⟩ := fit64 h2
  obtain ⟨c, rfl, k3⟩ := fit64 h3
  obtain ⟨d, rfl, k4⟩ := fit64 h4
  exact ⟨⟨k1, k2, k3, k4⟩, rfl⟩
section
variable {L : Lay} {k t : Nat} {y : List AVal}
theorem ty_setF {e : Nat} (ht : (L t).ty = .array 4 e) (he : (L e).ty = .int .u64) (h : typed L (k + 2) t y) : ∃ s : ISet, y = s.cells ∧ s.okI := by
  have h := ty_array ht h
  obtain ⟨x1, r1, rfl, h1, x2, r2, rfl, h2, x3, r3, rfl, h3, x4, r4, rfl, h4, rfl⟩ := h
  obtain ⟨a, rfl, f1⟩ := ty_int he h1
  obtain ⟨b, rfl, f2⟩ := ty_int he h2
  obtain ⟨c, rfl, f3⟩ := ty_int he h3
  obtain ⟨d, rfl, f4⟩ := ty_int he h4
  exact ⟨⟨a, b, c, d⟩, rfl, f1, f2, f3, f4⟩
def nodeFit (n : Node) : Prop := (n.name.size ≤ maxLen ∧ n.l.length ≤ maxLen) ∧ n.s.okI
theorem ty_nodeF (hn : NodeTy L t) (h : typed L (k + 3) t y) : ∃ n : Node, y = n.cells ∧ nodeFit n := by
  obtain ⟨o, st, l, i, s, w, h1, h2, h3, h4, h5, h6, h7⟩ := hn.ex
  have h := ty_struct h1 h
  obtain ⟨x1, r1, rfl, p1, x2, r2, rfl, p2, x3, r3, rfl, p3, x4, r4, rfl, p4, x5, r5, rfl, p5, x6, r6, rfl, p6, rfl⟩ := h
  obtain ⟨no, rfl, _⟩ := ty_int h2 p1
  obtain ⟨ns, rfl, hst⟩ := ty_setF h3 h4 p2
  obtain ⟨nl, rfl, hl⟩ := ty_ints h5 h6 p3
  obtain ⟨nlo, rfl, _⟩ := ty_int h6 p4
  obtain ⟨nhi, rfl, _⟩ := ty_int h6 p5
  obtain ⟨nn, rfl, hs⟩ := ty_str h7 p6
  exact ⟨⟨no, ns, nl, nlo, nhi, nn⟩, rfl, ⟨hs, hl⟩, hst⟩
theorem ty_nodesF {e : Nat} (ht : (L t).ty = .slice e) (hn : NodeTy L e) (h : typed L (k + 4) t y) : ∃ l : List Node, y = [.sl true false (nodes l)] ∧ l.length ≤ maxLen ∧ ∀ n ∈ l, nodeFit n := by
  obtain ⟨l, rfl, hl, hx⟩ := ty_slice ht h
  obtain ⟨ns, rfl, hns⟩ := list_of (F := Node.cells) (P := nodeFit) fun x hx' => ty_nodeF hn (hx x hx')
  exact ⟨ns, rfl, by simpa using hl, hns⟩
theorem ty_defsF {e : Nat} (ht : (L t).ty = .slice e) (hn : DefTy L e) (h : typed L (k + 6) t y) : ∃ l : List Df, y = [.sl true false (defs l)] ∧ l.length ≤ maxLen ∧ ∀ d ∈ l, d.name.size ≤ maxLen ∧ d.l.length ≤ maxLen ∧ ∀ n ∈ d.l, nodeFit n := by
  obtain ⟨s, ln, n, h1, h2, h3, h4⟩ := hn.ex
  obtain ⟨l, rfl, hl, hx⟩ := ty_slice ht h
  obtain ⟨ds, rfl, hds⟩ := list_of (F := Df.cells) (P := fun d => d.name.size ≤ maxLen ∧ d.l.length ≤ maxLen ∧ ∀ n ∈ d.l, nodeFit n) fun x hx' => by
    have h := ty_struct h1 (hx x hx')
    obtain ⟨x1, r1, rfl, p1, x2, r2, rfl, p2, rfl⟩ := h
    obtain ⟨nn, rfl, hs⟩ := ty_str h2 p1
    obtain ⟨dl, rfl, hd1, hd2⟩ := ty_nodesF h3 h4 p2
    exact ⟨⟨nn, dl⟩, rfl, hs, hd1, hd2⟩
  exact ⟨ds, rfl, by simpa using hl, hds⟩
end
end Go.Rad
/- What arguments that are places, or trees, are. -/
namespace Go.Rad
open Go
abbrev Po.cellsY (p : Po) : List AVal := p.s.cells ++ [.int .i64 p.lo, .int .i64 p.hi, .int .i64 p.rule, .bool p.last, .sl true false (ints p.next)]
section
variable {L : Lay} {k t : Nat} {y : List AVal}
structure PosTy (L : Lay) (t : Nat) : Prop where
  ex : ∃ st w i b l : Nat, (L t).ty = .struct [(0, st), (4, i), (5, i), (6, i), (7, b), (8, l)] ∧ (L st).ty = .array 4 w ∧ (L w).ty = .int .u64 ∧ (L i).ty = .int .i64 ∧ (L b).ty = .bool ∧ (L l).ty = .slice i
theorem ty_pos (hn : PosTy L t) (h : typed L (k + 3) t y) : ∃ p : Po, y = p.cellsY ∧ p.next.length ≤ maxLen := by
  obtain ⟨st, w, i, b, l, h1, h2, h3, h4, h5, h6⟩ := hn.ex
  have h := ty_struct h1 h
  obtain ⟨x1, r1, rfl, p1, x2, r2, rfl, p2, x3, r3, rfl, p3, x4, r4, rfl, p4, x5, r5, rfl, p5, x6, r6, rfl, p6, rfl⟩ := h
  obtain ⟨s, rfl, _⟩ := ty_setF h2 h3 p1
  obtain ⟨lo, rfl, _⟩ := ty_int h4 p2
  obtain ⟨hi, rfl, _⟩ := ty_int h4 p3
  obtain ⟨ru, rfl, _⟩ := ty_int h4 p4
  obtain ⟨la, rfl⟩ := ty_bool h5 p5
  obtain ⟨nx, rfl, hl⟩ := ty_ints h6 h4 p6
  exact ⟨⟨s, lo, hi, ru, la, nx⟩, rfl, hl⟩
structure GlushTy (L : Lay) (t : Nat) : Prop where
  ex : ∃ f p i e : Nat, (L t).ty = .struct [(0, f), (1, p)] ∧ (L f).ty = .slice i ∧ (L i).ty = .int .i64 ∧ (L p).ty = .slice e ∧ PosTy L e
theorem ty_glush (hn : GlushTy L t) (h : typed L (k + 5) t y) : ∃ (fi : List Int) (ps : List Po), y = [.sl true false (ints fi), .sl true false (ps.map Po.cellsY)] ∧ fi.length ≤ maxLen ∧ ps.length ≤ maxLen ∧ ∀ p ∈ ps, p.next.length ≤ maxLen := by
  obtain ⟨f, p, i, e, h1, h2, h3, h4, h5⟩ := hn.ex
  have h := ty_struct h1 h
  obtain ⟨x1, r1, rfl, p1, x2, r2, rfl, p2, rfl⟩ := h
  obtain ⟨fi, rfl, hf⟩ := ty_ints h2 h3 p1
  obtain ⟨l, rfl, hl, hx⟩ := ty_slice h4 p2
  obtain ⟨ps, rfl, hps⟩ := list_of (F := Po.cellsY) (P := fun p => p.next.length ≤ maxLen) fun x hx' => ty_pos h5 (hx x hx')
  exact ⟨fi, ps, rfl, hf, by simpa using hl, hps⟩
theorem ty_trees {e n : Nat} (ht : (L t).ty = .slice e) (he : (L e).ty = .slice n) (hn : NodeTy L n) (h : typed L (k + 5) t y) : ∃ ls : List (List Node), y = [.sl true false (ls.map fun x => [.sl true false (nodes x)])] ∧ ls.length ≤ maxLen ∧ ∀ x ∈ ls, x.length ≤ maxLen ∧ ∀ n ∈ x, n.name.size ≤ maxLen ∧ n.l.length ≤ maxLen := by
  obtain ⟨l, rfl, hl, hx⟩ := ty_slice ht h
  obtain ⟨ls, rfl, hls⟩ := list_of (F := fun x : List Node => [AVal.sl true false (nodes x)]) (P := fun x => x.length ≤ maxLen ∧ ∀ n ∈ x, n.name.size ≤ maxLen ∧ n.l.length ≤ maxLen) fun x hx' => by
    obtain ⟨ns, rfl, h1, h2⟩ := ty_nodes he hn (hx x hx')
    exact ⟨ns, rfl, h1, h2⟩
  exact ⟨ls, rfl, by simpa using hl, hls⟩
end
end Go.Rad
