/- A part of the proof. -/
import Derived.Test.YtmbhpolhiblhoaaGreatDoorKP15c
import Derived.Test.YtmbhpolhiblhoaaGreatDoorKC03c
import Derived.Test.YtmbhpolhiblhoaaGreatDoorKP15b
import Derived.Test.YtmbhpolhiblhoaaGreatDoorKP15a
import Derived.Shelf.Small.Bits
import Derived.Shelf.Small.Wraps
import Derived.Shelf.Strconv.Itoa0
import Derived.Shelf.Sort.Plain
import Derived.Shelf.Slices.Equal
import Derived.Ground.Names2Prog
import Derived.Shelf.Slices.Clone
import Derived.Shelf.Slices.CompactI
import Derived.Shelf.Slices.Cells
import Derived.Shelf.Slices.In.SortNone
import Derived.Shelf.Slices.Empties2
import Derived.Ground.SlgnProg
import Derived.Shelf.SlicesE.Clone
import Derived.Test.YtmbhpolhiblhoaaGreatDoorProg
import Derived.Test.YtmbhpolhiblhoaaGreatDoorKRDefer
import Derived.Deep.Draws
import Derived.Shelf.SlGeneric
import Derived.Shelf.Spec.SlicesGrow
import Derived.Ground.Names8Prog
import Derived.Test.YtmbhpolhiblhoaaGreatDoorKC05a
set_option linter.all false
namespace Go.Rad
open Go Go.Proofs
set_option linter.all false
set_option maxRecDepth 20000
set_option maxHeartbeats 4000000
def Ed (P : Program) (fno : Nat) (q f : Bool) (ns : List Node) (w : ByteArray) (kd : Int) (g : List Bool → List Bool) : Prop :=
 ∀ s : List Bool, s.length = w.size + 1 → ah P fno [.sl q f (nodes ns), .int .i64 kd, .str w, .sl true false (br s)] [] fun r s' => r = .sl true false (br (g s)) ∧ s' = []
theorem Js {q f : Bool} {ns : List Node} {w : ByteArray} (hw : w.size ≤ 1000000) (n : Node) (kid : Int) (g : List Bool → List Bool) (hn : n.l = [kid]) (hlo : 0 ≤ n.lo ∧ n.lo ≤ 4096) (hhi : n.hi = -1 ∨ n.lo ≤ n.hi ∧ n.hi ≤ 4096) (hk : Ed Tryz.prog 73 q f ns w kid g) (hg : Add (w.size + 1) g) (s : List Bool) (hs : s.length = w.size + 1) :
  ah Tryz.prog 98 [.sl q f (nodes ns), .agg n.cells, .str w, .sl true false (br s)] [] fun r s' => r = .sl true false (br (km w n.lo n.hi g s)) ∧ s' = [] := by
 obtain ⟨xo, ⟨xa, xb, xc, xd⟩, xl, xlo, xhi, xn⟩ := n
 simp only at hn hlo hhi
 have hx0 : xl[0]? = some kid := by rw [hn]; rfl
 have e0 : (0 : Int) < xl.length := by rw [hn]; exact Int.one_pos
 clear hn
 obtain ⟨lo, rfl⟩ : ∃ lo : Nat, xlo = lo := ⟨xlo.toNat, by omega⟩
 simp only [Node.cells, Node.eJ]
 obtain ⟨S1, hS1⟩ : ∃ S1, S1 = itB g lo s := ⟨_, rfl⟩
 have hS1l : S1.length = w.size + 1 := by rw [hS1]; exact di hg hs lo
 obtain ⟨M, hM⟩ : ∃ M : Nat, M = if xhi = -1 then w.size + 1 else (xhi - lo).toNat := ⟨_, rfl⟩
 have hrep : km w lo xhi g s = uB g M S1 := by rw [km, ← hM, Int.toNat_natCast, ← hS1]
 rw [hrep]
 clear hrep
 refine ah.enter Tryz.func98 rfl (by kernel_rfl) (Nat.le_of_ble_eq_true rfl) ?_; simp only [ai, Nat.reduceAdd]
 repeat' (first
 | refine gCt rfl ?_
 | ((first
 | ((first | refine gR fp98 ?_); intro K hK)
 | (refine ab ?_ ?_ <;> intro hb <;> (try simp only [bls] at hb) <;> (try simp only [hb]))
 | refine gRe [] [.tmp 8] rfl rfl ?_) <;> (try simp only [go_sem, simprocAttr]))
 | (refine hK _ _ ?_; clear hK K; simp only [go_sem, simprocAttr])
 | refine gCd ?_ | refine brT ?_ | refine brF ?_
 | (refine brS ?_ ?_ <;> intro hc <;> (try simp only [bls] at hc) <;> (try simp only [hc, bls]))
 | intro _ | refine And.intro ?_ ?_)
 all_goals try exact zsd
 rename_i h5
 refine ae.prune [0, 2, 3, 5, 8, 9] ?_; simp only [go_sem, simprocAttr]
 apply hv0
 case main =>
  intro key
  refine ae.al (α := Nat) (fun i => ([(0, .sl q f (nodes ns)), (2, .str w), (3, .sl true false (br (itB g i s))), (5, .bx 5 h5 0), (8, .sl true true []), (9, .int .i64 i)], [(5, h5, .box [.int .u8 xo, .int .u64 xa, .int .u64 xb, .int .u64 xc, .int .u64 xd, .sl true false (ints xl), .int .i64 lo, .int .i64 xhi, .str xn])]))
   (fun i => i ≤ lo) (fun i => lo - i) 0 (Nat.zero_le _) rfl ?_
  rintro i hi ih
  simp only at hi ih ⊢
  have hil := di hg hs i
  by_cases hle : i < lo
  ·have e4 : (i : Int) < lo := by omega
   have e6 : (i : Int) + 1 = ((i + 1 : Nat) : Int) := by omega
   have hc := hk (itB g i s) hil
   rw [← gq g] at hc
   have hsm := wC true false true false (itB g (i + 1) s) (itB g i s) (by rw [di hg hs, hil]) (by rw [di hg hs]; omega)
   by_cases hst : itB g (i + 1) s = itB g i s
   ·rw [decide_eq_true hst] at hsm
    have hfin : itB g i s = S1 := by
     have := vS (g := g) (s := s) (i := i) (show g (itB g i s) = itB g i s by rw [← gq g]; exact hst) (lo - i)
     rw [show i + (lo - i) = lo by omega] at this
     rw [hS1, this]
    rw [hst] at hc hsm
    rw [hfin] at hc hsm ⊢
    repeat' (first
 | (refine ae.at 7 ?_; (refine ae.prune [0, 2, 3, 5, 8] ?_; simp only [go_sem, simprocAttr]; refine tH ?_))
 | refine gCt rfl ?_
 | ((first
 | ((first | refine gR fp98 ?_); intro K hK)
 | refine cAl (hc) rfl rfl rfl ?_
 | refine cAl (hsm) rfl rfl rfl ?_
 | (refine ab ?_ ?_ <;> intro hb <;> (try simp only [bls] at hb) <;> (try simp only [hb]))
 | refine gRe [] [.tmp 8] rfl rfl ?_) <;> (try simp only [go_sem, simprocAttr, e4, e6, hx0, e0, Option.some.injEq, forall_eq']))
 | (refine hK _ _ ?_; clear hK K; simp only [go_sem, simprocAttr])
 | refine gCd ?_ | refine brT ?_ | refine brF ?_
 | (refine brS ?_ ?_ <;> intro hc <;> (try simp only [bls] at hc) <;> (try simp only [hc, bls]))
 | intro _ | refine And.intro ?_ ?_)
    all_goals try exact zsd
    refine tG ?_; exact key.out
   ·rw [decide_eq_false hst] at hsm
    repeat' (first
 | refine gCt rfl ?_
 | ((first
 | ((first | refine gR fp98 ?_); intro K hK)
 | refine cAl (hc) rfl rfl rfl ?_
 | refine cAl (hsm) rfl rfl rfl ?_
 | (refine ab ?_ ?_ <;> intro hb <;> (try simp only [bls] at hb) <;> (try simp only [hb]))
 | refine gRe [] [.tmp 8] rfl rfl ?_) <;> (try simp only [go_sem, simprocAttr, e4, e6, hx0, e0, Option.some.injEq, forall_eq']))
 | (refine hK _ _ ?_; clear hK K; simp only [go_sem, simprocAttr])
 | refine gCd ?_ | refine brT ?_ | refine brF ?_
 | (refine brS ?_ ?_ <;> intro hc <;> (try simp only [bls] at hc) <;> (try simp only [hc, bls]))
 | intro _ | refine And.intro ?_ ?_)
    all_goals try exact zsd
    refine ae.bC [5] ?_
    simp only [aq, ax, go_sem, simprocAttr]
    refine ae.prune [0, 2, 3, 5, 8, 9] ?_; simp only [go_sem, simprocAttr]
    exact (ih (i + 1) (by omega) (by omega)).cast rfl rfl
  ·have e4 : ¬ (i : Int) < lo := by omega
   have hfin : itB g i s = S1 := by rw [hS1, show i = lo by omega]
   rw [hfin]
   repeat' (first
 | (refine ae.at 7 ?_; (refine ae.prune [0, 2, 3, 5, 8] ?_; simp only [go_sem, simprocAttr]; refine tH ?_))
 | refine gCt rfl ?_
 | ((first
 | ((first | refine gR fp98 ?_); intro K hK)
 | (refine ab ?_ ?_ <;> intro hb <;> (try simp only [bls] at hb) <;> (try simp only [hb]))
 | refine gRe [] [.tmp 8] rfl rfl ?_) <;> (try simp only [go_sem, simprocAttr, e4]))
 | (refine hK _ _ ?_; clear hK K; simp only [go_sem, simprocAttr])
 | refine gCd ?_ | refine brT ?_ | refine brF ?_
 | (refine brS ?_ ?_ <;> intro hc <;> (try simp only [bls] at hc) <;> (try simp only [hc, bls]))
 | intro _ | refine And.intro ?_ ?_)
   refine tG ?_; exact key.out
 case key =>
  clear hS1 hs
  repeat' (first
 | refine gCt rfl ?_
 | ((first
 | ((first | refine gR fp98 ?_); intro K hK)
 | (refine ab ?_ ?_ <;> intro hb <;> (try simp only [bls] at hb) <;> (try simp only [hb]))
 | refine gRe [] [.tmp 8] rfl rfl ?_) <;> (try simp only [go_sem, simprocAttr]))
 | (refine hK _ _ ?_; clear hK K; simp only [go_sem, simprocAttr])
 | refine gCd ?_ | refine brT ?_ | refine brF ?_
 | (refine brS ?_ ?_ <;> intro hc <;> (try simp only [bls] at hc) <;> (try simp only [hc, bls]))
 | intro _ | refine And.intro ?_ ?_)
  refine ae.prune [0, 2, 3, 5, 8, 11, 12] ?_; simp only [go_sem, simprocAttr]
  refine ae.al (α := Nat) (fun k => ([(0, .sl q f (nodes ns)), (2, .str w), (3, .sl true false (br (itB g k S1))), (5, .bx 5 h5 0), (8, .sl true true []), (11, .sl true false (br (uB g k S1))), (12, .int .i64 (lo + k : Nat))], [(5, h5, .box [.int .u8 xo, .int .u64 xa, .int .u64 xb, .int .u64 xc, .int .u64 xd, .sl true false (ints xl), .int .i64 lo, .int .i64 xhi, .str xn])]))
   (fun k => k ≤ c7 (uB g k S1) ∧ (xhi = -1 ∨ k ≤ M)) (fun k => w.size + 1 - k) 0 ⟨Nat.zero_le _, .inr (Nat.zero_le _)⟩ rfl ?_
  rintro k ⟨hkc, hkM⟩ ih
  simp only at hkc hkM ih ⊢
  have hul := jr hg hS1l k
  have hil := di hg hS1l k
  have hcl : c7 (uB g k S1) ≤ w.size + 1 := by rw [← hul]; exact ng
  by_cases hgo : xhi = -1 ∨ k < M
  ·have e6 : ((lo + k : Nat) : Int) + 1 = ((lo + (k + 1) : Nat) : Int) := by omega
   have hc := hk (itB g k S1) hil
   rw [← gq g] at hc
   have ho := Ev true false true false (uB g k S1) (itB g (k + 1) S1) (by rw [hul, di hg hS1l]) (by omega)
   rw [← oL hg hS1l] at ho
   have hsm := wC true false true false (uB g (k + 1) S1) (uB g k S1) (by rw [hul, jr hg hS1l]) (by rw [jr hg hS1l]; omega)
   have hgr := qq hul (di hg hS1l (k + 1))
   rw [← oL hg hS1l] at hgr
   by_cases hst : uB g (k + 1) S1 = uB g k S1
   ·rw [decide_eq_true hst] at hsm
    have hfin : uB g M S1 = uB g k S1 := by
     rcases hgo with h1 | h1
     ·rw [hM, if_pos h1]; exact Ew hg hS1l hst
     ·have := jM hg hS1l hst (M - k)
      rw [show k + (M - k) = M by omega] at this
      exact this
    rw [hfin]
    rw [hst] at ho hsm
    by_cases h1 : xhi = -1
    ·have e7 : ¬ ((lo + k : Nat) : Int) < xhi := by omega
     repeat' (first
 | refine gCt rfl ?_
 | ((first
 | ((first | refine gR fp98 ?_); intro K hK)
 | refine cAl (hc) rfl rfl rfl ?_
 | refine cAl (ho) rfl rfl rfl ?_
 | refine cAl (hsm) rfl rfl rfl ?_
 | (refine ab ?_ ?_ <;> intro hb <;> (try simp only [bls] at hb) <;> (try simp only [hb]))
 | refine gRe [] [.tmp 8] rfl rfl ?_) <;> (try simp only [go_sem, simprocAttr, e6, e7, eq_true h1, hx0, e0, Option.some.injEq, forall_eq']))
 | (refine hK _ _ ?_; clear hK K; simp only [go_sem, simprocAttr])
 | refine gCd ?_ | refine brT ?_ | refine brF ?_
 | (refine brS ?_ ?_ <;> intro hc <;> (try simp only [bls] at hc) <;> (try simp only [hc, bls]))
 | intro _ | refine And.intro ?_ ?_)
     all_goals try exact zsd
    ·have e7 : ((lo + k : Nat) : Int) < xhi := by rw [if_neg h1] at hM; omega
     repeat' (first
 | refine gCt rfl ?_
 | ((first
 | ((first | refine gR fp98 ?_); intro K hK)
 | refine cAl (hc) rfl rfl rfl ?_
 | refine cAl (ho) rfl rfl rfl ?_
 | refine cAl (hsm) rfl rfl rfl ?_
 | (refine ab ?_ ?_ <;> intro hb <;> (try simp only [bls] at hb) <;> (try simp only [hb]))
 | refine gRe [] [.tmp 8] rfl rfl ?_) <;> (try simp only [go_sem, simprocAttr, e6, e7, h1, hx0, e0, Option.some.injEq, forall_eq']))
 | (refine hK _ _ ?_; clear hK K; simp only [go_sem, simprocAttr])
 | refine gCd ?_ | refine brT ?_ | refine brF ?_
 | (refine brS ?_ ?_ <;> intro hc <;> (try simp only [bls] at hc) <;> (try simp only [hc, bls]))
 | intro _ | refine And.intro ?_ ?_)
     all_goals try exact zsd
   ·rw [decide_eq_false hst] at hsm
    have hlt : c7 (uB g k S1) ≠ c7 (uB g (k + 1) S1) := fun e => hst (hgr.2 e)
    have hcl2 : c7 (uB g (k + 1) S1) ≤ w.size + 1 := by rw [← jr hg hS1l (k + 1)]; exact ng
    by_cases h1 : xhi = -1
    ·have e7 : ¬ ((lo + k : Nat) : Int) < xhi := by omega
     repeat' (first
 | refine gCt rfl ?_
 | ((first
 | ((first | refine gR fp98 ?_); intro K hK)
 | refine cAl (hc) rfl rfl rfl ?_
 | refine cAl (ho) rfl rfl rfl ?_
 | refine cAl (hsm) rfl rfl rfl ?_
 | (refine ab ?_ ?_ <;> intro hb <;> (try simp only [bls] at hb) <;> (try simp only [hb]))
 | refine gRe [] [.tmp 8] rfl rfl ?_) <;> (try simp only [go_sem, simprocAttr, e6, e7, eq_true h1, hx0, e0, Option.some.injEq, forall_eq']))
 | (refine hK _ _ ?_; clear hK K; simp only [go_sem, simprocAttr])
 | refine gCd ?_ | refine brT ?_ | refine brF ?_
 | (refine brS ?_ ?_ <;> intro hc <;> (try simp only [bls] at hc) <;> (try simp only [hc, bls]))
 | intro _ | refine And.intro ?_ ?_)
     all_goals try exact zsd
     refine ae.bC [5] ?_
     simp only [aq, ax, go_sem, simprocAttr]
     refine ae.prune [0, 2, 3, 5, 8, 11, 12] ?_; simp only [go_sem, simprocAttr]
     exact (ih (k + 1) ⟨by omega, .inl h1⟩ (by omega)).cast rfl rfl
    ·have e7 : ((lo + k : Nat) : Int) < xhi := by rw [if_neg h1] at hM; omega
     repeat' (first
 | refine gCt rfl ?_
 | ((first
 | ((first | refine gR fp98 ?_); intro K hK)
 | refine cAl (hc) rfl rfl rfl ?_
 | refine cAl (ho) rfl rfl rfl ?_
 | refine cAl (hsm) rfl rfl rfl ?_
 | (refine ab ?_ ?_ <;> intro hb <;> (try simp only [bls] at hb) <;> (try simp only [hb]))
 | refine gRe [] [.tmp 8] rfl rfl ?_) <;> (try simp only [go_sem, simprocAttr, e6, e7, h1, hx0, e0, Option.some.injEq, forall_eq']))
 | (refine hK _ _ ?_; clear hK K; simp only [go_sem, simprocAttr])
 | refine gCd ?_ | refine brT ?_ | refine brF ?_
 | (refine brS ?_ ?_ <;> intro hc <;> (try simp only [bls] at hc) <;> (try simp only [hc, bls]))
 | intro _ | refine And.intro ?_ ?_)
     all_goals try exact zsd
     refine ae.bC [5] ?_
     simp only [aq, ax, go_sem, simprocAttr]
     refine ae.prune [0, 2, 3, 5, 8, 11, 12] ?_; simp only [go_sem, simprocAttr]
     exact (ih (k + 1) ⟨by omega, .inr (by omega)⟩ (by omega)).cast rfl rfl
  ·have h1 : ¬ xhi = -1 := fun h => hgo (.inl h)
   have e7 : ¬ ((lo + k : Nat) : Int) < xhi := by rw [if_neg h1] at hM; omega
   have hkm : k = M := by omega
   subst hkm
   clear ih
   repeat' (first
 | refine gCt rfl ?_
 | ((first
 | ((first | refine gR fp98 ?_); intro K hK)
 | (refine ab ?_ ?_ <;> intro hb <;> (try simp only [bls] at hb) <;> (try simp only [hb]))
 | refine gRe [] [.tmp 8] rfl rfl ?_) <;> (try simp only [go_sem, simprocAttr, e7, h1]))
 | (refine hK _ _ ?_; clear hK K; simp only [go_sem, simprocAttr])
 | refine gCd ?_ | refine brT ?_ | refine brF ?_
 | (refine brS ?_ ?_ <;> intro hc <;> (try simp only [bls] at hc) <;> (try simp only [hc, bls]))
 | intro _ | refine And.intro ?_ ?_)
   all_goals try exact zsd
theorem qz {q f : Bool} {ns : List Node} {w : ByteArray} (hw : w.size ≤ 1000000) (hll : ns.length ≤ 1000000) : ∀ (fo : Fo) (ks : List Int), fo.Sub ns ks → fo.cM = true → fo.size ≤ 1000000 → ∀ (j : Nat) (kd : Int) (g : List Bool → List Bool), ks[j]? = some kd → (sem w fo)[j]? = some g → Ed Tryz.prog 73 q f ns w kd g
 | .nil, ks, hs, _, _, j, kd, g, hj, hg => by simp [sem] at hg
 | .node b k r, ks, hsub, hsh, hsz, j, kd, g, hj, hg => by
  obtain ⟨i, n, ks', rfl, h1, h2, h3, h4⟩ := hsub
  simp only [Fo.cM, Fo.all, Bool.and_eq_true] at hsh
  simp only [Fo.size] at hsz
  cases j with
  | succ j => exact qz hw hll r ks' h4 hsh.2 (by omega) j kd g (by simpa using hj) (by simpa [sem] using hg)
  | zero =>
   simp only [List.getElem?_cons_zero, Option.some.injEq, sem] at hj hg
   subst hj hg
   have ih := qz (q := q) (f := f) hw hll k n.l h3 hsh.1.2 (by omega)
   have hlen := h3.len
   have hsl := iY w k
   have hadd := iX w k
   have hkd : k.deg ≤ 1000000 := Nat.le_trans (Fo.ur k) (by omega)
   generalize sem w k = fs at ih hsl hadd
   have hshape := hsh.1.1
   have hlk : n.l.length = fs.length := by omega
   rw [← hlen] at hshape
   clear h3 h4 hsh
   intro s hs
   have hi := (List.getElem?_eq_some_iff.1 h1).1
   have e1 : (i : Int) < ns.length := by omega
   have e2 : (0 : Int) ≤ i := by omega
   obtain ⟨xo, ⟨xa, xb, xc, xd⟩, xl, xlo, xhi, xn⟩ := n
   subst h2
   simp only at hshape ih hlk hlen
   simp only [da]
   by_cases h2 : xo = 2
   ·rw [if_pos h2]
    have hc := Jp ⟨xa, xb, xc, xd⟩ true false w s hw hs
    simp only [av.cells] at hc
    refine ah.enter Tryz.func73 rfl (by kernel_rfl) (Nat.le_of_ble_eq_true rfl) ?_; simp only [ai, Nat.reduceAdd]
    repeat' (first
 | refine gCt rfl ?_
 | ((first
 | ((first | refine gR fp73 ?_); intro K hK)
 | refine cAl (hc) rfl rfl rfl ?_
 | (refine ab ?_ ?_ <;> intro hb <;> (try simp only [bls] at hb) <;> (try simp only [hb]))
 | refine gRe [] [.tmp 8] rfl rfl ?_) <;> (try simp only [go_sem, simprocAttr, e1, e2, h1, eq_true h2, Option.some.injEq, forall_eq']))
 | (refine hK _ _ ?_; clear hK K; simp only [go_sem, simprocAttr])
 | refine gCd ?_ | refine brT ?_ | refine brF ?_
 | (refine brS ?_ ?_ <;> intro hc <;> (try simp only [bls] at hc) <;> (try simp only [hc, bls]))
 | intro _ | refine And.intro ?_ ?_)
    all_goals try exact zsd
   ·rw [if_neg h2]
    by_cases h3 : xo = 3
    ·rw [if_pos h3]
     obtain ⟨S, hS⟩ : ∃ S, S = fs.foldl (fun s f => f s) s := ⟨_, rfl⟩
     rw [← hS]
     refine ah.enter Tryz.func73 rfl (by kernel_rfl) (Nat.le_of_ble_eq_true rfl) ?_; simp only [ai, Nat.reduceAdd]
     repeat' (first
 | refine gCt rfl ?_
 | ((first
 | ((first | refine gR fp73 ?_); intro K hK)
 | (refine ab ?_ ?_ <;> intro hb <;> (try simp only [bls] at hb) <;> (try simp only [hb]))
 | refine gRe [] [.tmp 8] rfl rfl ?_) <;> (try simp only [go_sem, simprocAttr, e1, e2, h1, h2, eq_true h3, Option.some.injEq, forall_eq']))
 | (refine hK _ _ ?_; clear hK K; simp only [go_sem, simprocAttr])
 | refine gCd ?_ | refine brT ?_ | refine brF ?_
 | (refine brS ?_ ?_ <;> intro hc <;> (try simp only [bls] at hc) <;> (try simp only [hc, bls]))
 | intro _ | refine And.intro ?_ ?_)
     all_goals try exact zsd
     rename_i h9
     refine ae.prune [0, 2, 3, 8, 9, 10] ?_; simp only [go_sem, simprocAttr]
     refine ae.al (α := Nat × List Bool) (fun z => ([(0, .sl q f (nodes ns)), (2, .str w), (3, .sl true false (br z.2)), (8, .sl true true []), (9, .bx 9 h9 0), (10, .int .i64 z.1)], [(9, h9, .box [.int .u8 xo, .int .u64 xa, .int .u64 xb, .int .u64 xc, .int .u64 xd, .sl true false (ints xl), .int .i64 xlo, .int .i64 xhi, .str xn])]))
      (fun z => z.1 ≤ xl.length ∧ z.2.length = w.size + 1 ∧ S = (fs.drop z.1).foldl (fun s f => f s) z.2) (fun z => xl.length - z.1) (0, s) ⟨Nat.zero_le _, hs, hS⟩ rfl ?_
     rintro ⟨j, t⟩ ⟨hj, ht, hrun⟩ ih2
     simp only at hj ht hrun ih2 ⊢
     by_cases hle : j < xl.length
     ·have f4 : (j : Int) < xl.length := by omega
      have f5 : (0 : Int) ≤ j := by omega
      have f6 : (j : Int) + 1 = ((j + 1 : Nat) : Int) := by omega
      have hx : xl[j]? = some xl[j] := List.getElem?_eq_getElem hle
      have hfx : fs[j]? = some (fs[j]'(by omega)) := List.getElem?_eq_getElem (by omega)
      have hc := ih j _ _ hx hfx t ht
      rw [List.drop_eq_getElem_cons (by omega : j < fs.length), List.foldl_cons] at hrun
      have ha := (hadd (fs[j]'(by omega)) (List.getElem_mem _)).len t ht
      generalize (fs[j]'(by omega)) t = u at hc hrun ha
      generalize xl[j] = kd at hx hc
      repeat' (first
 | refine gCt rfl ?_
 | ((first
 | ((first | refine gR fp73 ?_); intro K hK)
 | refine cAl (hc) rfl rfl rfl ?_
 | (refine ab ?_ ?_ <;> intro hb <;> (try simp only [bls] at hb) <;> (try simp only [hb]))
 | refine gRe [] [.tmp 8] rfl rfl ?_) <;> (try simp only [go_sem, simprocAttr, f4, f5, f6, hx, Option.some.injEq, forall_eq']))
 | (refine hK _ _ ?_; clear hK K; simp only [go_sem, simprocAttr])
 | refine gCd ?_ | refine brT ?_ | refine brF ?_
 | (refine brS ?_ ?_ <;> intro hc <;> (try simp only [bls] at hc) <;> (try simp only [hc, bls]))
 | intro _ | refine And.intro ?_ ?_)
      all_goals try exact zsd
      refine ae.bC [9] ?_
      simp only [aq, ax, go_sem, simprocAttr]
      refine ae.prune [0, 2, 3, 8, 9, 10] ?_; simp only [go_sem, simprocAttr]
      exact (ih2 (j + 1, u) ⟨by simp only; omega, ha, hrun⟩ (by simp only; omega)).cast rfl rfl
     ·have f4 : ¬ (j : Int) < xl.length := by omega
      rw [List.drop_eq_nil_of_le (by omega)] at hrun
      simp only [List.foldl_nil] at hrun
      subst hrun
      clear ih2
      repeat' (first
 | refine gCt rfl ?_
 | ((first
 | ((first | refine gR fp73 ?_); intro K hK)
 | (refine ab ?_ ?_ <;> intro hb <;> (try simp only [bls] at hb) <;> (try simp only [hb]))
 | refine gRe [] [.tmp 8] rfl rfl ?_) <;> (try simp only [go_sem, simprocAttr, f4]))
 | (refine hK _ _ ?_; clear hK K; simp only [go_sem, simprocAttr])
 | refine gCd ?_ | refine brT ?_ | refine brF ?_
 | (refine brS ?_ ?_ <;> intro hc <;> (try simp only [bls] at hc) <;> (try simp only [hc, bls]))
 | intro _ | refine And.intro ?_ ?_)
      all_goals try exact zsd
    ·rw [if_neg h3]
     by_cases h4 : xo = 4
     ·rw [if_pos h4]
      obtain ⟨S, hS⟩ : ∃ S, S = fs.foldl (fun o f => orB o (f s)) (aY (w.size + 1)) := ⟨_, rfl⟩
      rw [← hS]
      have hpl := n5 w hw
      have e15 : (br (aY (w.size + 1))).take (w.size + 1) = br (aY (w.size + 1)) := List.take_of_length_le (by simp [bZ])
      have e16 : (aY (w.size + 1)).length = w.size + 1 := bZ _
      refine ah.enter Tryz.func73 rfl (by kernel_rfl) (Nat.le_of_ble_eq_true rfl) ?_; simp only [ai, Nat.reduceAdd]
      repeat' (first
 | refine gCt rfl ?_
 | ((first
 | (refine ae.at 12 ?_; (refine ae.freeze 11 rfl ?_; simp only [rfT, rfS, rfO, rf, rf1, e15, e16, Nat.le_refl, true_and, go_sem, simprocAttr]); refine gR fp73 ?_; intro K hK)
 | ((first | refine gR fp73 ?_); intro K hK)
 | (refine ah.use [(6, 11)] [] rfl hpl rfl rfl rfl ?_; rintro _ _ ⟨h6, rfl, rfl⟩; refine ⟨.inl rfl, rfl, ?_⟩; simp only [bk, bk2, bk1, bkS, bkO, bw, aH, go_sem, simprocAttr])
 | (refine ab ?_ ?_ <;> intro hb <;> (try simp only [bls] at hb) <;> (try simp only [hb]))
 | refine gRe [] [.tmp 8] rfl rfl ?_) <;> (try simp only [go_sem, simprocAttr, e1, e2, h1, h2, h3, eq_true h4, Option.some.injEq, forall_eq']))
 | (refine hK _ _ ?_; clear hK K; simp only [go_sem, simprocAttr])
 | refine gCd ?_ | refine brT ?_ | refine brF ?_
 | (refine brS ?_ ?_ <;> intro hc <;> (try simp only [bls] at hc) <;> (try simp only [hc, bls]))
 | intro _ | refine And.intro ?_ ?_)
      all_goals try exact zsd
      rename_i h9
      refine ae.prune [0, 2, 3, 8, 9, 11, 12] ?_; simp only [go_sem, simprocAttr]
      refine ae.al (α := Nat × List Bool) (fun z => ([(0, .sl q f (nodes ns)), (2, .str w), (3, .sl true false (br s)), (8, .sl true true []), (9, .bx 9 h9 0), (11, .sl true false (br z.2)), (12, .int .i64 z.1)], [(9, h9, .box [.int .u8 xo, .int .u64 xa, .int .u64 xb, .int .u64 xc, .int .u64 xd, .sl true false (ints xl), .int .i64 xlo, .int .i64 xhi, .str xn])]))
       (fun z => z.1 ≤ xl.length ∧ z.2.length = w.size + 1 ∧ S = (fs.drop z.1).foldl (fun o f => orB o (f s)) z.2) (fun z => xl.length - z.1) (0, aY (w.size + 1)) ⟨Nat.zero_le _, bZ _, hS⟩ rfl ?_
      rintro ⟨j, t⟩ ⟨hj, ht, hrun⟩ ih2
      simp only at hj ht hrun ih2 ⊢
      by_cases hle : j < xl.length
      ·have f4 : (j : Int) < xl.length := by omega
       have f5 : (0 : Int) ≤ j := by omega
       have f6 : (j : Int) + 1 = ((j + 1 : Nat) : Int) := by omega
       have hx : xl[j]? = some xl[j] := List.getElem?_eq_getElem hle
       have hfx : fs[j]? = some (fs[j]'(by omega)) := List.getElem?_eq_getElem (by omega)
       have hc := ih j _ _ hx hfx s hs
       rw [List.drop_eq_getElem_cons (by omega : j < fs.length), List.foldl_cons] at hrun
       have ha := (hadd (fs[j]'(by omega)) (List.getElem_mem _)).len s hs
       generalize (fs[j]'(by omega)) s = u at hc hrun ha
       generalize xl[j] = kd at hx hc
       have ho := Ev true false true false t u (by omega) (by omega)
       have hol := bA ht ha
       repeat' (first
 | refine gCt rfl ?_
 | ((first
 | ((first | refine gR fp73 ?_); intro K hK)
 | refine cAl (hc) rfl rfl rfl ?_
 | refine cAl (ho) rfl rfl rfl ?_
 | (refine ab ?_ ?_ <;> intro hb <;> (try simp only [bls] at hb) <;> (try simp only [hb]))
 | refine gRe [] [.tmp 8] rfl rfl ?_) <;> (try simp only [go_sem, simprocAttr, f4, f5, f6, hx, Option.some.injEq, forall_eq']))
 | (refine hK _ _ ?_; clear hK K; simp only [go_sem, simprocAttr])
 | refine gCd ?_ | refine brT ?_ | refine brF ?_
 | (refine brS ?_ ?_ <;> intro hc <;> (try simp only [bls] at hc) <;> (try simp only [hc, bls]))
 | intro _ | refine And.intro ?_ ?_)
       all_goals try exact zsd
       refine ae.bC [9] ?_
       simp only [aq, ax, go_sem, simprocAttr]
       refine ae.prune [0, 2, 3, 8, 9, 11, 12] ?_; simp only [go_sem, simprocAttr]
       exact (ih2 (j + 1, orB t u) ⟨by simp only; omega, hol, hrun⟩ (by simp only; omega)).cast rfl rfl
      ·have f4 : ¬ (j : Int) < xl.length := by omega
       rw [List.drop_eq_nil_of_le (by omega)] at hrun
       simp only [List.foldl_nil] at hrun
       subst hrun
       clear ih2
       repeat' (first
 | refine gCt rfl ?_
 | ((first
 | ((first | refine gR fp73 ?_); intro K hK)
 | (refine ab ?_ ?_ <;> intro hb <;> (try simp only [bls] at hb) <;> (try simp only [hb]))
 | refine gRe [] [.tmp 8] rfl rfl ?_) <;> (try simp only [go_sem, simprocAttr, f4]))
 | (refine hK _ _ ?_; clear hK K; simp only [go_sem, simprocAttr])
 | refine gCd ?_ | refine brT ?_ | refine brF ?_
 | (refine brS ?_ ?_ <;> intro hc <;> (try simp only [bls] at hc) <;> (try simp only [hc, bls]))
 | intro _ | refine And.intro ?_ ?_)
       all_goals try exact zsd
     ·rw [if_neg h4]
      by_cases h5 : xo = 5
      ·rw [if_pos h5]
       obtain ⟨q1, _, _, q4, q5, q6⟩ := gI hshape h5
       simp only at q1 q4 q5 q6
       obtain ⟨kd, hkd⟩ : ∃ kd, xl = [kd] := List.length_eq_one_iff.1 q1
       obtain ⟨g, hg⟩ : ∃ g, fs = [g] := List.length_eq_one_iff.1 (by omega)
       have hc := Js (q := q) (f := f) (ns := ns) hw ⟨xo, ⟨xa, xb, xc, xd⟩, xl, xlo, xhi, xn⟩ kd g hkd ⟨q4, q5⟩ (by simp only; omega) (ih 0 kd g (by rw [hkd]; rfl) (by rw [hg]; rfl)) (hadd g (by rw [hg]; simp)) s hs
       rw [hg, List.headD_cons]
       simp only [Node.cells, Node.eJ] at hc
       clear hkd hg
       refine ah.enter Tryz.func73 rfl (by kernel_rfl) (Nat.le_of_ble_eq_true rfl) ?_; simp only [ai, Nat.reduceAdd]
       repeat' (first
 | refine gCt rfl ?_
 | ((first
 | ((first | refine gR fp73 ?_); intro K hK)
 | refine cAl (hc) rfl rfl rfl ?_
 | (refine ab ?_ ?_ <;> intro hb <;> (try simp only [bls] at hb) <;> (try simp only [hb]))
 | refine gRe [] [.tmp 8] rfl rfl ?_) <;> (try simp only [go_sem, simprocAttr, e1, e2, h1, h2, h3, h4, eq_true h5, Option.some.injEq, forall_eq']))
 | (refine hK _ _ ?_; clear hK K; simp only [go_sem, simprocAttr])
 | refine gCd ?_ | refine brT ?_ | refine brF ?_
 | (refine brS ?_ ?_ <;> intro hc <;> (try simp only [bls] at hc) <;> (try simp only [hc, bls]))
 | intro _ | refine And.intro ?_ ?_)
       all_goals try exact zsd
      ·rw [if_neg h5]
       refine ah.enter Tryz.func73 rfl (by kernel_rfl) (Nat.le_of_ble_eq_true rfl) ?_; simp only [ai, Nat.reduceAdd]
       repeat' (first
 | refine gCt rfl ?_
 | ((first
 | ((first | refine gR fp73 ?_); intro K hK)
 | (refine ab ?_ ?_ <;> intro hb <;> (try simp only [bls] at hb) <;> (try simp only [hb]))
 | refine gRe [] [.tmp 8] rfl rfl ?_) <;> (try simp only [go_sem, simprocAttr, e1, e2, h1, h2, h3, h4, h5, Option.some.injEq, forall_eq']))
 | (refine hK _ _ ?_; clear hK K; simp only [go_sem, simprocAttr])
 | refine gCd ?_ | refine brT ?_ | refine brF ?_
 | (refine brS ?_ ?_ <;> intro hc <;> (try simp only [bls] at hc) <;> (try simp only [hc, bls]))
 | intro _ | refine And.intro ?_ ?_)
       all_goals try exact zsd
end Go.Rad
namespace Go.Rad
open Go Go.Proofs
set_option linter.all false
set_option maxRecDepth 20000
set_option maxHeartbeats 4000000
theorem Dq (f : Bool) (l : List Node) (hlen : l.length ≤ maxLen) (hl : ∀ n ∈ l, n.l.length ≤ maxLen ∧ n.name.size ≤ maxLen) : ah Tryz.prog 35 [.sl true f (nodes l)] [] fun r s => r = .bool (cg l) ∧ s = [] := by
 unfold maxLen at hlen
 have hr := kr true f l hl
 refine ah.enter Tryz.func35 rfl (by kernel_rfl) (Nat.le_of_ble_eq_true rfl) ?_; simp only [ai, Nat.reduceAdd]
 repeat' (first
 | refine gCt rfl ?_
 | ((first
 | ((first | refine gR fp35 ?_); intro K hK)
 | (refine ab ?_ ?_ <;> intro hb <;> (try simp only [bls] at hb) <;> (try simp only [hb]))
 | refine gRe [] [.tmp 2] rfl rfl ?_) <;> (try simp only [go_sem, simprocAttr]))
 | (refine hK _ _ ?_; clear hK K; simp only [go_sem, simprocAttr])
 | refine gCd ?_ | refine brT ?_ | refine brF ?_
 | (refine brS ?_ ?_ <;> intro hc <;> (try simp only [bls] at hc) <;> (try simp only [hc, bls]))
 | intro _ | refine And.intro ?_ ?_)
 refine ae.prune [0, 2, 3] ?_; simp only [go_sem, simprocAttr]
 refine ae.al (α := Nat) (fun i => ([(0, .sl true f (nodes l)), (2, .bool false), (3, .int .i64 i)], [])) (fun i => i ≤ l.length ∧ (l.take i).all iv = true) (fun i => l.length - i) 0 ⟨Nat.zero_le _, rfl⟩ rfl ?_
 rintro i ⟨hi, hall⟩ ih
 simp only
 by_cases hle : i < l.length
 ·have e4 : (i : Int) < l.length := by omega
  have e5 : (0 : Int) ≤ i := by omega
  have hx : l[i]? = some l[i] := List.getElem?_eq_getElem hle
  generalize l[i] = x at hx
  by_cases h6 : x.op = 6
  ·have hno : cg l = false := by
    have : l.all iv = false := List.all_eq_false.2 ⟨x, List.mem_of_getElem? hx, by simp [iv, h6]⟩
    simp [cg, this]
   rw [hno]
   obtain ⟨xo, ⟨xa, xb, xc, xd⟩, xl, xlo, xhi, xn⟩ := x
   simp only at h6
   subst h6
   repeat' (first
 | refine gCt rfl ?_
 | ((first
 | ((first | refine gR fp35 ?_); intro K hK)
 | (refine ab ?_ ?_ <;> intro hb <;> (try simp only [bls] at hb) <;> (try simp only [hb]))
 | refine gRe [] [.tmp 2] rfl rfl ?_) <;> (try simp only [go_sem, simprocAttr, e4, e5, hx, Option.some.injEq, forall_eq']))
 | (refine hK _ _ ?_; clear hK K; simp only [go_sem, simprocAttr])
 | refine gCd ?_ | refine brT ?_ | refine brF ?_
 | (refine brS ?_ ?_ <;> intro hc <;> (try simp only [bls] at hc) <;> (try simp only [hc, bls]))
 | intro _ | refine And.intro ?_ ?_)
  ·have hyes : iv x = true := by simp [iv, h6]
   obtain ⟨xo, ⟨xa, xb, xc, xd⟩, xl, xlo, xhi, xn⟩ := x
   simp only at h6
   repeat' (first
 | refine gCt rfl ?_
 | ((first
 | ((first | refine gR fp35 ?_); intro K hK)
 | (refine ab ?_ ?_ <;> intro hb <;> (try simp only [bls] at hb) <;> (try simp only [hb]))
 | refine gRe [] [.tmp 2] rfl rfl ?_) <;> (try simp only [go_sem, simprocAttr, e4, e5, hx, h6, Option.some.injEq, forall_eq']))
 | (refine hK _ _ ?_; clear hK K; simp only [go_sem, simprocAttr])
 | refine gCd ?_ | refine brT ?_ | refine brF ?_
 | (refine brS ?_ ?_ <;> intro hc <;> (try simp only [bls] at hc) <;> (try simp only [hc, bls]))
 | intro _ | refine And.intro ?_ ?_)
   all_goals try exact zsd
   refine ae.prune [0, 2, 3] ?_; simp only [go_sem, simprocAttr]
   exact (ih (i + 1) ⟨by omega, by rw [take_one hx, List.all_append, hall]; simp [hyes]⟩ (by omega)).cast rfl rfl
 ·have e4 : ¬ (i : Int) < l.length := by omega
  rw [List.take_of_length_le (by omega)] at hall
  repeat' (first
 | refine gCt rfl ?_
 | ((first
 | ((first | refine gR fp35 ?_); intro K hK)
 | refine cAl (hr) rfl rfl rfl ?_
 | (refine ab ?_ ?_ <;> intro hb <;> (try simp only [bls] at hb) <;> (try simp only [hb]))
 | refine gRe [] [.tmp 2] rfl rfl ?_) <;> (try simp only [go_sem, simprocAttr, e4]))
 | (refine hK _ _ ?_; clear hK K; simp only [go_sem, simprocAttr])
 | refine gCd ?_ | refine brT ?_ | refine brF ?_
 | (refine brS ?_ ?_ <;> intro hc <;> (try simp only [bls] at hc) <;> (try simp only [hc, bls]))
 | intro _ | refine And.intro ?_ ?_)
  simp [cg, hall]
end Go.Rad
namespace Go.Rad
open Go Go.Proofs
set_option linter.all false
set_option maxRecDepth 20000
set_option maxHeartbeats 4000000
def lj (s : List Bool) : List Nat := (List.range s.length).filter fun i => s.getD i false
abbrev bO (s : List Bool) : List Int := (lj s).map fun (i : Nat) => (i : Int)
theorem iw (s : List Bool) : (bO s).length ≤ s.length := by
 rw [bO, List.length_map]
 refine Nat.le_trans (List.length_filter_le _ _) ?_
 simp
def bR (n i : Nat) : List Bool := (aY n).set i true
theorem cw (n i : Nat) : (bR n i).length = n := by simp [bR, aY]
theorem oo {w : ByteArray} {fo : Fo} (hd : fo.deg = 1) {s : List Bool} (hs : s.length = w.size + 1) : (kD w fo s).length = w.size + 1 := by
 have hl := iY w fo
 rw [hd] at hl
 unfold kD
 match h : sem w fo, hl with
 | [g], _ => exact (iX w fo g (by rw [h]; simp)).len s hs
theorem nw {w : ByteArray} (hw : w.size ≤ 1000000) (f : Bool) (fo : Fo) (hd : fo.deg = 1) (hsh : fo.cM = true) (hz : fo.size ≤ 1024) (h6 : no6 fo = true) (fr : Nat) (hfr : fr ≤ w.size) :
  ah Tryz.prog 45 [.sl true f (nodes (fo.lay 0)), .str w, .int .i64 fr] [] fun r s => r = .sl true false (ints (bO (kD w fo (bR (w.size + 1) fr)))) ∧ s = [] := by
 have hp : cg (fo.lay 0) = true := (n6 _).2 ⟨fo, hd, rfl, hsh, hz, h6⟩
 obtain ⟨n1, n2⟩ := lg hp
 have hpl := Dq f (fo.lay 0) (by unfold maxLen; omega) (fun n hn => (n1 n hn).symm)
 rw [hp] at hpl
 have hsub := Fo.wF hd
 have hsl := iY w fo
 rw [hd] at hsl
 obtain ⟨g, hg⟩ : ∃ g, sem w fo = [g] := List.length_eq_one_iff.1 hsl
 have hcall := qz (q := true) (f := f) hw (by omega) fo _ hsub hsh (by omega) 0 _ g rfl (by rw [hg]; rfl) (bR (w.size + 1) fr) (cw _ _)
 have hel := oo hd (cw (w.size + 1) fr)
 have hsg : kD w fo (bR (w.size + 1) fr) = g (bR (w.size + 1) fr) := by rw [kD, hg]; rfl
 rw [← hsg] at hcall
 generalize kD w fo (bR (w.size + 1) fr) = E at hcall hel
 have hln : (fo.lay 0).length = fo.size := Fo.cS _ _
 have hsp := Fo.size_pos hd
 rw [← hln] at hcall
 generalize fo.lay 0 = l at hpl hcall hln
 clear hsub hg hsg hp n1 n2 hsl hsh h6
 have hpc := n5 w hw
 have e1 : ¬ (fr : Int) < 0 := by omega
 have e2 : ¬ (w.size : Int) < fr := by omega
 have e3 : (0 : Int) ≤ fr := by omega
 have e4 : (fr : Int) < ((w.size + 1 : Nat) : Int) := by omega
 have e5 : fr < (aY (w.size + 1)).length := by rw [bZ]; omega
 have e6 : (aY (w.size + 1))[fr]? = some false := by
  rw [List.getElem?_eq_getElem e5]; simp [aY]
 have e7 : (br (aY (w.size + 1))).set fr [.bool true] = br (bR (w.size + 1) fr) := by simp [bR, List.map_set]
 have e15 : (br (bR (w.size + 1) fr)).take (w.size + 1) = br (bR (w.size + 1) fr) := List.take_of_length_le (by simp [cw])
 have e16 := cw (w.size + 1) fr
 refine ah.enter Tryz.func45 rfl (by kernel_rfl) (Nat.le_of_ble_eq_true rfl) ?_; simp only [ai, Nat.reduceAdd]
 repeat' (first
 | (refine ae.at 5 ?_; (refine tH ?_))
 | refine gCt rfl ?_
 | ((first
 | ((first | refine gR fp45 ?_); intro K hK)
 | refine cAl (hpl) rfl rfl rfl ?_
 | refine cAl (hcall) rfl rfl rfl ?_
 | (refine ah.use [(6, 7)] [] rfl hpc rfl rfl rfl ?_; rintro _ _ ⟨h6, rfl, rfl⟩; refine ⟨.inl rfl, rfl, ?_⟩; simp only [bk, bk2, bk1, bkS, bkO, bw, aH, go_sem, simprocAttr])
 | (refine ab ?_ ?_ <;> intro hb <;> (try simp only [bls] at hb) <;> (try simp only [hb]))
 | refine gRe [] [.tmp 6] rfl rfl ?_) <;> (try simp only [go_sem, simprocAttr, e1, e2, e3, e4, e5, e6, Option.some.injEq, forall_eq']))
 | (refine hK _ _ ?_; clear hK K; simp only [go_sem, simprocAttr])
 | refine gCd ?_ | refine brT ?_ | refine brF ?_
 | (refine brS ?_ ?_ <;> intro hc <;> (try simp only [bls] at hc) <;> (try simp only [hc, bls]))
 | intro _ | refine And.intro ?_ ?_)
 all_goals try exact zsd
 rename_i z hz
 have hz2 : z = [.bool false] := by rw [List.getElem?_map, e6] at hz; exact (Option.some.inj hz).symm
 subst hz2
 refine tG ?_
 refine ae.Mr 7 (br (bR (w.size + 1) fr)) rfl (by rw [← e7]; rfl) ?_
 simp only [go_sem, simprocAttr]
 refine ae.freeze 7 rfl ?_
 simp only [rfT, rfS, rfO, rf, rf1, e15, e16, List.length_map, Nat.le_refl, true_and, go_sem, simprocAttr]
 have e8 : (1 : Int) ≤ l.length := by omega
 repeat' (first
 | refine gCt rfl ?_
 | ((first
 | ((first | refine gR fp45 ?_); intro K hK)
 | refine cAl (hcall) rfl rfl rfl ?_
 | (refine ab ?_ ?_ <;> intro hb <;> (try simp only [bls] at hb) <;> (try simp only [hb]))
 | refine gRe [] [.tmp 6] rfl rfl ?_) <;> (try simp only [go_sem, simprocAttr, e8]))
 | (refine hK _ _ ?_; clear hK K; simp only [go_sem, simprocAttr])
 | refine gCd ?_ | refine brT ?_ | refine brF ?_
 | (refine brS ?_ ?_ <;> intro hc <;> (try simp only [bls] at hc) <;> (try simp only [hc, bls]))
 | intro _ | refine And.intro ?_ ?_)
 all_goals try exact zsd
 refine ae.lQ 9 900 1 (by decide) rfl fun g9 => ?_
 simp only [go_sem, simprocAttr]
 refine ae.prune [6, 8, 9, 10] ?_; simp only [go_sem, simprocAttr]
 obtain ⟨PS, hPS⟩ : ∃ PS : Nat → List Nat, PS = fun i => (List.range i).filter fun j => E.getD j false := ⟨_, rfl⟩
 have hp0 : PS 0 = [] := by rw [hPS]; rfl
 have hp1 : ∀ i, PS (i + 1) = PS i ++ (if E.getD i false = true then [i] else []) := by
  intro i
  rw [hPS]
  simp only [List.range_succ, List.filter_append]
  cases hb : E.getD i false <;> (rw [List.getD_eq_getElem?_getD] at hb; simp [hb])
 have hpE : lj E = PS E.length := by rw [hPS]; rfl
 have hpl2 : ∀ i, (PS i).length ≤ i := fun i => by
  rw [hPS]
  refine Nat.le_trans (List.length_filter_le _ _) ?_
  simp
 clear hPS
 rw [show bO E = (PS E.length).map fun (i : Nat) => (i : Int) from by rw [bO, hpE]]
 refine ae.al (α := Nat × Nat) (fun x => ([(6, .sl true true []), (8, .sl true false (br E)), (9, .osl 900 x.2 0 (PS x.1).length), (10, .int .i64 x.1)], [(900, x.2, .row 1 (ints ((PS x.1).map fun (i : Nat) => (i : Int))))])) (fun x => x.1 ≤ E.length) (fun x => E.length - x.1) (0, g9) (Nat.zero_le _) (by simp only [hp0]; rfl) ?_
 rintro ⟨i, g⟩ hi ih
 simp only at hi ih ⊢
 have hl9 := hpl2 i
 by_cases hle : i < E.length
 ·have f4 : (i : Int) < E.length := by omega
  have f5 : (0 : Int) ≤ i := by omega
  have f6 : (i : Int) + 1 = ((i + 1 : Nat) : Int) := by omega
  have hE : E[i]? = some E[i] := List.getElem?_eq_getElem hle
  have hgd : E.getD i false = E[i] := by simp [List.getD, hle]
  have h1 := hp1 i
  rw [hgd] at h1
  generalize E[i] = x at hE h1
  cases x
  ·simp only [Bool.false_eq_true, if_false, List.append_nil] at h1
   repeat' (first
 | refine gCt rfl ?_
 | ((first
 | ((first | refine gR fp45 ?_); intro K hK)
 | (refine ab ?_ ?_ <;> intro hb <;> (try simp only [bls] at hb) <;> (try simp only [hb]))
 | refine gRe [] [.tmp 6] rfl rfl ?_) <;> (try simp only [go_sem, simprocAttr, f4, f5, f6, hE, Option.some.injEq, forall_eq']))
 | (refine hK _ _ ?_; clear hK K; simp only [go_sem, simprocAttr])
 | refine gCd ?_ | refine brT ?_ | refine brF ?_
 | (refine brS ?_ ?_ <;> intro hc <;> (try simp only [bls] at hc) <;> (try simp only [hc, bls]))
 | intro _ | refine And.intro ?_ ?_)
   all_goals try exact zsd
   refine ae.bC [900] ?_
   simp only [aq, ax, go_sem, simprocAttr]
   refine ae.prune [6, 8, 9, 10] ?_; simp only [go_sem, simprocAttr]
   exact ae.cast (ih (i + 1, g) (by simp only; omega) (by simp only; omega)) (by simp only [h1]) (by simp only [h1])
  ·simp only [if_true] at h1
   repeat' (first
 | refine gCt rfl ?_
 | ((first
 | ((first | refine gRg [48] fp45 ?_); intro K hK)
 | (refine ab ?_ ?_ <;> intro hb <;> (try simp only [bls] at hb) <;> (try simp only [hb]))
 | refine gRe [] [.tmp 6] rfl rfl ?_) <;> (try simp only [go_sem, simprocAttr, f4, f5, f6, hE, Option.some.injEq, forall_eq']))
 | (refine hK _ _ ?_; clear hK K; simp only [go_sem, simprocAttr])
 | refine gCd ?_ | refine brT ?_ | refine brF ?_
 | (refine brS ?_ ?_ <;> intro hc <;> (try simp only [bls] at hc) <;> (try simp only [hc, bls]))
 | intro _ | refine And.intro ?_ ?_)
   all_goals try exact zsd
   rename_i h'
   refine ae.bC [900] ?_
   simp only [aq, ax, go_sem, simprocAttr]
   refine ae.prune [6, 8, 9, 10] ?_; simp only [go_sem, simprocAttr]
   exact ae.cast (ih (i + 1, h') (by simp only; omega) (by simp only; omega)) (by simp only [h1]; simp) (by simp only [h1]; simp)
 ·have f4 : ¬ (i : Int) < E.length := by omega
  have hin : i = E.length := by omega
  rw [hin]
  rw [hin] at f4 ih
  clear ih
  have g15 : (ints ((PS E.length).map fun (i : Nat) => (i : Int))).take (PS E.length).length = ints ((PS E.length).map fun (i : Nat) => (i : Int)) := List.take_of_length_le (by simp)
  repeat' (first
 | refine gCt rfl ?_
 | ((first
 | (refine ae.at 12 ?_; (refine ae.freeze 900 rfl ?_; simp only [rfT, rfS, rfO, rf, rf1, g15, List.length_map, Nat.le_refl, true_and, go_sem, simprocAttr]); refine gR fp45 ?_; intro K hK)
 | ((first | refine gR fp45 ?_); intro K hK)
 | (refine ab ?_ ?_ <;> intro hb <;> (try simp only [bls] at hb) <;> (try simp only [hb]))
 | refine gRe [] [.tmp 6] rfl rfl ?_) <;> (try simp only [go_sem, simprocAttr, f4]))
 | (refine hK _ _ ?_; clear hK K; simp only [go_sem, simprocAttr])
 | refine gCd ?_ | refine brT ?_ | refine brF ?_
 | (refine brS ?_ ?_ <;> intro hc <;> (try simp only [bls] at hc) <;> (try simp only [hc, bls]))
 | intro _ | refine And.intro ?_ ?_)
  all_goals try exact zsd
end Go.Rad
namespace Go.Proofs
open Go.Shelf
def Tryz.sQ : Go.Shelf.Ren := ⟨fun | 189 => 148 | 125 => 170 | 257 => 169 | 128 => 192 | 129 => 193 | 294 => 183 | 295 => 184 | 296 => 185 | 297 => 186 | 298 => 187 | 299 => 188 | 216 => 189 | 300 => 190 | 301 => 191 | 328 => 199 | 329 => 200 | 330 => 201 | 331 => 202 | 332 => 203 | 215 => 204 | 343 => 207 | n => n, fun | 28 => 39 | 3 => 3 | 46 => 200 | 0 => 0 | 51 => 223 | 53 => 44 | 4 => 4 | 183 => 231 | 182 => 230 | 131 => 54 | 5 => 5 | 9 => 9 | 218 => 238 | 222 => 242 | 228 => 247 | 229 => 184 | n => n, fun | n => n⟩
theorem Tryz.vW : Go.Proofs.Lays.n189 Tryz.prog Tryz.sQ := {
 mixed := by kernel_rfl
 f125 := Tryz.func170.trans (congrArg some (by kernel_rfl))
 f128 := Tryz.func192.trans (congrArg some (by kernel_rfl))
 f129 := Tryz.func193.trans (congrArg some (by kernel_rfl))
 f189 := Tryz.func148.trans (congrArg some (by kernel_rfl))
 f215 := Tryz.func204.trans (congrArg some (by kernel_rfl))
 f216 := Tryz.func189.trans (congrArg some (by kernel_rfl))
 f257 := Tryz.func169.trans (congrArg some (by kernel_rfl))
 f294 := Tryz.func183.trans (congrArg some (by kernel_rfl))
 f295 := Tryz.func184.trans (congrArg some (by kernel_rfl))
 f296 := Tryz.func185.trans (congrArg some (by kernel_rfl))
 f297 := Tryz.func186.trans (congrArg some (by kernel_rfl))
 f298 := Tryz.func187.trans (congrArg some (by kernel_rfl))
 f299 := Tryz.func188.trans (congrArg some (by kernel_rfl))
 f300 := Tryz.func190.trans (congrArg some (by kernel_rfl))
 f301 := Tryz.func191.trans (congrArg some (by kernel_rfl))
 f328 := Tryz.func199.trans (congrArg some (by kernel_rfl))
 f329 := Tryz.func200.trans (congrArg some (by kernel_rfl))
 f330 := Tryz.func201.trans (congrArg some (by kernel_rfl))
 f331 := Tryz.func202.trans (congrArg some (by kernel_rfl))
 f332 := Tryz.func203.trans (congrArg some (by kernel_rfl))
 f343 := Tryz.func207.trans (congrArg some (by kernel_rfl))
 t0 := Tryz.underlying0
 a0 := Tryz.isAgg0
 z0 := Tryz.sizeOf0
 v0 := Tryz.zeroValue0
 t3 := Tryz.underlying3
 a3 := Tryz.isAgg3
 z3 := Tryz.sizeOf3
 v3 := Tryz.zeroValue3
 t4 := Tryz.underlying4
 a4 := Tryz.isAgg4
 z4 := Tryz.sizeOf4
 v4 := Tryz.zeroValue4
 t5 := Tryz.underlying5
 a5 := Tryz.isAgg5
 z5 := Tryz.sizeOf5
 v5 := Tryz.zeroValue5
 t9 := Tryz.underlying9
 a9 := Tryz.isAgg9
 z9 := Tryz.sizeOf9
 v9 := Tryz.zeroValue9
 t28 := Tryz.underlying39
 a28 := Tryz.isAgg39
 z28 := Tryz.sizeOf39
 v28 := Tryz.zeroValue39
 t46 := Tryz.underlying200
 a46 := Tryz.isAgg200
 z46 := Tryz.sizeOf200
 v46 := Tryz.zeroValue200
 t51 := Tryz.underlying223
 a51 := Tryz.isAgg223
 z51 := Tryz.sizeOf223
 v51 := Tryz.zeroValue223
 t53 := Tryz.underlying44
 a53 := Tryz.isAgg44
 z53 := Tryz.sizeOf44
 v53 := Tryz.zeroValue44
 t131 := Tryz.underlying54
 a131 := Tryz.isAgg54
 z131 := Tryz.sizeOf54
 v131 := Tryz.zeroValue54
 t182 := Tryz.underlying230
 a182 := Tryz.isAgg230
 z182 := Tryz.sizeOf230
 v182 := Tryz.zeroValue230
 t183 := Tryz.underlying231
 a183 := Tryz.isAgg231
 z183 := Tryz.sizeOf231
 v183 := Tryz.zeroValue231
 t218 := Tryz.underlying238
 a218 := Tryz.isAgg238
 z218 := Tryz.sizeOf238
 v218 := Tryz.zeroValue238
 t222 := Tryz.underlying242
 a222 := Tryz.isAgg242
 z222 := Tryz.sizeOf242
 v222 := Tryz.zeroValue242
 t228 := Tryz.underlying247
 a228 := Tryz.isAgg247
 z228 := Tryz.sizeOf247
 v228 := Tryz.zeroValue247
 t229 := Tryz.underlying184
 a229 := Tryz.isAgg184
 z229 := Tryz.sizeOf184
 v229 := Tryz.zeroValue184 }
open Go.Sort Go.RowKit in
theorem Tryz.slices_Sort_int (blk off cap : Nat) (zs : List Int) (w : World) (hH : Holds (Value.int .i64) w blk off zs.toArray) (hblk : blk < w.heap.size) (hsz : zs.length < 4611686018427387904) :
  Calls Tryz.prog 148 #[.slice (some ⟨blk, off, none⟩) zs.length cap] w fun e w' =>
   e = .returned (.tuple #[]) ∧ ∃ n os, w' = grow (putRow (Value.int .i64) (Sort.ahead w n) blk off (zs.mergeSort fun x y => decide (x ≤ y)).toArray) os := Any.slices_Sort_int Tryz.vW blk off cap zs w hH hblk hsz
open Go.RowKit Go.Sort in
theorem Tryz.slices_Sort_int_none (p : Option Addr) (cap : Nat) (w : World) :
  Calls Tryz.prog 148 #[.slice p 0 cap] w fun e w' => e = .returned (.tuple #[]) ∧ w' = w := Any.slices_Sort_int_none Tryz.vW p cap w
def Tryz.oZ : Go.Shelf.Ren := ⟨fun | 20 => 149 | n => n, fun | 22 => 39 | 3 => 3 | 4 => 4 | 0 => 0 | n => n, fun | n => n⟩
theorem Tryz.pI : Go.Proofs.Lays2.n20 Tryz.prog Tryz.oZ := {
 mixed := by kernel_rfl
 f20 := Tryz.func149.trans (congrArg some (by kernel_rfl))
 t0 := Tryz.underlying0
 a0 := Tryz.isAgg0
 z0 := Tryz.sizeOf0
 v0 := Tryz.zeroValue0
 t3 := Tryz.underlying3
 a3 := Tryz.isAgg3
 z3 := Tryz.sizeOf3
 v3 := Tryz.zeroValue3
 t4 := Tryz.underlying4
 a4 := Tryz.isAgg4
 z4 := Tryz.sizeOf4
 v4 := Tryz.zeroValue4
 t22 := Tryz.underlying39
 a22 := Tryz.isAgg39
 z22 := Tryz.sizeOf39
 v22 := Tryz.zeroValue39
 i3 := by kernel_rfl }
open Go.RowKit Go.Lib Go.Sort in
theorem Tryz.slices_Compact_int (blk off cap : Nat) (zs : List Int) (w : World) (hH : Holds (Value.int .i64) w blk off zs.toArray) (hsz : zs.length ≤ 9223372036854775807) (hcap : zs.length ≤ cap) :
  Calls Tryz.prog 149 #[.slice (some ⟨blk, off, none⟩) zs.length cap] w fun e w' => e = .returned (.slice (some ⟨blk, off, none⟩) (Lib.compact zs).length cap) ∧ ∃ q, w' = putRow (Value.int .i64) (Sort.ahead w q) blk off (Lib.compact zs ++ List.replicate (zs.length - (Lib.compact zs).length) 0).toArray := Any.slices_Compact_int Tryz.pI blk off cap zs w hH hsz hcap
open Go.RowKit Go.Lib Go.Sort in
theorem Tryz.slices_Compact_int_empty (a : Option Addr) (cap : Nat) (w : World) :
  Calls Tryz.prog 149 #[.slice a 0 cap] w fun e w' => e = .returned (.slice a 0 cap) ∧ w' = w := Any.slices_Compact_int_empty Tryz.pI a cap w
def Tryz.sP : Go.Shelf.Ren := ⟨fun | 111 => 108 | n => n, fun | 28 => 39 | 3 => 3 | 4 => 4 | 0 => 0 | n => n, fun | n => n⟩
theorem Tryz.qO : Go.Proofs.Lays.n111 Tryz.prog Tryz.sP := {
 mixed := by kernel_rfl
 f111 := Tryz.func108.trans (congrArg some (by kernel_rfl))
 t0 := Tryz.underlying0
 a0 := Tryz.isAgg0
 z0 := Tryz.sizeOf0
 v0 := Tryz.zeroValue0
 t3 := Tryz.underlying3
 a3 := Tryz.isAgg3
 z3 := Tryz.sizeOf3
 v3 := Tryz.zeroValue3
 t4 := Tryz.underlying4
 a4 := Tryz.isAgg4
 z4 := Tryz.sizeOf4
 v4 := Tryz.zeroValue4
 t28 := Tryz.underlying39
 a28 := Tryz.isAgg39
 z28 := Tryz.sizeOf39
 v28 := Tryz.zeroValue39 }
open Go.RowKit Go.Lib in
theorem Tryz.slices_Equal_int (b1 o1 n c b2 o2 m d : Nat) (xs ys : List Int) (w : World) (hx : n ≤ xs.length) (hy : m ≤ ys.length) (hbig : n ≤ 9223372036854775807) (hbig2 : m ≤ 9223372036854775807) (hc1 : ∀ j, j < xs.length → w.cell? ⟨b1, o1 + j, none⟩ = some (.int .i64 (xs.getD j 0))) (hc2 : ∀ j, j < ys.length → w.cell? ⟨b2, o2 + j, none⟩ = some (.int .i64 (ys.getD j 0))) :
  Calls Tryz.prog 108 #[.slice (some ⟨b1, o1, none⟩) n c, .slice (some ⟨b2, o2, none⟩) m d] w fun e w' => e = .returned (.bool (xs.take n == ys.take m)) ∧ ∃ q, w' = w.drewN q := Any.slices_Equal_int Tryz.qO b1 o1 n c b2 o2 m d xs ys w hx hy hbig hbig2 hc1 hc2
open Go.RowKit Go.Lib in
theorem Tryz.slices_Equal_int_empty (a1 a2 : Option Addr) (c m d : Nat) (w : World) (hbig2 : m ≤ 9223372036854775807) :
  Calls Tryz.prog 108 #[.slice a1 0 c, .slice a2 m d] w fun e w' => e = .returned (.bool (decide (m = 0))) ∧ w' = w := Any.slices_Equal_int_empty Tryz.qO a1 a2 c m d w hbig2
open Go.RowKit Go.Lib in
theorem Tryz.slices_Equal_int_lens (a1 a2 : Option Addr) (n c m d : Nat) (w : World) (hnm : n ≠ m) :
  Calls Tryz.prog 108 #[.slice a1 n c, .slice a2 m d] w fun e w' => e = .returned (.bool false) ∧ w' = w := Any.slices_Equal_int_lens Tryz.qO a1 a2 n c m d w hnm
end Go.Proofs
namespace Go.Rad
open Go Go.Proofs
set_option linter.all false
set_option maxRecDepth 20000
set_option maxHeartbeats 4000000
def lsV (ls : List (Bool × Bool × List Int)) : List (List aa) := ls.map fun x => [.sl x.1 x.2.1 (ints x.2.2)]
theorem CY (ls : List (Bool × Bool × List Int)) : (lsV ls).length = ls.length := by simp [lsV]
def cB (ls : List (Bool × Bool × List Int)) : List Int := ls.flatMap (·.2.2)
theorem sj {ls : List (Bool × Bool × List Int)} {i : Nat} {q f : Bool} {l : List Int} (h : ls[i]? = some (q, f, l)) : cB (ls.take (i + 1)) = cB (ls.take i) ++ l ∧ (cB (ls.take (i + 1))).length ≤ (cB ls).length := by
 have h1 : cB (ls.take (i + 1)) = cB (ls.take i) ++ l := by rw [take_one h]; simp [cB]
 refine ⟨h1, ?_⟩
 have : cB ls = cB (ls.take (i + 1)) ++ cB (ls.drop (i + 1)) := by rw [cB, cB, cB, ← List.flatMap_append, List.take_append_drop]
 rw [this, List.length_append]; omega
theorem zd (hG : jP Tryz.prog 175) (ls : List (Bool × Bool × List Int)) (q f : Bool) (hn : ls.length ≤ 1000) (hb : (cB ls).length ≤ 100000000) : ah Tryz.prog 159 [.sl q f (lsV ls)] [] fun r s => ∃ g, r = .osl 24 g 0 (cB ls).length ∧ s = [(24, (g, .row 1 (ints (cB ls))))] := by
 have hlen := CY ls
 have hgr : ah Tryz.prog 175 [.sl true true [], .int .i64 ((cB ls).length : Nat)] [] fun r s => ∃ g, r = .osl 1000 g 0 0 ∧ s = [(1000, (g, .row 1 []))] := ah.Ct ⟨_, Tryz.func175, by kernel_rfl, rfl⟩ hG 1000 (cB ls).length (by omega)
 have e0 : ([] : List (List aa)) = ints [] := rfl
 refine ah.enter Tryz.func159 rfl (by kernel_rfl) (Nat.le_of_ble_eq_true rfl) ?_; simp only [ai, Nat.reduceAdd]
 repeat' (first
 | refine gCt rfl ?_
 | ((first
 | ((first | refine gR fp159 ?_); intro K hK)
 | (refine ab ?_ ?_ <;> intro hb <;> (try simp only [bls] at hb) <;> (try simp only [hb]))
 | refine gRe [] [.tmp 2] rfl rfl ?_) <;> (try simp only [go_sem, simprocAttr, hlen]))
 | (refine hK _ _ ?_; clear hK K; simp only [go_sem, simprocAttr])
 | refine gCd ?_ | refine brT ?_ | refine brF ?_
 | (refine brS ?_ ?_ <;> intro hc <;> (try simp only [bls] at hc) <;> (try simp only [hc, bls]))
 | intro _ | refine And.intro ?_ ?_)
 all_goals try exact zsd
 refine ae.prune [0, 2, 3, 9, 10, 11] ?_; simp only [go_sem, simprocAttr]
 refine ae.al (α := Nat) (fun i => ([(0, .sl q f (lsV ls)), (2, .sl true true []), (3, .int .i64 (cB (ls.take i)).length), (9, .sl q f (lsV ls)), (10, .int .i64 ls.length), (11, .int .i64 i)], [])) (fun i => i ≤ ls.length) (fun i => ls.length - i) 0 (Nat.zero_le _) (by simp [cB]) ?_
 rintro i hi ih
 simp only at hi ih ⊢
 by_cases hle : i < ls.length
 ·have e4 : (i : Int) < ls.length := by omega
  have e5 : (0 : Int) ≤ i := by omega
  have e7 : (i : Int) + 1 = ((i + 1 : Nat) : Int) := by omega
  obtain ⟨⟨q1, f1, l1⟩, hx⟩ : ∃ x, ls[i]? = some x := ⟨_, List.getElem?_eq_getElem hle⟩
  have hv : (lsV ls)[i]? = some [.sl q1 f1 (ints l1)] := by simp [lsV, hx]
  obtain ⟨hc, hs⟩ := sj hx
  have e8 : ((cB (ls.take i)).length : Int) + (l1.length : Int) = ((cB (ls.take (i + 1))).length : Int) := by rw [hc]; simp
  have e9 : ¬ ((cB (ls.take (i + 1))).length : Int) < 0 := by omega
  have e10 : (ints l1).length = l1.length := by simp
  repeat' (first
 | refine gCt rfl ?_
 | ((first
 | ((first | refine gR fp159 ?_); intro K hK)
 | (refine ab ?_ ?_ <;> intro hb <;> (try simp only [bls] at hb) <;> (try simp only [hb]))
 | refine gRe [] [.tmp 2] rfl rfl ?_) <;> (try simp only [go_sem, simprocAttr, hlen, e4, e5, e7, e8, e9, e10, hv, la, Option.some.injEq, forall_eq']))
 | (refine hK _ _ ?_; clear hK K; simp only [go_sem, simprocAttr])
 | refine gCd ?_ | refine brT ?_ | refine brF ?_
 | (refine brS ?_ ?_ <;> intro hc <;> (try simp only [bls] at hc) <;> (try simp only [hc, bls]))
 | intro _ | refine And.intro ?_ ?_)
  all_goals try exact zsd
  refine ae.bC [] ?_
  simp only [aq, ax, go_sem, simprocAttr]
  refine ae.prune [0, 2, 3, 9, 10, 11] ?_; simp only [go_sem, simprocAttr]
  exact (ih (i + 1) (by omega) (by omega)).cast rfl rfl
 ·have e4 : ¬ (i : Int) < ls.length := by omega
  rw [List.take_of_length_le (by omega)]
  clear ih
  repeat' (first
 | refine gCt rfl ?_
 | ((first
 | ((first | refine gR fp159 ?_); intro K hK)
 | (refine ah.use [(1000, 24)] [] rfl hgr rfl rfl rfl ?_; rintro _ _ ⟨h24, rfl, rfl⟩; refine ⟨.inl rfl, rfl, ?_⟩; simp only [bk, bk2, bk1, bkS, bkO, bw, aH, go_sem, simprocAttr])
 | (refine ab ?_ ?_ <;> intro hb <;> (try simp only [bls] at hb) <;> (try simp only [hb]))
 | refine gRe [] [.tmp 2] rfl rfl ?_) <;> (try simp only [go_sem, simprocAttr, hlen, e4]))
 | (refine hK _ _ ?_; clear hK K; simp only [go_sem, simprocAttr])
 | refine gCd ?_ | refine brT ?_ | refine brF ?_
 | (refine brS ?_ ?_ <;> intro hc <;> (try simp only [bls] at hc) <;> (try simp only [hc, bls]))
 | intro _ | refine And.intro ?_ ?_)
  all_goals try exact zsd
  refine ae.prune [6, 25, 26, 27] ?_; simp only [go_sem, simprocAttr]
  refine ae.al (α := Nat × Nat) (fun x => ([(6, .osl 24 x.2 0 (cB (ls.take x.1)).length), (25, .sl q f (lsV ls)), (26, .int .i64 ls.length), (27, .int .i64 x.1)], [(24, (x.2, .row 1 (ints (cB (ls.take x.1)))))])) (fun x => x.1 ≤ ls.length) (fun x => ls.length - x.1) (0, h24) (Nat.zero_le _) (by simp [cB]) ?_
  rintro ⟨i, g⟩ hi ih
  simp only at hi ih ⊢
  by_cases hle : i < ls.length
  ·have e4 : (i : Int) < ls.length := by omega
   have e5 : (0 : Int) ≤ i := by omega
   have e7 : (i : Int) + 1 = ((i + 1 : Nat) : Int) := by omega
   obtain ⟨⟨q1, f1, l1⟩, hx⟩ : ∃ x, ls[i]? = some x := ⟨_, List.getElem?_eq_getElem hle⟩
   have hv : (lsV ls)[i]? = some [.sl q1 f1 (ints l1)] := by simp [lsV, hx]
   obtain ⟨hc, hs⟩ := sj hx
   have e8 : (ints (cB (ls.take i))).length + (ints l1).length = (cB (ls.take (i + 1))).length := by rw [hc]; simp
   have e9 : (ints (cB (ls.take i))).length = (cB (ls.take i)).length := by simp
   repeat' (first
 | refine gCt rfl ?_
 | ((first
 | ((first | refine gR fp159 ?_); intro K hK)
 | (refine ab ?_ ?_ <;> intro hb <;> (try simp only [bls] at hb) <;> (try simp only [hb]))
 | refine gRe [] [.tmp 2] rfl rfl ?_) <;> (try simp only [go_sem, simprocAttr, hlen, e4, e5, e7, hv, la, Option.some.injEq, forall_eq']))
 | (refine hK _ _ ?_; clear hK K; simp only [go_sem, simprocAttr])
 | refine gCd ?_ | refine brT ?_ | refine brF ?_
 | (refine brS ?_ ?_ <;> intro hc <;> (try simp only [bls] at hc) <;> (try simp only [hc, bls]))
 | intro _ | refine And.intro ?_ ?_)
   all_goals try exact zsd
   ·rename_i y hy; obtain ⟨x, _, rfl⟩ := List.mem_map.1 hy; rfl
   ·rename_i y hy; obtain ⟨x, _, rfl⟩ := List.mem_map.1 hy; rfl
   ·have h9 : (cB (ls.take (i + 1))).length = (cB (ls.take i)).length + l1.length := by rw [hc]; simp
    unfold ao; omega
   ·have h9 : (cB (ls.take (i + 1))).length = (cB (ls.take i)).length + l1.length := by rw [hc]; simp
    unfold ao; omega
   rename_i h9
   refine ae.bC [24] ?_
   simp only [aq, ax, go_sem, simprocAttr]
   refine ae.prune [6, 25, 26, 27] ?_; simp only [go_sem, simprocAttr]
   exact ae.cast (ih (i + 1, h9) (by simp only; omega) (by simp only; omega)) (by simp [hc]) (by simp [hc])
  ·have e4 : ¬ (i : Int) < ls.length := by omega
   rw [List.take_of_length_le (by omega)]
   clear ih
   repeat' (first
 | refine gCt rfl ?_
 | ((first
 | ((first | refine gR fp159 ?_); intro K hK)
 | (refine ab ?_ ?_ <;> intro hb <;> (try simp only [bls] at hb) <;> (try simp only [hb]))
 | refine gRe [24] [.tmp 2] rfl rfl ?_) <;> (try simp only [go_sem, simprocAttr, hlen, e4]))
 | (refine hK _ _ ?_; clear hK K; simp only [go_sem, simprocAttr])
 | refine gCd ?_ | refine brT ?_ | refine brF ?_
 | (refine brS ?_ ?_ <;> intro hc <;> (try simp only [bls] at hc) <;> (try simp only [hc, bls]))
 | intro _ | refine And.intro ?_ ?_)
   all_goals try exact zsd
   exact ⟨_, rfl, rfl⟩
theorem C3 (hG : jP Tryz.prog 175) (q f q' f' : Bool) (a b : List Int) (h : a.length + b.length ≤ 100000000) : ah Tryz.prog 138 [.sl q f (ints a), .sl q' f' (ints b)] [] fun r s => r = .sl true false (ints (Lib.compact (fu (a ++ b)))) ∧ s = [] := by
 obtain ⟨X, hX⟩ : ∃ X, X = a ++ b := ⟨_, rfl⟩
 have hcc : ∀ q0 f0, ah Tryz.prog 159 [.sl q0 f0 [[.sl q false (ints a)], [.sl q' false (ints b)]]] [] fun r s => ∃ g, r = .osl 24 g 0 X.length ∧ s = [(24, (g, .row 1 (ints X)))] := fun q0 f0 => by
  have := zd hG [(q, false, a), (q', false, b)] q0 f0 (by simp) (by simp [cB]; omega)
  have hc : cB [(q, false, a), (q', false, b)] = X := by rw [hX]; simp [cB]
  rw [hc] at this
  exact this
 rw [← hX]
 obtain ⟨Y, hY⟩ : ∃ Y, Y = fu X := ⟨_, rfl⟩
 have hYl : Y.length = X.length := by rw [hY, iZ]
 have hso : ∀ g, ah Tryz.prog 148 [.osl 1000 g 0 X.length] [(1000, (g, .row 1 (ints X)))] fun r s => r = .tup [] ∧ s = [(1000, (g, .row 1 (ints Y)))] := fun g => by
  rw [hY]
  exact ah.AQ ⟨_, Tryz.func148, by kernel_rfl, rfl⟩ Tryz.slices_Sort_int Tryz.slices_Sort_int_none 1000 g X
 have hco : ∀ g, ah Tryz.prog 149 [.osl 1000 g 0 X.length] [(1000, (g, .row 1 (ints Y)))] fun r s => r = .osl 1000 g 0 (Lib.compact Y).length ∧ s = [(1000, (g, .row 1 (ints (Lib.compact Y))))] := fun g => by
  rw [← hYl]
  exact ah.sk ⟨_, Tryz.func149, by kernel_rfl, rfl⟩ Tryz.slices_Compact_int Tryz.slices_Compact_int_empty 1000 g Y
 rw [← hY]
 generalize Lib.compact Y = Z at hco ⊢
 have hZ : (ints Z).length = Z.length := by simp
 refine ah.give (id := 9) (ah.mono (R := fun r s => ∃ g, r = .osl 9 g 0 Z.length ∧ s = [(9, (g, .row 1 (ints Z)))]) ?_ fun r s h => by rw [hZ]; exact h)
 clear hG hX hY hYl hZ
 refine ah.enter Tryz.func138 rfl (by kernel_rfl) (Nat.le_of_ble_eq_true rfl) ?_; simp only [ai, Nat.reduceAdd]
 repeat' (first
 | refine gCt rfl ?_
 | ((first
 | ((first | refine gRg [8] fp138 ?_); intro K hK)
 | (refine ah.use [(24, 9)] [] rfl (hcc _ _) rfl rfl rfl ?_; rintro _ _ ⟨h9, rfl, rfl⟩; refine ⟨.inl rfl, rfl, ?_⟩; simp only [bk, bk2, bk1, bkS, bkO, bw, aH, go_sem, simprocAttr])
 | (refine ah.use [(1000, 9)] [] rfl (hso _) rfl rfl rfl ?_; rintro _ _ ⟨rfl, rfl⟩; refine ⟨.inl rfl, rfl, ?_⟩; simp only [bk, bk2, bk1, bkS, bkO, bw, aH, go_sem, simprocAttr])
 | (refine ah.use [(1000, 9)] [] rfl (hco _) rfl rfl rfl ?_; rintro _ _ ⟨rfl, rfl⟩; refine ⟨.inl rfl, rfl, ?_⟩; simp only [bk, bk2, bk1, bkS, bkO, bw, aH, go_sem, simprocAttr])
 | (refine ab ?_ ?_ <;> intro hb <;> (try simp only [bls] at hb) <;> (try simp only [hb]))
 | refine gRe [9] [.tmp 4] rfl rfl ?_) <;> (try simp only [go_sem, simprocAttr]))
 | (refine hK _ _ ?_; clear hK K; simp only [go_sem, simprocAttr])
 | refine gCd ?_ | refine brT ?_ | refine brF ?_
 | (refine brS ?_ ?_ <;> intro hc <;> (try simp only [bls] at hc) <;> (try simp only [hc, bls]))
 | intro _ | refine And.intro ?_ ?_)
 all_goals try exact zsd
 exact ⟨_, rfl, rfl⟩
end Go.Rad
namespace Go.Rad
open Go
theorem sL {G : Gh} {w : World} (hw : WOk G w) {q full : Bool} {l : List Int} {v : Value} (h : Rep G true (.sl q full (ints l)) v) :
  ∃ a cap, v = .slice a l.length cap ∧ l.length ≤ maxLen ∧ (l ≠ [] → ∃ b off, a = some ⟨b, off, none⟩ ∧ ∀ j, j < l.length → w.cell? ⟨b, off + j, none⟩ = some (.int .i64 (l.getD j 0))) := by
 rcases List.eq_nil_or_concat l with rfl | hl
 ·obtain ⟨a, cap, h1, _, h3, _⟩ := Rep.fE h
  exact ⟨a, cap, h1, h3, fun h => absurd rfl h⟩
 ·have hl : l ≠ [] := by obtain ⟨a, b, rfl⟩ := hl; simp
  generalize hx : ints l = xs at h
  cases h with
  | slnil _ => exact absurd (by simpa using hx) hl
  | sl h1 h2 h3 h4 h5 h6 h7 h8 h9 =>
   rename_i cap b off c e fr esz
   subst hx
   have hlen : (ints l).length = l.length := by simp
   refine ⟨_, cap, by rw [hlen], by rw [← hlen]; exact h3, fun _ => ⟨b, off, rfl, fun j hj => ?_⟩⟩
   have hj2 : (ints l)[j]? = some [.int .i64 l[j]] := by simp [hj]
   have he : esz = 1 := (h7 j _ hj2).symm
   subst he
   have hr := h9 j 0 [.int .i64 l[j]] (.int .i64 l[j]) hj2 rfl
   obtain ⟨h10, _⟩ := Rep.aK hr
   have hb := hw.F b _ h5
   have hlt : off + j < c.size := by rw [hlen] at h6; omega
   rw [show off + j * 1 + 0 = off + j by omega, Array.getD_eq_getD_getElem?, Array.getElem?_eq_getElem hlt, Option.getD_some] at h10
   rw [cell_of_row w b (off + j) c e fr hb, Array.getElem?_eq_getElem hlt, h10]
   simp [hj]
def wS (P : Program) (f : Nat) : Prop :=
 (∀ (a1 a2 : Option Addr) (n c m d : Nat) (w : World), n ≠ m → Calls P f #[.slice a1 n c, .slice a2 m d] w fun e w' => e = .returned (.bool false) ∧ w' = w) ∧
 (∀ (a1 a2 : Option Addr) (c m d : Nat) (w : World), m ≤ 9223372036854775807 → Calls P f #[.slice a1 0 c, .slice a2 m d] w fun e w' => e = .returned (.bool (decide (m = 0))) ∧ w' = w) ∧
 ∀ (b1 o1 n c b2 o2 m d : Nat) (xs ys : List Int) (w : World), n ≤ xs.length → m ≤ ys.length → n ≤ 9223372036854775807 → m ≤ 9223372036854775807 →
   (∀ j, j < xs.length → w.cell? ⟨b1, o1 + j, none⟩ = some (.int .i64 (xs.getD j 0))) → (∀ j, j < ys.length → w.cell? ⟨b2, o2 + j, none⟩ = some (.int .i64 (ys.getD j 0))) →
   Calls P f #[.slice (some ⟨b1, o1, none⟩) n c, .slice (some ⟨b2, o2, none⟩) m d] w fun e w' => e = .returned (.bool (xs.take n == ys.take m)) ∧ ∃ q, w' = w.drewN q
theorem AZ {G : Gh} {x y : aa} {cargs : Array Value} {v u : Value} (ha : qj G [x, y] cargs) (h0 : cargs.getD 0 undef = v) (h1 : cargs.getD 1 undef = u) : cargs = #[v, u] := by
 have hs : cargs.size = 2 := by have := ha.1; simp at this; omega
 refine Array.ext (by simp [hs]) fun i h4 h5 => ?_
 have : i = 0 ∨ i = 1 := by simp at h5; omega
 rcases this with rfl | rfl
 ·simpa [Array.getD, hs] using h0
 ·simpa [Array.getD, hs] using h1
theorem zi {G : Gh} {w : World} {sto : Sto} (hw : WOk G w) (hs : an G w sto) (q : Nat) : WOk G (w.drewN q) ∧ an G (w.drewN q) sto :=
 iL (w := w) (w' := w.drewN q) ⟨rfl, rfl⟩ hw hs (Nat.le_refl _) (fun _ _ => rfl)
theorem ah.w9 {P : Program} {f : Nat} (able : du P f) (hE : wS P f) (q1 f1 q2 f2 : Bool) (a b : List Int) : ah P f [.sl q1 f1 (ints a), .sl q2 f2 (ints b)] [] fun r s => r = .bool (decide (a = b)) ∧ s = [] := by
 refine ⟨able, fun G w cargs hw hs ha => ?_⟩
 obtain ⟨p1, c1, hv1, hm1, hc1⟩ := sL hw (ha.2 0 _ rfl)
 obtain ⟨p2, c2, hv2, hm2, hc2⟩ := sL hw (ha.2 1 _ rfl)
 rw [AZ ha hv1 hv2]
 by_cases hl : a.length = b.length
 ·rcases List.eq_nil_or_concat a with rfl | hne
  ·refine (hE.2.1 p1 p2 c1 b.length c2 w hm2).mono fun e w' h => ?_
   obtain ⟨rfl, rfl⟩ := h
   have : b = [] := List.eq_nil_of_length_eq_zero hl.symm
   subst this
   exact ⟨G, _, .bool true, [], rfl, .refl G, hw, hs, .bool, rfl, rfl⟩
  ·have hne : a ≠ [] := by obtain ⟨x, y, rfl⟩ := hne; simp
   have hne2 : b ≠ [] := fun e => hne (List.eq_nil_of_length_eq_zero (by rw [hl, e]; rfl))
   obtain ⟨b1, o1, rfl, hx⟩ := hc1 hne
   obtain ⟨b2, o2, rfl, hy⟩ := hc2 hne2
   refine (hE.2.2 b1 o1 a.length c1 b2 o2 b.length c2 a b w (Nat.le_refl _) (Nat.le_refl _) hm1 hm2 hx hy).mono fun e w' h => ?_
   obtain ⟨rfl, n, rfl⟩ := h
   obtain ⟨h1, h2⟩ := zi hw hs n
   refine ⟨G, _, .bool (decide (a = b)), [], rfl, .refl G, h1, h2, ?_, rfl, rfl⟩
   rw [List.take_length, List.take_length, show (a == b) = decide (a = b) by by_cases h : a = b <;> simp [h]]
   exact .bool
 ·refine (hE.1 p1 p2 a.length c1 b.length c2 w hl).mono fun e w' h => ?_
  obtain ⟨rfl, rfl⟩ := h
  exact ⟨G, _, .bool false, [], rfl, .refl G, hw, hs, .bool, by rw [decide_eq_false fun e => hl (by rw [e])], rfl⟩
end Go.Rad
namespace Go.Proofs
open Go.Shelf
def Tryz.kZ : Go.Shelf.Ren := ⟨fun | 4 => 175 | n => n, fun | 22 => 39 | 25 => 3 | 3 => 3 | 4 => 4 | 9 => 9 | 20 => 20 | 0 => 0 | n => n, fun | n => n⟩
theorem Tryz.Ej : Go.Proofs.Lays8.n4 Tryz.prog Tryz.kZ := {
 mixed := by kernel_rfl
 f4 := ⟨Tryz.f175.name, by decide, Tryz.func175.trans (congrArg some (by kernel_rfl))⟩
 t0 := Tryz.underlying0
 a0 := Tryz.isAgg0
 z0 := Tryz.sizeOf0
 v0 := Tryz.zeroValue0
 t3 := Tryz.underlying3
 a3 := Tryz.isAgg3
 z3 := Tryz.sizeOf3
 v3 := Tryz.zeroValue3
 t4 := Tryz.underlying4
 a4 := Tryz.isAgg4
 z4 := Tryz.sizeOf4
 v4 := Tryz.zeroValue4
 t9 := Tryz.underlying9
 a9 := Tryz.isAgg9
 z9 := Tryz.sizeOf9
 v9 := Tryz.zeroValue9
 t20 := Tryz.underlying20
 a20 := Tryz.isAgg20
 z20 := Tryz.sizeOf20
 v20 := Tryz.zeroValue20
 t22 := Tryz.underlying39
 a22 := Tryz.isAgg39
 z22 := Tryz.sizeOf39
 v22 := Tryz.zeroValue39 }
end Go.Proofs
namespace Go.Rad
open Go Go.Proofs
theorem zy : jP Tryz.prog 175 := by
 refine ⟨fun a w => ?_, fun a n w h0 hn => ?_⟩
 ·exact Any8.slices_Grow_room Tryz.Ej a 0 0 0 w (Nat.le_refl _) (by omega) (by omega) (Nat.le_refl _)
 ·have h := Any8.slices_Grow_grow Tryz.Ej Tryz.t3 (.int .i64 0) (by kernel_rfl) (by kernel_rfl) (by decide) a 0 0 n [] w (Nat.le_refl _) (by omega) (by show (0 + n) * 8 ≤ _; omega) (by omega) rfl (fun _ => rfl) (fun _ _ j v hv => by simp at hv)
  refine h.mono fun e w' h => ?_
  obtain ⟨h1, h2⟩ := h
  have hg := fm (w := w) (need := 0 + n) (old := 0) (e := Tryz.kZ.t 25) (by unfold ao; omega)
  refine ⟨_, _, _, hg.2, ?_, h1, h2⟩
  have hz : (Value.int IntKind.i64 0).cells.size = 1 := rfl
  simp only [Array.size_append, Go.size_zeroCells, hz]
  generalize grownCap w (0 + n) 0 (Tryz.kZ.t 25) = C at hg ⊢
  simp
  omega
theorem zo (q f q' f' : Bool) (a b : List Int) : ah Tryz.prog 108 [.sl q f (ints a), .sl q' f' (ints b)] [] fun r s => r = .bool (decide (a = b)) ∧ s = [] :=
 ah.w9 ⟨_, Tryz.func108, by kernel_rfl, rfl⟩ ⟨Tryz.slices_Equal_int_lens, Tryz.slices_Equal_int_empty, fun b1 o1 n c b2 o2 m d xs ys w h1 h2 h3 h4 h5 h6 => Tryz.slices_Equal_int b1 o1 n c b2 o2 m d xs ys w h1 h2 h3 h4 h5 h6⟩ q f q' f' a b
end Go.Rad
namespace Go.Rad
open Go
theorem ku : ∀ {a b : List Int}, a.Pairwise (· < ·) → b.Pairwise (· < ·) → (∀ x, x ∈ a ↔ x ∈ b) → a = b
 | [], [], _, _, _ => rfl
 | [], y :: b, _, _, h => absurd ((h y).2 (by simp)) (by simp)
 | x :: a, [], _, _, h => absurd ((h x).1 (by simp)) (by simp)
 | x :: a, y :: b, ha, hb, h => by
  rw [List.pairwise_cons] at ha hb
  have hxy : x = y := by
   have h1 : x = y ∨ x ∈ b := by simpa using (h x).1 (by simp)
   have h2 : y = x ∨ y ∈ a := by simpa using (h y).2 (by simp)
   rcases h1 with h1 | h1
   ·exact h1
   ·rcases h2 with h2 | h2
    ·exact h2.symm
    ·have := ha.1 y h2; have := hb.1 x h1; omega
  subst hxy
  refine congrArg (x :: ·) (ku ha.2 hb.2 fun z => ?_)
  have hz := h z
  simp only [List.mem_cons] at hz
  constructor
  ·intro hm
   rcases hz.1 (.inr hm) with rfl | h1
   ·have := ha.1 z hm; omega
   ·exact h1
  ·intro hm
   rcases hz.2 (.inr hm) with rfl | h1
   ·have := hb.1 z hm; omega
   ·exact h1
theorem yg {l : List Int} {x : Int} : x ∈ fu l ↔ x ∈ l := (List.mergeSort_perm l _).mem_iff
theorem u4 (l : List Int) : (fu l).Pairwise (· ≤ ·) := by
 have := List.pairwise_mergeSort (le := fun x y : Int => decide (x ≤ y)) (fun a b c h1 h2 => by simp at *; omega) (fun a b => by simp; omega) l
 exact this.imp fun h => by simpa using h
theorem qt {l : List Int} (h : l.Pairwise (· ≤ ·)) : (Lib.compact l).Pairwise (· < ·) ∧ ∀ x, x ∈ Lib.compact l ↔ x ∈ l := by
 have hle : ∀ i j (hi : i < l.length) (hj : j < l.length), i ≤ j → l[i] ≤ l[j] := fun i j hi hj hij => by
  rcases Nat.lt_or_eq_of_le hij with h1 | h1
  ·exact List.pairwise_iff_getElem.1 h i j hi hj h1
  ·subst h1; exact Int.le_refl _
 refine ⟨?_, fun x => ⟨lJ, fun hx => ?_⟩⟩
 ·unfold Lib.compact Lib.compactUpTo
  rw [List.pairwise_map]
  refine (List.pairwise_iff_forall_sublist.2 fun {i j} hs => ?_)
  have hm : ∀ k ∈ [i, j], k ∈ (List.range l.length).filter (Lib.keeps l.toArray) := fun k hk => hs.subset hk
  have hij : i < j := by
   have hp : ((List.range l.length).filter (Lib.keeps l.toArray)).Pairwise (· < ·) := (List.pairwise_lt_range).filter _
   exact List.pairwise_iff_forall_sublist.1 hp hs
  have hi := List.mem_filter.1 (hm i (by simp))
  have hj := List.mem_filter.1 (hm j (by simp))
  have hil : i < l.length := by simpa using hi.1
  have hjl : j < l.length := by simpa using hj.1
  have hk := hj.2
  simp only [Lib.keeps, Bool.or_eq_true, decide_eq_true_eq, bne_iff_ne, ne_eq, beq_iff_eq] at hk
  have h1 := hle i (j - 1) hil (by omega) (by omega)
  have h2 := hle (j - 1) j (by omega) hjl (by omega)
  simp only [List.getElem!_toArray, List.getElem!_eq_getElem?_getD, List.getElem?_eq_getElem hil, List.getElem?_eq_getElem hjl, List.getElem?_eq_getElem (show j - 1 < l.length by omega), Option.getD_some] at hk ⊢
  omega
 ·obtain ⟨j, hj, rfl⟩ := List.getElem_of_mem hx
  induction j with
  | zero =>
   unfold Lib.compact Lib.compactUpTo
   exact List.mem_map.2 ⟨0, List.mem_filter.2 ⟨by simpa using hj, by simp [Lib.keeps]⟩, by simp [hj]⟩
  | succ j ih =>
   by_cases he : l[j + 1] = l[j]'(by omega)
   ·rw [he]; exact ih (by omega) (List.getElem_mem _)
   ·unfold Lib.compact Lib.compactUpTo
    refine List.mem_map.2 ⟨j + 1, List.mem_filter.2 ⟨by simpa using hj, ?_⟩, by simp [hj]⟩
    have hj0 : j < l.length := by omega
    simp [Lib.keeps, hj, hj0, he]
theorem qu {l m : List Int} (hm : m.Pairwise (· < ·)) (h : ∀ x, x ∈ l ↔ x ∈ m) : Lib.compact (fu l) = m := by
 obtain ⟨h1, h2⟩ := qt (u4 l)
 exact ku h1 hm fun x => by rw [h2, yg, h]
end Go.Rad
namespace Go.Rad
open Go Go.Proofs
theorem iU (s : List Bool) : (bO s).Pairwise (· < ·) := by
 unfold bO lj
 rw [List.pairwise_map]
 exact (List.pairwise_lt_range.filter _).imp fun h => by omega
theorem eT {s : List Bool} {x : Int} : x ∈ bO s ↔ ∃ i : Nat, x = i ∧ s.getD i false = true := by
 unfold bO lj
 simp only [List.mem_map, List.mem_filter, List.mem_range]
 constructor
 ·rintro ⟨i, ⟨_, h⟩, rfl⟩; exact ⟨i, rfl, h⟩
 ·rintro ⟨i, rfl, h⟩
  refine ⟨i, ⟨?_, h⟩, rfl⟩
  rcases Nat.lt_or_ge i s.length with h1 | h1
  ·exact h1
  ·simp [List.getD_eq_getElem?_getD, List.getElem?_eq_none h1] at h
theorem xH {a b : List Bool} (h : a.length = b.length) : Lib.compact (fu (bO a ++ bO b)) = bO (orB a b) := by
 refine qu (iU _) fun x => ?_
 rw [List.mem_append, eT, eT, eT]
 have hg := cu (a := a) (b := b) rfl h.symm
 constructor
 ·rintro (⟨i, h1, h2⟩ | ⟨i, h1, h2⟩)
  ·exact ⟨i, h1, by rw [hg, h2]; rfl⟩
  ·exact ⟨i, h1, by rw [hg, h2]; simp⟩
 ·rintro ⟨i, h1, h2⟩
  rw [hg, Bool.or_eq_true] at h2
  rcases h2 with h2 | h2
  ·exact .inl ⟨i, h1, h2⟩
  ·exact .inr ⟨i, h1, h2⟩
theorem sX (q f q' f' : Bool) (a b : List Bool) (h : a.length = b.length) (hl : a.length ≤ 1000001) : ah Tryz.prog 138 [.sl q f (ints (bO a)), .sl q' f' (ints (bO b))] [] fun r s => r = .sl true false (ints (bO (orB a b))) ∧ s = [] := by
 have h1 := iw a
 have h2 := iw b
 have := C3 zy q f q' f' (bO a) (bO b) (by omega)
 rwa [xH h] at this
end Go.Rad
namespace Go.Rad
open Go Go.Proofs
def oC (s : av) (w : ByteArray) (l : List Nat) : List Nat := (l.filter fun i => decide (i < w.size) && dz s (cd w i)).map (· + 1)
theorem xT (s : List Bool) : (lj s).Pairwise (· < ·) := List.pairwise_lt_range.filter _
theorem step_pos (s : av) (w : ByteArray) (fr : List Bool) (hf : fr.length = w.size + 1) : (oC s w (lj fr)).map (fun (i : Nat) => (i : Int)) = bO (eA s w fr) := by
 refine ku ?_ (iU _) fun x => ?_
 ·unfold oC
  rw [List.pairwise_map, List.pairwise_map]
  exact ((xT fr).filter _).imp fun h => by omega
 ·rw [eT]
  simp only [oC, List.mem_map, List.mem_filter, Bool.and_eq_true, decide_eq_true_eq]
  have hone : ∀ i, (eA s w fr).getD (i + 1) false = (decide (i < w.size) && hit s w fr i) := fun i => by
   simp only [eA, List.getD_eq_getElem?_getD, List.getElem?_cons_succ, List.getElem?_map]
   by_cases h : i < w.size <;> simp [h, List.getElem?_range]
  constructor
  ·rintro ⟨k, ⟨i, ⟨h1, h2, h3⟩, rfl⟩, rfl⟩
   refine ⟨i + 1, rfl, ?_⟩
   have h4 : fr.getD i false = true := (List.mem_filter.1 h1).2
   rw [hone, hit, h4, h3]; simp [h2]
  ·rintro ⟨k, rfl, hk⟩
   cases k with
   | zero => simp [eA] at hk
   | succ i =>
    rw [hone, hit] at hk
    simp only [Bool.and_eq_true, decide_eq_true_eq] at hk
    refine ⟨i + 1, ⟨i, ⟨List.mem_filter.2 ⟨List.mem_range.2 (by omega), hk.2.1⟩, hk.1, hk.2.2⟩, rfl⟩, rfl⟩
end Go.Rad
namespace Go.Rad
open Go Go.Proofs
set_option linter.all false
set_option maxRecDepth 20000
set_option maxHeartbeats 4000000
theorem BH {a : Int} (h : 0 ≤ a) : bitsOf .and .u64 a 1 = a.tmod 2 := by
 obtain ⟨n, rfl⟩ : ∃ n : Nat, a = n := ⟨a.toNat, by omega⟩
 unfold bitsOf
 simp
 have h1 : n % 2 ^ IntKind.u64.bits &&& 1 % 2 ^ IntKind.u64.bits = n % 2 := by
  show n % 18446744073709551616 &&& 1 = n % 2
  rw [Nat.and_one_is_mod]; omega
 rw [h1, Int.tmod_eq_emod_of_nonneg h]
 have h2 : n % 2 = 0 ∨ n % 2 = 1 := by omega
 rcases h2 with h2 | h2
 ·rw [h2, show (n : Int) % 2 = 0 by omega]; rfl
 ·rw [h2, show (n : Int) % 2 = 1 by omega]; rfl
theorem Ib (s : av) (hs : ∀ k, 0 ≤ s.word k) (n : Nat) (h1 : n ≤ 255) : ah Tryz.prog 137 [.agg s.cells, .int .u8 n] [] fun r s' => r = .bool (dz s n) ∧ s' = [] := by
 obtain ⟨s0, s1, s2, s3⟩ := s
 simp only [av.cells]
 have h4 : n / 64 = 0 ∨ n / 64 = 1 ∨ n / 64 = 2 ∨ n / 64 = 3 := by omega
 rcases h4 with h4 | h4 | h4 | h4
 all_goals
  (first | refine ep (c := 0) h4 rfl fun hd hm hmin => ?_ | refine ep (c := 1) h4 rfl fun hd hm hmin => ?_ | refine ep (c := 2) h4 rfl fun hd hm hmin => ?_ | refine ep (c := 3) h4 rfl fun hd hm hmin => ?_)
  have hw := hs (n / 64)
  simp only [h4, av.word] at hw
  have ha := BH (a := Int.fdiv _ (2 ^ (n % 64))) (Int.fdiv_nonneg hw (Int.le_of_lt (Int.pow_pos (by omega))))
  simp only [dz, h4, av.word]
  refine ah.enter Tryz.func137 rfl (by kernel_rfl) (Nat.le_of_ble_eq_true rfl) ?_; simp only [ai, Nat.reduceAdd]
  repeat' (first
 | refine gCt rfl ?_
 | ((first
 | ((first | refine gR fp137 ?_); intro K hK)
 | (refine ab ?_ ?_ <;> intro hb <;> (try simp only [bls] at hb) <;> (try simp only [hb]))
 | refine gRe [] [.tmp 4] rfl rfl ?_) <;> (try simp only [go_sem, simprocAttr, hd, hm, hmin, ha, ma, IntKind.bits, Int.toNat_natCast, Int.natCast_nonneg]))
 | (refine hK _ _ ?_; clear hK K; simp only [go_sem, simprocAttr])
 | refine gCd ?_ | refine brT ?_ | refine brF ?_
 | (refine brS ?_ ?_ <;> intro hc <;> (try simp only [bls] at hc) <;> (try simp only [hc, bls]))
 | intro _ | refine And.intro ?_ ?_)
 all_goals (try exact ⟨rfl, rfl⟩)
 all_goals trace_state
end Go.Rad
namespace Go.Rad
open Go Go.Proofs
set_option linter.all false
set_option maxRecDepth 20000
set_option maxHeartbeats 4000000
theorem B4 {q f : Bool} {ns : List Node} {w : ByteArray} (hw : w.size ≤ 1000000) (n : Node) (i : Nat) (h1 : ns[i]? = some n) (h2 : n.op = 2) (hss : ∀ k, 0 ≤ n.s.word k) (s : List Bool) (hs : s.length = w.size + 1) :
  ah Tryz.prog 119 [.agg [.sl q f (nodes ns), .str w], .int .i64 i, .sl true false (ints (bO s))] [] fun r s' => r = .sl true false (ints (bO (eA n.s w s))) ∧ s' = [] := by
 have hi := (List.getElem?_eq_some_iff.1 h1).1
 have e1 : (i : Int) < ns.length := by omega
 have e2 : (0 : Int) ≤ i := by omega
 have hsp := step_pos n.s w s hs
 have hpl : (lj s).length ≤ w.size + 1 := by have := iw s; simpa [hs] using this
 have hpm : ∀ k ∈ lj s, k ≤ w.size := fun k hk => by have := List.mem_range.1 (List.mem_filter.1 hk).1; omega
 rw [← hsp]
 unfold bO
 clear hsp
 generalize lj s = P at hpl hpm ⊢
 have hh := fun k hk => Ib n.s hss k hk
 obtain ⟨xo, ⟨xa, xb, xc, xd⟩, xl, xlo, xhi, xn⟩ := n
 simp only [av.cells] at h2 hh
 refine ah.enter Tryz.func119 rfl (by kernel_rfl) (Nat.le_of_ble_eq_true rfl) ?_; simp only [ai, Nat.reduceAdd]
 repeat' (first
 | refine gCt rfl ?_
 | ((first
 | ((first | refine gR fp119 ?_ | refine gD 8 14 eb fp119 ?_); intro K hK)
 | (refine ab ?_ ?_ <;> intro hb <;> (try simp only [bls] at hb) <;> (try simp only [hb]))
 | refine gRe [] [.tmp 6] rfl rfl ?_) <;> (try simp only [go_sem, simprocAttr, e1, e2, h1, eq_true h2, Option.some.injEq, forall_eq']))
 | (refine hK _ _ ?_; clear hK K; simp only [go_sem, simprocAttr])
 | refine gCd ?_ | refine brT ?_ | refine brF ?_
 | (refine brS ?_ ?_ <;> intro hc <;> (try simp only [bls] at hc) <;> (try simp only [hc, bls]))
 | intro _ | refine And.intro ?_ ?_)
 all_goals try exact zsd
 rename_i h3 h7
 refine ae.lQ 8 900 1 (by decide) rfl fun g => ?_
 refine ae.prune [3, 6, 7, 8, 25, 26, 27] ?_; simp only [go_sem, simprocAttr]
 refine ae.al (α := Nat × Nat) (fun z => ([(3, .bx 3 h3 0), (6, .sl true true []), (7, .bx 7 h7 0), (8, .osl 900 z.2 0 (oC ⟨xa, xb, xc, xd⟩ w (P.take z.1)).length), (25, .sl true false (ints (P.map fun (i : Nat) => (i : Int)))), (26, .int .i64 P.length), (27, .int .i64 z.1)], [(3, h3, .box [.sl q f (nodes ns), .str w]), (7, h7, .box [.int .u8 xo, .int .u64 xa, .int .u64 xb, .int .u64 xc, .int .u64 xd, .sl true false (ints xl), .int .i64 xlo, .int .i64 xhi, .str xn]), (900, (z.2, .row 1 (ints ((oC ⟨xa, xb, xc, xd⟩ w (P.take z.1)).map fun (i : Nat) => (i : Int)))))])) (fun z => z.1 ≤ P.length) (fun z => P.length - z.1) (0, g) (Nat.zero_le _) (by simp [oC]) ?_
 rintro ⟨j, g⟩ hj ih
 simp only at hj ih ⊢
 by_cases hle : j < P.length
 ·have f4 : (j : Int) < P.length := by omega
  have f5 : (0 : Int) ≤ j := by omega
  have f6 : (j : Int) + 1 = ((j + 1 : Nat) : Int) := by omega
  obtain ⟨k, hk⟩ : ∃ k, P[j]? = some k := ⟨_, List.getElem?_eq_getElem hle⟩
  have hkw := hpm k (List.mem_of_getElem? hk)
  have hx : (P.map fun (i : Nat) => (i : Int))[j]? = some (k : Int) := by simp [hk]
  have hst : oC ⟨xa, xb, xc, xd⟩ w (P.take (j + 1)) = oC ⟨xa, xb, xc, xd⟩ w (P.take j) ++ (if decide (k < w.size) && dz ⟨xa, xb, xc, xd⟩ (cd w k) then [k + 1] else []) := by
   rw [take_one hk]
   unfold oC
   rw [List.filter_append, List.map_append]
   cases h : (decide (k < w.size) && dz ⟨xa, xb, xc, xd⟩ (cd w k)) <;> simp [h]
  have hsl : (oC ⟨xa, xb, xc, xd⟩ w (P.take j)).length ≤ j := by
   unfold oC
   rw [List.length_map]
   exact Nat.le_trans (List.length_filter_le _ _) (by simp; omega)
  have f8 : (0 : Int) ≤ k := by omega
  have f9 : (k : Int) + 1 = ((k + 1 : Nat) : Int) := by omega
  have hc := hh (cd w k) (pw w k)
  by_cases hkw2 : k < w.size
  ·have f7 : (k : Int) < w.size := by omega
   cases hb : dz ⟨xa, xb, xc, xd⟩ (cd w k)
   ·rw [hb, decide_eq_true hkw2] at hst
    rw [hb] at hc
    simp only [Bool.and_false, Bool.false_eq_true, if_false, List.append_nil] at hst
    repeat' (first
 | refine gCt rfl ?_
 | ((first
 | ((first | refine gR fp119 ?_ | refine gD 8 14 eb fp119 ?_); intro K hK)
 | refine ⟨_, ah.alone (hc) rfl rfl rfl, ?_⟩
 | (refine ab ?_ ?_ <;> intro hb <;> (try simp only [bls] at hb) <;> (try simp only [hb]))
 | refine gRe [] [.tmp 6] rfl rfl ?_) <;> (try simp only [go_sem, simprocAttr, f4, f5, f6, f7, f8, f9, hx, eX, Option.some.injEq, forall_eq']))
 | (refine hK _ _ ?_; clear hK K; simp only [go_sem, simprocAttr])
 | refine gCd ?_ | refine brT ?_ | refine brF ?_
 | (refine brS ?_ ?_ <;> intro hc <;> (try simp only [bls] at hc) <;> (try simp only [hc, bls]))
 | intro _ | refine And.intro ?_ ?_)
    all_goals try exact zsd
    all_goals (refine ae.bC [3, 7, 900] ?_; simp only [aq, ax, go_sem, simprocAttr]; refine ae.prune [3, 6, 7, 8, 25, 26, 27] ?_; simp only [go_sem, simprocAttr]; exact ae.cast (ih (j + 1, g) (by simp only; omega) (by simp only; omega)) (by simp only [hst]) (by simp only [hst]))
   ·rw [hb, decide_eq_true hkw2] at hst
    rw [hb] at hc
    simp only [Bool.and_true, if_true] at hst
    repeat' (first
 | refine gCt rfl ?_
 | ((first
 | ((first | refine gRg [48] fp119 ?_ | refine gDr 8 [48] 14 eb fp119 rfl ?_); intro K hK)
 | refine ⟨_, ah.alone (hc) rfl rfl rfl, ?_⟩
 | (refine ab ?_ ?_ <;> intro hb <;> (try simp only [bls] at hb) <;> (try simp only [hb]))
 | refine gRe [] [.tmp 6] rfl rfl ?_) <;> (try simp only [go_sem, simprocAttr, f4, f5, f6, f7, f8, f9, hx, eX, Option.some.injEq, forall_eq']))
 | (refine hK _ _ ?_; clear hK K; simp only [go_sem, simprocAttr])
 | refine gCd ?_ | refine brT ?_ | refine brF ?_
 | (refine brS ?_ ?_ <;> intro hc <;> (try simp only [bls] at hc) <;> (try simp only [hc, bls]))
 | intro _ | refine And.intro ?_ ?_)
    all_goals try exact zsd
    rename_i h'
    refine ae.bC [3, 7, 900] ?_; simp only [aq, ax, go_sem, simprocAttr]; refine ae.prune [3, 6, 7, 8, 25, 26, 27] ?_; simp only [go_sem, simprocAttr]
    exact ae.cast (ih (j + 1, h') (by simp only; omega) (by simp only; omega)) (by simp only [hst]; simp) (by simp only [hst]; simp)
  ·have f7 : ¬ (k : Int) < w.size := by omega
   rw [decide_eq_false hkw2] at hst
   simp only [Bool.false_and, Bool.false_eq_true, if_false, List.append_nil] at hst
   repeat' (first
 | refine gCt rfl ?_
 | ((first
 | ((first | refine gR fp119 ?_ | refine gD 8 14 eb fp119 ?_); intro K hK)
 | refine ⟨_, ah.alone (hc) rfl rfl rfl, ?_⟩
 | (refine ab ?_ ?_ <;> intro hb <;> (try simp only [bls] at hb) <;> (try simp only [hb]))
 | refine gRe [] [.tmp 6] rfl rfl ?_) <;> (try simp only [go_sem, simprocAttr, f4, f5, f6, f7, f8, f9, hx, eX, Option.some.injEq, forall_eq']))
 | (refine hK _ _ ?_; clear hK K; simp only [go_sem, simprocAttr])
 | refine gCd ?_ | refine brT ?_ | refine brF ?_
 | (refine brS ?_ ?_ <;> intro hc <;> (try simp only [bls] at hc) <;> (try simp only [hc, bls]))
 | intro _ | refine And.intro ?_ ?_)
   all_goals try exact zsd
   all_goals (refine ae.bC [3, 7, 900] ?_; simp only [aq, ax, go_sem, simprocAttr]; refine ae.prune [3, 6, 7, 8, 25, 26, 27] ?_; simp only [go_sem, simprocAttr]; exact ae.cast (ih (j + 1, g) (by simp only; omega) (by simp only; omega)) (by simp only [hst]) (by simp only [hst]))
 ·have f4 : ¬ (j : Int) < P.length := by omega
  rw [List.take_of_length_le (by omega)]
  clear ih
  repeat' (first
 | refine gCt rfl ?_
 | ((first
 | (refine ae.at 11 ?_; (refine ae.freeze 900 rfl ?_; simp only [rfT, rfS, rfO, rf, rf1, Nat.le_refl, true_and, go_sem, simprocAttr]); refine gR fp119 ?_; intro K hK)
 | ((first | refine gR fp119 ?_ | refine gD 8 14 eb fp119 ?_); intro K hK)
 | (refine ab ?_ ?_ <;> intro hb <;> (try simp only [bls] at hb) <;> (try simp only [hb]))
 | refine gRe [] [.tmp 6] rfl rfl ?_) <;> (try simp only [go_sem, simprocAttr, f4]))
 | (refine hK _ _ ?_; clear hK K; simp only [go_sem, simprocAttr])
 | refine gCd ?_ | refine brT ?_ | refine brF ?_
 | (refine brS ?_ ?_ <;> intro hc <;> (try simp only [bls] at hc) <;> (try simp only [hc, bls]))
 | intro _ | refine And.intro ?_ ?_)
  all_goals try exact zsd
  exact congrArg (aa.sl true false) (List.take_of_length_le (by simp))
end Go.Rad
