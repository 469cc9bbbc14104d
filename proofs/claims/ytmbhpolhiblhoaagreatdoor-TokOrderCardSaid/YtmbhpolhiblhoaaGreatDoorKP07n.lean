/- A part of the proof. -/
import Derived.Test.YtmbhpolhiblhoaaGreatDoorKP07b
import Derived.Test.YtmbhpolhiblhoaaGreatDoorKC03c
import Derived.Test.YtmbhpolhiblhoaaGreatDoorKP15c
import Derived.Test.YtmbhpolhiblhoaaGreatDoorKRDefer
set_option linter.all false
namespace Go.Rad
open Go Go.Proofs
set_option linter.all false
set_option maxRecDepth 20000
set_option maxHeartbeats 4000000
theorem wz (s : List Bool) : (bO s).length = c7 s := by
 have h : s = (List.range s.length).map fun i => s.getD i false := by
  refine List.ext_getElem (by simp) fun i h1 h2 => ?_
  simp [List.getD, h1]
 rw [bO, List.length_map, lj, ← List.countP_eq_length_filter]
 conv => rhs; rw [h, c7, List.countP_map]
 rfl
theorem Dr {a b : List Bool} (h : a.length = b.length) (e : bO a = bO b) : a = b := by
 refine fM h fun i => ?_
 have key : ∀ s : List Bool, s.getD i false = true ↔ (i : Int) ∈ bO s := fun s => by
  rw [eT]
  exact ⟨fun h => ⟨i, rfl, h⟩, fun ⟨k, h1, h2⟩ => by rw [show i = k by omega]; exact h2⟩
 have := (key a).trans (e ▸ (key b).symm)
 cases ha : a.getD i false with
 | true => exact (this.1 ha).symm
 | false =>
  cases hb : b.getD i false with
  | false => rfl
  | true => rw [this.2 hb] at ha; exact ha.symm
def Ee (P : Program) (fno : Nat) (q f : Bool) (ns : List Node) (w : ByteArray) (kd : Int) (g : List Bool → List Bool) : Prop :=
 ∀ s : List Bool, s.length = w.size + 1 → ah P fno [.agg [.sl q f (nodes ns), .str w], .int .i64 kd, .sl true false (ints (bO s))] [] fun r s' => r = .sl true false (ints (bO (g s))) ∧ s' = []
theorem DL {q f : Bool} {ns : List Node} {w : ByteArray} (hw : w.size ≤ 1000000) (n : Node) (kid : Int) (g : List Bool → List Bool) (hn : n.l = [kid]) (hlo : 0 ≤ n.lo ∧ n.lo ≤ 4096) (hhi : n.hi = -1 ∨ n.lo ≤ n.hi ∧ n.hi ≤ 4096) (hk : Ee Tryz.prog 119 q f ns w kid g) (hg : Add (w.size + 1) g) (s : List Bool) (hs : s.length = w.size + 1) :
  ah Tryz.prog 139 [.agg [.sl q f (nodes ns), .str w], .agg n.cells, .sl true false (ints (bO s))] [] fun r s' => r = .sl true false (ints (bO (km w n.lo n.hi g s))) ∧ s' = [] := by
 obtain ⟨xo, ⟨xa, xb, xc, xd⟩, xl, xlo, xhi, xn⟩ := n
 simp only at hn hlo hhi
 have hx0 : xl[0]? = some kid := by rw [hn]; rfl
 have e0 : (0 : Int) < xl.length := by rw [hn]; exact Int.one_pos
 clear hn
 obtain ⟨lo, rfl⟩ : ∃ lo : Nat, xlo = lo := ⟨xlo.toNat, by omega⟩
 simp only [Node.cells, Node.eJ]
 obtain ⟨S1, hS1⟩ : ∃ S1, S1 = itB g lo s := ⟨_, rfl⟩
 have hS1l : S1.length = w.size + 1 := by rw [hS1]; exact di hg hs lo
 obtain ⟨M, hM⟩ : ∃ M : Nat, M = if xhi = -1 then w.size + 1 else (xhi - lo).toNat := ⟨_, rfl⟩
 have hrep : km w lo xhi g s = uB g M S1 := by rw [km, ← hM, Int.toNat_natCast, ← hS1]
 rw [hrep]
 clear hrep
 refine ah.enter Tryz.func139 rfl (by kernel_rfl) (Nat.le_of_ble_eq_true rfl) ?_; simp only [ai, Nat.reduceAdd]
 repeat' (first
 | refine gCt rfl ?_
 | ((first
 | ((first | refine gR fp139 ?_ | refine gD 3 8 ro8 fp139 ?_ | refine gD 11 8 ro8 fp139 ?_); intro K hK)
 | (refine ab ?_ ?_ <;> intro hb <;> (try simp only [bls] at hb) <;> (try simp only [hb]))
 | refine gRe [] [.tmp 6] rfl rfl ?_) <;> (try simp only [go_sem, simprocAttr]))
 | (refine hK _ _ ?_; clear hK K; simp only [go_sem, simprocAttr])
 | refine gCd ?_ | refine brT ?_ | refine brF ?_
 | (refine brS ?_ ?_ <;> intro hc <;> (try simp only [bls] at hc) <;> (try simp only [hc, bls]))
 | intro _ | refine And.intro ?_ ?_)
 all_goals try exact zsd
 rename_i h3 h4
 refine ae.prune [2, 3, 4, 6, 12, 13] ?_; simp only [go_sem, simprocAttr]
 apply hv0
 case main =>
  intro key
  refine ae.al (α := Nat) (fun i => ([(2, .sl true false (ints (bO (itB g i s)))), (3, .bx 3 h3 0), (4, .bx 4 h4 0), (6, .sl true true []), (12, .int .i64 lo), (13, .int .i64 i)], [(3, h3, .box [.sl q f (nodes ns), .str w]), (4, h4, .box [.int .u8 xo, .int .u64 xa, .int .u64 xb, .int .u64 xc, .int .u64 xd, .sl true false (ints xl), .int .i64 lo, .int .i64 xhi, .str xn])]))
   (fun i => i ≤ lo) (fun i => lo - i) 0 (Nat.zero_le _) rfl ?_
  rintro i hi ih
  simp only at hi ih ⊢
  have hil := di hg hs i
  by_cases hle : i < lo
  ·have e4 : (i : Int) < lo := by omega
   have e6 : (i : Int) + 1 = ((i + 1 : Nat) : Int) := by omega
   have hc := hk (itB g i s) hil
   rw [← gq g] at hc
   have hsm := zo true false true false (bO (itB g (i + 1) s)) (bO (itB g i s))
   by_cases hst : bO (itB g (i + 1) s) = bO (itB g i s)
   ·rw [decide_eq_true hst] at hsm
    have hst := Dr (by rw [di hg hs, hil]) hst
    have hfin : itB g i s = S1 := by
     have := vS (g := g) (s := s) (i := i) (show g (itB g i s) = itB g i s by rw [← gq g]; exact hst) (lo - i)
     rw [show i + (lo - i) = lo by omega] at this
     rw [hS1, this]
    rw [hst] at hc hsm
    rw [hfin] at hc hsm ⊢
    repeat' (first
 | (refine ae.at 7 ?_; (refine ae.prune [2, 3, 4, 6] ?_; simp only [go_sem, simprocAttr]; refine tH ?_))
 | refine gCt rfl ?_
 | ((first
 | ((first | refine gR fp139 ?_ | refine gD 3 8 ro8 fp139 ?_ | refine gD 11 8 ro8 fp139 ?_); intro K hK)
 | refine cAl (hsm) rfl rfl rfl ?_
 | refine ⟨_, ah.alone (hc) rfl rfl rfl, ?_⟩
 | (refine ab ?_ ?_ <;> intro hb <;> (try simp only [bls] at hb) <;> (try simp only [hb]))
 | refine gRe [] [.tmp 6] rfl rfl ?_) <;> (try simp only [go_sem, simprocAttr, e4, e6, hx0, e0, Option.some.injEq, forall_eq']))
 | (refine hK _ _ ?_; clear hK K; simp only [go_sem, simprocAttr])
 | refine gCd ?_ | refine brT ?_ | refine brF ?_
 | (refine brS ?_ ?_ <;> intro hc <;> (try simp only [bls] at hc) <;> (try simp only [hc, bls]))
 | intro _ | refine And.intro ?_ ?_)
    all_goals try exact zsd
    refine tG ?_; exact key.out
   ·rw [decide_eq_false hst] at hsm
    repeat' (first
 | refine gCt rfl ?_
 | ((first
 | ((first | refine gR fp139 ?_ | refine gD 3 8 ro8 fp139 ?_ | refine gD 11 8 ro8 fp139 ?_); intro K hK)
 | refine cAl (hsm) rfl rfl rfl ?_
 | refine ⟨_, ah.alone (hc) rfl rfl rfl, ?_⟩
 | (refine ab ?_ ?_ <;> intro hb <;> (try simp only [bls] at hb) <;> (try simp only [hb]))
 | refine gRe [] [.tmp 6] rfl rfl ?_) <;> (try simp only [go_sem, simprocAttr, e4, e6, hx0, e0, Option.some.injEq, forall_eq']))
 | (refine hK _ _ ?_; clear hK K; simp only [go_sem, simprocAttr])
 | refine gCd ?_ | refine brT ?_ | refine brF ?_
 | (refine brS ?_ ?_ <;> intro hc <;> (try simp only [bls] at hc) <;> (try simp only [hc, bls]))
 | intro _ | refine And.intro ?_ ?_)
    all_goals try exact zsd
    refine ae.bC [3, 4] ?_
    simp only [aq, ax, go_sem, simprocAttr]
    refine ae.prune [2, 3, 4, 6, 12, 13] ?_; simp only [go_sem, simprocAttr]
    exact (ih (i + 1) (by omega) (by omega)).cast rfl rfl
  ·have e4 : ¬ (i : Int) < lo := by omega
   have hfin : itB g i s = S1 := by rw [hS1, show i = lo by omega]
   rw [hfin]
   repeat' (first
 | (refine ae.at 7 ?_; (refine ae.prune [2, 3, 4, 6] ?_; simp only [go_sem, simprocAttr]; refine tH ?_))
 | refine gCt rfl ?_
 | ((first
 | ((first | refine gR fp139 ?_ | refine gD 3 8 ro8 fp139 ?_ | refine gD 11 8 ro8 fp139 ?_); intro K hK)
 | (refine ab ?_ ?_ <;> intro hb <;> (try simp only [bls] at hb) <;> (try simp only [hb]))
 | refine gRe [] [.tmp 6] rfl rfl ?_) <;> (try simp only [go_sem, simprocAttr, e4]))
 | (refine hK _ _ ?_; clear hK K; simp only [go_sem, simprocAttr])
 | refine gCd ?_ | refine brT ?_ | refine brF ?_
 | (refine brS ?_ ?_ <;> intro hc <;> (try simp only [bls] at hc) <;> (try simp only [hc, bls]))
 | intro _ | refine And.intro ?_ ?_)
   refine tG ?_; exact key.out
 case key =>
  clear hS1 hs
  repeat' (first
 | refine gCt rfl ?_
 | ((first
 | ((first | refine gR fp139 ?_ | refine gD 3 8 ro8 fp139 ?_ | refine gD 11 8 ro8 fp139 ?_); intro K hK)
 | (refine ab ?_ ?_ <;> intro hb <;> (try simp only [bls] at hb) <;> (try simp only [hb]))
 | refine gRe [] [.tmp 6] rfl rfl ?_) <;> (try simp only [go_sem, simprocAttr]))
 | (refine hK _ _ ?_; clear hK K; simp only [go_sem, simprocAttr])
 | refine gCd ?_ | refine brT ?_ | refine brF ?_
 | (refine brS ?_ ?_ <;> intro hc <;> (try simp only [bls] at hc) <;> (try simp only [hc, bls]))
 | intro _ | refine And.intro ?_ ?_)
  refine ae.prune [2, 3, 4, 6, 8, 9] ?_; simp only [go_sem, simprocAttr]
  refine ae.al (α := Nat) (fun k => ([(2, .sl true false (ints (bO (itB g k S1)))), (3, .bx 3 h3 0), (4, .bx 4 h4 0), (6, .sl true true []), (8, .sl true false (ints (bO (uB g k S1)))), (9, .int .i64 (lo + k : Nat))], [(3, h3, .box [.sl q f (nodes ns), .str w]), (4, h4, .box [.int .u8 xo, .int .u64 xa, .int .u64 xb, .int .u64 xc, .int .u64 xd, .sl true false (ints xl), .int .i64 lo, .int .i64 xhi, .str xn])]))
   (fun k => k ≤ c7 (uB g k S1) ∧ (xhi = -1 ∨ k ≤ M)) (fun k => w.size + 1 - k) 0 ⟨Nat.zero_le _, .inr (Nat.zero_le _)⟩ rfl ?_
  rintro k ⟨hkc, hkM⟩ ih
  simp only at hkc hkM ih ⊢
  have hul := jr hg hS1l k
  have hil := di hg hS1l k
  have hcl : c7 (uB g k S1) ≤ w.size + 1 := by rw [← hul]; exact ng
  by_cases hgo : xhi = -1 ∨ k < M
  ·have e6 : ((lo + k : Nat) : Int) + 1 = ((lo + (k + 1) : Nat) : Int) := by omega
   have hc := hk (itB g k S1) hil
   rw [← gq g] at hc
   have ho := sX true false true false (uB g k S1) (itB g (k + 1) S1) (by rw [hul, di hg hS1l]) (by omega)
   rw [← oL hg hS1l] at ho
   have hgr := qq hul (di hg hS1l (k + 1))
   rw [← oL hg hS1l] at hgr
   have e7 : ¬ ((lo + k : Nat) : Int) = xhi := by
    by_cases h1 : xhi = -1
    ·omega
    ·rw [if_neg h1] at hM; omega
   by_cases hst : uB g (k + 1) S1 = uB g k S1
   ·have hfin : uB g M S1 = uB g k S1 := by
     rcases hgo with h1 | h1
     ·rw [hM, if_pos h1]; exact Ew hg hS1l hst
     ·have := jM hg hS1l hst (M - k)
      rw [show k + (M - k) = M by omega] at this
      exact this
    rw [hfin]
    rw [hst] at ho
    repeat' (first
 | refine gCt rfl ?_
 | ((first
 | ((first | refine gR fp139 ?_ | refine gD 3 8 ro8 fp139 ?_ | refine gD 11 8 ro8 fp139 ?_); intro K hK)
 | refine cAl (ho) rfl rfl rfl ?_
 | refine ⟨_, ah.alone (hc) rfl rfl rfl, ?_⟩
 | (refine ab ?_ ?_ <;> intro hb <;> (try simp only [bls] at hb) <;> (try simp only [hb]))
 | refine gRe [] [.tmp 6] rfl rfl ?_) <;> (try simp only [go_sem, simprocAttr, e6, e7, hx0, e0, Option.some.injEq, forall_eq']))
 | (refine hK _ _ ?_; clear hK K; simp only [go_sem, simprocAttr])
 | refine gCd ?_ | refine brT ?_ | refine brF ?_
 | (refine brS ?_ ?_ <;> intro hc <;> (try simp only [bls] at hc) <;> (try simp only [hc, bls]))
 | intro _ | refine And.intro ?_ ?_)
    all_goals try exact zsd
   ·have hlt : c7 (uB g k S1) ≠ c7 (uB g (k + 1) S1) := fun e => hst (hgr.2 e)
    have hcl2 : c7 (uB g (k + 1) S1) ≤ w.size + 1 := by rw [← jr hg hS1l (k + 1)]; exact ng
    have e8 : ¬ ((lj (uB g (k + 1) S1)).length : Int) = ((lj (uB g k S1)).length : Int) := by
     have a1 := wz (uB g (k + 1) S1)
     have a2 := wz (uB g k S1)
     rw [bO, List.length_map] at a1 a2
     omega
    repeat' (first
 | refine gCt rfl ?_
 | ((first
 | ((first | refine gR fp139 ?_ | refine gD 3 8 ro8 fp139 ?_ | refine gD 11 8 ro8 fp139 ?_); intro K hK)
 | refine cAl (ho) rfl rfl rfl ?_
 | refine ⟨_, ah.alone (hc) rfl rfl rfl, ?_⟩
 | (refine ab ?_ ?_ <;> intro hb <;> (try simp only [bls] at hb) <;> (try simp only [hb]))
 | refine gRe [] [.tmp 6] rfl rfl ?_) <;> (try simp only [go_sem, simprocAttr, e6, e7, e8, hx0, e0, Option.some.injEq, forall_eq']))
 | (refine hK _ _ ?_; clear hK K; simp only [go_sem, simprocAttr])
 | refine gCd ?_ | refine brT ?_ | refine brF ?_
 | (refine brS ?_ ?_ <;> intro hc <;> (try simp only [bls] at hc) <;> (try simp only [hc, bls]))
 | intro _ | refine And.intro ?_ ?_)
    all_goals try exact zsd
    refine ae.bC [3, 4] ?_
    simp only [aq, ax, go_sem, simprocAttr]
    refine ae.prune [2, 3, 4, 6, 8, 9] ?_; simp only [go_sem, simprocAttr]
    exact (ih (k + 1) ⟨by omega, by omega⟩ (by omega)).cast rfl rfl
  ·have h1 : ¬ xhi = -1 := fun h => hgo (.inl h)
   have e7 : ((lo + k : Nat) : Int) = xhi := by rw [if_neg h1] at hM; omega
   have hkm : k = M := by omega
   subst hkm
   clear ih
   repeat' (first
 | refine gCt rfl ?_
 | ((first
 | ((first | refine gR fp139 ?_ | refine gD 3 8 ro8 fp139 ?_ | refine gD 11 8 ro8 fp139 ?_); intro K hK)
 | (refine ab ?_ ?_ <;> intro hb <;> (try simp only [bls] at hb) <;> (try simp only [hb]))
 | refine gRe [] [.tmp 6] rfl rfl ?_) <;> (try simp only [go_sem, simprocAttr, eq_true e7]))
 | (refine hK _ _ ?_; clear hK K; simp only [go_sem, simprocAttr])
 | refine gCd ?_ | refine brT ?_ | refine brF ?_
 | (refine brS ?_ ?_ <;> intro hc <;> (try simp only [bls] at hc) <;> (try simp only [hc, bls]))
 | intro _ | refine And.intro ?_ ?_)
   all_goals try exact zsd
end Go.Rad
namespace Go.Rad
open Go Go.Proofs
set_option linter.all false
set_option maxRecDepth 20000
set_option maxHeartbeats 4000000
theorem qA {q f : Bool} {ns : List Node} {w : ByteArray} (hw : w.size ≤ 1000000) (hll : ns.length ≤ 1000000) (hss : ∀ n ∈ ns, ∀ k, 0 ≤ n.s.word k) : ∀ (fo : Fo) (ks : List Int), fo.Sub ns ks → fo.cM = true → fo.size ≤ 1000000 → ∀ (j : Nat) (kd : Int) (g : List Bool → List Bool), ks[j]? = some kd → (sem w fo)[j]? = some g → Ee Tryz.prog 119 q f ns w kd g
 | .nil, ks, hs, _, _, j, kd, g, hj, hg => by simp [sem] at hg
 | .node b k r, ks, hsub, hsh, hsz, j, kd, g, hj, hg => by
  obtain ⟨i, n, ks', rfl, h1, h2, h3, h4⟩ := hsub
  simp only [Fo.cM, Fo.all, Bool.and_eq_true] at hsh
  simp only [Fo.size] at hsz
  cases j with
  | succ j => exact qA hw hll hss r ks' h4 hsh.2 (by omega) j kd g (by simpa using hj) (by simpa [sem] using hg)
  | zero =>
   simp only [List.getElem?_cons_zero, Option.some.injEq, sem] at hj hg
   subst hj hg
   have ih := qA (q := q) (f := f) hw hll hss k n.l h3 hsh.1.2 (by omega)
   have hlen := h3.len
   have hsl := iY w k
   have hadd := iX w k
   have hkd : k.deg ≤ 1000000 := Nat.le_trans (Fo.ur k) (by omega)
   generalize sem w k = fs at ih hsl hadd
   have hshape := hsh.1.1
   have hlk : n.l.length = fs.length := by omega
   rw [← hlen] at hshape
   clear h3 h4 hsh
   intro s hs
   have hi := (List.getElem?_eq_some_iff.1 h1).1
   have e1 : (i : Int) < ns.length := by omega
   have e2 : (0 : Int) ≤ i := by omega
   have hbyte := fun h => B4 (q := q) (f := f) hw n i h1 h (hss n (List.mem_of_getElem? h1)) s hs
   clear hss
   obtain ⟨xo, ⟨xa, xb, xc, xd⟩, xl, xlo, xhi, xn⟩ := n
   subst h2
   simp only at hshape ih hlk hlen hbyte
   simp only [da]
   by_cases h2 : xo = 2
   ·rw [if_pos h2]
    exact hbyte h2
   ·rw [if_neg h2]
    clear hbyte
    by_cases h3 : xo = 3
    ·rw [if_pos h3]
     obtain ⟨S, hS⟩ : ∃ S, S = fs.foldl (fun s f => f s) s := ⟨_, rfl⟩
     rw [← hS]
     refine ah.enter Tryz.func119 rfl (by kernel_rfl) (Nat.le_of_ble_eq_true rfl) ?_; simp only [ai, Nat.reduceAdd]
     repeat' (first
 | refine gCt rfl ?_
 | ((first
 | ((first | refine gR fp119 ?_ | refine gD 8 14 eb fp119 ?_); intro K hK)
 | (refine ab ?_ ?_ <;> intro hb <;> (try simp only [bls] at hb) <;> (try simp only [hb]))
 | refine gRe [] [.tmp 6] rfl rfl ?_) <;> (try simp only [go_sem, simprocAttr, e1, e2, h1, h2, eq_true h3, Option.some.injEq, forall_eq']))
 | (refine hK _ _ ?_; clear hK K; simp only [go_sem, simprocAttr])
 | refine gCd ?_ | refine brT ?_ | refine brF ?_
 | (refine brS ?_ ?_ <;> intro hc <;> (try simp only [bls] at hc) <;> (try simp only [hc, bls]))
 | intro _ | refine And.intro ?_ ?_)
     all_goals try exact zsd
     rename_i m3 m7
     refine ae.bC [3] ?_
     simp only [aq, ax, go_sem, simprocAttr]
     refine ae.prune [2, 3, 6, 55, 56, 57] ?_; simp only [go_sem, simprocAttr]
     refine ae.al (α := Nat × List Bool) (fun z => ([(2, .sl true false (ints (bO z.2))), (3, .bx 3 m3 0), (6, .sl true true []), (55, .sl true false (ints xl)), (56, .int .i64 xl.length), (57, .int .i64 z.1)], [(3, m3, .box [.sl q f (nodes ns), .str w])]))
      (fun z => z.1 ≤ xl.length ∧ z.2.length = w.size + 1 ∧ S = (fs.drop z.1).foldl (fun s f => f s) z.2) (fun z => xl.length - z.1) (0, s) ⟨Nat.zero_le _, hs, hS⟩ rfl ?_
     rintro ⟨j, t⟩ ⟨hj, ht, hrun⟩ ih2
     simp only at hj ht hrun ih2 ⊢
     by_cases hle : j < xl.length
     ·have f4 : (j : Int) < xl.length := by omega
      have f5 : (0 : Int) ≤ j := by omega
      have f6 : (j : Int) + 1 = ((j + 1 : Nat) : Int) := by omega
      have hx : xl[j]? = some xl[j] := List.getElem?_eq_getElem hle
      have hfx : fs[j]? = some (fs[j]'(by omega)) := List.getElem?_eq_getElem (by omega)
      have hc := ih j _ _ hx hfx t ht
      rw [List.drop_eq_getElem_cons (by omega : j < fs.length), List.foldl_cons] at hrun
      have ha := (hadd (fs[j]'(by omega)) (List.getElem_mem _)).len t ht
      generalize (fs[j]'(by omega)) t = u at hc hrun ha
      generalize xl[j] = kd at hx hc
      repeat' (first
 | refine gCt rfl ?_
 | ((first
 | ((first | refine gR fp119 ?_ | refine gD 8 14 eb fp119 ?_); intro K hK)
 | refine cAl (hc) rfl rfl rfl ?_
 | (refine ab ?_ ?_ <;> intro hb <;> (try simp only [bls] at hb) <;> (try simp only [hb]))
 | refine gRe [] [.tmp 6] rfl rfl ?_) <;> (try simp only [go_sem, simprocAttr, f4, f5, f6, hx, Option.some.injEq, forall_eq']))
 | (refine hK _ _ ?_; clear hK K; simp only [go_sem, simprocAttr])
 | refine gCd ?_ | refine brT ?_ | refine brF ?_
 | (refine brS ?_ ?_ <;> intro hc <;> (try simp only [bls] at hc) <;> (try simp only [hc, bls]))
 | intro _ | refine And.intro ?_ ?_)
      all_goals try exact zsd
      refine ae.bC [3] ?_
      simp only [aq, ax, go_sem, simprocAttr]
      refine ae.prune [2, 3, 6, 55, 56, 57] ?_; simp only [go_sem, simprocAttr]
      exact (ih2 (j + 1, u) ⟨by simp only; omega, ha, hrun⟩ (by simp only; omega)).cast rfl rfl
     ·have f4 : ¬ (j : Int) < xl.length := by omega
      rw [List.drop_eq_nil_of_le (by omega)] at hrun
      simp only [List.foldl_nil] at hrun
      subst hrun
      clear ih2
      repeat' (first
 | refine gCt rfl ?_
 | ((first
 | ((first | refine gR fp119 ?_ | refine gD 8 14 eb fp119 ?_); intro K hK)
 | (refine ab ?_ ?_ <;> intro hb <;> (try simp only [bls] at hb) <;> (try simp only [hb]))
 | refine gRe [] [.tmp 6] rfl rfl ?_) <;> (try simp only [go_sem, simprocAttr, f4]))
 | (refine hK _ _ ?_; clear hK K; simp only [go_sem, simprocAttr])
 | refine gCd ?_ | refine brT ?_ | refine brF ?_
 | (refine brS ?_ ?_ <;> intro hc <;> (try simp only [bls] at hc) <;> (try simp only [hc, bls]))
 | intro _ | refine And.intro ?_ ?_)
      all_goals try exact zsd
    ·rw [if_neg h3]
     by_cases h4 : xo = 4
     ·rw [if_pos h4]
      obtain ⟨S, hS⟩ : ∃ S, S = fs.foldl (fun o f => orB o (f s)) (aY (w.size + 1)) := ⟨_, rfl⟩
      rw [← hS]
      have hp0 : ints (bO (aY (w.size + 1))) = [] := by
       have : bO (aY (w.size + 1)) = [] := by
        rw [bO, lj, List.filter_eq_nil_iff.2 fun i _ => by rw [eM]; exact Bool.false_ne_true]
        rfl
       rw [this]; rfl
      refine ah.enter Tryz.func119 rfl (by kernel_rfl) (Nat.le_of_ble_eq_true rfl) ?_; simp only [ai, Nat.reduceAdd]
      repeat' (first
 | refine gCt rfl ?_
 | ((first
 | ((first | refine gR fp119 ?_ | refine gD 8 14 eb fp119 ?_); intro K hK)
 | (refine ab ?_ ?_ <;> intro hb <;> (try simp only [bls] at hb) <;> (try simp only [hb]))
 | refine gRe [] [.tmp 6] rfl rfl ?_) <;> (try simp only [go_sem, simprocAttr, e1, e2, h1, h2, h3, eq_true h4, Option.some.injEq, forall_eq']))
 | (refine hK _ _ ?_; clear hK K; simp only [go_sem, simprocAttr])
 | refine gCd ?_ | refine brT ?_ | refine brF ?_
 | (refine brS ?_ ?_ <;> intro hc <;> (try simp only [bls] at hc) <;> (try simp only [hc, bls]))
 | intro _ | refine And.intro ?_ ?_)
      all_goals try exact zsd
      rename_i m3 m7
      refine ae.vb 13 (by rfl) ?_
      refine ae.bC [3] ?_
      simp only [aq, ax, go_sem, simprocAttr]
      refine ae.prune [2, 3, 6, 13, 70, 71, 72] ?_; simp only [go_sem, simprocAttr]
      refine ae.al (α := Nat × List Bool) (fun z => ([(2, .sl true false (ints (bO s))), (3, .bx 3 m3 0), (6, .sl true true []), (13, .sl true false (ints (bO z.2))), (70, .sl true false (ints xl)), (71, .int .i64 xl.length), (72, .int .i64 z.1)], [(3, m3, .box [.sl q f (nodes ns), .str w])]))
       (fun z => z.1 ≤ xl.length ∧ z.2.length = w.size + 1 ∧ S = (fs.drop z.1).foldl (fun o f => orB o (f s)) z.2) (fun z => xl.length - z.1) (0, aY (w.size + 1)) ⟨Nat.zero_le _, bZ _, hS⟩ (by simp only [hp0]; rfl) ?_
      rintro ⟨j, t⟩ ⟨hj, ht, hrun⟩ ih2
      simp only at hj ht hrun ih2 ⊢
      by_cases hle : j < xl.length
      ·have f4 : (j : Int) < xl.length := by omega
       have f5 : (0 : Int) ≤ j := by omega
       have f6 : (j : Int) + 1 = ((j + 1 : Nat) : Int) := by omega
       have hx : xl[j]? = some xl[j] := List.getElem?_eq_getElem hle
       have hfx : fs[j]? = some (fs[j]'(by omega)) := List.getElem?_eq_getElem (by omega)
       have hc := ih j _ _ hx hfx s hs
       rw [List.drop_eq_getElem_cons (by omega : j < fs.length), List.foldl_cons] at hrun
       have ha := (hadd (fs[j]'(by omega)) (List.getElem_mem _)).len s hs
       generalize (fs[j]'(by omega)) s = u at hc hrun ha
       generalize xl[j] = kd at hx hc
       have ho := sX true false true false t u (by omega) (by omega)
       have hol := bA ht ha
       repeat' (first
 | refine gCt rfl ?_
 | ((first
 | ((first | refine gR fp119 ?_ | refine gD 8 14 eb fp119 ?_); intro K hK)
 | refine cAl (hc) rfl rfl rfl ?_
 | refine cAl (ho) rfl rfl rfl ?_
 | (refine ab ?_ ?_ <;> intro hb <;> (try simp only [bls] at hb) <;> (try simp only [hb]))
 | refine gRe [] [.tmp 6] rfl rfl ?_) <;> (try simp only [go_sem, simprocAttr, f4, f5, f6, hx, Option.some.injEq, forall_eq']))
 | (refine hK _ _ ?_; clear hK K; simp only [go_sem, simprocAttr])
 | refine gCd ?_ | refine brT ?_ | refine brF ?_
 | (refine brS ?_ ?_ <;> intro hc <;> (try simp only [bls] at hc) <;> (try simp only [hc, bls]))
 | intro _ | refine And.intro ?_ ?_)
       all_goals try exact zsd
       refine ae.bC [3] ?_
       simp only [aq, ax, go_sem, simprocAttr]
       refine ae.prune [2, 3, 6, 13, 70, 71, 72] ?_; simp only [go_sem, simprocAttr]
       exact (ih2 (j + 1, orB t u) ⟨by simp only; omega, hol, hrun⟩ (by simp only; omega)).cast rfl rfl
      ·have f4 : ¬ (j : Int) < xl.length := by omega
       rw [List.drop_eq_nil_of_le (by omega)] at hrun
       simp only [List.foldl_nil] at hrun
       subst hrun
       clear ih2
       repeat' (first
 | refine gCt rfl ?_
 | ((first
 | ((first | refine gR fp119 ?_ | refine gD 8 14 eb fp119 ?_); intro K hK)
 | (refine ab ?_ ?_ <;> intro hb <;> (try simp only [bls] at hb) <;> (try simp only [hb]))
 | refine gRe [] [.tmp 6] rfl rfl ?_) <;> (try simp only [go_sem, simprocAttr, f4]))
 | (refine hK _ _ ?_; clear hK K; simp only [go_sem, simprocAttr])
 | refine gCd ?_ | refine brT ?_ | refine brF ?_
 | (refine brS ?_ ?_ <;> intro hc <;> (try simp only [bls] at hc) <;> (try simp only [hc, bls]))
 | intro _ | refine And.intro ?_ ?_)
       all_goals try exact zsd
     ·rw [if_neg h4]
      by_cases h5 : xo = 5
      ·rw [if_pos h5]
       obtain ⟨q1, _, _, q4, q5, q6⟩ := gI hshape h5
       simp only at q1 q4 q5 q6
       obtain ⟨kd, hkd⟩ : ∃ kd, xl = [kd] := List.length_eq_one_iff.1 q1
       obtain ⟨g, hg⟩ : ∃ g, fs = [g] := List.length_eq_one_iff.1 (by omega)
       have hc := DL (q := q) (f := f) (ns := ns) hw ⟨xo, ⟨xa, xb, xc, xd⟩, xl, xlo, xhi, xn⟩ kd g hkd ⟨q4, q5⟩ (by simp only; omega) (ih 0 kd g (by rw [hkd]; rfl) (by rw [hg]; rfl)) (hadd g (by rw [hg]; simp)) s hs
       rw [hg, List.headD_cons]
       simp only [Node.cells, Node.eJ] at hc
       clear hkd hg
       refine ah.enter Tryz.func119 rfl (by kernel_rfl) (Nat.le_of_ble_eq_true rfl) ?_; simp only [ai, Nat.reduceAdd]
       repeat' (first
 | refine gCt rfl ?_
 | ((first
 | ((first | refine gR fp119 ?_ | refine gD 8 14 eb fp119 ?_); intro K hK)
 | refine cAl (hc) rfl rfl rfl ?_
 | (refine ab ?_ ?_ <;> intro hb <;> (try simp only [bls] at hb) <;> (try simp only [hb]))
 | refine gRe [] [.tmp 6] rfl rfl ?_) <;> (try simp only [go_sem, simprocAttr, e1, e2, h1, h2, h3, h4, eq_true h5, Option.some.injEq, forall_eq']))
 | (refine hK _ _ ?_; clear hK K; simp only [go_sem, simprocAttr])
 | refine gCd ?_ | refine brT ?_ | refine brF ?_
 | (refine brS ?_ ?_ <;> intro hc <;> (try simp only [bls] at hc) <;> (try simp only [hc, bls]))
 | intro _ | refine And.intro ?_ ?_)
       all_goals try exact zsd
      ·rw [if_neg h5]
       refine ah.enter Tryz.func119 rfl (by kernel_rfl) (Nat.le_of_ble_eq_true rfl) ?_; simp only [ai, Nat.reduceAdd]
       repeat' (first
 | refine gCt rfl ?_
 | ((first
 | ((first | refine gR fp119 ?_ | refine gD 8 14 eb fp119 ?_); intro K hK)
 | (refine ab ?_ ?_ <;> intro hb <;> (try simp only [bls] at hb) <;> (try simp only [hb]))
 | refine gRe [] [.tmp 6] rfl rfl ?_) <;> (try simp only [go_sem, simprocAttr, e1, e2, h1, h2, h3, h4, h5, Option.some.injEq, forall_eq']))
 | (refine hK _ _ ?_; clear hK K; simp only [go_sem, simprocAttr])
 | refine gCd ?_ | refine brT ?_ | refine brF ?_
 | (refine brS ?_ ?_ <;> intro hc <;> (try simp only [bls] at hc) <;> (try simp only [hc, bls]))
 | intro _ | refine And.intro ?_ ?_)
       all_goals try exact zsd
end Go.Rad
namespace Go.Rad
open Go Fo
abbrev Lan := List Nat → Prop
def fF (w : ByteArray) (i k : Nat) : List Nat := ((w.data.toList.map UInt8.toNat).drop i).take (k - i)
theorem w4 (w : ByteArray) : (w.data.toList.map UInt8.toNat).length = w.size := by rw [List.length_map, Array.length_toList]; rfl
theorem iF {w : ByteArray} {i k : Nat} (h : i ≤ k) (hk : k ≤ w.size) : (fF w i k).length = k - i := by
 have := w4 w
 simp only [fF, List.length_take, List.length_drop]
 omega
theorem AV (w : ByteArray) (i : Nat) : fF w i i = [] := by simp [fF]
theorem tJ {w : ByteArray} {i j k : Nat} (h1 : i ≤ j) (h2 : j ≤ k) : fF w i k = fF w i j ++ fF w j k := by
 unfold fF
 rw [show k - i = (j - i) + (k - j) by omega, List.take_add, List.drop_drop, show i + (j - i) = j by omega]
theorem AU {w : ByteArray} {i k : Nat} {a b : List Nat} (h : i ≤ k) (hk : k ≤ w.size) (e : fF w i k = a ++ b) : ∃ j, i ≤ j ∧ j ≤ k ∧ a = fF w i j ∧ b = fF w j k := by
 have hl := iF h hk
 rw [e, List.length_append] at hl
 have e2 := tJ (w := w) (show i ≤ i + a.length by omega) (show i + a.length ≤ k by omega)
 rw [e] at e2
 have hl2 := iF (w := w) (show i ≤ i + a.length by omega) (show i + a.length ≤ w.size by omega)
 obtain ⟨h1, h2⟩ := List.append_inj e2 (by omega)
 exact ⟨i + a.length, by omega, by omega, h1, h2⟩
theorem uk {w : ByteArray} {i : Nat} (h : i < w.size) : (w.data.toList.map UInt8.toNat)[i]? = some (cd w i) := by
 have h' : i < w.data.toList.length := by rw [Array.length_toList]; exact h
 rw [List.getElem?_map, cd, List.getElem?_eq_getElem h']
 rfl
theorem tK {w : ByteArray} {i : Nat} (h : i < w.size) : fF w i (i + 1) = [cd w i] := by
 have hb := uk h
 obtain ⟨h1, h2⟩ := List.getElem?_eq_some_iff.1 hb
 rw [fF, show i + 1 - i = 1 by omega, List.drop_eq_getElem_cons h1, List.take_succ_cons, List.take_zero, h2]
def BQ (A B : Lan) : Lan := fun u => ∃ a b, u = a ++ b ∧ A a ∧ B b
def zj : Lan := fun u => u = []
def uV (A : Lan) : Nat → Lan
 | 0 => zj
 | n + 1 => BQ A (uV A n)
def Jx : List Lan → Lan
 | [] => zj
 | A :: l => BQ A (Jx l)
def repW (lo hi : Int) (A : Lan) : Lan := fun u => ∃ k : Nat, lo.toNat ≤ k ∧ (hi = -1 ∨ (k : Int) ≤ hi) ∧ uV A k u
def gv (b : Lb) (ls : List Lan) : Lan := fun u =>
 if b.op = 2 then ∃ c, u = [c] ∧ dz b.s c = true
 else if b.op = 3 then Jx ls u
 else if b.op = 4 then ∃ A ∈ ls, A u
 else if b.op = 5 then repW b.lo b.hi (ls.headD zj) u
 else u = []
def lan : Fo → List Lan
 | .nil => []
 | .node b k r => gv b (lan k) :: lan r
structure aS (w : ByteArray) (g : List Bool → List Bool) (A : Lan) : Prop where
 len : ∀ s, s.length = w.size + 1 → (g s).length = w.size + 1
 iff : ∀ s, s.length = w.size + 1 → ∀ k, (g s).getD k false = true ↔ k ≤ w.size ∧ ∃ i, i ≤ k ∧ s.getD i false = true ∧ A (fF w i k)
theorem Cr {s : List Bool} {i : Nat} (h : s.getD i false = true) : i < s.length := by
 rcases Nat.lt_or_ge i s.length with h1 | h1
 ·exact h1
 ·simp [List.getD_eq_getElem?_getD, List.getElem?_eq_none h1] at h
section
variable {w : ByteArray}
theorem aS.congr {f g : List Bool → List Bool} {A B : Lan} (h : aS w f A) (e : ∀ s, s.length = w.size + 1 → f s = g s) (hab : ∀ u, A u ↔ B u) : aS w g B :=
 ⟨fun s hs => by rw [← e s hs]; exact h.len s hs, fun s hs k => by rw [← e s hs, h.iff s hs]; simp only [hab]⟩
theorem aS.eps : aS w id zj := ⟨fun _ h => h, fun s hs k => by
 constructor
 ·intro h
  have : k < s.length := Cr h
  exact ⟨by omega, k, Nat.le_refl _, h, AV w k⟩
 ·rintro ⟨h1, i, h2, h3, h4⟩
  have := iF (w := w) h2 h1
  rw [show fF w i k = [] from h4] at this
  have : i = k := by simp at this; omega
  subst this; exact h3⟩
theorem aS.one {s : av} : aS w (eA s w) fun u => ∃ c, u = [c] ∧ dz s c = true := by
 refine ⟨fun fr _ => by simp [eA], fun fr hf k => ?_⟩
 cases k with
 | zero =>
  simp only [eA, List.getD_cons_zero, Bool.false_eq_true, false_iff]
  rintro ⟨_, i, h2, _, c, h4, _⟩
  have := iF (w := w) h2 (by omega)
  rw [h4] at this
  simp at this
 | succ k =>
  have hone : (eA s w fr).getD (k + 1) false = (decide (k < w.size) && hit s w fr k) := by
   simp only [eA, List.getD_eq_getElem?_getD, List.getElem?_cons_succ, List.getElem?_map]
   by_cases h : k < w.size <;> simp [h]
  rw [hone, hit]
  simp only [Bool.and_eq_true, decide_eq_true_eq]
  constructor
  ·rintro ⟨h1, h2, h3⟩
   exact ⟨by omega, k, by omega, h2, _, tK h1, h3⟩
  ·rintro ⟨h1, i, h2, h3, c, h4, h5⟩
   have := iF (w := w) h2 (by omega)
   rw [h4] at this
   simp only [List.length_cons, List.length_nil] at this
   have hi : i = k := by omega
   subst hi
   rw [tK (by omega)] at h4
   simp only [List.cons.injEq, and_true] at h4
   exact ⟨by omega, h3, by rw [h4]; exact h5⟩
theorem aS.comp {f g : List Bool → List Bool} {A B : Lan} (hf : aS w f A) (hg : aS w g B) : aS w (fun s => g (f s)) (BQ A B) := by
 refine ⟨fun s h => hg.len _ (hf.len s h), fun s hs k => ?_⟩
 rw [hg.iff _ (hf.len s hs)]
 constructor
 ·rintro ⟨h1, j, h2, h3, h4⟩
  obtain ⟨_, i, h6, h7, h8⟩ := (hf.iff s hs j).1 h3
  exact ⟨h1, i, by omega, h7, _, _, tJ h6 h2, h8, h4⟩
 ·rintro ⟨h1, i, h2, h3, a, b, h4, h5, h6⟩
  obtain ⟨j, h7, h8, rfl, rfl⟩ := AU h2 h1 h4
  exact ⟨h1, j, h8, (hf.iff s hs j).2 ⟨by omega, i, h7, h3, h5⟩, h6⟩
theorem aS.or {f g : List Bool → List Bool} {A B : Lan} (hf : aS w f A) (hg : aS w g B) : aS w (fun s => orB (f s) (g s)) fun u => A u ∨ B u := by
 refine ⟨fun s h => bA (hf.len s h) (hg.len s h), fun s hs k => ?_⟩
 rw [cu (hf.len s hs) (hg.len s hs), Bool.or_eq_true, hf.iff s hs, hg.iff s hs]
 constructor
 ·rintro (⟨h1, i, h2, h3, h4⟩ | ⟨h1, i, h2, h3, h4⟩)
  ·exact ⟨h1, i, h2, h3, .inl h4⟩
  ·exact ⟨h1, i, h2, h3, .inr h4⟩
 ·rintro ⟨h1, i, h2, h3, h4 | h4⟩
  ·exact .inl ⟨h1, i, h2, h3, h4⟩
  ·exact .inr ⟨h1, i, h2, h3, h4⟩
def oE (w : ByteArray) : List (List Bool → List Bool) → List Lan → Prop
 | [], [] => True
 | g :: gs, A :: l => aS w g A ∧ oE w gs l
 | _, _ => False
theorem aS.row : ∀ {gs : List (List Bool → List Bool)} {l : List Lan}, oE w gs l → aS w (fun s => gs.foldl (fun s f => f s) s) (Jx l)
 | [], [], _ => aS.eps
 | _ :: _, _ :: _, ⟨h1, h2⟩ => h1.comp (aS.row h2)
theorem aS.alt : ∀ {gs : List (List Bool → List Bool)} {l : List Lan} {o : List Bool → List Bool} {B : Lan}, aS w o B → oE w gs l → aS w (fun s => gs.foldl (fun o f => orB o (f s)) (o s)) fun u => B u ∨ ∃ A ∈ l, A u
 | [], [], o, B, ho, _ => ho.congr (fun _ _ => rfl) fun u => by simp
 | g :: gs, A :: l, o, B, ho, ⟨h1, h2⟩ => (aS.alt (o := fun s => orB (o s) (g s)) (ho.or h1) h2).congr (fun _ _ => rfl) fun u => by simp [or_assoc]
theorem aS.none : aS w (fun _ => aY (w.size + 1)) fun _ => False :=
 ⟨fun _ _ => bZ _, fun s _ k => by rw [eM]; simp⟩
theorem aS.pow {g : List Bool → List Bool} {A : Lan} (hg : aS w g A) : ∀ n, aS w (itB g n) (uV A n)
 | 0 => aS.eps
 | n + 1 => hg.comp (aS.pow hg n)
theorem aS.upto {g : List Bool → List Bool} {A : Lan} (hg : aS w g A) : ∀ n, aS w (uB g n) fun u => ∃ k, k ≤ n ∧ uV A k u
 | 0 => aS.eps.congr (fun _ _ => rfl) fun u => ⟨fun h => ⟨0, Nat.le_refl _, h⟩, fun ⟨k, h, h2⟩ => by
   have : k = 0 := by omega
   subst this; exact h2⟩
 | n + 1 => (aS.eps.or (hg.comp (aS.upto hg n))).congr (fun _ _ => rfl) fun u => by
   constructor
   ·rintro (h | ⟨a, b, rfl, h1, k, h2, h3⟩)
    ·exact ⟨0, Nat.zero_le _, h⟩
    ·exact ⟨k + 1, by omega, a, b, rfl, h1, h3⟩
   ·rintro ⟨k, h, h2⟩
    cases k with
    | zero => exact .inl h2
    | succ k =>
     obtain ⟨a, b, rfl, h3, h4⟩ := h2
     exact .inr ⟨a, b, rfl, h3, k, by omega, h4⟩
theorem pow_add {A : Lan} : ∀ (m n : Nat) (u : List Nat), uV A (m + n) u ↔ BQ (uV A m) (uV A n) u
 | 0, n, u => by
  rw [Nat.zero_add]
  exact ⟨fun h => ⟨[], u, rfl, rfl, h⟩, fun ⟨a, b, h1, h2, h3⟩ => by rw [show a = [] from h2] at h1; rw [h1]; exact h3⟩
 | m + 1, n, u => by
  rw [show m + 1 + n = (m + n) + 1 by omega]
  constructor
  ·rintro ⟨a, b, rfl, h1, h2⟩
   obtain ⟨c, d, rfl, h3, h4⟩ := (pow_add m n b).1 h2
   exact ⟨a ++ c, d, by simp, ⟨a, c, rfl, h1, h3⟩, h4⟩
  ·rintro ⟨_, d, rfl, ⟨a, c, rfl, h1, h3⟩, h4⟩
   exact ⟨a, c ++ d, by simp, h1, (pow_add m n _).2 ⟨c, d, rfl, h3, h4⟩⟩
theorem aS.rep {g : List Bool → List Bool} {A : Lan} (hg : aS w g A) (ha : Add (w.size + 1) g) {lo hi : Int} (hl : 0 ≤ lo) (hh : hi = -1 ∨ lo ≤ hi) : aS w (km w lo hi g) (repW lo hi A) := by
 by_cases h : hi = -1
 ·have h0 := (hg.pow lo.toNat)
  refine ⟨fun s hs => (Add.rep ha).len s hs, fun s hs k => ?_⟩
  have key : ∀ M, w.size + 1 ≤ M → uB g M (itB g lo.toNat s) = km w lo hi g s := fun M hM => by
   rw [km, if_pos h]
   have hl := h0.len s hs
   have := jM ha hl (A6 ha hl) (M - (w.size + 1))
   rwa [show w.size + 1 + (M - (w.size + 1)) = M by omega] at this
  constructor
  ·intro h1
   rw [← key _ (Nat.le_refl _)] at h1
   obtain ⟨h2, i, h3, h4, a, b, h5, h6, m, _, h8⟩ := ((h0.comp (hg.upto (w.size + 1))).iff s hs k).1 h1
   exact ⟨h2, i, h3, h4, lo.toNat + m, by omega, .inl h, (pow_add _ _ _).2 ⟨a, b, h5, h6, h8⟩⟩
  ·rintro ⟨h2, i, h3, h4, m, h5, _, h7⟩
   obtain ⟨d, rfl⟩ : ∃ d, m = lo.toNat + d := ⟨m - lo.toNat, by omega⟩
   obtain ⟨a, b, h8, h9, h10⟩ := (pow_add _ _ _).1 h7
   rw [← key (w.size + 1 + d) (by omega)]
   exact ((h0.comp (hg.upto (w.size + 1 + d))).iff s hs k).2 ⟨h2, i, h3, h4, a, b, h8, h9, d, by omega, h10⟩
 ·have e : ∀ s, s.length = w.size + 1 → uB g (hi - lo).toNat (itB g lo.toNat s) = km w lo hi g s := fun s _ => by rw [km, if_neg h]
  refine ((hg.pow lo.toNat).comp (hg.upto (hi - lo).toNat)).congr e fun u => ?_
  constructor
  ·rintro ⟨a, b, h5, h6, m, h7, h8⟩
   exact ⟨lo.toNat + m, by omega, .inr (by omega), (pow_add _ _ _).2 ⟨a, b, h5, h6, h8⟩⟩
  ·rintro ⟨m, h5, h6, h7⟩
   obtain ⟨d, rfl⟩ : ∃ d, m = lo.toNat + d := ⟨m - lo.toNat, by omega⟩
   obtain ⟨a, b, h8, h9, h10⟩ := (pow_add _ _ _).1 h7
   exact ⟨a, b, h8, h9, d, by omega, h10⟩
theorem aS.node {b : Lb} {gs : List (List Bool → List Bool)} {l : List Lan} (h : oE w gs l) (ha : ∀ g ∈ gs, Add (w.size + 1) g) (hd : gs ≠ [] ∨ b.op ≠ 5) (hb : b.op = 5 → 0 ≤ b.lo ∧ (b.hi = -1 ∨ b.lo ≤ b.hi)) : aS w (da w b gs) (gv b l) := by
 by_cases h2 : b.op = 2
 ·exact aS.one.congr (fun s _ => by rw [da, if_pos h2]) fun u => by rw [gv, if_pos h2]
 by_cases h3 : b.op = 3
 ·exact (aS.row h).congr (fun s _ => by rw [da, if_neg h2, if_pos h3]) fun u => by rw [gv, if_neg h2, if_pos h3]
 by_cases h4 : b.op = 4
 ·exact (aS.alt aS.none h).congr (fun s _ => by rw [da, if_neg h2, if_neg h3, if_pos h4]) fun u => by rw [gv, if_neg h2, if_neg h3, if_pos h4]; simp
 by_cases h5 : b.op = 5
 ·match gs, l, h with
  | [], _, _ => rcases hd with hd | hd; exact absurd rfl hd; exact absurd h5 hd
  | g :: gs, A :: l, ⟨h6, _⟩ =>
   obtain ⟨h7, h8⟩ := hb h5
   exact (h6.rep (ha g (by simp)) h7 h8).congr (fun s _ => by rw [da, if_neg h2, if_neg h3, if_neg h4, if_pos h5]; rfl) fun u => by rw [gv, if_neg h2, if_neg h3, if_neg h4, if_pos h5]; rfl
 ·exact aS.eps.congr (fun s _ => by rw [da, if_neg h2, if_neg h3, if_neg h4, if_neg h5]; rfl) fun u => by rw [gv, if_neg h2, if_neg h3, if_neg h4, if_neg h5]; rfl
theorem lA : ∀ f : Fo, f.cM = true → oE w (sem w f) (lan f)
 | .nil, _ => trivial
 | .node b k r, h => by
  simp only [Fo.cM, Fo.all, Bool.and_eq_true] at h
  refine ⟨aS.node (lA k h.1.2) (iX w k) ?_ fun h5 => ?_, lA r h.2⟩
  ·by_cases h5 : b.op = 5
   ·refine .inl fun e => ?_
    have := (gI h.1.1 h5).1
    have h7 := iY w k
    rw [e] at h7
    simp at h7; omega
   ·exact .inr h5
  ·obtain ⟨_, _, _, q4, q5, q6⟩ := gI h.1.1 h5
   exact ⟨q4, by omega⟩
end
end Go.Rad
namespace Go.Rad
open Go Go.Proofs
set_option linter.all false
set_option maxRecDepth 20000
set_option maxHeartbeats 4000000
theorem za (q f : Bool) (l : List Int) (hl : l.length ≤ 1000000) : ah Tryz.prog 82 [.sl q f (ints l)] [] fun r s => r = .sl true false (ints l) ∧ s = [] := by
 refine (mu q f l hl).nH ?_
 rintro r s (⟨rfl, rfl, rfl⟩ | ⟨h, rfl, rfl⟩)
 ·exact .inr (.inl ⟨_, _, _, rfl, rfl, rfl⟩)
 ·exact .inl ⟨5, h, 1, ints l, by simp, rfl, rfl, rfl⟩
theorem zS (q f : Bool) (l : List Node) (hl : ∀ n ∈ l, n.name.size ≤ maxLen ∧ n.l.length ≤ maxLen) : ah Tryz.prog 118 [.sl q f (nodes l)] [] fun r s => r = .bool (cg l) ∧ s = [] := by
 have he := nB q f true true l [] hl (by simp) (fun d hd => by simp at hd)
 rw [← xR]
 generalize ay l [] = x at he
 refine ah.enter Tryz.func118 rfl (by kernel_rfl) (Nat.le_of_ble_eq_true rfl) ?_; simp only [ai, Nat.reduceAdd]
 repeat' (first
 | refine gCt rfl ?_
 | ((first
 | ((first | refine gR fp118 ?_); intro K hK)
 | (refine ah.use [] [] rfl he rfl rfl rfl ?_; rintro _ _ ⟨⟨fl, rfl⟩, rfl⟩; refine ⟨.inl rfl, rfl, ?_⟩; simp only [bk, bk2, bk1, bkS, bkO, bw, aH, go_sem, simprocAttr])
 | (refine ab ?_ ?_ <;> intro hb <;> (try simp only [bls] at hb) <;> (try simp only [hb]))
 | refine gRe [] [.tmp 2] rfl rfl ?_) <;> (try simp only [go_sem, simprocAttr]))
 | (refine hK _ _ ?_; clear hK K; simp only [go_sem, simprocAttr])
 | refine gCd ?_ | refine brT ?_ | refine brF ?_
 | (refine brS ?_ ?_ <;> intro hc <;> (try simp only [bls] at hc) <;> (try simp only [hc, bls]))
 | intro _ | refine And.intro ?_ ?_)
 all_goals try exact zsd
theorem lh (n i k : Nat) : (bR n i).getD k false = (decide (k = i) && decide (i < n)) := by
 simp only [bR, List.getD_eq_getElem?_getD, List.getElem?_set, bZ]
 by_cases h : i = k
 ·subst h
  by_cases h2 : i < n <;> simp [h2]
 ·have h3 := eM n k
  rw [List.getD_eq_getElem?_getD] at h3
  have h4 : ¬ k = i := fun e => h e.symm
  simp [h, h3, h4]
theorem xS {n i : Nat} (h : i < n) : bO (bR n i) = [(i : Int)] := by
 refine ku (iU _) (by simp) fun x => ?_
 rw [eT]
 simp only [lh, Bool.and_eq_true, decide_eq_true_eq, List.mem_singleton]
 constructor
 ·rintro ⟨k, rfl, rfl, _⟩; rfl
 ·rintro rfl; exact ⟨i, rfl, rfl, h⟩
theorem pz {w : ByteArray} (hw : w.size ≤ 900000) (f : Bool) (fo : Fo) (hd : fo.deg = 1) (hsh : fo.cM = true) (hz : fo.size ≤ 1024) (h6 : no6 fo = true) (hss : ∀ n ∈ fo.lay 0, ∀ k, 0 ≤ n.s.word k) (fr : Nat) (hfr : fr ≤ w.size) :
  ah Tryz.prog 92 [.sl true f (nodes (fo.lay 0)), .str w, .int .i64 fr] [] fun r s => r = .sl true false (ints (bO (kD w fo (bR (w.size + 1) fr)))) ∧ s = [] := by
 have hp : cg (fo.lay 0) = true := (n6 _).2 ⟨fo, hd, rfl, hsh, hz, h6⟩
 obtain ⟨n1, n2⟩ := lg hp
 have hpl := zS true f (fo.lay 0) n1
 rw [hp] at hpl
 have hsub := Fo.wF hd
 have hsl := iY w fo
 rw [hd] at hsl
 obtain ⟨g, hg⟩ : ∃ g, sem w fo = [g] := List.length_eq_one_iff.1 hsl
 have hcall := qA (q := true) (f := f) (show w.size ≤ 1000000 by omega) (by omega) hss fo _ hsub hsh (by omega) 0 _ g rfl (by rw [hg]; rfl) (bR (w.size + 1) fr) (cw _ _)
 have hel := oo hd (cw (w.size + 1) fr)
 have hsg : kD w fo (bR (w.size + 1) fr) = g (bR (w.size + 1) fr) := by rw [kD, hg]; rfl
 rw [← hsg, xS (by omega)] at hcall
 have hcall : ∀ e, ah _ _ [_, _, .sl true e [[.int .i64 fr]]] _ _ := fun e => hcall.vb
 have hpe := iw (kD w fo (bR (w.size + 1) fr))
 rw [hel] at hpe
 generalize bO (kD w fo (bR (w.size + 1) fr)) = E at hcall hpe
 have hcl := za true false E (by omega)
 have hln : (fo.lay 0).length = fo.size := Fo.cS _ _
 have hsp := Fo.size_pos hd
 rw [← hln] at hcall
 generalize fo.lay 0 = l at hpl hcall hln
 clear hsub hg hsg hp n1 n2 hsl hsh h6 hss hel
 have e1 : ¬ (fr : Int) < 0 := by omega
 have e2 : ¬ (w.size : Int) < fr := by omega
 have e8 : (1 : Int) ≤ l.length := by omega
 refine ah.enter Tryz.func92 rfl (by kernel_rfl) (Nat.le_of_ble_eq_true rfl) ?_; simp only [ai, Nat.reduceAdd]
 repeat' (first
 | refine gCt rfl ?_
 | ((first
 | ((first | refine gRg [27] fp92 ?_); intro K hK)
 | refine cAl (hpl) rfl rfl rfl ?_
 | refine cAl (hcall _) rfl rfl rfl ?_
 | refine cAl (hcl) rfl rfl rfl ?_
 | (refine ab ?_ ?_ <;> intro hb <;> (try simp only [bls] at hb) <;> (try simp only [hb]))
 | refine gRe [] [.tmp 6] rfl rfl ?_) <;> (try simp only [go_sem, simprocAttr, e1, e2, e8]))
 | (refine hK _ _ ?_; clear hK K; simp only [go_sem, simprocAttr])
 | refine gCd ?_ | refine brT ?_ | refine brF ?_
 | (refine brS ?_ ?_ <;> intro hc <;> (try simp only [bls] at hc) <;> (try simp only [hc, bls]))
 | intro _ | refine And.intro ?_ ?_)
 all_goals try exact zsd
end Go.Rad
namespace Go.Rad
open Go Go.Proofs
set_option linter.all false
set_option maxRecDepth 20000
set_option maxHeartbeats 4000000
def fS (E : List Int) (fr : Int) : Int × Bool := match E.getLast? with
 | none => (0, false)
 | some x => if x ≤ fr then (0, false) else (x, true)
theorem sT (fr : Int) : fS [] fr = (0, false) := rfl
theorem pM {E : List Int} {m : Nat} {x : Int} (hl : E.length = m + 1) (h : E[m]? = some x) (fr : Int) : fS E fr = if x ≤ fr then (0, false) else (x, true) := by
 have : E.getLast? = some x := by rw [List.getLast?_eq_getElem?, hl]; exact h
 rw [fS, this]
theorem zO {E : List Int} {m : Nat} {x n : Int} (hl : E.length = m + 1) (h : E[m]? = some x) (hs : E.Pairwise (· < ·)) (hn : ∀ y ∈ E, y ≤ n) : E.contains n = decide (x = n) := by
 have hx := List.mem_of_getElem? h
 by_cases e : x = n
 ·subst e; rw [decide_eq_true rfl]; simpa using hx
 ·rw [decide_eq_false e]
  cases hc : E.contains n with
  | false => rfl
  | true =>
   have hn' : n ∈ E := by simpa using hc
   obtain ⟨i, hi, h1⟩ := List.getElem_of_mem hn'
   obtain ⟨h2, h3⟩ := List.getElem?_eq_some_iff.1 h
   rcases Nat.lt_or_ge i m with h4 | h4
   ·have := List.pairwise_iff_getElem.1 hs i m hi h2 h4
    rw [h1, h3] at this
    have := hn x hx
    omega
   ·have : i = m := by omega
    subst this
    exact absurd (h3.symm.trans h1) e
section
variable {b f : Bool} {l : List Node} {w : ByteArray} {E : List Int}
theorem pN {fr : Int} (hE : ah Tryz.prog 92 [.sl true f (nodes l), .str w, .int .i64 fr] [] fun r s => r = .sl true b (ints E) ∧ s = []) (hb : E.length ≤ 1000001) (h : ∀ x ∈ E, fr ≤ x) :
  ah Tryz.prog 67 [.sl true f (nodes l), .str w, .int .i64 fr] [] fun r s => r = .tup [.int .i64 (fS E fr).1, .bool (fS E fr).2] ∧ s = [] := by
 cases hl : E.length with
 | zero =>
  have h0 : E = [] := List.length_eq_zero_iff.1 hl
  subst h0
  rw [sT]
  refine ah.enter Tryz.func67 rfl (by kernel_rfl) (Nat.le_of_ble_eq_true rfl) ?_; simp only [ai, Nat.reduceAdd]
  repeat' (first
 | refine gCt rfl ?_
 | ((first
 | ((first | refine gR fp67 ?_); intro K hK)
 | refine cAl (hE) rfl rfl rfl ?_
 | (refine ab ?_ ?_ <;> intro hb <;> (try simp only [bls] at hb) <;> (try simp only [hb]))
 | refine gRe [] [.tmp 6, .tmp 7] rfl rfl ?_) <;> (try simp only [go_sem, simprocAttr]))
 | (refine hK _ _ ?_; clear hK K; simp only [go_sem, simprocAttr])
 | refine gCd ?_ | refine brT ?_ | refine brF ?_
 | (refine brS ?_ ?_ <;> intro hc <;> (try simp only [bls] at hc) <;> (try simp only [hc, bls]))
 | intro _ | refine And.intro ?_ ?_)
  all_goals try exact zsd
 | succ m =>
  have hx : E[m]? = some (E[m]'(by omega)) := List.getElem?_eq_getElem (by omega)
  have hf := h _ (List.getElem_mem (by omega : m < E.length))
  generalize E[m]'(by omega) = x at hx hf
  rw [pM hl hx]
  have e1 : ¬ (E.length : Int) = 0 := by omega
  have e2 : (E.length : Int) - 1 = (m : Nat) := by omega
  have e3 : (m : Int) < E.length := by omega
  have e4 : (0 : Int) ≤ m := by omega
  by_cases c : x ≤ fr
  ·have e5 : x = fr := by omega
   rw [if_pos c]
   refine ah.enter Tryz.func67 rfl (by kernel_rfl) (Nat.le_of_ble_eq_true rfl) ?_; simp only [ai, Nat.reduceAdd]
   repeat' (first
 | refine gCt rfl ?_
 | ((first
 | ((first | refine gR fp67 ?_); intro K hK)
 | refine cAl (hE) rfl rfl rfl ?_
 | (refine ab ?_ ?_ <;> intro hb <;> (try simp only [bls] at hb) <;> (try simp only [hb]))
 | refine gRe [] [.tmp 6, .tmp 7] rfl rfl ?_) <;> (try simp only [go_sem, simprocAttr, e1, e2, e3, e4, eq_true e5, hx, Option.some.injEq, forall_eq']))
 | (refine hK _ _ ?_; clear hK K; simp only [go_sem, simprocAttr])
 | refine gCd ?_ | refine brT ?_ | refine brF ?_
 | (refine brS ?_ ?_ <;> intro hc <;> (try simp only [bls] at hc) <;> (try simp only [hc, bls]))
 | intro _ | refine And.intro ?_ ?_)
   all_goals try exact zsd
  ·have e5 : ¬ x = fr := by omega
   rw [if_neg c]
   refine ah.enter Tryz.func67 rfl (by kernel_rfl) (Nat.le_of_ble_eq_true rfl) ?_; simp only [ai, Nat.reduceAdd]
   repeat' (first
 | refine gCt rfl ?_
 | ((first
 | ((first | refine gR fp67 ?_); intro K hK)
 | refine cAl (hE) rfl rfl rfl ?_
 | (refine ab ?_ ?_ <;> intro hb <;> (try simp only [bls] at hb) <;> (try simp only [hb]))
 | refine gRe [] [.tmp 6, .tmp 7] rfl rfl ?_) <;> (try simp only [go_sem, simprocAttr, e1, e2, e3, e4, e5, hx, Option.some.injEq, forall_eq']))
 | (refine hK _ _ ?_; clear hK K; simp only [go_sem, simprocAttr])
 | refine gCd ?_ | refine brT ?_ | refine brF ?_
 | (refine brS ?_ ?_ <;> intro hc <;> (try simp only [bls] at hc) <;> (try simp only [hc, bls]))
 | intro _ | refine And.intro ?_ ?_)
   all_goals try exact zsd
theorem uG {fr : Int} (hE : ah Tryz.prog 45 [.sl true f (nodes l), .str w, .int .i64 fr] [] fun r s => r = .sl true b (ints E) ∧ s = []) (hb : E.length ≤ 1000001) :
  ah Tryz.prog 25 [.sl true f (nodes l), .str w, .int .i64 fr] [] fun r s => r = .tup [.int .i64 (fS E fr).1, .bool (fS E fr).2] ∧ s = [] := by
 cases hl : E.length with
 | zero =>
  have h0 : E = [] := List.length_eq_zero_iff.1 hl
  subst h0
  rw [sT]
  refine ah.enter Tryz.func25 rfl (by kernel_rfl) (Nat.le_of_ble_eq_true rfl) ?_; simp only [ai, Nat.reduceAdd]
  repeat' (first
 | refine gCt rfl ?_
 | ((first
 | ((first | refine gR fp25 ?_); intro K hK)
 | refine cAl (hE) rfl rfl rfl ?_
 | (refine ab ?_ ?_ <;> intro hb <;> (try simp only [bls] at hb) <;> (try simp only [hb]))
 | refine gRe [] [.tmp 6, .tmp 7] rfl rfl ?_) <;> (try simp only [go_sem, simprocAttr]))
 | (refine hK _ _ ?_; clear hK K; simp only [go_sem, simprocAttr])
 | refine gCd ?_ | refine brT ?_ | refine brF ?_
 | (refine brS ?_ ?_ <;> intro hc <;> (try simp only [bls] at hc) <;> (try simp only [hc, bls]))
 | intro _ | refine And.intro ?_ ?_)
  all_goals try exact zsd
 | succ m =>
  have hx : E[m]? = some (E[m]'(by omega)) := List.getElem?_eq_getElem (by omega)
  generalize E[m]'(by omega) = x at hx
  rw [pM hl hx]
  have e1 : ¬ (E.length : Int) = 0 := by omega
  have e2 : (E.length : Int) - 1 = (m : Nat) := by omega
  have e3 : (m : Int) < E.length := by omega
  have e4 : (0 : Int) ≤ m := by omega
  by_cases c : x ≤ fr
  ·have e5 : ¬ fr < x := by omega
   rw [if_pos c]
   refine ah.enter Tryz.func25 rfl (by kernel_rfl) (Nat.le_of_ble_eq_true rfl) ?_; simp only [ai, Nat.reduceAdd]
   repeat' (first
 | refine gCt rfl ?_
 | ((first
 | ((first | refine gR fp25 ?_); intro K hK)
 | refine cAl (hE) rfl rfl rfl ?_
 | (refine ab ?_ ?_ <;> intro hb <;> (try simp only [bls] at hb) <;> (try simp only [hb]))
 | refine gRe [] [.tmp 6, .tmp 7] rfl rfl ?_) <;> (try simp only [go_sem, simprocAttr, e1, e2, e3, e4, c, e5, hx, Option.some.injEq, forall_eq']))
 | (refine hK _ _ ?_; clear hK K; simp only [go_sem, simprocAttr])
 | refine gCd ?_ | refine brT ?_ | refine brF ?_
 | (refine brS ?_ ?_ <;> intro hc <;> (try simp only [bls] at hc) <;> (try simp only [hc, bls]))
 | intro _ | refine And.intro ?_ ?_)
   all_goals try exact zsd
  ·have e5 : fr < x := by omega
   rw [if_neg c]
   refine ah.enter Tryz.func25 rfl (by kernel_rfl) (Nat.le_of_ble_eq_true rfl) ?_; simp only [ai, Nat.reduceAdd]
   repeat' (first
 | refine gCt rfl ?_
 | ((first
 | ((first | refine gR fp25 ?_); intro K hK)
 | refine cAl (hE) rfl rfl rfl ?_
 | (refine ab ?_ ?_ <;> intro hb <;> (try simp only [bls] at hb) <;> (try simp only [hb]))
 | refine gRe [] [.tmp 6, .tmp 7] rfl rfl ?_) <;> (try simp only [go_sem, simprocAttr, e1, e2, e3, e4, c, e5, hx, Option.some.injEq, forall_eq']))
 | (refine hK _ _ ?_; clear hK K; simp only [go_sem, simprocAttr])
 | refine gCd ?_ | refine brT ?_ | refine brF ?_
 | (refine brS ?_ ?_ <;> intro hc <;> (try simp only [bls] at hc) <;> (try simp only [hc, bls]))
 | intro _ | refine And.intro ?_ ?_)
   all_goals try exact zsd
theorem LS (hE : ah Tryz.prog 45 [.sl true f (nodes l), .str w, .int .i64 0] [] fun r s => r = .sl true b (ints E) ∧ s = []) (hb : E.length ≤ 1000001) (hs : E.Pairwise (· < ·)) (hn : ∀ y ∈ E, y ≤ (w.size : Int)) :
  ah Tryz.prog 20 [.sl true f (nodes l), .str w] [] fun r s => r = .bool (E.contains (w.size : Int)) ∧ s = [] := by
 cases hl : E.length with
 | zero =>
  have h0 : E = [] := List.length_eq_zero_iff.1 hl
  subst h0
  refine ah.enter Tryz.func20 rfl (by kernel_rfl) (Nat.le_of_ble_eq_true rfl) ?_; simp only [ai, Nat.reduceAdd]
  repeat' (first
 | refine gCt rfl ?_
 | ((first
 | ((first | refine gR fp20 ?_); intro K hK)
 | refine cAl (hE) rfl rfl rfl ?_
 | (refine ab ?_ ?_ <;> intro hb <;> (try simp only [bls] at hb) <;> (try simp only [hb]))
 | refine gRe [] [.tmp 4] rfl rfl ?_) <;> (try simp only [go_sem, simprocAttr]))
 | (refine hK _ _ ?_; clear hK K; simp only [go_sem, simprocAttr])
 | refine gCd ?_ | refine brT ?_ | refine brF ?_
 | (refine brS ?_ ?_ <;> intro hc <;> (try simp only [bls] at hc) <;> (try simp only [hc, bls]))
 | intro _ | refine And.intro ?_ ?_)
  all_goals try exact zsd
 | succ m =>
  have hx : E[m]? = some (E[m]'(by omega)) := List.getElem?_eq_getElem (by omega)
  generalize E[m]'(by omega) = x at hx
  rw [zO hl hx hs hn]
  have e1 : (0 : Int) < E.length := by omega
  have e2 : (E.length : Int) - 1 = (m : Nat) := by omega
  have e3 : (m : Int) < E.length := by omega
  have e4 : (0 : Int) ≤ m := by omega
  by_cases c : x = w.size
  ·refine ah.enter Tryz.func20 rfl (by kernel_rfl) (Nat.le_of_ble_eq_true rfl) ?_; simp only [ai, Nat.reduceAdd]
   repeat' (first
 | refine gCt rfl ?_
 | ((first
 | ((first | refine gR fp20 ?_); intro K hK)
 | refine cAl (hE) rfl rfl rfl ?_
 | (refine ab ?_ ?_ <;> intro hb <;> (try simp only [bls] at hb) <;> (try simp only [hb]))
 | refine gRe [] [.tmp 4] rfl rfl ?_) <;> (try simp only [go_sem, simprocAttr, e1, e2, e3, e4, c, hx, Option.some.injEq, forall_eq']))
 | (refine hK _ _ ?_; clear hK K; simp only [go_sem, simprocAttr])
 | refine gCd ?_ | refine brT ?_ | refine brF ?_
 | (refine brS ?_ ?_ <;> intro hc <;> (try simp only [bls] at hc) <;> (try simp only [hc, bls]))
 | intro _ | refine And.intro ?_ ?_)
   all_goals try exact zsd
  ·refine ah.enter Tryz.func20 rfl (by kernel_rfl) (Nat.le_of_ble_eq_true rfl) ?_; simp only [ai, Nat.reduceAdd]
   repeat' (first
 | refine gCt rfl ?_
 | ((first
 | ((first | refine gR fp20 ?_); intro K hK)
 | refine cAl (hE) rfl rfl rfl ?_
 | (refine ab ?_ ?_ <;> intro hb <;> (try simp only [bls] at hb) <;> (try simp only [hb]))
 | refine gRe [] [.tmp 4] rfl rfl ?_) <;> (try simp only [go_sem, simprocAttr, e1, e2, e3, e4, c, hx, Option.some.injEq, forall_eq']))
 | (refine hK _ _ ?_; clear hK K; simp only [go_sem, simprocAttr])
 | refine gCd ?_ | refine brT ?_ | refine brF ?_
 | (refine brS ?_ ?_ <;> intro hc <;> (try simp only [bls] at hc) <;> (try simp only [hc, bls]))
 | intro _ | refine And.intro ?_ ?_)
   all_goals try exact zsd
end
end Go.Rad
namespace Go.Rad
open Go Go.Proofs
set_option linter.all false
set_option maxRecDepth 20000
set_option maxHeartbeats 4000000
def lanT (f : Fo) : Lan := (lan f).headD zj
theorem oq {w : ByteArray} {fo : Fo} (hd : fo.deg = 1) (hs : fo.cM = true) : aS w (kD w fo) (lanT fo) := by
 match fo, hd with
 | .node b k .nil, _ => exact (lA (w := w) _ hs).1
def jA (w : ByteArray) (fo : Fo) (i : Nat) : List Int := bO (kD w fo (bR (w.size + 1) i))
theorem w8 (w : ByteArray) (fo : Fo) (i : Nat) : (jA w fo i).Pairwise (· < ·) := iU _
theorem eL {w : ByteArray} {fo : Fo} (hd : fo.deg = 1) (hs : fo.cM = true) (i : Nat) (x : Int) : x ∈ jA w fo i ↔ ∃ k : Nat, x = k ∧ i ≤ k ∧ k ≤ w.size ∧ lanT fo (fF w i k) := by
 rw [jA, eT]
 constructor
 ·rintro ⟨k, rfl, h⟩
  obtain ⟨h1, j, h2, h3, h4⟩ := ((oq hd hs).iff _ (cw _ _) k).1 h
  simp only [lh, Bool.and_eq_true, decide_eq_true_eq] at h3
  obtain ⟨rfl, _⟩ := h3
  exact ⟨k, rfl, h2, h1, h4⟩
 ·rintro ⟨k, rfl, h1, h2, h3⟩
  refine ⟨k, rfl, ((oq hd hs).iff _ (cw _ _) k).2 ⟨h2, i, h1, ?_, h3⟩⟩
  simp only [lh, Bool.and_eq_true, decide_eq_true_eq]
  exact ⟨trivial, by omega⟩
theorem jV {w : ByteArray} {fo : Fo} (hd : fo.deg = 1) (i : Nat) : (jA w fo i).length ≤ w.size + 1 := by
 have := iw (kD w fo (bR (w.size + 1) i))
 rwa [oo hd (cw _ _)] at this
structure Both (P : Program) (fa fb : Nat) (f : Bool) (l : List Node) (w : ByteArray) (fr : Int) (b1 b2 : Bool) (E : List Int) : Prop where
 a : ah P fa [.sl true f (nodes l), .str w, .int .i64 fr] [] fun r s => r = .sl true b1 (ints E) ∧ s = []
 b : ah P fb [.sl true f (nodes l), .str w, .int .i64 fr] [] fun r s => r = .sl true b2 (ints E) ∧ s = []
 from' : ∀ x ∈ E, fr ≤ x
 upto : ∀ x ∈ E, x ≤ (w.size : Int)
 rise : E.Pairwise (· < ·)
 len : E.length ≤ 1000001
end Go.Rad
namespace Go.Rad
open Go
def ruT (r : Ru) : Prop := r.kind.size ≤ maxLen ∧ r.conds.length ≤ maxLen ∧ r.l.length ≤ maxLen ∧ ∀ n ∈ r.l, gC n
structure FlT (F : Fl) : Prop where
 c : F.conds.length ≤ maxLen
 cs : ∀ s ∈ F.conds, s.size ≤ maxLen
 d : F.defs.length ≤ maxLen
 ds : ∀ d ∈ F.defs, d.name.size ≤ maxLen ∧ d.l.length ≤ maxLen ∧ ∀ n ∈ d.l, gC n
 r : F.rules.length ≤ maxLen
 rs : ∀ r ∈ F.rules, ruT r
section
variable {L : Lay} {k t : Nat} {y : List aa}
structure Hf (L : Lay) (t : Nat) : Prop where
 ex : ∃ a b s i l n : Nat, (L t).ty = .struct [(0, a), (1, b), (2, b), (3, s), (4, i), (5, i), (6, l)] ∧ (L a).ty = .slice i ∧ (L i).ty = .int .i64 ∧ (L b).ty = .bool ∧ (L s).ty = .string ∧ (L l).ty = .slice n ∧ mQ L n
theorem MA (hn : Hf L t) (h : typed L (k + 5) t y) : ∃ r : Ru, y = r.cells ∧ ruT r := by
 obtain ⟨a, b, s, i, l, n, h1, h2, h3, h4, h5, h6, h7⟩ := hn.ex
 have h := jb h1 h
 obtain ⟨x1, r1, rfl, p1, x2, r2, rfl, p2, x3, r3, rfl, p3, x4, r4, rfl, p4, x5, r5, rfl, p5, x6, r6, rfl, p6, x7, r7, rfl, p7, rfl⟩ := h
 obtain ⟨cs, rfl, hc⟩ := wI h2 h3 p1
 obtain ⟨fo, rfl⟩ := wH h4 p2
 obtain ⟨li, rfl⟩ := wH h4 p3
 obtain ⟨kd, rfl, hk⟩ := oJ h5 p4
 obtain ⟨to, rfl, _⟩ := fH h3 p5
 obtain ⟨po, rfl, _⟩ := fH h3 p6
 obtain ⟨ns, rfl, h8, h9⟩ := qe h6 h7 p7
 exact ⟨⟨cs, fo, li, kd, to, po, ns⟩, rfl, hk, hc, h8, h9⟩
structure FlTy (L : Lay) (t : Nat) : Prop where
 ex : ∃ c s d e r f : Nat, (L t).ty = .struct [(0, c), (1, d), (2, r)] ∧ (L c).ty = .slice s ∧ (L s).ty = .string ∧ (L d).ty = .slice e ∧ yO L e ∧ (L r).ty = .slice f ∧ Hf L f
theorem DQ (hn : FlTy L t) (h : typed L (k + 7) t y) : ∃ F : Fl, y = F.cells ∧ FlT F := by
 obtain ⟨c, s, d, e, r, f, h1, h2, h3, h4, h5, h6, h7⟩ := hn.ex
 have h := jb h1 h
 obtain ⟨x1, r1, rfl, p1, x2, r2, rfl, p2, x3, r3, rfl, p3, rfl⟩ := h
 obtain ⟨l, rfl, hl, hx⟩ := iH h2 p1
 obtain ⟨cs, rfl, hcs⟩ := iR (F := fun s : ByteArray => [aa.str s]) (P := fun s => s.size ≤ maxLen) fun x hx' => by
  obtain ⟨s, rfl, h⟩ := oJ h3 (hx x hx')
  exact ⟨s, rfl, h⟩
 obtain ⟨ds, rfl, hd1, hd2⟩ := A3 h4 h5 p2
 obtain ⟨l2, rfl, hl2, hx2⟩ := iH h6 p3
 obtain ⟨rs, rfl, hrs⟩ := iR (F := Ru.cells) (P := ruT) fun x hx' => MA h7 (hx2 x hx')
 exact ⟨⟨cs, ds, rs⟩, rfl, by simpa using hl, hcs, hd1, hd2, by simpa using hl2, hrs⟩
end
end Go.Rad
namespace Go.Rad
open Go Go.Proofs
set_option linter.all false
set_option maxRecDepth 20000
set_option maxHeartbeats 4000000
theorem sZ : av.none.okI := ⟨⟨by decide, by decide⟩, ⟨by decide, by decide⟩, ⟨by decide, by decide⟩, ⟨by decide, by decide⟩⟩
theorem wc {α : Type} {l : List α} {g : α → α} (h : ∀ x ∈ l, g x = x) : l.map g = l := by
 conv => rhs; rw [← List.map_id l]
 exact List.map_congr_left h
open Classical in
theorem ux {l : List Node} {ds : List Df} (hl : ∀ n ∈ l, n.s.okI) (hd : ∀ d ∈ ds, ∀ n ∈ d.l, n.s.okI) : ∀ n ∈ (ay l ds).1, n.s.okI := by
 have hn := sZ
 let φ : av → av := fun s => if s.okI then s else av.none
 have hφ : ∀ s : av, s.okI → φ s = s := fun s h => if_pos h
 have hid : ∀ {m : List Node}, (∀ n ∈ m, n.s.okI) → m.map (eP φ) = m := fun {m} h => wc fun n hn => by
  show ({ n with s := φ n.s } : Node) = n
  rw [hφ _ (h n hn)]
 have hk : ∀ {m : List Node}, (∀ n ∈ m, n.s.okI) → mP φ m := fun h n hn => by rw [hφ _ (h n hn)]
 have h := sr (φ := φ) (hk hl) (fun d h => hk (hd d h))
 rw [hid hl] at h
 have hds : ds.map (zU φ) = ds := wc fun d h => by
  show (⟨d.name, d.l.map (eP φ)⟩ : Df) = d
  rw [hid (hd d h)]
 rw [hds] at h
 intro n hm
 rw [h] at hm
 obtain ⟨m, _, rfl⟩ := List.mem_map.1 hm
 show (φ m.s).okI
 by_cases hc : m.s.okI
 ·rw [hφ _ hc]; exact hc
 ·rw [show φ m.s = av.none from if_neg hc]; exact hn
theorem jc {s : av} (h : s.okI) (k : Nat) : 0 ≤ s.word k := by
 obtain ⟨h1, h2, h3, h4⟩ := h
 obtain ⟨h1, _⟩ := h1
 obtain ⟨h2, _⟩ := h2
 obtain ⟨h3, _⟩ := h3
 obtain ⟨h4, _⟩ := h4
 simp only [IntKind.min] at h1 h2 h3 h4
 unfold av.word
 split <;> first | exact h1 | exact h2 | exact h3 | exact h4
theorem D1 (s : aw) (k : Nat) : 0 ≤ s.I.word k := by
 obtain ⟨a, b, c, d⟩ := s
 unfold av.word aw.I
 split <;> simp only <;> omega
theorem nE {F : Fl} (h : FlT F) (hd : F.defs.length ≤ 900000) : gQ F :=
 ⟨h.c, h.cs, hd, fun d hm => ⟨(h.ds d hm).1, fun n hn => ((h.ds d hm).2.2 n hn).1⟩, h.r, fun r hm => ⟨(h.rs r hm).1, (h.rs r hm).2.1, fun n hn => ((h.rs r hm).2.2.2 n hn).1⟩⟩
theorem s8 {x : List Node} (h1 : az x = true) (h2 : ∀ n ∈ x, okN n) : cg x = true := by
 rw [cg, Bool.and_eq_true, ← dE]
 exact ⟨List.all_eq_true.2 fun n hn => by simp [iv, (h2 n hn).2], h1⟩
theorem jJ {F : Fl} (hT : FlT F) (h : bG F = true) {i : Nat} (hi : i < F.rules.length) : cg (bS F i).1 = true ∧ ∀ n ∈ (bS F i).1, ∀ k, 0 ≤ n.s.word k := by
 have hm := List.getElem_mem hi
 have he := ry (gH h hm)
 have hok := ux (fun n hn => ((hT.rs _ hm).2.2.2 n hn).2) (fun d hd n hn => ((hT.ds d hd).2.2 n hn).2) (l := F.rules[i].l) (ds := F.defs)
 obtain ⟨X, hX⟩ : ∃ X, X = (ay F.rules[i].l F.defs).1 := ⟨_, rfl⟩
 obtain ⟨_, _, h3, h4⟩ := iP (show ay F.rules[i].l F.defs = (X, 0) by rw [hX, ← he])
 have ht : bS F i = (if F.rules[i].fold = true then dZ X else X, 0) := by
  unfold bS
  have h1 : ¬ (i : Int) < 0 := by omega
  rw [if_pos h]
  simp only [h1, decide_false, Bool.false_eq_true, if_false, Int.toNat_natCast, List.getElem?_eq_getElem hi, ← hX]
 rw [← hX] at hok
 rw [ht]
 simp only
 split
 ·rw [xj h3]
  refine ⟨s8 (by rw [ix (pV hok)]; exact h3) fun n hn => ?_, fun n hn k => ?_⟩
  ·obtain ⟨m, hm, rfl⟩ := List.mem_map.1 hn
   exact ⟨(ow (pV hok m hm)).trans (h4 m hm).1, (h4 m hm).2⟩
  ·obtain ⟨m, hm, rfl⟩ := List.mem_map.1 hn
   exact D1 _ k
 ·exact ⟨s8 h3 h4, fun n hn k => jc (hok n hn) k⟩
noncomputable def je (x : List Node) : Fo := open Classical in if h : ∃ f : Fo, f.deg = 1 ∧ x = f.lay 0 ∧ f.cM = true ∧ f.size ≤ 1024 ∧ no6 f = true then Classical.choose h else .nil
theorem pA {x : List Node} (h : cg x = true) : (je x).deg = 1 ∧ x = (je x).lay 0 ∧ (je x).cM = true ∧ (je x).size ≤ 1024 ∧ no6 (je x) = true := by
 have h := (n6 x).1 h
 unfold je
 rw [dif_pos h]
 exact Classical.choose_spec h
noncomputable def gW (w : ByteArray) (n : Nat) (x : List Node) : Int × Bool := fS (jA w (je x) n) n
theorem ld {E : List Int} {fr x : Int} (h : fS E fr = (x, true)) : x ∈ E ∧ fr < x ∧ E.getLast? = some x := by
 unfold fS at h
 split at h
 ·cases h
 ·rename_i y hy
  split at h
  ·cases h
  ·cases h
   exact ⟨List.mem_of_getLast? hy, by omega, hy⟩
theorem xG {F : Fl} {x : List Node} (h : x ∈ cN F) : ∃ i, i < F.rules.length ∧ x = (bS F i).1 := by
 obtain ⟨i, hi, rfl⟩ := List.mem_map.1 h
 exact ⟨i, List.mem_range.1 hi, rfl⟩
theorem CX {F : Fl} {w : ByteArray} (hT : FlT F) (hd : F.defs.length ≤ 900000) (h : bG F = true) (hw : w.size ≤ 900000) : jR F w (gW w) ∧ r8 Tryz.prog 67 F w (gW w) ∧ r8 Tryz.prog 25 F w (gW w) := by
 refine ⟨⟨nE hT hd, h, hw, fun n hn x hx h2 => ?_⟩, fun n hn x hx => ?_, fun n hn x hx => ?_⟩
 all_goals obtain ⟨i, hi, rfl⟩ := xG hx
 all_goals obtain ⟨hp, hs⟩ := jJ hT h hi
 all_goals generalize (bS F i).1 = x at *
 all_goals obtain ⟨f1, f2, f3, f4, f5⟩ := pA hp
 ·obtain ⟨⟨y, b⟩, hy⟩ : ∃ p, gW w n x = p := ⟨_, rfl⟩
  rw [hy] at h2 ⊢
  simp only at h2
  subst h2
  obtain ⟨h3, h4, _⟩ := ld hy
  obtain ⟨k, rfl, h5, h6, _⟩ := (eL f1 f3 n y).1 h3
  exact ⟨k, rfl, by omega, h6⟩
 ·have hE := pz hw false (je x) f1 f3 f4 f5 (by rw [← f2]; exact hs) n (by omega)
  rw [← f2] at hE
  refine pN hE (by have := jV (w := w) f1 n; show (jA w (je x) n).length ≤ _; omega) fun y hy => ?_
  obtain ⟨k, rfl, h5, _⟩ := (eL f1 f3 n y).1 hy
  omega
 ·have hE := nw (by omega) false (je x) f1 f3 f4 f5 n (by omega : n ≤ w.size)
  rw [← f2] at hE
  exact uG hE (by have := jV (w := w) f1 n; show (jA w (je x) n).length ≤ _; omega)
theorem AW (w : ByteArray) (hw : w.size ≤ maxLen) : ah Tryz.prog 16 [.str w] [] fun r s => r = .str (w.extract 0 (min w.size 30)) ∧ s = [] := by
 unfold maxLen at hw
 obtain ⟨k, hk⟩ : ∃ k : Nat, k = min w.size 30 := ⟨_, rfl⟩
 have c2 : min (w.size : Int) 30 = (k : Int) := by omega
 have c3 : (0 : Int) ≤ k := by omega
 have c4 : k ≤ w.size := by omega
 rw [← hk]
 obtain ⟨t, ht0⟩ : ∃ t, w.extract 0 k = t := ⟨_, rfl⟩
 rw [ht0]
 refine ah.enter Tryz.func16 rfl (by kernel_rfl) (Nat.le_of_ble_eq_true rfl) ?_; simp only [ai, Nat.reduceAdd]
 repeat' (first
 | refine gCt rfl ?_
 | ((first
 | ((first | refine gR fp16 ?_); intro K hK)
 | (refine ab ?_ ?_ <;> intro hb <;> (try simp only [bls] at hb) <;> (try simp only [hb]))
 | refine gRe [] [.tmp 2] rfl rfl ?_) <;> (try simp only [go_sem, simprocAttr, c2, c3, c4, ht0]))
 | (refine hK _ _ ?_; clear hK K; simp only [go_sem, simprocAttr])
 | refine gCd ?_ | refine brT ?_ | refine brF ?_
 | (refine brS ?_ ?_ <;> intro hc <;> (try simp only [bls] at hc) <;> (try simp only [hc, bls]))
 | intro _ | refine And.intro ?_ ?_)
 all_goals try exact zsd
end Go.Rad
namespace Go.Rad
open Go Go.Proofs
set_option linter.all false
set_option maxRecDepth 20000
set_option maxHeartbeats 4000000
theorem xC (F : Fl) (hT : FlT F) : ah Tryz.prog 15 [.agg F.cells] [] fun r s => (∃ b : Bool, r = .bool b ∧ (b = true → F.defs.length ≤ 6)) ∧ s = [] := by
 by_cases k1 : F.rules.length ≤ 6
 case neg =>
  have e1 : (6 : Int) < F.rules.length := by omega
  obtain ⟨cs, ds, rs⟩ := F
  simp only at *
  refine ah.enter Tryz.func15 rfl (by kernel_rfl) (Nat.le_of_ble_eq_true rfl) ?_; simp only [ai, Nat.reduceAdd]
  repeat' (first
 | refine gCt rfl ?_
 | ((first
 | ((first | refine gR fp15 ?_); intro K hK)
 | (refine ab ?_ ?_ <;> intro hb <;> (try simp only [bls] at hb) <;> (try simp only [hb]))
 | refine gRe [] [.tmp 2] rfl rfl ?_) <;> (try simp only [go_sem, simprocAttr, e1]))
 | (refine hK _ _ ?_; clear hK K; simp only [go_sem, simprocAttr])
 | refine gCd ?_ | refine brT ?_ | refine brF ?_
 | (refine brS ?_ ?_ <;> intro hc <;> (try simp only [bls] at hc) <;> (try simp only [hc, bls]))
 | intro _ | refine And.intro ?_ ?_)
  all_goals exact ⟨_, rfl, fun h => by cases h⟩
 by_cases k2 : F.defs.length ≤ 6
 case neg =>
  have e1 : ¬ (6 : Int) < F.rules.length := by omega
  have e2 : (6 : Int) < F.defs.length := by omega
  obtain ⟨cs, ds, rs⟩ := F
  simp only at *
  refine ah.enter Tryz.func15 rfl (by kernel_rfl) (Nat.le_of_ble_eq_true rfl) ?_; simp only [ai, Nat.reduceAdd]
  repeat' (first
 | refine gCt rfl ?_
 | ((first
 | ((first | refine gR fp15 ?_); intro K hK)
 | (refine ab ?_ ?_ <;> intro hb <;> (try simp only [bls] at hb) <;> (try simp only [hb]))
 | refine gRe [] [.tmp 2] rfl rfl ?_) <;> (try simp only [go_sem, simprocAttr, e1, e2]))
 | (refine hK _ _ ?_; clear hK K; simp only [go_sem, simprocAttr])
 | refine gCd ?_ | refine brT ?_ | refine brF ?_
 | (refine brS ?_ ?_ <;> intro hc <;> (try simp only [bls] at hc) <;> (try simp only [hc, bls]))
 | intro _ | refine And.intro ?_ ?_)
  all_goals exact ⟨_, rfl, fun h => by cases h⟩
 have hTr : ∀ i, i < F.rules.length → ah Tryz.prog 19 [.agg F.cells, .int .i64 i] [] fun r s => r = .tup [.sl true false (nodes (bS F i).1), .int .i64 (bS F i).2] ∧ s = [] := fun i hi => (qd F i ⟨by show (-9223372036854775808 : Int) ≤ _; omega, by show _ ≤ (9223372036854775807 : Int); omega⟩ (nE hT (by omega)) fun r hr => (hT.rs r hr).2.2.1).flat
 have hX : ∀ i, i < F.rules.length → (bS F i).2 = 0 → (bS F i).1.length ≤ 1024 := fun i hi h0 => by
  by_cases hr : bG F = true
  ·exact (lg (jJ hT hr hi).1).2
  ·unfold bS at h0 ⊢; rw [if_neg hr]; simp
 clear hT
 have e1 : ¬ (6 : Int) < F.rules.length := by omega
 have e2 : ¬ (6 : Int) < F.defs.length := by omega
 have hall : ∀ b : Bool, b = true → F.defs.length ≤ 6 := fun _ _ => k2
 by_cases k3 : F.conds.length ≤ 8
 case neg =>
  have e3 : (8 : Int) < F.conds.length := by omega
  clear hTr hX
  obtain ⟨cs, ds, rs⟩ := F
  simp only at *
  refine ah.enter Tryz.func15 rfl (by kernel_rfl) (Nat.le_of_ble_eq_true rfl) ?_; simp only [ai, Nat.reduceAdd]
  repeat' (first
 | refine gCt rfl ?_
 | ((first
 | ((first | refine gR fp15 ?_); intro K hK)
 | (refine ab ?_ ?_ <;> intro hb <;> (try simp only [bls] at hb) <;> (try simp only [hb]))
 | refine gRe [] [.tmp 2] rfl rfl ?_) <;> (try simp only [go_sem, simprocAttr, e1, e2, e3]))
 | (refine hK _ _ ?_; clear hK K; simp only [go_sem, simprocAttr])
 | refine gCd ?_ | refine brT ?_ | refine brF ?_
 | (refine brS ?_ ?_ <;> intro hc <;> (try simp only [bls] at hc) <;> (try simp only [hc, bls]))
 | intro _ | refine And.intro ?_ ?_)
  all_goals exact ⟨_, rfl, fun h => by cases h⟩
 have e3 : ¬ (8 : Int) < F.conds.length := by omega
 obtain ⟨T, hTT⟩ : ∃ T : Int → List Node × Int, T = bS F := ⟨_, rfl⟩
 rw [← hTT] at hTr hX
 clear hTT
 obtain ⟨cs, ds, rs⟩ := F
 simp only at *
 refine ah.enter Tryz.func15 rfl (by kernel_rfl) (Nat.le_of_ble_eq_true rfl) ?_; simp only [ai, Nat.reduceAdd]
 repeat' (first
 | refine gCt rfl ?_
 | ((first
 | (refine ae.at 3 ?_; (refine ae.eI 1 1 rfl rfl rfl ?_; simp only [go_sem, simprocAttr]); refine gR fp15 ?_; intro K hK)
 | ((first | refine gR fp15 ?_); intro K hK)
 | (refine ab ?_ ?_ <;> intro hb <;> (try simp only [bls] at hb) <;> (try simp only [hb]))
 | refine gRe [] [.tmp 2] rfl rfl ?_) <;> (try simp only [go_sem, simprocAttr, e1, e2, e3]))
 | (refine hK _ _ ?_; clear hK K; simp only [go_sem, simprocAttr])
 | refine gCd ?_ | refine brT ?_ | refine brF ?_
 | (refine brS ?_ ?_ <;> intro hc <;> (try simp only [bls] at hc) <;> (try simp only [hc, bls]))
 | intro _ | refine And.intro ?_ ?_)
 all_goals try exact zsd
 refine ae.prune [1, 2, 27, 28] ?_; simp only [go_sem, simprocAttr]
 refine ae.al (α := Nat) (fun i => ([(1, .ref true [.sl true false (cz cs), .sl true false (Rad.defs ds), .sl true false (bm rs)]), (2, .bool false), (27, .int .i64 rs.length), (28, .int .i64 i)], [])) (fun i => i ≤ rs.length) (fun i => rs.length - i) 0 (Nat.zero_le _) rfl ?_
 rintro i hi ih
 simp only at hi ih ⊢
 by_cases hle : i < rs.length
 ·have e4 : (i : Int) < rs.length := by omega
  have e6 : (i : Int) + 1 = ((i + 1 : Nat) : Int) := by omega
  have hc := hTr i hle
  have hx := hX i hle
  clear hTr hX
  generalize T i = t at hc hx
  obtain ⟨X, e⟩ := t
  simp only at hc hx
  by_cases he : e = 0
  ·subst he
   have hl := hx rfl
   clear hx
   repeat' (first
 | refine gCt rfl ?_
 | ((first
 | ((first | refine gR fp15 ?_); intro K hK)
 | refine cAl (hc) rfl rfl rfl ?_
 | (refine ab ?_ ?_ <;> intro hb <;> (try simp only [bls] at hb) <;> (try simp only [hb]))
 | refine gRe [] [.tmp 2] rfl rfl ?_) <;> (try simp only [go_sem, simprocAttr, e4]))
 | (refine hK _ _ ?_; clear hK K; simp only [go_sem, simprocAttr])
 | refine gCd ?_ | refine brT ?_ | refine brF ?_
 | (refine brS ?_ ?_ <;> intro hc <;> (try simp only [bls] at hc) <;> (try simp only [hc, bls]))
 | intro _ | refine And.intro ?_ ?_)
   all_goals try exact zsd
   refine ae.prune [1, 2, 4, 6, 27, 28, 41, 42, 43] ?_; simp only [go_sem, simprocAttr]
   refine ae.al (α := Nat × Nat) (fun j => ([(1, .ref true [.sl true false (cz cs), .sl true false (Rad.defs ds), .sl true false (bm rs)]), (2, .bool false), (4, .sl true false (nodes X)), (6, .int .i64 j.2), (27, .int .i64 rs.length), (28, .int .i64 i), (41, .sl true false (nodes X)), (42, .int .i64 X.length), (43, .int .i64 j.1)], [])) (fun j => j.1 ≤ X.length ∧ j.2 ≤ j.1) (fun j => X.length - j.1) (0, 0) ⟨Nat.zero_le _, Nat.le_refl _⟩ rfl ?_
   rintro ⟨j, m⟩ ⟨hj, hm⟩ ih2
   simp only at hj hm ih2 ⊢
   by_cases hlj : j < X.length
   ·have f4 : (j : Int) < X.length := by omega
    have f5 : (0 : Int) ≤ j := by omega
    have f6 : (j : Int) + 1 = ((j + 1 : Nat) : Int) := by omega
    have f7 : (m : Int) + 1 = ((m + 1 : Nat) : Int) := by omega
    have hx : X[j]? = some X[j] := List.getElem?_eq_getElem hlj
    generalize X[j] = n at hx
    obtain ⟨xo, ⟨xa, xb, xc, xd⟩, xl, xlo, xhi, xn⟩ := n
    repeat' (first
 | refine gCt rfl ?_
 | ((first
 | ((first | refine gR fp15 ?_); intro K hK)
 | (refine ab ?_ ?_ <;> intro hb <;> (try simp only [bls] at hb) <;> (try simp only [hb]))
 | refine gRe [] [.tmp 2] rfl rfl ?_) <;> (try simp only [go_sem, simprocAttr, f4, f5, f6, f7, hx, Option.some.injEq, forall_eq']))
 | (refine hK _ _ ?_; clear hK K; simp only [go_sem, simprocAttr])
 | refine gCd ?_ | refine brT ?_ | refine brF ?_
 | (refine brS ?_ ?_ <;> intro hc <;> (try simp only [bls] at hc) <;> (try simp only [hc, bls]))
 | intro _ | refine And.intro ?_ ?_)
    all_goals first
     | exact zsd
     | exact ⟨_, rfl, hall _⟩
     | (refine ae.bC [] ?_; simp only [aq, ax, go_sem, simprocAttr]; refine ae.prune [1, 2, 4, 6, 27, 28, 41, 42, 43] ?_; simp only [go_sem, simprocAttr]; first | exact (ih2 (j + 1, m + 1) ⟨by simp only; omega, by simp only; omega⟩ (by simp only; omega)).cast rfl rfl | exact (ih2 (j + 1, m) ⟨by simp only; omega, by simp only; omega⟩ (by simp only; omega)).cast rfl rfl)
   ·have f4 : ¬ (j : Int) < X.length := by omega
    clear ih2
    repeat' (first
 | refine gCt rfl ?_
 | ((first
 | ((first | refine gR fp15 ?_); intro K hK)
 | (refine ab ?_ ?_ <;> intro hb <;> (try simp only [bls] at hb) <;> (try simp only [hb]))
 | refine gRe [] [.tmp 2] rfl rfl ?_) <;> (try simp only [go_sem, simprocAttr, f4, e6]))
 | (refine hK _ _ ?_; clear hK K; simp only [go_sem, simprocAttr])
 | refine gCd ?_ | refine brT ?_ | refine brF ?_
 | (refine brS ?_ ?_ <;> intro hc <;> (try simp only [bls] at hc) <;> (try simp only [hc, bls]))
 | intro _ | refine And.intro ?_ ?_)
    all_goals first
     | exact zsd
     | exact ⟨_, rfl, hall _⟩
     | (refine ae.prune [1, 2, 27, 28] ?_; simp only [go_sem, simprocAttr]; exact (ih (i + 1) (by omega) (by omega)).cast rfl rfl)
  ·clear hx
   repeat' (first
 | refine gCt rfl ?_
 | ((first
 | ((first | refine gR fp15 ?_); intro K hK)
 | refine cAl (hc) rfl rfl rfl ?_
 | (refine ab ?_ ?_ <;> intro hb <;> (try simp only [bls] at hb) <;> (try simp only [hb]))
 | refine gRe [] [.tmp 2] rfl rfl ?_) <;> (try simp only [go_sem, simprocAttr, e4, he]))
 | (refine hK _ _ ?_; clear hK K; simp only [go_sem, simprocAttr])
 | refine gCd ?_ | refine brT ?_ | refine brF ?_
 | (refine brS ?_ ?_ <;> intro hc <;> (try simp only [bls] at hc) <;> (try simp only [hc, bls]))
 | intro _ | refine And.intro ?_ ?_)
   all_goals exact ⟨_, rfl, hall _⟩
 ·have e4 : ¬ (i : Int) < rs.length := by omega
  clear ih hTr hX
  repeat' (first
 | refine gCt rfl ?_
 | ((first
 | ((first | refine gR fp15 ?_); intro K hK)
 | (refine ab ?_ ?_ <;> intro hb <;> (try simp only [bls] at hb) <;> (try simp only [hb]))
 | refine gRe [] [.tmp 2] rfl rfl ?_) <;> (try simp only [go_sem, simprocAttr, e4]))
 | (refine hK _ _ ?_; clear hK K; simp only [go_sem, simprocAttr])
 | refine gCd ?_ | refine brT ?_ | refine brF ?_
 | (refine brS ?_ ?_ <;> intro hc <;> (try simp only [bls] at hc) <;> (try simp only [hc, bls]))
 | intro _ | refine And.intro ?_ ?_)
  all_goals exact ⟨_, rfl, hall _⟩
end Go.Rad
