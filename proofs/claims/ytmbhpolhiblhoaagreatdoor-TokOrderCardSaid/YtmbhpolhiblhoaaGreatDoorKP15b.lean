/- A part of the proof. -/
import Derived.Test.YtmbhpolhiblhoaaGreatDoorKP15a
import Derived.Test.YtmbhpolhiblhoaaGreatDoorKC03c
import Derived.Test.YtmbhpolhiblhoaaGreatDoorKRDraw
import Derived.Test.YtmbhpolhiblhoaaGreatDoorKRDefer
set_option linter.all false
namespace Go.Rad
open Go Go.Proofs
set_option linter.all false
set_option maxRecDepth 20000
set_option maxHeartbeats 4000000
def wB (r : Ru) : Prop := r.kind.size ≤ maxLen ∧ r.conds.length ≤ maxLen ∧ ∀ n ∈ r.l, n.name.size ≤ maxLen ∧ n.l.length ≤ maxLen
def gQ (F : Fl) : Prop := F.conds.length ≤ maxLen ∧ (∀ s ∈ F.conds, s.size ≤ maxLen) ∧ F.defs.length ≤ 900000 ∧ (∀ d ∈ F.defs, ze d) ∧ F.rules.length ≤ maxLen ∧ ∀ r ∈ F.rules, wB r
theorem L6 (F : Fl) (r : Ru) (hF : gQ F) (h8 : F.conds.length ≤ 8) (hr : wB r) :
  ah Tryz.prog 58 [.agg F.cells, .agg r.cells] [] fun v s => v = .bool (jf F.conds.length F.defs r) ∧ s = [] := by
 obtain ⟨_, _, hd1, hd2, _, _⟩ := hF
 obtain ⟨hr1, hr2, hr3⟩ := hr
 have hE := nB true false true false r.l F.defs hr3 hd1 hd2
 have hN := mA r.kind hr1
 have hr2' : r.conds.length ≤ 9223372036854775807 := Nat.le_trans hr2 (by decide)
 clear hr2
 obtain ⟨O, hO⟩ : ∃ O, O = jf F.conds.length F.defs r := ⟨_, rfl⟩
 rw [← hO]
 unfold jf at hO
 generalize (ay r.l F.defs).1 = X at hE
 generalize (ay r.l F.defs).2 = e at hE hO
 obtain ⟨cs, ds, rs⟩ := F
 obtain ⟨rc, rf, rl, rk, rt, rp, rn⟩ := r
 simp only at *
 obtain ⟨U, hU⟩ : ∃ U, U = upI cs.length (-1) rc := ⟨_, rfl⟩
 obtain ⟨La, hL⟩ : ∃ La, La = fQ (-1) rc := ⟨_, rfl⟩
 rw [← hU, ← hL] at hO
 generalize bl rk = nk at hN hO
 clear hr3 hd2
 refine ah.enter Tryz.func58 rfl (by kernel_rfl) (Nat.le_of_ble_eq_true rfl) ?_; simp only [ai, Nat.reduceAdd]
 repeat' (first
 | refine gCt rfl ?_
 | ((first
 | (refine ae.at 2 ?_; (refine ae.eI 2 2 rfl rfl rfl ?_; simp only [go_sem, simprocAttr]; refine ae.eI 3 3 rfl rfl rfl ?_; simp only [go_sem, simprocAttr]); refine gR fp58 ?_; intro K hK)
 | ((first | refine gR fp58 ?_); intro K hK)
 | (refine ab ?_ ?_ <;> intro hb <;> (try simp only [bls] at hb) <;> (try simp only [hb]))
 | refine gRe [] [.tmp 4] rfl rfl ?_) <;> (try simp only [go_sem, simprocAttr]))
 | (refine hK _ _ ?_; clear hK K; simp only [go_sem, simprocAttr])
 | refine gCd ?_ | refine brT ?_ | refine brF ?_
 | (refine brS ?_ ?_ <;> intro hc <;> (try simp only [bls] at hc) <;> (try simp only [hc, bls]))
 | intro _ | refine And.intro ?_ ?_)
 refine ae.prune [2, 3, 4, 5, 11, 12, 13] ?_; simp only [go_sem, simprocAttr]
 refine ae.al (α := Nat × Int) (fun i => ([(2, .ref true [.sl true false (cz cs), .sl true false (defs ds), .sl true false (bm rs)]), (3, .ref true [.sl true false (ints rc), .bool rf, .bool rl, .str rk, .int .i64 rt, .int .i64 rp, .sl true false (nodes rn)]), (4, .bool false), (5, .int .i64 i.2), (11, .sl true false (ints rc)), (12, .int .i64 rc.length), (13, .int .i64 i.1)], [])) (fun i => i.1 ≤ rc.length ∧ U = upI cs.length i.2 (rc.drop i.1) ∧ La = fQ i.2 (rc.drop i.1)) (fun i => rc.length - i.1) (0, -1) ⟨Nat.zero_le _, hU, hL⟩ rfl ?_
 rintro ⟨i, a⟩ ⟨hi, hu, hl⟩ ih
 simp only at hi hu hl ih ⊢
 by_cases hle : i < rc.length
 ·have e4 : (i : Int) < rc.length := by omega
  have e5 : (0 : Int) ≤ i := by omega
  have e6 : (i : Int) + 1 = ((i + 1 : Nat) : Int) := by omega
  have hx : rc[i]? = some rc[i] := List.getElem?_eq_getElem hle
  have hdr : rc.drop i = rc[i] :: rc.drop (i + 1) := List.drop_eq_getElem_cons hle
  rw [hdr, upI] at hu
  rw [hdr, fQ] at hl
  generalize rc[i] = k at hx hu hl
  by_cases k1 : k ≤ a
  ·simp only [k1, decide_true, if_true] at hu
   subst hu
   simp only [Bool.false_and] at hO
   subst hO
   repeat' (first
 | refine gCt rfl ?_
 | ((first
 | ((first | refine gR fp58 ?_); intro K hK)
 | (refine ab ?_ ?_ <;> intro hb <;> (try simp only [bls] at hb) <;> (try simp only [hb]))
 | refine gRe [] [.tmp 4] rfl rfl ?_) <;> (try simp only [go_sem, simprocAttr, e4, e5, e6, hx, k1, Option.some.injEq, forall_eq']))
 | (refine hK _ _ ?_; clear hK K; simp only [go_sem, simprocAttr])
 | refine gCd ?_ | refine brT ?_ | refine brF ?_
 | (refine brS ?_ ?_ <;> intro hc <;> (try simp only [bls] at hc) <;> (try simp only [hc, bls]))
 | intro _ | refine And.intro ?_ ?_)
   all_goals try exact zsd
  simp only [k1, decide_false, Bool.false_eq_true, if_false] at hu
  by_cases k2 : (cs.length : Int) ≤ k
  ·simp only [k2, decide_true, if_true] at hu
   subst hu
   simp only [Bool.false_and] at hO
   subst hO
   repeat' (first
 | refine gCt rfl ?_
 | ((first
 | ((first | refine gR fp58 ?_); intro K hK)
 | (refine ab ?_ ?_ <;> intro hb <;> (try simp only [bls] at hb) <;> (try simp only [hb]))
 | refine gRe [] [.tmp 4] rfl rfl ?_) <;> (try simp only [go_sem, simprocAttr, e4, e5, e6, hx, k1, k2, Option.some.injEq, forall_eq']))
 | (refine hK _ _ ?_; clear hK K; simp only [go_sem, simprocAttr])
 | refine gCd ?_ | refine brT ?_ | refine brF ?_
 | (refine brS ?_ ?_ <;> intro hc <;> (try simp only [bls] at hc) <;> (try simp only [hc, bls]))
 | intro _ | refine And.intro ?_ ?_)
   all_goals try exact zsd
  simp only [k2, decide_false, Bool.false_eq_true, if_false] at hu
  repeat' (first
 | refine gCt rfl ?_
 | ((first
 | ((first | refine gR fp58 ?_); intro K hK)
 | (refine ab ?_ ?_ <;> intro hb <;> (try simp only [bls] at hb) <;> (try simp only [hb]))
 | refine gRe [] [.tmp 4] rfl rfl ?_) <;> (try simp only [go_sem, simprocAttr, e4, e5, e6, hx, k1, k2, Option.some.injEq, forall_eq']))
 | (refine hK _ _ ?_; clear hK K; simp only [go_sem, simprocAttr])
 | refine gCd ?_ | refine brT ?_ | refine brF ?_
 | (refine brS ?_ ?_ <;> intro hc <;> (try simp only [bls] at hc) <;> (try simp only [hc, bls]))
 | intro _ | refine And.intro ?_ ?_)
  all_goals try exact zsd
  refine ae.prune [2, 3, 4, 5, 11, 12, 13] ?_; simp only [go_sem, simprocAttr]
  exact (ih (i + 1, k) ⟨by simp only; omega, hu, hl⟩ (by simp only; omega)).cast rfl rfl
 ·have e4 : ¬ (i : Int) < rc.length := by omega
  rw [List.drop_of_length_le (by omega)] at hu hl
  simp only [upI, fQ] at hu hl
  subst hu hl
  rw [Bool.true_and] at hO
  clear ih
  repeat' (first
 | refine gCt rfl ?_
 | ((first
 | ((first | refine gR fp58 ?_); intro K hK)
 | refine cAl (hN) rfl rfl rfl ?_
 | (refine ah.use [] [] rfl hE rfl rfl rfl ?_; rintro _ _ ⟨⟨fl, rfl⟩, rfl⟩; refine ⟨.inl rfl, rfl, ?_⟩; simp only [bk, bk2, bk1, bkS, aH, List.map_cons, List.map_nil])
 | (refine ab ?_ ?_ <;> intro hb <;> (try simp only [bls] at hb) <;> (try simp only [hb]))
 | refine gRe [] [.tmp 4] rfl rfl ?_) <;> (try simp only [go_sem, simprocAttr, e4]))
 | (refine hK _ _ ?_; clear hK K; simp only [go_sem, simprocAttr])
 | refine gCd ?_ | refine brT ?_ | refine brF ?_
 | (refine brS ?_ ?_ <;> intro hc <;> (try simp only [bls] at hc) <;> (try simp only [hc, bls]))
 | intro _ | refine And.intro ?_ ?_)
  all_goals first | exact zsd | (rw [hO]; congr 1; simp_all <;> omega)
theorem IW (F : Fl) (r : Ru) (hF : gQ F) (h8 : F.conds.length ≤ 8) (hr : wB r) :
  ah Tryz.prog 57 [.agg r.cells, .ref true F.cells] [] fun v s => v = .bool (!jf F.conds.length F.defs r) ∧ s = [] := by
 have hm := L6 F r hF h8 hr
 generalize jf F.conds.length F.defs r = O at hm ⊢
 obtain ⟨cs, ds, rs⟩ := F
 obtain ⟨rc, rf, rl, rk, rt, rp, rn⟩ := r
 simp only at *
 refine ah.enter Tryz.func57 rfl (by kernel_rfl) (Nat.le_of_ble_eq_true rfl) ?_; simp only [ai, Nat.reduceAdd]
 repeat' (first
 | refine gCt rfl ?_
 | ((first
 | ((first | refine gR fp57 ?_); intro K hK)
 | refine cAl (hm) rfl rfl rfl ?_
 | (refine ab ?_ ?_ <;> intro hb <;> (try simp only [bls] at hb) <;> (try simp only [hb]))
 | refine gRe [] [.tmp 3] rfl rfl ?_) <;> (try simp only [go_sem, simprocAttr]))
 | (refine hK _ _ ?_; clear hK K; simp only [go_sem, simprocAttr])
 | refine gCd ?_ | refine brT ?_ | refine brF ?_
 | (refine brS ?_ ?_ <;> intro hc <;> (try simp only [bls] at hc) <;> (try simp only [hc, bls]))
 | intro _ | refine And.intro ?_ ?_)
 all_goals try exact zsd
theorem ni {cs l : List ByteArray} {s : ByteArray} {i : Nat} : dS cs (s :: l) i = if bl s = true then if decide (jB s cs 0 = (i : Int)) = true then dS cs l (i + 1) else false else false := rfl
theorem oa (F : Fl) (hF : gQ F) :
  ah Tryz.prog 33 [.agg F.cells] [] fun v s => v = .bool (bG F) ∧ s = [] := by
 have hD := te true false F.defs (by have := hF.2.2.1; omega) hF.2.2.2.1
 have hS : ∀ s ∈ F.conds, ah Tryz.prog 54 [.str s] [] fun r s' => r = .bool (bl s) ∧ s' = [] := fun s h => mA s (hF.2.1 s h)
 have hI := fun (s : ByteArray) (h : F.conds.length ≤ 8) => Ie true false F.conds s (by omega)
 have hR := fun (h : F.conds.length ≤ 8) (h64 : F.rules.length ≤ 64) => Hg 57 F.cells (fun r => !jf F.conds.length F.defs r) true false F.rules (by omega) fun x hx => IW F x hF h (hF.2.2.2.2.2 x hx)
 obtain ⟨O, hO⟩ : ∃ O, O = bG F := ⟨_, rfl⟩
 rw [← hO]
 unfold bG qJ at hO
 generalize bz [] F.defs = D at hD hO
 obtain ⟨B, hB⟩ : ∃ B, B = F.rules.any fun r => !jf F.conds.length F.defs r := ⟨_, rfl⟩
 rw [← hB] at hO hR
 have hl1 := hF.1
 have hl2 := hF.2.2.2.2.1
 clear hB hF
 obtain ⟨cs, ds, rs⟩ := F
 simp only at *
 cases cs with
 | nil =>
  simp only [Bool.false_and] at hO
  subst hO
  clear hS hI hR
  refine ah.enter Tryz.func33 rfl (by kernel_rfl) (Nat.le_of_ble_eq_true rfl) ?_; simp only [ai, Nat.reduceAdd]
  repeat' (first
 | refine gCt rfl ?_
 | ((first
 | ((first | refine gR fp33 ?_); intro K hK)
 | (refine ab ?_ ?_ <;> intro hb <;> (try simp only [bls] at hb) <;> (try simp only [hb]))
 | refine gRe [] [.tmp 2] rfl rfl ?_) <;> (try simp only [go_sem, simprocAttr]))
 | (refine hK _ _ ?_; clear hK K; simp only [go_sem, simprocAttr])
 | refine gCd ?_ | refine brT ?_ | refine brF ?_
 | (refine brS ?_ ?_ <;> intro hc <;> (try simp only [bls] at hc) <;> (try simp only [hc, bls]))
 | intro _ | refine And.intro ?_ ?_)
  all_goals try exact zsd
 | cons s0 cs0 =>
  have hx0 : (s0 :: cs0)[0]? = some s0 := rfl
  have hl0 : 0 < (s0 :: cs0).length := Nat.succ_pos _
  simp only at hO
  generalize s0 :: cs0 = cs at *
  obtain ⟨U, hU⟩ : ∃ U, U = dS cs cs 0 := ⟨_, rfl⟩
  rw [← hU] at hO
  have hz : (0 : Int) < cs.length := by omega
  have hz1 : ¬ (cs.length : Int) < 1 := by omega
  by_cases k1 : (8 : Int) < cs.length
  ·have k1' : ¬ cs.length ≤ 8 := by omega
   simp only [k1', decide_false, Bool.false_and] at hO
   subst hO
   clear hS hI hR
   refine ah.enter Tryz.func33 rfl (by kernel_rfl) (Nat.le_of_ble_eq_true rfl) ?_; simp only [ai, Nat.reduceAdd]
   repeat' (first
 | refine gCt rfl ?_
 | ((first
 | ((first | refine gR fp33 ?_); intro K hK)
 | (refine ab ?_ ?_ <;> intro hb <;> (try simp only [bls] at hb) <;> (try simp only [hb]))
 | refine gRe [] [.tmp 2] rfl rfl ?_) <;> (try simp only [go_sem, simprocAttr, hz1, k1]))
 | (refine hK _ _ ?_; clear hK K; simp only [go_sem, simprocAttr])
 | refine gCd ?_ | refine brT ?_ | refine brF ?_
 | (refine brS ?_ ?_ <;> intro hc <;> (try simp only [bls] at hc) <;> (try simp only [hc, bls]))
 | intro _ | refine And.intro ?_ ?_)
   all_goals try exact zsd
  have k1' : cs.length ≤ 8 := by omega
  simp only [k1', decide_true, Bool.true_and] at hO
  by_cases k2 : s0 = bn
  ·by_cases k3 : (64 : Int) < rs.length
   ·have k3' : ¬ rs.length ≤ 64 := by omega
    simp only [k3', decide_false, Bool.false_and, Bool.and_false] at hO
    subst hO k2
    clear hS hI hR
    refine ah.enter Tryz.func33 rfl (by kernel_rfl) (Nat.le_of_ble_eq_true rfl) ?_; simp only [ai, Nat.reduceAdd]
    repeat' (first
 | refine gCt rfl ?_
 | ((first
 | ((first | refine gR fp33 ?_); intro K hK)
 | (refine ab ?_ ?_ <;> intro hb <;> (try simp only [bls] at hb) <;> (try simp only [hb]))
 | refine gRe [] [.tmp 2] rfl rfl ?_) <;> (try simp only [go_sem, simprocAttr, hz1, k1, hx0, hz, k3, bn]))
 | (refine hK _ _ ?_; clear hK K; simp only [go_sem, simprocAttr])
 | refine gCd ?_ | refine brT ?_ | refine brF ?_
 | (refine brS ?_ ?_ <;> intro hc <;> (try simp only [bls] at hc) <;> (try simp only [hc, bls]))
 | intro _ | refine And.intro ?_ ?_)
    all_goals try exact zsd
   have k3' : rs.length ≤ 64 := by omega
   have hR' := hR k1' k3'
   have hI' := fun s => hI s k1'
   clear hR hI
   cases D
   ·simp only [Bool.false_and, Bool.and_false] at hO
    subst hO k2
    clear hS hI' hR'
    refine ah.enter Tryz.func33 rfl (by kernel_rfl) (Nat.le_of_ble_eq_true rfl) ?_; simp only [ai, Nat.reduceAdd]
    repeat' (first
 | refine gCt rfl ?_
 | ((first
 | ((first | refine gR fp33 ?_); intro K hK)
 | refine cAl (hD) rfl rfl rfl ?_
 | (refine ab ?_ ?_ <;> intro hb <;> (try simp only [bls] at hb) <;> (try simp only [hb]))
 | refine gRe [] [.tmp 2] rfl rfl ?_) <;> (try simp only [go_sem, simprocAttr, hz1, k1, hx0, hz, k3, bn]))
 | (refine hK _ _ ?_; clear hK K; simp only [go_sem, simprocAttr])
 | refine gCd ?_ | refine brT ?_ | refine brF ?_
 | (refine brS ?_ ?_ <;> intro hc <;> (try simp only [bls] at hc) <;> (try simp only [hc, bls]))
 | intro _ | refine And.intro ?_ ?_)
    all_goals try exact zsd
   simp only [k2, k3', decide_true, Bool.true_and] at hO
   subst k2
   refine ah.enter Tryz.func33 rfl (by kernel_rfl) (Nat.le_of_ble_eq_true rfl) ?_; simp only [ai, Nat.reduceAdd]
   repeat' (first
 | refine gCt rfl ?_
 | ((first
 | (refine ae.at 3 ?_; (refine ae.eI 1 1 rfl rfl rfl ?_; simp only [go_sem, simprocAttr]); refine gR fp33 ?_; intro K hK)
 | ((first | refine gR fp33 ?_); intro K hK)
 | refine cAl (hD) rfl rfl rfl ?_
 | (refine ab ?_ ?_ <;> intro hb <;> (try simp only [bls] at hb) <;> (try simp only [hb]))
 | refine gRe [] [.tmp 2] rfl rfl ?_) <;> (try simp only [go_sem, simprocAttr, hz1, k1, hx0, hz, k3, bn]))
 | (refine hK _ _ ?_; clear hK K; simp only [go_sem, simprocAttr])
 | refine gCd ?_ | refine brT ?_ | refine brF ?_
 | (refine brS ?_ ?_ <;> intro hc <;> (try simp only [bls] at hc) <;> (try simp only [hc, bls]))
 | intro _ | refine And.intro ?_ ?_)
   all_goals try exact zsd
   refine ae.prune [1, 2, 35, 36, 37] ?_; simp only [go_sem, simprocAttr]
   refine ae.al (α := Nat) (fun i => ([(1, .ref true [.sl true false (cz cs), .sl true false (defs ds), .sl true false (bm rs)]), (2, .bool false), (35, .sl true false (cz cs)), (36, .int .i64 cs.length), (37, .int .i64 i)], [])) (fun i => i ≤ cs.length ∧ U = dS cs (cs.drop i) i) (fun i => cs.length - i) 0 ⟨Nat.zero_le _, hU⟩ rfl ?_
   rintro i ⟨hi, hu⟩ ih
   simp only at hi hu ih ⊢
   by_cases hle : i < cs.length
   ·have e4 : (i : Int) < cs.length := by omega
    have e5 : (0 : Int) ≤ i := by omega
    have e6 : (i : Int) + 1 = ((i + 1 : Nat) : Int) := by omega
    have hx : cs[i]? = some cs[i] := List.getElem?_eq_getElem hle
    have hdr : cs.drop i = cs[i] :: cs.drop (i + 1) := List.drop_eq_getElem_cons hle
    have hs := hS _ (List.getElem_mem hle)
    have hi2 := hI' cs[i]
    rw [hdr, ni] at hu
    clear hS hI' hR' hx0
    generalize cs[i] = k at hx hu hs hi2
    generalize jB k cs 0 = j at hi2 hu
    generalize bl k = nk at hs hu
    cases nk
    ·simp only [Bool.false_eq_true, if_false] at hu
     subst hu
     simp only [Bool.false_and] at hO
     subst hO
     repeat' (first
 | refine gCt rfl ?_
 | ((first
 | ((first | refine gR fp33 ?_); intro K hK)
 | refine cAl (hs) rfl rfl rfl ?_
 | (refine ab ?_ ?_ <;> intro hb <;> (try simp only [bls] at hb) <;> (try simp only [hb]))
 | refine gRe [] [.tmp 2] rfl rfl ?_) <;> (try simp only [go_sem, simprocAttr, e4, e5, e6, hx, Option.some.injEq, forall_eq']))
 | (refine hK _ _ ?_; clear hK K; simp only [go_sem, simprocAttr])
 | refine gCd ?_ | refine brT ?_ | refine brF ?_
 | (refine brS ?_ ?_ <;> intro hc <;> (try simp only [bls] at hc) <;> (try simp only [hc, bls]))
 | intro _ | refine And.intro ?_ ?_)
     all_goals try exact zsd
    simp only [if_true] at hu
    by_cases k4 : j = (i : Int)
    ·simp only [k4, decide_true, if_true] at hu hi2
     repeat' (first
 | refine gCt rfl ?_
 | ((first
 | ((first | refine gR fp33 ?_); intro K hK)
 | refine cAl (hs) rfl rfl rfl ?_
 | refine cAl (hi2) rfl rfl rfl ?_
 | (refine ab ?_ ?_ <;> intro hb <;> (try simp only [bls] at hb) <;> (try simp only [hb]))
 | refine gRe [] [.tmp 2] rfl rfl ?_) <;> (try simp only [go_sem, simprocAttr, e4, e5, e6, hx, Option.some.injEq, forall_eq']))
 | (refine hK _ _ ?_; clear hK K; simp only [go_sem, simprocAttr])
 | refine gCd ?_ | refine brT ?_ | refine brF ?_
 | (refine brS ?_ ?_ <;> intro hc <;> (try simp only [bls] at hc) <;> (try simp only [hc, bls]))
 | intro _ | refine And.intro ?_ ?_)
     all_goals try exact zsd
     refine ae.prune [1, 2, 35, 36, 37] ?_; simp only [go_sem, simprocAttr]
     exact (ih (i + 1) ⟨by omega, hu⟩ (by omega)).cast rfl rfl
    ·simp only [k4, decide_false, Bool.false_eq_true, if_false] at hu
     subst hu
     simp only [Bool.false_and] at hO
     subst hO
     repeat' (first
 | refine gCt rfl ?_
 | ((first
 | ((first | refine gR fp33 ?_); intro K hK)
 | refine cAl (hs) rfl rfl rfl ?_
 | refine cAl (hi2) rfl rfl rfl ?_
 | (refine ab ?_ ?_ <;> intro hb <;> (try simp only [bls] at hb) <;> (try simp only [hb]))
 | refine gRe [] [.tmp 2] rfl rfl ?_) <;> (try simp only [go_sem, simprocAttr, e4, e5, e6, hx, k4, Option.some.injEq, forall_eq']))
 | (refine hK _ _ ?_; clear hK K; simp only [go_sem, simprocAttr])
 | refine gCd ?_ | refine brT ?_ | refine brF ?_
 | (refine brS ?_ ?_ <;> intro hc <;> (try simp only [bls] at hc) <;> (try simp only [hc, bls]))
 | intro _ | refine And.intro ?_ ?_)
     all_goals try exact zsd
   ·have e4 : ¬ (i : Int) < cs.length := by omega
    rw [List.drop_of_length_le (by omega)] at hu
    simp only [dS] at hu
    subst hu
    rw [Bool.true_and] at hO
    subst hO
    clear ih hS hI'
    repeat' (first
 | refine gCt rfl ?_
 | ((first
 | ((first | refine gR fp33 ?_); intro K hK)
 | refine cAl (hR') rfl rfl rfl ?_
 | (refine ab ?_ ?_ <;> intro hb <;> (try simp only [bls] at hb) <;> (try simp only [hb]))
 | refine gRe [] [.tmp 2] rfl rfl ?_) <;> (try simp only [go_sem, simprocAttr, e4]))
 | (refine hK _ _ ?_; clear hK K; simp only [go_sem, simprocAttr])
 | refine gCd ?_ | refine brT ?_ | refine brF ?_
 | (refine brS ?_ ?_ <;> intro hc <;> (try simp only [bls] at hc) <;> (try simp only [hc, bls]))
 | intro _ | refine And.intro ?_ ?_)
    all_goals try exact zsd
  ·simp only [k2, decide_false, Bool.false_and, Bool.and_false] at hO
   subst hO
   clear hS hI hR
   have k2' : ¬ s0 = ⟨#[115, 116, 97, 114, 116]⟩ := k2
   refine ah.enter Tryz.func33 rfl (by kernel_rfl) (Nat.le_of_ble_eq_true rfl) ?_; simp only [ai, Nat.reduceAdd]
   repeat' (first
 | refine gCt rfl ?_
 | ((first
 | ((first | refine gR fp33 ?_); intro K hK)
 | (refine ab ?_ ?_ <;> intro hb <;> (try simp only [bls] at hb) <;> (try simp only [hb]))
 | refine gRe [] [.tmp 2] rfl rfl ?_) <;> (try simp only [go_sem, simprocAttr, hz1, k1, hx0, hz, k2']))
 | (refine hK _ _ ?_; clear hK K; simp only [go_sem, simprocAttr])
 | refine gCd ?_ | refine brT ?_ | refine brF ?_
 | (refine brS ?_ ?_ <;> intro hc <;> (try simp only [bls] at hc) <;> (try simp only [hc, bls]))
 | intro _ | refine And.intro ?_ ?_)
   all_goals try exact zsd
def bS (f : Fl) (i : Int) : List Node × Int :=
 if bG f = true then
  if decide (i < 0) = true then ([], 2)
  else match f.rules[i.toNat]? with
   | none => ([], 2)
   | some r => (if r.fold = true then dZ (ay r.l f.defs).1 else (ay r.l f.defs).1, 0)
 else ([], 1)
theorem gH {F : Fl} (h : bG F = true) {r : Ru} (hr : r ∈ F.rules) : jf F.conds.length F.defs r = true := by
 simp only [bG, Bool.and_eq_true, Bool.not_eq_true', List.any_eq_false] at h
 have := h.2.2 r hr
 simpa using this
theorem ry {n : Int} {ds : List Df} {r : Ru} (h : jf n ds r = true) : (ay r.l ds).2 = 0 := by
 simp only [jf, Bool.and_eq_true, decide_eq_true_eq] at h
 exact h.2.2.2.2.2.2
theorem DN (F : Fl) (i : Int) (hi : fits .i64 i) (hF : gQ F) :
  ah Tryz.prog 32 [.agg F.cells, .int .i64 i] [] fun v s => (∃ fl, v = .tup [.sl true fl (nodes (bS F i).1), .int .i64 (bS F i).2]) ∧ s = [] := by
 have hR := oa F hF
 obtain ⟨O, hO⟩ : ∃ O, O = bS F i := ⟨_, rfl⟩
 rw [← hO]
 unfold bS at hO
 have hrt : bG F = true → ∀ r ∈ F.rules, (ay r.l F.defs).2 = 0 := fun h r hr => ry (gH h hr)
 generalize bG F = B at hR hO hrt
 cases B
 ·simp only [Bool.false_eq_true, if_false] at hO
  subst hO
  clear hF hrt
  obtain ⟨cs, ds, rs⟩ := F
  simp only at *
  refine ah.enter Tryz.func32 rfl (by kernel_rfl) (Nat.le_of_ble_eq_true rfl) ?_; simp only [ai, Nat.reduceAdd]
  repeat' (first
 | refine gCt rfl ?_
 | ((first
 | ((first | refine gR fp32 ?_); intro K hK)
 | refine cAl (hR) rfl rfl rfl ?_
 | (refine ab ?_ ?_ <;> intro hb <;> (try simp only [bls] at hb) <;> (try simp only [hb]))
 | refine gRe [] [.tmp 4, .tmp 5] rfl rfl ?_) <;> (try simp only [go_sem, simprocAttr]))
 | (refine hK _ _ ?_; clear hK K; simp only [go_sem, simprocAttr])
 | refine gCd ?_ | refine brT ?_ | refine brF ?_
 | (refine brS ?_ ?_ <;> intro hc <;> (try simp only [bls] at hc) <;> (try simp only [hc, bls]))
 | intro _ | refine And.intro ?_ ?_)
  all_goals first | exact zsd | exact ⟨_, rfl⟩
 simp only [if_true] at hO
 by_cases k1 : i < 0
 ·simp only [k1, decide_true, if_true] at hO
  subst hO
  clear hF hrt
  obtain ⟨cs, ds, rs⟩ := F
  simp only at *
  refine ah.enter Tryz.func32 rfl (by kernel_rfl) (Nat.le_of_ble_eq_true rfl) ?_; simp only [ai, Nat.reduceAdd]
  repeat' (first
 | refine gCt rfl ?_
 | ((first
 | ((first | refine gR fp32 ?_); intro K hK)
 | refine cAl (hR) rfl rfl rfl ?_
 | (refine ab ?_ ?_ <;> intro hb <;> (try simp only [bls] at hb) <;> (try simp only [hb]))
 | refine gRe [] [.tmp 4, .tmp 5] rfl rfl ?_) <;> (try simp only [go_sem, simprocAttr, k1]))
 | (refine hK _ _ ?_; clear hK K; simp only [go_sem, simprocAttr])
 | refine gCd ?_ | refine brT ?_ | refine brF ?_
 | (refine brS ?_ ?_ <;> intro hc <;> (try simp only [bls] at hc) <;> (try simp only [hc, bls]))
 | intro _ | refine And.intro ?_ ?_)
  all_goals first | exact zsd | exact ⟨_, rfl⟩
 simp only [k1, decide_false, Bool.false_eq_true, if_false] at hO
 obtain ⟨n, rfl⟩ : ∃ n : Nat, i = n := ⟨i.toNat, by omega⟩
 rw [Int.toNat_natCast] at hO
 by_cases k2 : n < F.rules.length
 ·have k3 : ¬ (F.rules.length : Int) ≤ n := by omega
  have k4 : (n : Int) < F.rules.length := by omega
  have hm := List.getElem_mem k2
  have hx : F.rules[n]? = some F.rules[n] := List.getElem?_eq_getElem k2
  have he := hrt rfl _ hm
  obtain ⟨_, _, hd1, hd2, _, hru⟩ := hF
  have hr3 := (hru _ hm).2.2
  rw [hx] at hO
  generalize F.rules[n] = r at hx he hr3 hO
  have hE := nB true false true false r.l F.defs hr3 hd1 hd2
  obtain ⟨X, hX⟩ : ∃ X, X = (ay r.l F.defs).1 := ⟨_, rfl⟩
  have hx2 := iP (show ay r.l F.defs = (X, 0) by rw [hX, ← he])
  rw [he, ← hX] at hE
  simp only at hO
  rw [← hX] at hO
  have hXb := dT hx2.2.2.1
  clear hX hx2
  clear hd2 hru hrt hm
  obtain ⟨cs, ds, rs⟩ := F
  obtain ⟨rc, rf, rl, rk, rt, rp, rn⟩ := r
  simp only at *
  cases rf
  ·simp only [Bool.false_eq_true, if_false] at hO
   subst hO
   refine ah.enter Tryz.func32 rfl (by kernel_rfl) (Nat.le_of_ble_eq_true rfl) ?_; simp only [ai, Nat.reduceAdd]
   repeat' (first
 | refine gCt rfl ?_
 | ((first
 | ((first | refine gR fp32 ?_); intro K hK)
 | refine cAl (hR) rfl rfl rfl ?_
 | (refine ah.use [] [] rfl hE rfl rfl rfl ?_; rintro _ _ ⟨⟨fl, rfl⟩, rfl⟩; refine ⟨.inl rfl, rfl, ?_⟩; simp only [bk, bk2, bk1, bkS, aH, List.map_cons, List.map_nil])
 | (refine ab ?_ ?_ <;> intro hb <;> (try simp only [bls] at hb) <;> (try simp only [hb]))
 | refine gRe [] [.tmp 4, .tmp 5] rfl rfl ?_) <;> (try simp only [go_sem, simprocAttr, k1, k3, k4, hx, Option.some.injEq, forall_eq']))
 | (refine hK _ _ ?_; clear hK K; simp only [go_sem, simprocAttr])
 | refine gCd ?_ | refine brT ?_ | refine brF ?_
 | (refine brS ?_ ?_ <;> intro hc <;> (try simp only [bls] at hc) <;> (try simp only [hc, bls]))
 | intro _ | refine And.intro ?_ ?_)
   all_goals first | exact zsd | exact ⟨_, rfl⟩
  ·simp only [if_true] at hO
   subst hO
   have hFo := fun fl => Ci true fl X hXb
   refine ah.enter Tryz.func32 rfl (by kernel_rfl) (Nat.le_of_ble_eq_true rfl) ?_; simp only [ai, Nat.reduceAdd]
   repeat' (first
 | refine gCt rfl ?_
 | ((first
 | ((first | refine gR fp32 ?_); intro K hK)
 | refine cAl (hR) rfl rfl rfl ?_
 | refine cAl (hFo _) rfl rfl rfl ?_
 | (refine ah.use [] [] rfl hE rfl rfl rfl ?_; rintro _ _ ⟨⟨fl, rfl⟩, rfl⟩; refine ⟨.inl rfl, rfl, ?_⟩; simp only [bk, bk2, bk1, bkS, aH, List.map_cons, List.map_nil])
 | (refine ab ?_ ?_ <;> intro hb <;> (try simp only [bls] at hb) <;> (try simp only [hb]))
 | refine gRe [] [.tmp 4, .tmp 5] rfl rfl ?_) <;> (try simp only [go_sem, simprocAttr, k1, k3, k4, hx, Option.some.injEq, forall_eq']))
 | (refine hK _ _ ?_; clear hK K; simp only [go_sem, simprocAttr])
 | refine gCd ?_ | refine brT ?_ | refine brF ?_
 | (refine brS ?_ ?_ <;> intro hc <;> (try simp only [bls] at hc) <;> (try simp only [hc, bls]))
 | intro _ | refine And.intro ?_ ?_)
   all_goals first | exact zsd | exact ⟨_, rfl⟩
 ·have k3 : (F.rules.length : Int) ≤ n := by omega
  rw [List.getElem?_eq_none (by omega)] at hO
  subst hO
  clear hF hrt
  obtain ⟨cs, ds, rs⟩ := F
  simp only at *
  refine ah.enter Tryz.func32 rfl (by kernel_rfl) (Nat.le_of_ble_eq_true rfl) ?_; simp only [ai, Nat.reduceAdd]
  repeat' (first
 | refine gCt rfl ?_
 | ((first
 | ((first | refine gR fp32 ?_); intro K hK)
 | refine cAl (hR) rfl rfl rfl ?_
 | (refine ab ?_ ?_ <;> intro hb <;> (try simp only [bls] at hb) <;> (try simp only [hb]))
 | refine gRe [] [.tmp 4, .tmp 5] rfl rfl ?_) <;> (try simp only [go_sem, simprocAttr, k1, k3]))
 | (refine hK _ _ ?_; clear hK K; simp only [go_sem, simprocAttr])
 | refine gCd ?_ | refine brT ?_ | refine brF ?_
 | (refine brS ?_ ?_ <;> intro hc <;> (try simp only [bls] at hc) <;> (try simp only [hc, bls]))
 | intro _ | refine And.intro ?_ ?_)
  all_goals first | exact zsd | exact ⟨_, rfl⟩
end Go.Rad
namespace Go.Rad
open Go
theorem gF {G : Gh} {o q f : Bool} {l : List (List aa)} {v : Value} (h : Rep G o (.sl q f l) v) : Rep G o (.sl q false l) v := by
 cases h with
 | slnil _ => exact .slnil (fun h => nomatch h)
 | sl h1 h2 h3 h4 h5 h6 h7 h8 h9 => exact .sl h1 (fun h => nomatch h) h3 h4 h5 h6 h7 h8 h9
theorem ae.vb {P : Program} {f : Nat} {fn : Func} {df : List dt} {k : List Item} {tm : Tm} {sto : Sto} {R : aa → Sto → Prop} (t : Nat) {q e : Bool} {l : List (List aa)} (ht : lk tm t = .sl q e l) (h : ae P f fn df k ((t, .sl q false l) :: tm) sto R) : ae P f fn df k tm sto R := by
 refine ⟨fun E G a w b h1 h2 h3 h4 h5 h6 h7 h8 h9 => h.go E G a w b h1 h2 h3 h4 h5 h6 h7 h8 fun t' => ?_⟩
 simp only [lk]
 split
 ·rename_i e; subst e
  have h0 := h9 t
  rw [ht] at h0
  exact gF h0
 ·exact h9 t'
theorem ah.vb {P : Program} {f : Nat} {a b : aa} {q e : Bool} {l : List (List aa)} {sto : Sto} {T : aa → Sto → Prop} (h : ah P f [a, b, .sl q false l] sto T) : ah P f [a, b, .sl q e l] sto T :=
 ⟨h.able, fun G w cargs hw hs ha => h.calls G w cargs hw hs ⟨by simpa using ha.1, fun j x hx => by
  match j, hx with
  | 0, hx => exact ha.2 0 x hx
  | 1, hx => exact ha.2 1 x hx
  | 2, hx => cases hx; exact gF (ha.2 2 _ rfl)⟩⟩
end Go.Rad
namespace Go.Rad
open Go
theorem Dx {G : Gh} {o f : Bool} {X : List (List aa)} {v : aa} {u : Value} (h : Rep G o (.tup [.sl true f X, v]) u) : Rep G o (.tup [.sl true false X, v]) u := by
 cases h with
 | tup a c =>
  refine .tup a fun j z hz => ?_
  match j, hz with
  | 0, hz => simp only [List.getElem?_cons_zero, Option.some.injEq] at hz; subst hz; exact gF (c 0 _ rfl)
  | 1, hz => exact c 1 _ hz
theorem ah.flat {P : Program} {f : Nat} {args : List aa} {X : List (List aa)} {v : aa} (h : ah P f args [] fun r s => (∃ fl, r = .tup [.sl true fl X, v]) ∧ s = []) : ah P f args [] fun r s => r = .tup [.sl true false X, v] ∧ s = [] := by
 refine h.post fun G w r s v hw hs hr hR => ?_
 obtain ⟨⟨b, rfl⟩, rfl⟩ := hR
 exact ⟨G, _, _, .refl G, hw, hs, Dx hr, rfl, rfl⟩
end Go.Rad
namespace Go.Rad
open Go Go.Proofs
set_option linter.all false
set_option maxRecDepth 20000
set_option maxHeartbeats 4000000
def cN (F : Fl) : List (List Node) := (List.range F.rules.length).map fun (i : Nat) => (bS F i).1
theorem oI (F : Fl) : (cN F).length = F.rules.length := by simp [cN]
theorem jK {F : Fl} {i : Nat} (h : i < F.rules.length) : (cN F)[i]? = some (bS F i).1 := by simp [cN, h]
theorem tN {F : Fl} (h : bG F = true) {i : Nat} (hi : i < F.rules.length) : (bS F i).2 = 0 := by
 unfold bS
 have h1 : ¬ (i : Int) < 0 := by omega
 rw [if_pos h]
 simp only [h1, decide_false, Bool.false_eq_true, if_false, Int.toNat_natCast, List.getElem?_eq_getElem hi]
theorem uj (F : Fl) (w : ByteArray) (hF : gQ F) (h : bG F = false) :
  ah Tryz.prog 37 [.agg F.cells, .str w] [] fun r s => r = .tup [.agg [.sl true false (cz F.conds), .sl true false (Rad.defs F.defs), .sl true false (bm F.rules), .sl true true [], .str w], .bool false] ∧ s = [] := by
 have hR := oa F hF
 rw [h] at hR
 obtain ⟨cs, ds, rs⟩ := F
 simp only at *
 refine ah.enter Tryz.func37 rfl (by kernel_rfl) (Nat.le_of_ble_eq_true rfl) ?_; simp only [ai, Nat.reduceAdd]
 repeat' (first
 | refine gCt rfl ?_
 | ((first
 | ((first | refine gR fp37 ?_); intro K hK)
 | refine cAl (hR) rfl rfl rfl ?_
 | (refine ab ?_ ?_ <;> intro hb <;> (try simp only [bls] at hb) <;> (try simp only [hb]))
 | refine gRe [] [.cell 4 73, .tmp 5] rfl rfl ?_) <;> (try simp only [go_sem, simprocAttr]))
 | (refine hK _ _ ?_; clear hK K; simp only [go_sem, simprocAttr])
 | refine gCd ?_ | refine brT ?_ | refine brF ?_
 | (refine brS ?_ ?_ <;> intro hc <;> (try simp only [bls] at hc) <;> (try simp only [hc, bls]))
 | intro _ | refine And.intro ?_ ?_)
 all_goals try exact zsd
theorem yV (F : Fl) (w : ByteArray) (hF : gQ F) (h : bG F = true) (h64 : F.rules.length ≤ 64) :
  ah Tryz.prog 37 [.agg F.cells, .str w] [] fun r s => r = .tup [.agg (mkV F (cN F) w), .bool true] ∧ s = [] := by
 have hR := oa F hF
 rw [h] at hR
 have hT : ∀ i, i < F.rules.length → ah Tryz.prog 32 [.agg F.cells, .int .i64 i] [] fun r s => r = .tup [.sl true false (nodes (bS F i).1), .int .i64 0] ∧ s = [] := fun i hi => by
  have := (DN F i ⟨by show (-9223372036854775808 : Int) ≤ _; omega, by show _ ≤ (9223372036854775807 : Int); omega⟩ hF).flat
  rw [tN h hi] at this; exact this
 have hg := fun i (hi : i < F.rules.length) => jK (F := F) hi
 have hlen := oI F
 generalize cN F = T at *
 obtain ⟨cs, ds, rs⟩ := F
 simp only at *
 clear h
 refine ah.enter Tryz.func37 rfl (by kernel_rfl) (Nat.le_of_ble_eq_true rfl) ?_; simp only [ai, Nat.reduceAdd]
 repeat' (first
 | refine gCt rfl ?_
 | ((first
 | (refine ae.at 4 ?_; (refine ae.n0 6 3 901 1 (by decide) rfl rfl (by decide) ?_; intro g901; simp only [List.set_cons_succ, List.set_cons_zero, go_sem, simprocAttr]); refine gR fp37 ?_; intro K hK)
 | ((first | refine gR fp37 ?_); intro K hK)
 | refine cAl (hR) rfl rfl rfl ?_
 | (refine ab ?_ ?_ <;> intro hb <;> (try simp only [bls] at hb) <;> (try simp only [hb]))
 | refine gRe [] [.cell 4 73, .tmp 5] rfl rfl ?_) <;> (try simp only [go_sem, simprocAttr]))
 | (refine hK _ _ ?_; clear hK K; simp only [go_sem, simprocAttr])
 | refine gCd ?_ | refine brT ?_ | refine brF ?_
 | (refine brS ?_ ?_ <;> intro hc <;> (try simp only [bls] at hc) <;> (try simp only [hc, bls]))
 | intro _ | refine And.intro ?_ ?_)
 all_goals try exact zsd
 rename_i h2 h4 h6
 refine ae.prune [1, 2, 4, 5, 6, 19, 20] ?_; simp only [go_sem, simprocAttr]
 refine ae.al (α := Nat × Nat) (fun i => ([(1, .str w), (2, .bx 2 h2 0), (4, .bx 4 h4 0), (5, .bool false), (6, .bx 6 h6 0), (19, .int .i64 rs.length), (20, .int .i64 i.1)],
  [(2, h2, .box [.sl true false (cz cs), .sl true false (defs ds), .sl true false (bm rs)]), (4, h4, .box [.sl true true [], .sl true true [], .sl true true [], .sl true true [], .str ⟨#[]⟩]), (6, h6, .box [.sl true false (cz cs), .sl true false (defs ds), .sl true false (bm rs), .osl 901 i.2 0 i.1, .str w]), (901, i.2, .row 1 (lB (T.take i.1)))])) (fun i => i.1 ≤ rs.length) (fun i => rs.length - i.1) (0, g901) (Nat.zero_le _) rfl ?_
 rintro ⟨i, g⟩ hi ih
 simp only at hi ih ⊢
 by_cases hle : i < rs.length
 ·have e4 : (i : Int) < rs.length := by omega
  have e5 : (0 : Int) ≤ i := by omega
  have e6 : (i : Int) + 1 = ((i + 1 : Nat) : Int) := by omega
  have hc := hT i hle
  have hx := hg i hle
  have ht := take_one hx
  have hml : (T.take i).length = i := by rw [List.length_take]; omega
  clear hT hg
  generalize (bS ⟨cs, ds, rs⟩ i).1 = X at hc hx ht
  repeat' (first
 | refine gCt rfl ?_
 | ((first
 | ((first | refine gRg [35] fp37 ?_); intro K hK)
 | refine cAl (hc) rfl rfl rfl ?_
 | (refine ab ?_ ?_ <;> intro hb <;> (try simp only [bls] at hb) <;> (try simp only [hb]))
 | refine gRe [] [.cell 4 73, .tmp 5] rfl rfl ?_) <;> (try simp only [go_sem, simprocAttr, e4, e5, e6, hml]))
 | (refine hK _ _ ?_; clear hK K; simp only [go_sem, simprocAttr])
 | refine gCd ?_ | refine brT ?_ | refine brF ?_
 | (refine brS ?_ ?_ <;> intro hc <;> (try simp only [bls] at hc) <;> (try simp only [hc, bls]))
 | intro _ | refine And.intro ?_ ?_)
  all_goals try exact zsd
  rename_i h9
  refine ae.bC [2, 4, 6, 901] ?_
  simp only [aq, ax, go_sem, simprocAttr]
  refine ae.prune [1, 2, 4, 5, 6, 19, 20] ?_; simp only [go_sem, simprocAttr]
  exact ae.cast (ih (i + 1, h9) (by simp only; omega) (by simp only; omega)) (by simp [ht]) (by simp [ht])
 ·have e4 : ¬ (i : Int) < rs.length := by omega
  rw [List.take_of_length_le (by omega)]
  have hi2 : i = T.length := by omega
  subst hi2
  clear ih hT hg
  have e9 : (lB T).take T.length = lB T := List.take_of_length_le (by simp)
  repeat' (first
 | refine gCt rfl ?_
 | ((first
 | (refine ae.at 12 ?_; (refine ae.freeze 901 rfl ?_; simp only [rfT, rfS, rfO, rf, rf1, e9, true_and, go_sem, simprocAttr]); refine gR fp37 ?_; intro K hK)
 | ((first | refine gR fp37 ?_); intro K hK)
 | (refine ab ?_ ?_ <;> intro hb <;> (try simp only [bls] at hb) <;> (try simp only [hb]))
 | refine gRe [] [.cell 4 73, .tmp 5] rfl rfl ?_) <;> (try simp only [go_sem, simprocAttr, e4, e9]))
 | (refine hK _ _ ?_; clear hK K; simp only [go_sem, simprocAttr])
 | refine gCd ?_ | refine brT ?_ | refine brF ?_
 | (refine brS ?_ ?_ <;> intro hc <;> (try simp only [bls] at hc) <;> (try simp only [hc, bls]))
 | intro _ | refine And.intro ?_ ?_)
  all_goals try exact zsd
end Go.Rad
namespace Go.Rad
open Go Go.Proofs
set_option linter.all false
set_option maxRecDepth 20000
set_option maxHeartbeats 4000000
theorem A8 {n : Int} : ∀ {l : List Int} {a : Int}, upI n a l = true → l = [] ∨ (l.length : Int) + a < n
 | [], a, _ => .inl rfl
 | x :: l, a, h => by
  rw [upI] at h
  by_cases h1 : x ≤ a
  ·simp [h1] at h
  ·by_cases h2 : n ≤ x
   ·simp [h1, h2] at h
   ·simp only [h1, h2, decide_false, Bool.false_eq_true, if_false] at h
    rcases A8 h with rfl | h3
    ·refine .inr ?_; simp only [List.length_cons, List.length_nil]; omega
    ·refine .inr ?_; rw [List.length_cons]; omega
theorem iy {F : Fl} (h : bG F = true) : 1 ≤ F.conds.length ∧ F.conds.length ≤ 8 ∧ F.rules.length ≤ 64 ∧ ∀ r ∈ F.rules, r.conds.length ≤ 1000000 ∧ -1 ≤ r.to ∧ r.to < F.conds.length := by
 have hh := h
 simp only [bG, Bool.and_eq_true] at hh
 obtain ⟨h1, _⟩ := hh
 unfold qJ at h1
 cases hc : F.conds with
 | nil => rw [hc] at h1; cases h1
 | cons s cs =>
  rw [hc] at h1
  simp only [Bool.and_eq_true, decide_eq_true_eq] at h1
  refine ⟨by simp, h1.1, h1.2.2.1, fun r hr => ?_⟩
  have h2 := gH h hr
  simp only [jf, Bool.and_eq_true, decide_eq_true_eq] at h2
  rw [hc] at h2
  refine ⟨?_, h2.2.2.2.1, h2.2.2.2.2.1⟩
  rcases A8 h2.1 with h3 | h3
  ·rw [h3]; decide
  ·have := h1.1; omega
structure jR (F : Fl) (w : ByteArray) (g : Nat → List Node → Int × Bool) : Prop where
 len : gQ F
 ok : bG F = true
 wl : w.size ≤ 900000
 far : ∀ n, n < w.size → ∀ x ∈ cN F, (g n x).2 = true → ∃ m : Nat, (g n x).1 = m ∧ n < m ∧ m ≤ w.size
def r8 (P : Program) (f : Nat) (F : Fl) (w : ByteArray) (g : Nat → List Node → Int × Bool) : Prop := ∀ n, n < w.size → ∀ x ∈ cN F, ah P f [.sl true false (nodes x), .str w, .int .i64 n] [] fun r s => r = .tup [.int .i64 (g n x).1, .bool (g n x).2] ∧ s = []
def cL (F : Fl) (w : ByteArray) (g : Nat → List Node → Int × Bool) (n : Nat) (c : Int) : Tk × Int := kg w (g n) (F.rules.zip (cN F)) n c
def lP (rs : List Ru) (t : Tk) : Bool := decide (t.rule = -1) || (match rs[t.rule.toNat]? with | some r => !decide (r.kind = ⟨#[]⟩) | none => false)
inductive mc (F : Fl) (w : ByteArray) (g : Nat → List Node → Int × Bool) : Nat → Int → List Tk → Prop
 | done {n : Nat} {c : Int} : w.size ≤ n → mc F w g n c []
 | step {n m : Nat} {c : Int} {l : List Tk} : n < w.size → (cL F w g n c).1.b = (m : Int) → mc F w g m (cL F w g n c).2 l → mc F w g n c (if lP F.rules (cL F w g n c).1 = true then (cL F w g n c).1 :: l else l)
theorem kh {F : Fl} {w : ByteArray} {g : Nat → List Node → Int × Bool} (h : jR F w g) {n : Nat} (hn : n < w.size) (c : Int) :
  (∃ m : Nat, (cL F w g n c).1.b = m ∧ n < m ∧ m ≤ w.size) ∧ (cL F w g n c).1.a = n ∧ ((cL F w g n c).1.rule = -1 ∨ ∃ m : Nat, (cL F w g n c).1.rule = m ∧ m < F.rules.length) := by
 rcases kR (w := w) (g := g n) (l := F.rules.zip (cN F)) (n := n) (c := c) with hb | ⟨k, x, hx, hb, h2, _⟩
 ·unfold cL kg
  rw [hb]
  exact ⟨⟨n + 1, by simp, by omega, by omega⟩, by simp, .inl (by simp)⟩
 ·obtain ⟨h3, h4⟩ := List.getElem?_zip_eq_some.1 hx
  obtain ⟨m, h5, h6, h7⟩ := h.far n hn x.2 (List.mem_of_getElem? h4) h2
  have e1 : ¬ (k : Int) = -1 := by omega
  unfold cL kg
  rw [hb]
  simp only [e1, decide_false, Bool.false_eq_true, if_false]
  exact ⟨⟨m, h5, h6, h7⟩, by simp, .inr ⟨k, by simp, (List.getElem?_eq_some_iff.1 h3).1⟩⟩
theorem yo {F : Fl} {w : ByteArray} {g : Nat → List Node → Int × Bool} (h : jR F w g) : ∀ (k n : Nat) (c : Int), w.size - n = k → ∃ l, mc F w g n c l := by
 intro k
 induction k using Nat.strongRecOn with
 | _ k ih =>
  intro n c hk
  by_cases hn : n < w.size
  ·obtain ⟨⟨m, h1, h2, h3⟩, _⟩ := kh h hn c
   obtain ⟨l, hl⟩ := ih (w.size - m) (by omega) m (cL F w g n c).2 rfl
   exact ⟨_, .step hn h1 hl⟩
  ·exact ⟨[], .done (by omega)⟩
theorem Db {F : Fl} {w : ByteArray} {g : Nat → List Node → Int × Bool} (h : jR F w g) (hg : r8 Tryz.prog 67 F w g) (n : Nat) (c : Int) (hn : n < w.size) :
  ah Tryz.prog 38 [.agg (mkV F (cN F) w), .int .i64 n, .int .i64 c] [] fun r s => r = .tup [.agg (cL F w g n c).1.cells, .int .i64 (cL F w g n c).2] ∧ s = [] := by
 obtain ⟨_, _, h3, h4⟩ := iy h.ok
 exact I5 F (cN F) w (g n) n c h.wl hn (by omega) (oI F) (fun r hr => (h4 r hr).1) (hg n hn)
theorem tM (F : Fl) (w : ByteArray) (hF : gQ F) (hr : bG F = false) : ah Tryz.prog 17 [.agg F.cells, .str w] [] fun r s => (∃ fl, r = .tup [.sl true fl (fY []), .int .i64 1]) ∧ s = [] := by
 have hB := uj F w hF hr
 obtain ⟨cs, ds, rs⟩ := F
 simp only at *
 refine ah.enter Tryz.func17 rfl (by kernel_rfl) (Nat.le_of_ble_eq_true rfl) ?_; simp only [ai, Nat.reduceAdd]
 repeat' (first
 | refine gCt rfl ?_
 | ((first
 | ((first | refine gR fp17 ?_); intro K hK)
 | refine cAl (hB) rfl rfl rfl ?_
 | (refine ab ?_ ?_ <;> intro hb <;> (try simp only [bls] at hb) <;> (try simp only [hb]))
 | refine gRe [] [.tmp 4, .tmp 5] rfl rfl ?_) <;> (try simp only [go_sem, simprocAttr]))
 | (refine hK _ _ ?_; clear hK K; simp only [go_sem, simprocAttr])
 | refine gCd ?_ | refine brT ?_ | refine brF ?_
 | (refine brS ?_ ?_ <;> intro hc <;> (try simp only [bls] at hc) <;> (try simp only [hc, bls]))
 | intro _ | refine And.intro ?_ ?_)
 all_goals first | exact zsd | exact ⟨_, rfl⟩
theorem qc {F : Fl} {w : ByteArray} {g : Nat → List Node → Int × Bool} (h : jR F w g) (hg : r8 Tryz.prog 67 F w g) (S : List Tk) (hS : mc F w g 0 0 S) :
  ah Tryz.prog 17 [.agg F.cells, .str w] [] fun r s => (∃ fl, r = .tup [.sl true fl (fY S), .int .i64 0]) ∧ s = [] := by
 have hB := yV F w h.len h.ok (iy h.ok).2.2.1
 have hN := Db h hg
 have hfar := fun n (hn : n < w.size) c => kh h hn c
 have hwl := h.wl
 clear hg
 clear h
 obtain ⟨cs, ds, rs⟩ := F
 generalize hT : cN ⟨cs, ds, rs⟩ = T at *
 simp only at *
 refine ah.enter Tryz.func17 rfl (by kernel_rfl) (Nat.le_of_ble_eq_true rfl) ?_; simp only [ai, Nat.reduceAdd]
 repeat' (first
 | refine gCt rfl ?_
 | ((first
 | (refine ae.at 4 ?_; (refine ae.eI 2 2 rfl rfl rfl ?_; simp only [go_sem, simprocAttr]; refine ae.eI 6 6 rfl rfl rfl ?_; simp only [go_sem, simprocAttr]); refine gR fp17 ?_; intro K hK)
 | ((first | refine gR fp17 ?_); intro K hK)
 | refine cAl (hB) rfl rfl rfl ?_
 | (refine ab ?_ ?_ <;> intro hb <;> (try simp only [bls] at hb) <;> (try simp only [hb]))
 | refine gRe [] [.tmp 4, .tmp 5] rfl rfl ?_) <;> (try simp only [go_sem, simprocAttr]))
 | (refine hK _ _ ?_; clear hK K; simp only [go_sem, simprocAttr])
 | refine gCd ?_ | refine brT ?_ | refine brF ?_
 | (refine brS ?_ ?_ <;> intro hc <;> (try simp only [bls] at hc) <;> (try simp only [hc, bls]))
 | intro _ | refine And.intro ?_ ?_)
 all_goals try exact zsd
 refine ae.lQ 8 900 3 (by decide) rfl fun g9 => ?_
 simp only [go_sem, simprocAttr]
 refine ae.prune [1, 2, 4, 5, 6, 8, 9, 10] ?_; simp only [go_sem, simprocAttr]
 refine ae.al (α := Nat × Int × List Tk × Nat) (fun i => ([(1, .str w), (2, .ref true [.sl true false (cz cs), .sl true false (defs ds), .sl true false (bm rs)]), (4, .sl true true []), (5, .int .i64 0), (6, .ref true [.sl true false (cz cs), .sl true false (defs ds), .sl true false (bm rs), .sl true false (lB T), .str w]), (8, .osl 900 i.2.2.2 0 i.2.2.1.length), (9, .int .i64 i.1), (10, .int .i64 i.2.1)],
  [(900, i.2.2.2, .row 3 (fY i.2.2.1))])) (fun i => i.1 ≤ w.size ∧ i.2.2.1.length ≤ i.1 ∧ ∃ l, mc ⟨cs, ds, rs⟩ w g i.1 i.2.1 l ∧ S = i.2.2.1 ++ l) (fun i => w.size - i.1) (0, 0, [], g9) ⟨Nat.zero_le _, Nat.zero_le _, S, hS, rfl⟩ rfl ?_
 rintro ⟨i, c, out, gg⟩ ⟨hi, hol, l, hl, hSl⟩ ih
 simp only at hi hol hl hSl ih ⊢
 by_cases hle : i < w.size
 ·have e4 : (i : Int) < w.size := by omega
  have e5 : (0 : Int) ≤ i := by omega
  have hc := hN i c hle
  obtain ⟨⟨m, hm, hm1, hm2⟩, ha, hru⟩ := hfar i hle c
  cases hl with
  | done h1 => omega
  | @step _ m' _ l' h1 h2 h3 =>
   have hmm : m' = m := by omega
   subst hmm
   clear hN hfar hB hS h2
   generalize cL ⟨cs, ds, rs⟩ w g i c = r at *
   obtain ⟨⟨rr, ra, rb⟩, c2⟩ := r
   simp only at *
   subst hm ha
   have hup : (out ++ [(⟨rr, (i : Int), (m' : Int)⟩ : Tk)]).length ≤ m' := by rw [List.length_append, List.length_singleton]; omega
   rcases hru with rfl | ⟨k, rfl, hk⟩
   ·have hkp : lP rs ⟨-1, i, m'⟩ = true := by simp [lP]
    rw [hkp] at hSl
    simp only [if_true] at hSl
    repeat' (first
 | refine gCt rfl ?_
 | ((first
 | ((first | refine gRg [46] fp17 ?_); intro K hK)
 | refine cAl (hc) rfl rfl rfl ?_
 | (refine ab ?_ ?_ <;> intro hb <;> (try simp only [bls] at hb) <;> (try simp only [hb]))
 | refine gRe [] [.tmp 4, .tmp 5] rfl rfl ?_) <;> (try simp only [go_sem, simprocAttr, e4, e5]))
 | (refine hK _ _ ?_; clear hK K; simp only [go_sem, simprocAttr])
 | refine gCd ?_ | refine brT ?_ | refine brF ?_
 | (refine brS ?_ ?_ <;> intro hc <;> (try simp only [bls] at hc) <;> (try simp only [hc, bls]))
 | intro _ | refine And.intro ?_ ?_)
    all_goals try exact zsd
    all_goals (rename_i h9; refine ae.bC [900] ?_; simp only [aq, ax, go_sem, simprocAttr]; refine ae.prune [1, 2, 4, 5, 6, 8, 9, 10] ?_; simp only [go_sem, simprocAttr]; exact ae.cast (ih (m', c2, out ++ [⟨-1, i, m'⟩], h9) ⟨hm2, hup, l', h3, by rw [hSl]; simp⟩ (by simp only; omega)) (by simp) (by simp))
   ·have hx : rs[k]? = some rs[k] := List.getElem?_eq_getElem hk
    have e1 : ¬ (k : Int) = -1 := by omega
    have e2 : (k : Int) < rs.length := by omega
    have e3 : (0 : Int) ≤ k := by omega
    have hkp : lP rs ⟨k, i, m'⟩ = !decide (rs[k].kind = ⟨#[]⟩) := by simp [lP, e1, hk]
    rw [hkp] at hSl
    generalize rs[k] = r at hx hSl hkp
    obtain ⟨rc, rf, rl, rk, rt, rp, rn⟩ := r
    simp only at hx hSl hkp
    by_cases hke : rk = ⟨#[]⟩
    ·subst hke
     simp only [decide_true, Bool.not_true, Bool.false_eq_true, if_false] at hSl
     repeat' (first
 | refine gCt rfl ?_
 | ((first
 | ((first | refine gRg [46] fp17 ?_); intro K hK)
 | refine cAl (hc) rfl rfl rfl ?_
 | (refine ab ?_ ?_ <;> intro hb <;> (try simp only [bls] at hb) <;> (try simp only [hb]))
 | refine gRe [] [.tmp 4, .tmp 5] rfl rfl ?_) <;> (try simp only [go_sem, simprocAttr, e4, e5, e1, e2, e3, hx, Option.some.injEq, forall_eq']))
 | (refine hK _ _ ?_; clear hK K; simp only [go_sem, simprocAttr])
 | refine gCd ?_ | refine brT ?_ | refine brF ?_
 | (refine brS ?_ ?_ <;> intro hc <;> (try simp only [bls] at hc) <;> (try simp only [hc, bls]))
 | intro _ | refine And.intro ?_ ?_)
     all_goals try exact zsd
     refine ae.bC [900] ?_
     simp only [aq, ax, go_sem, simprocAttr]
     refine ae.prune [1, 2, 4, 5, 6, 8, 9, 10] ?_; simp only [go_sem, simprocAttr]
     exact (ih (m', c2, out, gg) ⟨hm2, by simp only; omega, l', h3, hSl⟩ (by simp only; omega)).cast rfl rfl
    ·simp only [hke, decide_false, Bool.not_false, if_true] at hSl hkp
     repeat' (first
 | refine gCt rfl ?_
 | ((first
 | ((first | refine gRg [46] fp17 ?_); intro K hK)
 | refine cAl (hc) rfl rfl rfl ?_
 | (refine ab ?_ ?_ <;> intro hb <;> (try simp only [bls] at hb) <;> (try simp only [hb]))
 | refine gRe [] [.tmp 4, .tmp 5] rfl rfl ?_) <;> (try simp only [go_sem, simprocAttr, e4, e5, e1, e2, e3, hx, hke, Option.some.injEq, forall_eq']))
 | (refine hK _ _ ?_; clear hK K; simp only [go_sem, simprocAttr])
 | refine gCd ?_ | refine brT ?_ | refine brF ?_
 | (refine brS ?_ ?_ <;> intro hc <;> (try simp only [bls] at hc) <;> (try simp only [hc, bls]))
 | intro _ | refine And.intro ?_ ?_)
     all_goals try exact zsd
     all_goals (rename_i h9; refine ae.bC [900] ?_; simp only [aq, ax, go_sem, simprocAttr]; refine ae.prune [1, 2, 4, 5, 6, 8, 9, 10] ?_; simp only [go_sem, simprocAttr]; exact ae.cast (ih (m', c2, out ++ [⟨k, i, m'⟩], h9) ⟨hm2, hup, l', h3, by rw [hSl]; simp⟩ (by simp only; omega)) (by simp) (by simp))
 ·have e4 : ¬ (i : Int) < w.size := by omega
  cases hl with
  | step h1 => omega
  | done h1 =>
   rw [List.append_nil] at hSl
   subst hSl
   clear ih hN hfar hB hS
   have e9 : (fY S).take S.length = fY S := List.take_of_length_le (by simp)
   repeat' (first
 | refine gCt rfl ?_
 | ((first
 | (refine ae.at 12 ?_; (refine ae.freeze 900 rfl ?_; simp only [rfT, rfS, rfO, rf, rf1, e9, true_and, go_sem, simprocAttr]); refine gR fp17 ?_; intro K hK)
 | ((first | refine gR fp17 ?_); intro K hK)
 | (refine ab ?_ ?_ <;> intro hb <;> (try simp only [bls] at hb) <;> (try simp only [hb]))
 | refine gRe [] [.tmp 4, .tmp 5] rfl rfl ?_) <;> (try simp only [go_sem, simprocAttr, e4, e9]))
 | (refine hK _ _ ?_; clear hK K; simp only [go_sem, simprocAttr])
 | refine gCd ?_ | refine brT ?_ | refine brF ?_
 | (refine brS ?_ ?_ <;> intro hc <;> (try simp only [bls] at hc) <;> (try simp only [hc, bls]))
 | intro _ | refine And.intro ?_ ?_)
   all_goals first | exact zsd | exact ⟨_, rfl⟩
end Go.Rad
namespace Go.Rad
open Go
abbrev distinct (ds : List Df) : Prop := ds.Pairwise fun a b => a.name ≠ b.name
theorem jF : ∀ (ds : List Df) (seen : List ByteArray), bz seen ds = true ↔ (∀ d ∈ ds, hasB seen d.name = false ∧ bl d.name = true ∧ az d.l = true) ∧ distinct ds
 | [], seen => by simp [bz, distinct]
 | d :: ds, seen => by
  rw [bz]
  have ih := jF ds (seen ++ [d.name])
  have hb : ∀ x : ByteArray, hasB (seen ++ [d.name]) x = false ↔ hasB seen x = false ∧ d.name ≠ x := by
   intro x; simp [hasB, List.any_append]
  split
  ·rename_i h
   constructor
   ·intro h; cases h
   ·rintro ⟨h1, _⟩
    obtain ⟨a, b, c⟩ := h1 d (by simp)
    rcases h with h | h | h
    ·rw [a] at h; cases h
    ·rw [b] at h; cases h
    ·rw [c] at h; cases h
  ·rename_i h
   simp only [not_or, Bool.not_eq_true, Bool.not_eq_false] at h
   rw [ih]
   simp only [hb]
   constructor
   ·rintro ⟨h1, h2⟩
    refine ⟨fun e he => ?_, ?_⟩
    ·rcases List.mem_cons.1 he with rfl | he
     ·exact h
     ·obtain ⟨a, b, c⟩ := h1 e he; exact ⟨a.1, b, c⟩
    ·exact List.Pairwise.cons (fun e he => (h1 e he).1.2) h2
   ·rintro ⟨h1, h2⟩
    cases h2 with
    | cons h3 h4 =>
     refine ⟨fun e he => ?_, h4⟩
     obtain ⟨a, b, c⟩ := h1 e (by simp [he])
     exact ⟨⟨a, h3 e he⟩, b, c⟩
theorem gk (d : Df) (ds : List Df) (s : ByteArray) : dJ (d :: ds) s = if d.name = s then some d else dJ ds s := by
 unfold dJ
 rw [List.find?_cons]
 by_cases h : d.name = s <;> simp [h]
abbrev eP (φ : av → av) (n : Node) : Node := { n with s := φ n.s }
section
variable {φ : av → av}
def mP (φ : av → av) (l : List Node) : Prop := ∀ n ∈ l, (φ n.s = av.none ↔ n.s = av.none)
theorem ow {n : Node} (h : φ n.s = av.none ↔ n.s = av.none) : aD (eP φ n) = aD n := by
 have e : decide (φ n.s ≠ av.none) = decide (n.s ≠ av.none) := by
  simp only [ne_eq, h]
 simp only [aD, eP, e]
theorem tF : ∀ {l : List Node} (_ : mP φ l) (i : Nat) (st : List Int), ed (l.map (eP φ)) i st = ed l i st
 | [], _, _, _ => rfl
 | n :: l, h, i, st => by
  simp only [List.map_cons, ed]
  rw [ow (h n (by simp)), tF (fun m hm => h m (by simp [hm]))]
theorem ix {l : List Node} (h : mP φ l) : az (l.map (eP φ)) = az l := by
 unfold az
 rw [tF h, List.length_map]
def sV (φ : av → av) (o : Out) : Out := (o.1.map (eP φ), o.2)
theorem zV (o : Out) : (sV φ o).1 = o.1.map (eP φ) := Eq.trans rfl rfl
theorem zW (o : Out) : (sV φ o).2 = o.2 := Eq.trans rfl rfl
theorem xV (n : Node) (A : List Int) (out : List Node) : ek (eP φ n) A (out.map (eP φ)) = sV φ (ek n A out) := by
 unfold ek sV
 rw [List.length_map]
 by_cases h : 1024 ≤ out.length
 ·simp only [if_pos h]
 ·simp only [if_neg h, List.map_append, List.map_cons, List.map_nil]
theorem nJ {nm nm' : ByteArray → List Node → Out} (hn : ∀ s out, nm' s (out.map (eP φ)) = sV φ (nm s out)) : ∀ (l : List Node) (A : List Int) (out : List Node), goT nm' (l.map (eP φ)) A (out.map (eP φ)) = sV φ (goT nm l A out)
 | [], A, out => rfl
 | n :: l, A, out => by
  have hs : stepT nm' (eP φ n) A (out.map (eP φ)) = sV φ (stepT nm n A out) := by
   unfold stepT
   by_cases h : n.op = 6
   ·have h' : (eP φ n).op = 6 := h
    rw [if_pos h, if_pos h']; exact hn _ _
   ·have h' : ¬ (eP φ n).op = 6 := h
    rw [if_neg h, if_neg h']; exact xV _ _ _
  rw [List.map_cons, goT, goT, hs]
  have ih := nJ hn l
  generalize stepT nm n A out = r
  simp only [zV, zW]
  by_cases h : r.2.2 = 0
  ·simp only [h, if_true]; exact ih _ _
  ·simp only [h, if_false]; rfl
theorem nT {ds ds' : List Df} (hf : ∀ s, dJ ds' s = (dJ ds s).map fun d => ⟨d.name, d.l.map (eP φ)⟩) : ∀ (f : Nat) (op : List ByteArray) (s : ByteArray) (out : List Node), aP ds' f op s (out.map (eP φ)) = sV φ (aP ds f op s out)
 | 0, _, _, _ => rfl
 | f + 1, op, s, out => by
  rw [aP, aP, hf]
  cases dJ ds s with
  | none => rfl
  | some d =>
   simp only [Option.map_some]
   by_cases h : hasB op s = true
   ·simp only [if_pos h]; rfl
   ·simp only [if_neg h]
    exact nJ (nT hf f _) _ _ _
abbrev zU (φ : av → av) (d : Df) : Df := ⟨d.name, d.l.map (eP φ)⟩
theorem px (φ : av → av) (s : ByteArray) : ∀ ds : List Df, dJ (ds.map (zU φ)) s = (dJ ds s).map (zU φ)
 | [] => rfl
 | d :: ds => by
  rw [List.map_cons, gk, gk, px φ s ds]
  by_cases h : d.name = s <;> simp [h]
theorem lR : ∀ {ds : List Df} (_ : ∀ d ∈ ds, mP φ d.l) (seen : List ByteArray), bz seen (ds.map (zU φ)) = bz seen ds
 | [], _, _ => rfl
 | d :: ds, h, seen => by
  rw [List.map_cons, bz, bz, ix (h d (by simp)), lR fun e he => h e (by simp [he])]
theorem sr {l : List Node} {ds : List Df} (hl : mP φ l) (hd : ∀ d ∈ ds, mP φ d.l) : ay (l.map (eP φ)) (ds.map (zU φ)) = ((ay l ds).1.map (eP φ), (ay l ds).2) := by
 unfold ay
 rw [ix hl, lR hd, List.length_map]
 have h2 := nJ (φ := φ) (nT (φ := φ) (fun s => px φ s ds) (ds.length + 1) []) l [] []
 rw [List.map_nil] at h2
 rw [h2]
 by_cases h : az l = true ∧ bz [] ds = true
 ·rw [if_pos h, if_pos h]
  simp only [zV, zW]
  generalize goT (aP ds (ds.length + 1) []) l [] [] = r
  by_cases he : r.2.2 = 0
  ·simp only [he, if_true]
  ·simp only [he, if_false]; rfl
 ·rw [if_neg h, if_neg h]; rfl
end
end Go.Rad
namespace Go.Rad
open Go Go.Proofs
theorem or_zero {a b : aw} (h : a.or b = aQ) : a = aQ ∧ b = aQ := by
 obtain ⟨a0, a1, a2, a3⟩ := a
 obtain ⟨b0, b1, b2, b3⟩ := b
 simp only [aw.or, aQ, aw.mk.injEq, Nat.or_eq_zero_iff] at h ⊢
 omega
theorem lN : ∀ (l : List Nat) (s : aw), l.foldl dg s = aQ → s = aQ
 | [], _, h => h
 | _ :: l, _, h => (or_zero (or_zero (lN l _ h)).1).2
theorem lM : ∀ (l : List Nat) (s : aw), l.foldl dy s = aQ → s = aQ
 | [], _, h => h
 | _ :: l, _, h => (or_zero (or_zero (lM l _ h)).1).2
theorem uA : jj aQ = [] := by decide +kernel
theorem and_zero (r : aw) : (b9.and aQ).and r = aQ := by
 obtain ⟨a, b, c, d⟩ := r
 simp [aw.and, b9, aQ]
theorem uy (s : aw) : fk s = aQ ↔ s = aQ := by
 constructor
 ·intro h; exact lN _ _ (lM _ _ h)
 ·rintro rfl
  unfold fk
  rw [and_zero, and_zero, uA]; rfl
abbrev phi (s : av) : av := (fk s.N).I
theorem yP (s : aw) : s.I = av.none ↔ s = aQ := by
 obtain ⟨a, b, c, d⟩ := s
 simp only [aw.I, av.none, aQ, av.mk.injEq, aw.mk.injEq]
 omega
theorem pV {l : List Node} (h : ∀ n ∈ l, n.s.okI) : mP phi l := by
 intro n hn
 have h1 := (Ak (h n hn)).2
 rw [show phi n.s = (fk n.s.N).I from rfl, yP, uy, ← yP, ← h1]
theorem xj {l : List Node} (h : az l = true) : dZ l = l.map (eP phi) := by
 unfold dZ; rw [if_pos h]; rfl
end Go.Rad
namespace Go.Rad
open Go Go.Proofs
theorem xL {n : Nat} (h0 : n ≠ 0) : ∃ k q, n = 2 ^ k * q ∧ q % 2 = 1 := by
 induction n using Nat.strongRecOn with
 | ind n ih =>
  by_cases h : n % 2 = 1
  ·exact ⟨0, n, by simp, h⟩
  ·obtain ⟨k, q, h1, h2⟩ := ih (n / 2) (by omega) (by omega)
   refine ⟨k + 1, q, ?_, h2⟩
   have : n = 2 * (n / 2) := by omega
   rw [this, h1, Nat.pow_succ, Nat.mul_comm (2 ^ k) 2, Nat.mul_assoc]
theorem sg {q i : Nat} (h : q % 2 = 1) : (q - 1).testBit i = (q.testBit i && decide (i ≠ 0)) := by
 cases i with
 | zero => simp [Nat.testBit_zero]; omega
 | succ i =>
  rw [Nat.testBit_succ, Nat.testBit_succ]
  have : (q - 1) / 2 = q / 2 := by omega
  rw [this]; simp
theorem xE {k q j : Nat} (h : q % 2 = 1) : (2 ^ k * q &&& (2 ^ k * q - 1)).testBit j = ((2 ^ k * q).testBit j && decide (j ≠ k)) := by
 have hp : 0 < 2 ^ k := Nat.pow_pos (by decide)
 have e : 2 ^ k * q - 1 = 2 ^ k * (q - 1) + (2 ^ k - 1) := by
  have : 2 ^ k * q = 2 ^ k * (q - 1) + 2 ^ k := by rw [← Nat.mul_succ]; congr 1; omega
  omega
 rw [Nat.testBit_and, e, Nat.testBit_two_pow_mul_add _ (by omega), Nat.testBit_two_pow_mul]
 by_cases hj : j < k
 ·have : ¬ k ≤ j := by omega
  simp [this]
 ·have hk : k ≤ j := by omega
  rw [if_neg hj, sg h]
  by_cases e2 : j = k
  ·subst e2; simp
  ·have : j - k ≠ 0 := by omega
   simp [hk, e2, this]
theorem sU {k q : Nat} (h : q % 2 = 1) (hn : 2 ^ k * q < 18446744073709551616) : 2 ^ k * q &&& (18446744073709551616 - 2 ^ k * q) = 2 ^ k ∧ k < 64 := by
 have hk : k < 64 := by
  rcases Nat.lt_or_ge k 64 with h1 | h1
  ·exact h1
  ·have h2 : 2 ^ 64 ≤ 2 ^ k := Nat.pow_le_pow_right (by decide) h1
   have h3 : 2 ^ k * 1 ≤ 2 ^ k * q := Nat.mul_le_mul_left _ (by omega)
   have h64 : (2 : Nat) ^ 64 = 18446744073709551616 := by decide
   omega
 refine ⟨?_, hk⟩
 obtain ⟨m, hm⟩ : ∃ m, 64 = k + m := ⟨64 - k, by omega⟩
 have hp : 0 < 2 ^ k := Nat.pow_pos (by decide)
 have h64 : (18446744073709551616 : Nat) = 2 ^ k * 2 ^ m := by rw [← Nat.pow_add, ← hm]
 have hq : q < 2 ^ m := by
  rw [h64] at hn
  exact Nat.lt_of_mul_lt_mul_left hn
 have e1 : 18446744073709551616 - 2 ^ k * q = 2 ^ k * (2 ^ m - q) := by rw [h64, Nat.mul_sub]
 rw [e1]
 refine Nat.eq_of_testBit_eq fun j => ?_
 rw [Nat.testBit_and, Nat.testBit_two_pow_mul, Nat.testBit_two_pow_mul, Nat.testBit_two_pow]
 by_cases hj : j < k
 ·have h1 : ¬ k ≤ j := by omega
  have h2 : ¬ k = j := by omega
  simp [h1, h2]
 ·have hkj : k ≤ j := by omega
  have e2 : 2 ^ m - q = 2 ^ m - ((q - 1) + 1) := by congr 1; omega
  rw [e2, Nat.testBit_two_pow_sub_succ (by omega), sg h]
  by_cases e3 : j = k
  ·subst e3
   have : 0 < m := by omega
   simp [this, h]
  ·have h1 : j - k ≠ 0 := by omega
   have h2 : ¬ k = j := by omega
   simp [hkj, h1, h2]
   intro h3 _
   simp [h3]
theorem JP : ∀ k : Nat, k < 64 → bI.getD (2 ^ k * 285870213051353865 % 18446744073709551616 / 288230376151711744) 0 = (k : Int) := by decide +kernel
theorem JQ {k q : Nat} (h : q % 2 = 1) (hn : 2 ^ k * q < 18446744073709551616) : tzN (2 ^ k * q) = k := by
 obtain ⟨h1, h2⟩ := sU h hn
 have h0 : ¬ 2 ^ k * q = 0 := by
  have : 0 < 2 ^ k := Nat.pow_pos (by decide)
  intro h0
  rcases Nat.mul_eq_zero.1 h0 with h3 | h3
  ·omega
  ·omega
 unfold tzN tzS
 rw [if_neg h0]
 unfold tzI
 rw [h1, JP k h2]
 rfl
theorem xD : ∀ (f k i n : Nat) (acc : List Nat), 2 ^ k ∣ n → n < 18446744073709551616 → 65 ≤ f + k → i < 4 → ∀ x, x ∈ cY f i n acc ↔ x ∈ acc ∨ ∃ j, n.testBit j = true ∧ x = 64 * i + j := by
 intro f
 induction f with
 | zero =>
  intro k i n acc hd hn hf hi x
  have h0 : n = 0 := by
   rcases Nat.eq_zero_or_pos n with h | h
   ·exact h
   ·have := nv hd (by omega) hn; omega
  subst h0
  simp [cY]
 | succ f ih =>
  intro k i n acc hd hn hf hi x
  rw [cY]
  by_cases h0 : n = 0
  ·subst h0; simp
  ·rw [if_neg h0, ih (k + 1) i _ _ (fN hd h0) (Nat.lt_trans (dw h0) hn) (by omega) hi x]
   obtain ⟨k', q, rfl, hq⟩ := xL h0
   have hk' := (sU hq hn).2
   rw [JQ hq hn, List.mem_append, List.mem_singleton]
   have e : (64 * i + k') % 256 = 64 * i + k' := by omega
   rw [e]
   have hb : (2 ^ k' * q).testBit k' = true := by
    rw [Nat.testBit_two_pow_mul]; simp [hq]
   simp only [xE hq]
   constructor
   ·rintro ((h | h) | ⟨j, h1, h2⟩)
    ·exact .inl h
    ·exact .inr ⟨k', hb, h⟩
    ·simp only [Bool.and_eq_true] at h1
     exact .inr ⟨j, h1.1, h2⟩
   ·rintro (h | ⟨j, h1, h2⟩)
    ·exact .inl (.inl h)
    ·by_cases hj : j = k'
     ·subst hj; exact .inl (.inr h2)
     ·exact .inr ⟨j, by simp [h1, hj], h2⟩
def aw.has (s : aw) (b : Nat) : Bool := (s.word (b / 64)).testBit (b % 64)
theorem uI {n j : Nat} (h : n < 18446744073709551616) (hj : n.testBit j = true) : j < 64 := by
 rcases Nat.lt_or_ge j 64 with h1 | h1
 ·exact h1
 ·have h64 : (18446744073709551616 : Nat) = 2 ^ 64 := by decide
  rw [Nat.testBit_lt_two_pow (Nat.lt_of_lt_of_le (h64 ▸ h) (Nat.pow_le_pow_right (by decide) h1))] at hj
  cases hj
theorem qP {s : aw} (hs : s.ok) : ∀ m ≤ 4, ∀ x, x ∈ bQ s m ↔ x < 64 * m ∧ s.has x = true := by
 intro m
 induction m with
 | zero => intro _ x; simp [bQ]
 | succ m ih =>
  intro hm x
  rw [b6, xD 65 0 m _ _ (Nat.one_dvd _) (kK hs m) (by omega) (by omega), ih (by omega) x]
  constructor
  ·rintro (⟨h1, h2⟩ | ⟨j, h1, h2⟩)
   ·exact ⟨by omega, h2⟩
   ·have := uI (kK hs m) h1
    refine ⟨by omega, ?_⟩
    have e1 : x / 64 = m := by omega
    have e2 : x % 64 = j := by omega
    unfold aw.has; rw [e1, e2]; exact h1
  ·rintro ⟨h1, h2⟩
   by_cases hx : x < 64 * m
   ·exact .inl ⟨hx, h2⟩
   ·refine .inr ⟨x % 64, ?_, by omega⟩
    have e1 : x / 64 = m := by omega
    unfold aw.has at h2; rw [e1] at h2; exact h2
theorem pJ {s : aw} (hs : s.ok) (x : Nat) : x ∈ jj s ↔ x < 256 ∧ s.has x = true := qP hs 4 (by decide) x
theorem D0 (s t : aw) (i : Nat) : (s.or t).word i = s.word i ||| t.word i := by
 unfold aw.word aw.or; split <;> rfl
theorem Bl (s t : aw) (i : Nat) : (s.and t).word i = s.word i &&& t.word i := by
 unfold aw.word aw.and; split <;> rfl
theorem zB (s t : aw) (b : Nat) : (s.or t).has b = (s.has b || t.has b) := by
 unfold aw.has; rw [D0, Nat.testBit_or]
theorem Cu (s t : aw) (b : Nat) : (s.and t).has b = (s.has b && t.has b) := by
 unfold aw.has; rw [Bl, Nat.testBit_and]
theorem sF (b : Nat) : aQ.has b = false := by
 unfold aw.has aw.word aQ; split <;> simp
theorem zA (b : Nat) : b9.has b = true := by
 have h : (18446744073709551615 : Nat) = 2 ^ 64 - 1 := by decide
 have h2 : b % 64 < 64 := Nat.mod_lt _ (by decide)
 unfold aw.has aw.word b9
 split <;> simp only [h, Nat.testBit_two_pow_sub_one, h2, decide_true]
theorem Bk (s : aw) {n i : Nat} (hn : n < 256) (hi : i < 4) : (s.add n).word i = if i = n / 64 then s.word i ||| 2 ^ (n % 64) else s.word i := by
 have h4 : n / 64 = 0 ∨ n / 64 = 1 ∨ n / 64 = 2 ∨ n / 64 = 3 := by omega
 have i4 : i = 0 ∨ i = 1 ∨ i = 2 ∨ i = 3 := by omega
 unfold aw.add
 rcases h4 with h | h | h | h <;> rcases i4 with rfl | rfl | rfl | rfl <;> simp [h, aw.word]
theorem has_add (s : aw) {n b : Nat} (hn : n < 256) (hb : b < 256) : (s.add n).has b = (s.has b || decide (n = b)) := by
 unfold aw.has
 rw [Bk s hn (by omega)]
 by_cases h : b / 64 = n / 64
 ·rw [if_pos h, Nat.testBit_or, Nat.testBit_two_pow]
  congr 1
  have : n % 64 = b % 64 ↔ n = b := by omega
  simp [this]
 ·rw [if_neg h]
  have : ¬ n = b := by rintro rfl; exact h rfl
  simp [this]
theorem Cw {n b : Nat} (hn : n < 256) (hb : b < 256) : (ofS [n]).has b = decide (n = b) := by
 rw [show ofS [n] = aQ.add n from rfl, has_add _ hn hb, sF, Bool.false_or]
theorem Cv {s t : aw} (hs : s.ok) (ht : t.ok) (h : ∀ b < 256, s.has b = t.has b) : s = t := by
 have hw : ∀ i < 4, s.word i = t.word i := by
  intro i hi
  refine Nat.eq_of_testBit_eq fun j => ?_
  by_cases hj : j < 64
  ·have := h (64 * i + j) (by omega)
   unfold aw.has at this
   have e1 : (64 * i + j) / 64 = i := by omega
   have e2 : (64 * i + j) % 64 = j := by omega
   rwa [e1, e2] at this
  ·cases h1 : (s.word i).testBit j with
   | true => exact absurd (uI (kK hs i) h1) hj
   | false =>
    cases h2 : (t.word i).testBit j with
    | true => exact absurd (uI (kK ht i) h2) hj
    | false => rfl
 obtain ⟨s0, s1, s2, s3⟩ := s
 obtain ⟨t0, t1, t2, t3⟩ := t
 have h0 := hw 0 (by decide)
 have h1 := hw 1 (by decide)
 have h2 := hw 2 (by decide)
 have h3 := hw 3 (by decide)
 simp only [aw.word] at h0 h1 h2 h3
 rw [h0, h1, h2, h3]
theorem pE : ∀ b < 256, (dN 97 122).has b = decide (97 ≤ b ∧ b ≤ 122) := by decide +kernel
theorem pF : ∀ b < 256, (dN 65 90).has b = decide (65 ≤ b ∧ b ≤ 90) := by decide +kernel
theorem nM {f : Nat → Nat} (hf : ∀ x, f x < 256) {b : Nat} (hb : b < 256) : ∀ (l : List Nat) (s : aw), ((l.foldl (fun o x => (aQ.or o).or (ofS [f x])) s).has b = true ↔ s.has b = true ∨ ∃ x ∈ l, f x = b)
 | [], s => by simp
 | x :: l, s => by
  rw [List.foldl_cons, nM hf hb l, zB, zB, sF, Cw (hf x) hb]
  simp only [Bool.false_or, Bool.or_eq_true, decide_eq_true_eq, List.mem_cons, exists_eq_or_imp]
  rw [or_assoc]
theorem xi {s : aw} (hs : s.ok) {b : Nat} (hb : b < 256) : (fk s).has b = true ↔ s.has b = true ∨ (65 ≤ b ∧ b ≤ 90 ∧ s.has (b + 32) = true) ∨ (97 ≤ b ∧ b ≤ 122 ∧ s.has (b - 32) = true) := by
 have k1 : ((b9.and s).and (dN 65 90)).ok := gf (gf ki)
 have k2 : ((b9.and s).and (dN 97 122)).ok := gf (gf ki)
 unfold fk
 rw [show dy = fun o x => (aQ.or o).or (ofS [(x + 32) % 256]) from rfl, nM (fun x => Nat.mod_lt _ (by decide)) hb]
 rw [show dg = fun o x => (aQ.or o).or (ofS [(x + 224) % 256]) from rfl, nM (fun x => Nat.mod_lt _ (by decide)) hb]
 simp only [pJ k1, pJ k2, Cu, zA, Bool.true_and, Bool.and_eq_true]
 constructor
 ·rintro ((h | ⟨x, ⟨h1, h2, h3⟩, h4⟩) | ⟨x, ⟨h1, h2, h3⟩, h4⟩)
  ·exact .inl h
  ·rw [pE x h1] at h3
   simp only [decide_eq_true_eq] at h3
   refine .inr (.inl ⟨by omega, by omega, ?_⟩)
   have : b + 32 = x := by omega
   rw [this]; exact h2
  ·rw [pF x h1] at h3
   simp only [decide_eq_true_eq] at h3
   refine .inr (.inr ⟨by omega, by omega, ?_⟩)
   have : b - 32 = x := by omega
   rw [this]; exact h2
 ·rintro (h | ⟨h1, h2, h3⟩ | ⟨h1, h2, h3⟩)
  ·exact .inl (.inl h)
  ·refine .inl (.inr ⟨b + 32, ⟨by omega, h3, ?_⟩, by omega⟩)
   rw [pE _ (by omega)]; simp only [decide_eq_true_eq]; omega
  ·refine .inr ⟨b - 32, ⟨by omega, h3, ?_⟩, by omega⟩
   rw [pF _ (by omega)]; simp only [decide_eq_true_eq]; omega
end Go.Rad
namespace Go.Rad
open Go Go.Proofs
set_option linter.all false
set_option maxRecDepth 20000
set_option maxHeartbeats 4000000
theorem yT : (ByteArray.mk #[]) = ByteArray.empty := Eq.trans rfl rfl
theorem AO (fl : Bool) (n : Node) (hn : n.name.size ≤ maxLen) : ah Tryz.prog 86 [.agg (n.eJ fl)] [] fun r s' => r = .bool (aD n) ∧ s' = [] := by
 obtain ⟨no, ⟨na, nb, nc, nd⟩, nl, nlo, nhi, nn⟩ := n
 simp only [Node.eJ]
 refine ah.enter Tryz.func86 rfl (by kernel_rfl) (Nat.le_of_ble_eq_true rfl) ?_; simp only [ai, Nat.reduceAdd]
 repeat' (first
 | refine gCt rfl ?_
 | ((first
 | ((first | refine gR fp86 ?_); intro K hK)
 | refine cAl (j8 _ hn) rfl rfl rfl ?_
 | (refine ab ?_ ?_ <;> intro hb <;> (try simp only [bls] at hb) <;> (try simp only [hb]))
 | refine gRe [] [.tmp 2] rfl rfl ?_) <;> (try simp only [go_sem, simprocAttr, yT]))
 | (refine hK _ _ ?_; clear hK K; simp only [go_sem, simprocAttr])
 | refine gCd ?_ | refine brT ?_ | refine brF ?_
 | (refine brS ?_ ?_ <;> intro hc <;> (try simp only [bls] at hc) <;> (try simp only [hc, bls]))
 | intro _ | refine And.intro ?_ ?_)
 all_goals (refine congrArg aa.bool ?_; simp_all [aD, av.none] <;> omega)
end Go.Rad
namespace Go.Rad
open Go Go.Proofs
set_option linter.all false
set_option maxRecDepth 20000
set_option maxHeartbeats 4000000
theorem DZ (q f : Bool) (ns : List Node) (hns : ns.length ≤ 1000000) (hl : ∀ n ∈ ns, n.l.length ≤ maxLen) : ∀ (fuel at_ : Nat) (seen : List Int) (g : Nat), at_ < fuel → at_ < ns.length → seen.length ≤ 4000000 →
  ah Tryz.prog 87 [.sl q f (nodes ns), .int .i64 at_, .osl 1000 g 0 seen.length] [(1000, (g, .row 1 (ints seen)))] fun r s => (aN ns fuel at_ seen).1.length ≤ max seen.length (ns.length + at_ + 1) ∧ ∃ h, r = .tup [.osl 1000 h 0 (aN ns fuel at_ seen).1.length, .bool (aN ns fuel at_ seen).2] ∧ s = [(1000, (h, .row 1 (ints (aN ns fuel at_ seen).1)))] := by
 unfold maxLen at hl
 intro fuel
 induction fuel with
 | zero => intro at_ seen g h; omega
 | succ fuel ih =>
  intro at_ seen g h1 h2 h3
  refine ah.enter Tryz.func87 rfl (by kernel_rfl) (Nat.le_of_ble_eq_true rfl) ?_; simp only [ai, Nat.reduceAdd]
  repeat' (first
 | refine gCt rfl ?_
 | ((first
 | ((first | refine gR fp87 ?_); intro K hK)
 | (refine ab ?_ ?_ <;> intro hb <;> (try simp only [bls] at hb) <;> (try simp only [hb]))
 | refine gRe [1000] [.tmp 6, .tmp 7] rfl rfl ?_) <;> (try simp only [go_sem, simprocAttr]))
 | (refine hK _ _ ?_; clear hK K; simp only [go_sem, simprocAttr])
 | refine gCd ?_ | refine brT ?_ | refine brF ?_
 | (refine brS ?_ ?_ <;> intro hc <;> (try simp only [bls] at hc) <;> (try simp only [hc, bls]))
 | intro _ | refine And.intro ?_ ?_)
  ·rw [aN, if_pos (by omega)]; exact Nat.le_max_left _ _
  ·rw [aN, if_pos (by omega)]; exact ⟨g, rfl, rfl⟩
  have hx : ns[at_]? = some ns[at_] := List.getElem?_eq_getElem h2
  have hm := hl ns[at_] (List.getElem_mem h2)
  have hgd : ns.getD (at_ : Int).toNat default = ns[at_] := by simp [List.getD, hx]
  have hw : aN ns (fuel + 1) at_ seen = if (ns[at_].l.foldl (aJ (aN ns fuel) at_) (seen, true)).2 then ((ns[at_].l.foldl (aJ (aN ns fuel) at_) (seen, true)).1 ++ [(at_ : Int)], true) else ns[at_].l.foldl (aJ (aN ns fuel) at_) (seen, true) := by
   rw [aN, if_neg (by omega), hgd]
  rw [hw]; clear hw
  generalize ns[at_] = x at hx hm hgd
  clear hgd
  obtain ⟨xo, ⟨xa, xb, xc, xd⟩, xl, xlo, xhi, xn⟩ := x
  simp only at hm ⊢
  refine ae.prune [0, 1, 2, 6, 7, 8] ?_; simp only [go_sem, simprocAttr]
  refine ae.al (α := Nat × List Int × Nat) (fun x => ([(0, .sl q f (nodes ns)), (1, .int .i64 at_), (2, .osl 1000 x.2.2 0 x.2.1.length), (6, .sl true true []), (7, .bool false), (8, .int .i64 x.1)], [(1000, (x.2.2, .row 1 (ints x.2.1)))]))
   (fun x => x.1 ≤ xl.length ∧ x.2.1.length ≤ ns.length + at_ ∧ (xl.take x.1).foldl (aJ (aN ns fuel) at_) (seen, true) = (x.2.1, true)) (fun x => xl.length - x.1) (0, seen, g) ⟨Nat.zero_le _, by simp only; omega, rfl⟩ rfl ?_
  rintro ⟨i, sn, gg⟩ ⟨hi, hs, hfold⟩ ih2
  simp only at hi hs hfold ih2 ⊢
  have e1 : (at_ : Int) < ns.length := by omega
  have e2 : (0 : Int) ≤ at_ := by omega
  by_cases hle : i < xl.length
  ·have e4 : (i : Int) < xl.length := by omega
   have e5 : (0 : Int) ≤ i := by omega
   have hk : xl[i]? = some xl[i] := List.getElem?_eq_getElem hle
   generalize xl[i] = k at hk
   by_cases hbad : k < 0 ∨ (at_ : Int) ≤ k
   ·have hst : aJ (aN ns fuel) at_ (sn, true) k = (sn, false) := by simp [aJ, hbad]
    rw [zL hk hfold (by rw [hst]), hst]
    repeat' (first
 | refine gCt rfl ?_
 | ((first
 | ((first | refine gR fp87 ?_); intro K hK)
 | (refine ab ?_ ?_ <;> intro hb <;> (try simp only [bls] at hb) <;> (try simp only [hb]))
 | refine gRe [1000] [.tmp 6, .tmp 7] rfl rfl ?_) <;> (try simp only [go_sem, simprocAttr, e1, e2, e4, e5, hx, hk, Option.some.injEq, forall_eq']))
 | (refine hK _ _ ?_; clear hK K; simp only [go_sem, simprocAttr])
 | refine gCd ?_ | refine brT ?_ | refine brF ?_
 | (refine brS ?_ ?_ <;> intro hc <;> (try simp only [bls] at hc) <;> (try simp only [hc, bls]))
 | intro _ | refine And.intro ?_ ?_)
    all_goals first | exact ⟨gg, rfl, rfl⟩ | omega
   ·obtain ⟨m, rfl⟩ : ∃ m : Nat, k = m := ⟨k.toNat, by omega⟩
    have hst : aJ (aN ns fuel) at_ (sn, true) m = aN ns fuel m sn := by simp [aJ]; omega
    have e6 : ¬ (m : Int) < 0 := by omega
    have e7 : ¬ (at_ : Int) ≤ m := by omega
    have hcall := ih m sn gg (by omega) (by omega) (by omega)
    rcases hres : aN ns fuel m sn with ⟨w, b⟩
    rw [hres] at hcall hst
    cases b
    ·rw [zL hk hfold (by rw [hst]), hst]
     repeat' (first
 | refine gCt rfl ?_
 | ((first
 | ((first | refine gR fp87 ?_); intro K hK)
 | (refine ah.mono hcall ?_; rintro _ _ ⟨hlen, h', rfl, rfl⟩)
 | (refine ab ?_ ?_ <;> intro hb <;> (try simp only [bls] at hb) <;> (try simp only [hb]))
 | refine gRe [1000] [.tmp 6, .tmp 7] rfl rfl ?_) <;> (try simp only [go_sem, simprocAttr, e1, e2, e4, e5, e6, e7, hx, hk, Option.some.injEq, forall_eq']))
 | (refine hK _ _ ?_; clear hK K; simp only [go_sem, simprocAttr])
 | refine gCd ?_ | refine brT ?_ | refine brF ?_
 | (refine brS ?_ ?_ <;> intro hc <;> (try simp only [bls] at hc) <;> (try simp only [hc, bls]))
 | intro _ | refine And.intro ?_ ?_)
     all_goals (simp only at hlen; first | exact ⟨h', rfl, rfl⟩ | omega)
    ·repeat' (first
 | refine gCt rfl ?_
 | ((first
 | ((first | refine gR fp87 ?_); intro K hK)
 | (refine ah.mono hcall ?_; rintro _ _ ⟨hlen, h', rfl, rfl⟩)
 | (refine ab ?_ ?_ <;> intro hb <;> (try simp only [bls] at hb) <;> (try simp only [hb]))
 | refine gRe [1000] [.tmp 6, .tmp 7] rfl rfl ?_) <;> (try simp only [go_sem, simprocAttr, e1, e2, e4, e5, e6, e7, hx, hk, Option.some.injEq, forall_eq']))
 | (refine hK _ _ ?_; clear hK K; simp only [go_sem, simprocAttr])
 | refine gCd ?_ | refine brT ?_ | refine brF ?_
 | (refine brS ?_ ?_ <;> intro hc <;> (try simp only [bls] at hc) <;> (try simp only [hc, bls]))
 | intro _ | refine And.intro ?_ ?_)
     ·omega
     ·omega
     ·refine ae.prune [0, 1, 2, 6, 7, 8] ?_; simp only [go_sem, simprocAttr]
      exact (ih2 (i + 1, w, h') ⟨by omega, by simp only at hlen ⊢; omega, by rw [take_one hk, List.foldl_append, hfold]; exact hst⟩ (by simp only; omega)).cast rfl rfl
  ·have e4 : ¬ (i : Int) < xl.length := by omega
   rw [List.take_of_length_le (by omega)] at hfold
   rw [hfold]
   repeat' (first
 | refine gCt rfl ?_
 | ((first
 | ((first | refine gR fp87 ?_); intro K hK)
 | (refine ab ?_ ?_ <;> intro hb <;> (try simp only [bls] at hb) <;> (try simp only [hb]))
 | refine gRe [1000] [.tmp 6, .tmp 7] rfl rfl ?_) <;> (try simp only [go_sem, simprocAttr, e1, e2, e4, hx, Option.some.injEq, forall_eq']))
 | (refine hK _ _ ?_; clear hK K; simp only [go_sem, simprocAttr])
 | refine gCd ?_ | refine brT ?_ | refine brF ?_
 | (refine brS ?_ ?_ <;> intro hc <;> (try simp only [bls] at hc) <;> (try simp only [hc, bls]))
 | intro _ | refine And.intro ?_ ?_)
   ·rename_i y hy; simp only [List.mem_singleton] at hy; subst hy; rfl
   ·rename_i y hy; simp only [List.mem_singleton] at hy; subst hy; rfl
   ·unfold ao; omega
   ·unfold ao; omega
   ·simp only [List.length_append, List.length_cons, List.length_nil]; omega
   ·rename_i h'
    exact ⟨h', by simp, by simp⟩
theorem kr (q f : Bool) (ns : List Node) (hl : ∀ n ∈ ns, n.l.length ≤ maxLen ∧ n.name.size ≤ maxLen) : ah Tryz.prog 59 [.sl q f (nodes ns)] [] fun r s => r = .bool (eV ns) ∧ s = [] := by
 refine ah.enter Tryz.func59 rfl (by kernel_rfl) (Nat.le_of_ble_eq_true rfl) ?_; simp only [ai, Nat.reduceAdd]
 repeat' (first
 | refine gCt rfl ?_
 | ((first
 | ((first | refine gR fp59 ?_); intro K hK)
 | (refine ab ?_ ?_ <;> intro hb <;> (try simp only [bls] at hb) <;> (try simp only [hb]))
 | refine gRe [] [.tmp 2] rfl rfl ?_) <;> (try simp only [go_sem, simprocAttr]))
 | (refine hK _ _ ?_; clear hK K; simp only [go_sem, simprocAttr])
 | refine gCd ?_ | refine brT ?_ | refine brF ?_
 | (refine brS ?_ ?_ <;> intro hc <;> (try simp only [bls] at hc) <;> (try simp only [hc, bls]))
 | intro _ | refine And.intro ?_ ?_)
 ·refine congrArg aa.bool ?_; simp only [eV]; rw [if_pos (by omega)]
 ·have hn1 : ¬ (ns.length < 1 ∨ 1024 < ns.length) := by omega
  have hr : eV ns = (ns.all aD && ((aN ns ns.length ((ns.length : Int) - 1) []).2 && decide ((aN ns ns.length ((ns.length : Int) - 1) []).1 = (List.range ns.length).map fun (i : Nat) => (i : Int)))) := by
   simp only [eV, if_neg hn1]
   cases ns.all aD <;> simp
  rw [hr]; clear hr
  refine ae.prune [0, 2, 3] ?_; simp only [go_sem, simprocAttr]
  refine ae.al (α := Nat) (fun i => ([(0, .sl q f (nodes ns)), (2, .bool false), (3, .int .i64 i)], [])) (fun i => i ≤ ns.length ∧ (ns.take i).all aD = true) (fun i => ns.length - i) 0 ⟨Nat.zero_le _, rfl⟩ rfl ?_
  rintro i ⟨hi, hall⟩ ih
  simp only
  by_cases hle : i < ns.length
  ·have e4 : (i : Int) < ns.length := by omega
   have e5 : (0 : Int) ≤ i := by omega
   have hx : ns[i]? = some ns[i] := List.getElem?_eq_getElem hle
   have hm := hl ns[i] (List.getElem_mem hle)
   generalize ns[i] = x at hx hm
   have hsh := fun fl => AO fl x hm.2
   cases hok : aD x
   all_goals
    rw [hok] at hsh
    obtain ⟨xo, ⟨xa, xb, xc, xd⟩, xl, xlo, xhi, xn⟩ := x
    repeat' (first
 | refine gCt rfl ?_
 | ((first
 | ((first | refine gR fp59 ?_); intro K hK)
 | refine cAl (hsh false) rfl rfl rfl ?_
 | (refine ab ?_ ?_ <;> intro hb <;> (try simp only [bls] at hb) <;> (try simp only [hb]))
 | refine gRe [] [.tmp 2] rfl rfl ?_) <;> (try simp only [go_sem, simprocAttr, e4, e5, hx, Option.some.injEq, forall_eq']))
 | (refine hK _ _ ?_; clear hK K; simp only [go_sem, simprocAttr])
 | refine gCd ?_ | refine brT ?_ | refine brF ?_
 | (refine brS ?_ ?_ <;> intro hc <;> (try simp only [bls] at hc) <;> (try simp only [hc, bls]))
 | intro _ | refine And.intro ?_ ?_)
   ·have : ns.all aD = false := by
     rw [List.all_eq_false]
     exact ⟨_, List.mem_of_getElem? hx, by simp [hok]⟩
    rw [this]; rfl
   ·omega
   ·omega
   ·refine ae.prune [0, 2, 3] ?_; simp only [go_sem, simprocAttr]
    exact (ih (i + 1) ⟨by omega, by rw [take_one hx, List.all_append, hall]; simp [hok]⟩ (by omega)).cast rfl rfl
  ·have e4 : ¬ (i : Int) < ns.length := by omega
   rw [List.take_of_length_le (by omega)] at hall
   rw [hall]
   obtain ⟨m, hm⟩ : ∃ m, ns.length = m + 1 := ⟨ns.length - 1, by omega⟩
   have e5 : (ns.length : Int) - 1 = (m : Nat) := by omega
   have hwalk := fun g => DZ q f ns (by omega) (fun n h => (hl n h).1) ns.length m [] g (by omega) (by omega) (Nat.zero_le _)
   rw [e5]
   rcases hres : aN ns ns.length m [] with ⟨w, b⟩
   rw [hres] at hwalk
   simp only at hwalk
   cases b
   ·repeat' (first
 | refine gCt rfl ?_
 | ((first
 | ((first | refine gR fp59 ?_); intro K hK)
 | (refine ah.ownArg 2 1000 1 (by decide) rfl (fun g => ?_); refine ah.mono (hwalk g) ?_; rintro _ _ ⟨hlen, h', rfl, rfl⟩)
 | (refine ab ?_ ?_ <;> intro hb <;> (try simp only [bls] at hb) <;> (try simp only [hb]))
 | refine gRe [] [.tmp 2] rfl rfl ?_) <;> (try simp only [go_sem, simprocAttr, e4, e5]))
 | (refine hK _ _ ?_; clear hK K; simp only [go_sem, simprocAttr])
 | refine gCd ?_ | refine brT ?_ | refine brF ?_
 | (refine brS ?_ ?_ <;> intro hc <;> (try simp only [bls] at hc) <;> (try simp only [hc, bls]))
 | intro _ | refine And.intro ?_ ?_)
    ·omega
    ·omega
    ·rfl
   ·repeat' (first
 | refine gCt rfl ?_
 | ((first
 | ((first | refine gR fp59 ?_); intro K hK)
 | (refine ah.ownArg 2 1000 1 (by decide) rfl (fun g => ?_); refine ah.mono (hwalk g) ?_; rintro _ _ ⟨hlen, h', rfl, rfl⟩)
 | (refine ab ?_ ?_ <;> intro hb <;> (try simp only [bls] at hb) <;> (try simp only [hb]))
 | refine gRe [] [.tmp 2] rfl rfl ?_) <;> (try simp only [go_sem, simprocAttr, e4, e5]))
 | (refine hK _ _ ?_; clear hK K; simp only [go_sem, simprocAttr])
 | refine gCd ?_ | refine brT ?_ | refine brF ?_
 | (refine brS ?_ ?_ <;> intro hc <;> (try simp only [bls] at hc) <;> (try simp only [hc, bls]))
 | intro _ | refine And.intro ?_ ?_)
    ·omega
    ·omega
    ·refine congrArg aa.bool ?_
     simp only [Bool.false_eq, decide_eq_false_iff_not]
     rintro rfl
     skip
     exact hc (by simp)
    ·skip
     try simp only [Bool.true_and]
     refine ae.prune [0, 2, 4, 6] ?_; simp only [go_sem, simprocAttr]
     refine ae.al (α := Nat) (fun i => ([(0, .sl q f (nodes ns)), (2, .bool false), (4, .osl 1000 h' 0 w.length), (6, .int .i64 i)], [(1000, (h', .row 1 (ints w)))])) (fun i => i ≤ w.length ∧ w.take i = (List.range i).map fun (i : Nat) => (i : Int)) (fun i => w.length - i) 0 ⟨Nat.zero_le _, rfl⟩ rfl ?_
     rintro j ⟨hj, htk⟩ ih2
     simp only
     by_cases hle2 : j < w.length
     ·have f4 : (j : Int) < w.length := by omega
      have f5 : (0 : Int) ≤ j := by omega
      have hk : w[j]? = some w[j] := List.getElem?_eq_getElem hle2
      generalize w[j] = k at hk
      by_cases hkj : k = j
      ·repeat' (first
 | refine gCt rfl ?_
 | ((first
 | ((first | refine gR fp59 ?_); intro K hK)
 | (refine ab ?_ ?_ <;> intro hb <;> (try simp only [bls] at hb) <;> (try simp only [hb]))
 | refine gRe [] [.tmp 2] rfl rfl ?_) <;> (try simp only [go_sem, simprocAttr, f4, f5, hk, hkj, hle2, Option.some.injEq, forall_eq']))
 | (refine hK _ _ ?_; clear hK K; simp only [go_sem, simprocAttr])
 | refine gCd ?_ | refine brT ?_ | refine brF ?_
 | (refine brS ?_ ?_ <;> intro hc <;> (try simp only [bls] at hc) <;> (try simp only [hc, bls]))
 | intro _ | refine And.intro ?_ ?_)
       ·omega
       ·omega
       ·refine ae.prune [0, 2, 4, 6] ?_; simp only [go_sem, simprocAttr]
        exact (ih2 (j + 1) ⟨by omega, by rw [take_one hk, htk, hkj, List.range_succ]; simp⟩ (by omega)).cast rfl rfl
      ·repeat' (first
 | refine gCt rfl ?_
 | ((first
 | ((first | refine gR fp59 ?_); intro K hK)
 | (refine ab ?_ ?_ <;> intro hb <;> (try simp only [bls] at hb) <;> (try simp only [hb]))
 | refine gRe [] [.tmp 2] rfl rfl ?_) <;> (try simp only [go_sem, simprocAttr, f4, f5, hk, hkj, hle2, Option.some.injEq, forall_eq']))
 | (refine hK _ _ ?_; clear hK K; simp only [go_sem, simprocAttr])
 | refine gCd ?_ | refine brT ?_ | refine brF ?_
 | (refine brS ?_ ?_ <;> intro hc <;> (try simp only [bls] at hc) <;> (try simp only [hc, bls]))
 | intro _ | refine And.intro ?_ ?_)
       refine congrArg aa.bool ?_
       simp only [Bool.false_eq, decide_eq_false_iff_not]
       intro hw
       rw [hw] at hk
       exact hkj (Ju hk)
     ·have f4 : ¬ (j : Int) < w.length := by omega
      rw [List.take_of_length_le (by omega)] at htk
      have hjn : j = ns.length := by omega
      subst hjn
      repeat' (first
 | refine gCt rfl ?_
 | ((first
 | ((first | refine gR fp59 ?_); intro K hK)
 | (refine ab ?_ ?_ <;> intro hb <;> (try simp only [bls] at hb) <;> (try simp only [hb]))
 | refine gRe [] [.tmp 2] rfl rfl ?_) <;> (try simp only [go_sem, simprocAttr, f4]))
 | (refine hK _ _ ?_; clear hK K; simp only [go_sem, simprocAttr])
 | refine gCd ?_ | refine brT ?_ | refine brF ?_
 | (refine brS ?_ ?_ <;> intro hc <;> (try simp only [bls] at hc) <;> (try simp only [hc, bls]))
 | intro _ | refine And.intro ?_ ?_)
      rw [htk]; simp
 ·refine congrArg aa.bool ?_; simp only [eV]; rw [if_pos (by omega)]
end Go.Rad
namespace Go.Rad
open Go Go.Proofs
set_option linter.all false
set_option maxRecDepth 20000
set_option maxHeartbeats 4000000
end Go.Rad
