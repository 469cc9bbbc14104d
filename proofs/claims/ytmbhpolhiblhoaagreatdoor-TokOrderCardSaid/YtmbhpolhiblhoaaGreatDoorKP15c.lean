/- A part of the proof. -/
import Derived.Test.YtmbhpolhiblhoaaGreatDoorKP15b
import Derived.Test.YtmbhpolhiblhoaaGreatDoorKC08a
import Derived.Test.YtmbhpolhiblhoaaGreatDoorKRDraw
import Derived.Sort.Grow
import Derived.Lib.SlicesCompact
import Derived.Test.YtmbhpolhiblhoaaGreatDoorKP15a
import Derived.Test.YtmbhpolhiblhoaaGreatDoorKRDefer
set_option linter.all false
namespace Go.Rad
open Go Go.Proofs
set_option linter.all false
set_option maxRecDepth 20000
set_option maxHeartbeats 4000000
theorem oc (F : Fl) (hF : gQ F) (hlen : ∀ r ∈ F.rules, r.l.length ≤ maxLen) :
  ah Tryz.prog 18 [.agg F.cells] [] fun v s => v = .bool (bG F) ∧ s = [] := by
 have hD := tf true false F.defs (by have := hF.2.2.1; omega) hF.2.2.2.1
 have hS : ∀ s ∈ F.conds, ah Tryz.prog 40 [.str s] [] fun r s' => r = .bool (bl s) ∧ s' = [] := fun s h => j8 s (hF.2.1 s h)
 have hI := fun (s : ByteArray) (h : F.conds.length ≤ 8) => Cc true false F.conds s (by omega)
 have hK : ∀ r ∈ F.rules, ah Tryz.prog 40 [.str r.kind] [] fun v s' => v = .bool (bl r.kind) ∧ s' = [] := fun r h => j8 r.kind (hF.2.2.2.2.2 r h).1
 have hU := fun (n : Int) r (h : r ∈ F.rules) => Dz true false r.conds n (hF.2.2.2.2.2 r h).2.1
 have hE := fun r (h : r ∈ F.rules) => kV true false true false r.l F.defs (hlen r h) (hF.2.2.2.2.2 r h).2.2 hF.2.2.1 hF.2.2.2.1
 obtain ⟨O, hO⟩ : ∃ O, O = bG F := ⟨_, rfl⟩
 rw [← hO]
 unfold bG qJ at hO
 generalize bz [] F.defs = D at hD hO
 have hl1 := hF.1
 have hl2 := hF.2.2.2.2.1
 have hl3 : ∀ r ∈ F.rules, r.conds.length ≤ 9223372036854775807 := fun r h => Nat.le_trans (hF.2.2.2.2.2 r h).2.1 (by decide)
 clear hF hlen
 obtain ⟨cs, ds, rs⟩ := F
 simp only at *
 cases cs with
 | nil =>
  simp only [Bool.false_and] at hO
  subst hO
  clear hS hI hK hU hE
  refine ah.enter Tryz.func18 rfl (by kernel_rfl) (Nat.le_of_ble_eq_true rfl) ?_; simp only [ai, Nat.reduceAdd]
  repeat' (first
 | refine gCt rfl ?_
 | ((first
 | ((first | refine gR fp18 ?_ | refine gD 6 16 [0, 1, 2, 3, 4, 5, 6, 7, 8, 9, 10, 11, 12, 13, 14, 16, 15, 17, 18] fp18 ?_); intro K hK)
 | (refine ab ?_ ?_ <;> intro hb <;> (try simp only [bls] at hb) <;> (try simp only [hb]))
 | refine gRe [] [.tmp 2] rfl rfl ?_) <;> (try simp only [go_sem, simprocAttr]))
 | (refine hK _ _ ?_; clear hK K; simp only [go_sem, simprocAttr])
 | refine gCd ?_ | refine brT ?_ | refine brF ?_
 | (refine brS ?_ ?_ <;> intro hc <;> (try simp only [bls] at hc) <;> (try simp only [hc, bls]))
 | intro _ | refine And.intro ?_ ?_)
  all_goals try exact zsd
 | cons s0 cs0 =>
  have hx0 : (s0 :: cs0)[0]? = some s0 := rfl
  have hl0 : 0 < (s0 :: cs0).length := Nat.succ_pos _
  simp only at hO
  generalize s0 :: cs0 = cs at *
  obtain ⟨U, hUU⟩ : ∃ U, U = dS cs cs 0 := ⟨_, rfl⟩
  obtain ⟨B, hB⟩ : ∃ B, B = rs.any fun r => !jf cs.length ds r := ⟨_, rfl⟩
  rw [← hUU, ← hB] at hO
  have hz : (0 : Int) < cs.length := by omega
  have hz1 : ¬ (cs.length : Int) < 1 := by omega
  by_cases k1 : (8 : Int) < cs.length
  ·have k1' : ¬ cs.length ≤ 8 := by omega
   simp only [k1', decide_false, Bool.false_and] at hO
   subst hO
   clear hS hI hK hU hE
   refine ah.enter Tryz.func18 rfl (by kernel_rfl) (Nat.le_of_ble_eq_true rfl) ?_; simp only [ai, Nat.reduceAdd]
   repeat' (first
 | refine gCt rfl ?_
 | ((first
 | ((first | refine gR fp18 ?_ | refine gD 6 16 [0, 1, 2, 3, 4, 5, 6, 7, 8, 9, 10, 11, 12, 13, 14, 16, 15, 17, 18] fp18 ?_); intro K hK)
 | (refine ab ?_ ?_ <;> intro hb <;> (try simp only [bls] at hb) <;> (try simp only [hb]))
 | refine gRe [] [.tmp 2] rfl rfl ?_) <;> (try simp only [go_sem, simprocAttr, hz1, k1]))
 | (refine hK _ _ ?_; clear hK K; simp only [go_sem, simprocAttr])
 | refine gCd ?_ | refine brT ?_ | refine brF ?_
 | (refine brS ?_ ?_ <;> intro hc <;> (try simp only [bls] at hc) <;> (try simp only [hc, bls]))
 | intro _ | refine And.intro ?_ ?_)
   all_goals try exact zsd
  have k1' : cs.length ≤ 8 := by omega
  simp only [k1', decide_true, Bool.true_and] at hO
  have hI' := fun s => hI s k1'
  clear hI
  by_cases k2 : s0 = bn
  ·simp only [k2, decide_true, Bool.true_and] at hO
   subst k2
   cases D
   ·simp only [Bool.false_and, Bool.and_false] at hO
    subst hO
    clear hS hI' hK hU hE
    refine ah.enter Tryz.func18 rfl (by kernel_rfl) (Nat.le_of_ble_eq_true rfl) ?_; simp only [ai, Nat.reduceAdd]
    repeat' (first
 | refine gCt rfl ?_
 | ((first
 | ((first | refine gR fp18 ?_ | refine gD 6 16 [0, 1, 2, 3, 4, 5, 6, 7, 8, 9, 10, 11, 12, 13, 14, 16, 15, 17, 18] fp18 ?_); intro K hK)
 | refine cAl (hD) rfl rfl rfl ?_
 | (refine ab ?_ ?_ <;> intro hb <;> (try simp only [bls] at hb) <;> (try simp only [hb]))
 | refine gRe [] [.tmp 2] rfl rfl ?_) <;> (try simp only [go_sem, simprocAttr, hz1, k1, hx0, hz, bn]))
 | (refine hK _ _ ?_; clear hK K; simp only [go_sem, simprocAttr])
 | refine gCd ?_ | refine brT ?_ | refine brF ?_
 | (refine brS ?_ ?_ <;> intro hc <;> (try simp only [bls] at hc) <;> (try simp only [hc, bls]))
 | intro _ | refine And.intro ?_ ?_)
    all_goals try exact zsd
   by_cases k3 : (64 : Int) < rs.length
   ·have k3' : ¬ rs.length ≤ 64 := by omega
    simp only [k3', decide_false, Bool.false_and, Bool.and_false] at hO
    subst hO
    clear hS hI' hK hU hE
    refine ah.enter Tryz.func18 rfl (by kernel_rfl) (Nat.le_of_ble_eq_true rfl) ?_; simp only [ai, Nat.reduceAdd]
    repeat' (first
 | refine gCt rfl ?_
 | ((first
 | ((first | refine gR fp18 ?_ | refine gD 6 16 [0, 1, 2, 3, 4, 5, 6, 7, 8, 9, 10, 11, 12, 13, 14, 16, 15, 17, 18] fp18 ?_); intro K hK)
 | refine cAl (hD) rfl rfl rfl ?_
 | (refine ab ?_ ?_ <;> intro hb <;> (try simp only [bls] at hb) <;> (try simp only [hb]))
 | refine gRe [] [.tmp 2] rfl rfl ?_) <;> (try simp only [go_sem, simprocAttr, hz1, k1, hx0, hz, k3, bn]))
 | (refine hK _ _ ?_; clear hK K; simp only [go_sem, simprocAttr])
 | refine gCd ?_ | refine brT ?_ | refine brF ?_
 | (refine brS ?_ ?_ <;> intro hc <;> (try simp only [bls] at hc) <;> (try simp only [hc, bls]))
 | intro _ | refine And.intro ?_ ?_)
    all_goals try exact zsd
   have k3' : rs.length ≤ 64 := by omega
   simp only [k3', decide_true, Bool.true_and] at hO
   refine ah.enter Tryz.func18 rfl (by kernel_rfl) (Nat.le_of_ble_eq_true rfl) ?_; simp only [ai, Nat.reduceAdd]
   repeat' (first
 | refine gCt rfl ?_
 | ((first
 | (refine ae.at 3 ?_; (refine ae.eI 1 1 rfl rfl rfl ?_; simp only [go_sem, simprocAttr]); refine gR fp18 ?_; intro K hK)
 | ((first | refine gR fp18 ?_ | refine gD 6 16 [0, 1, 2, 3, 4, 5, 6, 7, 8, 9, 10, 11, 12, 13, 14, 16, 15, 17, 18] fp18 ?_); intro K hK)
 | refine cAl (hD) rfl rfl rfl ?_
 | (refine ab ?_ ?_ <;> intro hb <;> (try simp only [bls] at hb) <;> (try simp only [hb]))
 | refine gRe [] [.tmp 2] rfl rfl ?_) <;> (try simp only [go_sem, simprocAttr, hz1, k1, hx0, hz, k3, bn]))
 | (refine hK _ _ ?_; clear hK K; simp only [go_sem, simprocAttr])
 | refine gCd ?_ | refine brT ?_ | refine brF ?_
 | (refine brS ?_ ?_ <;> intro hc <;> (try simp only [bls] at hc) <;> (try simp only [hc, bls]))
 | intro _ | refine And.intro ?_ ?_)
   all_goals try exact zsd
   refine ae.prune [1, 2, 3] ?_; simp only [go_sem, simprocAttr]
   refine ae.al (α := Nat) (fun i => ([(1, .ref true [.sl true false (cz cs), .sl true false (defs ds), .sl true false (bm rs)]), (2, .bool false), (3, .int .i64 i)], [])) (fun i => i ≤ cs.length ∧ U = dS cs (cs.drop i) i) (fun i => cs.length - i) 0 ⟨Nat.zero_le _, hUU⟩ rfl ?_
   rintro i ⟨hi, hu⟩ ih
   simp only at hi hu ih ⊢
   by_cases hle : i < cs.length
   ·have e4 : (i : Int) < cs.length := by omega
    have e5 : (0 : Int) ≤ i := by omega
    have e6 : (i : Int) + 1 = ((i + 1 : Nat) : Int) := by omega
    have hx : cs[i]? = some cs[i] := List.getElem?_eq_getElem hle
    have hdr : cs.drop i = cs[i] :: cs.drop (i + 1) := List.drop_eq_getElem_cons hle
    have hs := hS _ (List.getElem_mem hle)
    have hi2 := hI' cs[i]
    rw [hdr, ni] at hu
    clear hS hI' hx0 hK hU hE
    generalize cs[i] = k at hx hu hs hi2
    generalize jB k cs 0 = j at hi2 hu
    generalize bl k = nk at hs hu
    cases nk
    ·simp only [Bool.false_eq_true, if_false] at hu
     subst hu
     simp only [Bool.false_and] at hO
     subst hO
     repeat' (first
 | refine gCt rfl ?_
 | ((first
 | ((first | refine gR fp18 ?_ | refine gD 6 19 Jw fp18 ?_); intro K hK)
 | refine ⟨_, ah.alone (hs) rfl rfl rfl, ?_⟩
 | refine ⟨_, ah.alone (hi2) rfl rfl rfl, ?_⟩
 | (refine ab ?_ ?_ <;> intro hb <;> (try simp only [bls] at hb) <;> (try simp only [hb]))
 | refine gRe [] [.tmp 2] rfl rfl ?_) <;> (try simp only [go_sem, simprocAttr, e4, e5, e6, hx, Option.some.injEq, forall_eq']))
 | (refine hK _ _ ?_; clear hK K; simp only [go_sem, simprocAttr])
 | refine gCd ?_ | refine brT ?_ | refine brF ?_
 | (refine brS ?_ ?_ <;> intro hc <;> (try simp only [bls] at hc) <;> (try simp only [hc, bls]))
 | intro _ | refine And.intro ?_ ?_)
     all_goals try exact zsd
    simp only [if_true] at hu
    by_cases k4 : j = (i : Int)
    ·simp only [k4, decide_true, if_true] at hu hi2
     repeat' (first
 | refine gCt rfl ?_
 | ((first
 | ((first | refine gR fp18 ?_ | refine gD 6 19 Jw fp18 ?_); intro K hK)
 | refine ⟨_, ah.alone (hs) rfl rfl rfl, ?_⟩
 | refine ⟨_, ah.alone (hi2) rfl rfl rfl, ?_⟩
 | (refine ab ?_ ?_ <;> intro hb <;> (try simp only [bls] at hb) <;> (try simp only [hb]))
 | refine gRe [] [.tmp 2] rfl rfl ?_) <;> (try simp only [go_sem, simprocAttr, e4, e5, e6, hx, Option.some.injEq, forall_eq']))
 | (refine hK _ _ ?_; clear hK K; simp only [go_sem, simprocAttr])
 | refine gCd ?_ | refine brT ?_ | refine brF ?_
 | (refine brS ?_ ?_ <;> intro hc <;> (try simp only [bls] at hc) <;> (try simp only [hc, bls]))
 | intro _ | refine And.intro ?_ ?_)
     all_goals try exact zsd
     refine ae.prune [1, 2, 3] ?_; simp only [go_sem, simprocAttr]
     exact (ih (i + 1) ⟨by omega, hu⟩ (by omega)).cast rfl rfl
    ·simp only [k4, decide_false, Bool.false_eq_true, if_false] at hu
     subst hu
     simp only [Bool.false_and] at hO
     subst hO
     repeat' (first
 | refine gCt rfl ?_
 | ((first
 | ((first | refine gR fp18 ?_ | refine gD 6 19 Jw fp18 ?_); intro K hK)
 | refine ⟨_, ah.alone (hs) rfl rfl rfl, ?_⟩
 | refine ⟨_, ah.alone (hi2) rfl rfl rfl, ?_⟩
 | (refine ab ?_ ?_ <;> intro hb <;> (try simp only [bls] at hb) <;> (try simp only [hb]))
 | refine gRe [] [.tmp 2] rfl rfl ?_) <;> (try simp only [go_sem, simprocAttr, e4, e5, e6, hx, k4, Option.some.injEq, forall_eq']))
 | (refine hK _ _ ?_; clear hK K; simp only [go_sem, simprocAttr])
 | refine gCd ?_ | refine brT ?_ | refine brF ?_
 | (refine brS ?_ ?_ <;> intro hc <;> (try simp only [bls] at hc) <;> (try simp only [hc, bls]))
 | intro _ | refine And.intro ?_ ?_)
     all_goals try exact zsd
   ·have e4 : ¬ (i : Int) < cs.length := by omega
    rw [List.drop_of_length_le (by omega)] at hu
    simp only [dS] at hu
    subst hu
    rw [Bool.true_and] at hO
    clear ih hS hI'
    repeat' (first
 | refine gCt rfl ?_
 | ((first
 | ((first | refine gR fp18 ?_ | refine gD 6 16 [0, 1, 2, 3, 4, 5, 6, 7, 8, 9, 10, 11, 12, 13, 14, 16, 15, 17, 18] fp18 ?_); intro K hK)
 | (refine ab ?_ ?_ <;> intro hb <;> (try simp only [bls] at hb) <;> (try simp only [hb]))
 | refine gRe [] [.tmp 2] rfl rfl ?_) <;> (try simp only [go_sem, simprocAttr, e4]))
 | (refine hK _ _ ?_; clear hK K; simp only [go_sem, simprocAttr])
 | refine gCd ?_ | refine brT ?_ | refine brF ?_
 | (refine brS ?_ ?_ <;> intro hc <;> (try simp only [bls] at hc) <;> (try simp only [hc, bls]))
 | intro _ | refine And.intro ?_ ?_)
    all_goals try exact zsd
    refine ae.prune [1, 2, 4] ?_; simp only [go_sem, simprocAttr]
    refine ae.al (α := Nat) (fun i => ([(1, .ref true [.sl true false (cz cs), .sl true false (defs ds), .sl true false (bm rs)]), (2, .bool false), (4, .int .i64 i)], [])) (fun i => i ≤ rs.length ∧ B = (rs.drop i).any fun r => !jf cs.length ds r) (fun i => rs.length - i) 0 ⟨Nat.zero_le _, hB⟩ rfl ?_
    clear hi hle e4 i hB
    rintro i ⟨hi, hu⟩ ih
    simp only at hi hu ih ⊢
    by_cases hle : i < rs.length
    ·have e4 : (i : Int) < rs.length := by omega
     have e5 : (0 : Int) ≤ i := by omega
     have e6 : (i : Int) + 1 = ((i + 1 : Nat) : Int) := by omega
     have hx : rs[i]? = some rs[i] := List.getElem?_eq_getElem hle
     have hdr : rs.drop i = rs[i] :: rs.drop (i + 1) := List.drop_eq_getElem_cons hle
     have hm := List.getElem_mem hle
     have hk := hK _ hm
     have hr := hU cs.length _ hm
     have he := hE _ hm
     have hl := hl3 _ hm
     rw [hdr, List.any_cons, jf] at hu
     clear hK hU hE hl3 hm hdr hx0
     obtain ⟨W, hW⟩ : ∃ W, W = (rs.drop (i + 1)).any fun r => !jf cs.length ds r := ⟨_, rfl⟩
     rw [← hW] at hu
     generalize rs[i] = r at hx hk hr he hu hl
     generalize (ay r.l ds).1 = X at he
     generalize (ay r.l ds).2 = e at he hu
     obtain ⟨rc, rf, rl, rk, rt, rp, rn⟩ := r
     simp only at hk hr he hu hl
     generalize bl rk = nk at hk hu
     have hvl := CM cs.length rc
     generalize upI cs.length (-1) rc = V at hr hu hvl
     generalize fQ (-1) rc = La at hu hvl
     have hrc : (rc.length : Int) = 0 ↔ rc = [] := by rw [← List.length_eq_zero_iff]; omega
     repeat' (first
 | refine gCt rfl ?_
 | ((first
 | ((first | refine gR fp18 ?_ | refine gD 6 16 [0, 1, 2, 3, 4, 5, 6, 7, 8, 9, 10, 11, 12, 13, 14, 16, 15, 17, 18] fp18 ?_); intro K hK)
 | refine cAl (hk) rfl rfl rfl ?_
 | refine cAl (hr) rfl rfl rfl ?_
 | (refine ah.use [] [] rfl he rfl rfl rfl ?_; rintro _ _ ⟨⟨fl, rfl⟩, rfl⟩; refine ⟨.inl rfl, rfl, ?_⟩; simp only [bk, bk2, bk1, bkS, aH, List.map_cons, List.map_nil])
 | (refine ab ?_ ?_ <;> intro hb <;> (try simp only [bls] at hb) <;> (try simp only [hb]))
 | refine gRe [] [.tmp 2] rfl rfl ?_) <;> (try simp only [go_sem, simprocAttr, e4, e5, e6, hx, hrc, Option.some.injEq, forall_eq']))
 | (refine hK _ _ ?_; clear hK K; simp only [go_sem, simprocAttr])
 | refine gCd ?_ | refine brT ?_ | refine brF ?_
 | (refine brS ?_ ?_ <;> intro hc <;> (try simp only [bls] at hc) <;> (try simp only [hc, bls]))
 | intro _ | refine And.intro ?_ ?_)
     all_goals first
      | exact zsd
      | (clear ih he hk hr; congr 1; cases V <;> simp_all <;> omega)
      | (refine ae.bC [] ?_; simp only [aq, ax, go_sem, simprocAttr]; refine ae.prune [1, 2, 4] ?_; simp only [go_sem, simprocAttr]; have hBW : B = W := by (clear ih he hk hr; simp_all <;> omega)
         exact (ih (i + 1) ⟨by omega, by rw [← hW]; exact hBW⟩ (by omega)).cast rfl rfl)
    ·have e4 : ¬ (i : Int) < rs.length := by omega
     rw [List.drop_of_length_le (by omega)] at hu
     simp only [List.any_nil] at hu
     subst hu
     simp only [Bool.not_false] at hO
     subst hO
     clear ih hK hU hE
     repeat' (first
 | refine gCt rfl ?_
 | ((first
 | ((first | refine gR fp18 ?_ | refine gD 6 16 [0, 1, 2, 3, 4, 5, 6, 7, 8, 9, 10, 11, 12, 13, 14, 16, 15, 17, 18] fp18 ?_); intro K hK)
 | (refine ab ?_ ?_ <;> intro hb <;> (try simp only [bls] at hb) <;> (try simp only [hb]))
 | refine gRe [] [.tmp 2] rfl rfl ?_) <;> (try simp only [go_sem, simprocAttr, e4]))
 | (refine hK _ _ ?_; clear hK K; simp only [go_sem, simprocAttr])
 | refine gCd ?_ | refine brT ?_ | refine brF ?_
 | (refine brS ?_ ?_ <;> intro hc <;> (try simp only [bls] at hc) <;> (try simp only [hc, bls]))
 | intro _ | refine And.intro ?_ ?_)
     all_goals try exact zsd
  ·simp only [k2, decide_false, Bool.false_and, Bool.and_false] at hO
   subst hO
   clear hS hI' hK hU hE
   have k2' : ¬ s0 = ⟨#[115, 116, 97, 114, 116]⟩ := k2
   refine ah.enter Tryz.func18 rfl (by kernel_rfl) (Nat.le_of_ble_eq_true rfl) ?_; simp only [ai, Nat.reduceAdd]
   repeat' (first
 | refine gCt rfl ?_
 | ((first
 | ((first | refine gR fp18 ?_ | refine gD 6 16 [0, 1, 2, 3, 4, 5, 6, 7, 8, 9, 10, 11, 12, 13, 14, 16, 15, 17, 18] fp18 ?_); intro K hK)
 | (refine ab ?_ ?_ <;> intro hb <;> (try simp only [bls] at hb) <;> (try simp only [hb]))
 | refine gRe [] [.tmp 2] rfl rfl ?_) <;> (try simp only [go_sem, simprocAttr, hz1, k1, hx0, hz, k2']))
 | (refine hK _ _ ?_; clear hK K; simp only [go_sem, simprocAttr])
 | refine gCd ?_ | refine brT ?_ | refine brF ?_
 | (refine brS ?_ ?_ <;> intro hc <;> (try simp only [bls] at hc) <;> (try simp only [hc, bls]))
 | intro _ | refine And.intro ?_ ?_)
   all_goals try exact zsd
theorem zt (fl : Bool) (X : List Node) (h : az X = true) : ah Tryz.prog 44 [.sl true fl (nodes X)] [] fun r s => r = .sl true false (nodes (dZ X)) ∧ s = [] := by
 refine ah.Ei 0 (vD (P := Tryz.prog) (f := 44) rfl (by kernel_rfl) (by kernel_rfl)) rfl fun hfit => ?_
 refine Cj true fl X (by have := (bH h).2.2.2; unfold maxLen; omega) (dT h) fun n hn => ?_
 obtain ⟨i, hi⟩ := List.mem_iff_getElem?.1 hn
 have hm : (nodes X)[i]? = some n.cells := by simp [nodes, hi]
 exact ⟨hfit i 1 _ _ _ hm rfl, hfit i 2 _ _ _ hm rfl, hfit i 3 _ _ _ hm rfl, hfit i 4 _ _ _ hm rfl⟩
theorem qd (F : Fl) (i : Int) (hi : fits .i64 i) (hF : gQ F) (hlen : ∀ r ∈ F.rules, r.l.length ≤ maxLen) :
  ah Tryz.prog 19 [.agg F.cells, .int .i64 i] [] fun v s => (∃ fl, v = .tup [.sl true fl (nodes (bS F i).1), .int .i64 (bS F i).2]) ∧ s = [] := by
 have hR := oc F hF hlen
 obtain ⟨O, hO⟩ : ∃ O, O = bS F i := ⟨_, rfl⟩
 rw [← hO]
 unfold bS at hO
 have hrt : bG F = true → ∀ r ∈ F.rules, (ay r.l F.defs).2 = 0 := fun h r hr => ry (gH h hr)
 generalize bG F = B at hR hO hrt
 cases B
 ·simp only [Bool.false_eq_true, if_false] at hO
  subst hO
  clear hF hrt hlen
  obtain ⟨cs, ds, rs⟩ := F
  simp only at *
  refine ah.enter Tryz.func19 rfl (by kernel_rfl) (Nat.le_of_ble_eq_true rfl) ?_; simp only [ai, Nat.reduceAdd]
  repeat' (first
 | refine gCt rfl ?_
 | ((first
 | ((first | refine gR fp19 ?_ | refine gD 5 8 eb fp19 ?_); intro K hK)
 | refine cAl (hR) rfl rfl rfl ?_
 | (refine ab ?_ ?_ <;> intro hb <;> (try simp only [bls] at hb) <;> (try simp only [hb]))
 | refine gRe [] [.tmp 4, .tmp 5] rfl rfl ?_) <;> (try simp only [go_sem, simprocAttr]))
 | (refine hK _ _ ?_; clear hK K; simp only [go_sem, simprocAttr])
 | refine gCd ?_ | refine brT ?_ | refine brF ?_
 | (refine brS ?_ ?_ <;> intro hc <;> (try simp only [bls] at hc) <;> (try simp only [hc, bls]))
 | intro _ | refine And.intro ?_ ?_)
  all_goals first | exact zsd | exact ⟨_, rfl⟩
 simp only [if_true] at hO
 by_cases k1 : i < 0
 ·simp only [k1, decide_true, if_true] at hO
  subst hO
  clear hF hrt hlen
  obtain ⟨cs, ds, rs⟩ := F
  simp only at *
  refine ah.enter Tryz.func19 rfl (by kernel_rfl) (Nat.le_of_ble_eq_true rfl) ?_; simp only [ai, Nat.reduceAdd]
  repeat' (first
 | refine gCt rfl ?_
 | ((first
 | ((first | refine gR fp19 ?_ | refine gD 5 8 eb fp19 ?_); intro K hK)
 | refine cAl (hR) rfl rfl rfl ?_
 | (refine ab ?_ ?_ <;> intro hb <;> (try simp only [bls] at hb) <;> (try simp only [hb]))
 | refine gRe [] [.tmp 4, .tmp 5] rfl rfl ?_) <;> (try simp only [go_sem, simprocAttr, k1]))
 | (refine hK _ _ ?_; clear hK K; simp only [go_sem, simprocAttr])
 | refine gCd ?_ | refine brT ?_ | refine brF ?_
 | (refine brS ?_ ?_ <;> intro hc <;> (try simp only [bls] at hc) <;> (try simp only [hc, bls]))
 | intro _ | refine And.intro ?_ ?_)
  all_goals first | exact zsd | exact ⟨_, rfl⟩
 simp only [k1, decide_false, Bool.false_eq_true, if_false] at hO
 obtain ⟨n, rfl⟩ : ∃ n : Nat, i = n := ⟨i.toNat, by omega⟩
 rw [Int.toNat_natCast] at hO
 by_cases k2 : n < F.rules.length
 ·have k3 : ¬ (F.rules.length : Int) ≤ n := by omega
  have k4 : (n : Int) < F.rules.length := by omega
  have hm := List.getElem_mem k2
  have hx : F.rules[n]? = some F.rules[n] := List.getElem?_eq_getElem k2
  have he := hrt rfl _ hm
  have hln := hlen _ hm
  obtain ⟨_, _, hd1, hd2, _, hru⟩ := hF
  have hr3 := (hru _ hm).2.2
  rw [hx] at hO
  generalize F.rules[n] = r at hx he hr3 hO hln
  have hE := (kV true false true false r.l F.defs hln hr3 hd1 hd2).flat
  obtain ⟨X, hX⟩ : ∃ X, X = (ay r.l F.defs).1 := ⟨_, rfl⟩
  have hx2 := iP (show ay r.l F.defs = (X, 0) by rw [hX, ← he])
  rw [he, ← hX] at hE
  simp only at hO
  rw [← hX] at hO
  have hXr := hx2.2.2.1
  clear hX hx2
  clear hd2 hru hrt hm hlen
  obtain ⟨cs, ds, rs⟩ := F
  obtain ⟨rc, rf, rl, rk, rt, rp, rn⟩ := r
  simp only at *
  cases rf
  ·simp only [Bool.false_eq_true, if_false] at hO
   subst hO
   refine ah.enter Tryz.func19 rfl (by kernel_rfl) (Nat.le_of_ble_eq_true rfl) ?_; simp only [ai, Nat.reduceAdd]
   repeat' (first
 | refine gCt rfl ?_
 | ((first
 | ((first | refine gR fp19 ?_ | refine gD 5 14 eb fp19 ?_); intro K hK)
 | refine cAl (hR) rfl rfl rfl ?_
 | refine ⟨_, ah.alone (hE) rfl rfl rfl, ?_⟩
 | (refine ab ?_ ?_ <;> intro hb <;> (try simp only [bls] at hb) <;> (try simp only [hb]))
 | refine gRe [] [.tmp 4, .tmp 5] rfl rfl ?_) <;> (try simp only [go_sem, simprocAttr, k1, k3, k4, hx, Option.some.injEq, forall_eq']))
 | (refine hK _ _ ?_; clear hK K; simp only [go_sem, simprocAttr])
 | refine gCd ?_ | refine brT ?_ | refine brF ?_
 | (refine brS ?_ ?_ <;> intro hc <;> (try simp only [bls] at hc) <;> (try simp only [hc, bls]))
 | intro _ | refine And.intro ?_ ?_)
   all_goals first | exact zsd | exact ⟨_, rfl⟩
  ·simp only [if_true] at hO
   subst hO
   have hFo := fun fl => zt fl X hXr
   refine ah.enter Tryz.func19 rfl (by kernel_rfl) (Nat.le_of_ble_eq_true rfl) ?_; simp only [ai, Nat.reduceAdd]
   repeat' (first
 | refine gCt rfl ?_
 | ((first
 | ((first | refine gR fp19 ?_ | refine gD 5 14 eb fp19 ?_); intro K hK)
 | refine cAl (hR) rfl rfl rfl ?_
 | refine cAl (hFo _) rfl rfl rfl ?_
 | refine ⟨_, ah.alone (hE) rfl rfl rfl, ?_⟩
 | (refine ab ?_ ?_ <;> intro hb <;> (try simp only [bls] at hb) <;> (try simp only [hb]))
 | refine gRe [] [.tmp 4, .tmp 5] rfl rfl ?_) <;> (try simp only [go_sem, simprocAttr, k1, k3, k4, hx, Option.some.injEq, forall_eq']))
 | (refine hK _ _ ?_; clear hK K; simp only [go_sem, simprocAttr])
 | refine gCd ?_ | refine brT ?_ | refine brF ?_
 | (refine brS ?_ ?_ <;> intro hc <;> (try simp only [bls] at hc) <;> (try simp only [hc, bls]))
 | intro _ | refine And.intro ?_ ?_)
   all_goals first | exact zsd | exact ⟨_, rfl⟩
 ·have k3 : (F.rules.length : Int) ≤ n := by omega
  rw [List.getElem?_eq_none (by omega)] at hO
  subst hO
  clear hF hrt hlen
  obtain ⟨cs, ds, rs⟩ := F
  simp only at *
  refine ah.enter Tryz.func19 rfl (by kernel_rfl) (Nat.le_of_ble_eq_true rfl) ?_; simp only [ai, Nat.reduceAdd]
  repeat' (first
 | refine gCt rfl ?_
 | ((first
 | ((first | refine gR fp19 ?_ | refine gD 5 8 eb fp19 ?_); intro K hK)
 | refine cAl (hR) rfl rfl rfl ?_
 | (refine ab ?_ ?_ <;> intro hb <;> (try simp only [bls] at hb) <;> (try simp only [hb]))
 | refine gRe [] [.tmp 4, .tmp 5] rfl rfl ?_) <;> (try simp only [go_sem, simprocAttr, k1, k3]))
 | (refine hK _ _ ?_; clear hK K; simp only [go_sem, simprocAttr])
 | refine gCd ?_ | refine brT ?_ | refine brF ?_
 | (refine brS ?_ ?_ <;> intro hc <;> (try simp only [bls] at hc) <;> (try simp only [hc, bls]))
 | intro _ | refine And.intro ?_ ?_)
  all_goals first | exact zsd | exact ⟨_, rfl⟩
end Go.Rad
namespace Go.Rad
open Go Go.Sort
abbrev fu (l : List Int) : List Int := l.mergeSort fun x y => decide (x ≤ y)
def yR (P : Program) (f : Nat) : Prop := ∀ (blk off cap : Nat) (zs : List Int) (w : World), Holds (Value.int .i64) w blk off zs.toArray → blk < w.heap.size → zs.length < 4611686018427387904 →
 Calls P f #[.slice (some ⟨blk, off, none⟩) zs.length cap] w fun e w' => e = .returned (.tuple #[]) ∧ ∃ n os, w' = grow (putRow (Value.int .i64) (Sort.ahead w n) blk off (fu zs).toArray) os
theorem sG {w : World} {g n : Nat} {os : Array Obj} {cur : Array Value} {e : TypeId} {fr : Nat × Nat} (d : Array Int) (hb : w.heap[g]? = some (.cells cur e fr)) :
  (grow (putRow (Value.int .i64) (Sort.ahead w n) g 0 d) os).heap[g]? = some (.cells (putCells (Value.int .i64) 0 d cur) e fr) := by
 have hg : g < w.heap.size := (Array.getElem?_eq_some_iff.1 hb).1
 rw [heap_grow_old _ _ (by simpa [putRow, mapBlock, Sort.ahead] using hg)]
 simp [putRow, mapBlock, Sort.ahead, Array.getElem?_modify, hb, onCells]
theorem ah.wA {P : Program} {f : Nat} (able : du P f) (id g : Nat) {l full : List Int} (n' : Nat) (hl : l ≠ []) (hfl : full.length = l.length) (hn' : n' ≤ full.length) (hfit : ∀ k ∈ full, k ∈ l ∨ k = 0) (res : aa) (val : Nat → Nat → Value)
  (hval : ∀ G b cap, G.M id g = some ⟨some b, cap, 1⟩ → n' ≤ cap → n' ≤ ao → Rep G true res (val b cap))
  (hS : ∀ (blk cap : Nat) (w : World), Holds (Value.int .i64) w blk 0 l.toArray → blk < w.heap.size → l.length < 4611686018427387904 → l.length ≤ cap →
   Calls P f #[.slice (some ⟨blk, 0, none⟩) l.length cap] w fun e w' => e = .returned (val blk cap) ∧ ∃ n os, w' = grow (putRow (Value.int .i64) (Sort.ahead w n) blk 0 full.toArray) os) :
  ah P f [.osl id g 0 l.length] [(id, (g, .row 1 (ints l)))] fun r s => r = res ∧ s = [(id, (g, .row 1 (ints (full.take n'))))] := by
 refine ⟨able, fun G w cargs hw hs ha => ?_⟩
 have hget : ak [(id, (g, bc.row 1 (ints l)))] id = some (g, .row 1 (ints l)) := by simp [ak]
 have hlen : 0 < l.length := List.length_pos_iff.2 hl
 obtain ⟨ob, cap, esz, a, hv, hM, hcap, hbig, hcn, _, ha0⟩ := Rep.dD (ha.2 0 _ rfl)
 obtain ⟨ob', cap', hM', o1, o2, _, _, _, o6, o7⟩ := hs.obj _ _ _ hget
 rw [hM] at hM'
 simp only [Option.some.injEq, Hd.mk.injEq] at hM'
 obtain ⟨rfl, rfl, rfl⟩ := hM'
 obtain ⟨b, rfl⟩ : ∃ b, ob = some b := by
  cases ob with
  | none => have := hcn rfl; omega
  | some b => exact ⟨b, rfl⟩
 have hadr := ha0 b rfl rfl
 subst hadr
 obtain ⟨hF, hcm, c, e, ⟨fr, hb, hfr⟩, hcs, hrep⟩ := o7 b rfl
 have hsz : cargs = #[.slice (some ⟨b, 0, none⟩) l.length cap] := by
  have h1 : cargs.size = 1 := by have := ha.1; simp at this; omega
  refine Array.ext (by simp [h1]) fun i h2 h3 => ?_
  have : i = 0 := by simp at h3; omega
  subst this
  simpa [Array.getD, h1] using hv
 have hcell : ∀ (j : Nat) (x : Int), l[j]? = some x → c[j]? = some (.int .i64 x) ∧ fits .i64 x := by
  intro j x hx
  have hj := (List.getElem?_eq_some_iff.1 hx).1
  have h1 := hrep j 0 [.int .i64 x] (.int .i64 x) (by simp [hx]) rfl
  obtain ⟨h2, h3⟩ := Rep.aK h1
  have hlt : j < c.size := by rw [hcs]; omega
  rw [show j * 1 + 0 = j by omega, Array.getD_eq_getD_getElem?, Array.getElem?_eq_getElem hlt] at h2
  exact ⟨by rw [Array.getElem?_eq_getElem hlt]; exact congrArg some h2, h3⟩
 have hblt : b < w.heap.size := (Array.getElem?_eq_some_iff.1 hb).1
 have hH : Holds (Value.int .i64) w b 0 l.toArray := by
  intro j hj
  have hj' : j < l.length := by simpa using hj
  have h1 := (hcell j l[j] (List.getElem?_eq_getElem hj')).1
  refine ⟨?_, ?_⟩
  rotate_left
  ·obtain ⟨lo, hi'⟩ := fr
   have hlt : j < c.size := by rw [hcs]; omega
   simp only at hfr
   simp only [World.frozen?, hb, Bool.and_eq_false_iff, decide_eq_false_iff_not]
   omega
  rw [cell_of_row w b (0 + j) c e fr hb, Nat.zero_add, h1]
  simp [hj']
 rw [hsz]
 have hcl := hS b cap w hH hblt (by unfold ao at hbig; omega) (by omega)
 refine hcl.mono fun en w' h => ?_
 obtain ⟨rfl, n, os, rfl⟩ := h
 have hsl : (full.take n').length ≤ l.length := by simp; omega
 have htl : (full.take n').length = n' := by simp; omega
 have hints : ∀ (l' : List Int) (i : Nat) (x : List aa), (ints l')[i]? = some x → ∃ k, l'[i]? = some k ∧ x = [.int .i64 k] := fun l' i x hx => by
  obtain ⟨k, h1, h2⟩ := zD _ _ _ hx; exact ⟨k, h1, h2⟩
 have hobj : bW G (grow (putRow (Value.int .i64) (Sort.ahead w n) b 0 full.toArray) os) id g (.row 1 (ints (full.take n'))) := by
  refine ⟨some b, cap, hM, ?_, ?_, Nat.one_pos, ?_, ?_, ?_, ?_⟩
  ·simp only [List.length_map]; omega
  ·simp only [List.length_map] at o2 ⊢; omega
  ·intro i x hx; obtain ⟨k, _, rfl⟩ := hints _ _ _ hx; rfl
  ·intro i j x y hx hy
   obtain ⟨k, _, rfl⟩ := hints _ _ _ hx
   cases j with
   | zero => simp only [List.getElem?_cons_zero, Option.some.injEq] at hy; subst hy; rfl
   | succ j => simp at hy
  ·intro h; cases h
  ·intro b' hb'
   have : b' = b := by cases hb'; rfl
   subst this
   refine ⟨hF, hcm, _, e, ⟨fr, sG full.toArray hb, by simpa [putCells] using hfr⟩, ?_, ?_⟩
   ·simp [putCells, hcs]
   ·intro i j x y hx hy
    obtain ⟨k, hk, rfl⟩ := hints _ _ _ hx
    cases j with
    | succ j => simp at hy
    | zero =>
     simp only [List.getElem?_cons_zero, Option.some.injEq] at hy
     subst hy
     have hi := (List.getElem?_eq_some_iff.1 hk).1
     have hil : i < c.size := by rw [hcs]; omega
     have hkf : full[i]? = some k := by rw [List.getElem?_take] at hk; split at hk <;> first | exact hk | cases hk
     have hif := (List.getElem?_eq_some_iff.1 hkf).1
     have hft : fits .i64 k := by
      rcases hfit k (List.mem_of_getElem? hkf) with hmem | rfl
      ·obtain ⟨j2, hj2⟩ := List.mem_iff_getElem?.1 hmem
       exact (hcell j2 k hj2).2
      ·unfold fits; simp [IntKind.wrap]; decide
     have e1 : (putCells (Value.int .i64) 0 full.toArray c).getD (i * 1 + 0) undef = .int .i64 k := by
      rw [show i * 1 + 0 = i by omega, Array.getD_eq_getD_getElem?]
      have hi2 : i < l.length := by omega
      simp [putCells, hil, hif]
      exact (List.getElem?_eq_some_iff.1 hkf).2
     rw [e1]
     exact .int hft
 obtain ⟨w1, s1⟩ := eE (w := w) (w' := grow (putRow (Value.int .i64) (Sort.ahead w n) b 0 full.toArray) os) (o' := .row 1 (ints (full.take n'))) ⟨rfl, rfl⟩ hw hs hget (by simp [grow, putRow, mapBlock, Sort.ahead])
  (fun k hk hne => by
   have hkb : b ≠ k := fun e => hne (by simp [au, hM, e])
   rw [heap_grow_old _ _ (by simpa [putRow, mapBlock, Sort.ahead] using hk)]
   simp [putRow, mapBlock, Sort.ahead, Array.getElem?_modify, hkb])
  hobj
 refine ⟨G, _, res, _, rfl, .refl G, w1, s1, hval G b cap hM (by omega) (by omega), rfl, ?_⟩
 simp [aF]
theorem ah.tp {P : Program} {f : Nat} (able : du P f) (id g : Nat) (res : aa) (val : Option Addr → Nat → Value)
  (hval : ∀ G a cap, Rep G true (.osl id g 0 0) (.slice a 0 cap) → True → Rep G true res (val a cap))
  (hS : ∀ (a : Option Addr) (cap : Nat) (w : World), Calls P f #[.slice a 0 cap] w fun e w' => e = .returned (val a cap) ∧ w' = w) :
  ah P f [.osl id g 0 0] [(id, (g, .row 1 (ints [])))] fun r s => r = res ∧ s = [(id, (g, .row 1 (ints [])))] := by
 refine ⟨able, fun G w cargs hw hs ha => ?_⟩
 have hrep := ha.2 0 _ rfl
 obtain ⟨ob, cap, esz, a, hv, _⟩ := Rep.dD hrep
 have hsz : cargs = #[.slice a 0 cap] := by
  have h1 : cargs.size = 1 := by have := ha.1; simp at this; omega
  refine Array.ext (by simp [h1]) fun i h2 h3 => ?_
  have : i = 0 := by simp at h3; omega
  subst this
  simpa [Array.getD, h1] using hv
 rw [hv] at hrep
 rw [hsz]
 refine (hS a cap w).mono fun e w' h => ?_
 obtain ⟨rfl, rfl⟩ := h
 exact ⟨G, _, res, _, rfl, .refl G, hw, hs, hval G a cap hrep trivial, rfl, rfl⟩
theorem iZ (l : List Int) : (fu l).length = l.length := (List.mergeSort_perm l _).length_eq
theorem ah.AQ {P : Program} {f : Nat} (able : du P f) (hS : yR P f) (h0 : ∀ (a : Option Addr) (cap : Nat) (w : World), Calls P f #[.slice a 0 cap] w fun e w' => e = .returned (.tuple #[]) ∧ w' = w) (id g : Nat) (l : List Int) :
  ah P f [.osl id g 0 l.length] [(id, (g, .row 1 (ints l)))] fun r s => r = .tup [] ∧ s = [(id, (g, .row 1 (ints (fu l))))] := by
 rcases List.eq_nil_or_concat l with rfl | hl
 ·rw [show fu [] = [] by simp [fu]]
  exact ah.tp able id g (.tup []) (fun _ _ => .tuple #[]) (fun G a cap _ _ => .tup (by simp) (fun j x hx => by simp at hx)) fun a cap w => h0 a cap w
 ·have hl : l ≠ [] := by obtain ⟨a, b, rfl⟩ := hl; simp
  have := ah.wA (P := P) (f := f) able id g (full := fu l) l.length hl (iZ l) (by rw [iZ]; exact Nat.le_refl _) (fun k hk => .inl ((List.mergeSort_perm l _).mem_iff.1 hk)) (.tup []) (fun _ _ => .tuple #[]) (fun _ _ _ _ _ _ => .tup (by simp) (fun j x hx => by simp at hx)) fun blk cap w h1 h2 h3 _ => hS blk 0 cap l w h1 h2 h3
  rw [show (fu l).take l.length = fu l by rw [← iZ l, List.take_length]] at this
  exact this
def rZ (P : Program) (f : Nat) : Prop := ∀ (blk off cap : Nat) (zs : List Int) (w : World), Holds (Value.int .i64) w blk off zs.toArray → zs.length ≤ 9223372036854775807 → zs.length ≤ cap →
 Calls P f #[.slice (some ⟨blk, off, none⟩) zs.length cap] w fun e w' => e = .returned (.slice (some ⟨blk, off, none⟩) (Lib.compact zs).length cap) ∧ ∃ q, w' = putRow (Value.int .i64) (Sort.ahead w q) blk off (Lib.compact zs ++ List.replicate (zs.length - (Lib.compact zs).length) 0).toArray
theorem sm (l : List Int) : (Lib.compact l).length ≤ l.length := by
 unfold Lib.compact Lib.compactUpTo
 simp only [List.length_map]
 exact Nat.le_trans (List.length_filter_le _ _) (by simp)
theorem lJ {l : List Int} {k : Int} (h : k ∈ Lib.compact l) : k ∈ l := by
 unfold Lib.compact Lib.compactUpTo at h
 obtain ⟨i, hi, rfl⟩ := List.mem_map.1 h
 have hi := List.mem_range.1 (List.mem_filter.1 hi).1
 simp [hi]
theorem ah.sk {P : Program} {f : Nat} (able : du P f) (hC : rZ P f) (h0 : ∀ (a : Option Addr) (cap : Nat) (w : World), Calls P f #[.slice a 0 cap] w fun e w' => e = .returned (.slice a 0 cap) ∧ w' = w) (id g : Nat) (l : List Int) :
  ah P f [.osl id g 0 l.length] [(id, (g, .row 1 (ints l)))] fun r s => r = .osl id g 0 (Lib.compact l).length ∧ s = [(id, (g, .row 1 (ints (Lib.compact l))))] := by
 rcases List.eq_nil_or_concat l with rfl | hl
 ·exact ah.tp able id g (.osl id g 0 0) (fun a cap => .slice a 0 cap) (fun G a cap h _ => h) fun a cap w => h0 a cap w
 ·have hl : l ≠ [] := by obtain ⟨a, b, rfl⟩ := hl; simp
  have hle := sm l
  have := ah.wA (P := P) (f := f) able id g (full := Lib.compact l ++ List.replicate (l.length - (Lib.compact l).length) 0) (Lib.compact l).length hl (by simp; omega) (by simp)
   (fun k hk => by
    rcases List.mem_append.1 hk with h | h
    ·exact .inl (lJ h)
    ·exact .inr (List.mem_replicate.1 h).2) (.osl id g 0 (Lib.compact l).length) (fun b cap => .slice (some ⟨b, 0, none⟩) (Lib.compact l).length cap)
   (fun G b cap h h1 h2 => .osl h (by omega) h2 (fun h => nomatch h) (fun b' hb _ => by cases hb; rfl) (fun b' hb _ => by cases hb; rfl)) fun blk cap w h1 h2 h3 h4 => (hC blk 0 cap l w h1 (by omega) h4).mono fun e w' h => by
    obtain ⟨h, q, rfl⟩ := h
    exact ⟨h, q, #[], by simp⟩
  rw [List.take_left] at this
  exact this
end Go.Rad
namespace Go.Rad
open Go
def jP (P : Program) (f : Nat) : Prop := (∀ (a : Option Addr) (w : World), Calls P f #[.slice a 0 0, .int .i64 0] w fun e w' => e = .returned (.slice a 0 0) ∧ w' = w) ∧
 ∀ (a : Option Addr) (n : Nat) (w : World), 0 < n → n * 8 ≤ 140737488355328 → Calls P f #[.slice a 0 0, .int .i64 n] w fun e w' => ∃ (cap : Nat) (cs : Array Value) (t : TypeId), cap ≤ maxLen ∧ cs.size = cap ∧ e = .returned (.slice (some ⟨w.heap.size, 0, none⟩) 0 cap) ∧ w' = w.drew.alloc (.cells cs t)
theorem ah.Ct {P : Program} {f : Nat} (able : du P f) (hG : jP P f) (d : Nat) (n : Nat) (hn : n * 8 ≤ 140737488355328) :
  ah P f [.sl true true [], .int .i64 n] [] fun r s => ∃ g, r = .osl d g 0 0 ∧ s = [(d, (g, .row 1 []))] := by
 refine ⟨able, fun G w cargs hw hs ha => ?_⟩
 obtain ⟨a, cap, hv, _, _, hfull⟩ := Rep.fE (ha.2 0 _ rfl)
 have hcap : cap = 0 := hfull rfl
 subst hcap
 obtain ⟨h2, h3⟩ := Rep.aK (ha.2 1 _ rfl)
 have hsz : cargs = #[.slice a 0 0, .int .i64 n] := by
  have h1 : cargs.size = 2 := by have := ha.1; simp at this; omega
  refine Array.ext (by simp [h1]) fun i h4 h5 => ?_
  have : i = 0 ∨ i = 1 := by simp at h5; omega
  rcases this with rfl | rfl
  ·simpa [Array.getD, h1] using hv
  ·simpa [Array.getD, h1] using h2
 rw [hsz]
 rcases Nat.eq_zero_or_pos n with rfl | h0
 ·refine (hG.1 a w).mono fun e w' h => ?_
  obtain ⟨rfl, rfl⟩ := h
  obtain ⟨b1, b2, b3⟩ := dV (w := w') (w' := w') (id := d) (o := .row 1 []) (hd := ⟨none, 0, 1⟩) (Kept.refl _) hw hs (Nat.le_refl _) (fun _ _ _ => rfl) (fun b hb => by cases hb)
   ⟨none, 0, bU _ _ _, Nat.le_refl _, Nat.zero_le _, Nat.one_pos, fun i x hx => by simp at hx, fun i j x y hx => by simp at hx, fun _ => rfl, fun b hb => by cases hb⟩
  exact ⟨_, _, .osl d G.N 0 0, _, rfl, b1, b2, b3, .osl (bU _ _ _) (Nat.le_refl _) (Nat.zero_le _) (fun _ => rfl) (fun b hb => by cases hb) (fun b hb => by cases hb), G.N, rfl, rfl⟩
 ·refine (hG.2 a n w h0 hn).mono fun e w' h => ?_
  obtain ⟨cap, cs, t, h1, h2, rfl, rfl⟩ := h
  obtain ⟨b1, b2, b3⟩ := dV (w := w) (w' := w.drew.alloc (.cells cs t)) (id := d) (o := .row 1 []) (hd := ⟨some w.heap.size, cap, 1⟩) ((Kept.drew w).trans (Kept.alloc _ _ _)) hw hs (by simp) (fun b hb _ => by first | exact heap_alloc_old w.drew _ b hb | exact heap_alloc_old w.drew _ hb) (fun b hb => by cases hb; exact ⟨by simp, .inl (Nat.le_refl _)⟩)
   ⟨some w.heap.size, cap, bU _ _ _, Nat.zero_le _, Nat.zero_le _, Nat.one_pos, fun i x hx => by simp at hx, fun i j x y hx => by simp at hx, fun h => (nomatch h), fun b hb => by
    cases hb
    exact ⟨show G.F w.heap.size = none from gn hw, h1, cs, t, .zero (heap_alloc_new w.drew _), by simp [h2], fun i j x y hx => by simp at hx⟩⟩
  exact ⟨_, _, .osl d G.N 0 0, _, rfl, b1, b2, b3, .osl (bU _ _ _) (Nat.zero_le _) (Nat.zero_le _) (fun h => nomatch h) (fun b hb _ => by cases hb; rfl) (fun b hb _ => by cases hb; rfl), G.N, rfl, rfl⟩
theorem ah.give {P : Program} {f : Nat} {args : List aa} {sto0 : Sto} {id : Nat} {l : List (List aa)} (h : ah P f args sto0 fun r s => ∃ g, r = .osl id g 0 l.length ∧ s = [(id, (g, .row 1 l))]) : ah P f args sto0 fun r s => r = .sl true false l ∧ s = [] :=
 ⟨h.able, fun G w cargs hw hs ha => (h.calls G w cargs hw hs ha).mono fun e w' p => by
  obtain ⟨H, cr, r, s, rfl, hx, hw', hs', hr, g, rfl, rfl⟩ := p
  obtain ⟨G', hext, hw2, hs2, hR⟩ := gK (id := id) hw' hs' (g := g) (esz := 1) (l := l) (by simp [ak])
  have h1 := hR 0 l.length cr (by omega) hr
  rw [List.drop_zero, List.take_of_length_le (Nat.le_refl _)] at h1
  exact ⟨G', cr, _, _, rfl, hx.trans hext, hw2, by simpa [ca] using hs2, h1, rfl, rfl⟩⟩
end Go.Rad
namespace Go.Rad
open Go Go.Proofs
set_option linter.all false
set_option maxRecDepth 20000
set_option maxHeartbeats 4000000
end Go.Rad
namespace Go.Rad
open Go
theorem vR {nm : ByteArray → List Node → Out} (hnm : ∀ s out, (nm s out).2.2 ≠ 0) : ∀ (l : List Node) (A : List Int) (out : List Node), (goT nm l A out).2.2 = 0 → ∀ n ∈ l, n.op ≠ 6
 | [], _, _, _, n, hn => by simp at hn
 | m :: l, A, out, h, n, hn => by
  rw [goT] at h
  split at h
  ·rename_i he
   rcases List.mem_cons.1 hn with rfl | hn
   ·intro h6
    rw [stepT, if_pos h6] at he
    exact hnm _ _ he
   ·exact vR hnm l _ _ h n hn
  ·rename_i he; exact absurd h he
theorem uQ (f : Nat) (op : List ByteArray) (s : ByteArray) (out : List Node) : (aP [] f op s out).2.2 ≠ 0 := by
 cases f with
 | zero => simp [aP]
 | succ f => simp [aP, dJ]
theorem xR (l : List Node) : decide ((ay l []).2 = 0) = cg l := by
 rw [Bool.eq_iff_iff, decide_eq_true_eq]
 constructor
 ·intro h
  have hx : ay l [] = ((ay l []).1, 0) := Prod.ext rfl h
  obtain ⟨h1, _, _, _⟩ := iP hx
  simp only [cg, Bool.and_eq_true, List.all_eq_true]
  refine ⟨fun n hn => decide_eq_true ?_, by rw [← dE]; exact h1⟩
  rw [ay, if_pos ⟨h1, rfl⟩] at h
  split at h
  ·rename_i he
   exact vR (uQ _ _) l [] [] he n hn
  ·rename_i he; exact absurd h he
 ·intro h
  simp only [cg, Bool.and_eq_true, List.all_eq_true] at h
  rw [qD (fun n hn => of_decide_eq_true (h.1 n hn)) (by rw [dE]; exact h.2) rfl]
def repL (lo hi : Int) : Lb := ⟨5, av.none, lo, hi, ByteArray.empty⟩
namespace Fo
def CB : Fo → Bool
 | .node b _ _ => decide (b.op = 2)
 | .nil => false
end Fo
open Fo
abbrev PO := List Node × Int
def FOk (s : List Node → List Node × List Int) (f : Fo) : Prop := ∀ out, (out.length + f.size ≤ 1024 → s out = (out ++ f.lay out.length, f.roots out.length)) ∧ (1024 < out.length + f.size → 1024 < (s out).1.length)
def Jy (s t : List Node → List Node × List Int) (out : List Node) : List Node × List Int := ((t (s out).1).1, (s out).2 ++ (t (s out).1).2)
def wL (b : Lb) (s : List Node → List Node × List Int) (out : List Node) : List Node × List Int := ((s out).1 ++ [b.node (s out).2], [((s out).1.length : Int)])
abbrev nilS (out : List Node) : List Node × List Int := (out, [])
theorem FOk.nil : FOk nilS .nil := fun out => ⟨fun _ => by simp [lay, roots], fun h => by simpa [size] using h⟩
theorem FOk.seq {s t : List Node → List Node × List Int} {f g : Fo} (hs : FOk s f) (ht : FOk t g) : FOk (Jy s t) (f.app g) := by
 intro out
 rw [tC]
 by_cases h1 : out.length + f.size ≤ 1024
 ·have e := (hs out).1 h1
  have el : (out ++ f.lay out.length).length = out.length + f.size := by simp [cS]
  obtain ⟨t1, t2⟩ := ht (out ++ f.lay out.length)
  rw [el] at t1 t2
  refine ⟨fun h => ?_, fun h => ?_⟩
  ·simp only [Jy, e]
   rw [t1 (by omega), vV, pZ]
   simp
  ·simp only [Jy, e]
   exact t2 (by omega)
 ·have e := (hs out).2 (by omega)
  refine ⟨fun h => by omega, fun _ => ?_⟩
  exact (ht (s out).1).2 (by omega)
theorem FOk.wrap {s : List Node → List Node × List Int} {f : Fo} (b : Lb) (hs : FOk s f) : FOk (wL b s) (one b f) := by
 intro out
 simp only [size, Nat.add_zero]
 by_cases h1 : out.length + f.size ≤ 1024
 ·have e := (hs out).1 h1
  refine ⟨fun h => ?_, fun h => ?_⟩
  ·simp only [wL, e, lay, roots]
   simp [cS]
  ·simp only [wL, e]
   simp [cS]; omega
 ·have e := (hs out).2 (by omega)
  refine ⟨fun h => by omega, fun _ => ?_⟩
  simp only [wL, List.length_append]; omega
theorem FOk.guard {s s' : List Node → List Node × List Int} {f : Fo} (h : ∀ out, s' out = s out ∨ (1024 < (s' out).1.length ∧ 1024 < out.length + f.size)) (hs : FOk s f) : FOk s' f := by
 intro out
 rcases h out with e | ⟨e1, e2⟩
 ·rw [e]; exact hs out
 ·exact ⟨fun h => by omega, fun _ => e1⟩
end Go.Rad
namespace Go.Rad
open Go
variable {pl : List Node → PO} {C : Nat}
end Go.Rad
namespace Go.Rad
open Go
theorem hv {α : Type} {P : α → Prop} {G : Prop} (main : (∀ a, P a) → G) (key : ∀ a, P a) : G := main key
structure Keep (P : Prop) : Prop where
 out : P
theorem hv0 {P G : Prop} (main : Keep P → G) (key : P) : G := main ⟨key⟩
theorem hv2 {P : Nat → Nat → Prop} {G : Prop} (main : (∀ a b, Keep (P a b)) → G) (key : ∀ a b, P a b) : G := main fun a b => ⟨key a b⟩
structure Stop (G : Prop) : Prop where
 out : G
theorem tH {G : Prop} (h : Stop G) : G := h.out
theorem tG {G : Prop} (h : G) : Stop G := ⟨h⟩
end Go.Rad
namespace Go.Rad
open Go Go.Proofs
set_option linter.all false
set_option maxRecDepth 20000
set_option maxHeartbeats 4000000
end Go.Rad
namespace Go.Rad
open Go Go.Proofs
set_option linter.all false
set_option maxRecDepth 20000
set_option maxHeartbeats 4000000
theorem AG (q f q' f' : Bool) (l : List Tk) (hl : l.length ≤ 1000000) : ah Tryz.prog 24 [.sl q f (fY l), .sl q' f' (fY l)] [] fun r s => r = .bool true ∧ s = [] := by
 have hll : (fY l).length = l.length := by simp
 have hlx : ∀ (i : Nat) x, l[i]? = some x → (fY l)[i]? = some x.cells := fun i x h => by simp [h]
 generalize fY l = v at *
 refine ah.enter Tryz.func24 rfl (by kernel_rfl) (Nat.le_of_ble_eq_true rfl) ?_; simp only [ai, Nat.reduceAdd]
 repeat' (first
 | refine gCt rfl ?_
 | ((first
 | ((first | refine gR fp24 ?_ | refine gD 6 9 ro9 fp24 ?_); intro K hK)
 | (refine ab ?_ ?_ <;> intro hb <;> (try simp only [bls] at hb) <;> (try simp only [hb]))
 | refine gRe [] [.tmp 4] rfl rfl ?_) <;> (try simp only [go_sem, simprocAttr, hll]))
 | (refine hK _ _ ?_; clear hK K; simp only [go_sem, simprocAttr])
 | refine gCd ?_ | refine brT ?_ | refine brF ?_
 | (refine brS ?_ ?_ <;> intro hc <;> (try simp only [bls] at hc) <;> (try simp only [hc, bls]))
 | intro _ | refine And.intro ?_ ?_)
 all_goals try exact zsd
 refine ae.prune [0, 1, 4, 5] ?_; simp only [go_sem, simprocAttr]
 refine ae.al (α := Nat) (fun i => ([(0, .sl q f v), (1, .sl q' f' v), (4, .bool false), (5, .int .i64 i)], [])) (fun i => i ≤ l.length) (fun i => l.length - i) 0 (Nat.zero_le _) rfl ?_
 rintro i hi ih
 simp only at hi ih ⊢
 by_cases hle : i < l.length
 ·have e4 : (i : Int) < l.length := by omega
  have e5 : (0 : Int) ≤ i := by omega
  have e6 : (i : Int) + 1 = ((i + 1 : Nat) : Int) := by omega
  have hx := hlx i _ (List.getElem?_eq_getElem hle)
  generalize l[i] = k at hx
  obtain ⟨ka, kb, kc⟩ := k
  simp only [Tk.cells] at hx
  repeat' (first
 | refine gCt rfl ?_
 | ((first
 | ((first | refine gR fp24 ?_ | refine gD 6 9 ro9 fp24 ?_); intro K hK)
 | (refine ab ?_ ?_ <;> intro hb <;> (try simp only [bls] at hb) <;> (try simp only [hb]))
 | refine gRe [] [.tmp 4] rfl rfl ?_) <;> (try simp only [go_sem, simprocAttr, e4, e5, e6, hll, hx, la, Option.some.injEq, forall_eq']))
 | (refine hK _ _ ?_; clear hK K; simp only [go_sem, simprocAttr])
 | refine gCd ?_ | refine brT ?_ | refine brF ?_
 | (refine brS ?_ ?_ <;> intro hc <;> (try simp only [bls] at hc) <;> (try simp only [hc, bls]))
 | intro _ | refine And.intro ?_ ?_)
  all_goals try exact zsd
  all_goals try rfl
  refine ae.prune [0, 1, 4, 5] ?_; simp only [go_sem, simprocAttr]
  exact (ih (i + 1) (by omega) (by omega)).cast rfl rfl
 ·have e4 : ¬ (i : Int) < l.length := by omega
  clear ih
  repeat' (first
 | refine gCt rfl ?_
 | ((first
 | ((first | refine gR fp24 ?_ | refine gD 6 9 ro9 fp24 ?_); intro K hK)
 | (refine ab ?_ ?_ <;> intro hb <;> (try simp only [bls] at hb) <;> (try simp only [hb]))
 | refine gRe [] [.tmp 4] rfl rfl ?_) <;> (try simp only [go_sem, simprocAttr, e4, hll]))
 | (refine hK _ _ ?_; clear hK K; simp only [go_sem, simprocAttr])
 | refine gCd ?_ | refine brT ?_ | refine brF ?_
 | (refine brS ?_ ?_ <;> intro hc <;> (try simp only [bls] at hc) <;> (try simp only [hc, bls]))
 | intro _ | refine And.intro ?_ ?_)
  all_goals try exact zsd
end Go.Rad
namespace Go.Rad
open Go Go.Proofs
set_option linter.all false
set_option maxRecDepth 20000
set_option maxHeartbeats 4000000
theorem n5 (w : ByteArray) (hw : w.size ≤ 1000000) : ah Tryz.prog 72 [.str w] [] fun r s => ∃ h, r = .osl 6 h 0 (w.size + 1) ∧ s = [(6, (h, .row 1 (br (aY (w.size + 1)))))] := by
 have e1 : (w.size : Int) + 1 = ((w.size + 1 : Nat) : Int) := by omega
 have e2 : List.map (List.map c8) (List.replicate (w.size + 1) [aa.bool false]) = br (aY (w.size + 1)) := by simp [aY, c8]
 refine ah.enter Tryz.func72 rfl (by kernel_rfl) (Nat.le_of_ble_eq_true rfl) ?_; simp only [ai, Nat.reduceAdd]
 repeat' (first
 | refine gCt rfl ?_
 | ((first
 | ((first | refine gR fp72 ?_); intro K hK)
 | (refine ab ?_ ?_ <;> intro hb <;> (try simp only [bls] at hb) <;> (try simp only [hb]))
 | refine gRe [6] [.tmp 2] rfl rfl ?_) <;> (try simp only [go_sem, simprocAttr, e1, e2]))
 | (refine hK _ _ ?_; clear hK K; simp only [go_sem, simprocAttr])
 | refine gCd ?_ | refine brT ?_ | refine brF ?_
 | (refine brS ?_ ?_ <;> intro hc <;> (try simp only [bls] at hc) <;> (try simp only [hc, bls]))
 | intro _ | refine And.intro ?_ ?_)
 all_goals try exact zsd
 rename_i h
 exact ⟨h, rfl, by simp [aY, c8, List.replicate_succ]⟩
theorem wC (q f q' f' : Bool) (a b : List Bool) (h : a.length = b.length) (hl : a.length ≤ 1000001) : ah Tryz.prog 120 [.sl q f (br a), .sl q' f' (br b)] [] fun r s => r = .bool (decide (a = b)) ∧ s = [] := by
 obtain ⟨S, hS⟩ : ∃ S : Bool, S = decide (a = b) := ⟨_, rfl⟩
 rw [← hS]
 refine ah.enter Tryz.func120 rfl (by kernel_rfl) (Nat.le_of_ble_eq_true rfl) ?_; simp only [ai, Nat.reduceAdd]
 repeat' (first
 | refine gCt rfl ?_
 | ((first
 | ((first | refine gR fp120 ?_ | refine gD 4 9 ro9 fp120 ?_); intro K hK)
 | (refine ab ?_ ?_ <;> intro hb <;> (try simp only [bls] at hb) <;> (try simp only [hb]))
 | refine gRe [] [.tmp 4] rfl rfl ?_) <;> (try simp only [go_sem, simprocAttr]))
 | (refine hK _ _ ?_; clear hK K; simp only [go_sem, simprocAttr])
 | refine gCd ?_ | refine brT ?_ | refine brF ?_
 | (refine brS ?_ ?_ <;> intro hc <;> (try simp only [bls] at hc) <;> (try simp only [hc, bls]))
 | intro _ | refine And.intro ?_ ?_)
 all_goals try exact zsd
 refine ae.prune [0, 1, 4, 5] ?_; simp only [go_sem, simprocAttr]
 refine ae.al (α := Nat) (fun i => ([(0, .sl q f (br a)), (1, .sl q' f' (br b)), (4, .bool false), (5, .int .i64 i)], [])) (fun i => i ≤ a.length ∧ S = decide (a.drop i = b.drop i)) (fun i => a.length - i) 0 ⟨Nat.zero_le _, by simpa using hS⟩ rfl ?_
 rintro i ⟨hi, hrun⟩ ih
 simp only at hi hrun ih ⊢
 by_cases hle : i < a.length
 ·have e4 : (i : Int) < a.length := by omega
  have e5 : (0 : Int) ≤ i := by omega
  have e6 : (i : Int) < b.length := by omega
  have e7 : (i : Int) + 1 = ((i + 1 : Nat) : Int) := by omega
  have ha : a[i]? = some a[i] := List.getElem?_eq_getElem hle
  have hb : b[i]? = some (b[i]'(by omega)) := List.getElem?_eq_getElem (by omega)
  rw [List.drop_eq_getElem_cons hle, List.drop_eq_getElem_cons (by omega : i < b.length)] at hrun
  generalize a[i] = x at ha hrun
  generalize b[i]'(by omega) = y at hb hrun
  by_cases hxy : x = y
  ·subst hxy
   simp only [List.cons.injEq, true_and] at hrun
   repeat' (first
 | refine gCt rfl ?_
 | ((first
 | ((first | refine gR fp120 ?_ | refine gD 4 9 ro9 fp120 ?_); intro K hK)
 | (refine ab ?_ ?_ <;> intro hb <;> (try simp only [bls] at hb) <;> (try simp only [hb]))
 | refine gRe [] [.tmp 4] rfl rfl ?_) <;> (try simp only [go_sem, simprocAttr, e4, e5, e6, e7, ha, hb, bne_self_eq_false, beq_self_eq_true, Option.some.injEq, forall_eq']))
 | (refine hK _ _ ?_; clear hK K; simp only [go_sem, simprocAttr])
 | refine gCd ?_ | refine brT ?_ | refine brF ?_
 | (refine brS ?_ ?_ <;> intro hc <;> (try simp only [bls] at hc) <;> (try simp only [hc, bls]))
 | intro _ | refine And.intro ?_ ?_)
   all_goals try exact zsd
   refine ae.bC [] ?_
   simp only [aq, ax, go_sem, simprocAttr]
   refine ae.prune [0, 1, 4, 5] ?_; simp only [go_sem, simprocAttr]
   exact (ih (i + 1) ⟨by omega, hrun⟩ (by omega)).cast rfl rfl
  ·rw [decide_eq_false (fun h => hxy (List.cons.inj h).1)] at hrun
   subst hrun
   have hb1 : (x == y) = false := by simpa using hxy
   repeat' (first
 | refine gCt rfl ?_
 | ((first
 | ((first | refine gR fp120 ?_ | refine gD 4 9 ro9 fp120 ?_); intro K hK)
 | (refine ab ?_ ?_ <;> intro hb <;> (try simp only [bls] at hb) <;> (try simp only [hb]))
 | refine gRe [] [.tmp 4] rfl rfl ?_) <;> (try simp only [go_sem, simprocAttr, e4, e5, e6, e7, ha, hb, hb1, Option.some.injEq, forall_eq']))
 | (refine hK _ _ ?_; clear hK K; simp only [go_sem, simprocAttr])
 | refine gCd ?_ | refine brT ?_ | refine brF ?_
 | (refine brS ?_ ?_ <;> intro hc <;> (try simp only [bls] at hc) <;> (try simp only [hc, bls]))
 | intro _ | refine And.intro ?_ ?_)
   all_goals try exact zsd
 ·have e4 : ¬ (i : Int) < a.length := by omega
  rw [List.drop_eq_nil_of_le (by omega), List.drop_eq_nil_of_le (by omega), decide_eq_true rfl] at hrun
  subst hrun
  clear ih
  repeat' (first
 | refine gCt rfl ?_
 | ((first
 | ((first | refine gR fp120 ?_ | refine gD 4 9 ro9 fp120 ?_); intro K hK)
 | (refine ab ?_ ?_ <;> intro hb <;> (try simp only [bls] at hb) <;> (try simp only [hb]))
 | refine gRe [] [.tmp 4] rfl rfl ?_) <;> (try simp only [go_sem, simprocAttr, e4]))
 | (refine hK _ _ ?_; clear hK K; simp only [go_sem, simprocAttr])
 | refine gCd ?_ | refine brT ?_ | refine brF ?_
 | (refine brS ?_ ?_ <;> intro hc <;> (try simp only [bls] at hc) <;> (try simp only [hc, bls]))
 | intro _ | refine And.intro ?_ ?_)
  all_goals try exact zsd
def orP (a b : List Bool) (i : Nat) : List Bool := (orB a b).take i ++ a.drop i
theorem Dp {a b : List Bool} (h : a.length = b.length) {i : Nat} (hi : i ≤ a.length) : (orP a b i).length = a.length := by
 simp only [orP, List.length_append, List.length_take, List.length_drop, orB, List.length_zipWith]; omega
theorem Dn {a b : List Bool} (h : a.length = b.length) {i : Nat} {x y : Bool} (ha : a[i]? = some x) (hb : b[i]? = some y) : (orP a b i)[i]? = some x ∧ (orP a b i).set i (x || y) = orP a b (i + 1) := by
 have hi := (List.getElem?_eq_some_iff.1 ha).1
 have hl : ((orB a b).take i).length = i := by simp only [List.length_take, orB, List.length_zipWith]; omega
 have hd : a.drop i = x :: a.drop (i + 1) := by
  rw [List.drop_eq_getElem_cons hi]
  rw [List.getElem?_eq_getElem hi] at ha
  rw [Option.some.inj ha]
 have ho : (orB a b)[i]? = some (x || y) := by simp [orB, List.getElem?_zipWith, ha, hb]
 refine ⟨?_, ?_⟩
 ·rw [orP, List.getElem?_append_right (by omega), hl, Nat.sub_self, hd]; rfl
 ·rw [orP, List.set_append_right _ _ (by omega), hl, Nat.sub_self, hd, List.set_cons_zero, orP, take_one ho]
  simp
theorem Ev (q f q' f' : Bool) (a b : List Bool) (h : a.length = b.length) (hl : a.length ≤ 1000001) : ah Tryz.prog 97 [.sl q f (br a), .sl q' f' (br b)] [] fun r s => r = .sl true false (br (orB a b)) ∧ s = [] := by
 refine ah.enter Tryz.func97 rfl (by kernel_rfl) (Nat.le_of_ble_eq_true rfl) ?_; simp only [ai, Nat.reduceAdd]
 repeat' (first
 | refine gCt rfl ?_
 | ((first
 | ((first | refine gR fp97 ?_); intro K hK)
 | (refine ab ?_ ?_ <;> intro hb <;> (try simp only [bls] at hb) <;> (try simp only [hb]))
 | refine gRe [] [.tmp 4] rfl rfl ?_) <;> (try simp only [go_sem, simprocAttr]))
 | (refine hK _ _ ?_; clear hK K; simp only [go_sem, simprocAttr])
 | refine gCd ?_ | refine brT ?_ | refine brF ?_
 | (refine brS ?_ ?_ <;> intro hc <;> (try simp only [bls] at hc) <;> (try simp only [hc, bls]))
 | intro _ | refine And.intro ?_ ?_)
 all_goals try exact zsd
 ·rename_i y hy; obtain ⟨x, _, rfl⟩ := List.mem_map.1 hy; rfl
 ·rename_i y hy; obtain ⟨x, _, rfl⟩ := List.mem_map.1 hy; rfl
 rename_i h7
 refine ae.prune [0, 1, 4, 5, 6] ?_; simp only [go_sem, simprocAttr]
 refine ae.al (α := Nat) (fun i => ([(0, .sl q f (br a)), (1, .sl q' f' (br b)), (4, .sl true true []), (5, .osl 7 h7 0 a.length), (6, .int .i64 i)], [(7, h7, .row 1 (br (orP a b i)))])) (fun i => i ≤ a.length) (fun i => a.length - i) 0 (Nat.zero_le _) (by simp [orP]) ?_
 rintro i hi ih
 simp only at hi ih ⊢
 have hol := Dp h hi
 by_cases hle : i < a.length
 ·have e4 : (i : Int) < b.length := by omega
  have e4' : (i : Int) < a.length := by omega
  have e5 : (0 : Int) ≤ i := by omega
  have e6 : i < (orP a b i).length := by omega
  have e7 : (i : Int) + 1 = ((i + 1 : Nat) : Int) := by omega
  have ha : a[i]? = some a[i] := List.getElem?_eq_getElem hle
  have hb : b[i]? = some (b[i]'(by omega)) := List.getElem?_eq_getElem (by omega)
  generalize a[i] = x at ha
  generalize b[i]'(by omega) = y at hb
  obtain ⟨hg, hs⟩ := Dn h ha hb
  cases x
  ·simp only [Bool.false_or] at hs
   repeat' (first
 | refine gCt rfl ?_
 | ((first
 | ((first | refine gR fp97 ?_); intro K hK)
 | (refine ab ?_ ?_ <;> intro hb <;> (try simp only [bls] at hb) <;> (try simp only [hb]))
 | refine gRe [] [.tmp 4] rfl rfl ?_) <;> (try simp only [go_sem, simprocAttr, e4, e4', e5, e6, e7, hg, hb, Option.some.injEq, forall_eq']))
 | (refine hK _ _ ?_; clear hK K; simp only [go_sem, simprocAttr])
 | refine gCd ?_ | refine brT ?_ | refine brF ?_
 | (refine brS ?_ ?_ <;> intro hc <;> (try simp only [bls] at hc) <;> (try simp only [hc, bls]))
 | intro _ | refine And.intro ?_ ?_)
   all_goals try exact zsd
   rename_i z hz
   have hz2 : z = [.bool false] := by rw [List.getElem?_map, hg] at hz; exact (Option.some.inj hz).symm
   subst hz2
   refine ae.bC [7] ?_
   simp only [aq, ax, go_sem, simprocAttr]
   refine ae.prune [0, 1, 4, 5, 6] ?_; simp only [go_sem, simprocAttr]
   exact ae.cast (ih (i + 1) (by omega) (by omega)) rfl (by rw [← hs]; simp [List.map_set])
  ·simp only [Bool.true_or] at hs
   repeat' (first
 | refine gCt rfl ?_
 | ((first
 | ((first | refine gR fp97 ?_); intro K hK)
 | (refine ab ?_ ?_ <;> intro hb <;> (try simp only [bls] at hb) <;> (try simp only [hb]))
 | refine gRe [] [.tmp 4] rfl rfl ?_) <;> (try simp only [go_sem, simprocAttr, e4, e4', e5, e6, e7, hg, hb, Option.some.injEq, forall_eq']))
 | (refine hK _ _ ?_; clear hK K; simp only [go_sem, simprocAttr])
 | refine gCd ?_ | refine brT ?_ | refine brF ?_
 | (refine brS ?_ ?_ <;> intro hc <;> (try simp only [bls] at hc) <;> (try simp only [hc, bls]))
 | intro _ | refine And.intro ?_ ?_)
   all_goals try exact zsd
   rename_i z hz
   have hz2 : z = [.bool true] := by rw [List.getElem?_map, hg] at hz; exact (Option.some.inj hz).symm
   subst hz2
   refine ae.bC [7] ?_
   simp only [aq, ax, go_sem, simprocAttr]
   refine ae.prune [0, 1, 4, 5, 6] ?_; simp only [go_sem, simprocAttr]
   exact ae.cast (ih (i + 1) (by omega) (by omega)) rfl (by rw [← hs]; simp [List.map_set])
 ·have e4 : ¬ (i : Int) < b.length := by omega
  have e8 : orP a b i = orB a b := by
   rw [orP, List.take_of_length_le (by simp [orB]; omega), List.drop_eq_nil_of_le (by omega), List.append_nil]
  rw [e8]
  have e9 : (orB a b).length = a.length := by simp [orB]; omega
  have e15 : (br (orB a b)).take a.length = br (orB a b) := List.take_of_length_le (by simp [e9])
  clear ih
  repeat' (first
 | refine gCt rfl ?_
 | ((first
 | (refine ae.at 6 ?_; (refine ae.freeze 7 rfl ?_; simp only [rfT, rfS, rfO, rf, rf1, e15, e9, Nat.le_refl, true_and, go_sem, simprocAttr]); refine gR fp97 ?_; intro K hK)
 | ((first | refine gR fp97 ?_); intro K hK)
 | (refine ab ?_ ?_ <;> intro hb <;> (try simp only [bls] at hb) <;> (try simp only [hb]))
 | refine gRe [] [.tmp 4] rfl rfl ?_) <;> (try simp only [go_sem, simprocAttr, e4]))
 | (refine hK _ _ ?_; clear hK K; simp only [go_sem, simprocAttr])
 | refine gCd ?_ | refine brT ?_ | refine brF ?_
 | (refine brS ?_ ?_ <;> intro hc <;> (try simp only [bls] at hc) <;> (try simp only [hc, bls]))
 | intro _ | refine And.intro ?_ ?_)
  all_goals try exact zsd
def gU (s : av) (w : ByteArray) (fr : List Bool) (i : Nat) : List Bool := (false :: (List.range i).map (hit s w fr)) ++ aY (w.size - i)
theorem xM {s : av} {w : ByteArray} {fr : List Bool} {i : Nat} (hi : i < w.size) : (gU s w fr i).length = w.size + 1 ∧ (gU s w fr i)[i + 1]? = some false ∧ (gU s w fr i).set (i + 1) (hit s w fr i) = gU s w fr (i + 1) := by
 have hl : (false :: (List.range i).map (hit s w fr)).length = i + 1 := by simp
 obtain ⟨k, hk⟩ : ∃ k, w.size - i = k + 1 := ⟨w.size - i - 1, by omega⟩
 have hk2 : w.size - (i + 1) = k := by omega
 refine ⟨by simp only [gU, List.length_append, hl, bZ]; omega, ?_, ?_⟩
 ·rw [gU, List.getElem?_append_right (by omega), hl, Nat.sub_self, hk]; rfl
 ·rw [gU, List.set_append_right _ _ (by omega), hl, Nat.sub_self, hk, gU, hk2, List.range_succ, List.map_append]
  simp [aY, List.replicate_succ]
theorem Jp (s : av) (q f : Bool) (w : ByteArray) (fr : List Bool) (hw : w.size ≤ 1000000) (hf : fr.length = w.size + 1) : ah Tryz.prog 96 [.agg s.cells, .str w, .sl q f (br fr)] [] fun r s' => r = .sl true false (br (eA s w fr)) ∧ s' = [] := by
 have hpl := n5 w hw
 have hh := fun b hb => pD s.a s.b s.c s.d b hb
 obtain ⟨sa, sb, sc, sd⟩ := s
 simp only [av.cells]
 simp only at hh
 obtain ⟨S, hS⟩ : ∃ S : av, S = ⟨sa, sb, sc, sd⟩ := ⟨_, rfl⟩
 rw [← hS] at hh ⊢
 have h0 : gU S w fr 0 = aY (w.size + 1) := by simp [gU, aY, List.replicate_succ]
 refine ah.enter Tryz.func96 rfl (by kernel_rfl) (Nat.le_of_ble_eq_true rfl) ?_; simp only [ai, Nat.reduceAdd]
 repeat' (first
 | refine gCt rfl ?_
 | ((first
 | ((first | refine gR fp96 ?_ | refine gD 5 11 ea fp96 ?_); intro K hK)
 | (refine ah.use [(6, 10)] [] rfl hpl rfl rfl rfl ?_; rintro _ _ ⟨h6, rfl, rfl⟩; refine ⟨.inl rfl, rfl, ?_⟩; simp only [bk, bk2, bk1, bkS, bkO, bw, aH, go_sem, simprocAttr])
 | (refine ab ?_ ?_ <;> intro hb <;> (try simp only [bls] at hb) <;> (try simp only [hb]))
 | refine gRe [] [.tmp 6] rfl rfl ?_) <;> (try simp only [go_sem, simprocAttr]))
 | (refine hK _ _ ?_; clear hK K; simp only [go_sem, simprocAttr])
 | refine gCd ?_ | refine brT ?_ | refine brF ?_
 | (refine brS ?_ ?_ <;> intro hc <;> (try simp only [bls] at hc) <;> (try simp only [hc, bls]))
 | intro _ | refine And.intro ?_ ?_)
 all_goals try exact zsd
 rename_i h3
 refine ae.prune [1, 2, 3, 6, 7, 8] ?_; simp only [go_sem, simprocAttr]
 refine ae.al (α := Nat) (fun i => ([(1, .str w), (2, .sl q f (br fr)), (3, .bx 3 h3 0), (6, .sl true true []), (7, .osl 10 h6 0 (w.size + 1)), (8, .int .i64 i)], [(3, h3, .box [.int .u64 sa, .int .u64 sb, .int .u64 sc, .int .u64 sd]), (10, h6, .row 1 (br (gU S w fr i)))])) (fun i => i ≤ w.size) (fun i => w.size - i) 0 (Nat.zero_le _) (by rw [h0]; rfl) ?_
 rintro i hi ih
 simp only at hi ih ⊢
 by_cases hle : i < w.size
 ·have e4 : (i : Int) < w.size := by omega
  have e5 : (0 : Int) ≤ i := by omega
  have e6 : (i : Int) + 1 = ((i + 1 : Nat) : Int) := by omega
  have e7 : (i : Int) < fr.length := by omega
  have e8 := eX w i
  obtain ⟨o1, o2, o3⟩ := xM (s := S) (fr := fr) hle
  have e9 : i + 1 < (gU S w fr i).length := by omega
  have e10 : ((i + 1 : Nat) : Int) < ((w.size + 1 : Nat) : Int) := by omega
  have e11 : (0 : Int) ≤ ((i + 1 : Nat) : Int) := by omega
  have hfr : fr[i]? = some (fr[i]'(by omega)) := List.getElem?_eq_getElem (by omega)
  have hgd : fr.getD i false = fr[i]'(by omega) := by simp [List.getD, hf, show i < w.size + 1 by omega]
  have hc := hh (cd w i) (pw w i)
  rw [hit, hgd] at o3
  generalize fr[i]'(by omega) = x at hfr o3
  cases x
  ·rw [Bool.false_and] at o3
   have o4 : gU S w fr (i + 1) = gU S w fr i := by
    rw [← o3]
    refine List.ext_getElem? fun j => ?_
    rw [List.getElem?_set]
    split
    ·rename_i e; subst e; first | exact o2.symm | (split <;> first | exact o2.symm | (rename_i h; exact absurd e9 h))
    ·rfl
   repeat' (first
 | refine gCt rfl ?_
 | ((first
 | ((first | refine gR fp96 ?_ | refine gD 5 11 ea fp96 ?_); intro K hK)
 | (refine ab ?_ ?_ <;> intro hb <;> (try simp only [bls] at hb) <;> (try simp only [hb]))
 | refine gRe [] [.tmp 6] rfl rfl ?_) <;> (try simp only [go_sem, simprocAttr, e4, e5, e6, e7, hfr, Option.some.injEq, forall_eq']))
 | (refine hK _ _ ?_; clear hK K; simp only [go_sem, simprocAttr])
 | refine gCd ?_ | refine brT ?_ | refine brF ?_
 | (refine brS ?_ ?_ <;> intro hc <;> (try simp only [bls] at hc) <;> (try simp only [hc, bls]))
 | intro _ | refine And.intro ?_ ?_)
   all_goals try exact zsd
   refine ae.bC [3, 10] ?_
   simp only [aq, ax, go_sem, simprocAttr]
   refine ae.prune [1, 2, 3, 6, 7, 8] ?_; simp only [go_sem, simprocAttr]
   exact ae.cast (ih (i + 1) (by omega) (by omega)) rfl (by rw [o4])
  ·rw [Bool.true_and] at o3
   cases hb : dz S (cd w i)
   ·rw [hb] at hc o3
    have o4 : gU S w fr (i + 1) = gU S w fr i := by
     rw [← o3]
     refine List.ext_getElem? fun j => ?_
     rw [List.getElem?_set]
     split
     ·rename_i e; subst e; first | exact o2.symm | (split <;> first | exact o2.symm | (rename_i h; exact absurd e9 h))
     ·rfl
    repeat' (first
 | refine gCt rfl ?_
 | ((first
 | ((first | refine gR fp96 ?_ | refine gD 5 11 ea fp96 ?_); intro K hK)
 | refine ⟨_, ah.alone (hc) rfl rfl rfl, ?_⟩
 | (refine ab ?_ ?_ <;> intro hb <;> (try simp only [bls] at hb) <;> (try simp only [hb]))
 | refine gRe [] [.tmp 6] rfl rfl ?_) <;> (try simp only [go_sem, simprocAttr, e4, e5, e6, e7, e8, hfr, Option.some.injEq, forall_eq']))
 | (refine hK _ _ ?_; clear hK K; simp only [go_sem, simprocAttr])
 | refine gCd ?_ | refine brT ?_ | refine brF ?_
 | (refine brS ?_ ?_ <;> intro hc <;> (try simp only [bls] at hc) <;> (try simp only [hc, bls]))
 | intro _ | refine And.intro ?_ ?_)
    all_goals try exact zsd
    refine ae.bC [3, 10] ?_
    simp only [aq, ax, go_sem, simprocAttr]
    refine ae.prune [1, 2, 3, 6, 7, 8] ?_; simp only [go_sem, simprocAttr]
    exact ae.cast (ih (i + 1) (by omega) (by omega)) rfl (by rw [o4])
   ·rw [hb] at hc o3
    repeat' (first
 | refine gCt rfl ?_
 | ((first
 | ((first | refine gR fp96 ?_ | refine gD 5 11 ea fp96 ?_); intro K hK)
 | refine ⟨_, ah.alone (hc) rfl rfl rfl, ?_⟩
 | (refine ab ?_ ?_ <;> intro hb <;> (try simp only [bls] at hb) <;> (try simp only [hb]))
 | refine gRe [] [.tmp 6] rfl rfl ?_) <;> (try simp only [go_sem, simprocAttr, e4, e5, e6, e7, e8, e9, e10, e11, hfr, Option.some.injEq, forall_eq']))
 | (refine hK _ _ ?_; clear hK K; simp only [go_sem, simprocAttr])
 | refine gCd ?_ | refine brT ?_ | refine brF ?_
 | (refine brS ?_ ?_ <;> intro hc <;> (try simp only [bls] at hc) <;> (try simp only [hc, bls]))
 | intro _ | refine And.intro ?_ ?_)
    all_goals try exact zsd
    rename_i z hz
    have hz2 : z = [.bool false] := by rw [List.getElem?_map, o2] at hz; exact (Option.some.inj hz).symm
    subst hz2
    refine ae.bC [3, 10] ?_
    simp only [aq, ax, go_sem, simprocAttr]
    refine ae.prune [1, 2, 3, 6, 7, 8] ?_; simp only [go_sem, simprocAttr]
    exact ae.cast (ih (i + 1) (by omega) (by omega)) rfl (by rw [← o3]; simp [List.map_set])
 ·have e4 : ¬ (i : Int) < w.size := by omega
  have e12 : gU S w fr i = eA S w fr := by
   have : i = w.size := by omega
   subst this
   simp [gU, eA, aY]
  rw [e12]
  have e13 : (eA S w fr).length = w.size + 1 := by simp [eA]
  have e15 : (br (eA S w fr)).take (w.size + 1) = br (eA S w fr) := List.take_of_length_le (by simp [e13])
  clear ih
  repeat' (first
 | refine gCt rfl ?_
 | ((first
 | (refine ae.at 7 ?_; (refine ae.freeze 10 rfl ?_; simp only [rfT, rfS, rfO, rf, rf1, e15, e13, Nat.le_refl, true_and, go_sem, simprocAttr]); refine gR fp96 ?_; intro K hK)
 | ((first | refine gR fp96 ?_ | refine gD 5 11 ea fp96 ?_); intro K hK)
 | (refine ab ?_ ?_ <;> intro hb <;> (try simp only [bls] at hb) <;> (try simp only [hb]))
 | refine gRe [] [.tmp 6] rfl rfl ?_) <;> (try simp only [go_sem, simprocAttr, e4]))
 | (refine hK _ _ ?_; clear hK K; simp only [go_sem, simprocAttr])
 | refine gCd ?_ | refine brT ?_ | refine brF ?_
 | (refine brS ?_ ?_ <;> intro hc <;> (try simp only [bls] at hc) <;> (try simp only [hc, bls]))
 | intro _ | refine And.intro ?_ ?_)
  all_goals try exact zsd
end Go.Rad
namespace Go.Rad
open Go
end Go.Rad
namespace Go.Rad
open Go Fo
abbrev RS := List Node × Bool
abbrev RO := RS × Int
def Ap (n : Node) (s : RS) : RO := if 1024 ≤ s.1.length then ((s.1, true), 0) else ((s.1 ++ [n], s.2), s.1.length)
def PBR (pl : RS → RO) : Prop := ∀ s, s.1.length ≤ 1024 → (pl s).1.1.length ≤ 1024
section
variable {pl : RS → RO} (hb : PBR pl)
include hb
end
abbrev RF := RS → RS × List Int
def ROk (s : RF) (f : Fo) : Prop := (∀ out, out.length ≤ 1024 → (out.length + f.size ≤ 1024 → s (out, false) = ((out ++ f.lay out.length, false), f.roots out.length)) ∧ (1024 < out.length + f.size → (s (out, false)).1.2 = true)) ∧ ∀ out, (s (out, true)).1.2 = true
def AK (s t : RF) (x : RS) : RS × List Int := ((t (s x).1).1, (s x).2 ++ (t (s x).1).2)
abbrev sgR (pl : RS → RO) : RF := fun x => ((pl x).1, [(pl x).2])
def tV (b : Lb) (s : RF) : RF := sgR fun x => Ap (b.node (s x).2) (s x).1
abbrev nilR : RF := fun x => (x, [])
theorem pW (n : Node) (out : List Node) : (Ap n (out, true)).1.2 = true := by unfold Ap; split <;> rfl
theorem ja {x : RS} (h : x.2 = true) : x = (x.1, true) := Prod.ext rfl h
theorem ROk.nil : ROk nilR .nil := ⟨fun out h => ⟨fun _ => by simp [lay, roots], fun h2 => by simp only [size] at h2; omega⟩, fun out => rfl⟩
theorem ROk.seq {s t : RF} {f g : Fo} (hs : ROk s f) (ht : ROk t g) : ROk (AK s t) (f.app g) := by
 refine ⟨fun out h => ?_, fun out => ?_⟩
 ·rw [tC]
  by_cases h1 : out.length + f.size ≤ 1024
  ·have e := (hs.1 out h).1 h1
   have el : (out ++ f.lay out.length).length = out.length + f.size := by simp [cS]
   obtain ⟨t1, t2⟩ := ht.1 (out ++ f.lay out.length) (by omega)
   rw [el] at t1 t2
   refine ⟨fun h => ?_, fun h => ?_⟩
   ·simp only [AK, e]
    rw [t1 (by omega), vV, pZ]
    simp
   ·simp only [AK, e]
    exact t2 (by omega)
  ·have e := (hs.1 out h).2 (by omega)
   refine ⟨fun h => by omega, fun _ => ?_⟩
   simp only [AK]
   rw [ja e]
   exact ht.2 _
 ·simp only [AK]
  rw [ja (hs.2 out)]
  exact ht.2 _
theorem ROk.wrap {s : RF} {f : Fo} (b : Lb) (hs : ROk s f) : ROk (tV b s) (one b f) := by
 refine ⟨fun out h => ?_, fun out => ?_⟩
 ·simp only [size, Nat.add_zero]
  by_cases h1 : out.length + f.size ≤ 1024
  ·have e := (hs.1 out h).1 h1
   have el : (out ++ f.lay out.length).length = out.length + f.size := by simp [cS]
   refine ⟨fun h2 => ?_, fun h2 => ?_⟩
   ·simp only [tV, sgR, e, Ap, el]
    rw [if_neg (by omega)]
    simp [lay, roots]
   ·simp only [tV, sgR, e, Ap, el]
    rw [if_pos (by omega)]
  ·have e := (hs.1 out h).2 (by omega)
   refine ⟨fun h => by omega, fun _ => ?_⟩
   simp only [tV, sgR]
   rw [ja e]
   exact pW _ _
 ·simp only [tV, sgR]
  rw [ja (hs.2 out)]
  exact pW _ _
theorem ROk.guard {s s' : RF} {f : Fo} (h : ∀ out, out.length ≤ 1024 → s' (out, false) = s (out, false) ∨ ((s' (out, false)).1.2 = true ∧ 1024 < out.length + f.size)) (ht : ∀ out, (s' (out, true)).1.2 = true) (hs : ROk s f) : ROk s' f := by
 refine ⟨fun out ho => ?_, ht⟩
 rcases h out ho with e | ⟨e1, e2⟩
 ·rw [e]; exact hs.1 out ho
 ·exact ⟨fun h => by omega, fun _ => e1⟩
end Go.Rad
namespace Go.Rad
open Go Fo
theorem gI {b : Lb} {d : Nat} (h : iA b d = true) (h5 : b.op = 5) : d = 1 ∧ b.s = av.none ∧ b.name = ByteArray.empty ∧ 0 ≤ b.lo ∧ b.lo ≤ 4096 ∧ (b.hi = -1 ∨ 1 ≤ b.hi ∧ b.hi ≤ 4096 ∧ b.lo ≤ b.hi) := by
 simp only [iA, aD, h5] at h
 simp only [show ¬ (5 : Int) = 1 by decide, show ¬ (5 : Int) = 2 by decide, show ¬ ((5 : Int) = 3 ∨ (5 : Int) = 4) by decide, if_false, if_true, Bool.and_eq_true, Bool.not_eq_true', decide_eq_true_eq, decide_eq_false_iff_not, Decidable.not_not, List.length_replicate] at h
 obtain ⟨⟨⟨⟨h1, h2⟩, h3⟩, h4⟩, h6⟩ := h
 exact ⟨h3, h1, h2, h4.1, h4.2, h6⟩
abbrev no6 (f : Fo) : Bool := f.all fun b _ => decide (b.op ≠ 6)
theorem n6 (l : List Node) : cg l = true ↔ ∃ f : Fo, f.deg = 1 ∧ l = f.lay 0 ∧ f.cM = true ∧ f.size ≤ 1024 ∧ no6 f = true := by
 have hno : ∀ f : Fo, (f.lay 0).all iv = no6 f := fun f => zP fun n k _ => rfl
 constructor
 ·intro h
  simp only [cg, Bool.and_eq_true] at h
  obtain ⟨h1, h2⟩ := h
  rw [← dE] at h2
  obtain ⟨f, a, rfl, b, c⟩ := pY.1 h2
  exact ⟨f, a, rfl, b, c, by rw [← hno]; exact h1⟩
 ·rintro ⟨f, a, rfl, b, c, d⟩
  simp only [cg, Bool.and_eq_true]
  exact ⟨by rw [hno]; exact d, by rw [← dE]; exact pY.2 ⟨f, a, rfl, b, c⟩⟩
def LN (most : Int) (b : Lb) (k : Fo) : Bool := iA b k.deg && decide (b.op ≠ 6) && decide (b.op = 5 → b = repL 0 (-1) ∨ (b = repL b.lo b.hi ∧ k.CB = true ∧ 1 ≤ b.lo ∧ 2 ≤ b.hi ∧ most < b.hi))
abbrev LO (most : Int) (f : Fo) : Bool := f.all (LN most)
section
variable {most : Int} {p : Fo} (hp : LO most p = true) (hd : p.deg = 1)
include hp hd
end
theorem lg {l : List Node} (h : cg l = true) : (∀ n ∈ l, n.name.size ≤ maxLen ∧ n.l.length ≤ maxLen) ∧ l.length ≤ 1024 := by
 simp only [cg, Bool.and_eq_true] at h
 have hr := h.2
 rw [← dE] at hr
 exact ⟨dT hr, (bH hr).2.2.2⟩
end Go.Rad
namespace Go.Rad
open Go Fo
abbrev BF := List Bool → List Bool
section
variable {n : Nat}
end
section
variable {w : ByteArray} {p : Fo} {g : BF} (hp : sem w p = [g]) (hg : Add (w.size + 1) g)
include hp
include hg
end
def kD (w : ByteArray) (f : Fo) (s : List Bool) : List Bool := (sem w f).headD id s
end Go.Rad
