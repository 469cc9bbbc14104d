/- A part of the proof. -/
import Derived.Test.YtmbhpolhiblhoaaGreatDoorKP15b
import Derived.Test.YtmbhpolhiblhoaaGreatDoorKC08a
import Derived.Test.YtmbhpolhiblhoaaGreatDoorKRDraw
import Derived.Sort.Grow
import Derived.Lib.SlicesCompact
import Derived.Test.YtmbhpolhiblhoaaGreatDoorKP15a
set_option linter.all false
namespace Go.Rad
open Go Go.Proofs
set_option linter.all false
set_option maxRecDepth 20000
set_option maxHeartbeats 4000000
theorem gH (F : Fl) (hF : eP F) (hlen : ∀ r ∈ F.rules, r.l.length ≤ maxLen) :
  ah Tryz.prog 18 [.agg F.cells] [] fun v s => v = .bool (ba F) ∧ s = [] := by
 have hD := tA true false F.defs (by have := hF.2.2.1; omega) hF.2.2.2.1
 have hS : ∀ s ∈ F.conds, ah Tryz.prog 40 [.str s] [] fun r s' => r = .bool (bo s) ∧ s' = [] := fun s h => ke s (hF.2.1 s h)
 have hI := fun (s : ByteArray) (h : F.conds.length ≤ 8) => Cm true false F.conds s (by omega)
 have hK : ∀ r ∈ F.rules, ah Tryz.prog 40 [.str r.kind] [] fun v s' => v = .bool (bo r.kind) ∧ s' = [] := fun r h => ke r.kind (hF.2.2.2.2.2 r h).1
 have hU := fun (n : Int) r (h : r ∈ F.rules) => DI true false r.conds n (hF.2.2.2.2.2 r h).2.1
 have hE := fun r (h : r ∈ F.rules) => kY true false true false r.l F.defs (hlen r h) (hF.2.2.2.2.2 r h).2.2 hF.2.2.1 hF.2.2.2.1
 obtain ⟨O, hO⟩ : ∃ O, O = ba F := ⟨_, rfl⟩
 rw [← hO]
 unfold ba qU at hO
 generalize bA [] F.defs = D at hD hO
 have hl1 := hF.1
 have hl2 := hF.2.2.2.2.1
 have hl3 : ∀ r ∈ F.rules, r.conds.length ≤ 9223372036854775807 := fun r h => Nat.le_trans (hF.2.2.2.2.2 r h).2.1 (by decide)
 clear hF hlen
 obtain ⟨cs, ds, rs⟩ := F
 simp only at *
 cases cs with
 | nil =>
  simp only [Bool.false_and] at hO
  subst hO
  clear hS hI hK hU hE
  refine ah.enter Tryz.func18 rfl (by kernel_rfl) (Nat.le_of_ble_eq_true rfl) ?_; simp only [ai, Nat.reduceAdd]
  repeat' (first
 | refine gCt rfl ?_
 | ((first
 | ((first | refine gR fp18 ?_ | refine gD 6 16 [0, 1, 2, 3, 4, 5, 6, 7, 8, 9, 10, 11, 12, 13, 14, 16, 15, 17, 18] fp18 ?_); intro K hK)
 | (refine ab ?_ ?_ <;> intro hb <;> (try simp only [bls] at hb) <;> (try simp only [hb]))
 | refine gRe [] [.tmp 2] rfl rfl ?_) <;> (try simp only [go_sem, simprocAttr]))
 | (refine hK _ _ ?_; clear hK K; simp only [go_sem, simprocAttr])
 | refine gCd ?_ | refine brT ?_ | refine brF ?_
 | (refine brS ?_ ?_ <;> intro hc <;> (try simp only [bls] at hc) <;> (try simp only [hc, bls]))
 | intro _ | refine And.intro ?_ ?_)
  all_goals try exact zsd
 | cons s0 cs0 =>
  have hx0 : (s0 :: cs0)[0]? = some s0 := rfl
  have hl0 : 0 < (s0 :: cs0).length := Nat.succ_pos _
  simp only at hO
  generalize s0 :: cs0 = cs at *
  obtain ⟨U, hUU⟩ : ∃ U, U = dV cs cs 0 := ⟨_, rfl⟩
  obtain ⟨B, hB⟩ : ∃ B, B = rs.any fun r => !jg cs.length ds r := ⟨_, rfl⟩
  rw [← hUU, ← hB] at hO
  have hz : (0 : Int) < cs.length := by omega
  have hz1 : ¬ (cs.length : Int) < 1 := by omega
  by_cases k1 : (8 : Int) < cs.length
  ·have k1' : ¬ cs.length ≤ 8 := by omega
   simp only [k1', decide_false, Bool.false_and] at hO
   subst hO
   clear hS hI hK hU hE
   refine ah.enter Tryz.func18 rfl (by kernel_rfl) (Nat.le_of_ble_eq_true rfl) ?_; simp only [ai, Nat.reduceAdd]
   repeat' (first
 | refine gCt rfl ?_
 | ((first
 | ((first | refine gR fp18 ?_ | refine gD 6 16 [0, 1, 2, 3, 4, 5, 6, 7, 8, 9, 10, 11, 12, 13, 14, 16, 15, 17, 18] fp18 ?_); intro K hK)
 | (refine ab ?_ ?_ <;> intro hb <;> (try simp only [bls] at hb) <;> (try simp only [hb]))
 | refine gRe [] [.tmp 2] rfl rfl ?_) <;> (try simp only [go_sem, simprocAttr, hz1, k1]))
 | (refine hK _ _ ?_; clear hK K; simp only [go_sem, simprocAttr])
 | refine gCd ?_ | refine brT ?_ | refine brF ?_
 | (refine brS ?_ ?_ <;> intro hc <;> (try simp only [bls] at hc) <;> (try simp only [hc, bls]))
 | intro _ | refine And.intro ?_ ?_)
   all_goals try exact zsd
  have k1' : cs.length ≤ 8 := by omega
  simp only [k1', decide_true, Bool.true_and] at hO
  have hI' := fun s => hI s k1'
  clear hI
  by_cases k2 : s0 = bp
  ·simp only [k2, decide_true, Bool.true_and] at hO
   subst k2
   cases D
   ·simp only [Bool.false_and, Bool.and_false] at hO
    subst hO
    clear hS hI' hK hU hE
    refine ah.enter Tryz.func18 rfl (by kernel_rfl) (Nat.le_of_ble_eq_true rfl) ?_; simp only [ai, Nat.reduceAdd]
    repeat' (first
 | refine gCt rfl ?_
 | ((first
 | ((first | refine gR fp18 ?_ | refine gD 6 16 [0, 1, 2, 3, 4, 5, 6, 7, 8, 9, 10, 11, 12, 13, 14, 16, 15, 17, 18] fp18 ?_); intro K hK)
 | refine cAl (hD) rfl rfl rfl ?_
 | (refine ab ?_ ?_ <;> intro hb <;> (try simp only [bls] at hb) <;> (try simp only [hb]))
 | refine gRe [] [.tmp 2] rfl rfl ?_) <;> (try simp only [go_sem, simprocAttr, hz1, k1, hx0, hz, bp]))
 | (refine hK _ _ ?_; clear hK K; simp only [go_sem, simprocAttr])
 | refine gCd ?_ | refine brT ?_ | refine brF ?_
 | (refine brS ?_ ?_ <;> intro hc <;> (try simp only [bls] at hc) <;> (try simp only [hc, bls]))
 | intro _ | refine And.intro ?_ ?_)
    all_goals try exact zsd
   by_cases k3 : (64 : Int) < rs.length
   ·have k3' : ¬ rs.length ≤ 64 := by omega
    simp only [k3', decide_false, Bool.false_and, Bool.and_false] at hO
    subst hO
    clear hS hI' hK hU hE
    refine ah.enter Tryz.func18 rfl (by kernel_rfl) (Nat.le_of_ble_eq_true rfl) ?_; simp only [ai, Nat.reduceAdd]
    repeat' (first
 | refine gCt rfl ?_
 | ((first
 | ((first | refine gR fp18 ?_ | refine gD 6 16 [0, 1, 2, 3, 4, 5, 6, 7, 8, 9, 10, 11, 12, 13, 14, 16, 15, 17, 18] fp18 ?_); intro K hK)
 | refine cAl (hD) rfl rfl rfl ?_
 | (refine ab ?_ ?_ <;> intro hb <;> (try simp only [bls] at hb) <;> (try simp only [hb]))
 | refine gRe [] [.tmp 2] rfl rfl ?_) <;> (try simp only [go_sem, simprocAttr, hz1, k1, hx0, hz, k3, bp]))
 | (refine hK _ _ ?_; clear hK K; simp only [go_sem, simprocAttr])
 | refine gCd ?_ | refine brT ?_ | refine brF ?_
 | (refine brS ?_ ?_ <;> intro hc <;> (try simp only [bls] at hc) <;> (try simp only [hc, bls]))
 | intro _ | refine And.intro ?_ ?_)
    all_goals try exact zsd
   have k3' : rs.length ≤ 64 := by omega
   simp only [k3', decide_true, Bool.true_and] at hO
   refine ah.enter Tryz.func18 rfl (by kernel_rfl) (Nat.le_of_ble_eq_true rfl) ?_; simp only [ai, Nat.reduceAdd]
   repeat' (first
 | refine gCt rfl ?_
 | ((first
 | (refine ae.at 3 ?_; (refine ae.de 1 1 rfl rfl rfl ?_; simp only [go_sem, simprocAttr]); refine gR fp18 ?_; intro K hK)
 | ((first | refine gR fp18 ?_ | refine gD 6 16 [0, 1, 2, 3, 4, 5, 6, 7, 8, 9, 10, 11, 12, 13, 14, 16, 15, 17, 18] fp18 ?_); intro K hK)
 | refine cAl (hD) rfl rfl rfl ?_
 | (refine ab ?_ ?_ <;> intro hb <;> (try simp only [bls] at hb) <;> (try simp only [hb]))
 | refine gRe [] [.tmp 2] rfl rfl ?_) <;> (try simp only [go_sem, simprocAttr, hz1, k1, hx0, hz, k3, bp]))
 | (refine hK _ _ ?_; clear hK K; simp only [go_sem, simprocAttr])
 | refine gCd ?_ | refine brT ?_ | refine brF ?_
 | (refine brS ?_ ?_ <;> intro hc <;> (try simp only [bls] at hc) <;> (try simp only [hc, bls]))
 | intro _ | refine And.intro ?_ ?_)
   all_goals try exact zsd
   refine ae.prune [1, 2, 3] ?_; simp only [go_sem, simprocAttr]
   refine ae.al (α := Nat) (fun i => ([(1, .ref true [.sl true false (cb cs), .sl true false (defs ds), .sl true false (bf rs)]), (2, .bool false), (3, .int .i64 i)], [])) (fun i => i ≤ cs.length ∧ U = dV cs (cs.drop i) i) (fun i => cs.length - i) 0 ⟨Nat.zero_le _, hUU⟩ rfl ?_
   rintro i ⟨hi, hu⟩ ih
   simp only at hi hu ih ⊢
   by_cases hle : i < cs.length
   ·have e4 : (i : Int) < cs.length := by omega
    have e5 : (0 : Int) ≤ i := by omega
    have e6 : (i : Int) + 1 = ((i + 1 : Nat) : Int) := by omega
    have hx : cs[i]? = some cs[i] := List.getElem?_eq_getElem hle
    have hdr : cs.drop i = cs[i] :: cs.drop (i + 1) := List.drop_eq_getElem_cons hle
    have hs := hS _ (List.getElem_mem hle)
    have hi2 := hI' cs[i]
    rw [hdr, nv] at hu
    clear hS hI' hx0 hK hU hE
    generalize cs[i] = k at hx hu hs hi2
    generalize jE k cs 0 = j at hi2 hu
    generalize bo k = nk at hs hu
    cases nk
    ·simp only [Bool.false_eq_true, if_false] at hu
     subst hu
     simp only [Bool.false_and] at hO
     subst hO
     repeat' (first
 | refine gCt rfl ?_
 | ((first
 | ((first | refine gR fp18 ?_ | refine gD 6 19 JF fp18 ?_); intro K hK)
 | refine ⟨_, ah.alone (hs) rfl rfl rfl, ?_⟩
 | refine ⟨_, ah.alone (hi2) rfl rfl rfl, ?_⟩
 | (refine ab ?_ ?_ <;> intro hb <;> (try simp only [bls] at hb) <;> (try simp only [hb]))
 | refine gRe [] [.tmp 2] rfl rfl ?_) <;> (try simp only [go_sem, simprocAttr, e4, e5, e6, hx, Option.some.injEq, forall_eq']))
 | (refine hK _ _ ?_; clear hK K; simp only [go_sem, simprocAttr])
 | refine gCd ?_ | refine brT ?_ | refine brF ?_
 | (refine brS ?_ ?_ <;> intro hc <;> (try simp only [bls] at hc) <;> (try simp only [hc, bls]))
 | intro _ | refine And.intro ?_ ?_)
     all_goals try exact zsd
    simp only [if_true] at hu
    by_cases k4 : j = (i : Int)
    ·simp only [k4, decide_true, if_true] at hu hi2
     repeat' (first
 | refine gCt rfl ?_
 | ((first
 | ((first | refine gR fp18 ?_ | refine gD 6 19 JF fp18 ?_); intro K hK)
 | refine ⟨_, ah.alone (hs) rfl rfl rfl, ?_⟩
 | refine ⟨_, ah.alone (hi2) rfl rfl rfl, ?_⟩
 | (refine ab ?_ ?_ <;> intro hb <;> (try simp only [bls] at hb) <;> (try simp only [hb]))
 | refine gRe [] [.tmp 2] rfl rfl ?_) <;> (try simp only [go_sem, simprocAttr, e4, e5, e6, hx, Option.some.injEq, forall_eq']))
 | (refine hK _ _ ?_; clear hK K; simp only [go_sem, simprocAttr])
 | refine gCd ?_ | refine brT ?_ | refine brF ?_
 | (refine brS ?_ ?_ <;> intro hc <;> (try simp only [bls] at hc) <;> (try simp only [hc, bls]))
 | intro _ | refine And.intro ?_ ?_)
     all_goals try exact zsd
     refine ae.prune [1, 2, 3] ?_; simp only [go_sem, simprocAttr]
     exact (ih (i + 1) ⟨by omega, hu⟩ (by omega)).cast rfl rfl
    ·simp only [k4, decide_false, Bool.false_eq_true, if_false] at hu
     subst hu
     simp only [Bool.false_and] at hO
     subst hO
     repeat' (first
 | refine gCt rfl ?_
 | ((first
 | ((first | refine gR fp18 ?_ | refine gD 6 19 JF fp18 ?_); intro K hK)
 | refine ⟨_, ah.alone (hs) rfl rfl rfl, ?_⟩
 | refine ⟨_, ah.alone (hi2) rfl rfl rfl, ?_⟩
 | (refine ab ?_ ?_ <;> intro hb <;> (try simp only [bls] at hb) <;> (try simp only [hb]))
 | refine gRe [] [.tmp 2] rfl rfl ?_) <;> (try simp only [go_sem, simprocAttr, e4, e5, e6, hx, k4, Option.some.injEq, forall_eq']))
 | (refine hK _ _ ?_; clear hK K; simp only [go_sem, simprocAttr])
 | refine gCd ?_ | refine brT ?_ | refine brF ?_
 | (refine brS ?_ ?_ <;> intro hc <;> (try simp only [bls] at hc) <;> (try simp only [hc, bls]))
 | intro _ | refine And.intro ?_ ?_)
     all_goals try exact zsd
   ·have e4 : ¬ (i : Int) < cs.length := by omega
    rw [List.drop_of_length_le (by omega)] at hu
    simp only [dV] at hu
    subst hu
    rw [Bool.true_and] at hO
    clear ih hS hI'
    repeat' (first
 | refine gCt rfl ?_
 | ((first
 | ((first | refine gR fp18 ?_ | refine gD 6 16 [0, 1, 2, 3, 4, 5, 6, 7, 8, 9, 10, 11, 12, 13, 14, 16, 15, 17, 18] fp18 ?_); intro K hK)
 | (refine ab ?_ ?_ <;> intro hb <;> (try simp only [bls] at hb) <;> (try simp only [hb]))
 | refine gRe [] [.tmp 2] rfl rfl ?_) <;> (try simp only [go_sem, simprocAttr, e4]))
 | (refine hK _ _ ?_; clear hK K; simp only [go_sem, simprocAttr])
 | refine gCd ?_ | refine brT ?_ | refine brF ?_
 | (refine brS ?_ ?_ <;> intro hc <;> (try simp only [bls] at hc) <;> (try simp only [hc, bls]))
 | intro _ | refine And.intro ?_ ?_)
    all_goals try exact zsd
    refine ae.prune [1, 2, 4] ?_; simp only [go_sem, simprocAttr]
    refine ae.al (α := Nat) (fun i => ([(1, .ref true [.sl true false (cb cs), .sl true false (defs ds), .sl true false (bf rs)]), (2, .bool false), (4, .int .i64 i)], [])) (fun i => i ≤ rs.length ∧ B = (rs.drop i).any fun r => !jg cs.length ds r) (fun i => rs.length - i) 0 ⟨Nat.zero_le _, hB⟩ rfl ?_
    clear hi hle e4 i hB
    rintro i ⟨hi, hu⟩ ih
    simp only at hi hu ih ⊢
    by_cases hle : i < rs.length
    ·have e4 : (i : Int) < rs.length := by omega
     have e5 : (0 : Int) ≤ i := by omega
     have e6 : (i : Int) + 1 = ((i + 1 : Nat) : Int) := by omega
     have hx : rs[i]? = some rs[i] := List.getElem?_eq_getElem hle
     have hdr : rs.drop i = rs[i] :: rs.drop (i + 1) := List.drop_eq_getElem_cons hle
     have hm := List.getElem_mem hle
     have hk := hK _ hm
     have hr := hU cs.length _ hm
     have he := hE _ hm
     have hl := hl3 _ hm
     rw [hdr, List.any_cons, jg] at hu
     clear hK hU hE hl3 hm hdr hx0
     obtain ⟨W, hW⟩ : ∃ W, W = (rs.drop (i + 1)).any fun r => !jg cs.length ds r := ⟨_, rfl⟩
     rw [← hW] at hu
     generalize rs[i] = r at hx hk hr he hu hl
     generalize (ay r.l ds).1 = X at he
     generalize (ay r.l ds).2 = e at he hu
     obtain ⟨rc, rf, rl, rk, rt, rp, rn⟩ := r
     simp only at hk hr he hu hl
     generalize bo rk = nk at hk hu
     have hvl := CW cs.length rc
     generalize upI cs.length (-1) rc = V at hr hu hvl
     generalize fR (-1) rc = La at hu hvl
     have hrc : (rc.length : Int) = 0 ↔ rc = [] := by rw [← List.length_eq_zero_iff]; omega
     repeat' (first
 | refine gCt rfl ?_
 | ((first
 | ((first | refine gR fp18 ?_ | refine gD 6 16 [0, 1, 2, 3, 4, 5, 6, 7, 8, 9, 10, 11, 12, 13, 14, 16, 15, 17, 18] fp18 ?_); intro K hK)
 | refine cAl (hk) rfl rfl rfl ?_
 | refine cAl (hr) rfl rfl rfl ?_
 | (refine ah.use [] [] rfl he rfl rfl rfl ?_; rintro _ _ ⟨⟨fl, rfl⟩, rfl⟩; refine ⟨.inl rfl, rfl, ?_⟩; simp only [bk, bk2, bk1, bkS, aH, List.map_cons, List.map_nil])
 | (refine ab ?_ ?_ <;> intro hb <;> (try simp only [bls] at hb) <;> (try simp only [hb]))
 | refine gRe [] [.tmp 2] rfl rfl ?_) <;> (try simp only [go_sem, simprocAttr, e4, e5, e6, hx, hrc, Option.some.injEq, forall_eq']))
 | (refine hK _ _ ?_; clear hK K; simp only [go_sem, simprocAttr])
 | refine gCd ?_ | refine brT ?_ | refine brF ?_
 | (refine brS ?_ ?_ <;> intro hc <;> (try simp only [bls] at hc) <;> (try simp only [hc, bls]))
 | intro _ | refine And.intro ?_ ?_)
     all_goals first
      | exact zsd
      | (clear ih he hk hr; congr 1; cases V <;> simp_all <;> omega)
      | (refine ae.bh [] ?_; simp only [ao, au, go_sem, simprocAttr]; refine ae.prune [1, 2, 4] ?_; simp only [go_sem, simprocAttr]; have hBW : B = W := by (clear ih he hk hr; simp_all <;> omega)
         exact (ih (i + 1) ⟨by omega, by rw [← hW]; exact hBW⟩ (by omega)).cast rfl rfl)
    ·have e4 : ¬ (i : Int) < rs.length := by omega
     rw [List.drop_of_length_le (by omega)] at hu
     simp only [List.any_nil] at hu
     subst hu
     simp only [Bool.not_false] at hO
     subst hO
     clear ih hK hU hE
     repeat' (first
 | refine gCt rfl ?_
 | ((first
 | ((first | refine gR fp18 ?_ | refine gD 6 16 [0, 1, 2, 3, 4, 5, 6, 7, 8, 9, 10, 11, 12, 13, 14, 16, 15, 17, 18] fp18 ?_); intro K hK)
 | (refine ab ?_ ?_ <;> intro hb <;> (try simp only [bls] at hb) <;> (try simp only [hb]))
 | refine gRe [] [.tmp 2] rfl rfl ?_) <;> (try simp only [go_sem, simprocAttr, e4]))
 | (refine hK _ _ ?_; clear hK K; simp only [go_sem, simprocAttr])
 | refine gCd ?_ | refine brT ?_ | refine brF ?_
 | (refine brS ?_ ?_ <;> intro hc <;> (try simp only [bls] at hc) <;> (try simp only [hc, bls]))
 | intro _ | refine And.intro ?_ ?_)
     all_goals try exact zsd
  ·simp only [k2, decide_false, Bool.false_and, Bool.and_false] at hO
   subst hO
   clear hS hI' hK hU hE
   have k2' : ¬ s0 = ⟨#[115, 116, 97, 114, 116]⟩ := k2
   refine ah.enter Tryz.func18 rfl (by kernel_rfl) (Nat.le_of_ble_eq_true rfl) ?_; simp only [ai, Nat.reduceAdd]
   repeat' (first
 | refine gCt rfl ?_
 | ((first
 | ((first | refine gR fp18 ?_ | refine gD 6 16 [0, 1, 2, 3, 4, 5, 6, 7, 8, 9, 10, 11, 12, 13, 14, 16, 15, 17, 18] fp18 ?_); intro K hK)
 | (refine ab ?_ ?_ <;> intro hb <;> (try simp only [bls] at hb) <;> (try simp only [hb]))
 | refine gRe [] [.tmp 2] rfl rfl ?_) <;> (try simp only [go_sem, simprocAttr, hz1, k1, hx0, hz, k2']))
 | (refine hK _ _ ?_; clear hK K; simp only [go_sem, simprocAttr])
 | refine gCd ?_ | refine brT ?_ | refine brF ?_
 | (refine brS ?_ ?_ <;> intro hc <;> (try simp only [bls] at hc) <;> (try simp only [hc, bls]))
 | intro _ | refine And.intro ?_ ?_)
   all_goals try exact zsd
theorem zE (fl : Bool) (X : List Node) (h : az X = true) : ah Tryz.prog 44 [.sl true fl (nodes X)] [] fun r s => r = .sl true false (nodes (ec X)) ∧ s = [] := by
 refine ah.Es 0 (vM (P := Tryz.prog) (f := 44) rfl (by kernel_rfl) (by kernel_rfl)) rfl fun hfit => ?_
 refine Ct true fl X (by have := (bI h).2.2.2; unfold maxLen; omega) (dW h) fun n hn => ?_
 obtain ⟨i, hi⟩ := List.mem_iff_getElem?.1 hn
 have hm : (nodes X)[i]? = some n.cells := by simp [nodes, hi]
 exact ⟨hfit i 1 _ _ _ hm rfl, hfit i 2 _ _ _ hm rfl, hfit i 3 _ _ _ hm rfl, hfit i 4 _ _ _ hm rfl⟩
theorem qo (F : Fl) (i : Int) (hi : fits .i64 i) (hF : eP F) (hlen : ∀ r ∈ F.rules, r.l.length ≤ maxLen) :
  ah Tryz.prog 19 [.agg F.cells, .int .i64 i] [] fun v s => (∃ fl, v = .tup [.sl true fl (nodes (cd F i).1), .int .i64 (cd F i).2]) ∧ s = [] := by
 have hR := gH F hF hlen
 obtain ⟨O, hO⟩ : ∃ O, O = cd F i := ⟨_, rfl⟩
 rw [← hO]
 unfold cd at hO
 have hrt : ba F = true → ∀ r ∈ F.rules, (ay r.l F.defs).2 = 0 := fun h r hr => rK (gI h hr)
 generalize ba F = B at hR hO hrt
 cases B
 ·simp only [Bool.false_eq_true, if_false] at hO
  subst hO
  clear hF hrt hlen
  obtain ⟨cs, ds, rs⟩ := F
  simp only at *
  refine ah.enter Tryz.func19 rfl (by kernel_rfl) (Nat.le_of_ble_eq_true rfl) ?_; simp only [ai, Nat.reduceAdd]
  repeat' (first
 | refine gCt rfl ?_
 | ((first
 | ((first | refine gR fp19 ?_ | refine gD 5 8 ed fp19 ?_); intro K hK)
 | refine cAl (hR) rfl rfl rfl ?_
 | (refine ab ?_ ?_ <;> intro hb <;> (try simp only [bls] at hb) <;> (try simp only [hb]))
 | refine gRe [] [.tmp 4, .tmp 5] rfl rfl ?_) <;> (try simp only [go_sem, simprocAttr]))
 | (refine hK _ _ ?_; clear hK K; simp only [go_sem, simprocAttr])
 | refine gCd ?_ | refine brT ?_ | refine brF ?_
 | (refine brS ?_ ?_ <;> intro hc <;> (try simp only [bls] at hc) <;> (try simp only [hc, bls]))
 | intro _ | refine And.intro ?_ ?_)
  all_goals first | exact zsd | exact ⟨_, rfl⟩
 simp only [if_true] at hO
 by_cases k1 : i < 0
 ·simp only [k1, decide_true, if_true] at hO
  subst hO
  clear hF hrt hlen
  obtain ⟨cs, ds, rs⟩ := F
  simp only at *
  refine ah.enter Tryz.func19 rfl (by kernel_rfl) (Nat.le_of_ble_eq_true rfl) ?_; simp only [ai, Nat.reduceAdd]
  repeat' (first
 | refine gCt rfl ?_
 | ((first
 | ((first | refine gR fp19 ?_ | refine gD 5 8 ed fp19 ?_); intro K hK)
 | refine cAl (hR) rfl rfl rfl ?_
 | (refine ab ?_ ?_ <;> intro hb <;> (try simp only [bls] at hb) <;> (try simp only [hb]))
 | refine gRe [] [.tmp 4, .tmp 5] rfl rfl ?_) <;> (try simp only [go_sem, simprocAttr, k1]))
 | (refine hK _ _ ?_; clear hK K; simp only [go_sem, simprocAttr])
 | refine gCd ?_ | refine brT ?_ | refine brF ?_
 | (refine brS ?_ ?_ <;> intro hc <;> (try simp only [bls] at hc) <;> (try simp only [hc, bls]))
 | intro _ | refine And.intro ?_ ?_)
  all_goals first | exact zsd | exact ⟨_, rfl⟩
 simp only [k1, decide_false, Bool.false_eq_true, if_false] at hO
 obtain ⟨n, rfl⟩ : ∃ n : Nat, i = n := ⟨i.toNat, by omega⟩
 rw [Int.toNat_natCast] at hO
 by_cases k2 : n < F.rules.length
 ·have k3 : ¬ (F.rules.length : Int) ≤ n := by omega
  have k4 : (n : Int) < F.rules.length := by omega
  have hm := List.getElem_mem k2
  have hx : F.rules[n]? = some F.rules[n] := List.getElem?_eq_getElem k2
  have he := hrt rfl _ hm
  have hln := hlen _ hm
  obtain ⟨_, _, hd1, hd2, _, hru⟩ := hF
  have hr3 := (hru _ hm).2.2
  rw [hx] at hO
  generalize F.rules[n] = r at hx he hr3 hO hln
  have hE := (kY true false true false r.l F.defs hln hr3 hd1 hd2).flat
  obtain ⟨X, hX⟩ : ∃ X, X = (ay r.l F.defs).1 := ⟨_, rfl⟩
  have hx2 := iS (show ay r.l F.defs = (X, 0) by rw [hX, ← he])
  rw [he, ← hX] at hE
  simp only at hO
  rw [← hX] at hO
  have hXr := hx2.2.2.1
  clear hX hx2
  clear hd2 hru hrt hm hlen
  obtain ⟨cs, ds, rs⟩ := F
  obtain ⟨rc, rf, rl, rk, rt, rp, rn⟩ := r
  simp only at *
  cases rf
  ·simp only [Bool.false_eq_true, if_false] at hO
   subst hO
   refine ah.enter Tryz.func19 rfl (by kernel_rfl) (Nat.le_of_ble_eq_true rfl) ?_; simp only [ai, Nat.reduceAdd]
   repeat' (first
 | refine gCt rfl ?_
 | ((first
 | ((first | refine gR fp19 ?_ | refine gD 5 14 ed fp19 ?_); intro K hK)
 | refine cAl (hR) rfl rfl rfl ?_
 | refine ⟨_, ah.alone (hE) rfl rfl rfl, ?_⟩
 | (refine ab ?_ ?_ <;> intro hb <;> (try simp only [bls] at hb) <;> (try simp only [hb]))
 | refine gRe [] [.tmp 4, .tmp 5] rfl rfl ?_) <;> (try simp only [go_sem, simprocAttr, k1, k3, k4, hx, Option.some.injEq, forall_eq']))
 | (refine hK _ _ ?_; clear hK K; simp only [go_sem, simprocAttr])
 | refine gCd ?_ | refine brT ?_ | refine brF ?_
 | (refine brS ?_ ?_ <;> intro hc <;> (try simp only [bls] at hc) <;> (try simp only [hc, bls]))
 | intro _ | refine And.intro ?_ ?_)
   all_goals first | exact zsd | exact ⟨_, rfl⟩
  ·simp only [if_true] at hO
   subst hO
   have hFo := fun fl => zE fl X hXr
   refine ah.enter Tryz.func19 rfl (by kernel_rfl) (Nat.le_of_ble_eq_true rfl) ?_; simp only [ai, Nat.reduceAdd]
   repeat' (first
 | refine gCt rfl ?_
 | ((first
 | ((first | refine gR fp19 ?_ | refine gD 5 14 ed fp19 ?_); intro K hK)
 | refine cAl (hR) rfl rfl rfl ?_
 | refine cAl (hFo _) rfl rfl rfl ?_
 | refine ⟨_, ah.alone (hE) rfl rfl rfl, ?_⟩
 | (refine ab ?_ ?_ <;> intro hb <;> (try simp only [bls] at hb) <;> (try simp only [hb]))
 | refine gRe [] [.tmp 4, .tmp 5] rfl rfl ?_) <;> (try simp only [go_sem, simprocAttr, k1, k3, k4, hx, Option.some.injEq, forall_eq']))
 | (refine hK _ _ ?_; clear hK K; simp only [go_sem, simprocAttr])
 | refine gCd ?_ | refine brT ?_ | refine brF ?_
 | (refine brS ?_ ?_ <;> intro hc <;> (try simp only [bls] at hc) <;> (try simp only [hc, bls]))
 | intro _ | refine And.intro ?_ ?_)
   all_goals first | exact zsd | exact ⟨_, rfl⟩
 ·have k3 : (F.rules.length : Int) ≤ n := by omega
  rw [List.getElem?_eq_none (by omega)] at hO
  subst hO
  clear hF hrt hlen
  obtain ⟨cs, ds, rs⟩ := F
  simp only at *
  refine ah.enter Tryz.func19 rfl (by kernel_rfl) (Nat.le_of_ble_eq_true rfl) ?_; simp only [ai, Nat.reduceAdd]
  repeat' (first
 | refine gCt rfl ?_
 | ((first
 | ((first | refine gR fp19 ?_ | refine gD 5 8 ed fp19 ?_); intro K hK)
 | refine cAl (hR) rfl rfl rfl ?_
 | (refine ab ?_ ?_ <;> intro hb <;> (try simp only [bls] at hb) <;> (try simp only [hb]))
 | refine gRe [] [.tmp 4, .tmp 5] rfl rfl ?_) <;> (try simp only [go_sem, simprocAttr, k1, k3]))
 | (refine hK _ _ ?_; clear hK K; simp only [go_sem, simprocAttr])
 | refine gCd ?_ | refine brT ?_ | refine brF ?_
 | (refine brS ?_ ?_ <;> intro hc <;> (try simp only [bls] at hc) <;> (try simp only [hc, bls]))
 | intro _ | refine And.intro ?_ ?_)
  all_goals first | exact zsd | exact ⟨_, rfl⟩
end Go.Rad
namespace Go.Rad
open Go Go.Sort
abbrev fx (l : List Int) : List Int := l.mergeSort fun x y => decide (x ≤ y)
def zb (P : Program) (f : Nat) : Prop := ∀ (blk off cap : Nat) (zs : List Int) (w : World), Holds (Value.int .i64) w blk off zs.toArray → blk < w.heap.size → zs.length < 4611686018427387904 →
 Calls P f #[.slice (some ⟨blk, off, none⟩) zs.length cap] w fun e w' => e = .returned (.tuple #[]) ∧ ∃ n os, w' = grow (putRow (Value.int .i64) (Sort.ahead w n) blk off (fx zs).toArray) os
theorem sR {w : World} {g n : Nat} {os : Array Obj} {cur : Array Value} {e : TypeId} {fr : Nat × Nat} (d : Array Int) (hb : w.heap[g]? = some (.cells cur e fr)) :
  (grow (putRow (Value.int .i64) (Sort.ahead w n) g 0 d) os).heap[g]? = some (.cells (putCells (Value.int .i64) 0 d cur) e fr) := by
 have hg : g < w.heap.size := (Array.getElem?_eq_some_iff.1 hb).1
 rw [heap_grow_old _ _ (by simpa [putRow, mapBlock, Sort.ahead] using hg)]
 simp [putRow, mapBlock, Sort.ahead, Array.getElem?_modify, hb, onCells]
theorem ah.wL {P : Program} {f : Nat} (able : dv P f) (id g : Nat) {l full : List Int} (n' : Nat) (hl : l ≠ []) (hfl : full.length = l.length) (hn' : n' ≤ full.length) (hfit : ∀ k ∈ full, k ∈ l ∨ k = 0) (res : aa) (val : Nat → Nat → Value)
  (hval : ∀ G b cap, G.M id g = some ⟨some b, cap, 1⟩ → n' ≤ cap → n' ≤ aq → Rep G true res (val b cap))
  (hS : ∀ (blk cap : Nat) (w : World), Holds (Value.int .i64) w blk 0 l.toArray → blk < w.heap.size → l.length < 4611686018427387904 → l.length ≤ cap →
   Calls P f #[.slice (some ⟨blk, 0, none⟩) l.length cap] w fun e w' => e = .returned (val blk cap) ∧ ∃ n os, w' = grow (putRow (Value.int .i64) (Sort.ahead w n) blk 0 full.toArray) os) :
  ah P f [.osl id g 0 l.length] [(id, (g, .row 1 (ints l)))] fun r s => r = res ∧ s = [(id, (g, .row 1 (ints (full.take n'))))] := by
 refine ⟨able, fun G w cargs hw hs ha => ?_⟩
 have hget : ak [(id, (g, bg.row 1 (ints l)))] id = some (g, .row 1 (ints l)) := by simp [ak]
 have hlen : 0 < l.length := List.length_pos_iff.2 hl
 obtain ⟨ob, cap, esz, a, hv, hM, hcap, hbig, hcn, _, ha0⟩ := Rep.dE (ha.2 0 _ rfl)
 obtain ⟨ob', cap', hM', o1, o2, _, _, _, o6, o7⟩ := hs.obj _ _ _ hget
 rw [hM] at hM'
 simp only [Option.some.injEq, Hd.mk.injEq] at hM'
 obtain ⟨rfl, rfl, rfl⟩ := hM'
 obtain ⟨b, rfl⟩ : ∃ b, ob = some b := by
  cases ob with
  | none => have := hcn rfl; omega
  | some b => exact ⟨b, rfl⟩
 have hadr := ha0 b rfl rfl
 subst hadr
 obtain ⟨hF, hcm, c, e, ⟨fr, hb, hfr⟩, hcs, hrep⟩ := o7 b rfl
 have hsz : cargs = #[.slice (some ⟨b, 0, none⟩) l.length cap] := by
  have h1 : cargs.size = 1 := by have := ha.1; simp at this; omega
  refine Array.ext (by simp [h1]) fun i h2 h3 => ?_
  have : i = 0 := by simp at h3; omega
  subst this
  simpa [Array.getD, h1] using hv
 have hcell : ∀ (j : Nat) (x : Int), l[j]? = some x → c[j]? = some (.int .i64 x) ∧ fits .i64 x := by
  intro j x hx
  have hj := (List.getElem?_eq_some_iff.1 hx).1
  have h1 := hrep j 0 [.int .i64 x] (.int .i64 x) (by simp [hx]) rfl
  obtain ⟨h2, h3⟩ := Rep.aK h1
  have hlt : j < c.size := by rw [hcs]; omega
  rw [show j * 1 + 0 = j by omega, Array.getD_eq_getD_getElem?, Array.getElem?_eq_getElem hlt] at h2
  exact ⟨by rw [Array.getElem?_eq_getElem hlt]; exact congrArg some h2, h3⟩
 have hblt : b < w.heap.size := (Array.getElem?_eq_some_iff.1 hb).1
 have hH : Holds (Value.int .i64) w b 0 l.toArray := by
  intro j hj
  have hj' : j < l.length := by simpa using hj
  have h1 := (hcell j l[j] (List.getElem?_eq_getElem hj')).1
  refine ⟨?_, ?_⟩
  rotate_left
  ·obtain ⟨lo, hi'⟩ := fr
   have hlt : j < c.size := by rw [hcs]; omega
   simp only at hfr
   simp only [World.frozen?, hb, Bool.and_eq_false_iff, decide_eq_false_iff_not]
   omega
  rw [cell_of_row w b (0 + j) c e fr hb, Nat.zero_add, h1]
  simp [hj']
 rw [hsz]
 have hcl := hS b cap w hH hblt (by unfold aq at hbig; omega) (by omega)
 refine hcl.mono fun en w' h => ?_
 obtain ⟨rfl, n, os, rfl⟩ := h
 have hsl : (full.take n').length ≤ l.length := by simp; omega
 have htl : (full.take n').length = n' := by simp; omega
 have hints : ∀ (l' : List Int) (i : Nat) (x : List aa), (ints l')[i]? = some x → ∃ k, l'[i]? = some k ∧ x = [.int .i64 k] := fun l' i x hx => by
  obtain ⟨k, h1, h2⟩ := zO _ _ _ hx; exact ⟨k, h1, h2⟩
 have hobj : bW G (grow (putRow (Value.int .i64) (Sort.ahead w n) b 0 full.toArray) os) id g (.row 1 (ints (full.take n'))) := by
  refine ⟨some b, cap, hM, ?_, ?_, Nat.one_pos, ?_, ?_, ?_, ?_⟩
  ·simp only [List.length_map]; omega
  ·simp only [List.length_map] at o2 ⊢; omega
  ·intro i x hx; obtain ⟨k, _, rfl⟩ := hints _ _ _ hx; rfl
  ·intro i j x y hx hy
   obtain ⟨k, _, rfl⟩ := hints _ _ _ hx
   cases j with
   | zero => simp only [List.getElem?_cons_zero, Option.some.injEq] at hy; subst hy; rfl
   | succ j => simp at hy
  ·intro h; cases h
  ·intro b' hb'
   have : b' = b := by cases hb'; rfl
   subst this
   refine ⟨hF, hcm, _, e, ⟨fr, sR full.toArray hb, by simpa [putCells] using hfr⟩, ?_, ?_⟩
   ·simp [putCells, hcs]
   ·intro i j x y hx hy
    obtain ⟨k, hk, rfl⟩ := hints _ _ _ hx
    cases j with
    | succ j => simp at hy
    | zero =>
     simp only [List.getElem?_cons_zero, Option.some.injEq] at hy
     subst hy
     have hi := (List.getElem?_eq_some_iff.1 hk).1
     have hil : i < c.size := by rw [hcs]; omega
     have hkf : full[i]? = some k := by rw [List.getElem?_take] at hk; split at hk <;> first | exact hk | cases hk
     have hif := (List.getElem?_eq_some_iff.1 hkf).1
     have hft : fits .i64 k := by
      rcases hfit k (List.mem_of_getElem? hkf) with hmem | rfl
      ·obtain ⟨j2, hj2⟩ := List.mem_iff_getElem?.1 hmem
       exact (hcell j2 k hj2).2
      ·unfold fits; simp [IntKind.wrap]; decide
     have e1 : (putCells (Value.int .i64) 0 full.toArray c).getD (i * 1 + 0) undef = .int .i64 k := by
      rw [show i * 1 + 0 = i by omega, Array.getD_eq_getD_getElem?]
      have hi2 : i < l.length := by omega
      simp [putCells, hil, hif]
      exact (List.getElem?_eq_some_iff.1 hkf).2
     rw [e1]
     exact .int hft
 obtain ⟨w1, s1⟩ := eH (w := w) (w' := grow (putRow (Value.int .i64) (Sort.ahead w n) b 0 full.toArray) os) (o' := .row 1 (ints (full.take n'))) ⟨rfl, rfl⟩ hw hs hget (by simp [grow, putRow, mapBlock, Sort.ahead])
  (fun k hk hne => by
   have hkb : b ≠ k := fun e => hne (by simp [av, hM, e])
   rw [heap_grow_old _ _ (by simpa [putRow, mapBlock, Sort.ahead] using hk)]
   simp [putRow, mapBlock, Sort.ahead, Array.getElem?_modify, hkb])
  hobj
 refine ⟨G, _, res, _, rfl, .refl G, w1, s1, hval G b cap hM (by omega) (by omega), rfl, ?_⟩
 simp [aF]
theorem ah.tH {P : Program} {f : Nat} (able : dv P f) (id g : Nat) (res : aa) (val : Option Addr → Nat → Value)
  (hval : ∀ G a cap, Rep G true (.osl id g 0 0) (.slice a 0 cap) → True → Rep G true res (val a cap))
  (hS : ∀ (a : Option Addr) (cap : Nat) (w : World), Calls P f #[.slice a 0 cap] w fun e w' => e = .returned (val a cap) ∧ w' = w) :
  ah P f [.osl id g 0 0] [(id, (g, .row 1 (ints [])))] fun r s => r = res ∧ s = [(id, (g, .row 1 (ints [])))] := by
 refine ⟨able, fun G w cargs hw hs ha => ?_⟩
 have hrep := ha.2 0 _ rfl
 obtain ⟨ob, cap, esz, a, hv, _⟩ := Rep.dE hrep
 have hsz : cargs = #[.slice a 0 cap] := by
  have h1 : cargs.size = 1 := by have := ha.1; simp at this; omega
  refine Array.ext (by simp [h1]) fun i h2 h3 => ?_
  have : i = 0 := by simp at h3; omega
  subst this
  simpa [Array.getD, h1] using hv
 rw [hv] at hrep
 rw [hsz]
 refine (hS a cap w).mono fun e w' h => ?_
 obtain ⟨rfl, rfl⟩ := h
 exact ⟨G, _, res, _, rfl, .refl G, hw, hs, hval G a cap hrep trivial, rfl, rfl⟩
theorem jb (l : List Int) : (fx l).length = l.length := (List.mergeSort_perm l _).length_eq
theorem ah.AY {P : Program} {f : Nat} (able : dv P f) (hS : zb P f) (h0 : ∀ (a : Option Addr) (cap : Nat) (w : World), Calls P f #[.slice a 0 cap] w fun e w' => e = .returned (.tuple #[]) ∧ w' = w) (id g : Nat) (l : List Int) :
  ah P f [.osl id g 0 l.length] [(id, (g, .row 1 (ints l)))] fun r s => r = .tup [] ∧ s = [(id, (g, .row 1 (ints (fx l))))] := by
 rcases List.eq_nil_or_concat l with rfl | hl
 ·rw [show fx [] = [] by simp [fx]]
  exact ah.tH able id g (.tup []) (fun _ _ => .tuple #[]) (fun G a cap _ _ => .tup (by simp) (fun j x hx => by simp at hx)) fun a cap w => h0 a cap w
 ·have hl : l ≠ [] := by obtain ⟨a, b, rfl⟩ := hl; simp
  have := ah.wL (P := P) (f := f) able id g (full := fx l) l.length hl (jb l) (by rw [jb]; exact Nat.le_refl _) (fun k hk => .inl ((List.mergeSort_perm l _).mem_iff.1 hk)) (.tup []) (fun _ _ => .tuple #[]) (fun _ _ _ _ _ _ => .tup (by simp) (fun j x hx => by simp at hx)) fun blk cap w h1 h2 h3 _ => hS blk 0 cap l w h1 h2 h3
  rw [show (fx l).take l.length = fx l by rw [← jb l, List.take_length]] at this
  exact this
def so (P : Program) (f : Nat) : Prop := ∀ (blk off cap : Nat) (zs : List Int) (w : World), Holds (Value.int .i64) w blk off zs.toArray → zs.length ≤ 9223372036854775807 → zs.length ≤ cap →
 Calls P f #[.slice (some ⟨blk, off, none⟩) zs.length cap] w fun e w' => e = .returned (.slice (some ⟨blk, off, none⟩) (Lib.compact zs).length cap) ∧ ∃ q, w' = putRow (Value.int .i64) (Sort.ahead w q) blk off (Lib.compact zs ++ List.replicate (zs.length - (Lib.compact zs).length) 0).toArray
theorem sC (l : List Int) : (Lib.compact l).length ≤ l.length := by
 unfold Lib.compact Lib.compactUpTo
 simp only [List.length_map]
 exact Nat.le_trans (List.length_filter_le _ _) (by simp)
theorem lM {l : List Int} {k : Int} (h : k ∈ Lib.compact l) : k ∈ l := by
 unfold Lib.compact Lib.compactUpTo at h
 obtain ⟨i, hi, rfl⟩ := List.mem_map.1 h
 have hi := List.mem_range.1 (List.mem_filter.1 hi).1
 simp [hi]
theorem ah.sB {P : Program} {f : Nat} (able : dv P f) (hC : so P f) (h0 : ∀ (a : Option Addr) (cap : Nat) (w : World), Calls P f #[.slice a 0 cap] w fun e w' => e = .returned (.slice a 0 cap) ∧ w' = w) (id g : Nat) (l : List Int) :
  ah P f [.osl id g 0 l.length] [(id, (g, .row 1 (ints l)))] fun r s => r = .osl id g 0 (Lib.compact l).length ∧ s = [(id, (g, .row 1 (ints (Lib.compact l))))] := by
 rcases List.eq_nil_or_concat l with rfl | hl
 ·exact ah.tH able id g (.osl id g 0 0) (fun a cap => .slice a 0 cap) (fun G a cap h _ => h) fun a cap w => h0 a cap w
 ·have hl : l ≠ [] := by obtain ⟨a, b, rfl⟩ := hl; simp
  have hle := sC l
  have := ah.wL (P := P) (f := f) able id g (full := Lib.compact l ++ List.replicate (l.length - (Lib.compact l).length) 0) (Lib.compact l).length hl (by simp; omega) (by simp)
   (fun k hk => by
    rcases List.mem_append.1 hk with h | h
    ·exact .inl (lM h)
    ·exact .inr (List.mem_replicate.1 h).2) (.osl id g 0 (Lib.compact l).length) (fun b cap => .slice (some ⟨b, 0, none⟩) (Lib.compact l).length cap)
   (fun G b cap h h1 h2 => .osl h (by omega) h2 (fun h => nomatch h) (fun b' hb _ => by cases hb; rfl) (fun b' hb _ => by cases hb; rfl)) fun blk cap w h1 h2 h3 h4 => (hC blk 0 cap l w h1 (by omega) h4).mono fun e w' h => by
    obtain ⟨h, q, rfl⟩ := h
    exact ⟨h, q, #[], by simp⟩
  rw [List.take_left] at this
  exact this
end Go.Rad
namespace Go.Rad
open Go
def jS (P : Program) (f : Nat) : Prop := (∀ (a : Option Addr) (w : World), Calls P f #[.slice a 0 0, .int .i64 0] w fun e w' => e = .returned (.slice a 0 0) ∧ w' = w) ∧
 ∀ (a : Option Addr) (n : Nat) (w : World), 0 < n → n * 8 ≤ 140737488355328 → Calls P f #[.slice a 0 0, .int .i64 n] w fun e w' => ∃ (cap : Nat) (cs : Array Value) (t : TypeId), cap ≤ maxLen ∧ cs.size = cap ∧ e = .returned (.slice (some ⟨w.heap.size, 0, none⟩) 0 cap) ∧ w' = w.drew.alloc (.cells cs t)
theorem ah.CE {P : Program} {f : Nat} (able : dv P f) (hG : jS P f) (d : Nat) (n : Nat) (hn : n * 8 ≤ 140737488355328) :
  ah P f [.sl true true [], .int .i64 n] [] fun r s => ∃ g, r = .osl d g 0 0 ∧ s = [(d, (g, .row 1 []))] := by
 refine ⟨able, fun G w cargs hw hs ha => ?_⟩
 obtain ⟨a, cap, hv, _, _, hfull⟩ := Rep.fH (ha.2 0 _ rfl)
 have hcap : cap = 0 := hfull rfl
 subst hcap
 obtain ⟨h2, h3⟩ := Rep.aK (ha.2 1 _ rfl)
 have hsz : cargs = #[.slice a 0 0, .int .i64 n] := by
  have h1 : cargs.size = 2 := by have := ha.1; simp at this; omega
  refine Array.ext (by simp [h1]) fun i h4 h5 => ?_
  have : i = 0 ∨ i = 1 := by simp at h5; omega
  rcases this with rfl | rfl
  ·simpa [Array.getD, h1] using hv
  ·simpa [Array.getD, h1] using h2
 rw [hsz]
 rcases Nat.eq_zero_or_pos n with rfl | h0
 ·refine (hG.1 a w).mono fun e w' h => ?_
  obtain ⟨rfl, rfl⟩ := h
  obtain ⟨b1, b2, b3⟩ := dY (w := w') (w' := w') (id := d) (o := .row 1 []) (hd := ⟨none, 0, 1⟩) (Kept.refl _) hw hs (Nat.le_refl _) (fun _ _ _ => rfl) (fun b hb => by cases hb)
   ⟨none, 0, bU _ _ _, Nat.le_refl _, Nat.zero_le _, Nat.one_pos, fun i x hx => by simp at hx, fun i j x y hx => by simp at hx, fun _ => rfl, fun b hb => by cases hb⟩
  exact ⟨_, _, .osl d G.N 0 0, _, rfl, b1, b2, b3, .osl (bU _ _ _) (Nat.le_refl _) (Nat.zero_le _) (fun _ => rfl) (fun b hb => by cases hb) (fun b hb => by cases hb), G.N, rfl, rfl⟩
 ·refine (hG.2 a n w h0 hn).mono fun e w' h => ?_
  obtain ⟨cap, cs, t, h1, h2, rfl, rfl⟩ := h
  obtain ⟨b1, b2, b3⟩ := dY (w := w) (w' := w.drew.alloc (.cells cs t)) (id := d) (o := .row 1 []) (hd := ⟨some w.heap.size, cap, 1⟩) ((Kept.drew w).trans (Kept.alloc _ _ _)) hw hs (by simp) (fun b hb _ => by first | exact heap_alloc_old w.drew _ b hb | exact heap_alloc_old w.drew _ hb) (fun b hb => by cases hb; exact ⟨by simp, .inl (Nat.le_refl _)⟩)
   ⟨some w.heap.size, cap, bU _ _ _, Nat.zero_le _, Nat.zero_le _, Nat.one_pos, fun i x hx => by simp at hx, fun i j x y hx => by simp at hx, fun h => (nomatch h), fun b hb => by
    cases hb
    exact ⟨show G.F w.heap.size = none from gm hw, h1, cs, t, .zero (heap_alloc_new w.drew _), by simp [h2], fun i j x y hx => by simp at hx⟩⟩
  exact ⟨_, _, .osl d G.N 0 0, _, rfl, b1, b2, b3, .osl (bU _ _ _) (Nat.zero_le _) (Nat.zero_le _) (fun h => nomatch h) (fun b hb _ => by cases hb; rfl) (fun b hb _ => by cases hb; rfl), G.N, rfl, rfl⟩
theorem ah.give {P : Program} {f : Nat} {args : List aa} {sto0 : Sto} {id : Nat} {l : List (List aa)} (h : ah P f args sto0 fun r s => ∃ g, r = .osl id g 0 l.length ∧ s = [(id, (g, .row 1 l))]) : ah P f args sto0 fun r s => r = .sl true false l ∧ s = [] :=
 ⟨h.able, fun G w cargs hw hs ha => (h.calls G w cargs hw hs ha).mono fun e w' p => by
  obtain ⟨H, cr, r, s, rfl, hx, hw', hs', hr, g, rfl, rfl⟩ := p
  obtain ⟨G', hext, hw2, hs2, hR⟩ := gL (id := id) hw' hs' (g := g) (esz := 1) (l := l) (by simp [ak])
  have h1 := hR 0 l.length cr (by omega) hr
  rw [List.drop_zero, List.take_of_length_le (Nat.le_refl _)] at h1
  exact ⟨G', cr, _, _, rfl, hx.trans hext, hw2, by simpa [cf] using hs2, h1, rfl, rfl⟩⟩
end Go.Rad
namespace Go.Rad
open Go Go.Proofs
set_option linter.all false
set_option maxRecDepth 20000
set_option maxHeartbeats 4000000
theorem ID (q f : Bool) (l : List Int) (c : Int) (hl : l.length ≤ 1000000) :
  ah Tryz.prog 99 [.sl q f (ints l), .int .i64 c] [] fun r s' => r = .bool (decide (c ∈ l)) ∧ s' = [] := by
 obtain ⟨S, hS⟩ : ∃ S, S = decide (c ∈ l) := ⟨_, rfl⟩
 rw [← hS]
 refine ah.enter Tryz.func99 rfl (by kernel_rfl) (Nat.le_of_ble_eq_true rfl) ?_; simp only [ai, Nat.reduceAdd]
 repeat' (first
 | refine gCt rfl ?_
 | ((first
 | ((first | refine gR fp99 ?_); intro K hK)
 | (refine ab ?_ ?_ <;> intro hb <;> (try simp only [bls] at hb) <;> (try simp only [hb]))
 | refine gRe [] [.tmp 4] rfl rfl ?_) <;> (try simp only [go_sem, simprocAttr]))
 | (refine hK _ _ ?_; clear hK K; simp only [go_sem, simprocAttr])
 | refine gCd ?_ | refine brT ?_ | refine brF ?_
 | (refine brS ?_ ?_ <;> intro hc <;> (try simp only [bls] at hc) <;> (try simp only [hc, bls]))
 | intro _ | refine And.intro ?_ ?_)
 refine ae.prune [0, 1, 4, 5] ?_; simp only [go_sem, simprocAttr]
 refine ae.al (α := Nat) (fun i => ([(0, .sl q f (ints l)), (1, .int .i64 c), (4, .bool false), (5, .int .i64 i)], [])) (fun i => i ≤ l.length ∧ S = decide (c ∈ l.drop i)) (fun i => l.length - i) 0 ⟨Nat.zero_le _, hS⟩ rfl ?_
 rintro i ⟨hi, hrun⟩ ih
 simp only
 by_cases hle : i < l.length
 ·have e4 : (i : Int) < l.length := by omega
  have e5 : (0 : Int) ≤ i := by omega
  have e6 : (i : Int) + 1 = ((i + 1 : Nat) : Int) := by omega
  have hx : l[i]? = some l[i] := List.getElem?_eq_getElem hle
  have hdr : l.drop i = l[i] :: l.drop (i + 1) := List.drop_eq_getElem_cons hle
  rw [hdr] at hrun
  generalize l[i] = k at hx hrun
  by_cases hp : k = c
  ·subst hp
   simp only [List.mem_cons_self, decide_true] at hrun
   subst hrun
   have e7 : (k = k) = True := eq_self k
   repeat' (first
 | refine gCt rfl ?_
 | ((first
 | ((first | refine gR fp99 ?_); intro K hK)
 | (refine ab ?_ ?_ <;> intro hb <;> (try simp only [bls] at hb) <;> (try simp only [hb]))
 | refine gRe [] [.tmp 4] rfl rfl ?_) <;> (try simp only [go_sem, simprocAttr, e4, e5, e6, hx, e7, Option.some.injEq, forall_eq']))
 | (refine hK _ _ ?_; clear hK K; simp only [go_sem, simprocAttr])
 | refine gCd ?_ | refine brT ?_ | refine brF ?_
 | (refine brS ?_ ?_ <;> intro hc <;> (try simp only [bls] at hc) <;> (try simp only [hc, bls]))
 | intro _ | refine And.intro ?_ ?_)
   all_goals try exact zsd
  ·have hp' : ¬ c = k := fun e => hp e.symm
   simp only [List.mem_cons, hp', false_or] at hrun
   repeat' (first
 | refine gCt rfl ?_
 | ((first
 | ((first | refine gR fp99 ?_); intro K hK)
 | (refine ab ?_ ?_ <;> intro hb <;> (try simp only [bls] at hb) <;> (try simp only [hb]))
 | refine gRe [] [.tmp 4] rfl rfl ?_) <;> (try simp only [go_sem, simprocAttr, e4, e5, e6, hx, hp, Option.some.injEq, forall_eq']))
 | (refine hK _ _ ?_; clear hK K; simp only [go_sem, simprocAttr])
 | refine gCd ?_ | refine brT ?_ | refine brF ?_
 | (refine brS ?_ ?_ <;> intro hc <;> (try simp only [bls] at hc) <;> (try simp only [hc, bls]))
 | intro _ | refine And.intro ?_ ?_)
   all_goals try exact zsd
   refine ae.prune [0, 1, 4, 5] ?_; simp only [go_sem, simprocAttr]
   exact (ih (i + 1) ⟨by omega, hrun⟩ (by omega)).cast rfl rfl
 ·have e4 : ¬ (i : Int) < l.length := by omega
  rw [List.drop_of_length_le (by omega)] at hrun
  simp only [List.not_mem_nil, decide_false] at hrun
  subst hrun
  repeat' (first
 | refine gCt rfl ?_
 | ((first
 | ((first | refine gR fp99 ?_); intro K hK)
 | (refine ab ?_ ?_ <;> intro hb <;> (try simp only [bls] at hb) <;> (try simp only [hb]))
 | refine gRe [] [.tmp 4] rfl rfl ?_) <;> (try simp only [go_sem, simprocAttr, e4]))
 | (refine hK _ _ ?_; clear hK K; simp only [go_sem, simprocAttr])
 | refine gCd ?_ | refine brT ?_ | refine brF ?_
 | (refine brS ?_ ?_ <;> intro hc <;> (try simp only [bls] at hc) <;> (try simp only [hc, bls]))
 | intro _ | refine And.intro ?_ ?_)
  all_goals try exact zsd
def vN (b : Bool) (c : Int) (r : Ru) : Bool := decide (c ∈ r.conds) && (b || !r.line)
def mV (b : Bool) (c : Int) : List Ru → Nat → List Int
 | [], _ => []
 | r :: l, i => if vN b c r = true then (i : Int) :: mV b c l (i + 1) else mV b c l (i + 1)
theorem vO (b : Bool) (c : Int) : ∀ (l : List Ru) (i : Nat), (mV b c l i).length ≤ l.length
 | [], _ => Nat.le_refl _
 | r :: l, i => by
  have := vO b c l (i + 1)
  rw [mV]; split <;> simp <;> omega
theorem zc (F : Fl) (c : Int) (b : Bool) (h64 : F.rules.length ≤ 1000) (hrc : ∀ r ∈ F.rules, r.conds.length ≤ 1000000) :
  ah Tryz.prog 74 [.agg F.cells, .int .i64 c, .bool b] [] fun r s => r = .sl true false (ints (mV b c F.rules 0)) ∧ s = [] := by
 have hI := fun r (h : r ∈ F.rules) => ID true false r.conds c (hrc r h)
 refine ah.give (id := 900) ?_
 obtain ⟨S, hS⟩ : ∃ S, S = mV b c F.rules 0 := ⟨_, rfl⟩
 rw [← hS]
 obtain ⟨cs, ds, rs⟩ := F
 simp only at *
 clear hrc
 refine ah.enter Tryz.func74 rfl (by kernel_rfl) (Nat.le_of_ble_eq_true rfl) ?_; simp only [ai, Nat.reduceAdd]
 repeat' (first
 | refine gCt rfl ?_
 | ((first
 | (refine ae.at 2 ?_; (refine ae.de 3 3 rfl rfl rfl ?_; simp only [go_sem, simprocAttr]); refine gR fp74 ?_; intro K hK)
 | ((first | refine gR fp74 ?_); intro K hK)
 | (refine ab ?_ ?_ <;> intro hb <;> (try simp only [bls] at hb) <;> (try simp only [hb]))
 | refine gRe [] [.tmp 6] rfl rfl ?_) <;> (try simp only [go_sem, simprocAttr]))
 | (refine hK _ _ ?_; clear hK K; simp only [go_sem, simprocAttr])
 | refine gCd ?_ | refine brT ?_ | refine brF ?_
 | (refine brS ?_ ?_ <;> intro hc <;> (try simp only [bls] at hc) <;> (try simp only [hc, bls]))
 | intro _ | refine And.intro ?_ ?_)
 all_goals try exact zsd
 refine ae.jr 7 900 1 (by decide) rfl fun g9 => ?_
 simp only [go_sem, simprocAttr]
 refine ae.prune [1, 2, 3, 6, 7, 8] ?_; simp only [go_sem, simprocAttr]
 refine ae.al (α := Nat × List Int × Nat) (fun i => ([(1, .int .i64 c), (2, .bool b), (3, .ref true [.sl true false (cb cs), .sl true false (Rad.defs ds), .sl true false (bf rs)]), (6, .sl true true []), (7, .osl 900 i.2.2 0 i.2.1.length), (8, .int .i64 i.1)], [(900, i.2.2, .row 1 (ints i.2.1))])) (fun i => i.1 ≤ rs.length ∧ i.2.1.length ≤ i.1 ∧ S = i.2.1 ++ mV b c (rs.drop i.1) i.1) (fun i => rs.length - i.1) (0, [], g9) ⟨Nat.zero_le _, Nat.zero_le _, hS⟩ rfl ?_
 rintro ⟨i, out, g⟩ ⟨hi, hol, hrun⟩ ih
 simp only at hi hol hrun ih ⊢
 by_cases hle : i < rs.length
 ·have e4 : (i : Int) < rs.length := by omega
  have e5 : (0 : Int) ≤ i := by omega
  have e6 : (i : Int) + 1 = ((i + 1 : Nat) : Int) := by omega
  have hx : rs[i]? = some rs[i] := List.getElem?_eq_getElem hle
  have hdr : rs.drop i = rs[i] :: rs.drop (i + 1) := List.drop_eq_getElem_cons hle
  have hc := hI _ (List.getElem_mem hle)
  rw [hdr, mV] at hrun
  clear hI hdr hS
  generalize rs[i] = k at hx hc hrun
  obtain ⟨rc, rf, rl, rk, rt, rp, rn⟩ := k
  simp only [vN] at hc hrun
  cases hB : decide (c ∈ rc) <;> rw [hB] at hc <;> simp only [hB] at hrun
  ·simp only [Bool.false_and, Bool.false_eq_true, if_false] at hrun
   repeat' (first
 | refine gCt rfl ?_
 | ((first
 | ((first | refine gR fp74 ?_); intro K hK)
 | refine cAl (hc) rfl rfl rfl ?_
 | (refine ab ?_ ?_ <;> intro hb <;> (try simp only [bls] at hb) <;> (try simp only [hb]))
 | refine gRe [] [.tmp 6] rfl rfl ?_) <;> (try simp only [go_sem, simprocAttr, e4, e5, e6, hx, Option.some.injEq, forall_eq']))
 | (refine hK _ _ ?_; clear hK K; simp only [go_sem, simprocAttr])
 | refine gCd ?_ | refine brT ?_ | refine brF ?_
 | (refine brS ?_ ?_ <;> intro hc <;> (try simp only [bls] at hc) <;> (try simp only [hc, bls]))
 | intro _ | refine And.intro ?_ ?_)
   all_goals try exact zsd
   refine ae.bh [900] ?_
   simp only [ao, au, go_sem, simprocAttr]
   refine ae.prune [1, 2, 3, 6, 7, 8] ?_; simp only [go_sem, simprocAttr]
   exact (ih (i + 1, out, g) ⟨by simp only; omega, by simp only; omega, hrun⟩ (by simp only; omega)).cast rfl rfl
  cases b
  ·cases rl
   ·simp only [Bool.not_false, Bool.false_or, Bool.true_and, if_true] at hrun
    repeat' (first
 | refine gCt rfl ?_
 | ((first
 | ((first | refine gRg [38] fp74 ?_); intro K hK)
 | refine cAl (hc) rfl rfl rfl ?_
 | (refine ab ?_ ?_ <;> intro hb <;> (try simp only [bls] at hb) <;> (try simp only [hb]))
 | refine gRe [] [.tmp 6] rfl rfl ?_) <;> (try simp only [go_sem, simprocAttr, e4, e5, e6, hx, Option.some.injEq, forall_eq']))
 | (refine hK _ _ ?_; clear hK K; simp only [go_sem, simprocAttr])
 | refine gCd ?_ | refine brT ?_ | refine brF ?_
 | (refine brS ?_ ?_ <;> intro hc <;> (try simp only [bls] at hc) <;> (try simp only [hc, bls]))
 | intro _ | refine And.intro ?_ ?_)
    all_goals try exact zsd
    all_goals (rename_i h9; refine ae.bh [900] ?_; simp only [ao, au, go_sem, simprocAttr]; refine ae.prune [1, 2, 3, 6, 7, 8] ?_; simp only [go_sem, simprocAttr]; exact ae.cast (ih (i + 1, out ++ [(i : Int)], h9) ⟨by simp only; omega, by simp; omega, by rw [hrun]; simp⟩ (by simp only; omega)) (by simp) (by simp))
   ·simp only [Bool.not_true, Bool.or_self, Bool.and_false, Bool.false_eq_true, if_false] at hrun
    repeat' (first
 | refine gCt rfl ?_
 | ((first
 | ((first | refine gR fp74 ?_); intro K hK)
 | refine cAl (hc) rfl rfl rfl ?_
 | (refine ab ?_ ?_ <;> intro hb <;> (try simp only [bls] at hb) <;> (try simp only [hb]))
 | refine gRe [] [.tmp 6] rfl rfl ?_) <;> (try simp only [go_sem, simprocAttr, e4, e5, e6, hx, Option.some.injEq, forall_eq']))
 | (refine hK _ _ ?_; clear hK K; simp only [go_sem, simprocAttr])
 | refine gCd ?_ | refine brT ?_ | refine brF ?_
 | (refine brS ?_ ?_ <;> intro hc <;> (try simp only [bls] at hc) <;> (try simp only [hc, bls]))
 | intro _ | refine And.intro ?_ ?_)
    all_goals try exact zsd
    refine ae.bh [900] ?_
    simp only [ao, au, go_sem, simprocAttr]
    refine ae.prune [1, 2, 3, 6, 7, 8] ?_; simp only [go_sem, simprocAttr]
    exact (ih (i + 1, out, g) ⟨by simp only; omega, by simp only; omega, hrun⟩ (by simp only; omega)).cast rfl rfl
  ·simp only [Bool.true_or, Bool.true_and, if_true] at hrun
   repeat' (first
 | refine gCt rfl ?_
 | ((first
 | ((first | refine gRg [38] fp74 ?_); intro K hK)
 | refine cAl (hc) rfl rfl rfl ?_
 | (refine ab ?_ ?_ <;> intro hb <;> (try simp only [bls] at hb) <;> (try simp only [hb]))
 | refine gRe [] [.tmp 6] rfl rfl ?_) <;> (try simp only [go_sem, simprocAttr, e4, e5, e6, hx, Option.some.injEq, forall_eq']))
 | (refine hK _ _ ?_; clear hK K; simp only [go_sem, simprocAttr])
 | refine gCd ?_ | refine brT ?_ | refine brF ?_
 | (refine brS ?_ ?_ <;> intro hc <;> (try simp only [bls] at hc) <;> (try simp only [hc, bls]))
 | intro _ | refine And.intro ?_ ?_)
   all_goals try exact zsd
   all_goals (rename_i h9; refine ae.bh [900] ?_; simp only [ao, au, go_sem, simprocAttr]; refine ae.prune [1, 2, 3, 6, 7, 8] ?_; simp only [go_sem, simprocAttr]; exact ae.cast (ih (i + 1, out ++ [(i : Int)], h9) ⟨by simp only; omega, by simp; omega, by rw [hrun]; simp⟩ (by simp only; omega)) (by simp) (by simp))
 ·have e4 : ¬ (i : Int) < rs.length := by omega
  rw [List.drop_of_length_le (by omega)] at hrun
  simp only [mV, List.append_nil] at hrun
  subst hrun
  clear ih hI
  repeat' (first
 | refine gCt rfl ?_
 | ((first
 | ((first | refine gR fp74 ?_); intro K hK)
 | (refine ab ?_ ?_ <;> intro hb <;> (try simp only [bls] at hb) <;> (try simp only [hb]))
 | refine gRe [900] [.tmp 6] rfl rfl ?_) <;> (try simp only [go_sem, simprocAttr, e4]))
 | (refine hK _ _ ?_; clear hK K; simp only [go_sem, simprocAttr])
 | refine gCd ?_ | refine brT ?_ | refine brF ?_
 | (refine brS ?_ ?_ <;> intro hc <;> (try simp only [bls] at hc) <;> (try simp only [hc, bls]))
 | intro _ | refine And.intro ?_ ?_)
  all_goals first | exact zsd | exact ⟨_, rfl, rfl⟩ | exact ⟨_, by simp, rfl⟩
end Go.Rad
namespace Go.Rad
open Go
theorem wa {nm : ByteArray → List Node → Out} (hnm : ∀ s out, (nm s out).2.2 ≠ 0) : ∀ (l : List Node) (A : List Int) (out : List Node), (goT nm l A out).2.2 = 0 → ∀ n ∈ l, n.op ≠ 6
 | [], _, _, _, n, hn => by simp at hn
 | m :: l, A, out, h, n, hn => by
  rw [goT] at h
  split at h
  ·rename_i he
   rcases List.mem_cons.1 hn with rfl | hn
   ·intro h6
    rw [stepT, if_pos h6] at he
    exact hnm _ _ he
   ·exact wa hnm l _ _ h n hn
  ·rename_i he; exact absurd h he
theorem uZ (f : Nat) (op : List ByteArray) (s : ByteArray) (out : List Node) : (aP [] f op s out).2.2 ≠ 0 := by
 cases f with
 | zero => simp [aP]
 | succ f => simp [aP, dK]
theorem yc (l : List Node) : decide ((ay l []).2 = 0) = cy l := by
 rw [Bool.eq_iff_iff, decide_eq_true_eq]
 constructor
 ·intro h
  have hx : ay l [] = ((ay l []).1, 0) := Prod.ext rfl h
  obtain ⟨h1, _, _, _⟩ := iS hx
  simp only [cy, Bool.and_eq_true, List.all_eq_true]
  refine ⟨fun n hn => decide_eq_true ?_, by rw [← dF]; exact h1⟩
  rw [ay, if_pos ⟨h1, rfl⟩] at h
  split at h
  ·rename_i he
   exact wa (uZ _ _) l [] [] he n hn
  ·rename_i he; exact absurd h he
 ·intro h
  simp only [cy, Bool.and_eq_true, List.all_eq_true] at h
  rw [qO (fun n hn => of_decide_eq_true (h.1 n hn)) (by rw [dF]; exact h.2) rfl]
def repL (lo hi : Int) : Lb := ⟨5, aw.none, lo, hi, ByteArray.empty⟩
namespace Fo
def CL : Fo → Bool
 | .node b _ _ => decide (b.op = 2)
 | .nil => false
end Fo
open Fo
abbrev PO := List Node × Int
def FOk (s : List Node → List Node × List Int) (f : Fo) : Prop := ∀ out, (out.length + f.size ≤ 1024 → s out = (out ++ f.lay out.length, f.roots out.length)) ∧ (1024 < out.length + f.size → 1024 < (s out).1.length)
def JH (s t : List Node → List Node × List Int) (out : List Node) : List Node × List Int := ((t (s out).1).1, (s out).2 ++ (t (s out).1).2)
def wW (b : Lb) (s : List Node → List Node × List Int) (out : List Node) : List Node × List Int := ((s out).1 ++ [b.node (s out).2], [((s out).1.length : Int)])
abbrev nilS (out : List Node) : List Node × List Int := (out, [])
theorem FOk.nil : FOk nilS .nil := fun out => ⟨fun _ => by simp [lay, roots], fun h => by simpa [size] using h⟩
theorem FOk.seq {s t : List Node → List Node × List Int} {f g : Fo} (hs : FOk s f) (ht : FOk t g) : FOk (JH s t) (f.app g) := by
 intro out
 rw [tP]
 by_cases h1 : out.length + f.size ≤ 1024
 ·have e := (hs out).1 h1
  have el : (out ++ f.lay out.length).length = out.length + f.size := by simp [cT]
  obtain ⟨t1, t2⟩ := ht (out ++ f.lay out.length)
  rw [el] at t1 t2
  refine ⟨fun h => ?_, fun h => ?_⟩
  ·simp only [JH, e]
   rw [t1 (by omega), wg, qg]
   simp
  ·simp only [JH, e]
   exact t2 (by omega)
 ·have e := (hs out).2 (by omega)
  refine ⟨fun h => by omega, fun _ => ?_⟩
  exact (ht (s out).1).2 (by omega)
theorem FOk.wrap {s : List Node → List Node × List Int} {f : Fo} (b : Lb) (hs : FOk s f) : FOk (wW b s) (one b f) := by
 intro out
 simp only [size, Nat.add_zero]
 by_cases h1 : out.length + f.size ≤ 1024
 ·have e := (hs out).1 h1
  refine ⟨fun h => ?_, fun h => ?_⟩
  ·simp only [wW, e, lay, roots]
   simp [cT]
  ·simp only [wW, e]
   simp [cT]; omega
 ·have e := (hs out).2 (by omega)
  refine ⟨fun h => by omega, fun _ => ?_⟩
  simp only [wW, List.length_append]; omega
theorem FOk.guard {s s' : List Node → List Node × List Int} {f : Fo} (h : ∀ out, s' out = s out ∨ (1024 < (s' out).1.length ∧ 1024 < out.length + f.size)) (hs : FOk s f) : FOk s' f := by
 intro out
 rcases h out with e | ⟨e1, e2⟩
 ·rw [e]; exact hs out
 ·exact ⟨fun h => by omega, fun _ => e1⟩
end Go.Rad
namespace Go.Rad
open Go
variable {pl : List Node → PO} {C : Nat}
end Go.Rad
namespace Go.Rad
open Go
theorem hv {α : Type} {P : α → Prop} {G : Prop} (main : (∀ a, P a) → G) (key : ∀ a, P a) : G := main key
structure Keep (P : Prop) : Prop where
 out : P
theorem hv0 {P G : Prop} (main : Keep P → G) (key : P) : G := main ⟨key⟩
theorem hv2 {P : Nat → Nat → Prop} {G : Prop} (main : (∀ a b, Keep (P a b)) → G) (key : ∀ a b, P a b) : G := main fun a b => ⟨key a b⟩
structure Stop (G : Prop) : Prop where
 out : G
theorem lX {G : Prop} (h : Stop G) : G := h.out
theorem lW {G : Prop} (h : G) : Stop G := ⟨h⟩
end Go.Rad
namespace Go.Rad
open Go Go.Proofs
set_option linter.all false
set_option maxRecDepth 20000
set_option maxHeartbeats 4000000
def oZ (w : ByteArray) (n : Nat) : Bool := decide (n = 0) || decide (ch w (n - 1) = 10)
theorem oc {w : ByteArray} {n : Nat} {c : Int} : ∀ {Z : List (Ru × List Node)} {i : Nat}, (dL w n c Z i).map (fun p => (p.1 : Int)) = mV (oZ w n) c (Z.map Prod.fst) i
 | [], _ => rfl
 | x :: Z, i => by
  have ih := oc (w := w) (n := n) (c := c) (Z := Z) (i := i + 1)
  have h : mW w x.1 n c = vN (oZ w n) c x.1 := by
   unfold mW vN oZ
   cases x.1.line <;> simp
  rw [dL, List.map_cons, mV, h]
  split
  ·rw [List.map_cons, ih]
  ·exact ih
theorem th {F : Fl} {w : ByteArray} {g : Nat → List Node → Int × Bool} (h : hJ F w g) (hlen : ∀ r ∈ F.rules, r.l.length ≤ maxLen) (hg : jT Tryz.prog 25 F w g) (n : Nat) (c : Int) (hn : n < w.size) :
  ah Tryz.prog 46 [.agg F.cells, .str w, .int .i64 n, .int .i64 c] [] fun r s => r = .tup [.agg (b9 F w g n c).1.cells, .int .i64 (b9 F w g n c).2] ∧ s = [] := by
 obtain ⟨_, _, h64, hru⟩ := fw h.ok
 have hact := zc F c (oZ w n) (by omega) (fun r hr => (hru r hr).1)
 have hZl : (F.rules.zip (bF F)).map Prod.fst = F.rules := List.map_fst_zip (by rw [jN]; exact Nat.le_refl _)
 have hT : ∀ i, i < F.rules.length → ah Tryz.prog 19 [.agg F.cells, .int .i64 i] [] fun r s => r = .tup [.sl true false (nodes (cd F i).1), .int .i64 0] ∧ s = [] := fun i hi => by
  have := (qo F i ⟨by show (-9223372036854775808 : Int) ≤ _; omega, by show _ ≤ (9223372036854775807 : Int); omega⟩ h.len hlen).flat
  rw [tY h.ok hi] at this; exact this
 have hP : ∀ p ∈ dL w n c (F.rules.zip (bF F)) 0, p.1 < F.rules.length ∧ p.2 = (cd F p.1).1 ∧ p.2 ∈ bF F := fun p hp => by
  obtain ⟨_, x, hx, hx2, _⟩ := rA hp
  obtain ⟨h1, h2⟩ := List.getElem?_zip_eq_some.1 hx
  have h3 := (List.getElem?_eq_some_iff.1 h1).1
  simp only [Nat.sub_zero] at h1 h2 h3
  rw [jM h3] at h2
  simp only [Option.some.injEq] at h2
  exact ⟨h3, by rw [← hx2]; exact h2.symm, by rw [← hx2]; exact List.mem_of_getElem? ((jM h3).trans (congrArg some h2))⟩
 have hL := hg n hn
 have hfar := h.far n hn
 have hbr := kU (w := w) (g := g n) (l := F.rules.zip (bF F)) (n := n) (c := c)
 have hzu : ∀ i (x : Ru × List Node), (F.rules.zip (bF F))[i]? = some x → F.rules[i]? = some x.1 := fun i x h => (List.getElem?_zip_eq_some.1 h).1
 rw [← hZl] at hact
 rw [← oc] at hact
 obtain ⟨O, hO⟩ : ∃ O, O = b9 F w g n c := ⟨_, rfl⟩
 rw [← hO]
 unfold b9 lS at hO
 obtain ⟨S, hS⟩ : ∃ S, S = ia w (g n) n c (F.rules.zip (bF F)) := ⟨_, rfl⟩
 rw [← hS] at hO hbr
 unfold ia at hS
 have hpl : (dL w n c (F.rules.zip (bF F)) 0).length ≤ 64 := by
  have := vO (oZ w n) c F.rules 0
  have h2 := congrArg List.length (oc (w := w) (n := n) (c := c) (Z := F.rules.zip (bF F)) (i := 0))
  rw [hZl, List.length_map] at h2
  omega
 generalize dL w n c (F.rules.zip (bF F)) 0 = P at *
 have hwl := h.wl
 obtain ⟨Q, hQ⟩ : ∃ Q, Q = P.map fun p => (p.1 : Int) := ⟨_, rfl⟩
 rw [← hQ] at hact
 have hil : Q.length = P.length := by rw [hQ]; simp
 have hqx : ∀ i (h : i < P.length), Q[i]? = some (P[i].1 : Int) := fun i h => by rw [hQ]; simp [h]
 clear hQ
 clear h hg hru hZl hlen
 generalize g n = gn at *
 generalize F.rules.zip (bF F) = Z at *
 have e10 : (n : Int) + 1 = ((n + 1 : Nat) : Int) := by omega
 have hbeg : ∀ (T : Prop), (n = 0 → oZ w n = true → T) → (n ≠ 0 → oZ w n = decide ((ch w (n - 1) : Int) = 10) → T) → T := fun T h1 h2 => by
  by_cases h0 : n = 0
  ·exact h1 h0 (by simp [oZ, h0])
  ·refine h2 h0 ?_
   simp only [oZ, h0, decide_false, Bool.false_or]
   exact decide_eq_decide.2 (by omega)
 generalize oZ w n = Bg at *
 obtain ⟨cs, ds, rs⟩ := F
 simp only at *
 refine ah.enter Tryz.func46 rfl (by kernel_rfl) (Nat.le_of_ble_eq_true rfl) ?_; simp only [ai, Nat.reduceAdd]
 repeat' (first
 | (refine ae.at 1 ?_; (refine lX ?_))
 | refine gCt rfl ?_
 | ((first
 | ((first | refine gR fp46 ?_ | refine gD 7 5 cG fp46 ?_); intro K hK)
 | (refine ab ?_ ?_ <;> intro hb <;> (try simp only [bls] at hb) <;> (try simp only [hb]))
 | refine gRe [] [.cell 8 35, .tmp 9] rfl rfl ?_) <;> (try simp only [go_sem, simprocAttr]))
 | (refine hK _ _ ?_; clear hK K; simp only [go_sem, simprocAttr])
 | refine gCd ?_ | refine brT ?_ | refine brF ?_
 | (refine brS ?_ ?_ <;> intro hc <;> (try simp only [bls] at hc) <;> (try simp only [hc, bls]))
 | intro _ | refine And.intro ?_ ?_)
 refine lW ?_
 rename_i h4 h8
 apply hv0
 case main =>
  intro key
  refine hbeg _ ?_ ?_
  ·intro h0 hb
   have e1 := eq_true (show (n : Int) = 0 by omega)
   repeat' (first
 | (refine ae.at 2 ?_; (refine ae.de 4 4 rfl rfl rfl ?_; simp only [go_sem, simprocAttr]; refine ae.prune [1, 2, 3, 4, 8, 9, 10] ?_; simp only [go_sem, simprocAttr]; refine lX ?_))
 | refine gCt rfl ?_
 | ((first
 | ((first | refine gR fp46 ?_ | refine gD 7 5 cG fp46 ?_); intro K hK)
 | (refine ab ?_ ?_ <;> intro hb <;> (try simp only [bls] at hb) <;> (try simp only [hb]))
 | refine gRe [] [.cell 8 35, .tmp 9] rfl rfl ?_) <;> (try simp only [go_sem, simprocAttr, e1]))
 | (refine hK _ _ ?_; clear hK K; simp only [go_sem, simprocAttr])
 | refine gCd ?_ | refine brT ?_ | refine brF ?_
 | (refine brS ?_ ?_ <;> intro hc <;> (try simp only [bls] at hc) <;> (try simp only [hc, bls]))
 | intro _ | refine And.intro ?_ ?_)
   all_goals try exact zsd
   refine lW ?_
   exact ae.cast (tm := [(1, .str w), (2, .int .i64 n), (3, .int .i64 c), (4, .ref true [.sl true false (cb cs), .sl true false (Rad.defs ds), .sl true false (bf rs)]), (8, .bx 8 h8 0), (9, .int .i64 0), (10, .bool Bg)]) key.out (by rw [hb]) rfl
  ·intro h0 hb
   have e1 := eq_false (show ¬ (n : Int) = 0 by omega)
   have e2 : (n : Int) - 1 = ((n - 1 : Nat) : Int) := by omega
   have e3 : ((n - 1 : Nat) : Int) < w.size := by omega
   have e5 : (0 : Int) ≤ ((n - 1 : Nat) : Int) := by omega
   have hb' := hb.symm
   repeat' (first
 | (refine ae.at 2 ?_; (refine ae.de 4 4 rfl rfl rfl ?_; simp only [go_sem, simprocAttr]; refine ae.prune [1, 2, 3, 4, 8, 9, 10] ?_; simp only [go_sem, simprocAttr]; refine lX ?_))
 | refine gCt rfl ?_
 | ((first
 | ((first | refine gR fp46 ?_ | refine gD 7 5 cG fp46 ?_); intro K hK)
 | (refine ab ?_ ?_ <;> intro hb <;> (try simp only [bls] at hb) <;> (try simp only [hb]))
 | refine gRe [] [.cell 8 35, .tmp 9] rfl rfl ?_) <;> (try simp only [go_sem, simprocAttr, e1, e2, e3, e5, eZ, hb']))
 | (refine hK _ _ ?_; clear hK K; simp only [go_sem, simprocAttr])
 | refine gCd ?_ | refine brT ?_ | refine brF ?_
 | (refine brS ?_ ?_ <;> intro hc <;> (try simp only [bls] at hc) <;> (try simp only [hc, bls]))
 | intro _ | refine And.intro ?_ ?_)
   all_goals try exact zsd
   refine lW ?_
   exact key.out
 case key =>
  clear hbeg
  repeat' (first
 | refine gCt rfl ?_
 | ((first
 | ((first | refine gR fp46 ?_ | refine gD 7 5 cG fp46 ?_); intro K hK)
 | refine cAl (hact) rfl rfl rfl ?_
 | (refine ab ?_ ?_ <;> intro hb <;> (try simp only [bls] at hb) <;> (try simp only [hb]))
 | refine gRe [] [.cell 8 35, .tmp 9] rfl rfl ?_) <;> (try simp only [go_sem, simprocAttr]))
 | (refine hK _ _ ?_; clear hK K; simp only [go_sem, simprocAttr])
 | refine gCd ?_ | refine brT ?_ | refine brF ?_
 | (refine brS ?_ ?_ <;> intro hc <;> (try simp only [bls] at hc) <;> (try simp only [hc, bls]))
 | intro _ | refine And.intro ?_ ?_)
  all_goals try exact zsd
  rename_i h12
  refine ae.prune [1, 2, 3, 4, 8, 9, 11, 12, 13] ?_; simp only [go_sem, simprocAttr]
  refine ae.al (α := Nat × Int × Int × Int) (fun i => ([(1, .str w), (2, .int .i64 n), (3, .int .i64 c), (4, .ref true [.sl true false (cb cs), .sl true false (Rad.defs ds), .sl true false (bf rs)]), (8, .bx 8 h8 0), (9, .int .i64 0), (11, .sl true false (ints Q)), (12, .bx 12 h12 0), (13, .int .i64 i.1)],
   [(8, h8, .box [.int .i64 0, .int .i64 0, .int .i64 0]), (12, h12, .box [.int .i64 i.2.1, .int .i64 n, .int .i64 i.2.2.2])])) (fun i => i.1 ≤ P.length ∧ S = (P.drop i.1).foldl (kI gn) (i.2.1, i.2.2.1) ∧ ((i.2.1 = -1 ∧ i.2.2.1 = n ∧ i.2.2.2 = ((n + 1 : Nat) : Int)) ∨ (0 ≤ i.2.1 ∧ i.2.2.2 = i.2.2.1))) (fun i => P.length - i.1) (0, -1, n, ((n + 1 : Nat) : Int)) ⟨Nat.zero_le _, hS, .inl ⟨rfl, rfl, rfl⟩⟩ (by rw [← e10]; rfl) ?_
  rintro ⟨i, b1, b2, T⟩ ⟨hi, hs, hb⟩ ih
  simp only at hi hs hb ih ⊢
  by_cases hle : i < P.length
  ·have e4 : (i : Int) < P.length := by omega
   have e5 : (0 : Int) ≤ i := by omega
   have e6 : (i : Int) + 1 = ((i + 1 : Nat) : Int) := by omega
   have hdr : P.drop i = P[i] :: P.drop (i + 1) := List.drop_eq_getElem_cons hle
   obtain ⟨hp1, hp2, hp3⟩ := hP _ (List.getElem_mem hle)
   have hx := hqx i hle
   have ht := hT _ hp1
   have hl := hL _ hp3
   have hf := hfar _ hp3
   rw [← hp2] at ht
   rw [hdr, List.foldl_cons] at hs
   clear hT hL hfar hP hdr hzu hbr hO hp2 hp3 hS hact hqx
   generalize P[i] = p at hx ht hl hf hs hp1
   obtain ⟨pn, px⟩ := p
   simp only [kI] at ht hl hf hs hp1 hx
   generalize gn px = gx at hl hs hf
   obtain ⟨to, ok⟩ := gx
   simp only at hl hs hf
   cases ok
   ·simp only [Bool.false_eq_true, if_false] at hs
    repeat' (first
 | refine gCt rfl ?_
 | ((first
 | ((first | refine gR fp46 ?_ | refine gD 7 11 cG fp46 ?_); intro K hK)
 | refine cAl (hl) rfl rfl rfl ?_
 | refine ⟨_, ah.alone (ht) rfl rfl rfl, ?_⟩
 | (refine ab ?_ ?_ <;> intro hb <;> (try simp only [bls] at hb) <;> (try simp only [hb]))
 | refine gRe [] [.cell 8 35, .tmp 9] rfl rfl ?_) <;> (try simp only [go_sem, simprocAttr, e4, e5, e6, hx, hil, Option.some.injEq, forall_eq']))
 | (refine hK _ _ ?_; clear hK K; simp only [go_sem, simprocAttr])
 | refine gCd ?_ | refine brT ?_ | refine brF ?_
 | (refine brS ?_ ?_ <;> intro hc <;> (try simp only [bls] at hc) <;> (try simp only [hc, bls]))
 | intro _ | refine And.intro ?_ ?_)
    all_goals try exact zsd
    refine ae.bh [8, 12] ?_
    simp only [ao, au, go_sem, simprocAttr]
    refine ae.prune [1, 2, 3, 4, 8, 9, 11, 12, 13] ?_; simp only [go_sem, simprocAttr]
    exact (ih (i + 1, b1, b2, T) ⟨by simp only; omega, hs, hb⟩ (by simp only; omega)).cast rfl rfl
   simp only [if_true] at hs
   obtain ⟨m, rfl, hm1, hm2⟩ := hf rfl
   rcases hb with ⟨rfl, rfl, rfl⟩ | ⟨hb1, rfl⟩
   ·have k1 : (n : Int) < m := by omega
    simp only [k1, decide_true, if_true] at hs
    have k2 : (-1 : Int) < 0 := by omega
    repeat' (first
 | refine gCt rfl ?_
 | ((first
 | ((first | refine gR fp46 ?_ | refine gD 7 11 cG fp46 ?_); intro K hK)
 | refine cAl (hl) rfl rfl rfl ?_
 | refine ⟨_, ah.alone (ht) rfl rfl rfl, ?_⟩
 | (refine ab ?_ ?_ <;> intro hb <;> (try simp only [bls] at hb) <;> (try simp only [hb]))
 | refine gRe [] [.cell 8 35, .tmp 9] rfl rfl ?_) <;> (try simp only [go_sem, simprocAttr, e4, e5, e6, hx, hil, k2, Option.some.injEq, forall_eq']))
 | (refine hK _ _ ?_; clear hK K; simp only [go_sem, simprocAttr])
 | refine gCd ?_ | refine brT ?_ | refine brF ?_
 | (refine brS ?_ ?_ <;> intro hc <;> (try simp only [bls] at hc) <;> (try simp only [hc, bls]))
 | intro _ | refine And.intro ?_ ?_)
    all_goals try exact zsd
    refine ae.bh [8, 12] ?_
    simp only [ao, au, go_sem, simprocAttr]
    refine ae.prune [1, 2, 3, 4, 8, 9, 11, 12, 13] ?_; simp only [go_sem, simprocAttr]
    exact (ih (i + 1, pn, m, m) ⟨by simp only; omega, hs, .inr ⟨by simp only; omega, rfl⟩⟩ (by simp only; omega)).cast rfl rfl
   ·have k2 : ¬ b1 < 0 := by omega
    by_cases k1 : T < m
    ·simp only [k1, decide_true, if_true] at hs
     repeat' (first
 | refine gCt rfl ?_
 | ((first
 | ((first | refine gR fp46 ?_ | refine gD 7 11 cG fp46 ?_); intro K hK)
 | refine cAl (hl) rfl rfl rfl ?_
 | refine ⟨_, ah.alone (ht) rfl rfl rfl, ?_⟩
 | (refine ab ?_ ?_ <;> intro hb <;> (try simp only [bls] at hb) <;> (try simp only [hb]))
 | refine gRe [] [.cell 8 35, .tmp 9] rfl rfl ?_) <;> (try simp only [go_sem, simprocAttr, e4, e5, e6, hx, hil, k1, k2, Option.some.injEq, forall_eq']))
 | (refine hK _ _ ?_; clear hK K; simp only [go_sem, simprocAttr])
 | refine gCd ?_ | refine brT ?_ | refine brF ?_
 | (refine brS ?_ ?_ <;> intro hc <;> (try simp only [bls] at hc) <;> (try simp only [hc, bls]))
 | intro _ | refine And.intro ?_ ?_)
     all_goals try exact zsd
     refine ae.bh [8, 12] ?_
     simp only [ao, au, go_sem, simprocAttr]
     refine ae.prune [1, 2, 3, 4, 8, 9, 11, 12, 13] ?_; simp only [go_sem, simprocAttr]
     exact (ih (i + 1, pn, m, m) ⟨by simp only; omega, hs, .inr ⟨by simp only; omega, rfl⟩⟩ (by simp only; omega)).cast rfl rfl
    ·simp only [k1, decide_false, Bool.false_eq_true, if_false] at hs
     repeat' (first
 | refine gCt rfl ?_
 | ((first
 | ((first | refine gR fp46 ?_ | refine gD 7 11 cG fp46 ?_); intro K hK)
 | refine cAl (hl) rfl rfl rfl ?_
 | refine ⟨_, ah.alone (ht) rfl rfl rfl, ?_⟩
 | (refine ab ?_ ?_ <;> intro hb <;> (try simp only [bls] at hb) <;> (try simp only [hb]))
 | refine gRe [] [.cell 8 35, .tmp 9] rfl rfl ?_) <;> (try simp only [go_sem, simprocAttr, e4, e5, e6, hx, hil, k1, k2, Option.some.injEq, forall_eq']))
 | (refine hK _ _ ?_; clear hK K; simp only [go_sem, simprocAttr])
 | refine gCd ?_ | refine brT ?_ | refine brF ?_
 | (refine brS ?_ ?_ <;> intro hc <;> (try simp only [bls] at hc) <;> (try simp only [hc, bls]))
 | intro _ | refine And.intro ?_ ?_)
     all_goals try exact zsd
     refine ae.bh [8, 12] ?_
     simp only [ao, au, go_sem, simprocAttr]
     refine ae.prune [1, 2, 3, 4, 8, 9, 11, 12, 13] ?_; simp only [go_sem, simprocAttr]
     exact (ih (i + 1, b1, T, T) ⟨by simp only; omega, hs, .inr ⟨hb1, rfl⟩⟩ (by simp only; omega)).cast rfl rfl
  ·have e4 : ¬ (i : Int) < P.length := by omega
   rw [List.drop_of_length_le (by omega)] at hs
   simp only [List.foldl_nil] at hs
   clear hT hL hfar hP hS ih hact
   subst hs
   simp only at hO hbr
   rcases hbr with hbb | ⟨m, x, hm, hbb, _, _⟩
   ·simp only [Prod.mk.injEq] at hbb
    obtain ⟨rfl, rfl⟩ := hbb
    simp only [decide_true, if_true] at hO
    subst hO
    have hT : T = ((n + 1 : Nat) : Int) := by omega
    subst hT
    repeat' (first
 | refine gCt rfl ?_
 | ((first
 | ((first | refine gR fp46 ?_ | refine gD 7 5 cG fp46 ?_); intro K hK)
 | (refine ab ?_ ?_ <;> intro hb <;> (try simp only [bls] at hb) <;> (try simp only [hb]))
 | refine gRe [] [.cell 8 35, .tmp 9] rfl rfl ?_) <;> (try simp only [go_sem, simprocAttr, e4, hil]))
 | (refine hK _ _ ?_; clear hK K; simp only [go_sem, simprocAttr])
 | refine gCd ?_ | refine brT ?_ | refine brF ?_
 | (refine brS ?_ ?_ <;> intro hc <;> (try simp only [bls] at hc) <;> (try simp only [hc, bls]))
 | intro _ | refine And.intro ?_ ?_)
    all_goals try exact zsd
   ·simp only [Prod.mk.injEq] at hbb
    obtain ⟨rfl, rfl⟩ := hbb
    have hT : T = (gn x.2).1 := by omega
    subst hT
    have hx := hzu _ _ hm
    have e1 : ¬ (m : Int) = -1 := by omega
    have hlt : m < rs.length := (List.getElem?_eq_some_iff.1 hx).1
    have e2 : (m : Int) < rs.length := by omega
    have e3 : (0 : Int) ≤ m := by omega
    simp only [e1, decide_false, Bool.false_eq_true, if_false, Int.toNat_natCast, hm] at hO
    clear hzu hm hb
    obtain ⟨⟨rc, rf, rl, rk, rt, rp, rn⟩, y⟩ := x
    simp only at hO hx
    by_cases k1 : 0 ≤ rt
    ·simp only [k1, decide_true, if_true] at hO
     subst hO
     repeat' (first
 | refine gCt rfl ?_
 | ((first
 | ((first | refine gR fp46 ?_ | refine gD 7 5 cG fp46 ?_); intro K hK)
 | (refine ab ?_ ?_ <;> intro hb <;> (try simp only [bls] at hb) <;> (try simp only [hb]))
 | refine gRe [] [.cell 8 35, .tmp 9] rfl rfl ?_) <;> (try simp only [go_sem, simprocAttr, e4, e1, e2, e3, hx, k1, hil, Option.some.injEq, forall_eq']))
 | (refine hK _ _ ?_; clear hK K; simp only [go_sem, simprocAttr])
 | refine gCd ?_ | refine brT ?_ | refine brF ?_
 | (refine brS ?_ ?_ <;> intro hc <;> (try simp only [bls] at hc) <;> (try simp only [hc, bls]))
 | intro _ | refine And.intro ?_ ?_)
     all_goals try exact zsd
    ·simp only [k1, decide_false, Bool.false_eq_true, if_false] at hO
     subst hO
     repeat' (first
 | refine gCt rfl ?_
 | ((first
 | ((first | refine gR fp46 ?_ | refine gD 7 5 cG fp46 ?_); intro K hK)
 | (refine ab ?_ ?_ <;> intro hb <;> (try simp only [bls] at hb) <;> (try simp only [hb]))
 | refine gRe [] [.cell 8 35, .tmp 9] rfl rfl ?_) <;> (try simp only [go_sem, simprocAttr, e4, e1, e2, e3, hx, k1, hil, Option.some.injEq, forall_eq']))
 | (refine hK _ _ ?_; clear hK K; simp only [go_sem, simprocAttr])
 | refine gCd ?_ | refine brT ?_ | refine brF ?_
 | (refine brS ?_ ?_ <;> intro hc <;> (try simp only [bls] at hc) <;> (try simp only [hc, bls]))
 | intro _ | refine And.intro ?_ ?_)
     all_goals try exact zsd
end Go.Rad
namespace Go.Rad
open Go Go.Proofs
set_option linter.all false
set_option maxRecDepth 20000
set_option maxHeartbeats 4000000
theorem qe (F : Fl) (w : ByteArray) (g : Nat → List Node → Int × Bool) (hF : eP F) (hlen : ∀ r ∈ F.rules, r.l.length ≤ maxLen) (h : ba F = true → hJ F w g ∧ jT Tryz.prog 25 F w g) (n c : Int) :
  ah Tryz.prog 23 [.agg F.cells, .str w, .int .i64 n, .int .i64 c] [] fun r s => r = .tup [.agg (gT F w g n c).1.cells, .int .i64 (gT F w g n c).2.1, .int .i64 (gT F w g n c).2.2] ∧ s = [] := by
 have hR := gH F hF hlen
 obtain ⟨O, hO⟩ : ∃ O, O = gT F w g n c := ⟨_, rfl⟩
 rw [← hO]
 unfold gT at hO
 by_cases hr : ba F = true
 ·obtain ⟨h1, h2⟩ := h hr
  have hN := th h1 hlen h2
  rw [if_pos hr] at hO
  rw [hr] at hR
  clear h h1 h2 hF hr hlen
  by_cases k1 : c < 0
  ·simp only [k1, decide_true, if_true] at hO
   subst hO
   clear hN
   obtain ⟨cs, ds, rs⟩ := F
   simp only at *
   refine ah.enter Tryz.func23 rfl (by kernel_rfl) (Nat.le_of_ble_eq_true rfl) ?_; simp only [ai, Nat.reduceAdd]
   repeat' (first
 | refine gCt rfl ?_
 | ((first
 | ((first | refine gR fp23 ?_); intro K hK)
 | refine cAl (hR) rfl rfl rfl ?_
 | (refine ab ?_ ?_ <;> intro hb <;> (try simp only [bls] at hb) <;> (try simp only [hb]))
 | refine gRe [] [.cell 8 35, .tmp 9, .tmp 10] rfl rfl ?_) <;> (try simp only [go_sem, simprocAttr, k1]))
 | (refine hK _ _ ?_; clear hK K; simp only [go_sem, simprocAttr])
 | refine gCd ?_ | refine brT ?_ | refine brF ?_
 | (refine brS ?_ ?_ <;> intro hc <;> (try simp only [bls] at hc) <;> (try simp only [hc, bls]))
 | intro _ | refine And.intro ?_ ?_)
   all_goals try exact zsd
  simp only [k1, decide_false, Bool.false_eq_true, if_false] at hO
  by_cases k2 : (F.conds.length : Int) ≤ c
  ·simp only [k2, decide_true, if_true] at hO
   subst hO
   clear hN
   obtain ⟨cs, ds, rs⟩ := F
   simp only at *
   refine ah.enter Tryz.func23 rfl (by kernel_rfl) (Nat.le_of_ble_eq_true rfl) ?_; simp only [ai, Nat.reduceAdd]
   repeat' (first
 | refine gCt rfl ?_
 | ((first
 | ((first | refine gR fp23 ?_); intro K hK)
 | refine cAl (hR) rfl rfl rfl ?_
 | (refine ab ?_ ?_ <;> intro hb <;> (try simp only [bls] at hb) <;> (try simp only [hb]))
 | refine gRe [] [.cell 8 35, .tmp 9, .tmp 10] rfl rfl ?_) <;> (try simp only [go_sem, simprocAttr, k1, k2]))
 | (refine hK _ _ ?_; clear hK K; simp only [go_sem, simprocAttr])
 | refine gCd ?_ | refine brT ?_ | refine brF ?_
 | (refine brS ?_ ?_ <;> intro hc <;> (try simp only [bls] at hc) <;> (try simp only [hc, bls]))
 | intro _ | refine And.intro ?_ ?_)
   all_goals try exact zsd
  simp only [k2, decide_false, Bool.false_eq_true, if_false] at hO
  by_cases k3 : n < 0
  ·simp only [k3, decide_true, if_true] at hO
   subst hO
   clear hN
   obtain ⟨cs, ds, rs⟩ := F
   simp only at *
   refine ah.enter Tryz.func23 rfl (by kernel_rfl) (Nat.le_of_ble_eq_true rfl) ?_; simp only [ai, Nat.reduceAdd]
   repeat' (first
 | refine gCt rfl ?_
 | ((first
 | ((first | refine gR fp23 ?_); intro K hK)
 | refine cAl (hR) rfl rfl rfl ?_
 | (refine ab ?_ ?_ <;> intro hb <;> (try simp only [bls] at hb) <;> (try simp only [hb]))
 | refine gRe [] [.cell 8 35, .tmp 9, .tmp 10] rfl rfl ?_) <;> (try simp only [go_sem, simprocAttr, k1, k2, k3]))
 | (refine hK _ _ ?_; clear hK K; simp only [go_sem, simprocAttr])
 | refine gCd ?_ | refine brT ?_ | refine brF ?_
 | (refine brS ?_ ?_ <;> intro hc <;> (try simp only [bls] at hc) <;> (try simp only [hc, bls]))
 | intro _ | refine And.intro ?_ ?_)
   all_goals try exact zsd
  simp only [k3, decide_false, Bool.false_eq_true, if_false] at hO
  by_cases k4 : (w.size : Int) ≤ n
  ·simp only [k4, decide_true, if_true] at hO
   subst hO
   clear hN
   obtain ⟨cs, ds, rs⟩ := F
   simp only at *
   refine ah.enter Tryz.func23 rfl (by kernel_rfl) (Nat.le_of_ble_eq_true rfl) ?_; simp only [ai, Nat.reduceAdd]
   repeat' (first
 | refine gCt rfl ?_
 | ((first
 | ((first | refine gR fp23 ?_); intro K hK)
 | refine cAl (hR) rfl rfl rfl ?_
 | (refine ab ?_ ?_ <;> intro hb <;> (try simp only [bls] at hb) <;> (try simp only [hb]))
 | refine gRe [] [.cell 8 35, .tmp 9, .tmp 10] rfl rfl ?_) <;> (try simp only [go_sem, simprocAttr, k1, k2, k3, k4]))
 | (refine hK _ _ ?_; clear hK K; simp only [go_sem, simprocAttr])
 | refine gCd ?_ | refine brT ?_ | refine brF ?_
 | (refine brS ?_ ?_ <;> intro hc <;> (try simp only [bls] at hc) <;> (try simp only [hc, bls]))
 | intro _ | refine And.intro ?_ ?_)
   all_goals try exact zsd
  simp only [k4, decide_false, Bool.false_eq_true, if_false] at hO
  obtain ⟨m, rfl⟩ : ∃ m : Nat, n = m := ⟨n.toNat, by omega⟩
  rw [Int.toNat_natCast] at hO
  have hn := hN m c (by omega)
  generalize b9 F w g m c = r at hn hO
  subst hO
  clear hN
  obtain ⟨cs, ds, rs⟩ := F
  simp only at *
  refine ah.enter Tryz.func23 rfl (by kernel_rfl) (Nat.le_of_ble_eq_true rfl) ?_; simp only [ai, Nat.reduceAdd]
  repeat' (first
 | refine gCt rfl ?_
 | ((first
 | ((first | refine gR fp23 ?_); intro K hK)
 | refine cAl (hR) rfl rfl rfl ?_
 | refine cAl (hn) rfl rfl rfl ?_
 | (refine ab ?_ ?_ <;> intro hb <;> (try simp only [bls] at hb) <;> (try simp only [hb]))
 | refine gRe [] [.cell 8 35, .tmp 9, .tmp 10] rfl rfl ?_) <;> (try simp only [go_sem, simprocAttr, k1, k2, k3, k4]))
 | (refine hK _ _ ?_; clear hK K; simp only [go_sem, simprocAttr])
 | refine gCd ?_ | refine brT ?_ | refine brF ?_
 | (refine brS ?_ ?_ <;> intro hc <;> (try simp only [bls] at hc) <;> (try simp only [hc, bls]))
 | intro _ | refine And.intro ?_ ?_)
  all_goals try exact zsd
 ·rw [if_neg hr] at hO
  rw [show ba F = false by simpa using hr] at hR
  subst hO
  clear h hF hr hlen
  obtain ⟨cs, ds, rs⟩ := F
  simp only at *
  refine ah.enter Tryz.func23 rfl (by kernel_rfl) (Nat.le_of_ble_eq_true rfl) ?_; simp only [ai, Nat.reduceAdd]
  repeat' (first
 | refine gCt rfl ?_
 | ((first
 | ((first | refine gR fp23 ?_); intro K hK)
 | refine cAl (hR) rfl rfl rfl ?_
 | (refine ab ?_ ?_ <;> intro hb <;> (try simp only [bls] at hb) <;> (try simp only [hb]))
 | refine gRe [] [.cell 8 35, .tmp 9, .tmp 10] rfl rfl ?_) <;> (try simp only [go_sem, simprocAttr]))
 | (refine hK _ _ ?_; clear hK K; simp only [go_sem, simprocAttr])
 | refine gCd ?_ | refine brT ?_ | refine brF ?_
 | (refine brS ?_ ?_ <;> intro hc <;> (try simp only [bls] at hc) <;> (try simp only [hc, bls]))
 | intro _ | refine And.intro ?_ ?_)
  all_goals try exact zsd
theorem tw (F : Fl) (w : ByteArray) (hF : eP F) (hlen : ∀ r ∈ F.rules, r.l.length ≤ maxLen) (hr : ba F = false) : ah Tryz.prog 21 [.agg F.cells, .str w] [] fun r s => (∃ fl, r = .tup [.sl true fl (dM []), .int .i64 1]) ∧ s = [] := by
 have hR := gH F hF hlen
 rw [hr] at hR
 clear hF hlen hr
 obtain ⟨cs, ds, rs⟩ := F
 try simp only at *
 refine ah.enter Tryz.func21 rfl (by kernel_rfl) (Nat.le_of_ble_eq_true rfl) ?_; simp only [ai, Nat.reduceAdd]
 repeat' (first
 | refine gCt rfl ?_
 | ((first
 | ((first | refine gR fp21 ?_); intro K hK)
 | refine cAl (hR) rfl rfl rfl ?_
 | (refine ab ?_ ?_ <;> intro hb <;> (try simp only [bls] at hb) <;> (try simp only [hb]))
 | refine gRe [] [.tmp 4, .tmp 5] rfl rfl ?_) <;> (try simp only [go_sem, simprocAttr]))
 | (refine hK _ _ ?_; clear hK K; simp only [go_sem, simprocAttr])
 | refine gCd ?_ | refine brT ?_ | refine brF ?_
 | (refine brS ?_ ?_ <;> intro hc <;> (try simp only [bls] at hc) <;> (try simp only [hc, bls]))
 | intro _ | refine And.intro ?_ ?_)
 all_goals first | exact zsd | exact ⟨_, rfl⟩
theorem yh {F : Fl} {w : ByteArray} {g : Nat → List Node → Int × Bool} (h : hJ F w g) (hlen : ∀ r ∈ F.rules, r.l.length ≤ maxLen) (hg : jT Tryz.prog 25 F w g) (S : List Tk) (hS : kS F w g 0 0 S) :
  ah Tryz.prog 21 [.agg F.cells, .str w] [] fun r s => (∃ fl, r = .tup [.sl true fl (dM S), .int .i64 0]) ∧ s = [] := by
 have hR := gH F h.len hlen
 rw [h.ok] at hR
 have hN := th h hlen hg
 have hfar := fun n (hn : n < w.size) c => ki h hn c
 have hwl := h.wl
 clear hg hlen
 clear h
 obtain ⟨cs, ds, rs⟩ := F
 try simp only at *
 refine ah.enter Tryz.func21 rfl (by kernel_rfl) (Nat.le_of_ble_eq_true rfl) ?_; simp only [ai, Nat.reduceAdd]
 repeat' (first
 | refine gCt rfl ?_
 | ((first
 | (refine ae.at 3 ?_; (refine ae.de 2 2 rfl rfl rfl ?_; simp only [go_sem, simprocAttr]); refine gR fp21 ?_; intro K hK)
 | ((first | refine gR fp21 ?_); intro K hK)
 | refine cAl (hR) rfl rfl rfl ?_
 | (refine ab ?_ ?_ <;> intro hb <;> (try simp only [bls] at hb) <;> (try simp only [hb]))
 | refine gRe [] [.tmp 4, .tmp 5] rfl rfl ?_) <;> (try simp only [go_sem, simprocAttr]))
 | (refine hK _ _ ?_; clear hK K; simp only [go_sem, simprocAttr])
 | refine gCd ?_ | refine brT ?_ | refine brF ?_
 | (refine brS ?_ ?_ <;> intro hc <;> (try simp only [bls] at hc) <;> (try simp only [hc, bls]))
 | intro _ | refine And.intro ?_ ?_)
 all_goals try exact zsd
 refine ae.jr 6 900 3 (by decide) rfl fun g9 => ?_
 simp only [go_sem, simprocAttr]
 refine ae.prune [1, 2, 4, 5, 6, 7, 8] ?_; simp only [go_sem, simprocAttr]
 refine ae.al (α := Nat × Int × List Tk × Nat) (fun i => ([(1, .str w), (2, .ref true [.sl true false (cb cs), .sl true false (Rad.defs ds), .sl true false (bf rs)]), (4, .sl true true []), (5, .int .i64 0), (6, .osl 900 i.2.2.2 0 i.2.2.1.length), (7, .int .i64 i.2.1), (8, .int .i64 i.1)],
  [(900, i.2.2.2, .row 3 (dM i.2.2.1))])) (fun i => i.1 ≤ w.size ∧ i.2.2.1.length ≤ i.1 ∧ ∃ l, kS ⟨cs, ds, rs⟩ w g i.1 i.2.1 l ∧ S = i.2.2.1 ++ l) (fun i => w.size - i.1) (0, 0, [], g9) ⟨Nat.zero_le _, Nat.zero_le _, S, hS, rfl⟩ rfl ?_
 rintro ⟨i, c, out, gg⟩ ⟨hi, hol, l, hl, hSl⟩ ih
 simp only at hi hol hl hSl ih ⊢
 by_cases hle : i < w.size
 ·have e4 : (i : Int) < w.size := by omega
  have e5 : (0 : Int) ≤ i := by omega
  have hc := hN i c hle
  obtain ⟨⟨m, hm, hm1, hm2⟩, ha, hru⟩ := hfar i hle c
  cases hl with
  | done h1 => omega
  | @step _ m' _ l' h1 h2 h3 =>
   have hmm : m' = m := by omega
   subst hmm
   clear hN hfar hR hS h2
   generalize b9 ⟨cs, ds, rs⟩ w g i c = r at *
   obtain ⟨⟨rr, ra, rb⟩, c2⟩ := r
   simp only at *
   subst hm ha
   have hup : (out ++ [(⟨rr, (i : Int), (m' : Int)⟩ : Tk)]).length ≤ m' := by rw [List.length_append, List.length_singleton]; omega
   rcases hru with rfl | ⟨k, rfl, hk⟩
   ·have hkp : jl rs ⟨-1, i, m'⟩ = true := by simp [jl]
    rw [hkp] at hSl
    simp only [if_true] at hSl
    have k0 : (-1 : Int) < 0 := by omega
    repeat' (first
 | refine gCt rfl ?_
 | ((first
 | ((first | refine gRg [41] fp21 ?_); intro K hK)
 | refine cAl (hc) rfl rfl rfl ?_
 | (refine ab ?_ ?_ <;> intro hb <;> (try simp only [bls] at hb) <;> (try simp only [hb]))
 | refine gRe [] [.tmp 4, .tmp 5] rfl rfl ?_) <;> (try simp only [go_sem, simprocAttr, e4, e5, k0]))
 | (refine hK _ _ ?_; clear hK K; simp only [go_sem, simprocAttr])
 | refine gCd ?_ | refine brT ?_ | refine brF ?_
 | (refine brS ?_ ?_ <;> intro hc <;> (try simp only [bls] at hc) <;> (try simp only [hc, bls]))
 | intro _ | refine And.intro ?_ ?_)
    all_goals try exact zsd
    all_goals (rename_i h9; refine ae.bh [900] ?_; simp only [ao, au, go_sem, simprocAttr]; refine ae.prune [1, 2, 4, 5, 6, 7, 8] ?_; simp only [go_sem, simprocAttr]; exact ae.cast (ih (m', c2, out ++ [⟨-1, i, m'⟩], h9) ⟨hm2, hup, l', h3, by rw [hSl]; simp⟩ (by simp only; omega)) (by simp) (by simp))
   ·have hx : rs[k]? = some rs[k] := List.getElem?_eq_getElem hk
    have e1 : ¬ (k : Int) = -1 := by omega
    have e0 : ¬ (k : Int) < 0 := by omega
    have e2 : (k : Int) < rs.length := by omega
    have e3 : (0 : Int) ≤ k := by omega
    have hkp : jl rs ⟨k, i, m'⟩ = !decide (rs[k].kind = ⟨#[]⟩) := by simp [jl, e1, hk]
    rw [hkp] at hSl
    generalize rs[k] = r at hx hSl hkp
    obtain ⟨rc, rf, rl, rk, rt, rp, rn⟩ := r
    simp only at hx hSl hkp
    by_cases hke : rk = ⟨#[]⟩
    ·subst hke
     simp only [decide_true, Bool.not_true, Bool.false_eq_true, if_false] at hSl
     repeat' (first
 | refine gCt rfl ?_
 | ((first
 | ((first | refine gRg [41] fp21 ?_); intro K hK)
 | refine cAl (hc) rfl rfl rfl ?_
 | (refine ab ?_ ?_ <;> intro hb <;> (try simp only [bls] at hb) <;> (try simp only [hb]))
 | refine gRe [] [.tmp 4, .tmp 5] rfl rfl ?_) <;> (try simp only [go_sem, simprocAttr, e4, e5, e0, e2, e3, hx, Option.some.injEq, forall_eq']))
 | (refine hK _ _ ?_; clear hK K; simp only [go_sem, simprocAttr])
 | refine gCd ?_ | refine brT ?_ | refine brF ?_
 | (refine brS ?_ ?_ <;> intro hc <;> (try simp only [bls] at hc) <;> (try simp only [hc, bls]))
 | intro _ | refine And.intro ?_ ?_)
     all_goals try exact zsd
     refine ae.bh [900] ?_
     simp only [ao, au, go_sem, simprocAttr]
     refine ae.prune [1, 2, 4, 5, 6, 7, 8] ?_; simp only [go_sem, simprocAttr]
     exact (ih (m', c2, out, gg) ⟨hm2, by simp only; omega, l', h3, hSl⟩ (by simp only; omega)).cast rfl rfl
    ·simp only [hke, decide_false, Bool.not_false, if_true] at hSl hkp
     repeat' (first
 | refine gCt rfl ?_
 | ((first
 | ((first | refine gRg [41] fp21 ?_); intro K hK)
 | refine cAl (hc) rfl rfl rfl ?_
 | (refine ab ?_ ?_ <;> intro hb <;> (try simp only [bls] at hb) <;> (try simp only [hb]))
 | refine gRe [] [.tmp 4, .tmp 5] rfl rfl ?_) <;> (try simp only [go_sem, simprocAttr, e4, e5, e0, e2, e3, hx, hke, Option.some.injEq, forall_eq']))
 | (refine hK _ _ ?_; clear hK K; simp only [go_sem, simprocAttr])
 | refine gCd ?_ | refine brT ?_ | refine brF ?_
 | (refine brS ?_ ?_ <;> intro hc <;> (try simp only [bls] at hc) <;> (try simp only [hc, bls]))
 | intro _ | refine And.intro ?_ ?_)
     all_goals try exact zsd
     all_goals (rename_i h9; refine ae.bh [900] ?_; simp only [ao, au, go_sem, simprocAttr]; refine ae.prune [1, 2, 4, 5, 6, 7, 8] ?_; simp only [go_sem, simprocAttr]; exact ae.cast (ih (m', c2, out ++ [⟨k, i, m'⟩], h9) ⟨hm2, hup, l', h3, by rw [hSl]; simp⟩ (by simp only; omega)) (by simp) (by simp))
 ·have e4 : ¬ (i : Int) < w.size := by omega
  cases hl with
  | step h1 => omega
  | done h1 =>
   rw [List.append_nil] at hSl
   subst hSl
   clear ih hN hfar hR hS
   have e9 : (dM S).take S.length = dM S := List.take_of_length_le (by simp)
   repeat' (first
 | refine gCt rfl ?_
 | ((first
 | (refine ae.at 12 ?_; (refine ae.freeze 900 rfl ?_; simp only [rfT, rfS, rfO, rf, rf1, e9, true_and, go_sem, simprocAttr]); refine gR fp21 ?_; intro K hK)
 | ((first | refine gR fp21 ?_); intro K hK)
 | (refine ab ?_ ?_ <;> intro hb <;> (try simp only [bls] at hb) <;> (try simp only [hb]))
 | refine gRe [] [.tmp 4, .tmp 5] rfl rfl ?_) <;> (try simp only [go_sem, simprocAttr, e4, e9]))
 | (refine hK _ _ ?_; clear hK K; simp only [go_sem, simprocAttr])
 | refine gCd ?_ | refine brT ?_ | refine brF ?_
 | (refine brS ?_ ?_ <;> intro hc <;> (try simp only [bls] at hc) <;> (try simp only [hc, bls]))
 | intro _ | refine And.intro ?_ ?_)
   all_goals first | exact zsd | exact ⟨_, rfl⟩
theorem tG (q f q' f' : Bool) (l : List Tk) (hl : l.length ≤ 1000000) : ah Tryz.prog 24 [.sl q f (dM l), .sl q' f' (dM l)] [] fun r s => r = .bool true ∧ s = [] := by
 have hll : (dM l).length = l.length := by simp
 have hlx : ∀ (i : Nat) x, l[i]? = some x → (dM l)[i]? = some x.cells := fun i x h => by simp [h]
 generalize dM l = v at *
 refine ah.enter Tryz.func24 rfl (by kernel_rfl) (Nat.le_of_ble_eq_true rfl) ?_; simp only [ai, Nat.reduceAdd]
 repeat' (first
 | refine gCt rfl ?_
 | ((first
 | ((first | refine gR fp24 ?_ | refine gD 6 9 ro9 fp24 ?_); intro K hK)
 | (refine ab ?_ ?_ <;> intro hb <;> (try simp only [bls] at hb) <;> (try simp only [hb]))
 | refine gRe [] [.tmp 4] rfl rfl ?_) <;> (try simp only [go_sem, simprocAttr, hll]))
 | (refine hK _ _ ?_; clear hK K; simp only [go_sem, simprocAttr])
 | refine gCd ?_ | refine brT ?_ | refine brF ?_
 | (refine brS ?_ ?_ <;> intro hc <;> (try simp only [bls] at hc) <;> (try simp only [hc, bls]))
 | intro _ | refine And.intro ?_ ?_)
 all_goals try exact zsd
 refine ae.prune [0, 1, 4, 5] ?_; simp only [go_sem, simprocAttr]
 refine ae.al (α := Nat) (fun i => ([(0, .sl q f v), (1, .sl q' f' v), (4, .bool false), (5, .int .i64 i)], [])) (fun i => i ≤ l.length) (fun i => l.length - i) 0 (Nat.zero_le _) rfl ?_
 rintro i hi ih
 simp only at hi ih ⊢
 by_cases hle : i < l.length
 ·have e4 : (i : Int) < l.length := by omega
  have e5 : (0 : Int) ≤ i := by omega
  have e6 : (i : Int) + 1 = ((i + 1 : Nat) : Int) := by omega
  have hx := hlx i _ (List.getElem?_eq_getElem hle)
  generalize l[i] = k at hx
  obtain ⟨ka, kb, kc⟩ := k
  simp only [Tk.cells] at hx
  repeat' (first
 | refine gCt rfl ?_
 | ((first
 | ((first | refine gR fp24 ?_ | refine gD 6 9 ro9 fp24 ?_); intro K hK)
 | (refine ab ?_ ?_ <;> intro hb <;> (try simp only [bls] at hb) <;> (try simp only [hb]))
 | refine gRe [] [.tmp 4] rfl rfl ?_) <;> (try simp only [go_sem, simprocAttr, e4, e5, e6, hll, hx, lg, Option.some.injEq, forall_eq']))
 | (refine hK _ _ ?_; clear hK K; simp only [go_sem, simprocAttr])
 | refine gCd ?_ | refine brT ?_ | refine brF ?_
 | (refine brS ?_ ?_ <;> intro hc <;> (try simp only [bls] at hc) <;> (try simp only [hc, bls]))
 | intro _ | refine And.intro ?_ ?_)
  all_goals try exact zsd
  all_goals try rfl
  refine ae.prune [0, 1, 4, 5] ?_; simp only [go_sem, simprocAttr]
  exact (ih (i + 1) (by omega) (by omega)).cast rfl rfl
 ·have e4 : ¬ (i : Int) < l.length := by omega
  clear ih
  repeat' (first
 | refine gCt rfl ?_
 | ((first
 | ((first | refine gR fp24 ?_ | refine gD 6 9 ro9 fp24 ?_); intro K hK)
 | (refine ab ?_ ?_ <;> intro hb <;> (try simp only [bls] at hb) <;> (try simp only [hb]))
 | refine gRe [] [.tmp 4] rfl rfl ?_) <;> (try simp only [go_sem, simprocAttr, e4, hll]))
 | (refine hK _ _ ?_; clear hK K; simp only [go_sem, simprocAttr])
 | refine gCd ?_ | refine brT ?_ | refine brF ?_
 | (refine brS ?_ ?_ <;> intro hc <;> (try simp only [bls] at hc) <;> (try simp only [hc, bls]))
 | intro _ | refine And.intro ?_ ?_)
  all_goals try exact zsd
end Go.Rad
