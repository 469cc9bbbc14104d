/- Places of plans behind others: shifted. -/
import Derived.Test.YtjhcamnmfjkidaaGreatKP09r
import Derived.Test.YtjhcamnmfjkidaaGreatKRRunC
import Derived.Test.YtjhcamnmfjkidaaGreatKP09l
import Derived.Test.YtjhcamnmfjkidaaGreatKRFrz
import Derived.OpenShut
import Derived.Carry
import Derived.Deep.Slices
import Derived.Deep.DeepHandedRow
import Derived.Test.YtjhcamnmfjkidaaGreatKRNode
import Derived.Test.YtjhcamnmfjkidaaGreatRows
import Derived.Test.YtjhcamnmfjkidaaGreatKRNorm
set_option linter.all false
namespace Go.Rad
open Go Fo
abbrev shL (d : Nat) (l : List Int) : List Int := l.map fun x => x + (d : Int)
def shP (d : Nat) (r : Int) (p : Po) : Po := { p with next := shL d p.next, rule := r }
def shE (d : Nat) (e : En) : En := ⟨e.null, shL d e.first, shL d e.last⟩
theorem insD_sh (d x : Int) : ∀ l : List Int, insD (x + d) (l.map fun y => y + d) = (insD x l).map fun y => y + d
  | [] => rfl
  | y :: l => by
    simp only [List.map_cons, insD]
    by_cases h : x < y
    · rw [if_pos (by omega), if_pos h]; rfl
    · rw [if_neg (by omega), if_neg h]
      by_cases h2 : x = y
      · rw [if_pos (by omega), if_pos h2]; rfl
      · rw [if_neg (by omega), if_neg h2, insD_sh d x l]; rfl
theorem uni_sh0 (d : Int) : ∀ l : List Int, (l.map fun y => y + d).foldr insD [] = (l.foldr insD []).map fun y => y + d
  | [] => rfl
  | x :: l => by rw [List.map_cons, List.foldr_cons, List.foldr_cons, uni_sh0 d l, insD_sh]
theorem uni_sh (d : Nat) (a b : List Int) : uni (shL d a) (shL d b) = shL d (uni a b) := by
  rw [uni, uni, shL, shL, ← List.map_append, uni_sh0]
theorem modify_app {α : Type} (f : α → α) (b : List α) (k : Nat) : ∀ a : List α, (a ++ b).modify (a.length + k) f = a ++ b.modify k f
  | [] => by simp
  | x :: a => by
    rw [List.length_cons, show a.length + 1 + k = (a.length + k) + 1 by omega, List.cons_append, List.modify_succ_cons, modify_app f b k a, List.cons_append]
theorem modify_map {α β : Type} {g : α → β} {f : α → α} {f' : β → β} (h : ∀ x, f' (g x) = g (f x)) : ∀ (l : List α) (k : Nat), (l.map g).modify k f' = (l.modify k f).map g
  | [], k => by simp
  | x :: l, 0 => by simp [h]
  | x :: l, k + 1 => by simp [modify_map h l k]
section
variable {ps : List Po} {r : Int}
/-- Places behind others. -/
abbrev beh (ps : List Po) (r : Int) (Q : List Po) : List Po := ps ++ Q.map (shP ps.length r)
theorem lnk1ush {to : List Int} {i : Int} (hi : 0 ≤ i) (Q : List Po) : lnk1 (shL ps.length to) (beh ps r Q) (i + ps.length) = beh ps r (lnk1 to Q i) := by
  unfold lnk1 beh
  rw [show (i + (ps.length : Int)).toNat = ps.length + i.toNat by omega, modify_app, modify_map (f := fun p => { p with next := uni p.next to })]
  intro p
  simp only [shP, uni_sh]
theorem lnk_sh {to : List Int} : ∀ (fr : List Int) (Q : List Po), (∀ x ∈ fr, 0 ≤ x) → lnk (shL ps.length fr) (shL ps.length to) (beh ps r Q) = beh ps r (lnk fr to Q)
  | [], _, _ => rfl
  | i :: fr, Q, h => by
    have := lnk_sh (to := to) fr (lnk1 to Q i) fun x hx => h x (by simp [hx])
    simp only [lnk] at this ⊢
    rw [show shL ps.length (i :: fr) = (i + (ps.length : Int)) :: shL ps.length fr from rfl, List.foldl_cons, List.foldl_cons, lnk1ush (h i (by simp)), this]
theorem mrk_sh : ∀ (l : List Int) (Q : List Po), (∀ x ∈ l, 0 ≤ x) → mrk (shL ps.length l) (beh ps r Q) = beh ps r (mrk l Q)
  | [], _, _ => rfl
  | i :: l, Q, h => by
    have := mrk_sh l (mrk1 Q i) fun x hx => h x (by simp [hx])
    have hi := h i (by simp)
    have h1 : mrk1 (beh ps r Q) (i + ps.length) = beh ps r (mrk1 Q i) := by
      unfold mrk1 beh
      rw [show (i + (ps.length : Int)).toNat = ps.length + i.toNat by omega, modify_app, modify_map (f := fun p => { p with last := true })]
      intro p
      rfl
    simp only [mrk] at this ⊢
    rw [show shL ps.length (i :: l) = (i + (ps.length : Int)) :: shL ps.length l from rfl, List.foldl_cons, List.foldl_cons, h1, this]
theorem putG_sh (p : Po) (Q : List Po) (h : p.next = []) : putG (shP 0 r p) (beh ps r Q) = (beh ps r (putG p Q).1, shE ps.length (putG p Q).2) := by
  have h1 : shP 0 r p = shP ps.length r p := by simp [shP, h, shL]
  rw [h1]
  simp only [putG, beh, shE, shL, List.map_append, List.map_cons, List.map_nil, List.length_append, List.length_map, List.append_assoc]
  rw [show ((ps.length + Q.length : Nat) : Int) = (Q.length : Int) + ps.length by omega]
theorem thenE_sh (x y : En) : thenE (shE ps.length x) (shE ps.length y) = shE ps.length (thenE x y) := by
  obtain ⟨a, b, c⟩ := x
  obtain ⟨a', b', c'⟩ := y
  cases a <;> cases a' <;> simp [thenE, shE, uni_sh]
theorem thenG_sh {s : List Po × En} {y : En} (h : Re s.1.length s.2) : thenG (beh ps r s.1, shE ps.length s.2) (shE ps.length y) = (beh ps r (thenG s y).1, shE ps.length (thenG s y).2) := by
  unfold thenG
  rw [thenE_sh]
  refine Prod.ext ?_ rfl
  exact lnk_sh _ _ fun x hx => (h.2.2 x hx).1
theorem catG_sh : ∀ (ks : List En) {s : List Po × En}, Rn s.1.length s.1 → Re s.1.length s.2 → (∀ y ∈ ks, Re s.1.length y) →
    (ks.map (shE ps.length)).foldl thenG (beh ps r s.1, shE ps.length s.2) = (beh ps r (ks.foldl thenG s).1, shE ps.length (ks.foldl thenG s).2)
  | [], s, _, _, _ => rfl
  | y :: ks, s, h1, h2, h3 => by
    obtain ⟨a, b, c⟩ := thenG_ok h1 h2 (h3 y (by simp))
    rw [List.map_cons, List.foldl_cons, List.foldl_cons, thenG_sh h2]
    exact catG_sh ks (s := thenG s y) (by rw [a]; exact b) (by rw [a]; exact c) fun z hz => by rw [a]; exact h3 z (by simp [hz])
theorem altG_sh (d : Nat) : ∀ (ks : List En) (x : En), (ks.map (shE d)).foldl orE (shE d x) = shE d (ks.foldl orE x)
  | [], _ => rfl
  | y :: ks, x => by
    have : orE (shE d x) (shE d y) = shE d (orE x y) := by simp only [orE, shE, uni_sh]
    rw [List.map_cons, List.foldl_cons, List.foldl_cons, this, altG_sh d ks]
theorem headD_sh (d : Nat) (ks : List En) : (ks.map (shE d)).headD enN = shE d (ks.headD enN) := by cases ks <;> rfl
theorem nodeG_sh {b : Lb} {s : ISet} {ks : List En} {Q : List Po} (h : Rn Q.length Q) (hk : ∀ y ∈ ks, Re Q.length y) :
    nodeG r b s (ks.map (shE ps.length)) (beh ps r Q) = (beh ps r (nodeG 0 b s ks Q).1, shE ps.length (nodeG 0 b s ks Q).2) := by
  unfold nodeG
  split
  · rfl
  · split
    · exact putG_sh ⟨_, 1, 1, 0, false, []⟩ Q rfl
    · split
      · split
        · exact putG_sh ⟨_, _, _, 0, false, []⟩ Q rfl
        · have hx : Re Q.length (ks.headD enN) := by
            cases ks with
            | nil => exact re_nil _ _
            | cons x ks => exact hk x (by simp)
          rw [headD_sh]
          refine Prod.ext ?_ rfl
          exact lnk_sh _ _ fun x hx' => (hx.2.2 x hx').1
      · split
        · exact catG_sh ks (s := (Q, ⟨true, [], []⟩)) h (re_nil _ _) hk
        · exact Prod.ext rfl (altG_sh ps.length ks enN)
theorem getD_sh (d : Nat) (al : List En) (i : Nat) : (al.map (shE d)).getD i enN = shE d (al.getD i enN) := by
  rw [List.getD_eq_getElem?_getD, List.getD_eq_getElem?_getD, List.getElem?_map]
  cases al[i]? <;> rfl
theorem stepG_sh {l : List Node} {s : List Po × List En} {n : Node} (h : SOk s) : stepG l r (beh ps r s.1, s.2.map (shE ps.length)) n = (beh ps r (stepG l 0 s n).1, (stepG l 0 s n).2.map (shE ps.length)) := by
  unfold stepG
  simp only [List.length_map]
  split
  · rw [List.map_append]; rfl
  · have hm : (n.l.map fun k => (s.2.map (shE ps.length)).getD k.toNat enN) = (n.l.map fun k => s.2.getD k.toNat enN).map (shE ps.length) := by
      rw [List.map_map]
      exact List.map_congr_left fun k _ => getD_sh _ _ _
    rw [hm, nodeG_sh h.1 fun y hy => by
      obtain ⟨k, _, rfl⟩ := List.mem_map.1 hy
      exact getD_ok h.2 _]
    simp only [List.map_append, List.map_cons, List.map_nil]
theorem runG_sh (l : List Node) : ∀ (m : List Node) {s : List Po × List En}, SOk s → m.foldl (stepG l r) (beh ps r s.1, s.2.map (shE ps.length)) = (beh ps r (m.foldl (stepG l 0) s).1, (m.foldl (stepG l 0) s).2.map (shE ps.length))
  | [], _, _ => rfl
  | n :: m, s, h => by
    rw [List.foldl_cons, List.foldl_cons, stepG_sh h]
    exact runG_sh l m (stepG_ok h).1
end
/-- One plan's places behind others. -/
theorem one_sh (x : List Node) (r : Nat) (ps : List Po) : oneO x r ps = (beh ps r (oneO x 0 []).1, shE ps.length (oneO x 0 []).2) := by
  have h0 : SOk (([], []) : List Po × List En) := ⟨fun p hp => by simp at hp, fun e he => by simp at he⟩
  have h1 : listG x r ps = (beh ps r (listG x 0 []).1, (listG x 0 []).2.map (shE ps.length)) := by
    have := runG_sh (ps := ps) (r := (r : Int)) x x h0
    simpa [beh, listG] using this
  have h2 : (listG x r ps).2.getLastD enN = shE ps.length ((listG x 0 []).2.getLastD enN) := by
    rw [h1]
    simp only [List.getLastD_eq_getLast?, List.getLast?_map]
    cases (listG x 0 []).2.getLast? <;> rfl
  obtain ⟨a, b, _, _⟩ := list_ok (x := x) (r := 0) (ps := []) h0.1
  refine Prod.ext ?_ h2
  show mrk ((listG x r ps).2.getLastD enN).last (listG x r ps).1 = _
  rw [h2, h1]
  exact mrk_sh _ _ fun y hy => (b.2.2 y hy).1
theorem shE_first (d : Nat) (e : En) : (shE d e).first = shL d e.first := rfl
/-- First places of plans behind others come behind theirs. -/
theorem uni_beh {d n : Nat} {fi l : List Int} (h : Rs d fi) (h2 : Rs n l) : uni fi (shL d l) = fi ++ shL d l := by
  have hb : ∀ x ∈ shL d l, 0 ≤ x ∧ x < ((n + d : Nat) : Int) := fun x hx => by
    obtain ⟨y, hy, rfl⟩ := List.mem_map.1 hx
    have := h2.2 y hy
    omega
  obtain ⟨g1, g2⟩ := uni_eq (n := n + d) (a := fi) (b := shL d l) (fun x hx => by have := h.2 x hx; omega) hb
  refine rise_ext g1.1 ?_ fun x => by rw [g2, List.mem_append]
  rw [List.pairwise_append]
  refine ⟨h.1, ?_, fun x hx y hy => ?_⟩
  · rw [shL, List.pairwise_map]
    exact h2.1.imp fun h => by omega
  · obtain ⟨z, hz, rfl⟩ := List.mem_map.1 hy
    have := h.2 x hx
    have := h2.2 z hz
    omega
theorem beh_len (ps : List Po) (r : Int) (Q : List Po) : (beh ps r Q).length = ps.length + Q.length := by simp [beh]
/-- One plan more. -/
theorem apart_go {x : List Node} {xs : List (List Node)} {i : Nat} {ps P : List Po} {fi F : List Int} (hr : rightP x = true) (hrn : Rn ps.length ps) (hfi : Rs ps.length fi) (h : goO i (x :: xs) ps fi = some (P, F)) :
    ∃ f0 Q, ofG [x] = (f0, Q, 0) ∧ goO (i + 1) xs (beh ps i Q) (fi ++ shL ps.length f0) = some (P, F) ∧ Rn (beh ps i Q).length (beh ps i Q) ∧ Rs (beh ps i Q).length (fi ++ shL ps.length f0) ∧ (beh ps i Q).length ≤ 512 ∧ Rn Q.length Q ∧ Rs Q.length f0 := by
  have h0 : Rn ([] : List Po).length [] := fun p hp => by simp at hp
  obtain ⟨a1, a2, _, _⟩ := one_ok (x := x) (r := 0) h0
  obtain ⟨b1, b2, _, _⟩ := one_ok (x := x) (r := i) hrn
  have hs := one_sh x i ps
  rw [goO] at h
  rw [hs] at b1 b2 h
  generalize he : oneO x 0 [] = o at *
  obtain ⟨Q, e⟩ := o
  simp only at h a1 a2 b1 b2
  split at h
  · cases h
  · rename_i hl
    have h4 := uni_beh hfi a2.1
    refine ⟨e.first, Q, ?_, ?_, b1, ?_, by omega, a1, a2.1⟩
    · have hl' := beh_len ps i Q
      rw [ofG, if_neg (by simp [hr]), goO, he, if_neg (by simp only; omega), goO, uni_nil a2.1]
    · rw [← h4]; exact h
    · rw [← h4]; exact rs_uni (rs_mono hfi (by rw [beh_len]; omega)) b2.1
theorem ofG_ok {ls : List (List Node)} {F : List Int} {P : List Po} (h : ofG ls = (F, P, 0)) : ls.length ≤ 512 ∧ (∀ x ∈ ls, rightP x = true) ∧ goO 0 ls [] [] = some (P, F) := by
  unfold ofG at h
  split at h
  · cases h
  · rename_i hc
    refine ⟨?_, fun x hx => ?_, ?_⟩
    · cases Nat.lt_or_ge 512 ls.length with
      | inl h => exact absurd (.inl h) hc
      | inr h => exact h
    · cases hr : rightP x with
      | true => rfl
      | false => exact absurd (.inr (List.any_eq_true.2 ⟨x, hx, by simp [hr]⟩)) hc
    · split at h
      · cases h
      · rename_i ps fi hgo
        cases h; exact hgo
theorem goO_ok : ∀ {ls : List (List Node)} {i : Nat} {ps P : List Po} {fi F : List Int}, ps.length ≤ 512 → Rn ps.length ps → Rs ps.length fi → goO i ls ps fi = some (P, F) → P.length ≤ 512 ∧ Rn P.length P ∧ Rs P.length F
  | [], i, ps, P, fi, F, h1, h2, h3, h => by
    rw [goO] at h; cases h; exact ⟨h1, h2, h3⟩
  | x :: ls, i, ps, P, fi, F, h1, h2, h3, h => by
    rw [goO] at h
    obtain ⟨b1, b2, b3, _⟩ := one_ok (x := x) (r := i) h2
    split at h
    · cases h
    · exact goO_ok (by omega) b1 (rs_uni (rs_mono h3 b3) b2.1) h
end Go.Rad
/- What places of plans are by themselves. -/
namespace Go.Rad
open Go Fo
/-! What a place is stays so. -/
def poOk (p : Po) : Prop := p.s ≠ ISet.none ∧ 1 ≤ p.lo ∧ p.lo ≤ p.hi ∧ p.hi ≤ 4096
def psOk (ps : List Po) : Prop := ∀ p ∈ ps, poOk p
theorem psOk_mod {f : Po → Po} (hf : ∀ p, poOk p → poOk (f p)) {ps : List Po} (h : psOk ps) (k : Nat) : psOk (ps.modify k f) := by
  intro p hp
  obtain ⟨j, hj, rfl⟩ := List.getElem_of_mem hp
  rw [List.getElem_modify]
  have hj' : j < ps.length := by simpa using hj
  split
  · exact hf _ (h _ (List.getElem_mem hj'))
  · exact h _ (List.getElem_mem hj')
theorem psOk_lnk {to : List Int} : ∀ (fr : List Int) {ps : List Po}, psOk ps → psOk (lnk fr to ps)
  | [], _, h => h
  | i :: fr, ps, h => by rw [lnk, List.foldl_cons]; exact psOk_lnk fr (psOk_mod (f := fun p => { p with next := uni p.next to }) (fun p hp => hp) h _)
theorem psOk_mrk : ∀ (l : List Int) {ps : List Po}, psOk ps → psOk (mrk l ps)
  | [], _, h => h
  | i :: l, ps, h => by rw [mrk, List.foldl_cons]; exact psOk_mrk l (psOk_mod (f := fun p => { p with last := true }) (fun p hp => hp) h _)
theorem psOk_cat : ∀ (ks : List En) {s : List Po × En}, psOk s.1 → psOk (ks.foldl thenG s).1
  | [], _, h => h
  | y :: ks, s, h => psOk_cat ks (s := thenG s y) (psOk_lnk _ h)
theorem psOk_put {p : Po} {ps : List Po} (h : psOk ps) (hp : poOk p) : psOk (putG p ps).1 := by
  intro q hq
  simp only [putG, List.mem_append, List.mem_singleton] at hq
  rcases hq with hq | rfl
  · exact h q hq
  · exact hp
def cntF : Fo → Nat
  | .nil => 0
  | .node b k r => cntF k + (if b.op = 2 then 1 else 0) + cntF r
theorem cnt_lay : ∀ (f : Fo) (i : Nat), (f.lay i).countP (fun n => decide (n.op = 2)) = cntF f
  | .nil, _ => rfl
  | .node b k r, i => by
    rw [lay, List.countP_append, List.countP_cons, cnt_lay k, cnt_lay r, cntF]
    have : (Lb.node b (k.roots i)).op = b.op := rfl
    rw [this]
    by_cases h : b.op = 2
    · simp only [h, decide_true, if_true]; omega
    · simp only [h, decide_false, if_false]
      simp
theorem shapeL_set {b : Lb} {d : Nat} (h : shapeL b d = true) (h2 : b.op = 2) : b.s ≠ ISet.none := by
  simp only [shapeL, shapeOk, h2] at h
  simp only [show ¬ (2 : Int) = 1 by decide, if_false, if_true, Bool.and_eq_true, decide_eq_true_eq] at h
  exact h.1.1.1
theorem glF_own (rule : Int) : ∀ (f : Fo) (ps : List Po), f.shapeF = true → isP f = true → no6 f = true → psOk ps → psOk (glF rule f ps).1 ∧ (glF rule f ps).1.length = ps.length + cntF f
  | .nil, ps, _, _, _, h => ⟨h, rfl⟩
  | .node b k r, ps, hs, hp, h6, h => by
    simp only [shapeF, isP, no6, all, Bool.and_eq_true, decide_eq_true_eq] at hs hp h6
    have hnode : psOk (nodeG rule b (setOf k) (if cntd b then (ps, []) else glF rule k ps).2 (if cntd b then (ps, []) else glF rule k ps).1).1 ∧ (nodeG rule b (setOf k) (if cntd b then (ps, []) else glF rule k ps).2 (if cntd b then (ps, []) else glF rule k ps).1).1.length = ps.length + (cntF k + (if b.op = 2 then 1 else 0)) := by
      cases hc : cntd b
      · simp only [Bool.false_eq_true, if_false]
        have hc' : ¬ (b.op = 5 ∧ 0 < b.hi) := by simpa [cntd] using hc
        obtain ⟨g1, g2⟩ := glF_own rule k ps hs.1.2 hp.1.2 h6.1.2 h
        generalize glF rule k ps = s at g1 g2
        unfold nodeG
        split
        · rename_i h1; rw [if_neg (by omega)]; exact ⟨g1, by simp only; omega⟩
        · split
          · rename_i h2
            refine ⟨psOk_put g1 ⟨shapeL_set hs.1.1 h2, Int.le_refl _, Int.le_refl _, show (1 : Int) ≤ 4096 by decide⟩, ?_⟩
            simp only [putG, List.length_append, List.length_cons, List.length_nil]; omega
          · rename_i h2
            split
            · rename_i h5
              rw [if_neg (fun h => hc' ⟨h5, h⟩)]
              exact ⟨psOk_lnk _ g1, by simp only [lnk_len]; omega⟩
            · split
              · refine ⟨psOk_cat _ g1, ?_⟩
                have : ∀ (ks : List En) (s : List Po × En), (ks.foldl thenG s).1.length = s.1.length := by
                  intro ks
                  induction ks with
                  | nil => intro s; rfl
                  | cons y ks ih => intro s; rw [List.foldl_cons, ih]; exact lnk_len _ _ _
                simp only [catG, this]; omega
              · exact ⟨g1, by simp only; omega⟩
      · simp only [if_true]
        have hc' : b.op = 5 ∧ 0 < b.hi := by simpa [cntd] using hc
        obtain ⟨q1, _, _, q4, q5, q6⟩ := shapeL_rep hs.1.1 hc'.1
        have hpb := hp.1.1
        simp only [Bool.not_eq_true', decide_eq_false_iff_not] at hpb
        have hb : k.isBytes = true := by
          cases hx : k.isBytes
          · exact absurd ⟨hc'.1, by omega, .inl hx⟩ hpb
          · rfl
        have hlo : ¬ (b.lo < 1 ∨ b.hi < 2) := fun h => hpb ⟨hc'.1, by omega, .inr h⟩
        obtain ⟨b', rfl, h2'⟩ := bytes_one q1 hb hs.1.2
        have hsb : b'.s ≠ ISet.none := by
          have := hs.1.2
          simp only [shapeF, all, Bool.and_eq_true] at this
          exact shapeL_set this.1.1 h2'
        unfold nodeG
        rw [if_neg (by omega), if_neg (by omega), if_pos hc'.1, if_pos hc'.2]
        refine ⟨psOk_put h ⟨hsb, by simp only; omega, by simp only; omega, by simp only; omega⟩, ?_⟩
        simp only [putG, List.length_append, List.length_cons, List.length_nil, cntF, h2', if_true, if_neg (show ¬ b.op = 2 by omega)]
    simp only [glF]
    generalize nodeG rule b (setOf k) (if cntd b then (ps, []) else glF rule k ps).2 (if cntd b then (ps, []) else glF rule k ps).1 = s2 at hnode
    obtain ⟨r1, r2⟩ := glF_own rule r s2.1 hs.2 hp.2 h6.2 hnode.1
    refine ⟨r1, ?_⟩
    rw [r2, hnode.2, cntF]; omega
/-- How many bytes a plan has. -/
def bytesN (x : List Node) : Nat := x.countP fun n => decide (n.op = 2)
theorem one_own {x : List Node} (h : rightP x = true) : psOk (oneO x 0 []).1 ∧ (oneO x 0 []).1.length = bytesN x := by
  have h2 := h
  rw [rightP, Bool.and_eq_true] at h2
  obtain ⟨f, hd, rfl, hs, hz, h6⟩ := (plain_fo _).1 h2.1
  rw [right_fo hd hs hz h6] at h
  obtain ⟨t1, _, _⟩ := list_tree hd hs h 0 []
  obtain ⟨g1, g2⟩ := glF_own 0 f [] hs h h6 (fun p hp => by simp at hp)
  rw [bytesN, cnt_lay]
  simp only [oneO, mrk_len, Int.natCast_zero]
  rw [t1]
  refine ⟨psOk_mrk _ g1, ?_⟩
  rw [g2]; simp
/-- Places in the order of their rules; one follows only one of its own. -/
def ruOk (i : Nat) (ps : List Po) : Prop := (∀ (a b : Nat) (p q : Po), a ≤ b → ps[a]? = some p → ps[b]? = some q → p.rule ≤ q.rule) ∧ (∀ p ∈ ps, 0 ≤ p.rule ∧ p.rule < (i : Int)) ∧ ∀ p ∈ ps, ∀ k ∈ p.next, ∃ q, ps[k.toNat]? = some q ∧ q.rule = p.rule
theorem ruOk_beh {i : Nat} {ps Q : List Po} (h : ruOk i ps) (hr : Rn ps.length ps) (hq : Rn Q.length Q) : ruOk (i + 1) (beh ps i Q) := by
  obtain ⟨h1, h2, h3⟩ := h
  have hnew : ∀ (b : Nat) (q : Po), (beh ps i Q)[b]? = some q → (b < ps.length ∧ ps[b]? = some q) ∨ (ps.length ≤ b ∧ q.rule = (i : Int) ∧ ∃ p, Q[b - ps.length]? = some p ∧ q = shP ps.length i p) := by
    intro b q hb
    simp only [beh, List.getElem?_append] at hb
    split at hb
    · rename_i hlt; exact .inl ⟨hlt, hb⟩
    · rename_i hlt
      rw [List.getElem?_map] at hb
      obtain ⟨p, hp, rfl⟩ := Option.map_eq_some_iff.1 hb
      exact .inr ⟨by omega, rfl, p, hp, rfl⟩
  refine ⟨fun a b p q hab hp hq' => ?_, fun p hp => ?_, fun p hp k hk => ?_⟩
  · rcases hnew a p hp with ⟨_, ha⟩ | ⟨ha, ha2, _⟩
    · rcases hnew b q hq' with ⟨_, hb⟩ | ⟨_, hb, _⟩
      · exact h1 a b p q hab ha hb
      · have := h2 p (List.mem_of_getElem? ha); omega
    · rcases hnew b q hq' with ⟨hb, _⟩ | ⟨_, hb, _⟩
      · omega
      · omega
  · obtain ⟨b, hb⟩ := List.mem_iff_getElem?.1 hp
    rcases hnew b p hb with ⟨_, hb⟩ | ⟨_, hb, _⟩
    · have := h2 p (List.mem_of_getElem? hb); omega
    · omega
  · obtain ⟨b, hb⟩ := List.mem_iff_getElem?.1 hp
    rcases hnew b p hb with ⟨_, hb⟩ | ⟨_, hb, y, hy, rfl⟩
    · obtain ⟨q, hq', he⟩ := h3 p (List.mem_of_getElem? hb) k hk
      refine ⟨q, ?_, he⟩
      rw [beh, List.getElem?_append_left (List.getElem?_eq_some_iff.1 hq').1]; exact hq'
    · simp only [shP, shL, List.mem_map] at hk
      obtain ⟨z, hz, rfl⟩ := hk
      have hzb := (hq y (List.mem_of_getElem? hy)).2 z hz
      have hlt : z.toNat < Q.length := by omega
      refine ⟨shP ps.length i Q[z.toNat], ?_, rfl⟩
      rw [beh, List.getElem?_append_right (by omega), show (z + (ps.length : Int)).toNat - ps.length = z.toNat by omega, List.getElem?_map, List.getElem?_eq_getElem hlt]
      rfl
theorem psOk_beh {i : Int} {ps Q : List Po} (h : psOk ps) (hq : psOk Q) : psOk (beh ps i Q) := by
  intro p hp
  rcases List.mem_append.1 hp with hp | hp
  · exact h p hp
  · obtain ⟨y, hy, rfl⟩ := List.mem_map.1 hp
    exact hq y hy
theorem go_own : ∀ {ls : List (List Node)} {i : Nat} {ps P : List Po} {fi F : List Int}, (∀ x ∈ ls, rightP x = true) → Rn ps.length ps → Rs ps.length fi → ps.length ≤ 512 → psOk ps → ruOk i ps → goO i ls ps fi = some (P, F) →
    psOk P ∧ ruOk (i + ls.length) P ∧ P.length = ps.length + (ls.map bytesN).sum ∧ Rn P.length P ∧ Rs P.length F ∧ P.length ≤ 512
  | [], i, ps, P, fi, F, _, h1, h2, hb, h3, h4, h => by
    rw [goO] at h; cases h; exact ⟨h3, h4, rfl, h1, h2, hb⟩
  | x :: ls, i, ps, P, fi, F, hr, h1, h2, hb, h3, h4, h => by
    have hx := hr x (by simp)
    obtain ⟨f0, Q, q1, q2, q3, q4, q5, q6, q7⟩ := apart_go hx h1 h2 h
    obtain ⟨o1, o2⟩ := one_own hx
    have hQ : Q = (oneO x 0 []).1 := by
      obtain ⟨_, _, hg⟩ := ofG_ok q1
      rw [goO] at hg
      split at hg
      · cases hg
      · rw [goO] at hg; cases hg; rfl
    obtain ⟨r1, r2, r3, r4, r5, r6⟩ := go_own (fun y hy => hr y (by simp [hy])) q3 q4 q5 (psOk_beh h3 (by rw [hQ]; exact o1)) (ruOk_beh h4 h1 q6) q2
    refine ⟨r1, by rw [List.length_cons, ← Nat.add_assoc, Nat.add_right_comm]; exact r2, ?_, r4, r5, r6⟩
    rw [r3, beh_len, hQ, o2, List.map_cons, List.sum_cons]; omega
/-- Places of plans: so many, right, in the order of their rules. -/
theorem own_law {ls : List (List Node)} {F : List Int} {P : List Po} (h : ofG ls = (F, P, 0)) : psOk P ∧ ruOk ls.length P ∧ P.length = (ls.map bytesN).sum ∧ Rn P.length P ∧ Rs P.length F ∧ P.length ≤ 512 := by
  obtain ⟨o1, o2, o3⟩ := ofG_ok h
  obtain ⟨r1, r2, r3, r4, r5, r6⟩ := go_own o2 (fun p hp => by simp at hp) (rs_nil _) (by simp) (fun p hp => by simp at hp) ⟨fun a b p q _ h => by simp at h, fun p hp => by simp at hp, fun p hp => by simp at hp⟩ o3
  rw [Nat.zero_add] at r2
  exact ⟨r1, r2, by simpa using r3, r4, r5, r6⟩
end Go.Rad
/- The statements of layer 9: GlushOwn. -/
namespace Go.Rad
open Go Go.Proofs
set_option linter.all false
set_option maxRecDepth 20000
set_option maxHeartbeats 4000000

theorem ris_ok {m : Int} : ∀ {l : List Int} {p : Int}, l.Pairwise (· < ·) → (∀ x ∈ l, p < x ∧ x < m) → risG m p l = true
  | [], _, _, _ => rfl
  | k :: l, p, h1, h2 => by
    rw [List.pairwise_cons] at h1
    have hk := h2 k (by simp)
    rw [risG, ris_ok h1.2 (fun x hx => ⟨h1.1 x hx, (h2 x (by simp [hx])).2⟩), decide_eq_false (by omega), decide_eq_false (by omega)]
    rfl
theorem rs_ris {n : Nat} {l : List Int} (h : Rs n l) : risG n (-1) l = true := ris_ok h.1 fun x hx => by have := h.2 x hx; omega
theorem own_right {r : Nat} {F : List Int} {P : List Po} (k1 : psOk P) (k2 : ruOk r P) (hr : r ≤ 512) (k4 : Rn P.length P) (k5 : Rs P.length F) (k6 : P.length ≤ 512) : rightG F P = true := by
  have : P.any (fun p => !mayG P.length p) = false := by
    rw [Bool.eq_false_iff]
    intro h
    obtain ⟨p, hp, h2⟩ := List.any_eq_true.1 h
    obtain ⟨a1, a2, a3, a4⟩ := k1 p hp
    obtain ⟨b1, b2⟩ := k2.2.1 p hp
    rw [mayG, rs_ris (k4 p hp), decide_eq_false a1, decide_eq_false (by omega), decide_eq_false (by omega), decide_eq_false (by omega), decide_eq_false (by omega), decide_eq_false (by omega)] at h2
    cases h2
  rw [rightG, decide_eq_true k6, rs_ris k5, this]
  rfl
theorem ofG_err {ls : List (List Node)} (h : (ofG ls).2.2 ≠ 0) : (ofG ls).1 = [] ∧ (ofG ls).2.1 = [] := by
  revert h
  unfold ofG
  split
  · exact fun _ => ⟨rfl, rfl⟩
  · cases goO 0 ls [] [] with
    | none => exact fun _ => ⟨rfl, rfl⟩
    | some z => intro h; exact absurd rfl h
theorem glushOwn_c (ls : List (List Node)) (h1 : ls.length ≤ maxLen) (h2 : ∀ x ∈ ls, x.length ≤ maxLen ∧ ∀ n ∈ x, n.name.size ≤ maxLen ∧ n.l.length ≤ maxLen) :
    ACall Tryz.prog 4 [.sl true false (trees ls)] [] fun r _ => r = .bool true := by
  have hf := few_c false ls h1 (fun x hx => (h2 x hx).1)
  obtain ⟨n1, n2⟩ := fewS_in ls 0
  have n3 : ∀ x ∈ fewS 0 ls, x.length ≤ maxLen ∧ ndOk x := fun x hx => h2 x (n1 x hx).1
  have n4 : ∀ x ∈ fewS 0 ls, x.length ≤ 200 := fun x hx => (n1 x hx).2
  generalize fewS 0 ls = X at hf n1 n2 n3 n4
  have hO := fun f => of9F_c f X (by omega) (fun x hx => (n3 x hx).2)
  have herr := ofG_err (ls := X)
  obtain ⟨F, P, e, he⟩ : ∃ F P e, ofG X = (F, P, e) := ⟨_, _, _, rfl⟩
  rw [he] at hO herr
  simp only at hO herr
  clear n1 h1 h2
  by_cases h0 : e = 0
  · subst h0
    clear herr
    obtain ⟨k1, k2, k3, k4, k5, k6⟩ := own_law he
    obtain ⟨o1, o2, _⟩ := ofG_ok he
    have hG := fun f1 f2 => gright_c f1 f2 F P (by have := rs_len k5; unfold maxLen; omega) (by omega) (fun p hp => by have := rs_len (k4 p hp); unfold maxLen; omega)
    rw [own_right k1 k2 o1 k4 k5 k6] at hG
    have hRr := fun x hx => rright_c false x (n3 x hx).1 (fun n hn => ⟨((n3 x hx).2 n hn).2, ((n3 x hx).2 n hn).1⟩)
    clear n3 k1 k5 he
    refine ACall.enter Tryz.func4 rfl (by kernel_rfl) (Nat.le_of_ble_eq_true rfl) ?_; simp only [initTm, Nat.reduceAdd]
    repeat' (first
  | refine gSq ?_ | refine gSk ?_ | refine gBl ?_ | refine gIb ?_ | refine gEx rfl ?_
  | ((first
  | (refine gRg [] [0, 2, 3, 4, 5, 6, 7, 9, 11, 12, 14, 16, 26, 40, 41, 42, 43, 48, 49, 50, 51, 52, 57, 71, 73, 74, 75, 76, 89, 93, 94, 95, 96, 118] ?_; intro K hK)
  | (refine gDr 31 [] 20 [0, 1, 2, 3, 4, 5, 6, 7, 8, 9, 10, 11, 12, 13, 14, 15, 16, 17, 18, 19] [0, 2, 3, 4, 5, 6, 7, 9, 11, 12, 14, 16, 26, 40, 41, 42, 43, 48, 49, 50, 51, 52, 57, 71, 73, 74, 75, 76, 89, 93, 94, 95, 96, 118] rfl ?_; intro K hK)
  | refine cAl (shown9uc) rfl rfl rfl ?_
  | refine cAl (hf) rfl rfl rfl ?_
  | refine cAl (hO _) rfl rfl rfl ?_
  | (refine gd_split ?_ ?_ <;> intro hb <;> (try simp only [bls] at hb) <;> (try simp only [hb]))
  | refine gRt [] [.tmp 2] rfl ?_ | refine gDn [] [.tmp 2] rfl ?_) <;> (try simp only [go_sem, simprocAttr, slFull, intArg, AVal.isCell]))
  | (refine hK _ _ ?_; clear hK K; simp only [go_sem, simprocAttr])
  | refine gCd (by simp only [go_sem, simprocAttr]; rfl) rfl ?_
  | refine brT ?_ | refine brF ?_
  | (refine brS ?_ ?_ <;> intro hc <;> (try simp only [bls] at hc) <;> (try simp only [hc, bls]))
  | intro _ | refine And.intro ?_ ?_)
    all_goals first | omega | (unfold bigLen; omega) | exact ⟨_, _, ⟨rfl, rfl⟩, rfl⟩ | exact ⟨_, rfl⟩ | (rename_i hy; simp only [List.mem_singleton] at hy; subst hy; rfl) | with_reducible rfl | skip
    refine AGood.boxRef 5 5 rfl rfl rfl ?_
    simp only [go_sem, simprocAttr]
    refine AGood.prune [2, 3, 4, 5, 7, 40, 41, 42] ?_; simp only [go_sem, simprocAttr]
    refine AGood.loopInv (α := Nat) (fun i => ([(2, .bool false), (3, .bool true), (4, .sl true false (trees X)), (5, .ref true [.sl true false (ints F), .sl true false (poss P)]), (7, .int .i64 (((X.take i).map bytesN).sum : Nat)), (40, .sl true false (trees X)), (41, .int .i64 X.length), (42, .int .i64 i)], [])) (fun i => i ≤ X.length ∧ ((X.take i).map bytesN).sum ≤ i * 200) (fun i => X.length - i) 0 ⟨Nat.zero_le _, Nat.le_refl _⟩ rfl ?_
    rintro i ⟨hi, hsum⟩ ih
    simp only at hi hsum ih ⊢
    by_cases hle : i < X.length
    · have e4 : (i : Int) < X.length := by omega
      have e5 : (0 : Int) ≤ i := by omega
      have e6 : (i : Int) + 1 = ((i + 1 : Nat) : Int) := by omega
      obtain ⟨x, hx⟩ : ∃ x, X[i]? = some x := ⟨_, List.getElem?_eq_getElem hle⟩
      have hxm := List.mem_of_getElem? hx
      have hv : (trees X)[i]? = some [.sl true false (nodes x)] := by simp [trees, hx]
      have hc := hRr x hxm
      rw [o2 x hxm] at hc
      have hx200 := n4 x hxm
      have hs1 : ((X.take (i + 1)).map bytesN).sum = ((X.take i).map bytesN).sum + bytesN x := by rw [take_one hx]; simp
      have hbn : bytesN x ≤ x.length := List.countP_le_length
      generalize ((X.take i).map bytesN).sum = M at hsum hs1 ⊢
      have hM : M ≤ 1200 := by omega
      clear hRr hG hO hf
      repeat' (first
  | refine gSq ?_ | refine gSk ?_ | refine gBl ?_ | refine gIb ?_ | refine gEx rfl ?_
  | ((first
  | (refine gRg [] [0, 2, 3, 4, 5, 6, 7, 9, 11, 12, 14, 16, 26, 40, 41, 42, 43, 48, 49, 50, 51, 52, 57, 71, 73, 74, 75, 76, 89, 93, 94, 95, 96, 118] ?_; intro K hK)
  | (refine gDr 31 [] 20 [0, 1, 2, 3, 4, 5, 6, 7, 8, 9, 10, 11, 12, 13, 14, 15, 16, 17, 18, 19] [0, 2, 3, 4, 5, 6, 7, 9, 11, 12, 14, 16, 26, 40, 41, 42, 43, 48, 49, 50, 51, 52, 57, 71, 73, 74, 75, 76, 89, 93, 94, 95, 96, 118] rfl ?_; intro K hK)
  | refine cAl (hc) rfl rfl rfl ?_
  | (refine gd_split ?_ ?_ <;> intro hb <;> (try simp only [bls] at hb) <;> (try simp only [hb]))
  | refine gRt [] [.tmp 2] rfl ?_ | refine gDn [] [.tmp 2] rfl ?_) <;> (try simp only [go_sem, simprocAttr, e4, e5, hx, hv, AVal.isCell, Option.some.injEq, forall_eq']))
  | (refine hK _ _ ?_; clear hK K; simp only [go_sem, simprocAttr])
  | refine gCd (by simp only [go_sem, simprocAttr]; rfl) rfl ?_
  | refine brT ?_ | refine brF ?_
  | (refine brS ?_ ?_ <;> intro hc <;> (try simp only [bls] at hc) <;> (try simp only [hc, bls]))
  | intro _ | refine And.intro ?_ ?_)
      all_goals first | omega | (unfold bigLen; omega) | exact ⟨_, _, ⟨rfl, rfl⟩, rfl⟩ | exact ⟨_, rfl⟩ | (rename_i hy; simp only [List.mem_singleton] at hy; subst hy; rfl) | with_reducible rfl | skip
      refine AGood.prune [2, 3, 4, 5, 7, 40, 41, 42, 49, 50, 51] ?_; simp only [go_sem, simprocAttr]
      refine AGood.loopInv (α := Nat) (fun j => ([(2, .bool false), (3, .bool true), (4, .sl true false (trees X)), (5, .ref true [.sl true false (ints F), .sl true false (poss P)]), (7, .int .i64 ((M + bytesN (x.take j) : Nat) : Int)), (40, .sl true false (trees X)), (41, .int .i64 X.length), (42, .int .i64 i), (49, .sl true false (nodes x)), (50, .int .i64 x.length), (51, .int .i64 j)], [])) (fun j => j ≤ x.length) (fun j => x.length - j) 0 (Nat.zero_le _) rfl ?_
      rintro j hj ih2
      simp only at hj ih2 ⊢
      by_cases hlj : j < x.length
      · have d4 : (j : Int) < x.length := by omega
        have d5 : (0 : Int) ≤ j := by omega
        have d6 : (j : Int) + 1 = ((j + 1 : Nat) : Int) := by omega
        obtain ⟨n, hn⟩ : ∃ n, x[j]? = some n := ⟨_, List.getElem?_eq_getElem hlj⟩
        have hb1 : bytesN (x.take (j + 1)) = bytesN (x.take j) + (if n.op = 2 then 1 else 0) := by
          rw [take_one hn]; simp only [bytesN, List.countP_append, List.countP_cons, List.countP_nil, Nat.zero_add, decide_eq_true_eq]
        have hbj : bytesN (x.take j) ≤ j := by have : bytesN (x.take j) ≤ (x.take j).length := List.countP_le_length; rw [List.length_take] at this; omega
        generalize bytesN (x.take j) = B at hb1 hbj ⊢
        have d7 : ((M + B : Nat) : Int) + 1 = ((M + (B + 1) : Nat) : Int) := by omega
        have d8 : ((M + B : Nat) : Int) ≤ 2000 := by omega
        have d9 : (0 : Int) ≤ ((M + B : Nat) : Int) := by omega
        obtain ⟨xo, ⟨xa, xb, xc, xd⟩, xl, xlo, xhi, xn⟩ := n
        simp only at hb1
        by_cases h2 : xo = 2
        · rw [if_pos h2] at hb1
          repeat' (first
  | refine gSq ?_ | refine gSk ?_ | refine gBl ?_ | refine gIb ?_ | refine gEx rfl ?_
  | ((first
  | (refine gRg [] [0, 2, 3, 4, 5, 6, 7, 9, 11, 12, 14, 16, 26, 40, 41, 42, 43, 48, 49, 50, 51, 52, 57, 71, 73, 74, 75, 76, 89, 93, 94, 95, 96, 118] ?_; intro K hK)
  | (refine gDr 31 [] 20 [0, 1, 2, 3, 4, 5, 6, 7, 8, 9, 10, 11, 12, 13, 14, 15, 16, 17, 18, 19] [0, 2, 3, 4, 5, 6, 7, 9, 11, 12, 14, 16, 26, 40, 41, 42, 43, 48, 49, 50, 51, 52, 57, 71, 73, 74, 75, 76, 89, 93, 94, 95, 96, 118] rfl ?_; intro K hK)
  | (refine gd_split ?_ ?_ <;> intro hb <;> (try simp only [bls] at hb) <;> (try simp only [hb]))
  | refine gRt [] [.tmp 2] rfl ?_ | refine gDn [] [.tmp 2] rfl ?_) <;> (try simp only [go_sem, simprocAttr, d4, d5, d6, d7, hn, eq_true h2, Node.cells, Node.cellsF, ISet.cells, AVal.isCell, Option.some.injEq, forall_eq']))
  | (refine hK _ _ ?_; clear hK K; simp only [go_sem, simprocAttr])
  | refine gCd (by simp only [go_sem, simprocAttr]; rfl) rfl ?_
  | refine brT ?_ | refine brF ?_
  | (refine brS ?_ ?_ <;> intro hc <;> (try simp only [bls] at hc) <;> (try simp only [hc, bls]))
  | intro _ | refine And.intro ?_ ?_)
          all_goals first | omega | (unfold bigLen; omega) | exact ⟨_, _, ⟨rfl, rfl⟩, rfl⟩ | exact ⟨_, rfl⟩ | (rename_i hy; simp only [List.mem_singleton] at hy; subst hy; rfl) | with_reducible rfl | skip
          refine AGood.filt [] ?_
          simp only [sf_cons, sf_nil, go_sem, simprocAttr]
          refine AGood.prune [2, 3, 4, 5, 7, 40, 41, 42, 49, 50, 51] ?_; simp only [go_sem, simprocAttr]
          exact AGood.cast (ih2 (j + 1) (by omega) (by omega)) (by simp only [hb1]) rfl
        · rw [if_neg h2] at hb1
          repeat' (first
  | refine gSq ?_ | refine gSk ?_ | refine gBl ?_ | refine gIb ?_ | refine gEx rfl ?_
  | ((first
  | (refine gRg [] [0, 2, 3, 4, 5, 6, 7, 9, 11, 12, 14, 16, 26, 40, 41, 42, 43, 48, 49, 50, 51, 52, 57, 71, 73, 74, 75, 76, 89, 93, 94, 95, 96, 118] ?_; intro K hK)
  | (refine gDr 31 [] 20 [0, 1, 2, 3, 4, 5, 6, 7, 8, 9, 10, 11, 12, 13, 14, 15, 16, 17, 18, 19] [0, 2, 3, 4, 5, 6, 7, 9, 11, 12, 14, 16, 26, 40, 41, 42, 43, 48, 49, 50, 51, 52, 57, 71, 73, 74, 75, 76, 89, 93, 94, 95, 96, 118] rfl ?_; intro K hK)
  | (refine gd_split ?_ ?_ <;> intro hb <;> (try simp only [bls] at hb) <;> (try simp only [hb]))
  | refine gRt [] [.tmp 2] rfl ?_ | refine gDn [] [.tmp 2] rfl ?_) <;> (try simp only [go_sem, simprocAttr, d4, d5, d6, hn, h2, Node.cells, Node.cellsF, ISet.cells, AVal.isCell, Option.some.injEq, forall_eq']))
  | (refine hK _ _ ?_; clear hK K; simp only [go_sem, simprocAttr])
  | refine gCd (by simp only [go_sem, simprocAttr]; rfl) rfl ?_
  | refine brT ?_ | refine brF ?_
  | (refine brS ?_ ?_ <;> intro hc <;> (try simp only [bls] at hc) <;> (try simp only [hc, bls]))
  | intro _ | refine And.intro ?_ ?_)
          all_goals first | omega | (unfold bigLen; omega) | exact ⟨_, _, ⟨rfl, rfl⟩, rfl⟩ | exact ⟨_, rfl⟩ | (rename_i hy; simp only [List.mem_singleton] at hy; subst hy; rfl) | with_reducible rfl | skip
          refine AGood.filt [] ?_
          simp only [sf_cons, sf_nil, go_sem, simprocAttr]
          refine AGood.prune [2, 3, 4, 5, 7, 40, 41, 42, 49, 50, 51] ?_; simp only [go_sem, simprocAttr]
          exact AGood.cast (ih2 (j + 1) (by omega) (by omega)) (by simp only [hb1, Nat.add_zero]) rfl
      · have d4 : ¬ (j : Int) < x.length := by omega
        rw [List.take_of_length_le (by omega)]
        clear ih2
        repeat' (first
  | refine gSq ?_ | refine gSk ?_ | refine gBl ?_ | refine gIb ?_ | refine gEx rfl ?_
  | ((first
  | (refine gRg [] [0, 2, 3, 4, 5, 6, 7, 9, 11, 12, 14, 16, 26, 40, 41, 42, 43, 48, 49, 50, 51, 52, 57, 71, 73, 74, 75, 76, 89, 93, 94, 95, 96, 118] ?_; intro K hK)
  | (refine gDr 31 [] 20 [0, 1, 2, 3, 4, 5, 6, 7, 8, 9, 10, 11, 12, 13, 14, 15, 16, 17, 18, 19] [0, 2, 3, 4, 5, 6, 7, 9, 11, 12, 14, 16, 26, 40, 41, 42, 43, 48, 49, 50, 51, 52, 57, 71, 73, 74, 75, 76, 89, 93, 94, 95, 96, 118] rfl ?_; intro K hK)
  | (refine gd_split ?_ ?_ <;> intro hb <;> (try simp only [bls] at hb) <;> (try simp only [hb]))
  | refine gRt [] [.tmp 2] rfl ?_ | refine gDn [] [.tmp 2] rfl ?_) <;> (try simp only [go_sem, simprocAttr, d4, e6]))
  | (refine hK _ _ ?_; clear hK K; simp only [go_sem, simprocAttr])
  | refine gCd (by simp only [go_sem, simprocAttr]; rfl) rfl ?_
  | refine brT ?_ | refine brF ?_
  | (refine brS ?_ ?_ <;> intro hc <;> (try simp only [bls] at hc) <;> (try simp only [hc, bls]))
  | intro _ | refine And.intro ?_ ?_)
        all_goals first | omega | (unfold bigLen; omega) | exact ⟨_, _, ⟨rfl, rfl⟩, rfl⟩ | exact ⟨_, rfl⟩ | (rename_i hy; simp only [List.mem_singleton] at hy; subst hy; rfl) | with_reducible rfl | skip
        refine AGood.prune [2, 3, 4, 5, 7, 40, 41, 42] ?_; simp only [go_sem, simprocAttr]
        exact AGood.cast (ih (i + 1) ⟨by omega, by rw [hs1]; omega⟩ (by omega)) (by simp only [hs1]) rfl
    · have e4 : ¬ (i : Int) < X.length := by omega
      rw [List.take_of_length_le (by omega), ← k3]
      clear ih hRr hO hf
      have hPn : ¬ ((P.length : Nat) : Int) ≠ P.length := fun h => h rfl
      repeat' (first
  | refine gSq ?_ | refine gSk ?_ | refine gBl ?_ | refine gIb ?_ | refine gEx rfl ?_
  | ((first
  | (refine gRg [] [0, 2, 3, 4, 5, 6, 7, 9, 11, 12, 14, 16, 26, 40, 41, 42, 43, 48, 49, 50, 51, 52, 57, 71, 73, 74, 75, 76, 89, 93, 94, 95, 96, 118] ?_; intro K hK)
  | (refine gDr 31 [] 20 [0, 1, 2, 3, 4, 5, 6, 7, 8, 9, 10, 11, 12, 13, 14, 15, 16, 17, 18, 19] [0, 2, 3, 4, 5, 6, 7, 9, 11, 12, 14, 16, 26, 40, 41, 42, 43, 48, 49, 50, 51, 52, 57, 71, 73, 74, 75, 76, 89, 93, 94, 95, 96, 118] rfl ?_; intro K hK)
  | refine cAl (hG _ _) rfl rfl rfl ?_
  | (refine gd_split ?_ ?_ <;> intro hb <;> (try simp only [bls] at hb) <;> (try simp only [hb]))
  | refine gRt [] [.tmp 2] rfl ?_ | refine gDn [] [.tmp 2] rfl ?_) <;> (try simp only [go_sem, simprocAttr, e4, AVal.isCell, ne_eq, not_true_eq_false, decide_false, bne_self_eq_false]))
  | (refine hK _ _ ?_; clear hK K; simp only [go_sem, simprocAttr])
  | refine gCd (by simp only [go_sem, simprocAttr]; rfl) rfl ?_
  | refine brT ?_ | refine brF ?_
  | (refine brS ?_ ?_ <;> intro hc <;> (try simp only [bls] at hc) <;> (try simp only [hc, bls]))
  | intro _ | refine And.intro ?_ ?_)
      all_goals first | omega | (unfold bigLen; omega) | exact ⟨_, _, ⟨rfl, rfl⟩, rfl⟩ | exact ⟨_, rfl⟩ | (rename_i hy; simp only [List.mem_singleton] at hy; subst hy; rfl) | with_reducible rfl | skip
      refine AGood.prune [2, 3, 4, 5, 12, 73, 74, 75] ?_; simp only [go_sem, simprocAttr]
      refine AGood.loopInv (α := Nat × Int) (fun z => ([(2, .bool false), (3, .bool true), (4, .sl true false (trees X)), (5, .ref true [.sl true false (ints F), .sl true false (poss P)]), (12, .int .i64 z.2), (73, .sl true false (poss P)), (74, .int .i64 P.length), (75, .int .i64 z.1)], [])) (fun z => z.1 ≤ P.length ∧ ∀ b q, z.1 ≤ b → P[b]? = some q → z.2 ≤ q.rule) (fun z => P.length - z.1) (0, 0) ⟨Nat.zero_le _, fun b q _ hq => (k2.2.1 q (List.mem_of_getElem? hq)).1⟩ rfl ?_
      rintro ⟨j, lst⟩ ⟨hj, hlst⟩ ih
      simp only at hj hlst ih ⊢
      by_cases hlj : j < P.length
      · have d4 : (j : Int) < P.length := by omega
        have d5 : (0 : Int) ≤ j := by omega
        have d6 : (j : Int) + 1 = ((j + 1 : Nat) : Int) := by omega
        obtain ⟨p, hp⟩ : ∃ p, P[j]? = some p := ⟨_, List.getElem?_eq_getElem hlj⟩
        have hpm := List.mem_of_getElem? hp
        have hpr := k2.2.1 p hpm
        have hpl := hlst j p (Nat.le_refl _) hp
        have hnx := k2.2.2 p hpm
        have hnb := (k4 p hpm).2
        have hnl := rs_len (k4 p hpm)
        have hnext : ∀ b q, j + 1 ≤ b → P[b]? = some q → p.rule ≤ q.rule := fun b q hb hq => k2.1 j b p q (by omega) hp hq
        obtain ⟨⟨sa, sb, sc, sd⟩, lo, hi', rule, last, next⟩ := p
        simp only at hpr hpl hnx hnext hnb hnl
        have d7 : ¬ rule < lst := by omega
        have d8 : ¬ ((X.length : Nat) : Int) ≤ rule := by omega
        clear hlst
        repeat' (first
  | refine gSq ?_ | refine gSk ?_ | refine gBl ?_ | refine gIb ?_ | refine gEx rfl ?_
  | ((first
  | (refine gRg [] [0, 2, 3, 4, 5, 6, 7, 9, 11, 12, 14, 16, 26, 40, 41, 42, 43, 48, 49, 50, 51, 52, 57, 71, 73, 74, 75, 76, 89, 93, 94, 95, 96, 118] ?_; intro K hK)
  | (refine gDr 31 [] 20 [0, 1, 2, 3, 4, 5, 6, 7, 8, 9, 10, 11, 12, 13, 14, 15, 16, 17, 18, 19] [0, 2, 3, 4, 5, 6, 7, 9, 11, 12, 14, 16, 26, 40, 41, 42, 43, 48, 49, 50, 51, 52, 57, 71, 73, 74, 75, 76, 89, 93, 94, 95, 96, 118] rfl ?_; intro K hK)
  | (refine gd_split ?_ ?_ <;> intro hb <;> (try simp only [bls] at hb) <;> (try simp only [hb]))
  | refine gRt [] [.tmp 2] rfl ?_ | refine gDn [] [.tmp 2] rfl ?_) <;> (try simp only [go_sem, simprocAttr, d4, d5, d7, d8, hp, Po.cells, Po.cellsF, ISet.cells, AVal.isCell, Option.some.injEq, forall_eq']))
  | (refine hK _ _ ?_; clear hK K; simp only [go_sem, simprocAttr])
  | refine gCd (by simp only [go_sem, simprocAttr]; rfl) rfl ?_
  | refine brT ?_ | refine brF ?_
  | (refine brS ?_ ?_ <;> intro hc <;> (try simp only [bls] at hc) <;> (try simp only [hc, bls]))
  | intro _ | refine And.intro ?_ ?_)
        all_goals first | omega | (unfold bigLen; omega) | exact ⟨_, _, ⟨rfl, rfl⟩, rfl⟩ | exact ⟨_, rfl⟩ | (rename_i hy; simp only [List.mem_singleton] at hy; subst hy; rfl) | with_reducible rfl | skip
        refine AGood.boxRef 14 14 rfl rfl rfl ?_
        simp only [go_sem, simprocAttr]
        refine AGood.prune [2, 3, 4, 5, 12, 14, 73, 74, 75, 93, 94, 95] ?_; simp only [go_sem, simprocAttr]
        refine AGood.loopInv (α := Nat) (fun m => ([(2, .bool false), (3, .bool true), (4, .sl true false (trees X)), (5, .ref true [.sl true false (ints F), .sl true false (poss P)]), (12, .int .i64 rule), (14, .ref true [.int .u64 sa, .int .u64 sb, .int .u64 sc, .int .u64 sd, .int .i64 lo, .int .i64 hi', .int .i64 rule, .bool last, .sl true false (ints next)]), (73, .sl true false (poss P)), (74, .int .i64 P.length), (75, .int .i64 j), (93, .sl true false (ints next)), (94, .int .i64 next.length), (95, .int .i64 m)], [])) (fun m => m ≤ next.length) (fun m => next.length - m) 0 (Nat.zero_le _) rfl ?_
        rintro m hm ih2
        simp only at hm ih2 ⊢
        by_cases hlm : m < next.length
        · have c4 : (m : Int) < next.length := by omega
          have c5 : (0 : Int) ≤ m := by omega
          have c6 : (m : Int) + 1 = ((m + 1 : Nat) : Int) := by omega
          obtain ⟨kd, hk⟩ : ∃ kd, next[m]? = some kd := ⟨_, List.getElem?_eq_getElem hlm⟩
          have hkb := hnb kd (List.mem_of_getElem? hk)
          obtain ⟨k, rfl⟩ : ∃ k : Nat, kd = k := ⟨kd.toNat, by omega⟩
          obtain ⟨q, hq, hqr⟩ := hnx k (List.mem_of_getElem? hk)
          rw [Int.toNat_natCast] at hq
          obtain ⟨⟨ta, tb, tc, td⟩, lo2, hi2, rule2, last2, next2⟩ := q
          simp only at hqr
          subst hqr
          have c7 : ¬ (k : Int) < 0 := by omega
          have c8 : ¬ ((P.length : Nat) : Int) ≤ k := by omega
          have c9 : (k : Int) < P.length := by omega
          have c10 : (0 : Int) ≤ k := by omega
          repeat' (first
  | refine gSq ?_ | refine gSk ?_ | refine gBl ?_ | refine gIb ?_ | refine gEx rfl ?_
  | ((first
  | (refine gRg [] [0, 2, 3, 4, 5, 6, 7, 9, 11, 12, 14, 16, 26, 40, 41, 42, 43, 48, 49, 50, 51, 52, 57, 71, 73, 74, 75, 76, 89, 93, 94, 95, 96, 118] ?_; intro K hK)
  | (refine gDr 31 [] 20 [0, 1, 2, 3, 4, 5, 6, 7, 8, 9, 10, 11, 12, 13, 14, 15, 16, 17, 18, 19] [0, 2, 3, 4, 5, 6, 7, 9, 11, 12, 14, 16, 26, 40, 41, 42, 43, 48, 49, 50, 51, 52, 57, 71, 73, 74, 75, 76, 89, 93, 94, 95, 96, 118] rfl ?_; intro K hK)
  | (refine gd_split ?_ ?_ <;> intro hb <;> (try simp only [bls] at hb) <;> (try simp only [hb]))
  | refine gRt [] [.tmp 2] rfl ?_ | refine gDn [] [.tmp 2] rfl ?_) <;> (try simp only [go_sem, simprocAttr, c4, c5, c6, c7, c8, c9, c10, hk, hq, Po.cells, Po.cellsF, ISet.cells, AVal.isCell, eq_self, beq_self_eq_true, Option.some.injEq, forall_eq']))
  | (refine hK _ _ ?_; clear hK K; simp only [go_sem, simprocAttr])
  | refine gCd (by simp only [go_sem, simprocAttr]; rfl) rfl ?_
  | refine brT ?_ | refine brF ?_
  | (refine brS ?_ ?_ <;> intro hc <;> (try simp only [bls] at hc) <;> (try simp only [hc, bls]))
  | intro _ | refine And.intro ?_ ?_)
          all_goals first | omega | (unfold bigLen; omega) | exact ⟨_, _, ⟨rfl, rfl⟩, rfl⟩ | exact ⟨_, rfl⟩ | (rename_i hy; simp only [List.mem_singleton] at hy; subst hy; rfl) | with_reducible rfl | skip
          refine AGood.prune [2, 3, 4, 5, 12, 14, 73, 74, 75, 93, 94, 95] ?_; simp only [go_sem, simprocAttr]
          exact (ih2 (m + 1) (by omega) (by omega)).cast rfl rfl
        · have c4 : ¬ (m : Int) < next.length := by omega
          clear ih2
          repeat' (first
  | refine gSq ?_ | refine gSk ?_ | refine gBl ?_ | refine gIb ?_ | refine gEx rfl ?_
  | ((first
  | (refine gRg [] [0, 2, 3, 4, 5, 6, 7, 9, 11, 12, 14, 16, 26, 40, 41, 42, 43, 48, 49, 50, 51, 52, 57, 71, 73, 74, 75, 76, 89, 93, 94, 95, 96, 118] ?_; intro K hK)
  | (refine gDr 31 [] 20 [0, 1, 2, 3, 4, 5, 6, 7, 8, 9, 10, 11, 12, 13, 14, 15, 16, 17, 18, 19] [0, 2, 3, 4, 5, 6, 7, 9, 11, 12, 14, 16, 26, 40, 41, 42, 43, 48, 49, 50, 51, 52, 57, 71, 73, 74, 75, 76, 89, 93, 94, 95, 96, 118] rfl ?_; intro K hK)
  | (refine gd_split ?_ ?_ <;> intro hb <;> (try simp only [bls] at hb) <;> (try simp only [hb]))
  | refine gRt [] [.tmp 2] rfl ?_ | refine gDn [] [.tmp 2] rfl ?_) <;> (try simp only [go_sem, simprocAttr, c4, d6]))
  | (refine hK _ _ ?_; clear hK K; simp only [go_sem, simprocAttr])
  | refine gCd (by simp only [go_sem, simprocAttr]; rfl) rfl ?_
  | refine brT ?_ | refine brF ?_
  | (refine brS ?_ ?_ <;> intro hc <;> (try simp only [bls] at hc) <;> (try simp only [hc, bls]))
  | intro _ | refine And.intro ?_ ?_)
          all_goals first | omega | (unfold bigLen; omega) | exact ⟨_, _, ⟨rfl, rfl⟩, rfl⟩ | exact ⟨_, rfl⟩ | (rename_i hy; simp only [List.mem_singleton] at hy; subst hy; rfl) | with_reducible rfl | skip
          refine AGood.prune [2, 3, 4, 5, 12, 73, 74, 75] ?_; simp only [go_sem, simprocAttr]
          exact (ih (j + 1, rule) ⟨by simp only; omega, hnext⟩ (by simp only; omega)).cast rfl rfl
      · have d4 : ¬ (j : Int) < P.length := by omega
        clear ih
        repeat' (first
  | refine gSq ?_ | refine gSk ?_ | refine gBl ?_ | refine gIb ?_ | refine gEx rfl ?_
  | ((first
  | (refine gRg [] [0, 2, 3, 4, 5, 6, 7, 9, 11, 12, 14, 16, 26, 40, 41, 42, 43, 48, 49, 50, 51, 52, 57, 71, 73, 74, 75, 76, 89, 93, 94, 95, 96, 118] ?_; intro K hK)
  | (refine gDr 31 [] 20 [0, 1, 2, 3, 4, 5, 6, 7, 8, 9, 10, 11, 12, 13, 14, 15, 16, 17, 18, 19] [0, 2, 3, 4, 5, 6, 7, 9, 11, 12, 14, 16, 26, 40, 41, 42, 43, 48, 49, 50, 51, 52, 57, 71, 73, 74, 75, 76, 89, 93, 94, 95, 96, 118] rfl ?_; intro K hK)
  | (refine gd_split ?_ ?_ <;> intro hb <;> (try simp only [bls] at hb) <;> (try simp only [hb]))
  | refine gRt [] [.tmp 2] rfl ?_ | refine gDn [] [.tmp 2] rfl ?_) <;> (try simp only [go_sem, simprocAttr, d4]))
  | (refine hK _ _ ?_; clear hK K; simp only [go_sem, simprocAttr])
  | refine gCd (by simp only [go_sem, simprocAttr]; rfl) rfl ?_
  | refine brT ?_ | refine brF ?_
  | (refine brS ?_ ?_ <;> intro hc <;> (try simp only [bls] at hc) <;> (try simp only [hc, bls]))
  | intro _ | refine And.intro ?_ ?_)
        all_goals first | omega | (unfold bigLen; omega) | exact ⟨_, _, ⟨rfl, rfl⟩, rfl⟩ | exact ⟨_, rfl⟩ | (rename_i hy; simp only [List.mem_singleton] at hy; subst hy; rfl) | with_reducible rfl | skip
  · obtain ⟨rfl, rfl⟩ := herr h0
    have h0' : ¬ e = 0 := h0
    refine ACall.enter Tryz.func4 rfl (by kernel_rfl) (Nat.le_of_ble_eq_true rfl) ?_; simp only [initTm, Nat.reduceAdd]
    repeat' (first
  | refine gSq ?_ | refine gSk ?_ | refine gBl ?_ | refine gIb ?_ | refine gEx rfl ?_
  | ((first
  | (refine gRg [] [0, 2, 3, 4, 5, 6, 7, 9, 11, 12, 14, 16, 26, 40, 41, 42, 43, 48, 49, 50, 51, 52, 57, 71, 73, 74, 75, 76, 89, 93, 94, 95, 96, 118] ?_; intro K hK)
  | (refine gDr 31 [] 20 [0, 1, 2, 3, 4, 5, 6, 7, 8, 9, 10, 11, 12, 13, 14, 15, 16, 17, 18, 19] [0, 2, 3, 4, 5, 6, 7, 9, 11, 12, 14, 16, 26, 40, 41, 42, 43, 48, 49, 50, 51, 52, 57, 71, 73, 74, 75, 76, 89, 93, 94, 95, 96, 118] rfl ?_; intro K hK)
  | refine cAl (shown9uc) rfl rfl rfl ?_
  | refine cAl (hf) rfl rfl rfl ?_
  | refine cAl (hO _) rfl rfl rfl ?_
  | (refine gd_split ?_ ?_ <;> intro hb <;> (try simp only [bls] at hb) <;> (try simp only [hb]))
  | refine gRt [] [.tmp 2] rfl ?_ | refine gDn [] [.tmp 2] rfl ?_) <;> (try simp only [go_sem, simprocAttr, slFull, intArg, AVal.isCell, h0', ldR_row]))
  | (refine hK _ _ ?_; clear hK K; simp only [go_sem, simprocAttr])
  | refine gCd (by simp only [go_sem, simprocAttr]; rfl) rfl ?_
  | refine brT ?_ | refine brF ?_
  | (refine brS ?_ ?_ <;> intro hc <;> (try simp only [bls] at hc) <;> (try simp only [hc, bls]))
  | intro _ | refine And.intro ?_ ?_)
    all_goals first | omega | (unfold bigLen; omega) | exact ⟨_, _, ⟨rfl, rfl⟩, rfl⟩ | exact ⟨_, rfl⟩ | (rename_i hy; simp only [List.mem_singleton] at hy; subst hy; rfl) | with_reducible rfl | skip
end Go.Rad
/- From a contract to a given row: the arguments are frozen, as whatever they hold. -/
namespace Go.Rad
open Go Go.ChangeShapes Go.RowKit Go.Deep
variable {P : Program} {L : Lay}

/-- The ghost at a call: all that there is lies still. -/
def baseG (W : World) : Gh := { F := fun b => W.heap[b]?, S := fun _ => True, L := fun _ => False, M := fun _ _ => none, N := 0, W0 := W }

/-- The package variables that are known lie there. -/
def GlobIn (W : World) : Prop := ∀ (g : Nat) (l : List Int), globU8 g = some l → Rep (baseG W) true (.ref true (globC l)) (.pointer (some ⟨g, 0, none⟩))
theorem baseG_wok {W : World} (hT : GlobIn W) : WOk (baseG W) W := ⟨.refl W, fun _ _ h => h, fun _ _ _ _ h => by simp [baseG] at h, fun _ _ _ => rfl, hT⟩
theorem sto_nil {G : Gh} {w : World} : StoOk G w [] := ⟨fun _ _ _ h => by simp [sget] at h, fun _ _ _ _ _ _ h => by simp [sget] at h⟩

theorem base_grown {W W' : World} {G : Gh} (hx : Ext (baseG W) G) (hw : WOk G W') : W.keptBut W' (fun _ => False) ∧ ∀ a : Addr, a.block < W.heap.size → W'.frozen? a = W.frozen? a := by
  have hold : ∀ i, i < W.heap.size → W'.heap[i]? = W.heap[i]? := by
    intro i hi
    have h1 : (baseG W).F i = some W.heap[i] := Array.getElem?_eq_getElem hi
    rw [hw.F i _ (hx.F i _ h1), Array.getElem?_eq_getElem hi]
  have hk : Kept W W' := by have := hw.K; rw [hx.W0] at this; exact this
  refine ⟨⟨hk.os, hk.out, fun i hi => ?_⟩, fun a ha => ?_⟩
  · rw [hold i hi]
    cases W.heap[i]? with
    | none => rfl
    | some o => cases o <;> simp
  · simp only [World.frozen?, hold _ ha]

/-- What is told where the arguments lie as they lay, and nothing of them was shut: of what is new nothing is asked. -/
theorem post_old {H : Type} {enc : TypeId × Value → H} {f : Func} {s : ChangeSpec} {apart fresh handsOn again : Bool} {W W' : World} {args : Array Value} {v : Value} {ds gs : List (DataW H)} {before pa pv : List MemPlace}
    (hW : DataW.Whole enc P f.params.toList s.vars apart W args.toList ds gs before)
    (hres : ∀ (b : Nat) (sp : Nat → Bool) (hd : Bool), DataW.TrodAll enc P W' b sp hd f.resultTypes.toList (v.resultList f.resultTypes.size) (s.fn H (ds ++ gs)).results [])
    (hargs : ∀ sp : Nat → Bool, (∀ p ∈ before, sp p.block = true) → DataW.TrodAll enc P W' 0 sp true f.params.toList args.toList (s.fn H (ds ++ gs)).args pa)
    (hvars : ∀ sp : Nat → Bool, (∀ p ∈ before, sp p.block = true) → DataW.TrodVars enc P W' sp s.vars (s.fn H (ds ++ gs)).vars pv)
    (hps : before = pa ++ pv) (hk : W.keptBut W' (· ∈ before)) (hfz : ∀ a : Addr, a.block < W.heap.size → W'.frozen? a = W.frozen? a)
    (hok : ∀ (j : Nat) (t : TypeId) (r : Value), f.resultTypes[j]? = some t → (v.resultList f.resultTypes.size)[j]? = some r → Value.okWide P W' .any 0 t r) :
    s.post enc P f apart fresh handsOn again W args v W' := by
  have hall : ∀ p ∈ before, p.block < W.heap.size := fun p hp => hW.lt p hp
  have hin : ∀ p ∈ before, (fun b => decide (b < W.heap.size)) p.block = true := fun p hp => decide_eq_true (hall p hp)
  have hmem : ∀ p, p ∈ ([] ++ pa) ++ pv → p ∈ before := fun p hp => by rw [hps]; exact hp
  refine ⟨ds, gs, before, [], pa, pv, hW, hres _ _ _, hargs _ hin, hvars _ hin, World.keptBut_mono (fun p hp => ⟨hp, ?_⟩) hk, fun _ => ?_⟩
  · rw [hps] at hp
    exact .inr (List.mem_append.1 hp)
  · obtain ⟨_, _, _, _, _, hz, hn⟩ := hW
    refine ⟨hok, _, _, ([] ++ pa) ++ pv, ⟨[] ++ pa, pv, trodAll_append (hargs _ fun _ _ => rfl) (hres _ _ _), hvars _ fun _ _ => rfl, rfl, fun b off hp => ?_, fun ha => ?_⟩, fun p hp _ => ?_⟩
    · have := hall _ (hmem _ hp)
      rw [hfz _ this]
      exact hz b off (hmem _ hp)
    · have := hn ha
      rw [hps] at this
      simpa using this
    · rw [hps]
      simpa using hp

def typedL (p : Nat → List AVal → Prop) : List (Nat × Nat) → List AVal → Prop
  | [], cs => cs = []
  | (_, t) :: r, cs => ∃ xs rest, cs = xs ++ rest ∧ p t xs ∧ typedL p r rest
def typedN (p : List AVal → Prop) : Nat → List AVal → Prop
  | 0, cs => cs = []
  | n + 1, cs => ∃ xs rest, cs = xs ++ rest ∧ p xs ∧ typedN p n rest

/-- Cells of a type, by content. -/
def typed (L : Lay) : Nat → Nat → List AVal → Prop
  | 0, _, _ => False
  | k + 1, t, cs =>
    match (L t).ty with
    | .int i => ∃ n, cs = [.int i n] ∧ fits i n
    | .bool => ∃ b, cs = [.bool b]
    | .string => ∃ s : ByteArray, cs = [.str s] ∧ s.size ≤ maxLen
    | .slice e => ∃ (l : List (List AVal)), cs = [.sl true false l] ∧ l.length ≤ maxLen ∧ ∀ x ∈ l, typed L k e x
    | .struct fs => typedL (typed L k) fs cs
    | .array n e => typedN (typed L k e) n cs
    | _ => False

def offsOk (L : Lay) : Nat → List (Nat × Nat) → Nat → Bool
  | o, [], sz => o == sz
  | o, (a, t) :: r, sz => a == o && offsOk L (o + (L t).sz) r sz

/-- Types of plain data. -/
def dataTy (L : Lay) : Nat → Nat → Bool
  | 0, _ => false
  | k + 1, t =>
    match (L t).ty with
    | .int _ => (L t).sz == 1 && !(L t).ag
    | .bool => (L t).sz == 1 && !(L t).ag
    | .string => (L t).sz == 1 && !(L t).ag
    | .slice e => (L t).sz == 1 && !(L t).ag && decide (0 < (L e).sz) && dataTy L k e
    | .struct fs => (L t).ag && offsOk L 0 fs (L t).sz && fs.all fun f => dataTy L k f.2
    | .array n e => (L t).ag && (n * (L e).sz == (L t).sz) && dataTy L k e
    | _ => false

/-- Cells that stand for cells. -/
def RepL (G : Gh) (ys : List AVal) (cs : List Value) : Prop := ys.length = cs.length ∧ (∀ (j : Nat) (y : AVal), ys[j]? = some y → y.isCell = true) ∧ ∀ (j : Nat) (y : AVal), ys[j]? = some y → Rep G false y (cs.getD j undef)

theorem RepL.nil {G : Gh} : RepL G [] [] := ⟨rfl, fun _ _ h => by simp at h, fun _ _ h => by simp at h⟩
theorem RepL.one {G : Gh} {y : AVal} {v : Value} (hc : y.isCell = true) (h : Rep G false y v) : RepL G [y] [v] := by
  refine ⟨rfl, fun j x hx => ?_, fun j x hx => ?_⟩ <;>
  · cases j with
    | zero => simp at hx; subst hx; first | exact hc | exact h
    | succ j => simp at hx
theorem RepL.append {G : Gh} {ys zs : List AVal} {cs ds : List Value} (h : RepL G ys cs) (k : RepL G zs ds) : RepL G (ys ++ zs) (cs ++ ds) := by
  refine ⟨by simp [h.1, k.1], fun j x hx => ?_, fun j x hx => ?_⟩
  · rw [List.getElem?_append] at hx
    split at hx
    · exact h.2.1 j x hx
    · exact k.2.1 _ x hx
  · rw [List.getElem?_append] at hx
    split at hx
    · rename_i hlt
      have := h.2.2 j x hx
      simpa [List.getD, List.getElem?_append, h.1 ▸ hlt] using this
    · rename_i hlt
      have := k.2.2 _ x hx
      rw [h.1] at hlt this
      simpa [List.getD, List.getElem?_append, hlt] using this

theorem Known.cellsOf {t : Nat} {i : TypeInfo} {d : TypeDesc} {z : Value} (h : Known P L t i d z) : P.cellsOf t = (L t).sz := by
  simp [Program.cellsOf, h.info, h.size]

theorem dataTy_ne {k t : Nat} (h : dataTy L k t = true) : (L t).ty ≠ .other := by
  cases k with
  | zero => simp [dataTy] at h
  | succ k => intro e; simp [dataTy, e] at h

section
variable {H : Type} {enc : TypeId × Value → H} {W : World}

theorem trod_rep (hL : LOk P L) : ∀ (k t : Nat), dataTy L k t = true → ∀ (fuel : Nat) (cs : List Value) (x : DataW H × List MemPlace), DataW.trod enc P W 0 (fun _ => true) true fuel t cs = some x → cs.length = (L t).sz →
    ∃ ys, typed L k t ys ∧ RepL (baseG W) ys cs
  | 0, t, hd, _, _, _, _, _ => by simp [dataTy] at hd
  | k + 1, t, hd, fuel, cs, x, h, hlen => by
    obtain ⟨i, d, z, kn⟩ := hL.known (dataTy_ne hd)
    have hdesc := kn.desc
    have hu := kn.und
    unfold dataTy at hd
    unfold typed
    cases hty : (L t).ty with
    | int q =>
      simp only [hty] at hd hdesc ⊢
      cases d <;> simp only [descIs, Bool.false_eq_true] at hdesc
      rename_i q'
      obtain rfl : q = q' := by simpa using hdesc
      obtain ⟨n, rfl, _, hw⟩ := DataW.trod_int hu h
      have hf : fits q n := by simpa [Lit.wf, fits] using hw
      exact ⟨[.int q n], ⟨n, rfl, hf⟩, .one rfl (.int hf)⟩
    | bool =>
      simp only [hty] at hd hdesc ⊢
      cases d <;> simp only [descIs, Bool.false_eq_true] at hdesc
      obtain ⟨b, rfl, _⟩ := DataW.trod_bool hu h
      exact ⟨[.bool b], ⟨b, rfl⟩, .one rfl .bool⟩
    | string =>
      simp only [hty] at hd hdesc ⊢
      cases d <;> simp only [descIs, Bool.false_eq_true] at hdesc
      obtain ⟨s, rfl, _, hs⟩ := DataW.trod_string hu h
      exact ⟨[.str s], ⟨s, rfl, hs⟩, .one rfl (.str hs)⟩
    | slice e =>
      simp only [hty, Bool.and_eq_true, beq_iff_eq, decide_eq_true_eq] at hd hdesc ⊢
      cases d <;> simp only [descIs, Bool.false_eq_true] at hdesc
      rename_i e'
      obtain ⟨rfl, hne⟩ : e = e' ∧ _ := by simpa using hdesc
      obtain ⟨⟨_, hpos⟩, hde⟩ := hd
      obtain ⟨i2, d2, z2, kn2⟩ := hL.known (dataTy_ne hde)
      have hce := kn2.cellsOf
      rcases open_slice hu h with ⟨rfl, _⟩ | ⟨a, len, cap, m, n, D, Pl, rfl, _, hle, hcap, hm, _, hall⟩
      · exact ⟨[.sl true false []], ⟨[], rfl, Nat.zero_le _, fun x hx => by cases hx⟩, .one rfl (.slnil fun h => by cases h)⟩
      · simp only [if_true] at hm
        subst hm
        -- each element's cells
        have hel : ∀ i, i < len → ∃ ys cs', W.cells? 0 (a.add (i * (L e).sz)) (L e).sz = some cs' ∧ typed L k e ys ∧ RepL (baseG W) ys cs' := by
          intro i hi
          obtain ⟨cs', h1, h2⟩ := hall i (by omega)
          rw [hce] at h1
          obtain ⟨ys, h3, h4⟩ := trod_rep hL k e hde _ cs' _ h2 (World.cells?_some h1).2.1
          exact ⟨ys, cs', h1, h3, h4⟩
        rcases Nat.eq_zero_or_pos len with h0 | hl
        · subst h0
          exact ⟨[.sl true false []], ⟨[], rfl, Nat.zero_le _, fun x hx => by cases hx⟩, .one rfl (.slnil fun h => by cases h)⟩
        · have hpick : ∃ g : Nat → List AVal, ∀ i, i < len → ∃ cs', W.cells? 0 (a.add (i * (L e).sz)) (L e).sz = some cs' ∧ typed L k e (g i) ∧ RepL (baseG W) (g i) cs' := by
            refine ⟨fun i => if hi : i < len then Classical.choose (hel i hi) else [], fun i hi => ?_⟩
            simp only [hi, dif_pos]
            exact Classical.choose_spec (hel i hi)
          obtain ⟨g, hg⟩ := hpick
          -- the block that they lie in
          obtain ⟨cs0, h0, _, hr0⟩ := hg 0 hl
          have hspot : a.spot = none ∧ ∃ c t' fr, W.heap[a.block]? = some (.cells c t' fr) := by
            have hc0 := (World.cells?_some h0).2.2 0 hpos
            have hln := (World.cells?_some h0).2.1
            have ha : (a.add (0 * (L e).sz)).add 0 = a := by simp [Addr.add]
            rw [ha, List.getElem?_eq_getElem (by omega)] at hc0
            unfold World.cell? at hc0
            split at hc0
            · rename_i c t' fr hcell
              split at hc0
              · cases hc0
              · rename_i hs; exact ⟨by simpa using hs, c, t', fr, hcell⟩
            · cases hc0
          obtain ⟨hsp, c, t', fr, hblk⟩ := hspot
          have hcell : ∀ i j, i < len → j < (L e).sz → ∀ cs', W.cells? 0 (a.add (i * (L e).sz)) (L e).sz = some cs' → c[a.off + i * (L e).sz + j]? = cs'[j]? := by
            intro i j hi hj cs' hcs
            rw [← (World.cells?_some hcs).2.2 j hj]
            have : ((a.add (i * (L e).sz)).add j) = ⟨a.block, a.off + i * (L e).sz + j, none⟩ := by
              unfold Addr.add
              by_cases h1 : i * (L e).sz = 0 <;> by_cases h2 : j = 0 <;> simp [h1, h2, hsp] <;> try omega
              · cases a; simp_all
            rw [this]
            simp [World.cell?, hblk]
          obtain ⟨bk, off, sp⟩ := a
          simp only at hsp hblk hcell
          subst hsp
          have hlast : off + len * (L e).sz ≤ c.size := by
            obtain ⟨cs', h1, _, _⟩ := hg (len - 1) (by omega)
            have hln := (World.cells?_some h1).2.1
            have := hcell (len - 1) ((L e).sz - 1) (by omega) (by omega) cs' h1
            rw [List.getElem?_eq_getElem (by omega)] at this
            have hlt := (Array.getElem?_eq_some_iff.1 this).1
            have e1 : len * (L e).sz = (len - 1) * (L e).sz + (L e).sz := by
              rw [← Nat.succ_mul]; congr 1; omega
            omega
          have hl' : ∀ (i : Nat) (x : List AVal), ((List.range len).map g)[i]? = some x → i < len ∧ x = g i := by
            intro i x hx
            rw [List.getElem?_map] at hx
            obtain ⟨j, hj, rfl⟩ := Option.map_eq_some_iff.1 hx
            have := List.getElem?_eq_some_iff.1 hj
            obtain ⟨hlt, e⟩ := this
            simp at hlt e
            subst e; exact ⟨hlt, rfl⟩
          refine ⟨[.sl true false ((List.range len).map g)], ⟨_, rfl, by simp; exact Nat.le_trans hle hcap, fun x hx => ?_⟩, .one rfl ?_⟩
          · obtain ⟨i, hi, rfl⟩ := List.mem_map.1 hx
            obtain ⟨_, _, h1, _⟩ := hg i (by simpa using hi)
            exact h1
          · have hR := Rep.sl (G := baseG W) (o := false) (q := true) (full := false) (l := (List.range len).map g) (cap := m) (b := bk) (off := off) (c := c) (e := t') (fr := fr) (esz := (L e).sz)
              (by simpa using hle) (fun h => by cases h) (by simp; exact Nat.le_trans hle hcap) (.inl trivial) hblk (by simpa using hlast)
              (fun i x hx => by
                obtain ⟨hi, rfl⟩ := hl' i x hx
                obtain ⟨cs', h1, _, h3⟩ := hg i hi
                rw [h3.1, (World.cells?_some h1).2.1])
              (fun i j x y hx hy => by
                obtain ⟨hi, rfl⟩ := hl' i x hx
                obtain ⟨cs', h1, _, h3⟩ := hg i hi
                exact h3.2.1 j y hy)
              (fun i j x y hx hy => by
                obtain ⟨hi, rfl⟩ := hl' i x hx
                obtain ⟨cs', h1, _, h3⟩ := hg i hi
                have hj : j < (L e).sz := by
                  have := (List.getElem?_eq_some_iff.1 hy).1
                  rw [h3.1, (World.cells?_some h1).2.1] at this; exact this
                have h4 := h3.2.2 j y hy
                have h5 := hcell i j hi hj cs' h1
                have e : c.getD (off + i * (L e).sz + j) undef = cs'.getD j undef := by
                  simp only [Array.getD_eq_getD_getElem?, List.getD, h5]
                rw [e]; exact h4)
            simpa using hR
    | struct fs =>
      simp only [hty, Bool.and_eq_true] at hd hdesc ⊢
      cases d <;> simp only [descIs, Bool.false_eq_true] at hdesc
      rename_i gs
      obtain ⟨⟨_, hoff⟩, hall⟩ := hd
      obtain ⟨xs, n, _, _, _, hxl, hxs⟩ := DataW.trod_struct hu h
      have hall' := fun f hf => List.all_eq_true.1 hall f hf
      -- field by field
      have key : ∀ (fs' : List (Nat × Nat)) (gs' : List Field) (o m : Nat), fieldsAre L fs' gs' = true → offsOk L o fs' (L t).sz = true → (∀ f ∈ fs', dataTy L k f.2 = true) → (∀ (i : Nat) (f : Field), gs'[i]? = some f → gs[m + i]? = some f) → m + gs'.length = gs.size → o ≤ (L t).sz →
          ∃ ys, typedL (typed L k) fs' ys ∧ RepL (baseG W) ys (cs.drop o) := by
        intro fs'
        induction fs' with
        | nil =>
          intro gs' o m hf ho _ _ _ _
          simp only [offsOk, beq_iff_eq] at ho
          refine ⟨[], rfl, ?_⟩
          rw [List.drop_eq_nil_of_le (by omega)]; exact .nil
        | cons ft fs' ih =>
          intro gs' o m hf ho hda hgs hm hole
          obtain ⟨fo, ftt⟩ := ft
          cases gs' with
          | nil => simp [fieldsAre] at hf
          | cons g gs' =>
            simp only [fieldsAre, Bool.and_eq_true, beq_iff_eq, decide_eq_true_eq, bne_iff_ne] at hf
            obtain ⟨⟨⟨⟨h1, h2⟩, h3⟩, h4⟩, h5⟩ := hf
            simp only [offsOk, Bool.and_eq_true, beq_iff_eq] at ho
            obtain ⟨rfl, ho⟩ := ho
            have hdt : dataTy L k ftt = true := hda (fo, ftt) (by simp)
            obtain ⟨i2, d2, z2, kn2⟩ := hL.known h4
            have hce := kn2.cellsOf
            have hole2 : fo + (L ftt).sz ≤ (L t).sz := by
              have : ∀ (l : List (Nat × Nat)) (o : Nat), offsOk L o l (L t).sz = true → o ≤ (L t).sz := by
                intro l
                induction l with
                | nil => intro o h; simp only [offsOk, beq_iff_eq] at h; omega
                | cons a l ih => intro o h; simp only [offsOk, Bool.and_eq_true, beq_iff_eq] at h; have := ih _ h.2; omega
              exact this fs' _ ho
            have hg0 := hgs 0 g (by simp)
            have htr := hxs m g (by simpa using hg0)
            rw [h2, hce, h1] at htr
            have hml : m < xs.length := by
              rw [hxl]; have := (Array.getElem?_eq_some_iff.1 hg0).1; simpa using this
            rw [List.getElem?_eq_getElem hml] at htr
            obtain ⟨ys, hy1, hy2⟩ := trod_rep hL k ftt hdt n _ _ htr (by simp [hlen]; omega)
            obtain ⟨zs, hz1, hz2⟩ := ih gs' (fo + (L ftt).sz) (m + 1) h5 ho (fun f hf => hda f (by simp [hf])) (fun i f hi => by have := hgs (i + 1) f (by simpa using hi); rw [show m + 1 + i = m + (i + 1) by omega]; exact this) (by simp at hm ⊢; omega) hole2
            refine ⟨ys ++ zs, ⟨ys, zs, rfl, hy1, hz1⟩, ?_⟩
            have e : cs.drop fo = (cs.drop fo).take (L ftt).sz ++ cs.drop (fo + (L ftt).sz) := by
              rw [← List.drop_drop]; exact (List.take_append_drop _ _).symm
            rw [e]
            exact hy2.append hz2
      have hfd : fieldsAre L fs gs.toList = true := hdesc
      have := key fs gs.toList 0 0 hfd hoff hall' (fun i f hi => by simpa using hi) (by simp) (Nat.zero_le _)
      simpa using this
    | array n e =>
      simp only [hty, Bool.and_eq_true, beq_iff_eq] at hd hdesc ⊢
      cases d <;> simp only [descIs, Bool.false_eq_true] at hdesc
      rename_i n' e'
      simp only [Bool.and_eq_true, beq_iff_eq] at hdesc
      obtain ⟨⟨rfl, rfl⟩, hne⟩ := hdesc
      obtain ⟨⟨_, hsz⟩, hde⟩ := hd
      obtain ⟨i2, d2, z2, kn2⟩ := hL.known (dataTy_ne hde)
      have hce := kn2.cellsOf
      obtain ⟨xs, m, _, _, _, hxl, hxs⟩ := DataW.trod_array hu h
      have key : ∀ r o, r + o = n → ∃ ys, typedN (typed L k e) r ys ∧ RepL (baseG W) ys (cs.drop (o * (L e).sz)) := by
        intro r
        induction r with
        | zero =>
          intro o ho
          refine ⟨[], rfl, ?_⟩
          rw [List.drop_eq_nil_of_le (by rw [hlen, ← hsz, ← ho]; simp)]; exact .nil
        | succ r ih =>
          intro o ho
          have htr := hxs o (by omega)
          rw [hce, List.getElem?_eq_getElem (by omega)] at htr
          have hle : o * (L e).sz + (L e).sz ≤ cs.length := by
            rw [hlen, ← hsz, ← Nat.succ_mul]; exact Nat.mul_le_mul_right _ (by omega)
          obtain ⟨ys, hy1, hy2⟩ := trod_rep hL k e hde m _ _ htr (by simp; omega)
          obtain ⟨zs, hz1, hz2⟩ := ih (o + 1) (by omega)
          refine ⟨ys ++ zs, ⟨ys, zs, rfl, hy1, hz1⟩, ?_⟩
          have e' : cs.drop (o * (L e).sz) = (cs.drop (o * (L e).sz)).take (L e).sz ++ cs.drop ((o + 1) * (L e).sz) := by
            rw [Nat.succ_mul, ← List.drop_drop]; exact (List.take_append_drop _ _).symm
          rw [e']
          exact hy2.append hz2
      have := key n 0 (by omega)
      simpa using this
    | _ => simp [hty] at hd

/-- A parameter, by content. -/
def typedP (L : Lay) (t : Nat) (x : AVal) : Prop := if (L t).ag then ∃ ys, x = .agg ys ∧ typed L 9 t ys else typed L 9 t [x]
def typedAll (L : Lay) : List Nat → List AVal → Prop
  | [], xs => xs = []
  | t :: ts, xs => ∃ x r, xs = x :: r ∧ typedP L t x ∧ typedAll L ts r

theorem typed_len : ∀ (k t : Nat) (ys : List AVal), dataTy L k t = true → (L t).ag = false → typed L k t ys → ∃ y, ys = [y]
  | 0, t, ys, hd, _, _ => by simp [dataTy] at hd
  | k + 1, t, ys, hd, ha, h => by
    unfold dataTy at hd
    unfold typed at h
    cases hty : (L t).ty <;> simp only [hty] at hd h <;> try (cases hd; done)
    case int => obtain ⟨n, rfl, _⟩ := h; exact ⟨_, rfl⟩
    case bool => obtain ⟨n, rfl⟩ := h; exact ⟨_, rfl⟩
    case string => obtain ⟨n, rfl, _⟩ := h; exact ⟨_, rfl⟩
    case slice => obtain ⟨l, rfl, _⟩ := h; exact ⟨_, rfl⟩
    case struct => simp [ha] at hd
    case array => simp [ha] at hd

theorem arg_rep (hL : LOk P L) {t base : Nat} {v : Value} {d : DataW H} {ps : List MemPlace} (hd : dataTy L 9 t = true) (hok : Value.okWide P W .any base t v) (h : DataW.Trod enc P W 0 (fun _ => true) true t v d ps) :
    ∃ x, typedP L t x ∧ Rep (baseG W) false x v := by
  obtain ⟨i, ds, z, kn⟩ := hL.known (dataTy_ne hd)
  have hu := kn.und
  have hag := kn.agg
  obtain ⟨fuel, hf⟩ := h
  unfold Value.okWide at hok
  unfold typedP
  cases ha : (L t).ag with
  | true =>
    rw [ha] at hag
    have hv : ∃ cs, v = .agg cs ∧ cs.size = P.cellsOf t := by
      rw [hu] at hok
      cases ds <;> simp only [isAggD, Bool.false_eq_true] at hag
      all_goals obtain ⟨cs, h1, h2, _⟩ := hok; exact ⟨cs, h1, h2⟩
    obtain ⟨cs, rfl, hsz⟩ := hv
    obtain ⟨ys, h1, h2⟩ := trod_rep hL 9 t hd fuel _ _ hf (by simp [Value.cells, hsz, kn.cellsOf])
    refine ⟨.agg ys, by simp only [if_true]; exact ⟨ys, rfl, h1⟩, .agg (by have := h2.1; simpa [Value.cells] using this.symm) h2.2.1 fun j x hx => ?_⟩
    have := h2.2.2 j x hx
    simpa [Value.cells, List.getD] using this
  | false =>
    rw [ha] at hag
    have hv : v.cells = #[v] := by
      rw [hu] at hok
      cases ds <;> simp only [isAggD, Bool.true_eq_false] at hag <;> cases v <;> first | rfl | (simp [Cell.okWide, Cell.ok, hu] at hok)
    rw [hv] at hf
    have hs1 : (L t).sz = 1 := by
      unfold dataTy at hd
      cases hty : (L t).ty <;> simp only [hty] at hd <;> try (cases hd; done)
      all_goals first | (simp [ha] at hd; simp [hd]; done) | (simp [ha] at hd)
    obtain ⟨ys, h1, h2⟩ := trod_rep hL 9 t hd fuel _ _ hf (by simp [hs1])
    obtain ⟨y, rfl⟩ := typed_len 9 t ys hd ha h1
    refine ⟨y, by simpa using h1, ?_⟩
    have := h2.2.2 0 y rfl
    simpa using this

theorem args_rep (hL : LOk P L) {base : Nat} : ∀ (ts : List Nat) (vs : List Value) (ds : List (DataW H)) (ps : List MemPlace), (∀ t ∈ ts, dataTy L 9 t = true) → (∀ (j : Nat) t v, ts[j]? = some t → vs[j]? = some v → Value.okWide P W .any base t v) →
    DataW.TrodAll enc P W 0 (fun _ => true) true ts vs ds ps → ∃ xs, typedAll L ts xs ∧ vs.length = xs.length ∧ ∀ (j : Nat) (x : AVal), xs[j]? = some x → Rep (baseG W) false x (vs.getD j undef)
  | [], vs, ds, ps, _, _, h => by
    obtain ⟨rfl, _, _⟩ := trodAll_nil h
    exact ⟨[], rfl, rfl, fun j x hx => by simp at hx⟩
  | t :: ts, vs, ds, ps, hd, hok, h => by
    obtain ⟨v, vs', d, ds', p, q, rfl, rfl, rfl, h1, h2⟩ := trodAll_cons h
    obtain ⟨x, hx1, hx2⟩ := arg_rep hL (hd t (by simp)) (hok 0 t v rfl rfl) h1
    obtain ⟨xs, h3, h4, h5⟩ := args_rep hL ts vs' ds' q (fun t ht => hd t (by simp [ht])) (fun j t v hj hv => hok (j + 1) t v (by simpa using hj) (by simpa using hv)) h2
    refine ⟨x :: xs, ⟨x, xs, rfl, hx1, h3⟩, by simp [h4], fun j y hy => ?_⟩
    cases j with
    | zero => simp at hy; subst hy; simpa using hx2
    | succ j => simpa using h5 j y (by simpa using hy)

theorem trodAll_len : ∀ (ts : List Nat) (vs : List Value) (ds : List (DataW H)) (ps : List MemPlace), DataW.TrodAll enc P W 0 (fun _ => true) true ts vs ds ps → ds.length = ts.length
  | [], vs, ds, ps, h => by
    obtain ⟨rfl, rfl, rfl⟩ := trodAll_nil h
    rfl
  | t :: ts, vs, ds, ps, h => by
    obtain ⟨v, vs', d, ds', p, q, rfl, rfl, rfl, h1, h2⟩ := trodAll_cons h
    simp [trodAll_len ts _ _ _ h2]

theorem trodAll_stays (hl : laidOutB P = true) {W' : World} {sp : Nat → Bool} : ∀ (ts : List Nat) (vs : List Value) (ds : List (DataW H)) (ps : List MemPlace), (∀ t ∈ ts, P.readableRec t = true ∧ t < P.types.size) → (∀ p ∈ ps, W.sameAt W' p) → (∀ p ∈ ps, sp p.block = true) →
    DataW.TrodAll enc P W 0 (fun _ => true) true ts vs ds ps → DataW.TrodAll enc P W' 0 sp true ts vs ds ps
  | [], vs, ds, ps, _, _, _, h => by
    obtain ⟨rfl, rfl, rfl⟩ := trodAll_nil h
    exact rfl
  | t :: ts, vs, ds, ps, hr, hs, hsp, h => by
    obtain ⟨v, vs', d, ds', p, q, rfl, rfl, rfl, h1, h2⟩ := trodAll_cons h
    exact ⟨p, q, WideElems.Trod_stays hl (hr t (by simp)).1 (hr t (by simp)).2 h1 (fun x hx => hs x (by simp [hx])) (fun x hx => hsp x (by simp [hx])),
      trodAll_stays hl ts vs' ds' q (fun t ht => hr t (by simp [ht])) (fun x hx => hs x (by simp [hx])) (fun x hx => hsp x (by simp [hx])) h2, rfl⟩
end

/-- A LAW's ROW: from the contract that it tells true whatever the content. -/
theorem law_contract (hL : LOk P L) (hl : laidOutB P = true) {fn : Func} {f : Nat} {s : ChangeSpec} {ts : List Nat} {tb : Nat} {apart fresh handsOn again : Bool} (hts : fn.params.toList = ts) (hres : fn.resultTypes = #[tb]) (hb : P.underlying tb = some .bool) (hvars : s.vars = [])
    (hfn : ∀ (H : Type) (ds : List (DataW H)), ds.length = ts.length → s.fn H ds = { results := [.lit (.bool true)], args := ds }) (hread : ts.all (fun t => P.readableRec t && decide (t < P.types.size) && dataTy L 9 t) = true)
    (h : ∀ xs : List AVal, typedAll L ts xs → ACall P f xs [] fun r _ => r = .bool true)
    (H : Type) (enc : TypeId × Value → H) (W : World) (base : Nat) (args : Array Value) (ds gs : List (DataW H)) (before : List MemPlace)
    (hval : ∀ (j : Nat) t v, fn.params[j]? = some t → args[j]? = some v → Value.okWide P W .any base t v) (hW : DataW.Whole enc P fn.params.toList s.vars false W args.toList ds gs before) (hap : apart = false) (hT : GlobIn W) :
    Calls P f args W fun e W' => ∃ v, e = .returned v ∧ s.post enc P fn apart fresh handsOn again W args v W' := by
  subst hap
  have hW' := hW
  obtain ⟨p, q, hA, hV, hps, hfz, hnd⟩ := hW
  rw [hvars] at hV
  obtain ⟨rfl, rfl⟩ : gs = [] ∧ q = [] := by
    cases gs with
    | nil => exact ⟨rfl, hV⟩
    | cons => exact hV.elim
  simp only [List.append_nil] at hps
  subst hps
  have hr : ∀ t ∈ ts, (P.readableRec t = true ∧ t < P.types.size) ∧ dataTy L 9 t = true := by
    intro t ht
    have := List.all_eq_true.1 hread t ht
    simpa using this
  have hA' := hA
  rw [hts] at hA'
  have hlen := trodAll_len ts _ _ _ hA'
  obtain ⟨xs, h1, h2, h3⟩ := args_rep hL ts args.toList ds before (fun t ht => (hr t ht).2) (fun j t v hj hv => hval j t v (by rw [← hj, ← hts]; simp) (by rw [← hv]; simp)) hA'
  refine ((h xs h1).calls (baseG W) W args (baseG_wok hT) sto_nil ⟨by simpa using h2, fun j x hx => ?_⟩).mono fun e W' p => ?_
  · have := (h3 j x hx).up
    simpa [List.getD] using this
  · obtain ⟨G', cr, r, sto', rfl, hx', hw', _, hrep, rfl⟩ := p
    have hg := base_grown hx' hw'
    cases hrep
    have hsame : ∀ x ∈ before, W.sameAt W' x := by
      intro x hx
      have hlt := hW'.lt x hx
      have hold : W'.heap[x.block]? = W.heap[x.block]? := by
        have h1 : (baseG W).F x.block = some W.heap[x.block] := Array.getElem?_eq_getElem hlt
        have hlt' := hlt
        rw [hw'.F _ _ (hx'.F _ _ h1), Array.getElem?_eq_getElem hlt]
      cases x with
      | cell b off => simp only [World.sameAt, World.cell?]; simp only [MemPlace.block] at hold; rw [hold]
      | map b => exact hold
    refine ⟨_, rfl, post_old (pa := before) (pv := []) hW' (fun _ _ _ => ?_) (fun sp hsp => ?_) (fun _ _ => ?_) (by simp) (World.keptBut_mono (fun _ h => h.elim) hg.1) hg.2 (ok_one hres rfl (okWide_bool_mk hb true))⟩
    · rw [hfn H _ (by simpa using hlen), hres]
      exact trodAll_cons_mk (shut_bool hb true) trodAll_mk0
    · rw [hfn H _ (by simpa using hlen), hts]
      simp only [List.append_nil]
      exact trodAll_stays hl ts _ _ _ (fun t ht => (hr t ht).1) hsame hsp hA'
    · rw [hfn H _ (by simpa using hlen), hvars]; exact rfl
end Go.Rad
/- What an argument of a type is, by content. -/
namespace Go.Rad
open Go
theorem list_of {α : Type} {F : α → List AVal} {P : α → Prop} : ∀ {l : List (List AVal)}, (∀ y ∈ l, ∃ a, y = F a ∧ P a) → ∃ bs : List α, l = bs.map F ∧ ∀ a ∈ bs, P a
  | [], _ => ⟨[], rfl, fun a h => by simp at h⟩
  | y :: l, h => by
    obtain ⟨a, rfl, ha⟩ := h y (by simp)
    obtain ⟨bs, rfl, has⟩ := list_of (l := l) fun y hy => h y (by simp [hy])
    refine ⟨a :: bs, rfl, fun b hb => ?_⟩
    rcases List.mem_cons.1 hb with rfl | hb
    · exact ha
    · exact has b hb
section
variable {L : Lay} {k t : Nat} {y : List AVal}
theorem ty_int {i : IntKind} (ht : (L t).ty = .int i) (h : typed L (k + 1) t y) : ∃ n, y = [.int i n] ∧ fits i n := by
  unfold typed at h; rw [ht] at h; exact h
theorem ty_bool (ht : (L t).ty = .bool) (h : typed L (k + 1) t y) : ∃ b, y = [.bool b] := by
  unfold typed at h; rw [ht] at h; exact h
theorem ty_str (ht : (L t).ty = .string) (h : typed L (k + 1) t y) : ∃ s : ByteArray, y = [.str s] ∧ s.size ≤ maxLen := by
  unfold typed at h; rw [ht] at h; exact h
theorem ty_slice {e : Nat} (ht : (L t).ty = .slice e) (h : typed L (k + 1) t y) : ∃ l : List (List AVal), y = [.sl true false l] ∧ l.length ≤ maxLen ∧ ∀ x ∈ l, typed L k e x := by
  unfold typed at h; rw [ht] at h; exact h
theorem ty_struct {fs : List (Nat × Nat)} (ht : (L t).ty = .struct fs) (h : typed L (k + 1) t y) : typedL (typed L k) fs y := by
  unfold typed at h; rw [ht] at h; exact h
theorem ty_array {n e : Nat} (ht : (L t).ty = .array n e) (h : typed L (k + 1) t y) : typedN (typed L k e) n y := by
  unfold typed at h; rw [ht] at h; exact h
theorem ty_ints {e : Nat} (ht : (L t).ty = .slice e) (he : (L e).ty = .int .i64) (h : typed L (k + 2) t y) : ∃ l : List Int, y = [.sl true false (ints l)] ∧ l.length ≤ maxLen := by
  obtain ⟨l, rfl, hl, hx⟩ := ty_slice ht h
  obtain ⟨ns, rfl, _⟩ := list_of (F := fun n => [AVal.int .i64 n]) (P := fun _ => True) fun x hx' => by
    obtain ⟨n, rfl, _⟩ := ty_int he (hx x hx')
    exact ⟨n, rfl, trivial⟩
  exact ⟨ns, rfl, by simpa using hl⟩
theorem ty_set {e : Nat} (ht : (L t).ty = .array 4 e) (he : (L e).ty = .int .u64) (h : typed L (k + 2) t y) : ∃ s : ISet, y = s.cells := by
  have h := ty_array ht h
  obtain ⟨x1, r1, rfl, h1, x2, r2, rfl, h2, x3, r3, rfl, h3, x4, r4, rfl, h4, rfl⟩ := h
  obtain ⟨a, rfl, _⟩ := ty_int he h1
  obtain ⟨b, rfl, _⟩ := ty_int he h2
  obtain ⟨c, rfl, _⟩ := ty_int he h3
  obtain ⟨d, rfl, _⟩ := ty_int he h4
  exact ⟨⟨a, b, c, d⟩, rfl⟩
/-- The types of a node's parts. -/
structure NodeTy (L : Lay) (t : Nat) : Prop where
  ex : ∃ o st l i s w : Nat, (L t).ty = .struct [(0, o), (1, st), (5, l), (6, i), (7, i), (8, s)] ∧ (L o).ty = .int .u8 ∧ (L st).ty = .array 4 w ∧ (L w).ty = .int .u64 ∧ (L l).ty = .slice i ∧ (L i).ty = .int .i64 ∧ (L s).ty = .string
theorem ty_node (hn : NodeTy L t) (h : typed L (k + 3) t y) : ∃ n : Node, y = n.cells ∧ n.name.size ≤ maxLen ∧ n.l.length ≤ maxLen := by
  obtain ⟨o, st, l, i, s, w, h1, h2, h3, h4, h5, h6, h7⟩ := hn.ex
  have h := ty_struct h1 h
  obtain ⟨x1, r1, rfl, p1, x2, r2, rfl, p2, x3, r3, rfl, p3, x4, r4, rfl, p4, x5, r5, rfl, p5, x6, r6, rfl, p6, rfl⟩ := h
  obtain ⟨no, rfl, _⟩ := ty_int h2 p1
  obtain ⟨ns, rfl⟩ := ty_set h3 h4 p2
  obtain ⟨nl, rfl, hl⟩ := ty_ints h5 h6 p3
  obtain ⟨nlo, rfl, _⟩ := ty_int h6 p4
  obtain ⟨nhi, rfl, _⟩ := ty_int h6 p5
  obtain ⟨nn, rfl, hs⟩ := ty_str h7 p6
  exact ⟨⟨no, ns, nl, nlo, nhi, nn⟩, rfl, hs, hl⟩
theorem ty_nodes {e : Nat} (ht : (L t).ty = .slice e) (hn : NodeTy L e) (h : typed L (k + 4) t y) : ∃ l : List Node, y = [.sl true false (nodes l)] ∧ l.length ≤ maxLen ∧ ∀ n ∈ l, n.name.size ≤ maxLen ∧ n.l.length ≤ maxLen := by
  obtain ⟨l, rfl, hl, hx⟩ := ty_slice ht h
  obtain ⟨ns, rfl, hns⟩ := list_of (F := Node.cells) (P := fun n => n.name.size ≤ maxLen ∧ n.l.length ≤ maxLen) fun x hx' => ty_node hn (hx x hx')
  exact ⟨ns, rfl, by simpa using hl, hns⟩
structure DefTy (L : Lay) (t : Nat) : Prop where
  ex : ∃ s l n : Nat, (L t).ty = .struct [(0, s), (1, l)] ∧ (L s).ty = .string ∧ (L l).ty = .slice n ∧ NodeTy L n
theorem ty_defs {e : Nat} (ht : (L t).ty = .slice e) (hn : DefTy L e) (h : typed L (k + 6) t y) : ∃ l : List Df, y = [.sl true false (defs l)] ∧ l.length ≤ maxLen ∧ ∀ d ∈ l, d.name.size ≤ maxLen ∧ d.l.length ≤ maxLen ∧ ∀ n ∈ d.l, n.name.size ≤ maxLen ∧ n.l.length ≤ maxLen := by
  obtain ⟨s, ln, n, h1, h2, h3, h4⟩ := hn.ex
  obtain ⟨l, rfl, hl, hx⟩ := ty_slice ht h
  obtain ⟨ds, rfl, hds⟩ := list_of (F := Df.cells) (P := fun d => d.name.size ≤ maxLen ∧ d.l.length ≤ maxLen ∧ ∀ n ∈ d.l, n.name.size ≤ maxLen ∧ n.l.length ≤ maxLen) fun x hx' => by
    have h := ty_struct h1 (hx x hx')
    obtain ⟨x1, r1, rfl, p1, x2, r2, rfl, p2, rfl⟩ := h
    obtain ⟨nn, rfl, hs⟩ := ty_str h2 p1
    obtain ⟨dl, rfl, hd1, hd2⟩ := ty_nodes h3 h4 p2
    exact ⟨⟨nn, dl⟩, rfl, hs, hd1, hd2⟩
  exact ⟨ds, rfl, by simpa using hl, hds⟩
theorem ty_one (ha : (L t).ag = false) {x : AVal} (h : typedP L t x) : typed L 9 t [x] := by
  unfold typedP at h; rw [ha] at h; exact h
end
end Go.Rad
/- What the last texts of layer 8 share. -/
namespace Go.Rad
open Go Go.Proofs
theorem nodeT : NodeTy LL 41 := ⟨5, 39, 23, 3, 9, 37, rfl, rfl, rfl, rfl, rfl, rfl, rfl⟩
theorem ownF : ownKnob Tryz.prog.godebug = none := by kernel_rfl
theorem laidF : laidOutB Tryz.prog = true := by kernel_rfl
abbrev kks (i : IntKind) (l : List Int) : List (List AVal) := l.map fun n => [.int i n]
theorem ty_ks {L : Lay} {k t e : Nat} {y : List AVal} {i : IntKind} (ht : (L t).ty = .slice e) (he : (L e).ty = .int i) (h : typed L (k + 2) t y) : ∃ l : List Int, y = [.sl true false (kks i l)] ∧ l.length ≤ maxLen ∧ ∀ n ∈ l, fits i n := by
  obtain ⟨l, rfl, hl, hx⟩ := ty_slice ht h
  obtain ⟨ns, rfl, hf⟩ := list_of (F := fun n => [AVal.int i n]) (P := fun n => fits i n) fun x hx' => by
    obtain ⟨n, rfl, hf⟩ := ty_int he (hx x hx')
    exact ⟨n, rfl, hf⟩
  exact ⟨ns, rfl, by simpa using hl, hf⟩
end Go.Rad
/- Sets by bits, as the program's own package has them. -/
namespace Go.Rad
open Go

/-- A call's arguments are what their kinds hold. -/
theorem ACall.fit {P : Program} {f : Nat} {args : List AVal} {sto : Sto} {R : AVal → Sto → Prop} (i j : Nat) {cs : List AVal} {k : IntKind} {n : Int} (able : Callable P f) (hi : args[i]? = some (.agg cs)) (hj : cs[j]? = some (.int k n)) (h : fits k n → ACall P f args sto R) : ACall P f args sto R := by
  refine ⟨able, fun G w cargs hw hs ha => ?_⟩
  have hr := ha.2 i _ hi
  generalize cargs.getD i undef = v at hr
  cases hr with
  | agg a b c =>
    have h2 := c j _ hj
    generalize Array.getD _ j undef = u at h2
    cases h2 with
    | int hf => exact (h hf).calls G w cargs hw hs ha
theorem ACall.fitI {P : Program} {f : Nat} {args : List AVal} {sto : Sto} {R : AVal → Sto → Prop} (i : Nat) {k : IntKind} {n : Int} (able : Callable P f) (hi : args[i]? = some (.int k n)) (h : fits k n → ACall P f args sto R) : ACall P f args sto R := by
  refine ⟨able, fun G w cargs hw hs ha => ?_⟩
  have hr := ha.2 i _ hi
  generalize cargs.getD i undef = v at hr
  cases hr with
  | int hf => exact (h hf).calls G w cargs hw hs ha
theorem fit64 {n : Int} (h : fits .u64 n) : ∃ m : Nat, n = m ∧ m < 18446744073709551616 := by
  have m1 : IntKind.u64.min = 0 := by kernel_rfl
  have m2 : IntKind.u64.max = 18446744073709551615 := by kernel_rfl
  obtain ⟨a, b⟩ := h
  rw [m1] at a
  rw [m2] at b
  exact ⟨n.toNat, by omega, by omega⟩
theorem able_of {P : Program} {f : Nat} {fn : Func} (hf : P.funcs[f]? = some fn) (hn : (fn.name == "runtime.NumGoroutine") = false) (hb : fn.body.isNone = false) : Callable P f := ⟨fn, hf, hn, hb⟩

theorem bits_and {a b : Nat} (ha : a < 18446744073709551616) (hb : b < 18446744073709551616) : bitsOf .and .u64 a b = ((a &&& b : Nat) : Int) := by
  have h1 : (BitVec.ofInt IntKind.u64.bits (a : Int)).toNat = a := by
    simp only [IntKind.bits, BitVec.toNat_ofInt]; omega
  have h2 : (BitVec.ofInt IntKind.u64.bits (b : Int)).toNat = b := by
    simp only [IntKind.bits, BitVec.toNat_ofInt]; omega
  simp only [bitsOf, BitVec.toNat_and, h1, h2]
  have : a &&& b ≤ a := Nat.and_le_left
  exact wr_u64 (by omega) (by omega)
theorem bits_or {a b : Nat} (ha : a < 18446744073709551616) (hb : b < 18446744073709551616) : bitsOf .or .u64 a b = ((a ||| b : Nat) : Int) := by
  have h1 : (BitVec.ofInt IntKind.u64.bits (a : Int)).toNat = a := by
    simp only [IntKind.bits, BitVec.toNat_ofInt]; omega
  have h2 : (BitVec.ofInt IntKind.u64.bits (b : Int)).toNat = b := by
    simp only [IntKind.bits, BitVec.toNat_ofInt]; omega
  simp only [bitsOf, BitVec.toNat_or, h1, h2]
  have : a ||| b < 2 ^ 64 := Nat.or_lt_two_pow (by simpa using ha) (by simpa using hb)
  exact wr_u64 (by omega) (by omega)

/-- Words of a set, as naturals. -/
structure NSet where
  a : Nat
  b : Nat
  c : Nat
  d : Nat
  deriving DecidableEq
abbrev NSet.I (s : NSet) : ISet := ⟨s.a, s.b, s.c, s.d⟩
def NSet.ok (s : NSet) : Prop := s.a < 18446744073709551616 ∧ s.b < 18446744073709551616 ∧ s.c < 18446744073709551616 ∧ s.d < 18446744073709551616
def NSet.or (s t : NSet) : NSet := ⟨s.a ||| t.a, s.b ||| t.b, s.c ||| t.c, s.d ||| t.d⟩
def NSet.and (s t : NSet) : NSet := ⟨s.a &&& t.a, s.b &&& t.b, s.c &&& t.c, s.d &&& t.d⟩
def nzero : NSet := ⟨0, 0, 0, 0⟩
def nfull : NSet := ⟨18446744073709551615, 18446744073709551615, 18446744073709551615, 18446744073709551615⟩
def NSet.word (s : NSet) (i : Nat) : Nat := match i with | 0 => s.a | 1 => s.b | 2 => s.c | _ => s.d
/-- One byte more. -/
def NSet.add (s : NSet) (n : Nat) : NSet :=
  match n / 64 with
  | 0 => { s with a := s.a ||| 2 ^ (n % 64) }
  | 1 => { s with b := s.b ||| 2 ^ (n % 64) }
  | 2 => { s with c := s.c ||| 2 ^ (n % 64) }
  | _ => { s with d := s.d ||| 2 ^ (n % 64) }
def ofS (l : List Nat) : NSet := l.foldl NSet.add nzero
def rangeS (lo hi : Nat) : NSet := (List.range (hi + 1 - lo)).foldl (fun s i => s.add (lo + i)) nzero
theorem add_ok {s : NSet} {n : Nat} (h : s.ok) : (s.add n).ok := by
  have hb : 2 ^ (n % 64) < 18446744073709551616 := by
    have : 2 ^ (n % 64) < 2 ^ 64 := Nat.pow_lt_pow_right (by decide) (Nat.mod_lt _ (by decide))
    simpa using this
  have ho : ∀ x : Nat, x < 18446744073709551616 → x ||| 2 ^ (n % 64) < 18446744073709551616 := by
    intro x hx
    have : x ||| 2 ^ (n % 64) < 2 ^ 64 := Nat.or_lt_two_pow (by simpa using hx) (by simpa using hb)
    simpa using this
  obtain ⟨h1, h2, h3, h4⟩ := h
  unfold NSet.add
  split
  · exact ⟨ho _ h1, h2, h3, h4⟩
  · exact ⟨h1, ho _ h2, h3, h4⟩
  · exact ⟨h1, h2, ho _ h3, h4⟩
  · exact ⟨h1, h2, h3, ho _ h4⟩
theorem or_ok {s t : NSet} (h : s.ok) (k : t.ok) : (s.or t).ok := by
  have ho : ∀ x y : Nat, x < 18446744073709551616 → y < 18446744073709551616 → x ||| y < 18446744073709551616 := by
    intro x y hx hy
    have : x ||| y < 2 ^ 64 := Nat.or_lt_two_pow (by simpa using hx) (by simpa using hy)
    simpa using this
  exact ⟨ho _ _ h.1 k.1, ho _ _ h.2.1 k.2.1, ho _ _ h.2.2.1 k.2.2.1, ho _ _ h.2.2.2 k.2.2.2⟩
theorem and_ok {s t : NSet} (h : s.ok) : (s.and t).ok := by
  have ho : ∀ x y : Nat, x < 18446744073709551616 → x &&& y < 18446744073709551616 := fun x y hx => Nat.lt_of_le_of_lt Nat.and_le_left hx
  exact ⟨ho _ _ h.1, ho _ _ h.2.1, ho _ _ h.2.2.1, ho _ _ h.2.2.2⟩

theorem AGood.loopAt {P : Program} {f : Nat} {fn : Func} {df : List DDel} {k : List Item} {tm : Tm} {sto : Sto} {R : AVal → Sto → Prop} (id : Nat) {ops : Array Oper} {b : Bool} {r : Code} (h : AGood P f fn df (.code (.seq (.region id ops b) r) :: .inLoop (.seq (.region id ops b) r) :: k) tm sto R) : AGood P f fn df (.code (.loop (.seq (.region id ops b) r)) :: k) tm sto R := .loop h
theorem AGood.inLoopAt {P : Program} {f : Nat} {fn : Func} {df : List DDel} {k : List Item} {tm : Tm} {sto : Sto} {R : AVal → Sto → Prop} (id : Nat) {ops : Array Oper} {b : Bool} {r : Code} (h : AGood P f fn df (.code (.seq (.region id ops b) r) :: .inLoop (.seq (.region id ops b) r) :: k) tm sto R) : AGood P f fn df (.inLoop (.seq (.region id ops b) r) :: k) tm sto R := .inLoop h
abbrev nsets (l : List NSet) : List (List AVal) := l.map fun s => s.I.cells
end Go.Rad
