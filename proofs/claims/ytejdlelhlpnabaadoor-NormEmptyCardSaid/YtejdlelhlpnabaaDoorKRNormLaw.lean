/- The plain laws of names that stand for trees. -/
import Derived.Test.YtejdlelhlpnabaaDoorKC05a
import Derived.Test.YtejdlelhlpnabaaDoorKRDefer
set_option linter.all false
namespace Go.Rad
open Go

def plainN (n : Node) : Bool := decide (n.op ≠ 6)
def plainS (l : List Node) : Bool := l.all plainN && right4 l

theorem pre_get {a b : List Node} (h : a <+: b) (i : Nat) (n : Node) (hi : a[i]? = some n) : b[i]? = some n := by
  obtain ⟨t, rfl⟩ := h
  rw [List.getElem?_append_left (List.getElem?_eq_some_iff.1 hi).1]
  exact hi
theorem shape_name {n : Node} (h : shapeOk n = true) : n.name.size ≤ 32 := by
  have h0 : ByteArray.empty.size = 0 := rfl
  simp only [shapeOk] at h
  split at h
  · simp only [Bool.and_eq_true, Bool.not_eq_true', decide_eq_false_iff_not, Decidable.not_not] at h; rw [h.1.2, h0]; omega
  · split at h
    · simp only [Bool.and_eq_true, Bool.not_eq_true', decide_eq_false_iff_not, Decidable.not_not] at h; rw [h.1.2, h0]; omega
    · split at h
      · simp only [Bool.and_eq_true, Bool.not_eq_true', decide_eq_false_iff_not, Decidable.not_not] at h; rw [h.1.2, h0]; omega
      · split at h
        · simp only [Bool.and_eq_true, Bool.not_eq_true', decide_eq_false_iff_not, Decidable.not_not] at h; rw [h.1.1.1.2, h0]; omega
        · split at h
          · simp only [Bool.and_eq_true, nameOk, decide_eq_true_eq] at h; exact h.1.2.2
          · cases h
theorem rightS_bounds {l : List Node} (h : rightS l = true) : ∀ n ∈ l, n.name.size ≤ maxLen ∧ n.l.length ≤ maxLen := by
  intro n hn
  obtain ⟨_, hall, _, _⟩ := rightS_kids h
  have hs := shape_name (List.all_eq_true.1 hall n hn)
  obtain ⟨i, hi⟩ := List.mem_iff_getElem?.1 hn
  have := (rightS_ok h (fun n hn => by have := shape_name (List.all_eq_true.1 hall n hn); unfold maxLen; omega)).2 i n hi
  unfold maxLen
  omega

theorem shape_map {n : Node} {F : Int → Int} (h : shapeOk n = true) : shapeOk { n with l := n.l.map F } = true := by
  simp only [shapeOk, List.length_map] at h ⊢
  exact h

theorem atF_new {A : List Int} {v : Int} : atF (A ++ [v]) (A.length : Nat) = v := by
  simp [atF, List.getD]
theorem map_atF {A : List Int} {B : List Int} {l : List Int} (h : ∀ k ∈ l, 0 ≤ k ∧ k < (A.length : Int)) : l.map (atF (A ++ B)) = l.map (atF A) :=
  List.map_congr_left fun k hk => atF_app (h k hk).1 (h k hk).2

def okN (n : Node) : Prop := shapeOk n = true ∧ n.op ≠ 6
/-- What a name's tree is: behind what is there, one tree more, of fit nodes. -/
def NmOk (nm : ByteArray → List Node → Out) : Prop := ∀ s out o2 v, (∀ n ∈ out, okN n) → nm s out = (o2, v, 0) → out <+: o2 ∧ (∀ n ∈ o2, okN n) ∧ Kids o2 out.length [v] o2.length

theorem goT_kids {nm : ByteArray → List Node → Out} (hnm : NmOk nm) : ∀ (ns : List Node) (i : Nat) (st st' : List Int) (A : List Int) (out : List Node) (b : Nat) (o2 : List Node) (v : Int),
    stkS ns i st = some st' → A.length = i → (∀ k ∈ st, 0 ≤ k ∧ k < (i : Int)) → Kids out b (st.map (atF A)) out.length → (∀ n ∈ out, okN n) → goT nm ns A out = (o2, v, 0) →
    out <+: o2 ∧ (∀ n ∈ o2, okN n) ∧ ∃ A2, A2.length = i + ns.length ∧ v = A2.getLastD 0 ∧ (∀ k ∈ st', 0 ≤ k ∧ k < ((i + ns.length : Nat) : Int)) ∧ Kids o2 b (st'.map (atF A2)) o2.length
  | [], i, st, st', A, out, b, o2, v, hst, hA, hk, hkid, hok, h => by
    simp only [stkS, Option.some.injEq] at hst
    simp only [goT, Prod.mk.injEq] at h
    obtain ⟨rfl, rfl, _⟩ := h
    subst hst
    exact ⟨List.prefix_rfl, hok, A, by simpa using hA, rfl, by simpa using hk, hkid⟩
  | n :: ns, i, st, st', A, out, b, o2, v, hst, hA, hk, hkid, hok, h => by
    simp only [stkS] at hst
    split at hst
    · rename_i hc
      obtain ⟨hsh, hle, hdr⟩ := hc
      rw [goT] at h
      split at h
      · rename_i he
        rcases hs : stepT nm n A out with ⟨u, w, e⟩
        rw [hs] at h he
        simp only at h he
        subst he
        have e1 : st = st.take (st.length - n.l.length) ++ n.l := by
          conv => lhs; rw [← List.take_append_drop (st.length - n.l.length) st]
          rw [hdr]
        have hk1 : ∀ k ∈ st.take (st.length - n.l.length), 0 ≤ k ∧ k < (A.length : Int) := fun k hk2 => by have := hk k (List.mem_of_mem_take hk2); omega
        -- the state behind this node
        have hnew : out <+: u ∧ (∀ n ∈ u, okN n) ∧ Kids u b ((st.take (st.length - n.l.length)).map (atF A) ++ [w]) u.length := by
          rw [e1, List.map_append] at hkid
          obtain ⟨m, q1, q2⟩ := hkid.split
          unfold stepT at hs
          split at hs
          · rename_i h6
            have hl0 : n.l = [] := by
              simp only [shapeOk, h6] at hsh
              simp only [show ¬ (6 : Int) = 1 by decide, show ¬ (6 : Int) = 2 by decide, show ¬ ((6 : Int) = 3 ∨ (6 : Int) = 4) by decide, show ¬ (6 : Int) = 5 by decide, if_false, if_true, Bool.and_eq_true, decide_eq_true_eq] at hsh
              exact List.eq_nil_of_length_eq_zero hsh.2
            obtain ⟨r1, r3, r2⟩ := hnm _ _ _ _ hok hs
            rw [hl0, List.map_nil] at q2
            cases q2
            exact ⟨r1, r3, (q1.mono (pre_get r1)).append r2⟩
          · rename_i h6
            unfold putS at hs
            split at hs
            · simp at hs
            · simp only [Prod.mk.injEq] at hs
              obtain ⟨rfl, rfl, _⟩ := hs
              have hp : out <+: out ++ [{ n with l := n.l.map (atF A) }] := List.prefix_append _ _
              refine ⟨hp, fun x hx => ?_, ?_⟩
              · rcases List.mem_append.1 hx with hx | hx
                · exact hok x hx
                · simp only [List.mem_singleton] at hx
                  subst hx
                  exact ⟨shape_map hsh, h6⟩
              · refine (q1.mono (pre_get hp)).append ?_
                have hc : Kids (out ++ [{ n with l := n.l.map (atF A) }]) m [((out.length : Nat) : Int)] (out.length + 1) := .cons (n := { n with l := n.l.map (atF A) }) (by simp) (q2.mono (pre_get hp)) .nil
                simpa using hc
        obtain ⟨n1, n2, n3⟩ := hnew
        have e2 : (st.take (st.length - n.l.length) ++ [(i : Int)]).map (atF (A ++ [w])) = (st.take (st.length - n.l.length)).map (atF A) ++ [w] := by
          rw [List.map_append, map_atF hk1, List.map_cons, List.map_nil, ← hA, atF_new]
        obtain ⟨p1, p2, A2, p3, p4, p5, p6⟩ := goT_kids hnm ns (i + 1) _ st' (A ++ [w]) u b o2 v hst (by simp [hA]) (fun k hk2 => by
          rcases List.mem_append.1 hk2 with hk2 | hk2
          · have := hk k (List.mem_of_mem_take hk2); omega
          · simp only [List.mem_singleton] at hk2; omega) (by rw [e2]; exact n3) n2 h
        refine ⟨n1.trans p1, p2, A2, by rw [p3]; simp; omega, p4, fun k hk2 => ?_, p6⟩
        have := p5 k hk2
        simp only [List.length_cons]; omega
      · rename_i he
        simp only [Prod.mk.injEq] at h
        exact absurd h.2.2 he
    · cases hst

theorem goT_tree {nm : ByteArray → List Node → Out} (hnm : NmOk nm) {l : List Node} (hl : rightS l = true) {out o2 : List Node} {v : Int} (hok : ∀ n ∈ out, okN n) (h : goT nm l [] out = (o2, v, 0)) : out <+: o2 ∧ (∀ n ∈ o2, okN n) ∧ Kids o2 out.length [v] o2.length := by
  obtain ⟨hkl, _, h1, h2⟩ := rightS_kids hl
  simp only [rightS, Bool.and_eq_true] at hl
  obtain ⟨_, h3⟩ := hl
  split at h3
  · rename_i st hst
    obtain ⟨p1, p2, A2, p3, p4, p5, p6⟩ := goT_kids hnm l 0 [] st [] out out.length o2 v hst rfl (fun k hk => by simp at hk) (by rw [List.map_nil]; exact .nil) hok h
    have hk := stk_kids l l 0 [] st rfl hst .nil
    rw [Nat.zero_add] at hk
    simp only [decide_eq_true_eq] at h3
    match st, h3, hk, p6 with
    | [k], _, hk, p6 =>
      have e := hk.one.1
      refine ⟨p1, p2, ?_⟩
      rw [List.map_cons, List.map_nil] at p6
      have : atF A2 k = v := by
        rw [p4, e]
        obtain ⟨m, hm⟩ : ∃ m, l.length = m + 1 := ⟨l.length - 1, by omega⟩
        rw [hm, List.getLastD_eq_getLast?, List.getLast?_eq_getElem?, p3, hm]
        simp [atF, List.getD]
      rw [this] at p6
      exact p6
  · cases h3

theorem nameT_ok {ds : List Df} (hds : ∀ d ∈ ds, rightS d.l = true) : ∀ (f : Nat) (op : List ByteArray), NmOk (nameT ds f op) := by
  intro f
  induction f with
  | zero => intro op s out o2 v _ h; simp [nameT] at h
  | succ f ih =>
    intro op s out o2 v hok h
    rw [nameT] at h
    split at h
    · simp at h
    · rename_i d hf
      split at h
      · simp at h
      · exact goT_tree (ih _) (hds d (List.mem_of_find?_eq_some hf)) hok h

theorem goT_plain {nm : ByteArray → List Node → Out} {l : List Node} (hp : ∀ n ∈ l, n.op ≠ 6) (hlen : l.length ≤ 1024) (hk : ∀ (i : Nat) (n : Node), l[i]? = some n → ∀ k ∈ n.l, 0 ≤ k ∧ k < (i : Int)) :
    ∀ (r i : Nat), i + r = l.length → goT nm (l.drop i) (rg i) (l.take i) = (l, (rg l.length).getLastD 0, 0)
  | 0, i, h => by
    have : i = l.length := by omega
    subst this
    simp [goT]
  | r + 1, i, h => by
    have hlt : i < l.length := by omega
    have hx : l[i]? = some l[i] := List.getElem?_eq_getElem hlt
    have hmap : l[i].l.map (atF (rg i)) = l[i].l := by
      conv => rhs; rw [← List.map_id l[i].l]
      refine List.map_congr_left fun k hk2 => ?_
      have := hk i _ hx k hk2
      obtain ⟨m, rfl⟩ : ∃ m : Nat, k = m := ⟨k.toNat, by omega⟩
      have hm : m < i := by omega
      simp [atF, List.getD, List.getElem?_range, hm]
    have hs : stepT nm l[i] (rg i) (l.take i) = (l.take (i + 1), (i : Int), 0) := by
      rw [stepT, if_neg (hp _ (List.getElem_mem hlt)), putS, if_neg (by simp; omega), hmap, take_one hx]
      have e : (l.take i).length = i := by rw [List.length_take]; omega
      rw [e]
    rw [List.drop_eq_getElem_cons hlt, goT, hs]
    simp only [if_true]
    rw [← rg_succ]
    exact goT_plain hp hlen hk r (i + 1) (by omega)

theorem expand_plain {l : List Node} {ds : List Df} (hp : ∀ n ∈ l, n.op ≠ 6) (hr : rightS l = true) (hd : rightD [] ds = true) : expandS l ds = (l, 0) := by
  have hn := fun n hn => (rightS_bounds hr n hn).1
  have ht := rightS_ok hr hn
  obtain ⟨_, _, h1, h2⟩ := rightS_kids hr
  have := goT_plain (nm := nameT ds (ds.length + 1) []) hp h2 (fun i n hi => (ht.2 i n hi).2.2) l.length 0 (by omega)
  simp only [List.drop_zero, List.take_zero] at this
  rw [show rg 0 = [] from rfl] at this
  rw [expandS, if_pos ⟨hr, hd⟩, this]
  simp

theorem expand_ok {l : List Node} {ds : List Df} {x : List Node} (h : expandS l ds = (x, 0)) : rightS l = true ∧ rightD [] ds = true ∧ rightS x = true ∧ ∀ n ∈ x, okN n := by
  rw [expandS] at h
  split at h
  · rename_i hc
    split at h
    · rename_i he
      simp only [Prod.mk.injEq, and_true] at h
      rcases hg : goT (nameT ds (ds.length + 1) []) l [] [] with ⟨o2, v, e⟩
      rw [hg] at he h
      simp only at he h
      subst he h
      obtain ⟨hf1, _⟩ := rightD_facts ds [] hc.2
      obtain ⟨p1, p2, p3⟩ := goT_tree (nameT_ok (fun d hd => (hf1 d hd).2.2) (ds.length + 1) []) hc.1 (by simp) hg
      have hlen := goT_len (nm := nameT ds (ds.length + 1) []) (fun s out h => nameT_len ds _ _ s out h) l [] [] (by simp)
      rw [hg] at hlen
      exact ⟨hc.1, hc.2, kids_rightS p3 (List.all_eq_true.2 fun n hn => (p2 n hn).1) hlen, p2⟩
    · rename_i he
      simp only [Prod.mk.injEq] at h
      exact absurd h.2 he
  · simp at h
theorem expand_no {l : List Node} {ds : List Df} (h : (expandS l ds).2 ≠ 0) : (expandS l ds).1 = [] := by
  rw [expandS] at h ⊢
  split
  · rename_i hc
    rw [if_pos hc] at h
    split
    · rename_i he; rw [if_pos he] at h; exact absurd rfl h
    · rfl
  · rfl

theorem law_plain {l : List Node} {ds : List Df} {x : List Node} (h : expandS l ds = (x, 0)) : plainS x = true ∧ expandS x [] = (x, 0) ∧ expandS x ds = (x, 0) ∧ (plainS l = true → x = l) := by
  obtain ⟨h1, h2, h3, h4⟩ := expand_ok h
  refine ⟨?_, expand_plain (fun n hn => (h4 n hn).2) h3 rfl, expand_plain (fun n hn => (h4 n hn).2) h3 h2, fun hp => ?_⟩
  · simp only [plainS, Bool.and_eq_true, List.all_eq_true]
    exact ⟨fun n hn => decide_eq_true (h4 n hn).2, by rw [← right_eq]; exact h3⟩
  · simp only [plainS, Bool.and_eq_true, List.all_eq_true] at hp
    have := expand_plain (ds := ds) (fun n hn => of_decide_eq_true (hp.1 n hn)) h1 h2
    rw [this] at h
    exact (Prod.mk.inj h).1.symm
end Go.Rad
/- Two trees, one behind the other, and a node over both roots, or over one. -/
namespace Go.Rad
open Go
def shN (d : Nat) (n : Node) : Node := { n with l := n.l.map fun k => k + d }
theorem shN_shape (d : Nat) (n : Node) : shapeOk (shN d n) = shapeOk n := by
  have h : (shN d n).l.length = n.l.length := by simp [shN]
  unfold shapeOk; rw [h]; rfl
theorem Kids.shift {ns ms : List Node} {d : Nat} (hm : ∀ (i : Nat) (n : Node), ns[i]? = some n → ms[i + d]? = some (shN d n)) {lo hi : Nat} {l : List Int} (h : Kids ns lo l hi) : Kids ms (lo + d) (l.map fun k => k + d) (hi + d) := by
  induction h with
  | nil => exact .nil
  | @cons lo k hi n l h1 _ _ a b =>
    have e : ((k : Int) + d) = ((k + d : Nat) : Int) := by omega
    simp only [List.map_cons]
    rw [e]
    refine .cons (hm _ _ h1) a ?_
    have : k + d + 1 = k + 1 + d := by omega
    rw [this]; exact b
abbrev pairL (x y : List Node) : List Node := x ++ y.map (shN x.length)
theorem pair_get {x y : List Node} {n : Node} (i : Nat) : ∀ m, y[i]? = some m → (pairL x y ++ [n])[i + x.length]? = some (shN x.length m) := by
  intro m hm
  have hi := (List.getElem?_eq_some_iff.1 hm).1
  rw [List.append_assoc, List.getElem?_append_right (by omega), show i + x.length - x.length = i by omega, List.getElem?_append_left (by simpa using hi), List.getElem?_map, hm]; rfl
theorem pair_rightS {x y : List Node} (hx : rightS x = true) (hy : rightS y = true) {n : Node} (hn : shapeOk n = true) (hl : n.l = [(x.length : Int) - 1, ((x.length + y.length : Nat) : Int) - 1]) (hlen : x.length + y.length < 1024) : rightS (pairL x y ++ [n]) = true := by
  obtain ⟨k1, a1, b1, c1⟩ := rightS_kids hx
  obtain ⟨k2, a2, b2, c2⟩ := rightS_kids hy
  have hL : (pairL x y ++ [n]).length = x.length + y.length + 1 := by simp; omega
  refine kids_rightS (k := ((x.length + y.length : Nat) : Int)) ?_ ?_ (by rw [hL]; omega)
  · rw [hL]
    refine .cons (n := n) ?_ ?_ .nil
    · rw [List.getElem?_append_right (by simp)]; simp
    · rw [hl]
      have h1 : Kids (pairL x y ++ [n]) 0 [(x.length : Int) - 1] x.length := k1.mono fun i m hm => by
        have hi := (List.getElem?_eq_some_iff.1 hm).1
        rw [List.append_assoc, List.getElem?_append_left hi, hm]
      have h2 := k2.shift (ms := pairL x y ++ [n]) (d := x.length) fun i m hm => pair_get i m hm
      simp only [List.map_cons, List.map_nil, Nat.zero_add] at h2
      rw [show ((y.length : Int) - 1 + x.length) = ((x.length + y.length : Nat) : Int) - 1 by omega, show y.length + x.length = x.length + y.length by omega] at h2
      exact h1.append h2
  · simp only [List.all_append, List.all_cons, List.all_nil, Bool.and_true, Bool.and_eq_true, hn, a1, and_true, true_and, List.all_map]
    rw [List.all_eq_true] at a2 ⊢
    intro m hm
    simp only [Function.comp, shN_shape]
    exact a2 m hm
theorem wrap_rightS {x : List Node} (hx : rightS x = true) {n : Node} (hn : shapeOk n = true) (hl : n.l = [(x.length : Int) - 1]) (hlen : x.length < 1024) : rightS (x ++ [n]) = true := by
  obtain ⟨k1, a1, b1, c1⟩ := rightS_kids hx
  have hL : (x ++ [n]).length = x.length + 1 := by simp
  refine kids_rightS (k := (x.length : Int)) ?_ ?_ (by rw [hL]; omega)
  · rw [hL]
    refine .cons (n := n) ?_ ?_ .nil
    · rw [List.getElem?_append_right (Nat.le_refl _)]; simp
    · rw [hl]
      exact k1.mono fun i m hm => by
        have hi := (List.getElem?_eq_some_iff.1 hm).1
        rw [List.getElem?_append_left hi, hm]
  · simp [List.all_append, hn, a1]
end Go.Rad
/- What may be nothing, of trees beside each other. -/
namespace Go.Rad
open Go Go.Proofs
theorem getD_app {a b : List Bool} {k : Int} (hk : 0 ≤ k) : (a ++ b).getD (k + a.length).toNat false = b.getD k.toNat false := by
  rw [show (k + (a.length : Int)).toNat = a.length + k.toNat by omega, List.getD_eq_getElem?_getD, List.getElem?_append_right (by omega), List.getD_eq_getElem?_getD]
  congr 2; omega
theorem mayStep_sh {x : List Bool} {bs : List Bool} {n : Node} (h0 : ∀ k ∈ n.l, 0 ≤ k) (h5 : n.op = 5 → n.l ≠ []) : mayStep (x ++ bs) (shN x.length n) = mayStep bs n := by
  have e3 : ((shN x.length n).l.any fun k => !((x ++ bs).getD k.toNat false)) = n.l.any fun k => !(bs.getD k.toNat false) := by
    simp only [shN, List.any_map]
    rw [Bool.eq_iff_iff]; simp only [List.any_eq_true, Function.comp]
    exact ⟨fun ⟨k, a, b⟩ => ⟨k, a, by rwa [getD_app (h0 k a)] at b⟩, fun ⟨k, a, b⟩ => ⟨k, a, by rwa [getD_app (h0 k a)]⟩⟩
  have e4 : ((shN x.length n).l.any fun k => (x ++ bs).getD k.toNat false) = n.l.any fun k => bs.getD k.toNat false := by
    simp only [shN, List.any_map]
    rw [Bool.eq_iff_iff]; simp only [List.any_eq_true, Function.comp]
    exact ⟨fun ⟨k, a, b⟩ => ⟨k, a, by rwa [getD_app (h0 k a)] at b⟩, fun ⟨k, a, b⟩ => ⟨k, a, by rwa [getD_app (h0 k a)]⟩⟩
  unfold mayStep
  rw [e3, e4]
  by_cases e5 : n.op = 5
  · have hne := h5 e5
    have e6 : (x ++ bs).getD ((shN x.length n).l.headD 0).toNat false = bs.getD (n.l.headD 0).toNat false := by
      cases hl : n.l with
      | nil => exact absurd hl hne
      | cons k r =>
        simp only [shN, hl, List.map_cons, List.headD_cons]
        exact getD_app (h0 k (by simp [hl]))
    rw [e6]; rfl
  · have e6 : (shN x.length n).op ≠ 5 := e5
    simp only [e5, e6, if_false]; rfl
theorem mays_pair {x y : List Node} (hy : ∀ n ∈ y, (∀ k ∈ n.l, 0 ≤ k) ∧ (n.op = 5 → n.l ≠ [])) : mays (pairL x y) = mays x ++ mays y := by
  have key : ∀ (ys : List Node) (bs : List Bool), (∀ n ∈ ys, (∀ k ∈ n.l, 0 ≤ k) ∧ (n.op = 5 → n.l ≠ [])) → (ys.map (shN x.length)).foldl (fun bs n => bs ++ [mayStep bs n]) (mays x ++ bs) = mays x ++ ys.foldl (fun bs n => bs ++ [mayStep bs n]) bs := by
    intro ys
    induction ys with
    | nil => intro bs _; rfl
    | cons n ys ih =>
      intro bs h
      simp only [List.map_cons, List.foldl_cons]
      have h1 := h n (by simp)
      have h2 : mayStep (mays x ++ bs) (shN x.length n) = mayStep bs n := by
        have := mayStep_sh (x := mays x) (bs := bs) (n := n) h1.1 h1.2
        rwa [mays_len] at this
      rw [h2, List.append_assoc]
      exact ih _ fun m hm => h m (by simp [hm])
  unfold mays
  rw [List.foldl_append]
  have := key y [] hy
  rw [List.append_nil] at this
  exact this
theorem may_wf {y : List Node} (hy : rightS y = true) (hn : ∀ n ∈ y, n.name.size ≤ maxLen) : ∀ n ∈ y, (∀ k ∈ n.l, 0 ≤ k) ∧ (n.op = 5 → n.l ≠ []) := by
  intro n hn'
  have ht := rightS_ok hy hn
  obtain ⟨_, ha, _, _⟩ := rightS_kids hy
  obtain ⟨i, hi⟩ := List.mem_iff_getElem?.1 hn'
  refine ⟨fun k hk => ((ht.2 i n hi).2.2 k hk).1, fun h5 e => ?_⟩
  have := List.all_eq_true.1 ha n hn'
  simp [shapeOk, h5, e] at this
theorem nullS_last {x : List Node} {n : Node} (h : rightS (x ++ [n]) = true) : nullS (x ++ [n]) = mayStep (mays x) n := by
  rw [nullS, if_pos h, mays_snoc]; simp
theorem nullS_at {x : List Node} (h : rightS x = true) (ys : List Bool) : (mays x ++ ys).getD ((x.length : Int) - 1).toNat false = nullS x := by
  obtain ⟨_, _, b, _⟩ := rightS_kids h
  have hl := mays_len x
  rw [nullS, if_pos h, List.getD_eq_getElem?_getD, List.getElem?_append_left (by omega), show ((x.length : Int) - 1).toNat = (mays x).length - 1 by omega, ← List.getLast?_eq_getElem?]
  cases hm : mays x with
  | nil => rw [hm] at hl; simp at hl; omega
  | cons a r => simp [List.getLastD_eq_getLast?]
theorem nullS_at2 {x y : List Node} (h : rightS y = true) : (mays x ++ mays y).getD (((x.length + y.length : Nat) : Int) - 1).toNat false = nullS y := by
  obtain ⟨_, _, b, _⟩ := rightS_kids h
  have h1 := nullS_at h []
  rw [List.append_nil] at h1
  rw [← h1, show ((x.length + y.length : Nat) : Int) - 1 = ((y.length : Int) - 1) + ((mays x).length : Nat) by rw [mays_len]; omega]
  exact getD_app (by omega)
abbrev opN (op : Int) (l : List Int) (lo hi : Int) : Node := ⟨op, ISet.none, l, lo, hi, ByteArray.empty⟩
theorem null_cat {x y : List Node} (hx : rightS x = true) (hy : rightS y = true) (hn : ∀ n ∈ y, n.name.size ≤ maxLen) (hl : x.length + y.length < 1024) :
    nullS (pairL x y ++ [opN 3 [(x.length : Int) - 1, ((x.length + y.length : Nat) : Int) - 1] 0 0]) = (nullS x && nullS y) := by
  rw [nullS_last (pair_rightS hx hy (by simp [shapeOk]) rfl hl), mays_pair (may_wf hy hn)]
  simp only [mayStep, List.any_cons, List.any_nil, nullS_at hx, nullS_at2 hy]
  cases nullS x <;> cases nullS y <;> rfl
theorem null_alt {x y : List Node} (hx : rightS x = true) (hy : rightS y = true) (hn : ∀ n ∈ y, n.name.size ≤ maxLen) (hl : x.length + y.length < 1024) :
    nullS (pairL x y ++ [opN 4 [(x.length : Int) - 1, ((x.length + y.length : Nat) : Int) - 1] 0 0]) = (nullS x || nullS y) := by
  rw [nullS_last (pair_rightS hx hy (by simp [shapeOk]) rfl hl), mays_pair (may_wf hy hn)]
  simp only [mayStep, List.any_cons, List.any_nil, nullS_at hx, nullS_at2 hy]
  cases nullS x <;> cases nullS y <;> rfl
theorem null_rep {x : List Node} (hx : rightS x = true) (hl : x.length < 1024) : nullS (x ++ [opN 5 [(x.length : Int) - 1] 0 3]) = true := by
  rw [nullS_last (wrap_rightS hx (by simp [shapeOk]) rfl hl)]; rfl
theorem null_rep2 {x : List Node} (hx : rightS x = true) (hl : x.length < 1024) : nullS (x ++ [opN 5 [(x.length : Int) - 1] 2 (-1)]) = nullS x := by
  rw [nullS_last (wrap_rightS hx (by simp [shapeOk]) rfl hl)]
  have := nullS_at hx []
  rw [List.append_nil] at this
  simp only [mayStep, List.headD_cons, this]
  rfl
end Go.Rad
/- Contracts: norm: a node is put. -/
namespace Go.Rad
open Go Go.Proofs
set_option linter.all false
set_option maxRecDepth 20000
set_option maxHeartbeats 4000000

theorem clone_c (q f : Bool) (l : List Int) (hl : l.length ≤ 1000000) : ACall Tryd.prog 23 [.sl q f (ints l)] [] fun r s => (l = [] ∧ r = .sl true true [] ∧ s = []) ∨ (∃ h, r = .osl 5 h 0 l.length ∧ s = [(5, (h, .row 1 (ints l)))]) := by
  refine ACall.enter Tryd.func23 rfl (by kernel_rfl) (Nat.le_of_ble_eq_true rfl) ?_; simp only [initTm, Nat.reduceAdd]
  repeat' (first
  | refine gSq ?_ | refine gSk ?_ | refine gBl ?_ | refine gIb ?_ | refine gEx rfl ?_
  | ((first
  | (refine gRg [] [0, 2, 4] ?_; intro K hK)
  | (refine gd_split ?_ ?_ <;> intro hb <;> (try simp only [bls] at hb) <;> (try simp only [hb]))
  | refine gRt [5] [.tmp 2] rfl ?_ | refine gDn [5] [.tmp 2] rfl ?_) <;> (try simp only [go_sem, simprocAttr]))
  | (refine hK _ _ ?_; clear hK K; simp only [go_sem, simprocAttr])
  | refine gCd (by simp only [go_sem, simprocAttr]; rfl) rfl ?_
  | refine brT ?_ | refine brF ?_
  | (refine brS ?_ ?_ <;> intro hc <;> (try simp only [bls] at hc) <;> (try simp only [hc, bls]))
  | intro _ | refine And.intro ?_ ?_)
  all_goals first | omega | (unfold bigLen; omega) | exact ⟨_, _, ⟨rfl, rfl⟩, rfl⟩ | exact ⟨_, rfl⟩ | (rename_i hy; simp only [List.mem_singleton] at hy; subst hy; rfl) | skip
  · rename_i h; exact .inl (by simpa using h hc)
  · rename_i y hy; obtain ⟨k, _, rfl⟩ := List.mem_map.1 hy; rfl
  · rename_i y hy; obtain ⟨k, _, rfl⟩ := List.mem_map.1 hy; rfl
  · rename_i h; exact .inr ⟨h, by simp⟩

abbrev xbox (g2 g3 g1 n : Nat) : AObj := .box [.map 1002 g2, .map 1003 g3, .osl 1001 g1 0 n]
abbrev xsto (g g1 g2 g3 : Nat) (dm om : List (ByteArray × AVal)) (out : List Node) : Sto := [(1000, (g, xbox g2 g3 g1 out.length)), (1001, (g1, .row 9 (nodes out))), (1002, (g2, .mp dm)), (1003, (g3, .mp om))]
theorem put_c (n : Node) (q f : Bool) (A : List Int) (out : List Node) (g g1 g2 g3 : Nat) (dm om : List (ByteArray × AVal)) (hk : ∀ k ∈ n.l, 0 ≤ k ∧ k < A.length) (hn : n.l.length ≤ 1000000) (ho : out.length ≤ 1000000) :
    ACall Tryd.prog 46 [.bx 1000 g 0, .agg n.cells, .sl q f (ints A)] (xsto g g1 g2 g3 dm om out) fun r s => r = .tup [.int .i64 (putS n A out).2.1, .int .i64 (putS n A out).2.2] ∧ ∃ h1, s = xsto g h1 g2 g3 dm om (putS n A out).1 := by
  obtain ⟨xo, ⟨xa, xb, xc, xd⟩, xl, xlo, xhi, xn⟩ := n
  simp only at hk hn
  simp only [xsto, xbox, Node.cells, Node.cellsF]
  refine ACall.enter Tryd.func46 rfl (by kernel_rfl) (Nat.le_of_ble_eq_true rfl) ?_; simp only [initTm, Nat.reduceAdd]
  by_cases hlong : 1024 ≤ out.length
  · have e1 : (1024 : Int) ≤ out.length := by omega
    repeat' (first
  | refine gSq ?_ | refine gSk ?_ | refine gBl ?_ | refine gIb ?_ | refine gEx rfl ?_
  | ((first
  | (refine gRg [43] [0, 1, 2, 4, 6, 7, 8, 9, 15, 21, 22, 23, 24] ?_; intro K hK)
  | (refine gDr 7 [43] 8 [0, 1, 2, 3, 4, 5, 6, 7, 8] [0, 1, 2, 4, 6, 7, 8, 9, 15, 21, 22, 23, 24] rfl ?_; intro K hK)
  | (refine gDr 9 [43] 7 [0, 1, 2, 3, 4, 5, 6, 7, 8, 9, 10] [0, 1, 2, 4, 6, 7, 8, 9, 15, 21, 22, 23, 24] rfl ?_; intro K hK)
  | (refine gd_split ?_ ?_ <;> intro hb <;> (try simp only [bls] at hb) <;> (try simp only [hb]))
  | refine gRt [1000, 1001, 1002, 1003] [.tmp 6, .tmp 7] rfl ?_ | refine gDn [1000, 1001, 1002, 1003] [.tmp 6, .tmp 7] rfl ?_) <;> (try simp only [go_sem, simprocAttr, e1]))
  | (refine hK _ _ ?_; clear hK K; simp only [go_sem, simprocAttr])
  | refine gCd (by simp only [go_sem, simprocAttr]; rfl) rfl ?_
  | refine brT ?_ | refine brF ?_
  | (refine brS ?_ ?_ <;> intro hc <;> (try simp only [bls] at hc) <;> (try simp only [hc, bls]))
  | intro _ | refine And.intro ?_ ?_)
    · simp [putS, hlong]
    · exact ⟨g1, by simp [putS, hlong]⟩
  · have e1 : ¬ (1024 : Int) ≤ out.length := by omega
    have hp : putS ⟨xo, ⟨xa, xb, xc, xd⟩, xl, xlo, xhi, xn⟩ A out = (out ++ [⟨xo, ⟨xa, xb, xc, xd⟩, xl.map (atF A), xlo, xhi, xn⟩], (out.length : Int), 0) := by simp only [putS, if_neg hlong]
    rw [hp]; clear hp
    simp only
    repeat' (first
  | refine gSq ?_ | refine gSk ?_ | refine gBl ?_ | refine gIb ?_ | refine gEx rfl ?_
  | ((first
  | (refine gRg [43] [0, 1, 2, 4, 6, 7, 8, 9, 15, 21, 22, 23, 24] ?_; intro K hK)
  | (refine gDr 7 [43] 8 [0, 1, 2, 3, 4, 5, 6, 7, 8] [0, 1, 2, 4, 6, 7, 8, 9, 15, 21, 22, 23, 24] rfl ?_; intro K hK)
  | (refine gDr 9 [43] 7 [0, 1, 2, 3, 4, 5, 6, 7, 8, 9, 10] [0, 1, 2, 4, 6, 7, 8, 9, 15, 21, 22, 23, 24] rfl ?_; intro K hK)
  | (refine ACall.use [(5, 18)] [] rfl (clone_c true false xl hn) rfl rfl rfl ?_; rintro _ _ (⟨rfl, rfl, rfl⟩ | ⟨h5, rfl, rfl⟩) <;> refine ⟨.inl rfl, rfl, ?_⟩ <;> simp only [bk, bk1, bkS, bkO, idOf, delAll, go_sem, simprocAttr])
  | (refine gd_split ?_ ?_ <;> intro hb <;> (try simp only [bls] at hb) <;> (try simp only [hb]))
  | refine gRt [1000, 1001, 1002, 1003] [.tmp 6, .tmp 7] rfl ?_ | refine gDn [1000, 1001, 1002, 1003] [.tmp 6, .tmp 7] rfl ?_) <;> (try simp only [go_sem, simprocAttr, e1]))
  | (refine hK _ _ ?_; clear hK K; simp only [go_sem, simprocAttr])
  | refine gCd (by simp only [go_sem, simprocAttr]; rfl) rfl ?_
  | refine brT ?_ | refine brF ?_
  | (refine brS ?_ ?_ <;> intro hc <;> (try simp only [bls] at hc) <;> (try simp only [hc, bls]))
  | intro _ | refine And.intro ?_ ?_)
    · refine AGood.loop ?_
      repeat' (first
  | refine gSq ?_ | refine gSk ?_ | refine gBl ?_ | refine gIb ?_ | refine gEx rfl ?_
  | ((first
  | (refine gRg [43] [0, 1, 2, 4, 6, 7, 8, 9, 15, 21, 22, 23, 24] ?_; intro K hK)
  | (refine gDr 7 [43] 8 [0, 1, 2, 3, 4, 5, 6, 7, 8] [0, 1, 2, 4, 6, 7, 8, 9, 15, 21, 22, 23, 24] rfl ?_; intro K hK)
  | (refine gDr 9 [43] 7 [0, 1, 2, 3, 4, 5, 6, 7, 8, 9, 10] [0, 1, 2, 4, 6, 7, 8, 9, 15, 21, 22, 23, 24] rfl ?_; intro K hK)
  | (refine gd_split ?_ ?_ <;> intro hb <;> (try simp only [bls] at hb) <;> (try simp only [hb]))
  | refine gRt [1000, 1001, 1002, 1003] [.tmp 6, .tmp 7] rfl ?_ | refine gDn [1000, 1001, 1002, 1003] [.tmp 6, .tmp 7] rfl ?_) <;> (try simp only [go_sem, simprocAttr, e1]))
  | (refine hK _ _ ?_; clear hK K; simp only [go_sem, simprocAttr])
  | refine gCd (by simp only [go_sem, simprocAttr]; rfl) rfl ?_
  | refine brT ?_ | refine brF ?_
  | (refine brS ?_ ?_ <;> intro hc <;> (try simp only [bls] at hc) <;> (try simp only [hc, bls]))
  | intro _ | refine And.intro ?_ ?_)
      all_goals first | omega | (unfold bigLen; omega) | exact ⟨_, _, ⟨rfl, rfl⟩, rfl⟩ | exact ⟨_, rfl⟩ | (rename_i hy; simp only [List.mem_singleton] at hy; subst hy; rfl) | skip
      · simp
      · rename_i h' ; exact ⟨h', by simp⟩
    · rename_i h4
      refine AGood.prune [0, 2, 4, 21, 22, 23] ?_; simp only [go_sem, simprocAttr]
      refine AGood.loopInv (α := Nat × List Int) (fun x => ([(0, .bx 1000 g 0), (2, .sl q f (ints A)), (4, .bx 4 h4 0), (21, .osl 18 h5 0 xl.length), (22, .int .i64 xl.length), (23, .int .i64 x.1)],
        [(4, h4, .box [.int .u8 xo, .int .u64 xa, .int .u64 xb, .int .u64 xc, .int .u64 xd, .osl 18 h5 0 xl.length, .int .i64 xlo, .int .i64 xhi, .str xn]), (18, h5, .row 1 (ints x.2)), (1000, g, .box [.map 1002 g2, .map 1003 g3, .osl 1001 g1 0 out.length]), (1001, g1, .row 9 (nodes out)), (1002, g2, .mp dm), (1003, g3, .mp om)]))
        (fun x => x.1 ≤ xl.length ∧ x.2 = (xl.take x.1).map (atF A) ++ xl.drop x.1) (fun x => xl.length - x.1) (0, xl) ⟨Nat.zero_le _, by simp⟩ rfl ?_
      rintro ⟨i, W⟩ ⟨hi, hW⟩ ih
      simp only at hi hW ih ⊢
      by_cases hle : i < xl.length
      · have e4 : (i : Int) < xl.length := by omega
        have e5 : (0 : Int) ≤ i := by omega
        have hk2 : xl[i]? = some xl[i] := List.getElem?_eq_getElem hle
        have hmem := hk xl[i] (List.getElem_mem hle)
        generalize xl[i] = k at hk2 hmem
        obtain ⟨w1, w2, w3⟩ := put_row hW hk2
        have e6 : i < W.length := by omega
        obtain ⟨m, rfl⟩ : ∃ m : Nat, k = m := ⟨k.toNat, by omega⟩
        have e7 : (m : Int) < A.length := hmem.2
        have e8 : (0 : Int) ≤ m := by omega
        have hA : A[m]? = some (atF A m) := by
          have : m < A.length := by omega
          simp [atF, List.getElem?_eq_getElem this]
        repeat' (first
  | refine gSq ?_ | refine gSk ?_ | refine gBl ?_ | refine gIb ?_ | refine gEx rfl ?_
  | ((first
  | (refine gRg [43] [0, 1, 2, 4, 6, 7, 8, 9, 15, 21, 22, 23, 24] ?_; intro K hK)
  | (refine gDr 7 [43] 8 [0, 1, 2, 3, 4, 5, 6, 7, 8] [0, 1, 2, 4, 6, 7, 8, 9, 15, 21, 22, 23, 24] rfl ?_; intro K hK)
  | (refine gDr 9 [43] 7 [0, 1, 2, 3, 4, 5, 6, 7, 8, 9, 10] [0, 1, 2, 4, 6, 7, 8, 9, 15, 21, 22, 23, 24] rfl ?_; intro K hK)
  | (refine gd_split ?_ ?_ <;> intro hb <;> (try simp only [bls] at hb) <;> (try simp only [hb]))
  | refine gRt [1000, 1001, 1002, 1003] [.tmp 6, .tmp 7] rfl ?_ | refine gDn [1000, 1001, 1002, 1003] [.tmp 6, .tmp 7] rfl ?_) <;> (try simp only [go_sem, simprocAttr, e1, e4, e5, e6, e7, e8, w2, hA, Option.some.injEq, forall_eq']))
  | (refine hK _ _ ?_; clear hK K; simp only [go_sem, simprocAttr])
  | refine gCd (by simp only [go_sem, simprocAttr]; rfl) rfl ?_
  | refine brT ?_ | refine brF ?_
  | (refine brS ?_ ?_ <;> intro hc <;> (try simp only [bls] at hc) <;> (try simp only [hc, bls]))
  | intro _ | refine And.intro ?_ ?_)
        all_goals first | omega | (unfold bigLen; omega) | exact ⟨_, _, ⟨rfl, rfl⟩, rfl⟩ | exact ⟨_, rfl⟩ | (rename_i hy; simp only [List.mem_singleton] at hy; subst hy; rfl) | skip
        rename_i y hy
        have hy2 : y = [.int .i64 m] := by
          rw [List.getElem?_map, w2] at hy
          simpa using hy.symm
        subst hy2
        refine AGood.prune [0, 2, 4, 21, 22, 23] ?_; simp only [go_sem, simprocAttr]
        exact (ih (i + 1, W.set i (atF A m)) ⟨by simp only; omega, w3⟩ (by simp only; omega)).cast rfl (by simp [ints, List.map_set])
      · have e4 : ¬ (i : Int) < xl.length := by omega
        have hin : i = xl.length := by omega
        subst hin
        simp only [List.take_length, List.drop_length, List.append_nil] at hW
        subst hW
        have e5 : (ints (xl.map (atF A))).take xl.length = ints (xl.map (atF A)) := List.take_of_length_le (by simp)
        repeat' (first
  | refine gSq ?_ | refine gSk ?_ | refine gBl ?_ | refine gIb ?_ | refine gEx rfl ?_
  | ((first
  | (refine AGood.at 9 ?_; (refine AGood.freeze 18 rfl ?_; simp only [rfT, rfS, rfO, rf, rf1, e5, true_and, go_sem, simprocAttr]); (refine gDr 9 [43] 7 [0, 1, 2, 3, 4, 5, 6, 7, 8, 9, 10] [0, 1, 2, 4, 6, 7, 8, 9, 15, 21, 22, 23, 24] rfl ?_; intro K hK))
  | (refine gRg [43] [0, 1, 2, 4, 6, 7, 8, 9, 15, 21, 22, 23, 24] ?_; intro K hK)
  | (refine gDr 7 [43] 8 [0, 1, 2, 3, 4, 5, 6, 7, 8] [0, 1, 2, 4, 6, 7, 8, 9, 15, 21, 22, 23, 24] rfl ?_; intro K hK)
  | (refine gd_split ?_ ?_ <;> intro hb <;> (try simp only [bls] at hb) <;> (try simp only [hb]))
  | refine gRt [1000, 1001, 1002, 1003] [.tmp 6, .tmp 7] rfl ?_ | refine gDn [1000, 1001, 1002, 1003] [.tmp 6, .tmp 7] rfl ?_) <;> (try simp only [go_sem, simprocAttr, e1, e4]))
  | (refine hK _ _ ?_; clear hK K; simp only [go_sem, simprocAttr])
  | refine gCd (by simp only [go_sem, simprocAttr]; rfl) rfl ?_
  | refine brT ?_ | refine brF ?_
  | (refine brS ?_ ?_ <;> intro hc <;> (try simp only [bls] at hc) <;> (try simp only [hc, bls]))
  | intro _ | refine And.intro ?_ ?_)
        all_goals first | omega | (unfold bigLen; omega) | exact ⟨_, _, ⟨rfl, rfl⟩, rfl⟩ | exact ⟨_, rfl⟩ | (rename_i hy; simp only [List.mem_singleton] at hy; subst hy; rfl) | skip
        · simp
        · rename_i h'; exact ⟨h', by simp⟩
end Go.Rad
/- Sets by bits, as the program's own package has them. -/
namespace Go.Rad
open Go

/-- A call's arguments are what their kinds hold. -/
theorem ACall.fit {P : Program} {f : Nat} {args : List AVal} {sto : Sto} {R : AVal → Sto → Prop} (i j : Nat) {cs : List AVal} {k : IntKind} {n : Int} (able : Callable P f) (hi : args[i]? = some (.agg cs)) (hj : cs[j]? = some (.int k n)) (h : fits k n → ACall P f args sto R) : ACall P f args sto R := by
  refine ⟨able, fun G w cargs hw hs ha => ?_⟩
  have hr := ha.2 i _ hi
  generalize cargs.getD i undef = v at hr
  cases hr with
  | agg a b c =>
    have h2 := c j _ hj
    generalize Array.getD _ j undef = u at h2
    cases h2 with
    | int hf => exact (h hf).calls G w cargs hw hs ha
theorem ACall.fitI {P : Program} {f : Nat} {args : List AVal} {sto : Sto} {R : AVal → Sto → Prop} (i : Nat) {k : IntKind} {n : Int} (able : Callable P f) (hi : args[i]? = some (.int k n)) (h : fits k n → ACall P f args sto R) : ACall P f args sto R := by
  refine ⟨able, fun G w cargs hw hs ha => ?_⟩
  have hr := ha.2 i _ hi
  generalize cargs.getD i undef = v at hr
  cases hr with
  | int hf => exact (h hf).calls G w cargs hw hs ha
theorem fit64 {n : Int} (h : fits .u64 n) : ∃ m : Nat, n = m ∧ m < 18446744073709551616 := by
  have m1 : IntKind.u64.min = 0 := by kernel_rfl
  have m2 : IntKind.u64.max = 18446744073709551615 := by kernel_rfl
  obtain ⟨a, b⟩ := h
  rw [m1] at a
  rw [m2] at b
  exact ⟨n.toNat, by omega, by omega⟩
theorem able_of {P : Program} {f : Nat} {fn : Func} (hf : P.funcs[f]? = some fn) (hn : (fn.name == "runtime.NumGoroutine") = false) (hb : fn.body.isNone = false) : Callable P f := ⟨fn, hf, hn, hb⟩

theorem bits_and {a b : Nat} (ha : a < 18446744073709551616) (hb : b < 18446744073709551616) : bitsOf .and .u64 a b = ((a &&& b : Nat) : Int) := by
  have h1 : (BitVec.ofInt IntKind.u64.bits (a : Int)).toNat = a := by
    simp only [IntKind.bits, BitVec.toNat_ofInt]; omega
  have h2 : (BitVec.ofInt IntKind.u64.bits (b : Int)).toNat = b := by
    simp only [IntKind.bits, BitVec.toNat_ofInt]; omega
  simp only [bitsOf, BitVec.toNat_and, h1, h2]
  have : a &&& b ≤ a := Nat.and_le_left
  exact wr_u64 (by omega) (by omega)
theorem bits_or {a b : Nat} (ha : a < 18446744073709551616) (hb : b < 18446744073709551616) : bitsOf .or .u64 a b = ((a ||| b : Nat) : Int) := by
  have h1 : (BitVec.ofInt IntKind.u64.bits (a : Int)).toNat = a := by
    simp only [IntKind.bits, BitVec.toNat_ofInt]; omega
  have h2 : (BitVec.ofInt IntKind.u64.bits (b : Int)).toNat = b := by
    simp only [IntKind.bits, BitVec.toNat_ofInt]; omega
  simp only [bitsOf, BitVec.toNat_or, h1, h2]
  have : a ||| b < 2 ^ 64 := Nat.or_lt_two_pow (by simpa using ha) (by simpa using hb)
  exact wr_u64 (by omega) (by omega)

/-- Words of a set, as naturals. -/
structure NSet where
  a : Nat
  b : Nat
  c : Nat
  d : Nat
  deriving DecidableEq
abbrev NSet.I (s : NSet) : ISet := ⟨s.a, s.b, s.c, s.d⟩
def NSet.ok (s : NSet) : Prop := s.a < 18446744073709551616 ∧ s.b < 18446744073709551616 ∧ s.c < 18446744073709551616 ∧ s.d < 18446744073709551616
def NSet.or (s t : NSet) : NSet := ⟨s.a ||| t.a, s.b ||| t.b, s.c ||| t.c, s.d ||| t.d⟩
def NSet.and (s t : NSet) : NSet := ⟨s.a &&& t.a, s.b &&& t.b, s.c &&& t.c, s.d &&& t.d⟩
def nzero : NSet := ⟨0, 0, 0, 0⟩
def nfull : NSet := ⟨18446744073709551615, 18446744073709551615, 18446744073709551615, 18446744073709551615⟩
def NSet.word (s : NSet) (i : Nat) : Nat := match i with | 0 => s.a | 1 => s.b | 2 => s.c | _ => s.d
/-- One byte more. -/
def NSet.add (s : NSet) (n : Nat) : NSet :=
  match n / 64 with
  | 0 => { s with a := s.a ||| 2 ^ (n % 64) }
  | 1 => { s with b := s.b ||| 2 ^ (n % 64) }
  | 2 => { s with c := s.c ||| 2 ^ (n % 64) }
  | _ => { s with d := s.d ||| 2 ^ (n % 64) }
def ofS (l : List Nat) : NSet := l.foldl NSet.add nzero
def rangeS (lo hi : Nat) : NSet := (List.range (hi + 1 - lo)).foldl (fun s i => s.add (lo + i)) nzero
theorem add_ok {s : NSet} {n : Nat} (h : s.ok) : (s.add n).ok := by
  have hb : 2 ^ (n % 64) < 18446744073709551616 := by
    have : 2 ^ (n % 64) < 2 ^ 64 := Nat.pow_lt_pow_right (by decide) (Nat.mod_lt _ (by decide))
    simpa using this
  have ho : ∀ x : Nat, x < 18446744073709551616 → x ||| 2 ^ (n % 64) < 18446744073709551616 := by
    intro x hx
    have : x ||| 2 ^ (n % 64) < 2 ^ 64 := Nat.or_lt_two_pow (by simpa using hx) (by simpa using hb)
    simpa using this
  obtain ⟨h1, h2, h3, h4⟩ := h
  unfold NSet.add
  split
  · exact ⟨ho _ h1, h2, h3, h4⟩
  · exact ⟨h1, ho _ h2, h3, h4⟩
  · exact ⟨h1, h2, ho _ h3, h4⟩
  · exact ⟨h1, h2, h3, ho _ h4⟩
theorem or_ok {s t : NSet} (h : s.ok) (k : t.ok) : (s.or t).ok := by
  have ho : ∀ x y : Nat, x < 18446744073709551616 → y < 18446744073709551616 → x ||| y < 18446744073709551616 := by
    intro x y hx hy
    have : x ||| y < 2 ^ 64 := Nat.or_lt_two_pow (by simpa using hx) (by simpa using hy)
    simpa using this
  exact ⟨ho _ _ h.1 k.1, ho _ _ h.2.1 k.2.1, ho _ _ h.2.2.1 k.2.2.1, ho _ _ h.2.2.2 k.2.2.2⟩
theorem and_ok {s t : NSet} (h : s.ok) : (s.and t).ok := by
  have ho : ∀ x y : Nat, x < 18446744073709551616 → x &&& y < 18446744073709551616 := fun x y hx => Nat.lt_of_le_of_lt Nat.and_le_left hx
  exact ⟨ho _ _ h.1, ho _ _ h.2.1, ho _ _ h.2.2.1, ho _ _ h.2.2.2⟩

theorem AGood.loopAt {P : Program} {f : Nat} {fn : Func} {df : List DDel} {k : List Item} {tm : Tm} {sto : Sto} {R : AVal → Sto → Prop} (id : Nat) {ops : Array Oper} {b : Bool} {r : Code} (h : AGood P f fn df (.code (.seq (.region id ops b) r) :: .inLoop (.seq (.region id ops b) r) :: k) tm sto R) : AGood P f fn df (.code (.loop (.seq (.region id ops b) r)) :: k) tm sto R := .loop h
theorem AGood.inLoopAt {P : Program} {f : Nat} {fn : Func} {df : List DDel} {k : List Item} {tm : Tm} {sto : Sto} {R : AVal → Sto → Prop} (id : Nat) {ops : Array Oper} {b : Bool} {r : Code} (h : AGood P f fn df (.code (.seq (.region id ops b) r) :: .inLoop (.seq (.region id ops b) r) :: k) tm sto R) : AGood P f fn df (.inLoop (.seq (.region id ops b) r) :: k) tm sto R := .inLoop h
abbrev nsets (l : List NSet) : List (List AVal) := l.map fun s => s.I.cells
end Go.Rad
/- Contracts: sets by bits. -/
namespace Go.Rad
open Go Go.Proofs
set_option linter.all false
set_option maxRecDepth 20000
set_option maxHeartbeats 4000000

/-- How many bits at the end are 0, as the library reckons it. -/
def tzI (n : Nat) : Nat := (n &&& (18446744073709551616 - n)) * 285870213051353865 % 18446744073709551616 / 288230376151711744
def tzS (n : Nat) : Int := if n = 0 then 64 else bruijn.getD (tzI n) 0
theorem tzI_lt (n : Nat) : tzI n < 64 := by unfold tzI; omega
theorem bruijn_le (i : Nat) : 0 ≤ bruijn.getD i 0 ∧ bruijn.getD i 0 ≤ 63 := by
  have h : bruijn.all (fun x => decide (0 ≤ x ∧ x ≤ 63)) = true := by decide
  rw [List.getD_eq_getElem?_getD]
  cases hx : bruijn[i]? with
  | none => decide
  | some x =>
    have := List.all_eq_true.1 h x (List.mem_of_getElem? hx)
    simpa using this
theorem glob_drop {i : Nat} (h : i < 64) : ∃ r, (globC bruijn).drop i = .int .u8 (bruijn.getD i 0) :: r := by
  have hl : i < bruijn.length := h
  refine ⟨(globC bruijn).drop (i + 1), ?_⟩
  have hl2 : i < (globC bruijn).length := h
  have e : (globC bruijn)[i] = .int .u8 (bruijn.getD i 0) := by
    simp [globC, List.getD_eq_getElem?_getD, List.getElem?_eq_getElem hl]
  rw [List.drop_eq_getElem_cons hl2, e]
theorem glob0 : globU8 0 = some bruijn := rfl
theorem ev_glob {tm : Tm} : ev tm (.global 0) = .ref true (globC bruijn) := Eq.trans rfl rfl
theorem globC_len : (globC bruijn).length = 64 := Eq.trans (List.length_map _) (Eq.trans rfl rfl)
theorem tz_e1 {n : Nat} (hn : n < 18446744073709551616) (h0 : ¬ n = 0) : IntKind.u64.wrap (0 - (n : Int)) = ((18446744073709551616 - n : Nat) : Int) := by
  simp [IntKind.wrap, IntKind.signed, IntKind.bits]
  omega
theorem tz_e3 (n : Nat) : IntKind.u64.wrap (((n &&& (18446744073709551616 - n) : Nat) : Int) * 285870213051353865) = (((n &&& (18446744073709551616 - n)) * 285870213051353865 % 18446744073709551616 : Nat) : Int) := by
  generalize n &&& (18446744073709551616 - n) = m
  simp [IntKind.wrap, IntKind.signed, IntKind.bits]
theorem tz_e4 (n : Nat) : (((n &&& (18446744073709551616 - n)) * 285870213051353865 % 18446744073709551616 : Nat) : Int).fdiv 288230376151711744 = ((tzI n : Nat) : Int) := by
  unfold tzI
  generalize (n &&& (18446744073709551616 - n)) * 285870213051353865 % 18446744073709551616 = m
  rw [Int.fdiv_eq_ediv_of_nonneg _ (by decide)]
  omega
theorem tz_facts {n : Nat} (hn : n < 18446744073709551616) (h0 : ¬ n = 0) : ∃ c k m i : Nat, IntKind.u64.wrap (0 - (n : Int)) = (c : Int) ∧ bitsOf .and .u64 n c = (k : Int) ∧ IntKind.u64.wrap ((k : Int) * 285870213051353865) = (m : Int) ∧ (m : Int).fdiv 288230376151711744 = (i : Int) ∧ i = tzI n :=
  ⟨_, _, _, _, tz_e1 hn h0, bits_and hn (Nat.sub_lt (by decide) (Nat.pos_of_ne_zero h0)), tz_e3 n, tz_e4 n, rfl⟩
theorem tz_c (n : Nat) (hn : n < 18446744073709551616) : ACall Tryd.prog 57 [.int .u64 n] [] fun r s => r = .int .i64 (tzS n) ∧ s = [] := by
  by_cases h0 : n = 0
  · subst h0
    refine ACall.enter Tryd.func57 rfl (by kernel_rfl) (Nat.le_of_ble_eq_true rfl) ?_; simp only [initTm, Nat.reduceAdd]
    repeat' (first
  | refine gSq ?_ | refine gSk ?_ | refine gBl ?_ | refine gIb ?_ | refine gEx rfl ?_
  | ((first
  | (refine gRg [] [0, 2, 4] ?_; intro K hK)
  | (refine gd_split ?_ ?_ <;> intro hb <;> (try simp only [bls] at hb) <;> (try simp only [hb]))
  | refine gRt [] [.tmp 2] rfl ?_ | refine gDn [] [.tmp 2] rfl ?_) <;> (try simp only [go_sem, simprocAttr]))
  | (refine hK _ _ ?_; clear hK K; simp only [go_sem, simprocAttr])
  | refine gCd (by simp only [go_sem, simprocAttr]; rfl) rfl ?_
  | refine brT ?_ | refine brF ?_
  | (refine brS ?_ ?_ <;> intro hc <;> (try simp only [bls] at hc) <;> (try simp only [hc, bls]))
  | intro _ | refine And.intro ?_ ?_)
    all_goals rfl
  · have e0 : ¬ (n : Int) = 0 := by omega
    have hts : tzS n = bruijn.getD (tzI n) 0 := if_neg h0
    rw [hts]
    obtain ⟨c, k, m, i, e1, e2, e3, e4, hi⟩ := tz_facts hn h0
    have e5 := tzI_lt n
    rw [← hi] at e5 ⊢
    clear hi
    have f58 : (2 : Int) ^ min 58 64 = 288230376151711744 := by decide
    have e6 : (i : Int) < 64 := by omega
    have e7 : (0 : Int) ≤ (i : Nat) := by omega
    have e11 : i ≤ 64 := by omega
    obtain ⟨r, e8⟩ := glob_drop e5
    have e9 := bruijn_le i
    have e10 : IntKind.i64.wrap (bruijn.getD i 0) = bruijn.getD i 0 := wr_i64 (by unfold inI64; omega)
    refine ACall.enter Tryd.func57 rfl (by kernel_rfl) (Nat.le_of_ble_eq_true rfl) ?_; simp only [initTm, Nat.reduceAdd]
    repeat' (first
  | refine gSq ?_ | refine gSk ?_ | refine gBl ?_ | refine gIb ?_ | refine gEx rfl ?_
  | ((first
  | (refine gRg [] [0, 2, 4] ?_; intro K hK)
  | (refine gd_split ?_ ?_ <;> intro hb <;> (try simp only [bls] at hb) <;> (try simp only [hb]))
  | refine gRt [] [.tmp 2] rfl ?_ | refine gDn [] [.tmp 2] rfl ?_) <;> (try simp only [go_sem, simprocAttr, e0, e1, e2, e3, f58, e4, e6, e7, e8, e10, ev_glob, globC_len, Nat.mul_one, IntKind.bits]))
  | (refine hK _ _ ?_; clear hK K; simp only [go_sem, simprocAttr])
  | refine gCd (by simp only [go_sem, simprocAttr]; rfl) rfl ?_
  | refine brT ?_ | refine brF ?_
  | (refine brS ?_ ?_ <;> intro hc <;> (try simp only [bls] at hc) <;> (try simp only [hc, bls]))
  | intro _ | refine And.intro ?_ ?_)
    all_goals first | omega | (unfold bigLen; omega) | exact ⟨_, _, ⟨rfl, rfl⟩, rfl⟩ | exact ⟨_, rfl⟩ | (rename_i hy; simp only [List.mem_singleton] at hy; subst hy; rfl) | skip
end Go.Rad
/- Contracts: sets by bits: made, put together. -/
namespace Go.Rad
open Go Go.Proofs
set_option linter.all false
set_option maxRecDepth 20000
set_option maxHeartbeats 4000000

theorem add_facts {b : Nat} (_ : b ≤ 255) : ∃ p : Nat, p < 18446744073709551616 ∧ p = 2 ^ (b % 64) ∧ IntKind.u64.wrap (1 * 2 ^ (b % 64)) = (p : Int) := by
  have h : 2 ^ (b % 64) < 18446744073709551616 := by
    have : 2 ^ (b % 64) < 2 ^ 64 := Nat.pow_lt_pow_right (by decide) (Nat.mod_lt _ (by decide))
    simpa using this
  refine ⟨2 ^ (b % 64), h, rfl, ?_⟩
  rw [Int.one_mul]
  have e : ((2 : Int) ^ (b % 64)) = ((2 ^ (b % 64) : Nat) : Int) := by simp
  rw [e]
  generalize 2 ^ (b % 64) = p at h
  exact wr_u64 (by omega) (by omega)
theorem of2uc (q f : Bool) (l : List Nat) (h : ∀ x ∈ l, x ≤ 255) (hl : l.length ≤ 1000000) : ACall Tryd.prog 44 [.sl q f (bytesL l)] [] fun r s' => r = .agg (ofS l).I.cells ∧ s' = [] := by
  refine ACall.enter Tryd.func44 rfl (by kernel_rfl) (Nat.le_of_ble_eq_true rfl) ?_; simp only [initTm, Nat.reduceAdd]
  repeat' (first
  | refine gSq ?_ | refine gSk ?_ | refine gBl ?_ | refine gIb ?_ | refine gEx rfl ?_
  | ((first
  | (refine gRg [] [0, 2, 3, 5, 6, 7, 8, 9] ?_; intro K hK)
  | (refine gd_split ?_ ?_ <;> intro hb <;> (try simp only [bls] at hb) <;> (try simp only [hb]))
  | refine gRt [] [.cell 2 38] rfl ?_ | refine gDn [] [.cell 2 38] rfl ?_) <;> (try simp only [go_sem, simprocAttr]))
  | (refine hK _ _ ?_; clear hK K; simp only [go_sem, simprocAttr])
  | refine gCd (by simp only [go_sem, simprocAttr]; rfl) rfl ?_
  | refine brT ?_ | refine brF ?_
  | (refine brS ?_ ?_ <;> intro hc <;> (try simp only [bls] at hc) <;> (try simp only [hc, bls]))
  | intro _ | refine And.intro ?_ ?_)
  rename_i h2 h3
  refine AGood.prune [0, 2, 3, 6, 7, 8] ?_; simp only [go_sem, simprocAttr]
  refine AGood.loopInv (α := Nat) (fun i => ([(0, .sl q f (bytesL l)), (2, .bx 2 h2 0), (3, .bx 3 h3 0), (6, .sl q f (bytesL l)), (7, .int .i64 l.length), (8, .int .i64 i)], [(2, h2, .box ISet.none.cells), (3, h3, .box (ofS (l.take i)).I.cells)])) (fun i => i ≤ l.length ∧ (ofS (l.take i)).ok) (fun i => l.length - i) 0 ⟨Nat.zero_le _, by simp [ofS, nzero, NSet.ok]⟩ rfl ?_
  rintro i ⟨hi, hok⟩ ih
  simp only
  by_cases hle : i < l.length
  · have e4 : (i : Int) < l.length := by omega
    have e5 : (0 : Int) ≤ i := by omega
    have hx : l[i]? = some l[i] := List.getElem?_eq_getElem hle
    have hb := h l[i] (List.getElem_mem hle)
    have ht : ofS (l.take (i + 1)) = (ofS (l.take i)).add l[i] := by simp only [ofS]; rw [take_one hx, List.foldl_append]; rfl
    generalize l[i] = b at hx hb ht
    have hok2 : (ofS (l.take (i + 1))).ok := by rw [ht]; exact add_ok hok
    have ih := ih (i + 1) ⟨by omega, hok2⟩ (by omega)
    simp only [ht] at ih
    generalize ofS (l.take i) = s at hok ih ⊢
    obtain ⟨s0, s1, s2, s3⟩ := s
    obtain ⟨k0, k1, k2, k3⟩ := hok
    simp only at k0 k1 k2 k3
    obtain ⟨p, hp, hpe, hsh⟩ := add_facts hb
    have h4 : b / 64 = 0 ∨ b / 64 = 1 ∨ b / 64 = 2 ∨ b / 64 = 3 := by omega
    rcases h4 with h4 | h4 | h4 | h4
    all_goals
      simp only [NSet.add, h4, ← hpe] at ih
      (first | refine div64 (c := 0) h4 rfl fun hd hm hmin => ?_ | refine div64 (c := 1) h4 rfl fun hd hm hmin => ?_ | refine div64 (c := 2) h4 rfl fun hd hm hmin => ?_ | refine div64 (c := 3) h4 rfl fun hd hm hmin => ?_)
    · have ho := bits_or k0 hp
      repeat' (first
  | refine gSq ?_ | refine gSk ?_ | refine gBl ?_ | refine gIb ?_ | refine gEx rfl ?_
  | ((first
  | (refine gRg [] [0, 2, 3, 5, 6, 7, 8, 9] ?_; intro K hK)
  | (refine gd_split ?_ ?_ <;> intro hb <;> (try simp only [bls] at hb) <;> (try simp only [hb]))
  | refine gRt [] [.cell 2 38] rfl ?_ | refine gDn [] [.cell 2 38] rfl ?_) <;> (try simp only [go_sem, simprocAttr, e4, e5, hx, hd, hm, hmin, hsh, ho, Option.some.injEq, forall_eq', IntKind.bits, wr_u8]))
  | (refine hK _ _ ?_; clear hK K; simp only [go_sem, simprocAttr])
  | refine gCd (by simp only [go_sem, simprocAttr]; rfl) rfl ?_
  | refine brT ?_ | refine brF ?_
  | (refine brS ?_ ?_ <;> intro hc <;> (try simp only [bls] at hc) <;> (try simp only [hc, bls]))
  | intro _ | refine And.intro ?_ ?_)
      all_goals first | omega | (unfold bigLen; omega) | exact ⟨_, _, ⟨rfl, rfl⟩, rfl⟩ | exact ⟨_, rfl⟩ | (rename_i hy; simp only [List.mem_singleton] at hy; subst hy; rfl) | skip
      refine AGood.prune [0, 2, 3, 6, 7, 8] ?_; simp only [go_sem, simprocAttr]
      exact ih.cast rfl rfl
    · have ho := bits_or k1 hp
      repeat' (first
  | refine gSq ?_ | refine gSk ?_ | refine gBl ?_ | refine gIb ?_ | refine gEx rfl ?_
  | ((first
  | (refine gRg [] [0, 2, 3, 5, 6, 7, 8, 9] ?_; intro K hK)
  | (refine gd_split ?_ ?_ <;> intro hb <;> (try simp only [bls] at hb) <;> (try simp only [hb]))
  | refine gRt [] [.cell 2 38] rfl ?_ | refine gDn [] [.cell 2 38] rfl ?_) <;> (try simp only [go_sem, simprocAttr, e4, e5, hx, hd, hm, hmin, hsh, ho, Option.some.injEq, forall_eq', IntKind.bits, wr_u8]))
  | (refine hK _ _ ?_; clear hK K; simp only [go_sem, simprocAttr])
  | refine gCd (by simp only [go_sem, simprocAttr]; rfl) rfl ?_
  | refine brT ?_ | refine brF ?_
  | (refine brS ?_ ?_ <;> intro hc <;> (try simp only [bls] at hc) <;> (try simp only [hc, bls]))
  | intro _ | refine And.intro ?_ ?_)
      all_goals first | omega | (unfold bigLen; omega) | exact ⟨_, _, ⟨rfl, rfl⟩, rfl⟩ | exact ⟨_, rfl⟩ | (rename_i hy; simp only [List.mem_singleton] at hy; subst hy; rfl) | skip
      refine AGood.prune [0, 2, 3, 6, 7, 8] ?_; simp only [go_sem, simprocAttr]
      exact ih.cast rfl rfl
    · have ho := bits_or k2 hp
      repeat' (first
  | refine gSq ?_ | refine gSk ?_ | refine gBl ?_ | refine gIb ?_ | refine gEx rfl ?_
  | ((first
  | (refine gRg [] [0, 2, 3, 5, 6, 7, 8, 9] ?_; intro K hK)
  | (refine gd_split ?_ ?_ <;> intro hb <;> (try simp only [bls] at hb) <;> (try simp only [hb]))
  | refine gRt [] [.cell 2 38] rfl ?_ | refine gDn [] [.cell 2 38] rfl ?_) <;> (try simp only [go_sem, simprocAttr, e4, e5, hx, hd, hm, hmin, hsh, ho, Option.some.injEq, forall_eq', IntKind.bits, wr_u8]))
  | (refine hK _ _ ?_; clear hK K; simp only [go_sem, simprocAttr])
  | refine gCd (by simp only [go_sem, simprocAttr]; rfl) rfl ?_
  | refine brT ?_ | refine brF ?_
  | (refine brS ?_ ?_ <;> intro hc <;> (try simp only [bls] at hc) <;> (try simp only [hc, bls]))
  | intro _ | refine And.intro ?_ ?_)
      all_goals first | omega | (unfold bigLen; omega) | exact ⟨_, _, ⟨rfl, rfl⟩, rfl⟩ | exact ⟨_, rfl⟩ | (rename_i hy; simp only [List.mem_singleton] at hy; subst hy; rfl) | skip
      refine AGood.prune [0, 2, 3, 6, 7, 8] ?_; simp only [go_sem, simprocAttr]
      exact ih.cast rfl rfl
    · have ho := bits_or k3 hp
      repeat' (first
  | refine gSq ?_ | refine gSk ?_ | refine gBl ?_ | refine gIb ?_ | refine gEx rfl ?_
  | ((first
  | (refine gRg [] [0, 2, 3, 5, 6, 7, 8, 9] ?_; intro K hK)
  | (refine gd_split ?_ ?_ <;> intro hb <;> (try simp only [bls] at hb) <;> (try simp only [hb]))
  | refine gRt [] [.cell 2 38] rfl ?_ | refine gDn [] [.cell 2 38] rfl ?_) <;> (try simp only [go_sem, simprocAttr, e4, e5, hx, hd, hm, hmin, hsh, ho, Option.some.injEq, forall_eq', IntKind.bits, wr_u8]))
  | (refine hK _ _ ?_; clear hK K; simp only [go_sem, simprocAttr])
  | refine gCd (by simp only [go_sem, simprocAttr]; rfl) rfl ?_
  | refine brT ?_ | refine brF ?_
  | (refine brS ?_ ?_ <;> intro hc <;> (try simp only [bls] at hc) <;> (try simp only [hc, bls]))
  | intro _ | refine And.intro ?_ ?_)
      all_goals first | omega | (unfold bigLen; omega) | exact ⟨_, _, ⟨rfl, rfl⟩, rfl⟩ | exact ⟨_, rfl⟩ | (rename_i hy; simp only [List.mem_singleton] at hy; subst hy; rfl) | skip
      refine AGood.prune [0, 2, 3, 6, 7, 8] ?_; simp only [go_sem, simprocAttr]
      exact ih.cast rfl rfl
  · have e4 : ¬ (i : Int) < l.length := by omega
    rw [List.take_of_length_le (by omega)]
    generalize ofS l = s
    obtain ⟨s0, s1, s2, s3⟩ := s
    repeat' (first
  | refine gSq ?_ | refine gSk ?_ | refine gBl ?_ | refine gIb ?_ | refine gEx rfl ?_
  | ((first
  | (refine gRg [] [0, 2, 3, 5, 6, 7, 8, 9] ?_; intro K hK)
  | (refine gd_split ?_ ?_ <;> intro hb <;> (try simp only [bls] at hb) <;> (try simp only [hb]))
  | refine gRt [] [.cell 2 38] rfl ?_ | refine gDn [] [.cell 2 38] rfl ?_) <;> (try simp only [go_sem, simprocAttr, e4]))
  | (refine hK _ _ ?_; clear hK K; simp only [go_sem, simprocAttr])
  | refine gCd (by simp only [go_sem, simprocAttr]; rfl) rfl ?_
  | refine brT ?_ | refine brF ?_
  | (refine brS ?_ ?_ <;> intro hc <;> (try simp only [bls] at hc) <;> (try simp only [hc, bls]))
  | intro _ | refine And.intro ?_ ?_)

theorem range_facts {b : Nat} (h : b ≤ 255) {k : Nat} (h4 : b / 64 = k) {c : Int} (hk : (k : Int) = c) : (b : Int).tdiv 64 = c ∧ (b : Int).tmod 64 = ((b % 64 : Nat) : Int) ∧ min (b % 64) 64 = b % 64 :=
  ⟨(tdiv_nat b 64).trans (by rw [h4]; exact hk), tmod_nat b 64, by omega⟩
theorem range2uc (lo hi : Nat) (hl : lo ≤ 255) (hh : hi ≤ 255) : ACall Tryd.prog 42 [.int .u8 lo, .int .u8 hi] [] fun r s' => r = .agg (rangeS lo hi).I.cells ∧ s' = [] := by
  have w1 := wr_i64n (n := lo) (by omega)
  have w2 := wr_i64n (n := hi) (by omega)
  refine ACall.enter Tryd.func42 rfl (by kernel_rfl) (Nat.le_of_ble_eq_true rfl) ?_; simp only [initTm, Nat.reduceAdd]
  repeat' (first
  | refine gSq ?_ | refine gSk ?_ | refine gBl ?_ | refine gIb ?_ | refine gEx rfl ?_
  | ((first
  | (refine gRg [] [0, 1, 4, 5, 6, 12] ?_; intro K hK)
  | (refine gDr 5 [] 9 [0, 1, 2, 3, 4, 5, 6, 7, 8, 9] [0, 1, 4, 5, 6, 12] rfl ?_; intro K hK)
  | (refine gd_split ?_ ?_ <;> intro hb <;> (try simp only [bls] at hb) <;> (try simp only [hb]))
  | refine gRt [] [.cell 4 38] rfl ?_ | refine gDn [] [.cell 4 38] rfl ?_) <;> (try simp only [go_sem, simprocAttr, w1, w2]))
  | (refine hK _ _ ?_; clear hK K; simp only [go_sem, simprocAttr])
  | refine gCd (by simp only [go_sem, simprocAttr]; rfl) rfl ?_
  | refine brT ?_ | refine brF ?_
  | (refine brS ?_ ?_ <;> intro hc <;> (try simp only [bls] at hc) <;> (try simp only [hc, bls]))
  | intro _ | refine And.intro ?_ ?_)
  rename_i h4 h5
  refine AGood.prune [0, 1, 4, 5, 6] ?_; simp only [go_sem, simprocAttr]
  refine AGood.loopInv (α := Nat) (fun i => ([(0, .int .u8 lo), (1, .int .u8 hi), (4, .bx 4 h4 0), (5, .bx 5 h5 0), (6, .int .i64 (lo + i : Nat))], [(4, h4, .box ISet.none.cells), (5, h5, .box ((List.range i).foldl (fun s i => s.add (lo + i)) nzero).I.cells)])) (fun i => i ≤ hi + 1 - lo ∧ ((List.range i).foldl (fun s i => s.add (lo + i)) nzero).ok) (fun i => hi + 1 - lo - i) 0 ⟨Nat.zero_le _, by simp [nzero, NSet.ok]⟩ rfl ?_
  rintro i ⟨hi', hok⟩ ih
  simp only
  by_cases hle : lo + i ≤ hi
  · have e4 : ((lo + i : Nat) : Int) ≤ (hi : Int) := by omega
    have hb : lo + i ≤ 255 := by omega
    have hok2 : ((List.range (i + 1)).foldl (fun s i => s.add (lo + i)) nzero).ok := by rw [List.range_succ, List.foldl_append]; exact add_ok hok
    have ih := ih (i + 1) ⟨by omega, hok2⟩ (by omega)
    simp only [List.range_succ, List.foldl_append, List.foldl_cons, List.foldl_nil] at ih
    generalize (List.range i).foldl (fun s i => s.add (lo + i)) nzero = s at hok ih ⊢
    obtain ⟨s0, s1, s2, s3⟩ := s
    obtain ⟨k0, k1, k2, k3⟩ := hok
    simp only at k0 k1 k2 k3
    have e7 : ((lo + i : Nat) : Int) + 1 = ((lo + (i + 1) : Nat) : Int) := by omega
    generalize hbe : lo + i = b at hb ih e4 e7 ⊢
    obtain ⟨p, hp, hpe, hsh⟩ := add_facts hb
    have h64 : b / 64 = 0 ∨ b / 64 = 1 ∨ b / 64 = 2 ∨ b / 64 = 3 := by omega
    rcases h64 with h64 | h64 | h64 | h64
    all_goals
      simp only [NSet.add, h64, ← hpe] at ih
    · obtain ⟨hd, hm, hmin⟩ := range_facts hb h64 (c := 0) rfl
      have ho := bits_or k0 hp
      repeat' (first
  | refine gSq ?_ | refine gSk ?_ | refine gBl ?_ | refine gIb ?_ | refine gEx rfl ?_
  | ((first
  | (refine gRg [] [0, 1, 4, 5, 6, 12] ?_; intro K hK)
  | (refine gDr 5 [] 9 [0, 1, 2, 3, 4, 5, 6, 7, 8, 9] [0, 1, 4, 5, 6, 12] rfl ?_; intro K hK)
  | (refine gd_split ?_ ?_ <;> intro hb <;> (try simp only [bls] at hb) <;> (try simp only [hb]))
  | refine gRt [] [.cell 4 38] rfl ?_ | refine gDn [] [.cell 4 38] rfl ?_) <;> (try simp only [go_sem, simprocAttr, w2, e4, e7, hd, hm, hmin, hsh, ho, IntKind.bits]))
  | (refine hK _ _ ?_; clear hK K; simp only [go_sem, simprocAttr])
  | refine gCd (by simp only [go_sem, simprocAttr]; rfl) rfl ?_
  | refine brT ?_ | refine brF ?_
  | (refine brS ?_ ?_ <;> intro hc <;> (try simp only [bls] at hc) <;> (try simp only [hc, bls]))
  | intro _ | refine And.intro ?_ ?_)
      all_goals first | omega | (unfold bigLen; omega) | exact ⟨_, _, ⟨rfl, rfl⟩, rfl⟩ | exact ⟨_, rfl⟩ | (rename_i hy; simp only [List.mem_singleton] at hy; subst hy; rfl) | skip
      refine AGood.prune [0, 1, 4, 5, 6] ?_; simp only [go_sem, simprocAttr]
      exact ih.cast rfl rfl
    · obtain ⟨hd, hm, hmin⟩ := range_facts hb h64 (c := 1) rfl
      have ho := bits_or k1 hp
      repeat' (first
  | refine gSq ?_ | refine gSk ?_ | refine gBl ?_ | refine gIb ?_ | refine gEx rfl ?_
  | ((first
  | (refine gRg [] [0, 1, 4, 5, 6, 12] ?_; intro K hK)
  | (refine gDr 5 [] 9 [0, 1, 2, 3, 4, 5, 6, 7, 8, 9] [0, 1, 4, 5, 6, 12] rfl ?_; intro K hK)
  | (refine gd_split ?_ ?_ <;> intro hb <;> (try simp only [bls] at hb) <;> (try simp only [hb]))
  | refine gRt [] [.cell 4 38] rfl ?_ | refine gDn [] [.cell 4 38] rfl ?_) <;> (try simp only [go_sem, simprocAttr, w2, e4, e7, hd, hm, hmin, hsh, ho, IntKind.bits]))
  | (refine hK _ _ ?_; clear hK K; simp only [go_sem, simprocAttr])
  | refine gCd (by simp only [go_sem, simprocAttr]; rfl) rfl ?_
  | refine brT ?_ | refine brF ?_
  | (refine brS ?_ ?_ <;> intro hc <;> (try simp only [bls] at hc) <;> (try simp only [hc, bls]))
  | intro _ | refine And.intro ?_ ?_)
      all_goals first | omega | (unfold bigLen; omega) | exact ⟨_, _, ⟨rfl, rfl⟩, rfl⟩ | exact ⟨_, rfl⟩ | (rename_i hy; simp only [List.mem_singleton] at hy; subst hy; rfl) | skip
      refine AGood.prune [0, 1, 4, 5, 6] ?_; simp only [go_sem, simprocAttr]
      exact ih.cast rfl rfl
    · obtain ⟨hd, hm, hmin⟩ := range_facts hb h64 (c := 2) rfl
      have ho := bits_or k2 hp
      repeat' (first
  | refine gSq ?_ | refine gSk ?_ | refine gBl ?_ | refine gIb ?_ | refine gEx rfl ?_
  | ((first
  | (refine gRg [] [0, 1, 4, 5, 6, 12] ?_; intro K hK)
  | (refine gDr 5 [] 9 [0, 1, 2, 3, 4, 5, 6, 7, 8, 9] [0, 1, 4, 5, 6, 12] rfl ?_; intro K hK)
  | (refine gd_split ?_ ?_ <;> intro hb <;> (try simp only [bls] at hb) <;> (try simp only [hb]))
  | refine gRt [] [.cell 4 38] rfl ?_ | refine gDn [] [.cell 4 38] rfl ?_) <;> (try simp only [go_sem, simprocAttr, w2, e4, e7, hd, hm, hmin, hsh, ho, IntKind.bits]))
  | (refine hK _ _ ?_; clear hK K; simp only [go_sem, simprocAttr])
  | refine gCd (by simp only [go_sem, simprocAttr]; rfl) rfl ?_
  | refine brT ?_ | refine brF ?_
  | (refine brS ?_ ?_ <;> intro hc <;> (try simp only [bls] at hc) <;> (try simp only [hc, bls]))
  | intro _ | refine And.intro ?_ ?_)
      all_goals first | omega | (unfold bigLen; omega) | exact ⟨_, _, ⟨rfl, rfl⟩, rfl⟩ | exact ⟨_, rfl⟩ | (rename_i hy; simp only [List.mem_singleton] at hy; subst hy; rfl) | skip
      refine AGood.prune [0, 1, 4, 5, 6] ?_; simp only [go_sem, simprocAttr]
      exact ih.cast rfl rfl
    · obtain ⟨hd, hm, hmin⟩ := range_facts hb h64 (c := 3) rfl
      have ho := bits_or k3 hp
      repeat' (first
  | refine gSq ?_ | refine gSk ?_ | refine gBl ?_ | refine gIb ?_ | refine gEx rfl ?_
  | ((first
  | (refine gRg [] [0, 1, 4, 5, 6, 12] ?_; intro K hK)
  | (refine gDr 5 [] 9 [0, 1, 2, 3, 4, 5, 6, 7, 8, 9] [0, 1, 4, 5, 6, 12] rfl ?_; intro K hK)
  | (refine gd_split ?_ ?_ <;> intro hb <;> (try simp only [bls] at hb) <;> (try simp only [hb]))
  | refine gRt [] [.cell 4 38] rfl ?_ | refine gDn [] [.cell 4 38] rfl ?_) <;> (try simp only [go_sem, simprocAttr, w2, e4, e7, hd, hm, hmin, hsh, ho, IntKind.bits]))
  | (refine hK _ _ ?_; clear hK K; simp only [go_sem, simprocAttr])
  | refine gCd (by simp only [go_sem, simprocAttr]; rfl) rfl ?_
  | refine brT ?_ | refine brF ?_
  | (refine brS ?_ ?_ <;> intro hc <;> (try simp only [bls] at hc) <;> (try simp only [hc, bls]))
  | intro _ | refine And.intro ?_ ?_)
      all_goals first | omega | (unfold bigLen; omega) | exact ⟨_, _, ⟨rfl, rfl⟩, rfl⟩ | exact ⟨_, rfl⟩ | (rename_i hy; simp only [List.mem_singleton] at hy; subst hy; rfl) | skip
      refine AGood.prune [0, 1, 4, 5, 6] ?_; simp only [go_sem, simprocAttr]
      exact ih.cast rfl rfl
  · have e4 : ¬ ((lo + i : Nat) : Int) ≤ (hi : Int) := by omega
    have e5 : i = hi + 1 - lo := by omega
    subst e5
    simp only [rangeS]
    generalize (List.range (hi + 1 - lo)).foldl (fun s i => s.add (lo + i)) nzero = s
    obtain ⟨s0, s1, s2, s3⟩ := s
    repeat' (first
  | refine gSq ?_ | refine gSk ?_ | refine gBl ?_ | refine gIb ?_ | refine gEx rfl ?_
  | ((first
  | (refine gRg [] [0, 1, 4, 5, 6, 12] ?_; intro K hK)
  | (refine gDr 5 [] 9 [0, 1, 2, 3, 4, 5, 6, 7, 8, 9] [0, 1, 4, 5, 6, 12] rfl ?_; intro K hK)
  | (refine gd_split ?_ ?_ <;> intro hb <;> (try simp only [bls] at hb) <;> (try simp only [hb]))
  | refine gRt [] [.cell 4 38] rfl ?_ | refine gDn [] [.cell 4 38] rfl ?_) <;> (try simp only [go_sem, simprocAttr, w1, w2, e4]))
  | (refine hK _ _ ?_; clear hK K; simp only [go_sem, simprocAttr])
  | refine gCd (by simp only [go_sem, simprocAttr]; rfl) rfl ?_
  | refine brT ?_ | refine brF ?_
  | (refine brS ?_ ?_ <;> intro hc <;> (try simp only [bls] at hc) <;> (try simp only [hc, bls]))
  | intro _ | refine And.intro ?_ ?_)

theorem not2uc : ACall Tryd.prog 58 [.agg nzero.I.cells] [] fun r s' => r = .agg nfull.I.cells ∧ s' = [] := by
  have hx : bitsOf .xor .u64 IntKind.u64.max 0 = 18446744073709551615 := by kernel_rfl
  have hs : IntKind.u64.signed = false := rfl
  simp only [nzero, Int.natCast_zero]
  refine ACall.enter Tryd.func58 rfl (by kernel_rfl) (Nat.le_of_ble_eq_true rfl) ?_; simp only [initTm, Nat.reduceAdd]
  repeat' (first
  | refine AGood.loopAt 2 ?_
    | refine AGood.inLoopAt 2 ?_
  | refine gSq ?_ | refine gSk ?_ | refine gBl ?_ | refine gIb ?_ | refine gEx rfl ?_
  | ((first
  | (refine gRg [] [0, 1, 2, 3, 4, 5, 6, 7] ?_; intro K hK)
  | (refine gd_split ?_ ?_ <;> intro hb <;> (try simp only [bls] at hb) <;> (try simp only [hb]))
  | refine gRt [] [.cell 2 38] rfl ?_ | refine gDn [] [.cell 2 38] rfl ?_) <;> (try simp only [go_sem, simprocAttr, hx, hs]))
  | (refine hK _ _ ?_; clear hK K; simp only [go_sem, simprocAttr])
  | refine gCd (by simp only [go_sem, simprocAttr]; rfl) rfl ?_
  | refine brT ?_ | refine brF ?_
  | (refine brS ?_ ?_ <;> intro hc <;> (try simp only [bls] at hc) <;> (try simp only [hc, bls]))
  | intro _ | refine And.intro ?_ ?_)
  all_goals first | omega | (unfold bigLen; omega) | exact ⟨_, _, ⟨rfl, rfl⟩, rfl⟩ | exact ⟨_, rfl⟩ | (rename_i hy; simp only [List.mem_singleton] at hy; subst hy; rfl) | skip
  rfl

theorem or2uc (q f : Bool) (l : List NSet) (hok : ∀ s ∈ l, s.ok) (hl : l.length ≤ 1000000) : ACall Tryd.prog 43 [.sl q f (nsets l)] [] fun r s' => r = .agg (l.foldl NSet.or nzero).I.cells ∧ s' = [] := by
  refine ACall.enter Tryd.func43 rfl (by kernel_rfl) (Nat.le_of_ble_eq_true rfl) ?_; simp only [initTm, Nat.reduceAdd]
  repeat' (first
  | refine gSq ?_ | refine gSk ?_ | refine gBl ?_ | refine gIb ?_ | refine gEx rfl ?_
  | ((first
  | (refine gRg [] [0, 2, 3, 5, 6, 7, 8, 9, 10, 11, 14, 15, 16] ?_; intro K hK)
  | (refine gd_split ?_ ?_ <;> intro hb <;> (try simp only [bls] at hb) <;> (try simp only [hb]))
  | refine gRt [] [.cell 2 38] rfl ?_ | refine gDn [] [.cell 2 38] rfl ?_) <;> (try simp only [go_sem, simprocAttr]))
  | (refine hK _ _ ?_; clear hK K; simp only [go_sem, simprocAttr])
  | refine gCd (by simp only [go_sem, simprocAttr]; rfl) rfl ?_
  | refine brT ?_ | refine brF ?_
  | (refine brS ?_ ?_ <;> intro hc <;> (try simp only [bls] at hc) <;> (try simp only [hc, bls]))
  | intro _ | refine And.intro ?_ ?_)
  rename_i h2 h3
  refine AGood.prune [0, 2, 3, 8, 9, 10] ?_; simp only [go_sem, simprocAttr]
  refine AGood.loopInv (α := Nat) (fun i => ([(0, .sl q f (nsets l)), (2, .bx 2 h2 0), (3, .bx 3 h3 0), (8, .sl q f (nsets l)), (9, .int .i64 l.length), (10, .int .i64 i)], [(2, h2, .box ISet.none.cells), (3, h3, .box ((l.take i).foldl NSet.or nzero).I.cells)])) (fun i => i ≤ l.length ∧ ((l.take i).foldl NSet.or nzero).ok) (fun i => l.length - i) 0 ⟨Nat.zero_le _, by simp [nzero, NSet.ok]⟩ rfl ?_
  rintro i ⟨hi, hk⟩ ih
  simp only
  by_cases hle : i < l.length
  · have e4 : (i : Int) < l.length := by omega
    have e5 : (0 : Int) ≤ i := by omega
    have hx : l[i]? = some l[i] := List.getElem?_eq_getElem hle
    have hb := hok l[i] (List.getElem_mem hle)
    have ht : (l.take (i + 1)).foldl NSet.or nzero = ((l.take i).foldl NSet.or nzero).or l[i] := by rw [take_one hx, List.foldl_append]; rfl
    generalize l[i] = b at hx hb ht
    have hok2 : ((l.take (i + 1)).foldl NSet.or nzero).ok := by rw [ht]; exact or_ok hk hb
    have ih := ih (i + 1) ⟨by omega, hok2⟩ (by omega)
    simp only [ht] at ih
    generalize (l.take i).foldl NSet.or nzero = s at hk ih ⊢
    obtain ⟨s0, s1, s2, s3⟩ := s
    obtain ⟨b0, b1, b2, b3⟩ := b
    obtain ⟨k0, k1, k2, k3⟩ := hk
    obtain ⟨j0, j1, j2, j3⟩ := hb
    simp only at k0 k1 k2 k3 j0 j1 j2 j3
    have o0 := bits_or k0 j0
    have o1 := bits_or k1 j1
    have o2 := bits_or k2 j2
    have o3 := bits_or k3 j3
    repeat' (first
  | refine AGood.loopAt 6 ?_
    | refine AGood.inLoopAt 6 ?_
  | refine gSq ?_ | refine gSk ?_ | refine gBl ?_ | refine gIb ?_ | refine gEx rfl ?_
  | ((first
  | (refine gRg [] [0, 2, 3, 5, 6, 7, 8, 9, 10, 11, 14, 15, 16] ?_; intro K hK)
  | (refine gd_split ?_ ?_ <;> intro hb <;> (try simp only [bls] at hb) <;> (try simp only [hb]))
  | refine gRt [] [.cell 2 38] rfl ?_ | refine gDn [] [.cell 2 38] rfl ?_) <;> (try simp only [go_sem, simprocAttr, e4, e5, hx, o0, o1, o2, o3, Option.some.injEq, forall_eq']))
  | (refine hK _ _ ?_; clear hK K; simp only [go_sem, simprocAttr])
  | refine gCd (by simp only [go_sem, simprocAttr]; rfl) rfl ?_
  | refine brT ?_ | refine brF ?_
  | (refine brS ?_ ?_ <;> intro hc <;> (try simp only [bls] at hc) <;> (try simp only [hc, bls]))
  | intro _ | refine And.intro ?_ ?_)
    all_goals first | omega | (unfold bigLen; omega) | exact ⟨_, _, ⟨rfl, rfl⟩, rfl⟩ | exact ⟨_, rfl⟩ | (rename_i hy; simp only [List.mem_singleton] at hy; subst hy; rfl) | skip
    refine AGood.filt [2, 3] ?_
    simp only [sf_cons, sf_nil, go_sem, simprocAttr]
    refine AGood.prune [0, 2, 3, 8, 9, 10] ?_; simp only [go_sem, simprocAttr]
    exact ih.cast rfl rfl
  · have e4 : ¬ (i : Int) < l.length := by omega
    rw [List.take_of_length_le (by omega)]
    generalize l.foldl NSet.or nzero = s
    obtain ⟨s0, s1, s2, s3⟩ := s
    repeat' (first
  | refine gSq ?_ | refine gSk ?_ | refine gBl ?_ | refine gIb ?_ | refine gEx rfl ?_
  | ((first
  | (refine gRg [] [0, 2, 3, 5, 6, 7, 8, 9, 10, 11, 14, 15, 16] ?_; intro K hK)
  | (refine gd_split ?_ ?_ <;> intro hb <;> (try simp only [bls] at hb) <;> (try simp only [hb]))
  | refine gRt [] [.cell 2 38] rfl ?_ | refine gDn [] [.cell 2 38] rfl ?_) <;> (try simp only [go_sem, simprocAttr, e4]))
  | (refine hK _ _ ?_; clear hK K; simp only [go_sem, simprocAttr])
  | refine gCd (by simp only [go_sem, simprocAttr]; rfl) rfl ?_
  | refine brT ?_ | refine brF ?_
  | (refine brS ?_ ?_ <;> intro hc <;> (try simp only [bls] at hc) <;> (try simp only [hc, bls]))
  | intro _ | refine And.intro ?_ ?_)
theorem and2uc (q f : Bool) (l : List NSet) (hok : ∀ s ∈ l, s.ok) (hl : l.length ≤ 1000000) : ACall Tryd.prog 41 [.sl q f (nsets l)] [] fun r s' => r = .agg (l.foldl NSet.and nfull).I.cells ∧ s' = [] := by
  have hnot := not2uc
  simp only [nzero, nfull, Int.natCast_zero] at hnot
  refine ACall.enter Tryd.func41 rfl (by kernel_rfl) (Nat.le_of_ble_eq_true rfl) ?_; simp only [initTm, Nat.reduceAdd]
  repeat' (first
  | refine gSq ?_ | refine gSk ?_ | refine gBl ?_ | refine gIb ?_ | refine gEx rfl ?_
  | ((first
  | (refine gRg [] [0, 2, 3, 5, 6, 7, 10, 11, 12, 13, 16, 17, 18] ?_; intro K hK)
  | refine cAl (hnot) rfl rfl rfl ?_
  | (refine gd_split ?_ ?_ <;> intro hb <;> (try simp only [bls] at hb) <;> (try simp only [hb]))
  | refine gRt [] [.cell 2 38] rfl ?_ | refine gDn [] [.cell 2 38] rfl ?_) <;> (try simp only [go_sem, simprocAttr]))
  | (refine hK _ _ ?_; clear hK K; simp only [go_sem, simprocAttr])
  | refine gCd (by simp only [go_sem, simprocAttr]; rfl) rfl ?_
  | refine brT ?_ | refine brF ?_
  | (refine brS ?_ ?_ <;> intro hc <;> (try simp only [bls] at hc) <;> (try simp only [hc, bls]))
  | intro _ | refine And.intro ?_ ?_)
  rename_i h2 h3
  refine AGood.prune [0, 2, 3, 10, 11, 12] ?_; simp only [go_sem, simprocAttr]
  refine AGood.loopInv (α := Nat) (fun i => ([(0, .sl q f (nsets l)), (2, .bx 2 h2 0), (3, .bx 3 h3 0), (10, .sl q f (nsets l)), (11, .int .i64 l.length), (12, .int .i64 i)], [(2, h2, .box ISet.none.cells), (3, h3, .box ((l.take i).foldl NSet.and nfull).I.cells)])) (fun i => i ≤ l.length ∧ ((l.take i).foldl NSet.and nfull).ok) (fun i => l.length - i) 0 ⟨Nat.zero_le _, by simp [nfull, NSet.ok]⟩ rfl ?_
  rintro i ⟨hi, hk⟩ ih
  simp only
  by_cases hle : i < l.length
  · have e4 : (i : Int) < l.length := by omega
    have e5 : (0 : Int) ≤ i := by omega
    have hx : l[i]? = some l[i] := List.getElem?_eq_getElem hle
    have hb := hok l[i] (List.getElem_mem hle)
    have ht : (l.take (i + 1)).foldl NSet.and nfull = ((l.take i).foldl NSet.and nfull).and l[i] := by rw [take_one hx, List.foldl_append]; rfl
    generalize l[i] = b at hx hb ht
    have hok2 : ((l.take (i + 1)).foldl NSet.and nfull).ok := by rw [ht]; exact and_ok hk
    have ih := ih (i + 1) ⟨by omega, hok2⟩ (by omega)
    simp only [ht] at ih
    generalize (l.take i).foldl NSet.and nfull = s at hk ih ⊢
    obtain ⟨s0, s1, s2, s3⟩ := s
    obtain ⟨b0, b1, b2, b3⟩ := b
    obtain ⟨k0, k1, k2, k3⟩ := hk
    obtain ⟨j0, j1, j2, j3⟩ := hb
    simp only at k0 k1 k2 k3 j0 j1 j2 j3
    have o0 := bits_and k0 j0
    have o1 := bits_and k1 j1
    have o2 := bits_and k2 j2
    have o3 := bits_and k3 j3
    repeat' (first
  | refine AGood.loopAt 6 ?_
    | refine AGood.inLoopAt 6 ?_
  | refine gSq ?_ | refine gSk ?_ | refine gBl ?_ | refine gIb ?_ | refine gEx rfl ?_
  | ((first
  | (refine gRg [] [0, 2, 3, 5, 6, 7, 10, 11, 12, 13, 16, 17, 18] ?_; intro K hK)
  | (refine gd_split ?_ ?_ <;> intro hb <;> (try simp only [bls] at hb) <;> (try simp only [hb]))
  | refine gRt [] [.cell 2 38] rfl ?_ | refine gDn [] [.cell 2 38] rfl ?_) <;> (try simp only [go_sem, simprocAttr, e4, e5, hx, o0, o1, o2, o3, Option.some.injEq, forall_eq']))
  | (refine hK _ _ ?_; clear hK K; simp only [go_sem, simprocAttr])
  | refine gCd (by simp only [go_sem, simprocAttr]; rfl) rfl ?_
  | refine brT ?_ | refine brF ?_
  | (refine brS ?_ ?_ <;> intro hc <;> (try simp only [bls] at hc) <;> (try simp only [hc, bls]))
  | intro _ | refine And.intro ?_ ?_)
    all_goals first | omega | (unfold bigLen; omega) | exact ⟨_, _, ⟨rfl, rfl⟩, rfl⟩ | exact ⟨_, rfl⟩ | (rename_i hy; simp only [List.mem_singleton] at hy; subst hy; rfl) | skip
    refine AGood.filt [2, 3] ?_
    simp only [sf_cons, sf_nil, go_sem, simprocAttr]
    refine AGood.prune [0, 2, 3, 10, 11, 12] ?_; simp only [go_sem, simprocAttr]
    exact ih.cast rfl rfl
  · have e4 : ¬ (i : Int) < l.length := by omega
    rw [List.take_of_length_le (by omega)]
    generalize l.foldl NSet.and nfull = s
    obtain ⟨s0, s1, s2, s3⟩ := s
    repeat' (first
  | refine gSq ?_ | refine gSk ?_ | refine gBl ?_ | refine gIb ?_ | refine gEx rfl ?_
  | ((first
  | (refine gRg [] [0, 2, 3, 5, 6, 7, 10, 11, 12, 13, 16, 17, 18] ?_; intro K hK)
  | (refine gd_split ?_ ?_ <;> intro hb <;> (try simp only [bls] at hb) <;> (try simp only [hb]))
  | refine gRt [] [.cell 2 38] rfl ?_ | refine gDn [] [.cell 2 38] rfl ?_) <;> (try simp only [go_sem, simprocAttr, e4]))
  | (refine hK _ _ ?_; clear hK K; simp only [go_sem, simprocAttr])
  | refine gCd (by simp only [go_sem, simprocAttr]; rfl) rfl ?_
  | refine brT ?_ | refine brF ?_
  | (refine brS ?_ ?_ <;> intro hc <;> (try simp only [bls] at hc) <;> (try simp only [hc, bls]))
  | intro _ | refine And.intro ?_ ?_)
end Go.Rad
/- The bits of a word, one by one from the lowest. -/
namespace Go.Rad
open Go
theorem clear_low {n k : Nat} (hd : 2 ^ k ∣ n) (h0 : n ≠ 0) : 2 ^ (k + 1) ∣ n &&& (n - 1) := by
  obtain ⟨q, rfl⟩ := hd
  have hq : q ≠ 0 := by rintro rfl; simp at h0
  have hp : 0 < 2 ^ k := Nat.pow_pos (by decide)
  refine Nat.dvd_of_mod_eq_zero (Nat.eq_of_testBit_eq fun i => ?_)
  rw [Nat.testBit_mod_two_pow, Nat.zero_testBit, Nat.testBit_and]
  by_cases hi : i < k + 1
  · simp only [hi, decide_true, Bool.true_and]
    rcases Nat.lt_or_ge i k with h | h
    · rw [Nat.testBit_two_pow_mul]
      simp [Nat.not_le.2 h]
    · have : i = k := by omega
      subst this
      have e : 2 ^ i * q - 1 = 2 ^ i * (q - 1) + (2 ^ i - 1) := by
        have : 2 ^ i * q = 2 ^ i * (q - 1) + 2 ^ i := by
          rw [← Nat.mul_succ]; congr 1; omega
        omega
      rw [Nat.testBit_two_pow_mul, e, Nat.testBit_two_pow_mul_add _ (by omega)]
      simp only [Nat.le_refl, decide_true, Nat.sub_self, Nat.lt_irrefl, if_false, Bool.true_and]
      simp only [Nat.testBit_zero]
      by_cases h1 : q % 2 = 1
      · have : ¬ (q - 1) % 2 = 1 := by omega
        simp [this]
      · simp [h1]
  · simp [hi]
theorem clear_lt {n : Nat} (h0 : n ≠ 0) : n &&& (n - 1) < n := Nat.lt_of_le_of_lt Nat.and_le_right (by omega)
theorem dvd_lt {n k : Nat} (hd : 2 ^ k ∣ n) (h0 : n ≠ 0) (hn : n < 18446744073709551616) : k < 64 := by
  have h1 := Nat.le_of_dvd (Nat.pos_of_ne_zero h0) hd
  rcases Nat.lt_or_ge k 64 with h | h
  · exact h
  · exfalso
    have : 2 ^ 64 ≤ 2 ^ k := Nat.pow_le_pow_right (by decide) h
    have h64 : (2 : Nat) ^ 64 = 18446744073709551616 := by decide
    rw [h64] at this
    omega
end Go.Rad
