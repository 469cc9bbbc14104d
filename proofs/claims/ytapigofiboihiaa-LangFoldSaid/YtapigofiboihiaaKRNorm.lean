/- Trees with what their names stand for. -/
import Derived.Test.YtapigofiboihiaaKRNode
set_option linter.all false
namespace Go.Rad
open Go

abbrev Out := List Node × Int × Int
def atF (A : List Int) (k : Int) : Int := A.getD k.toNat 0
def putS (n : Node) (A : List Int) (out : List Node) : Out :=
  if 1024 ≤ out.length then (out, 0, 3) else (out ++ [{ n with l := n.l.map (atF A) }], out.length, 0)
def stepT (nm : ByteArray → List Node → Out) (n : Node) (A : List Int) (out : List Node) : Out := if n.op = 6 then nm n.name out else putS n A out
def goT (nm : ByteArray → List Node → Out) : List Node → List Int → List Node → Out
  | [], A, out => (out, A.getLastD 0, 0)
  | n :: ns, A, out =>
    if (stepT nm n A out).2.2 = 0 then goT nm ns (A ++ [(stepT nm n A out).2.1]) (stepT nm n A out).1
    else ((stepT nm n A out).1, 0, (stepT nm n A out).2.2)
def dfind (ds : List Df) (s : ByteArray) : Option Df := ds.find? fun d => decide (d.name = s)
def hasB (op : List ByteArray) (s : ByteArray) : Bool := op.any fun x => decide (x = s)
theorem hasB_iff {op : List ByteArray} {s : ByteArray} : hasB op s = true ↔ s ∈ op := by
  simp [hasB]
theorem hasB_no {op : List ByteArray} {s : ByteArray} : hasB op s = false ↔ s ∉ op := by
  rw [← hasB_iff]; simp
def nameT (ds : List Df) : Nat → List ByteArray → ByteArray → List Node → Out
  | 0, _, _, out => (out, 0, 61)
  | f + 1, op, s, out =>
    match dfind ds s with
    | none => (out, 0, 60)
    | some d => if hasB op s = true then (out, 0, 61) else goT (nameT ds f (op ++ [s])) d.l [] out

def dmap (ds : List Df) : List (ByteArray × AVal) := ds.map fun d => (d.name, .sl true false (nodes d.l))
def omap (op : List ByteArray) : List (ByteArray × AVal) := op.map fun s => (s, .bool true)
theorem mfind_dmap (ds : List Df) (s : ByteArray) : mfind (dmap ds) s = (dfind ds s).map fun d => .sl true false (nodes d.l) := by
  simp only [mfind, dmap, dfind, List.find?_map, Option.map_map]
  rfl
theorem mfind_omap (op : List ByteArray) (s : ByteArray) : mfind (omap op) s = if hasB op s = true then some (AVal.bool true) else none := by
  induction op with
  | nil => rfl
  | cons x op ih =>
    simp only [mfind, omap, List.map_cons, List.find?_cons, hasB, List.any_cons] at ih ⊢
    by_cases h : x = s
    · subst h; simp
    · simp only [h, decide_false, Bool.false_or]
      exact ih
theorem mput_omap {op : List ByteArray} {s : ByteArray} (h : s ∉ op) : mput (omap op) s (.bool true) = omap (op ++ [s]) := by
  induction op with
  | nil => rfl
  | cons x op ih =>
    simp only [List.mem_cons, not_or] at h
    simp only [omap, List.map_cons, mput, List.cons_append, if_neg (Ne.symm h.1)]
    rw [show mput (List.map (fun s => (s, AVal.bool true)) op) s (AVal.bool true) = _ from ih h.2]
    rfl
theorem mdel_omap {op : List ByteArray} {s : ByteArray} (h : s ∉ op) : mdel (omap (op ++ [s])) s = omap op := by
  induction op with
  | nil => simp [omap, mdel]
  | cons x op ih =>
    simp only [List.mem_cons, not_or] at h
    simp only [omap, List.map_cons, mdel, List.cons_append, if_neg (Ne.symm h.1)]
    rw [show mdel (List.map (fun s => (s, AVal.bool true)) (op ++ [s])) s = _ from ih h.2]
    rfl
theorem mput_dmap {ds : List Df} {d : Df} (h : ∀ e ∈ ds, e.name ≠ d.name) : mput (dmap ds) d.name (.sl true false (nodes d.l)) = dmap (ds ++ [d]) := by
  induction ds with
  | nil => rfl
  | cons x ds ih =>
    simp only [dmap, List.map_cons, mput, List.cons_append, if_neg (h x (by simp))]
    rw [show mput (List.map (fun d => (d.name, AVal.sl true false (nodes d.l))) ds) d.name (AVal.sl true false (nodes d.l)) = _ from ih fun e he => h e (by simp [he])]
    rfl

theorem bk_tm {σ : Ids} : bk σ .nil = .nil := rfl
theorem put_row {W xl : List Int} {F : Int → Int} {i : Nat} {k : Int} (hW : W = (xl.take i).map F ++ xl.drop i) (hk : xl[i]? = some k) : W.length = xl.length ∧ W[i]? = some k ∧ W.set i (F k) = (xl.take (i + 1)).map F ++ xl.drop (i + 1) := by
  have hi : i < xl.length := (List.getElem?_eq_some_iff.1 hk).1
  subst hW
  refine ⟨by simp; omega, ?_, ?_⟩
  · rw [List.getElem?_append_right (by simp; omega)]
    simp only [List.length_map, List.length_take, Nat.min_eq_left (Nat.le_of_lt hi), Nat.sub_self, List.getElem?_drop, Nat.add_zero]
    exact hk
  · have hd : xl.drop i = k :: xl.drop (i + 1) := by
      rw [List.drop_eq_getElem_cons hi]
      rw [List.getElem?_eq_getElem hi] at hk
      rw [Option.some.inj hk]
    rw [hd, List.set_append_right _ _ (by simp; omega)]
    simp only [List.length_map, List.length_take, Nat.min_eq_left (Nat.le_of_lt hi), Nat.sub_self, List.set_cons_zero]
    rw [take_one hk, List.map_append]
    simp
theorem clean_ints (l : List Int) : cleanLL (ints l) = true := by
  induction l with
  | nil => rfl
  | cons x l ih => simpa [ints, cleanLL, cleanL, clean] using ih
theorem clean_nodes (l : List Node) : cleanLL (nodes l) = true := by
  induction l with
  | nil => rfl
  | cons x l ih =>
    have := clean_ints x.l
    simp only [nodes, List.map_cons, cleanLL, cleanL, clean, this, Bool.and_self, Bool.and_true, Bool.true_and] at ih ⊢
    exact ih
theorem clean_dmap (ds : List Df) : cleanM (dmap ds) = true := by
  induction ds with
  | nil => rfl
  | cons x l ih =>
    have := clean_nodes x.l
    simp only [dmap, List.map_cons, cleanM, clean, this, Bool.and_self, Bool.and_true, Bool.true_and] at ih ⊢
    exact ih
theorem clean_omap (op : List ByteArray) : cleanM (omap op) = true := by
  induction op with
  | nil => rfl
  | cons x l ih =>
    simp only [omap, List.map_cons, cleanM, clean, Bool.true_and] at ih ⊢
    exact ih
theorem putS_ext {n : Node} {A W out : _} (h : ∀ k ∈ n.l, atF W k = atF A k) : putS n W out = putS n A out := by
  simp only [putS, List.map_congr_left h]
theorem atF_app {A B : List Int} {k : Int} (h0 : 0 ≤ k) (h : k < A.length) : atF (A ++ B) k = atF A k := by
  have : k.toNat < A.length := by omega
  simp [atF, List.getD, List.getElem?_append_left this]
theorem putS_len {n : Node} {A : List Int} {out : List Node} (h : out.length ≤ 1024) : (putS n A out).1.length ≤ 1024 := by
  unfold putS; split
  · exact h
  · simp only [List.length_append, List.length_cons, List.length_nil]; omega
theorem goT_len {nm : ByteArray → List Node → Out} (hn : ∀ s out, out.length ≤ 1024 → (nm s out).1.length ≤ 1024) : ∀ (l : List Node) (A : List Int) (out : List Node), out.length ≤ 1024 → (goT nm l A out).1.length ≤ 1024
  | [], A, out, h => h
  | n :: ns, A, out, h => by
    have h1 : (stepT nm n A out).1.length ≤ 1024 := by
      unfold stepT
      split
      · exact hn _ _ h
      · exact putS_len h
    rw [goT]
    split
    · exact goT_len hn ns _ _ h1
    · exact h1
theorem nameT_len (ds : List Df) : ∀ (f : Nat) (op : List ByteArray) (s : ByteArray) (out : List Node), out.length ≤ 1024 → (nameT ds f op s out).1.length ≤ 1024
  | 0, _, _, _, h => h
  | f + 1, op, s, out, h => by
    rw [nameT]
    split
    · exact h
    · split
      · exact h
      · exact goT_len (fun s out h => nameT_len ds f _ s out h) _ _ _ h
/-- A tree's nodes, as far as the code leans on it. -/
def treeOk (l : List Node) : Prop := (1 ≤ l.length ∧ l.length ≤ 1000000) ∧ ∀ (i : Nat) (n : Node), l[i]? = some n → n.name.size ≤ maxLen ∧ n.l.length ≤ 1000000 ∧ ∀ k ∈ n.l, 0 ≤ k ∧ k < (i : Int)
def rightD : List ByteArray → List Df → Bool
  | _, [] => true
  | seen, d :: ds => if hasB seen d.name = true ∨ nameOk d.name = false ∨ rightS d.l = false then false else rightD (seen ++ [d.name]) ds
def expandS (l : List Node) (ds : List Df) : List Node × Int :=
  if rightS l = true ∧ rightD [] ds = true then
    if (goT (nameT ds (ds.length + 1) []) l [] []).2.2 = 0 then ((goT (nameT ds (ds.length + 1) []) l [] []).1, 0) else ([], (goT (nameT ds (ds.length + 1) []) l [] []).2.2)
  else ([], 1)
theorem stk_below : ∀ (ns : List Node) (i : Nat) (st st' : List Int), stkS ns i st = some st' → st.length ≤ i → (∀ k ∈ st, 0 ≤ k ∧ k < (i : Int)) → ∀ (j : Nat) (n : Node), ns[j]? = some n → n.l.length ≤ i + j ∧ ∀ k ∈ n.l, 0 ≤ k ∧ k < ((i + j : Nat) : Int)
  | [], _, _, _, _, _, _, j, n, h => by simp at h
  | m :: ns, i, st, st', h, hl, hb, j, n, hj => by
    simp only [stkS] at h
    split at h
    · rename_i hc
      cases j with
      | zero =>
        simp only [List.getElem?_cons_zero, Option.some.injEq] at hj
        subst hj
        refine ⟨by omega, fun k hk => ?_⟩
        rw [← hc.2.2] at hk
        have := hb k (List.mem_of_mem_drop hk)
        omega
      | succ j =>
        have := stk_below ns (i + 1) _ st' h (by simp; omega) (fun k hk => by
          rcases List.mem_append.1 hk with hk | hk
          · have := hb k (List.mem_of_mem_take hk); omega
          · simp only [List.mem_singleton] at hk; omega) j n (by simpa using hj)
        rw [show i + (j + 1) = i + 1 + j by omega]
        exact this
    · cases h
theorem rightS_ok {l : List Node} (h : rightS l = true) (hn : ∀ n ∈ l, n.name.size ≤ maxLen) : treeOk l := by
  obtain ⟨_, _, h1, h2⟩ := rightS_kids h
  simp only [rightS, Bool.and_eq_true] at h
  obtain ⟨_, h3⟩ := h
  split at h3
  · rename_i st hst
    refine ⟨⟨h1, by omega⟩, fun i n hi => ?_⟩
    have := stk_below l 0 [] st hst (Nat.le_refl _) (fun k hk => by simp at hk) i n hi
    have hlt : i < l.length := (List.getElem?_eq_some_iff.1 hi).1
    rw [Nat.zero_add] at this
    exact ⟨hn n (List.mem_of_getElem? hi), by omega, this.2⟩
  · cases h3
theorem rightD_facts : ∀ (ds : List Df) (seen : List ByteArray), rightD seen ds = true → (∀ d ∈ ds, hasB seen d.name = false ∧ nameOk d.name = true ∧ rightS d.l = true) ∧ ∀ (i : Nat) (d : Df), ds[i]? = some d → ∀ e ∈ ds.take i, e.name ≠ d.name
  | [], _, _ => ⟨fun d hd => by simp at hd, fun i d h => by simp at h⟩
  | x :: ds, seen, h => by
    rw [rightD] at h
    split at h
    · cases h
    · rename_i hc
      simp only [not_or, Bool.not_eq_true, Bool.not_eq_false] at hc
      obtain ⟨f1, f2⟩ := rightD_facts ds _ h
      refine ⟨fun d hd => ?_, fun i d hi e he => ?_⟩
      · rcases List.mem_cons.1 hd with rfl | hd
        · exact hc
        · obtain ⟨a, b⟩ := f1 d hd
          refine ⟨?_, b⟩
          simp only [hasB, List.any_append, Bool.or_eq_false_iff] at a ⊢
          exact a.1
      · cases i with
        | zero => simp at he
        | succ i =>
          simp only [List.getElem?_cons_succ] at hi
          simp only [List.take_succ_cons, List.mem_cons] at he
          rcases he with rfl | he
          · have := (f1 d (List.mem_of_getElem? hi)).1
            simp only [hasB, List.any_append, Bool.or_eq_false_iff, List.any_cons, List.any_nil, Bool.or_false, decide_eq_false_iff_not] at this
            exact this.2
          · exact f2 i d hi e he
end Go.Rad
/- The plain laws of names that stand for trees. -/
namespace Go.Rad
open Go

def plainN (n : Node) : Bool := decide (n.op ≠ 6)
def plainS (l : List Node) : Bool := l.all plainN && right4 l

theorem pre_get {a b : List Node} (h : a <+: b) (i : Nat) (n : Node) (hi : a[i]? = some n) : b[i]? = some n := by
  obtain ⟨t, rfl⟩ := h
  rw [List.getElem?_append_left (List.getElem?_eq_some_iff.1 hi).1]
  exact hi
theorem shape_name {n : Node} (h : shapeOk n = true) : n.name.size ≤ 32 := by
  have h0 : ByteArray.empty.size = 0 := rfl
  simp only [shapeOk] at h
  split at h
  · simp only [Bool.and_eq_true, Bool.not_eq_true', decide_eq_false_iff_not, Decidable.not_not] at h; rw [h.1.2, h0]; omega
  · split at h
    · simp only [Bool.and_eq_true, Bool.not_eq_true', decide_eq_false_iff_not, Decidable.not_not] at h; rw [h.1.2, h0]; omega
    · split at h
      · simp only [Bool.and_eq_true, Bool.not_eq_true', decide_eq_false_iff_not, Decidable.not_not] at h; rw [h.1.2, h0]; omega
      · split at h
        · simp only [Bool.and_eq_true, Bool.not_eq_true', decide_eq_false_iff_not, Decidable.not_not] at h; rw [h.1.1.1.2, h0]; omega
        · split at h
          · simp only [Bool.and_eq_true, nameOk, decide_eq_true_eq] at h; exact h.1.2.2
          · cases h
theorem rightS_bounds {l : List Node} (h : rightS l = true) : ∀ n ∈ l, n.name.size ≤ maxLen ∧ n.l.length ≤ maxLen := by
  intro n hn
  obtain ⟨_, hall, _, _⟩ := rightS_kids h
  have hs := shape_name (List.all_eq_true.1 hall n hn)
  obtain ⟨i, hi⟩ := List.mem_iff_getElem?.1 hn
  have := (rightS_ok h (fun n hn => by have := shape_name (List.all_eq_true.1 hall n hn); unfold maxLen; omega)).2 i n hi
  unfold maxLen
  omega

theorem shape_map {n : Node} {F : Int → Int} (h : shapeOk n = true) : shapeOk { n with l := n.l.map F } = true := by
  simp only [shapeOk, List.length_map] at h ⊢
  exact h

theorem atF_new {A : List Int} {v : Int} : atF (A ++ [v]) (A.length : Nat) = v := by
  simp [atF, List.getD]
theorem map_atF {A : List Int} {B : List Int} {l : List Int} (h : ∀ k ∈ l, 0 ≤ k ∧ k < (A.length : Int)) : l.map (atF (A ++ B)) = l.map (atF A) :=
  List.map_congr_left fun k hk => atF_app (h k hk).1 (h k hk).2

def okN (n : Node) : Prop := shapeOk n = true ∧ n.op ≠ 6
/-- What a name's tree is: behind what is there, one tree more, of fit nodes. -/
def NmOk (nm : ByteArray → List Node → Out) : Prop := ∀ s out o2 v, (∀ n ∈ out, okN n) → nm s out = (o2, v, 0) → out <+: o2 ∧ (∀ n ∈ o2, okN n) ∧ Kids o2 out.length [v] o2.length

theorem goT_kids {nm : ByteArray → List Node → Out} (hnm : NmOk nm) : ∀ (ns : List Node) (i : Nat) (st st' : List Int) (A : List Int) (out : List Node) (b : Nat) (o2 : List Node) (v : Int),
    stkS ns i st = some st' → A.length = i → (∀ k ∈ st, 0 ≤ k ∧ k < (i : Int)) → Kids out b (st.map (atF A)) out.length → (∀ n ∈ out, okN n) → goT nm ns A out = (o2, v, 0) →
    out <+: o2 ∧ (∀ n ∈ o2, okN n) ∧ ∃ A2, A2.length = i + ns.length ∧ v = A2.getLastD 0 ∧ (∀ k ∈ st', 0 ≤ k ∧ k < ((i + ns.length : Nat) : Int)) ∧ Kids o2 b (st'.map (atF A2)) o2.length
  | [], i, st, st', A, out, b, o2, v, hst, hA, hk, hkid, hok, h => by
    simp only [stkS, Option.some.injEq] at hst
    simp only [goT, Prod.mk.injEq] at h
    obtain ⟨rfl, rfl, _⟩ := h
    subst hst
    exact ⟨List.prefix_rfl, hok, A, by simpa using hA, rfl, by simpa using hk, hkid⟩
  | n :: ns, i, st, st', A, out, b, o2, v, hst, hA, hk, hkid, hok, h => by
    simp only [stkS] at hst
    split at hst
    · rename_i hc
      obtain ⟨hsh, hle, hdr⟩ := hc
      rw [goT] at h
      split at h
      · rename_i he
        rcases hs : stepT nm n A out with ⟨u, w, e⟩
        rw [hs] at h he
        simp only at h he
        subst he
        have e1 : st = st.take (st.length - n.l.length) ++ n.l := by
          conv => lhs; rw [← List.take_append_drop (st.length - n.l.length) st]
          rw [hdr]
        have hk1 : ∀ k ∈ st.take (st.length - n.l.length), 0 ≤ k ∧ k < (A.length : Int) := fun k hk2 => by have := hk k (List.mem_of_mem_take hk2); omega
        -- the state behind this node
        have hnew : out <+: u ∧ (∀ n ∈ u, okN n) ∧ Kids u b ((st.take (st.length - n.l.length)).map (atF A) ++ [w]) u.length := by
          rw [e1, List.map_append] at hkid
          obtain ⟨m, q1, q2⟩ := hkid.split
          unfold stepT at hs
          split at hs
          · rename_i h6
            have hl0 : n.l = [] := by
              simp only [shapeOk, h6] at hsh
              simp only [show ¬ (6 : Int) = 1 by decide, show ¬ (6 : Int) = 2 by decide, show ¬ ((6 : Int) = 3 ∨ (6 : Int) = 4) by decide, show ¬ (6 : Int) = 5 by decide, if_false, if_true, Bool.and_eq_true, decide_eq_true_eq] at hsh
              exact List.eq_nil_of_length_eq_zero hsh.2
            obtain ⟨r1, r3, r2⟩ := hnm _ _ _ _ hok hs
            rw [hl0, List.map_nil] at q2
            cases q2
            exact ⟨r1, r3, (q1.mono (pre_get r1)).append r2⟩
          · rename_i h6
            unfold putS at hs
            split at hs
            · simp at hs
            · simp only [Prod.mk.injEq] at hs
              obtain ⟨rfl, rfl, _⟩ := hs
              have hp : out <+: out ++ [{ n with l := n.l.map (atF A) }] := List.prefix_append _ _
              refine ⟨hp, fun x hx => ?_, ?_⟩
              · rcases List.mem_append.1 hx with hx | hx
                · exact hok x hx
                · simp only [List.mem_singleton] at hx
                  subst hx
                  exact ⟨shape_map hsh, h6⟩
              · refine (q1.mono (pre_get hp)).append ?_
                have hc : Kids (out ++ [{ n with l := n.l.map (atF A) }]) m [((out.length : Nat) : Int)] (out.length + 1) := .cons (n := { n with l := n.l.map (atF A) }) (by simp) (q2.mono (pre_get hp)) .nil
                simpa using hc
        obtain ⟨n1, n2, n3⟩ := hnew
        have e2 : (st.take (st.length - n.l.length) ++ [(i : Int)]).map (atF (A ++ [w])) = (st.take (st.length - n.l.length)).map (atF A) ++ [w] := by
          rw [List.map_append, map_atF hk1, List.map_cons, List.map_nil, ← hA, atF_new]
        obtain ⟨p1, p2, A2, p3, p4, p5, p6⟩ := goT_kids hnm ns (i + 1) _ st' (A ++ [w]) u b o2 v hst (by simp [hA]) (fun k hk2 => by
          rcases List.mem_append.1 hk2 with hk2 | hk2
          · have := hk k (List.mem_of_mem_take hk2); omega
          · simp only [List.mem_singleton] at hk2; omega) (by rw [e2]; exact n3) n2 h
        refine ⟨n1.trans p1, p2, A2, by rw [p3]; simp; omega, p4, fun k hk2 => ?_, p6⟩
        have := p5 k hk2
        simp only [List.length_cons]; omega
      · rename_i he
        simp only [Prod.mk.injEq] at h
        exact absurd h.2.2 he
    · cases hst

theorem goT_tree {nm : ByteArray → List Node → Out} (hnm : NmOk nm) {l : List Node} (hl : rightS l = true) {out o2 : List Node} {v : Int} (hok : ∀ n ∈ out, okN n) (h : goT nm l [] out = (o2, v, 0)) : out <+: o2 ∧ (∀ n ∈ o2, okN n) ∧ Kids o2 out.length [v] o2.length := by
  obtain ⟨hkl, _, h1, h2⟩ := rightS_kids hl
  simp only [rightS, Bool.and_eq_true] at hl
  obtain ⟨_, h3⟩ := hl
  split at h3
  · rename_i st hst
    obtain ⟨p1, p2, A2, p3, p4, p5, p6⟩ := goT_kids hnm l 0 [] st [] out out.length o2 v hst rfl (fun k hk => by simp at hk) (by rw [List.map_nil]; exact .nil) hok h
    have hk := stk_kids l l 0 [] st rfl hst .nil
    rw [Nat.zero_add] at hk
    simp only [decide_eq_true_eq] at h3
    match st, h3, hk, p6 with
    | [k], _, hk, p6 =>
      have e := hk.one.1
      refine ⟨p1, p2, ?_⟩
      rw [List.map_cons, List.map_nil] at p6
      have : atF A2 k = v := by
        rw [p4, e]
        obtain ⟨m, hm⟩ : ∃ m, l.length = m + 1 := ⟨l.length - 1, by omega⟩
        rw [hm, List.getLastD_eq_getLast?, List.getLast?_eq_getElem?, p3, hm]
        simp [atF, List.getD]
      rw [this] at p6
      exact p6
  · cases h3

theorem nameT_ok {ds : List Df} (hds : ∀ d ∈ ds, rightS d.l = true) : ∀ (f : Nat) (op : List ByteArray), NmOk (nameT ds f op) := by
  intro f
  induction f with
  | zero => intro op s out o2 v _ h; simp [nameT] at h
  | succ f ih =>
    intro op s out o2 v hok h
    rw [nameT] at h
    split at h
    · simp at h
    · rename_i d hf
      split at h
      · simp at h
      · exact goT_tree (ih _) (hds d (List.mem_of_find?_eq_some hf)) hok h

theorem goT_plain {nm : ByteArray → List Node → Out} {l : List Node} (hp : ∀ n ∈ l, n.op ≠ 6) (hlen : l.length ≤ 1024) (hk : ∀ (i : Nat) (n : Node), l[i]? = some n → ∀ k ∈ n.l, 0 ≤ k ∧ k < (i : Int)) :
    ∀ (r i : Nat), i + r = l.length → goT nm (l.drop i) (rg i) (l.take i) = (l, (rg l.length).getLastD 0, 0)
  | 0, i, h => by
    have : i = l.length := by omega
    subst this
    simp [goT]
  | r + 1, i, h => by
    have hlt : i < l.length := by omega
    have hx : l[i]? = some l[i] := List.getElem?_eq_getElem hlt
    have hmap : l[i].l.map (atF (rg i)) = l[i].l := by
      conv => rhs; rw [← List.map_id l[i].l]
      refine List.map_congr_left fun k hk2 => ?_
      have := hk i _ hx k hk2
      obtain ⟨m, rfl⟩ : ∃ m : Nat, k = m := ⟨k.toNat, by omega⟩
      have hm : m < i := by omega
      simp [atF, List.getD, List.getElem?_range, hm]
    have hs : stepT nm l[i] (rg i) (l.take i) = (l.take (i + 1), (i : Int), 0) := by
      rw [stepT, if_neg (hp _ (List.getElem_mem hlt)), putS, if_neg (by simp; omega), hmap, take_one hx]
      have e : (l.take i).length = i := by rw [List.length_take]; omega
      rw [e]
    rw [List.drop_eq_getElem_cons hlt, goT, hs]
    simp only [if_true]
    rw [← rg_succ]
    exact goT_plain hp hlen hk r (i + 1) (by omega)

theorem expand_plain {l : List Node} {ds : List Df} (hp : ∀ n ∈ l, n.op ≠ 6) (hr : rightS l = true) (hd : rightD [] ds = true) : expandS l ds = (l, 0) := by
  have hn := fun n hn => (rightS_bounds hr n hn).1
  have ht := rightS_ok hr hn
  obtain ⟨_, _, h1, h2⟩ := rightS_kids hr
  have := goT_plain (nm := nameT ds (ds.length + 1) []) hp h2 (fun i n hi => (ht.2 i n hi).2.2) l.length 0 (by omega)
  simp only [List.drop_zero, List.take_zero] at this
  rw [show rg 0 = [] from rfl] at this
  rw [expandS, if_pos ⟨hr, hd⟩, this]
  simp

theorem expand_ok {l : List Node} {ds : List Df} {x : List Node} (h : expandS l ds = (x, 0)) : rightS l = true ∧ rightD [] ds = true ∧ rightS x = true ∧ ∀ n ∈ x, okN n := by
  rw [expandS] at h
  split at h
  · rename_i hc
    split at h
    · rename_i he
      simp only [Prod.mk.injEq, and_true] at h
      rcases hg : goT (nameT ds (ds.length + 1) []) l [] [] with ⟨o2, v, e⟩
      rw [hg] at he h
      simp only at he h
      subst he h
      obtain ⟨hf1, _⟩ := rightD_facts ds [] hc.2
      obtain ⟨p1, p2, p3⟩ := goT_tree (nameT_ok (fun d hd => (hf1 d hd).2.2) (ds.length + 1) []) hc.1 (by simp) hg
      have hlen := goT_len (nm := nameT ds (ds.length + 1) []) (fun s out h => nameT_len ds _ _ s out h) l [] [] (by simp)
      rw [hg] at hlen
      exact ⟨hc.1, hc.2, kids_rightS p3 (List.all_eq_true.2 fun n hn => (p2 n hn).1) hlen, p2⟩
    · rename_i he
      simp only [Prod.mk.injEq] at h
      exact absurd h.2 he
  · simp at h
theorem expand_no {l : List Node} {ds : List Df} (h : (expandS l ds).2 ≠ 0) : (expandS l ds).1 = [] := by
  rw [expandS] at h ⊢
  split
  · rename_i hc
    rw [if_pos hc] at h
    split
    · rename_i he; rw [if_pos he] at h; exact absurd rfl h
    · rfl
  · rfl

theorem law_plain {l : List Node} {ds : List Df} {x : List Node} (h : expandS l ds = (x, 0)) : plainS x = true ∧ expandS x [] = (x, 0) ∧ expandS x ds = (x, 0) ∧ (plainS l = true → x = l) := by
  obtain ⟨h1, h2, h3, h4⟩ := expand_ok h
  refine ⟨?_, expand_plain (fun n hn => (h4 n hn).2) h3 rfl, expand_plain (fun n hn => (h4 n hn).2) h3 h2, fun hp => ?_⟩
  · simp only [plainS, Bool.and_eq_true, List.all_eq_true]
    exact ⟨fun n hn => decide_eq_true (h4 n hn).2, by rw [← right_eq]; exact h3⟩
  · simp only [plainS, Bool.and_eq_true, List.all_eq_true] at hp
    have := expand_plain (ds := ds) (fun n hn => of_decide_eq_true (hp.1 n hn)) h1 h2
    rw [this] at h
    exact (Prod.mk.inj h).1.symm
end Go.Rad
/- Trees as forests, and as lists of nodes. -/
namespace Go.Rad
open Go

structure Lb where
  op : Int
  s : ISet
  lo : Int
  hi : Int
  name : ByteArray
  deriving DecidableEq, Inhabited
abbrev Lb.node (b : Lb) (l : List Int) : Node := ⟨b.op, b.s, l, b.lo, b.hi, b.name⟩
abbrev Node.lb (n : Node) : Lb := ⟨n.op, n.s, n.lo, n.hi, n.name⟩

/-- Some trees in a row: the first one's root and kids, and the trees behind it. -/
inductive Fo where
  | nil
  | node (b : Lb) (k r : Fo)

namespace Fo
def size : Fo → Nat
  | .nil => 0
  | .node _ k r => k.size + 1 + r.size
def deg : Fo → Nat
  | .nil => 0
  | .node _ _ r => r.deg + 1
def app : Fo → Fo → Fo
  | .nil, g => g
  | .node b k r, g => .node b k (r.app g)
abbrev one (b : Lb) (k : Fo) : Fo := .node b k .nil
def roots : Fo → Nat → List Int
  | .nil, _ => []
  | .node _ k r, i => ((i + k.size : Nat) : Int) :: r.roots (i + k.size + 1)
def lay : Fo → Nat → List Node
  | .nil, _ => []
  | .node b k r, i => k.lay i ++ b.node (k.roots i) :: r.lay (i + k.size + 1)
def labels : Fo → List Lb
  | .nil => []
  | .node b k r => k.labels ++ b :: r.labels

theorem app_nil (f : Fo) : f.app .nil = f := by
  induction f with
  | nil => rfl
  | node b k r _ ih => simp only [app, ih]
theorem app_assoc (f g h : Fo) : (f.app g).app h = f.app (g.app h) := by
  induction f with
  | nil => rfl
  | node b k r _ ih => simp only [app, ih]
theorem size_app (f g : Fo) : (f.app g).size = f.size + g.size := by
  induction f with
  | nil => simp [app, size]
  | node b k r _ ih => simp only [app, size, ih]; omega
theorem deg_app (f g : Fo) : (f.app g).deg = f.deg + g.deg := by
  induction f with
  | nil => simp [app, deg]
  | node b k r _ ih => simp only [app, deg, ih]; omega
theorem roots_app (f g : Fo) (i : Nat) : (f.app g).roots i = f.roots i ++ g.roots (i + f.size) := by
  induction f generalizing i with
  | nil => simp [app, roots, size]
  | node b k r _ ih => simp only [app, roots, ih, size, List.cons_append]; congr 3; omega
theorem lay_app (f g : Fo) (i : Nat) : (f.app g).lay i = f.lay i ++ g.lay (i + f.size) := by
  induction f generalizing i with
  | nil => simp [app, lay, size]
  | node b k r _ ih => simp only [app, lay, ih, size, List.append_assoc, List.cons_append]; congr 4; omega
theorem labels_app (f g : Fo) : (f.app g).labels = f.labels ++ g.labels := by
  induction f with
  | nil => rfl
  | node b k r _ ih => simp only [app, labels, ih, List.append_assoc, List.cons_append]
theorem lay_len (f : Fo) (i : Nat) : (f.lay i).length = f.size := by
  induction f generalizing i with
  | nil => rfl
  | node b k r ih1 ih2 => simp only [lay, List.length_append, List.length_cons, ih1, ih2, size]; omega
theorem roots_len (f : Fo) (i : Nat) : (f.roots i).length = f.deg := by
  induction f generalizing i with
  | nil => rfl
  | node b k r ih1 ih2 => simp only [roots, List.length_cons, ih2, deg]
theorem lay_labels (f : Fo) (i : Nat) : (f.lay i).map Node.lb = f.labels := by
  induction f generalizing i with
  | nil => rfl
  | node b k r ih1 ih2 => simp only [lay, List.map_append, List.map_cons, ih1, ih2, labels]
theorem deg_le (f : Fo) : f.deg ≤ f.size := by
  induction f with
  | nil => exact Nat.le_refl _
  | node b k r _ ih => simp only [deg, size]; omega
theorem roots_one {f : Fo} (h : f.deg = 1) (i : Nat) : f.roots i = [((i + f.size : Nat) : Int) - 1] := by
  match f, h with
  | .node b k .nil, _ => simp only [roots, size]; congr 1; omega
theorem size_pos {f : Fo} (h : f.deg = 1) : 1 ≤ f.size := by have := deg_le f; omega

/-- Where a forest's trees stand within nodes. -/
def Sub (ns : List Node) : Fo → List Int → Prop
  | .nil, ks => ks = []
  | .node b k r, ks => ∃ (i : Nat) (n : Node) (ks' : List Int), ks = (i : Int) :: ks' ∧ ns[i]? = some n ∧ n.lb = b ∧ k.Sub ns n.l ∧ r.Sub ns ks'
theorem Sub.len {ns : List Node} {f : Fo} {ks : List Int} (h : f.Sub ns ks) : ks.length = f.deg := by
  induction f generalizing ks with
  | nil => simp only [Sub] at h; subst h; rfl
  | node b k r _ ih => obtain ⟨i, n, ks', rfl, _, _, _, h⟩ := h; simp only [List.length_cons, deg, ih h]
theorem Sub.mono {ns ns' : List Node} (hm : ∀ (i : Nat) (n : Node), ns[i]? = some n → ns'[i]? = some n) {f : Fo} {ks : List Int} (h : f.Sub ns ks) : f.Sub ns' ks := by
  induction f generalizing ks with
  | nil => exact h
  | node b k r ih1 ih2 =>
    obtain ⟨i, n, ks', e, h1, h2, h3, h4⟩ := h
    exact ⟨i, n, ks', e, hm _ _ h1, h2, ih1 h3, ih2 h4⟩

theorem of_kids {ns : List Node} {lo hi : Nat} {ks : List Int} (h : Kids ns lo ks hi) : ∃ f : Fo, f.Sub ns ks ∧ ks = f.roots lo ∧ hi = lo + f.size ∧ ns.take lo ++ f.lay lo = ns.take hi := by
  induction h with
  | nil => exact ⟨.nil, rfl, rfl, rfl, by simp [lay]⟩
  | @cons lo k hi n ks h1 h2 h3 ih1 ih2 =>
    obtain ⟨f, a1, a2, a3, a4⟩ := ih1
    obtain ⟨g, b1, b2, b3, b4⟩ := ih2
    refine ⟨.node n.lb f g, ⟨k, n, ks, rfl, h1, rfl, a1, b1⟩, ?_, ?_, ?_⟩
    · simp only [roots, ← a3]; rw [← b2]
    · simp only [size]; omega
    · simp only [lay, ← a3]
      rw [← List.append_assoc, a4, ← b4, take_one h1, List.append_assoc, List.cons_append, List.nil_append, show n.lb.node (f.roots lo) = n by rw [← a2]]
theorem to_kids {ns : List Node} : ∀ (f : Fo) (pre : List Node), pre ++ f.lay pre.length <+: ns → Kids ns pre.length (f.roots pre.length) (pre.length + f.size) ∧ f.Sub ns (f.roots pre.length)
  | .nil, pre, _ => ⟨.nil, rfl⟩
  | .node b k r, pre, h => by
    simp only [lay, ← List.append_assoc] at h
    have h' : pre ++ k.lay pre.length ++ [b.node (k.roots pre.length)] ++ r.lay (pre.length + k.size + 1) <+: ns := by simpa using h
    have h1 : pre ++ k.lay pre.length <+: ns := (List.prefix_append _ _).trans h
    obtain ⟨a1, a2⟩ := to_kids k pre h1
    have e : (pre ++ k.lay pre.length ++ [b.node (k.roots pre.length)]).length = pre.length + k.size + 1 := by simp [lay_len]; omega
    obtain ⟨b1, b2⟩ := to_kids r (pre ++ k.lay pre.length ++ [b.node (k.roots pre.length)]) (by rw [e]; exact h')
    rw [e] at b1 b2
    have hn : ns[pre.length + k.size]? = some (b.node (k.roots pre.length)) := by
      refine pre_get ((List.prefix_append _ _).trans h') _ _ ?_
      rw [List.getElem?_append_right (by simp [lay_len])]
      simp [lay_len]
    refine ⟨?_, _, _, _, rfl, hn, rfl, a2, b2⟩
    simp only [roots, size]
    rw [show pre.length + (k.size + 1 + r.size) = pre.length + k.size + 1 + r.size by omega]
    exact .cons hn a1 b1

theorem of_right {l : List Node} (h : rightS l = true) : ∃ b k, l = (one b k).lay 0 ∧ (one b k).Sub l [(l.length : Int) - 1] ∧ (one b k).size = l.length := by
  obtain ⟨h1, _, h2, _⟩ := rightS_kids h
  obtain ⟨f, a1, a2, a3, a4⟩ := of_kids h1
  have hd := a1.len
  match f, hd with
  | .node b k .nil, _ =>
    refine ⟨b, k, ?_, a1, by show (Fo.node b k .nil).size = _; omega⟩
    simpa using a4.symm
theorem to_right {f : Fo} (hd : f.deg = 1) (hs : (f.lay 0).all shapeOk = true) (h1 : f.size ≤ 1024) : rightS (f.lay 0) = true := by
  obtain ⟨a, _⟩ := to_kids f [] (List.prefix_rfl)
  simp only [List.length_nil, roots_one hd, Nat.zero_add] at a
  exact kids_rightS (by simpa [lay_len] using a) hs (by rw [lay_len]; exact h1)
theorem sub_lay {f : Fo} (hd : f.deg = 1) : f.Sub (f.lay 0) [(f.size : Int) - 1] := by
  obtain ⟨_, a⟩ := to_kids f [] (List.prefix_rfl)
  simpa [roots_one hd] using a

/-- Whether a label may stand over so many kids. -/
def shapeL (b : Lb) (d : Nat) : Bool := shapeOk (b.node (List.replicate d 0))
theorem shape_len {b : Lb} {l : List Int} : shapeOk (b.node l) = shapeL b l.length := by
  simp only [shapeL, shapeOk, List.length_replicate]
/-- All labels, with what stands below them. -/
def all (P : Lb → Fo → Bool) : Fo → Bool
  | .nil => true
  | .node b k r => P b k && k.all P && r.all P
theorem all_app (P : Lb → Fo → Bool) (f g : Fo) : (f.app g).all P = (f.all P && g.all P) := by
  induction f with
  | nil => simp [app, all]
  | node b k r _ ih => simp only [app, all, ih, Bool.and_assoc]
theorem all_mono {P Q : Lb → Fo → Bool} (h : ∀ b k, P b k = true → Q b k = true) {f : Fo} (hf : f.all P = true) : f.all Q = true := by
  induction f with
  | nil => rfl
  | node b k r ih1 ih2 =>
    simp only [all, Bool.and_eq_true] at hf ⊢
    exact ⟨⟨h _ _ hf.1.1, ih1 hf.1.2⟩, ih2 hf.2⟩
theorem all_and {P Q : Lb → Fo → Bool} (f : Fo) : f.all (fun b k => P b k && Q b k) = (f.all P && f.all Q) := by
  induction f with
  | nil => rfl
  | node b k r ih1 ih2 => simp only [all, ih1, ih2]; cases P b k <;> cases Q b k <;> cases k.all P <;> cases k.all Q <;> cases r.all P <;> cases r.all Q <;> rfl
abbrev shapeF (f : Fo) : Bool := f.all fun b k => shapeL b k.deg
theorem lay_shape (f : Fo) (i : Nat) : (f.lay i).all shapeOk = f.shapeF := by
  induction f generalizing i with
  | nil => rfl
  | node b k r ih1 ih2 =>
    simp only [lay, List.all_append, List.all_cons, ih1, ih2, shape_len, roots_len, shapeF, all]
    cases shapeL b k.deg <;> cases k.all (fun b k => shapeL b k.deg) <;> rfl
/-- What holds of all nodes, by what stands below them. -/
theorem lay_all {ns : List Node} {P : Lb → Fo → Bool} {Q : Node → Bool} (hPQ : ∀ (n : Node) (k : Fo), k.Sub ns n.l → Q n = P n.lb k) : ∀ (f : Fo) (pre : List Node), pre ++ f.lay pre.length <+: ns → (f.lay pre.length).all Q = f.all P
  | .nil, _, _ => rfl
  | .node b k r, pre, h => by
    simp only [lay, ← List.append_assoc] at h
    have h' : pre ++ k.lay pre.length ++ [b.node (k.roots pre.length)] ++ r.lay (pre.length + k.size + 1) <+: ns := by simpa using h
    have h1 : pre ++ k.lay pre.length <+: ns := (List.prefix_append _ _).trans h
    obtain ⟨_, a2⟩ := to_kids k pre h1
    have e : (pre ++ k.lay pre.length ++ [b.node (k.roots pre.length)]).length = pre.length + k.size + 1 := by simp [lay_len]; omega
    have b1 := lay_all hPQ r (pre ++ k.lay pre.length ++ [b.node (k.roots pre.length)]) (by rw [e]; exact h')
    rw [e] at b1
    have c1 := lay_all hPQ k pre h1
    simp only [lay, List.all_append, List.all_cons, c1, b1, all, hPQ (b.node (k.roots pre.length)) k a2]
    cases P b k <;> cases k.all P <;> rfl
theorem lay_all0 {P : Lb → Fo → Bool} {Q : Node → Bool} {f : Fo} (hPQ : ∀ (n : Node) (k : Fo), k.Sub (f.lay 0) n.l → Q n = P n.lb k) : (f.lay 0).all Q = f.all P :=
  lay_all hPQ f [] List.prefix_rfl
/-- Nodes are a tree: by a forest of one root. -/
theorem right_iff {l : List Node} : rightS l = true ↔ ∃ f : Fo, f.deg = 1 ∧ l = f.lay 0 ∧ f.shapeF = true ∧ f.size ≤ 1024 := by
  constructor
  · intro h
    obtain ⟨_, h2, h3, h4⟩ := rightS_kids h
    obtain ⟨b, k, h1, _, h5⟩ := of_right h
    exact ⟨one b k, rfl, h1, by rw [← lay_shape _ 0, ← h1]; exact h2, by rw [h5]; exact h4⟩
  · rintro ⟨f, h1, rfl, h2, h3⟩
    exact to_right h1 (by rw [lay_shape]; exact h2) h3
end Fo
end Go.Rad
/- Plans: what the code and the document write out, and that both are one forest. -/
namespace Go.Rad
open Go

/-! Without the refs of names. -/
theorem goT_ref {nm : ByteArray → List Node → Out} (hnm : ∀ s out, (nm s out).2.2 ≠ 0) : ∀ (l : List Node) (A : List Int) (out : List Node), (goT nm l A out).2.2 = 0 → ∀ n ∈ l, n.op ≠ 6
  | [], _, _, _, n, hn => by simp at hn
  | m :: l, A, out, h, n, hn => by
    rw [goT] at h
    split at h
    · rename_i he
      rcases List.mem_cons.1 hn with rfl | hn
      · intro h6
        rw [stepT, if_pos h6] at he
        exact hnm _ _ he
      · exact goT_ref hnm l _ _ h n hn
    · rename_i he; exact absurd h he
theorem nameT_none (f : Nat) (op : List ByteArray) (s : ByteArray) (out : List Node) : (nameT [] f op s out).2.2 ≠ 0 := by
  cases f with
  | zero => simp [nameT]
  | succ f => simp [nameT, dfind]
theorem plain_iff (l : List Node) : decide ((expandS l []).2 = 0) = plainS l := by
  rw [Bool.eq_iff_iff, decide_eq_true_eq]
  constructor
  · intro h
    have hx : expandS l [] = ((expandS l []).1, 0) := Prod.ext rfl h
    obtain ⟨h1, _, _, _⟩ := expand_ok hx
    simp only [plainS, Bool.and_eq_true, List.all_eq_true]
    refine ⟨fun n hn => decide_eq_true ?_, by rw [← right_eq]; exact h1⟩
    rw [expandS, if_pos ⟨h1, rfl⟩] at h
    split at h
    · rename_i he
      exact goT_ref (nameT_none _ _) l [] [] he n hn
    · rename_i he; exact absurd h he
  · intro h
    simp only [plainS, Bool.and_eq_true, List.all_eq_true] at h
    rw [expand_plain (fun n hn => of_decide_eq_true (h.1 n hn)) (by rw [right_eq]; exact h.2) rfl]

/-! What a plan is, of forests. -/
def opL (op : Int) : Lb := ⟨op, ISet.none, 0, 0, ByteArray.empty⟩
def repL (lo hi : Int) : Lb := ⟨5, ISet.none, lo, hi, ByteArray.empty⟩
def Lb.bare (b : Lb) : Lb := ⟨b.op, b.s, 0, 0, ByteArray.empty⟩
abbrev opNd (op : Int) (l : List Int) : Node := ⟨op, ISet.none, l, 0, 0, ByteArray.empty⟩
abbrev repNd (lo hi k : Int) : Node := ⟨5, ISet.none, [k], lo, hi, ByteArray.empty⟩
namespace Fo
def starT (p : Fo) : Fo := one (repL 0 (-1)) p
def restT (p : Fo) : Nat → Fo
  | 0 => .nil
  | m + 1 => one (opL 4) ((one (opL 1) .nil).app (if m = 0 then p else one (opL 3) (p.app (restT p m))))
def copies (p : Fo) : Nat → Fo
  | 0 => .nil
  | n + 1 => p.app (copies p n)
def rowOf (p : Fo) (lo hi : Int) : Fo := (p.copies lo.toNat).app (if hi = -1 then p.starT else if lo < hi then p.restT (hi - lo).toNat else .nil)
def catT (f : Fo) : Fo := if f.deg = 1 then f else one (opL 3) f
def rowT (p : Fo) (lo hi : Int) : Fo := (rowOf p lo hi).catT
def isBytes : Fo → Bool
  | .node b _ _ => decide (b.op = 2)
  | .nil => false
def repT (most lo hi : Int) (bytes : Bool) (p : Fo) : Fo :=
  if bytes = false then p.rowT lo hi
  else if most < hi then (if 0 < lo then one (repL lo hi) p else one (opL 4) ((one (opL 1) .nil).app (one (repL 1 hi) p)))
  else if hi = -1 ∧ max most 1 < lo then one (opL 3) ((one (repL lo lo) p).app p.starT)
  else p.rowT lo hi
def planT (most : Int) : Fo → Fo
  | .nil => .nil
  | .node b k r => (if b.op = 5 then repT most b.lo b.hi k.isBytes (k.planT most) else one b.bare (k.planT most)).app (r.planT most)
theorem catT_deg (f : Fo) : f.catT.deg = 1 := by
  unfold catT; split
  · assumption
  · rfl
theorem repT_deg (most lo hi : Int) (bytes : Bool) (p : Fo) : (repT most lo hi bytes p).deg = 1 := by
  unfold repT
  split
  · exact catT_deg _
  · split
    · split <;> rfl
    · split
      · rfl
      · exact catT_deg _
theorem planT_deg (most : Int) (f : Fo) : (f.planT most).deg = f.deg := by
  induction f with
  | nil => rfl
  | node b k r _ ih =>
    simp only [planT, deg_app, ih, deg]
    split
    · rw [repT_deg]; omega
    · simp only [deg]; omega
theorem rest_deg (p : Fo) (m : Nat) : (restT p (m + 1)).deg = 1 := rfl
end Fo
open Fo

/-! The code's way. -/
abbrev PO := List Node × Int
abbrev pushP (n : Node) (out : List Node) : PO := (out ++ [n], out.length)
def restM (pl : List Node → PO) : Nat → List Node → PO
  | 0, out => (out, 0)
  | m + 1, out =>
    if 1024 ≤ out.length then pushP (opNd 1 []) out
    else if m = 0 then pushP (opNd 4 [out.length, (pl (out ++ [opNd 1 []])).2]) (pl (out ++ [opNd 1 []])).1
    else pushP (opNd 4 [out.length, (restM pl m (pl (out ++ [opNd 1 []])).1).1.length]) ((restM pl m (pl (out ++ [opNd 1 []])).1).1 ++ [opNd 3 [(pl (out ++ [opNd 1 []])).2, (restM pl m (pl (out ++ [opNd 1 []])).1).2]])
def rowL (pl : List Node → PO) : Nat → List Node → List Int → (List Node × List Int) × Bool
  | 0, out, row => ((out, row), true)
  | n + 1, out, row => if 1024 < out.length then ((out, row), false) else rowL pl n (pl out).1 (row ++ [(pl out).2])
def rowE (pl : List Node → PO) (lo hi : Int) (a : List Node × List Int) : List Node × List Int :=
  if hi = -1 then ((pl a.1).1 ++ [repNd 0 (-1) (pl a.1).2], a.2 ++ [((pl a.1).1.length : Int)])
  else if lo < hi then ((restM pl (hi - lo).toNat a.1).1, a.2 ++ [(restM pl (hi - lo).toNat a.1).2])
  else a
def catM (b : List Node × List Int) : PO := if b.2.length = 1 then (b.1, b.2.headD 0) else pushP (opNd 3 b.2) b.1
def rowM (pl : List Node → PO) (lo hi : Int) (out : List Node) : PO :=
  if (rowL pl lo.toNat out []).2 = false then ((rowL pl lo.toNat out []).1.1, 0) else catM (rowE pl lo hi (rowL pl lo.toNat out []).1)
def cntM (pl : List Node → PO) (lo hi : Int) (out : List Node) : PO :=
  if 0 < lo then pushP (repNd lo hi (pl out).2) (pl out).1
  else pushP (opNd 4 [out.length, (pl (out ++ [opNd 1 []])).1.length]) ((pl (out ++ [opNd 1 []])).1 ++ [repNd 1 hi (pl (out ++ [opNd 1 []])).2])
def endM (pl : List Node → PO) (lo : Int) (out : List Node) : PO :=
  pushP (opNd 3 [(pl out).1.length, (pl ((pl out).1 ++ [repNd lo lo (pl out).2])).1.length]) ((pl ((pl out).1 ++ [repNd lo lo (pl out).2])).1 ++ [repNd 0 (-1) (pl ((pl out).1 ++ [repNd lo lo (pl out).2])).2])
def repM (pl : List Node → PO) (most : Int) (bytes : Bool) (lo hi : Int) (out : List Node) : PO :=
  if bytes = false then rowM pl lo hi out
  else if most < hi then cntM pl lo hi out
  else if hi = -1 ∧ max most 1 < lo then endM pl lo out
  else rowM pl lo hi out
def kidsM (pl : Int → List Node → PO) : List Int → List Node → List Int → List Node × List Int
  | [], out, ks => (out, ks)
  | k :: l, out, ks => kidsM pl l (pl k out).1 (ks ++ [(pl k out).2])
def kid0 (n : Node) : Int := n.l.headD 0
def nAt (ns : List Node) (k : Int) : Node := ns.getD k.toNat default
def planM (ns : List Node) (most : Int) : Nat → Int → List Node → PO
  | 0, _, out => (out, 0)
  | f + 1, k, out =>
    if 1024 < out.length then (out, 0)
    else if (nAt ns k).op = 5 then repM (planM ns most f (kid0 (nAt ns k))) most (decide ((nAt ns (kid0 (nAt ns k))).op = 2)) (nAt ns k).lo (nAt ns k).hi out
    else pushP ⟨(nAt ns k).op, (nAt ns k).s, (kidsM (planM ns most f) (nAt ns k).l out []).2, 0, 0, ByteArray.empty⟩ (kidsM (planM ns most f) (nAt ns k).l out []).1
def planS (ns : List Node) (most : Int) : List Node × Int :=
  if most < 1 ∨ 4096 < most ∨ plainS ns = false then ([], 1)
  else if 1024 < (planM ns most ns.length ((ns.length : Int) - 1) []).1.length then ([], 3)
  else ((planM ns most ns.length ((ns.length : Int) - 1) []).1, 0)

/-- What puts a forest, as far as there is room. -/
def FOk (s : List Node → List Node × List Int) (f : Fo) : Prop := ∀ out, (out.length + f.size ≤ 1024 → s out = (out ++ f.lay out.length, f.roots out.length)) ∧ (1024 < out.length + f.size → 1024 < (s out).1.length)
def seqS (s t : List Node → List Node × List Int) (out : List Node) : List Node × List Int := ((t (s out).1).1, (s out).2 ++ (t (s out).1).2)
def wrapS (b : Lb) (s : List Node → List Node × List Int) (out : List Node) : List Node × List Int := ((s out).1 ++ [b.node (s out).2], [((s out).1.length : Int)])
abbrev nilS (out : List Node) : List Node × List Int := (out, [])
abbrev sg (pl : List Node → PO) (out : List Node) : List Node × List Int := ((pl out).1, [(pl out).2])
theorem FOk.nil : FOk nilS .nil := fun out => ⟨fun _ => by simp [lay, roots], fun h => by simpa [size] using h⟩
theorem FOk.seq {s t : List Node → List Node × List Int} {f g : Fo} (hs : FOk s f) (ht : FOk t g) : FOk (seqS s t) (f.app g) := by
  intro out
  rw [size_app]
  by_cases h1 : out.length + f.size ≤ 1024
  · have e := (hs out).1 h1
    have el : (out ++ f.lay out.length).length = out.length + f.size := by simp [lay_len]
    obtain ⟨t1, t2⟩ := ht (out ++ f.lay out.length)
    rw [el] at t1 t2
    refine ⟨fun h => ?_, fun h => ?_⟩
    · simp only [seqS, e]
      rw [t1 (by omega), lay_app, roots_app]
      simp
    · simp only [seqS, e]
      exact t2 (by omega)
  · have e := (hs out).2 (by omega)
    refine ⟨fun h => by omega, fun _ => ?_⟩
    exact (ht (s out).1).2 (by omega)
theorem FOk.wrap {s : List Node → List Node × List Int} {f : Fo} (b : Lb) (hs : FOk s f) : FOk (wrapS b s) (one b f) := by
  intro out
  simp only [size, Nat.add_zero]
  by_cases h1 : out.length + f.size ≤ 1024
  · have e := (hs out).1 h1
    refine ⟨fun h => ?_, fun h => ?_⟩
    · simp only [wrapS, e, lay, roots]
      simp [lay_len]
    · simp only [wrapS, e]
      simp [lay_len]; omega
  · have e := (hs out).2 (by omega)
    refine ⟨fun h => by omega, fun _ => ?_⟩
    simp only [wrapS, List.length_append]; omega
theorem FOk.guard {s s' : List Node → List Node × List Int} {f : Fo} (h : ∀ out, s' out = s out ∨ (1024 < (s' out).1.length ∧ 1024 < out.length + f.size)) (hs : FOk s f) : FOk s' f := by
  intro out
  rcases h out with e | ⟨e1, e2⟩
  · rw [e]; exact hs out
  · exact ⟨fun h => by omega, fun _ => e1⟩
theorem FOk.eq {s s' : List Node → List Node × List Int} {f : Fo} (h : ∀ out, s' out = s out) (hs : FOk s f) : FOk s' f := hs.guard fun out => .inl (h out)

theorem rest_ok {pl : List Node → PO} {p : Fo} (hp : FOk (sg pl) p) : ∀ m, FOk (sg (restM pl (m + 1))) (restT p (m + 1))
  | 0 => by
    refine FOk.guard (s := wrapS (opL 4) (seqS (wrapS (opL 1) nilS) (sg pl))) (fun out => ?_) ?_
    · by_cases h : 1024 ≤ out.length
      · refine .inr ⟨?_, ?_⟩
        · simp only [sg, restM, if_pos h, pushP, List.length_append, List.length_cons, List.length_nil]; omega
        · simp only [restT, size, size_app]; omega
      · exact .inl (by simp only [sg, restM, if_neg h, if_true]; rfl)
    · exact ((FOk.nil.wrap _).seq hp).wrap _
  | m + 1 => by
    refine FOk.guard (s := wrapS (opL 4) (seqS (wrapS (opL 1) nilS) (wrapS (opL 3) (seqS (sg pl) (sg (restM pl (m + 1))))))) (fun out => ?_) ?_
    · by_cases h : 1024 ≤ out.length
      · refine .inr ⟨?_, ?_⟩
        · simp only [sg, restM, if_pos h, pushP, List.length_append, List.length_cons, List.length_nil]; omega
        · simp only [restT, size, size_app]; omega
      · refine .inl ?_
        have hm : ¬ m + 1 = 0 := by omega
        simp only [sg]
        rw [restM, if_neg h, if_neg hm]
        rfl
    · exact ((FOk.nil.wrap _).seq ((hp.seq (rest_ok hp m)).wrap _)).wrap _
theorem rowL_ok {pl : List Node → PO} {p : Fo} (hp : FOk (sg pl) p) : ∀ (n : Nat) (out : List Node) (row : List Int), (out.length + (copies p n).size ≤ 1024 → rowL pl n out row = ((out ++ (copies p n).lay out.length, row ++ (copies p n).roots out.length), true)) ∧ (1024 < out.length + (copies p n).size → 1024 < (rowL pl n out row).1.1.length)
  | 0, out, row => by simp [rowL, copies, lay, roots, size]
  | n + 1, out, row => by
    rw [rowL]
    split
    · rename_i h
      exact ⟨fun h2 => by omega, fun _ => h⟩
    · rename_i h
      obtain ⟨a1, a2⟩ := hp out
      obtain ⟨b1, b2⟩ := rowL_ok hp n (pl out).1 (row ++ [(pl out).2])
      simp only [copies, size_app]
      by_cases h1 : out.length + p.size ≤ 1024
      · have e := a1 h1
        simp only [sg, Prod.mk.injEq] at e
        rw [e.1] at b1 b2 ⊢
        have el : (out ++ p.lay out.length).length = out.length + p.size := by simp [lay_len]
        rw [el] at b1 b2
        refine ⟨fun h2 => ?_, fun h2 => b2 (by omega)⟩
        rw [b1 (by omega), lay_app, roots_app, e.2]
        simp
      · have e := a2 (by omega)
        exact ⟨fun h2 => by omega, fun _ => b2 (by simp only [sg] at e; omega)⟩
theorem cat_ok {s : List Node → List Node × List Int} {f : Fo} (hs : FOk s f) : FOk (sg fun out => catM (s out)) f.catT := by
  intro out
  by_cases h1 : out.length + f.size ≤ 1024
  · have e := (hs out).1 h1
    unfold catT
    split
    · rename_i hd
      simp only [sg, catM, e, roots_len, hd, if_true]
      refine ⟨fun _ => ?_, fun h => by omega⟩
      rw [roots_one hd]; rfl
    · rename_i hd
      simp only [sg, catM, e, roots_len, hd, if_false]
      have := (hs.wrap (opL 3)) out
      simp only [wrapS, e] at this
      exact this
  · have e := (hs out).2 (by omega)
    refine ⟨fun h => ?_, fun _ => ?_⟩
    · unfold catT at h
      split at h
      · omega
      · simp only [size] at h; omega
    · simp only [sg, catM]
      split
      · exact e
      · simp only [pushP, List.length_append]; omega
theorem row_ok {pl : List Node → PO} {p : Fo} (hp : FOk (sg pl) p) (lo hi : Int) : FOk (sg (rowM pl lo hi)) (p.rowT lo hi) := by
  have hL : FOk (fun out => (rowL pl lo.toNat out []).1) (copies p lo.toNat) := fun out => by
    obtain ⟨a, b⟩ := rowL_ok hp lo.toNat out []
    exact ⟨fun h => by show (rowL pl lo.toNat out []).1 = _; rw [a h]; simp, b⟩
  have hE : FOk (fun out => rowE pl lo hi (rowL pl lo.toNat out []).1) (rowOf p lo hi) := by
    unfold rowOf
    by_cases h1 : hi = -1
    · rw [if_pos h1]
      refine (hL.seq (hp.wrap (repL 0 (-1)))).eq fun out => ?_
      simp only [rowE, if_pos h1]; rfl
    · by_cases h2 : lo < hi
      · rw [if_neg h1, if_pos h2]
        obtain ⟨m, hm⟩ : ∃ m, (hi - lo).toNat = m + 1 := ⟨(hi - lo).toNat - 1, by omega⟩
        rw [hm]
        refine (hL.seq (rest_ok hp m)).eq fun out => ?_
        simp only [rowE, if_neg h1, if_pos h2, hm]; rfl
      · rw [if_neg h1, if_neg h2, app_nil]
        refine hL.eq fun out => ?_
        simp only [rowE, if_neg h1, if_neg h2]
  refine (cat_ok hE).guard fun out => ?_
  simp only [sg, rowM]
  by_cases h : (rowL pl lo.toNat out []).2 = false
  · refine .inr ?_
    rw [if_pos h]
    obtain ⟨a, b⟩ := rowL_ok hp lo.toNat out []
    have hov : 1024 < out.length + (copies p lo.toNat).size := by
      refine Nat.lt_of_not_le fun hle => ?_
      rw [a hle] at h; cases h
    refine ⟨b hov, ?_⟩
    have : (copies p lo.toNat).size ≤ (p.rowT lo hi).size := by
      unfold rowT
      have h3 : (copies p lo.toNat).size ≤ (rowOf p lo hi).size := by simp only [rowOf, size_app]; omega
      unfold catT
      split
      · exact h3
      · simp only [size]; omega
    omega
  · rw [if_neg h]; exact .inl rfl
theorem rep_ok {pl : List Node → PO} {p : Fo} (hp : FOk (sg pl) p) (most : Int) (bytes : Bool) (lo hi : Int) : FOk (sg (repM pl most bytes lo hi)) (repT most lo hi bytes p) := by
  unfold repT
  by_cases h1 : bytes = false
  · rw [if_pos h1]; exact (row_ok hp lo hi).eq fun out => by simp only [sg, repM, if_pos h1]
  · rw [if_neg h1]
    by_cases h2 : most < hi
    · rw [if_pos h2]
      by_cases h3 : 0 < lo
      · rw [if_pos h3]
        exact (hp.wrap (repL lo hi)).eq fun out => by simp only [sg, repM, if_neg h1, if_pos h2, cntM, if_pos h3]; rfl
      · rw [if_neg h3]
        exact (((FOk.nil.wrap (opL 1)).seq (hp.wrap (repL 1 hi))).wrap (opL 4)).eq fun out => by simp only [sg, repM, if_neg h1, if_pos h2, cntM, if_neg h3]; rfl
    · rw [if_neg h2]
      by_cases h3 : hi = -1 ∧ max most 1 < lo
      · rw [if_pos h3]
        exact (((hp.wrap (repL lo lo)).seq (hp.wrap (repL 0 (-1)))).wrap (opL 3)).eq fun out => by simp only [sg, repM, if_neg h1, if_neg h2, if_pos h3, endM]; rfl
      · rw [if_neg h3]
        exact (row_ok hp lo hi).eq fun out => by simp only [sg, repM, if_neg h1, if_neg h2, if_neg h3]
theorem nAt_get {ns : List Node} {i : Nat} {n : Node} (h : ns[i]? = some n) : nAt ns (i : Int) = n := by simp [nAt, List.getD, h]
theorem isBytes_sub {ns : List Node} {k : Fo} {n : Node} (h : k.Sub ns n.l) (hd : k.deg = 1) : decide ((nAt ns (kid0 n)).op = 2) = k.isBytes := by
  match k, hd with
  | .node b k1 .nil, _ =>
    obtain ⟨i, m, ks, e, h1, h2, _, _⟩ := h
    simp only [kid0, e, List.headD_cons, nAt_get h1, isBytes, ← h2]
/-- A repetition has one kid. -/
def repOne (f : Fo) : Bool := f.all fun b k => decide (b.op = 5 → k.deg = 1)
theorem plan_ok {ns : List Node} (most : Int) : ∀ (f : Fo) (ks : List Int) (fuel : Nat), f.Sub ns ks → f.size ≤ fuel → repOne f = true →
    (∀ (k : Int), ks = [k] → FOk (sg (planM ns most fuel k)) (f.planT most)) ∧ (∀ row, FOk (fun out => ((kidsM (planM ns most fuel) ks out row).1, ((kidsM (planM ns most fuel) ks out row).2.drop row.length))) (f.planT most) ∧ ∀ out, (kidsM (planM ns most fuel) ks out row).2 = row ++ (kidsM (planM ns most fuel) ks out row).2.drop row.length)
  | .nil, ks, fuel, hs, _, _ => by
    simp only [Fo.Sub] at hs
    subst hs
    refine ⟨fun k h => by simp at h, fun row => ⟨?_, fun out => by simp [kidsM]⟩⟩
    exact FOk.nil.eq fun out => by simp [kidsM]
  | .node b kf r, ks, fuel, hs, hf, hr => by
    obtain ⟨i, n, ks', rfl, h1, h2, h3, h4⟩ := hs
    simp only [repOne, all, Bool.and_eq_true, decide_eq_true_eq] at hr
    simp only [size] at hf
    obtain ⟨fu, rfl⟩ : ∃ fu, fuel = fu + 1 := ⟨fuel - 1, by omega⟩
    obtain ⟨a1, a2⟩ := plan_ok most kf n.l fu h3 (by omega) hr.1.2
    obtain ⟨b1, b2⟩ := plan_ok most r ks' (fu + 1) h4 (by omega) hr.2
    have hone : FOk (sg (planM ns most (fu + 1) i)) (if b.op = 5 then repT most b.lo b.hi kf.isBytes (kf.planT most) else one b.bare (kf.planT most)) := by
      have hb : b.op = n.op ∧ b.lo = n.lo ∧ b.hi = n.hi ∧ b.s = n.s := by rw [← h2]; exact ⟨rfl, rfl, rfl, rfl⟩
      by_cases h5 : b.op = 5
      · have hd := hr.1.1 h5
        have hl := h3.len
        rw [hd] at hl
        have hkid : n.l = [kid0 n] := by
          match hn : n.l, hl with
          | [x], _ => simp [kid0, hn]
        rw [if_pos h5]
        refine (rep_ok (a1 _ hkid) most kf.isBytes b.lo b.hi).guard fun out => ?_
        simp only [sg, planM, nAt_get h1]
        by_cases ho : 1024 < out.length
        · rw [if_pos ho]
          exact .inr ⟨ho, by omega⟩
        · rw [if_neg ho, if_pos (by rw [← hb.1]; exact h5), isBytes_sub h3 hd, hb.2.1, hb.2.2.1]
          exact .inl rfl
      · rw [if_neg h5]
        obtain ⟨c1, c2⟩ := a2 []
        refine (c1.wrap b.bare).guard fun out => ?_
        simp only [sg, planM, nAt_get h1]
        by_cases ho : 1024 < out.length
        · rw [if_pos ho]
          exact .inr ⟨ho, by omega⟩
        · rw [if_neg ho, if_neg (by rw [← hb.1]; exact h5)]
          refine .inl ?_
          simp only [wrapS, pushP, Lb.bare, hb.1, hb.2.2.2, List.length_nil, List.drop_zero]
    refine ⟨fun k hk => ?_, fun row => ?_⟩
    · simp only [List.cons.injEq] at hk
      obtain ⟨rfl, rfl⟩ := hk
      have : r = .nil := by
        match r, h4 with
        | .nil, _ => rfl
        | .node _ _ _, h4 => obtain ⟨_, _, _, e, _⟩ := h4; simp at e
      subst this
      simp only [planT, app_nil]
      exact hone
    · have key : ∀ out, kidsM (planM ns most (fu + 1)) ((i : Int) :: ks') out row = kidsM (planM ns most (fu + 1)) ks' (planM ns most (fu + 1) i out).1 (row ++ [(planM ns most (fu + 1) i out).2]) := fun out => rfl
      have hl1 : ∀ x : Int, (row ++ [x]).length = row.length + 1 := fun x => by simp
      have hdrop : ∀ out, (kidsM (planM ns most (fu + 1)) ((i : Int) :: ks') out row).2.drop row.length = (planM ns most (fu + 1) i out).2 :: (kidsM (planM ns most (fu + 1)) ks' (planM ns most (fu + 1) i out).1 (row ++ [(planM ns most (fu + 1) i out).2])).2.drop (row.length + 1) := by
        intro out
        rw [key]
        have := (b2 (row ++ [(planM ns most (fu + 1) i out).2])).2 (planM ns most (fu + 1) i out).1
        rw [hl1] at this
        conv => lhs; rw [this]
        simp
      refine ⟨?_, fun out => ?_⟩
      · simp only [planT]
        intro out
        have hx := (b2 (row ++ [(planM ns most (fu + 1) i out).2])).1
        rw [hl1] at hx
        have := (hone.seq hx) out
        simp only [seqS, sg, List.cons_append, List.nil_append] at this
        refine ⟨fun h => ?_, fun h => ?_⟩
        · simp only [hdrop]; rw [key]; exact this.1 h
        · simp only [key]; exact this.2 h
      · rw [hdrop, key]
        have := (b2 (row ++ [(planM ns most (fu + 1) i out).2])).2 (planM ns most (fu + 1) i out).1
        rw [hl1] at this
        conv => lhs; rw [this]
        simp
end Go.Rad
/- How long what is written out may become. -/
namespace Go.Rad
open Go
def PBd (pl : List Node → PO) (C : Nat) : Prop := ∀ out, (pl out).1.length ≤ max C out.length
variable {pl : List Node → PO} {C : Nat}
theorem rest_len (hb : PBd pl C) (hC : 1024 ≤ C) : ∀ (m : Nat) (out : List Node), (restM pl m out).1.length ≤ max C out.length + 2 * m + 1
  | 0, out => by simp only [restM]; omega
  | m + 1, out => by
    have h1 := hb (out ++ [opNd 1 []])
    simp only [List.length_append, List.length_cons, List.length_nil] at h1
    have h2 := rest_len hb hC m (pl (out ++ [opNd 1 []])).1
    rw [restM]
    split
    · simp only [pushP, List.length_append, List.length_cons, List.length_nil]; omega
    · split
      · simp only [pushP, List.length_append, List.length_cons, List.length_nil]; omega
      · simp only [pushP, List.length_append, List.length_cons, List.length_nil]; omega
theorem rowL_len (hb : PBd pl C) : ∀ (n : Nat) (out : List Node) (row : List Int), (rowL pl n out row).1.1.length ≤ max C out.length ∧ (rowL pl n out row).1.2.length ≤ row.length + n
  | 0, out, row => by simp only [rowL]; omega
  | n + 1, out, row => by
    have h1 := hb out
    have h2 := rowL_len hb n (pl out).1 (row ++ [(pl out).2])
    simp only [List.length_append, List.length_cons, List.length_nil] at h2
    rw [rowL]
    split
    · simp only []; omega
    · omega
theorem rowE_len (hb : PBd pl C) (hC : 1024 ≤ C) (lo hi : Int) (hh : hi ≤ 4096) (hl : 0 ≤ lo) (a : List Node × List Int) : (rowE pl lo hi a).1.length ≤ max C a.1.length + 8193 ∧ (rowE pl lo hi a).2.length ≤ a.2.length + 1 := by
  have h1 := hb a.1
  have h2 := rest_len hb hC (hi - lo).toNat a.1
  unfold rowE
  split
  · simp only [List.length_append, List.length_cons, List.length_nil]; omega
  · split
    · simp only [List.length_append, List.length_cons, List.length_nil]; omega
    · omega
theorem catM_len (b : List Node × List Int) : (catM b).1.length ≤ b.1.length + 1 := by
  unfold catM; split
  · simp only []; omega
  · simp only [pushP, List.length_append, List.length_cons, List.length_nil]; omega
theorem row_len (hb : PBd pl C) (hC : 1024 ≤ C) (lo hi : Int) (hh : hi ≤ 4096) (hl : 0 ≤ lo) (out : List Node) : (rowM pl lo hi out).1.length ≤ max C out.length + 8194 := by
  have h1 := rowL_len hb lo.toNat out []
  have h2 := rowE_len hb hC lo hi hh hl (rowL pl lo.toNat out []).1
  have h3 := catM_len (rowE pl lo hi (rowL pl lo.toNat out []).1)
  unfold rowM
  split
  · simp only []; omega
  · omega
theorem cnt_len (hb : PBd pl C) (lo hi : Int) (out : List Node) : (cntM pl lo hi out).1.length ≤ max C out.length + 3 := by
  have h1 := hb out
  have h2 := hb (out ++ [opNd 1 []])
  simp only [List.length_append, List.length_cons, List.length_nil] at h2
  unfold cntM
  split
  · simp only [pushP, List.length_append, List.length_cons, List.length_nil]; omega
  · simp only [pushP, List.length_append, List.length_cons, List.length_nil]; omega
theorem end_len (hb : PBd pl C) (lo : Int) (out : List Node) : (endM pl lo out).1.length ≤ max C out.length + 3 := by
  have h1 := hb out
  have h2 := hb ((pl out).1 ++ [repNd lo lo (pl out).2])
  simp only [List.length_append, List.length_cons, List.length_nil] at h2
  unfold endM
  simp only [pushP, List.length_append, List.length_cons, List.length_nil]; omega
theorem rep_len (hb : PBd pl C) (hC : 1024 ≤ C) (most : Int) (bytes : Bool) (lo hi : Int) (hh : hi ≤ 4096) (hl : 0 ≤ lo) (out : List Node) : (repM pl most bytes lo hi out).1.length ≤ max C out.length + 8194 := by
  have h1 := row_len hb hC lo hi hh hl out
  have h2 := cnt_len hb lo hi out
  have h3 := end_len hb lo out
  unfold repM
  split
  · exact h1
  · split
    · omega
    · split <;> omega
theorem kids_len {pl : Int → List Node → PO} (hb : ∀ k, PBd (pl k) C) : ∀ (l : List Int) (out : List Node) (row : List Int), (kidsM pl l out row).1.length ≤ max C out.length ∧ (kidsM pl l out row).2.length = row.length + l.length
  | [], out, row => by simp only [kidsM]; exact ⟨by omega, by simp⟩
  | k :: l, out, row => by
    have h1 := hb k out
    have h2 := kids_len hb l (pl k out).1 (row ++ [(pl k out).2])
    simp only [List.length_append, List.length_cons, List.length_nil] at h2
    rw [kidsM]
    simp only [List.length_cons]
    omega
/-- Bounds are small. -/
def bndOk (ns : List Node) : Prop := ∀ n ∈ ns, 0 ≤ n.lo ∧ n.hi ≤ 4096
theorem bnd_at {ns : List Node} (h : bndOk ns) (k : Int) : 0 ≤ (nAt ns k).lo ∧ (nAt ns k).hi ≤ 4096 := by
  unfold nAt
  by_cases hk : k.toNat < ns.length
  · have : ns.getD k.toNat default = ns[k.toNat] := by simp [List.getD, hk]
    rw [this]; exact h _ (List.getElem_mem hk)
  · have : ns.getD k.toNat default = default := by simp [List.getD, List.getElem?_eq_none (by omega : ns.length ≤ k.toNat)]
    rw [this]; exact ⟨by decide, by decide⟩
theorem plan_len {ns : List Node} (hn : bndOk ns) (most : Int) : ∀ (f : Nat) (k : Int), PBd (planM ns most f k) (1024 + 8200 * f)
  | 0, k, out => by simp only [planM]; omega
  | f + 1, k, out => by
    obtain ⟨b1, b2⟩ := bnd_at hn k
    have h1 := rep_len (plan_len hn most f (kid0 (nAt ns k))) (by omega) most (decide ((nAt ns (kid0 (nAt ns k))).op = 2)) _ _ b2 b1 out
    have h2 := kids_len (fun k => plan_len hn most f k) (nAt ns k).l out []
    rw [planM]
    split
    · simp only []; omega
    · split
      · omega
      · simp only [pushP, List.length_append, List.length_cons, List.length_nil]; omega
end Go.Rad
/- An own row's content said otherwise. -/
namespace Go.Rad
open Go
theorem AGood.reRow {P : Program} {f : Nat} {fn : Func} {df : List DDel} {k : List Item} {tm : Tm} {sto : Sto} {R : AVal → Sto → Prop} (id : Nat) {g esz : Nat} {l : List (List AVal)} (l' : List (List AVal)) (hg : sget sto id = some (g, .row esz l)) (hl : l = l') (h : AGood P f fn df k tm (sput sto id (g, .row esz l')) R) : AGood P f fn df k tm sto R := by
  subst hl
  have hs : ∀ i, sget (sput sto id (g, .row esz l)) i = sget sto i := by
    intro i
    rw [sget_sput]
    split
    · rename_i e; subst e; exact hg.symm
    · rfl
  refine ⟨fun E G a w b h1 h2 h3 h4 h5 h6 h7 h8 h9 => h.go E G a w b h1 h2 h3 h4 h5 h6 h7 ⟨fun i g' o hi => ?_, fun i i' g1 g2 o o' hi hi' => ?_⟩ h9⟩
  · rw [hs] at hi; exact h8.obj _ _ _ hi
  · rw [hs] at hi hi'; exact h8.apart _ _ _ _ _ _ hi hi'
end Go.Rad
/- A row's last element. -/
namespace Go.Rad
open Go
theorem nodes_last (out : List Node) (n : Node) : (nodes (out ++ [n]))[out.length]? = some n.cells := by simp
theorem nodes_set (out : List Node) (n : Node) (y : List AVal) : (nodes (out ++ [n])).set out.length y = nodes out ++ [y] := by simp
theorem row_last {α : Type} (out : List α) (f : α → List AVal) (y : List AVal) : (out.map f ++ [y])[out.length]? = some y := by simp
theorem row_set {α : Type} (out : List α) (f : α → List AVal) (y z : List AVal) : (out.map f ++ [y]).set out.length z = out.map f ++ [z] := by simp
theorem last_ltI {α : Type} (out : List α) (n : α) : ((out.length : Int) < (out ++ [n]).length) = True := by simp; omega
theorem last_ltN {α : Type} (out : List α) (n : α) : (out.length < (out ++ [n]).length) = True := by simp
theorem row_ltN {α : Type} (out : List α) (f : α → List AVal) (y : List AVal) : (out.length < (out.map f ++ [y]).length) = True := by simp
/-- Several ways that lead to one place: what holds from there on is shown once. -/
theorem hv {α : Type} {P : α → Prop} {G : Prop} (main : (∀ a, P a) → G) (key : ∀ a, P a) : G := main key
structure Keep (P : Prop) : Prop where
  out : P
theorem hv0 {P G : Prop} (main : Keep P → G) (key : P) : G := main ⟨key⟩
theorem hv2 {P : Nat → Nat → Prop} {G : Prop} (main : (∀ a b, Keep (P a b)) → G) (key : ∀ a b, P a b) : G := main fun a b => ⟨key a b⟩
/-- Where the driver stops. -/
structure Stop (G : Prop) : Prop where
  out : G
theorem stopI {G : Prop} (h : Stop G) : G := h.out
theorem stopE {G : Prop} (h : G) : Stop G := ⟨h⟩
end Go.Rad
/- What trees mean: where they may end, from some places of a text on. -/
namespace Go.Rad
open Go Fo
abbrev bools (l : List Bool) : List (List AVal) := l.map fun b => [.bool b]
def falses (n : Nat) : List Bool := List.replicate n false
def orB (a b : List Bool) : List Bool := List.zipWith (· || ·) a b
def byteAt (w : ByteArray) (i : Nat) : Nat := ((w.data.toList[i]?).getD 0).toNat
theorem sbyte_at (w : ByteArray) (i : Nat) : sbyte w i = (byteAt w i : Int) := rfl
theorem byteAt_le (w : ByteArray) (i : Nat) : byteAt w i ≤ 255 := by
  unfold byteAt
  have := ((w.data.toList[i]?).getD 0).toNat_lt
  omega
def hit (s : ISet) (w : ByteArray) (fr : List Bool) (i : Nat) : Bool := fr.getD i false && hasI s (byteAt w i)
def oneB (s : ISet) (w : ByteArray) (fr : List Bool) : List Bool := false :: (List.range w.size).map (hit s w fr)
def itB (g : List Bool → List Bool) : Nat → List Bool → List Bool
  | 0, s => s
  | n + 1, s => itB g n (g s)
def uB (g : List Bool → List Bool) : Nat → List Bool → List Bool
  | 0, s => s
  | n + 1, s => orB s (uB g n (g s))
def repB (w : ByteArray) (lo hi : Int) (g : List Bool → List Bool) (s : List Bool) : List Bool := uB g (if hi = -1 then w.size + 1 else (hi - lo).toNat) (itB g lo.toNat s)
def semNode (w : ByteArray) (b : Lb) (fs : List (List Bool → List Bool)) (s : List Bool) : List Bool :=
  if b.op = 2 then oneB b.s w s
  else if b.op = 3 then fs.foldl (fun s f => f s) s
  else if b.op = 4 then fs.foldl (fun o f => orB o (f s)) (falses (w.size + 1))
  else if b.op = 5 then repB w b.lo b.hi (fs.headD id) s
  else s
def sem (w : ByteArray) : Fo → List (List Bool → List Bool)
  | .nil => []
  | .node b k r => semNode w b (sem w k) :: sem w r

/-! Places that are added. -/
theorem orB_len {a b : List Bool} {n : Nat} (ha : a.length = n) (hb : b.length = n) : (orB a b).length = n := by simp [orB, ha, hb]
theorem orB_get {a b : List Bool} {n : Nat} (ha : a.length = n) (hb : b.length = n) (i : Nat) : (orB a b).getD i false = (a.getD i false || b.getD i false) := by
  simp only [orB, List.getD_eq_getElem?_getD, List.getElem?_zipWith]
  by_cases h : i < n
  · rw [List.getElem?_eq_getElem (by omega), List.getElem?_eq_getElem (by omega)]; rfl
  · rw [List.getElem?_eq_none (by omega : a.length ≤ i), List.getElem?_eq_none (by omega : b.length ≤ i)]; rfl
theorem bool_ext {a b : List Bool} (h : a.length = b.length) (hg : ∀ i, a.getD i false = b.getD i false) : a = b := by
  refine List.ext_getElem h fun i h1 h2 => ?_
  have := hg i
  simpa [List.getD, h1, h2] using this
theorem falses_len (n : Nat) : (falses n).length = n := by simp [falses]
theorem falses_get (n i : Nat) : (falses n).getD i false = false := by
  simp only [falses, List.getD_eq_getElem?_getD, List.getElem?_replicate]
  split <;> rfl
theorem orB_assoc {a b c : List Bool} {n : Nat} (ha : a.length = n) (hb : b.length = n) (hc : c.length = n) : orB (orB a b) c = orB a (orB b c) := by
  refine bool_ext (by rw [orB_len (orB_len ha hb) hc, orB_len ha (orB_len hb hc)]) fun i => ?_
  rw [orB_get (orB_len ha hb) hc, orB_get ha hb, orB_get ha (orB_len hb hc), orB_get hb hc, Bool.or_assoc]
theorem orB_falses {a : List Bool} {n : Nat} (ha : a.length = n) : orB (falses n) a = a := by
  refine bool_ext (by rw [orB_len (falses_len n) ha, ha]) fun i => ?_
  rw [orB_get (falses_len n) ha, falses_get, Bool.false_or]
theorem orB_swap {a b c d : List Bool} {n : Nat} (ha : a.length = n) (hb : b.length = n) (hc : c.length = n) (hd : d.length = n) : orB (orB a b) (orB c d) = orB (orB a c) (orB b d) := by
  refine bool_ext (by rw [orB_len (orB_len ha hb) (orB_len hc hd), orB_len (orB_len ha hc) (orB_len hb hd)]) fun i => ?_
  rw [orB_get (orB_len ha hb) (orB_len hc hd), orB_get ha hb, orB_get hc hd, orB_get (orB_len ha hc) (orB_len hb hd), orB_get ha hc, orB_get hb hd]
  cases a.getD i false <;> cases b.getD i false <;> cases c.getD i false <;> cases d.getD i false <;> rfl
/-- What is told of all places together is told of each. -/
structure Add (n : Nat) (g : List Bool → List Bool) : Prop where
  len : ∀ s, s.length = n → (g s).length = n
  or : ∀ s t, s.length = n → t.length = n → g (orB s t) = orB (g s) (g t)
  none : g (falses n) = falses n
theorem Add.same (n : Nat) : Add n id := ⟨fun _ h => h, fun _ _ _ _ => rfl, rfl⟩
theorem Add.comp {n : Nat} {f g : List Bool → List Bool} (hf : Add n f) (hg : Add n g) : Add n fun s => f (g s) :=
  ⟨fun s h => hf.len _ (hg.len s h), fun s t hs ht => by rw [hg.or s t hs ht, hf.or _ _ (hg.len s hs) (hg.len t ht)], by rw [hg.none, hf.none]⟩
theorem orB_self {a : List Bool} : orB a a = a := by
  refine bool_ext (by rw [orB_len rfl rfl]) fun i => ?_
  rw [orB_get rfl rfl, Bool.or_self]
theorem Add.sum {n : Nat} {f g : List Bool → List Bool} (hf : Add n f) (hg : Add n g) : Add n fun s => orB (f s) (g s) :=
  ⟨fun s h => orB_len (hf.len s h) (hg.len s h), fun s t hs ht => by rw [hf.or s t hs ht, hg.or s t hs ht, orB_swap (hf.len s hs) (hf.len t ht) (hg.len s hs) (hg.len t ht)], by rw [hf.none, hg.none, orB_self]⟩
theorem Add.it {n : Nat} {g : List Bool → List Bool} (hg : Add n g) : ∀ k, Add n (itB g k)
  | 0 => Add.same n
  | k + 1 => (Add.it hg k).comp hg
theorem Add.u {n : Nat} {g : List Bool → List Bool} (hg : Add n g) : ∀ k, Add n (uB g k)
  | 0 => Add.same n
  | k + 1 => (Add.same n).sum ((Add.u hg k).comp hg)
theorem Add.one {s : ISet} {w : ByteArray} : Add (w.size + 1) (oneB s w) := by
  have hl : ∀ fr, (oneB s w fr).length = w.size + 1 := fun fr => by simp [oneB]
  refine ⟨fun fr _ => hl fr, fun a b ha hb => ?_, ?_⟩
  · refine bool_ext (by rw [hl, orB_len (hl a) (hl b)]) fun i => ?_
    rw [orB_get (hl a) (hl b)]
    cases i with
    | zero => rfl
    | succ i =>
      simp only [oneB, List.getD_cons_succ]
      simp only [List.getD_eq_getElem?_getD, List.getElem?_map, List.getElem?_range]
      by_cases h : i < w.size
      · simp only [h, getElem?_pos, List.getElem?_range, Option.map_some, Option.getD_some, hit]
        rw [orB_get ha hb, Bool.and_or_distrib_right]
      · simp [h]
  · refine bool_ext (by rw [hl, falses_len]) fun i => ?_
    rw [falses_get]
    cases i with
    | zero => rfl
    | succ i =>
      simp only [oneB, List.getD_cons_succ]
      simp only [List.getD_eq_getElem?_getD, List.getElem?_map]
      cases h : (List.range w.size)[i]? with
      | none => rfl
      | some j => simp only [Option.map_some, Option.getD_some, hit, falses_get, Bool.false_and]
theorem Add.row {n : Nat} : ∀ {fs : List (List Bool → List Bool)}, (∀ f ∈ fs, Add n f) → Add n fun s => fs.foldl (fun s f => f s) s
  | [], _ => Add.same n
  | f :: fs, h => (Add.row (fs := fs) fun g hg => h g (by simp [hg])).comp (h f (by simp))
theorem Add.alt {n : Nat} : ∀ {fs : List (List Bool → List Bool)} {o : List Bool → List Bool}, Add n o → (∀ f ∈ fs, Add n f) → Add n fun s => fs.foldl (fun o f => orB o (f s)) (o s)
  | [], _, ho, _ => ho
  | f :: fs, o, ho, h => Add.alt (fs := fs) (o := fun s => orB (o s) (f s)) (ho.sum (h f (by simp))) fun g hg => h g (by simp [hg])
theorem Add.const (n : Nat) : Add n fun _ => falses n := ⟨fun _ _ => falses_len n, fun _ _ _ _ => orB_self.symm, rfl⟩
theorem Add.rep {w : ByteArray} {lo hi : Int} {g : List Bool → List Bool} (hg : Add (w.size + 1) g) : Add (w.size + 1) (repB w lo hi g) := (Add.u hg _).comp (Add.it hg _)
theorem Add.node {w : ByteArray} {b : Lb} {fs : List (List Bool → List Bool)} (h : ∀ f ∈ fs, Add (w.size + 1) f) : Add (w.size + 1) (semNode w b fs) := by
  have e : semNode w b fs = if b.op = 2 then oneB b.s w else if b.op = 3 then (fun s => fs.foldl (fun s f => f s) s) else if b.op = 4 then (fun s => fs.foldl (fun o f => orB o (f s)) (falses (w.size + 1))) else if b.op = 5 then repB w b.lo b.hi (fs.headD id) else id := by
    funext s
    unfold semNode
    split
    · rfl
    · split
      · rfl
      · split
        · rfl
        · split <;> rfl
  rw [e]
  split
  · exact Add.one
  · split
    · exact Add.row h
    · split
      · exact Add.alt (Add.const _) h
      · split
        · refine Add.rep ?_
          cases fs with
          | nil => exact Add.same _
          | cons f fs => exact h f (by simp)
        · exact Add.same _
theorem sem_add (w : ByteArray) : ∀ (f : Fo), ∀ g ∈ sem w f, Add (w.size + 1) g
  | .nil, g, h => by simp [sem] at h
  | .node b k r, g, h => by
    simp only [sem, List.mem_cons] at h
    rcases h with rfl | h
    · exact Add.node (sem_add w k)
    · exact sem_add w r g h

/-! Once more changes nothing: then never again. -/
section
variable {n : Nat} {g : List Bool → List Bool} (hg : Add n g) {s : List Bool} (hs : s.length = n)
theorem it_add (g : List Bool → List Bool) : ∀ (i j : Nat) (s : List Bool), itB g (i + j) s = itB g j (itB g i s)
  | 0, j, s => by simp [itB]
  | i + 1, j, s => by rw [Nat.add_right_comm, itB, it_add g i j, itB]
theorem it_succ (g : List Bool → List Bool) (i : Nat) (s : List Bool) : itB g (i + 1) s = g (itB g i s) := it_add g i 1 s
theorem it_stop {g : List Bool → List Bool} {s : List Bool} {i : Nat} (h : g (itB g i s) = itB g i s) (j : Nat) : itB g (i + j) s = itB g i s := by
  induction j with
  | zero => rfl
  | succ j ih => rw [← Nat.add_assoc, it_succ, ih, h]
include hg hs
theorem it_len (i : Nat) : (itB g i s).length = n := (Add.it hg i).len s hs
theorem u_len (i : Nat) : (uB g i s).length = n := (Add.u hg i).len s hs
theorem u_snoc : ∀ (i : Nat), uB g (i + 1) s = orB (uB g i s) (itB g (i + 1) s) := by
  intro i
  induction i generalizing s with
  | zero => rfl
  | succ i ih =>
    rw [uB, ih (hg.len s hs), ← orB_assoc hs (u_len hg (hg.len s hs) i) (it_len hg (hg.len s hs) (i + 1))]
    rfl
theorem u_push : ∀ (i : Nat), g (uB g i s) = uB g i (g s) := by
  intro i
  induction i generalizing s with
  | zero => rfl
  | succ i ih => rw [uB, hg.or _ _ hs (u_len hg (hg.len s hs) i), ih (hg.len s hs), uB]
theorem u_step (i : Nat) : uB g (i + 1) s = orB s (g (uB g i s)) := by rw [uB, u_push hg hs]
theorem u_stop {i : Nat} (h : uB g (i + 1) s = uB g i s) (j : Nat) : uB g (i + j) s = uB g i s := by
  induction j with
  | zero => rfl
  | succ j ih => rw [← Nat.add_assoc, u_step hg hs, ih, ← u_step hg hs, h]
end
def cntB2 (s : List Bool) : Nat := s.countP id
theorem cnt_or {n : Nat} : ∀ {a b : List Bool}, a.length = n → b.length = n → cntB2 a ≤ cntB2 (orB a b) ∧ (cntB2 a = cntB2 (orB a b) → orB a b = a)
  | [], [], _, _ => ⟨Nat.le_refl _, fun _ => rfl⟩
  | x :: a, y :: b, ha, hb => by
    obtain ⟨h1, h2⟩ := cnt_or (n := a.length) (a := a) (b := b) rfl (by simp only [List.length_cons] at ha hb; omega)
    simp only [cntB2, orB, List.zipWith_cons_cons, List.countP_cons] at h1 h2 ⊢
    cases x <;> cases y <;> simp only [Bool.or_true, Bool.or_false, Bool.false_or, Bool.true_or, id] at h1 h2 ⊢ <;> simp only [Bool.false_eq_true, if_false, if_true] at h1 h2 ⊢ <;> refine ⟨by omega, fun h => ?_⟩ <;> first | omega | rw [h2 (by omega)]
  | [], _ :: _, ha, hb => by simp at ha hb; omega
  | _ :: _, [], ha, hb => by simp at ha hb; omega
theorem cnt_le {a : List Bool} : cntB2 a ≤ a.length := List.countP_le_length
/-- After as many steps as there are places nothing is new. -/
theorem u_full {n : Nat} {g : List Bool → List Bool} (hg : Add n g) {s : List Bool} (hs : s.length = n) : uB g (n + 1) s = uB g n s := by
  have key : ∀ k, (∀ i, i < k → uB g (i + 1) s ≠ uB g i s) → k ≤ cntB2 (uB g k s) := by
    intro k
    induction k with
    | zero => intro _; exact Nat.zero_le _
    | succ k ih =>
      intro h
      have h1 := ih fun i hi => h i (by omega)
      have h2 := h k (by omega)
      rw [u_snoc hg hs] at h2 ⊢
      obtain ⟨a, b⟩ := cnt_or (u_len hg hs k) (it_len hg hs (k + 1))
      have : cntB2 (uB g k s) ≠ cntB2 (orB (uB g k s) (itB g (k + 1) s)) := fun e => h2 (b e)
      omega
  by_cases h : ∃ i, i < n + 1 ∧ uB g (i + 1) s = uB g i s
  · obtain ⟨i, hi, e⟩ := h
    have e1 := u_stop hg hs e (n - i)
    have e2 := u_stop hg hs e (n + 1 - i)
    rw [show i + (n - i) = n by omega] at e1
    rw [show i + (n + 1 - i) = n + 1 by omega] at e2
    rw [e1, e2]
  · have := key (n + 1) fun i hi e => h ⟨i, hi, e⟩
    have h2 := cnt_le (a := uB g (n + 1) s)
    rw [u_len hg hs] at h2
    omega
theorem u_end {n : Nat} {g : List Bool → List Bool} (hg : Add n g) {s : List Bool} (hs : s.length = n) {k : Nat} (h : uB g (k + 1) s = uB g k s) : uB g n s = uB g k s := by
  rcases Nat.le_total k n with hk | hk
  · have := u_stop hg hs h (n - k)
    rw [show k + (n - k) = n by omega] at this
    exact this
  · have := u_stop hg hs (u_full hg hs) (k - n)
    rw [show n + (k - n) = k by omega] at this
    exact this.symm

/-! A plan means what its tree does. -/
theorem sem_app (w : ByteArray) (f g : Fo) : sem w (f.app g) = sem w f ++ sem w g := by
  induction f with
  | nil => rfl
  | node b k r _ ih => simp only [app, sem, ih, List.cons_append]
theorem sem_len (w : ByteArray) (f : Fo) : (sem w f).length = f.deg := by
  induction f with
  | nil => rfl
  | node b k r _ ih => simp only [sem, List.length_cons, ih, deg]
end Go.Rad
