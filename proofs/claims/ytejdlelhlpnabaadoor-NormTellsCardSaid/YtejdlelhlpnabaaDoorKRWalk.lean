/- Trees with what their names stand for, as the document walks them. -/
import Derived.Test.YtejdlelhlpnabaaDoorKRText
set_option linter.all false
namespace Go.Rad
open Go
def goA (nm : ByteArray → List Node → Out) : List Node → List Int → List Node → List Int × List Node × Int
  | [], A, out => (A, out, 0)
  | n :: ns, A, out =>
    if (stepT nm n A out).2.2 = 0 then goA nm ns (A ++ [(stepT nm n A out).2.1]) (stepT nm n A out).1
    else (A, (stepT nm n A out).1, (stepT nm n A out).2.2)
theorem goT_goA (nm : ByteArray → List Node → Out) : ∀ (ns : List Node) (A : List Int) (out : List Node), goT nm ns A out = ((goA nm ns A out).2.1, if (goA nm ns A out).2.2 = 0 then (goA nm ns A out).1.getLastD 0 else 0, (goA nm ns A out).2.2)
  | [], A, out => by simp [goT, goA]
  | n :: ns, A, out => by
    rw [goT, goA]
    by_cases h : (stepT nm n A out).2.2 = 0
    · rw [if_pos h, if_pos h]; exact goT_goA nm ns _ _
    · rw [if_neg h, if_neg h]; simp only [if_neg h]
theorem goA_app (nm : ByteArray → List Node → Out) (ms : List Node) : ∀ (ns : List Node) (A : List Int) (out : List Node), goA nm (ns ++ ms) A out = if (goA nm ns A out).2.2 = 0 then goA nm ms (goA nm ns A out).1 (goA nm ns A out).2.1 else goA nm ns A out
  | [], A, out => by simp [goA]
  | n :: ns, A, out => by
    rw [List.cons_append, goA, goA]
    by_cases h : (stepT nm n A out).2.2 = 0
    · simp only [if_pos h]; exact goA_app nm ms ns _ _
    · simp only [if_neg h]
theorem goA_pre (nm : ByteArray → List Node → Out) : ∀ (ns : List Node) (A : List Int) (out : List Node), (goA nm ns A out).2.2 = 0 → ∃ B, (goA nm ns A out).1 = A ++ B ∧ B.length = ns.length
  | [], A, out, _ => ⟨[], by simp [goA], rfl⟩
  | n :: ns, A, out, h => by
    rw [goA] at h ⊢
    by_cases h0 : (stepT nm n A out).2.2 = 0
    · rw [if_pos h0] at h ⊢
      obtain ⟨B, h1, h2⟩ := goA_pre nm ns _ _ h
      exact ⟨(stepT nm n A out).2.1 :: B, by rw [h1]; simp, by simp [h2]⟩
    · rw [if_neg h0] at h; exact absurd h h0
theorem goA_len {nm : ByteArray → List Node → Out} (hn : ∀ s out, out.length ≤ 1024 → (nm s out).1.length ≤ 1024) : ∀ (ns : List Node) (A : List Int) (out : List Node), out.length ≤ 1024 → (goA nm ns A out).2.1.length ≤ 1024
  | [], A, out, h => h
  | n :: ns, A, out, h => by
    have h1 : (stepT nm n A out).1.length ≤ 1024 := by
      unfold stepT
      split
      · exact hn _ _ h
      · exact putS_len h
    rw [goA]
    split
    · exact goA_len hn ns _ _ h1
    · exact h1
abbrev segL (l : List Node) (lo hi : Nat) : List Node := (l.drop lo).take (hi - lo)
theorem segL_app (l : List Node) {a b c : Nat} (h1 : a ≤ b) (h2 : b ≤ c) : segL l a c = segL l a b ++ segL l b c := by
  have e : c - a = (b - a) + (c - b) := by omega
  rw [segL, e, List.take_add, List.drop_drop]
  congr 3
  omega
theorem segL_one {l : List Node} {i : Nat} {n : Node} (h : l[i]? = some n) : segL l i (i + 1) = [n] := by
  have hi := (List.getElem?_eq_some_iff.1 h).1
  rw [segL, List.drop_eq_getElem_cons hi, show i + 1 - i = 1 by omega, List.take_succ_cons, List.take_zero]
  rw [List.getElem?_eq_getElem hi] at h
  rw [Option.some.inj h]
theorem segL_all (l : List Node) : segL l 0 l.length = l := by simp [segL]
theorem segL_nil (l : List Node) (a : Nat) : segL l a a = [] := by simp [segL]
theorem segL_len {l : List Node} {a b : Nat} (h : b ≤ l.length) : (segL l a b).length = b - a := by
  simp [segL]; omega

/-- Which of the names are open. -/
abbrev opB (ds : List Df) (op : List ByteArray) : List Bool := ds.map fun d => hasB op d.name
theorem opB_set {ds : List Df} {op : List ByteArray} {k : Nat} {d : Df} (hd : distinct ds) (hk : ds[k]? = some d) : (opB ds op).set k true = opB ds (op ++ [d.name]) := by
  have hkl := (List.getElem?_eq_some_iff.1 hk).1
  refine List.ext_getElem? fun j => ?_
  by_cases hj : j < ds.length
  · rw [List.getElem?_set, List.getElem?_map, List.getElem?_map, List.getElem?_eq_getElem hj]
    simp only [List.length_map, hkl, if_true, Option.map_some]
    by_cases e : k = j
    · subst e
      have : ds[k] = d := by rw [List.getElem?_eq_getElem hj] at hk; exact Option.some.inj hk
      simp [hasB, this]
    · rw [if_neg e]
      have hne : d.name ≠ ds[j].name := by
        have e2 : ds[k] = d := by rw [List.getElem?_eq_getElem hkl] at hk; exact Option.some.inj hk
        rw [← e2]
        rcases Nat.lt_or_gt_of_ne e with h | h
        · exact List.pairwise_iff_getElem.1 hd k j hkl hj h
        · exact Ne.symm (List.pairwise_iff_getElem.1 hd j k hj hkl h)
      simp [hasB, hne]
  · rw [List.getElem?_eq_none (by simp; omega), List.getElem?_eq_none (by simp; omega)]
theorem opB_unset {ds : List Df} {op : List ByteArray} {k : Nat} {d : Df} (hd : distinct ds) (hk : ds[k]? = some d) (h : hasB op d.name = false) : (opB ds (op ++ [d.name])).set k false = opB ds op := by
  rw [← opB_set hd hk, List.set_set]
  have hkl := (List.getElem?_eq_some_iff.1 hk).1
  refine List.ext_getElem? fun j => ?_
  rw [List.getElem?_set]
  by_cases e : k = j
  · subst e
    have : ds[k] = d := by rw [List.getElem?_eq_getElem hkl] at hk; exact Option.some.inj hk
    simp [hkl, this, h]
  · rw [if_neg e]
theorem opB_nil (ds : List Df) : opB ds [] = List.replicate ds.length false := by
  induction ds with
  | nil => rfl
  | cons d ds ih => rw [opB, List.map_cons, List.length_cons, List.replicate_succ]; exact congrArg _ ih
def findI (s : ByteArray) : List Df → Nat → Int
  | [], _ => -1
  | d :: ds, i => if d.name = s then i else findI s ds (i + 1)
theorem findI_none {s : ByteArray} : ∀ {ds : List Df} {i : Nat}, dfind ds s = none → findI s ds i = -1
  | [], _, _ => rfl
  | d :: ds, i, h => by
    rw [dfind_cons] at h
    rw [findI]
    by_cases e : d.name = s
    · rw [if_pos e] at h; cases h
    · rw [if_neg e] at h ⊢; exact findI_none h
theorem findI_some {s : ByteArray} {d : Df} : ∀ {ds : List Df} {i : Nat}, dfind ds s = some d → ∃ k, findI s ds i = ((i + k : Nat) : Int) ∧ ds[k]? = some d
  | [], _, h => by simp [dfind] at h
  | e :: ds, i, h => by
    rw [dfind_cons] at h
    rw [findI]
    by_cases he : e.name = s
    · rw [if_pos he] at h ⊢; exact ⟨0, by simp, by simpa using h⟩
    · rw [if_neg he] at h ⊢
      obtain ⟨k, h1, h2⟩ := findI_some (i := i + 1) h
      exact ⟨k + 1, by rw [h1]; congr 1; omega, by simpa using h2⟩
end Go.Rad
