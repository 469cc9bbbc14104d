/- The plain law of trees that would be too long. -/
import Derived.Test.YtejdlelhlpnabaaKRNormName
set_option linter.all false
namespace Go.Rad
open Go
abbrev bytesN : Node := ⟨2, ⟨1, 0, 0, 0⟩, [], 0, 0, ByteArray.empty⟩
abbrev rowN (op : Int) (k : Nat) : Node := ⟨op, ISet.none, rg k, 0, 0, ByteArray.empty⟩
def longD (n : Nat) : List Node := List.replicate n bytesN ++ [rowN 3 n]
def longL (k : Nat) : List Node := List.replicate k (refN tDd) ++ (if 1 < k then [rowN 4 k] else [])
def longSum (n k : Nat) : Nat := k * (n + 1) + (if 1 < k then 1 else 0)

theorem leaf_kids {ns : List Node} {x : Node} (hx : x.l = []) : ∀ m : Nat, (∀ i, i < m → ns[i]? = some x) → Kids ns 0 (rg m) m
  | 0, _ => .nil
  | m + 1, h => by
    rw [rg_succ]
    refine (leaf_kids hx m fun i hi => h i (by omega)).append (.cons (h m (by omega)) ?_ .nil)
    rw [hx]; exact .nil
theorem rows_right {x : Node} (hx : x.l = []) (hs : shapeOk x = true) {op : Int} (hop : op = 3 ∨ op = 4) {n : Nat} (h2 : 2 ≤ n) (hn : n + 1 ≤ 1024) : rightS (List.replicate n x ++ [rowN op n]) = true := by
  have hk : Kids (List.replicate n x ++ [rowN op n]) 0 [((n : Nat) : Int)] (n + 1) := by
    refine .cons (n := rowN op n) (by simp) ?_ .nil
    refine leaf_kids hx n fun i hi => ?_
    rw [List.getElem?_append_left (by simpa using hi)]
    simp [hi]
  have hl : (List.replicate n x ++ [rowN op n]).length = n + 1 := by simp
  refine kids_rightS (k := n) (by rw [hl]; exact hk) ?_ (by rw [hl]; exact hn)
  rw [List.all_append, Bool.and_eq_true]
  refine ⟨?_, ?_⟩
  · simp only [List.all_eq_true, List.mem_replicate]
    rintro y ⟨_, rfl⟩
    exact hs
  · rcases hop with rfl | rfl <;> simp [shapeOk, ISet.none, h2]
theorem longD_right {n : Nat} (h2 : 2 ≤ n) (hn : n + 1 ≤ 1024) : rightS (longD n) = true := rows_right rfl (by decide +kernel) (.inl rfl) h2 hn
theorem longL_right {k : Nat} (h1 : 1 ≤ k) (hk : k + 1 ≤ 1024) : rightS (longL k) = true := by
  unfold longL
  split
  · exact rows_right rfl (by decide +kernel) (.inr rfl) (by omega) hk
  · have : k = 1 := by omega
    subst this
    decide +kernel

theorem goT_sum {nm : ByteArray → List Node → Out} {w : Node → Nat} {Q : Node → Prop}
    (hw : ∀ n A out, Q n → out.length ≤ 1024 → (stepT nm n A out).2.2 = (if out.length + w n ≤ 1024 then 0 else 3) ∧ (out.length + w n ≤ 1024 → (stepT nm n A out).1.length = out.length + w n)) :
    ∀ (ns : List Node) (A : List Int) (out : List Node), (∀ n ∈ ns, Q n) → out.length ≤ 1024 →
      (goT nm ns A out).2.2 = (if out.length + (ns.map w).sum ≤ 1024 then 0 else 3) ∧ (out.length + (ns.map w).sum ≤ 1024 → (goT nm ns A out).1.length = out.length + (ns.map w).sum)
  | [], A, out, _, ho => by simp [goT, ho]
  | n :: ns, A, out, hq, ho => by
    obtain ⟨s1, s2⟩ := hw n A out (hq n (by simp)) ho
    rw [goT]
    simp only [List.map_cons, List.sum_cons]
    by_cases h : out.length + w n ≤ 1024
    · rw [if_pos h] at s1
      have s2 := s2 h
      rw [if_pos s1]
      have ih := goT_sum hw ns (A ++ [(stepT nm n A out).2.1]) (stepT nm n A out).1 (fun m hm => hq m (by simp [hm])) (by omega)
      rw [s2, Nat.add_assoc] at ih
      exact ih
    · rw [if_neg h] at s1
      rw [if_neg (by rw [s1]; decide), if_neg (by omega)]
      exact ⟨s1, fun h' => by omega⟩
theorem put_sum (n : Node) (A : List Int) (out : List Node) (ho : out.length ≤ 1024) : (putS n A out).2.2 = (if out.length + 1 ≤ 1024 then 0 else 3) ∧ (out.length + 1 ≤ 1024 → (putS n A out).1.length = out.length + 1) := by
  unfold putS
  by_cases h : 1024 ≤ out.length
  · rw [if_pos h, if_neg (by omega)]; exact ⟨rfl, fun h' => by omega⟩
  · rw [if_neg h, if_pos (by omega)]; exact ⟨rfl, fun _ => by simp⟩
theorem law_long {n k : Nat} (h2 : 2 ≤ n) (hn : n + 1 ≤ 1024) (h1 : 1 ≤ k) (hk : k + 1 ≤ 1024) :
    if longSum n k ≤ 1024 then (expandS (longL k) [⟨tDd, longD n⟩]).2 = 0 ∧ (expandS (longL k) [⟨tDd, longD n⟩]).1.length = longSum n k
    else expandS (longL k) [⟨tDd, longD n⟩] = ([], 3) := by
  have hd : rightD [] [⟨tDd, longD n⟩] = true := by rw [right_step (by kernel_rfl) (by kernel_rfl) (longD_right h2 hn), rightD]
  have hD : (longD n).length = n + 1 := by simp [longD]
  have hname : ∀ out : List Node, out.length ≤ 1024 → (nameT [⟨tDd, longD n⟩] 2 [] tDd out).2.2 = (if out.length + (n + 1) ≤ 1024 then 0 else 3) ∧ (out.length + (n + 1) ≤ 1024 → (nameT [⟨tDd, longD n⟩] 2 [] tDd out).1.length = out.length + (n + 1)) := by
    intro out ho
    have hm : nameT [⟨tDd, longD n⟩] 2 [] tDd out = goT (nameT [⟨tDd, longD n⟩] 1 [tDd]) (longD n) [] out := by
      rw [nameT, show dfind [⟨tDd, longD n⟩] tDd = some ⟨tDd, longD n⟩ from by kernel_rfl]
      simp only [show hasB [] tDd = false from by kernel_rfl, Bool.false_eq_true, if_false, List.nil_append]
    rw [hm]
    have := goT_sum (nm := nameT [⟨tDd, longD n⟩] 1 [tDd]) (w := fun _ => 1) (Q := fun m => m.op ≠ 6) (fun m A out hq ho => by rw [stepT, if_neg hq]; exact put_sum m A out ho) (longD n) [] out (by
      intro m hm
      simp only [longD, List.mem_append, List.mem_replicate, List.mem_singleton] at hm
      rcases hm with ⟨_, rfl⟩ | rfl
      · decide
      · show (3 : Int) ≠ 6; decide) ho
    have hsum : ((longD n).map fun _ => 1).sum = n + 1 := by
      rw [← hD]; generalize longD n = l
      induction l with
      | nil => rfl
      | cons x l ih => simp only [List.map_cons, List.sum_cons, List.length_cons, ih]; omega
    rw [hsum] at this
    exact this
  have hall := goT_sum (nm := nameT [⟨tDd, longD n⟩] 2 []) (w := fun m => if m.op = 6 then n + 1 else 1) (Q := fun m => m.op = 6 → m.name = tDd) (fun m A out hq ho => by
    by_cases h6 : m.op = 6
    · rw [stepT, if_pos h6, if_pos h6, hq h6]; exact hname out ho
    · rw [stepT, if_neg h6, if_neg h6]; exact put_sum m A out ho) (longL k) [] [] (by
      intro m hm
      simp only [longL, List.mem_append, List.mem_replicate] at hm
      rcases hm with ⟨_, rfl⟩ | hm
      · intro _; rfl
      · split at hm
        · simp only [List.mem_singleton] at hm; subst hm; intro h; exact absurd h (show ¬ (4 : Int) = 6 by decide)
        · simp at hm) (by simp)
  have hsum : ((longL k).map fun m => if m.op = 6 then n + 1 else 1).sum = longSum n k := by
    simp only [longL, longSum, List.map_append, List.sum_append, List.map_replicate, if_true]
    have : (List.replicate k (n + 1)).sum = k * (n + 1) := by
      simp [List.sum_replicate_nat]
    rw [this]
    split <;> simp
  rw [hsum] at hall
  simp only [List.length_nil, Nat.zero_add] at hall
  obtain ⟨a1, a2⟩ := hall
  by_cases hs : longSum n k ≤ 1024
  · rw [if_pos hs] at a1 ⊢
    rw [expandS, if_pos ⟨longL_right h1 hk, hd⟩, show ([(⟨tDd, longD n⟩ : Df)]).length + 1 = 2 from rfl, if_pos a1]
    exact ⟨rfl, a2 hs⟩
  · rw [if_neg hs] at a1 ⊢
    rw [expandS, if_pos ⟨longL_right h1 hk, hd⟩, show ([(⟨tDd, longD n⟩ : Df)]).length + 1 = 2 from rfl, if_neg (by rw [a1]; decide), a1]

theorem AGood.reRow {P : Program} {f : Nat} {fn : Func} {df : List DDel} {k : List Item} {tm : Tm} {sto : Sto} {R : AVal → Sto → Prop} (id : Nat) {g esz : Nat} {l : List (List AVal)} (l' : List (List AVal)) (hg : sget sto id = some (g, .row esz l)) (hl : l = l') (h : AGood P f fn df k tm (sput sto id (g, .row esz l')) R) : AGood P f fn df k tm sto R := by
  subst hl
  have hs : ∀ i, sget (sput sto id (g, .row esz l)) i = sget sto i := by
    intro i
    rw [sget_sput]
    split
    · rename_i e; subst e; exact hg.symm
    · rfl
  refine ⟨fun E G a w b h1 h2 h3 h4 h5 h6 h7 h8 h9 => h.go E G a w b h1 h2 h3 h4 h5 h6 h7 ⟨fun i g' o hi => ?_, fun i i' g1 g2 o o' hi hi' => ?_⟩ h9⟩
  · rw [hs] at hi; exact h8.obj _ _ _ hi
  · rw [hs] at hi hi'; exact h8.apart _ _ _ _ _ _ hi hi'
end Go.Rad
