/- The plain law of a name alone. -/
import Derived.Test.YtejdlelhlpnabaaKRText
set_option linter.all false
namespace Go.Rad
open Go
abbrev tA : ByteArray := ⟨#[97]⟩
abbrev tB : ByteArray := ⟨#[98]⟩
abbrev tC : ByteArray := ⟨#[99]⟩
abbrev tDd : ByteArray := ⟨#[100]⟩
abbrev tE : ByteArray := ⟨#[101]⟩
abbrev tF : ByteArray := ⟨#[102]⟩
abbrev refN (s : ByteArray) : Node := ⟨6, ISet.none, [], 0, 0, s⟩
abbrev nameDs (l : List Node) : List Df := [⟨tA, l⟩, ⟨tB, [refN tA]⟩, ⟨tC, [refN tC]⟩, ⟨tDd, [refN tE]⟩, ⟨tE, [refN tDd]⟩]
theorem right_step {seen : List ByteArray} {d : Df} {ds : List Df} (h1 : hasB seen d.name = false) (h2 : nameOk d.name = true) (h3 : rightS d.l = true) : rightD seen (d :: ds) = rightD (seen ++ [d.name]) ds := by
  rw [rightD, if_neg]
  rw [h1, h2, h3]; simp
theorem nameDs_right {l : List Node} (h : rightS l = true) : rightD [] (nameDs l) = true := by
  have h1 : ∀ s, s = tA ∨ s = tC ∨ s = tDd ∨ s = tE → rightS [refN s] = true := by
    rintro s (rfl | rfl | rfl | rfl) <;> decide +kernel
  rw [right_step (by kernel_rfl) (by kernel_rfl) h, right_step (by kernel_rfl) (by kernel_rfl) (h1 _ (by simp)), right_step (by kernel_rfl) (by kernel_rfl) (h1 _ (by simp)), right_step (by kernel_rfl) (by kernel_rfl) (h1 _ (by simp)), right_step (by kernel_rfl) (by kernel_rfl) (h1 _ (by simp)), rightD]
theorem ref_right (s : ByteArray) (h : s = tB ∨ s = tC ∨ s = tDd ∨ s = tF) : rightS [refN s] = true := by
  rcases h with rfl | rfl | rfl | rfl <;> decide +kernel
theorem name_twice {l : List Node} : rightD [] (nameDs l ++ [⟨tA, l⟩]) = false := by
  cases h : rightD [] (nameDs l ++ [⟨tA, l⟩]) with
  | false => rfl
  | true =>
    obtain ⟨_, f2⟩ := rightD_facts _ _ h
    exact absurd rfl (f2 5 ⟨tA, l⟩ rfl ⟨tA, l⟩ (by simp [nameDs]))
theorem name_one {nm : ByteArray → List Node → Out} {s : ByteArray} {o : List Node} {v e : Int} (h : nm s [] = (o, v, e)) : goT nm [refN s] [] [] = if e = 0 then (o, v, 0) else (o, 0, e) := by
  have hs : stepT nm (refN s) [] [] = (o, v, e) := by rw [stepT, if_pos rfl]; exact h
  rw [goT, hs]
  simp only [goT]
  by_cases he : e = 0
  · subst he; simp
  · simp [he]
theorem name_b {l : List Node} (hr : rightS l = true) (hp : ∀ n ∈ l, n.op ≠ 6) : expandS [refN tB] (nameDs l) = (l, 0) := by
  have ht := rightS_ok hr (fun n hn => (rightS_bounds hr n hn).1)
  obtain ⟨_, _, h1, h2⟩ := rightS_kids hr
  have hl := fun nm => goT_plain (nm := nm) hp h2 (fun i n hi => (ht.2 i n hi).2.2) l.length 0 (by omega)
  simp only [List.drop_zero, List.take_zero, show rg 0 = [] from rfl] at hl
  have ha : nameT (nameDs l) 5 [tB] tA [] = (l, (rg l.length).getLastD 0, 0) := by
    rw [nameT, show dfind (nameDs l) tA = some ⟨tA, l⟩ from by kernel_rfl]
    simp only [show hasB [tB] tA = false from by kernel_rfl, Bool.false_eq_true, if_false, hl]
  have hb : nameT (nameDs l) 6 [] tB [] = (l, (rg l.length).getLastD 0, 0) := by
    rw [nameT, show dfind (nameDs l) tB = some ⟨tB, [refN tA]⟩ from by kernel_rfl]
    simp only [show hasB [] tB = false from by kernel_rfl, Bool.false_eq_true, if_false, List.nil_append]
    rw [name_one ha, if_pos rfl]
  rw [expandS, if_pos ⟨ref_right _ (by simp), nameDs_right hr⟩, show (nameDs l).length + 1 = 6 from rfl, name_one hb, if_pos rfl]
  simp
theorem name_c61 {l : List Node} (hr : rightS l = true) : (expandS [refN tC] (nameDs l)).2 = 61 := by
  have ha : nameT (nameDs l) 5 [tC] tC [] = ([], 0, 61) := by
    rw [nameT, show dfind (nameDs l) tC = some ⟨tC, [refN tC]⟩ from by kernel_rfl]
    simp only [show hasB [tC] tC = true from by kernel_rfl, if_true]
  have hb : nameT (nameDs l) 6 [] tC [] = ([], 0, 61) := by
    rw [nameT, show dfind (nameDs l) tC = some ⟨tC, [refN tC]⟩ from by kernel_rfl]
    simp only [show hasB [] tC = false from by kernel_rfl, Bool.false_eq_true, if_false, List.nil_append]
    rw [name_one ha, if_neg (by decide)]
  rw [expandS, if_pos ⟨ref_right _ (by simp), nameDs_right hr⟩, show (nameDs l).length + 1 = 6 from rfl, name_one hb, if_neg (by decide)]
  simp
theorem name_d61 {l : List Node} (hr : rightS l = true) : (expandS [refN tDd] (nameDs l)).2 = 61 := by
  have h0 : nameT (nameDs l) 4 [tDd, tE] tDd [] = ([], 0, 61) := by
    rw [nameT, show dfind (nameDs l) tDd = some ⟨tDd, [refN tE]⟩ from by kernel_rfl]
    simp only [show hasB [tDd, tE] tDd = true from by kernel_rfl, if_true]
  have ha : nameT (nameDs l) 5 [tDd] tE [] = ([], 0, 61) := by
    rw [nameT, show dfind (nameDs l) tE = some ⟨tE, [refN tDd]⟩ from by kernel_rfl]
    simp only [show hasB [tDd] tE = false from by kernel_rfl, Bool.false_eq_true, if_false, List.cons_append, List.nil_append]
    rw [name_one h0, if_neg (by decide)]
  have hb : nameT (nameDs l) 6 [] tDd [] = ([], 0, 61) := by
    rw [nameT, show dfind (nameDs l) tDd = some ⟨tDd, [refN tE]⟩ from by kernel_rfl]
    simp only [show hasB [] tDd = false from by kernel_rfl, Bool.false_eq_true, if_false, List.nil_append]
    rw [name_one ha, if_neg (by decide)]
  rw [expandS, if_pos ⟨ref_right _ (by simp), nameDs_right hr⟩, show (nameDs l).length + 1 = 6 from rfl, name_one hb, if_neg (by decide)]
  simp
theorem name_f60 {l : List Node} (hr : rightS l = true) : (expandS [refN tF] (nameDs l)).2 = 60 := by
  have hb : nameT (nameDs l) 6 [] tF [] = ([], 0, 60) := by
    rw [nameT, show dfind (nameDs l) tF = none from by kernel_rfl]
  rw [expandS, if_pos ⟨ref_right _ (by simp), nameDs_right hr⟩, show (nameDs l).length + 1 = 6 from rfl, name_one hb, if_neg (by decide)]
  simp
end Go.Rad
