/- Both cases of letters: nothing stays nothing; a tree stays one. -/
import Derived.Test.YtejdlelhlpnabaaDoorKC06g
import Derived.Test.YtejdlelhlpnabaaDoorKRText
set_option linter.all false
namespace Go.Rad
open Go Go.Proofs
theorem or_zero {a b : NSet} (h : a.or b = nzero) : a = nzero ∧ b = nzero := by
  obtain ⟨a0, a1, a2, a3⟩ := a
  obtain ⟨b0, b1, b2, b3⟩ := b
  simp only [NSet.or, nzero, NSet.mk.injEq, Nat.or_eq_zero_iff] at h ⊢
  omega
theorem foldLo_zero : ∀ (l : List Nat) (s : NSet), l.foldl foldLo s = nzero → s = nzero
  | [], _, h => h
  | _ :: l, _, h => (or_zero (or_zero (foldLo_zero l _ h)).1).2
theorem foldHi_zero : ∀ (l : List Nat) (s : NSet), l.foldl foldHi s = nzero → s = nzero
  | [], _, h => h
  | _ :: l, _, h => (or_zero (or_zero (foldHi_zero l _ h)).1).2
theorem listS_zero : listS nzero = [] := by decide +kernel
theorem and_zero (r : NSet) : (nfull.and nzero).and r = nzero := by
  obtain ⟨a, b, c, d⟩ := r
  simp [NSet.and, nfull, nzero]
theorem foldS_zero (s : NSet) : foldS s = nzero ↔ s = nzero := by
  constructor
  · intro h; exact foldLo_zero _ _ (foldHi_zero _ _ h)
  · rintro rfl
    unfold foldS
    rw [and_zero, and_zero, listS_zero]; rfl
abbrev phi (s : ISet) : ISet := (foldS s.N).I
theorem I_zero (s : NSet) : s.I = ISet.none ↔ s = nzero := by
  obtain ⟨a, b, c, d⟩ := s
  simp only [NSet.I, ISet.none, nzero, ISet.mk.injEq, NSet.mk.injEq]
  omega
theorem phi_keeps {l : List Node} (h : ∀ n ∈ l, n.s.okI) : Keeps phi l := by
  intro n hn
  have h1 := (okI_N (h n hn)).2
  rw [show phi n.s = (foldS n.s.N).I from rfl, I_zero, foldS_zero, ← I_zero, ← h1]
theorem foldT_map {l : List Node} (h : rightS l = true) : foldT l = l.map (mapS phi) := by
  unfold foldT; rw [if_pos h]; rfl
theorem law_order {l a : List Node} {ds : List Df} (hl : ∀ n ∈ l, n.s.okI) (hd : ∀ d ∈ ds, ∀ n ∈ d.l, n.s.okI) (h : expandS l ds = (a, 0)) : expandS (foldT l) (ds.map fun d => ⟨d.name, foldT d.l⟩) = (foldT a, 0) ∧ rightS a = true ∧ rightS (foldT l) = true ∧ rightS (foldT a) = true := by
  obtain ⟨h1, h2, h3, h4⟩ := expand_ok h
  have hk := phi_keeps hl
  have hm := expand_mapS (ds := ds) hk fun d hd' => phi_keeps (hd d hd')
  rw [h] at hm
  have hds : (ds.map fun d => (⟨d.name, foldT d.l⟩ : Df)) = ds.map (mapD phi) := by
    refine List.map_congr_left fun d hd' => ?_
    have := (((rightD_iff ds []).1 h2).1 d hd').2.2
    rw [foldT_map this]
  rw [hds, foldT_map h1, foldT_map h3]
  refine ⟨hm, h3, by rw [rightS_mapS hk]; exact h1, ?_⟩
  obtain ⟨_, _, h5, _⟩ := expand_ok hm
  exact h5
end Go.Rad
