/- Contracts: whether names stand for trees, as the document asks it. -/
import Derived.Test.YtejdlelhlpnabaaDoorKC04c
import Derived.Test.YtejdlelhlpnabaaDoorKC06e
import Derived.Test.YtejdlelhlpnabaaDoorKRText
set_option linter.all false
namespace Go.Rad
open Go Go.Proofs
set_option linter.all false
set_option maxRecDepth 20000
set_option maxHeartbeats 4000000

theorem rightR_c (q f : Bool) (ds : List Df) (hl : ds.length ≤ 1000000) (hd : ∀ d ∈ ds, dfOk d) : ACall Tryd.prog 18 [.sl q f (defs ds)] [] fun r s => r = .bool (rightD [] ds) ∧ s = [] := by
  obtain ⟨S, hS⟩ : ∃ S, S = rightD [] ds := ⟨_, rfl⟩
  rw [← hS]
  have hall : S = true ↔ (∀ d ∈ ds, nameOk d.name = true ∧ rightS d.l = true) ∧ distinct ds := by
    rw [hS, rightD_iff]; simp [hasB]
  refine ACall.enter Tryd.func18 rfl (by kernel_rfl) (Nat.le_of_ble_eq_true rfl) ?_; simp only [initTm, Nat.reduceAdd]
  repeat' (first
  | refine gSq ?_ | refine gSk ?_ | refine gBl ?_ | refine gIb ?_ | refine gEx rfl ?_
  | ((first
  | (refine gRg [] [0, 2, 3, 4, 8, 26, 29, 42] ?_; intro K hK)
  | (refine gDr 9 [] 11 [0, 1, 2, 3, 4, 5, 6, 7, 8, 9, 10] [0, 2, 3, 4, 8, 26, 29, 42] rfl ?_; intro K hK)
  | (refine gd_split ?_ ?_ <;> intro hb <;> (try simp only [bls] at hb) <;> (try simp only [hb]))
  | refine gRt [] [.tmp 2] rfl ?_ | refine gDn [] [.tmp 2] rfl ?_) <;> (try simp only [go_sem, simprocAttr]))
  | (refine hK _ _ ?_; clear hK K; simp only [go_sem, simprocAttr])
  | refine gCd (by simp only [go_sem, simprocAttr]; rfl) rfl ?_
  | refine brT ?_ | refine brF ?_
  | (refine brS ?_ ?_ <;> intro hc <;> (try simp only [bls] at hc) <;> (try simp only [hc, bls]))
  | intro _ | refine And.intro ?_ ?_)
  refine AGood.prune [0, 2, 3] ?_; simp only [go_sem, simprocAttr]
  refine AGood.loopInv (α := Nat) (fun i => ([(0, .sl q f (defs ds)), (2, .bool false), (3, .int .i64 i)], [])) (fun i => i ≤ ds.length ∧ (∀ d ∈ ds.take i, nameOk d.name = true ∧ rightS d.l = true) ∧ distinct (ds.take i)) (fun i => ds.length - i) 0 ⟨Nat.zero_le _, by simp, by simp [distinct]⟩ rfl ?_
  rintro i ⟨hi, ha, hdi⟩ ih
  simp only
  by_cases hle : i < ds.length
  · have e4 : (i : Int) < ds.length := by omega
    have e5 : (0 : Int) ≤ i := by omega
    have hx : ds[i]? = some ds[i] := List.getElem?_eq_getElem hle
    have hmem := List.getElem_mem hle
    have hm := hd _ hmem
    have ht := take_one hx
    have hno : S = true → nameOk ds[i].name = true ∧ rightS ds[i].l = true := fun h => (hall.1 h).1 _ hmem
    have hne : S = true → ∀ (j : Nat) (e : Df), j < i → ds[j]? = some e → e.name ≠ ds[i].name := by
      intro h j e hj he
      have h2 := (hall.1 h).2
      rw [List.getElem?_eq_some_iff] at he
      obtain ⟨hjl, rfl⟩ := he
      exact List.pairwise_iff_getElem.1 h2 j i hjl hle hj
    generalize ds[i] = x at hx hm ht hno hne
    obtain ⟨xn, xl⟩ := x
    obtain ⟨hm1, hm2⟩ := hm
    simp only at hm1 hm2 hno hne
    have hn := name4uc xn hm1
    have hr := right4uc true false xl fun n h => (hm2 n h).symm
    rw [← right_eq] at hr
    by_cases hc : nameOk xn = true ∧ rightS xl = true
    · obtain ⟨h1, h2⟩ := hc
      rw [h1] at hn
      rw [h2] at hr
      repeat' (first
  | refine gSq ?_ | refine gSk ?_ | refine gBl ?_ | refine gIb ?_ | refine gEx rfl ?_
  | ((first
  | (refine gRg [] [0, 2, 3, 4, 8, 26, 29, 42] ?_; intro K hK)
  | (refine gDr 9 [] 11 [0, 1, 2, 3, 4, 5, 6, 7, 8, 9, 10] [0, 2, 3, 4, 8, 26, 29, 42] rfl ?_; intro K hK)
  | refine cAl (hn) rfl rfl rfl ?_
  | refine cAl (hr) rfl rfl rfl ?_
  | (refine gd_split ?_ ?_ <;> intro hb <;> (try simp only [bls] at hb) <;> (try simp only [hb]))
  | refine gRt [] [.tmp 2] rfl ?_ | refine gDn [] [.tmp 2] rfl ?_) <;> (try simp only [go_sem, simprocAttr, e4, e5, hx, Option.some.injEq, forall_eq']))
  | (refine hK _ _ ?_; clear hK K; simp only [go_sem, simprocAttr])
  | refine gCd (by simp only [go_sem, simprocAttr]; rfl) rfl ?_
  | refine brT ?_ | refine brF ?_
  | (refine brS ?_ ?_ <;> intro hc <;> (try simp only [bls] at hc) <;> (try simp only [hc, bls]))
  | intro _ | refine And.intro ?_ ?_)
      have ih := fun h => ih (i + 1) h (by omega)
      refine AGood.prune [0, 2, 3, 4] ?_; simp only [go_sem, simprocAttr]
      refine AGood.loopInv (α := Nat) (fun k => ([(0, .sl q f (defs ds)), (2, .bool false), (3, .int .i64 i), (4, .int .i64 k)], [])) (fun k => k ≤ i ∧ ∀ (j : Nat) (e : Df), j < k → ds[j]? = some e → e.name ≠ xn) (fun k => i - k) 0 ⟨Nat.zero_le _, fun j e h => by omega⟩ rfl ?_
      rintro k ⟨hk, hkn⟩ ih2
      simp only
      by_cases hki : k < i
      · have f4 : (k : Int) < i := by omega
        have f5 : (0 : Int) ≤ k := by omega
        have f6 : (k : Int) < ds.length := by omega
        have hy : ds[k]? = some ds[k] := List.getElem?_eq_getElem (by omega)
        have ih2 := fun h => ih2 (k + 1) h (by omega)
        have hkn2 : ds[k].name ≠ xn → ∀ (j : Nat) (e : Df), j < k + 1 → ds[j]? = some e → e.name ≠ xn := by
          intro h j e hj he
          by_cases hjk : j = k
          · subst hjk; rw [hy] at he; cases he; exact h
          · exact hkn j e (by omega) he
        have hne2 := fun h => hne h k _ hki hy
        generalize ds[k] = y at hy hkn2 hne2
        obtain ⟨yn, yl⟩ := y
        simp only at hkn2 hne2
        by_cases hyx : yn = xn
        · have hS2 : S = false := by
            cases h : S with
            | false => rfl
            | true => exact absurd hyx (hne2 h)
          subst hS2
          repeat' (first
  | refine gSq ?_ | refine gSk ?_ | refine gBl ?_ | refine gIb ?_ | refine gEx rfl ?_
  | ((first
  | (refine gRg [] [0, 2, 3, 4, 8, 26, 29, 42] ?_; intro K hK)
  | (refine gDr 9 [] 11 [0, 1, 2, 3, 4, 5, 6, 7, 8, 9, 10] [0, 2, 3, 4, 8, 26, 29, 42] rfl ?_; intro K hK)
  | (refine gd_split ?_ ?_ <;> intro hb <;> (try simp only [bls] at hb) <;> (try simp only [hb]))
  | refine gRt [] [.tmp 2] rfl ?_ | refine gDn [] [.tmp 2] rfl ?_) <;> (try simp only [go_sem, simprocAttr, e4, e5, f4, f5, f6, hx, hy, hyx, Option.some.injEq, forall_eq']))
  | (refine hK _ _ ?_; clear hK K; simp only [go_sem, simprocAttr])
  | refine gCd (by simp only [go_sem, simprocAttr]; rfl) rfl ?_
  | refine brT ?_ | refine brF ?_
  | (refine brS ?_ ?_ <;> intro hc <;> (try simp only [bls] at hc) <;> (try simp only [hc, bls]))
  | intro _ | refine And.intro ?_ ?_)
        · repeat' (first
  | refine gSq ?_ | refine gSk ?_ | refine gBl ?_ | refine gIb ?_ | refine gEx rfl ?_
  | ((first
  | (refine gRg [] [0, 2, 3, 4, 8, 26, 29, 42] ?_; intro K hK)
  | (refine gDr 9 [] 11 [0, 1, 2, 3, 4, 5, 6, 7, 8, 9, 10] [0, 2, 3, 4, 8, 26, 29, 42] rfl ?_; intro K hK)
  | (refine gd_split ?_ ?_ <;> intro hb <;> (try simp only [bls] at hb) <;> (try simp only [hb]))
  | refine gRt [] [.tmp 2] rfl ?_ | refine gDn [] [.tmp 2] rfl ?_) <;> (try simp only [go_sem, simprocAttr, e4, e5, f4, f5, f6, hx, hy, hyx, Option.some.injEq, forall_eq']))
  | (refine hK _ _ ?_; clear hK K; simp only [go_sem, simprocAttr])
  | refine gCd (by simp only [go_sem, simprocAttr]; rfl) rfl ?_
  | refine brT ?_ | refine brF ?_
  | (refine brS ?_ ?_ <;> intro hc <;> (try simp only [bls] at hc) <;> (try simp only [hc, bls]))
  | intro _ | refine And.intro ?_ ?_)
          all_goals first | omega | (unfold bigLen; omega) | exact ⟨_, _, ⟨rfl, rfl⟩, rfl⟩ | exact ⟨_, rfl⟩ | (rename_i hy; simp only [List.mem_singleton] at hy; subst hy; rfl) | skip
          refine AGood.prune [0, 2, 3, 4] ?_; simp only [go_sem, simprocAttr]
          exact (ih2 ⟨by omega, hkn2 hyx⟩).cast rfl rfl
      · have f4 : ¬ (k : Int) < i := by omega
        have hki2 : k = i := by omega
        subst hki2
        repeat' (first
  | refine gSq ?_ | refine gSk ?_ | refine gBl ?_ | refine gIb ?_ | refine gEx rfl ?_
  | ((first
  | (refine gRg [] [0, 2, 3, 4, 8, 26, 29, 42] ?_; intro K hK)
  | (refine gDr 9 [] 11 [0, 1, 2, 3, 4, 5, 6, 7, 8, 9, 10] [0, 2, 3, 4, 8, 26, 29, 42] rfl ?_; intro K hK)
  | (refine gd_split ?_ ?_ <;> intro hb <;> (try simp only [bls] at hb) <;> (try simp only [hb]))
  | refine gRt [] [.tmp 2] rfl ?_ | refine gDn [] [.tmp 2] rfl ?_) <;> (try simp only [go_sem, simprocAttr, f4]))
  | (refine hK _ _ ?_; clear hK K; simp only [go_sem, simprocAttr])
  | refine gCd (by simp only [go_sem, simprocAttr]; rfl) rfl ?_
  | refine brT ?_ | refine brF ?_
  | (refine brS ?_ ?_ <;> intro hc <;> (try simp only [bls] at hc) <;> (try simp only [hc, bls]))
  | intro _ | refine And.intro ?_ ?_)
        all_goals first | omega | (unfold bigLen; omega) | exact ⟨_, _, ⟨rfl, rfl⟩, rfl⟩ | exact ⟨_, rfl⟩ | (rename_i hy; simp only [List.mem_singleton] at hy; subst hy; rfl) | skip
        refine AGood.prune [0, 2, 3] ?_; simp only [go_sem, simprocAttr]
        refine (ih ⟨by omega, ?_, ?_⟩).cast rfl rfl
        · intro d hd'
          rw [ht] at hd'
          rcases List.mem_append.1 hd' with h | h
          · exact ha d h
          · simp only [List.mem_singleton] at h; subst h; exact ⟨h1, h2⟩
        · rw [ht]
          refine List.pairwise_append.2 ⟨hdi, by simp, fun a ha' b hb => ?_⟩
          simp only [List.mem_singleton] at hb
          subst hb
          obtain ⟨j, hj⟩ := List.mem_iff_getElem?.1 ha'
          rw [List.getElem?_take] at hj
          split at hj
          · rename_i hjk; exact hkn j a hjk hj
          · cases hj
    · have hS2 : S = false := by
        cases h : S with
        | false => rfl
        | true => exact absurd (hno h) hc
      subst hS2
      cases h1 : nameOk xn <;> rw [h1] at hn
      · repeat' (first
  | refine gSq ?_ | refine gSk ?_ | refine gBl ?_ | refine gIb ?_ | refine gEx rfl ?_
  | ((first
  | (refine gRg [] [0, 2, 3, 4, 8, 26, 29, 42] ?_; intro K hK)
  | (refine gDr 9 [] 11 [0, 1, 2, 3, 4, 5, 6, 7, 8, 9, 10] [0, 2, 3, 4, 8, 26, 29, 42] rfl ?_; intro K hK)
  | refine cAl (hn) rfl rfl rfl ?_
  | refine cAl (hr) rfl rfl rfl ?_
  | (refine gd_split ?_ ?_ <;> intro hb <;> (try simp only [bls] at hb) <;> (try simp only [hb]))
  | refine gRt [] [.tmp 2] rfl ?_ | refine gDn [] [.tmp 2] rfl ?_) <;> (try simp only [go_sem, simprocAttr, e4, e5, hx, Option.some.injEq, forall_eq']))
  | (refine hK _ _ ?_; clear hK K; simp only [go_sem, simprocAttr])
  | refine gCd (by simp only [go_sem, simprocAttr]; rfl) rfl ?_
  | refine brT ?_ | refine brF ?_
  | (refine brS ?_ ?_ <;> intro hc <;> (try simp only [bls] at hc) <;> (try simp only [hc, bls]))
  | intro _ | refine And.intro ?_ ?_)
      · have h2 : rightS xl = false := by simpa [h1] using hc
        rw [h2] at hr
        repeat' (first
  | refine gSq ?_ | refine gSk ?_ | refine gBl ?_ | refine gIb ?_ | refine gEx rfl ?_
  | ((first
  | (refine gRg [] [0, 2, 3, 4, 8, 26, 29, 42] ?_; intro K hK)
  | (refine gDr 9 [] 11 [0, 1, 2, 3, 4, 5, 6, 7, 8, 9, 10] [0, 2, 3, 4, 8, 26, 29, 42] rfl ?_; intro K hK)
  | refine cAl (hn) rfl rfl rfl ?_
  | refine cAl (hr) rfl rfl rfl ?_
  | (refine gd_split ?_ ?_ <;> intro hb <;> (try simp only [bls] at hb) <;> (try simp only [hb]))
  | refine gRt [] [.tmp 2] rfl ?_ | refine gDn [] [.tmp 2] rfl ?_) <;> (try simp only [go_sem, simprocAttr, e4, e5, hx, Option.some.injEq, forall_eq']))
  | (refine hK _ _ ?_; clear hK K; simp only [go_sem, simprocAttr])
  | refine gCd (by simp only [go_sem, simprocAttr]; rfl) rfl ?_
  | refine brT ?_ | refine brF ?_
  | (refine brS ?_ ?_ <;> intro hc <;> (try simp only [bls] at hc) <;> (try simp only [hc, bls]))
  | intro _ | refine And.intro ?_ ?_)
  · have e4 : ¬ (i : Int) < ds.length := by omega
    rw [List.take_of_length_le (by omega)] at ha hdi
    have hS2 : S = true := hall.2 ⟨ha, hdi⟩
    subst hS2
    repeat' (first
  | refine gSq ?_ | refine gSk ?_ | refine gBl ?_ | refine gIb ?_ | refine gEx rfl ?_
  | ((first
  | (refine gRg [] [0, 2, 3, 4, 8, 26, 29, 42] ?_; intro K hK)
  | (refine gDr 9 [] 11 [0, 1, 2, 3, 4, 5, 6, 7, 8, 9, 10] [0, 2, 3, 4, 8, 26, 29, 42] rfl ?_; intro K hK)
  | (refine gd_split ?_ ?_ <;> intro hb <;> (try simp only [bls] at hb) <;> (try simp only [hb]))
  | refine gRt [] [.tmp 2] rfl ?_ | refine gDn [] [.tmp 2] rfl ?_) <;> (try simp only [go_sem, simprocAttr, e4]))
  | (refine hK _ _ ?_; clear hK K; simp only [go_sem, simprocAttr])
  | refine gCd (by simp only [go_sem, simprocAttr]; rfl) rfl ?_
  | refine brT ?_ | refine brF ?_
  | (refine brS ?_ ?_ <;> intro hc <;> (try simp only [bls] at hc) <;> (try simp only [hc, bls]))
  | intro _ | refine And.intro ?_ ?_)
end Go.Rad
