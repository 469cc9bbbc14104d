/- Contracts: sets by bits. -/
import Derived.Test.YtejdlelhlpnabaaDoorKC00
import Derived.Test.YtejdlelhlpnabaaDoorKRText
set_option linter.all false
namespace Go.Rad
open Go Go.Proofs
set_option linter.all false
set_option maxRecDepth 20000
set_option maxHeartbeats 4000000

/-- How many bits at the end are 0, as the library reckons it. -/
def tzI (n : Nat) : Nat := (n &&& (18446744073709551616 - n)) * 285870213051353865 % 18446744073709551616 / 288230376151711744
def tzS (n : Nat) : Int := if n = 0 then 64 else bruijn.getD (tzI n) 0
theorem tzI_lt (n : Nat) : tzI n < 64 := by unfold tzI; omega
theorem bruijn_le (i : Nat) : 0 ≤ bruijn.getD i 0 ∧ bruijn.getD i 0 ≤ 63 := by
  have h : bruijn.all (fun x => decide (0 ≤ x ∧ x ≤ 63)) = true := by decide
  rw [List.getD_eq_getElem?_getD]
  cases hx : bruijn[i]? with
  | none => decide
  | some x =>
    have := List.all_eq_true.1 h x (List.mem_of_getElem? hx)
    simpa using this
theorem glob_drop {i : Nat} (h : i < 64) : ∃ r, (globC bruijn).drop i = .int .u8 (bruijn.getD i 0) :: r := by
  have hl : i < bruijn.length := h
  refine ⟨(globC bruijn).drop (i + 1), ?_⟩
  have hl2 : i < (globC bruijn).length := h
  have e : (globC bruijn)[i] = .int .u8 (bruijn.getD i 0) := by
    simp [globC, List.getD_eq_getElem?_getD, List.getElem?_eq_getElem hl]
  rw [List.drop_eq_getElem_cons hl2, e]
theorem glob0 : globU8 0 = some bruijn := rfl
theorem ev_glob {tm : Tm} : ev tm (.global 0) = .ref true (globC bruijn) := Eq.trans rfl rfl
theorem globC_len : (globC bruijn).length = 64 := Eq.trans (List.length_map _) (Eq.trans rfl rfl)
theorem tz_e1 {n : Nat} (hn : n < 18446744073709551616) (h0 : ¬ n = 0) : IntKind.u64.wrap (0 - (n : Int)) = ((18446744073709551616 - n : Nat) : Int) := by
  simp [IntKind.wrap, IntKind.signed, IntKind.bits]
  omega
theorem tz_e3 (n : Nat) : IntKind.u64.wrap (((n &&& (18446744073709551616 - n) : Nat) : Int) * 285870213051353865) = (((n &&& (18446744073709551616 - n)) * 285870213051353865 % 18446744073709551616 : Nat) : Int) := by
  generalize n &&& (18446744073709551616 - n) = m
  simp [IntKind.wrap, IntKind.signed, IntKind.bits]
theorem tz_e4 (n : Nat) : (((n &&& (18446744073709551616 - n)) * 285870213051353865 % 18446744073709551616 : Nat) : Int).fdiv 288230376151711744 = ((tzI n : Nat) : Int) := by
  unfold tzI
  generalize (n &&& (18446744073709551616 - n)) * 285870213051353865 % 18446744073709551616 = m
  rw [Int.fdiv_eq_ediv_of_nonneg _ (by decide)]
  omega
theorem tz_facts {n : Nat} (hn : n < 18446744073709551616) (h0 : ¬ n = 0) : ∃ c k m i : Nat, IntKind.u64.wrap (0 - (n : Int)) = (c : Int) ∧ bitsOf .and .u64 n c = (k : Int) ∧ IntKind.u64.wrap ((k : Int) * 285870213051353865) = (m : Int) ∧ (m : Int).fdiv 288230376151711744 = (i : Int) ∧ i = tzI n :=
  ⟨_, _, _, _, tz_e1 hn h0, bits_and hn (Nat.sub_lt (by decide) (Nat.pos_of_ne_zero h0)), tz_e3 n, tz_e4 n, rfl⟩
theorem tz_c (n : Nat) (hn : n < 18446744073709551616) : ACall Tryd.prog 57 [.int .u64 n] [] fun r s => r = .int .i64 (tzS n) ∧ s = [] := by
  by_cases h0 : n = 0
  · subst h0
    refine ACall.enter Tryd.func57 rfl (by kernel_rfl) (Nat.le_of_ble_eq_true rfl) ?_; simp only [initTm, Nat.reduceAdd]
    repeat' (first
  | refine gSq ?_ | refine gSk ?_ | refine gBl ?_ | refine gIb ?_ | refine gEx rfl ?_
  | ((first
  | (refine gRg [] [0, 2, 4] ?_; intro K hK)
  | (refine gd_split ?_ ?_ <;> intro hb <;> (try simp only [bls] at hb) <;> (try simp only [hb]))
  | refine gRt [] [.tmp 2] rfl ?_ | refine gDn [] [.tmp 2] rfl ?_) <;> (try simp only [go_sem, simprocAttr]))
  | (refine hK _ _ ?_; clear hK K; simp only [go_sem, simprocAttr])
  | refine gCd (by simp only [go_sem, simprocAttr]; rfl) rfl ?_
  | refine brT ?_ | refine brF ?_
  | (refine brS ?_ ?_ <;> intro hc <;> (try simp only [bls] at hc) <;> (try simp only [hc, bls]))
  | intro _ | refine And.intro ?_ ?_)
    all_goals rfl
  · have e0 : ¬ (n : Int) = 0 := by omega
    have hts : tzS n = bruijn.getD (tzI n) 0 := if_neg h0
    rw [hts]
    obtain ⟨c, k, m, i, e1, e2, e3, e4, hi⟩ := tz_facts hn h0
    have e5 := tzI_lt n
    rw [← hi] at e5 ⊢
    clear hi
    have f58 : (2 : Int) ^ min 58 64 = 288230376151711744 := by decide
    have e6 : (i : Int) < 64 := by omega
    have e7 : (0 : Int) ≤ (i : Nat) := by omega
    have e11 : i ≤ 64 := by omega
    obtain ⟨r, e8⟩ := glob_drop e5
    have e9 := bruijn_le i
    have e10 : IntKind.i64.wrap (bruijn.getD i 0) = bruijn.getD i 0 := wr_i64 (by unfold inI64; omega)
    refine ACall.enter Tryd.func57 rfl (by kernel_rfl) (Nat.le_of_ble_eq_true rfl) ?_; simp only [initTm, Nat.reduceAdd]
    repeat' (first
  | refine gSq ?_ | refine gSk ?_ | refine gBl ?_ | refine gIb ?_ | refine gEx rfl ?_
  | ((first
  | (refine gRg [] [0, 2, 4] ?_; intro K hK)
  | (refine gd_split ?_ ?_ <;> intro hb <;> (try simp only [bls] at hb) <;> (try simp only [hb]))
  | refine gRt [] [.tmp 2] rfl ?_ | refine gDn [] [.tmp 2] rfl ?_) <;> (try simp only [go_sem, simprocAttr, e0, e1, e2, e3, f58, e4, e6, e7, e8, e10, ev_glob, globC_len, Nat.mul_one, IntKind.bits]))
  | (refine hK _ _ ?_; clear hK K; simp only [go_sem, simprocAttr])
  | refine gCd (by simp only [go_sem, simprocAttr]; rfl) rfl ?_
  | refine brT ?_ | refine brF ?_
  | (refine brS ?_ ?_ <;> intro hc <;> (try simp only [bls] at hc) <;> (try simp only [hc, bls]))
  | intro _ | refine And.intro ?_ ?_)
    all_goals first | omega | (unfold bigLen; omega) | exact ⟨_, _, ⟨rfl, rfl⟩, rfl⟩ | exact ⟨_, rfl⟩ | (rename_i hy; simp only [List.mem_singleton] at hy; subst hy; rfl) | skip
end Go.Rad
