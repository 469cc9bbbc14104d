/- The statements of layer 9: GlushCounts. -/
import Derived.Test.YtjhcamnmfjkidaaKRRunC
import Derived.Test.YtjhcamnmfjkidaaKRNode
import Derived.Test.YtjhcamnmfjkidaaRows
set_option linter.all false
namespace Go.Rad
open Go Go.Proofs
set_option linter.all false
set_option maxRecDepth 20000
set_option maxHeartbeats 4000000

abbrev cX (s : ISet) (a b : Nat) : List Node := [⟨2, s, [], 0, 0, ByteArray.empty⟩, ⟨5, ISet.none, [0], a, b, ByteArray.empty⟩]
theorem cX_right {s : ISet} {a b : Nat} (hs : s ≠ ISet.none) (h1 : 1 ≤ a) (h2 : a ≤ b) (h3 : 2 ≤ b) (h4 : b ≤ 4096) : rightP (cX s a b) = true := by
  obtain ⟨f, hf⟩ : ∃ f : Fo, f = .node ⟨5, ISet.none, a, b, ByteArray.empty⟩ (.node ⟨2, s, 0, 0, ByteArray.empty⟩ .nil .nil) .nil := ⟨_, rfl⟩
  have hl : cX s a b = f.lay 0 := by rw [hf]; rfl
  have e1 : Fo.shapeL ⟨2, s, 0, 0, ByteArray.empty⟩ 0 = true := by simp [Fo.shapeL, shapeOk, hs]
  have e2 : Fo.shapeL ⟨5, ISet.none, a, b, ByteArray.empty⟩ 1 = true := by
    have : (a : Int) ≤ 4096 ∧ (1 : Int) ≤ b ∧ (b : Int) ≤ 4096 ∧ (a : Int) ≤ b := by omega
    simp [Fo.shapeL, shapeOk, this]
  have hsh : f.shapeF = true := by
    rw [hf]
    simp only [Fo.shapeF, Fo.all, Fo.deg, e1, e2]; rfl
  rw [hl, right_fo (by rw [hf]; rfl) hsh (by rw [hf]; show (2:Nat) ≤ 1024; decide) (by rw [hf]; rfl), hf]
  simp only [isP, Fo.all, Fo.isBytes, Bool.and_true, Bool.and_eq_true, Bool.not_eq_true', decide_eq_false_iff_not]
  refine ⟨?_, ?_⟩
  · rintro ⟨_, _, h | h | h⟩
    · simp at h
    · omega
    · omega
  · rintro ⟨h, _⟩; cases h
theorem counts_law {s : ISet} {a b : Nat} (hs : s ≠ ISet.none) (h1 : 1 ≤ a) (h2 : a ≤ b) (h3 : 2 ≤ b) (h4 : b ≤ 4096) : ofG [cX s a b] = ([0], [⟨s, a, b, 0, true, []⟩], 0) := by
  have hr := cX_right hs h1 h2 h3 h4
  have hb : (0 : Int) < b := by omega
  have hin : innerS (cX s a b) 0 = true := by
    simp only [innerS, List.any_cons, List.any_nil, Bool.or_false, Bool.or_eq_true, decide_eq_true_eq]
    exact .inr ⟨trivial, hb, rfl⟩
  have hl : listG (cX s a b) 0 [] = ([⟨s, a, b, 0, false, []⟩], [enN, ⟨false, [0], [0]⟩]) := by
    have e1 : stepG (cX s a b) 0 ([], []) ⟨2, s, [], 0, 0, ByteArray.empty⟩ = ([], [enN]) := by
      rw [stepG, if_pos ⟨rfl, hin⟩]; rfl
    have e2 : stepG (cX s a b) 0 ([], [enN]) ⟨5, ISet.none, [0], a, b, ByteArray.empty⟩ = ([⟨s, a, b, 0, false, []⟩], [enN, ⟨false, [0], [0]⟩]) := by
      rw [stepG, if_neg (fun h => by cases h.1), nodeG, if_neg (show ¬ ((5:Int) = 1) by decide), if_neg (show ¬ ((5:Int) = 2) by decide), if_pos rfl, if_pos hb]
      rfl
    rw [listG, List.foldl_cons, List.foldl_cons, List.foldl_nil, e1, e2]
  have ho : oneO (cX s a b) 0 [] = ([⟨s, a, b, 0, true, []⟩], ⟨false, [0], [0]⟩) := by
    rw [oneO, show ((0 : Nat) : Int) = 0 from rfl, hl]; rfl
  rw [ofG, if_neg (by simp [hr]), goO, ho]
  rfl
theorem set_none (s : ISet) : s.cells = [.int .u64 0, .int .u64 0, .int .u64 0, .int .u64 0] ↔ s = ISet.none := by
  obtain ⟨a, b, c, d⟩ := s
  simp [ISet.cells, ISet.none]
theorem glushCounts_c (lo hi : Int) (s : ISet) (h1 : fits .u16 lo) (h2 : fits .u16 hi) :
    ACall Try.prog 6 [.int .u16 lo, .int .u16 hi, .agg s.cells] [] fun r _ => r = .bool true := by
  have h1 : 0 ≤ lo ∧ lo ≤ 65535 := h1
  have h2 : 0 ≤ hi ∧ hi ≤ 65535 := h2
  obtain ⟨p, rfl⟩ : ∃ p : Nat, lo = p := ⟨lo.toNat, by omega⟩
  obtain ⟨u, rfl⟩ : ∃ p : Nat, hi = p := ⟨hi.toNat, by omega⟩
  have u1 := tmod_nat u 4095
  simp only [Int.cast_ofNat_Int] at u1
  have u2 : IntKind.i64.wrap ((u % 4095 : Nat) : Int) = ((u % 4095 : Nat) : Int) := wr_i64n (by omega)
  have u3 : u % 4095 < 4095 := Nat.mod_lt _ (by decide)
  generalize u % 4095 = b' at u1 u2 u3
  have u4 : (b' : Int) + 2 = ((b' + 2 : Nat) : Int) := by omega
  obtain ⟨b, hb⟩ : ∃ b, b = b' + 2 := ⟨_, rfl⟩
  rw [← hb] at u4
  have p0 : IntKind.i64.wrap (p : Int) = (p : Int) := wr_i64n (by omega)
  have p1 := tmod_nat p b
  have p2 : p % b < b := Nat.mod_lt _ (by omega)
  have p5 : ¬ (b : Int) = 0 := by omega
  generalize p % b = a' at p1 p2
  have p3 : (a' : Int) + 1 = ((a' + 1 : Nat) : Int) := by omega
  obtain ⟨a, ha⟩ : ∃ a, a = a' + 1 := ⟨_, rfl⟩
  rw [← ha] at p3
  have hsn := set_none s
  by_cases hs : s = ISet.none
  · have hc := hsn.2 hs
    subst hs
    simp only [ISet.cells, ISet.none]
    refine ACall.enter Try.func6 rfl (by kernel_rfl) (Nat.le_of_ble_eq_true rfl) ?_; simp only [initTm, Nat.reduceAdd]
    repeat' (first
  | refine gSq ?_ | refine gSk ?_ | refine gBl ?_ | refine gIb ?_ | refine gEx rfl ?_
  | ((first
  | (refine gRg [] [0, 1, 2, 5, 6, 7, 8, 9, 10, 11, 24] ?_; intro K hK)
  | refine cAl (shown9uc) rfl rfl rfl ?_
  | (refine gd_split ?_ ?_ <;> intro hb <;> (try simp only [bls] at hb) <;> (try simp only [hb]))
  | refine gRt [] [.tmp 6] rfl ?_ | refine gDn [] [.tmp 6] rfl ?_) <;> (try simp only [go_sem, simprocAttr, u1, u2, u4, p0, p1, p3, p5, eq_self]))
  | (refine hK _ _ ?_; clear hK K; simp only [go_sem, simprocAttr])
  | refine gCd (by simp only [go_sem, simprocAttr]; rfl) rfl ?_
  | refine brT ?_ | refine brF ?_
  | (refine brS ?_ ?_ <;> intro hc <;> (try simp only [bls] at hc) <;> (try simp only [hc, bls]))
  | intro _ | refine And.intro ?_ ?_)
    all_goals first | omega | (unfold bigLen; omega) | exact ⟨_, _, ⟨rfl, rfl⟩, rfl⟩ | exact ⟨_, rfl⟩ | (rename_i hy; simp only [List.mem_singleton] at hy; subst hy; rfl) | with_reducible rfl | skip
    all_goals trace_state
  · have hO := fun f => of9F_c f [cX s a b] (by simp) (fun x hx => by
      rw [List.mem_singleton.1 hx]
      intro n hn
      simp only [List.mem_cons, List.not_mem_nil, or_false] at hn
      rcases hn with rfl | rfl <;> exact ⟨by show _ ≤ maxLen; simp [maxLen], by show _ ≤ maxLen; simp [maxLen]⟩)
    rw [counts_law hs (by omega) (by omega) (by omega) (by omega)] at hO
    have hS := fun b1 b2 b3 b4 => Same9uc b1 b2 b3 b4 [0] [⟨s, a, b, 0, true, []⟩] (by simp [maxLen]) (by simp [maxLen]) (fun p hp => by rw [List.mem_singleton.1 hp]; exact Nat.zero_le _)
    have hc : ¬ s.cells = [.int .u64 0, .int .u64 0, .int .u64 0, .int .u64 0] := fun h => hs (hsn.1 h)
    obtain ⟨sa, sb, sc, sd⟩ := s
    clear hsn hs
    simp only [ISet.cells, trees, List.map_cons, List.map_nil, Node.cells, Node.cellsF, Po.cells, Po.cellsF, ISet.none] at hO hS hc ⊢
    simp only [List.cons.injEq, AVal.int.injEq, true_and, and_true] at hc
    refine ACall.enter Try.func6 rfl (by kernel_rfl) (Nat.le_of_ble_eq_true rfl) ?_; simp only [initTm, Nat.reduceAdd]
    repeat' (first
  | refine gSq ?_ | refine gSk ?_ | refine gBl ?_ | refine gIb ?_ | refine gEx rfl ?_
  | ((first
  | (refine AGood.at 6 ?_; (refine AGood.boxRef 5 5 rfl rfl rfl ?_; simp only [go_sem, simprocAttr]); (refine gRg [29, 33, 34, 45, 50] [0, 1, 2, 5, 6, 7, 8, 9, 10, 11, 24] ?_; intro K hK))
  | (refine gRg [29, 33, 34, 45, 50] [0, 1, 2, 5, 6, 7, 8, 9, 10, 11, 24] ?_; intro K hK)
  | refine cAl (shown9uc) rfl rfl rfl ?_
  | refine cAl (hS _ _ _ _) rfl rfl rfl ?_
  | (refine ACall.mono (hO _) ?_; rintro _ _ ⟨rfl, rfl⟩)
  | (refine gd_split ?_ ?_ <;> intro hb <;> (try simp only [bls] at hb) <;> (try simp only [hb]))
  | refine gRt [] [.tmp 6] rfl ?_ | refine gDn [] [.tmp 6] rfl ?_) <;> (try simp only [go_sem, simprocAttr, u1, u2, u4, p0, p1, p3, p5, hc, eq_self, beq_self_eq_true, AVal.isCell]))
  | (refine hK _ _ ?_; clear hK K; simp only [go_sem, simprocAttr])
  | refine gCd (by simp only [go_sem, simprocAttr]; rfl) rfl ?_
  | refine brT ?_ | refine brF ?_
  | (refine brS ?_ ?_ <;> intro hc <;> (try simp only [bls] at hc) <;> (try simp only [hc, bls]))
  | intro _ | refine And.intro ?_ ?_)
    all_goals first | omega | (unfold bigLen; omega) | exact ⟨_, _, ⟨rfl, rfl⟩, rfl⟩ | exact ⟨_, rfl⟩ | (rename_i hy; simp only [List.mem_singleton] at hy; subst hy; rfl) | with_reducible rfl | skip
    all_goals trace_state
end Go.Rad
/- What the last texts of layer 8 share. -/
namespace Go.Rad
open Go Go.Proofs
theorem nodeT : NodeTy LL 42 := ⟨5, 35, 25, 3, 9, 33, rfl, rfl, rfl, rfl, rfl, rfl, rfl⟩
theorem ownF : ownKnob Try.prog.godebug = none := by kernel_rfl
theorem laidF : laidOutB Try.prog = true := by kernel_rfl
abbrev kks (i : IntKind) (l : List Int) : List (List AVal) := l.map fun n => [.int i n]
theorem ty_ks {L : Lay} {k t e : Nat} {y : List AVal} {i : IntKind} (ht : (L t).ty = .slice e) (he : (L e).ty = .int i) (h : typed L (k + 2) t y) : ∃ l : List Int, y = [.sl true false (kks i l)] ∧ l.length ≤ maxLen ∧ ∀ n ∈ l, fits i n := by
  obtain ⟨l, rfl, hl, hx⟩ := ty_slice ht h
  obtain ⟨ns, rfl, hf⟩ := list_of (F := fun n => [AVal.int i n]) (P := fun n => fits i n) fun x hx' => by
    obtain ⟨n, rfl, hf⟩ := ty_int he (hx x hx')
    exact ⟨n, rfl, hf⟩
  exact ⟨ns, rfl, by simpa using hl, hf⟩
end Go.Rad
