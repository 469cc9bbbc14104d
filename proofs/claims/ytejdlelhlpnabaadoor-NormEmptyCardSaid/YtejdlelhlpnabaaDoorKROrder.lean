/- The order of names counts nothing; sets may be turned ahead of names, or behind. -/
import Derived.Test.YtejdlelhlpnabaaDoorKRNormLaw
import Derived.Test.YtejdlelhlpnabaaDoorKC03b
import Derived.Test.YtejdlelhlpnabaaDoorKRDefer
set_option linter.all false
namespace Go.Rad
open Go
abbrev distinct (ds : List Df) : Prop := ds.Pairwise fun a b => a.name ≠ b.name
theorem rightD_iff : ∀ (ds : List Df) (seen : List ByteArray), rightD seen ds = true ↔ (∀ d ∈ ds, hasB seen d.name = false ∧ nameOk d.name = true ∧ rightS d.l = true) ∧ distinct ds
  | [], seen => by simp [rightD, distinct]
  | d :: ds, seen => by
    rw [rightD]
    have ih := rightD_iff ds (seen ++ [d.name])
    have hb : ∀ x : ByteArray, hasB (seen ++ [d.name]) x = false ↔ hasB seen x = false ∧ d.name ≠ x := by
      intro x; simp [hasB, List.any_append]
    split
    · rename_i h
      constructor
      · intro h; cases h
      · rintro ⟨h1, _⟩
        obtain ⟨a, b, c⟩ := h1 d (by simp)
        rcases h with h | h | h
        · rw [a] at h; cases h
        · rw [b] at h; cases h
        · rw [c] at h; cases h
    · rename_i h
      simp only [not_or, Bool.not_eq_true, Bool.not_eq_false] at h
      rw [ih]
      simp only [hb]
      constructor
      · rintro ⟨h1, h2⟩
        refine ⟨fun e he => ?_, ?_⟩
        · rcases List.mem_cons.1 he with rfl | he
          · exact h
          · obtain ⟨a, b, c⟩ := h1 e he; exact ⟨a.1, b, c⟩
        · exact List.Pairwise.cons (fun e he => (h1 e he).1.2) h2
      · rintro ⟨h1, h2⟩
        cases h2 with
        | cons h3 h4 =>
          refine ⟨fun e he => ?_, h4⟩
          obtain ⟨a, b, c⟩ := h1 e (by simp [he])
          exact ⟨⟨a, h3 e he⟩, b, c⟩
theorem rightD_reverse (ds : List Df) : rightD [] ds.reverse = rightD [] ds := by
  have h : rightD [] ds.reverse = true ↔ rightD [] ds = true := by
    rw [rightD_iff, rightD_iff]
    simp only [List.mem_reverse, List.pairwise_reverse]
    constructor
    · rintro ⟨h1, h2⟩; exact ⟨h1, h2.imp fun h => Ne.symm h⟩
    · rintro ⟨h1, h2⟩; exact ⟨h1, h2.imp fun h => Ne.symm h⟩
  cases h1 : rightD [] ds <;> cases h2 : rightD [] ds.reverse <;> simp [h1, h2] at h ⊢
theorem dfind_cons (d : Df) (ds : List Df) (s : ByteArray) : dfind (d :: ds) s = if d.name = s then some d else dfind ds s := by
  unfold dfind
  rw [List.find?_cons]
  by_cases h : d.name = s <;> simp [h]
theorem dfind_iff {s : ByteArray} {d : Df} : ∀ {ds : List Df}, distinct ds → (dfind ds s = some d ↔ d ∈ ds ∧ d.name = s)
  | [], _ => by simp [dfind]
  | e :: ds, h => by
    cases h with
    | cons h3 h4 =>
      rw [dfind_cons]
      by_cases he : e.name = s
      · rw [if_pos he]
        constructor
        · intro h; cases h; exact ⟨by simp, he⟩
        · rintro ⟨h1, h2⟩
          rcases List.mem_cons.1 h1 with rfl | h1
          · rfl
          · exact absurd (he.trans h2.symm) (h3 d h1)
      · rw [if_neg he, dfind_iff h4]
        constructor
        · rintro ⟨h1, h2⟩; exact ⟨by simp [h1], h2⟩
        · rintro ⟨h1, h2⟩
          rcases List.mem_cons.1 h1 with rfl | h1
          · exact absurd h2 he
          · exact ⟨h1, h2⟩
theorem dfind_reverse {ds : List Df} (h : distinct ds) (s : ByteArray) : dfind ds.reverse s = dfind ds s := by
  have h' : distinct ds.reverse := by
    simp only [distinct, List.pairwise_reverse]
    exact h.imp fun h => Ne.symm h
  cases h1 : dfind ds s with
  | some d =>
    rw [dfind_iff h'] ; rw [dfind_iff h] at h1
    simpa using h1
  | none =>
    cases h2 : dfind ds.reverse s with
    | none => rfl
    | some d =>
      rw [dfind_iff h'] at h2
      have : dfind ds s = some d := by rw [dfind_iff h]; simpa using h2
      rw [h1] at this; cases this
theorem nameT_reverse {ds : List Df} (h : distinct ds) : ∀ (f : Nat) (op : List ByteArray), nameT ds.reverse f op = nameT ds f op
  | 0, _ => rfl
  | f + 1, op => by
    funext s out
    rw [nameT, nameT, dfind_reverse h, nameT_reverse h f]
theorem expand_reverse (l : List Node) (ds : List Df) : expandS l ds.reverse = expandS l ds := by
  unfold expandS
  rw [rightD_reverse]
  by_cases h : rightS l = true ∧ rightD [] ds = true
  · rw [if_pos h, if_pos h, nameT_reverse ((rightD_iff ds []).1 h.2).2, List.length_reverse]
  · rw [if_neg h, if_neg h]

/-- Sets turned. -/
abbrev mapS (φ : ISet → ISet) (n : Node) : Node := { n with s := φ n.s }
section
variable {φ : ISet → ISet}
def Keeps (φ : ISet → ISet) (l : List Node) : Prop := ∀ n ∈ l, (φ n.s = ISet.none ↔ n.s = ISet.none)
theorem shape_mapS {n : Node} (h : φ n.s = ISet.none ↔ n.s = ISet.none) : shapeOk (mapS φ n) = shapeOk n := by
  have e : decide (φ n.s ≠ ISet.none) = decide (n.s ≠ ISet.none) := by
    simp only [ne_eq, h]
  simp only [shapeOk, mapS, e]
theorem stk_mapS : ∀ {l : List Node} (_ : Keeps φ l) (i : Nat) (st : List Int), stkS (l.map (mapS φ)) i st = stkS l i st
  | [], _, _, _ => rfl
  | n :: l, h, i, st => by
    simp only [List.map_cons, stkS]
    rw [shape_mapS (h n (by simp)), stk_mapS (fun m hm => h m (by simp [hm]))]
theorem rightS_mapS {l : List Node} (h : Keeps φ l) : rightS (l.map (mapS φ)) = rightS l := by
  unfold rightS
  rw [stk_mapS h, List.length_map]
def mapO (φ : ISet → ISet) (o : Out) : Out := (o.1.map (mapS φ), o.2)
theorem mapO_1 (o : Out) : (mapO φ o).1 = o.1.map (mapS φ) := Eq.trans rfl rfl
theorem mapO_2 (o : Out) : (mapO φ o).2 = o.2 := Eq.trans rfl rfl
theorem putS_mapS (n : Node) (A : List Int) (out : List Node) : putS (mapS φ n) A (out.map (mapS φ)) = mapO φ (putS n A out) := by
  unfold putS mapO
  rw [List.length_map]
  by_cases h : 1024 ≤ out.length
  · simp only [if_pos h]
  · simp only [if_neg h, List.map_append, List.map_cons, List.map_nil]
theorem goT_mapS {nm nm' : ByteArray → List Node → Out} (hn : ∀ s out, nm' s (out.map (mapS φ)) = mapO φ (nm s out)) : ∀ (l : List Node) (A : List Int) (out : List Node), goT nm' (l.map (mapS φ)) A (out.map (mapS φ)) = mapO φ (goT nm l A out)
  | [], A, out => rfl
  | n :: l, A, out => by
    have hs : stepT nm' (mapS φ n) A (out.map (mapS φ)) = mapO φ (stepT nm n A out) := by
      unfold stepT
      by_cases h : n.op = 6
      · have h' : (mapS φ n).op = 6 := h
        rw [if_pos h, if_pos h']; exact hn _ _
      · have h' : ¬ (mapS φ n).op = 6 := h
        rw [if_neg h, if_neg h']; exact putS_mapS _ _ _
    rw [List.map_cons, goT, goT, hs]
    have ih := goT_mapS hn l
    generalize stepT nm n A out = r
    simp only [mapO_1, mapO_2]
    by_cases h : r.2.2 = 0
    · simp only [h, if_true]; exact ih _ _
    · simp only [h, if_false]; rfl
theorem nameT_mapS {ds ds' : List Df} (hf : ∀ s, dfind ds' s = (dfind ds s).map fun d => ⟨d.name, d.l.map (mapS φ)⟩) : ∀ (f : Nat) (op : List ByteArray) (s : ByteArray) (out : List Node), nameT ds' f op s (out.map (mapS φ)) = mapO φ (nameT ds f op s out)
  | 0, _, _, _ => rfl
  | f + 1, op, s, out => by
    rw [nameT, nameT, hf]
    cases dfind ds s with
    | none => rfl
    | some d =>
      simp only [Option.map_some]
      by_cases h : hasB op s = true
      · simp only [if_pos h]; rfl
      · simp only [if_neg h]
        exact goT_mapS (nameT_mapS hf f _) _ _ _
abbrev mapD (φ : ISet → ISet) (d : Df) : Df := ⟨d.name, d.l.map (mapS φ)⟩
theorem dfind_map (φ : ISet → ISet) (s : ByteArray) : ∀ ds : List Df, dfind (ds.map (mapD φ)) s = (dfind ds s).map (mapD φ)
  | [] => rfl
  | d :: ds => by
    rw [List.map_cons, dfind_cons, dfind_cons, dfind_map φ s ds]
    by_cases h : d.name = s <;> simp [h]
theorem rightD_mapS : ∀ {ds : List Df} (_ : ∀ d ∈ ds, Keeps φ d.l) (seen : List ByteArray), rightD seen (ds.map (mapD φ)) = rightD seen ds
  | [], _, _ => rfl
  | d :: ds, h, seen => by
    rw [List.map_cons, rightD, rightD, rightS_mapS (h d (by simp)), rightD_mapS fun e he => h e (by simp [he])]
theorem expand_mapS {l : List Node} {ds : List Df} (hl : Keeps φ l) (hd : ∀ d ∈ ds, Keeps φ d.l) : expandS (l.map (mapS φ)) (ds.map (mapD φ)) = ((expandS l ds).1.map (mapS φ), (expandS l ds).2) := by
  unfold expandS
  rw [rightS_mapS hl, rightD_mapS hd, List.length_map]
  have h2 := goT_mapS (φ := φ) (nameT_mapS (φ := φ) (fun s => dfind_map φ s ds) (ds.length + 1) []) l [] []
  rw [List.map_nil] at h2
  rw [h2]
  by_cases h : rightS l = true ∧ rightD [] ds = true
  · rw [if_pos h, if_pos h]
    simp only [mapO_1, mapO_2]
    generalize goT (nameT ds (ds.length + 1) []) l [] [] = r
    by_cases he : r.2.2 = 0
    · simp only [he, if_true]
    · simp only [he, if_false]; rfl
  · rw [if_neg h, if_neg h]; rfl
end
end Go.Rad
/- Both cases of letters: nothing stays nothing; a tree stays one. -/
namespace Go.Rad
open Go Go.Proofs
theorem or_zero {a b : NSet} (h : a.or b = nzero) : a = nzero ∧ b = nzero := by
  obtain ⟨a0, a1, a2, a3⟩ := a
  obtain ⟨b0, b1, b2, b3⟩ := b
  simp only [NSet.or, nzero, NSet.mk.injEq, Nat.or_eq_zero_iff] at h ⊢
  omega
theorem foldLo_zero : ∀ (l : List Nat) (s : NSet), l.foldl foldLo s = nzero → s = nzero
  | [], _, h => h
  | _ :: l, _, h => (or_zero (or_zero (foldLo_zero l _ h)).1).2
theorem foldHi_zero : ∀ (l : List Nat) (s : NSet), l.foldl foldHi s = nzero → s = nzero
  | [], _, h => h
  | _ :: l, _, h => (or_zero (or_zero (foldHi_zero l _ h)).1).2
theorem listS_zero : listS nzero = [] := by decide +kernel
theorem and_zero (r : NSet) : (nfull.and nzero).and r = nzero := by
  obtain ⟨a, b, c, d⟩ := r
  simp [NSet.and, nfull, nzero]
theorem foldS_zero (s : NSet) : foldS s = nzero ↔ s = nzero := by
  constructor
  · intro h; exact foldLo_zero _ _ (foldHi_zero _ _ h)
  · rintro rfl
    unfold foldS
    rw [and_zero, and_zero, listS_zero]; rfl
abbrev phi (s : ISet) : ISet := (foldS s.N).I
theorem I_zero (s : NSet) : s.I = ISet.none ↔ s = nzero := by
  obtain ⟨a, b, c, d⟩ := s
  simp only [NSet.I, ISet.none, nzero, ISet.mk.injEq, NSet.mk.injEq]
  omega
theorem phi_keeps {l : List Node} (h : ∀ n ∈ l, n.s.okI) : Keeps phi l := by
  intro n hn
  have h1 := (okI_N (h n hn)).2
  rw [show phi n.s = (foldS n.s.N).I from rfl, I_zero, foldS_zero, ← I_zero, ← h1]
theorem foldT_map {l : List Node} (h : rightS l = true) : foldT l = l.map (mapS phi) := by
  unfold foldT; rw [if_pos h]; rfl
theorem law_order {l a : List Node} {ds : List Df} (hl : ∀ n ∈ l, n.s.okI) (hd : ∀ d ∈ ds, ∀ n ∈ d.l, n.s.okI) (h : expandS l ds = (a, 0)) : expandS (foldT l) (ds.map fun d => ⟨d.name, foldT d.l⟩) = (foldT a, 0) ∧ rightS a = true ∧ rightS (foldT l) = true ∧ rightS (foldT a) = true := by
  obtain ⟨h1, h2, h3, h4⟩ := expand_ok h
  have hk := phi_keeps hl
  have hm := expand_mapS (ds := ds) hk fun d hd' => phi_keeps (hd d hd')
  rw [h] at hm
  have hds : (ds.map fun d => (⟨d.name, foldT d.l⟩ : Df)) = ds.map (mapD phi) := by
    refine List.map_congr_left fun d hd' => ?_
    have := (((rightD_iff ds []).1 h2).1 d hd').2.2
    rw [foldT_map this]
  rw [hds, foldT_map h1, foldT_map h3]
  refine ⟨hm, h3, by rw [rightS_mapS hk]; exact h1, ?_⟩
  obtain ⟨_, _, h5, _⟩ := expand_ok hm
  exact h5
end Go.Rad
/- Contracts: syntax, byte by byte: what a node has; whether nodes are a tree. -/
namespace Go.Rad
open Go Go.Proofs
set_option linter.all false
set_option maxRecDepth 20000
set_option maxHeartbeats 4000000

theorem ba_empty : (ByteArray.mk #[]) = ByteArray.empty := Eq.trans rfl rfl
theorem shape4uc (fl : Bool) (n : Node) (hn : n.name.size ≤ maxLen) : ACall Tryd.prog 33 [.agg (n.cellsF fl)] [] fun r s' => r = .bool (shapeOk n) ∧ s' = [] := by
  obtain ⟨no, ⟨na, nb, nc, nd⟩, nl, nlo, nhi, nn⟩ := n
  simp only [Node.cellsF]
  refine ACall.enter Tryd.func33 rfl (by kernel_rfl) (Nat.le_of_ble_eq_true rfl) ?_; simp only [initTm, Nat.reduceAdd]
  repeat' (first
  | refine gSq ?_ | refine gSk ?_ | refine gBl ?_ | refine gIb ?_ | refine gEx rfl ?_
  | ((first
  | (refine gRg [] [0, 1, 2, 3, 4, 5, 6, 23, 24, 42, 59, 78, 125] ?_; intro K hK)
  | refine cAl (name4uc _ hn) rfl rfl rfl ?_
  | (refine gd_split ?_ ?_ <;> intro hb <;> (try simp only [bls] at hb) <;> (try simp only [hb]))
  | refine gRt [] [.tmp 2] rfl ?_ | refine gDn [] [.tmp 2] rfl ?_) <;> (try simp only [go_sem, simprocAttr, ba_empty]))
  | (refine hK _ _ ?_; clear hK K; simp only [go_sem, simprocAttr])
  | refine gCd (by simp only [go_sem, simprocAttr]; rfl) rfl ?_
  | refine brT ?_ | refine brF ?_
  | (refine brS ?_ ?_ <;> intro hc <;> (try simp only [bls] at hc) <;> (try simp only [hc, bls]))
  | intro _ | refine And.intro ?_ ?_)
  all_goals (refine congrArg AVal.bool ?_; simp_all [shapeOk, ISet.none] <;> omega)
end Go.Rad
/- Contracts: syntax, byte by byte: whether nodes are a tree. -/
namespace Go.Rad
open Go Go.Proofs
set_option linter.all false
set_option maxRecDepth 20000
set_option maxHeartbeats 4000000

theorem walk4uc (q f : Bool) (ns : List Node) (hns : ns.length ≤ 1000000) (hl : ∀ n ∈ ns, n.l.length ≤ maxLen) : ∀ (fuel at_ : Nat) (seen : List Int) (g : Nat), at_ < fuel → at_ < ns.length → seen.length ≤ 4000000 →
    ACall Tryd.prog 34 [.sl q f (nodes ns), .int .i64 at_, .osl 1000 g 0 seen.length] [(1000, (g, .row 1 (ints seen)))] fun r s => (walkS ns fuel at_ seen).1.length ≤ max seen.length (ns.length + at_ + 1) ∧ ∃ h, r = .tup [.osl 1000 h 0 (walkS ns fuel at_ seen).1.length, .bool (walkS ns fuel at_ seen).2] ∧ s = [(1000, (h, .row 1 (ints (walkS ns fuel at_ seen).1)))] := by
  unfold maxLen at hl
  intro fuel
  induction fuel with
  | zero => intro at_ seen g h; omega
  | succ fuel ih =>
    intro at_ seen g h1 h2 h3
    refine ACall.enter Tryd.func34 rfl (by kernel_rfl) (Nat.le_of_ble_eq_true rfl) ?_; simp only [initTm, Nat.reduceAdd]
    repeat' (first
  | refine gSq ?_ | refine gSk ?_ | refine gBl ?_ | refine gIb ?_ | refine gEx rfl ?_
  | ((first
  | (refine gRg [] [0, 1, 2, 6, 7, 8, 9, 10, 11, 16, 25, 42, 52] ?_; intro K hK)
  | (refine gd_split ?_ ?_ <;> intro hb <;> (try simp only [bls] at hb) <;> (try simp only [hb]))
  | refine gRt [1000] [.tmp 6, .tmp 7] rfl ?_ | refine gDn [1000] [.tmp 6, .tmp 7] rfl ?_) <;> (try simp only [go_sem, simprocAttr]))
  | (refine hK _ _ ?_; clear hK K; simp only [go_sem, simprocAttr])
  | refine gCd (by simp only [go_sem, simprocAttr]; rfl) rfl ?_
  | refine brT ?_ | refine brF ?_
  | (refine brS ?_ ?_ <;> intro hc <;> (try simp only [bls] at hc) <;> (try simp only [hc, bls]))
  | intro _ | refine And.intro ?_ ?_)
    · rw [walkS, if_pos (by omega)]; exact Nat.le_max_left _ _
    · rw [walkS, if_pos (by omega)]; exact ⟨g, rfl, rfl⟩
    have hx : ns[at_]? = some ns[at_] := List.getElem?_eq_getElem h2
    have hm := hl ns[at_] (List.getElem_mem h2)
    have hgd : ns.getD (at_ : Int).toNat default = ns[at_] := by simp [List.getD, hx]
    have hw : walkS ns (fuel + 1) at_ seen = if (ns[at_].l.foldl (kidStep (walkS ns fuel) at_) (seen, true)).2 then ((ns[at_].l.foldl (kidStep (walkS ns fuel) at_) (seen, true)).1 ++ [(at_ : Int)], true) else ns[at_].l.foldl (kidStep (walkS ns fuel) at_) (seen, true) := by
      rw [walkS, if_neg (by omega), hgd]
    rw [hw]; clear hw
    generalize ns[at_] = x at hx hm hgd
    clear hgd
    obtain ⟨xo, ⟨xa, xb, xc, xd⟩, xl, xlo, xhi, xn⟩ := x
    simp only at hm ⊢
    refine AGood.prune [0, 1, 2, 6, 7, 8] ?_; simp only [go_sem, simprocAttr]
    refine AGood.loopInv (α := Nat × List Int × Nat) (fun x => ([(0, .sl q f (nodes ns)), (1, .int .i64 at_), (2, .osl 1000 x.2.2 0 x.2.1.length), (6, .sl true true []), (7, .bool false), (8, .int .i64 x.1)], [(1000, (x.2.2, .row 1 (ints x.2.1)))]))
      (fun x => x.1 ≤ xl.length ∧ x.2.1.length ≤ ns.length + at_ ∧ (xl.take x.1).foldl (kidStep (walkS ns fuel) at_) (seen, true) = (x.2.1, true)) (fun x => xl.length - x.1) (0, seen, g) ⟨Nat.zero_le _, by simp only; omega, rfl⟩ rfl ?_
    rintro ⟨i, sn, gg⟩ ⟨hi, hs, hfold⟩ ih2
    simp only at hi hs hfold ih2 ⊢
    have e1 : (at_ : Int) < ns.length := by omega
    have e2 : (0 : Int) ≤ at_ := by omega
    by_cases hle : i < xl.length
    · have e4 : (i : Int) < xl.length := by omega
      have e5 : (0 : Int) ≤ i := by omega
      have hk : xl[i]? = some xl[i] := List.getElem?_eq_getElem hle
      generalize xl[i] = k at hk
      by_cases hbad : k < 0 ∨ (at_ : Int) ≤ k
      · have hst : kidStep (walkS ns fuel) at_ (sn, true) k = (sn, false) := by simp [kidStep, hbad]
        rw [kid_at hk hfold (by rw [hst]), hst]
        repeat' (first
  | refine gSq ?_ | refine gSk ?_ | refine gBl ?_ | refine gIb ?_ | refine gEx rfl ?_
  | ((first
  | (refine gRg [] [0, 1, 2, 6, 7, 8, 9, 10, 11, 16, 25, 42, 52] ?_; intro K hK)
  | (refine gd_split ?_ ?_ <;> intro hb <;> (try simp only [bls] at hb) <;> (try simp only [hb]))
  | refine gRt [1000] [.tmp 6, .tmp 7] rfl ?_ | refine gDn [1000] [.tmp 6, .tmp 7] rfl ?_) <;> (try simp only [go_sem, simprocAttr, e1, e2, e4, e5, hx, hk, Option.some.injEq, forall_eq']))
  | (refine hK _ _ ?_; clear hK K; simp only [go_sem, simprocAttr])
  | refine gCd (by simp only [go_sem, simprocAttr]; rfl) rfl ?_
  | refine brT ?_ | refine brF ?_
  | (refine brS ?_ ?_ <;> intro hc <;> (try simp only [bls] at hc) <;> (try simp only [hc, bls]))
  | intro _ | refine And.intro ?_ ?_)
        all_goals first | exact ⟨gg, rfl, rfl⟩ | omega
      · obtain ⟨m, rfl⟩ : ∃ m : Nat, k = m := ⟨k.toNat, by omega⟩
        have hst : kidStep (walkS ns fuel) at_ (sn, true) m = walkS ns fuel m sn := by simp [kidStep]; omega
        have e6 : ¬ (m : Int) < 0 := by omega
        have e7 : ¬ (at_ : Int) ≤ m := by omega
        have hcall := ih m sn gg (by omega) (by omega) (by omega)
        rcases hres : walkS ns fuel m sn with ⟨w, b⟩
        rw [hres] at hcall hst
        cases b
        · rw [kid_at hk hfold (by rw [hst]), hst]
          repeat' (first
  | refine gSq ?_ | refine gSk ?_ | refine gBl ?_ | refine gIb ?_ | refine gEx rfl ?_
  | ((first
  | (refine gRg [] [0, 1, 2, 6, 7, 8, 9, 10, 11, 16, 25, 42, 52] ?_; intro K hK)
  | (refine ACall.mono hcall ?_; rintro _ _ ⟨hlen, h', rfl, rfl⟩)
  | (refine gd_split ?_ ?_ <;> intro hb <;> (try simp only [bls] at hb) <;> (try simp only [hb]))
  | refine gRt [1000] [.tmp 6, .tmp 7] rfl ?_ | refine gDn [1000] [.tmp 6, .tmp 7] rfl ?_) <;> (try simp only [go_sem, simprocAttr, e1, e2, e4, e5, e6, e7, hx, hk, Option.some.injEq, forall_eq']))
  | (refine hK _ _ ?_; clear hK K; simp only [go_sem, simprocAttr])
  | refine gCd (by simp only [go_sem, simprocAttr]; rfl) rfl ?_
  | refine brT ?_ | refine brF ?_
  | (refine brS ?_ ?_ <;> intro hc <;> (try simp only [bls] at hc) <;> (try simp only [hc, bls]))
  | intro _ | refine And.intro ?_ ?_)
          all_goals (simp only at hlen; first | exact ⟨h', rfl, rfl⟩ | omega)
        · repeat' (first
  | refine gSq ?_ | refine gSk ?_ | refine gBl ?_ | refine gIb ?_ | refine gEx rfl ?_
  | ((first
  | (refine gRg [] [0, 1, 2, 6, 7, 8, 9, 10, 11, 16, 25, 42, 52] ?_; intro K hK)
  | (refine ACall.mono hcall ?_; rintro _ _ ⟨hlen, h', rfl, rfl⟩)
  | (refine gd_split ?_ ?_ <;> intro hb <;> (try simp only [bls] at hb) <;> (try simp only [hb]))
  | refine gRt [1000] [.tmp 6, .tmp 7] rfl ?_ | refine gDn [1000] [.tmp 6, .tmp 7] rfl ?_) <;> (try simp only [go_sem, simprocAttr, e1, e2, e4, e5, e6, e7, hx, hk, Option.some.injEq, forall_eq']))
  | (refine hK _ _ ?_; clear hK K; simp only [go_sem, simprocAttr])
  | refine gCd (by simp only [go_sem, simprocAttr]; rfl) rfl ?_
  | refine brT ?_ | refine brF ?_
  | (refine brS ?_ ?_ <;> intro hc <;> (try simp only [bls] at hc) <;> (try simp only [hc, bls]))
  | intro _ | refine And.intro ?_ ?_)
          · omega
          · omega
          · refine AGood.prune [0, 1, 2, 6, 7, 8] ?_; simp only [go_sem, simprocAttr]
            exact (ih2 (i + 1, w, h') ⟨by omega, by simp only at hlen ⊢; omega, by rw [take_one hk, List.foldl_append, hfold]; exact hst⟩ (by simp only; omega)).cast rfl rfl
    · have e4 : ¬ (i : Int) < xl.length := by omega
      rw [List.take_of_length_le (by omega)] at hfold
      rw [hfold]
      repeat' (first
  | refine gSq ?_ | refine gSk ?_ | refine gBl ?_ | refine gIb ?_ | refine gEx rfl ?_
  | ((first
  | (refine gRg [] [0, 1, 2, 6, 7, 8, 9, 10, 11, 16, 25, 42, 52] ?_; intro K hK)
  | (refine gd_split ?_ ?_ <;> intro hb <;> (try simp only [bls] at hb) <;> (try simp only [hb]))
  | refine gRt [1000] [.tmp 6, .tmp 7] rfl ?_ | refine gDn [1000] [.tmp 6, .tmp 7] rfl ?_) <;> (try simp only [go_sem, simprocAttr, e1, e2, e4, hx, Option.some.injEq, forall_eq']))
  | (refine hK _ _ ?_; clear hK K; simp only [go_sem, simprocAttr])
  | refine gCd (by simp only [go_sem, simprocAttr]; rfl) rfl ?_
  | refine brT ?_ | refine brF ?_
  | (refine brS ?_ ?_ <;> intro hc <;> (try simp only [bls] at hc) <;> (try simp only [hc, bls]))
  | intro _ | refine And.intro ?_ ?_)
      · rename_i y hy; simp only [List.mem_singleton] at hy; subst hy; rfl
      · rename_i y hy; simp only [List.mem_singleton] at hy; subst hy; rfl
      · unfold bigLen; omega
      · unfold bigLen; omega
      · simp only [List.length_append, List.length_cons, List.length_nil]; omega
      · rename_i h'
        exact ⟨h', by simp, by simp⟩

theorem right4uc (q f : Bool) (ns : List Node) (hl : ∀ n ∈ ns, n.l.length ≤ maxLen ∧ n.name.size ≤ maxLen) : ACall Tryd.prog 19 [.sl q f (nodes ns)] [] fun r s => r = .bool (right4 ns) ∧ s = [] := by
  refine ACall.enter Tryd.func19 rfl (by kernel_rfl) (Nat.le_of_ble_eq_true rfl) ?_; simp only [initTm, Nat.reduceAdd]
  repeat' (first
  | refine gSq ?_ | refine gSk ?_ | refine gBl ?_ | refine gIb ?_ | refine gEx rfl ?_
  | ((first
  | (refine gRg [] [0, 2, 3, 4, 5, 6, 14, 18, 26, 43, 47, 55] ?_; intro K hK)
  | (refine gd_split ?_ ?_ <;> intro hb <;> (try simp only [bls] at hb) <;> (try simp only [hb]))
  | refine gRt [] [.tmp 2] rfl ?_ | refine gDn [] [.tmp 2] rfl ?_) <;> (try simp only [go_sem, simprocAttr]))
  | (refine hK _ _ ?_; clear hK K; simp only [go_sem, simprocAttr])
  | refine gCd (by simp only [go_sem, simprocAttr]; rfl) rfl ?_
  | refine brT ?_ | refine brF ?_
  | (refine brS ?_ ?_ <;> intro hc <;> (try simp only [bls] at hc) <;> (try simp only [hc, bls]))
  | intro _ | refine And.intro ?_ ?_)
  · refine congrArg AVal.bool ?_; simp only [right4]; rw [if_pos (by omega)]
  · have hn1 : ¬ (ns.length < 1 ∨ 1024 < ns.length) := by omega
    have hr : right4 ns = (ns.all shapeOk && ((walkS ns ns.length ((ns.length : Int) - 1) []).2 && decide ((walkS ns ns.length ((ns.length : Int) - 1) []).1 = (List.range ns.length).map fun (i : Nat) => (i : Int)))) := by
      simp only [right4, if_neg hn1]
      cases ns.all shapeOk <;> simp
    rw [hr]; clear hr
    refine AGood.prune [0, 2, 3] ?_; simp only [go_sem, simprocAttr]
    refine AGood.loopInv (α := Nat) (fun i => ([(0, .sl q f (nodes ns)), (2, .bool false), (3, .int .i64 i)], [])) (fun i => i ≤ ns.length ∧ (ns.take i).all shapeOk = true) (fun i => ns.length - i) 0 ⟨Nat.zero_le _, rfl⟩ rfl ?_
    rintro i ⟨hi, hall⟩ ih
    simp only
    by_cases hle : i < ns.length
    · have e4 : (i : Int) < ns.length := by omega
      have e5 : (0 : Int) ≤ i := by omega
      have hx : ns[i]? = some ns[i] := List.getElem?_eq_getElem hle
      have hm := hl ns[i] (List.getElem_mem hle)
      generalize ns[i] = x at hx hm
      have hsh := fun fl => shape4uc fl x hm.2
      cases hok : shapeOk x
      all_goals
        rw [hok] at hsh
        obtain ⟨xo, ⟨xa, xb, xc, xd⟩, xl, xlo, xhi, xn⟩ := x
        repeat' (first
  | refine gSq ?_ | refine gSk ?_ | refine gBl ?_ | refine gIb ?_ | refine gEx rfl ?_
  | ((first
  | (refine gRg [] [0, 2, 3, 4, 5, 6, 14, 18, 26, 43, 47, 55] ?_; intro K hK)
  | refine cAl (hsh false) rfl rfl rfl ?_
  | (refine gd_split ?_ ?_ <;> intro hb <;> (try simp only [bls] at hb) <;> (try simp only [hb]))
  | refine gRt [] [.tmp 2] rfl ?_ | refine gDn [] [.tmp 2] rfl ?_) <;> (try simp only [go_sem, simprocAttr, e4, e5, hx, Option.some.injEq, forall_eq']))
  | (refine hK _ _ ?_; clear hK K; simp only [go_sem, simprocAttr])
  | refine gCd (by simp only [go_sem, simprocAttr]; rfl) rfl ?_
  | refine brT ?_ | refine brF ?_
  | (refine brS ?_ ?_ <;> intro hc <;> (try simp only [bls] at hc) <;> (try simp only [hc, bls]))
  | intro _ | refine And.intro ?_ ?_)
      · have : ns.all shapeOk = false := by
          rw [List.all_eq_false]
          exact ⟨_, List.mem_of_getElem? hx, by simp [hok]⟩
        rw [this]; rfl
      · omega
      · omega
      · refine AGood.prune [0, 2, 3] ?_; simp only [go_sem, simprocAttr]
        exact (ih (i + 1) ⟨by omega, by rw [take_one hx, List.all_append, hall]; simp [hok]⟩ (by omega)).cast rfl rfl
    · have e4 : ¬ (i : Int) < ns.length := by omega
      rw [List.take_of_length_le (by omega)] at hall
      rw [hall]
      obtain ⟨m, hm⟩ : ∃ m, ns.length = m + 1 := ⟨ns.length - 1, by omega⟩
      have e5 : (ns.length : Int) - 1 = (m : Nat) := by omega
      have hwalk := fun g => walk4uc q f ns (by omega) (fun n h => (hl n h).1) ns.length m [] g (by omega) (by omega) (Nat.zero_le _)
      rw [e5]
      rcases hres : walkS ns ns.length m [] with ⟨w, b⟩
      rw [hres] at hwalk
      simp only at hwalk
      cases b
      · repeat' (first
  | refine gSq ?_ | refine gSk ?_ | refine gBl ?_ | refine gIb ?_ | refine gEx rfl ?_
  | ((first
  | (refine gRg [] [0, 2, 3, 4, 5, 6, 14, 18, 26, 43, 47, 55] ?_; intro K hK)
  | (refine ACall.ownArg 2 1000 1 (by decide) rfl (fun g => ?_); refine ACall.mono (hwalk g) ?_; rintro _ _ ⟨hlen, h', rfl, rfl⟩)
  | (refine gd_split ?_ ?_ <;> intro hb <;> (try simp only [bls] at hb) <;> (try simp only [hb]))
  | refine gRt [] [.tmp 2] rfl ?_ | refine gDn [] [.tmp 2] rfl ?_) <;> (try simp only [go_sem, simprocAttr, e4, e5]))
  | (refine hK _ _ ?_; clear hK K; simp only [go_sem, simprocAttr])
  | refine gCd (by simp only [go_sem, simprocAttr]; rfl) rfl ?_
  | refine brT ?_ | refine brF ?_
  | (refine brS ?_ ?_ <;> intro hc <;> (try simp only [bls] at hc) <;> (try simp only [hc, bls]))
  | intro _ | refine And.intro ?_ ?_)
        · omega
        · omega
        · rfl
      · repeat' (first
  | refine gSq ?_ | refine gSk ?_ | refine gBl ?_ | refine gIb ?_ | refine gEx rfl ?_
  | ((first
  | (refine gRg [] [0, 2, 3, 4, 5, 6, 14, 18, 26, 43, 47, 55] ?_; intro K hK)
  | (refine ACall.ownArg 2 1000 1 (by decide) rfl (fun g => ?_); refine ACall.mono (hwalk g) ?_; rintro _ _ ⟨hlen, h', rfl, rfl⟩)
  | (refine gd_split ?_ ?_ <;> intro hb <;> (try simp only [bls] at hb) <;> (try simp only [hb]))
  | refine gRt [] [.tmp 2] rfl ?_ | refine gDn [] [.tmp 2] rfl ?_) <;> (try simp only [go_sem, simprocAttr, e4, e5]))
  | (refine hK _ _ ?_; clear hK K; simp only [go_sem, simprocAttr])
  | refine gCd (by simp only [go_sem, simprocAttr]; rfl) rfl ?_
  | refine brT ?_ | refine brF ?_
  | (refine brS ?_ ?_ <;> intro hc <;> (try simp only [bls] at hc) <;> (try simp only [hc, bls]))
  | intro _ | refine And.intro ?_ ?_)
        · omega
        · omega
        · refine congrArg AVal.bool ?_
          simp only [Bool.false_eq, decide_eq_false_iff_not]
          rintro rfl
          skip
          exact hc (by simp)
        · skip
          try simp only [Bool.true_and]
          refine AGood.prune [0, 2, 4, 6] ?_; simp only [go_sem, simprocAttr]
          refine AGood.loopInv (α := Nat) (fun i => ([(0, .sl q f (nodes ns)), (2, .bool false), (4, .osl 1000 h' 0 w.length), (6, .int .i64 i)], [(1000, (h', .row 1 (ints w)))])) (fun i => i ≤ w.length ∧ w.take i = (List.range i).map fun (i : Nat) => (i : Int)) (fun i => w.length - i) 0 ⟨Nat.zero_le _, rfl⟩ rfl ?_
          rintro j ⟨hj, htk⟩ ih2
          simp only
          by_cases hle2 : j < w.length
          · have f4 : (j : Int) < w.length := by omega
            have f5 : (0 : Int) ≤ j := by omega
            have hk : w[j]? = some w[j] := List.getElem?_eq_getElem hle2
            generalize w[j] = k at hk
            by_cases hkj : k = j
            · repeat' (first
  | refine gSq ?_ | refine gSk ?_ | refine gBl ?_ | refine gIb ?_ | refine gEx rfl ?_
  | ((first
  | (refine gRg [] [0, 2, 3, 4, 5, 6, 14, 18, 26, 43, 47, 55] ?_; intro K hK)
  | (refine gd_split ?_ ?_ <;> intro hb <;> (try simp only [bls] at hb) <;> (try simp only [hb]))
  | refine gRt [] [.tmp 2] rfl ?_ | refine gDn [] [.tmp 2] rfl ?_) <;> (try simp only [go_sem, simprocAttr, f4, f5, hk, hkj, hle2, Option.some.injEq, forall_eq']))
  | (refine hK _ _ ?_; clear hK K; simp only [go_sem, simprocAttr])
  | refine gCd (by simp only [go_sem, simprocAttr]; rfl) rfl ?_
  | refine brT ?_ | refine brF ?_
  | (refine brS ?_ ?_ <;> intro hc <;> (try simp only [bls] at hc) <;> (try simp only [hc, bls]))
  | intro _ | refine And.intro ?_ ?_)
              · omega
              · omega
              · refine AGood.prune [0, 2, 4, 6] ?_; simp only [go_sem, simprocAttr]
                exact (ih2 (j + 1) ⟨by omega, by rw [take_one hk, htk, hkj, List.range_succ]; simp⟩ (by omega)).cast rfl rfl
            · repeat' (first
  | refine gSq ?_ | refine gSk ?_ | refine gBl ?_ | refine gIb ?_ | refine gEx rfl ?_
  | ((first
  | (refine gRg [] [0, 2, 3, 4, 5, 6, 14, 18, 26, 43, 47, 55] ?_; intro K hK)
  | (refine gd_split ?_ ?_ <;> intro hb <;> (try simp only [bls] at hb) <;> (try simp only [hb]))
  | refine gRt [] [.tmp 2] rfl ?_ | refine gDn [] [.tmp 2] rfl ?_) <;> (try simp only [go_sem, simprocAttr, f4, f5, hk, hkj, hle2, Option.some.injEq, forall_eq']))
  | (refine hK _ _ ?_; clear hK K; simp only [go_sem, simprocAttr])
  | refine gCd (by simp only [go_sem, simprocAttr]; rfl) rfl ?_
  | refine brT ?_ | refine brF ?_
  | (refine brS ?_ ?_ <;> intro hc <;> (try simp only [bls] at hc) <;> (try simp only [hc, bls]))
  | intro _ | refine And.intro ?_ ?_)
              refine congrArg AVal.bool ?_
              simp only [Bool.false_eq, decide_eq_false_iff_not]
              intro hw
              rw [hw] at hk
              exact hkj (rg_get hk)
          · have f4 : ¬ (j : Int) < w.length := by omega
            rw [List.take_of_length_le (by omega)] at htk
            have hjn : j = ns.length := by omega
            subst hjn
            repeat' (first
  | refine gSq ?_ | refine gSk ?_ | refine gBl ?_ | refine gIb ?_ | refine gEx rfl ?_
  | ((first
  | (refine gRg [] [0, 2, 3, 4, 5, 6, 14, 18, 26, 43, 47, 55] ?_; intro K hK)
  | (refine gd_split ?_ ?_ <;> intro hb <;> (try simp only [bls] at hb) <;> (try simp only [hb]))
  | refine gRt [] [.tmp 2] rfl ?_ | refine gDn [] [.tmp 2] rfl ?_) <;> (try simp only [go_sem, simprocAttr, f4]))
  | (refine hK _ _ ?_; clear hK K; simp only [go_sem, simprocAttr])
  | refine gCd (by simp only [go_sem, simprocAttr]; rfl) rfl ?_
  | refine brT ?_ | refine brF ?_
  | (refine brS ?_ ?_ <;> intro hc <;> (try simp only [bls] at hc) <;> (try simp only [hc, bls]))
  | intro _ | refine And.intro ?_ ?_)
            rw [htk]; simp
  · refine congrArg AVal.bool ?_; simp only [right4]; rw [if_pos (by omega)]
end Go.Rad
/- Contracts: norm: a tree with what its names stand for. -/
namespace Go.Rad
open Go Go.Proofs
set_option linter.all false
set_option maxRecDepth 20000
set_option maxHeartbeats 4000000

theorem tree_c (nm : ByteArray → List Node → Out) (g g2 g3 : Nat) (dm om : List (ByteArray × AVal)) (hdm : cleanM dm = true) (hom : cleanM om = true)
    (hlen : ∀ s out, out.length ≤ 1024 → (nm s out).1.length ≤ 1024)
    (hname : ∀ s out g1, s.size ≤ maxLen → out.length ≤ 1024 → ACall Tryd.prog 45 [.bx 1000 g 0, .str s] (xsto g g1 g2 g3 dm om out) fun r s' => r = .tup [.int .i64 (nm s out).2.1, .int .i64 (nm s out).2.2] ∧ ∃ h1, s' = xsto g h1 g2 g3 dm om (nm s out).1)
    (q f : Bool) (l : List Node) (hl : 1 ≤ l.length ∧ l.length ≤ 1000000) (hk : ∀ (i : Nat) (n : Node), l[i]? = some n → n.name.size ≤ maxLen ∧ n.l.length ≤ 1000000 ∧ ∀ k ∈ n.l, 0 ≤ k ∧ k < (i : Int)) (out : List Node) (ho : out.length ≤ 1024) (g1 : Nat) :
    ACall Tryd.prog 24 [.bx 1000 g 0, .sl q f (nodes l)] (xsto g g1 g2 g3 dm om out) fun r s => r = .tup [.int .i64 (goT nm l [] out).2.1, .int .i64 (goT nm l [] out).2.2] ∧ ∃ h1, s = xsto g h1 g2 g3 dm om (goT nm l [] out).1 := by
  simp only [xsto, xbox] at hname ⊢
  obtain ⟨S, hS⟩ : ∃ S, S = goT nm l [] out := ⟨_, rfl⟩
  rw [← hS]
  refine ACall.enter Tryd.func24 rfl (by kernel_rfl) (Nat.le_of_ble_eq_true rfl) ?_; simp only [initTm, Nat.reduceAdd]
  repeat' (first
  | refine gSq ?_ | refine gSk ?_ | refine gBl ?_ | refine gIb ?_ | refine gEx rfl ?_
  | ((first
  | (refine gRg [] [0, 1, 4, 5, 6, 7, 8, 9, 13, 14, 15, 16, 22, 44] ?_; intro K hK)
  | (refine gd_split ?_ ?_ <;> intro hb <;> (try simp only [bls] at hb) <;> (try simp only [hb]))
  | refine gRt [1000, 1001, 1002, 1003] [.tmp 4, .tmp 5] rfl ?_ | refine gDn [1000, 1001, 1002, 1003] [.tmp 4, .tmp 5] rfl ?_) <;> (try simp only [go_sem, simprocAttr]))
  | (refine hK _ _ ?_; clear hK K; simp only [go_sem, simprocAttr])
  | refine gCd (by simp only [go_sem, simprocAttr]; rfl) rfl ?_
  | refine brT ?_ | refine brF ?_
  | (refine brS ?_ ?_ <;> intro hc <;> (try simp only [bls] at hc) <;> (try simp only [hc, bls]))
  | intro _ | refine And.intro ?_ ?_)
  all_goals first | omega | (unfold bigLen; omega) | exact ⟨_, _, ⟨rfl, rfl⟩, rfl⟩ | exact ⟨_, rfl⟩ | (rename_i hy; simp only [List.mem_singleton] at hy; subst hy; rfl) | skip
  rename_i h12
  refine AGood.prune [0, 1, 6, 13, 14, 15] ?_; simp only [go_sem, simprocAttr]
  refine AGood.loopInv (α := Nat × List Int × List Node × Nat) (fun x => ([(0, .bx 1000 g 0), (1, .sl q f (nodes l)), (6, .osl 12 h12 0 l.length), (13, .sl q f (nodes l)), (14, .int .i64 l.length), (15, .int .i64 x.1)],
      [(12, h12, .row 1 (ints (x.2.1 ++ List.replicate (l.length - x.1) 0))), (1000, g, .box [.map 1002 g2, .map 1003 g3, .osl 1001 x.2.2.2 0 x.2.2.1.length]), (1001, x.2.2.2, .row 9 (nodes x.2.2.1)), (1002, g2, .mp dm), (1003, g3, .mp om)]))
    (fun x => x.1 ≤ l.length ∧ x.2.1.length = x.1 ∧ x.2.2.1.length ≤ 1024 ∧ S = goT nm (l.drop x.1) x.2.1 x.2.2.1) (fun x => l.length - x.1) (0, [], out, g1) ⟨Nat.zero_le _, rfl, ho, hS⟩ (by simp only [ints, List.nil_append, List.map_replicate, Nat.sub_zero]; rfl) ?_
  rintro ⟨i, A, o, gg⟩ ⟨hi, hA, ho', hrun⟩ ih
  simp only at hi hA ho' hrun ih ⊢
  generalize hW : A ++ List.replicate (l.length - i) 0 = W
  have hWl : W.length = l.length := by subst hW; simp; omega
  by_cases hle : i < l.length
  · have e4 : (i : Int) < l.length := by omega
    have e5 : (0 : Int) ≤ i := by omega
    have e6 : i < W.length := by omega
    have hx : l[i]? = some l[i] := List.getElem?_eq_getElem hle
    have hm := hk i _ hx
    have hd : l.drop i = l[i] :: l.drop (i + 1) := List.drop_eq_getElem_cons hle
    rw [hd, goT] at hrun
    generalize l[i] = x at hx hm hrun
    have hWi : W[i]? = some 0 := by
      subst hW
      rw [List.getElem?_append_right (by omega), hA, Nat.sub_self, List.getElem?_replicate, if_pos (by omega)]
    have hset : ∀ v, W.set i v = (A ++ [v]) ++ List.replicate (l.length - (i + 1)) 0 := by
      intro v
      subst hW
      rw [List.set_append_right _ _ (by omega), hA, Nat.sub_self, show l.length - i = (l.length - (i + 1)) + 1 by omega, List.replicate_succ, List.set_cons_zero]
      simp
    have hst : (stepT nm x A o).1.length ≤ 1024 := by
      unfold stepT
      split
      · exact hlen _ _ ho'
      · exact putS_len ho'
    by_cases h6 : x.op = 6
    · have hs : stepT nm x A o = nm x.name o := by simp [stepT, h6]
      rw [hs] at hst hrun
      have hcall := hname x.name o gg hm.1 ho'
      clear hs hm
      obtain ⟨xo, ⟨xa, xb, xc, xd⟩, xl, xlo, xhi, xn⟩ := x
      simp only at h6 hcall hst hrun
      subst h6
      rcases hres : nm xn o with ⟨o2, v, e⟩
      rw [hres] at hcall hst hrun
      simp only at hcall hst hrun
      by_cases he : e = 0
      · subst he
        simp only [if_true] at hrun
        repeat' (first
  | refine gSq ?_ | refine gSk ?_ | refine gBl ?_ | refine gIb ?_ | refine gEx rfl ?_
  | ((first
  | (refine gRg [] [0, 1, 4, 5, 6, 7, 8, 9, 13, 14, 15, 16, 22, 44] ?_; intro K hK)
  | (refine ACall.use [(1000, 1000), (1001, 1001), (1002, 1002), (1003, 1003)] [] rfl hcall rfl rfl rfl ?_; rintro _ _ ⟨rfl, h1, rfl⟩; refine ⟨.inl rfl, rfl, ?_⟩; simp only [bk, bk1, bkS, bkO, idOf, delAll, go_sem, simprocAttr])
  | (refine gd_split ?_ ?_ <;> intro hb <;> (try simp only [bls] at hb) <;> (try simp only [hb]))
  | refine gRt [1000, 1001, 1002, 1003] [.tmp 4, .tmp 5] rfl ?_ | refine gDn [1000, 1001, 1002, 1003] [.tmp 4, .tmp 5] rfl ?_) <;> (try simp only [go_sem, simprocAttr, e4, e5, e6, hx, Option.some.injEq, forall_eq']))
  | (refine hK _ _ ?_; clear hK K; simp only [go_sem, simprocAttr])
  | refine gCd (by simp only [go_sem, simprocAttr]; rfl) rfl ?_
  | refine brT ?_ | refine brF ?_
  | (refine brS ?_ ?_ <;> intro hc <;> (try simp only [bls] at hc) <;> (try simp only [hc, bls]))
  | intro _ | refine And.intro ?_ ?_)
        all_goals first | omega | (unfold bigLen; omega) | exact ⟨_, _, ⟨rfl, rfl⟩, rfl⟩ | exact ⟨_, rfl⟩ | (rename_i hy; simp only [List.mem_singleton] at hy; subst hy; rfl) | skip
        rename_i y hy
        have hy2 : y = [.int .i64 0] := by
          rw [List.getElem?_map, hWi] at hy
          simpa using hy.symm
        subst hy2
        refine AGood.filt [12, 1000, 1001, 1002, 1003] ?_
        simp only [sf_cons, sf_nil, go_sem, simprocAttr]
        refine AGood.prune [0, 1, 6, 13, 14, 15] ?_; simp only [go_sem, simprocAttr]
        refine AGood.cast (ih (i + 1, A ++ [v], o2, h1) ⟨by simp only; omega, by simp [hA], hst, hrun⟩ (by simp only; omega)) rfl ?_
        simp only [← hset v]
        simp [ints, List.map_set]
      · simp only [if_neg he] at hrun
        subst hrun
        repeat' (first
  | refine gSq ?_ | refine gSk ?_ | refine gBl ?_ | refine gIb ?_ | refine gEx rfl ?_
  | ((first
  | (refine gRg [] [0, 1, 4, 5, 6, 7, 8, 9, 13, 14, 15, 16, 22, 44] ?_; intro K hK)
  | (refine ACall.use [(1000, 1000), (1001, 1001), (1002, 1002), (1003, 1003)] [] rfl hcall rfl rfl rfl ?_; rintro _ _ ⟨rfl, h1, rfl⟩; refine ⟨.inl rfl, rfl, ?_⟩; simp only [bk, bk1, bkS, bkO, idOf, delAll, go_sem, simprocAttr])
  | (refine gd_split ?_ ?_ <;> intro hb <;> (try simp only [bls] at hb) <;> (try simp only [hb]))
  | refine gRt [1000, 1001, 1002, 1003] [.tmp 4, .tmp 5] rfl ?_ | refine gDn [1000, 1001, 1002, 1003] [.tmp 4, .tmp 5] rfl ?_) <;> (try simp only [go_sem, simprocAttr, e4, e5, e6, hx, he, Option.some.injEq, forall_eq']))
  | (refine hK _ _ ?_; clear hK K; simp only [go_sem, simprocAttr])
  | refine gCd (by simp only [go_sem, simprocAttr]; rfl) rfl ?_
  | refine brT ?_ | refine brF ?_
  | (refine brS ?_ ?_ <;> intro hc <;> (try simp only [bls] at hc) <;> (try simp only [hc, bls]))
  | intro _ | refine And.intro ?_ ?_)
        all_goals first | omega | (unfold bigLen; omega) | exact ⟨_, _, ⟨rfl, rfl⟩, rfl⟩ | exact ⟨_, rfl⟩ | (rename_i hy; simp only [List.mem_singleton] at hy; subst hy; rfl) | skip
    · have hs : stepT nm x A o = putS x A o := by simp [stepT, h6]
      rw [hs] at hst hrun
      have hcall := put_c x false false W o g gg g2 g3 dm om (fun k hk => by have := hm.2.2 k hk; omega) hm.2.1 (by omega)
      rw [putS_ext (A := A) (W := W) (fun k hk => by have := hm.2.2 k hk; subst hW; exact atF_app this.1 (by omega))] at hcall
      clear hs hm
      obtain ⟨xo, ⟨xa, xb, xc, xd⟩, xl, xlo, xhi, xn⟩ := x
      simp only [xsto, xbox, Node.cells, Node.cellsF] at h6 hcall hst hrun
      rcases hres : putS ⟨xo, ⟨xa, xb, xc, xd⟩, xl, xlo, xhi, xn⟩ A o with ⟨o2, v, e⟩
      rw [hres] at hcall hst hrun
      simp only at hcall hst hrun
      by_cases he : e = 0
      · subst he
        simp only [if_true] at hrun
        repeat' (first
  | refine gSq ?_ | refine gSk ?_ | refine gBl ?_ | refine gIb ?_ | refine gEx rfl ?_
  | ((first
  | (refine gRg [] [0, 1, 4, 5, 6, 7, 8, 9, 13, 14, 15, 16, 22, 44] ?_; intro K hK)
  | (refine ACall.use [(1000, 1000), (1001, 1001), (1002, 1002), (1003, 1003)] [12] rfl hcall (map_three rfl rfl ((tr_lent rfl rfl rfl (by simp; omega)).trans ((congrArg (AVal.sl false false) (ints_part _ _ _)).trans (sl_ints (by rw [List.drop_zero, List.take_of_length_le (by omega)]))))) rfl rfl ?_; rintro _ _ ⟨rfl, h1, rfl⟩; refine ⟨.inr ⟨rfl, by simp only [cleanS, cleanO, cleanL, clean, clean_nodes, hdm, hom, Bool.and_self]⟩, rfl, ?_⟩; simp only [bk, bk1, bkS, bkO, idOf, delAll, go_sem, simprocAttr])
  | (refine gd_split ?_ ?_ <;> intro hb <;> (try simp only [bls] at hb) <;> (try simp only [hb]))
  | refine gRt [1000, 1001, 1002, 1003] [.tmp 4, .tmp 5] rfl ?_ | refine gDn [1000, 1001, 1002, 1003] [.tmp 4, .tmp 5] rfl ?_) <;> (try simp only [go_sem, simprocAttr, e4, e5, e6, hx, h6, Option.some.injEq, forall_eq']))
  | (refine hK _ _ ?_; clear hK K; simp only [go_sem, simprocAttr])
  | refine gCd (by simp only [go_sem, simprocAttr]; rfl) rfl ?_
  | refine brT ?_ | refine brF ?_
  | (refine brS ?_ ?_ <;> intro hc <;> (try simp only [bls] at hc) <;> (try simp only [hc, bls]))
  | intro _ | refine And.intro ?_ ?_)
        all_goals first | omega | (unfold bigLen; omega) | exact ⟨_, _, ⟨rfl, rfl⟩, rfl⟩ | exact ⟨_, rfl⟩ | (rename_i hy; simp only [List.mem_singleton] at hy; subst hy; rfl) | skip
        rename_i y hy
        have hy2 : y = [.int .i64 0] := by
          rw [List.getElem?_map, hWi] at hy
          simpa using hy.symm
        subst hy2
        refine AGood.filt [12, 1000, 1001, 1002, 1003] ?_
        simp only [sf_cons, sf_nil, go_sem, simprocAttr]
        refine AGood.prune [0, 1, 6, 13, 14, 15] ?_; simp only [go_sem, simprocAttr]
        refine AGood.cast (ih (i + 1, A ++ [v], o2, h1) ⟨by simp only; omega, by simp [hA], hst, hrun⟩ (by simp only; omega)) rfl ?_
        simp only [← hset v]
        simp [ints, List.map_set]
      · simp only [if_neg he] at hrun
        subst hrun
        repeat' (first
  | refine gSq ?_ | refine gSk ?_ | refine gBl ?_ | refine gIb ?_ | refine gEx rfl ?_
  | ((first
  | (refine gRg [] [0, 1, 4, 5, 6, 7, 8, 9, 13, 14, 15, 16, 22, 44] ?_; intro K hK)
  | (refine ACall.use [(1000, 1000), (1001, 1001), (1002, 1002), (1003, 1003)] [12] rfl hcall (map_three rfl rfl ((tr_lent rfl rfl rfl (by simp; omega)).trans ((congrArg (AVal.sl false false) (ints_part _ _ _)).trans (sl_ints (by rw [List.drop_zero, List.take_of_length_le (by omega)]))))) rfl rfl ?_; rintro _ _ ⟨rfl, h1, rfl⟩; refine ⟨.inr ⟨rfl, by simp only [cleanS, cleanO, cleanL, clean, clean_nodes, hdm, hom, Bool.and_self]⟩, rfl, ?_⟩; simp only [bk, bk1, bkS, bkO, idOf, delAll, go_sem, simprocAttr])
  | (refine gd_split ?_ ?_ <;> intro hb <;> (try simp only [bls] at hb) <;> (try simp only [hb]))
  | refine gRt [1000, 1001, 1002, 1003] [.tmp 4, .tmp 5] rfl ?_ | refine gDn [1000, 1001, 1002, 1003] [.tmp 4, .tmp 5] rfl ?_) <;> (try simp only [go_sem, simprocAttr, e4, e5, e6, hx, he, h6, Option.some.injEq, forall_eq']))
  | (refine hK _ _ ?_; clear hK K; simp only [go_sem, simprocAttr])
  | refine gCd (by simp only [go_sem, simprocAttr]; rfl) rfl ?_
  | refine brT ?_ | refine brF ?_
  | (refine brS ?_ ?_ <;> intro hc <;> (try simp only [bls] at hc) <;> (try simp only [hc, bls]))
  | intro _ | refine And.intro ?_ ?_)
        all_goals first | omega | (unfold bigLen; omega) | exact ⟨_, _, ⟨rfl, rfl⟩, rfl⟩ | exact ⟨_, rfl⟩ | (rename_i hy; simp only [List.mem_singleton] at hy; subst hy; rfl) | skip
  · have e4 : ¬ (i : Int) < l.length := by omega
    have hin : i = l.length := by omega
    subst hin
    obtain ⟨m, hm⟩ : ∃ m, l.length = m + 1 := ⟨l.length - 1, by omega⟩
    have e5 : (l.length : Int) - 1 = (m : Nat) := by omega
    have e6 : (m : Int) < l.length := by omega
    have e7 : (0 : Int) ≤ m := by omega
    have e8 : m < W.length := by omega
    have hlast : W[m]? = some (A.getLastD 0) := by
      subst hW
      rw [Nat.sub_self, List.replicate_zero, List.append_nil, List.getLastD_eq_getLast?, List.getLast?_eq_getElem?, show A.length - 1 = m by omega, List.getElem?_eq_getElem (by omega)]
      rfl
    simp only [List.drop_length, goT] at hrun
    subst hrun
    repeat' (first
  | refine gSq ?_ | refine gSk ?_ | refine gBl ?_ | refine gIb ?_ | refine gEx rfl ?_
  | ((first
  | (refine gRg [] [0, 1, 4, 5, 6, 7, 8, 9, 13, 14, 15, 16, 22, 44] ?_; intro K hK)
  | (refine gd_split ?_ ?_ <;> intro hb <;> (try simp only [bls] at hb) <;> (try simp only [hb]))
  | refine gRt [1000, 1001, 1002, 1003] [.tmp 4, .tmp 5] rfl ?_ | refine gDn [1000, 1001, 1002, 1003] [.tmp 4, .tmp 5] rfl ?_) <;> (try simp only [go_sem, simprocAttr, e4, e5, e6, e7, e8, hlast, Option.some.injEq, forall_eq']))
  | (refine hK _ _ ?_; clear hK K; simp only [go_sem, simprocAttr])
  | refine gCd (by simp only [go_sem, simprocAttr]; rfl) rfl ?_
  | refine brT ?_ | refine brF ?_
  | (refine brS ?_ ?_ <;> intro hc <;> (try simp only [bls] at hc) <;> (try simp only [hc, bls]))
  | intro _ | refine And.intro ?_ ?_)
    all_goals first | omega | (unfold bigLen; omega) | exact ⟨_, _, ⟨rfl, rfl⟩, rfl⟩ | exact ⟨_, rfl⟩ | (rename_i hy; simp only [List.mem_singleton] at hy; subst hy; rfl) | skip
end Go.Rad
/- Contracts: norm: what a name stands for. -/
namespace Go.Rad
open Go Go.Proofs
set_option linter.all false
set_option maxRecDepth 20000
set_option maxHeartbeats 4000000

def remS (ds : List Df) (op : List ByteArray) : Nat := (ds.filter fun d => !hasB op d.name).length
theorem rem_lt {ds : List Df} {op : List ByteArray} {d : Df} {s : ByteArray} (hd : d ∈ ds) (hs : d.name = s) (h : hasB op s = false) : remS ds (op ++ [s]) < remS ds op := by
  have hle : ∀ ds : List Df, remS ds (op ++ [s]) ≤ remS ds op := by
    intro ds
    induction ds with
    | nil => exact Nat.le_refl _
    | cons x ds ih =>
      simp only [remS, List.filter_cons, hasB, List.any_append] at ih ⊢
      cases h1 : (op.any fun y => decide (y = x.name))
      · simp only [Bool.false_or]
        split
        · simp only [Bool.not_false, if_true, List.length_cons]; omega
        · simp only [Bool.not_false, if_true, List.length_cons]; omega
      · simp only [Bool.true_or, Bool.not_true, Bool.false_eq_true, if_false]; exact ih
  induction ds with
  | nil => simp at hd
  | cons x ds ih =>
    have ih := ih
    have hle := hle ds
    simp only [remS, List.filter_cons] at ih hle ⊢
    rcases List.mem_cons.1 hd with rfl | hd
    · have e1 : hasB op d.name = false := by rw [hs]; exact h
      have e2 : hasB (op ++ [s]) d.name = true := by simp [hasB, hs]
      simp only [e1, e2, Bool.not_true, Bool.not_false, Bool.false_eq_true, if_false, if_true, List.length_cons]
      omega
    · have ih := ih hd
      have e : hasB op x.name = true → hasB (op ++ [s]) x.name = true := by
        intro h; simp only [hasB, List.any_append] at h ⊢; rw [h]; rfl
      cases h1 : hasB op x.name
      · cases h2 : hasB (op ++ [s]) x.name
        · simp only [Bool.not_false, if_true, List.length_cons]; omega
        · simp only [Bool.not_true, Bool.not_false, Bool.false_eq_true, if_false, if_true, List.length_cons]; omega
      · simp only [e h1, Bool.not_true, Bool.false_eq_true, if_false]; exact ih
theorem dfind_some {ds : List Df} {s : ByteArray} {d : Df} (h : dfind ds s = some d) : d ∈ ds ∧ d.name = s :=
  ⟨List.mem_of_find?_eq_some h, by simpa using List.find?_some h⟩
theorem name_c (ds : List Df) (hds : ∀ d ∈ ds, treeOk d.l) (g g2 g3 : Nat) : ∀ (fuel : Nat) (op : List ByteArray), remS ds op < fuel → op.length + fuel ≤ 1000000 → ∀ (s : ByteArray) (out : List Node) (g1 : Nat), s.size ≤ maxLen → out.length ≤ 1024 →
    ACall Tryd.prog 45 [.bx 1000 g 0, .str s] (xsto g g1 g2 g3 (dmap ds) (omap op) out) fun r s' => r = .tup [.int .i64 (nameT ds fuel op s out).2.1, .int .i64 (nameT ds fuel op s out).2.2] ∧ ∃ h1, s' = xsto g h1 g2 g3 (dmap ds) (omap op) (nameT ds fuel op s out).1 := by
  intro fuel
  induction fuel with
  | zero => intro op h; omega
  | succ fuel ih =>
    intro op hrem hop s out g1 hs ho
    simp only [xsto, xbox]
    have hmf := mfind_dmap ds s
    have hmo := mfind_omap op s
    have hol : (omap op).length = op.length := by simp [omap]
    cases hf : dfind ds s with
    | none =>
      have hn : nameT ds (fuel + 1) op s out = (out, 0, 60) := by rw [nameT, hf]
      rw [hn]
      rw [hf] at hmf
      simp only [Option.map_none] at hmf
      refine ACall.enter Tryd.func45 rfl (by kernel_rfl) (Nat.le_of_ble_eq_true rfl) ?_; simp only [initTm, Nat.reduceAdd]
      repeat' (first
  | refine gSq ?_ | refine gSk ?_ | refine gBl ?_ | refine gIb ?_ | refine gEx rfl ?_
  | ((first
  | (refine gRg [] [0, 1, 4, 5, 6, 7, 17, 20] ?_; intro K hK)
  | (refine gd_split ?_ ?_ <;> intro hb <;> (try simp only [bls] at hb) <;> (try simp only [hb]))
  | refine gRt [1000, 1001, 1002, 1003] [.tmp 4, .tmp 5] rfl ?_ | refine gDn [1000, 1001, 1002, 1003] [.tmp 4, .tmp 5] rfl ?_) <;> (try simp only [go_sem, simprocAttr, hmf]))
  | (refine hK _ _ ?_; clear hK K; simp only [go_sem, simprocAttr])
  | refine gCd (by simp only [go_sem, simprocAttr]; rfl) rfl ?_
  | refine brT ?_ | refine brF ?_
  | (refine brS ?_ ?_ <;> intro hc <;> (try simp only [bls] at hc) <;> (try simp only [hc, bls]))
  | intro _ | refine And.intro ?_ ?_)
      all_goals first | omega | (unfold bigLen; omega) | exact ⟨_, _, ⟨rfl, rfl⟩, rfl⟩ | exact ⟨_, rfl⟩ | (rename_i hy; simp only [List.mem_singleton] at hy; subst hy; rfl) | skip
    | some d =>
      rw [hf] at hmf
      simp only [Option.map_some] at hmf
      obtain ⟨hd, hdn⟩ := dfind_some hf
      cases hb : hasB op s
      · have hmp := mput_omap (hasB_no.1 hb)
        have hmd := mdel_omap (hasB_no.1 hb)
        have hn : nameT ds (fuel + 1) op s out = goT (nameT ds fuel (op ++ [s])) d.l [] out := by rw [nameT, hf]; simp [hb]
        rw [hn]
        rw [hb] at hmo
        simp only [Bool.false_eq_true, if_false] at hmo
        have hcall := fun g1 => tree_c (nameT ds fuel (op ++ [s])) g g2 g3 (dmap ds) (omap (op ++ [s])) (clean_dmap ds) (clean_omap _) (fun s out h => nameT_len ds fuel _ s out h)
          (fun s' out g1 h1 h2 => ih (op ++ [s]) (by have := rem_lt hd hdn hb; omega) (by simp; omega) s' out g1 h1 h2) true false d.l (hds d hd).1 (hds d hd).2 out ho g1
        refine ACall.enter Tryd.func45 rfl (by kernel_rfl) (Nat.le_of_ble_eq_true rfl) ?_; simp only [initTm, Nat.reduceAdd]
        repeat' (first
  | refine gSq ?_ | refine gSk ?_ | refine gBl ?_ | refine gIb ?_ | refine gEx rfl ?_
  | ((first
  | (refine AGood.at 7 ?_; refine AGood.regDeferN LL_ok [] 5 [0, 1, 4, 5, 6, 7, 17, 20] rfl rfl rfl (by kernel_rfl) ?_; intro K hK; simp only [hmf, hmo, hmp, hmd, go_sem, simprocAttr])
  | (refine AGood.retD LL_ok [1000, 1001, 1002, 1003] [.tmp 4, .tmp 5] rfl (by kernel_rfl) ?_; simp only [runDf])
  | (refine gRg [] [0, 1, 4, 5, 6, 7, 17, 20] ?_; intro K hK)
  | (refine ACall.mono (hcall _) ?_; rintro _ _ ⟨rfl, h1, rfl⟩)
  | (refine gd_split ?_ ?_ <;> intro hb <;> (try simp only [bls] at hb) <;> (try simp only [hb]))
  | refine gRt [1000, 1001, 1002, 1003] [.tmp 4, .tmp 5] rfl ?_ | refine gDn [1000, 1001, 1002, 1003] [.tmp 4, .tmp 5] rfl ?_) <;> (try simp only [go_sem, simprocAttr, hmf, hmo, hmp, hmd, hol]))
  | (refine hK _ _ ?_; clear hK K; simp only [go_sem, simprocAttr])
  | refine gCd (by simp only [go_sem, simprocAttr]; rfl) rfl ?_
  | refine brT ?_ | refine brF ?_
  | (refine brS ?_ ?_ <;> intro hc <;> (try simp only [bls] at hc) <;> (try simp only [hc, bls]))
  | intro _ | refine And.intro ?_ ?_)
        all_goals first | omega | (unfold bigLen; omega) | exact ⟨_, _, ⟨rfl, rfl⟩, rfl⟩ | exact ⟨_, rfl⟩ | (rename_i hy; simp only [List.mem_singleton] at hy; subst hy; rfl) | skip
      · have hn : nameT ds (fuel + 1) op s out = (out, 0, 61) := by rw [nameT, hf]; simp [hb]
        rw [hn]
        rw [hb] at hmo
        simp only [if_true] at hmo
        refine ACall.enter Tryd.func45 rfl (by kernel_rfl) (Nat.le_of_ble_eq_true rfl) ?_; simp only [initTm, Nat.reduceAdd]
        repeat' (first
  | refine gSq ?_ | refine gSk ?_ | refine gBl ?_ | refine gIb ?_ | refine gEx rfl ?_
  | ((first
  | (refine gRg [] [0, 1, 4, 5, 6, 7, 17, 20] ?_; intro K hK)
  | (refine gd_split ?_ ?_ <;> intro hb <;> (try simp only [bls] at hb) <;> (try simp only [hb]))
  | refine gRt [1000, 1001, 1002, 1003] [.tmp 4, .tmp 5] rfl ?_ | refine gDn [1000, 1001, 1002, 1003] [.tmp 4, .tmp 5] rfl ?_) <;> (try simp only [go_sem, simprocAttr, hmf, hmo]))
  | (refine hK _ _ ?_; clear hK K; simp only [go_sem, simprocAttr])
  | refine gCd (by simp only [go_sem, simprocAttr]; rfl) rfl ?_
  | refine brT ?_ | refine brF ?_
  | (refine brS ?_ ?_ <;> intro hc <;> (try simp only [bls] at hc) <;> (try simp only [hc, bls]))
  | intro _ | refine And.intro ?_ ?_)
        all_goals first | omega | (unfold bigLen; omega) | exact ⟨_, _, ⟨rfl, rfl⟩, rfl⟩ | exact ⟨_, rfl⟩ | (rename_i hy; simp only [List.mem_singleton] at hy; subst hy; rfl) | skip
end Go.Rad
/- Contracts: norm: Right, Expand. -/
namespace Go.Rad
open Go Go.Proofs
set_option linter.all false
set_option maxRecDepth 20000
set_option maxHeartbeats 4000000

def dfOk (d : Df) : Prop := d.name.size ≤ maxLen ∧ ∀ n ∈ d.l, n.name.size ≤ maxLen ∧ n.l.length ≤ maxLen
theorem rightD_c (q f : Bool) (ds : List Df) (hl : ds.length ≤ 1000000) (hd : ∀ d ∈ ds, dfOk d) : ACall Tryd.prog 17 [.sl q f (defs ds)] [] fun r s => r = .bool (rightD [] ds) ∧ s = [] := by
  obtain ⟨S, hS⟩ : ∃ S, S = rightD [] ds := ⟨_, rfl⟩
  rw [← hS]
  refine ACall.enter Tryd.func17 rfl (by kernel_rfl) (Nat.le_of_ble_eq_true rfl) ?_; simp only [initTm, Nat.reduceAdd]
  repeat' (first
  | refine gSq ?_ | refine gSk ?_ | refine gBl ?_ | refine gIb ?_ | refine gEx rfl ?_
  | ((first
  | (refine gRg [] [0, 2, 3, 5, 7, 8, 9, 10, 28] ?_; intro K hK)
  | (refine gd_split ?_ ?_ <;> intro hb <;> (try simp only [bls] at hb) <;> (try simp only [hb]))
  | refine gRt [] [.tmp 2] rfl ?_ | refine gDn [] [.tmp 2] rfl ?_) <;> (try simp only [go_sem, simprocAttr]))
  | (refine hK _ _ ?_; clear hK K; simp only [go_sem, simprocAttr])
  | refine gCd (by simp only [go_sem, simprocAttr]; rfl) rfl ?_
  | refine brT ?_ | refine brF ?_
  | (refine brS ?_ ?_ <;> intro hc <;> (try simp only [bls] at hc) <;> (try simp only [hc, bls]))
  | intro _ | refine And.intro ?_ ?_)
  all_goals first | omega | (unfold bigLen; omega) | exact ⟨_, _, ⟨rfl, rfl⟩, rfl⟩ | exact ⟨_, rfl⟩ | (rename_i hy; simp only [List.mem_singleton] at hy; subst hy; rfl) | skip
  rename_i h6
  refine AGood.prune [0, 2, 3, 7, 8, 9] ?_; simp only [go_sem, simprocAttr]
  refine AGood.loopInv (α := Nat × List ByteArray) (fun x => ([(0, .sl q f (defs ds)), (2, .bool false), (3, .map 6 h6), (7, .sl q f (defs ds)), (8, .int .i64 ds.length), (9, .int .i64 x.1)], [(6, h6, .mp (omap x.2))]))
    (fun x => x.1 ≤ ds.length ∧ x.2.length = x.1 ∧ S = rightD x.2 (ds.drop x.1)) (fun x => ds.length - x.1) (0, []) ⟨Nat.zero_le _, rfl, hS⟩ rfl ?_
  rintro ⟨i, seen⟩ ⟨hi, hsl, hrun⟩ ih
  simp only at hi hsl hrun ih ⊢
  by_cases hle : i < ds.length
  · have e4 : (i : Int) < ds.length := by omega
    have e5 : (0 : Int) ≤ i := by omega
    have hx : ds[i]? = some ds[i] := List.getElem?_eq_getElem hle
    have hm := hd ds[i] (List.getElem_mem hle)
    have hdr : ds.drop i = ds[i] :: ds.drop (i + 1) := List.drop_eq_getElem_cons hle
    rw [hdr, rightD] at hrun
    generalize ds[i] = x at hx hm hrun
    obtain ⟨xn, xl⟩ := x
    obtain ⟨hm1, hm2⟩ := hm
    simp only at hm1 hm2 hrun
    have hmo := mfind_omap seen xn
    have hol : (omap seen).length = seen.length := by simp [omap]
    have hn := nameS_c xn hm1
    have hr := rightS_c true false xl hm2
    by_cases hc : hasB seen xn = true ∨ nameOk xn = false ∨ rightS xl = false
    · rw [if_pos hc] at hrun
      subst hrun
      rcases hc with h | h | h
      · rw [h] at hmo
        simp only [if_true] at hmo
        repeat' (first
  | refine gSq ?_ | refine gSk ?_ | refine gBl ?_ | refine gIb ?_ | refine gEx rfl ?_
  | ((first
  | (refine gRg [] [0, 2, 3, 5, 7, 8, 9, 10, 28] ?_; intro K hK)
  | refine cAl (hn) rfl rfl rfl ?_
  | refine cAl (hr) rfl rfl rfl ?_
  | (refine gd_split ?_ ?_ <;> intro hb <;> (try simp only [bls] at hb) <;> (try simp only [hb]))
  | refine gRt [] [.tmp 2] rfl ?_ | refine gDn [] [.tmp 2] rfl ?_) <;> (try simp only [go_sem, simprocAttr, e4, e5, hx, hmo, Option.some.injEq, forall_eq']))
  | (refine hK _ _ ?_; clear hK K; simp only [go_sem, simprocAttr])
  | refine gCd (by simp only [go_sem, simprocAttr]; rfl) rfl ?_
  | refine brT ?_ | refine brF ?_
  | (refine brS ?_ ?_ <;> intro hc <;> (try simp only [bls] at hc) <;> (try simp only [hc, bls]))
  | intro _ | refine And.intro ?_ ?_)
      · rw [h] at hn
        cases hb : hasB seen xn <;> rw [hb] at hmo <;> simp only [if_true, Bool.false_eq_true, if_false] at hmo
        all_goals repeat' (first
  | refine gSq ?_ | refine gSk ?_ | refine gBl ?_ | refine gIb ?_ | refine gEx rfl ?_
  | ((first
  | (refine gRg [] [0, 2, 3, 5, 7, 8, 9, 10, 28] ?_; intro K hK)
  | refine cAl (hn) rfl rfl rfl ?_
  | refine cAl (hr) rfl rfl rfl ?_
  | (refine gd_split ?_ ?_ <;> intro hb <;> (try simp only [bls] at hb) <;> (try simp only [hb]))
  | refine gRt [] [.tmp 2] rfl ?_ | refine gDn [] [.tmp 2] rfl ?_) <;> (try simp only [go_sem, simprocAttr, e4, e5, hx, hmo, Option.some.injEq, forall_eq']))
  | (refine hK _ _ ?_; clear hK K; simp only [go_sem, simprocAttr])
  | refine gCd (by simp only [go_sem, simprocAttr]; rfl) rfl ?_
  | refine brT ?_ | refine brF ?_
  | (refine brS ?_ ?_ <;> intro hc <;> (try simp only [bls] at hc) <;> (try simp only [hc, bls]))
  | intro _ | refine And.intro ?_ ?_)
      · rw [h] at hr
        cases hb : hasB seen xn <;> rw [hb] at hmo <;> simp only [if_true, Bool.false_eq_true, if_false] at hmo
        all_goals cases hnn : nameOk xn <;> rw [hnn] at hn
        all_goals repeat' (first
  | refine gSq ?_ | refine gSk ?_ | refine gBl ?_ | refine gIb ?_ | refine gEx rfl ?_
  | ((first
  | (refine gRg [] [0, 2, 3, 5, 7, 8, 9, 10, 28] ?_; intro K hK)
  | refine cAl (hn) rfl rfl rfl ?_
  | refine cAl (hr) rfl rfl rfl ?_
  | (refine gd_split ?_ ?_ <;> intro hb <;> (try simp only [bls] at hb) <;> (try simp only [hb]))
  | refine gRt [] [.tmp 2] rfl ?_ | refine gDn [] [.tmp 2] rfl ?_) <;> (try simp only [go_sem, simprocAttr, e4, e5, hx, hmo, Option.some.injEq, forall_eq']))
  | (refine hK _ _ ?_; clear hK K; simp only [go_sem, simprocAttr])
  | refine gCd (by simp only [go_sem, simprocAttr]; rfl) rfl ?_
  | refine brT ?_ | refine brF ?_
  | (refine brS ?_ ?_ <;> intro hc <;> (try simp only [bls] at hc) <;> (try simp only [hc, bls]))
  | intro _ | refine And.intro ?_ ?_)
    · rw [if_neg hc] at hrun
      simp only [not_or, Bool.not_eq_true, Bool.not_eq_false] at hc
      obtain ⟨h1, h2, h3⟩ := hc
      rw [h1] at hmo
      simp only [Bool.false_eq_true, if_false] at hmo
      rw [h2] at hn
      rw [h3] at hr
      have hmp := mput_omap (hasB_no.1 h1)
      repeat' (first
  | refine gSq ?_ | refine gSk ?_ | refine gBl ?_ | refine gIb ?_ | refine gEx rfl ?_
  | ((first
  | (refine gRg [] [0, 2, 3, 5, 7, 8, 9, 10, 28] ?_; intro K hK)
  | refine cAl (hn) rfl rfl rfl ?_
  | refine cAl (hr) rfl rfl rfl ?_
  | (refine gd_split ?_ ?_ <;> intro hb <;> (try simp only [bls] at hb) <;> (try simp only [hb]))
  | refine gRt [] [.tmp 2] rfl ?_ | refine gDn [] [.tmp 2] rfl ?_) <;> (try simp only [go_sem, simprocAttr, e4, e5, hx, hmo, hmp, hol, Option.some.injEq, forall_eq']))
  | (refine hK _ _ ?_; clear hK K; simp only [go_sem, simprocAttr])
  | refine gCd (by simp only [go_sem, simprocAttr]; rfl) rfl ?_
  | refine brT ?_ | refine brF ?_
  | (refine brS ?_ ?_ <;> intro hc <;> (try simp only [bls] at hc) <;> (try simp only [hc, bls]))
  | intro _ | refine And.intro ?_ ?_)
      all_goals first | omega | (unfold bigLen; omega) | exact ⟨_, _, ⟨rfl, rfl⟩, rfl⟩ | exact ⟨_, rfl⟩ | (rename_i hy; simp only [List.mem_singleton] at hy; subst hy; rfl) | skip
      refine AGood.filt [6] ?_
      simp only [sf_cons, sf_nil, go_sem, simprocAttr]
      refine AGood.prune [0, 2, 3, 7, 8, 9] ?_; simp only [go_sem, simprocAttr]
      exact (ih (i + 1, seen ++ [xn]) ⟨by simp only; omega, by simp [hsl], hrun⟩ (by simp only; omega)).cast rfl rfl
  · have e4 : ¬ (i : Int) < ds.length := by omega
    rw [List.drop_of_length_le (by omega), rightD] at hrun
    subst hrun
    repeat' (first
  | refine gSq ?_ | refine gSk ?_ | refine gBl ?_ | refine gIb ?_ | refine gEx rfl ?_
  | ((first
  | (refine gRg [] [0, 2, 3, 5, 7, 8, 9, 10, 28] ?_; intro K hK)
  | (refine gd_split ?_ ?_ <;> intro hb <;> (try simp only [bls] at hb) <;> (try simp only [hb]))
  | refine gRt [] [.tmp 2] rfl ?_ | refine gDn [] [.tmp 2] rfl ?_) <;> (try simp only [go_sem, simprocAttr, e4]))
  | (refine hK _ _ ?_; clear hK K; simp only [go_sem, simprocAttr])
  | refine gCd (by simp only [go_sem, simprocAttr]; rfl) rfl ?_
  | refine brT ?_ | refine brF ?_
  | (refine brS ?_ ?_ <;> intro hc <;> (try simp only [bls] at hc) <;> (try simp only [hc, bls]))
  | intro _ | refine And.intro ?_ ?_)

theorem expand_c (q f q' f' : Bool) (l : List Node) (ds : List Df) (hl : ∀ n ∈ l, n.name.size ≤ maxLen ∧ n.l.length ≤ maxLen) (hdl : ds.length ≤ 900000) (hd : ∀ d ∈ ds, dfOk d) :
    ACall Tryd.prog 10 [.sl q f (nodes l), .sl q' f' (defs ds)] [] fun r s => (∃ fl, r = .tup [.sl true fl (nodes (expandS l ds).1), .int .i64 (expandS l ds).2]) ∧ s = [] := by
  have hr := rightS_c q f l hl
  have hr2 := rightD_c q' f' ds (by omega) hd
  refine ACall.enter Tryd.func10 rfl (by kernel_rfl) (Nat.le_of_ble_eq_true rfl) ?_; simp only [initTm, Nat.reduceAdd]
  by_cases hok : rightS l = true ∧ rightD [] ds = true
  · obtain ⟨h1, h2⟩ := hok
    have htree := rightS_ok h1 (fun n h => (hl n h).1)
    obtain ⟨hf1, hf2⟩ := rightD_facts ds [] h2
    have hds : ∀ d ∈ ds, treeOk d.l := fun d h => rightS_ok (hf1 d h).2.2 (fun n hn => ((hd d h).2 n hn).1)
    have hcall := fun g g1 g2 g3 => tree_c (nameT ds (ds.length + 1) []) g g2 g3 (dmap ds) (omap []) (clean_dmap ds) (clean_omap _) (fun s out h => nameT_len ds _ _ s out h)
      (fun s out g1 h1 h2 => name_c ds hds g g2 g3 (ds.length + 1) [] (Nat.lt_succ_of_le (List.length_filter_le _ _)) (by simp; omega) s out g1 h1 h2) q f l htree.1 htree.2 [] (by simp) g1
    have hexp : expandS l ds = if (goT (nameT ds (ds.length + 1) []) l [] []).2.2 = 0 then ((goT (nameT ds (ds.length + 1) []) l [] []).1, 0) else ([], (goT (nameT ds (ds.length + 1) []) l [] []).2.2) := by
      rw [expandS, if_pos ⟨h1, h2⟩]
    rw [h1] at hr
    rw [h2] at hr2
    rw [hexp]
    rcases hres : goT (nameT ds (ds.length + 1) []) l [] [] with ⟨o2, v, e⟩
    rw [hres] at hcall
    simp only at hcall ⊢
    repeat' (first
  | refine gSq ?_ | refine gSk ?_ | refine gBl ?_ | refine gIb ?_ | refine gEx rfl ?_
  | ((first
  | (refine AGood.at 4 ?_; (refine AGood.ownBox 22 2 901 9 (by decide) rfl rfl (by decide) ?_; intro g901; simp only [List.set_cons_succ, List.set_cons_zero, go_sem, simprocAttr]); (refine gRg [] [0, 1, 4, 5, 6, 8, 10, 18, 23, 24, 25, 26, 45] ?_; intro K hK))
  | (refine gRg [] [0, 1, 4, 5, 6, 8, 10, 18, 23, 24, 25, 26, 45] ?_; intro K hK)
  | (refine gDr 7 [] 8 [0, 1, 2, 3, 4, 5, 6, 7, 8] [0, 1, 4, 5, 6, 8, 10, 18, 23, 24, 25, 26, 45] rfl ?_; intro K hK)
  | refine cAl (hr) rfl rfl rfl ?_
  | refine cAl (hr2) rfl rfl rfl ?_
  | (refine gd_split ?_ ?_ <;> intro hb <;> (try simp only [bls] at hb) <;> (try simp only [hb]))
  | refine gRt [] [.tmp 4, .tmp 5] rfl ?_ | refine gDn [] [.tmp 4, .tmp 5] rfl ?_) <;> (try simp only [go_sem, simprocAttr]))
  | (refine hK _ _ ?_; clear hK K; simp only [go_sem, simprocAttr])
  | refine gCd (by simp only [go_sem, simprocAttr]; rfl) rfl ?_
  | refine brT ?_ | refine brF ?_
  | (refine brS ?_ ?_ <;> intro hc <;> (try simp only [bls] at hc) <;> (try simp only [hc, bls]))
  | intro _ | refine And.intro ?_ ?_)
    all_goals first | omega | (unfold bigLen; omega) | exact ⟨_, _, ⟨rfl, rfl⟩, rfl⟩ | exact ⟨_, rfl⟩ | (rename_i hy; simp only [List.mem_singleton] at hy; subst hy; rfl) | skip
    rename_i h19 h20 h22
    refine AGood.prune [0, 1, 6, 23, 24, 25] ?_; simp only [go_sem, simprocAttr]
    refine AGood.loopInv (α := Nat) (fun i => ([(0, .sl q f (nodes l)), (1, .sl q' f' (defs ds)), (6, .bx 22 h22 0), (23, .sl q' f' (defs ds)), (24, .int .i64 ds.length), (25, .int .i64 i)],
      [(19, h19, .mp (dmap (ds.take i))), (20, h20, .mp []), (22, h22, .box [.map 19 h19, .map 20 h20, .osl 901 g901 0 0]), (901, g901, .row 9 [])])) (fun i => i ≤ ds.length) (fun i => ds.length - i) 0 (Nat.zero_le _) rfl ?_
    intro i hi ih
    simp only
    by_cases hle : i < ds.length
    · have e4 : (i : Int) < ds.length := by omega
      have e5 : (0 : Int) ≤ i := by omega
      have hx : ds[i]? = some ds[i] := List.getElem?_eq_getElem hle
      have ht := take_one hx
      have hne := hf2 i _ hx
      generalize ds[i] = x at hx hne ht
      have hmp := mput_dmap hne
      rw [← ht] at hmp
      obtain ⟨xn, xl⟩ := x
      simp only at hmp
      have hol : (dmap (ds.take i)).length = min i ds.length := by simp [dmap]
      repeat' (first
  | refine gSq ?_ | refine gSk ?_ | refine gBl ?_ | refine gIb ?_ | refine gEx rfl ?_
  | ((first
  | (refine gRg [] [0, 1, 4, 5, 6, 8, 10, 18, 23, 24, 25, 26, 45] ?_; intro K hK)
  | (refine gDr 7 [] 8 [0, 1, 2, 3, 4, 5, 6, 7, 8] [0, 1, 4, 5, 6, 8, 10, 18, 23, 24, 25, 26, 45] rfl ?_; intro K hK)
  | (refine gd_split ?_ ?_ <;> intro hb <;> (try simp only [bls] at hb) <;> (try simp only [hb]))
  | refine gRt [] [.tmp 4, .tmp 5] rfl ?_ | refine gDn [] [.tmp 4, .tmp 5] rfl ?_) <;> (try simp only [go_sem, simprocAttr, e4, e5, hx, hmp, hol, Option.some.injEq, forall_eq']))
  | (refine hK _ _ ?_; clear hK K; simp only [go_sem, simprocAttr])
  | refine gCd (by simp only [go_sem, simprocAttr]; rfl) rfl ?_
  | refine brT ?_ | refine brF ?_
  | (refine brS ?_ ?_ <;> intro hc <;> (try simp only [bls] at hc) <;> (try simp only [hc, bls]))
  | intro _ | refine And.intro ?_ ?_)
      all_goals first | omega | (unfold bigLen; omega) | exact ⟨_, _, ⟨rfl, rfl⟩, rfl⟩ | exact ⟨_, rfl⟩ | (rename_i hy; simp only [List.mem_singleton] at hy; subst hy; rfl) | skip
      refine AGood.filt [19, 20, 22, 901] ?_
      simp only [sf_cons, sf_nil, go_sem, simprocAttr]
      refine AGood.prune [0, 1, 6, 23, 24, 25] ?_; simp only [go_sem, simprocAttr]
      exact (ih (i + 1) (by omega) (by omega)).cast rfl rfl
    · have e4 : ¬ (i : Int) < ds.length := by omega
      rw [List.take_of_length_le (by omega)]
      have huse := hcall h22 g901 h19 h20
      by_cases he : e = 0
      · subst he
        simp only [if_true]
        have e9 : ∀ o : List Node, (nodes o).take o.length = nodes o := fun o => List.take_of_length_le (by simp)
        repeat' (first
  | refine gSq ?_ | refine gSk ?_ | refine gBl ?_ | refine gIb ?_ | refine gEx rfl ?_
  | ((first
  | (refine AGood.at 12 ?_; (refine AGood.freeze 901 rfl ?_; simp only [rfT, rfS, rfO, rf, rf1, e9, true_and, go_sem, simprocAttr]); (refine gRg [] [0, 1, 4, 5, 6, 8, 10, 18, 23, 24, 25, 26, 45] ?_; intro K hK))
  | (refine gRg [] [0, 1, 4, 5, 6, 8, 10, 18, 23, 24, 25, 26, 45] ?_; intro K hK)
  | (refine gDr 7 [] 8 [0, 1, 2, 3, 4, 5, 6, 7, 8] [0, 1, 4, 5, 6, 8, 10, 18, 23, 24, 25, 26, 45] rfl ?_; intro K hK)
  | (refine ACall.use [(1000, 22), (1001, 901), (1002, 19), (1003, 20)] [] rfl huse rfl rfl rfl ?_; rintro _ _ ⟨rfl, h1, rfl⟩; refine ⟨.inl rfl, rfl, ?_⟩; simp only [bk, bk1, bkS, bkO, idOf, delAll, go_sem, simprocAttr])
  | (refine gd_split ?_ ?_ <;> intro hb <;> (try simp only [bls] at hb) <;> (try simp only [hb]))
  | refine gRt [] [.tmp 4, .tmp 5] rfl ?_ | refine gDn [] [.tmp 4, .tmp 5] rfl ?_) <;> (try simp only [go_sem, simprocAttr, e4]))
  | (refine hK _ _ ?_; clear hK K; simp only [go_sem, simprocAttr])
  | refine gCd (by simp only [go_sem, simprocAttr]; rfl) rfl ?_
  | refine brT ?_ | refine brF ?_
  | (refine brS ?_ ?_ <;> intro hc <;> (try simp only [bls] at hc) <;> (try simp only [hc, bls]))
  | intro _ | refine And.intro ?_ ?_)
        exact ⟨_, rfl⟩
      · simp only [if_neg he]
        repeat' (first
  | refine gSq ?_ | refine gSk ?_ | refine gBl ?_ | refine gIb ?_ | refine gEx rfl ?_
  | ((first
  | (refine gRg [] [0, 1, 4, 5, 6, 8, 10, 18, 23, 24, 25, 26, 45] ?_; intro K hK)
  | (refine gDr 7 [] 8 [0, 1, 2, 3, 4, 5, 6, 7, 8] [0, 1, 4, 5, 6, 8, 10, 18, 23, 24, 25, 26, 45] rfl ?_; intro K hK)
  | (refine ACall.use [(1000, 22), (1001, 901), (1002, 19), (1003, 20)] [] rfl huse rfl rfl rfl ?_; rintro _ _ ⟨rfl, h1, rfl⟩; refine ⟨.inl rfl, rfl, ?_⟩; simp only [bk, bk1, bkS, bkO, idOf, delAll, go_sem, simprocAttr])
  | (refine gd_split ?_ ?_ <;> intro hb <;> (try simp only [bls] at hb) <;> (try simp only [hb]))
  | refine gRt [] [.tmp 4, .tmp 5] rfl ?_ | refine gDn [] [.tmp 4, .tmp 5] rfl ?_) <;> (try simp only [go_sem, simprocAttr, e4, he]))
  | (refine hK _ _ ?_; clear hK K; simp only [go_sem, simprocAttr])
  | refine gCd (by simp only [go_sem, simprocAttr]; rfl) rfl ?_
  | refine brT ?_ | refine brF ?_
  | (refine brS ?_ ?_ <;> intro hc <;> (try simp only [bls] at hc) <;> (try simp only [hc, bls]))
  | intro _ | refine And.intro ?_ ?_)
        exact ⟨_, rfl⟩
  · have hexp : expandS l ds = ([], 1) := by rw [expandS, if_neg hok]
    rw [hexp]
    by_cases h1 : rightS l = true
    · have h2 : rightD [] ds = false := by simpa [h1] using hok
      rw [h1] at hr
      rw [h2] at hr2
      repeat' (first
  | refine gSq ?_ | refine gSk ?_ | refine gBl ?_ | refine gIb ?_ | refine gEx rfl ?_
  | ((first
  | (refine gRg [] [0, 1, 4, 5, 6, 8, 10, 18, 23, 24, 25, 26, 45] ?_; intro K hK)
  | (refine gDr 7 [] 8 [0, 1, 2, 3, 4, 5, 6, 7, 8] [0, 1, 4, 5, 6, 8, 10, 18, 23, 24, 25, 26, 45] rfl ?_; intro K hK)
  | refine cAl (hr) rfl rfl rfl ?_
  | refine cAl (hr2) rfl rfl rfl ?_
  | (refine gd_split ?_ ?_ <;> intro hb <;> (try simp only [bls] at hb) <;> (try simp only [hb]))
  | refine gRt [] [.tmp 4, .tmp 5] rfl ?_ | refine gDn [] [.tmp 4, .tmp 5] rfl ?_) <;> (try simp only [go_sem, simprocAttr]))
  | (refine hK _ _ ?_; clear hK K; simp only [go_sem, simprocAttr])
  | refine gCd (by simp only [go_sem, simprocAttr]; rfl) rfl ?_
  | refine brT ?_ | refine brF ?_
  | (refine brS ?_ ?_ <;> intro hc <;> (try simp only [bls] at hc) <;> (try simp only [hc, bls]))
  | intro _ | refine And.intro ?_ ?_)
      exact ⟨_, rfl⟩
    · rw [show rightS l = false from by simpa using h1] at hr
      repeat' (first
  | refine gSq ?_ | refine gSk ?_ | refine gBl ?_ | refine gIb ?_ | refine gEx rfl ?_
  | ((first
  | (refine gRg [] [0, 1, 4, 5, 6, 8, 10, 18, 23, 24, 25, 26, 45] ?_; intro K hK)
  | (refine gDr 7 [] 8 [0, 1, 2, 3, 4, 5, 6, 7, 8] [0, 1, 4, 5, 6, 8, 10, 18, 23, 24, 25, 26, 45] rfl ?_; intro K hK)
  | refine cAl (hr) rfl rfl rfl ?_
  | refine cAl (hr2) rfl rfl rfl ?_
  | (refine gd_split ?_ ?_ <;> intro hb <;> (try simp only [bls] at hb) <;> (try simp only [hb]))
  | refine gRt [] [.tmp 4, .tmp 5] rfl ?_ | refine gDn [] [.tmp 4, .tmp 5] rfl ?_) <;> (try simp only [go_sem, simprocAttr]))
  | (refine hK _ _ ?_; clear hK K; simp only [go_sem, simprocAttr])
  | refine gCd (by simp only [go_sem, simprocAttr]; rfl) rfl ?_
  | refine brT ?_ | refine brF ?_
  | (refine brS ?_ ?_ <;> intro hc <;> (try simp only [bls] at hc) <;> (try simp only [hc, bls]))
  | intro _ | refine And.intro ?_ ?_)
      exact ⟨_, rfl⟩
end Go.Rad
/- Contracts: the law's own functions: few, some. -/
namespace Go.Rad
open Go Go.Proofs
set_option linter.all false
set_option maxRecDepth 20000
set_option maxHeartbeats 4000000

theorem few_c (l : List Node) (hl : l.length ≤ maxLen) : ACall Tryd.prog 11 [.sl true false (nodes l)] [] fun r s => r = .sl true false (nodes (l.take 400)) ∧ s = [] := by
  unfold maxLen at hl
  by_cases h : l.length ≤ 400
  · have e1 : min (l.length : Int) 400 = l.length := by omega
    have e2 : (nodes l).take l.length = nodes (l.take 400) := by rw [List.take_of_length_le (by simp), List.take_of_length_le (by omega)]
    have e3 : (0 : Int) ≤ l.length := by omega
    refine ACall.enter Tryd.func11 rfl (by kernel_rfl) (Nat.le_of_ble_eq_true rfl) ?_; simp only [initTm, Nat.reduceAdd]
    repeat' (first
  | refine gSq ?_ | refine gSk ?_ | refine gBl ?_ | refine gIb ?_ | refine gEx rfl ?_
  | ((first
  | (refine gRg [] [0, 2] ?_; intro K hK)
  | (refine gd_split ?_ ?_ <;> intro hb <;> (try simp only [bls] at hb) <;> (try simp only [hb]))
  | refine gRt [] [.tmp 2] rfl ?_ | refine gDn [] [.tmp 2] rfl ?_) <;> (try simp only [go_sem, simprocAttr, e1, e2, e3, slFull, intArg, Bool.false_and]))
  | (refine hK _ _ ?_; clear hK K; simp only [go_sem, simprocAttr])
  | refine gCd (by simp only [go_sem, simprocAttr]; rfl) rfl ?_
  | refine brT ?_ | refine brF ?_
  | (refine brS ?_ ?_ <;> intro hc <;> (try simp only [bls] at hc) <;> (try simp only [hc, bls]))
  | intro _ | refine And.intro ?_ ?_)
    all_goals first | omega | (unfold bigLen; omega) | exact ⟨_, _, ⟨rfl, rfl⟩, rfl⟩ | exact ⟨_, rfl⟩ | (rename_i hy; simp only [List.mem_singleton] at hy; subst hy; rfl) | skip
    all_goals exact .inl trivial
  · have e1 : min (l.length : Int) 400 = 400 := by omega
    have e2 : (nodes l).take 400 = nodes (l.take 400) := by simp
    have e3 : 400 ≤ l.length := by omega
    refine ACall.enter Tryd.func11 rfl (by kernel_rfl) (Nat.le_of_ble_eq_true rfl) ?_; simp only [initTm, Nat.reduceAdd]
    repeat' (first
  | refine gSq ?_ | refine gSk ?_ | refine gBl ?_ | refine gIb ?_ | refine gEx rfl ?_
  | ((first
  | (refine gRg [] [0, 2] ?_; intro K hK)
  | (refine gd_split ?_ ?_ <;> intro hb <;> (try simp only [bls] at hb) <;> (try simp only [hb]))
  | refine gRt [] [.tmp 2] rfl ?_ | refine gDn [] [.tmp 2] rfl ?_) <;> (try simp only [go_sem, simprocAttr, e1, e2, e3, slFull, intArg, Bool.false_and]))
  | (refine hK _ _ ?_; clear hK K; simp only [go_sem, simprocAttr])
  | refine gCd (by simp only [go_sem, simprocAttr]; rfl) rfl ?_
  | refine brT ?_ | refine brF ?_
  | (refine brS ?_ ?_ <;> intro hc <;> (try simp only [bls] at hc) <;> (try simp only [hc, bls]))
  | intro _ | refine And.intro ?_ ?_)
    all_goals first | omega | (unfold bigLen; omega) | exact ⟨_, _, ⟨rfl, rfl⟩, rfl⟩ | exact ⟨_, rfl⟩ | (rename_i hy; simp only [List.mem_singleton] at hy; subst hy; rfl) | skip
    all_goals exact .inl trivial

def someS (ds : List Df) : List Df := (ds.take 6).filter fun d => decide (d.l.length ≤ 100)
theorem some_c (ds : List Df) (hl : ds.length ≤ maxLen) (hd : ∀ d ∈ ds, d.l.length ≤ maxLen) : ACall Tryd.prog 8 [.sl true false (defs ds)] [] fun r s => r = .sl true false (defs (someS ds)) ∧ s = [] := by
  unfold maxLen at hl hd
  refine ACall.enter Tryd.func8 rfl (by kernel_rfl) (Nat.le_of_ble_eq_true rfl) ?_; simp only [initTm, Nat.reduceAdd]
  repeat' (first
  | refine gSq ?_ | refine gSk ?_ | refine gBl ?_ | refine gIb ?_ | refine gEx rfl ?_
  | ((first
  | (refine gRg [] [0, 2, 3, 4, 5, 6, 7, 8, 9, 20] ?_; intro K hK)
  | (refine gd_split ?_ ?_ <;> intro hb <;> (try simp only [bls] at hb) <;> (try simp only [hb]))
  | refine gRt [] [.tmp 2] rfl ?_ | refine gDn [] [.tmp 2] rfl ?_) <;> (try simp only [go_sem, simprocAttr]))
  | (refine hK _ _ ?_; clear hK K; simp only [go_sem, simprocAttr])
  | refine gCd (by simp only [go_sem, simprocAttr]; rfl) rfl ?_
  | refine brT ?_ | refine brF ?_
  | (refine brS ?_ ?_ <;> intro hc <;> (try simp only [bls] at hc) <;> (try simp only [hc, bls]))
  | intro _ | refine And.intro ?_ ?_)
  refine AGood.ownTm 3 900 2 (by decide) rfl fun g => ?_
  simp only [go_sem, simprocAttr]
  refine AGood.prune [0, 2, 3, 6, 7, 8] ?_; simp only [go_sem, simprocAttr]
  refine AGood.loopInv (α := Nat × Nat) (fun x => ([(0, .sl true false (defs ds)), (2, .sl true true []), (3, .osl 900 x.2 0 (someS (ds.take x.1)).length), (6, .sl true false (defs ds)), (7, .int .i64 ds.length), (8, .int .i64 x.1)], [(900, x.2, .row 2 (defs (someS (ds.take x.1))))])) (fun x => x.1 ≤ ds.length) (fun x => ds.length - x.1) (0, g) (Nat.zero_le _) rfl ?_
  rintro ⟨i, g⟩ hi ih
  simp only at hi ih ⊢
  have hsl : (someS (ds.take i)).length ≤ 6 := by
    refine Nat.le_trans (List.length_filter_le _ _) ?_
    simp; omega
  by_cases hle : i < ds.length
  · have e4 : (i : Int) < ds.length := by omega
    have e5 : (0 : Int) ≤ i := by omega
    have hx : ds[i]? = some ds[i] := List.getElem?_eq_getElem hle
    have ht := take_one hx
    have hm := hd ds[i] (List.getElem_mem hle)
    generalize ds[i] = x at hx hm ht
    by_cases h6 : i < 6
    · have e6 : (i : Int) < 6 := by omega
      have hone : someS (ds.take (i + 1)) = someS (ds.take i) ++ (if x.l.length ≤ 100 then [x] else []) := by
        have a1 : (ds.take (i + 1)).take 6 = ds.take (i + 1) := List.take_of_length_le (by rw [List.length_take]; omega)
        have a2 : (ds.take i).take 6 = ds.take i := List.take_of_length_le (by rw [List.length_take]; omega)
        simp only [someS, a1, a2]
        rw [ht, List.filter_append]
        congr 1
        by_cases h : x.l.length ≤ 100 <;> simp [h]
      obtain ⟨xn, xl⟩ := x
      simp only at hone hm
      by_cases h100 : xl.length ≤ 100
      · have e7 : (xl.length : Int) ≤ 100 := by omega
        rw [if_pos h100] at hone
        repeat' (first
  | refine gSq ?_ | refine gSk ?_ | refine gBl ?_ | refine gIb ?_ | refine gEx rfl ?_
  | ((first
  | (refine gRg [] [0, 2, 3, 4, 5, 6, 7, 8, 9, 20] ?_; intro K hK)
  | (refine gd_split ?_ ?_ <;> intro hb <;> (try simp only [bls] at hb) <;> (try simp only [hb]))
  | refine gRt [] [.tmp 2] rfl ?_ | refine gDn [] [.tmp 2] rfl ?_) <;> (try simp only [go_sem, simprocAttr, e4, e5, e6, e7, hx, Option.some.injEq, forall_eq']))
  | (refine hK _ _ ?_; clear hK K; simp only [go_sem, simprocAttr])
  | refine gCd (by simp only [go_sem, simprocAttr]; rfl) rfl ?_
  | refine brT ?_ | refine brF ?_
  | (refine brS ?_ ?_ <;> intro hc <;> (try simp only [bls] at hc) <;> (try simp only [hc, bls]))
  | intro _ | refine And.intro ?_ ?_)
        all_goals first | omega | (unfold bigLen; omega) | exact ⟨_, _, ⟨rfl, rfl⟩, rfl⟩ | exact ⟨_, rfl⟩ | (rename_i hy; simp only [List.mem_singleton] at hy; subst hy; rfl) | skip
        rename_i h'
        refine AGood.filt [900] ?_
        simp only [sf_cons, sf_nil, go_sem, simprocAttr]
        refine AGood.prune [0, 2, 3, 6, 7, 8] ?_; simp only [go_sem, simprocAttr]
        refine AGood.cast (ih (i + 1, h') (by simp only; omega) (by simp only; omega)) ?_ ?_
        · simp only [hone]; simp
        · simp only [hone]; simp
      · have e7 : ¬ (xl.length : Int) ≤ 100 := by omega
        rw [if_neg h100, List.append_nil] at hone
        repeat' (first
  | refine gSq ?_ | refine gSk ?_ | refine gBl ?_ | refine gIb ?_ | refine gEx rfl ?_
  | ((first
  | (refine gRg [] [0, 2, 3, 4, 5, 6, 7, 8, 9, 20] ?_; intro K hK)
  | (refine gd_split ?_ ?_ <;> intro hb <;> (try simp only [bls] at hb) <;> (try simp only [hb]))
  | refine gRt [] [.tmp 2] rfl ?_ | refine gDn [] [.tmp 2] rfl ?_) <;> (try simp only [go_sem, simprocAttr, e4, e5, e6, e7, hx, Option.some.injEq, forall_eq']))
  | (refine hK _ _ ?_; clear hK K; simp only [go_sem, simprocAttr])
  | refine gCd (by simp only [go_sem, simprocAttr]; rfl) rfl ?_
  | refine brT ?_ | refine brF ?_
  | (refine brS ?_ ?_ <;> intro hc <;> (try simp only [bls] at hc) <;> (try simp only [hc, bls]))
  | intro _ | refine And.intro ?_ ?_)
        all_goals first | omega | (unfold bigLen; omega) | exact ⟨_, _, ⟨rfl, rfl⟩, rfl⟩ | exact ⟨_, rfl⟩ | (rename_i hy; simp only [List.mem_singleton] at hy; subst hy; rfl) | skip
        refine AGood.filt [900] ?_
        simp only [sf_cons, sf_nil, go_sem, simprocAttr]
        refine AGood.prune [0, 2, 3, 6, 7, 8] ?_; simp only [go_sem, simprocAttr]
        refine AGood.cast (ih (i + 1, g) (by simp only; omega) (by simp only; omega)) ?_ ?_
        · simp only [hone]; rfl
        · simp only [hone]
    · have e6 : ¬ (i : Int) < 6 := by omega
      have hone : someS (ds.take (i + 1)) = someS (ds.take i) := by
        simp only [someS, List.take_take, Nat.min_eq_left (show 6 ≤ i + 1 by omega), Nat.min_eq_left (show 6 ≤ i by omega)]
      obtain ⟨xn, xl⟩ := x
      repeat' (first
  | refine gSq ?_ | refine gSk ?_ | refine gBl ?_ | refine gIb ?_ | refine gEx rfl ?_
  | ((first
  | (refine gRg [] [0, 2, 3, 4, 5, 6, 7, 8, 9, 20] ?_; intro K hK)
  | (refine gd_split ?_ ?_ <;> intro hb <;> (try simp only [bls] at hb) <;> (try simp only [hb]))
  | refine gRt [] [.tmp 2] rfl ?_ | refine gDn [] [.tmp 2] rfl ?_) <;> (try simp only [go_sem, simprocAttr, e4, e5, e6, hx, Option.some.injEq, forall_eq']))
  | (refine hK _ _ ?_; clear hK K; simp only [go_sem, simprocAttr])
  | refine gCd (by simp only [go_sem, simprocAttr]; rfl) rfl ?_
  | refine brT ?_ | refine brF ?_
  | (refine brS ?_ ?_ <;> intro hc <;> (try simp only [bls] at hc) <;> (try simp only [hc, bls]))
  | intro _ | refine And.intro ?_ ?_)
      all_goals first | omega | (unfold bigLen; omega) | exact ⟨_, _, ⟨rfl, rfl⟩, rfl⟩ | exact ⟨_, rfl⟩ | (rename_i hy; simp only [List.mem_singleton] at hy; subst hy; rfl) | skip
      refine AGood.filt [900] ?_
      simp only [sf_cons, sf_nil, go_sem, simprocAttr]
      refine AGood.prune [0, 2, 3, 6, 7, 8] ?_; simp only [go_sem, simprocAttr]
      refine AGood.cast (ih (i + 1, g) (by simp only; omega) (by simp only; omega)) ?_ ?_
      · simp only [hone]; rfl
      · simp only [hone]
  · have e4 : ¬ (i : Int) < ds.length := by omega
    rw [List.take_of_length_le (by omega)]
    have e9 : (defs (someS ds)).take (someS ds).length = defs (someS ds) := List.take_of_length_le (by simp)
    repeat' (first
  | refine gSq ?_ | refine gSk ?_ | refine gBl ?_ | refine gIb ?_ | refine gEx rfl ?_
  | ((first
  | (refine AGood.at 8 ?_; (refine AGood.freeze 900 rfl ?_; simp only [rfT, rfS, rfO, rf, rf1, e9, true_and, go_sem, simprocAttr]); (refine gRg [] [0, 2, 3, 4, 5, 6, 7, 8, 9, 20] ?_; intro K hK))
  | (refine gRg [] [0, 2, 3, 4, 5, 6, 7, 8, 9, 20] ?_; intro K hK)
  | (refine gd_split ?_ ?_ <;> intro hb <;> (try simp only [bls] at hb) <;> (try simp only [hb]))
  | refine gRt [] [.tmp 2] rfl ?_ | refine gDn [] [.tmp 2] rfl ?_) <;> (try simp only [go_sem, simprocAttr, e4]))
  | (refine hK _ _ ?_; clear hK K; simp only [go_sem, simprocAttr])
  | refine gCd (by simp only [go_sem, simprocAttr]; rfl) rfl ?_
  | refine brT ?_ | refine brF ?_
  | (refine brS ?_ ?_ <;> intro hc <;> (try simp only [bls] at hc) <;> (try simp only [hc, bls]))
  | intro _ | refine And.intro ?_ ?_)
end Go.Rad
/- What arguments of the laws of layer 6 are. -/
namespace Go.Rad
open Go Go.Proofs
def nodesOk (l : List Node) : Prop := l.length ≤ maxLen ∧ ∀ n ∈ l, n.name.size ≤ maxLen ∧ n.l.length ≤ maxLen
def dfsOk (ds : List Df) : Prop := ds.length ≤ maxLen ∧ ∀ d ∈ ds, d.name.size ≤ maxLen ∧ nodesOk d.l
theorem rightS_nodesOk {l : List Node} (h : rightS l = true) : nodesOk l := by
  obtain ⟨_, _, _, h2⟩ := rightS_kids h
  exact ⟨by unfold maxLen; omega, rightS_bounds h⟩
theorem some_ok {ds : List Df} (h : dfsOk ds) : (someS ds).length ≤ 900000 ∧ ∀ d ∈ someS ds, dfOk d := by
  refine ⟨?_, fun d hd => ?_⟩
  · refine Nat.le_trans (List.length_filter_le _ _) ?_
    rw [List.length_take]; omega
  · obtain ⟨a, b⟩ := h.2 d (List.mem_of_mem_take (List.mem_filter.1 hd).1)
    exact ⟨a, b.2⟩
end Go.Rad
