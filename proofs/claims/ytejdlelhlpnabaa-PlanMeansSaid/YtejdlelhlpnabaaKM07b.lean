/- A plan means what its tree does. -/
import Derived.Test.YtejdlelhlpnabaaKL08a
import Derived.Test.YtejdlelhlpnabaaKP08l
import Derived.Test.YtejdlelhlpnabaaKP08j
set_option linter.all false
namespace Go.Rad
open Go Fo
abbrev BF := List Bool → List Bool
/-- The same functions, on so many places. -/
def eqL (n : Nat) : List BF → List BF → Prop
  | [], [] => True
  | a :: as', b :: bs => (∀ s, s.length = n → a s = b s) ∧ eqL n as' bs
  | _, _ => False
section
variable {n : Nat}
theorem eqL_refl : ∀ fs : List BF, eqL n fs fs
  | [] => trivial
  | _ :: fs => ⟨fun _ _ => rfl, eqL_refl fs⟩
theorem eqL_trans : ∀ {fs gs hs : List BF}, eqL n fs gs → eqL n gs hs → eqL n fs hs
  | [], [], [], _, _ => trivial
  | _ :: _, _ :: _, _ :: _, ⟨a, b⟩, ⟨c, d⟩ => ⟨fun s h => (a s h).trans (c s h), eqL_trans b d⟩
theorem eqL_app : ∀ {fs gs fs' gs' : List BF}, eqL n fs gs → eqL n fs' gs' → eqL n (fs ++ fs') (gs ++ gs')
  | [], [], _, _, _, h => h
  | _ :: _, _ :: _, _, _, ⟨a, b⟩, h => ⟨a, eqL_app b h⟩
theorem eqL_row : ∀ {fs gs : List BF}, eqL n fs gs → (∀ f ∈ fs, Add n f) → ∀ s, s.length = n → fs.foldl (fun s f => f s) s = gs.foldl (fun s f => f s) s
  | [], [], _, _, s, _ => rfl
  | f :: fs, g :: gs, ⟨a, b⟩, h, s, hs => by
    rw [List.foldl_cons, List.foldl_cons, ← a s hs]
    exact eqL_row b (fun f hf => h f (by simp [hf])) _ ((h f (by simp)).len s hs)
theorem eqL_alt : ∀ {fs gs : List BF}, eqL n fs gs → ∀ s o, s.length = n → fs.foldl (fun o f => orB o (f s)) o = gs.foldl (fun o f => orB o (f s)) o
  | [], [], _, s, o, _ => rfl
  | f :: fs, g :: gs, ⟨a, b⟩, s, o, hs => by
    rw [List.foldl_cons, List.foldl_cons, a s hs]
    exact eqL_alt b s _ hs
theorem it_congr {f g : BF} (hf : Add n f) (h : ∀ s, s.length = n → f s = g s) : ∀ k s, s.length = n → itB f k s = itB g k s
  | 0, _, _ => rfl
  | k + 1, s, hs => by rw [itB, itB, ← h s hs]; exact it_congr hf h k _ (hf.len s hs)
theorem u_congr {f g : BF} (hf : Add n f) (h : ∀ s, s.length = n → f s = g s) : ∀ k s, s.length = n → uB f k s = uB g k s
  | 0, _, _ => rfl
  | k + 1, s, hs => by rw [uB, uB, ← h s hs, u_congr hf h k _ (hf.len s hs)]
end
theorem rep_congr {w : ByteArray} {f g : BF} (hf : Add (w.size + 1) f) (h : ∀ s, s.length = w.size + 1 → f s = g s) (lo hi : Int) (s : List Bool) (hs : s.length = w.size + 1) : repB w lo hi f s = repB w lo hi g s := by
  unfold repB
  rw [it_congr hf h _ s hs]
  refine u_congr hf h _ _ ?_
  rw [← it_congr hf h _ s hs]
  exact it_len hf hs _
theorem node_congr {w : ByteArray} {b b' : Lb} {fs gs : List BF} (h : eqL (w.size + 1) fs gs) (hf : ∀ f ∈ fs, Add (w.size + 1) f) (ho : b'.op = b.op) (hs' : b'.s = b.s) (hb : b.op = 5 → b' = b) (s : List Bool) (hs : s.length = w.size + 1) : semNode w b fs s = semNode w b' gs s := by
  unfold semNode
  rw [ho, hs']
  split
  · rfl
  · split
    · exact eqL_row h hf s hs
    · split
      · exact eqL_alt h s _ hs
      · split
        · rename_i h5
          rw [hb h5]
          match fs, gs, h, hf with
          | [], [], _, _ => rfl
          | f :: fs, g :: gs, ⟨a, _⟩, hf => exact rep_congr (hf f (by simp)) a _ _ s hs
        · rfl
section
variable {w : ByteArray} {p : Fo} {g : BF} (hp : sem w p = [g]) (hg : Add (w.size + 1) g)
include hp
theorem sem_copies : ∀ k, sem w (copies p k) = List.replicate k g
  | 0 => rfl
  | k + 1 => by rw [copies, sem_app, hp, sem_copies k]; rfl
theorem fold_rep (g : BF) : ∀ (k : Nat) (s : List Bool), (List.replicate k g).foldl (fun s f => f s) s = itB g k s
  | 0, _ => rfl
  | k + 1, s => by rw [List.replicate_succ, List.foldl_cons, fold_rep g k, itB]
theorem sem_star (s : List Bool) : eqL (w.size + 1) (sem w p.starT) [fun s => uB g (w.size + 1) s] := by
  refine ⟨fun s hs => ?_, trivial⟩
  simp only [semNode, repL, hp, List.headD_cons, repB]
  rfl
include hg
theorem sem_rest : ∀ k, eqL (w.size + 1) (sem w (restT p (k + 1))) [fun s => uB g (k + 1) s]
  | 0 => by
    refine ⟨fun s hs => ?_, trivial⟩
    simp only [if_true, sem_app, sem, hp, List.cons_append, List.nil_append]
    simp only [semNode, opL, show ¬ (4 : Int) = 2 by decide, show ¬ (4 : Int) = 3 by decide, show ¬ (1 : Int) = 2 by decide, show ¬ (1 : Int) = 3 by decide, show ¬ (1 : Int) = 4 by decide, show ¬ (1 : Int) = 5 by decide, if_false, if_true, List.foldl_cons, List.foldl_nil, orB_falses hs, uB]
  | k + 1 => by
    have ih := sem_rest k
    rw [restT, if_neg (by omega)]
    refine ⟨fun s hs => ?_, trivial⟩
    simp only [sem_app, sem, hp, List.cons_append, List.nil_append]
    rcases hr : sem w (restT p (k + 1)) with _ | ⟨r, _ | ⟨r', rs⟩⟩
    · rw [hr] at ih; exact ih.elim
    · rw [hr] at ih
      simp only [semNode, opL, show ¬ (4 : Int) = 2 by decide, show ¬ (4 : Int) = 3 by decide, show ¬ (3 : Int) = 2 by decide, show ¬ (1 : Int) = 2 by decide, show ¬ (1 : Int) = 3 by decide, show ¬ (1 : Int) = 4 by decide, show ¬ (1 : Int) = 5 by decide, if_false, if_true, List.foldl_cons, List.foldl_nil, orB_falses hs]
      rw [ih.1 _ (hg.len s hs), uB]
    · rw [hr] at ih; exact ih.2.elim
theorem sem_catT {f : Fo} {F : BF} (h : ∀ s, s.length = w.size + 1 → (sem w f).foldl (fun s f => f s) s = F s) : eqL (w.size + 1) (sem w f.catT) [F] := by
  unfold catT
  split
  · rename_i hd
    have hl := sem_len w f
    rw [hd] at hl
    match hs : sem w f, hl with
    | [x], _ => rw [hs] at h; exact ⟨h, trivial⟩
  · refine ⟨fun s hs => ?_, trivial⟩
    rw [← h s hs]
    simp only [semNode, opL, show ¬ (3 : Int) = 2 by decide, if_false, if_true]
theorem sem_row (lo hi : Int) : eqL (w.size + 1) (sem w (p.rowT lo hi)) [repB w lo hi g] := by
  refine sem_catT hp hg fun s hs => ?_
  unfold rowOf
  rw [sem_app, sem_copies hp, List.foldl_append, fold_rep hp]
  have hl := it_len hg hs lo.toNat
  unfold repB
  by_cases h1 : hi = -1
  · rw [if_pos h1, if_pos h1]
    have := sem_star hp s
    rcases hr : sem w p.starT with _ | ⟨r, _ | ⟨r', rs⟩⟩
    · rw [hr] at this; exact this.elim
    · rw [hr] at this; exact this.1 _ hl
    · rw [hr] at this; exact this.2.elim
  · rw [if_neg h1, if_neg h1]
    by_cases h2 : lo < hi
    · rw [if_pos h2]
      obtain ⟨m, hm⟩ : ∃ m, (hi - lo).toNat = m + 1 := ⟨(hi - lo).toNat - 1, by omega⟩
      rw [hm]
      have := sem_rest hp hg m
      rcases hr : sem w (restT p (m + 1)) with _ | ⟨r, _ | ⟨r', rs⟩⟩
      · rw [hr] at this; exact this.elim
      · rw [hr] at this; exact this.1 _ hl
      · rw [hr] at this; exact this.2.elim
    · rw [if_neg h2, show (hi - lo).toNat = 0 by omega]; rfl
theorem sem_rep {most lo hi : Int} (bytes : Bool) (h0 : 0 ≤ lo) (h : hi = -1 ∨ 1 ≤ hi) (hm : 1 ≤ most) : eqL (w.size + 1) (sem w (repT most lo hi bytes p)) [repB w lo hi g] := by
  unfold repT
  split
  · exact sem_row hp hg lo hi
  · split
    · split
      · refine ⟨fun s hs => ?_, trivial⟩
        simp only [semNode, repL, hp, List.headD_cons]
        rfl
      · have hl : lo = 0 := by omega
        refine ⟨fun s hs => ?_, trivial⟩
        have e1 : (repB w 1 hi g s) = uB g (hi - 1).toNat (g s) := by
          unfold repB; rw [if_neg (by omega)]; rfl
        have e2 : repB w lo hi g s = orB s (uB g (hi - 1).toNat (g s)) := by
          unfold repB
          obtain ⟨m, hm'⟩ : ∃ m, (hi - lo).toNat = m + 1 := ⟨(hi - lo).toNat - 1, by omega⟩
          rw [if_neg (by omega), hm', hl, show (hi - 1).toNat = m by omega]; rfl
        simp only [sem_app, sem, hp, List.cons_append, List.nil_append]
        simp only [semNode, opL, repL, show ¬ (4 : Int) = 2 by decide, show ¬ (4 : Int) = 3 by decide, show ¬ (5 : Int) = 2 by decide, show ¬ (5 : Int) = 3 by decide, show ¬ (5 : Int) = 4 by decide, show ¬ (1 : Int) = 2 by decide, show ¬ (1 : Int) = 3 by decide, show ¬ (1 : Int) = 4 by decide, show ¬ (1 : Int) = 5 by decide, if_false, if_true, List.foldl_cons, List.foldl_nil, orB_falses hs, List.headD_cons]
        rw [e1, e2]
    · split
      · rename_i hc
        refine ⟨fun s hs => ?_, trivial⟩
        simp only [sem_app, sem, starT, hp, List.cons_append, List.nil_append]
        simp only [semNode, opL, repL, show ¬ (3 : Int) = 2 by decide, show ¬ (5 : Int) = 2 by decide, show ¬ (5 : Int) = 3 by decide, show ¬ (5 : Int) = 4 by decide, if_false, if_true, List.foldl_cons, List.foldl_nil, List.headD_cons]
        have a1 : repB w lo lo g s = itB g lo.toNat s := by
          unfold repB; rw [if_neg (by omega), Int.sub_self]; rfl
        have a2 : ∀ t, repB w 0 (-1) g t = uB g (w.size + 1) t := fun t => by
          unfold repB; rw [if_pos rfl]; rfl
        have a3 : repB w lo hi g s = uB g (w.size + 1) (itB g lo.toNat s) := by
          unfold repB; rw [if_pos hc.1]
        rw [a1, a2, a3]
      · exact sem_row hp hg lo hi
end
theorem plan_sem (w : ByteArray) {most : Int} (hm : 1 ≤ most) : ∀ {f : Fo}, f.shapeF = true → eqL (w.size + 1) (sem w (f.planT most)) (sem w f)
  | .nil, _ => trivial
  | .node b k r, h => by
    simp only [shapeF, all, Bool.and_eq_true] at h
    have hk := plan_sem w hm h.1.2
    have hr := plan_sem w hm h.2
    simp only [planT, sem_app, sem]
    refine eqL_app (gs := [semNode w b (sem w k)]) ?_ hr
    split
    · rename_i h5
      obtain ⟨q1, _, _, q4, _, q6⟩ := shapeL_rep h.1.1 h5
      have hl := sem_len w (k.planT most)
      rw [planT_deg, q1] at hl
      match hs : sem w (k.planT most), hl with
      | [g], _ =>
        rw [hs] at hk
        have hg : Add (w.size + 1) g := sem_add w (k.planT most) g (by rw [hs]; simp)
        refine eqL_trans (sem_rep hs hg k.isBytes q4 (by omega) hm) ⟨fun s hsl => ?_, trivial⟩
        match hs2 : sem w k, hk with
        | [g2], hk =>
          simp only [semNode, h5, show ¬ (5 : Int) = 2 by decide, show ¬ (5 : Int) = 3 by decide, show ¬ (5 : Int) = 4 by decide, if_false, if_true, List.headD_cons]
          exact rep_congr hg hk.1 _ _ s hsl
    · rename_i h5
      refine ⟨fun s hs => ?_, trivial⟩
      refine (node_congr (b := b.bare) (b' := b) hk (sem_add w _) rfl rfl (fun h => absurd h h5) s hs)
/-- What one tree means. -/
def semT (w : ByteArray) (f : Fo) (s : List Bool) : List Bool := (sem w f).headD id s
theorem plan_semT (w : ByteArray) {most : Int} (hm : 1 ≤ most) {f : Fo} (hd : f.deg = 1) (hs : f.shapeF = true) (s : List Bool) (hl : s.length = w.size + 1) : semT w (f.planT most) s = semT w f s := by
  have h := plan_sem w hm hs
  have l1 := sem_len w f
  have l2 := sem_len w (f.planT most)
  rw [planT_deg, hd] at l2
  rw [hd] at l1
  unfold semT
  match h1 : sem w f, l1, h2 : sem w (f.planT most), l2 with
  | [a], _, [b], _ => rw [h1, h2] at h; exact h.1 s hl
end Go.Rad
/- Contracts: the document's meaning of trees: repetitions, nodes. -/
namespace Go.Rad
open Go Go.Proofs
set_option linter.all false
set_option maxRecDepth 20000
set_option maxHeartbeats 4000000

/-- What a node's call tells. -/
def EndsC (P : Program) (fno : Nat) (q f : Bool) (ns : List Node) (w : ByteArray) (kd : Int) (g : List Bool → List Bool) : Prop :=
  ∀ s : List Bool, s.length = w.size + 1 → ACall P fno [.sl q f (nodes ns), .int .i64 kd, .str w, .sl true false (bools s)] [] fun r s' => r = .sl true false (bools (g s)) ∧ s' = []
theorem rep7uc {q f : Bool} {ns : List Node} {w : ByteArray} (hw : w.size ≤ 1000000) (n : Node) (kid : Int) (g : List Bool → List Bool) (hn : n.l = [kid]) (hlo : 0 ≤ n.lo ∧ n.lo ≤ 4096) (hhi : n.hi = -1 ∨ n.lo ≤ n.hi ∧ n.hi ≤ 4096) (hk : EndsC Try.prog 41 q f ns w kid g) (hg : Add (w.size + 1) g) (s : List Bool) (hs : s.length = w.size + 1) :
    ACall Try.prog 61 [.sl q f (nodes ns), .agg n.cells, .str w, .sl true false (bools s)] [] fun r s' => r = .sl true false (bools (repB w n.lo n.hi g s)) ∧ s' = [] := by
  obtain ⟨xo, ⟨xa, xb, xc, xd⟩, xl, xlo, xhi, xn⟩ := n
  simp only at hn hlo hhi
  have hx0 : xl[0]? = some kid := by rw [hn]; rfl
  have e0 : (0 : Int) < xl.length := by rw [hn]; exact Int.one_pos
  clear hn
  obtain ⟨lo, rfl⟩ : ∃ lo : Nat, xlo = lo := ⟨xlo.toNat, by omega⟩
  simp only [Node.cells, Node.cellsF]
  obtain ⟨S1, hS1⟩ : ∃ S1, S1 = itB g lo s := ⟨_, rfl⟩
  have hS1l : S1.length = w.size + 1 := by rw [hS1]; exact it_len hg hs lo
  obtain ⟨M, hM⟩ : ∃ M : Nat, M = if xhi = -1 then w.size + 1 else (xhi - lo).toNat := ⟨_, rfl⟩
  have hrep : repB w lo xhi g s = uB g M S1 := by rw [repB, ← hM, Int.toNat_natCast, ← hS1]
  rw [hrep]
  clear hrep
  refine ACall.enter Try.func61 rfl (by kernel_rfl) (Nat.le_of_ble_eq_true rfl) ?_; simp only [initTm, Nat.reduceAdd]
  repeat' (first
  | refine gSq ?_ | refine gSk ?_ | refine gBl ?_ | refine gIb ?_ | refine gEx rfl ?_
  | ((first
  | (refine gRg [] [0, 1, 2, 3, 5, 8, 9, 10, 11, 12, 13, 17, 30, 43, 59] ?_; intro K hK)
  | (refine gd_split ?_ ?_ <;> intro hb <;> (try simp only [bls] at hb) <;> (try simp only [hb]))
  | refine gRt [] [.tmp 8] rfl ?_ | refine gDn [] [.tmp 8] rfl ?_) <;> (try simp only [go_sem, simprocAttr]))
  | (refine hK _ _ ?_; clear hK K; simp only [go_sem, simprocAttr])
  | refine gCd (by simp only [go_sem, simprocAttr]; rfl) rfl ?_
  | refine brT ?_ | refine brF ?_
  | (refine brS ?_ ?_ <;> intro hc <;> (try simp only [bls] at hc) <;> (try simp only [hc, bls]))
  | intro _ | refine And.intro ?_ ?_)
  all_goals first | omega | (unfold bigLen; omega) | exact ⟨_, _, ⟨rfl, rfl⟩, rfl⟩ | exact ⟨_, rfl⟩ | (rename_i hy; simp only [List.mem_singleton] at hy; subst hy; rfl) | with_reducible rfl | skip
  rename_i h5
  refine AGood.prune [0, 2, 3, 5, 8, 9] ?_; simp only [go_sem, simprocAttr]
  apply hv0
  case main =>
    intro key
    refine AGood.loopInv (α := Nat) (fun i => ([(0, .sl q f (nodes ns)), (2, .str w), (3, .sl true false (bools (itB g i s))), (5, .bx 5 h5 0), (8, .sl true true []), (9, .int .i64 i)], [(5, h5, .box [.int .u8 xo, .int .u64 xa, .int .u64 xb, .int .u64 xc, .int .u64 xd, .sl true false (ints xl), .int .i64 lo, .int .i64 xhi, .str xn])]))
      (fun i => i ≤ lo) (fun i => lo - i) 0 (Nat.zero_le _) rfl ?_
    rintro i hi ih
    simp only at hi ih ⊢
    have hil := it_len hg hs i
    by_cases hle : i < lo
    · have e4 : (i : Int) < lo := by omega
      have e6 : (i : Int) + 1 = ((i + 1 : Nat) : Int) := by omega
      have hc := hk (itB g i s) hil
      rw [← it_succ g] at hc
      have hsm := same7uc true false true false (itB g (i + 1) s) (itB g i s) (by rw [it_len hg hs, hil]) (by rw [it_len hg hs]; omega)
      by_cases hst : itB g (i + 1) s = itB g i s
      · rw [decide_eq_true hst] at hsm
        have hfin : itB g i s = S1 := by
          have := it_stop (g := g) (s := s) (i := i) (show g (itB g i s) = itB g i s by rw [← it_succ g]; exact hst) (lo - i)
          rw [show i + (lo - i) = lo by omega] at this
          rw [hS1, this]
        rw [hst] at hc hsm
        rw [hfin] at hc hsm ⊢
        repeat' (first
  | (refine AGood.at 7 ?_; (refine AGood.prune [0, 2, 3, 5, 8] ?_; simp only [go_sem, simprocAttr]; refine stopI ?_))
  | refine gSq ?_ | refine gSk ?_ | refine gBl ?_ | refine gIb ?_ | refine gEx rfl ?_
  | ((first
  | (refine gRg [] [0, 1, 2, 3, 5, 8, 9, 10, 11, 12, 13, 17, 30, 43, 59] ?_; intro K hK)
  | refine cAl (hc) rfl rfl rfl ?_
  | refine cAl (hsm) rfl rfl rfl ?_
  | (refine gd_split ?_ ?_ <;> intro hb <;> (try simp only [bls] at hb) <;> (try simp only [hb]))
  | refine gRt [] [.tmp 8] rfl ?_ | refine gDn [] [.tmp 8] rfl ?_) <;> (try simp only [go_sem, simprocAttr, e4, e6, hx0, e0, Option.some.injEq, forall_eq']))
  | (refine hK _ _ ?_; clear hK K; simp only [go_sem, simprocAttr])
  | refine gCd (by simp only [go_sem, simprocAttr]; rfl) rfl ?_
  | refine brT ?_ | refine brF ?_
  | (refine brS ?_ ?_ <;> intro hc <;> (try simp only [bls] at hc) <;> (try simp only [hc, bls]))
  | intro _ | refine And.intro ?_ ?_)
        all_goals first | omega | (unfold bigLen; omega) | exact ⟨_, _, ⟨rfl, rfl⟩, rfl⟩ | exact ⟨_, rfl⟩ | (rename_i hy; simp only [List.mem_singleton] at hy; subst hy; rfl) | with_reducible rfl | skip
        refine stopE ?_; exact key.out
      · rw [decide_eq_false hst] at hsm
        repeat' (first
  | refine gSq ?_ | refine gSk ?_ | refine gBl ?_ | refine gIb ?_ | refine gEx rfl ?_
  | ((first
  | (refine gRg [] [0, 1, 2, 3, 5, 8, 9, 10, 11, 12, 13, 17, 30, 43, 59] ?_; intro K hK)
  | refine cAl (hc) rfl rfl rfl ?_
  | refine cAl (hsm) rfl rfl rfl ?_
  | (refine gd_split ?_ ?_ <;> intro hb <;> (try simp only [bls] at hb) <;> (try simp only [hb]))
  | refine gRt [] [.tmp 8] rfl ?_ | refine gDn [] [.tmp 8] rfl ?_) <;> (try simp only [go_sem, simprocAttr, e4, e6, hx0, e0, Option.some.injEq, forall_eq']))
  | (refine hK _ _ ?_; clear hK K; simp only [go_sem, simprocAttr])
  | refine gCd (by simp only [go_sem, simprocAttr]; rfl) rfl ?_
  | refine brT ?_ | refine brF ?_
  | (refine brS ?_ ?_ <;> intro hc <;> (try simp only [bls] at hc) <;> (try simp only [hc, bls]))
  | intro _ | refine And.intro ?_ ?_)
        all_goals first | omega | (unfold bigLen; omega) | exact ⟨_, _, ⟨rfl, rfl⟩, rfl⟩ | exact ⟨_, rfl⟩ | (rename_i hy; simp only [List.mem_singleton] at hy; subst hy; rfl) | with_reducible rfl | skip
        refine AGood.filt [5] ?_
        simp only [sf_cons, sf_nil, go_sem, simprocAttr]
        refine AGood.prune [0, 2, 3, 5, 8, 9] ?_; simp only [go_sem, simprocAttr]
        exact (ih (i + 1) (by omega) (by omega)).cast rfl rfl
    · have e4 : ¬ (i : Int) < lo := by omega
      have hfin : itB g i s = S1 := by rw [hS1, show i = lo by omega]
      rw [hfin]
      repeat' (first
  | (refine AGood.at 7 ?_; (refine AGood.prune [0, 2, 3, 5, 8] ?_; simp only [go_sem, simprocAttr]; refine stopI ?_))
  | refine gSq ?_ | refine gSk ?_ | refine gBl ?_ | refine gIb ?_ | refine gEx rfl ?_
  | ((first
  | (refine gRg [] [0, 1, 2, 3, 5, 8, 9, 10, 11, 12, 13, 17, 30, 43, 59] ?_; intro K hK)
  | (refine gd_split ?_ ?_ <;> intro hb <;> (try simp only [bls] at hb) <;> (try simp only [hb]))
  | refine gRt [] [.tmp 8] rfl ?_ | refine gDn [] [.tmp 8] rfl ?_) <;> (try simp only [go_sem, simprocAttr, e4]))
  | (refine hK _ _ ?_; clear hK K; simp only [go_sem, simprocAttr])
  | refine gCd (by simp only [go_sem, simprocAttr]; rfl) rfl ?_
  | refine brT ?_ | refine brF ?_
  | (refine brS ?_ ?_ <;> intro hc <;> (try simp only [bls] at hc) <;> (try simp only [hc, bls]))
  | intro _ | refine And.intro ?_ ?_)
      refine stopE ?_; exact key.out
  case key =>
    clear hS1 hs
    repeat' (first
  | refine gSq ?_ | refine gSk ?_ | refine gBl ?_ | refine gIb ?_ | refine gEx rfl ?_
  | ((first
  | (refine gRg [] [0, 1, 2, 3, 5, 8, 9, 10, 11, 12, 13, 17, 30, 43, 59] ?_; intro K hK)
  | (refine gd_split ?_ ?_ <;> intro hb <;> (try simp only [bls] at hb) <;> (try simp only [hb]))
  | refine gRt [] [.tmp 8] rfl ?_ | refine gDn [] [.tmp 8] rfl ?_) <;> (try simp only [go_sem, simprocAttr]))
  | (refine hK _ _ ?_; clear hK K; simp only [go_sem, simprocAttr])
  | refine gCd (by simp only [go_sem, simprocAttr]; rfl) rfl ?_
  | refine brT ?_ | refine brF ?_
  | (refine brS ?_ ?_ <;> intro hc <;> (try simp only [bls] at hc) <;> (try simp only [hc, bls]))
  | intro _ | refine And.intro ?_ ?_)
    refine AGood.prune [0, 2, 3, 5, 8, 11, 12] ?_; simp only [go_sem, simprocAttr]
    refine AGood.loopInv (α := Nat) (fun k => ([(0, .sl q f (nodes ns)), (2, .str w), (3, .sl true false (bools (itB g k S1))), (5, .bx 5 h5 0), (8, .sl true true []), (11, .sl true false (bools (uB g k S1))), (12, .int .i64 (lo + k : Nat))], [(5, h5, .box [.int .u8 xo, .int .u64 xa, .int .u64 xb, .int .u64 xc, .int .u64 xd, .sl true false (ints xl), .int .i64 lo, .int .i64 xhi, .str xn])]))
      (fun k => k ≤ cntB2 (uB g k S1) ∧ (xhi = -1 ∨ k ≤ M)) (fun k => w.size + 1 - k) 0 ⟨Nat.zero_le _, .inr (Nat.zero_le _)⟩ rfl ?_
    rintro k ⟨hkc, hkM⟩ ih
    simp only at hkc hkM ih ⊢
    have hul := u_len hg hS1l k
    have hil := it_len hg hS1l k
    have hcl : cntB2 (uB g k S1) ≤ w.size + 1 := by rw [← hul]; exact cnt_le
    by_cases hgo : xhi = -1 ∨ k < M
    · have e6 : ((lo + k : Nat) : Int) + 1 = ((lo + (k + 1) : Nat) : Int) := by omega
      have hc := hk (itB g k S1) hil
      rw [← it_succ g] at hc
      have ho := or7uc true false true false (uB g k S1) (itB g (k + 1) S1) (by rw [hul, it_len hg hS1l]) (by omega)
      rw [← u_snoc hg hS1l] at ho
      have hsm := same7uc true false true false (uB g (k + 1) S1) (uB g k S1) (by rw [hul, u_len hg hS1l]) (by rw [u_len hg hS1l]; omega)
      have hgr := cnt_or hul (it_len hg hS1l (k + 1))
      rw [← u_snoc hg hS1l] at hgr
      by_cases hst : uB g (k + 1) S1 = uB g k S1
      · rw [decide_eq_true hst] at hsm
        have hfin : uB g M S1 = uB g k S1 := by
          rcases hgo with h1 | h1
          · rw [hM, if_pos h1]; exact u_end hg hS1l hst
          · have := u_stop hg hS1l hst (M - k)
            rw [show k + (M - k) = M by omega] at this
            exact this
        rw [hfin]
        rw [hst] at ho hsm
        by_cases h1 : xhi = -1
        · have e7 : ¬ ((lo + k : Nat) : Int) < xhi := by omega
          repeat' (first
  | refine gSq ?_ | refine gSk ?_ | refine gBl ?_ | refine gIb ?_ | refine gEx rfl ?_
  | ((first
  | (refine gRg [] [0, 1, 2, 3, 5, 8, 9, 10, 11, 12, 13, 17, 30, 43, 59] ?_; intro K hK)
  | refine cAl (hc) rfl rfl rfl ?_
  | refine cAl (ho) rfl rfl rfl ?_
  | refine cAl (hsm) rfl rfl rfl ?_
  | (refine gd_split ?_ ?_ <;> intro hb <;> (try simp only [bls] at hb) <;> (try simp only [hb]))
  | refine gRt [] [.tmp 8] rfl ?_ | refine gDn [] [.tmp 8] rfl ?_) <;> (try simp only [go_sem, simprocAttr, e6, e7, eq_true h1, hx0, e0, Option.some.injEq, forall_eq']))
  | (refine hK _ _ ?_; clear hK K; simp only [go_sem, simprocAttr])
  | refine gCd (by simp only [go_sem, simprocAttr]; rfl) rfl ?_
  | refine brT ?_ | refine brF ?_
  | (refine brS ?_ ?_ <;> intro hc <;> (try simp only [bls] at hc) <;> (try simp only [hc, bls]))
  | intro _ | refine And.intro ?_ ?_)
          all_goals first | omega | (unfold bigLen; omega) | exact ⟨_, _, ⟨rfl, rfl⟩, rfl⟩ | exact ⟨_, rfl⟩ | (rename_i hy; simp only [List.mem_singleton] at hy; subst hy; rfl) | with_reducible rfl | skip
        · have e7 : ((lo + k : Nat) : Int) < xhi := by rw [if_neg h1] at hM; omega
          repeat' (first
  | refine gSq ?_ | refine gSk ?_ | refine gBl ?_ | refine gIb ?_ | refine gEx rfl ?_
  | ((first
  | (refine gRg [] [0, 1, 2, 3, 5, 8, 9, 10, 11, 12, 13, 17, 30, 43, 59] ?_; intro K hK)
  | refine cAl (hc) rfl rfl rfl ?_
  | refine cAl (ho) rfl rfl rfl ?_
  | refine cAl (hsm) rfl rfl rfl ?_
  | (refine gd_split ?_ ?_ <;> intro hb <;> (try simp only [bls] at hb) <;> (try simp only [hb]))
  | refine gRt [] [.tmp 8] rfl ?_ | refine gDn [] [.tmp 8] rfl ?_) <;> (try simp only [go_sem, simprocAttr, e6, e7, h1, hx0, e0, Option.some.injEq, forall_eq']))
  | (refine hK _ _ ?_; clear hK K; simp only [go_sem, simprocAttr])
  | refine gCd (by simp only [go_sem, simprocAttr]; rfl) rfl ?_
  | refine brT ?_ | refine brF ?_
  | (refine brS ?_ ?_ <;> intro hc <;> (try simp only [bls] at hc) <;> (try simp only [hc, bls]))
  | intro _ | refine And.intro ?_ ?_)
          all_goals first | omega | (unfold bigLen; omega) | exact ⟨_, _, ⟨rfl, rfl⟩, rfl⟩ | exact ⟨_, rfl⟩ | (rename_i hy; simp only [List.mem_singleton] at hy; subst hy; rfl) | with_reducible rfl | skip
      · rw [decide_eq_false hst] at hsm
        have hlt : cntB2 (uB g k S1) ≠ cntB2 (uB g (k + 1) S1) := fun e => hst (hgr.2 e)
        have hcl2 : cntB2 (uB g (k + 1) S1) ≤ w.size + 1 := by rw [← u_len hg hS1l (k + 1)]; exact cnt_le
        by_cases h1 : xhi = -1
        · have e7 : ¬ ((lo + k : Nat) : Int) < xhi := by omega
          repeat' (first
  | refine gSq ?_ | refine gSk ?_ | refine gBl ?_ | refine gIb ?_ | refine gEx rfl ?_
  | ((first
  | (refine gRg [] [0, 1, 2, 3, 5, 8, 9, 10, 11, 12, 13, 17, 30, 43, 59] ?_; intro K hK)
  | refine cAl (hc) rfl rfl rfl ?_
  | refine cAl (ho) rfl rfl rfl ?_
  | refine cAl (hsm) rfl rfl rfl ?_
  | (refine gd_split ?_ ?_ <;> intro hb <;> (try simp only [bls] at hb) <;> (try simp only [hb]))
  | refine gRt [] [.tmp 8] rfl ?_ | refine gDn [] [.tmp 8] rfl ?_) <;> (try simp only [go_sem, simprocAttr, e6, e7, eq_true h1, hx0, e0, Option.some.injEq, forall_eq']))
  | (refine hK _ _ ?_; clear hK K; simp only [go_sem, simprocAttr])
  | refine gCd (by simp only [go_sem, simprocAttr]; rfl) rfl ?_
  | refine brT ?_ | refine brF ?_
  | (refine brS ?_ ?_ <;> intro hc <;> (try simp only [bls] at hc) <;> (try simp only [hc, bls]))
  | intro _ | refine And.intro ?_ ?_)
          all_goals first | omega | (unfold bigLen; omega) | exact ⟨_, _, ⟨rfl, rfl⟩, rfl⟩ | exact ⟨_, rfl⟩ | (rename_i hy; simp only [List.mem_singleton] at hy; subst hy; rfl) | with_reducible rfl | skip
          refine AGood.filt [5] ?_
          simp only [sf_cons, sf_nil, go_sem, simprocAttr]
          refine AGood.prune [0, 2, 3, 5, 8, 11, 12] ?_; simp only [go_sem, simprocAttr]
          exact (ih (k + 1) ⟨by omega, .inl h1⟩ (by omega)).cast rfl rfl
        · have e7 : ((lo + k : Nat) : Int) < xhi := by rw [if_neg h1] at hM; omega
          repeat' (first
  | refine gSq ?_ | refine gSk ?_ | refine gBl ?_ | refine gIb ?_ | refine gEx rfl ?_
  | ((first
  | (refine gRg [] [0, 1, 2, 3, 5, 8, 9, 10, 11, 12, 13, 17, 30, 43, 59] ?_; intro K hK)
  | refine cAl (hc) rfl rfl rfl ?_
  | refine cAl (ho) rfl rfl rfl ?_
  | refine cAl (hsm) rfl rfl rfl ?_
  | (refine gd_split ?_ ?_ <;> intro hb <;> (try simp only [bls] at hb) <;> (try simp only [hb]))
  | refine gRt [] [.tmp 8] rfl ?_ | refine gDn [] [.tmp 8] rfl ?_) <;> (try simp only [go_sem, simprocAttr, e6, e7, h1, hx0, e0, Option.some.injEq, forall_eq']))
  | (refine hK _ _ ?_; clear hK K; simp only [go_sem, simprocAttr])
  | refine gCd (by simp only [go_sem, simprocAttr]; rfl) rfl ?_
  | refine brT ?_ | refine brF ?_
  | (refine brS ?_ ?_ <;> intro hc <;> (try simp only [bls] at hc) <;> (try simp only [hc, bls]))
  | intro _ | refine And.intro ?_ ?_)
          all_goals first | omega | (unfold bigLen; omega) | exact ⟨_, _, ⟨rfl, rfl⟩, rfl⟩ | exact ⟨_, rfl⟩ | (rename_i hy; simp only [List.mem_singleton] at hy; subst hy; rfl) | with_reducible rfl | skip
          refine AGood.filt [5] ?_
          simp only [sf_cons, sf_nil, go_sem, simprocAttr]
          refine AGood.prune [0, 2, 3, 5, 8, 11, 12] ?_; simp only [go_sem, simprocAttr]
          exact (ih (k + 1) ⟨by omega, .inr (by omega)⟩ (by omega)).cast rfl rfl
    · have h1 : ¬ xhi = -1 := fun h => hgo (.inl h)
      have e7 : ¬ ((lo + k : Nat) : Int) < xhi := by rw [if_neg h1] at hM; omega
      have hkm : k = M := by omega
      subst hkm
      clear ih
      repeat' (first
  | refine gSq ?_ | refine gSk ?_ | refine gBl ?_ | refine gIb ?_ | refine gEx rfl ?_
  | ((first
  | (refine gRg [] [0, 1, 2, 3, 5, 8, 9, 10, 11, 12, 13, 17, 30, 43, 59] ?_; intro K hK)
  | (refine gd_split ?_ ?_ <;> intro hb <;> (try simp only [bls] at hb) <;> (try simp only [hb]))
  | refine gRt [] [.tmp 8] rfl ?_ | refine gDn [] [.tmp 8] rfl ?_) <;> (try simp only [go_sem, simprocAttr, e7, h1]))
  | (refine hK _ _ ?_; clear hK K; simp only [go_sem, simprocAttr])
  | refine gCd (by simp only [go_sem, simprocAttr]; rfl) rfl ?_
  | refine brT ?_ | refine brF ?_
  | (refine brS ?_ ?_ <;> intro hc <;> (try simp only [bls] at hc) <;> (try simp only [hc, bls]))
  | intro _ | refine And.intro ?_ ?_)
      all_goals first | omega | (unfold bigLen; omega) | exact ⟨_, _, ⟨rfl, rfl⟩, rfl⟩ | exact ⟨_, rfl⟩ | (rename_i hy; simp only [List.mem_singleton] at hy; subst hy; rfl) | with_reducible rfl | skip
theorem ends7uc {q f : Bool} {ns : List Node} {w : ByteArray} (hw : w.size ≤ 1000000) (hll : ns.length ≤ 1000000) : ∀ (fo : Fo) (ks : List Int), fo.Sub ns ks → fo.shapeF = true → fo.size ≤ 1000000 → ∀ (j : Nat) (kd : Int) (g : List Bool → List Bool), ks[j]? = some kd → (sem w fo)[j]? = some g → EndsC Try.prog 41 q f ns w kd g
  | .nil, ks, hs, _, _, j, kd, g, hj, hg => by simp [sem] at hg
  | .node b k r, ks, hsub, hsh, hsz, j, kd, g, hj, hg => by
    obtain ⟨i, n, ks', rfl, h1, h2, h3, h4⟩ := hsub
    simp only [Fo.shapeF, Fo.all, Bool.and_eq_true] at hsh
    simp only [Fo.size] at hsz
    cases j with
    | succ j => exact ends7uc hw hll r ks' h4 hsh.2 (by omega) j kd g (by simpa using hj) (by simpa [sem] using hg)
    | zero =>
      simp only [List.getElem?_cons_zero, Option.some.injEq, sem] at hj hg
      subst hj hg
      have ih := ends7uc (q := q) (f := f) hw hll k n.l h3 hsh.1.2 (by omega)
      have hlen := h3.len
      have hsl := sem_len w k
      have hadd := sem_add w k
      have hkd : k.deg ≤ 1000000 := Nat.le_trans (Fo.deg_le k) (by omega)
      generalize sem w k = fs at ih hsl hadd
      have hshape := hsh.1.1
      have hlk : n.l.length = fs.length := by omega
      rw [← hlen] at hshape
      clear h3 h4 hsh
      intro s hs
      have hi := (List.getElem?_eq_some_iff.1 h1).1
      have e1 : (i : Int) < ns.length := by omega
      have e2 : (0 : Int) ≤ i := by omega
      obtain ⟨xo, ⟨xa, xb, xc, xd⟩, xl, xlo, xhi, xn⟩ := n
      subst h2
      simp only at hshape ih hlk hlen
      simp only [semNode]
      by_cases h2 : xo = 2
      · rw [if_pos h2]
        have hc := one7uc ⟨xa, xb, xc, xd⟩ true false w s hw hs
        simp only [ISet.cells] at hc
        refine ACall.enter Try.func41 rfl (by kernel_rfl) (Nat.le_of_ble_eq_true rfl) ?_; simp only [initTm, Nat.reduceAdd]
        repeat' (first
  | refine gSq ?_ | refine gSk ?_ | refine gBl ?_ | refine gIb ?_ | refine gEx rfl ?_
  | ((first
  | (refine gRg [] [0, 1, 2, 3, 8, 9, 10, 11, 12, 18, 19, 26, 32, 44, 52, 67] ?_; intro K hK)
  | refine cAl (hc) rfl rfl rfl ?_
  | (refine gd_split ?_ ?_ <;> intro hb <;> (try simp only [bls] at hb) <;> (try simp only [hb]))
  | refine gRt [] [.tmp 8] rfl ?_ | refine gDn [] [.tmp 8] rfl ?_) <;> (try simp only [go_sem, simprocAttr, e1, e2, h1, eq_true h2, Option.some.injEq, forall_eq']))
  | (refine hK _ _ ?_; clear hK K; simp only [go_sem, simprocAttr])
  | refine gCd (by simp only [go_sem, simprocAttr]; rfl) rfl ?_
  | refine brT ?_ | refine brF ?_
  | (refine brS ?_ ?_ <;> intro hc <;> (try simp only [bls] at hc) <;> (try simp only [hc, bls]))
  | intro _ | refine And.intro ?_ ?_)
        all_goals first | omega | (unfold bigLen; omega) | exact ⟨_, _, ⟨rfl, rfl⟩, rfl⟩ | exact ⟨_, rfl⟩ | (rename_i hy; simp only [List.mem_singleton] at hy; subst hy; rfl) | with_reducible rfl | skip
      · rw [if_neg h2]
        by_cases h3 : xo = 3
        · rw [if_pos h3]
          obtain ⟨S, hS⟩ : ∃ S, S = fs.foldl (fun s f => f s) s := ⟨_, rfl⟩
          rw [← hS]
          refine ACall.enter Try.func41 rfl (by kernel_rfl) (Nat.le_of_ble_eq_true rfl) ?_; simp only [initTm, Nat.reduceAdd]
          repeat' (first
  | refine gSq ?_ | refine gSk ?_ | refine gBl ?_ | refine gIb ?_ | refine gEx rfl ?_
  | ((first
  | (refine gRg [] [0, 1, 2, 3, 8, 9, 10, 11, 12, 18, 19, 26, 32, 44, 52, 67] ?_; intro K hK)
  | (refine gd_split ?_ ?_ <;> intro hb <;> (try simp only [bls] at hb) <;> (try simp only [hb]))
  | refine gRt [] [.tmp 8] rfl ?_ | refine gDn [] [.tmp 8] rfl ?_) <;> (try simp only [go_sem, simprocAttr, e1, e2, h1, h2, eq_true h3, Option.some.injEq, forall_eq']))
  | (refine hK _ _ ?_; clear hK K; simp only [go_sem, simprocAttr])
  | refine gCd (by simp only [go_sem, simprocAttr]; rfl) rfl ?_
  | refine brT ?_ | refine brF ?_
  | (refine brS ?_ ?_ <;> intro hc <;> (try simp only [bls] at hc) <;> (try simp only [hc, bls]))
  | intro _ | refine And.intro ?_ ?_)
          all_goals first | omega | (unfold bigLen; omega) | exact ⟨_, _, ⟨rfl, rfl⟩, rfl⟩ | exact ⟨_, rfl⟩ | (rename_i hy; simp only [List.mem_singleton] at hy; subst hy; rfl) | with_reducible rfl | skip
          rename_i h9
          refine AGood.prune [0, 2, 3, 8, 9, 10] ?_; simp only [go_sem, simprocAttr]
          refine AGood.loopInv (α := Nat × List Bool) (fun z => ([(0, .sl q f (nodes ns)), (2, .str w), (3, .sl true false (bools z.2)), (8, .sl true true []), (9, .bx 9 h9 0), (10, .int .i64 z.1)], [(9, h9, .box [.int .u8 xo, .int .u64 xa, .int .u64 xb, .int .u64 xc, .int .u64 xd, .sl true false (ints xl), .int .i64 xlo, .int .i64 xhi, .str xn])]))
            (fun z => z.1 ≤ xl.length ∧ z.2.length = w.size + 1 ∧ S = (fs.drop z.1).foldl (fun s f => f s) z.2) (fun z => xl.length - z.1) (0, s) ⟨Nat.zero_le _, hs, hS⟩ rfl ?_
          rintro ⟨j, t⟩ ⟨hj, ht, hrun⟩ ih2
          simp only at hj ht hrun ih2 ⊢
          by_cases hle : j < xl.length
          · have f4 : (j : Int) < xl.length := by omega
            have f5 : (0 : Int) ≤ j := by omega
            have f6 : (j : Int) + 1 = ((j + 1 : Nat) : Int) := by omega
            have hx : xl[j]? = some xl[j] := List.getElem?_eq_getElem hle
            have hfx : fs[j]? = some (fs[j]'(by omega)) := List.getElem?_eq_getElem (by omega)
            have hc := ih j _ _ hx hfx t ht
            rw [List.drop_eq_getElem_cons (by omega : j < fs.length), List.foldl_cons] at hrun
            have ha := (hadd (fs[j]'(by omega)) (List.getElem_mem _)).len t ht
            generalize (fs[j]'(by omega)) t = u at hc hrun ha
            generalize xl[j] = kd at hx hc
            repeat' (first
  | refine gSq ?_ | refine gSk ?_ | refine gBl ?_ | refine gIb ?_ | refine gEx rfl ?_
  | ((first
  | (refine gRg [] [0, 1, 2, 3, 8, 9, 10, 11, 12, 18, 19, 26, 32, 44, 52, 67] ?_; intro K hK)
  | refine cAl (hc) rfl rfl rfl ?_
  | (refine gd_split ?_ ?_ <;> intro hb <;> (try simp only [bls] at hb) <;> (try simp only [hb]))
  | refine gRt [] [.tmp 8] rfl ?_ | refine gDn [] [.tmp 8] rfl ?_) <;> (try simp only [go_sem, simprocAttr, f4, f5, f6, hx, Option.some.injEq, forall_eq']))
  | (refine hK _ _ ?_; clear hK K; simp only [go_sem, simprocAttr])
  | refine gCd (by simp only [go_sem, simprocAttr]; rfl) rfl ?_
  | refine brT ?_ | refine brF ?_
  | (refine brS ?_ ?_ <;> intro hc <;> (try simp only [bls] at hc) <;> (try simp only [hc, bls]))
  | intro _ | refine And.intro ?_ ?_)
            all_goals first | omega | (unfold bigLen; omega) | exact ⟨_, _, ⟨rfl, rfl⟩, rfl⟩ | exact ⟨_, rfl⟩ | (rename_i hy; simp only [List.mem_singleton] at hy; subst hy; rfl) | with_reducible rfl | skip
            refine AGood.filt [9] ?_
            simp only [sf_cons, sf_nil, go_sem, simprocAttr]
            refine AGood.prune [0, 2, 3, 8, 9, 10] ?_; simp only [go_sem, simprocAttr]
            exact (ih2 (j + 1, u) ⟨by simp only; omega, ha, hrun⟩ (by simp only; omega)).cast rfl rfl
          · have f4 : ¬ (j : Int) < xl.length := by omega
            rw [List.drop_eq_nil_of_le (by omega)] at hrun
            simp only [List.foldl_nil] at hrun
            subst hrun
            clear ih2
            repeat' (first
  | refine gSq ?_ | refine gSk ?_ | refine gBl ?_ | refine gIb ?_ | refine gEx rfl ?_
  | ((first
  | (refine gRg [] [0, 1, 2, 3, 8, 9, 10, 11, 12, 18, 19, 26, 32, 44, 52, 67] ?_; intro K hK)
  | (refine gd_split ?_ ?_ <;> intro hb <;> (try simp only [bls] at hb) <;> (try simp only [hb]))
  | refine gRt [] [.tmp 8] rfl ?_ | refine gDn [] [.tmp 8] rfl ?_) <;> (try simp only [go_sem, simprocAttr, f4]))
  | (refine hK _ _ ?_; clear hK K; simp only [go_sem, simprocAttr])
  | refine gCd (by simp only [go_sem, simprocAttr]; rfl) rfl ?_
  | refine brT ?_ | refine brF ?_
  | (refine brS ?_ ?_ <;> intro hc <;> (try simp only [bls] at hc) <;> (try simp only [hc, bls]))
  | intro _ | refine And.intro ?_ ?_)
            all_goals first | omega | (unfold bigLen; omega) | exact ⟨_, _, ⟨rfl, rfl⟩, rfl⟩ | exact ⟨_, rfl⟩ | (rename_i hy; simp only [List.mem_singleton] at hy; subst hy; rfl) | with_reducible rfl | skip
        · rw [if_neg h3]
          by_cases h4 : xo = 4
          · rw [if_pos h4]
            obtain ⟨S, hS⟩ : ∃ S, S = fs.foldl (fun o f => orB o (f s)) (falses (w.size + 1)) := ⟨_, rfl⟩
            rw [← hS]
            have hpl := places_c w hw
            have e15 : (bools (falses (w.size + 1))).take (w.size + 1) = bools (falses (w.size + 1)) := List.take_of_length_le (by simp [falses_len])
            have e16 : (falses (w.size + 1)).length = w.size + 1 := falses_len _
            refine ACall.enter Try.func41 rfl (by kernel_rfl) (Nat.le_of_ble_eq_true rfl) ?_; simp only [initTm, Nat.reduceAdd]
            repeat' (first
  | refine gSq ?_ | refine gSk ?_ | refine gBl ?_ | refine gIb ?_ | refine gEx rfl ?_
  | ((first
  | (refine AGood.at 12 ?_; (refine AGood.freeze 11 rfl ?_; simp only [rfT, rfS, rfO, rf, rf1, e15, e16, Nat.le_refl, true_and, go_sem, simprocAttr]); (refine gRg [] [0, 1, 2, 3, 8, 9, 10, 11, 12, 18, 19, 26, 32, 44, 52, 67] ?_; intro K hK))
  | (refine gRg [] [0, 1, 2, 3, 8, 9, 10, 11, 12, 18, 19, 26, 32, 44, 52, 67] ?_; intro K hK)
  | (refine ACall.use [(6, 11)] [] rfl hpl rfl rfl rfl ?_; rintro _ _ ⟨h6, rfl, rfl⟩; refine ⟨.inl rfl, rfl, ?_⟩; simp only [bk, bk1, bkS, bkO, idOf, delAll, go_sem, simprocAttr])
  | (refine gd_split ?_ ?_ <;> intro hb <;> (try simp only [bls] at hb) <;> (try simp only [hb]))
  | refine gRt [] [.tmp 8] rfl ?_ | refine gDn [] [.tmp 8] rfl ?_) <;> (try simp only [go_sem, simprocAttr, e1, e2, h1, h2, h3, eq_true h4, Option.some.injEq, forall_eq']))
  | (refine hK _ _ ?_; clear hK K; simp only [go_sem, simprocAttr])
  | refine gCd (by simp only [go_sem, simprocAttr]; rfl) rfl ?_
  | refine brT ?_ | refine brF ?_
  | (refine brS ?_ ?_ <;> intro hc <;> (try simp only [bls] at hc) <;> (try simp only [hc, bls]))
  | intro _ | refine And.intro ?_ ?_)
            all_goals first | omega | (unfold bigLen; omega) | exact ⟨_, _, ⟨rfl, rfl⟩, rfl⟩ | exact ⟨_, rfl⟩ | (rename_i hy; simp only [List.mem_singleton] at hy; subst hy; rfl) | with_reducible rfl | skip
            rename_i h9
            refine AGood.prune [0, 2, 3, 8, 9, 11, 12] ?_; simp only [go_sem, simprocAttr]
            refine AGood.loopInv (α := Nat × List Bool) (fun z => ([(0, .sl q f (nodes ns)), (2, .str w), (3, .sl true false (bools s)), (8, .sl true true []), (9, .bx 9 h9 0), (11, .sl true false (bools z.2)), (12, .int .i64 z.1)], [(9, h9, .box [.int .u8 xo, .int .u64 xa, .int .u64 xb, .int .u64 xc, .int .u64 xd, .sl true false (ints xl), .int .i64 xlo, .int .i64 xhi, .str xn])]))
              (fun z => z.1 ≤ xl.length ∧ z.2.length = w.size + 1 ∧ S = (fs.drop z.1).foldl (fun o f => orB o (f s)) z.2) (fun z => xl.length - z.1) (0, falses (w.size + 1)) ⟨Nat.zero_le _, falses_len _, hS⟩ rfl ?_
            rintro ⟨j, t⟩ ⟨hj, ht, hrun⟩ ih2
            simp only at hj ht hrun ih2 ⊢
            by_cases hle : j < xl.length
            · have f4 : (j : Int) < xl.length := by omega
              have f5 : (0 : Int) ≤ j := by omega
              have f6 : (j : Int) + 1 = ((j + 1 : Nat) : Int) := by omega
              have hx : xl[j]? = some xl[j] := List.getElem?_eq_getElem hle
              have hfx : fs[j]? = some (fs[j]'(by omega)) := List.getElem?_eq_getElem (by omega)
              have hc := ih j _ _ hx hfx s hs
              rw [List.drop_eq_getElem_cons (by omega : j < fs.length), List.foldl_cons] at hrun
              have ha := (hadd (fs[j]'(by omega)) (List.getElem_mem _)).len s hs
              generalize (fs[j]'(by omega)) s = u at hc hrun ha
              generalize xl[j] = kd at hx hc
              have ho := or7uc true false true false t u (by omega) (by omega)
              have hol := orB_len ht ha
              repeat' (first
  | refine gSq ?_ | refine gSk ?_ | refine gBl ?_ | refine gIb ?_ | refine gEx rfl ?_
  | ((first
  | (refine gRg [] [0, 1, 2, 3, 8, 9, 10, 11, 12, 18, 19, 26, 32, 44, 52, 67] ?_; intro K hK)
  | refine cAl (hc) rfl rfl rfl ?_
  | refine cAl (ho) rfl rfl rfl ?_
  | (refine gd_split ?_ ?_ <;> intro hb <;> (try simp only [bls] at hb) <;> (try simp only [hb]))
  | refine gRt [] [.tmp 8] rfl ?_ | refine gDn [] [.tmp 8] rfl ?_) <;> (try simp only [go_sem, simprocAttr, f4, f5, f6, hx, Option.some.injEq, forall_eq']))
  | (refine hK _ _ ?_; clear hK K; simp only [go_sem, simprocAttr])
  | refine gCd (by simp only [go_sem, simprocAttr]; rfl) rfl ?_
  | refine brT ?_ | refine brF ?_
  | (refine brS ?_ ?_ <;> intro hc <;> (try simp only [bls] at hc) <;> (try simp only [hc, bls]))
  | intro _ | refine And.intro ?_ ?_)
              all_goals first | omega | (unfold bigLen; omega) | exact ⟨_, _, ⟨rfl, rfl⟩, rfl⟩ | exact ⟨_, rfl⟩ | (rename_i hy; simp only [List.mem_singleton] at hy; subst hy; rfl) | with_reducible rfl | skip
              refine AGood.filt [9] ?_
              simp only [sf_cons, sf_nil, go_sem, simprocAttr]
              refine AGood.prune [0, 2, 3, 8, 9, 11, 12] ?_; simp only [go_sem, simprocAttr]
              exact (ih2 (j + 1, orB t u) ⟨by simp only; omega, hol, hrun⟩ (by simp only; omega)).cast rfl rfl
            · have f4 : ¬ (j : Int) < xl.length := by omega
              rw [List.drop_eq_nil_of_le (by omega)] at hrun
              simp only [List.foldl_nil] at hrun
              subst hrun
              clear ih2
              repeat' (first
  | refine gSq ?_ | refine gSk ?_ | refine gBl ?_ | refine gIb ?_ | refine gEx rfl ?_
  | ((first
  | (refine gRg [] [0, 1, 2, 3, 8, 9, 10, 11, 12, 18, 19, 26, 32, 44, 52, 67] ?_; intro K hK)
  | (refine gd_split ?_ ?_ <;> intro hb <;> (try simp only [bls] at hb) <;> (try simp only [hb]))
  | refine gRt [] [.tmp 8] rfl ?_ | refine gDn [] [.tmp 8] rfl ?_) <;> (try simp only [go_sem, simprocAttr, f4]))
  | (refine hK _ _ ?_; clear hK K; simp only [go_sem, simprocAttr])
  | refine gCd (by simp only [go_sem, simprocAttr]; rfl) rfl ?_
  | refine brT ?_ | refine brF ?_
  | (refine brS ?_ ?_ <;> intro hc <;> (try simp only [bls] at hc) <;> (try simp only [hc, bls]))
  | intro _ | refine And.intro ?_ ?_)
              all_goals first | omega | (unfold bigLen; omega) | exact ⟨_, _, ⟨rfl, rfl⟩, rfl⟩ | exact ⟨_, rfl⟩ | (rename_i hy; simp only [List.mem_singleton] at hy; subst hy; rfl) | with_reducible rfl | skip
          · rw [if_neg h4]
            by_cases h5 : xo = 5
            · rw [if_pos h5]
              obtain ⟨q1, _, _, q4, q5, q6⟩ := shapeL_rep hshape h5
              simp only at q1 q4 q5 q6
              obtain ⟨kd, hkd⟩ : ∃ kd, xl = [kd] := List.length_eq_one_iff.1 q1
              obtain ⟨g, hg⟩ : ∃ g, fs = [g] := List.length_eq_one_iff.1 (by omega)
              have hc := rep7uc (q := q) (f := f) (ns := ns) hw ⟨xo, ⟨xa, xb, xc, xd⟩, xl, xlo, xhi, xn⟩ kd g hkd ⟨q4, q5⟩ (by simp only; omega) (ih 0 kd g (by rw [hkd]; rfl) (by rw [hg]; rfl)) (hadd g (by rw [hg]; simp)) s hs
              rw [hg, List.headD_cons]
              simp only [Node.cells, Node.cellsF] at hc
              clear hkd hg
              refine ACall.enter Try.func41 rfl (by kernel_rfl) (Nat.le_of_ble_eq_true rfl) ?_; simp only [initTm, Nat.reduceAdd]
              repeat' (first
  | refine gSq ?_ | refine gSk ?_ | refine gBl ?_ | refine gIb ?_ | refine gEx rfl ?_
  | ((first
  | (refine gRg [] [0, 1, 2, 3, 8, 9, 10, 11, 12, 18, 19, 26, 32, 44, 52, 67] ?_; intro K hK)
  | refine cAl (hc) rfl rfl rfl ?_
  | (refine gd_split ?_ ?_ <;> intro hb <;> (try simp only [bls] at hb) <;> (try simp only [hb]))
  | refine gRt [] [.tmp 8] rfl ?_ | refine gDn [] [.tmp 8] rfl ?_) <;> (try simp only [go_sem, simprocAttr, e1, e2, h1, h2, h3, h4, eq_true h5, Option.some.injEq, forall_eq']))
  | (refine hK _ _ ?_; clear hK K; simp only [go_sem, simprocAttr])
  | refine gCd (by simp only [go_sem, simprocAttr]; rfl) rfl ?_
  | refine brT ?_ | refine brF ?_
  | (refine brS ?_ ?_ <;> intro hc <;> (try simp only [bls] at hc) <;> (try simp only [hc, bls]))
  | intro _ | refine And.intro ?_ ?_)
              all_goals first | omega | (unfold bigLen; omega) | exact ⟨_, _, ⟨rfl, rfl⟩, rfl⟩ | exact ⟨_, rfl⟩ | (rename_i hy; simp only [List.mem_singleton] at hy; subst hy; rfl) | with_reducible rfl | skip
            · rw [if_neg h5]
              refine ACall.enter Try.func41 rfl (by kernel_rfl) (Nat.le_of_ble_eq_true rfl) ?_; simp only [initTm, Nat.reduceAdd]
              repeat' (first
  | refine gSq ?_ | refine gSk ?_ | refine gBl ?_ | refine gIb ?_ | refine gEx rfl ?_
  | ((first
  | (refine gRg [] [0, 1, 2, 3, 8, 9, 10, 11, 12, 18, 19, 26, 32, 44, 52, 67] ?_; intro K hK)
  | (refine gd_split ?_ ?_ <;> intro hb <;> (try simp only [bls] at hb) <;> (try simp only [hb]))
  | refine gRt [] [.tmp 8] rfl ?_ | refine gDn [] [.tmp 8] rfl ?_) <;> (try simp only [go_sem, simprocAttr, e1, e2, h1, h2, h3, h4, h5, Option.some.injEq, forall_eq']))
  | (refine hK _ _ ?_; clear hK K; simp only [go_sem, simprocAttr])
  | refine gCd (by simp only [go_sem, simprocAttr]; rfl) rfl ?_
  | refine brT ?_ | refine brF ?_
  | (refine brS ?_ ?_ <;> intro hc <;> (try simp only [bls] at hc) <;> (try simp only [hc, bls]))
  | intro _ | refine And.intro ?_ ?_)
              all_goals first | omega | (unfold bigLen; omega) | exact ⟨_, _, ⟨rfl, rfl⟩, rfl⟩ | exact ⟨_, rfl⟩ | (rename_i hy; simp only [List.mem_singleton] at hy; subst hy; rfl) | with_reducible rfl | skip
end Go.Rad
/- Contracts: the document's meaning of trees: Ends. -/
namespace Go.Rad
open Go Go.Proofs
set_option linter.all false
set_option maxRecDepth 20000
set_option maxHeartbeats 4000000

/-- Which places there are. -/
def posN (s : List Bool) : List Nat := (List.range s.length).filter fun i => s.getD i false
abbrev posS (s : List Bool) : List Int := (posN s).map fun (i : Nat) => (i : Int)
theorem posS_len (s : List Bool) : (posS s).length ≤ s.length := by
  rw [posS, List.length_map]
  refine Nat.le_trans (List.length_filter_le _ _) ?_
  simp
def pointB (n i : Nat) : List Bool := (falses n).set i true
theorem pointB_len (n i : Nat) : (pointB n i).length = n := by simp [pointB, falses]
theorem semT_len {w : ByteArray} {fo : Fo} (hd : fo.deg = 1) {s : List Bool} (hs : s.length = w.size + 1) : (semT w fo s).length = w.size + 1 := by
  have hl := sem_len w fo
  rw [hd] at hl
  unfold semT
  match h : sem w fo, hl with
  | [g], _ => exact (sem_add w fo g (by rw [h]; simp)).len s hs
theorem ends7Top_c {w : ByteArray} (hw : w.size ≤ 1000000) (f : Bool) (fo : Fo) (hd : fo.deg = 1) (hsh : fo.shapeF = true) (hz : fo.size ≤ 1024) (h6 : no6 fo = true) (fr : Nat) (hfr : fr ≤ w.size) :
    ACall Try.prog 24 [.sl true f (nodes (fo.lay 0)), .str w, .int .i64 fr] [] fun r s => r = .sl true false (ints (posS (semT w fo (pointB (w.size + 1) fr)))) ∧ s = [] := by
  have hp : plainS (fo.lay 0) = true := (plain_fo _).2 ⟨fo, hd, rfl, hsh, hz, h6⟩
  obtain ⟨n1, n2⟩ := plainS_nd hp
  have hpl := plain_c f (fo.lay 0) (by unfold maxLen; omega) (fun n hn => (n1 n hn).symm)
  rw [hp] at hpl
  have hsub := Fo.sub_lay hd
  have hsl := sem_len w fo
  rw [hd] at hsl
  obtain ⟨g, hg⟩ : ∃ g, sem w fo = [g] := List.length_eq_one_iff.1 hsl
  have hcall := ends7uc (q := true) (f := f) hw (by omega) fo _ hsub hsh (by omega) 0 _ g rfl (by rw [hg]; rfl) (pointB (w.size + 1) fr) (pointB_len _ _)
  have hel := semT_len hd (pointB_len (w.size + 1) fr)
  have hsg : semT w fo (pointB (w.size + 1) fr) = g (pointB (w.size + 1) fr) := by rw [semT, hg]; rfl
  rw [← hsg] at hcall
  generalize semT w fo (pointB (w.size + 1) fr) = E at hcall hel
  have hln : (fo.lay 0).length = fo.size := Fo.lay_len _ _
  have hsp := Fo.size_pos hd
  rw [← hln] at hcall
  generalize fo.lay 0 = l at hpl hcall hln
  clear hsub hg hsg hp n1 n2 hsl hsh h6
  have hpc := places_c w hw
  have e1 : ¬ (fr : Int) < 0 := by omega
  have e2 : ¬ (w.size : Int) < fr := by omega
  have e3 : (0 : Int) ≤ fr := by omega
  have e4 : (fr : Int) < ((w.size + 1 : Nat) : Int) := by omega
  have e5 : fr < (falses (w.size + 1)).length := by rw [falses_len]; omega
  have e6 : (falses (w.size + 1))[fr]? = some false := by
    rw [List.getElem?_eq_getElem e5]; simp [falses]
  have e7 : (bools (falses (w.size + 1))).set fr [.bool true] = bools (pointB (w.size + 1) fr) := by simp [pointB, List.map_set]
  have e15 : (bools (pointB (w.size + 1) fr)).take (w.size + 1) = bools (pointB (w.size + 1) fr) := List.take_of_length_le (by simp [pointB_len])
  have e16 := pointB_len (w.size + 1) fr
  refine ACall.enter Try.func24 rfl (by kernel_rfl) (Nat.le_of_ble_eq_true rfl) ?_; simp only [initTm, Nat.reduceAdd]
  repeat' (first
  | (refine AGood.at 5 ?_; (refine stopI ?_))
  | refine gSq ?_ | refine gSk ?_ | refine gBl ?_ | refine gIb ?_ | refine gEx rfl ?_
  | ((first
  | (refine gRg [] [0, 1, 2, 6, 7, 8, 9, 10, 23, 39, 45] ?_; intro K hK)
  | refine cAl (hpl) rfl rfl rfl ?_
  | refine cAl (hcall) rfl rfl rfl ?_
  | (refine ACall.use [(6, 7)] [] rfl hpc rfl rfl rfl ?_; rintro _ _ ⟨h6, rfl, rfl⟩; refine ⟨.inl rfl, rfl, ?_⟩; simp only [bk, bk1, bkS, bkO, idOf, delAll, go_sem, simprocAttr])
  | (refine gd_split ?_ ?_ <;> intro hb <;> (try simp only [bls] at hb) <;> (try simp only [hb]))
  | refine gRt [] [.tmp 6] rfl ?_ | refine gDn [] [.tmp 6] rfl ?_) <;> (try simp only [go_sem, simprocAttr, e1, e2, e3, e4, e5, e6, Option.some.injEq, forall_eq']))
  | (refine hK _ _ ?_; clear hK K; simp only [go_sem, simprocAttr])
  | refine gCd (by simp only [go_sem, simprocAttr]; rfl) rfl ?_
  | refine brT ?_ | refine brF ?_
  | (refine brS ?_ ?_ <;> intro hc <;> (try simp only [bls] at hc) <;> (try simp only [hc, bls]))
  | intro _ | refine And.intro ?_ ?_)
  all_goals first | omega | (unfold bigLen; omega) | exact ⟨_, _, ⟨rfl, rfl⟩, rfl⟩ | exact ⟨_, rfl⟩ | (rename_i hy; simp only [List.mem_singleton] at hy; subst hy; rfl) | with_reducible rfl | skip
  rename_i z hz
  have hz2 : z = [.bool false] := by rw [List.getElem?_map, e6] at hz; exact (Option.some.inj hz).symm
  subst hz2
  refine stopE ?_
  refine AGood.reRow 7 (bools (pointB (w.size + 1) fr)) rfl (by rw [← e7]; rfl) ?_
  simp only [go_sem, simprocAttr]
  refine AGood.freeze 7 rfl ?_
  simp only [rfT, rfS, rfO, rf, rf1, e15, e16, List.length_map, Nat.le_refl, true_and, go_sem, simprocAttr]
  have e8 : (1 : Int) ≤ l.length := by omega
  repeat' (first
  | refine gSq ?_ | refine gSk ?_ | refine gBl ?_ | refine gIb ?_ | refine gEx rfl ?_
  | ((first
  | (refine gRg [] [0, 1, 2, 6, 7, 8, 9, 10, 23, 39, 45] ?_; intro K hK)
  | refine cAl (hcall) rfl rfl rfl ?_
  | (refine gd_split ?_ ?_ <;> intro hb <;> (try simp only [bls] at hb) <;> (try simp only [hb]))
  | refine gRt [] [.tmp 6] rfl ?_ | refine gDn [] [.tmp 6] rfl ?_) <;> (try simp only [go_sem, simprocAttr, e8]))
  | (refine hK _ _ ?_; clear hK K; simp only [go_sem, simprocAttr])
  | refine gCd (by simp only [go_sem, simprocAttr]; rfl) rfl ?_
  | refine brT ?_ | refine brF ?_
  | (refine brS ?_ ?_ <;> intro hc <;> (try simp only [bls] at hc) <;> (try simp only [hc, bls]))
  | intro _ | refine And.intro ?_ ?_)
  all_goals first | omega | (unfold bigLen; omega) | exact ⟨_, _, ⟨rfl, rfl⟩, rfl⟩ | exact ⟨_, rfl⟩ | (rename_i hy; simp only [List.mem_singleton] at hy; subst hy; rfl) | with_reducible rfl | skip
  refine AGood.ownTm 9 900 1 (by decide) rfl fun g9 => ?_
  simp only [go_sem, simprocAttr]
  refine AGood.prune [6, 8, 9, 10] ?_; simp only [go_sem, simprocAttr]
  obtain ⟨PS, hPS⟩ : ∃ PS : Nat → List Nat, PS = fun i => (List.range i).filter fun j => E.getD j false := ⟨_, rfl⟩
  have hp0 : PS 0 = [] := by rw [hPS]; rfl
  have hp1 : ∀ i, PS (i + 1) = PS i ++ (if E.getD i false = true then [i] else []) := by
    intro i
    rw [hPS]
    simp only [List.range_succ, List.filter_append]
    cases hb : E.getD i false <;> (rw [List.getD_eq_getElem?_getD] at hb; simp [hb])
  have hpE : posN E = PS E.length := by rw [hPS]; rfl
  have hpl2 : ∀ i, (PS i).length ≤ i := fun i => by
    rw [hPS]
    refine Nat.le_trans (List.length_filter_le _ _) ?_
    simp
  clear hPS
  rw [show posS E = (PS E.length).map fun (i : Nat) => (i : Int) from by rw [posS, hpE]]
  refine AGood.loopInv (α := Nat × Nat) (fun x => ([(6, .sl true true []), (8, .sl true false (bools E)), (9, .osl 900 x.2 0 (PS x.1).length), (10, .int .i64 x.1)], [(900, x.2, .row 1 (ints ((PS x.1).map fun (i : Nat) => (i : Int))))])) (fun x => x.1 ≤ E.length) (fun x => E.length - x.1) (0, g9) (Nat.zero_le _) (by simp only [hp0]; rfl) ?_
  rintro ⟨i, g⟩ hi ih
  simp only at hi ih ⊢
  have hl9 := hpl2 i
  by_cases hle : i < E.length
  · have f4 : (i : Int) < E.length := by omega
    have f5 : (0 : Int) ≤ i := by omega
    have f6 : (i : Int) + 1 = ((i + 1 : Nat) : Int) := by omega
    have hE : E[i]? = some E[i] := List.getElem?_eq_getElem hle
    have hgd : E.getD i false = E[i] := by simp [List.getD, hle]
    have h1 := hp1 i
    rw [hgd] at h1
    generalize E[i] = x at hE h1
    cases x
    · simp only [Bool.false_eq_true, if_false, List.append_nil] at h1
      repeat' (first
  | refine gSq ?_ | refine gSk ?_ | refine gBl ?_ | refine gIb ?_ | refine gEx rfl ?_
  | ((first
  | (refine gRg [] [0, 1, 2, 6, 7, 8, 9, 10, 23, 39, 45] ?_; intro K hK)
  | (refine gd_split ?_ ?_ <;> intro hb <;> (try simp only [bls] at hb) <;> (try simp only [hb]))
  | refine gRt [] [.tmp 6] rfl ?_ | refine gDn [] [.tmp 6] rfl ?_) <;> (try simp only [go_sem, simprocAttr, f4, f5, f6, hE, Option.some.injEq, forall_eq']))
  | (refine hK _ _ ?_; clear hK K; simp only [go_sem, simprocAttr])
  | refine gCd (by simp only [go_sem, simprocAttr]; rfl) rfl ?_
  | refine brT ?_ | refine brF ?_
  | (refine brS ?_ ?_ <;> intro hc <;> (try simp only [bls] at hc) <;> (try simp only [hc, bls]))
  | intro _ | refine And.intro ?_ ?_)
      all_goals first | omega | (unfold bigLen; omega) | exact ⟨_, _, ⟨rfl, rfl⟩, rfl⟩ | exact ⟨_, rfl⟩ | (rename_i hy; simp only [List.mem_singleton] at hy; subst hy; rfl) | with_reducible rfl | skip
      refine AGood.filt [900] ?_
      simp only [sf_cons, sf_nil, go_sem, simprocAttr]
      refine AGood.prune [6, 8, 9, 10] ?_; simp only [go_sem, simprocAttr]
      exact AGood.cast (ih (i + 1, g) (by simp only; omega) (by simp only; omega)) (by simp only [h1]) (by simp only [h1])
    · simp only [if_true] at h1
      repeat' (first
  | refine gSq ?_ | refine gSk ?_ | refine gBl ?_ | refine gIb ?_ | refine gEx rfl ?_
  | ((first
  | (refine gRg [48] [0, 1, 2, 6, 7, 8, 9, 10, 23, 39, 45] ?_; intro K hK)
  | (refine gd_split ?_ ?_ <;> intro hb <;> (try simp only [bls] at hb) <;> (try simp only [hb]))
  | refine gRt [] [.tmp 6] rfl ?_ | refine gDn [] [.tmp 6] rfl ?_) <;> (try simp only [go_sem, simprocAttr, f4, f5, f6, hE, Option.some.injEq, forall_eq']))
  | (refine hK _ _ ?_; clear hK K; simp only [go_sem, simprocAttr])
  | refine gCd (by simp only [go_sem, simprocAttr]; rfl) rfl ?_
  | refine brT ?_ | refine brF ?_
  | (refine brS ?_ ?_ <;> intro hc <;> (try simp only [bls] at hc) <;> (try simp only [hc, bls]))
  | intro _ | refine And.intro ?_ ?_)
      all_goals first | omega | (unfold bigLen; omega) | exact ⟨_, _, ⟨rfl, rfl⟩, rfl⟩ | exact ⟨_, rfl⟩ | (rename_i hy; simp only [List.mem_singleton] at hy; subst hy; rfl) | with_reducible rfl | skip
      rename_i h'
      refine AGood.filt [900] ?_
      simp only [sf_cons, sf_nil, go_sem, simprocAttr]
      refine AGood.prune [6, 8, 9, 10] ?_; simp only [go_sem, simprocAttr]
      exact AGood.cast (ih (i + 1, h') (by simp only; omega) (by simp only; omega)) (by simp only [h1]; simp) (by simp only [h1]; simp)
  · have f4 : ¬ (i : Int) < E.length := by omega
    have hin : i = E.length := by omega
    rw [hin]
    rw [hin] at f4 ih
    clear ih
    have g15 : (ints ((PS E.length).map fun (i : Nat) => (i : Int))).take (PS E.length).length = ints ((PS E.length).map fun (i : Nat) => (i : Int)) := List.take_of_length_le (by simp)
    repeat' (first
  | refine gSq ?_ | refine gSk ?_ | refine gBl ?_ | refine gIb ?_ | refine gEx rfl ?_
  | ((first
  | (refine AGood.at 12 ?_; (refine AGood.freeze 900 rfl ?_; simp only [rfT, rfS, rfO, rf, rf1, g15, List.length_map, Nat.le_refl, true_and, go_sem, simprocAttr]); (refine gRg [] [0, 1, 2, 6, 7, 8, 9, 10, 23, 39, 45] ?_; intro K hK))
  | (refine gRg [] [0, 1, 2, 6, 7, 8, 9, 10, 23, 39, 45] ?_; intro K hK)
  | (refine gd_split ?_ ?_ <;> intro hb <;> (try simp only [bls] at hb) <;> (try simp only [hb]))
  | refine gRt [] [.tmp 6] rfl ?_ | refine gDn [] [.tmp 6] rfl ?_) <;> (try simp only [go_sem, simprocAttr, f4]))
  | (refine hK _ _ ?_; clear hK K; simp only [go_sem, simprocAttr])
  | refine gCd (by simp only [go_sem, simprocAttr]; rfl) rfl ?_
  | refine brT ?_ | refine brF ?_
  | (refine brS ?_ ?_ <;> intro hc <;> (try simp only [bls] at hc) <;> (try simp only [hc, bls]))
  | intro _ | refine And.intro ?_ ?_)
    all_goals first | omega | (unfold bigLen; omega) | exact ⟨_, _, ⟨rfl, rfl⟩, rfl⟩ | exact ⟨_, rfl⟩ | (rename_i hy; simp only [List.mem_singleton] at hy; subst hy; rfl) | with_reducible rfl | skip
end Go.Rad
/- The statements of layer 8: PlanMeans. -/
namespace Go.Rad
open Go Go.Proofs
set_option linter.all false
set_option maxRecDepth 20000
set_option maxHeartbeats 4000000

theorem maxI {a b : Int} (ha : 0 ≤ a ∧ a ≤ 2) (hb : 0 ≤ b ∧ b ≤ 2) : 0 ≤ max a b ∧ max a b ≤ 2 := by omega
theorem set_in {D : List Int} {i : Nat} {v : Int} (h : ∀ d ∈ D, 0 ≤ d ∧ d ≤ 2) (hv : 0 ≤ v ∧ v ≤ 2) : ∀ d ∈ D.set i v, 0 ≤ d ∧ d ≤ 2 := by
  intro d hd
  rcases List.mem_or_eq_of_mem_set hd with h1 | h1
  · exact h d h1
  · rw [h1]; exact hv
theorem light8uc (l : List Node) (hok : plOk l) : ACall Try.prog 22 [.sl true false (nodes l)] [] fun r s => (∃ b : Bool, r = .bool b) ∧ s = [] := by
  have hl1 := hok.1
  have hrep : List.map (List.map nrm1) (List.replicate l.length [AVal.int .i64 0]) = ints (List.replicate l.length 0) := by simp [nrm1]
  refine ACall.enter Try.func22 rfl (by kernel_rfl) (Nat.le_of_ble_eq_true rfl) ?_; simp only [initTm, Nat.reduceAdd]
  repeat' (first
  | refine gSq ?_ | refine gSk ?_ | refine gBl ?_ | refine gIb ?_ | refine gEx rfl ?_
  | ((first
  | (refine gRg [] [0, 2, 3, 4, 5, 6, 8, 12, 13, 14, 15, 20, 21, 22, 23, 41, 64] ?_; intro K hK)
  | (refine gDr 9 [] 12 [0, 1, 2, 3, 4, 5, 6, 7, 8, 9, 10, 11, 12] [0, 2, 3, 4, 5, 6, 8, 12, 13, 14, 15, 20, 21, 22, 23, 41, 64] rfl ?_; intro K hK)
  | (refine gd_split ?_ ?_ <;> intro hb <;> (try simp only [bls] at hb) <;> (try simp only [hb]))
  | refine gRt [] [.tmp 2] rfl ?_ | refine gDn [] [.tmp 2] rfl ?_) <;> (try simp only [go_sem, simprocAttr, hrep]))
  | (refine hK _ _ ?_; clear hK K; simp only [go_sem, simprocAttr])
  | refine gCd (by simp only [go_sem, simprocAttr]; rfl) rfl ?_
  | refine brT ?_ | refine brF ?_
  | (refine brS ?_ ?_ <;> intro hc <;> (try simp only [bls] at hc) <;> (try simp only [hc, bls]))
  | intro _ | refine And.intro ?_ ?_)
  all_goals first | omega | (unfold bigLen; omega) | exact ⟨_, _, ⟨rfl, rfl⟩, rfl⟩ | exact ⟨_, rfl⟩ | (rename_i hy; simp only [List.mem_singleton] at hy; subst hy; rfl) | with_reducible rfl | skip
  rename_i h11
  refine AGood.prune [2, 3, 4, 12, 13, 14] ?_; simp only [go_sem, simprocAttr]
  refine AGood.loopInv (α := Nat × List Int × Nat) (fun x => ([(2, .bool false), (3, .osl 11 h11 0 l.length), (4, .int .i64 x.2.2), (12, .sl true false (nodes l)), (13, .int .i64 l.length), (14, .int .i64 x.1)], [(11, h11, .row 1 (ints x.2.1))]))
    (fun x => x.1 ≤ l.length ∧ x.2.1.length = l.length ∧ (∀ d ∈ x.2.1, 0 ≤ d ∧ d ≤ 2) ∧ x.2.2 ≤ x.1) (fun x => l.length - x.1) (0, List.replicate l.length 0, 0) ⟨Nat.zero_le _, by simp, fun d hd => by rw [(List.mem_replicate.1 hd).2]; decide, Nat.zero_le _⟩ rfl ?_
  rintro ⟨i, D, many⟩ ⟨hi, hDl, hD, hmany⟩ ih
  simp only at hi hDl hD hmany ih ⊢
  by_cases hle : i < l.length
  · have e4 : (i : Int) < l.length := by omega
    have e5 : (0 : Int) ≤ i := by omega
    have hx : l[i]? = some l[i] := List.getElem?_eq_getElem hle
    obtain ⟨m1, m2, m3, m4, m5, m6⟩ := hok.2 i _ hx
    generalize l[i] = n at hx m1 m2 m3 m4 m5 m6
    obtain ⟨xo, ⟨xa, xb, xc, xd⟩, xl, xlo, xhi, xn⟩ := n
    simp only at m1 m2
    clear m3 m4 m5 m6
    repeat' (first
  | refine gSq ?_ | refine gSk ?_ | refine gBl ?_ | refine gIb ?_ | refine gEx rfl ?_
  | ((first
  | (refine gRg [] [0, 2, 3, 4, 5, 6, 8, 12, 13, 14, 15, 20, 21, 22, 23, 41, 64] ?_; intro K hK)
  | (refine gDr 9 [] 12 [0, 1, 2, 3, 4, 5, 6, 7, 8, 9, 10, 11, 12] [0, 2, 3, 4, 5, 6, 8, 12, 13, 14, 15, 20, 21, 22, 23, 41, 64] rfl ?_; intro K hK)
  | (refine gd_split ?_ ?_ <;> intro hb <;> (try simp only [bls] at hb) <;> (try simp only [hb]))
  | refine gRt [] [.tmp 2] rfl ?_ | refine gDn [] [.tmp 2] rfl ?_) <;> (try simp only [go_sem, simprocAttr, e4, e5, hx, Option.some.injEq, forall_eq']))
  | (refine hK _ _ ?_; clear hK K; simp only [go_sem, simprocAttr])
  | refine gCd (by simp only [go_sem, simprocAttr]; rfl) rfl ?_
  | refine brT ?_ | refine brF ?_
  | (refine brS ?_ ?_ <;> intro hc <;> (try simp only [bls] at hc) <;> (try simp only [hc, bls]))
  | intro _ | refine And.intro ?_ ?_)
    all_goals first | omega | (unfold bigLen; omega) | exact ⟨_, _, ⟨rfl, rfl⟩, rfl⟩ | exact ⟨_, rfl⟩ | (rename_i hy; simp only [List.mem_singleton] at hy; subst hy; rfl) | with_reducible rfl | skip
    rename_i h6
    refine AGood.prune [2, 3, 4, 5, 6, 12, 13, 14, 20, 21, 22] ?_; simp only [go_sem, simprocAttr]
    refine AGood.loopInv (α := Nat × List Int) (fun x => ([(2, .bool false), (3, .osl 11 h11 0 l.length), (4, .int .i64 many), (5, .int .i64 i), (6, .bx 6 h6 0), (12, .sl true false (nodes l)), (13, .int .i64 l.length), (14, .int .i64 i), (20, .sl true false (ints xl)), (21, .int .i64 xl.length), (22, .int .i64 x.1)], [(6, h6, .box [.int .u8 xo, .int .u64 xa, .int .u64 xb, .int .u64 xc, .int .u64 xd, .sl true false (ints xl), .int .i64 xlo, .int .i64 xhi, .str xn]), (11, h11, .row 1 (ints x.2))]))
      (fun x => x.1 ≤ xl.length ∧ x.2.length = l.length ∧ (∀ d ∈ x.2, 0 ≤ d ∧ d ≤ 2)) (fun x => xl.length - x.1) (0, D) ⟨Nat.zero_le _, hDl, hD⟩ rfl ?_
    rintro ⟨j, D⟩ ⟨hj, hDl, hD⟩ ih2
    simp only at hj hDl hD ih2 ⊢
    have e6 : i < D.length := by omega
    have hDi : D[i]? = some D[i] := List.getElem?_eq_getElem e6
    have hdi := hD D[i] (List.getElem_mem e6)
    by_cases hlj : j < xl.length
    · have f4 : (j : Int) < xl.length := by omega
      have f5 : (0 : Int) ≤ j := by omega
      have hx2 : xl[j]? = some xl[j] := List.getElem?_eq_getElem hlj
      have hm := m2 xl[j] (List.getElem_mem hlj)
      generalize xl[j] = kd at hx2 hm
      obtain ⟨kid, rfl⟩ : ∃ kid : Nat, kd = kid := ⟨kd.toNat, by omega⟩
      have f6 : (kid : Int) < l.length := by omega
      have f7 : (0 : Int) ≤ kid := by omega
      have f8 : kid < D.length := by omega
      have hDk : D[kid]? = some D[kid] := List.getElem?_eq_getElem f8
      have hdk := hD D[kid] (List.getElem_mem f8)
      generalize D[i] = di at hDi hdi
      generalize D[kid] = dk at hDk hdk
      repeat' (first
  | refine gSq ?_ | refine gSk ?_ | refine gBl ?_ | refine gIb ?_ | refine gEx rfl ?_
  | ((first
  | (refine gRg [] [0, 2, 3, 4, 5, 6, 8, 12, 13, 14, 15, 20, 21, 22, 23, 41, 64] ?_; intro K hK)
  | (refine gDr 9 [] 12 [0, 1, 2, 3, 4, 5, 6, 7, 8, 9, 10, 11, 12] [0, 2, 3, 4, 5, 6, 8, 12, 13, 14, 15, 20, 21, 22, 23, 41, 64] rfl ?_; intro K hK)
  | (refine gd_split ?_ ?_ <;> intro hb <;> (try simp only [bls] at hb) <;> (try simp only [hb]))
  | refine gRt [] [.tmp 2] rfl ?_ | refine gDn [] [.tmp 2] rfl ?_) <;> (try simp only [go_sem, simprocAttr, e4, e5, e6, f4, f5, f6, f7, f8, hx2, hDi, hDk, Option.some.injEq, forall_eq']))
  | (refine hK _ _ ?_; clear hK K; simp only [go_sem, simprocAttr])
  | refine gCd (by simp only [go_sem, simprocAttr]; rfl) rfl ?_
  | refine brT ?_ | refine brF ?_
  | (refine brS ?_ ?_ <;> intro hc <;> (try simp only [bls] at hc) <;> (try simp only [hc, bls]))
  | intro _ | refine And.intro ?_ ?_)
      all_goals first | omega | (unfold bigLen; omega) | exact ⟨_, _, ⟨rfl, rfl⟩, rfl⟩ | exact ⟨_, rfl⟩ | (rename_i hy; simp only [List.mem_singleton] at hy; subst hy; rfl) | with_reducible rfl | skip
      rename_i z hz
      have hz2 : z = [.int .i64 di] := by rw [List.getElem?_map, hDi] at hz; exact (Option.some.inj hz).symm
      subst hz2
      refine AGood.filt [6, 11] ?_
      simp only [sf_cons, sf_nil, go_sem, simprocAttr]
      refine AGood.prune [2, 3, 4, 5, 6, 12, 13, 14, 20, 21, 22] ?_; simp only [go_sem, simprocAttr]
      exact AGood.cast (ih2 (j + 1, D.set i (max di dk)) ⟨by simp only; omega, by simp [hDl], set_in hD (maxI hdi hdk)⟩ (by simp only; omega)) rfl (by simp [List.map_set])
    · have f4 : ¬ (j : Int) < xl.length := by omega
      clear ih2
      generalize D[i] = di at hDi hdi
      have hin : di + 1 ≤ 3 := by omega
      have e8 : (many : Int) + 1 = ((many + 1 : Nat) : Int) := by omega
      by_cases h5 : xo = 5
      · have hDs : (D.set i (di + 1))[i]? = some (di + 1) := by rw [List.getElem?_set_self e6]
        have hrs : (ints D).set i [.int .i64 (di + 1)] = ints (D.set i (di + 1)) := by simp [List.map_set]
        have e9 : i < (D.set i (di + 1)).length := by simpa using e6
        by_cases h2 : 2 < di + 1
        · repeat' (first
  | (refine AGood.at 14 ?_; (refine stopI ?_))
  | refine gSq ?_ | refine gSk ?_ | refine gBl ?_ | refine gIb ?_ | refine gEx rfl ?_
  | ((first
  | (refine gRg [] [0, 2, 3, 4, 5, 6, 8, 12, 13, 14, 15, 20, 21, 22, 23, 41, 64] ?_; intro K hK)
  | (refine gDr 9 [] 12 [0, 1, 2, 3, 4, 5, 6, 7, 8, 9, 10, 11, 12] [0, 2, 3, 4, 5, 6, 8, 12, 13, 14, 15, 20, 21, 22, 23, 41, 64] rfl ?_; intro K hK)
  | (refine gd_split ?_ ?_ <;> intro hb <;> (try simp only [bls] at hb) <;> (try simp only [hb]))
  | refine gRt [] [.tmp 2] rfl ?_ | refine gDn [] [.tmp 2] rfl ?_) <;> (try simp only [go_sem, simprocAttr, e4, e5, e6, e8, e9, f4, eq_true h5, h2, hDi, hDs, Option.some.injEq, forall_eq']))
  | (refine hK _ _ ?_; clear hK K; simp only [go_sem, simprocAttr])
  | refine gCd (by simp only [go_sem, simprocAttr]; rfl) rfl ?_
  | refine brT ?_ | refine brF ?_
  | (refine brS ?_ ?_ <;> intro hc <;> (try simp only [bls] at hc) <;> (try simp only [hc, bls]))
  | intro _ | refine And.intro ?_ ?_)
          all_goals first | omega | (unfold bigLen; omega) | exact ⟨_, _, ⟨rfl, rfl⟩, rfl⟩ | exact ⟨_, rfl⟩ | (rename_i hy; simp only [List.mem_singleton] at hy; subst hy; rfl) | with_reducible rfl | skip
          rename_i z hz
          have hz2 : z = [.int .i64 di] := by rw [List.getElem?_map, hDi] at hz; exact (Option.some.inj hz).symm
          subst hz2
          refine stopE ?_
          refine AGood.reRow 11 (ints (D.set i (di + 1))) rfl (by rw [← hrs]; rfl) ?_
          simp only [go_sem, simprocAttr]
          repeat' (first
  | refine gSq ?_ | refine gSk ?_ | refine gBl ?_ | refine gIb ?_ | refine gEx rfl ?_
  | ((first
  | (refine gRg [] [0, 2, 3, 4, 5, 6, 8, 12, 13, 14, 15, 20, 21, 22, 23, 41, 64] ?_; intro K hK)
  | (refine gDr 9 [] 12 [0, 1, 2, 3, 4, 5, 6, 7, 8, 9, 10, 11, 12] [0, 2, 3, 4, 5, 6, 8, 12, 13, 14, 15, 20, 21, 22, 23, 41, 64] rfl ?_; intro K hK)
  | (refine gd_split ?_ ?_ <;> intro hb <;> (try simp only [bls] at hb) <;> (try simp only [hb]))
  | refine gRt [] [.tmp 2] rfl ?_ | refine gDn [] [.tmp 2] rfl ?_) <;> (try simp only [go_sem, simprocAttr, e4, e5, e6, e8, e9, f4, eq_true h5, h2, hDi, hDs, Option.some.injEq, forall_eq']))
  | (refine hK _ _ ?_; clear hK K; simp only [go_sem, simprocAttr])
  | refine gCd (by simp only [go_sem, simprocAttr]; rfl) rfl ?_
  | refine brT ?_ | refine brF ?_
  | (refine brS ?_ ?_ <;> intro hc <;> (try simp only [bls] at hc) <;> (try simp only [hc, bls]))
  | intro _ | refine And.intro ?_ ?_)
          all_goals first | omega | (unfold bigLen; omega) | exact ⟨_, _, ⟨rfl, rfl⟩, rfl⟩ | exact ⟨_, rfl⟩ | (rename_i hy; simp only [List.mem_singleton] at hy; subst hy; rfl) | with_reducible rfl | skip
        · repeat' (first
  | (refine AGood.at 14 ?_; (refine stopI ?_))
  | refine gSq ?_ | refine gSk ?_ | refine gBl ?_ | refine gIb ?_ | refine gEx rfl ?_
  | ((first
  | (refine gRg [] [0, 2, 3, 4, 5, 6, 8, 12, 13, 14, 15, 20, 21, 22, 23, 41, 64] ?_; intro K hK)
  | (refine gDr 9 [] 12 [0, 1, 2, 3, 4, 5, 6, 7, 8, 9, 10, 11, 12] [0, 2, 3, 4, 5, 6, 8, 12, 13, 14, 15, 20, 21, 22, 23, 41, 64] rfl ?_; intro K hK)
  | (refine gd_split ?_ ?_ <;> intro hb <;> (try simp only [bls] at hb) <;> (try simp only [hb]))
  | refine gRt [] [.tmp 2] rfl ?_ | refine gDn [] [.tmp 2] rfl ?_) <;> (try simp only [go_sem, simprocAttr, e4, e5, e6, e8, e9, f4, eq_true h5, h2, hDi, hDs, Option.some.injEq, forall_eq']))
  | (refine hK _ _ ?_; clear hK K; simp only [go_sem, simprocAttr])
  | refine gCd (by simp only [go_sem, simprocAttr]; rfl) rfl ?_
  | refine brT ?_ | refine brF ?_
  | (refine brS ?_ ?_ <;> intro hc <;> (try simp only [bls] at hc) <;> (try simp only [hc, bls]))
  | intro _ | refine And.intro ?_ ?_)
          all_goals first | omega | (unfold bigLen; omega) | exact ⟨_, _, ⟨rfl, rfl⟩, rfl⟩ | exact ⟨_, rfl⟩ | (rename_i hy; simp only [List.mem_singleton] at hy; subst hy; rfl) | with_reducible rfl | skip
          rename_i z hz
          have hz2 : z = [.int .i64 di] := by rw [List.getElem?_map, hDi] at hz; exact (Option.some.inj hz).symm
          subst hz2
          refine stopE ?_
          refine AGood.reRow 11 (ints (D.set i (di + 1))) rfl (by rw [← hrs]; rfl) ?_
          simp only [go_sem, simprocAttr]
          repeat' (first
  | refine gSq ?_ | refine gSk ?_ | refine gBl ?_ | refine gIb ?_ | refine gEx rfl ?_
  | ((first
  | (refine gRg [] [0, 2, 3, 4, 5, 6, 8, 12, 13, 14, 15, 20, 21, 22, 23, 41, 64] ?_; intro K hK)
  | (refine gDr 9 [] 12 [0, 1, 2, 3, 4, 5, 6, 7, 8, 9, 10, 11, 12] [0, 2, 3, 4, 5, 6, 8, 12, 13, 14, 15, 20, 21, 22, 23, 41, 64] rfl ?_; intro K hK)
  | (refine gd_split ?_ ?_ <;> intro hb <;> (try simp only [bls] at hb) <;> (try simp only [hb]))
  | refine gRt [] [.tmp 2] rfl ?_ | refine gDn [] [.tmp 2] rfl ?_) <;> (try simp only [go_sem, simprocAttr, e4, e5, e6, e8, e9, f4, eq_true h5, h2, hDi, hDs, Option.some.injEq, forall_eq']))
  | (refine hK _ _ ?_; clear hK K; simp only [go_sem, simprocAttr])
  | refine gCd (by simp only [go_sem, simprocAttr]; rfl) rfl ?_
  | refine brT ?_ | refine brF ?_
  | (refine brS ?_ ?_ <;> intro hc <;> (try simp only [bls] at hc) <;> (try simp only [hc, bls]))
  | intro _ | refine And.intro ?_ ?_)
          all_goals first | omega | (unfold bigLen; omega) | exact ⟨_, _, ⟨rfl, rfl⟩, rfl⟩ | exact ⟨_, rfl⟩ | (rename_i hy; simp only [List.mem_singleton] at hy; subst hy; rfl) | with_reducible rfl | skip
          all_goals (try exact ⟨⟨false, rfl⟩, rfl⟩)
          all_goals
            refine AGood.filt [11] ?_
            simp only [sf_cons, sf_nil, go_sem, simprocAttr]
            refine AGood.prune [2, 3, 4, 12, 13, 14] ?_; simp only [go_sem, simprocAttr]
            exact (ih (i + 1, D.set i (di + 1), many + 1) ⟨by simp only; omega, by simp [hDl], set_in hD (by omega), by simp only; omega⟩ (by simp only; omega)).cast rfl rfl
      · have h2 : ¬ 2 < di := by omega
        repeat' (first
  | refine gSq ?_ | refine gSk ?_ | refine gBl ?_ | refine gIb ?_ | refine gEx rfl ?_
  | ((first
  | (refine gRg [] [0, 2, 3, 4, 5, 6, 8, 12, 13, 14, 15, 20, 21, 22, 23, 41, 64] ?_; intro K hK)
  | (refine gDr 9 [] 12 [0, 1, 2, 3, 4, 5, 6, 7, 8, 9, 10, 11, 12] [0, 2, 3, 4, 5, 6, 8, 12, 13, 14, 15, 20, 21, 22, 23, 41, 64] rfl ?_; intro K hK)
  | (refine gd_split ?_ ?_ <;> intro hb <;> (try simp only [bls] at hb) <;> (try simp only [hb]))
  | refine gRt [] [.tmp 2] rfl ?_ | refine gDn [] [.tmp 2] rfl ?_) <;> (try simp only [go_sem, simprocAttr, e4, e5, e6, f4, h5, h2, hDi, Option.some.injEq, forall_eq']))
  | (refine hK _ _ ?_; clear hK K; simp only [go_sem, simprocAttr])
  | refine gCd (by simp only [go_sem, simprocAttr]; rfl) rfl ?_
  | refine brT ?_ | refine brF ?_
  | (refine brS ?_ ?_ <;> intro hc <;> (try simp only [bls] at hc) <;> (try simp only [hc, bls]))
  | intro _ | refine And.intro ?_ ?_)
        all_goals first | omega | (unfold bigLen; omega) | exact ⟨_, _, ⟨rfl, rfl⟩, rfl⟩ | exact ⟨_, rfl⟩ | (rename_i hy; simp only [List.mem_singleton] at hy; subst hy; rfl) | with_reducible rfl | skip
        all_goals (try exact ⟨⟨false, rfl⟩, rfl⟩)
        all_goals
          refine AGood.filt [11] ?_
          simp only [sf_cons, sf_nil, go_sem, simprocAttr]
          refine AGood.prune [2, 3, 4, 12, 13, 14] ?_; simp only [go_sem, simprocAttr]
          exact (ih (i + 1, D, many) ⟨by simp only; omega, hDl, hD, by simp only; omega⟩ (by simp only; omega)).cast rfl rfl
  · have e4 : ¬ (i : Int) < l.length := by omega
    clear ih
    repeat' (first
  | refine gSq ?_ | refine gSk ?_ | refine gBl ?_ | refine gIb ?_ | refine gEx rfl ?_
  | ((first
  | (refine gRg [] [0, 2, 3, 4, 5, 6, 8, 12, 13, 14, 15, 20, 21, 22, 23, 41, 64] ?_; intro K hK)
  | (refine gDr 9 [] 12 [0, 1, 2, 3, 4, 5, 6, 7, 8, 9, 10, 11, 12] [0, 2, 3, 4, 5, 6, 8, 12, 13, 14, 15, 20, 21, 22, 23, 41, 64] rfl ?_; intro K hK)
  | (refine gd_split ?_ ?_ <;> intro hb <;> (try simp only [bls] at hb) <;> (try simp only [hb]))
  | refine gRt [] [.tmp 2] rfl ?_ | refine gDn [] [.tmp 2] rfl ?_) <;> (try simp only [go_sem, simprocAttr, e4]))
  | (refine hK _ _ ?_; clear hK K; simp only [go_sem, simprocAttr])
  | refine gCd (by simp only [go_sem, simprocAttr]; rfl) rfl ?_
  | refine brT ?_ | refine brF ?_
  | (refine brS ?_ ?_ <;> intro hc <;> (try simp only [bls] at hc) <;> (try simp only [hc, bls]))
  | intro _ | refine And.intro ?_ ?_)
    all_goals first | omega | (unfold bigLen; omega) | exact ⟨_, _, ⟨rfl, rfl⟩, rfl⟩ | exact ⟨_, rfl⟩ | (rename_i hy; simp only [List.mem_singleton] at hy; subst hy; rfl) | with_reducible rfl | skip
theorem planMeans_c (l : List Node) (most : Int) (w : ByteArray) (hm : fits .u8 most) (hl : l.length ≤ maxLen) (hn : ∀ n ∈ l, n.name.size ≤ maxLen ∧ n.l.length ≤ maxLen) (hw : w.size ≤ maxLen) :
    ACall Try.prog 6 [.sl true false (nodes l), .int .u8 most, .str w] [] fun r _ => r = .bool true := by
  have hpl := plain_c false l hl (fun n h => (hn n h).symm)
  by_cases h30 : 30 < l.length
  · have e1 : (30 : Int) < l.length := by omega
    refine ACall.enter Try.func6 rfl (by kernel_rfl) (Nat.le_of_ble_eq_true rfl) ?_; simp only [initTm, Nat.reduceAdd]
    repeat' (first
  | refine gSq ?_ | refine gSk ?_ | refine gBl ?_ | refine gIb ?_ | refine gEx rfl ?_
  | ((first
  | (refine gRg [] [0, 1, 2, 6, 7, 8, 9, 10, 11, 12, 13, 27, 39, 60, 62, 63, 64, 74] ?_; intro K hK)
  | (refine gDr 14 [] 9 [0, 1, 2, 3, 4, 5, 6, 7, 8] [0, 1, 2, 6, 7, 8, 9, 10, 11, 12, 13, 27, 39, 60, 62, 63, 64, 74] rfl ?_; intro K hK)
  | refine cAl (shown8uc) rfl rfl rfl ?_
  | (refine gd_split ?_ ?_ <;> intro hb <;> (try simp only [bls] at hb) <;> (try simp only [hb]))
  | refine gRt [] [.tmp 6] rfl ?_ | refine gDn [] [.tmp 6] rfl ?_) <;> (try simp only [go_sem, simprocAttr, e1]))
  | (refine hK _ _ ?_; clear hK K; simp only [go_sem, simprocAttr])
  | refine gCd (by simp only [go_sem, simprocAttr]; rfl) rfl ?_
  | refine brT ?_ | refine brF ?_
  | (refine brS ?_ ?_ <;> intro hc <;> (try simp only [bls] at hc) <;> (try simp only [hc, bls]))
  | intro _ | refine And.intro ?_ ?_)
    all_goals first | omega | (unfold bigLen; omega) | exact ⟨_, _, ⟨rfl, rfl⟩, rfl⟩ | exact ⟨_, rfl⟩ | (rename_i hy; simp only [List.mem_singleton] at hy; subst hy; rfl) | with_reducible rfl | skip
  · have e1 : ¬ (30 : Int) < l.length := by omega
    cases hp : plainS l
    · rw [hp] at hpl
      refine ACall.enter Try.func6 rfl (by kernel_rfl) (Nat.le_of_ble_eq_true rfl) ?_; simp only [initTm, Nat.reduceAdd]
      repeat' (first
  | refine gSq ?_ | refine gSk ?_ | refine gBl ?_ | refine gIb ?_ | refine gEx rfl ?_
  | ((first
  | (refine gRg [] [0, 1, 2, 6, 7, 8, 9, 10, 11, 12, 13, 27, 39, 60, 62, 63, 64, 74] ?_; intro K hK)
  | (refine gDr 14 [] 9 [0, 1, 2, 3, 4, 5, 6, 7, 8] [0, 1, 2, 6, 7, 8, 9, 10, 11, 12, 13, 27, 39, 60, 62, 63, 64, 74] rfl ?_; intro K hK)
  | refine cAl (shown8uc) rfl rfl rfl ?_
  | refine cAl (hpl) rfl rfl rfl ?_
  | (refine gd_split ?_ ?_ <;> intro hb <;> (try simp only [bls] at hb) <;> (try simp only [hb]))
  | refine gRt [] [.tmp 6] rfl ?_ | refine gDn [] [.tmp 6] rfl ?_) <;> (try simp only [go_sem, simprocAttr, e1]))
  | (refine hK _ _ ?_; clear hK K; simp only [go_sem, simprocAttr])
  | refine gCd (by simp only [go_sem, simprocAttr]; rfl) rfl ?_
  | refine brT ?_ | refine brF ?_
  | (refine brS ?_ ?_ <;> intro hc <;> (try simp only [bls] at hc) <;> (try simp only [hc, bls]))
  | intro _ | refine And.intro ?_ ?_)
      all_goals first | omega | (unfold bigLen; omega) | exact ⟨_, _, ⟨rfl, rfl⟩, rfl⟩ | exact ⟨_, rfl⟩ | (rename_i hy; simp only [List.mem_singleton] at hy; subst hy; rfl) | with_reducible rfl | skip
    · rw [hp] at hpl
      have hli := light8uc l (plain_plOk hp)
      obtain ⟨p, rfl, hp2⟩ := fits_u8 hm
      have a1 := tmod_nat p 50
      have a3 := modN p 50 hp2
      simp only [Int.cast_ofNat_Int] at a1
      have b1 : p % 50 < 50 := Nat.mod_lt _ (by decide)
      generalize p % 50 = m at a1 a3 b1
      have c1 : (m : Int) + 1 = ((m + 1 : Nat) : Int) := by omega
      have ht := ptree_c true false l ((m + 1 : Nat) : Int) (fun n h => hn n h)
      obtain ⟨fo, hd, rfl, hs, hz, h6⟩ := (plain_fo l).1 hp
      have htl := plan_tells hd hs hz h6 (most := ((m + 1 : Nat) : Int)) (by omega)
      rw [htl] at ht
      unfold maxLen at hw
      obtain ⟨k, hk⟩ : ∃ k : Nat, k = min w.size 50 := ⟨_, rfl⟩
      have c2 : min (w.size : Int) 50 = (k : Int) := by omega
      have c3 : (0 : Int) ≤ k := by omega
      have c4 : k ≤ w.size := by omega
      have hks : (w.extract 0 k).size ≤ 1000000 := by rw [ByteArray.size_extract]; omega
      have hb := ends7Top_c hks false fo hd hs hz h6 0 (Nat.zero_le _)
      obtain ⟨t, ht0⟩ : ∃ t, w.extract 0 k = t := ⟨_, rfl⟩
      rw [ht0] at hks hb
      by_cases hsz : (fo.planT ((m + 1 : Nat) : Int)).size ≤ 1024
      · rw [if_pos hsz] at ht
        simp only [flS_0] at ht
        have hg := good_shape (plan_good (most := ((m + 1 : Nat) : Int)) (by omega) hs h6)
        have ha := ends7Top_c hks false (fo.planT ((m + 1 : Nat) : Int)) (by rw [Fo.planT_deg]; exact hd) hg.1 hsz hg.2 0 (Nat.zero_le _)
        rw [plan_semT t (by omega) hd hs _ (pointB_len _ _)] at ha
        have hEl := posS_len (semT t fo (pointB (t.size + 1) 0))
        rw [semT_len hd (pointB_len _ _)] at hEl
        generalize posS (semT t fo (pointB (t.size + 1) 0)) = E at ha hb hEl
        generalize (fo.planT ((m + 1 : Nat) : Int)).lay 0 = x at ht ha
        generalize fo.lay 0 = l at hpl hli ht hb e1
        refine ACall.enter Try.func6 rfl (by kernel_rfl) (Nat.le_of_ble_eq_true rfl) ?_; simp only [initTm, Nat.reduceAdd]
        repeat' (first
  | refine gSq ?_ | refine gSk ?_ | refine gBl ?_ | refine gIb ?_ | refine gEx rfl ?_
  | ((first
  | (refine gRg [] [0, 1, 2, 6, 7, 8, 9, 10, 11, 12, 13, 27, 39, 60, 62, 63, 64, 74] ?_; intro K hK)
  | (refine gDr 14 [] 9 [0, 1, 2, 3, 4, 5, 6, 7, 8] [0, 1, 2, 6, 7, 8, 9, 10, 11, 12, 13, 27, 39, 60, 62, 63, 64, 74] rfl ?_; intro K hK)
  | refine cAl (shown8uc) rfl rfl rfl ?_
  | refine cAl (hpl) rfl rfl rfl ?_
  | refine cAl (ht) rfl rfl rfl ?_
  | refine cAl (ha) rfl rfl rfl ?_
  | refine cAl (hb) rfl rfl rfl ?_
  | (refine ACall.use [] [] rfl hli rfl rfl rfl ?_; rintro _ _ ⟨⟨b, rfl⟩, rfl⟩; refine ⟨.inl rfl, rfl, ?_⟩; simp only [bk, bk1, bkS, delAll, go_sem, simprocAttr])
  | (refine gd_split ?_ ?_ <;> intro hb <;> (try simp only [bls] at hb) <;> (try simp only [hb]))
  | refine gRt [] [.tmp 6] rfl ?_ | refine gDn [] [.tmp 6] rfl ?_) <;> (try simp only [go_sem, simprocAttr, e1, a1, a3, c1, c2, c3, c4, ht0, eq_self]))
  | (refine hK _ _ ?_; clear hK K; simp only [go_sem, simprocAttr])
  | refine gCd (by simp only [go_sem, simprocAttr]; rfl) rfl ?_
  | refine brT ?_ | refine brF ?_
  | (refine brS ?_ ?_ <;> intro hc <;> (try simp only [bls] at hc) <;> (try simp only [hc, bls]))
  | intro _ | refine And.intro ?_ ?_)
        all_goals first | omega | (unfold bigLen; omega) | exact ⟨_, _, ⟨rfl, rfl⟩, rfl⟩ | exact ⟨_, rfl⟩ | (rename_i hy; simp only [List.mem_singleton] at hy; subst hy; rfl) | with_reducible rfl | skip
        refine AGood.prune [6, 7, 11, 12, 62, 63] ?_; simp only [go_sem, simprocAttr]
        refine AGood.loopInv (α := Nat) (fun i => ([(6, .bool false), (7, .bool true), (11, .sl true false (ints E)), (12, .sl true false (ints E)), (62, .int .i64 E.length), (63, .int .i64 i)], [])) (fun i => i ≤ E.length) (fun i => E.length - i) 0 (Nat.zero_le _) rfl ?_
        rintro i hi ih
        simp only at hi ih ⊢
        by_cases hle : i < E.length
        · have f4 : (i : Int) < E.length := by omega
          have f5 : (0 : Int) ≤ i := by omega
          have hx : E[i]? = some E[i] := List.getElem?_eq_getElem hle
          generalize E[i] = x at hx
          repeat' (first
  | refine gSq ?_ | refine gSk ?_ | refine gBl ?_ | refine gIb ?_ | refine gEx rfl ?_
  | ((first
  | (refine gRg [] [0, 1, 2, 6, 7, 8, 9, 10, 11, 12, 13, 27, 39, 60, 62, 63, 64, 74] ?_; intro K hK)
  | (refine gDr 14 [] 9 [0, 1, 2, 3, 4, 5, 6, 7, 8] [0, 1, 2, 6, 7, 8, 9, 10, 11, 12, 13, 27, 39, 60, 62, 63, 64, 74] rfl ?_; intro K hK)
  | (refine gd_split ?_ ?_ <;> intro hb <;> (try simp only [bls] at hb) <;> (try simp only [hb]))
  | refine gRt [] [.tmp 6] rfl ?_ | refine gDn [] [.tmp 6] rfl ?_) <;> (try simp only [go_sem, simprocAttr, f4, f5, hx, eq_self, Option.some.injEq, forall_eq']))
  | (refine hK _ _ ?_; clear hK K; simp only [go_sem, simprocAttr])
  | refine gCd (by simp only [go_sem, simprocAttr]; rfl) rfl ?_
  | refine brT ?_ | refine brF ?_
  | (refine brS ?_ ?_ <;> intro hc <;> (try simp only [bls] at hc) <;> (try simp only [hc, bls]))
  | intro _ | refine And.intro ?_ ?_)
          all_goals first | omega | (unfold bigLen; omega) | exact ⟨_, _, ⟨rfl, rfl⟩, rfl⟩ | exact ⟨_, rfl⟩ | (rename_i hy; simp only [List.mem_singleton] at hy; subst hy; rfl) | with_reducible rfl | skip
          refine AGood.filt [] ?_
          simp only [sf_cons, sf_nil, go_sem, simprocAttr]
          refine AGood.prune [6, 7, 11, 12, 62, 63] ?_; simp only [go_sem, simprocAttr]
          exact (ih (i + 1) (by omega) (by omega)).cast rfl rfl
        · have f4 : ¬ (i : Int) < E.length := by omega
          clear ih
          repeat' (first
  | refine gSq ?_ | refine gSk ?_ | refine gBl ?_ | refine gIb ?_ | refine gEx rfl ?_
  | ((first
  | (refine gRg [] [0, 1, 2, 6, 7, 8, 9, 10, 11, 12, 13, 27, 39, 60, 62, 63, 64, 74] ?_; intro K hK)
  | (refine gDr 14 [] 9 [0, 1, 2, 3, 4, 5, 6, 7, 8] [0, 1, 2, 6, 7, 8, 9, 10, 11, 12, 13, 27, 39, 60, 62, 63, 64, 74] rfl ?_; intro K hK)
  | (refine gd_split ?_ ?_ <;> intro hb <;> (try simp only [bls] at hb) <;> (try simp only [hb]))
  | refine gRt [] [.tmp 6] rfl ?_ | refine gDn [] [.tmp 6] rfl ?_) <;> (try simp only [go_sem, simprocAttr, f4]))
  | (refine hK _ _ ?_; clear hK K; simp only [go_sem, simprocAttr])
  | refine gCd (by simp only [go_sem, simprocAttr]; rfl) rfl ?_
  | refine brT ?_ | refine brF ?_
  | (refine brS ?_ ?_ <;> intro hc <;> (try simp only [bls] at hc) <;> (try simp only [hc, bls]))
  | intro _ | refine And.intro ?_ ?_)
          all_goals first | omega | (unfold bigLen; omega) | exact ⟨_, _, ⟨rfl, rfl⟩, rfl⟩ | exact ⟨_, rfl⟩ | (rename_i hy; simp only [List.mem_singleton] at hy; subst hy; rfl) | with_reducible rfl | skip
      · rw [if_neg hsz] at ht
        simp only [flS_3] at ht
        generalize fo.lay 0 = l at hpl hli ht hb e1
        refine ACall.enter Try.func6 rfl (by kernel_rfl) (Nat.le_of_ble_eq_true rfl) ?_; simp only [initTm, Nat.reduceAdd]
        repeat' (first
  | refine gSq ?_ | refine gSk ?_ | refine gBl ?_ | refine gIb ?_ | refine gEx rfl ?_
  | ((first
  | (refine gRg [] [0, 1, 2, 6, 7, 8, 9, 10, 11, 12, 13, 27, 39, 60, 62, 63, 64, 74] ?_; intro K hK)
  | (refine gDr 14 [] 9 [0, 1, 2, 3, 4, 5, 6, 7, 8] [0, 1, 2, 6, 7, 8, 9, 10, 11, 12, 13, 27, 39, 60, 62, 63, 64, 74] rfl ?_; intro K hK)
  | refine cAl (shown8uc) rfl rfl rfl ?_
  | refine cAl (hpl) rfl rfl rfl ?_
  | refine cAl (ht) rfl rfl rfl ?_
  | (refine ACall.use [] [] rfl hli rfl rfl rfl ?_; rintro _ _ ⟨⟨b, rfl⟩, rfl⟩; refine ⟨.inl rfl, rfl, ?_⟩; simp only [bk, bk1, bkS, delAll, go_sem, simprocAttr])
  | (refine gd_split ?_ ?_ <;> intro hb <;> (try simp only [bls] at hb) <;> (try simp only [hb]))
  | refine gRt [] [.tmp 6] rfl ?_ | refine gDn [] [.tmp 6] rfl ?_) <;> (try simp only [go_sem, simprocAttr, e1, a1, a3, c1]))
  | (refine hK _ _ ?_; clear hK K; simp only [go_sem, simprocAttr])
  | refine gCd (by simp only [go_sem, simprocAttr]; rfl) rfl ?_
  | refine brT ?_ | refine brF ?_
  | (refine brS ?_ ?_ <;> intro hc <;> (try simp only [bls] at hc) <;> (try simp only [hc, bls]))
  | intro _ | refine And.intro ?_ ?_)
        all_goals first | omega | (unfold bigLen; omega) | exact ⟨_, _, ⟨rfl, rfl⟩, rfl⟩ | exact ⟨_, rfl⟩ | (rename_i hy; simp only [List.mem_singleton] at hy; subst hy; rfl) | with_reducible rfl | skip
end Go.Rad
