/- Contracts used with own things lent. -/
import Derived.Test.YtejdlelhlpnabaaKRNode
set_option linter.all false
namespace Go.Rad
open Go
/-- A contract over nothing, beside other things, of which some are lent. -/
theorem ACall.lent {P : Program} {f : Nat} {args args1 : List AVal} {sto : Sto} {v : AVal} (ln : List Nat) (h : ACall P f args1 [] fun r s => r = v ∧ s = []) (ha : args.map (tr [] ln sto) = args1) (hv : bk [] v = v) (hcl : clean v = true) (hc : stoCells sto = true) :
    ACall P f args sto fun r s => r = v ∧ s = sto := by
  refine ACall.use [] ln rfl h ha rfl rfl fun r s hr => ?_
  obtain ⟨rfl, rfl⟩ := hr
  exact ⟨.inr ⟨hcl, rfl⟩, hc, hv, rfl⟩
/-- An own row is cut off: what lies behind is forgotten. -/
theorem AGood.shrink {P : Program} {f : Nat} {fn : Func} {df : List DDel} {k : List Item} {tm : Tm} {sto : Sto} {R : AVal → Sto → Prop} (id n : Nat) {g esz : Nat} {l : List (List AVal)} (hg : sget sto id = some (g, .row esz l)) (h : AGood P f fn df k tm (sput sto id (g, .row esz (l.take n))) R) : AGood P f fn df k tm sto R := by
  refine ⟨fun E G a w b h1 h2 h3 h4 h5 h6 h7 h8 h9 => h.go E G a w b h1 h2 h3 h4 h5 h6 h7 ?_ h9⟩
  refine ⟨fun i g' o hi => ?_, fun i i' g1 g2 o o' hi hi' hne b hb => ?_⟩
  · rw [sget_sput] at hi
    split at hi
    · rename_i e; subst e
      simp only [Option.some.injEq, Prod.mk.injEq] at hi
      obtain ⟨rfl, rfl⟩ := hi
      obtain ⟨ob, cap, k1, k2, k3, k4, k5, k6, k7, k8⟩ := h8.obj _ _ _ hg
      have ht : ∀ (i : Nat) (x : List AVal), (l.take n)[i]? = some x → l[i]? = some x := by
        intro i x hx
        rw [List.getElem?_take] at hx
        split at hx
        · exact hx
        · cases hx
      refine ⟨ob, cap, k1, ?_, ?_, k4, fun i x hx => k5 i x (ht i x hx), fun i j x y hx hy => k6 i j x y (ht i x hx) hy, k7, fun b hb => ?_⟩
      · rw [List.length_take]; omega
      · rw [List.length_take]; omega
      · obtain ⟨q1, q2, c, e, q3, q4, q5⟩ := k8 b hb
        exact ⟨q1, q2, c, e, q3, q4, fun i j x y hx hy => q5 i j x y (ht i x hx) hy⟩
    · exact h8.obj _ _ _ hi
  · have key : ∀ i h o, sget (sput sto id (g, .row esz (l.take n))) i = some (h, o) → ∃ o', sget sto i = some (h, o') := by
      intro i h o hh
      rw [sget_sput] at hh
      split at hh
      · rename_i e; subst e
        simp only [Option.some.injEq, Prod.mk.injEq] at hh
        exact ⟨_, by rw [hg, ← hh.1]⟩
      · exact ⟨_, hh⟩
    obtain ⟨p, hp⟩ := key _ _ _ hi
    obtain ⟨p', hp'⟩ := key _ _ _ hi'
    exact h8.apart _ _ _ _ _ _ hp hp' hne b hb
theorem AGood.at {P : Program} {f : Nat} {fn : Func} {df : List DDel} {k : List Item} {tm : Tm} {sto : Sto} {R : AVal → Sto → Prop} {ops : Array Oper} {b : Bool} (id : Nat) (h : AGood P f fn df (.code (.region id ops b) :: k) tm sto R) : AGood P f fn df (.code (.region id ops b) :: k) tm sto R := h
theorem tr_lent {σ : Ids} {ln : List Nat} {sto : Sto} {id g off len esz : Nat} {l : List (List AVal)} (hi : idTo σ id = none) (hln : ln.contains id = true) (hg : sget sto id = some (g, .row esz l)) (h : off + len ≤ l.length) : tr σ ln sto (.osl id g off len) = .sl false false ((l.drop off).take len) := by
  simp only [tr, tr1, hi, hln, hg, if_true, h, and_self]
theorem ints_part (l : List Int) (off len : Nat) : ((ints l).drop off).take len = ints ((l.drop off).take len) := by
  simp [ints]
theorem nodes_part (l : List Node) (off len : Nat) : ((nodes l).drop off).take len = nodes ((l.drop off).take len) := by
  simp [nodes]
end Go.Rad
/- A box that is written no more is a frozen thing. -/
namespace Go.Rad
open Go
theorem AGood.boxRef {P : Program} {f : Nat} {fn : Func} {k : List Item} {tm : Tm} {sto : Sto} {R : AVal → Sto → Prop} (t id : Nat) {g : Nat} {cs : List AVal} (ht : lk tm t = .bx id g 0) (hg : sget sto id = some (g, .box cs)) (hz : cs.all AVal.isFz = true)
    (h : AGood P f fn [] k ((t, .ref true cs) :: tm) (sdel sto id) R) : AGood P f fn [] k tm sto R := by
  refine ⟨fun E G a w b h1 h2 h3 h4 h5 h6 h7 h8 h9 => ?_⟩
  obtain ⟨bb, cap, esz, k1, k2, c, e, k3, k4, k5, k6⟩ := h8.obj _ _ _ hg
  have hbid : blkOf G id g = some bb := by simp [blkOf, k1]
  have hext := frzG_ext (w := w) k2
  have hd : a.defers = [] := by
    cases hd : a.defers with
    | nil => rfl
    | cons => rw [hd] at h5; simp [DfOk] at h5
  refine h.go E (frzG G w bb) a w b h1 h2 h3 h4 (by rw [hd]; trivial) (h6.trans hext) ⟨h7.K, fun b' o h => ?_, h7.M, h7.N, fun g l h => (h7.T g l h).mono hext.toMono⟩ ⟨fun i g' o h => ?_, fun i i' g1 g2 o o' h h' hne b' hb => ?_⟩ fun t' => ?_
  · simp only [frzG] at h
    split at h
    · rename_i e; subst e; exact h
    · exact h7.F b' o h
  · rw [sget_sdel] at h
    split at h
    · cases h
    · rename_i hne
      have ho := h8.obj i g' o h
      refine ho.mono hext.toMono (fun b' hb' => ?_) (fun _ _ => rfl)
      have hb1 : blkOf G i g' = some b' := hb'
      have : b' ≠ bb := by
        rintro rfl
        exact h8.apart id i g g' _ o hg h hne b' hbid hb1
      simp only [frzG, if_neg this]
      exact (ho.blk h7 b' hb1).1
  · rw [sget_sdel] at h h'
    split at h
    · cases h
    · split at h'
      · cases h'
      · exact h8.apart i i' g1 g2 o o' h h' hne b' hb
  · simp only [lk]
    split
    · rename_i e2; subst e2
      have hr := h9 t
      rw [ht] at hr
      generalize a.tmps.getD t undef = v at hr
      cases hr with
      | @bx _ _ _ b2 cap2 esz2 hM =>
        rw [k1] at hM
        simp only [Option.some.injEq, Hd.mk.injEq] at hM
        obtain ⟨rfl, _, _⟩ := hM
        refine .ref (c := c) (e := e) (fr := (0, 0)) (.inl (.inl rfl)) (by simp [frzG, k3]) (by omega) k5 fun j x hx => ?_
        have := (k6 j x hx).down (List.all_eq_true.1 hz x (List.mem_of_getElem? hx))
        rw [Nat.zero_add]
        exact this.mono hext.toMono
    · exact (h9 t').mono hext.toMono
theorem map_one {α β : Type} {f : α → β} {a : α} {a' : β} (h : f a = a') : [a].map f = [a'] := by rw [List.map_cons, List.map_nil, h]
theorem map_two {α β : Type} {f : α → β} {a b : α} {a' b' : β} (h : f a = a') (k : f b = b') : [a, b].map f = [a', b'] := by rw [List.map_cons, List.map_cons, List.map_nil, h, k]
theorem map_three {α β : Type} {f : α → β} {a b c : α} {a' b' c' : β} (h : f a = a') (k : f b = b') (l : f c = c') : [a, b, c].map f = [a', b', c'] := by rw [List.map_cons, List.map_cons, List.map_cons, List.map_nil, h, k, l]
theorem sl_ints {q f : Bool} {l l' : List Int} (h : l = l') : AVal.sl q f (ints l) = .sl q f (ints l') := by rw [h]
end Go.Rad
/- Trees with what their names stand for. -/
namespace Go.Rad
open Go

abbrev Out := List Node × Int × Int
def atF (A : List Int) (k : Int) : Int := A.getD k.toNat 0
def putS (n : Node) (A : List Int) (out : List Node) : Out :=
  if 1024 ≤ out.length then (out, 0, 3) else (out ++ [{ n with l := n.l.map (atF A) }], out.length, 0)
def stepT (nm : ByteArray → List Node → Out) (n : Node) (A : List Int) (out : List Node) : Out := if n.op = 6 then nm n.name out else putS n A out
def goT (nm : ByteArray → List Node → Out) : List Node → List Int → List Node → Out
  | [], A, out => (out, A.getLastD 0, 0)
  | n :: ns, A, out =>
    if (stepT nm n A out).2.2 = 0 then goT nm ns (A ++ [(stepT nm n A out).2.1]) (stepT nm n A out).1
    else ((stepT nm n A out).1, 0, (stepT nm n A out).2.2)
def dfind (ds : List Df) (s : ByteArray) : Option Df := ds.find? fun d => decide (d.name = s)
def hasB (op : List ByteArray) (s : ByteArray) : Bool := op.any fun x => decide (x = s)
theorem hasB_iff {op : List ByteArray} {s : ByteArray} : hasB op s = true ↔ s ∈ op := by
  simp [hasB]
theorem hasB_no {op : List ByteArray} {s : ByteArray} : hasB op s = false ↔ s ∉ op := by
  rw [← hasB_iff]; simp
def nameT (ds : List Df) : Nat → List ByteArray → ByteArray → List Node → Out
  | 0, _, _, out => (out, 0, 61)
  | f + 1, op, s, out =>
    match dfind ds s with
    | none => (out, 0, 60)
    | some d => if hasB op s = true then (out, 0, 61) else goT (nameT ds f (op ++ [s])) d.l [] out

def dmap (ds : List Df) : List (ByteArray × AVal) := ds.map fun d => (d.name, .sl true false (nodes d.l))
def omap (op : List ByteArray) : List (ByteArray × AVal) := op.map fun s => (s, .bool true)
theorem mfind_dmap (ds : List Df) (s : ByteArray) : mfind (dmap ds) s = (dfind ds s).map fun d => .sl true false (nodes d.l) := by
  simp only [mfind, dmap, dfind, List.find?_map, Option.map_map]
  rfl
theorem mfind_omap (op : List ByteArray) (s : ByteArray) : mfind (omap op) s = if hasB op s = true then some (AVal.bool true) else none := by
  induction op with
  | nil => rfl
  | cons x op ih =>
    simp only [mfind, omap, List.map_cons, List.find?_cons, hasB, List.any_cons] at ih ⊢
    by_cases h : x = s
    · subst h; simp
    · simp only [h, decide_false, Bool.false_or]
      exact ih
theorem mput_omap {op : List ByteArray} {s : ByteArray} (h : s ∉ op) : mput (omap op) s (.bool true) = omap (op ++ [s]) := by
  induction op with
  | nil => rfl
  | cons x op ih =>
    simp only [List.mem_cons, not_or] at h
    simp only [omap, List.map_cons, mput, List.cons_append, if_neg (Ne.symm h.1)]
    rw [show mput (List.map (fun s => (s, AVal.bool true)) op) s (AVal.bool true) = _ from ih h.2]
    rfl
theorem mdel_omap {op : List ByteArray} {s : ByteArray} (h : s ∉ op) : mdel (omap (op ++ [s])) s = omap op := by
  induction op with
  | nil => simp [omap, mdel]
  | cons x op ih =>
    simp only [List.mem_cons, not_or] at h
    simp only [omap, List.map_cons, mdel, List.cons_append, if_neg (Ne.symm h.1)]
    rw [show mdel (List.map (fun s => (s, AVal.bool true)) (op ++ [s])) s = _ from ih h.2]
    rfl
theorem mput_dmap {ds : List Df} {d : Df} (h : ∀ e ∈ ds, e.name ≠ d.name) : mput (dmap ds) d.name (.sl true false (nodes d.l)) = dmap (ds ++ [d]) := by
  induction ds with
  | nil => rfl
  | cons x ds ih =>
    simp only [dmap, List.map_cons, mput, List.cons_append, if_neg (h x (by simp))]
    rw [show mput (List.map (fun d => (d.name, AVal.sl true false (nodes d.l))) ds) d.name (AVal.sl true false (nodes d.l)) = _ from ih fun e he => h e (by simp [he])]
    rfl

theorem bk_tm {σ : Ids} : bk σ .nil = .nil := rfl
theorem put_row {W xl : List Int} {F : Int → Int} {i : Nat} {k : Int} (hW : W = (xl.take i).map F ++ xl.drop i) (hk : xl[i]? = some k) : W.length = xl.length ∧ W[i]? = some k ∧ W.set i (F k) = (xl.take (i + 1)).map F ++ xl.drop (i + 1) := by
  have hi : i < xl.length := (List.getElem?_eq_some_iff.1 hk).1
  subst hW
  refine ⟨by simp; omega, ?_, ?_⟩
  · rw [List.getElem?_append_right (by simp; omega)]
    simp only [List.length_map, List.length_take, Nat.min_eq_left (Nat.le_of_lt hi), Nat.sub_self, List.getElem?_drop, Nat.add_zero]
    exact hk
  · have hd : xl.drop i = k :: xl.drop (i + 1) := by
      rw [List.drop_eq_getElem_cons hi]
      rw [List.getElem?_eq_getElem hi] at hk
      rw [Option.some.inj hk]
    rw [hd, List.set_append_right _ _ (by simp; omega)]
    simp only [List.length_map, List.length_take, Nat.min_eq_left (Nat.le_of_lt hi), Nat.sub_self, List.set_cons_zero]
    rw [take_one hk, List.map_append]
    simp
theorem clean_ints (l : List Int) : cleanLL (ints l) = true := by
  induction l with
  | nil => rfl
  | cons x l ih => simpa [ints, cleanLL, cleanL, clean] using ih
theorem clean_nodes (l : List Node) : cleanLL (nodes l) = true := by
  induction l with
  | nil => rfl
  | cons x l ih =>
    have := clean_ints x.l
    simp only [nodes, List.map_cons, cleanLL, cleanL, clean, this, Bool.and_self, Bool.and_true, Bool.true_and] at ih ⊢
    exact ih
theorem clean_dmap (ds : List Df) : cleanM (dmap ds) = true := by
  induction ds with
  | nil => rfl
  | cons x l ih =>
    have := clean_nodes x.l
    simp only [dmap, List.map_cons, cleanM, clean, this, Bool.and_self, Bool.and_true, Bool.true_and] at ih ⊢
    exact ih
theorem clean_omap (op : List ByteArray) : cleanM (omap op) = true := by
  induction op with
  | nil => rfl
  | cons x l ih =>
    simp only [omap, List.map_cons, cleanM, clean, Bool.true_and] at ih ⊢
    exact ih
theorem putS_ext {n : Node} {A W out : _} (h : ∀ k ∈ n.l, atF W k = atF A k) : putS n W out = putS n A out := by
  simp only [putS, List.map_congr_left h]
theorem atF_app {A B : List Int} {k : Int} (h0 : 0 ≤ k) (h : k < A.length) : atF (A ++ B) k = atF A k := by
  have : k.toNat < A.length := by omega
  simp [atF, List.getD, List.getElem?_append_left this]
theorem putS_len {n : Node} {A : List Int} {out : List Node} (h : out.length ≤ 1024) : (putS n A out).1.length ≤ 1024 := by
  unfold putS; split
  · exact h
  · simp only [List.length_append, List.length_cons, List.length_nil]; omega
theorem goT_len {nm : ByteArray → List Node → Out} (hn : ∀ s out, out.length ≤ 1024 → (nm s out).1.length ≤ 1024) : ∀ (l : List Node) (A : List Int) (out : List Node), out.length ≤ 1024 → (goT nm l A out).1.length ≤ 1024
  | [], A, out, h => h
  | n :: ns, A, out, h => by
    have h1 : (stepT nm n A out).1.length ≤ 1024 := by
      unfold stepT
      split
      · exact hn _ _ h
      · exact putS_len h
    rw [goT]
    split
    · exact goT_len hn ns _ _ h1
    · exact h1
theorem nameT_len (ds : List Df) : ∀ (f : Nat) (op : List ByteArray) (s : ByteArray) (out : List Node), out.length ≤ 1024 → (nameT ds f op s out).1.length ≤ 1024
  | 0, _, _, _, h => h
  | f + 1, op, s, out, h => by
    rw [nameT]
    split
    · exact h
    · split
      · exact h
      · exact goT_len (fun s out h => nameT_len ds f _ s out h) _ _ _ h
/-- A tree's nodes, as far as the code leans on it. -/
def treeOk (l : List Node) : Prop := (1 ≤ l.length ∧ l.length ≤ 1000000) ∧ ∀ (i : Nat) (n : Node), l[i]? = some n → n.name.size ≤ maxLen ∧ n.l.length ≤ 1000000 ∧ ∀ k ∈ n.l, 0 ≤ k ∧ k < (i : Int)
def rightD : List ByteArray → List Df → Bool
  | _, [] => true
  | seen, d :: ds => if hasB seen d.name = true ∨ nameOk d.name = false ∨ rightS d.l = false then false else rightD (seen ++ [d.name]) ds
def expandS (l : List Node) (ds : List Df) : List Node × Int :=
  if rightS l = true ∧ rightD [] ds = true then
    if (goT (nameT ds (ds.length + 1) []) l [] []).2.2 = 0 then ((goT (nameT ds (ds.length + 1) []) l [] []).1, 0) else ([], (goT (nameT ds (ds.length + 1) []) l [] []).2.2)
  else ([], 1)
theorem stk_below : ∀ (ns : List Node) (i : Nat) (st st' : List Int), stkS ns i st = some st' → st.length ≤ i → (∀ k ∈ st, 0 ≤ k ∧ k < (i : Int)) → ∀ (j : Nat) (n : Node), ns[j]? = some n → n.l.length ≤ i + j ∧ ∀ k ∈ n.l, 0 ≤ k ∧ k < ((i + j : Nat) : Int)
  | [], _, _, _, _, _, _, j, n, h => by simp at h
  | m :: ns, i, st, st', h, hl, hb, j, n, hj => by
    simp only [stkS] at h
    split at h
    · rename_i hc
      cases j with
      | zero =>
        simp only [List.getElem?_cons_zero, Option.some.injEq] at hj
        subst hj
        refine ⟨by omega, fun k hk => ?_⟩
        rw [← hc.2.2] at hk
        have := hb k (List.mem_of_mem_drop hk)
        omega
      | succ j =>
        have := stk_below ns (i + 1) _ st' h (by simp; omega) (fun k hk => by
          rcases List.mem_append.1 hk with hk | hk
          · have := hb k (List.mem_of_mem_take hk); omega
          · simp only [List.mem_singleton] at hk; omega) j n (by simpa using hj)
        rw [show i + (j + 1) = i + 1 + j by omega]
        exact this
    · cases h
theorem rightS_ok {l : List Node} (h : rightS l = true) (hn : ∀ n ∈ l, n.name.size ≤ maxLen) : treeOk l := by
  obtain ⟨_, _, h1, h2⟩ := rightS_kids h
  simp only [rightS, Bool.and_eq_true] at h
  obtain ⟨_, h3⟩ := h
  split at h3
  · rename_i st hst
    refine ⟨⟨h1, by omega⟩, fun i n hi => ?_⟩
    have := stk_below l 0 [] st hst (Nat.le_refl _) (fun k hk => by simp at hk) i n hi
    have hlt : i < l.length := (List.getElem?_eq_some_iff.1 hi).1
    rw [Nat.zero_add] at this
    exact ⟨hn n (List.mem_of_getElem? hi), by omega, this.2⟩
  · cases h3
theorem rightD_facts : ∀ (ds : List Df) (seen : List ByteArray), rightD seen ds = true → (∀ d ∈ ds, hasB seen d.name = false ∧ nameOk d.name = true ∧ rightS d.l = true) ∧ ∀ (i : Nat) (d : Df), ds[i]? = some d → ∀ e ∈ ds.take i, e.name ≠ d.name
  | [], _, _ => ⟨fun d hd => by simp at hd, fun i d h => by simp at h⟩
  | x :: ds, seen, h => by
    rw [rightD] at h
    split at h
    · cases h
    · rename_i hc
      simp only [not_or, Bool.not_eq_true, Bool.not_eq_false] at hc
      obtain ⟨f1, f2⟩ := rightD_facts ds _ h
      refine ⟨fun d hd => ?_, fun i d hi e he => ?_⟩
      · rcases List.mem_cons.1 hd with rfl | hd
        · exact hc
        · obtain ⟨a, b⟩ := f1 d hd
          refine ⟨?_, b⟩
          simp only [hasB, List.any_append, Bool.or_eq_false_iff] at a ⊢
          exact a.1
      · cases i with
        | zero => simp at he
        | succ i =>
          simp only [List.getElem?_cons_succ] at hi
          simp only [List.take_succ_cons, List.mem_cons] at he
          rcases he with rfl | he
          · have := (f1 d (List.mem_of_getElem? hi)).1
            simp only [hasB, List.any_append, Bool.or_eq_false_iff, List.any_cons, List.any_nil, Bool.or_false, decide_eq_false_iff_not] at this
            exact this.2
          · exact f2 i d hi e he
end Go.Rad
/- What the document's reader of patterns does. -/
namespace Go.Rad
open Go
structure Rd where
  p : Nat
  nodes : List Node
  deep : Int
  e : Int
  wh : Int
  deriving DecidableEq
abbrev rsto (g g1 : Nat) (s : ByteArray) (r : Rd) : Sto := [(1000, (g, .box [.str s, .int .i64 r.p, .osl 1001 g1 0 r.nodes.length, .int .i64 r.deep, .int .i64 r.e, .int .i64 r.wh])), (1001, (g1, .row 9 (nodes r.nodes)))]
def endsB (s : ByteArray) (r : Rd) : Bool := decide (s.size ≤ r.p) || decide (r.e ≠ 0)
def failS (r : Rd) (e w : Int) : Rd := if r.e = 0 then { r with e := e, wh := w } else r
def Rd.next (r : Rd) (n : Nat) : Rd := { r with p := r.p + n }
def putR (r : Rd) (n : Node) : Rd := { r with nodes := r.nodes ++ [n] }
def inS (c : Nat) (l : ByteArray) : Bool := (List.range l.size).any fun i => decide (bt l i = c)
def specialS : ByteArray := ⟨#[124, 42, 43, 63, 123, 125, 40, 41, 91, 93, 46, 92, 47, 36, 94, 34]⟩
def markS : ByteArray := ⟨#[93, 45, 94]⟩
def hexS (c : Nat) : Int := if 48 ≤ c ∧ c ≤ 57 then (c : Int) - 48 else if 97 ≤ c ∧ c ≤ 102 then (c : Int) - 97 + 10 else -1
abbrev bI (s : ByteArray) (n : Nat) : Int := (bt s n : Int)
/-- A byte, or an escape. -/
def oneS (s : ByteArray) (r : Rd) : Rd × Int :=
  if bI s r.p ≠ 92 then (r.next 1, bI s r.p)
  else if endsB s (r.next 1) = true then (failS (r.next 1) 40 s.size, 0)
  else if bI s (r.p + 1) = 110 then (r.next 2, 10)
  else if bI s (r.p + 1) = 116 then (r.next 2, 9)
  else if bI s (r.p + 1) = 114 then (r.next 2, 13)
  else if bI s (r.p + 1) = 120 then
    if (s.size : Int) ≤ (r.p : Int) + 3 then (failS (r.next 2) 40 s.size, 0)
    else if 0 ≤ hexS (bt s (r.p + 2)) ∧ 0 ≤ hexS (bt s (r.p + 3)) then (r.next 4, IntKind.u8.wrap (16 * hexS (bt s (r.p + 2)) + hexS (bt s (r.p + 3))))
    else (failS (r.next 4) 43 r.p, 0)
  else if inS (bt s (r.p + 1)) specialS = true ∨ bI s (r.p + 1) = 45 then (r.next 2, bI s (r.p + 1))
  else (failS (r.next 2) 43 r.p, 0)
def memberS (s : ByteArray) (r : Rd) : Rd × Int :=
  if endsB s r = true then (failS r 40 s.size, 0)
  else if inS (bt s r.p) markS = true then (failS r 44 r.p, 0)
  else oneS s r
/-- A number of bounds, as far as there are digits. -/
def numLoop (s : ByteArray) : Nat → Rd → Int → Option (Rd × Int)
  | 0, _, _ => none
  | f + 1, r, n => if endsB s r = false ∧ digitN (bt s r.p) = true then numLoop s f (r.next 1) (min (n * 10 + (bI s r.p - 48)) 1000000) else some (r, n)

def nameLoop (s : ByteArray) : Nat → Rd → Option Rd
  | 0, _ => none
  | f + 1, r => if endsB s r = false ∧ bI s r.p ≠ 125 then nameLoop s f (r.next 1) else some r
/-- A name in braces. -/
def nameR (s : ByteArray) (f : Nat) (r : Rd) : Option (Rd × Int) :=
  match nameLoop s f (r.next 1) with
  | none => none
  | some q =>
    if 100000 < q.nodes.length then none
    else if endsB s q = true then some (failS q 40 s.size, 0)
    else if nameOk (s.extract (r.p + 1) q.p) = false then some (failS q 41 (r.p + 1 : Nat), 0)
    else some (putR (q.next 1) ⟨6, ISet.none, [], 0, 0, s.extract (r.p + 1) q.p⟩, q.nodes.length)
theorem nameLoop_facts {s : ByteArray} : ∀ {f : Nat} {r q : Rd}, nameLoop s f r = some q → q.nodes = r.nodes ∧ q.deep = r.deep ∧ q.e = r.e ∧ q.wh = r.wh ∧ r.p ≤ q.p
  | 0, _, _, h => by simp [nameLoop] at h
  | f + 1, r, q, h => by
    rw [nameLoop] at h
    split at h
    · obtain ⟨a, b, c, d, e⟩ := nameLoop_facts h
      simp only [Rd.next] at a b c d e
      exact ⟨a, b, c, d, by omega⟩
    · simp only [Option.some.injEq] at h
      subst h
      exact ⟨rfl, rfl, rfl, rfl, Nat.le_refl _⟩

theorem failS_facts (r : Rd) (e w : Int) : (failS r e w).p = r.p ∧ (failS r e w).nodes = r.nodes ∧ (failS r e w).deep = r.deep := by
  unfold failS; split <;> exact ⟨rfl, rfl, rfl⟩
theorem oneS_facts (s : ByteArray) (r : Rd) : r.p < (oneS s r).1.p ∧ (oneS s r).1.nodes = r.nodes ∧ (oneS s r).1.deep = r.deep ∧ 0 ≤ (oneS s r).2 ∧ (oneS s r).2 ≤ 255 := by
  have hb : ∀ n, 0 ≤ bI s n ∧ bI s n ≤ 255 := fun n => by have := bt_le s n; unfold bI; omega
  have hw : ∀ n, 0 ≤ IntKind.u8.wrap n ∧ IntKind.u8.wrap n ≤ 255 := by
    intro n; simp [IntKind.wrap, IntKind.signed, IntKind.bits]; omega
  unfold oneS
  repeat' split
  all_goals simp only [(failS_facts _ _ _).1, (failS_facts _ _ _).2.1, (failS_facts _ _ _).2.2, Rd.next, true_and]
  all_goals first
    | (refine ⟨by omega, ?_, ?_⟩ <;> first | omega | exact (hb _).1 | exact (hb _).2 | exact (hw _).1 | exact (hw _).2)
theorem memberS_facts (s : ByteArray) (r : Rd) : r.p ≤ (memberS s r).1.p ∧ (memberS s r).1.nodes = r.nodes ∧ (memberS s r).1.deep = r.deep ∧ 0 ≤ (memberS s r).2 ∧ (memberS s r).2 ≤ 255 := by
  unfold memberS
  split
  · simp only [(failS_facts _ _ _).1, (failS_facts _ _ _).2.1, (failS_facts _ _ _).2.2, true_and]; omega
  · split
    · simp only [(failS_facts _ _ _).1, (failS_facts _ _ _).2.1, (failS_facts _ _ _).2.2, true_and]; omega
    · have := oneS_facts s r
      exact ⟨by omega, this.2⟩

theorem ACall.part {P : Program} {f : Nat} {args args1 : List AVal} {sto sto1 : Sto} {v : AVal} (σ : Ids) (hσ : okIds σ = true) (h : ACall P f args1 sto1 fun r s => r = v ∧ s = sto1) (ha : args.map (tr σ [] sto) = args1) (hs1 : mkSto σ [] sto σ = sto1) (hc1 : stoCells sto1 = true) (hv : bk σ v = v) (hb : bkS σ sto1 (delAll σ sto) = sto) (hc : stoCells sto = true) :
    ACall P f args sto fun r s => r = v ∧ s = sto := by
  refine ACall.use σ [] hσ h ha hs1 hc1 fun r s hr => ?_
  obtain ⟨rfl, rfl⟩ := hr
  rw [hb]
  exact ⟨.inl rfl, hc, hv, rfl⟩
end Go.Rad
/- Contracts of the reader's small parts. -/
namespace Go.Rad
open Go Go.Proofs
set_option linter.all false
set_option maxRecDepth 20000
set_option maxHeartbeats 4000000

theorem in_no {c : Nat} {l : ByteArray} {i : Nat} (h : i < l.size) (hc : bt l i = c) : inS c l = true := by
  simp only [inS, List.any_eq_true, List.mem_range, decide_eq_true_eq]
  exact ⟨i, h, hc⟩
theorem in4uc (c : Nat) (l : ByteArray) (hl : l.size ≤ 1000000) : ACall Try.prog 95 [.int .u8 c, .str l] [] fun r s => r = .bool (inS c l) ∧ s = [] := by
  refine ACall.enter Try.func95 rfl (by kernel_rfl) (Nat.le_of_ble_eq_true rfl) ?_; simp only [initTm, Nat.reduceAdd]
  repeat' (first
  | refine gSq ?_ | refine gSk ?_ | refine gBl ?_ | refine gIb ?_ | refine gEx rfl ?_
  | ((first
  | (refine gRg [] [0, 1, 4, 5, 9, 16] ?_; intro K hK)
  | (refine gd_split ?_ ?_ <;> intro hb <;> (try simp only [bls] at hb) <;> (try simp only [hb]))
  | refine gRt [] [.tmp 4] rfl ?_ | refine gDn [] [.tmp 4] rfl ?_) <;> (try simp only [go_sem, simprocAttr]))
  | (refine hK _ _ ?_; clear hK K; simp only [go_sem, simprocAttr])
  | refine gCd (by simp only [go_sem, simprocAttr]; rfl) rfl ?_
  | refine brT ?_ | refine brF ?_
  | (refine brS ?_ ?_ <;> intro hc <;> (try simp only [bls] at hc) <;> (try simp only [hc, bls]))
  | intro _ | refine And.intro ?_ ?_)
  refine AGood.prune [0, 1, 4, 5] ?_; simp only [go_sem, simprocAttr]
  refine AGood.loopInv (α := Nat) (fun i => ([(0, .int .u8 c), (1, .str l), (4, .bool false), (5, .int .i64 i)], [])) (fun i => i ≤ l.size ∧ (List.range i).any (fun i => decide (bt l i = c)) = false) (fun i => l.size - i) 0 ⟨Nat.zero_le _, rfl⟩ rfl ?_
  rintro i ⟨hi, hall⟩ ih
  simp only
  by_cases hle : i < l.size
  · have e4 : (i : Int) < l.size := by omega
    have e5 : (0 : Int) ≤ i := by omega
    by_cases hc : bt l i = c
    · rw [in_no hle hc]
      have e6 : (bt l i : Int) = c := by omega
      repeat' (first
  | refine gSq ?_ | refine gSk ?_ | refine gBl ?_ | refine gIb ?_ | refine gEx rfl ?_
  | ((first
  | (refine gRg [] [0, 1, 4, 5, 9, 16] ?_; intro K hK)
  | (refine gd_split ?_ ?_ <;> intro hb <;> (try simp only [bls] at hb) <;> (try simp only [hb]))
  | refine gRt [] [.tmp 4] rfl ?_ | refine gDn [] [.tmp 4] rfl ?_) <;> (try simp only [go_sem, simprocAttr, e4, e5, e6, sbyte_bt]))
  | (refine hK _ _ ?_; clear hK K; simp only [go_sem, simprocAttr])
  | refine gCd (by simp only [go_sem, simprocAttr]; rfl) rfl ?_
  | refine brT ?_ | refine brF ?_
  | (refine brS ?_ ?_ <;> intro hc <;> (try simp only [bls] at hc) <;> (try simp only [hc, bls]))
  | intro _ | refine And.intro ?_ ?_)
    · have e6 : ¬ (bt l i : Int) = c := by omega
      repeat' (first
  | refine gSq ?_ | refine gSk ?_ | refine gBl ?_ | refine gIb ?_ | refine gEx rfl ?_
  | ((first
  | (refine gRg [] [0, 1, 4, 5, 9, 16] ?_; intro K hK)
  | (refine gd_split ?_ ?_ <;> intro hb <;> (try simp only [bls] at hb) <;> (try simp only [hb]))
  | refine gRt [] [.tmp 4] rfl ?_ | refine gDn [] [.tmp 4] rfl ?_) <;> (try simp only [go_sem, simprocAttr, e4, e5, e6, sbyte_bt]))
  | (refine hK _ _ ?_; clear hK K; simp only [go_sem, simprocAttr])
  | refine gCd (by simp only [go_sem, simprocAttr]; rfl) rfl ?_
  | refine brT ?_ | refine brF ?_
  | (refine brS ?_ ?_ <;> intro hc <;> (try simp only [bls] at hc) <;> (try simp only [hc, bls]))
  | intro _ | refine And.intro ?_ ?_)
      all_goals first | omega | (unfold bigLen; omega) | exact ⟨_, _, ⟨rfl, rfl⟩, rfl⟩ | exact ⟨_, rfl⟩ | (rename_i hy; simp only [List.mem_singleton] at hy; subst hy; rfl) | with_reducible rfl | skip
      refine AGood.prune [0, 1, 4, 5] ?_; simp only [go_sem, simprocAttr]
      exact (ih (i + 1) ⟨by omega, by rw [List.range_succ, List.any_append, hall]; simp [hc]⟩ (by omega)).cast rfl rfl
  · have e4 : ¬ (i : Int) < l.size := by omega
    have e5 : i = l.size := by omega
    subst e5
    repeat' (first
  | refine gSq ?_ | refine gSk ?_ | refine gBl ?_ | refine gIb ?_ | refine gEx rfl ?_
  | ((first
  | (refine gRg [] [0, 1, 4, 5, 9, 16] ?_; intro K hK)
  | (refine gd_split ?_ ?_ <;> intro hb <;> (try simp only [bls] at hb) <;> (try simp only [hb]))
  | refine gRt [] [.tmp 4] rfl ?_ | refine gDn [] [.tmp 4] rfl ?_) <;> (try simp only [go_sem, simprocAttr, e4]))
  | (refine hK _ _ ?_; clear hK K; simp only [go_sem, simprocAttr])
  | refine gCd (by simp only [go_sem, simprocAttr]; rfl) rfl ?_
  | refine brT ?_ | refine brF ?_
  | (refine brS ?_ ?_ <;> intro hc <;> (try simp only [bls] at hc) <;> (try simp only [hc, bls]))
  | intro _ | refine And.intro ?_ ?_)
    exact congrArg AVal.bool hall.symm
theorem special4uc : ACall Try.prog 96 [] [] fun r s => r = .str specialS ∧ s = [] := by
  refine ACall.enter Try.func96 rfl (by kernel_rfl) (Nat.le_of_ble_eq_true rfl) ?_; simp only [initTm, Nat.reduceAdd]
  repeat' (first
  | refine gSq ?_ | refine gSk ?_ | refine gBl ?_ | refine gIb ?_ | refine gEx rfl ?_
  | ((first
  | (refine gRg [] [0] ?_; intro K hK)
  | (refine gd_split ?_ ?_ <;> intro hb <;> (try simp only [bls] at hb) <;> (try simp only [hb]))
  | refine gRt [] [.tmp 0] rfl ?_ | refine gDn [] [.tmp 0] rfl ?_) <;> (try simp only [go_sem, simprocAttr]))
  | (refine hK _ _ ?_; clear hK K; simp only [go_sem, simprocAttr])
  | refine gCd (by simp only [go_sem, simprocAttr]; rfl) rfl ?_
  | refine brT ?_ | refine brF ?_
  | (refine brS ?_ ?_ <;> intro hc <;> (try simp only [bls] at hc) <;> (try simp only [hc, bls]))
  | intro _ | refine And.intro ?_ ?_)
  rfl
end Go.Rad
