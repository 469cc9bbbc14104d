/- A region that ends in a delete that is deferred. -/
import Derived.Test.YtejdlelhlpnabaaDoorKRNode
import Derived.Test.YtejdlelhlpnabaaDoorKRRow
set_option linter.all false
namespace Go.Rad
open Go
variable {P : Program} {L : Lay}

theorem vc_sound_app (hL : LOk P L) {q : Bool} {z : List Nat} {E : Gh} {nt : Nat} {ds : List Deferred} (ops : List Oper) {K : Tm → Sto → Prop} {Q : Exit → Act → World → Prop} (rest : List Oper)
    (hQ : ∀ G tm sto a w, K tm sto → Sim E nt ds tm sto a w G → wpList P ops.toArray Q rest a w) :
    ∀ (os : List Oper) (tm : Tm) (sto : Sto) (a : Act) (w : World) (G : Gh), okOps L nt os = true → Sim E nt ds tm sto a w G → vc L P q z (ops.map (·.dst)) os tm sto K → wpList P ops.toArray Q (os ++ rest) a w
  | [], tm, sto, a, w, G, _, hsim, h => hQ G tm sto a w h hsim
  | o :: os, tm, sto, a, w, G, hok, hsim, h => by
    have hok1 : okOps L nt [o] = true := by simp only [okOps, List.all_cons, Bool.and_eq_true] at hok ⊢; exact ⟨hok.1, rfl⟩
    have hok2 : okOps L nt os = true := by simp only [okOps, List.all_cons, Bool.and_eq_true] at hok ⊢; exact hok.2
    have hdst : (match o.dst with | some d => decide (d < nt) | none => true) = true := by
      simp only [okOps, List.all_cons, List.all_nil, Bool.and_true, Bool.and_eq_true] at hok1
      exact hok1.1.2
    unfold vc at h
    rw [List.cons_append]
    unfold wpList
    split at h
    · rename_i hg
      rw [if_pos (by simp [Region.wanted, hg])]
      exact .inl (step_sound hL hsim hok1 h fun G' w' r v sto' hT hs => vc_sound_app hL ops rest hQ os _ _ _ _ _ hok2 hs hT)
    · rename_i j want hg
      split at h
      · rename_i t hj
        split at h
        · rename_i b hb
          have hy := yielded_bool hsim.tok hj hb
          have hsub : ∀ c, b = c → Sim E nt ds ((t, .bool c) :: tm) sto a w G := by
            rintro c rfl
            refine ⟨hsim.ext, hsim.wok, hsim.sok, fun t' => ?_, hsim.n, hsim.d⟩
            simp only [lk]
            split
            · rename_i e; subst e; rw [← hb]; exact hsim.tok _
            · exact hsim.tok t'
          by_cases hbw : b = want
          · rw [if_pos (by simp [Region.wanted, hg, hy, hbw])]
            exact .inl (step_sound hL (hsub want hbw) hok1 (h.1 hbw) fun G' w' r v sto' hT hs => vc_sound_app hL ops rest hQ os _ _ _ _ _ hok2 hs hT)
          · rw [if_neg (by simp [Region.wanted, hg, hy, hbw])]
            have hbn : b = !want := by cases b <;> cases want <;> simp_all
            exact vc_sound_app hL ops rest hQ os _ _ _ _ G hok2 ((hsub _ hbn).put (.refl G) hsim.wok hsim.sok hdst (.tup rfl fun j x hx => by simp at hx)) (h.2 hbn)
        · rename_i hb
          have hy := yielded_none hsim.tok hj hb
          rw [if_neg (by simp [Region.wanted, hg, hy])]
          exact vc_sound_app hL ops rest hQ os _ _ _ _ G hok2 (hsim.put (.refl G) hsim.wok hsim.sok hdst (.tup rfl fun j x hx => by simp at hx)) h
        · exact h.elim
      · exact h.elim

theorem AGood.regDefer {f : Nat} {fn : Func} {df : List DDel} {k : List Item} {tm : Tm} {sto : Sto} {R : AVal → Sto → Prop} (hL : LOk P L) (z : List Nat) {id : Nat} {ops : List Oper} (ps : List Nat) (pre : List Oper) (x y : Operand) (t t2 : TypeId) (ty : TypeId) (pos : String) (af : Array Edge)
    (hops : ops = pre ++ [⟨none, .defer ⟨.builtin .delete, #[x, y], #[t, t2]⟩, ty, pos, af, none⟩]) (hx : operandOk x = true) (hy : operandOk y = true) (hok : okOps L fn.ntmps pre = true)
    (h : vc L P false z (ops.map (·.dst)) pre tm sto fun tm' sto' => AGood P f fn (⟨t, t2, ev tm' x, ev tm' y⟩ :: df) k (Rad.prune ps tm') sto' R) : AGood P f fn df (.code (.region id ops.toArray false) :: k) tm sto R := by
  refine ⟨?_⟩
  intro E G a w b h1 h2 h3 h4 h5 h6 h7 h8 h9
  refine Good.of_wp (Q := fun e a' w' => e = .normal ∧ Good P f (Post E R) b k a' w') (wp_region_lit ?_) fun e a' w' hq => hq
  rw [show wpList P ops.toArray (fun e a' w' => e = .normal ∧ Good P f (Post E R) b k a' w') ops a w = wpList P ops.toArray (fun e a' w' => e = .normal ∧ Good P f (Post E R) b k a' w') (pre ++ [⟨none, .defer ⟨.builtin .delete, #[x, y], #[t, t2]⟩, ty, pos, af, none⟩]) a w from by rw [← hops]]
  refine vc_sound_app hL (E := G) (nt := fn.ntmps) (ds := a.defers) ops (K := fun tm' sto' => AGood P f fn (⟨t, t2, ev tm' x, ev tm' y⟩ :: df) k (Rad.prune ps tm') sto' R) _ (fun G' tm' sto' a' w' hk hs => ?_) pre tm sto a w G hok ⟨.refl G, h7, h8, h9, h4, rfl⟩ h
  unfold wpList
  rw [if_pos (by simp [Region.wanted])]
  refine .inl ?_
  have hrun : (execOp a'.eval ⟨none, .defer ⟨.builtin .delete, #[x, y], #[t, t2]⟩, ty, pos, af, none⟩).run P w' = .ok (.defer { target := .builtin .delete #[t, t2] ty (#[x, y].map fun | .const _ => true | _ => false), args := #[a'.eval x, a'.eval y] }) w' := by
    have hm : (#[x, y] : Array Operand).map a'.eval = #[a'.eval x, a'.eval y] := by simp
    simp only [execOp, resolve, Sem.run_bind, Sem.run_pure, Result.andThen_ok, hm]; rfl
  unfold Oper.wp
  rw [hrun, Oper.upon_defer]
  unfold wpList
  refine ⟨rfl, ?_⟩
  exact hk.go E G' { a' with defers := _ :: a'.defers } w' b h1 h2 h3 hs.n ⟨⟨_, _, _, _, rfl, ev_rep hs.wok hs.tok hx, ev_rep hs.wok hs.tok hy⟩, hs.d ▸ h5.mono hs.ext.toMono⟩ (h6.trans hs.ext) hs.wok hs.sok (hs.tok.prune ps)
theorem AGood.regDeferN {f : Nat} {fn : Func} {df : List DDel} {k : List Item} {tm : Tm} {sto : Sto} {R : AVal → Sto → Prop} (hL : LOk P L) (z : List Nat) (n : Nat) {id : Nat} {ops : List Oper} (ps : List Nat) {x y : Operand} {t t2 : TypeId} {ty : TypeId} {pos : String} {af : Array Edge}
    (hops : ops = ops.take n ++ [⟨none, .defer ⟨.builtin .delete, #[x, y], #[t, t2]⟩, ty, pos, af, none⟩]) (hx : operandOk x = true) (hy : operandOk y = true) (hok : okOps L fn.ntmps (ops.take n) = true)
    (h : ∀ K : Tm → Sto → Prop, (∀ tm' sto', AGood P f fn (⟨t, t2, ev tm' x, ev tm' y⟩ :: df) k (Rad.prune ps tm') sto' R → K tm' sto') → vc L P false z (ops.map (·.dst)) (ops.take n) tm sto K) : AGood P f fn df (.code (.region id ops.toArray false) :: k) tm sto R :=
  AGood.regDefer hL z ps (ops.take n) x y t t2 ty pos af hops hx hy hok (h _ fun _ _ h => h)

theorem AGood.retD {f : Nat} {fn : Func} {df : List DDel} {k : List Item} {tm : Tm} {sto : Sto} {R : AVal → Sto → Prop} (hL : LOk P L) (keep : List Nat) (rs : List ResultVar) (hr : fn.results.toList = rs) (hty : (df.all fun d => decide ((L d.t).ty ≠ .other)) = true) (h : runDf L df sto fun sto' => vcRes L rs tm sto' fun vs => R (retv vs) (sfilt keep sto')) : AGood P f fn df (.code .ret :: k) tm sto R := by
  have h' : AGood P f fn df (.code .ret :: k) tm sto (fun r s => R r (sfilt keep s)) := AGood.ret hL (fun d hd => by simpa using List.all_eq_true.1 hty d hd) (by rw [hr]; exact h)
  refine ⟨fun E G a w b h1 h2 h3 h4 h5 h6 h7 h8 h9 cs => ?_⟩
  obtain ⟨e, w', fr, ⟨G', cr, r, sto', x1, x2, x3, x4, x5, x6⟩, h11, h12, h13⟩ := h'.go E G a w b h1 h2 h3 h4 h5 h6 h7 h8 h9 cs
  exact ⟨e, w', fr, ⟨G', cr, r, _, x1, x2, x3, sto_filt keep x4, x5, x6⟩, h11, h12, h13⟩
end Go.Rad
/- Bytes of texts. -/
namespace Go.Rad
open Go

def bt (s : ByteArray) (n : Nat) : Nat := ((s.data.toList[n]?).getD 0).toNat
theorem sbyte_bt (s : ByteArray) (n : Nat) : sbyte s n = (bt s n : Int) := rfl
theorem bt_le (s : ByteArray) (n : Nat) : bt s n ≤ 255 := by
  have := UInt8.toNat_lt ((s.data.toList[n]?).getD 0)
  unfold bt; omega

def letterN (c : Nat) : Bool := decide (97 ≤ c ∧ c ≤ 122 ∨ 65 ≤ c ∧ c ≤ 90 ∨ c = 95)
def digitN (c : Nat) : Bool := decide (48 ≤ c ∧ c ≤ 57)
def nmB (s : ByteArray) (i : Nat) : Bool := letterN (bt s i) || (decide (i ≠ 0) && digitN (bt s i))
/-- A name's text. -/
def nameOk (s : ByteArray) : Bool := (List.range s.size).all (nmB s) && decide (1 ≤ s.size) && decide (s.size ≤ 32)
theorem name_no {s : ByteArray} {i : Nat} (hle : i < s.size) (h : nmB s i = false) : false = nameOk s := by
  have : (List.range s.size).all (nmB s) = false := by
    rw [List.all_eq_false]
    exact ⟨i, List.mem_range.2 hle, by simp [h]⟩
  simp [nameOk, this]
theorem all_succ {p : Nat → Bool} {i : Nat} (h : (List.range i).all p = true) (hi : p i = true) : (List.range (i + 1)).all p = true := by
  rw [List.range_succ, List.all_append, h]; simp [hi]
end Go.Rad
/- Trees of nodes: what they are, by the document's walk and by a stack of roots, and that both are the same. -/
namespace Go.Rad
open Go

def shapeOk (n : Node) : Bool :=
  let set := decide (n.s ≠ ISet.none)
  let bounds := decide (n.lo ≠ 0 ∨ n.hi ≠ 0)
  let name := decide (n.name ≠ ByteArray.empty)
  if n.op = 1 then !set && !bounds && !name && decide (n.l.length = 0)
  else if n.op = 2 then set && !bounds && !name && decide (n.l.length = 0)
  else if n.op = 3 ∨ n.op = 4 then !set && !bounds && !name && decide (2 ≤ n.l.length)
  else if n.op = 5 then !set && !name && decide (n.l.length = 1) && decide (0 ≤ n.lo ∧ n.lo ≤ 4096) && decide (n.hi = -1 ∨ 1 ≤ n.hi ∧ n.hi ≤ 4096 ∧ n.lo ≤ n.hi)
  else if n.op = 6 then !set && !bounds && nameOk n.name && decide (n.l.length = 0)
  else false

def kidStep (w : Int → List Int → List Int × Bool) (at_ : Int) (r : List Int × Bool) (k : Int) : List Int × Bool := if r.2 then (if k < 0 ∨ at_ ≤ k then (r.1, false) else w k r.1) else r
/-- The nodes of a tree, as they are come to. -/
def walkS (ns : List Node) : Nat → Int → List Int → List Int × Bool
  | 0, _, seen => (seen, false)
  | fuel + 1, at_, seen =>
    if ns.length ≤ seen.length then (seen, false)
    else if ((ns.getD at_.toNat default).l.foldl (kidStep (walkS ns fuel) at_) (seen, true)).2 then (((ns.getD at_.toNat default).l.foldl (kidStep (walkS ns fuel) at_) (seen, true)).1 ++ [at_], true) else (ns.getD at_.toNat default).l.foldl (kidStep (walkS ns fuel) at_) (seen, true)
theorem kid_false (w : Int → List Int → List Int × Bool) (at_ : Int) : ∀ (l : List Int) (r : List Int × Bool), r.2 = false → l.foldl (kidStep w at_) r = r
  | [], _, _ => rfl
  | k :: l, r, h => by
    rw [List.foldl_cons, show kidStep w at_ r k = r by simp [kidStep, h]]
    exact kid_false w at_ l r h
theorem kid_at {w : Int → List Int → List Int × Bool} {at_ : Int} {l : List Int} {i : Nat} {k : Int} {r0 r : List Int × Bool} (hk : l[i]? = some k) (h : (l.take i).foldl (kidStep w at_) r0 = r) (hf : (kidStep w at_ r k).2 = false) : l.foldl (kidStep w at_) r0 = kidStep w at_ r k := by
  have hi : i < l.length := (List.getElem?_eq_some_iff.1 hk).1
  have e : l = l.take (i + 1) ++ l.drop (i + 1) := (List.take_append_drop _ _).symm
  rw [e, List.foldl_append, take_one hk, List.foldl_append, h, List.foldl_cons, List.foldl_nil, kid_false _ _ _ _ hf]

abbrev rg (n : Nat) : List Int := (List.range n).map fun (i : Nat) => (i : Int)
theorem rg_succ (n : Nat) : rg (n + 1) = rg n ++ [(n : Int)] := by simp [rg, List.range_succ]
theorem rg_len (n : Nat) : (rg n).length = n := by simp [rg]
theorem rg_get {n i : Nat} {k : Int} (h : (rg n)[i]? = some k) : k = i := by
  simp only [rg, List.getElem?_map, List.getElem?_range, Option.map_eq_some_iff] at h
  obtain ⟨a, h, rfl⟩ := h
  rw [List.getElem?_eq_some_iff] at h
  obtain ⟨h1, h2⟩ := h
  simp at h2; omega

/-- Whether nodes are a tree. -/
def right4 (ns : List Node) : Bool :=
  if ns.length < 1 ∨ 1024 < ns.length then false
  else if ns.all shapeOk then
    let r := walkS ns ns.length ((ns.length : Int) - 1) []
    r.2 && decide (r.1 = (List.range ns.length).map fun (i : Nat) => (i : Int))
  else false

/-- By a stack of roots. -/
def stkS : List Node → Nat → List Int → Option (List Int)
  | [], _, st => some st
  | n :: ns, i, st => if shapeOk n = true ∧ n.l.length ≤ st.length ∧ st.drop (st.length - n.l.length) = n.l then stkS ns (i + 1) (st.take (st.length - n.l.length) ++ [(i : Int)]) else none
def rightS (l : List Node) : Bool := decide (1 ≤ l.length ∧ l.length ≤ 1024) && (match stkS l 0 [] with | some st => decide (st.length = 1) | none => false)

/-- Trees one behind the other, from a place to a place: their roots. -/
inductive Kids (ns : List Node) : Nat → List Int → Nat → Prop
  | nil {lo : Nat} : Kids ns lo [] lo
  | cons {lo k hi : Nat} {n : Node} {l : List Int} : ns[k]? = some n → Kids ns lo n.l k → Kids ns (k + 1) l hi → Kids ns lo ((k : Int) :: l) hi

theorem Kids.le {ns : List Node} {lo hi : Nat} {l : List Int} (h : Kids ns lo l hi) : lo ≤ hi := by
  induction h with
  | nil => exact Nat.le_refl _
  | cons _ _ _ a b => omega
theorem Kids.lt {ns : List Node} {lo hi : Nat} {l : List Int} (h : Kids ns lo l hi) : ∀ k ∈ l, 0 ≤ k ∧ k < hi := by
  induction h with
  | nil => intro k hk; simp at hk
  | @cons lo k hi n l h1 h2 h3 a b =>
    intro k' hk
    have := h3.le
    rcases List.mem_cons.1 hk with rfl | hk
    · omega
    · exact b _ hk
theorem Kids.append {ns : List Node} {lo m hi : Nat} {a b : List Int} (h : Kids ns lo a m) (k : Kids ns m b hi) : Kids ns lo (a ++ b) hi := by
  induction h with
  | nil => exact k
  | cons h1 h2 _ _ ih => exact .cons h1 h2 (ih k)
theorem Kids.split {ns : List Node} {hi : Nat} {b : List Int} : ∀ {a : List Int} {lo : Nat}, Kids ns lo (a ++ b) hi → ∃ m, Kids ns lo a m ∧ Kids ns m b hi
  | [], lo, h => ⟨lo, .nil, h⟩
  | x :: a, lo, h => by
    cases h with
    | cons h1 h2 h3 =>
      obtain ⟨m, p, q⟩ := Kids.split h3
      exact ⟨m, .cons h1 h2 p, q⟩
theorem Kids.mono {ns ns' : List Node} (hm : ∀ (i : Nat) (n : Node), ns[i]? = some n → ns'[i]? = some n) {lo hi : Nat} {l : List Int} (h : Kids ns lo l hi) : Kids ns' lo l hi := by
  induction h with
  | nil => exact .nil
  | cons h1 _ _ a b => exact .cons (hm _ _ h1) a b
theorem Kids.one {ns : List Node} {lo hi : Nat} {k : Int} (h : Kids ns lo [k] hi) : k = (hi : Int) - 1 ∧ 0 < hi := by
  cases h with
  | cons h1 h2 h3 => cases h3; constructor <;> omega

theorem stk_kids (l : List Node) : ∀ (ns : List Node) (i : Nat) (st st' : List Int), l.drop i = ns → stkS ns i st = some st' → Kids l 0 st i → Kids l 0 st' (i + ns.length)
  | [], i, st, st', _, h, hk => by simp only [stkS, Option.some.injEq] at h; subst h; exact hk
  | n :: ns, i, st, st', hd, h, hk => by
    simp only [stkS] at h
    split at h
    · rename_i hc
      obtain ⟨_, hle, hdr⟩ := hc
      have hn : l[i]? = some n := by
        have : (l.drop i)[0]? = some n := by rw [hd]; rfl
        simpa using this
      have hd' : l.drop (i + 1) = ns := by rw [← List.tail_drop, hd]; rfl
      have e : st = st.take (st.length - n.l.length) ++ n.l := by
        conv => lhs; rw [← List.take_append_drop (st.length - n.l.length) st]
        rw [hdr]
      rw [e] at hk
      obtain ⟨m, k1, k2⟩ := hk.split
      have := stk_kids l ns (i + 1) _ st' hd' h (k1.append (.cons hn k2 .nil))
      simpa [Nat.add_assoc, Nat.add_comm 1] using this
    · cases h
theorem rightS_kids {l : List Node} (h : rightS l = true) : Kids l 0 [(l.length : Int) - 1] l.length ∧ l.all shapeOk = true ∧ 1 ≤ l.length ∧ l.length ≤ 1024 := by
  simp only [rightS, Bool.and_eq_true, decide_eq_true_eq] at h
  obtain ⟨⟨h1, h2⟩, h3⟩ := h
  split at h3
  · rename_i st hst
    have := stk_kids l l 0 [] st rfl hst .nil
    simp only [decide_eq_true_eq] at h3
    match st, h3, this with
    | [k], _, hk =>
      rw [Nat.zero_add] at hk
      rw [← hk.one.1]
      refine ⟨hk, ?_, h1, h2⟩
      rw [List.all_eq_true]
      have key : ∀ (ns : List Node) (i : Nat) (st st' : List Int), stkS ns i st = some st' → ∀ n ∈ ns, shapeOk n = true := by
        intro ns
        induction ns with
        | nil => intro _ _ _ _ n hn; simp at hn
        | cons n ns ih =>
          intro i st st' h m hm
          simp only [stkS] at h
          split at h
          · rename_i hc
            rcases List.mem_cons.1 hm with rfl | hm
            · exact hc.1
            · exact ih _ _ _ h m hm
          · cases h
      exact key _ _ _ _ hst
  · cases h3

theorem kids_stk {l : List Node} (hall : l.all shapeOk = true) {lo hi : Nat} {ks : List Int} (h : Kids l lo ks hi) : ∀ st : List Int, stkS (l.drop lo) lo st = stkS (l.drop hi) hi (st ++ ks) := by
  induction h with
  | nil => intro st; simp
  | @cons lo k hi n ks h1 h2 h3 ih1 ih2 =>
    intro st
    have hk : k < l.length := (List.getElem?_eq_some_iff.1 h1).1
    have e : l.drop k = n :: l.drop (k + 1) := by
      rw [List.drop_eq_getElem_cons hk]
      rw [List.getElem?_eq_getElem hk] at h1
      rw [Option.some.inj h1]
    have hs : shapeOk n = true := (List.all_eq_true.1 hall) _ (List.mem_of_getElem? h1)
    rw [ih1 st, e, stkS, if_pos ⟨hs, by simp, by simp⟩, ih2]
    congr 1
    simp
theorem kids_rightS {l : List Node} {k : Int} (h : Kids l 0 [k] l.length) (hall : l.all shapeOk = true) (h1 : l.length ≤ 1024) : rightS l = true := by
  have := kids_stk hall h []
  simp only [List.drop_zero, List.drop_length, List.nil_append, stkS] at this
  have h0 := h.one.2
  simp only [rightS, this, Bool.and_eq_true, decide_eq_true_eq]
  exact ⟨⟨h0, h1⟩, rfl⟩

theorem kids_walk {ns : List Node} {lo hi : Nat} {ks : List Int} (h : Kids ns lo ks hi) : ∀ (fuel at_ : Nat), hi ≤ fuel → hi ≤ at_ → ks.foldl (kidStep (walkS ns fuel) at_) (rg lo, true) = (rg hi, true) := by
  induction h with
  | nil => intro _ _ _ _; rfl
  | @cons lo k hi n ks h1 h2 h3 ih1 ih2 =>
    intro fuel at_ hf ha
    have hle := h3.le
    have hle2 := h2.le
    obtain ⟨f, rfl⟩ : ∃ f, fuel = f + 1 := ⟨fuel - 1, by omega⟩
    have hk : k < ns.length := (List.getElem?_eq_some_iff.1 h1).1
    have hw : walkS ns (f + 1) k (rg lo) = (rg (k + 1), true) := by
      have hgd : ns.getD (k : Int).toNat default = n := by simp [List.getD, h1]
      rw [walkS, if_neg (by rw [rg_len]; omega), hgd, ih1 f k (by omega) (Nat.le_refl _)]
      simp only [if_true, rg_succ]
    rw [List.foldl_cons, show kidStep (walkS ns (f + 1)) at_ (rg lo, true) k = walkS ns (f + 1) k (rg lo) from by simp [kidStep]; omega, hw]
    exact ih2 (f + 1) at_ hf ha
theorem kids_right4 {ns : List Node} {k : Int} (h : Kids ns 0 [k] ns.length) (hall : ns.all shapeOk = true) (h1 : ns.length ≤ 1024) : right4 ns = true := by
  have h0 := h.one
  have hw := kids_walk h ns.length ns.length (Nat.le_refl _) (Nat.le_refl _)
  have hk := h.lt k (by simp)
  rw [List.foldl_cons, List.foldl_nil, show kidStep (walkS ns ns.length) ns.length (rg 0, true) k = walkS ns ns.length k (rg 0) from by simp [kidStep]; omega] at hw
  rw [h0.1] at hw
  have hr0 : rg 0 = [] := rfl
  rw [hr0] at hw
  simp only [right4, if_neg (show ¬ (ns.length < 1 ∨ 1024 < ns.length) by omega), hall, if_true, hw, decide_true, Bool.and_self]

theorem rg_pre {N : Nat} {w : List Int} (h : w <+: rg N) : w = rg w.length := by
  obtain ⟨t, ht⟩ := h
  have hle : w.length ≤ N := by
    have := congrArg List.length ht
    simp at this; omega
  have : w = (rg N).take w.length := by rw [← ht]; simp
  rw [this]
  simp only [rg, ← List.map_take, List.take_range, List.length_map, List.length_range]
theorem walk_kids (ns : List Node) : ∀ (fuel : Nat),
    (∀ (at_ : Int) (lo : Nat) (w : List Int), walkS ns fuel at_ (rg lo) = (w, true) → rg lo <+: w ∧ (w <+: rg ns.length → 0 ≤ at_ → ∃ hi, w = rg hi ∧ Kids ns lo [at_] hi)) := by
  intro fuel
  induction fuel with
  | zero => intro at_ lo w h; simp [walkS] at h
  | succ fuel ih =>
    have fold : ∀ (at_ : Int) (ks : List Int) (lo : Nat) (w : List Int), ks.foldl (kidStep (walkS ns fuel) at_) (rg lo, true) = (w, true) → rg lo <+: w ∧ (w <+: rg ns.length → ∃ hi, w = rg hi ∧ Kids ns lo ks hi) := by
      intro at_ ks
      induction ks with
      | nil =>
        intro lo w h
        simp only [List.foldl_nil, Prod.mk.injEq, and_true] at h
        subst h
        exact ⟨List.prefix_rfl, fun _ => ⟨lo, rfl, .nil⟩⟩
      | cons k ks ihk =>
        intro lo w h
        rw [List.foldl_cons] at h
        have hp : kidStep (walkS ns fuel) at_ (rg lo, true) k = if k < 0 ∨ at_ ≤ k then (rg lo, false) else walkS ns fuel k (rg lo) := by simp [kidStep]
        rw [hp] at h
        split at h
        · rw [kid_false _ _ _ _ rfl] at h; cases h
        · rename_i hb
          rcases hw : walkS ns fuel k (rg lo) with ⟨u, b⟩
          rw [hw] at h
          cases b
          · rw [kid_false _ _ _ _ rfl] at h; cases h
          · obtain ⟨p1, p2⟩ := ih k lo u hw
            -- the prefix of the whole
            have hpre : ∀ (ks : List Int) (u w : List Int), ks.foldl (kidStep (walkS ns fuel) at_) (u, true) = (w, true) → u <+: w := by
              intro ks
              induction ks with
              | nil => intro u w h; simp only [List.foldl_nil, Prod.mk.injEq, and_true] at h; subst h; exact List.prefix_rfl
              | cons k ks ih2 =>
                intro u w h
                rw [List.foldl_cons] at h
                have hp : kidStep (walkS ns fuel) at_ (u, true) k = if k < 0 ∨ at_ ≤ k then (u, false) else walkS ns fuel k u := by simp [kidStep]
                rw [hp] at h
                split at h
                · rw [kid_false _ _ _ _ rfl] at h; cases h
                · rcases hw2 : walkS ns fuel k u with ⟨u2, b2⟩
                  rw [hw2] at h
                  cases b2
                  · rw [kid_false _ _ _ _ rfl] at h; cases h
                  · exact (walk_pre ns fuel k u u2 hw2).trans (ih2 _ _ h)
            have h3 := hpre ks u w h
            refine ⟨p1.trans h3, fun hN => ?_⟩
            obtain ⟨hi, rfl, hk⟩ := p2 (h3.trans hN) (by omega)
            obtain ⟨_, q2⟩ := ihk hi w h
            obtain ⟨hi2, rfl, hk2⟩ := q2 hN
            exact ⟨hi2, rfl, hk.append hk2⟩
    intro at_ lo w h
    rw [walkS] at h
    split at h
    · cases h
    · rename_i hlen
      rw [rg_len] at hlen
      rcases hf : (ns.getD at_.toNat default).l.foldl (kidStep (walkS ns fuel) at_) (rg lo, true) with ⟨u, b⟩
      rw [hf] at h
      cases b
      · simp at h
      · simp only [if_true, Prod.mk.injEq, and_true] at h
        subst h
        obtain ⟨p1, p2⟩ := fold at_ _ lo u hf
        refine ⟨p1.trans (List.prefix_append _ _), fun hN h0 => ?_⟩
        obtain ⟨hi, rfl, hk⟩ := p2 ((List.prefix_append _ _).trans hN)
        have e := rg_pre hN
        simp only [List.length_append, rg_len, List.length_cons, List.length_nil, Nat.zero_add, rg_succ, List.append_cancel_left_eq, List.cons.injEq, and_true] at e
        subst e
        have hlt : hi < ns.length := by
          have := hN.length_le
          simp only [List.length_append, rg_len, List.length_cons, List.length_nil] at this
          omega
        refine ⟨hi + 1, by rw [rg_succ], .cons (List.getElem?_eq_getElem hlt) ?_ .nil⟩
        have hgd : ns.getD (hi : Int).toNat default = ns[hi] := by simp [List.getD, List.getElem?_eq_getElem hlt]
        rw [hgd] at hk
        exact hk
where
  walk_pre (ns : List Node) : ∀ (fuel : Nat) (k : Int) (u w : List Int), walkS ns fuel k u = (w, true) → u <+: w := by
    intro fuel
    induction fuel with
    | zero => intro k u w h; simp [walkS] at h
    | succ fuel ih =>
      intro at_ u w h
      have hpre : ∀ (ks : List Int) (u w : List Int), ks.foldl (kidStep (walkS ns fuel) at_) (u, true) = (w, true) → u <+: w := by
        intro ks
        induction ks with
        | nil => intro u w h; simp only [List.foldl_nil, Prod.mk.injEq, and_true] at h; subst h; exact List.prefix_rfl
        | cons k ks ih2 =>
          intro u w h
          rw [List.foldl_cons] at h
          have hp : kidStep (walkS ns fuel) at_ (u, true) k = if k < 0 ∨ at_ ≤ k then (u, false) else walkS ns fuel k u := by simp [kidStep]
          rw [hp] at h
          split at h
          · rw [kid_false _ _ _ _ rfl] at h; cases h
          · rcases hw2 : walkS ns fuel k u with ⟨u2, b2⟩
            rw [hw2] at h
            cases b2
            · rw [kid_false _ _ _ _ rfl] at h; cases h
            · exact (ih k u u2 hw2).trans (ih2 _ _ h)
      rw [walkS] at h
      split at h
      · cases h
      · rcases hf : (ns.getD at_.toNat default).l.foldl (kidStep (walkS ns fuel) at_) (u, true) with ⟨v, b⟩
        rw [hf] at h
        cases b
        · simp at h
        · simp only [if_true, Prod.mk.injEq, and_true] at h
          subst h
          exact (hpre _ _ _ hf).trans (List.prefix_append _ _)
theorem right4ukids {ns : List Node} (h : right4 ns = true) : Kids ns 0 [(ns.length : Int) - 1] ns.length ∧ ns.all shapeOk = true ∧ 1 ≤ ns.length ∧ ns.length ≤ 1024 := by
  simp only [right4] at h
  split at h
  · cases h
  · rename_i hl
    split at h
    · rename_i hall
      simp only [Bool.and_eq_true, decide_eq_true_eq] at h
      obtain ⟨h1, h2⟩ := h
      have hw : walkS ns ns.length ((ns.length : Int) - 1) (rg 0) = (rg ns.length, true) := Prod.ext h2 h1
      obtain ⟨_, q⟩ := walk_kids ns ns.length _ 0 _ hw
      obtain ⟨hi, e, hk⟩ := q List.prefix_rfl (by omega)
      have : hi = ns.length := by rw [← rg_len hi, ← e, rg_len]
      subst this
      exact ⟨hk, hall, by omega, by omega⟩
    · cases h
theorem right_eq (ns : List Node) : rightS ns = right4 ns := by
  rw [Bool.eq_iff_iff]
  constructor
  · intro h; obtain ⟨a, b, c, d⟩ := rightS_kids h; exact kids_right4 a b d
  · intro h; obtain ⟨a, b, c, d⟩ := right4ukids h; exact kids_rightS a b d
end Go.Rad
/- A list that is nil is an own row without elements, where that is wanted. -/
namespace Go.Rad
open Go

theorem rep_own {G : Gh} {w : World} {sto : Sto} {id esz : Nat} (hw : WOk G w) (hs : StoOk G w sto) (hz : 0 < esz) :
    ∃ G', Ext G G' ∧ WOk G' w ∧ StoOk G' w (sput sto id (G.N, .row esz [])) ∧ ∀ q v, Rep G true (.sl q true []) v → Rep G' true (.osl id G.N 0 0) v := by
  obtain ⟨a, b, c⟩ := sto_put (w' := w) (id := id) (o := .row esz []) (hd := ⟨none, 0, esz⟩) (Kept.refl w) hw hs (Nat.le_refl _) (fun _ _ _ => rfl) (fun b h => by cases h)
    ⟨none, 0, newG_M _ _ _, Nat.le_refl _, Nat.zero_le _, hz, fun i x h => by simp at h, fun i j x y h => by simp at h, fun _ => rfl, fun b h => by cases h⟩
  refine ⟨_, a, b, c, fun q v h => ?_⟩
  obtain ⟨ad, cap, rfl, _, _, hf⟩ := h.sl_len
  have := hf rfl
  simp only [List.length_nil] at this
  subst this
  exact .osl (newG_M _ _ _) (Nat.le_refl _) (Nat.zero_le _) (fun _ => rfl) (fun b h => by cases h) (fun b h => by cases h)

section
variable {P : Program} {f : Nat} {fn : Func} {df : List DDel} {k : List Item} {tm : Tm} {sto : Sto} {R : AVal → Sto → Prop}

theorem AGood.ownTm (t id esz : Nat) {q : Bool} (hz : 0 < esz) (ht : lk tm t = .sl q true []) (h : ∀ g, AGood P f fn df k ((t, .osl id g 0 0) :: tm) (sput sto id (g, .row esz [])) R) : AGood P f fn df k tm sto R := by
  refine ⟨fun E G a w b h1 h2 h3 h4 h5 h6 h7 h8 h9 => ?_⟩
  obtain ⟨G', hx, hw', hs', hr⟩ := rep_own (id := id) h7 h8 hz
  refine (h G.N).go E G' a w b h1 h2 h3 h4 (h5.mono hx.toMono) (h6.trans hx) hw' hs' fun t' => ?_
  simp only [lk]
  split
  · rename_i e; subst e
    refine hr q _ ?_
    rw [← ht]; exact h9 _
  · exact (h9 t').mono hx.toMono

theorem AGood.ownBox (bid off id esz : Nat) {gb : Nat} {cs : List AVal} {q : Bool} (hz : 0 < esz) (hb : sget sto bid = some (gb, .box cs)) (hc : cs[off]? = some (.sl q true [])) (hne : id ≠ bid)
    (h : ∀ g, AGood P f fn df k tm (sput (sput sto id (g, .row esz [])) bid (gb, .box (cs.set off (.osl id g 0 0)))) R) : AGood P f fn df k tm sto R := by
  refine ⟨fun E G a w b h1 h2 h3 h4 h5 h6 h7 h8 h9 => ?_⟩
  obtain ⟨G', hx, hw', hs', hr⟩ := rep_own (id := id) h7 h8 hz
  have hget : sget (sput sto id (G.N, .row esz [])) bid = some (gb, .box cs) := by rw [sget_sput, if_neg hne]; exact hb
  obtain ⟨bb, cap, e2, k1, k2, c, e, k3, k4, k5, k6⟩ := hs'.obj _ _ _ hget
  obtain ⟨bb', cap', e2', l1, l2, c', e', l3, l4, l5, l6⟩ := h8.obj _ _ _ hb
  have hbb : bb' = bb := by
    have := hx.M _ _ _ l1
    rw [k1] at this
    simp only [Option.some.injEq, Hd.mk.injEq] at this
    exact this.1.symm
  subst hbb
  rw [l3] at k3
  simp only [Option.some.injEq, Obj.cells.injEq] at k3
  obtain ⟨rfl, rfl, _⟩ := k3
  have ho : ObjOk G' w bid gb (.box (cs.set off (.osl id G.N 0 0))) := by
    refine ⟨bb', cap, e2, k1, k2, c', e', l3, by simpa using l4, fun j x hj => ?_, fun j x hj => ?_⟩
    · rw [List.getElem?_set] at hj
      split at hj
      · split at hj
        · simp only [Option.some.injEq] at hj; subst hj; rfl
        · cases hj
      · exact l5 j x hj
    · rw [List.getElem?_set] at hj
      split at hj
      · rename_i hoj
        split at hj
        · simp only [Option.some.injEq] at hj; subst hj
          subst hoj
          exact hr q _ (l6 _ _ hc)
        · cases hj
      · exact k6 j x hj
  obtain ⟨hw2, hs2⟩ := sto_write (Kept.refl w) hw' hs' hget (Nat.le_refl _) (fun _ _ _ => rfl) ho
  exact (h G.N).go E G' a w b h1 h2 h3 h4 (h5.mono hx.toMono) (h6.trans hx) hw2 hs2 (h9.mono hx.toMono)
end

theorem ACall.ownArg {P : Program} {f : Nat} {args : List AVal} {sto : Sto} {R : AVal → Sto → Prop} (i id esz : Nat) {q : Bool} (hz : 0 < esz) (hi : args[i]? = some (.sl q true [])) (h : ∀ g, ACall P f (args.set i (.osl id g 0 0)) (sput sto id (g, .row esz [])) R) : ACall P f args sto R := by
  refine ⟨(h 0).able, fun G w cargs hw hs ha => ?_⟩
  obtain ⟨G', hx, hw', hs', hr⟩ := rep_own (id := id) hw hs hz
  refine ((h G.N).calls G' w cargs hw' hs' ⟨by simpa using ha.1, fun j x hj => ?_⟩).mono fun e w' p => p.mono hx fun _ _ h => h
  rw [List.getElem?_set] at hj
  split at hj
  · rename_i e; subst e
    split at hj
    · simp only [Option.some.injEq] at hj; subst hj
      exact hr q _ (ha.2 _ _ hi)
    · cases hj
  · exact (ha.2 j x hj).mono hx.toMono
end Go.Rad
/- Contracts used with own things lent. -/
namespace Go.Rad
open Go
/-- A contract over nothing, beside other things, of which some are lent. -/
theorem ACall.lent {P : Program} {f : Nat} {args args1 : List AVal} {sto : Sto} {v : AVal} (ln : List Nat) (h : ACall P f args1 [] fun r s => r = v ∧ s = []) (ha : args.map (tr [] ln sto) = args1) (hv : bk [] v = v) (hcl : clean v = true) (hc : stoCells sto = true) :
    ACall P f args sto fun r s => r = v ∧ s = sto := by
  refine ACall.use [] ln rfl h ha rfl rfl fun r s hr => ?_
  obtain ⟨rfl, rfl⟩ := hr
  exact ⟨.inr ⟨hcl, rfl⟩, hc, hv, rfl⟩
/-- An own row is cut off: what lies behind is forgotten. -/
theorem AGood.shrink {P : Program} {f : Nat} {fn : Func} {df : List DDel} {k : List Item} {tm : Tm} {sto : Sto} {R : AVal → Sto → Prop} (id n : Nat) {g esz : Nat} {l : List (List AVal)} (hg : sget sto id = some (g, .row esz l)) (h : AGood P f fn df k tm (sput sto id (g, .row esz (l.take n))) R) : AGood P f fn df k tm sto R := by
  refine ⟨fun E G a w b h1 h2 h3 h4 h5 h6 h7 h8 h9 => h.go E G a w b h1 h2 h3 h4 h5 h6 h7 ?_ h9⟩
  refine ⟨fun i g' o hi => ?_, fun i i' g1 g2 o o' hi hi' hne b hb => ?_⟩
  · rw [sget_sput] at hi
    split at hi
    · rename_i e; subst e
      simp only [Option.some.injEq, Prod.mk.injEq] at hi
      obtain ⟨rfl, rfl⟩ := hi
      obtain ⟨ob, cap, k1, k2, k3, k4, k5, k6, k7, k8⟩ := h8.obj _ _ _ hg
      have ht : ∀ (i : Nat) (x : List AVal), (l.take n)[i]? = some x → l[i]? = some x := by
        intro i x hx
        rw [List.getElem?_take] at hx
        split at hx
        · exact hx
        · cases hx
      refine ⟨ob, cap, k1, ?_, ?_, k4, fun i x hx => k5 i x (ht i x hx), fun i j x y hx hy => k6 i j x y (ht i x hx) hy, k7, fun b hb => ?_⟩
      · rw [List.length_take]; omega
      · rw [List.length_take]; omega
      · obtain ⟨q1, q2, c, e, q3, q4, q5⟩ := k8 b hb
        exact ⟨q1, q2, c, e, q3, q4, fun i j x y hx hy => q5 i j x y (ht i x hx) hy⟩
    · exact h8.obj _ _ _ hi
  · have key : ∀ i h o, sget (sput sto id (g, .row esz (l.take n))) i = some (h, o) → ∃ o', sget sto i = some (h, o') := by
      intro i h o hh
      rw [sget_sput] at hh
      split at hh
      · rename_i e; subst e
        simp only [Option.some.injEq, Prod.mk.injEq] at hh
        exact ⟨_, by rw [hg, ← hh.1]⟩
      · exact ⟨_, hh⟩
    obtain ⟨p, hp⟩ := key _ _ _ hi
    obtain ⟨p', hp'⟩ := key _ _ _ hi'
    exact h8.apart _ _ _ _ _ _ hp hp' hne b hb
theorem AGood.at {P : Program} {f : Nat} {fn : Func} {df : List DDel} {k : List Item} {tm : Tm} {sto : Sto} {R : AVal → Sto → Prop} {ops : Array Oper} {b : Bool} (id : Nat) (h : AGood P f fn df (.code (.region id ops b) :: k) tm sto R) : AGood P f fn df (.code (.region id ops b) :: k) tm sto R := h
theorem tr_lent {σ : Ids} {ln : List Nat} {sto : Sto} {id g off len esz : Nat} {l : List (List AVal)} (hi : idTo σ id = none) (hln : ln.contains id = true) (hg : sget sto id = some (g, .row esz l)) (h : off + len ≤ l.length) : tr σ ln sto (.osl id g off len) = .sl false false ((l.drop off).take len) := by
  simp only [tr, tr1, hi, hln, hg, if_true, h, and_self]
theorem ints_part (l : List Int) (off len : Nat) : ((ints l).drop off).take len = ints ((l.drop off).take len) := by
  simp [ints]
theorem nodes_part (l : List Node) (off len : Nat) : ((nodes l).drop off).take len = nodes ((l.drop off).take len) := by
  simp [nodes]
end Go.Rad
/- A box that is written no more is a frozen thing. -/
namespace Go.Rad
open Go
theorem AGood.boxRef {P : Program} {f : Nat} {fn : Func} {k : List Item} {tm : Tm} {sto : Sto} {R : AVal → Sto → Prop} (t id : Nat) {g : Nat} {cs : List AVal} (ht : lk tm t = .bx id g 0) (hg : sget sto id = some (g, .box cs)) (hz : cs.all AVal.isFz = true)
    (h : AGood P f fn [] k ((t, .ref true cs) :: tm) (sdel sto id) R) : AGood P f fn [] k tm sto R := by
  refine ⟨fun E G a w b h1 h2 h3 h4 h5 h6 h7 h8 h9 => ?_⟩
  obtain ⟨bb, cap, esz, k1, k2, c, e, k3, k4, k5, k6⟩ := h8.obj _ _ _ hg
  have hbid : blkOf G id g = some bb := by simp [blkOf, k1]
  have hext := frzG_ext (w := w) k2
  have hd : a.defers = [] := by
    cases hd : a.defers with
    | nil => rfl
    | cons => rw [hd] at h5; simp [DfOk] at h5
  refine h.go E (frzG G w bb) a w b h1 h2 h3 h4 (by rw [hd]; trivial) (h6.trans hext) ⟨h7.K, fun b' o h => ?_, h7.M, h7.N, fun g l h => (h7.T g l h).mono hext.toMono⟩ ⟨fun i g' o h => ?_, fun i i' g1 g2 o o' h h' hne b' hb => ?_⟩ fun t' => ?_
  · simp only [frzG] at h
    split at h
    · rename_i e; subst e; exact h
    · exact h7.F b' o h
  · rw [sget_sdel] at h
    split at h
    · cases h
    · rename_i hne
      have ho := h8.obj i g' o h
      refine ho.mono hext.toMono (fun b' hb' => ?_) (fun _ _ => rfl)
      have hb1 : blkOf G i g' = some b' := hb'
      have : b' ≠ bb := by
        rintro rfl
        exact h8.apart id i g g' _ o hg h hne b' hbid hb1
      simp only [frzG, if_neg this]
      exact (ho.blk h7 b' hb1).1
  · rw [sget_sdel] at h h'
    split at h
    · cases h
    · split at h'
      · cases h'
      · exact h8.apart i i' g1 g2 o o' h h' hne b' hb
  · simp only [lk]
    split
    · rename_i e2; subst e2
      have hr := h9 t
      rw [ht] at hr
      generalize a.tmps.getD t undef = v at hr
      cases hr with
      | @bx _ _ _ b2 cap2 esz2 hM =>
        rw [k1] at hM
        simp only [Option.some.injEq, Hd.mk.injEq] at hM
        obtain ⟨rfl, _, _⟩ := hM
        refine .ref (c := c) (e := e) (fr := (0, 0)) (.inl (.inl rfl)) (by simp [frzG, k3]) (by omega) k5 fun j x hx => ?_
        have := (k6 j x hx).down (List.all_eq_true.1 hz x (List.mem_of_getElem? hx))
        rw [Nat.zero_add]
        exact this.mono hext.toMono
    · exact (h9 t').mono hext.toMono
theorem map_one {α β : Type} {f : α → β} {a : α} {a' : β} (h : f a = a') : [a].map f = [a'] := by rw [List.map_cons, List.map_nil, h]
theorem map_two {α β : Type} {f : α → β} {a b : α} {a' b' : β} (h : f a = a') (k : f b = b') : [a, b].map f = [a', b'] := by rw [List.map_cons, List.map_cons, List.map_nil, h, k]
theorem map_three {α β : Type} {f : α → β} {a b c : α} {a' b' c' : β} (h : f a = a') (k : f b = b') (l : f c = c') : [a, b, c].map f = [a', b', c'] := by rw [List.map_cons, List.map_cons, List.map_cons, List.map_nil, h, k, l]
theorem sl_ints {q f : Bool} {l l' : List Int} (h : l = l') : AVal.sl q f (ints l) = .sl q f (ints l') := by rw [h]
end Go.Rad
/- Trees with what their names stand for. -/
namespace Go.Rad
open Go

abbrev Out := List Node × Int × Int
def atF (A : List Int) (k : Int) : Int := A.getD k.toNat 0
def putS (n : Node) (A : List Int) (out : List Node) : Out :=
  if 1024 ≤ out.length then (out, 0, 3) else (out ++ [{ n with l := n.l.map (atF A) }], out.length, 0)
def stepT (nm : ByteArray → List Node → Out) (n : Node) (A : List Int) (out : List Node) : Out := if n.op = 6 then nm n.name out else putS n A out
def goT (nm : ByteArray → List Node → Out) : List Node → List Int → List Node → Out
  | [], A, out => (out, A.getLastD 0, 0)
  | n :: ns, A, out =>
    if (stepT nm n A out).2.2 = 0 then goT nm ns (A ++ [(stepT nm n A out).2.1]) (stepT nm n A out).1
    else ((stepT nm n A out).1, 0, (stepT nm n A out).2.2)
def dfind (ds : List Df) (s : ByteArray) : Option Df := ds.find? fun d => decide (d.name = s)
def hasB (op : List ByteArray) (s : ByteArray) : Bool := op.any fun x => decide (x = s)
theorem hasB_iff {op : List ByteArray} {s : ByteArray} : hasB op s = true ↔ s ∈ op := by
  simp [hasB]
theorem hasB_no {op : List ByteArray} {s : ByteArray} : hasB op s = false ↔ s ∉ op := by
  rw [← hasB_iff]; simp
def nameT (ds : List Df) : Nat → List ByteArray → ByteArray → List Node → Out
  | 0, _, _, out => (out, 0, 61)
  | f + 1, op, s, out =>
    match dfind ds s with
    | none => (out, 0, 60)
    | some d => if hasB op s = true then (out, 0, 61) else goT (nameT ds f (op ++ [s])) d.l [] out

def dmap (ds : List Df) : List (ByteArray × AVal) := ds.map fun d => (d.name, .sl true false (nodes d.l))
def omap (op : List ByteArray) : List (ByteArray × AVal) := op.map fun s => (s, .bool true)
theorem mfind_dmap (ds : List Df) (s : ByteArray) : mfind (dmap ds) s = (dfind ds s).map fun d => .sl true false (nodes d.l) := by
  simp only [mfind, dmap, dfind, List.find?_map, Option.map_map]
  rfl
theorem mfind_omap (op : List ByteArray) (s : ByteArray) : mfind (omap op) s = if hasB op s = true then some (AVal.bool true) else none := by
  induction op with
  | nil => rfl
  | cons x op ih =>
    simp only [mfind, omap, List.map_cons, List.find?_cons, hasB, List.any_cons] at ih ⊢
    by_cases h : x = s
    · subst h; simp
    · simp only [h, decide_false, Bool.false_or]
      exact ih
theorem mput_omap {op : List ByteArray} {s : ByteArray} (h : s ∉ op) : mput (omap op) s (.bool true) = omap (op ++ [s]) := by
  induction op with
  | nil => rfl
  | cons x op ih =>
    simp only [List.mem_cons, not_or] at h
    simp only [omap, List.map_cons, mput, List.cons_append, if_neg (Ne.symm h.1)]
    rw [show mput (List.map (fun s => (s, AVal.bool true)) op) s (AVal.bool true) = _ from ih h.2]
    rfl
theorem mdel_omap {op : List ByteArray} {s : ByteArray} (h : s ∉ op) : mdel (omap (op ++ [s])) s = omap op := by
  induction op with
  | nil => simp [omap, mdel]
  | cons x op ih =>
    simp only [List.mem_cons, not_or] at h
    simp only [omap, List.map_cons, mdel, List.cons_append, if_neg (Ne.symm h.1)]
    rw [show mdel (List.map (fun s => (s, AVal.bool true)) (op ++ [s])) s = _ from ih h.2]
    rfl
theorem mput_dmap {ds : List Df} {d : Df} (h : ∀ e ∈ ds, e.name ≠ d.name) : mput (dmap ds) d.name (.sl true false (nodes d.l)) = dmap (ds ++ [d]) := by
  induction ds with
  | nil => rfl
  | cons x ds ih =>
    simp only [dmap, List.map_cons, mput, List.cons_append, if_neg (h x (by simp))]
    rw [show mput (List.map (fun d => (d.name, AVal.sl true false (nodes d.l))) ds) d.name (AVal.sl true false (nodes d.l)) = _ from ih fun e he => h e (by simp [he])]
    rfl

theorem bk_tm {σ : Ids} : bk σ .nil = .nil := rfl
theorem put_row {W xl : List Int} {F : Int → Int} {i : Nat} {k : Int} (hW : W = (xl.take i).map F ++ xl.drop i) (hk : xl[i]? = some k) : W.length = xl.length ∧ W[i]? = some k ∧ W.set i (F k) = (xl.take (i + 1)).map F ++ xl.drop (i + 1) := by
  have hi : i < xl.length := (List.getElem?_eq_some_iff.1 hk).1
  subst hW
  refine ⟨by simp; omega, ?_, ?_⟩
  · rw [List.getElem?_append_right (by simp; omega)]
    simp only [List.length_map, List.length_take, Nat.min_eq_left (Nat.le_of_lt hi), Nat.sub_self, List.getElem?_drop, Nat.add_zero]
    exact hk
  · have hd : xl.drop i = k :: xl.drop (i + 1) := by
      rw [List.drop_eq_getElem_cons hi]
      rw [List.getElem?_eq_getElem hi] at hk
      rw [Option.some.inj hk]
    rw [hd, List.set_append_right _ _ (by simp; omega)]
    simp only [List.length_map, List.length_take, Nat.min_eq_left (Nat.le_of_lt hi), Nat.sub_self, List.set_cons_zero]
    rw [take_one hk, List.map_append]
    simp
theorem clean_ints (l : List Int) : cleanLL (ints l) = true := by
  induction l with
  | nil => rfl
  | cons x l ih => simpa [ints, cleanLL, cleanL, clean] using ih
theorem clean_nodes (l : List Node) : cleanLL (nodes l) = true := by
  induction l with
  | nil => rfl
  | cons x l ih =>
    have := clean_ints x.l
    simp only [nodes, List.map_cons, cleanLL, cleanL, clean, this, Bool.and_self, Bool.and_true, Bool.true_and] at ih ⊢
    exact ih
theorem clean_dmap (ds : List Df) : cleanM (dmap ds) = true := by
  induction ds with
  | nil => rfl
  | cons x l ih =>
    have := clean_nodes x.l
    simp only [dmap, List.map_cons, cleanM, clean, this, Bool.and_self, Bool.and_true, Bool.true_and] at ih ⊢
    exact ih
theorem clean_omap (op : List ByteArray) : cleanM (omap op) = true := by
  induction op with
  | nil => rfl
  | cons x l ih =>
    simp only [omap, List.map_cons, cleanM, clean, Bool.true_and] at ih ⊢
    exact ih
theorem putS_ext {n : Node} {A W out : _} (h : ∀ k ∈ n.l, atF W k = atF A k) : putS n W out = putS n A out := by
  simp only [putS, List.map_congr_left h]
theorem atF_app {A B : List Int} {k : Int} (h0 : 0 ≤ k) (h : k < A.length) : atF (A ++ B) k = atF A k := by
  have : k.toNat < A.length := by omega
  simp [atF, List.getD, List.getElem?_append_left this]
theorem putS_len {n : Node} {A : List Int} {out : List Node} (h : out.length ≤ 1024) : (putS n A out).1.length ≤ 1024 := by
  unfold putS; split
  · exact h
  · simp only [List.length_append, List.length_cons, List.length_nil]; omega
theorem goT_len {nm : ByteArray → List Node → Out} (hn : ∀ s out, out.length ≤ 1024 → (nm s out).1.length ≤ 1024) : ∀ (l : List Node) (A : List Int) (out : List Node), out.length ≤ 1024 → (goT nm l A out).1.length ≤ 1024
  | [], A, out, h => h
  | n :: ns, A, out, h => by
    have h1 : (stepT nm n A out).1.length ≤ 1024 := by
      unfold stepT
      split
      · exact hn _ _ h
      · exact putS_len h
    rw [goT]
    split
    · exact goT_len hn ns _ _ h1
    · exact h1
theorem nameT_len (ds : List Df) : ∀ (f : Nat) (op : List ByteArray) (s : ByteArray) (out : List Node), out.length ≤ 1024 → (nameT ds f op s out).1.length ≤ 1024
  | 0, _, _, _, h => h
  | f + 1, op, s, out, h => by
    rw [nameT]
    split
    · exact h
    · split
      · exact h
      · exact goT_len (fun s out h => nameT_len ds f _ s out h) _ _ _ h
/-- A tree's nodes, as far as the code leans on it. -/
def treeOk (l : List Node) : Prop := (1 ≤ l.length ∧ l.length ≤ 1000000) ∧ ∀ (i : Nat) (n : Node), l[i]? = some n → n.name.size ≤ maxLen ∧ n.l.length ≤ 1000000 ∧ ∀ k ∈ n.l, 0 ≤ k ∧ k < (i : Int)
def rightD : List ByteArray → List Df → Bool
  | _, [] => true
  | seen, d :: ds => if hasB seen d.name = true ∨ nameOk d.name = false ∨ rightS d.l = false then false else rightD (seen ++ [d.name]) ds
def expandS (l : List Node) (ds : List Df) : List Node × Int :=
  if rightS l = true ∧ rightD [] ds = true then
    if (goT (nameT ds (ds.length + 1) []) l [] []).2.2 = 0 then ((goT (nameT ds (ds.length + 1) []) l [] []).1, 0) else ([], (goT (nameT ds (ds.length + 1) []) l [] []).2.2)
  else ([], 1)
theorem stk_below : ∀ (ns : List Node) (i : Nat) (st st' : List Int), stkS ns i st = some st' → st.length ≤ i → (∀ k ∈ st, 0 ≤ k ∧ k < (i : Int)) → ∀ (j : Nat) (n : Node), ns[j]? = some n → n.l.length ≤ i + j ∧ ∀ k ∈ n.l, 0 ≤ k ∧ k < ((i + j : Nat) : Int)
  | [], _, _, _, _, _, _, j, n, h => by simp at h
  | m :: ns, i, st, st', h, hl, hb, j, n, hj => by
    simp only [stkS] at h
    split at h
    · rename_i hc
      cases j with
      | zero =>
        simp only [List.getElem?_cons_zero, Option.some.injEq] at hj
        subst hj
        refine ⟨by omega, fun k hk => ?_⟩
        rw [← hc.2.2] at hk
        have := hb k (List.mem_of_mem_drop hk)
        omega
      | succ j =>
        have := stk_below ns (i + 1) _ st' h (by simp; omega) (fun k hk => by
          rcases List.mem_append.1 hk with hk | hk
          · have := hb k (List.mem_of_mem_take hk); omega
          · simp only [List.mem_singleton] at hk; omega) j n (by simpa using hj)
        rw [show i + (j + 1) = i + 1 + j by omega]
        exact this
    · cases h
theorem rightS_ok {l : List Node} (h : rightS l = true) (hn : ∀ n ∈ l, n.name.size ≤ maxLen) : treeOk l := by
  obtain ⟨_, _, h1, h2⟩ := rightS_kids h
  simp only [rightS, Bool.and_eq_true] at h
  obtain ⟨_, h3⟩ := h
  split at h3
  · rename_i st hst
    refine ⟨⟨h1, by omega⟩, fun i n hi => ?_⟩
    have := stk_below l 0 [] st hst (Nat.le_refl _) (fun k hk => by simp at hk) i n hi
    have hlt : i < l.length := (List.getElem?_eq_some_iff.1 hi).1
    rw [Nat.zero_add] at this
    exact ⟨hn n (List.mem_of_getElem? hi), by omega, this.2⟩
  · cases h3
theorem rightD_facts : ∀ (ds : List Df) (seen : List ByteArray), rightD seen ds = true → (∀ d ∈ ds, hasB seen d.name = false ∧ nameOk d.name = true ∧ rightS d.l = true) ∧ ∀ (i : Nat) (d : Df), ds[i]? = some d → ∀ e ∈ ds.take i, e.name ≠ d.name
  | [], _, _ => ⟨fun d hd => by simp at hd, fun i d h => by simp at h⟩
  | x :: ds, seen, h => by
    rw [rightD] at h
    split at h
    · cases h
    · rename_i hc
      simp only [not_or, Bool.not_eq_true, Bool.not_eq_false] at hc
      obtain ⟨f1, f2⟩ := rightD_facts ds _ h
      refine ⟨fun d hd => ?_, fun i d hi e he => ?_⟩
      · rcases List.mem_cons.1 hd with rfl | hd
        · exact hc
        · obtain ⟨a, b⟩ := f1 d hd
          refine ⟨?_, b⟩
          simp only [hasB, List.any_append, Bool.or_eq_false_iff] at a ⊢
          exact a.1
      · cases i with
        | zero => simp at he
        | succ i =>
          simp only [List.getElem?_cons_succ] at hi
          simp only [List.take_succ_cons, List.mem_cons] at he
          rcases he with rfl | he
          · have := (f1 d (List.mem_of_getElem? hi)).1
            simp only [hasB, List.any_append, Bool.or_eq_false_iff, List.any_cons, List.any_nil, Bool.or_false, decide_eq_false_iff_not] at this
            exact this.2
          · exact f2 i d hi e he
end Go.Rad
/- What the document's reader of patterns does. -/
namespace Go.Rad
open Go
structure Rd where
  p : Nat
  nodes : List Node
  deep : Int
  e : Int
  wh : Int
  deriving DecidableEq
abbrev rsto (g g1 : Nat) (s : ByteArray) (r : Rd) : Sto := [(1000, (g, .box [.str s, .int .i64 r.p, .osl 1001 g1 0 r.nodes.length, .int .i64 r.deep, .int .i64 r.e, .int .i64 r.wh])), (1001, (g1, .row 9 (nodes r.nodes)))]
def endsB (s : ByteArray) (r : Rd) : Bool := decide (s.size ≤ r.p) || decide (r.e ≠ 0)
def failS (r : Rd) (e w : Int) : Rd := if r.e = 0 then { r with e := e, wh := w } else r
def Rd.next (r : Rd) (n : Nat) : Rd := { r with p := r.p + n }
def putR (r : Rd) (n : Node) : Rd := { r with nodes := r.nodes ++ [n] }
def inS (c : Nat) (l : ByteArray) : Bool := (List.range l.size).any fun i => decide (bt l i = c)
def specialS : ByteArray := ⟨#[124, 42, 43, 63, 123, 125, 40, 41, 91, 93, 46, 92, 47, 36, 94, 34]⟩
def markS : ByteArray := ⟨#[93, 45, 94]⟩
def hexS (c : Nat) : Int := if 48 ≤ c ∧ c ≤ 57 then (c : Int) - 48 else if 97 ≤ c ∧ c ≤ 102 then (c : Int) - 97 + 10 else -1
abbrev bI (s : ByteArray) (n : Nat) : Int := (bt s n : Int)
/-- A byte, or an escape. -/
def oneS (s : ByteArray) (r : Rd) : Rd × Int :=
  if bI s r.p ≠ 92 then (r.next 1, bI s r.p)
  else if endsB s (r.next 1) = true then (failS (r.next 1) 40 s.size, 0)
  else if bI s (r.p + 1) = 110 then (r.next 2, 10)
  else if bI s (r.p + 1) = 116 then (r.next 2, 9)
  else if bI s (r.p + 1) = 114 then (r.next 2, 13)
  else if bI s (r.p + 1) = 120 then
    if (s.size : Int) ≤ (r.p : Int) + 3 then (failS (r.next 2) 40 s.size, 0)
    else if 0 ≤ hexS (bt s (r.p + 2)) ∧ 0 ≤ hexS (bt s (r.p + 3)) then (r.next 4, IntKind.u8.wrap (16 * hexS (bt s (r.p + 2)) + hexS (bt s (r.p + 3))))
    else (failS (r.next 4) 43 r.p, 0)
  else if inS (bt s (r.p + 1)) specialS = true ∨ bI s (r.p + 1) = 45 then (r.next 2, bI s (r.p + 1))
  else (failS (r.next 2) 43 r.p, 0)
def memberS (s : ByteArray) (r : Rd) : Rd × Int :=
  if endsB s r = true then (failS r 40 s.size, 0)
  else if inS (bt s r.p) markS = true then (failS r 44 r.p, 0)
  else oneS s r
/-- A number of bounds, as far as there are digits. -/
def numLoop (s : ByteArray) : Nat → Rd → Int → Option (Rd × Int)
  | 0, _, _ => none
  | f + 1, r, n => if endsB s r = false ∧ digitN (bt s r.p) = true then numLoop s f (r.next 1) (min (n * 10 + (bI s r.p - 48)) 1000000) else some (r, n)

def nameLoop (s : ByteArray) : Nat → Rd → Option Rd
  | 0, _ => none
  | f + 1, r => if endsB s r = false ∧ bI s r.p ≠ 125 then nameLoop s f (r.next 1) else some r
/-- A name in braces. -/
def nameR (s : ByteArray) (f : Nat) (r : Rd) : Option (Rd × Int) :=
  match nameLoop s f (r.next 1) with
  | none => none
  | some q =>
    if 100000 < q.nodes.length then none
    else if endsB s q = true then some (failS q 40 s.size, 0)
    else if nameOk (s.extract (r.p + 1) q.p) = false then some (failS q 41 (r.p + 1 : Nat), 0)
    else some (putR (q.next 1) ⟨6, ISet.none, [], 0, 0, s.extract (r.p + 1) q.p⟩, q.nodes.length)
theorem nameLoop_facts {s : ByteArray} : ∀ {f : Nat} {r q : Rd}, nameLoop s f r = some q → q.nodes = r.nodes ∧ q.deep = r.deep ∧ q.e = r.e ∧ q.wh = r.wh ∧ r.p ≤ q.p
  | 0, _, _, h => by simp [nameLoop] at h
  | f + 1, r, q, h => by
    rw [nameLoop] at h
    split at h
    · obtain ⟨a, b, c, d, e⟩ := nameLoop_facts h
      simp only [Rd.next] at a b c d e
      exact ⟨a, b, c, d, by omega⟩
    · simp only [Option.some.injEq] at h
      subst h
      exact ⟨rfl, rfl, rfl, rfl, Nat.le_refl _⟩

theorem failS_facts (r : Rd) (e w : Int) : (failS r e w).p = r.p ∧ (failS r e w).nodes = r.nodes ∧ (failS r e w).deep = r.deep := by
  unfold failS; split <;> exact ⟨rfl, rfl, rfl⟩
theorem oneS_facts (s : ByteArray) (r : Rd) : r.p < (oneS s r).1.p ∧ (oneS s r).1.nodes = r.nodes ∧ (oneS s r).1.deep = r.deep ∧ 0 ≤ (oneS s r).2 ∧ (oneS s r).2 ≤ 255 := by
  have hb : ∀ n, 0 ≤ bI s n ∧ bI s n ≤ 255 := fun n => by have := bt_le s n; unfold bI; omega
  have hw : ∀ n, 0 ≤ IntKind.u8.wrap n ∧ IntKind.u8.wrap n ≤ 255 := by
    intro n; simp [IntKind.wrap, IntKind.signed, IntKind.bits]; omega
  unfold oneS
  repeat' split
  all_goals simp only [(failS_facts _ _ _).1, (failS_facts _ _ _).2.1, (failS_facts _ _ _).2.2, Rd.next, true_and]
  all_goals first
    | (refine ⟨by omega, ?_, ?_⟩ <;> first | omega | exact (hb _).1 | exact (hb _).2 | exact (hw _).1 | exact (hw _).2)
theorem memberS_facts (s : ByteArray) (r : Rd) : r.p ≤ (memberS s r).1.p ∧ (memberS s r).1.nodes = r.nodes ∧ (memberS s r).1.deep = r.deep ∧ 0 ≤ (memberS s r).2 ∧ (memberS s r).2 ≤ 255 := by
  unfold memberS
  split
  · simp only [(failS_facts _ _ _).1, (failS_facts _ _ _).2.1, (failS_facts _ _ _).2.2, true_and]; omega
  · split
    · simp only [(failS_facts _ _ _).1, (failS_facts _ _ _).2.1, (failS_facts _ _ _).2.2, true_and]; omega
    · have := oneS_facts s r
      exact ⟨by omega, this.2⟩

theorem ACall.part {P : Program} {f : Nat} {args args1 : List AVal} {sto sto1 : Sto} {v : AVal} (σ : Ids) (hσ : okIds σ = true) (h : ACall P f args1 sto1 fun r s => r = v ∧ s = sto1) (ha : args.map (tr σ [] sto) = args1) (hs1 : mkSto σ [] sto σ = sto1) (hc1 : stoCells sto1 = true) (hv : bk σ v = v) (hb : bkS σ sto1 (delAll σ sto) = sto) (hc : stoCells sto = true) :
    ACall P f args sto fun r s => r = v ∧ s = sto := by
  refine ACall.use σ [] hσ h ha hs1 hc1 fun r s hr => ?_
  obtain ⟨rfl, rfl⟩ := hr
  rw [hb]
  exact ⟨.inl rfl, hc, hv, rfl⟩
end Go.Rad
/- The plain laws of names that stand for trees. -/
namespace Go.Rad
open Go

def plainN (n : Node) : Bool := decide (n.op ≠ 6)
def plainS (l : List Node) : Bool := l.all plainN && right4 l

theorem pre_get {a b : List Node} (h : a <+: b) (i : Nat) (n : Node) (hi : a[i]? = some n) : b[i]? = some n := by
  obtain ⟨t, rfl⟩ := h
  rw [List.getElem?_append_left (List.getElem?_eq_some_iff.1 hi).1]
  exact hi
theorem shape_name {n : Node} (h : shapeOk n = true) : n.name.size ≤ 32 := by
  have h0 : ByteArray.empty.size = 0 := rfl
  simp only [shapeOk] at h
  split at h
  · simp only [Bool.and_eq_true, Bool.not_eq_true', decide_eq_false_iff_not, Decidable.not_not] at h; rw [h.1.2, h0]; omega
  · split at h
    · simp only [Bool.and_eq_true, Bool.not_eq_true', decide_eq_false_iff_not, Decidable.not_not] at h; rw [h.1.2, h0]; omega
    · split at h
      · simp only [Bool.and_eq_true, Bool.not_eq_true', decide_eq_false_iff_not, Decidable.not_not] at h; rw [h.1.2, h0]; omega
      · split at h
        · simp only [Bool.and_eq_true, Bool.not_eq_true', decide_eq_false_iff_not, Decidable.not_not] at h; rw [h.1.1.1.2, h0]; omega
        · split at h
          · simp only [Bool.and_eq_true, nameOk, decide_eq_true_eq] at h; exact h.1.2.2
          · cases h
theorem rightS_bounds {l : List Node} (h : rightS l = true) : ∀ n ∈ l, n.name.size ≤ maxLen ∧ n.l.length ≤ maxLen := by
  intro n hn
  obtain ⟨_, hall, _, _⟩ := rightS_kids h
  have hs := shape_name (List.all_eq_true.1 hall n hn)
  obtain ⟨i, hi⟩ := List.mem_iff_getElem?.1 hn
  have := (rightS_ok h (fun n hn => by have := shape_name (List.all_eq_true.1 hall n hn); unfold maxLen; omega)).2 i n hi
  unfold maxLen
  omega

theorem shape_map {n : Node} {F : Int → Int} (h : shapeOk n = true) : shapeOk { n with l := n.l.map F } = true := by
  simp only [shapeOk, List.length_map] at h ⊢
  exact h

theorem atF_new {A : List Int} {v : Int} : atF (A ++ [v]) (A.length : Nat) = v := by
  simp [atF, List.getD]
theorem map_atF {A : List Int} {B : List Int} {l : List Int} (h : ∀ k ∈ l, 0 ≤ k ∧ k < (A.length : Int)) : l.map (atF (A ++ B)) = l.map (atF A) :=
  List.map_congr_left fun k hk => atF_app (h k hk).1 (h k hk).2

def okN (n : Node) : Prop := shapeOk n = true ∧ n.op ≠ 6
/-- What a name's tree is: behind what is there, one tree more, of fit nodes. -/
def NmOk (nm : ByteArray → List Node → Out) : Prop := ∀ s out o2 v, (∀ n ∈ out, okN n) → nm s out = (o2, v, 0) → out <+: o2 ∧ (∀ n ∈ o2, okN n) ∧ Kids o2 out.length [v] o2.length

theorem goT_kids {nm : ByteArray → List Node → Out} (hnm : NmOk nm) : ∀ (ns : List Node) (i : Nat) (st st' : List Int) (A : List Int) (out : List Node) (b : Nat) (o2 : List Node) (v : Int),
    stkS ns i st = some st' → A.length = i → (∀ k ∈ st, 0 ≤ k ∧ k < (i : Int)) → Kids out b (st.map (atF A)) out.length → (∀ n ∈ out, okN n) → goT nm ns A out = (o2, v, 0) →
    out <+: o2 ∧ (∀ n ∈ o2, okN n) ∧ ∃ A2, A2.length = i + ns.length ∧ v = A2.getLastD 0 ∧ (∀ k ∈ st', 0 ≤ k ∧ k < ((i + ns.length : Nat) : Int)) ∧ Kids o2 b (st'.map (atF A2)) o2.length
  | [], i, st, st', A, out, b, o2, v, hst, hA, hk, hkid, hok, h => by
    simp only [stkS, Option.some.injEq] at hst
    simp only [goT, Prod.mk.injEq] at h
    obtain ⟨rfl, rfl, _⟩ := h
    subst hst
    exact ⟨List.prefix_rfl, hok, A, by simpa using hA, rfl, by simpa using hk, hkid⟩
  | n :: ns, i, st, st', A, out, b, o2, v, hst, hA, hk, hkid, hok, h => by
    simp only [stkS] at hst
    split at hst
    · rename_i hc
      obtain ⟨hsh, hle, hdr⟩ := hc
      rw [goT] at h
      split at h
      · rename_i he
        rcases hs : stepT nm n A out with ⟨u, w, e⟩
        rw [hs] at h he
        simp only at h he
        subst he
        have e1 : st = st.take (st.length - n.l.length) ++ n.l := by
          conv => lhs; rw [← List.take_append_drop (st.length - n.l.length) st]
          rw [hdr]
        have hk1 : ∀ k ∈ st.take (st.length - n.l.length), 0 ≤ k ∧ k < (A.length : Int) := fun k hk2 => by have := hk k (List.mem_of_mem_take hk2); omega
        -- the state behind this node
        have hnew : out <+: u ∧ (∀ n ∈ u, okN n) ∧ Kids u b ((st.take (st.length - n.l.length)).map (atF A) ++ [w]) u.length := by
          rw [e1, List.map_append] at hkid
          obtain ⟨m, q1, q2⟩ := hkid.split
          unfold stepT at hs
          split at hs
          · rename_i h6
            have hl0 : n.l = [] := by
              simp only [shapeOk, h6] at hsh
              simp only [show ¬ (6 : Int) = 1 by decide, show ¬ (6 : Int) = 2 by decide, show ¬ ((6 : Int) = 3 ∨ (6 : Int) = 4) by decide, show ¬ (6 : Int) = 5 by decide, if_false, if_true, Bool.and_eq_true, decide_eq_true_eq] at hsh
              exact List.eq_nil_of_length_eq_zero hsh.2
            obtain ⟨r1, r3, r2⟩ := hnm _ _ _ _ hok hs
            rw [hl0, List.map_nil] at q2
            cases q2
            exact ⟨r1, r3, (q1.mono (pre_get r1)).append r2⟩
          · rename_i h6
            unfold putS at hs
            split at hs
            · simp at hs
            · simp only [Prod.mk.injEq] at hs
              obtain ⟨rfl, rfl, _⟩ := hs
              have hp : out <+: out ++ [{ n with l := n.l.map (atF A) }] := List.prefix_append _ _
              refine ⟨hp, fun x hx => ?_, ?_⟩
              · rcases List.mem_append.1 hx with hx | hx
                · exact hok x hx
                · simp only [List.mem_singleton] at hx
                  subst hx
                  exact ⟨shape_map hsh, h6⟩
              · refine (q1.mono (pre_get hp)).append ?_
                have hc : Kids (out ++ [{ n with l := n.l.map (atF A) }]) m [((out.length : Nat) : Int)] (out.length + 1) := .cons (n := { n with l := n.l.map (atF A) }) (by simp) (q2.mono (pre_get hp)) .nil
                simpa using hc
        obtain ⟨n1, n2, n3⟩ := hnew
        have e2 : (st.take (st.length - n.l.length) ++ [(i : Int)]).map (atF (A ++ [w])) = (st.take (st.length - n.l.length)).map (atF A) ++ [w] := by
          rw [List.map_append, map_atF hk1, List.map_cons, List.map_nil, ← hA, atF_new]
        obtain ⟨p1, p2, A2, p3, p4, p5, p6⟩ := goT_kids hnm ns (i + 1) _ st' (A ++ [w]) u b o2 v hst (by simp [hA]) (fun k hk2 => by
          rcases List.mem_append.1 hk2 with hk2 | hk2
          · have := hk k (List.mem_of_mem_take hk2); omega
          · simp only [List.mem_singleton] at hk2; omega) (by rw [e2]; exact n3) n2 h
        refine ⟨n1.trans p1, p2, A2, by rw [p3]; simp; omega, p4, fun k hk2 => ?_, p6⟩
        have := p5 k hk2
        simp only [List.length_cons]; omega
      · rename_i he
        simp only [Prod.mk.injEq] at h
        exact absurd h.2.2 he
    · cases hst

theorem goT_tree {nm : ByteArray → List Node → Out} (hnm : NmOk nm) {l : List Node} (hl : rightS l = true) {out o2 : List Node} {v : Int} (hok : ∀ n ∈ out, okN n) (h : goT nm l [] out = (o2, v, 0)) : out <+: o2 ∧ (∀ n ∈ o2, okN n) ∧ Kids o2 out.length [v] o2.length := by
  obtain ⟨hkl, _, h1, h2⟩ := rightS_kids hl
  simp only [rightS, Bool.and_eq_true] at hl
  obtain ⟨_, h3⟩ := hl
  split at h3
  · rename_i st hst
    obtain ⟨p1, p2, A2, p3, p4, p5, p6⟩ := goT_kids hnm l 0 [] st [] out out.length o2 v hst rfl (fun k hk => by simp at hk) (by rw [List.map_nil]; exact .nil) hok h
    have hk := stk_kids l l 0 [] st rfl hst .nil
    rw [Nat.zero_add] at hk
    simp only [decide_eq_true_eq] at h3
    match st, h3, hk, p6 with
    | [k], _, hk, p6 =>
      have e := hk.one.1
      refine ⟨p1, p2, ?_⟩
      rw [List.map_cons, List.map_nil] at p6
      have : atF A2 k = v := by
        rw [p4, e]
        obtain ⟨m, hm⟩ : ∃ m, l.length = m + 1 := ⟨l.length - 1, by omega⟩
        rw [hm, List.getLastD_eq_getLast?, List.getLast?_eq_getElem?, p3, hm]
        simp [atF, List.getD]
      rw [this] at p6
      exact p6
  · cases h3

theorem nameT_ok {ds : List Df} (hds : ∀ d ∈ ds, rightS d.l = true) : ∀ (f : Nat) (op : List ByteArray), NmOk (nameT ds f op) := by
  intro f
  induction f with
  | zero => intro op s out o2 v _ h; simp [nameT] at h
  | succ f ih =>
    intro op s out o2 v hok h
    rw [nameT] at h
    split at h
    · simp at h
    · rename_i d hf
      split at h
      · simp at h
      · exact goT_tree (ih _) (hds d (List.mem_of_find?_eq_some hf)) hok h

theorem goT_plain {nm : ByteArray → List Node → Out} {l : List Node} (hp : ∀ n ∈ l, n.op ≠ 6) (hlen : l.length ≤ 1024) (hk : ∀ (i : Nat) (n : Node), l[i]? = some n → ∀ k ∈ n.l, 0 ≤ k ∧ k < (i : Int)) :
    ∀ (r i : Nat), i + r = l.length → goT nm (l.drop i) (rg i) (l.take i) = (l, (rg l.length).getLastD 0, 0)
  | 0, i, h => by
    have : i = l.length := by omega
    subst this
    simp [goT]
  | r + 1, i, h => by
    have hlt : i < l.length := by omega
    have hx : l[i]? = some l[i] := List.getElem?_eq_getElem hlt
    have hmap : l[i].l.map (atF (rg i)) = l[i].l := by
      conv => rhs; rw [← List.map_id l[i].l]
      refine List.map_congr_left fun k hk2 => ?_
      have := hk i _ hx k hk2
      obtain ⟨m, rfl⟩ : ∃ m : Nat, k = m := ⟨k.toNat, by omega⟩
      have hm : m < i := by omega
      simp [atF, List.getD, List.getElem?_range, hm]
    have hs : stepT nm l[i] (rg i) (l.take i) = (l.take (i + 1), (i : Int), 0) := by
      rw [stepT, if_neg (hp _ (List.getElem_mem hlt)), putS, if_neg (by simp; omega), hmap, take_one hx]
      have e : (l.take i).length = i := by rw [List.length_take]; omega
      rw [e]
    rw [List.drop_eq_getElem_cons hlt, goT, hs]
    simp only [if_true]
    rw [← rg_succ]
    exact goT_plain hp hlen hk r (i + 1) (by omega)

theorem expand_plain {l : List Node} {ds : List Df} (hp : ∀ n ∈ l, n.op ≠ 6) (hr : rightS l = true) (hd : rightD [] ds = true) : expandS l ds = (l, 0) := by
  have hn := fun n hn => (rightS_bounds hr n hn).1
  have ht := rightS_ok hr hn
  obtain ⟨_, _, h1, h2⟩ := rightS_kids hr
  have := goT_plain (nm := nameT ds (ds.length + 1) []) hp h2 (fun i n hi => (ht.2 i n hi).2.2) l.length 0 (by omega)
  simp only [List.drop_zero, List.take_zero] at this
  rw [show rg 0 = [] from rfl] at this
  rw [expandS, if_pos ⟨hr, hd⟩, this]
  simp

theorem expand_ok {l : List Node} {ds : List Df} {x : List Node} (h : expandS l ds = (x, 0)) : rightS l = true ∧ rightD [] ds = true ∧ rightS x = true ∧ ∀ n ∈ x, okN n := by
  rw [expandS] at h
  split at h
  · rename_i hc
    split at h
    · rename_i he
      simp only [Prod.mk.injEq, and_true] at h
      rcases hg : goT (nameT ds (ds.length + 1) []) l [] [] with ⟨o2, v, e⟩
      rw [hg] at he h
      simp only at he h
      subst he h
      obtain ⟨hf1, _⟩ := rightD_facts ds [] hc.2
      obtain ⟨p1, p2, p3⟩ := goT_tree (nameT_ok (fun d hd => (hf1 d hd).2.2) (ds.length + 1) []) hc.1 (by simp) hg
      have hlen := goT_len (nm := nameT ds (ds.length + 1) []) (fun s out h => nameT_len ds _ _ s out h) l [] [] (by simp)
      rw [hg] at hlen
      exact ⟨hc.1, hc.2, kids_rightS p3 (List.all_eq_true.2 fun n hn => (p2 n hn).1) hlen, p2⟩
    · rename_i he
      simp only [Prod.mk.injEq] at h
      exact absurd h.2 he
  · simp at h
theorem expand_no {l : List Node} {ds : List Df} (h : (expandS l ds).2 ≠ 0) : (expandS l ds).1 = [] := by
  rw [expandS] at h ⊢
  split
  · rename_i hc
    rw [if_pos hc] at h
    split
    · rename_i he; rw [if_pos he] at h; exact absurd rfl h
    · rfl
  · rfl

theorem law_plain {l : List Node} {ds : List Df} {x : List Node} (h : expandS l ds = (x, 0)) : plainS x = true ∧ expandS x [] = (x, 0) ∧ expandS x ds = (x, 0) ∧ (plainS l = true → x = l) := by
  obtain ⟨h1, h2, h3, h4⟩ := expand_ok h
  refine ⟨?_, expand_plain (fun n hn => (h4 n hn).2) h3 rfl, expand_plain (fun n hn => (h4 n hn).2) h3 h2, fun hp => ?_⟩
  · simp only [plainS, Bool.and_eq_true, List.all_eq_true]
    exact ⟨fun n hn => decide_eq_true (h4 n hn).2, by rw [← right_eq]; exact h3⟩
  · simp only [plainS, Bool.and_eq_true, List.all_eq_true] at hp
    have := expand_plain (ds := ds) (fun n hn => of_decide_eq_true (hp.1 n hn)) h1 h2
    rw [this] at h
    exact (Prod.mk.inj h).1.symm
end Go.Rad
/- The order of names counts nothing; sets may be turned ahead of names, or behind. -/
namespace Go.Rad
open Go
abbrev distinct (ds : List Df) : Prop := ds.Pairwise fun a b => a.name ≠ b.name
theorem rightD_iff : ∀ (ds : List Df) (seen : List ByteArray), rightD seen ds = true ↔ (∀ d ∈ ds, hasB seen d.name = false ∧ nameOk d.name = true ∧ rightS d.l = true) ∧ distinct ds
  | [], seen => by simp [rightD, distinct]
  | d :: ds, seen => by
    rw [rightD]
    have ih := rightD_iff ds (seen ++ [d.name])
    have hb : ∀ x : ByteArray, hasB (seen ++ [d.name]) x = false ↔ hasB seen x = false ∧ d.name ≠ x := by
      intro x; simp [hasB, List.any_append]
    split
    · rename_i h
      constructor
      · intro h; cases h
      · rintro ⟨h1, _⟩
        obtain ⟨a, b, c⟩ := h1 d (by simp)
        rcases h with h | h | h
        · rw [a] at h; cases h
        · rw [b] at h; cases h
        · rw [c] at h; cases h
    · rename_i h
      simp only [not_or, Bool.not_eq_true, Bool.not_eq_false] at h
      rw [ih]
      simp only [hb]
      constructor
      · rintro ⟨h1, h2⟩
        refine ⟨fun e he => ?_, ?_⟩
        · rcases List.mem_cons.1 he with rfl | he
          · exact h
          · obtain ⟨a, b, c⟩ := h1 e he; exact ⟨a.1, b, c⟩
        · exact List.Pairwise.cons (fun e he => (h1 e he).1.2) h2
      · rintro ⟨h1, h2⟩
        cases h2 with
        | cons h3 h4 =>
          refine ⟨fun e he => ?_, h4⟩
          obtain ⟨a, b, c⟩ := h1 e (by simp [he])
          exact ⟨⟨a, h3 e he⟩, b, c⟩
theorem rightD_reverse (ds : List Df) : rightD [] ds.reverse = rightD [] ds := by
  have h : rightD [] ds.reverse = true ↔ rightD [] ds = true := by
    rw [rightD_iff, rightD_iff]
    simp only [List.mem_reverse, List.pairwise_reverse]
    constructor
    · rintro ⟨h1, h2⟩; exact ⟨h1, h2.imp fun h => Ne.symm h⟩
    · rintro ⟨h1, h2⟩; exact ⟨h1, h2.imp fun h => Ne.symm h⟩
  cases h1 : rightD [] ds <;> cases h2 : rightD [] ds.reverse <;> simp [h1, h2] at h ⊢
theorem dfind_cons (d : Df) (ds : List Df) (s : ByteArray) : dfind (d :: ds) s = if d.name = s then some d else dfind ds s := by
  unfold dfind
  rw [List.find?_cons]
  by_cases h : d.name = s <;> simp [h]
theorem dfind_iff {s : ByteArray} {d : Df} : ∀ {ds : List Df}, distinct ds → (dfind ds s = some d ↔ d ∈ ds ∧ d.name = s)
  | [], _ => by simp [dfind]
  | e :: ds, h => by
    cases h with
    | cons h3 h4 =>
      rw [dfind_cons]
      by_cases he : e.name = s
      · rw [if_pos he]
        constructor
        · intro h; cases h; exact ⟨by simp, he⟩
        · rintro ⟨h1, h2⟩
          rcases List.mem_cons.1 h1 with rfl | h1
          · rfl
          · exact absurd (he.trans h2.symm) (h3 d h1)
      · rw [if_neg he, dfind_iff h4]
        constructor
        · rintro ⟨h1, h2⟩; exact ⟨by simp [h1], h2⟩
        · rintro ⟨h1, h2⟩
          rcases List.mem_cons.1 h1 with rfl | h1
          · exact absurd h2 he
          · exact ⟨h1, h2⟩
theorem dfind_reverse {ds : List Df} (h : distinct ds) (s : ByteArray) : dfind ds.reverse s = dfind ds s := by
  have h' : distinct ds.reverse := by
    simp only [distinct, List.pairwise_reverse]
    exact h.imp fun h => Ne.symm h
  cases h1 : dfind ds s with
  | some d =>
    rw [dfind_iff h'] ; rw [dfind_iff h] at h1
    simpa using h1
  | none =>
    cases h2 : dfind ds.reverse s with
    | none => rfl
    | some d =>
      rw [dfind_iff h'] at h2
      have : dfind ds s = some d := by rw [dfind_iff h]; simpa using h2
      rw [h1] at this; cases this
theorem nameT_reverse {ds : List Df} (h : distinct ds) : ∀ (f : Nat) (op : List ByteArray), nameT ds.reverse f op = nameT ds f op
  | 0, _ => rfl
  | f + 1, op => by
    funext s out
    rw [nameT, nameT, dfind_reverse h, nameT_reverse h f]
theorem expand_reverse (l : List Node) (ds : List Df) : expandS l ds.reverse = expandS l ds := by
  unfold expandS
  rw [rightD_reverse]
  by_cases h : rightS l = true ∧ rightD [] ds = true
  · rw [if_pos h, if_pos h, nameT_reverse ((rightD_iff ds []).1 h.2).2, List.length_reverse]
  · rw [if_neg h, if_neg h]

/-- Sets turned. -/
abbrev mapS (φ : ISet → ISet) (n : Node) : Node := { n with s := φ n.s }
section
variable {φ : ISet → ISet}
def Keeps (φ : ISet → ISet) (l : List Node) : Prop := ∀ n ∈ l, (φ n.s = ISet.none ↔ n.s = ISet.none)
theorem shape_mapS {n : Node} (h : φ n.s = ISet.none ↔ n.s = ISet.none) : shapeOk (mapS φ n) = shapeOk n := by
  have e : decide (φ n.s ≠ ISet.none) = decide (n.s ≠ ISet.none) := by
    simp only [ne_eq, h]
  simp only [shapeOk, mapS, e]
theorem stk_mapS : ∀ {l : List Node} (_ : Keeps φ l) (i : Nat) (st : List Int), stkS (l.map (mapS φ)) i st = stkS l i st
  | [], _, _, _ => rfl
  | n :: l, h, i, st => by
    simp only [List.map_cons, stkS]
    rw [shape_mapS (h n (by simp)), stk_mapS (fun m hm => h m (by simp [hm]))]
theorem rightS_mapS {l : List Node} (h : Keeps φ l) : rightS (l.map (mapS φ)) = rightS l := by
  unfold rightS
  rw [stk_mapS h, List.length_map]
def mapO (φ : ISet → ISet) (o : Out) : Out := (o.1.map (mapS φ), o.2)
theorem mapO_1 (o : Out) : (mapO φ o).1 = o.1.map (mapS φ) := Eq.trans rfl rfl
theorem mapO_2 (o : Out) : (mapO φ o).2 = o.2 := Eq.trans rfl rfl
theorem putS_mapS (n : Node) (A : List Int) (out : List Node) : putS (mapS φ n) A (out.map (mapS φ)) = mapO φ (putS n A out) := by
  unfold putS mapO
  rw [List.length_map]
  by_cases h : 1024 ≤ out.length
  · simp only [if_pos h]
  · simp only [if_neg h, List.map_append, List.map_cons, List.map_nil]
theorem goT_mapS {nm nm' : ByteArray → List Node → Out} (hn : ∀ s out, nm' s (out.map (mapS φ)) = mapO φ (nm s out)) : ∀ (l : List Node) (A : List Int) (out : List Node), goT nm' (l.map (mapS φ)) A (out.map (mapS φ)) = mapO φ (goT nm l A out)
  | [], A, out => rfl
  | n :: l, A, out => by
    have hs : stepT nm' (mapS φ n) A (out.map (mapS φ)) = mapO φ (stepT nm n A out) := by
      unfold stepT
      by_cases h : n.op = 6
      · have h' : (mapS φ n).op = 6 := h
        rw [if_pos h, if_pos h']; exact hn _ _
      · have h' : ¬ (mapS φ n).op = 6 := h
        rw [if_neg h, if_neg h']; exact putS_mapS _ _ _
    rw [List.map_cons, goT, goT, hs]
    have ih := goT_mapS hn l
    generalize stepT nm n A out = r
    simp only [mapO_1, mapO_2]
    by_cases h : r.2.2 = 0
    · simp only [h, if_true]; exact ih _ _
    · simp only [h, if_false]; rfl
theorem nameT_mapS {ds ds' : List Df} (hf : ∀ s, dfind ds' s = (dfind ds s).map fun d => ⟨d.name, d.l.map (mapS φ)⟩) : ∀ (f : Nat) (op : List ByteArray) (s : ByteArray) (out : List Node), nameT ds' f op s (out.map (mapS φ)) = mapO φ (nameT ds f op s out)
  | 0, _, _, _ => rfl
  | f + 1, op, s, out => by
    rw [nameT, nameT, hf]
    cases dfind ds s with
    | none => rfl
    | some d =>
      simp only [Option.map_some]
      by_cases h : hasB op s = true
      · simp only [if_pos h]; rfl
      · simp only [if_neg h]
        exact goT_mapS (nameT_mapS hf f _) _ _ _
abbrev mapD (φ : ISet → ISet) (d : Df) : Df := ⟨d.name, d.l.map (mapS φ)⟩
theorem dfind_map (φ : ISet → ISet) (s : ByteArray) : ∀ ds : List Df, dfind (ds.map (mapD φ)) s = (dfind ds s).map (mapD φ)
  | [] => rfl
  | d :: ds => by
    rw [List.map_cons, dfind_cons, dfind_cons, dfind_map φ s ds]
    by_cases h : d.name = s <;> simp [h]
theorem rightD_mapS : ∀ {ds : List Df} (_ : ∀ d ∈ ds, Keeps φ d.l) (seen : List ByteArray), rightD seen (ds.map (mapD φ)) = rightD seen ds
  | [], _, _ => rfl
  | d :: ds, h, seen => by
    rw [List.map_cons, rightD, rightD, rightS_mapS (h d (by simp)), rightD_mapS fun e he => h e (by simp [he])]
theorem expand_mapS {l : List Node} {ds : List Df} (hl : Keeps φ l) (hd : ∀ d ∈ ds, Keeps φ d.l) : expandS (l.map (mapS φ)) (ds.map (mapD φ)) = ((expandS l ds).1.map (mapS φ), (expandS l ds).2) := by
  unfold expandS
  rw [rightS_mapS hl, rightD_mapS hd, List.length_map]
  have h2 := goT_mapS (φ := φ) (nameT_mapS (φ := φ) (fun s => dfind_map φ s ds) (ds.length + 1) []) l [] []
  rw [List.map_nil] at h2
  rw [h2]
  by_cases h : rightS l = true ∧ rightD [] ds = true
  · rw [if_pos h, if_pos h]
    simp only [mapO_1, mapO_2]
    generalize goT (nameT ds (ds.length + 1) []) l [] [] = r
    by_cases he : r.2.2 = 0
    · simp only [he, if_true]
    · simp only [he, if_false]; rfl
  · rw [if_neg h, if_neg h]; rfl
end
end Go.Rad
/- Sets by bits, as the program's own package has them. -/
namespace Go.Rad
open Go

/-- A call's arguments are what their kinds hold. -/
theorem ACall.fit {P : Program} {f : Nat} {args : List AVal} {sto : Sto} {R : AVal → Sto → Prop} (i j : Nat) {cs : List AVal} {k : IntKind} {n : Int} (able : Callable P f) (hi : args[i]? = some (.agg cs)) (hj : cs[j]? = some (.int k n)) (h : fits k n → ACall P f args sto R) : ACall P f args sto R := by
  refine ⟨able, fun G w cargs hw hs ha => ?_⟩
  have hr := ha.2 i _ hi
  generalize cargs.getD i undef = v at hr
  cases hr with
  | agg a b c =>
    have h2 := c j _ hj
    generalize Array.getD _ j undef = u at h2
    cases h2 with
    | int hf => exact (h hf).calls G w cargs hw hs ha
theorem ACall.fitI {P : Program} {f : Nat} {args : List AVal} {sto : Sto} {R : AVal → Sto → Prop} (i : Nat) {k : IntKind} {n : Int} (able : Callable P f) (hi : args[i]? = some (.int k n)) (h : fits k n → ACall P f args sto R) : ACall P f args sto R := by
  refine ⟨able, fun G w cargs hw hs ha => ?_⟩
  have hr := ha.2 i _ hi
  generalize cargs.getD i undef = v at hr
  cases hr with
  | int hf => exact (h hf).calls G w cargs hw hs ha
theorem fit64 {n : Int} (h : fits .u64 n) : ∃ m : Nat, n = m ∧ m < 18446744073709551616 := by
  have m1 : IntKind.u64.min = 0 := by kernel_rfl
  have m2 : IntKind.u64.max = 18446744073709551615 := by kernel_rfl
  obtain ⟨a, b⟩ := h
  rw [m1] at a
  rw [m2] at b
  exact ⟨n.toNat, by omega, by omega⟩
theorem able_of {P : Program} {f : Nat} {fn : Func} (hf : P.funcs[f]? = some fn) (hn : (fn.name == "runtime.NumGoroutine") = false) (hb : fn.body.isNone = false) : Callable P f := ⟨fn, hf, hn, hb⟩

theorem bits_and {a b : Nat} (ha : a < 18446744073709551616) (hb : b < 18446744073709551616) : bitsOf .and .u64 a b = ((a &&& b : Nat) : Int) := by
  have h1 : (BitVec.ofInt IntKind.u64.bits (a : Int)).toNat = a := by
    simp only [IntKind.bits, BitVec.toNat_ofInt]; omega
  have h2 : (BitVec.ofInt IntKind.u64.bits (b : Int)).toNat = b := by
    simp only [IntKind.bits, BitVec.toNat_ofInt]; omega
  simp only [bitsOf, BitVec.toNat_and, h1, h2]
  have : a &&& b ≤ a := Nat.and_le_left
  exact wr_u64 (by omega) (by omega)
theorem bits_or {a b : Nat} (ha : a < 18446744073709551616) (hb : b < 18446744073709551616) : bitsOf .or .u64 a b = ((a ||| b : Nat) : Int) := by
  have h1 : (BitVec.ofInt IntKind.u64.bits (a : Int)).toNat = a := by
    simp only [IntKind.bits, BitVec.toNat_ofInt]; omega
  have h2 : (BitVec.ofInt IntKind.u64.bits (b : Int)).toNat = b := by
    simp only [IntKind.bits, BitVec.toNat_ofInt]; omega
  simp only [bitsOf, BitVec.toNat_or, h1, h2]
  have : a ||| b < 2 ^ 64 := Nat.or_lt_two_pow (by simpa using ha) (by simpa using hb)
  exact wr_u64 (by omega) (by omega)

/-- Words of a set, as naturals. -/
structure NSet where
  a : Nat
  b : Nat
  c : Nat
  d : Nat
  deriving DecidableEq
abbrev NSet.I (s : NSet) : ISet := ⟨s.a, s.b, s.c, s.d⟩
def NSet.ok (s : NSet) : Prop := s.a < 18446744073709551616 ∧ s.b < 18446744073709551616 ∧ s.c < 18446744073709551616 ∧ s.d < 18446744073709551616
def NSet.or (s t : NSet) : NSet := ⟨s.a ||| t.a, s.b ||| t.b, s.c ||| t.c, s.d ||| t.d⟩
def NSet.and (s t : NSet) : NSet := ⟨s.a &&& t.a, s.b &&& t.b, s.c &&& t.c, s.d &&& t.d⟩
def nzero : NSet := ⟨0, 0, 0, 0⟩
def nfull : NSet := ⟨18446744073709551615, 18446744073709551615, 18446744073709551615, 18446744073709551615⟩
def NSet.word (s : NSet) (i : Nat) : Nat := match i with | 0 => s.a | 1 => s.b | 2 => s.c | _ => s.d
/-- One byte more. -/
def NSet.add (s : NSet) (n : Nat) : NSet :=
  match n / 64 with
  | 0 => { s with a := s.a ||| 2 ^ (n % 64) }
  | 1 => { s with b := s.b ||| 2 ^ (n % 64) }
  | 2 => { s with c := s.c ||| 2 ^ (n % 64) }
  | _ => { s with d := s.d ||| 2 ^ (n % 64) }
def ofS (l : List Nat) : NSet := l.foldl NSet.add nzero
def rangeS (lo hi : Nat) : NSet := (List.range (hi + 1 - lo)).foldl (fun s i => s.add (lo + i)) nzero
theorem add_ok {s : NSet} {n : Nat} (h : s.ok) : (s.add n).ok := by
  have hb : 2 ^ (n % 64) < 18446744073709551616 := by
    have : 2 ^ (n % 64) < 2 ^ 64 := Nat.pow_lt_pow_right (by decide) (Nat.mod_lt _ (by decide))
    simpa using this
  have ho : ∀ x : Nat, x < 18446744073709551616 → x ||| 2 ^ (n % 64) < 18446744073709551616 := by
    intro x hx
    have : x ||| 2 ^ (n % 64) < 2 ^ 64 := Nat.or_lt_two_pow (by simpa using hx) (by simpa using hb)
    simpa using this
  obtain ⟨h1, h2, h3, h4⟩ := h
  unfold NSet.add
  split
  · exact ⟨ho _ h1, h2, h3, h4⟩
  · exact ⟨h1, ho _ h2, h3, h4⟩
  · exact ⟨h1, h2, ho _ h3, h4⟩
  · exact ⟨h1, h2, h3, ho _ h4⟩
theorem or_ok {s t : NSet} (h : s.ok) (k : t.ok) : (s.or t).ok := by
  have ho : ∀ x y : Nat, x < 18446744073709551616 → y < 18446744073709551616 → x ||| y < 18446744073709551616 := by
    intro x y hx hy
    have : x ||| y < 2 ^ 64 := Nat.or_lt_two_pow (by simpa using hx) (by simpa using hy)
    simpa using this
  exact ⟨ho _ _ h.1 k.1, ho _ _ h.2.1 k.2.1, ho _ _ h.2.2.1 k.2.2.1, ho _ _ h.2.2.2 k.2.2.2⟩
theorem and_ok {s t : NSet} (h : s.ok) : (s.and t).ok := by
  have ho : ∀ x y : Nat, x < 18446744073709551616 → x &&& y < 18446744073709551616 := fun x y hx => Nat.lt_of_le_of_lt Nat.and_le_left hx
  exact ⟨ho _ _ h.1, ho _ _ h.2.1, ho _ _ h.2.2.1, ho _ _ h.2.2.2⟩

theorem AGood.loopAt {P : Program} {f : Nat} {fn : Func} {df : List DDel} {k : List Item} {tm : Tm} {sto : Sto} {R : AVal → Sto → Prop} (id : Nat) {ops : Array Oper} {b : Bool} {r : Code} (h : AGood P f fn df (.code (.seq (.region id ops b) r) :: .inLoop (.seq (.region id ops b) r) :: k) tm sto R) : AGood P f fn df (.code (.loop (.seq (.region id ops b) r)) :: k) tm sto R := .loop h
theorem AGood.inLoopAt {P : Program} {f : Nat} {fn : Func} {df : List DDel} {k : List Item} {tm : Tm} {sto : Sto} {R : AVal → Sto → Prop} (id : Nat) {ops : Array Oper} {b : Bool} {r : Code} (h : AGood P f fn df (.code (.seq (.region id ops b) r) :: .inLoop (.seq (.region id ops b) r) :: k) tm sto R) : AGood P f fn df (.inLoop (.seq (.region id ops b) r) :: k) tm sto R := .inLoop h
abbrev nsets (l : List NSet) : List (List AVal) := l.map fun s => s.I.cells
end Go.Rad
/- The bits of a word, one by one from the lowest. -/
namespace Go.Rad
open Go
theorem clear_low {n k : Nat} (hd : 2 ^ k ∣ n) (h0 : n ≠ 0) : 2 ^ (k + 1) ∣ n &&& (n - 1) := by
  obtain ⟨q, rfl⟩ := hd
  have hq : q ≠ 0 := by rintro rfl; simp at h0
  have hp : 0 < 2 ^ k := Nat.pow_pos (by decide)
  refine Nat.dvd_of_mod_eq_zero (Nat.eq_of_testBit_eq fun i => ?_)
  rw [Nat.testBit_mod_two_pow, Nat.zero_testBit, Nat.testBit_and]
  by_cases hi : i < k + 1
  · simp only [hi, decide_true, Bool.true_and]
    rcases Nat.lt_or_ge i k with h | h
    · rw [Nat.testBit_two_pow_mul]
      simp [Nat.not_le.2 h]
    · have : i = k := by omega
      subst this
      have e : 2 ^ i * q - 1 = 2 ^ i * (q - 1) + (2 ^ i - 1) := by
        have : 2 ^ i * q = 2 ^ i * (q - 1) + 2 ^ i := by
          rw [← Nat.mul_succ]; congr 1; omega
        omega
      rw [Nat.testBit_two_pow_mul, e, Nat.testBit_two_pow_mul_add _ (by omega)]
      simp only [Nat.le_refl, decide_true, Nat.sub_self, Nat.lt_irrefl, if_false, Bool.true_and]
      simp only [Nat.testBit_zero]
      by_cases h1 : q % 2 = 1
      · have : ¬ (q - 1) % 2 = 1 := by omega
        simp [this]
      · simp [h1]
  · simp [hi]
theorem clear_lt {n : Nat} (h0 : n ≠ 0) : n &&& (n - 1) < n := Nat.lt_of_le_of_lt Nat.and_le_right (by omega)
theorem dvd_lt {n k : Nat} (hd : 2 ^ k ∣ n) (h0 : n ≠ 0) (hn : n < 18446744073709551616) : k < 64 := by
  have h1 := Nat.le_of_dvd (Nat.pos_of_ne_zero h0) hd
  rcases Nat.lt_or_ge k 64 with h | h
  · exact h
  · exfalso
    have : 2 ^ 64 ≤ 2 ^ k := Nat.pow_le_pow_right (by decide) h
    have h64 : (2 : Nat) ^ 64 = 18446744073709551616 := by decide
    rw [h64] at this
    omega
end Go.Rad
/- What a call tells, said otherwise: an own row that it tells is given away. -/
namespace Go.Rad
open Go
theorem ACall.post {P : Program} {f : Nat} {args : List AVal} {sto : Sto} {R R' : AVal → Sto → Prop} (h : ACall P f args sto R)
    (hp : ∀ (G : Gh) (w : World) (r : AVal) (s : Sto) (v : Value), WOk G w → StoOk G w s → Rep G true r v → R r s → ∃ G' r' s', Ext G G' ∧ WOk G' w ∧ StoOk G' w s' ∧ Rep G' true r' v ∧ R' r' s') : ACall P f args sto R' := by
  refine ⟨h.able, fun G w cargs a b c => (h.calls G w cargs a b c).mono fun _ _ p => ?_⟩
  obtain ⟨G', cr, r, sto', a, b, c, d, e', f⟩ := p
  obtain ⟨G2, r2, s2, x1, x2, x3, x4, x5⟩ := hp _ _ _ _ _ c d e' f
  exact ⟨G2, cr, r2, s2, a, b.trans x1, x2, x3, x4, x5⟩
theorem ACall.frzRes {P : Program} {f : Nat} {args : List AVal} {sto : Sto} {R R' : AVal → Sto → Prop} (h : ACall P f args sto R)
    (hp : ∀ r s, R r s → (∃ id g esz l, r = .osl id g 0 l.length ∧ sget s id = some (g, .row esz l) ∧ R' (.sl true false l) (sdel s id)) ∨ (∃ q full l, r = .sl q full l ∧ R' (.sl q false l) s) ∨ R' r s) : ACall P f args sto R' := by
  refine h.post fun G w r s v hw hs hr hR => ?_
  rcases hp r s hR with ⟨id, g, esz, l, rfl, hg, h'⟩ | ⟨q, full, l, rfl, h'⟩ | h'
  · obtain ⟨G', hext, hw', hs', hR⟩ := sto_freeze hw hs hg
    have := hR 0 l.length v (by omega) hr
    simp only [List.drop_zero, List.take_length] at this
    exact ⟨G', _, _, hext, hw', hs', this, h'⟩
  · refine ⟨G, _, s, .refl G, hw, hs, ?_, h'⟩
    cases hr with
    | slnil => exact .slnil (fun h => by cases h)
    | sl a _ b c d e f g h => exact .sl a (fun h => by cases h) b c d e f g h
  · exact ⟨G, r, s, .refl G, hw, hs, hr, h'⟩
/-- The numbers within an argument that is a list are what their kinds hold. -/
theorem ACall.fitSl {P : Program} {f : Nat} {args : List AVal} {sto : Sto} {R : AVal → Sto → Prop} (i : Nat) {q full : Bool} {l : List (List AVal)} (able : Callable P f) (hi : args[i]? = some (.sl q full l))
    (h : (∀ (m j : Nat) (x : List AVal) (k : IntKind) (n : Int), l[m]? = some x → x[j]? = some (.int k n) → fits k n) → ACall P f args sto R) : ACall P f args sto R := by
  refine ⟨able, fun G w cargs hw hs ha => ?_⟩
  have hr := ha.2 i _ hi
  generalize cargs.getD i undef = v at hr
  refine (h fun m j x k n hm hj => ?_).calls G w cargs hw hs ha
  cases hr with
  | slnil => simp at hm
  | sl _ _ _ _ _ _ _ _ hc =>
    have := hc m j x _ hm hj
    revert this
    generalize Array.getD _ _ undef = u
    intro this
    cases this with
    | int hf => exact hf
end Go.Rad
/- What an argument of a type is, by content. -/
namespace Go.Rad
open Go
theorem list_of {α : Type} {F : α → List AVal} {P : α → Prop} : ∀ {l : List (List AVal)}, (∀ y ∈ l, ∃ a, y = F a ∧ P a) → ∃ bs : List α, l = bs.map F ∧ ∀ a ∈ bs, P a
  | [], _ => ⟨[], rfl, fun a h => by simp at h⟩
  | y :: l, h => by
    obtain ⟨a, rfl, ha⟩ := h y (by simp)
    obtain ⟨bs, rfl, has⟩ := list_of (l := l) fun y hy => h y (by simp [hy])
    refine ⟨a :: bs, rfl, fun b hb => ?_⟩
    rcases List.mem_cons.1 hb with rfl | hb
    · exact ha
    · exact has b hb
section
variable {L : Lay} {k t : Nat} {y : List AVal}
theorem ty_int {i : IntKind} (ht : (L t).ty = .int i) (h : typed L (k + 1) t y) : ∃ n, y = [.int i n] ∧ fits i n := by
  unfold typed at h; rw [ht] at h; exact h
theorem ty_bool (ht : (L t).ty = .bool) (h : typed L (k + 1) t y) : ∃ b, y = [.bool b] := by
  unfold typed at h; rw [ht] at h; exact h
theorem ty_str (ht : (L t).ty = .string) (h : typed L (k + 1) t y) : ∃ s : ByteArray, y = [.str s] ∧ s.size ≤ maxLen := by
  unfold typed at h; rw [ht] at h; exact h
theorem ty_slice {e : Nat} (ht : (L t).ty = .slice e) (h : typed L (k + 1) t y) : ∃ l : List (List AVal), y = [.sl true false l] ∧ l.length ≤ maxLen ∧ ∀ x ∈ l, typed L k e x := by
  unfold typed at h; rw [ht] at h; exact h
theorem ty_struct {fs : List (Nat × Nat)} (ht : (L t).ty = .struct fs) (h : typed L (k + 1) t y) : typedL (typed L k) fs y := by
  unfold typed at h; rw [ht] at h; exact h
theorem ty_array {n e : Nat} (ht : (L t).ty = .array n e) (h : typed L (k + 1) t y) : typedN (typed L k e) n y := by
  unfold typed at h; rw [ht] at h; exact h
theorem ty_ints {e : Nat} (ht : (L t).ty = .slice e) (he : (L e).ty = .int .i64) (h : typed L (k + 2) t y) : ∃ l : List Int, y = [.sl true false (ints l)] ∧ l.length ≤ maxLen := by
  obtain ⟨l, rfl, hl, hx⟩ := ty_slice ht h
  obtain ⟨ns, rfl, _⟩ := list_of (F := fun n => [AVal.int .i64 n]) (P := fun _ => True) fun x hx' => by
    obtain ⟨n, rfl, _⟩ := ty_int he (hx x hx')
    exact ⟨n, rfl, trivial⟩
  exact ⟨ns, rfl, by simpa using hl⟩
theorem ty_set {e : Nat} (ht : (L t).ty = .array 4 e) (he : (L e).ty = .int .u64) (h : typed L (k + 2) t y) : ∃ s : ISet, y = s.cells := by
  have h := ty_array ht h
  obtain ⟨x1, r1, rfl, h1, x2, r2, rfl, h2, x3, r3, rfl, h3, x4, r4, rfl, h4, rfl⟩ := h
  obtain ⟨a, rfl, _⟩ := ty_int he h1
  obtain ⟨b, rfl, _⟩ := ty_int he h2
  obtain ⟨c, rfl, _⟩ := ty_int he h3
  obtain ⟨d, rfl, _⟩ := ty_int he h4
  exact ⟨⟨a, b, c, d⟩, rfl⟩
/-- The types of a node's parts. -/
structure NodeTy (L : Lay) (t : Nat) : Prop where
  ex : ∃ o st l i s w : Nat, (L t).ty = .struct [(0, o), (1, st), (5, l), (6, i), (7, i), (8, s)] ∧ (L o).ty = .int .u8 ∧ (L st).ty = .array 4 w ∧ (L w).ty = .int .u64 ∧ (L l).ty = .slice i ∧ (L i).ty = .int .i64 ∧ (L s).ty = .string
theorem ty_node (hn : NodeTy L t) (h : typed L (k + 3) t y) : ∃ n : Node, y = n.cells ∧ n.name.size ≤ maxLen ∧ n.l.length ≤ maxLen := by
  obtain ⟨o, st, l, i, s, w, h1, h2, h3, h4, h5, h6, h7⟩ := hn.ex
  have h := ty_struct h1 h
  obtain ⟨x1, r1, rfl, p1, x2, r2, rfl, p2, x3, r3, rfl, p3, x4, r4, rfl, p4, x5, r5, rfl, p5, x6, r6, rfl, p6, rfl⟩ := h
  obtain ⟨no, rfl, _⟩ := ty_int h2 p1
  obtain ⟨ns, rfl⟩ := ty_set h3 h4 p2
  obtain ⟨nl, rfl, hl⟩ := ty_ints h5 h6 p3
  obtain ⟨nlo, rfl, _⟩ := ty_int h6 p4
  obtain ⟨nhi, rfl, _⟩ := ty_int h6 p5
  obtain ⟨nn, rfl, hs⟩ := ty_str h7 p6
  exact ⟨⟨no, ns, nl, nlo, nhi, nn⟩, rfl, hs, hl⟩
theorem ty_nodes {e : Nat} (ht : (L t).ty = .slice e) (hn : NodeTy L e) (h : typed L (k + 4) t y) : ∃ l : List Node, y = [.sl true false (nodes l)] ∧ l.length ≤ maxLen ∧ ∀ n ∈ l, n.name.size ≤ maxLen ∧ n.l.length ≤ maxLen := by
  obtain ⟨l, rfl, hl, hx⟩ := ty_slice ht h
  obtain ⟨ns, rfl, hns⟩ := list_of (F := Node.cells) (P := fun n => n.name.size ≤ maxLen ∧ n.l.length ≤ maxLen) fun x hx' => ty_node hn (hx x hx')
  exact ⟨ns, rfl, by simpa using hl, hns⟩
structure DefTy (L : Lay) (t : Nat) : Prop where
  ex : ∃ s l n : Nat, (L t).ty = .struct [(0, s), (1, l)] ∧ (L s).ty = .string ∧ (L l).ty = .slice n ∧ NodeTy L n
theorem ty_defs {e : Nat} (ht : (L t).ty = .slice e) (hn : DefTy L e) (h : typed L (k + 6) t y) : ∃ l : List Df, y = [.sl true false (defs l)] ∧ l.length ≤ maxLen ∧ ∀ d ∈ l, d.name.size ≤ maxLen ∧ d.l.length ≤ maxLen ∧ ∀ n ∈ d.l, n.name.size ≤ maxLen ∧ n.l.length ≤ maxLen := by
  obtain ⟨s, ln, n, h1, h2, h3, h4⟩ := hn.ex
  obtain ⟨l, rfl, hl, hx⟩ := ty_slice ht h
  obtain ⟨ds, rfl, hds⟩ := list_of (F := Df.cells) (P := fun d => d.name.size ≤ maxLen ∧ d.l.length ≤ maxLen ∧ ∀ n ∈ d.l, n.name.size ≤ maxLen ∧ n.l.length ≤ maxLen) fun x hx' => by
    have h := ty_struct h1 (hx x hx')
    obtain ⟨x1, r1, rfl, p1, x2, r2, rfl, p2, rfl⟩ := h
    obtain ⟨nn, rfl, hs⟩ := ty_str h2 p1
    obtain ⟨dl, rfl, hd1, hd2⟩ := ty_nodes h3 h4 p2
    exact ⟨⟨nn, dl⟩, rfl, hs, hd1, hd2⟩
  exact ⟨ds, rfl, by simpa using hl, hds⟩
theorem ty_one (ha : (L t).ag = false) {x : AVal} (h : typedP L t x) : typed L 9 t [x] := by
  unfold typedP at h; rw [ha] at h; exact h
end
end Go.Rad
/- Sets of nodes whose words are what their kinds hold. -/
namespace Go.Rad
open Go
def ISet.N (s : ISet) : NSet := ⟨s.a.toNat, s.b.toNat, s.c.toNat, s.d.toNat⟩
def ISet.okI (s : ISet) : Prop := fits .u64 s.a ∧ fits .u64 s.b ∧ fits .u64 s.c ∧ fits .u64 s.d
theorem okI_N {s : ISet} (h : s.okI) : s.N.ok ∧ s = s.N.I := by
  obtain ⟨a, b, c, d⟩ := s
  obtain ⟨h1, h2, h3, h4⟩ := h
  obtain ⟨a, rfl, k1⟩ := fit64 h1
  obtain ⟨b, rfl, k2⟩ := fit64 h2
  obtain ⟨c, rfl, k3⟩ := fit64 h3
  obtain ⟨d, rfl, k4⟩ := fit64 h4
  exact ⟨⟨k1, k2, k3, k4⟩, rfl⟩
section
variable {L : Lay} {k t : Nat} {y : List AVal}
theorem ty_setF {e : Nat} (ht : (L t).ty = .array 4 e) (he : (L e).ty = .int .u64) (h : typed L (k + 2) t y) : ∃ s : ISet, y = s.cells ∧ s.okI := by
  have h := ty_array ht h
  obtain ⟨x1, r1, rfl, h1, x2, r2, rfl, h2, x3, r3, rfl, h3, x4, r4, rfl, h4, rfl⟩ := h
  obtain ⟨a, rfl, f1⟩ := ty_int he h1
  obtain ⟨b, rfl, f2⟩ := ty_int he h2
  obtain ⟨c, rfl, f3⟩ := ty_int he h3
  obtain ⟨d, rfl, f4⟩ := ty_int he h4
  exact ⟨⟨a, b, c, d⟩, rfl, f1, f2, f3, f4⟩
def nodeFit (n : Node) : Prop := (n.name.size ≤ maxLen ∧ n.l.length ≤ maxLen) ∧ n.s.okI
theorem ty_nodeF (hn : NodeTy L t) (h : typed L (k + 3) t y) : ∃ n : Node, y = n.cells ∧ nodeFit n := by
  obtain ⟨o, st, l, i, s, w, h1, h2, h3, h4, h5, h6, h7⟩ := hn.ex
  have h := ty_struct h1 h
  obtain ⟨x1, r1, rfl, p1, x2, r2, rfl, p2, x3, r3, rfl, p3, x4, r4, rfl, p4, x5, r5, rfl, p5, x6, r6, rfl, p6, rfl⟩ := h
  obtain ⟨no, rfl, _⟩ := ty_int h2 p1
  obtain ⟨ns, rfl, hst⟩ := ty_setF h3 h4 p2
  obtain ⟨nl, rfl, hl⟩ := ty_ints h5 h6 p3
  obtain ⟨nlo, rfl, _⟩ := ty_int h6 p4
  obtain ⟨nhi, rfl, _⟩ := ty_int h6 p5
  obtain ⟨nn, rfl, hs⟩ := ty_str h7 p6
  exact ⟨⟨no, ns, nl, nlo, nhi, nn⟩, rfl, ⟨hs, hl⟩, hst⟩
theorem ty_nodesF {e : Nat} (ht : (L t).ty = .slice e) (hn : NodeTy L e) (h : typed L (k + 4) t y) : ∃ l : List Node, y = [.sl true false (nodes l)] ∧ l.length ≤ maxLen ∧ ∀ n ∈ l, nodeFit n := by
  obtain ⟨l, rfl, hl, hx⟩ := ty_slice ht h
  obtain ⟨ns, rfl, hns⟩ := list_of (F := Node.cells) (P := nodeFit) fun x hx' => ty_nodeF hn (hx x hx')
  exact ⟨ns, rfl, by simpa using hl, hns⟩
theorem ty_defsF {e : Nat} (ht : (L t).ty = .slice e) (hn : DefTy L e) (h : typed L (k + 6) t y) : ∃ l : List Df, y = [.sl true false (defs l)] ∧ l.length ≤ maxLen ∧ ∀ d ∈ l, d.name.size ≤ maxLen ∧ d.l.length ≤ maxLen ∧ ∀ n ∈ d.l, nodeFit n := by
  obtain ⟨s, ln, n, h1, h2, h3, h4⟩ := hn.ex
  obtain ⟨l, rfl, hl, hx⟩ := ty_slice ht h
  obtain ⟨ds, rfl, hds⟩ := list_of (F := Df.cells) (P := fun d => d.name.size ≤ maxLen ∧ d.l.length ≤ maxLen ∧ ∀ n ∈ d.l, nodeFit n) fun x hx' => by
    have h := ty_struct h1 (hx x hx')
    obtain ⟨x1, r1, rfl, p1, x2, r2, rfl, p2, rfl⟩ := h
    obtain ⟨nn, rfl, hs⟩ := ty_str h2 p1
    obtain ⟨dl, rfl, hd1, hd2⟩ := ty_nodesF h3 h4 p2
    exact ⟨⟨nn, dl⟩, rfl, hs, hd1, hd2⟩
  exact ⟨ds, rfl, by simpa using hl, hds⟩
end
end Go.Rad
