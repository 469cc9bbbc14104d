/- The logic: contracts of functions, and what is known of the rest of a function's code from a state on. -/
import Derived.Test.YtejdlelhlpnabaaDoorKROpS
import Derived.Test.YtejdlelhlpnabaaDoorKRLay
import Derived.Defers
set_option linter.all false
namespace Go.Rad
open Go

def ArgsRep (G : Gh) (args : List AVal) (cargs : Array Value) : Prop := cargs.size = args.length ∧ ∀ (j : Nat) (x : AVal), args[j]? = some x → Rep G true x (cargs.getD j undef)

/-- What a call has come to: it has returned, and the result, and the own things, are as is said. -/
def Post (E : Gh) (R : AVal → Sto → Prop) (e : Ending) (w' : World) : Prop :=
  ∃ G' cr r sto', e = .returned cr ∧ Ext E G' ∧ WOk G' w' ∧ StoOk G' w' sto' ∧ Rep G' true r cr ∧ R r sto'

def Callable (P : Program) (f : Nat) : Prop := ∃ fn, P.funcs[f]? = some fn ∧ (fn.name == "runtime.NumGoroutine") = false ∧ fn.body.isNone = false

/-- A contract: called so, over these own things, it returns, and R holds. -/
structure ACall (P : Program) (f : Nat) (args : List AVal) (sto : Sto) (R : AVal → Sto → Prop) : Prop where
  able : Callable P f
  calls : ∀ (G : Gh) (w : World) (cargs : Array Value), WOk G w → StoOk G w sto → ArgsRep G args cargs → Calls P f cargs w (Post G R)

theorem Post.mono {E E' : Gh} {R R' : AVal → Sto → Prop} (hE : Ext E' E) (h : ∀ r s, R r s → R' r s) {e : Ending} {w : World} (p : Post E R e w) : Post E' R' e w := by
  obtain ⟨G', cr, r, sto', a, b, c, d, e', f⟩ := p
  exact ⟨G', cr, r, sto', a, hE.trans b, c, d, e', h _ _ f⟩

theorem ACall.mono {P : Program} {f : Nat} {args : List AVal} {sto : Sto} {R R' : AVal → Sto → Prop} (h : ACall P f args sto R) (hR : ∀ r s, R r s → R' r s) : ACall P f args sto R' :=
  ⟨h.able, fun G w cargs a b c => (h.calls G w cargs a b c).mono fun _ _ p => p.mono (.refl G) hR⟩

structure DDel where
  t : Nat
  t2 : Nat
  m : AVal
  k : AVal

/-- Deferred deletes, and the machine's own. -/
def DfOk (G : Gh) : List DDel → List Deferred → Prop
  | [], [] => True
  | d :: ds, e :: es => (∃ ty cs v u, e = { target := .builtin .delete #[d.t, d.t2] ty cs, args := #[v, u] } ∧ Rep G true d.m v ∧ Rep G true d.k u) ∧ DfOk G ds es
  | _, _ => False

theorem DfOk.mono {G G' : Gh} (hm : Mono G G') : ∀ {ds : List DDel} {es : List Deferred}, DfOk G ds es → DfOk G' ds es
  | [], [], _ => trivial
  | [], _ :: _, h => by simp [DfOk] at h
  | _ :: _, [], h => by simp [DfOk] at h
  | _ :: _, _ :: _, ⟨⟨ty, cs, v, u, a, b, c⟩, h⟩ => ⟨⟨ty, cs, v, u, a, b.mono hm, c.mono hm⟩, h.mono hm⟩

def Good (P : Program) (f : Nat) (R : Ending → World → Prop) (b : Frame) (k : List Item) (a : Act) (w : World) : Prop :=
  ∀ cs, ∃ e w' fr, R e w' ∧ Comes P (lone (b.at a k) cs w) (lone fr cs w') e ∧ fr.fn = f ∧ fr.leaving P w' e

/-- From a state on, with this code to do, the function comes to return, and R holds. -/
structure AGood (P : Program) (f : Nat) (fn : Func) (df : List DDel) (k : List Item) (tm : Tm) (sto : Sto) (R : AVal → Sto → Prop) : Prop where
  go : ∀ (E G : Gh) (a : Act) (w : World) (b : Frame), b.fn = f → b.kind = .normal → P.funcs[f]? = some fn → a.tmps.size = fn.ntmps → DfOk G df a.defers → Ext E G → WOk G w → StoOk G w sto → TmOk G tm a.tmps →
    Good P f (Post E R) b k a w

theorem Good.step {P : Program} {f : Nat} {R : Ending → World → Prop} {b : Frame} {k k' : List Item} {a a' : Act} {w w' : World} (hs : ∀ cs, step P (lone (b.at a k) cs w) = .next (lone (b.at a' k') cs w')) (h : Good P f R b k' a' w') : Good P f R b k a w := by
  intro cs
  obtain ⟨e, w2, fr, h1, h2, h3, h4⟩ := h cs
  exact ⟨e, w2, fr, h1, Comes.of_steps (.one (hs cs)) h2, h3, h4⟩

section
variable {P : Program} {L : Lay} {f : Nat} {fn : Func} {df : List DDel} {k : List Item} {tm : Tm} {sto : Sto} {R : AVal → Sto → Prop}

theorem AGood.step {k' : List Item} (hs : ∀ (b : Frame) (a : Act) (w : World) (cs : List Frame), Go.step P (lone (b.at a k) cs w) = .next (lone (b.at a k') cs w)) (h : AGood P f fn df k' tm sto R) : AGood P f fn df k tm sto R :=
  ⟨fun E G a w b h1 h2 h3 h4 h5 h6 h7 h8 h9 => Good.step (fun cs => hs b a w cs) (h.go E G a w b h1 h2 h3 h4 h5 h6 h7 h8 h9)⟩

theorem AGood.seq {x y : Code} (h : AGood P f fn df (.code x :: .code y :: k) tm sto R) : AGood P f fn df (.code (.seq x y) :: k) tm sto R := .step (fun _ _ _ _ => step_seq) h
theorem AGood.skip (h : AGood P f fn df k tm sto R) : AGood P f fn df (.code .skip :: k) tm sto R := .step (fun _ _ _ _ => step_skip) h
theorem AGood.block {id : Nat} {c : Code} (h : AGood P f fn df (.code c :: .inBlock id :: k) tm sto R) : AGood P f fn df (.code (.block id c) :: k) tm sto R := .step (fun _ _ _ _ => step_block) h
theorem AGood.inBlock {id : Nat} (h : AGood P f fn df k tm sto R) : AGood P f fn df (.inBlock id :: k) tm sto R := .step (fun _ _ _ _ => step_inBlock) h
theorem AGood.loop {c : Code} (h : AGood P f fn df (.code c :: .inLoop c :: k) tm sto R) : AGood P f fn df (.code (.loop c) :: k) tm sto R := .step (fun _ _ _ _ => step_loop) h
theorem AGood.inLoop {c : Code} (h : AGood P f fn df (.code c :: .inLoop c :: k) tm sto R) : AGood P f fn df (.inLoop c :: k) tm sto R := .step (fun _ _ _ _ => step_inLoop) h
theorem AGood.exit {id : Nat} {k' : List Item} (hk : exitTo id k = some k') (h : AGood P f fn df k' tm sto R) : AGood P f fn df (.code (.exit id) :: k) tm sto R := .step (fun _ _ _ _ => step_exit hk) h

theorem AGood.cond {c : Operand} {x y : Code} {t : Bool} (hc : ev tm c = .bool t) (hok : operandOk c = true) (h1 : t = true → AGood P f fn df (.code x :: k) tm sto R) (h2 : t = false → AGood P f fn df (.code y :: k) tm sto R) :
    AGood P f fn df (.code (.cond c x y) :: k) tm sto R := by
  refine ⟨?_⟩
  intro E G a w b h1' h2' h3 h4 h5 h6 h7 h8 h9
  have hr := ev_rep h7 h9 hok
  rw [hc] at hr
  have hv := Rep.bool_inv' hr
  refine Good.step (fun cs => step_cond hv) ?_
  cases t with
  | true => exact (h1 rfl).go E G a w b h1' h2' h3 h4 h5 h6 h7 h8 h9
  | false => exact (h2 rfl).go E G a w b h1' h2' h3 h4 h5 h6 h7 h8 h9

/-- A loop: what holds at its head, by a number that goes down. -/
theorem AGood.loopInv {c : Code} {α : Type} (I : α → Tm × Sto) (pre : α → Prop) (m : α → Nat) (x0 : α) (h0 : pre x0) (hI : I x0 = (tm, sto))
    (h : ∀ x, pre x → (∀ x', pre x' → m x' < m x → AGood P f fn df (.inLoop c :: k) (I x').1 (I x').2 R) → AGood P f fn df (.code c :: .inLoop c :: k) (I x).1 (I x).2 R) :
    AGood P f fn df (.code (.loop c) :: k) tm sto R := by
  have key : ∀ n x, m x = n → pre x → AGood P f fn df (.code c :: .inLoop c :: k) (I x).1 (I x).2 R := by
    intro n
    induction n using Nat.strongRecOn with
    | _ n ih => exact fun x hn hp => h x hp fun x' hp' hlt => .inLoop (ih (m x') (hn ▸ hlt) x' rfl hp')
  refine .loop ?_
  have := key _ x0 rfl h0
  rw [hI] at this
  exact this

/-- Temporaries that are still wanted. -/
def prune (ps : List Nat) (tm : Tm) : Tm := ps.map fun p => (p, lk tm p)

theorem lk_prune (tm : Tm) (t : Nat) : ∀ ps : List Nat, lk (prune ps tm) t = if t ∈ ps then lk tm t else .undef
  | [] => by simp [prune, lk]
  | p :: ps => by
    have ih := lk_prune tm t ps
    simp only [prune, List.map_cons, lk] at *
    by_cases h : p = t
    · subst h; simp
    · rw [if_neg h, ih]
      simp [Ne.symm h]

theorem TmOk.prune {G : Gh} {tm : Tm} {a : Array Value} (h : TmOk G tm a) (ps : List Nat) : TmOk G (prune ps tm) a := by
  intro t
  rw [lk_prune]
  split
  · exact h t
  · exact .undef

/-- What a state knows may be said less of. -/
theorem AGood.weaken {tm' : Tm} (ht : ∀ t, lk tm' t = lk tm t ∨ lk tm' t = .undef) (h : AGood P f fn df k tm' sto R) : AGood P f fn df k tm sto R := by
  refine ⟨?_⟩
  intro E G a w b h1 h2 h3 h4 h5 h6 h7 h8 h9
  refine h.go E G a w b h1 h2 h3 h4 h5 h6 h7 h8 fun t => ?_
  rcases ht t with e | e <;> rw [e]
  · exact h9 t
  · exact .undef

theorem AGood.prune (ps : List Nat) (h : AGood P f fn df k (prune ps tm) sto R) : AGood P f fn df k tm sto R :=
  h.weaken fun t => by rw [lk_prune]; split <;> simp

theorem AGood.drop (id : Nat) (h : AGood P f fn df k tm (sdel sto id) R) : AGood P f fn df k tm sto R :=
  ⟨fun E G a w b h1 h2 h3 h4 h5 h6 h7 h8 h9 => h.go E G a w b h1 h2 h3 h4 h5 h6 h7 (sto_del h8 id) h9⟩

end

/-- An own row is given away. -/
theorem AGood.freeze {P : Program} {f : Nat} {fn : Func} {k : List Item} {tm : Tm} {sto : Sto} {R : AVal → Sto → Prop} (id : Nat) {g esz : Nat} {l : List (List AVal)} (hget : sget sto id = some (g, .row esz l)) (h : AGood P f fn [] k (rfT id g l tm) (rfS id g l (sdel sto id)) R) : AGood P f fn [] k tm sto R := by
  refine ⟨?_⟩
  intro E G a w b h1 h2 h3 h4 h5 h6 h7 h8 h9
  obtain ⟨G', hext, hw', hs', hr⟩ := all_freeze h7 h8 hget
  have hd : a.defers = [] := by
    cases hd : a.defers with
    | nil => rfl
    | cons => rw [hd] at h5; simp [DfOk] at h5
  exact h.go E G' a w b h1 h2 h3 h4 (by rw [hd]; trivial) (h6.trans hext) hw' hs' fun t => by rw [lk_rfT]; exact hr _ _ (h9 t)

def isMk : Op → Bool
  | .buildSlice _ _ _ | .makeSlice _ _ _ | .call ⟨.builtin _, _, _⟩ => true
  | _ => false

/-- What is done behind an operation's guard. In a region of any order (q) what a call tells must be known ahead; z: whose results are given away at once. -/
def vcStep (L : Lay) (P : Program) (q : Bool) (z : List Nat) (o : Oper) (tm : Tm) (sto : Sto) (T : AVal → Sto → Prop) : Prop :=
  match o.op with
  | .call ⟨.value c, args, _⟩ =>
    match ev tm c with
    | .fn f cap => if q then ∃ v, ACall P f (args.toList.map (ev tm) ++ cap) sto (fun r s => r = v ∧ s = sto) ∧ frq (z.contains (o.dst.getD 0)) v sto T else ACall P f (args.toList.map (ev tm) ++ cap) sto (fun r s => frq (z.contains (o.dst.getD 0)) r s T)
    | _ => False
  | op => vcOp L tm sto (o.dst.getD 0) (if isMk op then fun r s => frq (z.contains (o.dst.getD 0)) r s T else T) op

/-- A region's operations, one by one. -/
def vc (L : Lay) (P : Program) (q : Bool) (z : List Nat) (ds : List (Option Nat)) : List Oper → Tm → Sto → (Tm → Sto → Prop) → Prop
  | [], tm, sto, K => K tm sto
  | o :: os, tm, sto, K =>
    match o.guard with
    | none => vcStep L P q z o tm sto fun r s => vc L P q z ds os (put o.dst r tm) s K
    | some (j, want) =>
      match ds[j]? with
      | some (some t) =>
        match lk tm t with
        | .bool b => (b = want → vcStep L P q z o ((t, .bool want) :: tm) sto fun r s => vc L P q z ds os (put o.dst r ((t, .bool want) :: tm)) s K) ∧
            (b = !want → vc L P q z ds os (put o.dst (.tup []) ((t, .bool !want) :: tm)) sto K)
        | .tup [] => vc L P q z ds os (put o.dst (.tup []) tm) sto K
        | _ => False
      | _ => False
end Go.Rad
