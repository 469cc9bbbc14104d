/- An own row that is given away for good: it is a frozen list from then on. -/
import Derived.Test.YtapigofiboihiaaKRGlob
import Derived.Test.YtapigofiboihiaaKROps5
import Derived.Defers
set_option linter.all false
namespace Go.Rad
open Go

def frzG (G : Gh) (w : World) (b : Nat) : Gh := { G with F := fun b' => if b' = b then w.heap[b]? else G.F b', S := fun b' => b' = b ∨ G.S b' }

theorem frzG_ext {G : Gh} {w : World} {b : Nat} (hF : G.F b = none) : Ext G (frzG G w b) where
  F b' o h := by
    simp only [frzG]
    split
    · rename_i e; subst e; rw [hF] at h; cases h
    · exact h
  S b' h := .inr h
  S' b' h := by
    rcases h with h | h
    · exact .inr (h ▸ hF)
    · exact .inl h
  L _ := Iff.rfl
  M _ _ _ h := h
  N := Nat.le_refl _
  W0 := rfl

theorem sto_freeze {G : Gh} {w : World} {sto : Sto} {id g esz : Nat} {l : List (List AVal)} (hw : WOk G w) (hs : StoOk G w sto) (hget : sget sto id = some (g, .row esz l)) :
    ∃ G', Ext G G' ∧ WOk G' w ∧ StoOk G' w (sdel sto id) ∧ ∀ (off len : Nat) (v : Value), off + len ≤ l.length → Rep G true (.osl id g off len) v → Rep G' true (.sl true false ((l.drop off).take len)) v := by
  have hob := hs.obj id g _ hget
  have hblk := fun b => hob.blk hw b
  obtain ⟨ob, cap, h1, h2, h3, h4, h5, h6, h7, h8⟩ := hob
  cases ob with
  | none =>
    have hc := h7 rfl
    refine ⟨G, .refl G, hw, sto_del hs id, fun off len v hle hr => ?_⟩
    have hl : len = 0 := by omega
    subst hl
    cases hr with
    | osl _ _ _ _ _ _ => simp only [List.take_zero]; exact .slnil (fun h => by cases h)
  | some b =>
    obtain ⟨hF, hcap, c, e, hc, hsz, hrep⟩ := h8 b rfl
    have hbid : blkOf G id g = some b := by simp [blkOf, h1]
    have hext := frzG_ext (w := w) hF
    refine ⟨frzG G w b, hext, ⟨hw.K, fun b' o h => ?_, hw.M, hw.N, fun g l h => (hw.T g l h).mono hext.toMono⟩, ⟨fun i g' o h => ?_, fun i i' g1 g2 o o' h h' hne b' hb => ?_⟩, fun off len v hle hr => ?_⟩
    · simp only [frzG] at h
      split at h
      · rename_i e; subst e; exact h
      · exact hw.F b' o h
    · rw [sget_sdel] at h
      split at h
      · cases h
      · rename_i hne
        have ho := hs.obj i g' o h
        refine ho.mono hext.toMono (fun b' hb' => ?_) (fun _ _ => rfl)
        have hb1 : blkOf G i g' = some b' := hb'
        have : b' ≠ b := by
          rintro rfl
          exact hs.apart id i g g' _ o hget h hne b' hbid hb1
        simp only [frzG, if_neg this]
        exact (ho.blk hw b' hb1).1
    · rw [sget_sdel] at h h'
      split at h
      · cases h
      · split at h'
        · cases h'
        · exact hs.apart i i' g1 g2 o o' h h' hne b' hb
    · cases hr with
      | @osl _ _ _ _ ob' cap' esz' a hM hle' hbig hn ha1 ha2 =>
        rw [h1] at hM
        simp only [Option.some.injEq, Hd.mk.injEq] at hM
        obtain ⟨rfl, rfl, rfl⟩ := hM
        rcases Nat.eq_zero_or_pos len with hz | hz
        · subst hz
          simp only [List.take_zero]; exact .slnil (fun h => by cases h)
        · have ha := ha1 b rfl (by omega)
          subst ha
          have hlen : ((l.drop off).take len).length = len := by simp; omega
          have hgetl : ∀ (i : Nat) (x : List AVal), ((l.drop off).take len)[i]? = some x → l[off + i]? = some x := by
            intro i x hx
            rw [List.getElem?_take] at hx
            split at hx
            · rwa [List.getElem?_drop] at hx
            · cases hx
          obtain ⟨fr, hc, _⟩ := hc
          have hFb : (frzG G w b).F b = some (.cells c e fr) := by simp [frzG, hc]
          have hR := Rep.sl (G := frzG G w b) (o := true) (q := true) (full := false) (l := (l.drop off).take len) (cap := cap - off) (b := b) (off := off * esz) (c := c) (e := e) (fr := fr) (esz := esz)
            (by rw [hlen]; omega) (fun h => by cases h) (by rw [hlen]; exact big_max hbig) (.inl (.inl rfl)) hFb
            (by rw [hlen, hsz, ← Nat.add_mul]; exact Nat.mul_le_mul_right _ hle')
            (fun i x hx => h5 _ x (hgetl i x hx)) (fun i j x y hx hy => h6 _ j x y (hgetl i x hx) hy)
            (fun i j x y hx hy => by
              have := (hrep _ j x y (hgetl i x hx) hy).mono hext.toMono
              rw [Nat.add_mul] at this
              exact this)
          rw [hlen] at hR
          exact hR

/-- What a value is, once the row 'id' is given away. -/
def rf1 (id g : Nat) (l : List (List AVal)) : AVal → AVal
  | .osl i h off len => if i = id ∧ h = g ∧ off + len ≤ l.length then .sl true false ((l.drop off).take len) else .osl i h off len
  | v => v
def rf (id g : Nat) (l : List (List AVal)) : AVal → AVal
  | .agg cs => .agg (cs.map (rf1 id g l))
  | .tup cs => .tup (cs.map (rf1 id g l))
  | v => rf1 id g l v

def rfO (id g : Nat) (l : List (List AVal)) : AObj → AObj
  | .box cs => .box (cs.map (rf1 id g l))
  | o => o
def rfS (id g : Nat) (l : List (List AVal)) : Sto → Sto
  | [] => []
  | (i, h, o) :: s => (i, h, rfO id g l o) :: rfS id g l s
def rfT (id g : Nat) (l : List (List AVal)) : Tm → Tm
  | [] => []
  | (t, v) :: s => (t, rf id g l v) :: rfT id g l s

theorem sget_rfS (id g : Nat) (l : List (List AVal)) (i : Nat) : ∀ s : Sto, sget (rfS id g l s) i = (sget s i).map fun x => (x.1, rfO id g l x.2)
  | [] => rfl
  | (j, h, o) :: s => by
    simp only [rfS, sget]
    split
    · rfl
    · exact sget_rfS id g l i s
theorem lk_rfT (id g : Nat) (l : List (List AVal)) (t : Nat) : ∀ s : Tm, lk (rfT id g l s) t = rf id g l (lk s t)
  | [] => rfl
  | (j, v) :: s => by
    simp only [rfT, lk]
    split
    · rfl
    · exact lk_rfT id g l t s

theorem rf1ucell {id g : Nat} {l : List (List AVal)} {x : AVal} (h : x.isCell = true) : (rf1 id g l x).isCell = true := by
  unfold rf1
  split
  · split
    · rfl
    · exact h
  · exact h

section
variable {G G' : Gh} {id g : Nat} {l : List (List AVal)} (hm : Mono G G') (hR : ∀ (off len : Nat) (v : Value), off + len ≤ l.length → Rep G true (.osl id g off len) v → Rep G' true (.sl true false ((l.drop off).take len)) v)
include hm hR
theorem Rep.rf1 {x : AVal} {v : Value} (h : Rep G true x v) : Rep G' true (rf1 id g l x) v := by
  unfold Rad.rf1
  split
  · split
    · rename_i hc
      obtain ⟨rfl, rfl, hle⟩ := hc
      exact hR _ _ v hle h
    · exact h.mono hm
  · exact h.mono hm

theorem Rep.rf {x : AVal} {v : Value} (h : Rep G true x v) : Rep G' true (rf id g l x) v := by
  unfold Rad.rf
  split
  · cases h with
    | agg a b c =>
      refine .agg (by simp [a]) (fun j x hx => ?_) (fun j x hx => ?_)
      · rw [List.getElem?_map] at hx
        obtain ⟨y, hy, rfl⟩ := Option.map_eq_some_iff.1 hx
        exact rf1ucell (b j y hy)
      · rw [List.getElem?_map] at hx
        obtain ⟨y, hy, rfl⟩ := Option.map_eq_some_iff.1 hx
        exact (c j y hy).rf1 hm hR
  · cases h with
    | tup a c =>
      refine .tup (by simp [a]) (fun j x hx => ?_)
      rw [List.getElem?_map] at hx
      obtain ⟨y, hy, rfl⟩ := Option.map_eq_some_iff.1 hx
      exact (c j y hy).rf1 hm hR
  · exact h.rf1 hm hR

theorem ObjOk.rfO {w : World} {i h : Nat} {o : AObj} (ho : ObjOk G' w i h o) (hb : ∀ cs, o = .box cs → ∃ b cap esz, G.M i h = some ⟨some b, cap, esz⟩ ∧ ∀ c e, w.heap[b]? = some (.cells c e (0, 0)) → ∀ (j : Nat) (x : AVal), cs[j]? = some x → Rep G true x (c.getD j undef)) : ObjOk G' w i h (rfO id g l o) := by
  cases o with
  | box cs =>
    obtain ⟨b, cap, esz, h1, h2, c, e, h3, h4, h5, _⟩ := ho
    obtain ⟨b', cap', esz', k1, k2⟩ := hb cs rfl
    have := hm.M _ _ _ k1
    rw [h1] at this
    simp only [Option.some.injEq, Hd.mk.injEq] at this
    obtain ⟨rfl, _, _⟩ := this
    refine ⟨b, cap, esz, h1, h2, c, e, h3, by simp [h4], fun j x hx => ?_, fun j x hx => ?_⟩
    · rw [List.getElem?_map] at hx
      obtain ⟨y, hy, rfl⟩ := Option.map_eq_some_iff.1 hx
      exact rf1ucell (h5 j y hy)
    · rw [List.getElem?_map] at hx
      obtain ⟨y, hy, rfl⟩ := Option.map_eq_some_iff.1 hx
      exact (k2 c e h3 j y hy).rf1 hm hR
  | _ => exact ho
end

/-- The store, and the temporaries, when the row 'id' is given away. -/
theorem all_freeze {G : Gh} {w : World} {sto : Sto} {id g esz : Nat} {l : List (List AVal)} (hw : WOk G w) (hs : StoOk G w sto) (hget : sget sto id = some (g, .row esz l)) :
    ∃ G', Ext G G' ∧ WOk G' w ∧ StoOk G' w (rfS id g l (sdel sto id)) ∧ ∀ (x : AVal) (v : Value), Rep G true x v → Rep G' true (rf id g l x) v := by
  obtain ⟨G', hext, hw', hs', hR⟩ := sto_freeze hw hs hget
  refine ⟨G', hext, hw', ⟨fun i h o ho => ?_, fun i i' g1 g2 o o' h h' hne => ?_⟩, fun x v h => h.rf hext.toMono hR⟩
  · rw [sget_rfS] at ho
    obtain ⟨⟨h', o'⟩, ho', he⟩ := Option.map_eq_some_iff.1 ho
    simp only [Prod.mk.injEq] at he
    obtain ⟨rfl, rfl⟩ := he
    refine (hs'.obj i h' o' ho').rfO hext.toMono hR fun cs hcs => ?_
    subst hcs
    rw [sget_sdel] at ho'
    split at ho'
    · cases ho'
    · obtain ⟨b, cap, esz, h1, _, c, e, h3, _, _, h6⟩ := hs.obj i h' _ ho'
      refine ⟨b, cap, esz, h1, fun c' e' hc' j x hx => ?_⟩
      rw [h3] at hc'
      simp only [Option.some.injEq, Obj.cells.injEq] at hc'
      obtain ⟨rfl, _⟩ := hc'
      exact h6 j x hx
  · rw [sget_rfS] at h h'
    obtain ⟨⟨k, p⟩, hp, he⟩ := Option.map_eq_some_iff.1 h
    obtain ⟨⟨k', p'⟩, hp', he'⟩ := Option.map_eq_some_iff.1 h'
    simp only [Prod.mk.injEq] at he he'
    obtain ⟨rfl, _⟩ := he
    obtain ⟨rfl, _⟩ := he'
    exact hs'.apart i i' k k' p p' hp hp' hne

/-- What an operation's result is, when it is given away at once. -/
def frq (b : Bool) (r : AVal) (s : Sto) (T : AVal → Sto → Prop) : Prop :=
  match b, r with
  | true, .osl id g 0 n =>
    match sget s id with
    | some (g', .row _ l) => g' = g ∧ n = l.length ∧ T (.sl true false l) (sdel s id)
    | _ => False
  | _, r => T r s

theorem frq_sound {G : Gh} {w : World} {r : AVal} {v : Value} {sto : Sto} {T : AVal → Sto → Prop} {b : Bool} (hw : WOk G w) (hs : StoOk G w sto) (hr : Rep G true r v) (h : frq b r sto T) :
    ∃ G' r' s', Ext G G' ∧ WOk G' w ∧ StoOk G' w s' ∧ Rep G' true r' v ∧ T r' s' := by
  unfold frq at h
  split at h
  · split at h
    · rename_i g' esz l hget
      obtain ⟨rfl, rfl, hT⟩ := h
      obtain ⟨G', hext, hw', hs', hR⟩ := sto_freeze hw hs hget
      have := hR 0 l.length v (by omega) hr
      simp only [List.drop_zero, List.take_length] at this
      exact ⟨G', _, _, hext, hw', hs', this, hT⟩
    · exact h.elim
  · exact ⟨G, r, sto, .refl G, hw, hs, hr, h⟩
end Go.Rad
/- The logic: contracts of functions, and what is known of the rest of a function's code from a state on. -/
namespace Go.Rad
open Go

def ArgsRep (G : Gh) (args : List AVal) (cargs : Array Value) : Prop := cargs.size = args.length ∧ ∀ (j : Nat) (x : AVal), args[j]? = some x → Rep G true x (cargs.getD j undef)

/-- What a call has come to: it has returned, and the result, and the own things, are as is said. -/
def Post (E : Gh) (R : AVal → Sto → Prop) (e : Ending) (w' : World) : Prop :=
  ∃ G' cr r sto', e = .returned cr ∧ Ext E G' ∧ WOk G' w' ∧ StoOk G' w' sto' ∧ Rep G' true r cr ∧ R r sto'

def Callable (P : Program) (f : Nat) : Prop := ∃ fn, P.funcs[f]? = some fn ∧ (fn.name == "runtime.NumGoroutine") = false ∧ fn.body.isNone = false

/-- A contract: called so, over these own things, it returns, and R holds. -/
structure ACall (P : Program) (f : Nat) (args : List AVal) (sto : Sto) (R : AVal → Sto → Prop) : Prop where
  able : Callable P f
  calls : ∀ (G : Gh) (w : World) (cargs : Array Value), WOk G w → StoOk G w sto → ArgsRep G args cargs → Calls P f cargs w (Post G R)

theorem Post.mono {E E' : Gh} {R R' : AVal → Sto → Prop} (hE : Ext E' E) (h : ∀ r s, R r s → R' r s) {e : Ending} {w : World} (p : Post E R e w) : Post E' R' e w := by
  obtain ⟨G', cr, r, sto', a, b, c, d, e', f⟩ := p
  exact ⟨G', cr, r, sto', a, hE.trans b, c, d, e', h _ _ f⟩

theorem ACall.mono {P : Program} {f : Nat} {args : List AVal} {sto : Sto} {R R' : AVal → Sto → Prop} (h : ACall P f args sto R) (hR : ∀ r s, R r s → R' r s) : ACall P f args sto R' :=
  ⟨h.able, fun G w cargs a b c => (h.calls G w cargs a b c).mono fun _ _ p => p.mono (.refl G) hR⟩

structure DDel where
  t : Nat
  t2 : Nat
  m : AVal
  k : AVal

/-- Deferred deletes, and the machine's own. -/
def DfOk (G : Gh) : List DDel → List Deferred → Prop
  | [], [] => True
  | d :: ds, e :: es => (∃ ty cs v u, e = { target := .builtin .delete #[d.t, d.t2] ty cs, args := #[v, u] } ∧ Rep G true d.m v ∧ Rep G true d.k u) ∧ DfOk G ds es
  | _, _ => False

theorem DfOk.mono {G G' : Gh} (hm : Mono G G') : ∀ {ds : List DDel} {es : List Deferred}, DfOk G ds es → DfOk G' ds es
  | [], [], _ => trivial
  | [], _ :: _, h => by simp [DfOk] at h
  | _ :: _, [], h => by simp [DfOk] at h
  | _ :: _, _ :: _, ⟨⟨ty, cs, v, u, a, b, c⟩, h⟩ => ⟨⟨ty, cs, v, u, a, b.mono hm, c.mono hm⟩, h.mono hm⟩

def Good (P : Program) (f : Nat) (R : Ending → World → Prop) (b : Frame) (k : List Item) (a : Act) (w : World) : Prop :=
  ∀ cs, ∃ e w' fr, R e w' ∧ Comes P (lone (b.at a k) cs w) (lone fr cs w') e ∧ fr.fn = f ∧ fr.leaving P w' e

/-- From a state on, with this code to do, the function comes to return, and R holds. -/
structure AGood (P : Program) (f : Nat) (fn : Func) (df : List DDel) (k : List Item) (tm : Tm) (sto : Sto) (R : AVal → Sto → Prop) : Prop where
  go : ∀ (E G : Gh) (a : Act) (w : World) (b : Frame), b.fn = f → b.kind = .normal → P.funcs[f]? = some fn → a.tmps.size = fn.ntmps → DfOk G df a.defers → Ext E G → WOk G w → StoOk G w sto → TmOk G tm a.tmps →
    Good P f (Post E R) b k a w

theorem Good.step {P : Program} {f : Nat} {R : Ending → World → Prop} {b : Frame} {k k' : List Item} {a a' : Act} {w w' : World} (hs : ∀ cs, step P (lone (b.at a k) cs w) = .next (lone (b.at a' k') cs w')) (h : Good P f R b k' a' w') : Good P f R b k a w := by
  intro cs
  obtain ⟨e, w2, fr, h1, h2, h3, h4⟩ := h cs
  exact ⟨e, w2, fr, h1, Comes.of_steps (.one (hs cs)) h2, h3, h4⟩

section
variable {P : Program} {L : Lay} {f : Nat} {fn : Func} {df : List DDel} {k : List Item} {tm : Tm} {sto : Sto} {R : AVal → Sto → Prop}

theorem AGood.step {k' : List Item} (hs : ∀ (b : Frame) (a : Act) (w : World) (cs : List Frame), Go.step P (lone (b.at a k) cs w) = .next (lone (b.at a k') cs w)) (h : AGood P f fn df k' tm sto R) : AGood P f fn df k tm sto R :=
  ⟨fun E G a w b h1 h2 h3 h4 h5 h6 h7 h8 h9 => Good.step (fun cs => hs b a w cs) (h.go E G a w b h1 h2 h3 h4 h5 h6 h7 h8 h9)⟩

theorem AGood.seq {x y : Code} (h : AGood P f fn df (.code x :: .code y :: k) tm sto R) : AGood P f fn df (.code (.seq x y) :: k) tm sto R := .step (fun _ _ _ _ => step_seq) h
theorem AGood.skip (h : AGood P f fn df k tm sto R) : AGood P f fn df (.code .skip :: k) tm sto R := .step (fun _ _ _ _ => step_skip) h
theorem AGood.block {id : Nat} {c : Code} (h : AGood P f fn df (.code c :: .inBlock id :: k) tm sto R) : AGood P f fn df (.code (.block id c) :: k) tm sto R := .step (fun _ _ _ _ => step_block) h
theorem AGood.inBlock {id : Nat} (h : AGood P f fn df k tm sto R) : AGood P f fn df (.inBlock id :: k) tm sto R := .step (fun _ _ _ _ => step_inBlock) h
theorem AGood.loop {c : Code} (h : AGood P f fn df (.code c :: .inLoop c :: k) tm sto R) : AGood P f fn df (.code (.loop c) :: k) tm sto R := .step (fun _ _ _ _ => step_loop) h
theorem AGood.inLoop {c : Code} (h : AGood P f fn df (.code c :: .inLoop c :: k) tm sto R) : AGood P f fn df (.inLoop c :: k) tm sto R := .step (fun _ _ _ _ => step_inLoop) h
theorem AGood.exit {id : Nat} {k' : List Item} (hk : exitTo id k = some k') (h : AGood P f fn df k' tm sto R) : AGood P f fn df (.code (.exit id) :: k) tm sto R := .step (fun _ _ _ _ => step_exit hk) h

theorem AGood.cond {c : Operand} {x y : Code} {t : Bool} (hc : ev tm c = .bool t) (hok : operandOk c = true) (h1 : t = true → AGood P f fn df (.code x :: k) tm sto R) (h2 : t = false → AGood P f fn df (.code y :: k) tm sto R) :
    AGood P f fn df (.code (.cond c x y) :: k) tm sto R := by
  refine ⟨?_⟩
  intro E G a w b h1' h2' h3 h4 h5 h6 h7 h8 h9
  have hr := ev_rep h7 h9 hok
  rw [hc] at hr
  have hv := Rep.bool_inv' hr
  refine Good.step (fun cs => step_cond hv) ?_
  cases t with
  | true => exact (h1 rfl).go E G a w b h1' h2' h3 h4 h5 h6 h7 h8 h9
  | false => exact (h2 rfl).go E G a w b h1' h2' h3 h4 h5 h6 h7 h8 h9

/-- A loop: what holds at its head, by a number that goes down. -/
theorem AGood.loopInv {c : Code} {α : Type} (I : α → Tm × Sto) (pre : α → Prop) (m : α → Nat) (x0 : α) (h0 : pre x0) (hI : I x0 = (tm, sto))
    (h : ∀ x, pre x → (∀ x', pre x' → m x' < m x → AGood P f fn df (.inLoop c :: k) (I x').1 (I x').2 R) → AGood P f fn df (.code c :: .inLoop c :: k) (I x).1 (I x).2 R) :
    AGood P f fn df (.code (.loop c) :: k) tm sto R := by
  have key : ∀ n x, m x = n → pre x → AGood P f fn df (.code c :: .inLoop c :: k) (I x).1 (I x).2 R := by
    intro n
    induction n using Nat.strongRecOn with
    | _ n ih => exact fun x hn hp => h x hp fun x' hp' hlt => .inLoop (ih (m x') (hn ▸ hlt) x' rfl hp')
  refine .loop ?_
  have := key _ x0 rfl h0
  rw [hI] at this
  exact this

/-- Temporaries that are still wanted. -/
def prune (ps : List Nat) (tm : Tm) : Tm := ps.map fun p => (p, lk tm p)

theorem lk_prune (tm : Tm) (t : Nat) : ∀ ps : List Nat, lk (prune ps tm) t = if t ∈ ps then lk tm t else .undef
  | [] => by simp [prune, lk]
  | p :: ps => by
    have ih := lk_prune tm t ps
    simp only [prune, List.map_cons, lk] at *
    by_cases h : p = t
    · subst h; simp
    · rw [if_neg h, ih]
      simp [Ne.symm h]

theorem TmOk.prune {G : Gh} {tm : Tm} {a : Array Value} (h : TmOk G tm a) (ps : List Nat) : TmOk G (prune ps tm) a := by
  intro t
  rw [lk_prune]
  split
  · exact h t
  · exact .undef

/-- What a state knows may be said less of. -/
theorem AGood.weaken {tm' : Tm} (ht : ∀ t, lk tm' t = lk tm t ∨ lk tm' t = .undef) (h : AGood P f fn df k tm' sto R) : AGood P f fn df k tm sto R := by
  refine ⟨?_⟩
  intro E G a w b h1 h2 h3 h4 h5 h6 h7 h8 h9
  refine h.go E G a w b h1 h2 h3 h4 h5 h6 h7 h8 fun t => ?_
  rcases ht t with e | e <;> rw [e]
  · exact h9 t
  · exact .undef

theorem AGood.prune (ps : List Nat) (h : AGood P f fn df k (prune ps tm) sto R) : AGood P f fn df k tm sto R :=
  h.weaken fun t => by rw [lk_prune]; split <;> simp

theorem AGood.drop (id : Nat) (h : AGood P f fn df k tm (sdel sto id) R) : AGood P f fn df k tm sto R :=
  ⟨fun E G a w b h1 h2 h3 h4 h5 h6 h7 h8 h9 => h.go E G a w b h1 h2 h3 h4 h5 h6 h7 (sto_del h8 id) h9⟩

end

/-- An own row is given away. -/
theorem AGood.freeze {P : Program} {f : Nat} {fn : Func} {k : List Item} {tm : Tm} {sto : Sto} {R : AVal → Sto → Prop} (id : Nat) {g esz : Nat} {l : List (List AVal)} (hget : sget sto id = some (g, .row esz l)) (h : AGood P f fn [] k (rfT id g l tm) (rfS id g l (sdel sto id)) R) : AGood P f fn [] k tm sto R := by
  refine ⟨?_⟩
  intro E G a w b h1 h2 h3 h4 h5 h6 h7 h8 h9
  obtain ⟨G', hext, hw', hs', hr⟩ := all_freeze h7 h8 hget
  have hd : a.defers = [] := by
    cases hd : a.defers with
    | nil => rfl
    | cons => rw [hd] at h5; simp [DfOk] at h5
  exact h.go E G' a w b h1 h2 h3 h4 (by rw [hd]; trivial) (h6.trans hext) hw' hs' fun t => by rw [lk_rfT]; exact hr _ _ (h9 t)

def isMk : Op → Bool
  | .buildSlice _ _ _ | .makeSlice _ _ _ | .call ⟨.builtin _, _, _⟩ => true
  | _ => false

/-- What is done behind an operation's guard. In a region of any order (q) what a call tells must be known ahead; z: whose results are given away at once. -/
def vcStep (L : Lay) (P : Program) (q : Bool) (z : List Nat) (o : Oper) (tm : Tm) (sto : Sto) (T : AVal → Sto → Prop) : Prop :=
  match o.op with
  | .call ⟨.value c, args, _⟩ =>
    match ev tm c with
    | .fn f cap => if q then ∃ v, ACall P f (args.toList.map (ev tm) ++ cap) sto (fun r s => r = v ∧ s = sto) ∧ frq (z.contains (o.dst.getD 0)) v sto T else ACall P f (args.toList.map (ev tm) ++ cap) sto (fun r s => frq (z.contains (o.dst.getD 0)) r s T)
    | _ => False
  | op => vcOp L tm sto (o.dst.getD 0) (if isMk op then fun r s => frq (z.contains (o.dst.getD 0)) r s T else T) op

/-- A region's operations, one by one. -/
def vc (L : Lay) (P : Program) (q : Bool) (z : List Nat) (ds : List (Option Nat)) : List Oper → Tm → Sto → (Tm → Sto → Prop) → Prop
  | [], tm, sto, K => K tm sto
  | o :: os, tm, sto, K =>
    match o.guard with
    | none => vcStep L P q z o tm sto fun r s => vc L P q z ds os (put o.dst r tm) s K
    | some (j, want) =>
      match ds[j]? with
      | some (some t) =>
        match lk tm t with
        | .bool b => (b = want → vcStep L P q z o ((t, .bool want) :: tm) sto fun r s => vc L P q z ds os (put o.dst r ((t, .bool want) :: tm)) s K) ∧
            (b = !want → vc L P q z ds os (put o.dst (.tup []) ((t, .bool !want) :: tm)) sto K)
        | .tup [] => vc L P q z ds os (put o.dst (.tup []) tm) sto K
        | _ => False
      | _ => False
end Go.Rad
/- Regions, calls and returns in the logic. -/
namespace Go.Rad
open Go
variable {P : Program} {L : Lay}

structure Sim (E : Gh) (nt : Nat) (ds : List Deferred) (tm : Tm) (sto : Sto) (a : Act) (w : World) (G : Gh) : Prop where
  ext : Ext E G
  wok : WOk G w
  sok : StoOk G w sto
  tok : TmOk G tm a.tmps
  n : a.tmps.size = nt
  d : a.defers = ds

def okOps (L : Lay) (nt : Nat) (ops : List Oper) : Bool := ops.all fun o => opOk L o.op && (match o.dst with | some d => decide (d < nt) | none => true) && (match o.op with | .call c => c.operands.all operandOk | _ => true)

theorem Sim.put {E G G' : Gh} {nt : Nat} {ds : List Deferred} {tm : Tm} {sto sto' : Sto} {a : Act} {w w' : World} (h : Sim E nt ds tm sto a w G) {d : Option Nat} {r : AVal} {v : Value} (hx : Ext G G') (hw : WOk G' w') (hs : StoOk G' w' sto')
    (hd : (match d with | some d => decide (d < nt) | none => true) = true) (hr : Rep G' true r v) : Sim E nt ds (put d r tm) sto' (a.put d v) w' G' := by
  refine ⟨h.ext.trans hx, hw, hs, ?_, ?_, ?_⟩
  · cases d with
    | none => exact h.tok.mono hx.toMono
    | some d => exact (h.tok.mono hx.toMono).put (by simpa [h.n] using hd) hr
  · cases d <;> simp [Act.put, h.n]
  · cases d <;> simp [Act.put, h.d]

theorem yielded_bool {G : Gh} {tm : Tm} {a : Act} (ht : TmOk G tm a.tmps) {ops : List Oper} {j t : Nat} {b : Bool} (hj : (ops.map (·.dst))[j]? = some (some t)) (hb : lk tm t = .bool b) : yielded ops.toArray a.tmps j = some b := by
  have hr := ht t
  rw [hb] at hr
  have hv := Rep.bool_inv' hr
  have hlt : t < a.tmps.size := by
    rcases Nat.lt_or_ge t a.tmps.size with h | h
    · exact h
    · exfalso
      have : a.tmps.getD t undef = undef := by simp [Array.getD, Nat.not_lt.2 h]
      rw [this] at hv
      cases hv
  have hv' : a.tmps[t]? = some (.bool b) := by
    rw [Array.getElem?_eq_getElem hlt]
    simp only [Array.getD_eq_getD_getElem?, Array.getElem?_eq_getElem hlt, Option.getD_some] at hv
    rw [hv]
  have hj' : (ops[j]?).bind (·.dst) = some t := by
    rw [List.getElem?_map] at hj
    cases ho : ops[j]? with
    | none => rw [ho] at hj; cases hj
    | some o => rw [ho] at hj; simpa using hj
  simp [yielded, hj', hv']

theorem yielded_none {G : Gh} {tm : Tm} {a : Act} (ht : TmOk G tm a.tmps) {ops : List Oper} {j t : Nat} (hj : (ops.map (·.dst))[j]? = some (some t)) (hb : lk tm t = .tup []) : yielded ops.toArray a.tmps j = none := by
  have hr := ht t
  rw [hb] at hr
  have hj' : (ops[j]?).bind (·.dst) = some t := by
    rw [List.getElem?_map] at hj
    cases ho : ops[j]? with
    | none => rw [ho] at hj; cases hj
    | some o => rw [ho] at hj; simpa using hj
  unfold yielded
  simp only [List.getElem?_toArray, hj', Option.bind_some]
  cases hv : a.tmps[t]? with
  | none => rfl
  | some v =>
    have e : a.tmps.getD t undef = v := by simp [hv]
    rw [e] at hr
    cases hr
    rfl

theorem step_sound (hL : LOk P L) {E G : Gh} {nt : Nat} {ds : List Deferred} {o : Oper} {tm : Tm} {sto : Sto} {a : Act} {w : World} {T : AVal → Sto → Prop} {K : Act → World → Prop} {Q : Exit → Act → World → Prop} (hsim : Sim E nt ds tm sto a w G)
    (hok : okOps L nt [o] = true) {q : Bool} {z : List Nat} (h : vcStep L P q z o tm sto T) (hK : ∀ G' w' r v sto', T r sto' → Sim E nt ds (put o.dst r tm) sto' (a.put o.dst v) w' G' → K (a.put o.dst v) w') : o.wp P a w K Q := by
  simp only [okOps, List.all_cons, List.all_nil, Bool.and_true, Bool.and_eq_true] at hok
  obtain ⟨⟨hop, hdst⟩, hcall⟩ := hok
  unfold vcStep at h
  split at h
  · rename_i c args ts hopc
    rw [hopc] at hcall
    simp only at hcall
    split at h
    · rename_i f cap hc
      have hall : ∀ x ∈ c :: args.toList, operandOk x = true := by
        intro x hx
        refine Array.all_eq_true'.1 hcall x ?_
        simp only [Call.operands, Array.mem_append]
        rcases List.mem_cons.1 hx with rfl | hx
        · exact .inl (by simp)
        · exact .inr (by simpa using hx)
      have hcr := ev_rep hsim.wok hsim.tok (hall c (by simp))
      rw [hc] at hcr
      generalize hcv : a.eval c = cv at hcr
      cases hcr with
      | @fn _ _ _ caps h1 h2 =>
        have hAC : ∃ R', ACall P f (args.toList.map (ev tm) ++ cap) sto R' ∧ ∀ r s, R' r s → ∃ b, frq b r s T := by
          cases q with
          | true => obtain ⟨v, h1, h2⟩ := h; exact ⟨_, h1, fun r s ⟨e1, e2⟩ => ⟨_, by subst e1 e2; exact h2⟩⟩
          | false => exact ⟨_, h, fun r s hr => ⟨_, hr⟩⟩
        obtain ⟨R', ⟨⟨fn, hf, hname, hbody⟩, hcalls⟩, hRT⟩ := hAC
        have hname' : ¬ fn.name = "runtime.NumGoroutine" := by simpa using hname
        have hbody' : ¬ fn.body = none := by intro e; rw [e] at hbody; cases hbody
        have hrun : (execOp a.eval o).run P w = .ok (.enter f (args.map a.eval ++ caps)) w := by
          simp [execOp, hopc, resolve, hcv, Deferred.ofValue, invoke, callFunc, hf, hname', hbody']
        unfold Oper.wp
        rw [hrun]
        simp only [Oper.upon]
        have hargs : ArgsRep G (args.toList.map (ev tm) ++ cap) (args.map a.eval ++ caps) := by
          refine ⟨by simp [h1], fun j x hx => ?_⟩
          rw [List.getElem?_append] at hx
          simp only [List.length_map, Array.length_toList] at hx
          split at hx
          · rename_i hj
            simp only [List.getElem?_map, Array.getElem?_toList, Array.getElem?_eq_getElem hj, Option.map_some, Option.some.injEq] at hx
            subst hx
            have e : (args.map a.eval ++ caps).getD j undef = a.eval args[j] := by
              simp [Array.getD_eq_getD_getElem?, Array.getElem?_append, hj]
            rw [e]
            exact ev_rep hsim.wok hsim.tok (hall _ (List.mem_cons_of_mem _ (by simp)))
          · rename_i hj
            have e : (args.map a.eval ++ caps).getD j undef = caps.getD (j - args.size) undef := by
              simp [Array.getD_eq_getD_getElem?, Array.getElem?_append, hj]
            rw [e]
            exact h2 _ _ hx
        refine (hcalls G w _ hsim.wok hsim.sok hargs).mono fun e w' p => ?_
        obtain ⟨G', cr, r, sto', rfl, hx, hw', hs', hr, hT⟩ := p
        obtain ⟨bq, hq⟩ := hRT r sto' hT
        obtain ⟨G2, r2, s2, hx2, hw2, hs2, hr2, hT2⟩ := frq_sound hw' hs' hr hq
        exact hK G2 w' r2 cr s2 hT2 (hsim.put (hx.trans hx2) hw2 hs2 hdst hr2)
    · exact h.elim
  · obtain ⟨G', w', v, r, sto', h1, hx, hw', hs', hr, hT⟩ := vcOp_sound hL hsim.wok hsim.sok hsim.tok hop h
    have hq : ∃ b, frq b r sto' T := by
      split at hT
      · exact ⟨_, hT⟩
      · exact ⟨false, by simpa [frq] using hT⟩
    obtain ⟨bq, hq⟩ := hq
    obtain ⟨G2, r2, s2, hx2, hw2, hs2, hr2, hT2⟩ := frq_sound hw' hs' hr hq
    have hk := hK G2 w' r2 v s2 hT2 (hsim.put (hx.trans hx2) hw2 hs2 hdst hr2)
    unfold Oper.wp
    rcases h1 with h1 | ⟨h1, rfl⟩
    · rw [h1]; exact hk
    · rw [h1]; exact hk

theorem vc_sound (hL : LOk P L) {q : Bool} {z : List Nat} {E : Gh} {nt : Nat} {ds : List Deferred} (ops : List Oper) {K : Tm → Sto → Prop} {Q : Exit → Act → World → Prop}
    (hQ : ∀ G tm sto a w, K tm sto → Sim E nt ds tm sto a w G → Q .normal a w) :
    ∀ (os : List Oper) (tm : Tm) (sto : Sto) (a : Act) (w : World) (G : Gh), okOps L nt os = true → Sim E nt ds tm sto a w G → vc L P q z (ops.map (·.dst)) os tm sto K → wpList P ops.toArray Q os a w
  | [], tm, sto, a, w, G, _, hsim, h => hQ G tm sto a w h hsim
  | o :: os, tm, sto, a, w, G, hok, hsim, h => by
    have hok1 : okOps L nt [o] = true := by simp only [okOps, List.all_cons, Bool.and_eq_true] at hok ⊢; exact ⟨hok.1, rfl⟩
    have hok2 : okOps L nt os = true := by simp only [okOps, List.all_cons, Bool.and_eq_true] at hok ⊢; exact hok.2
    have hdst : (match o.dst with | some d => decide (d < nt) | none => true) = true := by
      simp only [okOps, List.all_cons, List.all_nil, Bool.and_true, Bool.and_eq_true] at hok1
      exact hok1.1.2
    unfold vc at h
    unfold wpList
    split at h
    · rename_i hg
      rw [if_pos (by simp [Region.wanted, hg])]
      exact .inl (step_sound hL hsim hok1 h fun G' w' r v sto' hT hs => vc_sound hL ops hQ os _ _ _ _ _ hok2 hs hT)
    · rename_i j want hg
      split at h
      · rename_i t hj
        split at h
        · rename_i b hb
          have hy := yielded_bool hsim.tok hj hb
          have hsub : ∀ c, b = c → Sim E nt ds ((t, .bool c) :: tm) sto a w G := by
            rintro c rfl
            refine ⟨hsim.ext, hsim.wok, hsim.sok, fun t' => ?_, hsim.n, hsim.d⟩
            simp only [lk]
            split
            · rename_i e; subst e; rw [← hb]; exact hsim.tok _
            · exact hsim.tok t'
          by_cases hbw : b = want
          · rw [if_pos (by simp [Region.wanted, hg, hy, hbw])]
            exact .inl (step_sound hL (hsub want hbw) hok1 (h.1 hbw) fun G' w' r v sto' hT hs => vc_sound hL ops hQ os _ _ _ _ _ hok2 hs hT)
          · rw [if_neg (by simp [Region.wanted, hg, hy, hbw])]
            have hbn : b = !want := by cases b <;> cases want <;> simp_all
            exact vc_sound hL ops hQ os _ _ _ _ G hok2 ((hsub _ hbn).put (.refl G) hsim.wok hsim.sok hdst (.tup rfl fun j x hx => by simp at hx)) (h.2 hbn)
        · rename_i hb
          have hy := yielded_none hsim.tok hj hb
          rw [if_neg (by simp [Region.wanted, hg, hy])]
          exact vc_sound hL ops hQ os _ _ _ _ G hok2 (hsim.put (.refl G) hsim.wok hsim.sok hdst (.tup rfl fun j x hx => by simp at hx)) h
        · exact h.elim
      · exact h.elim

theorem Good.of_wp {f : Nat} {R : Ending → World → Prop} {b : Frame} {k : List Item} {a : Act} {w : World} {c : Code} {Q : Exit → Act → World → Prop} (h : c.wp P Q a w)
    (hQ : ∀ e a' w', Q e a' w' → e = .normal ∧ Good P f R b k a' w') : Good P f R b (.code c :: k) a w := by
  intro cs
  obtain ⟨e, a', w', hq, harr⟩ := h b k cs
  obtain ⟨rfl, hg⟩ := hQ _ _ _ hq
  obtain ⟨e2, w2, fr, h1, h2, h3, h4⟩ := hg cs
  exact ⟨e2, w2, fr, h1, Comes.of_steps harr h2, h3, h4⟩

section
variable {f : Nat} {fn : Func} {df : List DDel} {k : List Item} {tm : Tm} {sto : Sto} {R : AVal → Sto → Prop}

theorem AGood.region (hL : LOk P L) {z : List Nat} {id : Nat} {ops : List Oper} (ps : List Nat) (hok : okOps L fn.ntmps ops = true)
    (h : vc L P false z (ops.map (·.dst)) ops tm sto fun tm' sto' => AGood P f fn df k (Rad.prune ps tm') sto' R) : AGood P f fn df (.code (.region id ops.toArray false) :: k) tm sto R := by
  refine ⟨?_⟩
  intro E G a w b h1 h2 h3 h4 h5 h6 h7 h8 h9
  refine Good.of_wp (Q := fun e a' w' => e = .normal ∧ Good P f (Post E R) b k a' w') (wp_region_lit ?_) fun e a' w' hq => hq
  refine vc_sound hL (E := G) (nt := fn.ntmps) (ds := a.defers) ops (K := fun tm' sto' => AGood P f fn df k (Rad.prune ps tm') sto' R) (fun G' tm' sto' a' w' hk hs => ?_) ops tm sto a w G hok ⟨.refl G, h7, h8, h9, h4, rfl⟩ h
  exact ⟨rfl, hk.go E G' a' w' b h1 h2 h3 hs.n (hs.d ▸ h5.mono hs.ext.toMono) (h6.trans hs.ext) hs.wok hs.sok (hs.tok.prune ps)⟩

/-- The results of a function, as they stand where it ends. -/
def vcRes (L : Lay) : List ResultVar → Tm → Sto → (List AVal → Prop) → Prop
  | [], _, _, T => T []
  | .tmp t :: rs, tm, sto, T => vcRes L rs tm sto fun vs => T (lk tm t :: vs)
  | .cell a ty :: rs, tm, sto, T => (L ty).ty ≠ .other ∧ vcLoad L ty (lk tm a) sto fun v => vcRes L rs tm sto fun vs => T (v :: vs)

def retv : List AVal → AVal
  | [v] => v
  | vs => .tup vs

/-- What deferred deletes leave. -/
def runDf (L : Lay) : List DDel → Sto → (Sto → Prop) → Prop
  | [], sto, T => T sto
  | d :: ds, sto, T =>
    match (L d.t).ty, d.m, d.k with
    | .map kt _, .map id g, .str key =>
      (L kt).ty = .string ∧
      match sget sto id with
      | some (g', .mp es) => g' = g ∧ runDf L ds (sput sto id (g, .mp (mdel es key))) T
      | _ => False
    | _, _, _ => False

def resSem (tmps : Array Value) : ResultVar → Sem Value
  | .tmp t => pure (tmps.getD t undef)
  | .cell a t => do loadVar t (← asAddr (tmps.getD a undef))

theorem res_sound (hL : LOk P L) {G : Gh} {w : World} {sto : Sto} {tm : Tm} {tmps : Array Value} (hw : WOk G w) (hs : StoOk G w sto) (ht : TmOk G tm tmps) : ∀ (rs : List ResultVar) (T : List AVal → Prop), vcRes L rs tm sto T →
    ∃ (vs : List Value) (rv : List AVal), (rs.mapM (resSem tmps)).run P w = .ok vs w ∧ vs.length = rv.length ∧ (∀ (j : Nat) (x : AVal), rv[j]? = some x → Rep G true x (vs.getD j undef)) ∧ T rv
  | [], T, h => ⟨[], [], by simp, rfl, fun j x hx => by simp at hx, h⟩
  | .tmp t :: rs, T, h => by
    obtain ⟨vs, rv, h1, h2, h3, h4⟩ := res_sound hL hw hs ht rs _ h
    refine ⟨tmps.getD t undef :: vs, lk tm t :: rv, by simp only [List.mapM_cons, Sem.run_bind, resSem, Sem.run_pure, Result.andThen_ok, h1], by simp [h2], fun j x hx => ?_, h4⟩
    cases j with
    | zero => simp only [List.getElem?_cons_zero, Option.some.injEq] at hx; subst hx; exact ht t
    | succ j => exact h3 j x (by simpa using hx)
  | .cell a ty :: rs, T, h => by
    obtain ⟨hty, h⟩ := h
    obtain ⟨ad, u, r, e, hl, hr, h⟩ := load_core hL hty hw hs (ht a) h
    obtain ⟨vs, rv, h1, h2, h3, h4⟩ := res_sound hL hw hs ht rs _ h
    refine ⟨u :: vs, r :: rv, by simp only [List.mapM_cons, Sem.run_bind, resSem, e, asAddr, Sem.run_pure, Result.andThen_ok, hl, h1], by simp [h2], fun j x hx => ?_, h4⟩
    cases j with
    | zero => simp only [List.getElem?_cons_zero, Option.some.injEq] at hx; subst hx; exact hr
    | succ j => exact h3 j x (by simpa using hx)

theorem results_sound (hL : LOk P L) {G : Gh} {w : World} {sto : Sto} {tm : Tm} {tmps : Array Value} (hw : WOk G w) (hs : StoOk G w sto) (ht : TmOk G tm tmps) {T : AVal → Prop} (h : vcRes L fn.results.toList tm sto fun vs => T (retv vs)) :
    ∃ v r, (results fn tmps).run P w = .ok v w ∧ Rep G true r v ∧ T r := by
  obtain ⟨vs, rv, h1, h2, h3, h4⟩ := res_sound hL hw hs ht _ _ h
  refine ⟨if h : vs.toArray.size = 1 then vs.toArray[0] else .tuple vs.toArray, retv rv, ?_, ?_, h4⟩
  · have e : (fn.results.mapM (resSem tmps)).run P w = .ok vs.toArray w := by
      rw [Array.mapM_eq_mapM_toList]
      simp [h1]
    have hF : ∀ F : ResultVar → Sem Value, (∀ x, F x = resSem tmps x) → (Array.mapM F fn.results).run P w = .ok vs.toArray w := by
      intro F h
      rw [funext h]; exact e
    unfold results
    rw [Sem.run_bind, hF _ (by intro x; cases x <;> rfl)]
    simp only [Result.andThen_ok, Sem.run_pure]
  · match rv, vs, h2, h3 with
    | [], [], _, _ => exact .tup rfl fun j x hx => by simp at hx
    | [x], [v], _, h3 => exact h3 0 x rfl
    | x :: y :: rs, v :: u :: vs, h2, h3 =>
      have e : ¬ ((v :: u :: vs).toArray.size = 1) := by simp
      rw [dif_neg e]
      refine .tup (by simpa using h2) fun j z hz => ?_
      have := h3 j z hz
      simpa [List.getD_eq_getElem?_getD] using this

/-- The end of a function: its deferred deletes, its results. -/
theorem good_end (hL : LOk P L) {E : Gh} {R : AVal → Sto → Prop} : ∀ (df : List DDel) (ds : List Deferred) (G : Gh) (w : World) (sto : Sto) (fr : Frame) (cs : List Frame), fr.mode = .returning → fr.defers = ds → fr.fn = f → fr.kind = .normal →
    P.funcs[f]? = some fn → DfOk G df ds → Ext E G → WOk G w → StoOk G w sto → TmOk G tm fr.tmps → (∀ d ∈ df, (L d.t).ty ≠ .other) → (runDf L df sto fun sto' => vcRes L fn.results.toList tm sto' fun vs => R (retv vs) sto') →
    ∃ e w' fr', Post E R e w' ∧ Comes P (lone fr cs w) (lone fr' cs w') e ∧ fr'.fn = f ∧ fr'.leaving P w' e
  | [], [], G, w, sto, fr, cs, hm, hd, hfn, hk, hf, _, hext, hw, hs, ht, _, h => by
    obtain ⟨v, r, h1, h2, h3⟩ := results_sound (fn := fn) hL hw hs ht (T := fun r => R r sto) h
    exact ⟨.returned v, w, fr, ⟨G, v, r, sto, rfl, hext, hw, hs, h2, h3⟩, Steps.refl P _, hfn, hm, hd, hk, fn, hfn ▸ hf, h1⟩
  | [], _ :: _, _, _, _, _, _, _, _, _, _, _, hdf, _, _, _, _, _, _ => by simp [DfOk] at hdf
  | _ :: _, [], _, _, _, _, _, _, _, _, _, _, hdf, _, _, _, _, _, _ => by simp [DfOk] at hdf
  | d :: df, e :: ds, G, w, sto, fr, cs, hm, hd, hfn, hk, hf, hdf, hext, hw, hs, ht, hty, h => by
    obtain ⟨⟨ty, cs', v, u, rfl, hv, hu⟩, hdf'⟩ := hdf
    unfold runDf at h
    split at h
    · rename_i kt et id g key he hme hke
      obtain ⟨hstr, h⟩ := h
      split at h
      · rename_i g' es hget
        obtain ⟨rfl, h⟩ := h
        rw [hme] at hv
        rw [hke] at hu
        obtain ⟨w', hrun, hw', hs'⟩ := delete_sound (t2 := d.t2) (ty := ty) hL (hty d (by simp)) hw hs hv hu he hstr hget
        have hstep : Go.step P (lone fr cs w) = .next (lone { fr with defers := ds } cs w') := by
          refine step_lone_go ?_
          have hinv : (invoke (.builtin .delete #[d.t, d.t2] ty cs') #[v, u]).run P w = .ok (.value (.tuple #[])) w' := by
            simp [invoke, builtin, hrun]
          simp [stepG, unwind, callDeferred, hm, hd, hinv]
        obtain ⟨e', w2, fr', a1, a2, a3, a4⟩ := good_end hL df ds G w' _ { fr with defers := ds } cs hm rfl hfn hk hf hdf' hext hw' hs' ht (fun d hd => hty d (by simp [hd])) h
        exact ⟨e', w2, fr', a1, Comes.of_steps (.one hstep) a2, a3, a4⟩
      · exact h.elim
    · exact h.elim

theorem AGood.ret (hL : LOk P L) (hty : ∀ d ∈ df, (L d.t).ty ≠ .other) (h : runDf L df sto fun sto' => vcRes L fn.results.toList tm sto' fun vs => R (retv vs) sto') : AGood P f fn df (.code .ret :: k) tm sto R := by
  refine ⟨?_⟩
  intro E G a w b h1 h2 h3 h4 h5 h6 h7 h8 h9 cs
  obtain ⟨e, w2, fr', a1, a2, a3, a4⟩ := good_end (f := f) hL df a.defers G w sto { b.at a (.code .ret :: k) with mode := .returning } cs rfl rfl h1 h2 h3 h5 h6 h7 h8 h9 hty h
  exact ⟨e, w2, fr', a1, Comes.of_steps (.one step_ret) a2, a3, a4⟩

theorem AGood.done (hL : LOk P L) (hty : ∀ d ∈ df, (L d.t).ty ≠ .other) (h : runDf L df sto fun sto' => vcRes L fn.results.toList tm sto' fun vs => R (retv vs) sto') : AGood P f fn df [] tm sto R := by
  refine ⟨?_⟩
  intro E G a w b h1 h2 h3 h4 h5 h6 h7 h8 h9 cs
  obtain ⟨e, w2, fr', a1, a2, a3, a4⟩ := good_end (f := f) hL df a.defers G w sto { b.at a [] with mode := .returning } cs rfl rfl h1 h2 h3 h5 h6 h7 h8 h9 hty h
  exact ⟨e, w2, fr', a1, Comes.of_steps (.one step_end) a2, a3, a4⟩

def initTm : Nat → List AVal → Tm
  | _, [] => []
  | n, x :: xs => (n, x) :: initTm (n + 1) xs

theorem lk_init : ∀ (xs : List AVal) (n t : Nat), lk (initTm n xs) t = if n ≤ t then (xs[t - n]?).getD .undef else .undef
  | [], n, t => by simp [initTm, lk]
  | x :: xs, n, t => by
    simp only [initTm, lk]
    by_cases h : n = t
    · subst h; simp
    · rw [if_neg h, lk_init xs (n + 1) t]
      by_cases h2 : n ≤ t
      · rw [if_pos h2, if_pos (by omega)]
        have : t - n = (t - (n + 1)) + 1 := by omega
        rw [this]; simp
      · rw [if_neg h2, if_neg (by omega)]

theorem ACall.enter {c : Code} {args : List AVal} (hf : P.funcs[f]? = some fn) (hb : fn.body = some c) (hname : (fn.name == "runtime.NumGoroutine") = false) (hn : args.length ≤ fn.ntmps)
    (h : AGood P f fn [] [.code c] (initTm 0 args) sto R) : ACall P f args sto R := by
  refine ⟨⟨fn, hf, hname, by simp [hb]⟩, fun G w cargs hw hs ha cs => ?_⟩
  let b : Frame := { (default : Frame) with fn := f, kind := .normal }
  have henter : Frame.enter P f cargs .normal = b.at { tmps := cargs ++ Array.replicate (fn.ntmps - cargs.size) undef, defers := [] } [.code c] := by
    simp [Frame.enter, Frame.at, hf, hb, b]
  rw [henter]
  refine h.go G G { tmps := cargs ++ Array.replicate (fn.ntmps - cargs.size) undef, defers := [] } w b rfl rfl hf (by simp [ha.1]; omega) trivial (.refl G) hw hs (fun t => ?_) cs
  rw [lk_init]
  simp only [Nat.zero_le, if_true, Nat.sub_zero]
  cases hx : args[t]? with
  | none => exact .undef
  | some x =>
    have ht : t < cargs.size := by rw [ha.1]; exact lt_of_get hx
    have := ha.2 t x hx
    have e : (cargs ++ Array.replicate (fn.ntmps - cargs.size) undef).getD t undef = cargs.getD t undef := by
      simp [Array.getD_eq_getD_getElem?, Array.getElem?_append, ht]
    simp only [Option.getD_some]
    rw [e]; exact this

end
end Go.Rad
/- The equations by which a region is reduced, and the rules in the shape that the proofs use. -/
namespace Go.Rad
open Go
variable {P : Program} {L : Lay} {q : Bool} {z : List Nat}

/-- What is left to do behind an operation, by what it takes. -/
def kv (L : Lay) (P : Program) (q : Bool) (z : List Nat) (ds : List (Option Nat)) (os : List Oper) (d : Option Nat) (tm : Tm) (sto : Sto) (K : Tm → Sto → Prop) : AVal → Prop := fun r => vc L P q z ds os (put d r tm) sto K
def kvc (L : Lay) (P : Program) (q : Bool) (z : List Nat) (ds : List (Option Nat)) (os : List Oper) (d : Option Nat) (tm : Tm) (K : Tm → Sto → Prop) : AVal → Sto → Prop := fun r s => vc L P q z ds os (put d r tm) s K
def kvs (L : Lay) (P : Program) (q : Bool) (z : List Nat) (ds : List (Option Nat)) (os : List Oper) (d : Option Nat) (tm : Tm) (K : Tm → Sto → Prop) : AVal → Sto → Prop := fun r s => frq (z.contains (d.getD 0)) r s (kvc L P q z ds os d tm K)
def ks (L : Lay) (P : Program) (q : Bool) (z : List Nat) (ds : List (Option Nat)) (os : List Oper) (d : Option Nat) (tm : Tm) (K : Tm → Sto → Prop) : Sto → Prop := fun s => vc L P q z ds os (put d .undef tm) s K
def kb (L : Lay) (P : Program) (q : Bool) (z : List Nat) (ds : List (Option Nat)) (os : List Oper) (d : Option Nat) (tm : Tm) (sto : Sto) (K : Tm → Sto → Prop) (neg : Bool) : Bool → Prop := fun b => vc L P q z ds os (put d (.bool (if neg then !b else b)) tm) sto K
/-- An operation behind a guard whose bool isn't known yet, and one that is. -/
def gd (L : Lay) (P : Program) (q : Bool) (z : List Nat) (ds : List (Option Nat)) (o : Oper) (os : List Oper) (t : Nat) (want : Bool) (tm : Tm) (sto : Sto) (K : Tm → Sto → Prop) : AVal → Prop
  | .bool b => (b = want → vc L P q z ds ({ o with guard := none } :: os) ((t, .bool want) :: tm) sto K) ∧ (b = !want → vc L P q z ds os (put o.dst (.tup []) ((t, .bool !want) :: tm)) sto K)
  | .tup [] => vc L P q z ds os (put o.dst (.tup []) tm) sto K
  | _ => False
/-- One of two values, by a bool. -/
def pk (x : AVal) (a b : AVal) (T : AVal → Prop) : Prop :=
  match x with
  | .bool x => (x = true → T a) ∧ (x = false → T b)
  | _ => False
/-- A call of what a value is. -/
def cl (P : Program) (q : Bool) (c : AVal) (args : List AVal) (sto : Sto) (T : AVal → Sto → Prop) : Prop :=
  match c with
  | .fn f cap => if q then ∃ v, ACall P f (args ++ cap) sto (fun r s => r = v ∧ s = sto) ∧ T v sto else ACall P f (args ++ cap) sto T
  | _ => False

section
variable {ds : List (Option Nat)} {os : List Oper} {d : Option Nat} {tm : Tm} {sto : Sto} {K : Tm → Sto → Prop} {ty : TypeId} {pos : String} {af : Array Edge}

theorem kv_ap (r : AVal) : kv L P q z ds os d tm sto K r = vc L P q z ds os (put d r tm) sto K := Eq.trans rfl rfl
theorem kvs_ap (r : AVal) (s : Sto) : kvs L P q z ds os d tm K r s = frq (z.contains (d.getD 0)) r s (kvc L P q z ds os d tm K) := Eq.trans rfl rfl
theorem kvs_nil (r : AVal) (s : Sto) : kvs L P q [] ds os d tm K r s = vc L P q [] ds os (put d r tm) s K := Eq.trans rfl rfl
theorem kvc_ap (r : AVal) (s : Sto) : kvc L P q z ds os d tm K r s = vc L P q z ds os (put d r tm) s K := Eq.trans rfl rfl
theorem frq_ff (r : AVal) (s : Sto) (T : AVal → Sto → Prop) : frq false r s T = T r s := by simp [frq]
def frO (g n id : Nat) (s : Sto) (T : AVal → Sto → Prop) : Option (Nat × AObj) → Prop
  | some (g', .row _ l) => g' = g ∧ n = l.length ∧ T (.sl true false l) (sdel s id)
  | _ => False
theorem frq_osl (id g n : Nat) (s : Sto) (T : AVal → Sto → Prop) : frq true (.osl id g 0 n) s T = frO g n id s T (sget s id) := by
  unfold frq
  simp only
  cases sget s id with
  | none => rfl
  | some x => obtain ⟨a, b⟩ := x; cases b <;> rfl
theorem frO_row (g n id g' esz : Nat) (l : List (List AVal)) (s : Sto) (T : AVal → Sto → Prop) : frO g n id s T (some (g', .row esz l)) = (g' = g ∧ n = l.length ∧ T (.sl true false l) (sdel s id)) := Eq.trans rfl rfl
theorem frq_sl (b q f : Bool) (l : List (List AVal)) (s : Sto) (T : AVal → Sto → Prop) : frq b (.sl q f l) s T = T (.sl q f l) s := by cases b <;> rfl
theorem frq_int (b : Bool) (k : IntKind) (n : Int) (s : Sto) (T : AVal → Sto → Prop) : frq b (.int k n) s T = T (.int k n) s := by cases b <;> rfl
theorem frq_tup (b : Bool) (vs : List AVal) (s : Sto) (T : AVal → Sto → Prop) : frq b (.tup vs) s T = T (.tup vs) s := by cases b <;> rfl
theorem ks_ap (s : Sto) : ks L P q z ds os d tm K s = vc L P q z ds os (put d .undef tm) s K := Eq.trans rfl rfl
theorem kb_ap (b : Bool) : kb L P q z ds os d tm sto K false b = vc L P q z ds os (put d (.bool b) tm) sto K := Eq.trans rfl rfl
theorem kb_ap' (b : Bool) : kb L P q z ds os d tm sto K true b = vc L P q z ds os (put d (.bool !b) tm) sto K := Eq.trans rfl rfl
theorem put_some (n : Nat) (v : AVal) : put (some n) v tm = (n, v) :: tm := Eq.trans rfl rfl
theorem put_none (v : AVal) : put none v tm = tm := Eq.trans rfl rfl
theorem vc_nil : vc L P q z ds [] tm sto K = K tm sto := by rw [vc]

theorem vc_guard (op : Op) (j : Nat) (want : Bool) (t : Nat) (h : ds[j]? = some (some t)) : vc L P q z ds (⟨d, op, ty, pos, af, some (j, want)⟩ :: os) tm sto K = gd L P q z ds ⟨d, op, ty, pos, af, some (j, want)⟩ os t want tm sto K (lk tm t) := by
  rw [vc]
  simp only [h]
  unfold gd
  cases lk tm t with
  | bool b => simp only [vc]; rfl
  | tup vs => cases vs <;> rfl
  | _ => rfl

variable {op : Op} {g : Option (Nat × Bool)} {t : Nat}
theorem gd_tt : gd L P q z ds ⟨d, op, ty, pos, af, g⟩ os t true tm sto K (.bool true) = vc L P q z ds (⟨d, op, ty, pos, af, none⟩ :: os) ((t, .bool true) :: tm) sto K := by simp [gd]
theorem gd_ff : gd L P q z ds ⟨d, op, ty, pos, af, g⟩ os t false tm sto K (.bool false) = vc L P q z ds (⟨d, op, ty, pos, af, none⟩ :: os) ((t, .bool false) :: tm) sto K := by simp [gd]
theorem gd_tf : gd L P q z ds ⟨d, op, ty, pos, af, g⟩ os t true tm sto K (.bool false) = vc L P q z ds os (put d (.tup []) ((t, .bool false) :: tm)) sto K := by simp [gd]
theorem gd_ft : gd L P q z ds ⟨d, op, ty, pos, af, g⟩ os t false tm sto K (.bool true) = vc L P q z ds os (put d (.tup []) ((t, .bool true) :: tm)) sto K := by simp [gd]
theorem gd_none (want : Bool) : gd L P q z ds ⟨d, op, ty, pos, af, g⟩ os t want tm sto K (.tup []) = vc L P q z ds os (put d (.tup []) tm) sto K := Eq.trans rfl rfl
theorem gd_split {want b : Bool} (h1 : b = want → vc L P q z ds (⟨d, op, ty, pos, af, none⟩ :: os) ((t, .bool want) :: tm) sto K) (h2 : b = !want → vc L P q z ds os (put d (.tup []) ((t, .bool !want) :: tm)) sto K) :
    gd L P q z ds ⟨d, op, ty, pos, af, g⟩ os t want tm sto K (.bool b) := ⟨h1, h2⟩

theorem pk_t {a b : AVal} {T : AVal → Prop} : pk (.bool true) a b T = T a := by simp [pk]
theorem pk_f {a b : AVal} {T : AVal → Prop} : pk (.bool false) a b T = T b := by simp [pk]
theorem pk_split {x : Bool} {a b : AVal} {T : AVal → Prop} (h1 : x = true → T a) (h2 : x = false → T b) : pk (.bool x) a b T := ⟨h1, h2⟩
theorem pk_bool {x a b : Bool} {T : AVal → Prop} (h : T (.bool (bif x then a else b))) : pk (.bool x) (.bool a) (.bool b) T := by cases x <;> simp_all [pk]

theorem vc_move (x : Operand) : vc L P q z ds (⟨d, .move x, ty, pos, af, none⟩ :: os) tm sto K = vc L P q z ds os (put d (ev tm x) tm) sto K := by rw [vc]; rfl
theorem vc_assign (x : Operand) : vc L P q z ds (⟨d, .assign x, ty, pos, af, none⟩ :: os) tm sto K = vc L P q z ds os (put d (ev tm x) tm) sto K := by rw [vc]; rfl
theorem vc_pick (c a b : Operand) : vc L P q z ds (⟨d, .pick c a b, ty, pos, af, none⟩ :: os) tm sto K = pk (ev tm c) (ev tm a) (ev tm b) (kv L P q z ds os d tm sto K) := by rw [vc]; rfl
theorem vc_alloc (e : TypeId) (n : Nat) : vc L P q z ds (⟨some n, .alloc e, ty, pos, af, none⟩ :: os) tm sto K = (0 < (L e).sz ∧ ∀ h, vc L P q z ds os ((n, .bx n h 0) :: tm) (sput sto n (h, .box (L e).zero)) K) := by rw [vc]; rfl
theorem vc_box (e : TypeId) (x : Operand) (n : Nat) : vc L P q z ds (⟨some n, .box e x, ty, pos, af, none⟩ :: os) tm sto K =
    ((ev tm x).isWhole = true ∧ (cellsOf (ev tm x)).length = (L e).sz ∧ 0 < (L e).sz ∧ ∀ h, vc L P q z ds os ((n, .bx n h 0) :: tm) (sput sto n (h, .box (cellsOf (ev tm x)))) K) := by rw [vc]; rfl
theorem vc_build (e : TypeId) (ps : Array (Nat × Operand)) : vc L P q z ds (⟨d, .build e ps, ty, pos, af, none⟩ :: os) tm sto K =
    ((L e).ag = true ∧ ∃ cs, fillC L (L e) (L e).zero (ps.toList.map fun p => (p.1, ev tm p.2)) = some cs ∧ vc L P q z ds os (put d (.agg cs) tm) sto K) := by rw [vc]; rfl
theorem vc_buildSlice (e : TypeId) (n m : Nat) (ps : Array (Nat × Operand)) : vc L P q z ds (⟨some n, .buildSlice e m ps, ty, pos, af, none⟩ :: os) tm sto K = vcBuildSlice L n e m (ps.toList.map fun p => (p.1, ev tm p.2)) sto (kvs L P q z ds os (some n) tm K) := by rw [vc]; rfl
theorem vc_load (e : TypeId) (a : Operand) : vc L P q z ds (⟨d, .load e a, ty, pos, af, none⟩ :: os) tm sto K = vcLoad L e (ev tm a) sto (kv L P q z ds os d tm sto K) := by rw [vc]; rfl
theorem vc_store (e : TypeId) (a x : Operand) : vc L P q z ds (⟨none, .store e a x, ty, pos, af, none⟩ :: os) tm sto K = vcStoreN L e (ev tm a) (ev tm x) sto (ks L P q z ds os none tm K) := by rw [vc]; rfl

def nc (x : AVal) (T : AVal → Prop) : Prop :=
  match x with
  | .bx id g off => T (.bx id g off)
  | .loc id g i off => T (.loc id g i off)
  | .ref q cs => T (.ref q cs)
  | .fn f cap => T (.fn f cap)
  | _ => False
theorem nc_bx {i g o : Nat} {T : AVal → Prop} : nc (.bx i g o) T = T (.bx i g o) := Eq.trans rfl rfl
theorem nc_loc {i g o j : Nat} {T : AVal → Prop} : nc (.loc i g o j) T = T (.loc i g o j) := Eq.trans rfl rfl
theorem nc_ref {q : Bool} {cs : List AVal} {T : AVal → Prop} : nc (.ref q cs) T = T (.ref q cs) := Eq.trans rfl rfl
theorem nc_fn {f : Nat} {cs : List AVal} {T : AVal → Prop} : nc (.fn f cs) T = T (.fn f cs) := Eq.trans rfl rfl
theorem vc_nilCheck (x : Operand) : vc L P q z ds (⟨d, .nilCheck x, ty, pos, af, none⟩ :: os) tm sto K = nc (ev tm x) (kv L P q z ds os d tm sto K) := by
  rw [vc]
  simp only [vcStep, vcOp]
  generalize ev tm x = v
  cases v <;> rfl
theorem vc_binOp (o : BinOp) (e e' : TypeId) (x y : Operand) (h : isNilSlice y = false) : vc L P q z ds (⟨d, .binOp o e x y e', ty, pos, af, none⟩ :: os) tm sto K = vcBin L o e (ev tm x) (ev tm y) (kv L P q z ds os d tm sto K) := by
  rw [vc]; simp only [vcStep, vcOp, h, Bool.false_eq_true, if_false]; rfl
theorem vc_bin_tmp (o : BinOp) (e e' : TypeId) (x : Operand) (n : Nat) : vc L P q z ds (⟨d, .binOp o e x (.tmp n) e', ty, pos, af, none⟩ :: os) tm sto K = vcBin L o e (ev tm x) (ev tm (.tmp n)) (kv L P q z ds os d tm sto K) := vc_binOp o e e' x _ rfl
theorem vc_bin_int (o : BinOp) (e e' : TypeId) (x : Operand) (k : IntKind) (n : Int) : vc L P q z ds (⟨d, .binOp o e x (.const (.int k n)) e', ty, pos, af, none⟩ :: os) tm sto K = vcBin L o e (ev tm x) (ev tm (.const (.int k n))) (kv L P q z ds os d tm sto K) := vc_binOp o e e' x _ rfl
theorem vc_bin_bool (o : BinOp) (e e' : TypeId) (x : Operand) (b : Bool) : vc L P q z ds (⟨d, .binOp o e x (.const (.bool b)) e', ty, pos, af, none⟩ :: os) tm sto K = vcBin L o e (ev tm x) (ev tm (.const (.bool b))) (kv L P q z ds os d tm sto K) := vc_binOp o e e' x _ rfl
theorem vc_bin_str (o : BinOp) (e e' : TypeId) (x : Operand) (b : ByteArray) : vc L P q z ds (⟨d, .binOp o e x (.const (.string b)) e', ty, pos, af, none⟩ :: os) tm sto K = vcBin L o e (ev tm x) (ev tm (.const (.string b))) (kv L P q z ds os d tm sto K) := vc_binOp o e e' x _ rfl
theorem vc_bin_agg (o : BinOp) (e e' : TypeId) (x : Operand) (b : Array Value) : vc L P q z ds (⟨d, .binOp o e x (.const (.agg b)) e', ty, pos, af, none⟩ :: os) tm sto K = vcBin L o e (ev tm x) (ev tm (.const (.agg b))) (kv L P q z ds os d tm sto K) := vc_binOp o e e' x _ rfl
theorem vc_eqNil (e e' : TypeId) (x : Operand) (l c : Nat) : vc L P q z ds (⟨d, .binOp .eql e x (.const (.slice none l c)) e', ty, pos, af, none⟩ :: os) tm sto K = vcNil L e (ev tm x) (kb L P q z ds os d tm sto K false) := by
  rw [vc]; rfl
theorem vc_neNil (e e' : TypeId) (x : Operand) (l c : Nat) : vc L P q z ds (⟨d, .binOp .neq e x (.const (.slice none l c)) e', ty, pos, af, none⟩ :: os) tm sto K = vcNil L e (ev tm x) (kb L P q z ds os d tm sto K true) := by
  rw [vc]; rfl
theorem vc_unOp (o : UnOp) (e : TypeId) (x : Operand) : vc L P q z ds (⟨d, .unOp o e x, ty, pos, af, none⟩ :: os) tm sto K = vcUn o (ev tm x) (kv L P q z ds os d tm sto K) := by rw [vc]; rfl
theorem vc_convert (e e' : TypeId) (x : Operand) : vc L P q z ds (⟨d, .convert e e' x, ty, pos, af, none⟩ :: os) tm sto K = vcConvert L e e' (ev tm x) (kv L P q z ds os d tm sto K) := by rw [vc]; rfl
theorem vc_makeFunc (f : Nat) (cap : Array Operand) : vc L P q z ds (⟨d, .makeFunc (.func f) #[] cap, ty, pos, af, none⟩ :: os) tm sto K = vc L P q z ds os (put d (.fn f (cap.toList.map (ev tm))) tm) sto K := by
  rw [vc]
  simp [vcStep, vcOp, isMk]
theorem vc_makeMap (e : TypeId) (n : Nat) : vc L P q z ds (⟨some n, .makeMap e none, ty, pos, af, none⟩ :: os) tm sto K = ((∃ k v, (L e).ty = .map k v) ∧ ∀ h, vc L P q z ds os ((n, .map n h) :: tm) (sput sto n (h, .mp [])) K) := by rw [vc]; rfl
theorem vc_makeSlice (e : TypeId) (l c : Operand) (n : Nat) : vc L P q z ds (⟨some n, .makeSlice e l c, ty, pos, af, none⟩ :: os) tm sto K = vcMake L n e (ev tm l) (ev tm c) sto (kvs L P q z ds os (some n) tm K) := by rw [vc]; rfl
theorem vc_slice (e : TypeId) (x : Operand) (lo hi mx : Option Operand) : vc L P q z ds (⟨d, .slice e x lo hi mx, ty, pos, af, none⟩ :: os) tm sto K = ((mx.isSome = true → hi.isSome = true) ∧ vcSlice L e (ev tm x) (lo.map (ev tm)) (hi.map (ev tm)) (mx.map (ev tm)) sto (kv L P q z ds os d tm sto K)) := by rw [vc]; rfl
theorem vc_fieldAddr (e : TypeId) (x : Operand) (i : Nat) : vc L P q z ds (⟨d, .fieldAddr e x i, ty, pos, af, none⟩ :: os) tm sto K = vcField (L e) (ev tm x) i (kv L P q z ds os d tm sto K) := by rw [vc]; rfl
theorem vc_field (e : TypeId) (x : Operand) (i : Nat) : vc L P q z ds (⟨d, .field e x i, ty, pos, af, none⟩ :: os) tm sto K = vcFieldOf L e (ev tm x) i (kv L P q z ds os d tm sto K) := by rw [vc]; rfl
theorem vc_indexAddr (e : TypeId) (x i : Operand) : vc L P q z ds (⟨d, .indexAddr e x i, ty, pos, af, none⟩ :: os) tm sto K = vcIndexAddr L e (ev tm x) (ev tm i) sto (kv L P q z ds os d tm sto K) := by rw [vc]; rfl
theorem vc_index (e : TypeId) (x i : Operand) : vc L P q z ds (⟨d, .index e x i, ty, pos, af, none⟩ :: os) tm sto K = vcIndex L e (ev tm x) (ev tm i) (kv L P q z ds os d tm sto K) := by rw [vc]; rfl
theorem vc_lookup (e : TypeId) (m k : Operand) (ok : Bool) : vc L P q z ds (⟨d, .lookup e m k ok, ty, pos, af, none⟩ :: os) tm sto K = vcLookup L e (ev tm m) (ev tm k) ok sto (kv L P q z ds os d tm sto K) := by rw [vc]; rfl
theorem vc_mapUpdate (e : TypeId) (m k x : Operand) : vc L P q z ds (⟨none, .mapUpdate e m k x, ty, pos, af, none⟩ :: os) tm sto K = vcMapUpdate L e (ev tm m) (ev tm k) (nrmV (ev tm x)) sto (ks L P q z ds os none tm K) := by rw [vc]; rfl
theorem vc_extract (x : Operand) (i : Nat) : vc L P q z ds (⟨d, .extract x i, ty, pos, af, none⟩ :: os) tm sto K = vcExtract (ev tm x) i (kv L P q z ds os d tm sto K) := by rw [vc]; rfl
theorem vc_builtin (b : Builtin) (args : Array Operand) (ts : Array TypeId) (n : Nat) : vc L P q z ds (⟨some n, .call ⟨.builtin b, args, ts⟩, ty, pos, af, none⟩ :: os) tm sto K = vcBuiltin L n b ts.toList (args.toList.map (ev tm)) sto (kvs L P q z ds os (some n) tm K) := by rw [vc]; rfl
theorem vc_call (c : Operand) (args : Array Operand) (ts : Array TypeId) : vc L P q z ds (⟨d, .call ⟨.value c, args, ts⟩, ty, pos, af, none⟩ :: os) tm sto K = cl P q (ev tm c) (args.toList.map (ev tm)) sto (kvs L P q z ds os d tm K) := by
  rw [vc]; rfl
theorem cl_fn {f : Nat} {cap args : List AVal} {T : AVal → Sto → Prop} : cl P false (.fn f cap) args sto T = ACall P f (args ++ cap) sto T := Eq.trans rfl rfl
theorem cl_fq {f : Nat} {cap args : List AVal} {T : AVal → Sto → Prop} : cl P true (.fn f cap) args sto T = ∃ v, ACall P f (args ++ cap) sto (fun r s => r = v ∧ s = sto) ∧ T v sto := Eq.trans rfl rfl

theorem nn_tmp (n : Nat) : isNilSlice (.tmp n) = false := Eq.trans rfl rfl
theorem nn_int (k : IntKind) (n : Int) : isNilSlice (.const (.int k n)) = false := Eq.trans rfl rfl
theorem nn_bool (b : Bool) : isNilSlice (.const (.bool b)) = false := Eq.trans rfl rfl
theorem nn_str (b : ByteArray) : isNilSlice (.const (.string b)) = false := Eq.trans rfl rfl
theorem nn_agg (b : Array Value) : isNilSlice (.const (.agg b)) = false := Eq.trans rfl rfl
theorem ev_tmp (n : Nat) : ev tm (.tmp n) = lk tm n := Eq.trans rfl rfl
theorem ev_const (v : Value) : ev tm (.const v) = ofConst v := Eq.trans rfl rfl
theorem ev_func (f : Nat) : ev tm (.func f) = .fn f [] := Eq.trans rfl rfl
theorem oc_int (k : IntKind) (n : Int) : ofConst (.int k n) = .int k n := Eq.trans rfl rfl
theorem oc_bool (b : Bool) : ofConst (.bool b) = .bool b := Eq.trans rfl rfl
theorem oc_str (s : ByteArray) : ofConst (.string s) = .str s := Eq.trans rfl rfl
theorem oc_nil : ofConst (.pointer none) = .nil := Eq.trans rfl rfl
theorem oc_sl : ofConst (.slice none 0 0) = .sl true true [] := Eq.trans rfl rfl
theorem oc_map : ofConst (.map none) = .nilmap := Eq.trans rfl rfl
theorem oc_fn : ofConst .nilFunc = .nilfn := Eq.trans rfl rfl
theorem oc_agg (l : List Value) : ofConst (.agg ⟨l⟩) = .agg (l.map ofConst1) := Eq.trans rfl rfl
theorem oc1uint (k : IntKind) (n : Int) : ofConst1 (.int k n) = .int k n := Eq.trans rfl rfl
theorem oc1ubool (b : Bool) : ofConst1 (.bool b) = .bool b := Eq.trans rfl rfl
theorem oc1ustr (s : ByteArray) : ofConst1 (.string s) = .str s := Eq.trans rfl rfl
theorem oc1unil : ofConst1 (.pointer none) = .nil := Eq.trans rfl rfl
theorem oc1usl : ofConst1 (.slice none 0 0) = .sl true true [] := Eq.trans rfl rfl
theorem lk_hit (n : Nat) (v : AVal) : lk ((n, v) :: tm) n = v := by simp [lk]
theorem lk_miss (m n : Nat) (v : AVal) (h : m ≠ n) : lk ((m, v) :: tm) n = lk tm n := by simp [lk, h]
theorem lk_nil (n : Nat) : lk [] n = .undef := Eq.trans rfl rfl
theorem sget_hit (n : Nat) (v : Nat × AObj) : sget ((n, v) :: sto) n = some v := by simp [sget]
theorem sget_miss (m n : Nat) (v : Nat × AObj) (h : m ≠ n) : sget ((m, v) :: sto) n = sget sto n := by simp [sget, h]
theorem sget_nil (n : Nat) : sget [] n = none := Eq.trans rfl rfl
theorem sput_nil (n : Nat) (v : Nat × AObj) : sput [] n v = [(n, v)] := Eq.trans rfl rfl
theorem sput_hit (n : Nat) (x v : Nat × AObj) : sput ((n, x) :: sto) n v = (n, v) :: sto := by simp [sput]
theorem sput_lt (m n : Nat) (x v : Nat × AObj) (h : n < m) : sput ((m, x) :: sto) n v = (n, v) :: (m, x) :: sto := by simp [sput, h, Nat.ne_of_gt h]
theorem sput_gt (m n : Nat) (x v : Nat × AObj) (h : m < n) : sput ((m, x) :: sto) n v = (m, x) :: sput sto n v := by simp [sput, Nat.ne_of_lt h, Nat.not_lt.2 (Nat.le_of_lt h)]
theorem sdel_nil (n : Nat) : sdel [] n = [] := Eq.trans rfl rfl
theorem sdel_hit (n : Nat) (x : Nat × AObj) : sdel ((n, x) :: sto) n = sdel sto n := by simp [sdel]
theorem sdel_miss (m n : Nat) (x : Nat × AObj) (h : m ≠ n) : sdel ((m, x) :: sto) n = (m, x) :: sdel sto n := by simp [sdel, h]
end

theorem retv_one (v : AVal) : retv [v] = v := Eq.trans rfl rfl
theorem retv_nil : retv [] = .tup [] := Eq.trans rfl rfl
theorem retv_more (u v : AVal) (l : List AVal) : retv (u :: v :: l) = .tup (u :: v :: l) := Eq.trans rfl rfl
theorem vcRes_nil {tm : Tm} {sto : Sto} {T : List AVal → Prop} : vcRes L [] tm sto T = T [] := Eq.trans rfl rfl
theorem vcRes_tmp {tm : Tm} {sto : Sto} {T : List AVal → Prop} (t : Nat) (rs : List ResultVar) : vcRes L (.tmp t :: rs) tm sto T = vcRes L rs tm sto fun vs => T (lk tm t :: vs) := Eq.trans rfl rfl
theorem vcRes_cell {tm : Tm} {sto : Sto} {T : List AVal → Prop} (a t : Nat) (rs : List ResultVar) : vcRes L (.cell a t :: rs) tm sto T = ((L t).ty ≠ .other ∧ vcLoad L t (lk tm a) sto fun v => vcRes L rs tm sto fun vs => T (v :: vs)) := Eq.trans rfl rfl

theorem AGood.ret' {f : Nat} {fn : Func} {k : List Item} {tm : Tm} {sto : Sto} {R : AVal → Sto → Prop} (hL : LOk P L) (rs : List ResultVar) (hr : fn.results.toList = rs) (h : vcRes L rs tm sto fun vs => R (retv vs) sto) :
    AGood P f fn [] (.code .ret :: k) tm sto R := .ret hL (fun d hd => by simp at hd) (by rw [runDf, hr]; exact h)

theorem AGood.done' {f : Nat} {fn : Func} {tm : Tm} {sto : Sto} {R : AVal → Sto → Prop} (hL : LOk P L) (rs : List ResultVar) (hr : fn.results.toList = rs) (h : vcRes L rs tm sto fun vs => R (retv vs) sto) :
    AGood P f fn [] [] tm sto R := .done hL (fun d hd => by simp at hd) (by rw [runDf, hr]; exact h)

/-- A region: what is to come stands behind a name. -/
theorem AGood.reg {f : Nat} {fn : Func} {df : List DDel} {k : List Item} {tm : Tm} {sto : Sto} {R : AVal → Sto → Prop} (hL : LOk P L) (z : List Nat) {id : Nat} {ops : List Oper} (ps : List Nat) (hok : okOps L fn.ntmps ops = true)
    (h : ∀ K : Tm → Sto → Prop, (∀ tm' sto', AGood P f fn df k (Rad.prune ps tm') sto' R → K tm' sto') → vc L P false z (ops.map (·.dst)) ops tm sto K) : AGood P f fn df (.code (.region id ops.toArray false) :: k) tm sto R :=
  .region hL ps hok (h _ fun _ _ h => h)
end Go.Rad
