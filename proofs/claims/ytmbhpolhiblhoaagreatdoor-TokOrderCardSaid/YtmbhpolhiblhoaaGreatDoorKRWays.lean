/- A part of the proof. -/
import Derived.Test.YtmbhpolhiblhoaaGreatDoorKRDraw
import Derived.OrdersHeld
import Derived.Test.YtmbhpolhiblhoaaGreatDoorKRDefer
import Derived.Test.YtmbhpolhiblhoaaGreatDoorKP15c
import Derived.Test.YtmbhpolhiblhoaaGreatDoorKP15a
set_option linter.all false
namespace Go.Rad
open Go
inductive fJ where
 | done
 | take (i : Nat) (t : fJ)
 | one (i : Nat) (t : fJ)
 | two (i : Nat) (t : fJ) (j : Nat) (u : fJ)
def ij (L : Lay) (o : Oper) : Bool := match o.guard with
 | none => match o.op with
  | .move _ | .assign _ | .extract _ _ => true
  | .fieldAddr t _ _ | .indexAddr t _ _ | .build t _ => (L t).ty != .other
  | _ => false
 | _ => false
def CC (L : Lay) (o : Oper) : Bool := match o.guard with
 | none => match o.op with
  | .load t _ => (L t).ty != .other
  | _ => false
 | _ => false
def IK (tm : Tm) (ops : List Oper) (i : Nat) : Bool := match ops[i]? with
 | some o => match o.op with
  | .load _ x => ei (ev tm x)
  | _ => true
 | none => true
def jD (ops : List Oper) (l : Array Bool) : List Nat := Region.ready .any ops.toArray l
def fJ.ok (L : Lay) (ops : List Oper) : fJ → Bool → Array Bool → Bool
 | .done, _, l => (jD ops l).isEmpty
 | .take i t, b, l => (match ops[i]? with | some o => ij L o || b && CC L o | none => false) && Region.free .any ops.toArray l i && (jD ops l).contains i && t.ok L ops b (l.setIfInBounds i true)
 | .one i t, _, l => (jD ops l == [i]) && t.ok L ops false (l.setIfInBounds i true)
 | .two i t j u, _, l => (jD ops l == [i, j]) && t.ok L ops false (l.setIfInBounds i true) && u.ok L ops false (l.setIfInBounds j true)
def fJ.deep : fJ → Nat
 | .done => 0
 | .take _ t => t.deep + 1
 | .one _ t => t.deep + 1
 | .two _ t _ u => max t.deep u.deep + 1
def vcW (L : Lay) (P : Program) (z : List Nat) (ds : List (Option Nat)) (ops : List Oper) : fJ → Tm → Sto → (Tm → Sto → Prop) → Prop
 | .done, tm, sto, K => K tm sto
 | .take i t, tm, sto, K => IK tm ops i = true ∧ vc L P false z ds ([i].filterMap (ops[·]?)) tm sto fun tm sto => vcW L P z ds ops t tm sto K
 | .one i t, tm, sto, K => vc L P false z ds ([i].filterMap (ops[·]?)) tm sto fun tm sto => vcW L P z ds ops t tm sto K
 | .two i t j u, tm, sto, K => (vc L P false z ds ([i].filterMap (ops[·]?)) tm sto fun tm sto => vcW L P z ds ops t tm sto K) ∧ (vc L P false z ds ([j].filterMap (ops[·]?)) tm sto fun tm sto => vcW L P z ds ops u tm sto K)
section
variable {P : Program} {L : Lay} {nt : Nat} {E : Gh} {dfs : List Deferred} {z : List Nat} {ops : List Oper} {Q : Exit → Act → World → Prop}
theorem D2 (hL : LOk P L) {i : Nat} {o : Oper} {tm : Tm} {sto : Sto} {a : Act} {w : World} {G : Gh} {K' : Tm → Sto → Prop} {N : Act → World → Prop} (hi : ops[i]? = some o) (hok1 : aT L nt [o] = true) (hsim : Sim E nt dfs tm sto a w G)
  (h : vc L P false z (ops.map (·.dst)) [o] tm sto K') (hN : ∀ tm' sto' a' w' G', K' tm' sto' → Sim E nt dfs tm' sto' a' w' G' → N a' w') : wpOp P ops.toArray Q i N a w := by
 have hdst : (match o.dst with | some d => decide (d < nt) | none => true) = true := by
  simp only [aT, List.all_cons, List.all_nil, Bool.and_true, Bool.and_eq_true] at hok1
  exact hok1.1.2
 unfold wpOp
 rw [show ops.toArray[i]? = some o by simpa using hi]
 simp only
 unfold vc at h
 split at h
 ·rename_i hg
  rw [if_pos (by simp [Region.wanted, hg])]
  exact .inl (b7 hL hsim hok1 h fun G' w' r v sto' hT hs => hN _ _ _ _ _ hT hs)
 ·rename_i j want hg
  split at h
  ·rename_i t hj
   split at h
   ·rename_i b hb
    have hy := cW hsim.tok hj hb
    have hsub : ∀ c, b = c → Sim E nt dfs ((t, .bool c) :: tm) sto a w G := by
     rintro c rfl
     refine ⟨hsim.ext, hsim.wok, hsim.sok, fun t' => ?_, hsim.n, hsim.d⟩
     simp only [lk]
     split
     ·rename_i e; subst e; rw [← hb]; exact hsim.tok _
     ·exact hsim.tok t'
    by_cases hbw : b = want
    ·rw [if_pos (by simp [Region.wanted, hg, hy, hbw])]
     exact .inl (b7 hL (hsub want hbw) hok1 (h.1 hbw) fun G' w' r v sto' hT hs => hN _ _ _ _ _ hT hs)
    ·rw [if_neg (by simp [Region.wanted, hg, hy, hbw])]
     have hbn : b = !want := by cases b <;> cases want <;> simp_all
     exact hN _ _ _ _ _ (h.2 hbn) ((hsub _ hbn).put (.refl G) hsim.wok hsim.sok hdst (.tup rfl fun j x hx => by simp at hx))
   ·rename_i hb
    have hy := cX hsim.tok hj hb
    rw [if_neg (by simp [Region.wanted, hg, hy])]
    exact hN _ _ _ _ _ h (hsim.put (.refl G) hsim.wok hsim.sok hdst (.tup rfl fun j x hx => by simp at hx))
   ·exact h.elim
  ·exact h.elim
theorem wu {i : Nat} {o : Oper} (hi : ops[i]? = some o) : [i].filterMap (ops[·]?) = [o] := by simp [hi]
theorem tW (hall : aT L nt ops = true) {i : Nat} {o : Oper} (hi : ops[i]? = some o) : aT L nt [o] = true := by
 have := List.all_eq_true.1 hall o (List.mem_of_getElem? hi)
 simp only [aT, List.all_cons, List.all_nil, Bool.and_true]
 exact this
def FzW (G : Gh) (w : World) : Prop := ∀ b o, G.F b = some o → w.heap[b]? = some o
def mR (P : Program) (S : World → Prop) (s : Sem Value) (G : Gh) (T : aa → Prop) : Prop := ∃ v r, (∀ w, S w → s.run P w = .ok v w) ∧ Rep G true r v ∧ T r
theorem su (hL : LOk P L) {S : World → Prop} {t f : Nat} (ht : (L t).ty ≠ .other) {x : aa} {v : Value} {G : Gh} {T : aa → Prop} (hx : Rep G true x v) (h : cV (L t) x f T) : mR P S (Instr.fieldAt t v f) G T := by
 obtain ⟨i, d, z, k⟩ := hL.known ht
 unfold cV at h
 split at h
 ·rename_i o ft hf
  obtain ⟨gs, fd, rfl, hfd, hoff, hty, hsz, hft⟩ := ib k hf
  obtain ⟨i2, d2, z2, k2⟩ := hL.known hft
  have hne : i2.size ≠ 0 := by rw [k2.size]; omega
  have hu := k.und
  have hrun : ∀ (w : World) (a : Addr), (Instr.fieldAt t (.pointer (some a)) f).run P w = .ok (.pointer (some (a.add o))) w := by
   intro w a
   subst hty
   simp only [Instr.fieldAt, Sem.run_bind, run_underlying hu w, Result.andThen_ok, hfd, Instr.sureAddr, Sem.run_pure, fieldPlace, aL k2 w, hoff]
   rw [if_neg (by omega)]
   rfl
  split at h
  ·obtain ⟨b, cap, esz, hM, rfl⟩ := hx.gj
   exact ⟨_, _, fun w _ => by rw [hrun, aV], .bx hM, h⟩
  ·obtain ⟨b, cap, esz, hM, rfl⟩ := hx.gz
   exact ⟨_, _, fun w _ => by rw [hrun, aV, Nat.add_assoc], .loc hM, h⟩
  ·obtain ⟨b, off, c, e, fr, rfl, hq, hF, hfit, hj⟩ := Rep.eU hx
   exact ⟨_, _, fun w _ => by rw [hrun, aV], ko hq hF hfit h.1 hj, h.2⟩
  ·exact h.elim
 ·exact h.elim
theorem sK (hL : LOk P L) {S : World → Prop} {t : Nat} (ht : (L t).ty ≠ .other) {x y : aa} {v u : Value} {G : Gh} {w : World} {sto : Sto} {T : aa → Prop} (hs : an G w sto)
  (hx : Rep G true x v) (hy : Rep G true y u) (h : aE L t x y sto T) : mR P S (Instr.indexAt t v u) G T := by
 obtain ⟨i, d, z, k⟩ := hL.known ht
 unfold aE at h
 split at h
 ·rename_i kk n
  obtain ⟨rfl, -⟩ := Rep.aK hy
  split at h
  ·rename_i e he
   obtain ⟨rfl, heo⟩ := bK k he
   obtain ⟨i2, d2, z2, k2⟩ := hL.known heo
   have hu := k.und
   split at h
   ·rename_i id g off len
    split at h
    case h_2 => exact h.elim
    rename_i g' esz0 l0 hget
    obtain ⟨rfl, rfl, ⟨h0, h1⟩, h2⟩ := h
    obtain ⟨ob, cap, esz, a, rfl, hM, hc, _, hcn, ha, _⟩ := Rep.dD hx
    obtain ⟨ob', cap', hM', _⟩ := hs.obj _ _ _ hget
    rw [hM] at hM'
    simp only [Option.some.injEq, Hd.mk.injEq] at hM'
    obtain ⟨rfl, rfl, rfl⟩ := hM'
    obtain ⟨b, rfl⟩ : ∃ b, ob = some b := by
     cases ob with
     | none => have := hcn rfl; omega
     | some b => exact ⟨b, rfl⟩
    rw [ha b rfl (by omega)]
    refine ⟨_, _, fun w _ => by rw [dF hu k2 h0 h1, aV], ?_, h2⟩
    rw [← Nat.add_mul]
    have := Rep.loc (i := off + n.toNat) (off := 0) hM
    simpa using this
   ·rename_i q full l
    obtain ⟨⟨h0, h1⟩, h2⟩ := h
    have hne : l ≠ [] := by rintro rfl; simp at h1; omega
    obtain ⟨b, off, cap, c, e', fr, esz, rfl, _, _, hq, hF, hfit, hlen, hj⟩ := hx.oz hne
    have hlt : n.toNat < l.length := by omega
    obtain ⟨y, hy'⟩ : ∃ y, l[n.toNat]? = some y := ⟨l[n.toNat], by simp [hlt]⟩
    obtain ⟨h3, h4⟩ := h2 y hy'
    have hyl := hlen _ y hy'
    have hee : (L e).sz = esz := by omega
    refine ⟨_, _, fun w _ => by rw [dF hu k2 h0 h1, aV], ?_, h4⟩
    rw [hee]
    have hroom := dB (esz := esz) hlt (Nat.le_refl _)
    refine .ref hq hF (by omega) (fun j x hx => (hj _ j y x hy' hx).1) (fun j x hx => (hj _ j y x hy' hx).2)
   ·exact h.elim
  ·rename_i m e he
   obtain ⟨rfl, heo⟩ := eK k he
   obtain ⟨i2, d2, z2, k2⟩ := hL.known heo
   obtain ⟨⟨h0, h1⟩, h⟩ := h
   have hu := k.und
   have hrun : ∀ (w : World) (a : Addr), (Instr.indexAt t (.pointer (some a)) (.int kk n)).run P w = .ok (.pointer (some (a.add (n.toNat * (L e).sz)))) w := by
    intro w a
    simp only [Instr.indexAt, asIntOf, Sem.run_bind, Sem.run_pure, Result.andThen_ok, run_underlying hu w, Instr.sureAddr]
    rw [if_pos ⟨h0, h1⟩]
    simp [aL k2 w]
   split at h
   ·obtain ⟨b, cap, esz, hM, rfl⟩ := hx.gj
    exact ⟨_, _, fun w _ => by rw [hrun, aV], .bx hM, h⟩
   ·obtain ⟨b, cap, esz, hM, rfl⟩ := hx.gz
    exact ⟨_, _, fun w _ => by rw [hrun, aV, Nat.add_assoc], .loc hM, h⟩
   ·obtain ⟨b, off, c, e, fr, rfl, hq, hF, hfit, hj⟩ := Rep.eU hx
    exact ⟨_, _, fun w _ => by rw [hrun, aV], ko hq hF hfit h.1 hj, h.2⟩
   ·exact h.elim
  ·exact h.elim
 ·exact h.elim
theorem uF (hL : LOk P L) {t : Nat} (ht : (L t).ty ≠ .other) {x : aa} {v : Value} {G : Gh} {sto : Sto} {T : aa → Prop} (hx : Rep G true x v) (hr : ei x = true) (h : bM L t x sto T) : mR P (FzW G) (Instr.loadAt t v) G T := by
 obtain ⟨i, d, z, k⟩ := hL.known ht
 unfold bM at h
 split at h
 ·cases hr
 ·cases hr
 ·rename_i q cs
  obtain ⟨h1, h2, h3⟩ := h
  obtain ⟨b, off, c, e, fr, rfl, _, hF, hfit, hj⟩ := (Rep.eU hx)
  have hfit' : off + (L t).sz ≤ c.size := by omega
  exact ⟨_, _, fun w hw => by simp [Instr.loadAt, Instr.sureAddr, eB k (hw _ _ hF) h2 hfit'], (iW (o := false) h2 h1 hfit' hj).up, h3⟩
 ·exact h.elim
theorem oX {S : World → Prop} {x : aa} {v : Value} {i : Nat} {G : Gh} {T : aa → Prop} (hx : Rep G true x v) (h : bV x i T) : mR P S (Instr.extract v i) G T := by
 unfold bV at h
 split at h
 ·rename_i vs
  obtain ⟨y, hy, hT⟩ := h
  cases hx with
  | @tup _ _ c a b =>
   have hi : i < c.size := by
    rw [a]
    rcases Nat.lt_or_ge i vs.length with h | h
    ·exact h
    ·rw [List.getElem?_eq_none h] at hy; cases hy
   exact ⟨c.getD i Go.undef, y, fun w _ => by simp [Instr.extract, hi], b i y hy, hT⟩
 ·exact h.elim
theorem u9 (hL : LOk P L) {o : Oper} {tm : Tm} {sto : Sto} {a : Act} {w : World} {G : Gh} {ds : List (Option Nat)} {K' : Tm → Sto → Prop} (hok1 : aT L nt [o] = true) (hsim : Sim E nt dfs tm sto a w G)
  (hm : ij L o = true ∨ CC L o = true ∧ ∀ t x, o.op = .load t x → ei (ev tm x) = true) (h : vc L P false z ds [o] tm sto K') :
  o.guard = none ∧ ∃ v r, (∀ w, ij L o = true ∨ FzW G w → (execOp a.eval o).run P w = .ok (.value v) w) ∧ Rep G true r v ∧ K' (put o.dst r tm) sto := by
 simp only [aT, List.all_cons, List.all_nil, Bool.and_true, Bool.and_eq_true] at hok1
 obtain ⟨⟨hop, -⟩, -⟩ := hok1
 simp only [Dm, Bool.and_eq_true] at hop
 replace hop := hop.1
 have hops : ∀ x ∈ o.op.operands, bg x = true := fun x hx => Array.all_eq_true'.1 hop x hx
 have rp : ∀ x ∈ o.op.operands, Rep G true (ev tm x) (a.eval x) := fun x hx => aI hsim.wok hsim.tok (hops x hx)
 obtain ⟨dst, op, ty, pos, af, gu⟩ := o
 simp only at *
 have hg : gu = none := by
  rcases hm with h1 | ⟨h1, _⟩
  ·simp only [ij] at h1; split at h1 <;> first | rfl | cases h1
  ·simp only [CC] at h1; split at h1 <;> first | rfl | cases h1
 subst hg
 refine ⟨rfl, ?_⟩
 unfold vc at h
 simp only at h
 have fin : ∀ {S : World → Prop} {s : Sem Value} {T : aa → Prop}, execOp a.eval ⟨dst, op, ty, pos, af, none⟩ = (do pure (.value (← s))) → mR P S s G T → (∀ r, T r → K' (put dst r tm) sto) → (∀ w, ij L ⟨dst, op, ty, pos, af, none⟩ = true ∨ FzW G w → S w) →
   ∃ v r, (∀ w, ij L ⟨dst, op, ty, pos, af, none⟩ = true ∨ FzW G w → (execOp a.eval ⟨dst, op, ty, pos, af, none⟩).run P w = .ok (.value v) w) ∧ Rep G true r v ∧ K' (put dst r tm) sto := by
  rintro S s T he ⟨v, r, h1, h2, h3⟩ hT hS
  exact ⟨v, r, fun w hw => by rw [he]; simp [h1 w (hS w hw)], h2, hT r h3⟩
 rcases hm with hm | ⟨hm, hr⟩
 ·simp only [ij] at hm
  cases op <;> simp only at hm <;> try (cases hm; done)
  case move x =>
   simp only [aA, aO, vc] at h
   exact ⟨a.eval x, ev tm x, fun w _ => by simp [execOp], rp x (by simp [Op.operands]), h⟩
  case assign x =>
   simp only [aA, aO, vc] at h
   exact ⟨a.eval x, ev tm x, fun w _ => by simp [execOp], rp x (by simp [Op.operands]), h⟩
  case extract x i =>
   simp only [aA, aO, vc] at h
   refine fin (S := fun _ => True) rfl ?_ (fun r hr => hr) fun _ _ => trivial
   exact oX (rp x (by simp [Op.operands])) h
  case fieldAddr t x f =>
   simp only [aA, aO, vc] at h
   exact fin (S := fun _ => True) rfl (su hL (by simpa using hm) (rp x (by simp [Op.operands])) h) (fun r hr => hr) fun _ _ => trivial
  case indexAddr t x y =>
   simp only [aA, aO, vc] at h
   exact fin (S := fun _ => True) rfl (sK hL (by simpa using hm) hsim.sok (rp x (by simp [Op.operands])) (rp y (by simp [Op.operands])) h) (fun r hr => hr) fun _ _ => trivial
  case build t ps =>
   simp only [aA, aO, vc] at h
   obtain ⟨c', r, h1, h2, h3⟩ := mU hL (by simpa using hm) (qs := ps.map fun (i, x) => (i, a.eval x)) (by rw [Array.toList_map]; exact iT hsim.wok hsim.tok ps.toList fun p hp => hops p.2 (by simp only [Op.operands]; exact Array.mem_def.2 (by simp; exact ⟨p.1, by simpa using hp⟩))) h
   exact ⟨_, r, fun w _ => by simp [execOp, run_build w t _ c' h1], h2, h3⟩
 ·simp only [CC] at hm
  cases op <;> simp only at hm <;> try (cases hm; done)
  case load t x =>
   simp only [aA, aO, vc] at h
   exact fin rfl (uF hL (by simpa using hm) (rp x (by simp [Op.operands])) (hr t x rfl) h) (fun r hr => hr) fun w hw => hw.resolve_left (by simp [ij])
theorem vp (hL : LOk P L) {K : Tm → Sto → Prop} {G0 : Gh} (hall : aT L nt ops = true) (hns : Region.noSelect ops.toArray = true) (hQp : ∀ c a w, ¬ Q (.panic c) a w) (hQ : ∀ G tm sto a w, K tm sto → Sim E nt dfs tm sto a w G → Q .normal a w) :
  ∀ (t : fJ) (b : Bool) (listed : Array Bool) (tm : Tm) (sto : Sto) (a : Act) (w : World) (G : Gh) (fuel : Nat), t.ok L ops b listed = true → t.deep ≤ fuel → Sim E nt dfs tm sto a w G → Ext G0 G → (b = true → G = G0) → vcW L P z (ops.map (·.dst)) ops t tm sto K → wpAnyH P .any ops.toArray Q (FzW G0) fuel listed a w := by
 have step : ∀ (i : Nat) (t : fJ) (listed : Array Bool) (tm : Tm) (sto : Sto) (a : Act) (w : World) (G : Gh) (fuel : Nat), i ∈ Region.ready .any ops.toArray listed → (∀ (tm : Tm) (sto : Sto) (a : Act) (w : World) (G : Gh), Sim E nt dfs tm sto a w G → Ext G0 G → vcW L P z (ops.map (·.dst)) ops t tm sto K → wpAnyH P .any ops.toArray Q (FzW G0) fuel (listed.setIfInBounds i true) a w) →
   Sim E nt dfs tm sto a w G → Ext G0 G → (vc L P false z (ops.map (·.dst)) ([i].filterMap (ops[·]?)) tm sto fun tm sto => vcW L P z (ops.map (·.dst)) ops t tm sto K) → wpOp P ops.toArray Q i (fun a w => FzW G0 w ∧ wpAnyH P .any ops.toArray Q (FzW G0) fuel (listed.setIfInBounds i true) a w) a w := by
  intro i t listed tm sto a w G fuel hr ih hsim hx h
  obtain ⟨_, o, ho, _⟩ := mem_ready.1 hr
  have hi : ops[i]? = some o := by simpa using ho
  rw [wu hi] at h
  have hsim' : Sim G nt dfs tm sto a w G := ⟨.refl G, hsim.wok, hsim.sok, hsim.tok, hsim.n, hsim.d⟩
  refine D2 hL hi (tW hall hi) hsim' h fun tm' sto' a' w' G' hk hs => ?_
  have hs' : Sim E nt dfs tm' sto' a' w' G' := ⟨hsim.ext.trans hs.ext, hs.wok, hs.sok, hs.tok, hs.n, hs.d⟩
  exact ⟨fun b o hb => hs.wok.F b o (hs.ext.F b o (hx.F b o hb)), ih tm' sto' a' w' G' hs' (hx.trans hs.ext) hk⟩
 intro t
 induction t with
 | done =>
  intro b listed tm sto a w G fuel hok _ hsim _ _ h
  refine wpAnyH_done ?_ (hQ G tm sto a w h hsim) fuel
  simpa [fJ.ok, jD] using hok
 | take i t ih =>
  intro b listed tm sto a w G fuel hok hd hsim hx hb h
  simp only [fJ.ok, Bool.and_eq_true] at hok
  obtain ⟨⟨⟨h1, h2⟩, h3⟩, h4⟩ := hok
  simp only [fJ.deep] at hd
  obtain ⟨fuel, rfl⟩ : ∃ f, fuel = f + 1 := ⟨fuel - 1, by omega⟩
  split at h1
  ·rename_i o hi
   have hk := tW hall hi
   have hkd := hk
   simp only [aT, List.all_cons, List.all_nil, Bool.and_true, Bool.and_eq_true] at hkd
   obtain ⟨⟨_, hdst⟩, _⟩ := hkd
   unfold vcW at h
   rw [wu hi] at h
   have hW0 : FzW G0 w := fun b o hb => hsim.wok.F b o (hx.F b o hb)
   simp only [Bool.or_eq_true, Bool.and_eq_true] at h1
   obtain ⟨hg, v, r, hrun, hrep, hv⟩ := u9 hL hk hsim (h1.imp_right fun h1 => ⟨h1.2, fun t x e => by have := h.1; simp only [IK, hi, e] at this; exact this⟩) h.2
   refine wpAnyH_take (v := v) (by simpa using hi) hns h2 h3 (fun c a w hq => absurd hq (hQp c _ _)) (.inl ⟨by simp [Region.wanted, hg], fun w hw => hrun w (h1.imp_right fun h1 => by rw [hb h1.1]; exact hw)⟩) hW0 ?_
   exact ih b _ _ _ _ _ G fuel h4 (by omega) (hsim.put (.refl G) hsim.wok hsim.sok hdst hrep) hx hb hv
  ·cases h1
 | one i t ih =>
  intro b listed tm sto a w G fuel hok hd hsim hx _ h
  simp only [fJ.ok, Bool.and_eq_true, beq_iff_eq, jD] at hok
  simp only [fJ.deep] at hd
  obtain ⟨fuel, rfl⟩ : ∃ f, fuel = f + 1 := ⟨fuel - 1, by omega⟩
  refine wpAnyH_all hok.1 (by simp) fun k hk => ?_
  rw [List.mem_singleton] at hk
  subst hk
  exact step _ t listed tm sto a w G fuel (by rw [hok.1]; simp) (fun tm sto a w G hs hx hv => ih false _ tm sto a w G fuel hok.2 (by omega) hs hx (fun e => by cases e) hv) hsim hx h
 | two i t j u ih1 ih2 =>
  intro b listed tm sto a w G fuel hok hd hsim hx _ h
  simp only [fJ.ok, Bool.and_eq_true, beq_iff_eq, jD] at hok
  simp only [fJ.deep] at hd
  obtain ⟨fuel, rfl⟩ : ∃ f, fuel = f + 1 := ⟨fuel - 1, by omega⟩
  obtain ⟨⟨h1, h2⟩, h3⟩ := hok
  refine wpAnyH_all h1 (by simp) fun k hk => ?_
  simp only [List.mem_cons, List.not_mem_nil, or_false] at hk
  rcases hk with rfl | rfl
  ·exact step _ t listed tm sto a w G fuel (by rw [h1]; simp) (fun tm sto a w G hs hx hv => ih1 false _ tm sto a w G fuel h2 (by omega) hs hx (fun e => by cases e) hv) hsim hx h.1
  ·exact step _ u listed tm sto a w G fuel (by rw [h1]; simp) (fun tm sto a w G hs hx hv => ih2 false _ tm sto a w G fuel h3 (by omega) hs hx (fun e => by cases e) hv) hsim hx h.2
end
theorem ae.ways {P : Program} {L : Lay} {f : Nat} {fn : Func} {df : List dt} {k : List Item} {tm : Tm} {sto : Sto} {R : aa → Sto → Prop} (hL : LOk P L) (hm : P.follows .mixedOrders = true) (t : fJ) (z : List Nat) {id : Nat} {ops : List Oper} (ps : List Nat)
  (hok : (aT L fn.ntmps ops && Region.noSelect ops.toArray && t.ok L ops true (Array.replicate ops.length false) && Nat.ble t.deep ops.length) = true)
  (h : ∀ K : Tm → Sto → Prop, (∀ tm' sto', ae P f fn df k (Rad.prune ps tm') sto' R → K tm' sto') → vcW L P z (ops.map (·.dst)) ops t tm sto K) :
  ae P f fn df (.code (.region id ops.toArray true) :: k) tm sto R := by
 simp only [Bool.and_eq_true, Nat.ble_eq] at hok
 obtain ⟨⟨⟨hall, hns⟩, hw⟩, hdp⟩ := hok
 refine ⟨?_⟩
 intro E G a w b h1 h2 h3 h4 h5 h6 h7 h8 h9
 refine Good.of_wp (Q := fun e a' w' => e = .normal ∧ Good P f (fA E R) b k a' w') (wp_region_held (S := FzW G) hm ?_) fun e a' w' hq => hq
 let K : Tm → Sto → Prop := fun tm' sto' => ae P f fn df k (Rad.prune ps tm') sto' R
 have hQ : ∀ G' tm' sto' a' w', K tm' sto' → Sim G fn.ntmps a.defers tm' sto' a' w' G' → (fun e a' w' => e = Exit.normal ∧ Good P f (fA E R) b k a' w') .normal a' w' := fun G' tm' sto' a' w' hk hs =>
  ⟨rfl, hk.go E G' a' w' b h1 h2 h3 hs.n (hs.d ▸ h5.mono hs.ext.toMono) (h6.trans hs.ext) hs.wok hs.sok (hs.tok.prune ps)⟩
 obtain ⟨hw1, hs1⟩ := iL (w' := { w with drawn := w.drawn + 1 }) (Kept.draw w _) h7 h8 (Nat.le_refl _) (fun _ _ => rfl)
 have hsz : ops.toArray.size = ops.length := by simp
 rw [hsz]
 exact vp hL (G0 := G) hall hns (fun c a w h => by cases h.1) hQ t true _ tm sto a _ G _ hw hdp ⟨.refl G, hw1, hs1, h9, h4, rfl⟩ (.refl G) (fun _ => rfl) (h K fun _ _ h => h)
end Go.Rad
namespace Go.Rad
open Go Go.Proofs
theorem gWy {f : Nat} {fn : Func} {df : List dt} {k : List Item} {tm : Tm} {sto : Sto} {R : aa → Sto → Prop} (id : Nat) (z : List Nat) (t : fJ) {ops : List Oper} (ps : List Nat)
  (h : ∀ K : Tm → Sto → Prop, (∀ tm' sto', ae Tryz.prog f fn df k (Rad.prune ps tm') sto' R → K tm' sto') → vcW LL Tryz.prog z (ops.map (·.dst)) ops t tm sto K)
  (hok : (aT LL fn.ntmps ops && Region.noSelect ops.toArray && t.ok LL ops true (Array.replicate ops.length false) && Nat.ble t.deep ops.length) = true := by kernel_rfl) :
  ae Tryz.prog f fn df (.code (.region id ops.toArray true) :: k) tm sto R := .ways gX mixed t z ps hok h
end Go.Rad
namespace Go.Rad
open Go Go.Proofs
set_option linter.all false
set_option maxRecDepth 20000
set_option maxHeartbeats 4000000
abbrev pst (g g1 : Nat) (cs : List ByteArray) (rs : List Ru) : Sto := [(1000, g, .box [.sl true false (cz cs), .sl true true [], .osl 1001 g1 0 rs.length, .int .i64 0, .int .i64 0]), (1001, g1, .row 7 (bm rs))]
abbrev lnV (a : Int) (s : ByteArray) : List aa := [.int .i64 a, .str s]
theorem tj (cs : List ByteArray) (rs : List Ru) (g g1 : Nat) (at0 a0 a1 a2 a3 a4 to : Int) (ln s0 s1 s3 s4 kd : ByteArray) (ids : List Int) (X : List Node) (hrl : rs.length < 64)
  (hf : ah Tryz.prog 61 [.agg [.int .i64 at0, .str ln], .int .i64 4] [] fun r s => r = .sl true false [[.int .i64 a0, .str s0], [.int .i64 a1, .str s1], [.int .i64 a2, .str ⟨#[45]⟩], [.int .i64 a3, .str s3], [.int .i64 a4, .str s4]] ∧ s = [])
  (hc : ah Tryz.prog 89 [.bx 1000 g 0, .agg [.int .i64 a1, .str s1]] (pst g g1 cs rs) fun r s => r = .sl true false (ints ids) ∧ s = pst g g1 cs rs)
  (ha : ah Tryz.prog 90 [.bx 1000 g 0, .agg [.int .i64 a3, .str s3]] (pst g g1 cs rs) fun r s => r = .tup [.str kd, .int .i64 to] ∧ s = pst g g1 cs rs)
  (hp : ah Tryz.prog 88 [.bx 1000 g 0, .agg [.int .i64 a4, .str s4]] (pst g g1 cs rs) fun r s => r = .sl true false (nodes X) ∧ s = pst g g1 cs rs) :
  ah Tryz.prog 64 [.bx 1000 g 0, .agg [.int .i64 at0, .str ln]] (pst g g1 cs rs) fun r s => r = .tup [] ∧ ∃ h1, s = pst g h1 cs (rs ++ [⟨ids, false, false, kd, to, a4, X⟩]) := by
 have e1 : ¬ (64 : Int) ≤ rs.length := by omega
 refine ah.enter Tryz.func64 rfl (by kernel_rfl) (Nat.le_of_ble_eq_true rfl) ?_; simp only [ai, Nat.reduceAdd]
 repeat' (first
 | refine gCt rfl ?_
 | ((first
 | ((first | refine gRg [81] fp64 ?_ | refine gWy 6 [81] (.take 0 (.take 1 (.take 2 (.take 3 (.take 5 (.take 6 (.take 7 (.take 8 (.two 4 (.take 9 (.one 10 (.one 11 .done))) 10 (.one 4 (.take 9 (.one 11 .done)))))))))))) fp64 ?_ | refine gDr 19 [81] 8 ro13 fp64 rfl ?_); intro K hK)
 | refine cAl (hf) rfl rfl rfl ?_
 | (refine ah.use [(1000, 1000), (1001, 1001)] [] rfl (hc) rfl rfl rfl ?_; (first | rintro _ _ ⟨rfl, rfl⟩ | rintro _ _ ⟨rfl, h1, rfl⟩); refine ⟨.inl rfl, rfl, ?_⟩; simp only [bk, bk2, bk1, bkS, bkO, bw, aH, go_sem, simprocAttr])
 | (refine ah.use [(1000, 1000), (1001, 1001)] [] rfl (ha) rfl rfl rfl ?_; (first | rintro _ _ ⟨rfl, rfl⟩ | rintro _ _ ⟨rfl, h1, rfl⟩); refine ⟨.inl rfl, rfl, ?_⟩; simp only [bk, bk2, bk1, bkS, bkO, bw, aH, go_sem, simprocAttr])
 | (refine ah.use [(1000, 1000), (1001, 1001)] [] rfl (hp) rfl rfl rfl ?_; (first | rintro _ _ ⟨rfl, rfl⟩ | rintro _ _ ⟨rfl, h1, rfl⟩); refine ⟨.inl rfl, rfl, ?_⟩; simp only [bk, bk2, bk1, bkS, bkO, bw, aH, go_sem, simprocAttr])
 | (refine ab ?_ ?_ <;> intro hb <;> (try simp only [bls] at hb) <;> (try simp only [hb]))
 | refine gRe [1000, 1001] [] rfl rfl ?_) <;> (try simp only [go_sem, simprocAttr, vcW, IK, e1, la]))
 | (refine hK _ _ ?_; clear hK K; simp only [go_sem, simprocAttr])
 | refine gCd ?_ | refine brT ?_ | refine brF ?_
 | (refine brS ?_ ?_ <;> intro hc <;> (try simp only [bls] at hc) <;> (try simp only [hc, bls]))
 | intro _ | refine And.intro ?_ ?_)
 all_goals try exact zsd
 all_goals (rename_i hh; exact ⟨hh, by simp [pst, bm]⟩)
structure BG (P : Program) (fl ff fr fe : Nat) (s : ByteArray) (lns : List (Int × ByteArray)) (rs : List Ru) : Prop where
 sz : s.size ≤ 4096
 len : lns.length = rs.length
 few : rs.length ≤ 64
 one : 0 < rs.length
 lines : ah P fl [.str s] [] fun r s => r = .sl true false (lns.map fun x => lnV x.1 x.2) ∧ s = []
 byte : ∀ x ∈ lns, ¬ x.2 = ⟨#[]⟩ ∧ 0 < x.2.size ∧ ¬ cd x.2 0 = 35
 rule : ∀ x ∈ lns, ∃ a l, ah P ff [.agg (lnV x.1 x.2), .int .i64 1] [] fun r s => r = .sl true false ([.int .i64 a, .str ⟨#[114, 117, 108, 101]⟩] :: l) ∧ s = []
 read : ∀ (i : Nat) x, lns[i]? = some x → ∀ g g1, ah P fr [.bx 1000 g 0, .agg (lnV x.1 x.2)] (pst g g1 [bn] (rs.take i)) fun r s => r = .tup [] ∧ ∃ h1, s = pst g h1 [bn] (rs.take (i + 1))
 ex : ∀ r ∈ rs, ∃ X, ah P fe [.sl true false (nodes r.l), .sl true true []] [] fun v s => v = .tup [.sl true false (nodes X), .int .i64 0] ∧ s = []
theorem xP {s : ByteArray} {lns : List (Int × ByteArray)} {rs : List Ru} (h : BG Tryz.prog 60 61 64 42 s lns rs) :
  ah Tryz.prog 36 [.str s] [] fun r s => r = .tup [.agg [.sl true false (cz [bn]), .sl true true [], .sl true false (bm rs)], .int .i64 0, .int .i64 0] ∧ s = [] := by
 obtain ⟨h1, h2, h3, h4, h5, h6, h7, h8, h9⟩ := h
 have e1 : ¬ (4096 : Int) < s.size := by omega
 have hll : (lns.map fun x => lnV x.1 x.2).length = rs.length := by simp [h2]
 have hlx : ∀ (i : Nat) x, lns[i]? = some x → (lns.map fun x => lnV x.1 x.2)[i]? = some [.int .i64 x.1, .str x.2] := fun i x h => by simp [h]
 generalize (lns.map fun x => lnV x.1 x.2) = lv at *
 refine ah.enter Tryz.func36 rfl (by kernel_rfl) (Nat.le_of_ble_eq_true rfl) ?_; simp only [ai, Nat.reduceAdd]
 repeat' (first
 | refine gCt rfl ?_
 | ((first
 | (refine ae.at 4 ?_; (refine ae.n0 18 2 901 7 (by decide) rfl rfl (by decide) ?_; intro g901; simp only [List.set_cons_succ, List.set_cons_zero, go_sem, simprocAttr]); refine gRg [15] fp36 ?_; intro K hK)
 | ((first | refine gRg [15] fp36 ?_ | refine gDr 20 [15] 14 AF fp36 rfl ?_ | refine gDr 24 [15] 9 AE fp36 rfl ?_); intro K hK)
 | refine cAl (h5) rfl rfl rfl ?_
 | (refine ab ?_ ?_ <;> intro hb <;> (try simp only [bls] at hb) <;> (try simp only [hb]))
 | refine gRe [] [.cell 2 26, .tmp 3, .tmp 4] rfl rfl ?_) <;> (try simp only [go_sem, simprocAttr, e1]))
 | (refine hK _ _ ?_; clear hK K; simp only [go_sem, simprocAttr])
 | refine gCd ?_ | refine brT ?_ | refine brF ?_
 | (refine brS ?_ ?_ <;> intro hc <;> (try simp only [bls] at hc) <;> (try simp only [hc, bls]))
 | intro _ | refine And.intro ?_ ?_)
 all_goals try exact zsd
 rename_i h2 h18
 refine ae.prune [2, 3, 4, 5, 6, 7] ?_; simp only [go_sem, simprocAttr]
 refine ae.al (α := Nat × Nat) (fun i => ([(2, .bx 2 h2 0), (3, .int .i64 0), (4, .int .i64 0), (5, .bx 18 h18 0), (6, .sl true false lv), (7, .int .i64 i.1)],
  [(2, h2, .box [.sl true true [], .sl true true [], .sl true true []]), (18, h18, .box [.sl true false [[.str bn]], .sl true true [], .osl 901 i.2 0 (rs.take i.1).length, .int .i64 0, .int .i64 0]), (901, i.2, .row 7 (bm (rs.take i.1)))])) (fun i => i.1 ≤ rs.length) (fun i => rs.length - i.1) (0, g901) (Nat.zero_le _) rfl ?_
 rintro ⟨i, g⟩ hi ih
 simp only at hi ih ⊢
 by_cases hle : i < rs.length
 ·have e4 : (i : Int) < lv.length := by omega
  have e5 : (0 : Int) ≤ i := by omega
  have e6 : (i : Int) + 1 = ((i + 1 : Nat) : Int) := by omega
  obtain ⟨x, hx⟩ : ∃ x, lns[i]? = some x := ⟨lns[i]'(by omega), List.getElem?_eq_getElem (by omega)⟩
  have hm := List.mem_of_getElem? hx
  obtain ⟨b1, b2, b3⟩ := h6 x hm
  obtain ⟨a, l, hf⟩ := h7 x hm
  have hr := h8 i x hx
  have hv := hlx i x hx
  obtain ⟨xa, xs⟩ := x
  simp only at b1 b2 b3 hf hr hv
  have b4 : (0 : Int) < xs.size := by omega
  have b5 : ¬ ((cd xs 0 : Nat) : Int) = 35 := by omega
  clear h5 h6 h7 h8 h9 hx hlx hm
  repeat' (first
 | refine gCt rfl ?_
 | ((first
 | ((first | refine gR fp36 ?_ | refine gD 20 14 AF fp36 ?_ | refine gD 24 9 AE fp36 ?_); intro K hK)
 | refine cAl (hf) rfl rfl rfl ?_
 | (refine ah.use [(1000, 18), (1001, 901)] [] rfl (hr _ _) rfl rfl rfl ?_; rintro _ _ ⟨rfl, h9, rfl⟩; refine ⟨.inl rfl, rfl, ?_⟩; simp only [bk, bk2, bk1, bkS, bkO, bw, aH, pst, go_sem, simprocAttr])
 | (refine ab ?_ ?_ <;> intro hb <;> (try simp only [bls] at hb) <;> (try simp only [hb]))
 | refine gRe [] [.cell 2 26, .tmp 3, .tmp 4] rfl rfl ?_) <;> (try simp only [go_sem, simprocAttr, e4, e5, e6, hv, b1, b4, b5, eX, la, Option.some.injEq, forall_eq']))
 | (refine hK _ _ ?_; clear hK K; simp only [go_sem, simprocAttr])
 | refine gCd ?_ | refine brT ?_ | refine brF ?_
 | (refine brS ?_ ?_ <;> intro hc <;> (try simp only [bls] at hc) <;> (try simp only [hc, bls]))
 | intro _ | refine And.intro ?_ ?_)
  all_goals try exact zsd
  rename_i h9
  refine ae.bC [2, 18, 901] ?_
  simp only [aq, ax, go_sem, simprocAttr]
  refine ae.prune [2, 3, 4, 5, 6, 7] ?_; simp only [go_sem, simprocAttr]
  exact (ih (i + 1, h9) (by simp only; omega) (by simp only; omega)).cast rfl rfl
 ·have e4 : ¬ (i : Int) < lv.length := by omega
  rw [List.take_of_length_le (by omega)]
  clear ih h5 h6 h7 h8 hlx hi hle
  repeat' (first
 | refine gCt rfl ?_
 | ((first
 | ((first | refine gR fp36 ?_ | refine gD 20 14 AF fp36 ?_ | refine gD 24 9 AE fp36 ?_); intro K hK)
 | (refine ab ?_ ?_ <;> intro hb <;> (try simp only [bls] at hb) <;> (try simp only [hb]))
 | refine gRe [] [.cell 2 26, .tmp 3, .tmp 4] rfl rfl ?_) <;> (try simp only [go_sem, simprocAttr, e4]))
 | (refine hK _ _ ?_; clear hK K; simp only [go_sem, simprocAttr])
 | refine gCd ?_ | refine brT ?_ | refine brF ?_
 | (refine brS ?_ ?_ <;> intro hc <;> (try simp only [bls] at hc) <;> (try simp only [hc, bls]))
 | intro _ | refine And.intro ?_ ?_)
  all_goals try exact zsd
  refine ae.prune [2, 3, 4, 5, 8] ?_; simp only [go_sem, simprocAttr]
  refine ae.al (α := Nat) (fun i => ([(2, .bx 2 h2 0), (3, .int .i64 0), (4, .int .i64 0), (5, .bx 18 h18 0), (8, .int .i64 i)],
   [(2, h2, .box [.sl true true [], .sl true true [], .sl true true []]), (18, h18, .box [.sl true false [[.str bn]], .sl true true [], .osl 901 g 0 rs.length, .int .i64 0, .int .i64 0]), (901, g, .row 7 (bm rs))])) (fun i => i ≤ rs.length) (fun i => rs.length - i) 0 (Nat.zero_le _) rfl ?_
  clear e4 i
  rintro i hi ih
  simp only at hi ih ⊢
  by_cases hle : i < rs.length
  ·have e4 : (i : Int) < rs.length := by omega
   have e5 : (0 : Int) ≤ i := by omega
   have e6 : (i : Int) + 1 = ((i + 1 : Nat) : Int) := by omega
   have hx : rs[i]? = some rs[i] := List.getElem?_eq_getElem hle
   obtain ⟨X, hex⟩ := h9 _ (List.getElem_mem hle)
   clear h9
   generalize rs[i] = r at hx hex
   obtain ⟨rc, rf, rl, rk, rt, rp, rn⟩ := r
   simp only at hex
   repeat' (first
 | refine gCt rfl ?_
 | ((first
 | ((first | refine gR fp36 ?_ | refine gD 20 20 AF fp36 ?_ | refine gD 24 9 AE fp36 ?_); intro K hK)
 | refine ⟨_, ah.alone (hex) rfl rfl rfl, ?_⟩
 | (refine ab ?_ ?_ <;> intro hb <;> (try simp only [bls] at hb) <;> (try simp only [hb]))
 | refine gRe [] [.cell 2 26, .tmp 3, .tmp 4] rfl rfl ?_) <;> (try simp only [go_sem, simprocAttr, e4, e5, e6, hx, Option.some.injEq, forall_eq']))
 | (refine hK _ _ ?_; clear hK K; simp only [go_sem, simprocAttr])
 | refine gCd ?_ | refine brT ?_ | refine brF ?_
 | (refine brS ?_ ?_ <;> intro hc <;> (try simp only [bls] at hc) <;> (try simp only [hc, bls]))
 | intro _ | refine And.intro ?_ ?_)
   all_goals try exact zsd
   refine ae.bC [2, 18, 901] ?_
   simp only [aq, ax, go_sem, simprocAttr]
   refine ae.prune [2, 3, 4, 5, 8] ?_; simp only [go_sem, simprocAttr]
   exact (ih (i + 1) (by omega) (by omega)).cast rfl rfl
  ·have e4 : ¬ (i : Int) < rs.length := by omega
   have e9 : (bm rs).take rs.length = bm rs := List.take_of_length_le (by simp)
   clear ih h9
   repeat' (first
 | refine gCt rfl ?_
 | ((first
 | (refine ae.at 25 ?_; (refine ae.freeze 901 rfl ?_; simp only [rfT, rfS, rfO, rf, rf1, e9, true_and, go_sem, simprocAttr]); refine gR fp36 ?_; intro K hK)
 | ((first | refine gR fp36 ?_ | refine gD 20 14 AF fp36 ?_ | refine gD 24 9 AE fp36 ?_); intro K hK)
 | (refine ab ?_ ?_ <;> intro hb <;> (try simp only [bls] at hb) <;> (try simp only [hb]))
 | refine gRe [] [.cell 2 26, .tmp 3, .tmp 4] rfl rfl ?_) <;> (try simp only [go_sem, simprocAttr, e4, e9]))
 | (refine hK _ _ ?_; clear hK K; simp only [go_sem, simprocAttr])
 | refine gCd ?_ | refine brT ?_ | refine brF ?_
 | (refine brS ?_ ?_ <;> intro hc <;> (try simp only [bls] at hc) <;> (try simp only [hc, bls]))
 | intro _ | refine And.intro ?_ ?_)
   all_goals try exact zsd
end Go.Rad
namespace Go.Rad
open Go Go.Proofs
set_option linter.all false
set_option maxRecDepth 20000
set_option maxHeartbeats 4000000
theorem LR {c : Nat} {l : ByteArray} {i : Nat} (h : i < l.size) (hc : bt l i = c) : inS c l = true := by
 simp only [inS, List.any_eq_true, List.mem_range, decide_eq_true_eq]
 exact ⟨i, h, hc⟩
theorem LQ (c : Nat) (l : ByteArray) (hl : l.size ≤ 1000000) : ah Tryz.prog 155 [.int .u8 c, .str l] [] fun r s => r = .bool (inS c l) ∧ s = [] := by
 refine ah.enter Tryz.func155 rfl (by kernel_rfl) (Nat.le_of_ble_eq_true rfl) ?_; simp only [ai, Nat.reduceAdd]
 repeat' (first
 | refine gCt rfl ?_
 | ((first
 | ((first | refine gR fp155 ?_); intro K hK)
 | (refine ab ?_ ?_ <;> intro hb <;> (try simp only [bls] at hb) <;> (try simp only [hb]))
 | refine gRe [] [.tmp 4] rfl rfl ?_) <;> (try simp only [go_sem, simprocAttr]))
 | (refine hK _ _ ?_; clear hK K; simp only [go_sem, simprocAttr])
 | refine gCd ?_ | refine brT ?_ | refine brF ?_
 | (refine brS ?_ ?_ <;> intro hc <;> (try simp only [bls] at hc) <;> (try simp only [hc, bls]))
 | intro _ | refine And.intro ?_ ?_)
 refine ae.prune [0, 1, 4, 5] ?_; simp only [go_sem, simprocAttr]
 refine ae.al (α := Nat) (fun i => ([(0, .int .u8 c), (1, .str l), (4, .bool false), (5, .int .i64 i)], [])) (fun i => i ≤ l.size ∧ (List.range i).any (fun i => decide (bt l i = c)) = false) (fun i => l.size - i) 0 ⟨Nat.zero_le _, rfl⟩ rfl ?_
 rintro i ⟨hi, hall⟩ ih
 simp only
 by_cases hle : i < l.size
 ·have e4 : (i : Int) < l.size := by omega
  have e5 : (0 : Int) ≤ i := by omega
  by_cases hc : bt l i = c
  ·rw [LR hle hc]
   have e6 : (bt l i : Int) = c := by omega
   repeat' (first
 | refine gCt rfl ?_
 | ((first
 | ((first | refine gR fp155 ?_); intro K hK)
 | (refine ab ?_ ?_ <;> intro hb <;> (try simp only [bls] at hb) <;> (try simp only [hb]))
 | refine gRe [] [.tmp 4] rfl rfl ?_) <;> (try simp only [go_sem, simprocAttr, e4, e5, e6, kC]))
 | (refine hK _ _ ?_; clear hK K; simp only [go_sem, simprocAttr])
 | refine gCd ?_ | refine brT ?_ | refine brF ?_
 | (refine brS ?_ ?_ <;> intro hc <;> (try simp only [bls] at hc) <;> (try simp only [hc, bls]))
 | intro _ | refine And.intro ?_ ?_)
  ·have e6 : ¬ (bt l i : Int) = c := by omega
   repeat' (first
 | refine gCt rfl ?_
 | ((first
 | ((first | refine gR fp155 ?_); intro K hK)
 | (refine ab ?_ ?_ <;> intro hb <;> (try simp only [bls] at hb) <;> (try simp only [hb]))
 | refine gRe [] [.tmp 4] rfl rfl ?_) <;> (try simp only [go_sem, simprocAttr, e4, e5, e6, kC]))
 | (refine hK _ _ ?_; clear hK K; simp only [go_sem, simprocAttr])
 | refine gCd ?_ | refine brT ?_ | refine brF ?_
 | (refine brS ?_ ?_ <;> intro hc <;> (try simp only [bls] at hc) <;> (try simp only [hc, bls]))
 | intro _ | refine And.intro ?_ ?_)
   all_goals try exact zsd
   refine ae.prune [0, 1, 4, 5] ?_; simp only [go_sem, simprocAttr]
   exact (ih (i + 1) ⟨by omega, by rw [List.range_succ, List.any_append, hall]; simp [hc]⟩ (by omega)).cast rfl rfl
 ·have e4 : ¬ (i : Int) < l.size := by omega
  have e5 : i = l.size := by omega
  subst e5
  repeat' (first
 | refine gCt rfl ?_
 | ((first
 | ((first | refine gR fp155 ?_); intro K hK)
 | (refine ab ?_ ?_ <;> intro hb <;> (try simp only [bls] at hb) <;> (try simp only [hb]))
 | refine gRe [] [.tmp 4] rfl rfl ?_) <;> (try simp only [go_sem, simprocAttr, e4]))
 | (refine hK _ _ ?_; clear hK K; simp only [go_sem, simprocAttr])
 | refine gCd ?_ | refine brT ?_ | refine brF ?_
 | (refine brS ?_ ?_ <;> intro hc <;> (try simp only [bls] at hc) <;> (try simp only [hc, bls]))
 | intro _ | refine And.intro ?_ ?_)
  exact congrArg aa.bool hall.symm
end Go.Rad
