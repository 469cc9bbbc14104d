/- A part of the proof. -/
import Derived.Test.YtmbhpolhiblhoaaGreatDoorKROps4
import Derived.Test.YtmbhpolhiblhoaaGreatDoorKRMem
import Derived.Defers
set_option linter.all false
namespace Go.Rad
open Go
variable {P : Program} {L : Lay}
def hP : Value → Bool
 | .int k n => decide (k.min ≤ n ∧ n ≤ k.max)
 | .string s => decide (s.size ≤ maxLen)
 | _ => true
def mv : Value → Bool
 | .agg cs => cs.toList.all fun c => hP c && (bf c).ar
 | v => hP v
def bg : Operand → Bool
 | .const v => mv v
 | _ => true
theorem nj {G : Gh} {v : Value} (h : hP v = true) : Rep G true (bf v) v := by
 unfold bf
 split
 ·exact .bool
 ·simp only [hP, decide_eq_true_eq] at h; exact .int h
 ·simp only [hP, decide_eq_true_eq] at h; exact .str h
 ·exact .nil
 ·exact .slnil fun _ => rfl
 ·exact .nilmap
 ·exact .nilfn
 ·exact .undef
theorem w6 {G : Gh} {v : Value} (h : mv v = true) : Rep G true (ofConst v) v := by
 unfold ofConst
 split
 ·rename_i cs
  simp only [mv] at h
  have hall := List.all_eq_true.1 h
  have hg : ∀ (j : Nat) (x : aa), (cs.toList.map bf)[j]? = some x → x.ar = true ∧ Rep G true x (cs.getD j undef) := by
   intro j x hx
   rw [List.getElem?_map] at hx
   cases hc : cs.toList[j]? with
   | none => rw [hc] at hx; cases hx
   | some c =>
    rw [hc] at hx
    simp only [Option.map_some, Option.some.injEq] at hx
    subst hx
    have := hall c (List.mem_of_getElem? hc)
    simp only [Bool.and_eq_true] at this
    have e : cs.getD j undef = c := by
     simp only [Array.getElem?_toList] at hc
     simp [hc]
    rw [e]
    exact ⟨this.2, nj this.1⟩
  exact .agg (by simp) (fun j x hx => (hg j x hx).1) (fun j x hx => (hg j x hx).2)
 ·rename_i hne
  refine nj ?_
  unfold mv at h
  split at h
  ·exact absurd rfl (hne _)
  ·exact h
theorem aI {G : Gh} {w : World} {tm : Tm} {a : Act} (hw : WOk G w) (h : fi G tm a.tmps) {x : Operand} (hx : bg x = true) : Rep G true (ev tm x) (a.eval x) := by
 cases x with
 | tmp t => exact h t
 | const v => exact w6 hx
 | global g =>
  simp only [ev]
  cases hg : nI g with
  | none => exact .undef
  | some l => exact hw.T g l hg
 | func f => exact .fn rfl fun j x hx => by simp at hx
def Dm (L : Lay) (o : Op) : Bool :=
 o.operands.all bg &&
 match o with
 | .alloc t | .box t _ | .build t _ | .load t _ | .store t _ _ | .convert _ t _ | .makeSlice t _ _ | .buildSlice t _ _ | .slice t _ _ _ _ | .fieldAddr t _ _ | .field t _ _ | .indexAddr t _ _ | .index t _ _
 | .lookup t _ _ _ | .mapUpdate t _ _ _ | .binOp _ t _ _ _ => (L t).ty != .other
 | .call ⟨.builtin _, _, ts⟩ => ts.toList.all fun t => (L t).ty != .other
 | _ => true
def aR (P : Program) (o : Oper) (ρ : Operand → Value) (G : Gh) (w : World) (T : aa → Sto → Prop) : Prop :=
 ∃ G' w' v r sto', ((execOp ρ o).run P w = .ok (.value v) w' ∨ (execOp ρ o).run P w = .ok .skip w' ∧ v = undef) ∧ Ext G G' ∧ WOk G' w' ∧ an G' w' sto' ∧ Rep G' true r v ∧ T r sto'
theorem aR.of {o : Oper} {ρ : Operand → Value} {s : Sem Value} {G : Gh} {w : World} {T : aa → Sto → Prop} (he : execOp ρ o = (do pure (.value (← s)))) (h : aG P s G w T) : aR P o ρ G w T := by
 obtain ⟨G', w', v, r, sto', h1, h2⟩ := h
 exact ⟨G', w', v, r, sto', .inl (by rw [he]; simp [h1]), h2⟩
theorem aR.ofU {o : Oper} {ρ : Operand → Value} {s : Sem Unit} {G : Gh} {w : World} {T : aa → Sto → Prop} (he : execOp ρ o = (do s; pure .skip)) (h : vC P s G w fun sto => T .undef sto) : aR P o ρ G w T := by
 obtain ⟨w', sto', h1, h2, h3, h4⟩ := h
 exact ⟨G, w', undef, .undef, sto', .inr ⟨by rw [he]; simp [h1], rfl⟩, .refl G, h2, h3, .undef, h4⟩
theorem aG.same {s : Sem Value} {G : Gh} {w : World} {sto : Sto} {T : aa → Sto → Prop} {T' : aa → Prop} (h : aG P s G w fun r s => T' r ∧ s = sto) (hT : ∀ r, T' r → T r sto) : aG P s G w T := by
 obtain ⟨G', w', v, r, sto', h1, h2, h3, h4, h5, h6, rfl⟩ := h
 exact ⟨G', w', v, r, _, h1, h2, h3, h4, h5, hT r h6⟩
theorem iT {G : Gh} {w : World} {tm : Tm} {a : Act} (hw : WOk G w) (h : fi G tm a.tmps) : ∀ (ps : List (Nat × Operand)), (∀ p ∈ ps, bg p.2 = true) →
  dX G (ps.map fun p => (p.1, ev tm p.2)) (ps.map fun (i, x) => (i, a.eval x))
 | [], _ => trivial
 | p :: ps, hp => ⟨rfl, aI hw h (hp p (by simp)), iT hw h ps fun q hq => hp q (by simp [hq])⟩
theorem qZ {G : Gh} {w : World} {tm : Tm} {a : Act} (hw : WOk G w) (h : fi G tm a.tmps) {x : Option Operand} (hx : ∀ y, x = some y → bg y = true) : gY G (x.map (ev tm)) (x.map a.eval) := by
 cases x with
 | none => trivial
 | some y => exact aI hw h (hx y rfl)
theorem oT (hL : LOk P L) {t e : Nat} (ht : (L t).ty ≠ .other) : (L t).ty = .slice e → (L e).zero.length = (L e).sz := by
 intro he
 obtain ⟨i, d, z, k⟩ := hL.known ht
 obtain ⟨_, heo⟩ := bK k he
 obtain ⟨i2, d2, z2, k2⟩ := hL.known heo
 exact k2.zlen
theorem wX (hL : LOk P L) {op : BinOp} {t : Nat} (ht : (L t).ty ≠ .other) {x y : aa} {v u : Value} {x0 y0 : Operand} {T : aa → Prop} {G : Gh} {w : World} {sto : Sto} (hw : WOk G w) (hs : an G w sto) (hx : Rep G true x v) (hy : Rep G true y u)
  (h : bh L op t x y T) : aG P (do eqGuard op t x0 y0 v u; binOp op t v u) G w fun r s => T r ∧ s = sto := by
 have gen : (eqGuard op t x0 y0 v u).run P w = .ok () w → aG P (binOp op t v u) G w (fun r s => T r ∧ s = sto) → aG P (do eqGuard op t x0 y0 v u; binOp op t v u) G w fun r s => T r ∧ s = sto := by
  intro h1 h2
  obtain ⟨G', w', v', r, sto', a1, a2⟩ := h2
  exact ⟨G', w', v', r, sto', by simp [h1, a1], a2⟩
 unfold bh at h
 split at h
 ·rename_i k a k' b
  obtain ⟨rfl, ha⟩ := Rep.aK hx
  obtain ⟨rfl, _⟩ := Rep.aK hy
  exact gen (by simp [eqGuard]) (lS hw hs (.inl rfl) ha h)
 ·rename_i k a k' b
  obtain ⟨rfl, ha⟩ := Rep.aK hx
  obtain ⟨rfl, _⟩ := Rep.aK hy
  exact gen (by simp [eqGuard]) (lS hw hs (.inr rfl) ha h)
 ·rename_i k a k' b hn1 hn2
  obtain ⟨rfl, ha⟩ := Rep.aK hx
  obtain ⟨rfl, _⟩ := Rep.aK hy
  obtain ⟨rfl, h⟩ := h
  exact gen (by cases op <;> simp [eqGuard]) (xu hw hs ⟨fun e => hn1 e, fun e => hn2 e⟩ ha h)
 ·rename_i a b
  obtain ⟨rfl, ha⟩ := Rep.dG hx
  obtain ⟨rfl, _⟩ := Rep.dG hy
  exact gen (by cases op <;> simp [eqGuard]) (yi hw hs h)
 ·rename_i a b
  have := Rep.dj hx; subst this
  have := Rep.dj hy; subst this
  obtain ⟨hty, hT⟩ := h
  obtain ⟨i, d, z, k⟩ := hL.known ht
  have hd : d = .bool := by
   have := k.desc
   rw [hty] at this
   cases d <;> simp [bN] at this <;> rfl
  subst hd
  refine gen (by simp [eqGuard]) (aG.pure hw hs (v := .bool (a == b)) ?_ .bool ⟨hT, rfl⟩)
  have hr : (Op.equal t (.bool a) (.bool b)).run P w = .ok (a == b) w := by
   show (Op.equalIn (9999 + 1) t (.bool a) (.bool b)).run P w = _
   rw [Op.equalIn]
   simp [run_underlying k.und]
  simp only [binOp, Sem.run_bind, hr, Result.andThen_ok, Sem.run_pure]
 ·rename_i a b
  have := Rep.dj hx; subst this
  have := Rep.dj hy; subst this
  obtain ⟨hty, hT⟩ := h
  obtain ⟨i, d, z, k⟩ := hL.known ht
  have hd : d = .bool := by
   have := k.desc
   rw [hty] at this
   cases d <;> simp [bN] at this <;> rfl
  subst hd
  refine gen (by simp [eqGuard]) (aG.pure hw hs (v := .bool (!(a == b))) ?_ .bool ⟨hT, rfl⟩)
  have hr : (Op.equal t (.bool a) (.bool b)).run P w = .ok (a == b) w := by
   show (Op.equalIn (9999 + 1) t (.bool a) (.bool b)).run P w = _
   rw [Op.equalIn]
   simp [run_underlying k.und]
  simp only [binOp, Sem.run_bind, hr, Result.andThen_ok, Sem.run_pure]
 ·rename_i a b
  have := lK (neg := false) (x0 := x0) (y0 := y0) hL ht hw hs hx hy h
  obtain ⟨G', w', v', r, sto', a1, a2, a3, a4, a5, ⟨b, rfl, hb⟩, a7⟩ := this
  exact ⟨G', w', v', _, sto', a1, a2, a3, a4, a5, hb, a7⟩
 ·rename_i a b
  have := lK (neg := true) (x0 := x0) (y0 := y0) hL ht hw hs hx hy h
  obtain ⟨G', w', v', r, sto', a1, a2, a3, a4, a5, ⟨b, rfl, hb⟩, a7⟩ := this
  exact ⟨G', w', v', _, sto', a1, a2, a3, a4, a5, hb, a7⟩
 ·exact h.elim
theorem jL {α β : Type} {f : α → β} {l : List α} {u v : β} (h : l.map f = [u, v]) : ∃ x y, l = [x, y] ∧ f x = u ∧ f y = v := by
 match l, h with
 | [x, y], h => simp at h; exact ⟨x, y, rfl, h.1, h.2⟩
 | [], h => simp at h
 | [_], h => simp at h
 | _ :: _ :: _ :: _, h => simp at h
set_option maxHeartbeats 4000000 in
theorem jN (hL : LOk P L) {o : Oper} {tm : Tm} {sto : Sto} {d : Nat} {T : aa → Sto → Prop} {a : Act} {G : Gh} {w : World} (hw : WOk G w) (hs : an G w sto) (ht : fi G tm a.tmps) (hok : Dm L o.op = true)
  (h : aO L tm sto d T o.op) : aR P o a.eval G w T := by
 obtain ⟨dst, op, type, pos, after, guard⟩ := o
 simp only [Dm, Bool.and_eq_true] at hok
 obtain ⟨hops, hty⟩ := hok
 have hops' : ∀ x ∈ op.operands, bg x = true := fun x hx => by
  have := Array.all_eq_true'.1 hops x hx
  exact this
 cases op <;> simp only [aO] at h
 case move x => exact aR.of (s := pure (a.eval x)) (by simp [execOp]) (aG.pure hw hs rfl (aI hw ht (hops' x (by simp [Op.operands]))) h)
 case assign x => exact aR.of (s := pure (a.eval x)) (by simp [execOp]) (aG.pure hw hs rfl (aI hw ht (hops' x (by simp [Op.operands]))) h)
 case pick c x y =>
  split at h
  ·rename_i b hb
   have hc := aI hw ht (hops' c (by simp [Op.operands]))
   rw [hb] at hc
   have hcv := Rep.dj hc
   cases b with
   | true => exact aR.of (s := pure (a.eval x)) (by simp [execOp, hcv, asBool]) (aG.pure hw hs rfl (aI hw ht (hops' x (by simp [Op.operands]))) (h.1 rfl))
   | false => exact aR.of (s := pure (a.eval y)) (by simp [execOp, hcv, asBool]) (aG.pure hw hs rfl (aI hw ht (hops' y (by simp [Op.operands]))) (h.2 rfl))
  ·exact h.elim
 case alloc t => exact aR.of (s := Instr.alloc t true (.tuple #[])) rfl (r9 hL (by simpa using hty) hw hs h)
 case box t x => exact aR.of (s := Instr.box t (a.eval x)) rfl (w0 hw hs (aI hw ht (hops' x (by simp [Op.operands]))) h)
 case build t ps =>
  exact aR.of (s := Instr.build t (ps.map fun (i, x) => (i, a.eval x))) rfl (si hL (by simpa using hty) hw hs (by
   rw [Array.toList_map]; exact iT hw ht ps.toList fun p hp => hops' _ (by simp only [Op.operands]; simp; exact ⟨p.1, by simpa using hp⟩)) h)
 case buildSlice t n ps =>
  exact aR.of (s := Instr.buildSlice t n (ps.map fun (i, x) => (i, a.eval x))) rfl (kS hL (by simpa using hty) hw hs (by
   rw [Array.toList_map]; exact iT hw ht ps.toList fun p hp => hops' _ (by simp only [Op.operands]; simp; exact ⟨p.1, by simpa using hp⟩)) (fun e => oT hL (by simpa using hty)) h)
 case load t x => exact aR.of (s := Instr.loadAt t (a.eval x)) rfl ((uE hL (by simpa using hty) hw hs (aI hw ht (hops' x (by simp [Op.operands]))) h).same fun r hr => hr)
 case store t x y => exact aR.ofU (s := Instr.storeAt t (a.eval x) (a.eval y)) rfl (rz hL (by simpa using hty) hw hs (aI hw ht (hops' x (by simp [Op.operands]))) (aI hw ht (hops' y (by simp [Op.operands]))) h)
 case nilCheck x =>
  have hx := aI hw ht (hops' x (by simp [Op.operands]))
  split at h
  ·rename_i he; rw [he] at hx
   obtain ⟨b, cap, esz, hM, hv⟩ := hx.gj
   exact aR.of (s := pure (a.eval x)) (by simp [execOp, hv]) (aG.pure hw hs rfl hx h)
  ·rename_i he; rw [he] at hx
   obtain ⟨b, cap, esz, hM, hv⟩ := hx.gz
   exact aR.of (s := pure (a.eval x)) (by simp [execOp, hv]) (aG.pure hw hs rfl hx h)
  ·rename_i he; rw [he] at hx
   obtain ⟨b, off, c, e, fr, hv, _⟩ := Rep.eU hx
   exact aR.of (s := pure (a.eval x)) (by simp [execOp, hv]) (aG.pure hw hs rfl hx h)
  ·rename_i he; rw [he] at hx
   have hx' := hx
   generalize hv : a.eval x = vv at hx'
   cases hx' with
   | fn h1 h2 => exact aR.of (s := pure (a.eval x)) (by simp [execOp, hv]) (aG.pure hw hs rfl hx h)
  ·exact h.elim
 case binOp op xt x y yt =>
  have hx := aI hw ht (hops' x (by simp [Op.operands]))
  have hy := aI hw ht (hops' y (by simp [Op.operands]))
  have hto : (L xt).ty ≠ .other := by simpa using hty
  by_cases hn : ct y = true
  ·rw [if_pos hn] at h
   obtain ⟨l0, c0, rfl⟩ : ∃ l0 c0, y = .const (.slice none l0 c0) := by
    unfold ct at hn
    split at hn
    ·exact ⟨_, _, rfl⟩
    ·cases hn
   split at h
   ·have hns := pS (neg := false) (l0 := l0) (c0 := c0) hL hto hw hs hx h
    obtain ⟨G', w', v', r, sto', a1, a2, a3, a4, a5, ⟨b, rfl, hb⟩, rfl⟩ := hns
    refine ⟨G', w', v', _, _, .inl ?_, a2, a3, a4, a5, hb⟩
    have hg : ∀ v : Value, (eqGuard .eql xt x (.const (.slice none l0 c0)) v (.slice none l0 c0)).run P w = .ok () w := by intro v; cases v <;> simp [eqGuard]
    have hcv : a.eval (.const (.slice none l0 c0)) = .slice none l0 c0 := rfl
    simp only [Bool.false_eq_true, if_false] at a1
    simp only [execOp, hcv, Sem.run_bind, hg, Result.andThen_ok, a1, Sem.run_pure]
   ·have hns := pS (neg := true) (l0 := l0) (c0 := c0) hL hto hw hs hx h
    obtain ⟨G', w', v', r, sto', a1, a2, a3, a4, a5, ⟨b, rfl, hb⟩, rfl⟩ := hns
    refine ⟨G', w', v', _, _, .inl ?_, a2, a3, a4, a5, hb⟩
    have hg : ∀ v : Value, (eqGuard .neq xt x (.const (.slice none l0 c0)) v (.slice none l0 c0)).run P w = .ok () w := by intro v; cases v <;> simp [eqGuard]
    have hcv : a.eval (.const (.slice none l0 c0)) = .slice none l0 c0 := rfl
    simp only [if_true] at a1
    simp only [execOp, hcv, Sem.run_bind, hg, Result.andThen_ok, a1, Sem.run_pure]
   ·exact h.elim
  ·rw [if_neg hn] at h
   exact aR.of (s := do eqGuard op xt x y (a.eval x) (a.eval y); binOp op xt (a.eval x) (a.eval y)) rfl ((wX hL hto hw hs hx hy h).same fun r hr => hr)
 case unOp op t x => exact aR.of (s := Op.unary op (a.eval x)) rfl ((tO hw hs (aI hw ht (hops' x (by simp [Op.operands]))) h).same fun r hr => hr)
 case convert s t x => exact aR.of (s := convert s t (a.eval x)) rfl ((oV hL (by simpa using hty) hw hs (aI hw ht (hops' x (by simp [Op.operands]))) h).same fun r hr => hr)
 case makeFunc fn first cap =>
  cases fn <;> simp only at h
  case func f =>
   obtain ⟨rfl, hT⟩ := h
   refine aR.of (s := Instr.makeFunc (.func f) (#[].map a.eval) (cap.map a.eval)) rfl (aG.pure hw hs (v := .func (.func f) #[] (cap.map a.eval)) (by simp [Instr.makeFunc]) (.fn (by simp) fun j x hx => ?_) hT)
   rw [List.getElem?_map] at hx
   cases hc : cap.toList[j]? with
   | none => rw [hc] at hx; cases hx
   | some y =>
    rw [hc] at hx
    simp only [Option.map_some, Option.some.injEq] at hx
    subst hx
    have hy := aI hw ht (hops' y (by
     have := List.mem_of_getElem? hc
     simp only [Op.operands, Array.mem_append]
     exact .inr (by simpa using this)))
    have e : (cap.map a.eval).getD j undef = a.eval y := by
     simp only [Array.getElem?_toList] at hc
     simp [hc]
    rw [e]; exact hy
  all_goals exact h.elim
 case makeMap t r =>
  cases r with
  | some _ => exact h.elim
  | none => exact aR.of (s := Instr.makeMap t none) rfl (o8 hw hs h.2)
 case makeSlice t l c => exact aR.of (s := Instr.makeSlice t (a.eval l) (a.eval c)) rfl (uJ hL (by simpa using hty) hw hs (aI hw ht (hops' l (by simp [Op.operands]))) (aI hw ht (hops' c (by simp [Op.operands]))) (fun e => oT hL (by simpa using hty)) h)
 case slice t x lo hi mx =>
  refine aR.of (s := Instr.sliceAt t (a.eval x) (lo.map a.eval) (hi.map a.eval) (mx.map a.eval)) rfl ((tD hL (by simpa using hty) hw hs (aI hw ht (hops' x (by simp [Op.operands]))) (qZ hw ht ?_) (qZ hw ht ?_) (qZ hw ht ?_) (by simpa using h.1) h.2).same fun r hr => hr)
  ·rintro y rfl; exact hops' y (by simp [Op.operands])
  ·rintro y rfl; exact hops' y (by simp [Op.operands])
  ·rintro y rfl; exact hops' y (by simp [Op.operands])
 case fieldAddr t x f => exact aR.of (s := Instr.fieldAt t (a.eval x) f) rfl ((mh hL (by simpa using hty) hw hs (aI hw ht (hops' x (by simp [Op.operands]))) h).same fun r hr => hr)
 case field t x f => exact aR.of (s := Instr.field t (a.eval x) f) rfl ((oY hL (by simpa using hty) hw hs (aI hw ht (hops' x (by simp [Op.operands]))) h).same fun r hr => hr)
 case indexAddr t x y => exact aR.of (s := Instr.indexAt t (a.eval x) (a.eval y)) rfl ((ml hL (by simpa using hty) hw hs (aI hw ht (hops' x (by simp [Op.operands]))) (aI hw ht (hops' y (by simp [Op.operands]))) h).same fun r hr => hr)
 case index t x y => exact aR.of (s := Instr.index t (a.eval x) (a.eval y)) rfl ((sJ hL (by simpa using hty) hw hs (aI hw ht (hops' x (by simp [Op.operands]))) (aI hw ht (hops' y (by simp [Op.operands]))) h).same fun r hr => hr)
 case lookup t m k ok => exact aR.of (s := Instr.lookup t (a.eval m) (a.eval k) ok) rfl ((qQ hL (by simpa using hty) hw hs (aI hw ht (hops' m (by simp [Op.operands]))) (aI hw ht (hops' k (by simp [Op.operands]))) h).same fun r hr => hr)
 case mapUpdate t m k x => exact aR.ofU (s := Instr.mapUpdate t (a.eval m) (a.eval k) (a.eval x)) rfl (mn hL (by simpa using hty) hw hs (aI hw ht (hops' m (by simp [Op.operands]))) (aI hw ht (hops' k (by simp [Op.operands]))) (aI hw ht (hops' x (by simp [Op.operands]))).ez h)
 case extract x i => exact aR.of (s := Instr.extract (a.eval x) i) rfl ((oW hw hs (aI hw ht (hops' x (by simp [Op.operands]))) h).same fun r hr => hr)
 case call c =>
  obtain ⟨callee, args, ts⟩ := c
  cases callee with
  | builtin b =>
   simp only at h
   have hargs : ∀ x ∈ args.toList, bg x = true := fun x hx => hops' x (by simp only [Op.operands, Call.operands, Array.mem_append]; exact .inr (by simpa using hx))
   obtain ⟨args⟩ := args
   obtain ⟨ts⟩ := ts
   simp only at h hargs hty
   unfold bE at h
   split at h
   ·rename_i t0 x0 h2
    obtain ⟨x, rfl⟩ : ∃ x, args = [x] := by
     cases args with
     | nil => simp at h2
     | cons x xs => cases xs with
      | nil => exact ⟨x, rfl⟩
      | cons => simp at h2
    simp at h2
    subst h2
    exact aR.of (s := Builtin.len_ #[t0] type #[a.eval x]) (by simp [execOp, resolve, invoke, builtin]) ((xz hL (by simpa using hty) hw hs (aI hw ht (hargs x (by simp))) h).same fun r hr => hr)
   ·rename_i t0 t1 x0 x1 h2
    obtain ⟨x, y, rfl, rfl, rfl⟩ := jL h2
    have ht0 : (L t0).ty ≠ .other := by simp at hty; exact hty.1
    exact aR.of (s := Builtin.append_ #[t0, t1] type #[a.eval x, a.eval y]) (by simp [execOp, resolve, invoke, builtin]) (qo hL ht0 hw hs (aI hw ht (hargs x (by simp))) (aI hw ht (hargs y (by simp))) (fun e => oT hL ht0) h)
   ·rename_i k n k' m h2
    obtain ⟨x, y, rfl, hx1, hx2⟩ := jL h2
    have e1 := aI hw ht (hargs x (by simp)); rw [hx1] at e1
    have e2 := aI hw ht (hargs y (by simp)); rw [hx2] at e2
    obtain ⟨v1, f1⟩ := Rep.aK e1
    obtain ⟨v2, f2⟩ := Rep.aK e2
    obtain ⟨rfl, hT⟩ := h
    exact aR.of (s := Builtin.max_ _ type #[.int k n, .int k m]) (by simp [execOp, resolve, invoke, builtin, v1, v2]; rfl) (uL hw hs f1 f2 hT)
   ·rename_i k n k' m h2
    obtain ⟨x, y, rfl, hx1, hx2⟩ := jL h2
    have e1 := aI hw ht (hargs x (by simp)); rw [hx1] at e1
    have e2 := aI hw ht (hargs y (by simp)); rw [hx2] at e2
    obtain ⟨v1, f1⟩ := Rep.aK e1
    obtain ⟨v2, f2⟩ := Rep.aK e2
    obtain ⟨rfl, hT⟩ := h
    exact aR.of (s := Builtin.min_ _ type #[.int k n, .int k m]) (by simp [execOp, resolve, invoke, builtin, v1, v2]; rfl) (uP hw hs f1 f2 hT)
   ·exact h.elim
  | _ => exact h.elim
 all_goals first | exact h.elim | contradiction
end Go.Rad
namespace Go.Rad
open Go
def mj (G : Gh) (w : World) (b : Nat) : Gh := { G with F := fun b' => if b' = b then w.heap[b]? else G.F b', S := fun b' => b' = b ∨ G.S b' }
theorem sC {G : Gh} {w : World} {b : Nat} (hF : G.F b = none) : Ext G (mj G w b) where
 F b' o h := by
  simp only [mj]
  split
  ·rename_i e; subst e; rw [hF] at h; cases h
  ·exact h
 S b' h := .inr h
 S' b' h := by
  rcases h with h | h
  ·exact .inr (h ▸ hF)
  ·exact .inl h
 L _ := Iff.rfl
 M _ _ _ h := h
 N := Nat.le_refl _
 W0 := rfl
theorem gK {G : Gh} {w : World} {sto : Sto} {id g esz : Nat} {l : List (List aa)} (hw : WOk G w) (hs : an G w sto) (hget : ak sto id = some (g, .row esz l)) :
  ∃ G', Ext G G' ∧ WOk G' w ∧ an G' w (ca sto id) ∧ ∀ (off len : Nat) (v : Value), off + len ≤ l.length → Rep G true (.osl id g off len) v → Rep G' true (.sl true false ((l.drop off).take len)) v := by
 have hob := hs.obj id g _ hget
 have hblk := fun b => hob.blk hw b
 obtain ⟨ob, cap, h1, h2, h3, h4, h5, h6, h7, h8⟩ := hob
 cases ob with
 | none =>
  have hc := h7 rfl
  refine ⟨G, .refl G, hw, wE hs id, fun off len v hle hr => ?_⟩
  have hl : len = 0 := by omega
  subst hl
  cases hr with
  | osl _ _ _ _ _ _ => simp only [List.take_zero]; exact .slnil (fun h => by cases h)
 | some b =>
  obtain ⟨hF, hcap, c, e, hc, hsz, hrep⟩ := h8 b rfl
  have hbid : au G id g = some b := by simp [au, h1]
  have hext := sC (w := w) hF
  refine ⟨mj G w b, hext, ⟨hw.K, fun b' o h => ?_, hw.M, hw.N, fun g l h => (hw.T g l h).mono hext.toMono⟩, ⟨fun i g' o h => ?_, fun i i' g1 g2 o o' h h' hne b' hb => ?_⟩, fun off len v hle hr => ?_⟩
  ·simp only [mj] at h
   split at h
   ·rename_i e; subst e; exact h
   ·exact hw.F b' o h
  ·rw [dq] at h
   split at h
   ·cases h
   ·rename_i hne
    have ho := hs.obj i g' o h
    refine ho.mono hext.toMono (fun b' hb' => ?_) (fun _ _ => rfl)
    have hb1 : au G i g' = some b' := hb'
    have : b' ≠ b := by
     rintro rfl
     exact hs.apart id i g g' _ o hget h hne b' hbid hb1
    simp only [mj, if_neg this]
    exact (ho.blk hw b' hb1).1
  ·rw [dq] at h h'
   split at h
   ·cases h
   ·split at h'
    ·cases h'
    ·exact hs.apart i i' g1 g2 o o' h h' hne b' hb
  ·cases hr with
   | @osl _ _ _ _ ob' cap' esz' a hM hle' hbig hn ha1 ha2 =>
    rw [h1] at hM
    simp only [Option.some.injEq, Hd.mk.injEq] at hM
    obtain ⟨rfl, rfl, rfl⟩ := hM
    rcases Nat.eq_zero_or_pos len with hz | hz
    ·subst hz
     simp only [List.take_zero]; exact .slnil (fun h => by cases h)
    ·have ha := ha1 b rfl (by omega)
     subst ha
     have hlen : ((l.drop off).take len).length = len := by simp; omega
     have hgetl : ∀ (i : Nat) (x : List aa), ((l.drop off).take len)[i]? = some x → l[off + i]? = some x := by
      intro i x hx
      rw [List.getElem?_take] at hx
      split at hx
      ·rwa [List.getElem?_drop] at hx
      ·cases hx
     obtain ⟨fr, hc, _⟩ := hc
     have hFb : (mj G w b).F b = some (.cells c e fr) := by simp [mj, hc]
     have hR := Rep.sl (G := mj G w b) (o := true) (q := true) (full := false) (l := (l.drop off).take len) (cap := cap - off) (b := b) (off := off * esz) (c := c) (e := e) (fr := fr) (esz := esz)
      (by rw [hlen]; omega) (fun h => by cases h) (by rw [hlen]; exact vH hbig) (.inl (.inl rfl)) hFb
      (by rw [hlen, hsz, ← Nat.add_mul]; exact Nat.mul_le_mul_right _ hle')
      (fun i x hx => h5 _ x (hgetl i x hx)) (fun i j x y hx hy => h6 _ j x y (hgetl i x hx) hy)
      (fun i j x y hx hy => by
       have := (hrep _ j x y (hgetl i x hx) hy).mono hext.toMono
       rw [Nat.add_mul] at this
       exact this)
     rw [hlen] at hR
     exact hR
def rf1 (id g : Nat) (l : List (List aa)) : aa → aa
 | .osl i h off len => if i = id ∧ h = g ∧ off + len ≤ l.length then .sl true false ((l.drop off).take len) else .osl i h off len
 | v => v
def rf (id g : Nat) (l : List (List aa)) : aa → aa
 | .agg cs => .agg (cs.map (rf1 id g l))
 | .tup cs => .tup (cs.map (rf1 id g l))
 | v => rf1 id g l v
def rfO (id g : Nat) (l : List (List aa)) : bc → bc
 | .box cs => .box (cs.map (rf1 id g l))
 | o => o
def rfS (id g : Nat) (l : List (List aa)) : Sto → Sto
 | [] => []
 | (i, h, o) :: s => (i, h, rfO id g l o) :: rfS id g l s
def rfT (id g : Nat) (l : List (List aa)) : Tm → Tm
 | [] => []
 | (t, v) :: s => (t, rf id g l v) :: rfT id g l s
theorem ov (id g : Nat) (l : List (List aa)) (i : Nat) : ∀ s : Sto, ak (rfS id g l s) i = (ak s i).map fun x => (x.1, rfO id g l x.2)
 | [] => rfl
 | (j, h, o) :: s => by
  simp only [rfS, ak]
  split
  ·rfl
  ·exact ov id g l i s
theorem uC (id g : Nat) (l : List (List aa)) (t : Nat) : ∀ s : Tm, lk (rfT id g l s) t = rf id g l (lk s t)
 | [] => rfl
 | (j, v) :: s => by
  simp only [rfT, lk]
  split
  ·rfl
  ·exact uC id g l t s
theorem n9 {id g : Nat} {l : List (List aa)} {x : aa} (h : x.ar = true) : (rf1 id g l x).ar = true := by
 unfold rf1
 split
 ·split
  ·rfl
  ·exact h
 ·exact h
section
variable {G G' : Gh} {id g : Nat} {l : List (List aa)} (hm : uh G G') (hR : ∀ (off len : Nat) (v : Value), off + len ≤ l.length → Rep G true (.osl id g off len) v → Rep G' true (.sl true false ((l.drop off).take len)) v)
include hm hR
theorem Rep.rf1 {x : aa} {v : Value} (h : Rep G true x v) : Rep G' true (rf1 id g l x) v := by
 unfold Rad.rf1
 split
 ·split
  ·rename_i hc
   obtain ⟨rfl, rfl, hle⟩ := hc
   exact hR _ _ v hle h
  ·exact h.mono hm
 ·exact h.mono hm
theorem Rep.rf {x : aa} {v : Value} (h : Rep G true x v) : Rep G' true (rf id g l x) v := by
 unfold Rad.rf
 split
 ·cases h with
  | agg a b c =>
   refine .agg (by simp [a]) (fun j x hx => ?_) (fun j x hx => ?_)
   ·rw [List.getElem?_map] at hx
    obtain ⟨y, hy, rfl⟩ := Option.map_eq_some_iff.1 hx
    exact n9 (b j y hy)
   ·rw [List.getElem?_map] at hx
    obtain ⟨y, hy, rfl⟩ := Option.map_eq_some_iff.1 hx
    exact (c j y hy).rf1 hm hR
 ·cases h with
  | tup a c =>
   refine .tup (by simp [a]) (fun j x hx => ?_)
   rw [List.getElem?_map] at hx
   obtain ⟨y, hy, rfl⟩ := Option.map_eq_some_iff.1 hx
   exact (c j y hy).rf1 hm hR
 ·exact h.rf1 hm hR
theorem bW.rfO {w : World} {i h : Nat} {o : bc} (ho : bW G' w i h o) (hb : ∀ cs, o = .box cs → ∃ b cap esz, G.M i h = some ⟨some b, cap, esz⟩ ∧ ∀ c e, w.heap[b]? = some (.cells c e (0, 0)) → ∀ (j : Nat) (x : aa), cs[j]? = some x → Rep G true x (c.getD j undef)) : bW G' w i h (rfO id g l o) := by
 cases o with
 | box cs =>
  obtain ⟨b, cap, esz, h1, h2, c, e, h3, h4, h5, _⟩ := ho
  obtain ⟨b', cap', esz', k1, k2⟩ := hb cs rfl
  have := hm.M _ _ _ k1
  rw [h1] at this
  simp only [Option.some.injEq, Hd.mk.injEq] at this
  obtain ⟨rfl, _, _⟩ := this
  refine ⟨b, cap, esz, h1, h2, c, e, h3, by simp [h4], fun j x hx => ?_, fun j x hx => ?_⟩
  ·rw [List.getElem?_map] at hx
   obtain ⟨y, hy, rfl⟩ := Option.map_eq_some_iff.1 hx
   exact n9 (h5 j y hy)
  ·rw [List.getElem?_map] at hx
   obtain ⟨y, hy, rfl⟩ := Option.map_eq_some_iff.1 hx
   exact (k2 c e h3 j y hy).rf1 hm hR
 | _ => exact ho
end
theorem ga {G : Gh} {w : World} {sto : Sto} {id g esz : Nat} {l : List (List aa)} (hw : WOk G w) (hs : an G w sto) (hget : ak sto id = some (g, .row esz l)) :
  ∃ G', Ext G G' ∧ WOk G' w ∧ an G' w (rfS id g l (ca sto id)) ∧ ∀ (x : aa) (v : Value), Rep G true x v → Rep G' true (rf id g l x) v := by
 obtain ⟨G', hext, hw', hs', hR⟩ := gK hw hs hget
 refine ⟨G', hext, hw', ⟨fun i h o ho => ?_, fun i i' g1 g2 o o' h h' hne => ?_⟩, fun x v h => h.rf hext.toMono hR⟩
 ·rw [ov] at ho
  obtain ⟨⟨h', o'⟩, ho', he⟩ := Option.map_eq_some_iff.1 ho
  simp only [Prod.mk.injEq] at he
  obtain ⟨rfl, rfl⟩ := he
  refine (hs'.obj i h' o' ho').rfO hext.toMono hR fun cs hcs => ?_
  subst hcs
  rw [dq] at ho'
  split at ho'
  ·cases ho'
  ·obtain ⟨b, cap, esz, h1, _, c, e, h3, _, _, h6⟩ := hs.obj i h' _ ho'
   refine ⟨b, cap, esz, h1, fun c' e' hc' j x hx => ?_⟩
   rw [h3] at hc'
   simp only [Option.some.injEq, Obj.cells.injEq] at hc'
   obtain ⟨rfl, _⟩ := hc'
   exact h6 j x hx
 ·rw [ov] at h h'
  obtain ⟨⟨k, p⟩, hp, he⟩ := Option.map_eq_some_iff.1 h
  obtain ⟨⟨k', p'⟩, hp', he'⟩ := Option.map_eq_some_iff.1 h'
  simp only [Prod.mk.injEq] at he he'
  obtain ⟨rfl, _⟩ := he
  obtain ⟨rfl, _⟩ := he'
  exact hs'.apart i i' k k' p p' hp hp' hne
def frq (b : Bool) (r : aa) (s : Sto) (T : aa → Sto → Prop) : Prop :=
 match b, r with
 | true, .osl id g 0 n =>
  match ak s id with
  | some (g', .row _ l) => g' = g ∧ n = l.length ∧ T (.sl true false l) (ca s id)
  | _ => False
 | _, r => T r s
theorem kY {G : Gh} {w : World} {r : aa} {v : Value} {sto : Sto} {T : aa → Sto → Prop} {b : Bool} (hw : WOk G w) (hs : an G w sto) (hr : Rep G true r v) (h : frq b r sto T) :
  ∃ G' r' s', Ext G G' ∧ WOk G' w ∧ an G' w s' ∧ Rep G' true r' v ∧ T r' s' := by
 unfold frq at h
 split at h
 ·split at h
  ·rename_i g' esz l hget
   obtain ⟨rfl, rfl, hT⟩ := h
   obtain ⟨G', hext, hw', hs', hR⟩ := gK hw hs hget
   have := hR 0 l.length v (by omega) hr
   simp only [List.drop_zero, List.take_length] at this
   exact ⟨G', _, _, hext, hw', hs', this, hT⟩
  ·exact h.elim
 ·exact ⟨G, r, sto, .refl G, hw, hs, hr, h⟩
end Go.Rad
namespace Go.Rad
open Go
def qj (G : Gh) (args : List aa) (cargs : Array Value) : Prop := cargs.size = args.length ∧ ∀ (j : Nat) (x : aa), args[j]? = some x → Rep G true x (cargs.getD j undef)
def fA (E : Gh) (R : aa → Sto → Prop) (e : Ending) (w' : World) : Prop :=
 ∃ G' cr r sto', e = .returned cr ∧ Ext E G' ∧ WOk G' w' ∧ an G' w' sto' ∧ Rep G' true r cr ∧ R r sto'
def du (P : Program) (f : Nat) : Prop := ∃ fn, P.funcs[f]? = some fn ∧ (fn.name == "runtime.NumGoroutine") = false ∧ fn.body.isNone = false
structure ah (P : Program) (f : Nat) (args : List aa) (sto : Sto) (R : aa → Sto → Prop) : Prop where
 able : du P f
 calls : ∀ (G : Gh) (w : World) (cargs : Array Value), WOk G w → an G w sto → qj G args cargs → Calls P f cargs w (fA G R)
theorem fA.mono {E E' : Gh} {R R' : aa → Sto → Prop} (hE : Ext E' E) (h : ∀ r s, R r s → R' r s) {e : Ending} {w : World} (p : fA E R e w) : fA E' R' e w := by
 obtain ⟨G', cr, r, sto', a, b, c, d, e', f⟩ := p
 exact ⟨G', cr, r, sto', a, hE.trans b, c, d, e', h _ _ f⟩
theorem ah.mono {P : Program} {f : Nat} {args : List aa} {sto : Sto} {R R' : aa → Sto → Prop} (h : ah P f args sto R) (hR : ∀ r s, R r s → R' r s) : ah P f args sto R' :=
 ⟨h.able, fun G w cargs a b c => (h.calls G w cargs a b c).mono fun _ _ p => p.mono (.refl G) hR⟩
structure dt where
 t : Nat
 t2 : Nat
 m : aa
 k : aa
def kO (G : Gh) : List dt → List Deferred → Prop
 | [], [] => True
 | d :: ds, e :: es => (∃ ty cs v u, e = { target := .builtin .delete #[d.t, d.t2] ty cs, args := #[v, u] } ∧ Rep G true d.m v ∧ Rep G true d.k u) ∧ kO G ds es
 | _, _ => False
theorem kO.mono {G G' : Gh} (hm : uh G G') : ∀ {ds : List dt} {es : List Deferred}, kO G ds es → kO G' ds es
 | [], [], _ => trivial
 | [], _ :: _, h => by simp [kO] at h
 | _ :: _, [], h => by simp [kO] at h
 | _ :: _, _ :: _, ⟨⟨ty, cs, v, u, a, b, c⟩, h⟩ => ⟨⟨ty, cs, v, u, a, b.mono hm, c.mono hm⟩, h.mono hm⟩
def Good (P : Program) (f : Nat) (R : Ending → World → Prop) (b : Frame) (k : List Item) (a : Act) (w : World) : Prop :=
 ∀ cs, ∃ e w' fr, R e w' ∧ Comes P (lone (b.at a k) cs w) (lone fr cs w') e ∧ fr.fn = f ∧ fr.leaving P w' e
structure ae (P : Program) (f : Nat) (fn : Func) (df : List dt) (k : List Item) (tm : Tm) (sto : Sto) (R : aa → Sto → Prop) : Prop where
 go : ∀ (E G : Gh) (a : Act) (w : World) (b : Frame), b.fn = f → b.kind = .normal → P.funcs[f]? = some fn → a.tmps.size = fn.ntmps → kO G df a.defers → Ext E G → WOk G w → an G w sto → fi G tm a.tmps →
  Good P f (fA E R) b k a w
theorem Good.step {P : Program} {f : Nat} {R : Ending → World → Prop} {b : Frame} {k k' : List Item} {a a' : Act} {w w' : World} (hs : ∀ cs, step P (lone (b.at a k) cs w) = .next (lone (b.at a' k') cs w')) (h : Good P f R b k' a' w') : Good P f R b k a w := by
 intro cs
 obtain ⟨e, w2, fr, h1, h2, h3, h4⟩ := h cs
 exact ⟨e, w2, fr, h1, Comes.of_steps (.one (hs cs)) h2, h3, h4⟩
section
variable {P : Program} {L : Lay} {f : Nat} {fn : Func} {df : List dt} {k : List Item} {tm : Tm} {sto : Sto} {R : aa → Sto → Prop}
theorem ae.step {k' : List Item} (hs : ∀ (b : Frame) (a : Act) (w : World) (cs : List Frame), Go.step P (lone (b.at a k) cs w) = .next (lone (b.at a k') cs w)) (h : ae P f fn df k' tm sto R) : ae P f fn df k tm sto R :=
 ⟨fun E G a w b h1 h2 h3 h4 h5 h6 h7 h8 h9 => Good.step (fun cs => hs b a w cs) (h.go E G a w b h1 h2 h3 h4 h5 h6 h7 h8 h9)⟩
theorem ae.seq {x y : Code} (h : ae P f fn df (.code x :: .code y :: k) tm sto R) : ae P f fn df (.code (.seq x y) :: k) tm sto R := .step (fun _ _ _ _ => step_seq) h
theorem ae.skip (h : ae P f fn df k tm sto R) : ae P f fn df (.code .skip :: k) tm sto R := .step (fun _ _ _ _ => step_skip) h
theorem ae.block {id : Nat} {c : Code} (h : ae P f fn df (.code c :: .inBlock id :: k) tm sto R) : ae P f fn df (.code (.block id c) :: k) tm sto R := .step (fun _ _ _ _ => step_block) h
theorem ae.inBlock {id : Nat} (h : ae P f fn df k tm sto R) : ae P f fn df (.inBlock id :: k) tm sto R := .step (fun _ _ _ _ => step_inBlock) h
theorem ae.loop {c : Code} (h : ae P f fn df (.code c :: .inLoop c :: k) tm sto R) : ae P f fn df (.code (.loop c) :: k) tm sto R := .step (fun _ _ _ _ => step_loop) h
theorem ae.inLoop {c : Code} (h : ae P f fn df (.code c :: .inLoop c :: k) tm sto R) : ae P f fn df (.inLoop c :: k) tm sto R := .step (fun _ _ _ _ => step_inLoop) h
theorem ae.exit {id : Nat} {k' : List Item} (hk : exitTo id k = some k') (h : ae P f fn df k' tm sto R) : ae P f fn df (.code (.exit id) :: k) tm sto R := .step (fun _ _ _ _ => step_exit hk) h
theorem ae.cond {c : Operand} {x y : Code} {t : Bool} (hc : ev tm c = .bool t) (hok : bg c = true) (h1 : t = true → ae P f fn df (.code x :: k) tm sto R) (h2 : t = false → ae P f fn df (.code y :: k) tm sto R) :
  ae P f fn df (.code (.cond c x y) :: k) tm sto R := by
 refine ⟨?_⟩
 intro E G a w b h1' h2' h3 h4 h5 h6 h7 h8 h9
 have hr := aI h7 h9 hok
 rw [hc] at hr
 have hv := Rep.dj hr
 refine Good.step (fun cs => step_cond hv) ?_
 cases t with
 | true => exact (h1 rfl).go E G a w b h1' h2' h3 h4 h5 h6 h7 h8 h9
 | false => exact (h2 rfl).go E G a w b h1' h2' h3 h4 h5 h6 h7 h8 h9
theorem ae.al {c : Code} {α : Type} (I : α → Tm × Sto) (pre : α → Prop) (m : α → Nat) (x0 : α) (h0 : pre x0) (hI : I x0 = (tm, sto))
  (h : ∀ x, pre x → (∀ x', pre x' → m x' < m x → ae P f fn df (.inLoop c :: k) (I x').1 (I x').2 R) → ae P f fn df (.code c :: .inLoop c :: k) (I x).1 (I x).2 R) :
  ae P f fn df (.code (.loop c) :: k) tm sto R := by
 have key : ∀ n x, m x = n → pre x → ae P f fn df (.code c :: .inLoop c :: k) (I x).1 (I x).2 R := by
  intro n
  induction n using Nat.strongRecOn with
  | _ n ih => exact fun x hn hp => h x hp fun x' hp' hlt => .inLoop (ih (m x') (hn ▸ hlt) x' rfl hp')
 refine .loop ?_
 have := key _ x0 rfl h0
 rw [hI] at this
 exact this
def prune (ps : List Nat) (tm : Tm) : Tm := ps.map fun p => (p, lk tm p)
theorem fR (tm : Tm) (t : Nat) : ∀ ps : List Nat, lk (prune ps tm) t = if t ∈ ps then lk tm t else .undef
 | [] => by simp [prune, lk]
 | p :: ps => by
  have ih := fR tm t ps
  simp only [prune, List.map_cons, lk] at *
  by_cases h : p = t
  ·subst h; simp
  ·rw [if_neg h, ih]
   simp [Ne.symm h]
theorem fi.prune {G : Gh} {tm : Tm} {a : Array Value} (h : fi G tm a) (ps : List Nat) : fi G (prune ps tm) a := by
 intro t
 rw [fR]
 split
 ·exact h t
 ·exact .undef
theorem ae.weaken {tm' : Tm} (ht : ∀ t, lk tm' t = lk tm t ∨ lk tm' t = .undef) (h : ae P f fn df k tm' sto R) : ae P f fn df k tm sto R := by
 refine ⟨?_⟩
 intro E G a w b h1 h2 h3 h4 h5 h6 h7 h8 h9
 refine h.go E G a w b h1 h2 h3 h4 h5 h6 h7 h8 fun t => ?_
 rcases ht t with e | e <;> rw [e]
 ·exact h9 t
 ·exact .undef
theorem ae.prune (ps : List Nat) (h : ae P f fn df k (prune ps tm) sto R) : ae P f fn df k tm sto R :=
 h.weaken fun t => by rw [fR]; split <;> simp
theorem ae.drop (id : Nat) (h : ae P f fn df k tm (ca sto id) R) : ae P f fn df k tm sto R :=
 ⟨fun E G a w b h1 h2 h3 h4 h5 h6 h7 h8 h9 => h.go E G a w b h1 h2 h3 h4 h5 h6 h7 (wE h8 id) h9⟩
end
theorem ae.freeze {P : Program} {f : Nat} {fn : Func} {k : List Item} {tm : Tm} {sto : Sto} {R : aa → Sto → Prop} (id : Nat) {g esz : Nat} {l : List (List aa)} (hget : ak sto id = some (g, .row esz l)) (h : ae P f fn [] k (rfT id g l tm) (rfS id g l (ca sto id)) R) : ae P f fn [] k tm sto R := by
 refine ⟨?_⟩
 intro E G a w b h1 h2 h3 h4 h5 h6 h7 h8 h9
 obtain ⟨G', hext, hw', hs', hr⟩ := ga h7 h8 hget
 have hd : a.defers = [] := by
  cases hd : a.defers with
  | nil => rfl
  | cons => rw [hd] at h5; simp [kO] at h5
 exact h.go E G' a w b h1 h2 h3 h4 (by rw [hd]; trivial) (h6.trans hext) hw' hs' fun t => by rw [uC]; exact hr _ _ (h9 t)
def cC : Op → Bool
 | .buildSlice _ _ _ | .makeSlice _ _ _ | .call ⟨.builtin _, _, _⟩ => true
 | _ => false
def aA (L : Lay) (P : Program) (q : Bool) (z : List Nat) (o : Oper) (tm : Tm) (sto : Sto) (T : aa → Sto → Prop) : Prop :=
 match o.op with
 | .call ⟨.value c, args, _⟩ =>
  match ev tm c with
  | .fn f cap => if q then ∃ v, ah P f (args.toList.map (ev tm) ++ cap) sto (fun r s => r = v ∧ s = sto) ∧ frq (z.contains (o.dst.getD 0)) v sto T else ah P f (args.toList.map (ev tm) ++ cap) sto (fun r s => frq (z.contains (o.dst.getD 0)) r s T)
  | _ => False
 | op => aO L tm sto (o.dst.getD 0) (if cC op then fun r s => frq (z.contains (o.dst.getD 0)) r s T else T) op
def vc (L : Lay) (P : Program) (q : Bool) (z : List Nat) (ds : List (Option Nat)) : List Oper → Tm → Sto → (Tm → Sto → Prop) → Prop
 | [], tm, sto, K => K tm sto
 | o :: os, tm, sto, K =>
  match o.guard with
  | none => aA L P q z o tm sto fun r s => vc L P q z ds os (put o.dst r tm) s K
  | some (j, want) =>
   match ds[j]? with
   | some (some t) =>
    match lk tm t with
    | .bool b => (b = want → aA L P q z o ((t, .bool want) :: tm) sto fun r s => vc L P q z ds os (put o.dst r ((t, .bool want) :: tm)) s K) ∧
      (b = !want → vc L P q z ds os (put o.dst (.tup []) ((t, .bool !want) :: tm)) sto K)
    | .tup [] => vc L P q z ds os (put o.dst (.tup []) tm) sto K
    | _ => False
   | _ => False
end Go.Rad
namespace Go.Rad
open Go
variable {P : Program} {L : Lay}
structure Sim (E : Gh) (nt : Nat) (ds : List Deferred) (tm : Tm) (sto : Sto) (a : Act) (w : World) (G : Gh) : Prop where
 ext : Ext E G
 wok : WOk G w
 sok : an G w sto
 tok : fi G tm a.tmps
 n : a.tmps.size = nt
 d : a.defers = ds
def aT (L : Lay) (nt : Nat) (ops : List Oper) : Bool := ops.all fun o => Dm L o.op && (match o.dst with | some d => decide (d < nt) | none => true) && (match o.op with | .call c => c.operands.all bg | _ => true)
theorem Sim.put {E G G' : Gh} {nt : Nat} {ds : List Deferred} {tm : Tm} {sto sto' : Sto} {a : Act} {w w' : World} (h : Sim E nt ds tm sto a w G) {d : Option Nat} {r : aa} {v : Value} (hx : Ext G G') (hw : WOk G' w') (hs : an G' w' sto')
  (hd : (match d with | some d => decide (d < nt) | none => true) = true) (hr : Rep G' true r v) : Sim E nt ds (put d r tm) sto' (a.put d v) w' G' := by
 refine ⟨h.ext.trans hx, hw, hs, ?_, ?_, ?_⟩
 ·cases d with
  | none => exact h.tok.mono hx.toMono
  | some d => exact (h.tok.mono hx.toMono).put (by simpa [h.n] using hd) hr
 ·cases d <;> simp [Act.put, h.n]
 ·cases d <;> simp [Act.put, h.d]
theorem cW {G : Gh} {tm : Tm} {a : Act} (ht : fi G tm a.tmps) {ops : List Oper} {j t : Nat} {b : Bool} (hj : (ops.map (·.dst))[j]? = some (some t)) (hb : lk tm t = .bool b) : yielded ops.toArray a.tmps j = some b := by
 have hr := ht t
 rw [hb] at hr
 have hv := Rep.dj hr
 have hlt : t < a.tmps.size := by
  rcases Nat.lt_or_ge t a.tmps.size with h | h
  ·exact h
  ·exfalso
   have : a.tmps.getD t undef = undef := by simp [Array.getD, Nat.not_lt.2 h]
   rw [this] at hv
   cases hv
 have hv' : a.tmps[t]? = some (.bool b) := by
  rw [Array.getElem?_eq_getElem hlt]
  simp only [Array.getD_eq_getD_getElem?, Array.getElem?_eq_getElem hlt, Option.getD_some] at hv
  rw [hv]
 have hj' : (ops[j]?).bind (·.dst) = some t := by
  rw [List.getElem?_map] at hj
  cases ho : ops[j]? with
  | none => rw [ho] at hj; cases hj
  | some o => rw [ho] at hj; simpa using hj
 simp [yielded, hj', hv']
theorem cX {G : Gh} {tm : Tm} {a : Act} (ht : fi G tm a.tmps) {ops : List Oper} {j t : Nat} (hj : (ops.map (·.dst))[j]? = some (some t)) (hb : lk tm t = .tup []) : yielded ops.toArray a.tmps j = none := by
 have hr := ht t
 rw [hb] at hr
 have hj' : (ops[j]?).bind (·.dst) = some t := by
  rw [List.getElem?_map] at hj
  cases ho : ops[j]? with
  | none => rw [ho] at hj; cases hj
  | some o => rw [ho] at hj; simpa using hj
 unfold yielded
 simp only [List.getElem?_toArray, hj', Option.bind_some]
 cases hv : a.tmps[t]? with
 | none => rfl
 | some v =>
  have e : a.tmps.getD t undef = v := by simp [hv]
  rw [e] at hr
  cases hr
  rfl
theorem b7 (hL : LOk P L) {E G : Gh} {nt : Nat} {ds : List Deferred} {o : Oper} {tm : Tm} {sto : Sto} {a : Act} {w : World} {T : aa → Sto → Prop} {K : Act → World → Prop} {Q : Exit → Act → World → Prop} (hsim : Sim E nt ds tm sto a w G)
  (hok : aT L nt [o] = true) {q : Bool} {z : List Nat} (h : aA L P q z o tm sto T) (hK : ∀ G' w' r v sto', T r sto' → Sim E nt ds (put o.dst r tm) sto' (a.put o.dst v) w' G' → K (a.put o.dst v) w') : o.wp P a w K Q := by
 simp only [aT, List.all_cons, List.all_nil, Bool.and_true, Bool.and_eq_true] at hok
 obtain ⟨⟨hop, hdst⟩, hcall⟩ := hok
 unfold aA at h
 split at h
 ·rename_i c args ts hopc
  rw [hopc] at hcall
  simp only at hcall
  split at h
  ·rename_i f cap hc
   have hall : ∀ x ∈ c :: args.toList, bg x = true := by
    intro x hx
    refine Array.all_eq_true'.1 hcall x ?_
    simp only [Call.operands, Array.mem_append]
    rcases List.mem_cons.1 hx with rfl | hx
    ·exact .inl (by simp)
    ·exact .inr (by simpa using hx)
   have hcr := aI hsim.wok hsim.tok (hall c (by simp))
   rw [hc] at hcr
   generalize hcv : a.eval c = cv at hcr
   cases hcr with
   | @fn _ _ _ caps h1 h2 =>
    have hAC : ∃ R', ah P f (args.toList.map (ev tm) ++ cap) sto R' ∧ ∀ r s, R' r s → ∃ b, frq b r s T := by
     cases q with
     | true => obtain ⟨v, h1, h2⟩ := h; exact ⟨_, h1, fun r s ⟨e1, e2⟩ => ⟨_, by subst e1 e2; exact h2⟩⟩
     | false => exact ⟨_, h, fun r s hr => ⟨_, hr⟩⟩
    obtain ⟨R', ⟨⟨fn, hf, hname, hbody⟩, hcalls⟩, hRT⟩ := hAC
    have hname' : ¬ fn.name = "runtime.NumGoroutine" := by simpa using hname
    have hbody' : ¬ fn.body = none := by intro e; rw [e] at hbody; cases hbody
    have hrun : (execOp a.eval o).run P w = .ok (.enter f (args.map a.eval ++ caps)) w := by
     simp [execOp, hopc, resolve, hcv, Deferred.ofValue, invoke, callFunc, hf, hname', hbody']
    unfold Oper.wp
    rw [hrun]
    simp only [Oper.upon]
    have hargs : qj G (args.toList.map (ev tm) ++ cap) (args.map a.eval ++ caps) := by
     refine ⟨by simp [h1], fun j x hx => ?_⟩
     rw [List.getElem?_append] at hx
     simp only [List.length_map, Array.length_toList] at hx
     split at hx
     ·rename_i hj
      simp only [List.getElem?_map, Array.getElem?_toList, Array.getElem?_eq_getElem hj, Option.map_some, Option.some.injEq] at hx
      subst hx
      have e : (args.map a.eval ++ caps).getD j undef = a.eval args[j] := by
       simp [Array.getD_eq_getD_getElem?, Array.getElem?_append, hj]
      rw [e]
      exact aI hsim.wok hsim.tok (hall _ (List.mem_cons_of_mem _ (by simp)))
     ·rename_i hj
      have e : (args.map a.eval ++ caps).getD j undef = caps.getD (j - args.size) undef := by
       simp [Array.getD_eq_getD_getElem?, Array.getElem?_append, hj]
      rw [e]
      exact h2 _ _ hx
    refine (hcalls G w _ hsim.wok hsim.sok hargs).mono fun e w' p => ?_
    obtain ⟨G', cr, r, sto', rfl, hx, hw', hs', hr, hT⟩ := p
    obtain ⟨bq, hq⟩ := hRT r sto' hT
    obtain ⟨G2, r2, s2, hx2, hw2, hs2, hr2, hT2⟩ := kY hw' hs' hr hq
    exact hK G2 w' r2 cr s2 hT2 (hsim.put (hx.trans hx2) hw2 hs2 hdst hr2)
  ·exact h.elim
 ·obtain ⟨G', w', v, r, sto', h1, hx, hw', hs', hr, hT⟩ := jN hL hsim.wok hsim.sok hsim.tok hop h
  have hq : ∃ b, frq b r sto' T := by
   split at hT
   ·exact ⟨_, hT⟩
   ·exact ⟨false, by simpa [frq] using hT⟩
  obtain ⟨bq, hq⟩ := hq
  obtain ⟨G2, r2, s2, hx2, hw2, hs2, hr2, hT2⟩ := kY hw' hs' hr hq
  have hk := hK G2 w' r2 v s2 hT2 (hsim.put (hx.trans hx2) hw2 hs2 hdst hr2)
  unfold Oper.wp
  rcases h1 with h1 | ⟨h1, rfl⟩
  ·rw [h1]; exact hk
  ·rw [h1]; exact hk
theorem iK (hL : LOk P L) {q : Bool} {z : List Nat} {E : Gh} {nt : Nat} {ds : List Deferred} (ops : List Oper) {K : Tm → Sto → Prop} {Q : Exit → Act → World → Prop}
  (hQ : ∀ G tm sto a w, K tm sto → Sim E nt ds tm sto a w G → Q .normal a w) :
  ∀ (os : List Oper) (tm : Tm) (sto : Sto) (a : Act) (w : World) (G : Gh), aT L nt os = true → Sim E nt ds tm sto a w G → vc L P q z (ops.map (·.dst)) os tm sto K → wpList P ops.toArray Q os a w
 | [], tm, sto, a, w, G, _, hsim, h => hQ G tm sto a w h hsim
 | o :: os, tm, sto, a, w, G, hok, hsim, h => by
  have hok1 : aT L nt [o] = true := by simp only [aT, List.all_cons, Bool.and_eq_true] at hok ⊢; exact ⟨hok.1, rfl⟩
  have hok2 : aT L nt os = true := by simp only [aT, List.all_cons, Bool.and_eq_true] at hok ⊢; exact hok.2
  have hdst : (match o.dst with | some d => decide (d < nt) | none => true) = true := by
   simp only [aT, List.all_cons, List.all_nil, Bool.and_true, Bool.and_eq_true] at hok1
   exact hok1.1.2
  unfold vc at h
  unfold wpList
  split at h
  ·rename_i hg
   rw [if_pos (by simp [Region.wanted, hg])]
   exact .inl (b7 hL hsim hok1 h fun G' w' r v sto' hT hs => iK hL ops hQ os _ _ _ _ _ hok2 hs hT)
  ·rename_i j want hg
   split at h
   ·rename_i t hj
    split at h
    ·rename_i b hb
     have hy := cW hsim.tok hj hb
     have hsub : ∀ c, b = c → Sim E nt ds ((t, .bool c) :: tm) sto a w G := by
      rintro c rfl
      refine ⟨hsim.ext, hsim.wok, hsim.sok, fun t' => ?_, hsim.n, hsim.d⟩
      simp only [lk]
      split
      ·rename_i e; subst e; rw [← hb]; exact hsim.tok _
      ·exact hsim.tok t'
     by_cases hbw : b = want
     ·rw [if_pos (by simp [Region.wanted, hg, hy, hbw])]
      exact .inl (b7 hL (hsub want hbw) hok1 (h.1 hbw) fun G' w' r v sto' hT hs => iK hL ops hQ os _ _ _ _ _ hok2 hs hT)
     ·rw [if_neg (by simp [Region.wanted, hg, hy, hbw])]
      have hbn : b = !want := by cases b <;> cases want <;> simp_all
      exact iK hL ops hQ os _ _ _ _ G hok2 ((hsub _ hbn).put (.refl G) hsim.wok hsim.sok hdst (.tup rfl fun j x hx => by simp at hx)) (h.2 hbn)
    ·rename_i hb
     have hy := cX hsim.tok hj hb
     rw [if_neg (by simp [Region.wanted, hg, hy])]
     exact iK hL ops hQ os _ _ _ _ G hok2 (hsim.put (.refl G) hsim.wok hsim.sok hdst (.tup rfl fun j x hx => by simp at hx)) h
    ·exact h.elim
   ·exact h.elim
theorem Good.of_wp {f : Nat} {R : Ending → World → Prop} {b : Frame} {k : List Item} {a : Act} {w : World} {c : Code} {Q : Exit → Act → World → Prop} (h : c.wp P Q a w)
  (hQ : ∀ e a' w', Q e a' w' → e = .normal ∧ Good P f R b k a' w') : Good P f R b (.code c :: k) a w := by
 intro cs
 obtain ⟨e, a', w', hq, harr⟩ := h b k cs
 obtain ⟨rfl, hg⟩ := hQ _ _ _ hq
 obtain ⟨e2, w2, fr, h1, h2, h3, h4⟩ := hg cs
 exact ⟨e2, w2, fr, h1, Comes.of_steps harr h2, h3, h4⟩
section
variable {f : Nat} {fn : Func} {df : List dt} {k : List Item} {tm : Tm} {sto : Sto} {R : aa → Sto → Prop}
theorem ae.region (hL : LOk P L) {z : List Nat} {id : Nat} {ops : List Oper} (ps : List Nat) (hok : aT L fn.ntmps ops = true)
  (h : vc L P false z (ops.map (·.dst)) ops tm sto fun tm' sto' => ae P f fn df k (Rad.prune ps tm') sto' R) : ae P f fn df (.code (.region id ops.toArray false) :: k) tm sto R := by
 refine ⟨?_⟩
 intro E G a w b h1 h2 h3 h4 h5 h6 h7 h8 h9
 refine Good.of_wp (Q := fun e a' w' => e = .normal ∧ Good P f (fA E R) b k a' w') (wp_region_lit ?_) fun e a' w' hq => hq
 refine iK hL (E := G) (nt := fn.ntmps) (ds := a.defers) ops (K := fun tm' sto' => ae P f fn df k (Rad.prune ps tm') sto' R) (fun G' tm' sto' a' w' hk hs => ?_) ops tm sto a w G hok ⟨.refl G, h7, h8, h9, h4, rfl⟩ h
 exact ⟨rfl, hk.go E G' a' w' b h1 h2 h3 hs.n (hs.d ▸ h5.mono hs.ext.toMono) (h6.trans hs.ext) hs.wok hs.sok (hs.tok.prune ps)⟩
def cG (L : Lay) : List ResultVar → Tm → Sto → (List aa → Prop) → Prop
 | [], _, _, T => T []
 | .tmp t :: rs, tm, sto, T => cG L rs tm sto fun vs => T (lk tm t :: vs)
 | .cell a ty :: rs, tm, sto, T => (L ty).ty ≠ .other ∧ bM L ty (lk tm a) sto fun v => cG L rs tm sto fun vs => T (v :: vs)
def gV : List aa → aa
 | [v] => v
 | vs => .tup vs
def ky (L : Lay) : List dt → Sto → (Sto → Prop) → Prop
 | [], sto, T => T sto
 | d :: ds, sto, T =>
  match (L d.t).ty, d.m, d.k with
  | .map kt _, .map id g, .str key =>
   (L kt).ty = .string ∧
   match ak sto id with
   | some (g', .mp es) => g' = g ∧ ky L ds (aF sto id (g, .mp (j7 es key))) T
   | _ => False
  | _, _, _ => False
def n8 (tmps : Array Value) : ResultVar → Sem Value
 | .tmp t => pure (tmps.getD t undef)
 | .cell a t => do loadVar t (← asAddr (tmps.getD a undef))
theorem lq (hL : LOk P L) {G : Gh} {w : World} {sto : Sto} {tm : Tm} {tmps : Array Value} (hw : WOk G w) (hs : an G w sto) (ht : fi G tm tmps) : ∀ (rs : List ResultVar) (T : List aa → Prop), cG L rs tm sto T →
  ∃ (vs : List Value) (rv : List aa), (rs.mapM (n8 tmps)).run P w = .ok vs w ∧ vs.length = rv.length ∧ (∀ (j : Nat) (x : aa), rv[j]? = some x → Rep G true x (vs.getD j undef)) ∧ T rv
 | [], T, h => ⟨[], [], by simp, rfl, fun j x hx => by simp at hx, h⟩
 | .tmp t :: rs, T, h => by
  obtain ⟨vs, rv, h1, h2, h3, h4⟩ := lq hL hw hs ht rs _ h
  refine ⟨tmps.getD t undef :: vs, lk tm t :: rv, by simp only [List.mapM_cons, Sem.run_bind, n8, Sem.run_pure, Result.andThen_ok, h1], by simp [h2], fun j x hx => ?_, h4⟩
  cases j with
  | zero => simp only [List.getElem?_cons_zero, Option.some.injEq] at hx; subst hx; exact ht t
  | succ j => exact h3 j x (by simpa using hx)
 | .cell a ty :: rs, T, h => by
  obtain ⟨hty, h⟩ := h
  obtain ⟨ad, u, r, e, hl, hr, h⟩ := pL hL hty hw hs (ht a) h
  obtain ⟨vs, rv, h1, h2, h3, h4⟩ := lq hL hw hs ht rs _ h
  refine ⟨u :: vs, r :: rv, by simp only [List.mapM_cons, Sem.run_bind, n8, e, asAddr, Sem.run_pure, Result.andThen_ok, hl, h1], by simp [h2], fun j x hx => ?_, h4⟩
  cases j with
  | zero => simp only [List.getElem?_cons_zero, Option.some.injEq] at hx; subst hx; exact hr
  | succ j => exact h3 j x (by simpa using hx)
theorem pd (hL : LOk P L) {G : Gh} {w : World} {sto : Sto} {tm : Tm} {tmps : Array Value} (hw : WOk G w) (hs : an G w sto) (ht : fi G tm tmps) {T : aa → Prop} (h : cG L fn.results.toList tm sto fun vs => T (gV vs)) :
  ∃ v r, (results fn tmps).run P w = .ok v w ∧ Rep G true r v ∧ T r := by
 obtain ⟨vs, rv, h1, h2, h3, h4⟩ := lq hL hw hs ht _ _ h
 refine ⟨if h : vs.toArray.size = 1 then vs.toArray[0] else .tuple vs.toArray, gV rv, ?_, ?_, h4⟩
 ·have e : (fn.results.mapM (n8 tmps)).run P w = .ok vs.toArray w := by
   rw [Array.mapM_eq_mapM_toList]
   simp [h1]
  have hF : ∀ F : ResultVar → Sem Value, (∀ x, F x = n8 tmps x) → (Array.mapM F fn.results).run P w = .ok vs.toArray w := by
   intro F h
   rw [funext h]; exact e
  unfold results
  rw [Sem.run_bind, hF _ (by intro x; cases x <;> rfl)]
  simp only [Result.andThen_ok, Sem.run_pure]
 ·match rv, vs, h2, h3 with
  | [], [], _, _ => exact .tup rfl fun j x hx => by simp at hx
  | [x], [v], _, h3 => exact h3 0 x rfl
  | x :: y :: rs, v :: u :: vs, h2, h3 =>
   have e : ¬ ((v :: u :: vs).toArray.size = 1) := by simp
   rw [dif_neg e]
   refine .tup (by simpa using h2) fun j z hz => ?_
   have := h3 j z hz
   simpa [List.getD_eq_getElem?_getD] using this
theorem nK (hL : LOk P L) {E : Gh} {R : aa → Sto → Prop} : ∀ (df : List dt) (ds : List Deferred) (G : Gh) (w : World) (sto : Sto) (fr : Frame) (cs : List Frame), fr.mode = .returning → fr.defers = ds → fr.fn = f → fr.kind = .normal →
  P.funcs[f]? = some fn → kO G df ds → Ext E G → WOk G w → an G w sto → fi G tm fr.tmps → (∀ d ∈ df, (L d.t).ty ≠ .other) → (ky L df sto fun sto' => cG L fn.results.toList tm sto' fun vs => R (gV vs) sto') →
  ∃ e w' fr', fA E R e w' ∧ Comes P (lone fr cs w) (lone fr' cs w') e ∧ fr'.fn = f ∧ fr'.leaving P w' e
 | [], [], G, w, sto, fr, cs, hm, hd, hfn, hk, hf, _, hext, hw, hs, ht, _, h => by
  obtain ⟨v, r, h1, h2, h3⟩ := pd (fn := fn) hL hw hs ht (T := fun r => R r sto) h
  exact ⟨.returned v, w, fr, ⟨G, v, r, sto, rfl, hext, hw, hs, h2, h3⟩, Steps.refl P _, hfn, hm, hd, hk, fn, hfn ▸ hf, h1⟩
 | [], _ :: _, _, _, _, _, _, _, _, _, _, _, hdf, _, _, _, _, _, _ => by simp [kO] at hdf
 | _ :: _, [], _, _, _, _, _, _, _, _, _, _, hdf, _, _, _, _, _, _ => by simp [kO] at hdf
 | d :: df, e :: ds, G, w, sto, fr, cs, hm, hd, hfn, hk, hf, hdf, hext, hw, hs, ht, hty, h => by
  obtain ⟨⟨ty, cs', v, u, rfl, hv, hu⟩, hdf'⟩ := hdf
  unfold ky at h
  split at h
  ·rename_i kt et id g key he hme hke
   obtain ⟨hstr, h⟩ := h
   split at h
   ·rename_i g' es hget
    obtain ⟨rfl, h⟩ := h
    rw [hme] at hv
    rw [hke] at hu
    obtain ⟨w', hrun, hw', hs'⟩ := qv (t2 := d.t2) (ty := ty) hL (hty d (by simp)) hw hs hv hu he hstr hget
    have hstep : Go.step P (lone fr cs w) = .next (lone { fr with defers := ds } cs w') := by
     refine step_lone_go ?_
     have hinv : (invoke (.builtin .delete #[d.t, d.t2] ty cs') #[v, u]).run P w = .ok (.value (.tuple #[])) w' := by
      simp [invoke, builtin, hrun]
     simp [stepG, unwind, callDeferred, hm, hd, hinv]
    obtain ⟨e', w2, fr', a1, a2, a3, a4⟩ := nK hL df ds G w' _ { fr with defers := ds } cs hm rfl hfn hk hf hdf' hext hw' hs' ht (fun d hd => hty d (by simp [hd])) h
    exact ⟨e', w2, fr', a1, Comes.of_steps (.one hstep) a2, a3, a4⟩
   ·exact h.elim
  ·exact h.elim
theorem ae.ret (hL : LOk P L) (hty : ∀ d ∈ df, (L d.t).ty ≠ .other) (h : ky L df sto fun sto' => cG L fn.results.toList tm sto' fun vs => R (gV vs) sto') : ae P f fn df (.code .ret :: k) tm sto R := by
 refine ⟨?_⟩
 intro E G a w b h1 h2 h3 h4 h5 h6 h7 h8 h9 cs
 obtain ⟨e, w2, fr', a1, a2, a3, a4⟩ := nK (f := f) hL df a.defers G w sto { b.at a (.code .ret :: k) with mode := .returning } cs rfl rfl h1 h2 h3 h5 h6 h7 h8 h9 hty h
 exact ⟨e, w2, fr', a1, Comes.of_steps (.one step_ret) a2, a3, a4⟩
theorem ae.done (hL : LOk P L) (hty : ∀ d ∈ df, (L d.t).ty ≠ .other) (h : ky L df sto fun sto' => cG L fn.results.toList tm sto' fun vs => R (gV vs) sto') : ae P f fn df [] tm sto R := by
 refine ⟨?_⟩
 intro E G a w b h1 h2 h3 h4 h5 h6 h7 h8 h9 cs
 obtain ⟨e, w2, fr', a1, a2, a3, a4⟩ := nK (f := f) hL df a.defers G w sto { b.at a [] with mode := .returning } cs rfl rfl h1 h2 h3 h5 h6 h7 h8 h9 hty h
 exact ⟨e, w2, fr', a1, Comes.of_steps (.one step_end) a2, a3, a4⟩
def ai : Nat → List aa → Tm
 | _, [] => []
 | n, x :: xs => (n, x) :: ai (n + 1) xs
theorem v7 : ∀ (xs : List aa) (n t : Nat), lk (ai n xs) t = if n ≤ t then (xs[t - n]?).getD .undef else .undef
 | [], n, t => by simp [ai, lk]
 | x :: xs, n, t => by
  simp only [ai, lk]
  by_cases h : n = t
  ·subst h; simp
  ·rw [if_neg h, v7 xs (n + 1) t]
   by_cases h2 : n ≤ t
   ·rw [if_pos h2, if_pos (by omega)]
    have : t - n = (t - (n + 1)) + 1 := by omega
    rw [this]; simp
   ·rw [if_neg h2, if_neg (by omega)]
theorem ah.enter {c : Code} {args : List aa} (hf : P.funcs[f]? = some fn) (hb : fn.body = some c) (hname : (fn.name == "runtime.NumGoroutine") = false) (hn : args.length ≤ fn.ntmps)
  (h : ae P f fn [] [.code c] (ai 0 args) sto R) : ah P f args sto R := by
 refine ⟨⟨fn, hf, hname, by simp [hb]⟩, fun G w cargs hw hs ha cs => ?_⟩
 let b : Frame := { (default : Frame) with fn := f, kind := .normal }
 have henter : Frame.enter P f cargs .normal = b.at { tmps := cargs ++ Array.replicate (fn.ntmps - cargs.size) undef, defers := [] } [.code c] := by
  simp [Frame.enter, Frame.at, hf, hb, b]
 rw [henter]
 refine h.go G G { tmps := cargs ++ Array.replicate (fn.ntmps - cargs.size) undef, defers := [] } w b rfl rfl hf (by simp [ha.1]; omega) trivial (.refl G) hw hs (fun t => ?_) cs
 rw [v7]
 simp only [Nat.zero_le, if_true, Nat.sub_zero]
 cases hx : args[t]? with
 | none => exact .undef
 | some x =>
  have ht : t < cargs.size := by rw [ha.1]; exact cf hx
  have := ha.2 t x hx
  have e : (cargs ++ Array.replicate (fn.ntmps - cargs.size) undef).getD t undef = cargs.getD t undef := by
   simp [Array.getD_eq_getD_getElem?, Array.getElem?_append, ht]
  simp only [Option.getD_some]
  rw [e]; exact this
end
end Go.Rad
namespace Go.Rad
open Go
variable {P : Program} {L : Lay} {q : Bool} {z : List Nat}
def kv (L : Lay) (P : Program) (q : Bool) (z : List Nat) (ds : List (Option Nat)) (os : List Oper) (d : Option Nat) (tm : Tm) (sto : Sto) (K : Tm → Sto → Prop) : aa → Prop := fun r => vc L P q z ds os (put d r tm) sto K
def kvc (L : Lay) (P : Program) (q : Bool) (z : List Nat) (ds : List (Option Nat)) (os : List Oper) (d : Option Nat) (tm : Tm) (K : Tm → Sto → Prop) : aa → Sto → Prop := fun r s => vc L P q z ds os (put d r tm) s K
def kvs (L : Lay) (P : Program) (q : Bool) (z : List Nat) (ds : List (Option Nat)) (os : List Oper) (d : Option Nat) (tm : Tm) (K : Tm → Sto → Prop) : aa → Sto → Prop := fun r s => frq (z.contains (d.getD 0)) r s (kvc L P q z ds os d tm K)
def ks (L : Lay) (P : Program) (q : Bool) (z : List Nat) (ds : List (Option Nat)) (os : List Oper) (d : Option Nat) (tm : Tm) (K : Tm → Sto → Prop) : Sto → Prop := fun s => vc L P q z ds os (put d .undef tm) s K
def kb (L : Lay) (P : Program) (q : Bool) (z : List Nat) (ds : List (Option Nat)) (os : List Oper) (d : Option Nat) (tm : Tm) (sto : Sto) (K : Tm → Sto → Prop) (neg : Bool) : Bool → Prop := fun b => vc L P q z ds os (put d (.bool (if neg then !b else b)) tm) sto K
def gd (L : Lay) (P : Program) (q : Bool) (z : List Nat) (ds : List (Option Nat)) (o : Oper) (os : List Oper) (t : Nat) (want : Bool) (tm : Tm) (sto : Sto) (K : Tm → Sto → Prop) : aa → Prop
 | .bool b => (b = want → vc L P q z ds ({ o with guard := none } :: os) ((t, .bool want) :: tm) sto K) ∧ (b = !want → vc L P q z ds os (put o.dst (.tup []) ((t, .bool !want) :: tm)) sto K)
 | .tup [] => vc L P q z ds os (put o.dst (.tup []) tm) sto K
 | _ => False
def pk (x : aa) (a b : aa) (T : aa → Prop) : Prop :=
 match x with
 | .bool x => (x = true → T a) ∧ (x = false → T b)
 | _ => False
def cl (P : Program) (q : Bool) (c : aa) (args : List aa) (sto : Sto) (T : aa → Sto → Prop) : Prop :=
 match c with
 | .fn f cap => if q then ∃ v, ah P f (args ++ cap) sto (fun r s => r = v ∧ s = sto) ∧ T v sto else ah P f (args ++ cap) sto T
 | _ => False
section
variable {ds : List (Option Nat)} {os : List Oper} {d : Option Nat} {tm : Tm} {sto : Sto} {K : Tm → Sto → Prop} {ty : TypeId} {pos : String} {af : Array Edge}
theorem L1 (r : aa) : kv L P q z ds os d tm sto K r = vc L P q z ds os (put d r tm) sto K := Eq.trans rfl rfl
theorem IJ (r : aa) (s : Sto) : kvs L P q z ds os d tm K r s = frq (z.contains (d.getD 0)) r s (kvc L P q z ds os d tm K) := Eq.trans rfl rfl
theorem CL (r : aa) (s : Sto) : kvs L P q [] ds os d tm K r s = vc L P q [] ds os (put d r tm) s K := Eq.trans rfl rfl
theorem II (r : aa) (s : Sto) : kvc L P q z ds os d tm K r s = vc L P q z ds os (put d r tm) s K := Eq.trans rfl rfl
theorem H3 (r : aa) (s : Sto) (T : aa → Sto → Prop) : frq false r s T = T r s := by simp [frq]
def frO (g n id : Nat) (s : Sto) (T : aa → Sto → Prop) : Option (Nat × bc) → Prop
 | some (g', .row _ l) => g' = g ∧ n = l.length ∧ T (.sl true false l) (ca s id)
 | _ => False
theorem Cn (id g n : Nat) (s : Sto) (T : aa → Sto → Prop) : frq true (.osl id g 0 n) s T = frO g n id s T (ak s id) := by
 unfold frq
 simp only
 cases ak s id with
 | none => rfl
 | some x => obtain ⟨a, b⟩ := x; cases b <;> rfl
theorem Cl (g n id g' esz : Nat) (l : List (List aa)) (s : Sto) (T : aa → Sto → Prop) : frO g n id s T (some (g', .row esz l)) = (g' = g ∧ n = l.length ∧ T (.sl true false l) (ca s id)) := Eq.trans rfl rfl
theorem H4 (b q f : Bool) (l : List (List aa)) (s : Sto) (T : aa → Sto → Prop) : frq b (.sl q f l) s T = T (.sl q f l) s := by cases b <;> rfl
theorem Cm (b : Bool) (k : IntKind) (n : Int) (s : Sto) (T : aa → Sto → Prop) : frq b (.int k n) s T = T (.int k n) s := by cases b <;> rfl
theorem Co (b : Bool) (vs : List aa) (s : Sto) (T : aa → Sto → Prop) : frq b (.tup vs) s T = T (.tup vs) s := by cases b <;> rfl
theorem L0 (s : Sto) : ks L P q z ds os d tm K s = vc L P q z ds os (put d .undef tm) s K := Eq.trans rfl rfl
theorem LZ (b : Bool) : kb L P q z ds os d tm sto K false b = vc L P q z ds os (put d (.bool b) tm) sto K := Eq.trans rfl rfl
theorem IF (b : Bool) : kb L P q z ds os d tm sto K true b = vc L P q z ds os (put d (.bool !b) tm) sto K := Eq.trans rfl rfl
theorem As (n : Nat) (v : aa) : put (some n) v tm = (n, v) :: tm := Eq.trans rfl rfl
theorem Ar (v : aa) : put none v tm = tm := Eq.trans rfl rfl
theorem JW : vc L P q z ds [] tm sto K = K tm sto := by rw [vc]
theorem Be (op : Op) (j : Nat) (want : Bool) (t : Nat) (h : ds[j]? = some (some t)) : vc L P q z ds (⟨d, op, ty, pos, af, some (j, want)⟩ :: os) tm sto K = gd L P q z ds ⟨d, op, ty, pos, af, some (j, want)⟩ os t want tm sto K (lk tm t) := by
 rw [vc]
 simp only [h]
 unfold gd
 cases lk tm t with
 | bool b => simp only [vc]; rfl
 | tup vs => cases vs <;> rfl
 | _ => rfl
variable {op : Op} {g : Option (Nat × Bool)} {t : Nat}
theorem LM : gd L P q z ds ⟨d, op, ty, pos, af, g⟩ os t true tm sto K (.bool true) = vc L P q z ds (⟨d, op, ty, pos, af, none⟩ :: os) ((t, .bool true) :: tm) sto K := by simp [gd]
theorem LI : gd L P q z ds ⟨d, op, ty, pos, af, g⟩ os t false tm sto K (.bool false) = vc L P q z ds (⟨d, op, ty, pos, af, none⟩ :: os) ((t, .bool false) :: tm) sto K := by simp [gd]
theorem LK : gd L P q z ds ⟨d, op, ty, pos, af, g⟩ os t true tm sto K (.bool false) = vc L P q z ds os (put d (.tup []) ((t, .bool false) :: tm)) sto K := by simp [gd]
theorem LJ : gd L P q z ds ⟨d, op, ty, pos, af, g⟩ os t false tm sto K (.bool true) = vc L P q z ds os (put d (.tup []) ((t, .bool true) :: tm)) sto K := by simp [gd]
theorem Cq (want : Bool) : gd L P q z ds ⟨d, op, ty, pos, af, g⟩ os t want tm sto K (.tup []) = vc L P q z ds os (put d (.tup []) tm) sto K := Eq.trans rfl rfl
theorem ab {want b : Bool} (h1 : b = want → vc L P q z ds (⟨d, op, ty, pos, af, none⟩ :: os) ((t, .bool want) :: tm) sto K) (h2 : b = !want → vc L P q z ds os (put d (.tup []) ((t, .bool !want) :: tm)) sto K) :
  gd L P q z ds ⟨d, op, ty, pos, af, g⟩ os t want tm sto K (.bool b) := ⟨h1, h2⟩
theorem pk_t {a b : aa} {T : aa → Prop} : pk (.bool true) a b T = T a := by simp [pk]
theorem pk_f {a b : aa} {T : aa → Prop} : pk (.bool false) a b T = T b := by simp [pk]
theorem DW (x : Operand) : vc L P q z ds (⟨d, .move x, ty, pos, af, none⟩ :: os) tm sto K = vc L P q z ds os (put d (ev tm x) tm) sto K := by rw [vc]; rfl
theorem yx (x : Operand) : vc L P q z ds (⟨d, .assign x, ty, pos, af, none⟩ :: os) tm sto K = vc L P q z ds os (put d (ev tm x) tm) sto K := by rw [vc]; rfl
theorem DX (c a b : Operand) : vc L P q z ds (⟨d, .pick c a b, ty, pos, af, none⟩ :: os) tm sto K = pk (ev tm c) (ev tm a) (ev tm b) (kv L P q z ds os d tm sto K) := by rw [vc]; rfl
theorem Ba (e : TypeId) (n : Nat) : vc L P q z ds (⟨some n, .alloc e, ty, pos, af, none⟩ :: os) tm sto K = (0 < (L e).sz ∧ ∀ h, vc L P q z ds os ((n, .bx n h 0) :: tm) (aF sto n (h, .box (L e).zero)) K) := by rw [vc]; rfl
theorem JV (e : TypeId) (x : Operand) (n : Nat) : vc L P q z ds (⟨some n, .box e x, ty, pos, af, none⟩ :: os) tm sto K =
  ((ev tm x).aB = true ∧ (cellsOf (ev tm x)).length = (L e).sz ∧ 0 < (L e).sz ∧ ∀ h, vc L P q z ds os ((n, .bx n h 0) :: tm) (aF sto n (h, .box (cellsOf (ev tm x)))) K) := by rw [vc]; rfl
theorem Bb (e : TypeId) (ps : Array (Nat × Operand)) : vc L P q z ds (⟨d, .build e ps, ty, pos, af, none⟩ :: os) tm sto K =
  ((L e).ag = true ∧ ∃ cs, bP L (L e) (L e).zero (ps.toList.map fun p => (p.1, ev tm p.2)) = some cs ∧ vc L P q z ds os (put d (.agg cs) tm) sto K) := by rw [vc]; rfl
theorem pg (e : TypeId) (n m : Nat) (ps : Array (Nat × Operand)) : vc L P q z ds (⟨some n, .buildSlice e m ps, ty, pos, af, none⟩ :: os) tm sto K = bF L n e m (ps.toList.map fun p => (p.1, ev tm p.2)) sto (kvs L P q z ds os (some n) tm K) := by rw [vc]; rfl
theorem DV (e : TypeId) (a : Operand) : vc L P q z ds (⟨d, .load e a, ty, pos, af, none⟩ :: os) tm sto K = bM L e (ev tm a) sto (kv L P q z ds os d tm sto K) := by rw [vc]; rfl
theorem Bj (e : TypeId) (a x : Operand) : vc L P q z ds (⟨none, .store e a x, ty, pos, af, none⟩ :: os) tm sto K = cj L e (ev tm a) (ev tm x) sto (ks L P q z ds os none tm K) := by rw [vc]; rfl
def nc (x : aa) (T : aa → Prop) : Prop :=
 match x with
 | .bx id g off => T (.bx id g off)
 | .loc id g i off => T (.loc id g i off)
 | .ref q cs => T (.ref q cs)
 | .fn f cap => T (.fn f cap)
 | _ => False
theorem L9 {i g o : Nat} {T : aa → Prop} : nc (.bx i g o) T = T (.bx i g o) := Eq.trans rfl rfl
theorem I3 {i g o j : Nat} {T : aa → Prop} : nc (.loc i g o j) T = T (.loc i g o j) := Eq.trans rfl rfl
theorem I4 {q : Bool} {cs : List aa} {T : aa → Prop} : nc (.ref q cs) T = T (.ref q cs) := Eq.trans rfl rfl
theorem Ma {f : Nat} {cs : List aa} {T : aa → Prop} : nc (.fn f cs) T = T (.fn f cs) := Eq.trans rfl rfl
theorem tU (x : Operand) : vc L P q z ds (⟨d, .nilCheck x, ty, pos, af, none⟩ :: os) tm sto K = nc (ev tm x) (kv L P q z ds os d tm sto K) := by
 rw [vc]
 simp only [aA, aO]
 generalize ev tm x = v
 cases v <;> rfl
theorem iJ (o : BinOp) (e e' : TypeId) (x y : Operand) (h : ct y = false) : vc L P q z ds (⟨d, .binOp o e x y e', ty, pos, af, none⟩ :: os) tm sto K = bh L o e (ev tm x) (ev tm y) (kv L P q z ds os d tm sto K) := by
 rw [vc]; simp only [aA, aO, h, Bool.false_eq_true, if_false]; rfl
theorem vk (o : BinOp) (e e' : TypeId) (x : Operand) (n : Nat) : vc L P q z ds (⟨d, .binOp o e x (.tmp n) e', ty, pos, af, none⟩ :: os) tm sto K = bh L o e (ev tm x) (ev tm (.tmp n)) (kv L P q z ds os d tm sto K) := iJ o e e' x _ rfl
theorem vi (o : BinOp) (e e' : TypeId) (x : Operand) (k : IntKind) (n : Int) : vc L P q z ds (⟨d, .binOp o e x (.const (.int k n)) e', ty, pos, af, none⟩ :: os) tm sto K = bh L o e (ev tm x) (ev tm (.const (.int k n))) (kv L P q z ds os d tm sto K) := iJ o e e' x _ rfl
theorem tS (o : BinOp) (e e' : TypeId) (x : Operand) (b : Bool) : vc L P q z ds (⟨d, .binOp o e x (.const (.bool b)) e', ty, pos, af, none⟩ :: os) tm sto K = bh L o e (ev tm x) (ev tm (.const (.bool b))) (kv L P q z ds os d tm sto K) := iJ o e e' x _ rfl
theorem vj (o : BinOp) (e e' : TypeId) (x : Operand) (b : ByteArray) : vc L P q z ds (⟨d, .binOp o e x (.const (.string b)) e', ty, pos, af, none⟩ :: os) tm sto K = bh L o e (ev tm x) (ev tm (.const (.string b))) (kv L P q z ds os d tm sto K) := iJ o e e' x _ rfl
theorem vh (o : BinOp) (e e' : TypeId) (x : Operand) (b : Array Value) : vc L P q z ds (⟨d, .binOp o e x (.const (.agg b)) e', ty, pos, af, none⟩ :: os) tm sto K = bh L o e (ev tm x) (ev tm (.const (.agg b))) (kv L P q z ds os d tm sto K) := iJ o e e' x _ rfl
theorem Bc (e e' : TypeId) (x : Operand) (l c : Nat) : vc L P q z ds (⟨d, .binOp .eql e x (.const (.slice none l c)) e', ty, pos, af, none⟩ :: os) tm sto K = lZ L e (ev tm x) (kb L P q z ds os d tm sto K false) := by
 rw [vc]; rfl
theorem Bg (e e' : TypeId) (x : Operand) (l c : Nat) : vc L P q z ds (⟨d, .binOp .neq e x (.const (.slice none l c)) e', ty, pos, af, none⟩ :: os) tm sto K = lZ L e (ev tm x) (kb L P q z ds os d tm sto K true) := by
 rw [vc]; rfl
theorem DY (o : UnOp) (e : TypeId) (x : Operand) : vc L P q z ds (⟨d, .unOp o e x, ty, pos, af, none⟩ :: os) tm sto K = oN o (ev tm x) (kv L P q z ds os d tm sto K) := by rw [vc]; rfl
theorem vm (e e' : TypeId) (x : Operand) : vc L P q z ds (⟨d, .convert e e' x, ty, pos, af, none⟩ :: os) tm sto K = cU L e e' (ev tm x) (kv L P q z ds os d tm sto K) := by rw [vc]; rfl
theorem tT (f : Nat) (cap : Array Operand) : vc L P q z ds (⟨d, .makeFunc (.func f) #[] cap, ty, pos, af, none⟩ :: os) tm sto K = vc L P q z ds os (put d (.fn f (cap.toList.map (ev tm))) tm) sto K := by
 rw [vc]
 simp [aA, aO, cC]
theorem vo (e : TypeId) (n : Nat) : vc L P q z ds (⟨some n, .makeMap e none, ty, pos, af, none⟩ :: os) tm sto K = ((∃ k v, (L e).ty = .map k v) ∧ ∀ h, vc L P q z ds os ((n, .map n h) :: tm) (aF sto n (h, .mp [])) K) := by rw [vc]; rfl
theorem rL (e : TypeId) (l c : Operand) (n : Nat) : vc L P q z ds (⟨some n, .makeSlice e l c, ty, pos, af, none⟩ :: os) tm sto K = iI L n e (ev tm l) (ev tm c) sto (kvs L P q z ds os (some n) tm K) := by rw [vc]; rfl
theorem Bi (e : TypeId) (x : Operand) (lo hi mx : Option Operand) : vc L P q z ds (⟨d, .slice e x lo hi mx, ty, pos, af, none⟩ :: os) tm sto K = ((mx.isSome = true → hi.isSome = true) ∧ bY L e (ev tm x) (lo.map (ev tm)) (hi.map (ev tm)) (mx.map (ev tm)) sto (kv L P q z ds os d tm sto K)) := by rw [vc]; rfl
theorem rJ (e : TypeId) (x : Operand) (i : Nat) : vc L P q z ds (⟨d, .fieldAddr e x i, ty, pos, af, none⟩ :: os) tm sto K = cV (L e) (ev tm x) i (kv L P q z ds os d tm sto K) := by rw [vc]; rfl
theorem Bd (e : TypeId) (x : Operand) (i : Nat) : vc L P q z ds (⟨d, .field e x i, ty, pos, af, none⟩ :: os) tm sto K = ch L e (ev tm x) i (kv L P q z ds os d tm sto K) := by rw [vc]; rfl
theorem rK (e : TypeId) (x i : Operand) : vc L P q z ds (⟨d, .indexAddr e x i, ty, pos, af, none⟩ :: os) tm sto K = aE L e (ev tm x) (ev tm i) sto (kv L P q z ds os d tm sto K) := by rw [vc]; rfl
theorem Bf (e : TypeId) (x i : Operand) : vc L P q z ds (⟨d, .index e x i, ty, pos, af, none⟩ :: os) tm sto K = db L e (ev tm x) (ev tm i) (kv L P q z ds os d tm sto K) := by rw [vc]; rfl
theorem yz (e : TypeId) (m k : Operand) (ok : Bool) : vc L P q z ds (⟨d, .lookup e m k ok, ty, pos, af, none⟩ :: os) tm sto K = cO L e (ev tm m) (ev tm k) ok sto (kv L P q z ds os d tm sto K) := by rw [vc]; rfl
theorem rM (e : TypeId) (m k x : Operand) : vc L P q z ds (⟨none, .mapUpdate e m k x, ty, pos, af, none⟩ :: os) tm sto K = cn L e (ev tm m) (ev tm k) (ez (ev tm x)) sto (ks L P q z ds os none tm K) := by rw [vc]; rfl
theorem vn (x : Operand) (i : Nat) : vc L P q z ds (⟨d, .extract x i, ty, pos, af, none⟩ :: os) tm sto K = bV (ev tm x) i (kv L P q z ds os d tm sto K) := by rw [vc]; rfl
theorem vl (b : Builtin) (args : Array Operand) (ts : Array TypeId) (n : Nat) : vc L P q z ds (⟨some n, .call ⟨.builtin b, args, ts⟩, ty, pos, af, none⟩ :: os) tm sto K = bE L n b ts.toList (args.toList.map (ev tm)) sto (kvs L P q z ds os (some n) tm K) := by rw [vc]; rfl
theorem DU (c : Operand) (args : Array Operand) (ts : Array TypeId) : vc L P q z ds (⟨d, .call ⟨.value c, args, ts⟩, ty, pos, af, none⟩ :: os) tm sto K = cl P q (ev tm c) (args.toList.map (ev tm)) sto (kvs L P q z ds os d tm K) := by
 rw [vc]; rfl
theorem Lt {f : Nat} {cap args : List aa} {T : aa → Sto → Prop} : cl P false (.fn f cap) args sto T = ah P f (args ++ cap) sto T := Eq.trans rfl rfl
theorem Lu {f : Nat} {cap args : List aa} {T : aa → Sto → Prop} : cl P true (.fn f cap) args sto T = ∃ v, ah P f (args ++ cap) sto (fun r s => r = v ∧ s = sto) ∧ T v sto := Eq.trans rfl rfl
theorem HW (n : Nat) : ev tm (.tmp n) = lk tm n := Eq.trans rfl rfl
theorem zp (v : Value) : ev tm (.const v) = ofConst v := Eq.trans rfl rfl
theorem B8 (f : Nat) : ev tm (.func f) = .fn f [] := Eq.trans rfl rfl
theorem Jl (k : IntKind) (n : Int) : ofConst (.int k n) = .int k n := Eq.trans rfl rfl
theorem Dj (b : Bool) : ofConst (.bool b) = .bool b := Eq.trans rfl rfl
theorem Jo (s : ByteArray) : ofConst (.string s) = .str s := Eq.trans rfl rfl
theorem Jn : ofConst (.pointer none) = .nil := Eq.trans rfl rfl
theorem Mi : ofConst (.slice none 0 0) = .sl true true [] := Eq.trans rfl rfl
theorem Jm : ofConst (.map none) = .nilmap := Eq.trans rfl rfl
theorem Mh : ofConst .nilFunc = .nilfn := Eq.trans rfl rfl
theorem Jk (l : List Value) : ofConst (.agg ⟨l⟩) = .agg (l.map bf) := Eq.trans rfl rfl
theorem Dg (k : IntKind) (n : Int) : bf (.int k n) = .int k n := Eq.trans rfl rfl
theorem Ai (b : Bool) : bf (.bool b) = .bool b := Eq.trans rfl rfl
theorem Di (s : ByteArray) : bf (.string s) = .str s := Eq.trans rfl rfl
theorem Dh : bf (.pointer none) = .nil := Eq.trans rfl rfl
theorem Jj : bf (.slice none 0 0) = .sl true true [] := Eq.trans rfl rfl
theorem IP (n : Nat) (v : aa) : lk ((n, v) :: tm) n = v := by simp [lk]
theorem CR (m n : Nat) (v : aa) (h : m ≠ n) : lk ((m, v) :: tm) n = lk tm n := by simp [lk, h]
theorem IQ (n : Nat) : lk [] n = .undef := Eq.trans rfl rfl
theorem AM (n : Nat) (v : Nat × bc) : ak ((n, v) :: sto) n = some v := by simp [ak]
theorem yc (m n : Nat) (v : Nat × bc) (h : m ≠ n) : ak ((m, v) :: sto) n = ak sto n := by simp [ak, h]
theorem AN (n : Nat) : ak [] n = none := Eq.trans rfl rfl
theorem AS (n : Nat) (v : Nat × bc) : aF [] n v = [(n, v)] := Eq.trans rfl rfl
theorem AR (n : Nat) (x v : Nat × bc) : aF ((n, x) :: sto) n v = (n, v) :: sto := by simp [aF]
theorem DG (m n : Nat) (x v : Nat × bc) (h : n < m) : aF ((m, x) :: sto) n v = (n, v) :: (m, x) :: sto := by simp [aF, h, Nat.ne_of_gt h]
theorem DF (m n : Nat) (x v : Nat × bc) (h : m < n) : aF ((m, x) :: sto) n v = (m, x) :: aF sto n v := by simp [aF, Nat.ne_of_lt h, Nat.not_lt.2 (Nat.le_of_lt h)]
theorem AI (n : Nat) : ca [] n = [] := Eq.trans rfl rfl
theorem AH (n : Nat) (x : Nat × bc) : ca ((n, x) :: sto) n = ca sto n := by simp [ca]
theorem yb (m n : Nat) (x : Nat × bc) (h : m ≠ n) : ca ((m, x) :: sto) n = (m, x) :: ca sto n := by simp [ca, h]
end
theorem Az (v : aa) : gV [v] = v := Eq.trans rfl rfl
theorem Ay : gV [] = .tup [] := Eq.trans rfl rfl
theorem xY (u v : aa) (l : List aa) : gV (u :: v :: l) = .tup (u :: v :: l) := Eq.trans rfl rfl
theorem yu {tm : Tm} {sto : Sto} {T : List aa → Prop} : cG L [] tm sto T = T [] := Eq.trans rfl rfl
theorem yv {tm : Tm} {sto : Sto} {T : List aa → Prop} (t : Nat) (rs : List ResultVar) : cG L (.tmp t :: rs) tm sto T = cG L rs tm sto fun vs => T (lk tm t :: vs) := Eq.trans rfl rfl
theorem vg {tm : Tm} {sto : Sto} {T : List aa → Prop} (a t : Nat) (rs : List ResultVar) : cG L (.cell a t :: rs) tm sto T = ((L t).ty ≠ .other ∧ bM L t (lk tm a) sto fun v => cG L rs tm sto fun vs => T (v :: vs)) := Eq.trans rfl rfl
theorem ae.ret' {f : Nat} {fn : Func} {k : List Item} {tm : Tm} {sto : Sto} {R : aa → Sto → Prop} (hL : LOk P L) (rs : List ResultVar) (hr : fn.results.toList = rs) (h : cG L rs tm sto fun vs => R (gV vs) sto) :
  ae P f fn [] (.code .ret :: k) tm sto R := .ret hL (fun d hd => by simp at hd) (by rw [ky, hr]; exact h)
theorem ae.Eg {f : Nat} {fn : Func} {tm : Tm} {sto : Sto} {R : aa → Sto → Prop} (hL : LOk P L) (rs : List ResultVar) (hr : fn.results.toList = rs) (h : cG L rs tm sto fun vs => R (gV vs) sto) :
  ae P f fn [] [] tm sto R := .done hL (fun d hd => by simp at hd) (by rw [ky, hr]; exact h)
theorem ae.reg {f : Nat} {fn : Func} {df : List dt} {k : List Item} {tm : Tm} {sto : Sto} {R : aa → Sto → Prop} (hL : LOk P L) (z : List Nat) {id : Nat} {ops : List Oper} (ps : List Nat) (hok : aT L fn.ntmps ops = true)
  (h : ∀ K : Tm → Sto → Prop, (∀ tm' sto', ae P f fn df k (Rad.prune ps tm') sto' R → K tm' sto') → vc L P false z (ops.map (·.dst)) ops tm sto K) : ae P f fn df (.code (.region id ops.toArray false) :: k) tm sto R :=
 .region hL ps hok (h _ fun _ _ h => h)
end Go.Rad
