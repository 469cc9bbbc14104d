/- The reduction of one operation is sound. -/
import Derived.Test.YtejdlelhlpnabaaDoorKROps1
set_option linter.all false
namespace Go.Rad
open Go
variable {P : Program} {L : Lay}

def constOk1 : Value → Bool
  | .int k n => decide (k.min ≤ n ∧ n ≤ k.max)
  | .string s => decide (s.size ≤ maxLen)
  | _ => true

def constOk : Value → Bool
  | .agg cs => cs.toList.all fun c => constOk1 c && (ofConst1 c).isCell
  | v => constOk1 v

def operandOk : Operand → Bool
  | .const v => constOk v
  | _ => true

theorem const1urep {G : Gh} {v : Value} (h : constOk1 v = true) : Rep G true (ofConst1 v) v := by
  unfold ofConst1
  split
  · exact .bool
  · simp only [constOk1, decide_eq_true_eq] at h; exact .int h
  · simp only [constOk1, decide_eq_true_eq] at h; exact .str h
  · exact .nil
  · exact .slnil fun _ => rfl
  · exact .nilmap
  · exact .nilfn
  · exact .undef

theorem const_rep {G : Gh} {v : Value} (h : constOk v = true) : Rep G true (ofConst v) v := by
  unfold ofConst
  split
  · rename_i cs
    simp only [constOk] at h
    have hall := List.all_eq_true.1 h
    have hg : ∀ (j : Nat) (x : AVal), (cs.toList.map ofConst1)[j]? = some x → x.isCell = true ∧ Rep G true x (cs.getD j undef) := by
      intro j x hx
      rw [List.getElem?_map] at hx
      cases hc : cs.toList[j]? with
      | none => rw [hc] at hx; cases hx
      | some c =>
        rw [hc] at hx
        simp only [Option.map_some, Option.some.injEq] at hx
        subst hx
        have := hall c (List.mem_of_getElem? hc)
        simp only [Bool.and_eq_true] at this
        have e : cs.getD j undef = c := by
          simp only [Array.getElem?_toList] at hc
          simp [hc]
        rw [e]
        exact ⟨this.2, const1urep this.1⟩
    exact .agg (by simp) (fun j x hx => (hg j x hx).1) (fun j x hx => (hg j x hx).2)
  · rename_i hne
    refine const1urep ?_
    unfold constOk at h
    split at h
    · exact absurd rfl (hne _)
    · exact h

theorem ev_rep {G : Gh} {w : World} {tm : Tm} {a : Act} (hw : WOk G w) (h : TmOk G tm a.tmps) {x : Operand} (hx : operandOk x = true) : Rep G true (ev tm x) (a.eval x) := by
  cases x with
  | tmp t => exact h t
  | const v => exact const_rep hx
  | global g =>
    simp only [ev]
    cases hg : globU8 g with
    | none => exact .undef
    | some l => exact hw.T g l hg
  | func f => exact .fn rfl fun j x hx => by simp at hx

def opOk (L : Lay) (o : Op) : Bool :=
  o.operands.all operandOk &&
  match o with
  | .alloc t | .box t _ | .build t _ | .load t _ | .store t _ _ | .convert _ t _ | .makeSlice t _ _ | .buildSlice t _ _ | .slice t _ _ _ _ | .fieldAddr t _ _ | .field t _ _ | .indexAddr t _ _ | .index t _ _
  | .lookup t _ _ _ | .mapUpdate t _ _ _ | .binOp _ t _ _ _ => (L t).ty != .other
  | .call ⟨.builtin _, _, ts⟩ => ts.toList.all fun t => (L t).ty != .other
  | _ => true

def OpRuns (P : Program) (o : Oper) (ρ : Operand → Value) (G : Gh) (w : World) (T : AVal → Sto → Prop) : Prop :=
  ∃ G' w' v r sto', ((execOp ρ o).run P w = .ok (.value v) w' ∨ (execOp ρ o).run P w = .ok .skip w' ∧ v = undef) ∧ Ext G G' ∧ WOk G' w' ∧ StoOk G' w' sto' ∧ Rep G' true r v ∧ T r sto'

theorem OpRuns.of {o : Oper} {ρ : Operand → Value} {s : Sem Value} {G : Gh} {w : World} {T : AVal → Sto → Prop} (he : execOp ρ o = (do pure (.value (← s)))) (h : Runs P s G w T) : OpRuns P o ρ G w T := by
  obtain ⟨G', w', v, r, sto', h1, h2⟩ := h
  exact ⟨G', w', v, r, sto', .inl (by rw [he]; simp [h1]), h2⟩

theorem OpRuns.ofU {o : Oper} {ρ : Operand → Value} {s : Sem Unit} {G : Gh} {w : World} {T : AVal → Sto → Prop} (he : execOp ρ o = (do s; pure .skip)) (h : RunsU P s G w fun sto => T .undef sto) : OpRuns P o ρ G w T := by
  obtain ⟨w', sto', h1, h2, h3, h4⟩ := h
  exact ⟨G, w', undef, .undef, sto', .inr ⟨by rw [he]; simp [h1], rfl⟩, .refl G, h2, h3, .undef, h4⟩

theorem Runs.same {s : Sem Value} {G : Gh} {w : World} {sto : Sto} {T : AVal → Sto → Prop} {T' : AVal → Prop} (h : Runs P s G w fun r s => T' r ∧ s = sto) (hT : ∀ r, T' r → T r sto) : Runs P s G w T := by
  obtain ⟨G', w', v, r, sto', h1, h2, h3, h4, h5, h6, rfl⟩ := h
  exact ⟨G', w', v, r, _, h1, h2, h3, h4, h5, hT r h6⟩

theorem parts_rep {G : Gh} {w : World} {tm : Tm} {a : Act} (hw : WOk G w) (h : TmOk G tm a.tmps) : ∀ (ps : List (Nat × Operand)), (∀ p ∈ ps, operandOk p.2 = true) →
    PartsRep G (ps.map fun p => (p.1, ev tm p.2)) (ps.map fun (i, x) => (i, a.eval x))
  | [], _ => trivial
  | p :: ps, hp => ⟨rfl, ev_rep hw h (hp p (by simp)), parts_rep hw h ps fun q hq => hp q (by simp [hq])⟩

theorem opt_rep {G : Gh} {w : World} {tm : Tm} {a : Act} (hw : WOk G w) (h : TmOk G tm a.tmps) {x : Option Operand} (hx : ∀ y, x = some y → operandOk y = true) : OptRep G (x.map (ev tm)) (x.map a.eval) := by
  cases x with
  | none => trivial
  | some y => exact ev_rep hw h (hx y rfl)

theorem zero_len (hL : LOk P L) {t e : Nat} (ht : (L t).ty ≠ .other) : (L t).ty = .slice e → (L e).zero.length = (L e).sz := by
  intro he
  obtain ⟨i, d, z, k⟩ := hL.known ht
  obtain ⟨_, heo⟩ := desc_slice k he
  obtain ⟨i2, d2, z2, k2⟩ := hL.known heo
  exact k2.zlen

theorem bin_sound (hL : LOk P L) {op : BinOp} {t : Nat} (ht : (L t).ty ≠ .other) {x y : AVal} {v u : Value} {x0 y0 : Operand} {T : AVal → Prop} {G : Gh} {w : World} {sto : Sto} (hw : WOk G w) (hs : StoOk G w sto) (hx : Rep G true x v) (hy : Rep G true y u)
    (h : vcBin L op t x y T) : Runs P (do eqGuard op t x0 y0 v u; binOp op t v u) G w fun r s => T r ∧ s = sto := by
  have gen : (eqGuard op t x0 y0 v u).run P w = .ok () w → Runs P (binOp op t v u) G w (fun r s => T r ∧ s = sto) → Runs P (do eqGuard op t x0 y0 v u; binOp op t v u) G w fun r s => T r ∧ s = sto := by
    intro h1 h2
    obtain ⟨G', w', v', r, sto', a1, a2⟩ := h2
    exact ⟨G', w', v', r, sto', by simp [h1, a1], a2⟩
  unfold vcBin at h
  split at h
  · rename_i k a k' b
    obtain ⟨rfl, ha⟩ := Rep.int_inv' hx
    obtain ⟨rfl, _⟩ := Rep.int_inv' hy
    exact gen (by simp [eqGuard]) (shift_sound hw hs (.inl rfl) ha h)
  · rename_i k a k' b
    obtain ⟨rfl, ha⟩ := Rep.int_inv' hx
    obtain ⟨rfl, _⟩ := Rep.int_inv' hy
    exact gen (by simp [eqGuard]) (shift_sound hw hs (.inr rfl) ha h)
  · rename_i k a k' b hn1 hn2
    obtain ⟨rfl, ha⟩ := Rep.int_inv' hx
    obtain ⟨rfl, _⟩ := Rep.int_inv' hy
    obtain ⟨rfl, h⟩ := h
    exact gen (by cases op <;> simp [eqGuard]) (int_sound hw hs ⟨fun e => hn1 e, fun e => hn2 e⟩ ha h)
  · rename_i a b
    obtain ⟨rfl, ha⟩ := Rep.str_inv' hx
    obtain ⟨rfl, _⟩ := Rep.str_inv' hy
    exact gen (by cases op <;> simp [eqGuard]) (str_sound hw hs h)
  · rename_i a b
    have := Rep.bool_inv' hx; subst this
    have := Rep.bool_inv' hy; subst this
    obtain ⟨hty, hT⟩ := h
    obtain ⟨i, d, z, k⟩ := hL.known ht
    have hd : d = .bool := by
      have := k.desc
      rw [hty] at this
      cases d <;> simp [descIs] at this <;> rfl
    subst hd
    refine gen (by simp [eqGuard]) (Runs.pure hw hs (v := .bool (a == b)) ?_ .bool ⟨hT, rfl⟩)
    have hr : (Op.equal t (.bool a) (.bool b)).run P w = .ok (a == b) w := by
      show (Op.equalIn (9999 + 1) t (.bool a) (.bool b)).run P w = _
      rw [Op.equalIn]
      simp [run_underlying k.und]
    simp only [binOp, Sem.run_bind, hr, Result.andThen_ok, Sem.run_pure]
  · rename_i a b
    have := Rep.bool_inv' hx; subst this
    have := Rep.bool_inv' hy; subst this
    obtain ⟨hty, hT⟩ := h
    obtain ⟨i, d, z, k⟩ := hL.known ht
    have hd : d = .bool := by
      have := k.desc
      rw [hty] at this
      cases d <;> simp [descIs] at this <;> rfl
    subst hd
    refine gen (by simp [eqGuard]) (Runs.pure hw hs (v := .bool (!(a == b))) ?_ .bool ⟨hT, rfl⟩)
    have hr : (Op.equal t (.bool a) (.bool b)).run P w = .ok (a == b) w := by
      show (Op.equalIn (9999 + 1) t (.bool a) (.bool b)).run P w = _
      rw [Op.equalIn]
      simp [run_underlying k.und]
    simp only [binOp, Sem.run_bind, hr, Result.andThen_ok, Sem.run_pure]
  · rename_i a b
    have := eqAgg_sound (neg := false) (x0 := x0) (y0 := y0) hL ht hw hs hx hy h
    obtain ⟨G', w', v', r, sto', a1, a2, a3, a4, a5, ⟨b, rfl, hb⟩, a7⟩ := this
    exact ⟨G', w', v', _, sto', a1, a2, a3, a4, a5, hb, a7⟩
  · rename_i a b
    have := eqAgg_sound (neg := true) (x0 := x0) (y0 := y0) hL ht hw hs hx hy h
    obtain ⟨G', w', v', r, sto', a1, a2, a3, a4, a5, ⟨b, rfl, hb⟩, a7⟩ := this
    exact ⟨G', w', v', _, sto', a1, a2, a3, a4, a5, hb, a7⟩
  · exact h.elim

theorem two_of_map {α β : Type} {f : α → β} {l : List α} {u v : β} (h : l.map f = [u, v]) : ∃ x y, l = [x, y] ∧ f x = u ∧ f y = v := by
  match l, h with
  | [x, y], h => simp at h; exact ⟨x, y, rfl, h.1, h.2⟩
  | [], h => simp at h
  | [_], h => simp at h
  | _ :: _ :: _ :: _, h => simp at h

set_option maxHeartbeats 4000000 in
theorem vcOp_sound (hL : LOk P L) {o : Oper} {tm : Tm} {sto : Sto} {d : Nat} {T : AVal → Sto → Prop} {a : Act} {G : Gh} {w : World} (hw : WOk G w) (hs : StoOk G w sto) (ht : TmOk G tm a.tmps) (hok : opOk L o.op = true)
    (h : vcOp L tm sto d T o.op) : OpRuns P o a.eval G w T := by
  obtain ⟨dst, op, type, pos, after, guard⟩ := o
  simp only [opOk, Bool.and_eq_true] at hok
  obtain ⟨hops, hty⟩ := hok
  have hops' : ∀ x ∈ op.operands, operandOk x = true := fun x hx => by
    have := Array.all_eq_true'.1 hops x hx
    exact this
  cases op <;> simp only [vcOp] at h
  case move x => exact OpRuns.of (s := pure (a.eval x)) (by simp [execOp]) (Runs.pure hw hs rfl (ev_rep hw ht (hops' x (by simp [Op.operands]))) h)
  case assign x => exact OpRuns.of (s := pure (a.eval x)) (by simp [execOp]) (Runs.pure hw hs rfl (ev_rep hw ht (hops' x (by simp [Op.operands]))) h)
  case pick c x y =>
    split at h
    · rename_i b hb
      have hc := ev_rep hw ht (hops' c (by simp [Op.operands]))
      rw [hb] at hc
      have hcv := Rep.bool_inv' hc
      cases b with
      | true => exact OpRuns.of (s := pure (a.eval x)) (by simp [execOp, hcv, asBool]) (Runs.pure hw hs rfl (ev_rep hw ht (hops' x (by simp [Op.operands]))) (h.1 rfl))
      | false => exact OpRuns.of (s := pure (a.eval y)) (by simp [execOp, hcv, asBool]) (Runs.pure hw hs rfl (ev_rep hw ht (hops' y (by simp [Op.operands]))) (h.2 rfl))
    · exact h.elim
  case alloc t => exact OpRuns.of (s := Instr.alloc t true (.tuple #[])) rfl (alloc_sound hL (by simpa using hty) hw hs h)
  case box t x => exact OpRuns.of (s := Instr.box t (a.eval x)) rfl (box_sound hw hs (ev_rep hw ht (hops' x (by simp [Op.operands]))) h)
  case build t ps =>
    exact OpRuns.of (s := Instr.build t (ps.map fun (i, x) => (i, a.eval x))) rfl (build_sound hL (by simpa using hty) hw hs (by
      rw [Array.toList_map]; exact parts_rep hw ht ps.toList fun p hp => hops' _ (by simp only [Op.operands]; simp; exact ⟨p.1, by simpa using hp⟩)) h)
  case buildSlice t n ps =>
    exact OpRuns.of (s := Instr.buildSlice t n (ps.map fun (i, x) => (i, a.eval x))) rfl (buildSlice_sound hL (by simpa using hty) hw hs (by
      rw [Array.toList_map]; exact parts_rep hw ht ps.toList fun p hp => hops' _ (by simp only [Op.operands]; simp; exact ⟨p.1, by simpa using hp⟩)) (fun e => zero_len hL (by simpa using hty)) h)
  case load t x => exact OpRuns.of (s := Instr.loadAt t (a.eval x)) rfl ((load_sound hL (by simpa using hty) hw hs (ev_rep hw ht (hops' x (by simp [Op.operands]))) h).same fun r hr => hr)
  case store t x y => exact OpRuns.ofU (s := Instr.storeAt t (a.eval x) (a.eval y)) rfl (store_soundN hL (by simpa using hty) hw hs (ev_rep hw ht (hops' x (by simp [Op.operands]))) (ev_rep hw ht (hops' y (by simp [Op.operands]))) h)
  case nilCheck x =>
    have hx := ev_rep hw ht (hops' x (by simp [Op.operands]))
    split at h
    · rename_i he; rw [he] at hx
      obtain ⟨b, cap, esz, hM, hv⟩ := hx.box_inv
      exact OpRuns.of (s := pure (a.eval x)) (by simp [execOp, hv]) (Runs.pure hw hs rfl hx h)
    · rename_i he; rw [he] at hx
      obtain ⟨b, cap, esz, hM, hv⟩ := hx.loc_inv
      exact OpRuns.of (s := pure (a.eval x)) (by simp [execOp, hv]) (Runs.pure hw hs rfl hx h)
    · rename_i he; rw [he] at hx
      obtain ⟨b, off, c, e, fr, hv, _⟩ := Rep.ref_inv' hx
      exact OpRuns.of (s := pure (a.eval x)) (by simp [execOp, hv]) (Runs.pure hw hs rfl hx h)
    · rename_i he; rw [he] at hx
      have hx' := hx
      generalize hv : a.eval x = vv at hx'
      cases hx' with
      | fn h1 h2 => exact OpRuns.of (s := pure (a.eval x)) (by simp [execOp, hv]) (Runs.pure hw hs rfl hx h)
    · exact h.elim
  case binOp op xt x y yt =>
    have hx := ev_rep hw ht (hops' x (by simp [Op.operands]))
    have hy := ev_rep hw ht (hops' y (by simp [Op.operands]))
    have hto : (L xt).ty ≠ .other := by simpa using hty
    by_cases hn : isNilSlice y = true
    · rw [if_pos hn] at h
      obtain ⟨l0, c0, rfl⟩ : ∃ l0 c0, y = .const (.slice none l0 c0) := by
        unfold isNilSlice at hn
        split at hn
        · exact ⟨_, _, rfl⟩
        · cases hn
      split at h
      · have hns := nil_sound (neg := false) (l0 := l0) (c0 := c0) hL hto hw hs hx h
        obtain ⟨G', w', v', r, sto', a1, a2, a3, a4, a5, ⟨b, rfl, hb⟩, rfl⟩ := hns
        refine ⟨G', w', v', _, _, .inl ?_, a2, a3, a4, a5, hb⟩
        have hg : ∀ v : Value, (eqGuard .eql xt x (.const (.slice none l0 c0)) v (.slice none l0 c0)).run P w = .ok () w := by intro v; cases v <;> simp [eqGuard]
        have hcv : a.eval (.const (.slice none l0 c0)) = .slice none l0 c0 := rfl
        simp only [Bool.false_eq_true, if_false] at a1
        simp only [execOp, hcv, Sem.run_bind, hg, Result.andThen_ok, a1, Sem.run_pure]
      · have hns := nil_sound (neg := true) (l0 := l0) (c0 := c0) hL hto hw hs hx h
        obtain ⟨G', w', v', r, sto', a1, a2, a3, a4, a5, ⟨b, rfl, hb⟩, rfl⟩ := hns
        refine ⟨G', w', v', _, _, .inl ?_, a2, a3, a4, a5, hb⟩
        have hg : ∀ v : Value, (eqGuard .neq xt x (.const (.slice none l0 c0)) v (.slice none l0 c0)).run P w = .ok () w := by intro v; cases v <;> simp [eqGuard]
        have hcv : a.eval (.const (.slice none l0 c0)) = .slice none l0 c0 := rfl
        simp only [if_true] at a1
        simp only [execOp, hcv, Sem.run_bind, hg, Result.andThen_ok, a1, Sem.run_pure]
      · exact h.elim
    · rw [if_neg hn] at h
      exact OpRuns.of (s := do eqGuard op xt x y (a.eval x) (a.eval y); binOp op xt (a.eval x) (a.eval y)) rfl ((bin_sound hL hto hw hs hx hy h).same fun r hr => hr)
  case unOp op t x => exact OpRuns.of (s := Op.unary op (a.eval x)) rfl ((unary_sound hw hs (ev_rep hw ht (hops' x (by simp [Op.operands]))) h).same fun r hr => hr)
  case convert s t x => exact OpRuns.of (s := convert s t (a.eval x)) rfl ((convert_sound hL (by simpa using hty) hw hs (ev_rep hw ht (hops' x (by simp [Op.operands]))) h).same fun r hr => hr)
  case makeFunc fn first cap =>
    cases fn <;> simp only at h
    case func f =>
      obtain ⟨rfl, hT⟩ := h
      refine OpRuns.of (s := Instr.makeFunc (.func f) (#[].map a.eval) (cap.map a.eval)) rfl (Runs.pure hw hs (v := .func (.func f) #[] (cap.map a.eval)) (by simp [Instr.makeFunc]) (.fn (by simp) fun j x hx => ?_) hT)
      rw [List.getElem?_map] at hx
      cases hc : cap.toList[j]? with
      | none => rw [hc] at hx; cases hx
      | some y =>
        rw [hc] at hx
        simp only [Option.map_some, Option.some.injEq] at hx
        subst hx
        have hy := ev_rep hw ht (hops' y (by
          have := List.mem_of_getElem? hc
          simp only [Op.operands, Array.mem_append]
          exact .inr (by simpa using this)))
        have e : (cap.map a.eval).getD j undef = a.eval y := by
          simp only [Array.getElem?_toList] at hc
          simp [hc]
        rw [e]; exact hy
    all_goals exact h.elim
  case makeMap t r =>
    cases r with
    | some _ => exact h.elim
    | none => exact OpRuns.of (s := Instr.makeMap t none) rfl (makeMap_sound hw hs h.2)
  case makeSlice t l c => exact OpRuns.of (s := Instr.makeSlice t (a.eval l) (a.eval c)) rfl (make_sound hL (by simpa using hty) hw hs (ev_rep hw ht (hops' l (by simp [Op.operands]))) (ev_rep hw ht (hops' c (by simp [Op.operands]))) (fun e => zero_len hL (by simpa using hty)) h)
  case slice t x lo hi mx =>
    refine OpRuns.of (s := Instr.sliceAt t (a.eval x) (lo.map a.eval) (hi.map a.eval) (mx.map a.eval)) rfl ((slice_sound hL (by simpa using hty) hw hs (ev_rep hw ht (hops' x (by simp [Op.operands]))) (opt_rep hw ht ?_) (opt_rep hw ht ?_) (opt_rep hw ht ?_) (by simpa using h.1) h.2).same fun r hr => hr)
    · rintro y rfl; exact hops' y (by simp [Op.operands])
    · rintro y rfl; exact hops' y (by simp [Op.operands])
    · rintro y rfl; exact hops' y (by simp [Op.operands])
  case fieldAddr t x f => exact OpRuns.of (s := Instr.fieldAt t (a.eval x) f) rfl ((fieldAddr_sound hL (by simpa using hty) hw hs (ev_rep hw ht (hops' x (by simp [Op.operands]))) h).same fun r hr => hr)
  case field t x f => exact OpRuns.of (s := Instr.field t (a.eval x) f) rfl ((fieldOf_sound hL (by simpa using hty) hw hs (ev_rep hw ht (hops' x (by simp [Op.operands]))) h).same fun r hr => hr)
  case indexAddr t x y => exact OpRuns.of (s := Instr.indexAt t (a.eval x) (a.eval y)) rfl ((indexAddr_sound hL (by simpa using hty) hw hs (ev_rep hw ht (hops' x (by simp [Op.operands]))) (ev_rep hw ht (hops' y (by simp [Op.operands]))) h).same fun r hr => hr)
  case index t x y => exact OpRuns.of (s := Instr.index t (a.eval x) (a.eval y)) rfl ((index_sound hL (by simpa using hty) hw hs (ev_rep hw ht (hops' x (by simp [Op.operands]))) (ev_rep hw ht (hops' y (by simp [Op.operands]))) h).same fun r hr => hr)
  case lookup t m k ok => exact OpRuns.of (s := Instr.lookup t (a.eval m) (a.eval k) ok) rfl ((lookup_sound hL (by simpa using hty) hw hs (ev_rep hw ht (hops' m (by simp [Op.operands]))) (ev_rep hw ht (hops' k (by simp [Op.operands]))) h).same fun r hr => hr)
  case mapUpdate t m k x => exact OpRuns.ofU (s := Instr.mapUpdate t (a.eval m) (a.eval k) (a.eval x)) rfl (mapUpdate_sound hL (by simpa using hty) hw hs (ev_rep hw ht (hops' m (by simp [Op.operands]))) (ev_rep hw ht (hops' k (by simp [Op.operands]))) (ev_rep hw ht (hops' x (by simp [Op.operands]))).nrmV h)
  case extract x i => exact OpRuns.of (s := Instr.extract (a.eval x) i) rfl ((extract_sound hw hs (ev_rep hw ht (hops' x (by simp [Op.operands]))) h).same fun r hr => hr)
  case call c =>
    obtain ⟨callee, args, ts⟩ := c
    cases callee with
    | builtin b =>
      simp only at h
      have hargs : ∀ x ∈ args.toList, operandOk x = true := fun x hx => hops' x (by simp only [Op.operands, Call.operands, Array.mem_append]; exact .inr (by simpa using hx))
      obtain ⟨args⟩ := args
      obtain ⟨ts⟩ := ts
      simp only at h hargs hty
      unfold vcBuiltin at h
      split at h
      · rename_i t0 x0 h2
        obtain ⟨x, rfl⟩ : ∃ x, args = [x] := by
          cases args with
          | nil => simp at h2
          | cons x xs => cases xs with
            | nil => exact ⟨x, rfl⟩
            | cons => simp at h2
        simp at h2
        subst h2
        exact OpRuns.of (s := Builtin.len_ #[t0] type #[a.eval x]) (by simp [execOp, resolve, invoke, builtin]) ((len_sound hL (by simpa using hty) hw hs (ev_rep hw ht (hargs x (by simp))) h).same fun r hr => hr)
      · rename_i t0 t1 x0 x1 h2
        obtain ⟨x, y, rfl, rfl, rfl⟩ := two_of_map h2
        have ht0 : (L t0).ty ≠ .other := by simp at hty; exact hty.1
        exact OpRuns.of (s := Builtin.append_ #[t0, t1] type #[a.eval x, a.eval y]) (by simp [execOp, resolve, invoke, builtin]) (append_sound hL ht0 hw hs (ev_rep hw ht (hargs x (by simp))) (ev_rep hw ht (hargs y (by simp))) (fun e => zero_len hL ht0) h)
      · rename_i k n k' m h2
        obtain ⟨x, y, rfl, hx1, hx2⟩ := two_of_map h2
        have e1 := ev_rep hw ht (hargs x (by simp)); rw [hx1] at e1
        have e2 := ev_rep hw ht (hargs y (by simp)); rw [hx2] at e2
        obtain ⟨v1, f1⟩ := Rep.int_inv' e1
        obtain ⟨v2, f2⟩ := Rep.int_inv' e2
        obtain ⟨rfl, hT⟩ := h
        exact OpRuns.of (s := Builtin.max_ _ type #[.int k n, .int k m]) (by simp [execOp, resolve, invoke, builtin, v1, v2]; rfl) (max2usound hw hs f1 f2 hT)
      · rename_i k n k' m h2
        obtain ⟨x, y, rfl, hx1, hx2⟩ := two_of_map h2
        have e1 := ev_rep hw ht (hargs x (by simp)); rw [hx1] at e1
        have e2 := ev_rep hw ht (hargs y (by simp)); rw [hx2] at e2
        obtain ⟨v1, f1⟩ := Rep.int_inv' e1
        obtain ⟨v2, f2⟩ := Rep.int_inv' e2
        obtain ⟨rfl, hT⟩ := h
        exact OpRuns.of (s := Builtin.min_ _ type #[.int k n, .int k m]) (by simp [execOp, resolve, invoke, builtin, v1, v2]; rfl) (min2usound hw hs f1 f2 hT)
      · exact h.elim
    | _ => exact h.elim
  all_goals first | exact h.elim | contradiction
end Go.Rad
