/- Regions, calls and returns in the logic. -/
import Derived.Test.YtejdlelhlpnabaaDoorKRLogic
set_option linter.all false
namespace Go.Rad
open Go
variable {P : Program} {L : Lay}

structure Sim (E : Gh) (nt : Nat) (ds : List Deferred) (tm : Tm) (sto : Sto) (a : Act) (w : World) (G : Gh) : Prop where
  ext : Ext E G
  wok : WOk G w
  sok : StoOk G w sto
  tok : TmOk G tm a.tmps
  n : a.tmps.size = nt
  d : a.defers = ds

def okOps (L : Lay) (nt : Nat) (ops : List Oper) : Bool := ops.all fun o => opOk L o.op && (match o.dst with | some d => decide (d < nt) | none => true) && (match o.op with | .call c => c.operands.all operandOk | _ => true)

theorem Sim.put {E G G' : Gh} {nt : Nat} {ds : List Deferred} {tm : Tm} {sto sto' : Sto} {a : Act} {w w' : World} (h : Sim E nt ds tm sto a w G) {d : Option Nat} {r : AVal} {v : Value} (hx : Ext G G') (hw : WOk G' w') (hs : StoOk G' w' sto')
    (hd : (match d with | some d => decide (d < nt) | none => true) = true) (hr : Rep G' true r v) : Sim E nt ds (put d r tm) sto' (a.put d v) w' G' := by
  refine ⟨h.ext.trans hx, hw, hs, ?_, ?_, ?_⟩
  · cases d with
    | none => exact h.tok.mono hx.toMono
    | some d => exact (h.tok.mono hx.toMono).put (by simpa [h.n] using hd) hr
  · cases d <;> simp [Act.put, h.n]
  · cases d <;> simp [Act.put, h.d]

theorem yielded_bool {G : Gh} {tm : Tm} {a : Act} (ht : TmOk G tm a.tmps) {ops : List Oper} {j t : Nat} {b : Bool} (hj : (ops.map (·.dst))[j]? = some (some t)) (hb : lk tm t = .bool b) : yielded ops.toArray a.tmps j = some b := by
  have hr := ht t
  rw [hb] at hr
  have hv := Rep.bool_inv' hr
  have hlt : t < a.tmps.size := by
    rcases Nat.lt_or_ge t a.tmps.size with h | h
    · exact h
    · exfalso
      have : a.tmps.getD t undef = undef := by simp [Array.getD, Nat.not_lt.2 h]
      rw [this] at hv
      cases hv
  have hv' : a.tmps[t]? = some (.bool b) := by
    rw [Array.getElem?_eq_getElem hlt]
    simp only [Array.getD_eq_getD_getElem?, Array.getElem?_eq_getElem hlt, Option.getD_some] at hv
    rw [hv]
  have hj' : (ops[j]?).bind (·.dst) = some t := by
    rw [List.getElem?_map] at hj
    cases ho : ops[j]? with
    | none => rw [ho] at hj; cases hj
    | some o => rw [ho] at hj; simpa using hj
  simp [yielded, hj', hv']

theorem yielded_none {G : Gh} {tm : Tm} {a : Act} (ht : TmOk G tm a.tmps) {ops : List Oper} {j t : Nat} (hj : (ops.map (·.dst))[j]? = some (some t)) (hb : lk tm t = .tup []) : yielded ops.toArray a.tmps j = none := by
  have hr := ht t
  rw [hb] at hr
  have hj' : (ops[j]?).bind (·.dst) = some t := by
    rw [List.getElem?_map] at hj
    cases ho : ops[j]? with
    | none => rw [ho] at hj; cases hj
    | some o => rw [ho] at hj; simpa using hj
  unfold yielded
  simp only [List.getElem?_toArray, hj', Option.bind_some]
  cases hv : a.tmps[t]? with
  | none => rfl
  | some v =>
    have e : a.tmps.getD t undef = v := by simp [hv]
    rw [e] at hr
    cases hr
    rfl

theorem step_sound (hL : LOk P L) {E G : Gh} {nt : Nat} {ds : List Deferred} {o : Oper} {tm : Tm} {sto : Sto} {a : Act} {w : World} {T : AVal → Sto → Prop} {K : Act → World → Prop} {Q : Exit → Act → World → Prop} (hsim : Sim E nt ds tm sto a w G)
    (hok : okOps L nt [o] = true) {q : Bool} {z : List Nat} (h : vcStep L P q z o tm sto T) (hK : ∀ G' w' r v sto', T r sto' → Sim E nt ds (put o.dst r tm) sto' (a.put o.dst v) w' G' → K (a.put o.dst v) w') : o.wp P a w K Q := by
  simp only [okOps, List.all_cons, List.all_nil, Bool.and_true, Bool.and_eq_true] at hok
  obtain ⟨⟨hop, hdst⟩, hcall⟩ := hok
  unfold vcStep at h
  split at h
  · rename_i c args ts hopc
    rw [hopc] at hcall
    simp only at hcall
    split at h
    · rename_i f cap hc
      have hall : ∀ x ∈ c :: args.toList, operandOk x = true := by
        intro x hx
        refine Array.all_eq_true'.1 hcall x ?_
        simp only [Call.operands, Array.mem_append]
        rcases List.mem_cons.1 hx with rfl | hx
        · exact .inl (by simp)
        · exact .inr (by simpa using hx)
      have hcr := ev_rep hsim.wok hsim.tok (hall c (by simp))
      rw [hc] at hcr
      generalize hcv : a.eval c = cv at hcr
      cases hcr with
      | @fn _ _ _ caps h1 h2 =>
        have hAC : ∃ R', ACall P f (args.toList.map (ev tm) ++ cap) sto R' ∧ ∀ r s, R' r s → ∃ b, frq b r s T := by
          cases q with
          | true => obtain ⟨v, h1, h2⟩ := h; exact ⟨_, h1, fun r s ⟨e1, e2⟩ => ⟨_, by subst e1 e2; exact h2⟩⟩
          | false => exact ⟨_, h, fun r s hr => ⟨_, hr⟩⟩
        obtain ⟨R', ⟨⟨fn, hf, hname, hbody⟩, hcalls⟩, hRT⟩ := hAC
        have hname' : ¬ fn.name = "runtime.NumGoroutine" := by simpa using hname
        have hbody' : ¬ fn.body = none := by intro e; rw [e] at hbody; cases hbody
        have hrun : (execOp a.eval o).run P w = .ok (.enter f (args.map a.eval ++ caps)) w := by
          simp [execOp, hopc, resolve, hcv, Deferred.ofValue, invoke, callFunc, hf, hname', hbody']
        unfold Oper.wp
        rw [hrun]
        simp only [Oper.upon]
        have hargs : ArgsRep G (args.toList.map (ev tm) ++ cap) (args.map a.eval ++ caps) := by
          refine ⟨by simp [h1], fun j x hx => ?_⟩
          rw [List.getElem?_append] at hx
          simp only [List.length_map, Array.length_toList] at hx
          split at hx
          · rename_i hj
            simp only [List.getElem?_map, Array.getElem?_toList, Array.getElem?_eq_getElem hj, Option.map_some, Option.some.injEq] at hx
            subst hx
            have e : (args.map a.eval ++ caps).getD j undef = a.eval args[j] := by
              simp [Array.getD_eq_getD_getElem?, Array.getElem?_append, hj]
            rw [e]
            exact ev_rep hsim.wok hsim.tok (hall _ (List.mem_cons_of_mem _ (by simp)))
          · rename_i hj
            have e : (args.map a.eval ++ caps).getD j undef = caps.getD (j - args.size) undef := by
              simp [Array.getD_eq_getD_getElem?, Array.getElem?_append, hj]
            rw [e]
            exact h2 _ _ hx
        refine (hcalls G w _ hsim.wok hsim.sok hargs).mono fun e w' p => ?_
        obtain ⟨G', cr, r, sto', rfl, hx, hw', hs', hr, hT⟩ := p
        obtain ⟨bq, hq⟩ := hRT r sto' hT
        obtain ⟨G2, r2, s2, hx2, hw2, hs2, hr2, hT2⟩ := frq_sound hw' hs' hr hq
        exact hK G2 w' r2 cr s2 hT2 (hsim.put (hx.trans hx2) hw2 hs2 hdst hr2)
    · exact h.elim
  · obtain ⟨G', w', v, r, sto', h1, hx, hw', hs', hr, hT⟩ := vcOp_sound hL hsim.wok hsim.sok hsim.tok hop h
    have hq : ∃ b, frq b r sto' T := by
      split at hT
      · exact ⟨_, hT⟩
      · exact ⟨false, by simpa [frq] using hT⟩
    obtain ⟨bq, hq⟩ := hq
    obtain ⟨G2, r2, s2, hx2, hw2, hs2, hr2, hT2⟩ := frq_sound hw' hs' hr hq
    have hk := hK G2 w' r2 v s2 hT2 (hsim.put (hx.trans hx2) hw2 hs2 hdst hr2)
    unfold Oper.wp
    rcases h1 with h1 | ⟨h1, rfl⟩
    · rw [h1]; exact hk
    · rw [h1]; exact hk

theorem vc_sound (hL : LOk P L) {q : Bool} {z : List Nat} {E : Gh} {nt : Nat} {ds : List Deferred} (ops : List Oper) {K : Tm → Sto → Prop} {Q : Exit → Act → World → Prop}
    (hQ : ∀ G tm sto a w, K tm sto → Sim E nt ds tm sto a w G → Q .normal a w) :
    ∀ (os : List Oper) (tm : Tm) (sto : Sto) (a : Act) (w : World) (G : Gh), okOps L nt os = true → Sim E nt ds tm sto a w G → vc L P q z (ops.map (·.dst)) os tm sto K → wpList P ops.toArray Q os a w
  | [], tm, sto, a, w, G, _, hsim, h => hQ G tm sto a w h hsim
  | o :: os, tm, sto, a, w, G, hok, hsim, h => by
    have hok1 : okOps L nt [o] = true := by simp only [okOps, List.all_cons, Bool.and_eq_true] at hok ⊢; exact ⟨hok.1, rfl⟩
    have hok2 : okOps L nt os = true := by simp only [okOps, List.all_cons, Bool.and_eq_true] at hok ⊢; exact hok.2
    have hdst : (match o.dst with | some d => decide (d < nt) | none => true) = true := by
      simp only [okOps, List.all_cons, List.all_nil, Bool.and_true, Bool.and_eq_true] at hok1
      exact hok1.1.2
    unfold vc at h
    unfold wpList
    split at h
    · rename_i hg
      rw [if_pos (by simp [Region.wanted, hg])]
      exact .inl (step_sound hL hsim hok1 h fun G' w' r v sto' hT hs => vc_sound hL ops hQ os _ _ _ _ _ hok2 hs hT)
    · rename_i j want hg
      split at h
      · rename_i t hj
        split at h
        · rename_i b hb
          have hy := yielded_bool hsim.tok hj hb
          have hsub : ∀ c, b = c → Sim E nt ds ((t, .bool c) :: tm) sto a w G := by
            rintro c rfl
            refine ⟨hsim.ext, hsim.wok, hsim.sok, fun t' => ?_, hsim.n, hsim.d⟩
            simp only [lk]
            split
            · rename_i e; subst e; rw [← hb]; exact hsim.tok _
            · exact hsim.tok t'
          by_cases hbw : b = want
          · rw [if_pos (by simp [Region.wanted, hg, hy, hbw])]
            exact .inl (step_sound hL (hsub want hbw) hok1 (h.1 hbw) fun G' w' r v sto' hT hs => vc_sound hL ops hQ os _ _ _ _ _ hok2 hs hT)
          · rw [if_neg (by simp [Region.wanted, hg, hy, hbw])]
            have hbn : b = !want := by cases b <;> cases want <;> simp_all
            exact vc_sound hL ops hQ os _ _ _ _ G hok2 ((hsub _ hbn).put (.refl G) hsim.wok hsim.sok hdst (.tup rfl fun j x hx => by simp at hx)) (h.2 hbn)
        · rename_i hb
          have hy := yielded_none hsim.tok hj hb
          rw [if_neg (by simp [Region.wanted, hg, hy])]
          exact vc_sound hL ops hQ os _ _ _ _ G hok2 (hsim.put (.refl G) hsim.wok hsim.sok hdst (.tup rfl fun j x hx => by simp at hx)) h
        · exact h.elim
      · exact h.elim

theorem Good.of_wp {f : Nat} {R : Ending → World → Prop} {b : Frame} {k : List Item} {a : Act} {w : World} {c : Code} {Q : Exit → Act → World → Prop} (h : c.wp P Q a w)
    (hQ : ∀ e a' w', Q e a' w' → e = .normal ∧ Good P f R b k a' w') : Good P f R b (.code c :: k) a w := by
  intro cs
  obtain ⟨e, a', w', hq, harr⟩ := h b k cs
  obtain ⟨rfl, hg⟩ := hQ _ _ _ hq
  obtain ⟨e2, w2, fr, h1, h2, h3, h4⟩ := hg cs
  exact ⟨e2, w2, fr, h1, Comes.of_steps harr h2, h3, h4⟩

section
variable {f : Nat} {fn : Func} {df : List DDel} {k : List Item} {tm : Tm} {sto : Sto} {R : AVal → Sto → Prop}

theorem AGood.region (hL : LOk P L) {z : List Nat} {id : Nat} {ops : List Oper} (ps : List Nat) (hok : okOps L fn.ntmps ops = true)
    (h : vc L P false z (ops.map (·.dst)) ops tm sto fun tm' sto' => AGood P f fn df k (Rad.prune ps tm') sto' R) : AGood P f fn df (.code (.region id ops.toArray false) :: k) tm sto R := by
  refine ⟨?_⟩
  intro E G a w b h1 h2 h3 h4 h5 h6 h7 h8 h9
  refine Good.of_wp (Q := fun e a' w' => e = .normal ∧ Good P f (Post E R) b k a' w') (wp_region_lit ?_) fun e a' w' hq => hq
  refine vc_sound hL (E := G) (nt := fn.ntmps) (ds := a.defers) ops (K := fun tm' sto' => AGood P f fn df k (Rad.prune ps tm') sto' R) (fun G' tm' sto' a' w' hk hs => ?_) ops tm sto a w G hok ⟨.refl G, h7, h8, h9, h4, rfl⟩ h
  exact ⟨rfl, hk.go E G' a' w' b h1 h2 h3 hs.n (hs.d ▸ h5.mono hs.ext.toMono) (h6.trans hs.ext) hs.wok hs.sok (hs.tok.prune ps)⟩

/-- The results of a function, as they stand where it ends. -/
def vcRes (L : Lay) : List ResultVar → Tm → Sto → (List AVal → Prop) → Prop
  | [], _, _, T => T []
  | .tmp t :: rs, tm, sto, T => vcRes L rs tm sto fun vs => T (lk tm t :: vs)
  | .cell a ty :: rs, tm, sto, T => (L ty).ty ≠ .other ∧ vcLoad L ty (lk tm a) sto fun v => vcRes L rs tm sto fun vs => T (v :: vs)

def retv : List AVal → AVal
  | [v] => v
  | vs => .tup vs

/-- What deferred deletes leave. -/
def runDf (L : Lay) : List DDel → Sto → (Sto → Prop) → Prop
  | [], sto, T => T sto
  | d :: ds, sto, T =>
    match (L d.t).ty, d.m, d.k with
    | .map kt _, .map id g, .str key =>
      (L kt).ty = .string ∧
      match sget sto id with
      | some (g', .mp es) => g' = g ∧ runDf L ds (sput sto id (g, .mp (mdel es key))) T
      | _ => False
    | _, _, _ => False

def resSem (tmps : Array Value) : ResultVar → Sem Value
  | .tmp t => pure (tmps.getD t undef)
  | .cell a t => do loadVar t (← asAddr (tmps.getD a undef))

theorem res_sound (hL : LOk P L) {G : Gh} {w : World} {sto : Sto} {tm : Tm} {tmps : Array Value} (hw : WOk G w) (hs : StoOk G w sto) (ht : TmOk G tm tmps) : ∀ (rs : List ResultVar) (T : List AVal → Prop), vcRes L rs tm sto T →
    ∃ (vs : List Value) (rv : List AVal), (rs.mapM (resSem tmps)).run P w = .ok vs w ∧ vs.length = rv.length ∧ (∀ (j : Nat) (x : AVal), rv[j]? = some x → Rep G true x (vs.getD j undef)) ∧ T rv
  | [], T, h => ⟨[], [], by simp, rfl, fun j x hx => by simp at hx, h⟩
  | .tmp t :: rs, T, h => by
    obtain ⟨vs, rv, h1, h2, h3, h4⟩ := res_sound hL hw hs ht rs _ h
    refine ⟨tmps.getD t undef :: vs, lk tm t :: rv, by simp only [List.mapM_cons, Sem.run_bind, resSem, Sem.run_pure, Result.andThen_ok, h1], by simp [h2], fun j x hx => ?_, h4⟩
    cases j with
    | zero => simp only [List.getElem?_cons_zero, Option.some.injEq] at hx; subst hx; exact ht t
    | succ j => exact h3 j x (by simpa using hx)
  | .cell a ty :: rs, T, h => by
    obtain ⟨hty, h⟩ := h
    obtain ⟨ad, u, r, e, hl, hr, h⟩ := load_core hL hty hw hs (ht a) h
    obtain ⟨vs, rv, h1, h2, h3, h4⟩ := res_sound hL hw hs ht rs _ h
    refine ⟨u :: vs, r :: rv, by simp only [List.mapM_cons, Sem.run_bind, resSem, e, asAddr, Sem.run_pure, Result.andThen_ok, hl, h1], by simp [h2], fun j x hx => ?_, h4⟩
    cases j with
    | zero => simp only [List.getElem?_cons_zero, Option.some.injEq] at hx; subst hx; exact hr
    | succ j => exact h3 j x (by simpa using hx)

theorem results_sound (hL : LOk P L) {G : Gh} {w : World} {sto : Sto} {tm : Tm} {tmps : Array Value} (hw : WOk G w) (hs : StoOk G w sto) (ht : TmOk G tm tmps) {T : AVal → Prop} (h : vcRes L fn.results.toList tm sto fun vs => T (retv vs)) :
    ∃ v r, (results fn tmps).run P w = .ok v w ∧ Rep G true r v ∧ T r := by
  obtain ⟨vs, rv, h1, h2, h3, h4⟩ := res_sound hL hw hs ht _ _ h
  refine ⟨if h : vs.toArray.size = 1 then vs.toArray[0] else .tuple vs.toArray, retv rv, ?_, ?_, h4⟩
  · have e : (fn.results.mapM (resSem tmps)).run P w = .ok vs.toArray w := by
      rw [Array.mapM_eq_mapM_toList]
      simp [h1]
    have hF : ∀ F : ResultVar → Sem Value, (∀ x, F x = resSem tmps x) → (Array.mapM F fn.results).run P w = .ok vs.toArray w := by
      intro F h
      rw [funext h]; exact e
    unfold results
    rw [Sem.run_bind, hF _ (by intro x; cases x <;> rfl)]
    simp only [Result.andThen_ok, Sem.run_pure]
  · match rv, vs, h2, h3 with
    | [], [], _, _ => exact .tup rfl fun j x hx => by simp at hx
    | [x], [v], _, h3 => exact h3 0 x rfl
    | x :: y :: rs, v :: u :: vs, h2, h3 =>
      have e : ¬ ((v :: u :: vs).toArray.size = 1) := by simp
      rw [dif_neg e]
      refine .tup (by simpa using h2) fun j z hz => ?_
      have := h3 j z hz
      simpa [List.getD_eq_getElem?_getD] using this

/-- The end of a function: its deferred deletes, its results. -/
theorem good_end (hL : LOk P L) {E : Gh} {R : AVal → Sto → Prop} : ∀ (df : List DDel) (ds : List Deferred) (G : Gh) (w : World) (sto : Sto) (fr : Frame) (cs : List Frame), fr.mode = .returning → fr.defers = ds → fr.fn = f → fr.kind = .normal →
    P.funcs[f]? = some fn → DfOk G df ds → Ext E G → WOk G w → StoOk G w sto → TmOk G tm fr.tmps → (∀ d ∈ df, (L d.t).ty ≠ .other) → (runDf L df sto fun sto' => vcRes L fn.results.toList tm sto' fun vs => R (retv vs) sto') →
    ∃ e w' fr', Post E R e w' ∧ Comes P (lone fr cs w) (lone fr' cs w') e ∧ fr'.fn = f ∧ fr'.leaving P w' e
  | [], [], G, w, sto, fr, cs, hm, hd, hfn, hk, hf, _, hext, hw, hs, ht, _, h => by
    obtain ⟨v, r, h1, h2, h3⟩ := results_sound (fn := fn) hL hw hs ht (T := fun r => R r sto) h
    exact ⟨.returned v, w, fr, ⟨G, v, r, sto, rfl, hext, hw, hs, h2, h3⟩, Steps.refl P _, hfn, hm, hd, hk, fn, hfn ▸ hf, h1⟩
  | [], _ :: _, _, _, _, _, _, _, _, _, _, _, hdf, _, _, _, _, _, _ => by simp [DfOk] at hdf
  | _ :: _, [], _, _, _, _, _, _, _, _, _, _, hdf, _, _, _, _, _, _ => by simp [DfOk] at hdf
  | d :: df, e :: ds, G, w, sto, fr, cs, hm, hd, hfn, hk, hf, hdf, hext, hw, hs, ht, hty, h => by
    obtain ⟨⟨ty, cs', v, u, rfl, hv, hu⟩, hdf'⟩ := hdf
    unfold runDf at h
    split at h
    · rename_i kt et id g key he hme hke
      obtain ⟨hstr, h⟩ := h
      split at h
      · rename_i g' es hget
        obtain ⟨rfl, h⟩ := h
        rw [hme] at hv
        rw [hke] at hu
        obtain ⟨w', hrun, hw', hs'⟩ := delete_sound (t2 := d.t2) (ty := ty) hL (hty d (by simp)) hw hs hv hu he hstr hget
        have hstep : Go.step P (lone fr cs w) = .next (lone { fr with defers := ds } cs w') := by
          refine step_lone_go ?_
          have hinv : (invoke (.builtin .delete #[d.t, d.t2] ty cs') #[v, u]).run P w = .ok (.value (.tuple #[])) w' := by
            simp [invoke, builtin, hrun]
          simp [stepG, unwind, callDeferred, hm, hd, hinv]
        obtain ⟨e', w2, fr', a1, a2, a3, a4⟩ := good_end hL df ds G w' _ { fr with defers := ds } cs hm rfl hfn hk hf hdf' hext hw' hs' ht (fun d hd => hty d (by simp [hd])) h
        exact ⟨e', w2, fr', a1, Comes.of_steps (.one hstep) a2, a3, a4⟩
      · exact h.elim
    · exact h.elim

theorem AGood.ret (hL : LOk P L) (hty : ∀ d ∈ df, (L d.t).ty ≠ .other) (h : runDf L df sto fun sto' => vcRes L fn.results.toList tm sto' fun vs => R (retv vs) sto') : AGood P f fn df (.code .ret :: k) tm sto R := by
  refine ⟨?_⟩
  intro E G a w b h1 h2 h3 h4 h5 h6 h7 h8 h9 cs
  obtain ⟨e, w2, fr', a1, a2, a3, a4⟩ := good_end (f := f) hL df a.defers G w sto { b.at a (.code .ret :: k) with mode := .returning } cs rfl rfl h1 h2 h3 h5 h6 h7 h8 h9 hty h
  exact ⟨e, w2, fr', a1, Comes.of_steps (.one step_ret) a2, a3, a4⟩

theorem AGood.done (hL : LOk P L) (hty : ∀ d ∈ df, (L d.t).ty ≠ .other) (h : runDf L df sto fun sto' => vcRes L fn.results.toList tm sto' fun vs => R (retv vs) sto') : AGood P f fn df [] tm sto R := by
  refine ⟨?_⟩
  intro E G a w b h1 h2 h3 h4 h5 h6 h7 h8 h9 cs
  obtain ⟨e, w2, fr', a1, a2, a3, a4⟩ := good_end (f := f) hL df a.defers G w sto { b.at a [] with mode := .returning } cs rfl rfl h1 h2 h3 h5 h6 h7 h8 h9 hty h
  exact ⟨e, w2, fr', a1, Comes.of_steps (.one step_end) a2, a3, a4⟩

def initTm : Nat → List AVal → Tm
  | _, [] => []
  | n, x :: xs => (n, x) :: initTm (n + 1) xs

theorem lk_init : ∀ (xs : List AVal) (n t : Nat), lk (initTm n xs) t = if n ≤ t then (xs[t - n]?).getD .undef else .undef
  | [], n, t => by simp [initTm, lk]
  | x :: xs, n, t => by
    simp only [initTm, lk]
    by_cases h : n = t
    · subst h; simp
    · rw [if_neg h, lk_init xs (n + 1) t]
      by_cases h2 : n ≤ t
      · rw [if_pos h2, if_pos (by omega)]
        have : t - n = (t - (n + 1)) + 1 := by omega
        rw [this]; simp
      · rw [if_neg h2, if_neg (by omega)]

theorem ACall.enter {c : Code} {args : List AVal} (hf : P.funcs[f]? = some fn) (hb : fn.body = some c) (hname : (fn.name == "runtime.NumGoroutine") = false) (hn : args.length ≤ fn.ntmps)
    (h : AGood P f fn [] [.code c] (initTm 0 args) sto R) : ACall P f args sto R := by
  refine ⟨⟨fn, hf, hname, by simp [hb]⟩, fun G w cargs hw hs ha cs => ?_⟩
  let b : Frame := { (default : Frame) with fn := f, kind := .normal }
  have henter : Frame.enter P f cargs .normal = b.at { tmps := cargs ++ Array.replicate (fn.ntmps - cargs.size) undef, defers := [] } [.code c] := by
    simp [Frame.enter, Frame.at, hf, hb, b]
  rw [henter]
  refine h.go G G { tmps := cargs ++ Array.replicate (fn.ntmps - cargs.size) undef, defers := [] } w b rfl rfl hf (by simp [ha.1]; omega) trivial (.refl G) hw hs (fun t => ?_) cs
  rw [lk_init]
  simp only [Nat.zero_le, if_true, Nat.sub_zero]
  cases hx : args[t]? with
  | none => exact .undef
  | some x =>
    have ht : t < cargs.size := by rw [ha.1]; exact lt_of_get hx
    have := ha.2 t x hx
    have e : (cargs ++ Array.replicate (fn.ntmps - cargs.size) undef).getD t undef = cargs.getD t undef := by
      simp [Array.getD_eq_getD_getElem?, Array.getElem?_append, ht]
    simp only [Option.getD_some]
    rw [e]; exact this

end
end Go.Rad
