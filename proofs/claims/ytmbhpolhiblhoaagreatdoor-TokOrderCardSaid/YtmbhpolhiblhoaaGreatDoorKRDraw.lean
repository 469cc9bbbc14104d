/- A part of the proof. -/
import Derived.Test.YtmbhpolhiblhoaaGreatDoorKROpS
import Derived.Orders
import Derived.Test.YtmbhpolhiblhoaaGreatDoorKREq
set_option linter.all false
set_option linter.unusedSimpArgs false
namespace Go.Rad
open Go
variable {P : Program} {L : Lay}
theorem j6 {tm tm' : Tm} {l : List Operand} (h : ∀ x ∈ l, ev tm x = ev tm' x) : l.map (ev tm) = l.map (ev tm') := List.map_congr_left h
theorem eD {q : Bool} {z : List Nat} {o : Oper} {tm tm' : Tm} {sto : Sto} {T : aa → Sto → Prop} (h : ∀ x ∈ o.op.operands, ev tm x = ev tm' x) (hv : aA L P q z o tm sto T) : aA L P q z o tm' sto T := by
 have pairs : ∀ ps : Array (Nat × Operand), (∀ x ∈ ps.map (·.2), ev tm x = ev tm' x) → (ps.toList.map fun p => (p.1, ev tm p.2)) = (ps.toList.map fun p => (p.1, ev tm' p.2)) := fun ps hp =>
  List.map_congr_left fun p hm => by
   obtain ⟨i, x⟩ := p
   simp only [hp x (Array.mem_map.2 ⟨(i, x), by simpa using hm, rfl⟩)]
 obtain ⟨dst, op, type, pos, after, guard⟩ := o
 unfold aA at *
 cases op <;> simp only [Op.operands] at h hv ⊢ <;> try simp only [aO] at hv ⊢
 case build t ps => rw [← pairs ps fun x hx => h x (by simpa using hx)]; exact hv
 case buildSlice t n ps => rw [← pairs ps fun x hx => h x (by simpa using hx)]; exact hv
 case makeFunc fn first cap =>
  cases fn with
  | func f =>
   simp only at hv ⊢
   rw [← j6 (l := cap.toList) fun x hx => h x (by simp; exact .inr (by simpa using hx))]; exact hv
  | _ => exact hv
 case makeMap t r => cases r <;> simp_all
 case slice t x lo hi mx => cases lo <;> cases hi <;> cases mx <;> simp_all
 case binOp op' xt x y yt =>
  have h1 := h x (by simp)
  have h2 := h y (by simp)
  rw [← h1, ← h2]; exact hv
 case call c =>
  obtain ⟨callee, args, ts⟩ := c
  have hargs : args.toList.map (ev tm) = args.toList.map (ev tm') := j6 fun x hx => h x (by simp only [Call.operands, Array.mem_append]; exact .inr (by simpa using hx))
  cases callee with
  | value f =>
   have hf := h f (by simp [Call.operands])
   simp only [← hf, ← hargs] at hv ⊢; exact hv
  | builtin b => simp only [← hargs] at hv ⊢; exact hv
  | invoke r m => exact hv
 all_goals first | (simp_all; done) | skip
def jg (z : List Nat) (o : Oper) : Bool :=
 match o.op with
 | .move _ | .assign _ | .pick _ _ _ | .build _ _ | .load _ _ | .nilCheck _ | .unOp _ _ _ | .convert _ _ _ | .slice _ _ _ _ _ | .fieldAddr _ _ _ | .field _ _ _ | .indexAddr _ _ _ | .index _ _ _ | .lookup _ _ _ _ | .extract _ _ => true
 | .binOp _ _ _ y _ => !ct y
 | .makeFunc _ _ _ => true
 | .call ⟨.value _, _, _⟩ => !z.contains (o.dst.getD 0)
 | .call ⟨.builtin b, _, _⟩ => (match b with | .len | .min | .max => true | _ => false) && !z.contains (o.dst.getD 0)
 | .buildSlice _ _ _ => z.contains (o.dst.getD 0)
 | _ => false
def q9 (L : Lay) (o : Oper) : Bool :=
 match o.op with
 | .move _ | .assign _ | .pick _ _ _ | .build _ _ | .nilCheck _ | .unOp _ _ _ | .convert _ _ _ | .fieldAddr _ _ _ | .field _ _ _ | .index _ _ _ | .extract _ _ | .binOp _ _ _ _ _ | .makeFunc _ _ _ => true
 | .call ⟨.builtin b, _, ts⟩ => match b with
  | .min | .max => true
  | .len => match ts.toList with
   | [t] => (match (L t).ty with | .string | .slice _ => true | _ => false)
   | _ => false
  | _ => false
 | _ => false
theorem p9 : ∀ {s : Sto} {d : Nat}, ak s d = none → ca s d = s
 | [], _, _ => rfl
 | (i, x) :: s, d, h => by
  simp only [ak] at h
  split at h
  ·cases h
  ·rename_i hne
   simp only [ca, if_neg hne, p9 h]
theorem lz : ∀ {s : Sto} {d : Nat} {v : Nat × bc}, ak s d = none → ca (aF s d v) d = s
 | [], d, v, _ => by simp [aF, ca]
 | (i, x) :: s, d, v, h => by
  simp only [ak] at h
  split at h
  ·cases h
  ·rename_i hne
   simp only [aF, if_neg hne]
   split
   ·simp only [ca, if_true, if_neg hne, p9 h]
   ·simp only [ca, if_neg hne, lz h]
theorem ef {k : IntKind} {n : Int} {T : aa → Prop} (h : bo k n T) : ∃ v, T v ∧ ∀ T' : aa → Prop, T' v → bo k n T' := by
 cases k <;> simp only [bo] at h ⊢
 case i64 => exact ⟨_, h.2, fun _ h' => ⟨h.1, h'⟩⟩
 all_goals exact ⟨_, h, fun _ h' => h'⟩
theorem yq {op : BinOp} {k : IntKind} {a b : Int} {T : aa → Prop} (h : bu op k a b T) : ∃ v, T v ∧ ∀ T' : aa → Prop, T' v → bu op k a b T' := by
 cases op <;> simp only [bu] at h ⊢
 case add => exact ef h
 case sub => exact ef h
 case mul => exact ef h
 case quo => obtain ⟨v, h1, h2⟩ := ef h.2; exact ⟨v, h1, fun T' h' => ⟨h.1, h2 T' h'⟩⟩
 case rem => exact ⟨_, h.2, fun _ h' => ⟨h.1, h'⟩⟩
 all_goals exact ⟨_, h, fun _ h' => h'⟩
theorem l7 {op : BinOp} {k : IntKind} {a b : Int} {T : aa → Prop} (h : dc op k a b T) : ∃ v, T v ∧ ∀ T' : aa → Prop, T' v → dc op k a b T' := by
 cases op <;> simp only [dc] at h ⊢
 case shl => exact ⟨_, h.2, fun _ h' => ⟨h.1, h'⟩⟩
 case shr => exact ⟨_, h.2, fun _ h' => ⟨h.1, h'⟩⟩
theorem yw {op : BinOp} {a b : ByteArray} {T : aa → Prop} (h : l9 op a b T) : ∃ v, T v ∧ ∀ T' : aa → Prop, T' v → l9 op a b T' := by
 cases op <;> simp only [l9] at h ⊢
 case add => exact ⟨_, h.2, fun _ h' => ⟨h.1, h'⟩⟩
 all_goals exact ⟨_, h, fun _ h' => h'⟩
theorem lW {t : Nat} {a b : List aa} {T : Bool → Prop} (h : dH L t a b T) : ∃ v, T v ∧ ∀ T' : Bool → Prop, T' v → dH L t a b T' := by
 unfold dH at *
 cases h1 : (L t).ty with
 | array n e =>
  simp only [h1] at h ⊢
  cases h2 : (L e).ty with
  | int k =>
   simp only [h2] at h ⊢
   obtain ⟨x, y, h1, h2, h3, h4, h5, h6, h7, h8⟩ := h
   exact ⟨_, h8, fun T' h' => ⟨x, y, h1, h2, h3, h4, h5, h6, h7, h'⟩⟩
  | _ => simp only [h2] at h
 | struct fs =>
  simp only [h1] at h ⊢
  cases h2 : fv L fs with
  | some k =>
   simp only [h2] at h ⊢
   obtain ⟨x, y, h1, h2, h3, h4, h8⟩ := h
   exact ⟨_, h8, fun T' h' => ⟨x, y, h1, h2, h3, h4, h'⟩⟩
  | none => simp only [h2] at h
 | _ => simp only [h1] at h
theorem qf {op : BinOp} {t : Nat} {x y : aa} {T : aa → Prop} (h : bh L op t x y T) : ∃ v, T v ∧ ∀ T' : aa → Prop, T' v → bh L op t x y T' := by
 unfold bh at *
 split at h
 ·exact l7 h
 ·exact l7 h
 ·obtain ⟨v, h1, h2⟩ := yq h.2
  exact ⟨v, h1, fun T' h' => ⟨h.1, h2 T' h'⟩⟩
 ·exact yw h
 ·exact ⟨_, h.2, fun _ h' => ⟨h.1, h'⟩⟩
 ·exact ⟨_, h.2, fun _ h' => ⟨h.1, h'⟩⟩
 ·obtain ⟨v, h1, h2⟩ := lW h
  exact ⟨_, h1, fun T' h' => h2 (fun r => T' (.bool r)) h'⟩
 ·obtain ⟨v, h1, h2⟩ := lW h
  exact ⟨_, h1, fun T' h' => h2 (fun r => T' (.bool !r)) h'⟩
 ·exact h.elim
theorem tR {op : UnOp} {x : aa} {T : aa → Prop} (h : oN op x T) : ∃ v, T v ∧ ∀ T' : aa → Prop, T' v → oN op x T' := by
 unfold oN at *
 split at h
 ·exact ⟨_, h, fun _ h' => h'⟩
 ·exact ef h
 ·exact ⟨_, h, fun _ h' => h'⟩
 ·exact h.elim
theorem vf {t : Nat} {x : aa} {sto : Sto} {T : aa → Prop} (h : bM L t x sto T) : ∃ v, T v ∧ ∀ T' : aa → Prop, T' v → bM L t x sto T' := by
 unfold bM at *
 cases x <;> simp only at h ⊢
 case bx id g off =>
  cases hs : ak sto id with
  | none => simp only [hs] at h
  | some y =>
   obtain ⟨a, b⟩ := y
   cases b <;> simp only [hs] at h ⊢
   exact ⟨_, h.2.2.2, fun _ h' => ⟨h.1, h.2.1, h.2.2.1, h'⟩⟩
 case loc id g i off =>
  cases hs : ak sto id with
  | none => simp only [hs] at h
  | some y =>
   obtain ⟨a, b⟩ := y
   cases b <;> simp only [hs] at h ⊢
   rename_i esz l
   obtain ⟨h1, h2, h3, h4, h5⟩ := h
   have hx : l[i]? = some l[i] := List.getElem?_eq_getElem h2
   exact ⟨_, h5 _ hx, fun T' h' => ⟨h1, h2, h3, h4, fun x hx' => by rw [hx] at hx'; cases hx'; exact h'⟩⟩
 case ref => exact ⟨_, h.2.2, fun _ h' => ⟨h.1, h.2.1, h'⟩⟩
theorem lX {ti : TI} {x : aa} {f : Nat} {T : aa → Prop} (h : cV ti x f T) : ∃ v, T v ∧ ∀ T' : aa → Prop, T' v → cV ti x f T' := by
 unfold cV at *
 cases hf : kW ti f with
 | none => simp only [hf] at h
 | some p =>
  obtain ⟨a, b⟩ := p
  simp only [hf] at h ⊢
  cases x <;> simp only at h ⊢
  case ref => exact ⟨_, h.2, fun _ h' => ⟨h.1, h'⟩⟩
  all_goals exact ⟨_, h, fun _ h' => h'⟩
theorem ju {t : Nat} {x : aa} {f : Nat} {T : aa → Prop} (h : ch L t x f T) : ∃ v, T v ∧ ∀ T' : aa → Prop, T' v → ch L t x f T' := by
 unfold ch at *
 cases hf : kW (L t) f with
 | none => simp only [hf] at h
 | some p =>
  obtain ⟨a, b⟩ := p
  simp only [hf] at h ⊢
  cases x <;> simp only at h ⊢
  case agg => exact ⟨_, h.2.2, fun _ h' => ⟨h.1, h.2.1, h'⟩⟩
theorem mo {t : Nat} {x i : aa} {sto : Sto} {T : aa → Prop} (h : aE L t x i sto T) : ∃ v, T v ∧ ∀ T' : aa → Prop, T' v → aE L t x i sto T' := by
 unfold aE at *
 cases i <;> simp only at h ⊢
 rename_i k n
 cases ht : (L t).ty <;> simp only [ht] at h ⊢
 case slice e =>
  cases x <;> simp only at h ⊢
  case osl id g off len =>
   cases hs : ak sto id with
   | none => simp only [hs] at h
   | some y =>
    obtain ⟨a, b⟩ := y
    cases b <;> simp only [hs] at h ⊢
    exact ⟨_, h.2.2.2, fun _ h' => ⟨h.1, h.2.1, h.2.2.1, h'⟩⟩
  case sl q full l =>
   obtain ⟨h1, h2⟩ := h
   have hlt : n.toNat < l.length := by omega
   have hx : l[n.toNat]? = some l[n.toNat] := List.getElem?_eq_getElem hlt
   obtain ⟨h3, h4⟩ := h2 _ hx
   exact ⟨_, h4, fun T' h' => ⟨h1, fun x hx' => by rw [hx] at hx'; cases hx'; exact ⟨h3, h'⟩⟩⟩
 case array m e =>
  cases x <;> simp only at h ⊢
  case ref => exact ⟨_, h.2.2, fun _ h' => ⟨h.1, h.2.1, h'⟩⟩
  case loc => exact ⟨_, h.2, fun _ h' => ⟨h.1, h'⟩⟩
  case bx => exact ⟨_, h.2, fun _ h' => ⟨h.1, h'⟩⟩
  all_goals exact h.2.elim
theorem lY {t : Nat} {x i : aa} {T : aa → Prop} (h : db L t x i T) : ∃ v, T v ∧ ∀ T' : aa → Prop, T' v → db L t x i T' := by
 unfold db at *
 cases i <;> simp only at h ⊢
 rename_i k n
 cases ht : (L t).ty <;> simp only [ht] at h ⊢
 case string =>
  cases x <;> simp only at h ⊢
  exact ⟨_, h.2, fun _ h' => ⟨h.1, h'⟩⟩
 case array m e =>
  cases x <;> simp only at h ⊢
  exact ⟨_, h.2.2.2, fun _ h' => ⟨h.1, h.2.1, h.2.2.1, h'⟩⟩
theorem jt {x : aa} {i : Nat} {T : aa → Prop} (h : bV x i T) : ∃ v, T v ∧ ∀ T' : aa → Prop, T' v → bV x i T' := by
 unfold bV at *
 cases x <;> simp only at h ⊢
 obtain ⟨v, h1, h2⟩ := h
 exact ⟨v, h2, fun _ h' => ⟨v, h1, h'⟩⟩
theorem js {s t : Nat} {x : aa} {T : aa → Prop} (h : cU L s t x T) : ∃ v, T v ∧ ∀ T' : aa → Prop, T' v → cU L s t x T' := by
 unfold cU at *
 obtain ⟨h0, h⟩ := h
 cases ht : (L t).ty <;> simp only [ht] at h ⊢
 case int k =>
  cases x <;> simp only at h ⊢
  exact ⟨_, h, fun _ h' => ⟨h0, h'⟩⟩
 case string =>
  cases x <;> simp only at h ⊢
  ·exact ⟨_, h.2, fun _ h' => ⟨h0, h.1, h'⟩⟩
  ·obtain ⟨h1, bs, h2, h3⟩ := h
   exact ⟨_, h3, fun _ h' => ⟨h0, h1, bs, h2, h'⟩⟩
theorem dh {x : Option aa} {d : Nat} {Q : Nat → Prop} (h : aX x d Q) : ∃ n, Q n ∧ ∀ Q' : Nat → Prop, Q' n → aX x d Q' := by
 unfold aX at *
 cases x with
 | none => exact ⟨_, h, fun _ h' => h'⟩
 | some x =>
  cases x <;> simp only at h ⊢
  exact ⟨_, h.2, fun _ h' => ⟨h.1, h'⟩⟩
theorem tP {t : Nat} {x : aa} {lo hi mx : Option aa} {sto : Sto} {T : aa → Prop} (h : bY L t x lo hi mx sto T) : ∃ v, T v ∧ ∀ T' : aa → Prop, T' v → bY L t x lo hi mx sto T' := by
 unfold bY at *
 cases ht : (L t).ty <;> simp only [ht] at h ⊢
 case string =>
  cases x <;> simp only at h ⊢
  obtain ⟨h0, h⟩ := h
  obtain ⟨l, h1, k1⟩ := dh h
  obtain ⟨m, h2, k2⟩ := dh h1
  exact ⟨_, h2.2, fun T' h' => ⟨h0, k1 _ (k2 _ ⟨h2.1, h'⟩)⟩⟩
 case slice e =>
  cases x <;> simp only at h ⊢
  case sl =>
   obtain ⟨l, h1, k1⟩ := dh h
   obtain ⟨m, h2, k2⟩ := dh h1
   obtain ⟨n, h3, k3⟩ := dh h2
   exact ⟨_, h3.2.2, fun T' h' => k1 _ (k2 _ (k3 _ ⟨h3.1, h3.2.1, h'⟩))⟩
  case osl =>
   obtain ⟨h0, h00, h⟩ := h
   obtain ⟨l, h1, k1⟩ := dh h
   obtain ⟨m, h2, k2⟩ := dh h1
   exact ⟨_, h2.2, fun T' h' => ⟨h0, h00, k1 _ (k2 _ ⟨h2.1, h'⟩)⟩⟩
theorem rG {t : Nat} {m k : aa} {ok : Bool} {sto : Sto} {T : aa → Prop} (h : cO L t m k ok sto T) : ∃ v, T v ∧ ∀ T' : aa → Prop, T' v → cO L t m k ok sto T' := by
 unfold cO at *
 cases ht : (L t).ty <;> simp only [ht] at h ⊢
 cases m <;> cases k <;> try simp only at h ⊢
 case map.str =>
  rename_i id g key
  obtain ⟨h1, h2, h3, h⟩ := h
  cases hs : ak sto id with
  | none => simp only [hs] at h
  | some y =>
   obtain ⟨a, b⟩ := y
   cases b <;> simp only [hs] at h ⊢
   exact ⟨_, h.2, fun _ h' => ⟨h1, h2, h3, h.1, h'⟩⟩
 case map.int =>
  rename_i id g kk key
  cases kk <;> simp only at h ⊢
  obtain ⟨h1, h2, h3, h⟩ := h
  cases hs : ak sto id with
  | none => simp only [hs] at h
  | some y =>
   obtain ⟨a, b⟩ := y
   cases b <;> simp only [hs] at h ⊢
   exact ⟨_, h.2, fun _ h' => ⟨h1, h2, h3, h.1, h'⟩⟩
theorem yr {t : Nat} {x : aa} {sto : Sto} {T : aa → Prop} (h : eg L t x sto T) : ∃ v, T v ∧ ∀ T' : aa → Prop, T' v → eg L t x sto T' := by
 unfold eg at *
 cases ht : (L t).ty <;> simp only [ht] at h ⊢
 case string => cases x <;> simp only at h ⊢; exact ⟨_, h, fun _ h' => h'⟩
 case slice e => cases x <;> simp only at h ⊢ <;> exact ⟨_, h, fun _ h' => h'⟩
 case array n e => exact ⟨_, h.2, fun _ h' => ⟨h.1, h'⟩⟩
 case map kt et =>
  cases x <;> simp only at h ⊢
  case nilmap => exact ⟨_, h, fun _ h' => h'⟩
  case map id g =>
   cases hs : ak sto id with
   | none => simp only [hs] at h
   | some y =>
    obtain ⟨a, b⟩ := y
    cases b <;> simp only [hs] at h ⊢
    ·exact ⟨_, h.2, fun _ h' => ⟨h.1, h'⟩⟩
    ·exact ⟨_, h.2, fun _ h' => ⟨h.1, h'⟩⟩
theorem oM {z : List Nat} {o : Oper} {tm : Tm} {sto : Sto} {T : aa → Sto → Prop} (hz : ∀ d, z.contains d = true → ak sto d = none) (hd : jg z o = true) (h : aA L P true z o tm sto T) : ∃ v, T v sto ∧ aA L P true z o tm sto (fun r s => r = v ∧ s = sto) := by
 obtain ⟨dst, op, type, pos, after, guard⟩ := o
 unfold aA at *
 cases op <;> simp only [jg] at hd <;> try (cases hd; done)
 case move x => exact ⟨_, h, rfl, rfl⟩
 case assign x => exact ⟨_, h, rfl, rfl⟩
 case pick c a b =>
  simp only [aO, cC, Bool.false_eq_true, if_false] at h ⊢
  cases hc : ev tm c <;> simp only [hc] at h ⊢
  rename_i x
  cases x with
  | true => exact ⟨_, h.1 rfl, fun _ => ⟨rfl, rfl⟩, fun h => by cases h⟩
  | false => exact ⟨_, h.2 rfl, fun h => (by cases h), fun _ => ⟨rfl, rfl⟩⟩
 case build t ps =>
  simp only [aO, cC, Bool.false_eq_true, if_false] at h ⊢
  obtain ⟨h1, cs, h2, h3⟩ := h
  exact ⟨_, h3, h1, cs, h2, rfl, rfl⟩
 case buildSlice t n ps =>
  simp only [aO, cC, if_true, hd] at h ⊢
  unfold bF at *
  cases ht : (L t).ty <;> simp only [ht] at h ⊢
  obtain ⟨h1, h2, cs, h3, h4, h5⟩ := h
  have hn := hz _ hd
  have key : ∀ (hh : Nat) (l : List (List aa)) (e : Nat) (T' : aa → Sto → Prop), frq true (.osl (dst.getD 0) hh 0 n) (aF sto (dst.getD 0) (hh, .row e l)) T' = (n = l.length ∧ T' (.sl true false l) sto) := by
   intro hh l e T'
   simp [frq, bD, lz hn]
  refine ⟨_, ((key 0 _ _ T).mp (h5 0)).2, h1, h2, cs, h3, h4, fun hh => ?_⟩
  rw [key]
  exact ⟨((key 0 _ _ T).mp (h5 0)).1, rfl, rfl⟩
 case load t a => simp only [aO, cC, Bool.false_eq_true, if_false] at h ⊢; obtain ⟨v, h1, h2⟩ := vf h; exact ⟨v, h1, h2 _ ⟨rfl, rfl⟩⟩
 case nilCheck x =>
  simp only [aO, cC, Bool.false_eq_true, if_false] at h ⊢
  cases hc : ev tm x <;> simp only [hc] at h ⊢ <;> exact ⟨_, h, rfl, rfl⟩
 case binOp op' xt x y yt =>
  simp only [aO, cC, Bool.false_eq_true, if_false] at h ⊢
  have hy : ct y = false := by simpa using hd
  simp only [hy, Bool.false_eq_true, if_false] at h ⊢
  obtain ⟨v, h1, h2⟩ := qf h; exact ⟨v, h1, h2 _ ⟨rfl, rfl⟩⟩
 case unOp => simp only [aO, cC, Bool.false_eq_true, if_false] at h ⊢; obtain ⟨v, h1, h2⟩ := tR h; exact ⟨v, h1, h2 _ ⟨rfl, rfl⟩⟩
 case convert => simp only [aO, cC, Bool.false_eq_true, if_false] at h ⊢; obtain ⟨v, h1, h2⟩ := js h; exact ⟨v, h1, h2 _ ⟨rfl, rfl⟩⟩
 case makeFunc fn first cap =>
  simp only [cC, Bool.false_eq_true, if_false] at h ⊢
  cases fn with
  | func f => exact ⟨_, h.2, h.1, rfl, rfl⟩
  | _ => exact h.elim
 case slice => simp only [aO, cC, Bool.false_eq_true, if_false] at h ⊢; obtain ⟨h0, h⟩ := h; obtain ⟨v, h1, h2⟩ := tP h; exact ⟨v, h1, h0, h2 _ ⟨rfl, rfl⟩⟩
 case fieldAddr => simp only [aO, cC, Bool.false_eq_true, if_false] at h ⊢; obtain ⟨v, h1, h2⟩ := lX h; exact ⟨v, h1, h2 _ ⟨rfl, rfl⟩⟩
 case field => simp only [aO, cC, Bool.false_eq_true, if_false] at h ⊢; obtain ⟨v, h1, h2⟩ := ju h; exact ⟨v, h1, h2 _ ⟨rfl, rfl⟩⟩
 case indexAddr => simp only [aO, cC, Bool.false_eq_true, if_false] at h ⊢; obtain ⟨v, h1, h2⟩ := mo h; exact ⟨v, h1, h2 _ ⟨rfl, rfl⟩⟩
 case index => simp only [aO, cC, Bool.false_eq_true, if_false] at h ⊢; obtain ⟨v, h1, h2⟩ := lY h; exact ⟨v, h1, h2 _ ⟨rfl, rfl⟩⟩
 case lookup => simp only [aO, cC, Bool.false_eq_true, if_false] at h ⊢; obtain ⟨v, h1, h2⟩ := rG h; exact ⟨v, h1, h2 _ ⟨rfl, rfl⟩⟩
 case extract => simp only [aO, cC, Bool.false_eq_true, if_false] at h ⊢; obtain ⟨v, h1, h2⟩ := jt h; exact ⟨v, h1, h2 _ ⟨rfl, rfl⟩⟩
 case call c =>
  obtain ⟨callee, args, ts⟩ := c
  cases callee with
  | value f =>
   simp only at hd h ⊢
   have hz' : z.contains (dst.getD 0) = false := by simpa using hd
   simp only [hz'] at h ⊢
   cases hf : ev tm f <;> simp only [hf] at h ⊢
   simp only [if_true] at h ⊢
   obtain ⟨v, h1, h2⟩ := h
   exact ⟨v, by simpa [frq] using h2, v, h1, by simp [frq]⟩
  | builtin b =>
   simp only [Bool.and_eq_true] at hd
   have hz' : z.contains (dst.getD 0) = false := by simpa using hd.2
   simp only [aO, cC, if_true, hz'] at h ⊢
   have hfr : ∀ T' : aa → Sto → Prop, (fun r s => frq false r s T') = T' := fun T' => by funext r s; simp [frq]
   rw [hfr] at h
   rw [show (∃ v, T v sto ∧ bE L (dst.getD 0) b ts.toList (args.toList.map (ev tm)) sto fun r s => frq false r s fun r s => r = v ∧ s = sto) = ∃ v, T v sto ∧ bE L (dst.getD 0) b ts.toList (args.toList.map (ev tm)) sto fun r s => r = v ∧ s = sto by
    congr 1]
   unfold bE at *
   split at h
   ·obtain ⟨v, h1, h2⟩ := yr h; exact ⟨v, h1, h2 _ ⟨rfl, rfl⟩⟩
   ·exact absurd hd.1 (by decide)
   ·exact ⟨_, h.2, h.1, rfl, rfl⟩
   ·exact ⟨_, h.2, h.1, rfl, rfl⟩
   ·exact h.elim
  | invoke r m => simp at hd
theorem tQ {z : List Nat} {o : Oper} {tm : Tm} {sto sto' : Sto} {v : aa} (hd : jg z o = true) (hp : q9 L o = true) (h : aA L P true z o tm sto (fun r s => r = v ∧ s = sto)) : aA L P true z o tm sto' (fun r s => r = v ∧ s = sto') := by
 obtain ⟨dst, op, type, pos, after, guard⟩ := o
 unfold aA at *
 cases op <;> simp only [q9] at hp <;> try (cases hp; done)
 case move x => exact ⟨h.1, rfl⟩
 case assign x => exact ⟨h.1, rfl⟩
 case pick c a b =>
  simp only [aO, cC, Bool.false_eq_true, if_false] at h ⊢
  cases hc : ev tm c <;> simp only [hc] at h ⊢
  exact ⟨fun hx => ⟨(h.1 hx).1, rfl⟩, fun hx => ⟨(h.2 hx).1, rfl⟩⟩
 case build t ps =>
  simp only [aO, cC, Bool.false_eq_true, if_false] at h ⊢
  obtain ⟨h1, cs, h2, h3⟩ := h
  exact ⟨h1, cs, h2, h3.1, rfl⟩
 case nilCheck x =>
  simp only [aO, cC, Bool.false_eq_true, if_false] at h ⊢
  cases hc : ev tm x <;> simp only [hc] at h ⊢ <;> exact ⟨h.1, rfl⟩
 case binOp op' xt x y yt =>
  simp only [aO, cC, Bool.false_eq_true, if_false] at h ⊢
  have hy : ct y = false := by simpa [jg] using hd
  simp only [hy, Bool.false_eq_true, if_false] at h ⊢
  obtain ⟨v', h1, h2⟩ := qf h; exact h2 _ ⟨h1.1, rfl⟩
 case unOp => simp only [aO, cC, Bool.false_eq_true, if_false] at h ⊢; obtain ⟨v', h1, h2⟩ := tR h; exact h2 _ ⟨h1.1, rfl⟩
 case convert => simp only [aO, cC, Bool.false_eq_true, if_false] at h ⊢; obtain ⟨v', h1, h2⟩ := js h; exact h2 _ ⟨h1.1, rfl⟩
 case makeFunc fn first cap =>
  simp only [cC, Bool.false_eq_true, if_false] at h ⊢
  cases fn with
  | func f => exact ⟨h.1, h.2.1, rfl⟩
  | _ => exact h.elim
 case fieldAddr => simp only [aO, cC, Bool.false_eq_true, if_false] at h ⊢; obtain ⟨v', h1, h2⟩ := lX h; exact h2 _ ⟨h1.1, rfl⟩
 case field => simp only [aO, cC, Bool.false_eq_true, if_false] at h ⊢; obtain ⟨v', h1, h2⟩ := ju h; exact h2 _ ⟨h1.1, rfl⟩
 case index => simp only [aO, cC, Bool.false_eq_true, if_false] at h ⊢; obtain ⟨v', h1, h2⟩ := lY h; exact h2 _ ⟨h1.1, rfl⟩
 case extract => simp only [aO, cC, Bool.false_eq_true, if_false] at h ⊢; obtain ⟨v', h1, h2⟩ := jt h; exact h2 _ ⟨h1.1, rfl⟩
 case call c =>
  obtain ⟨callee, args, ts⟩ := c
  cases callee with
  | value f => cases hp
  | builtin b =>
   have hz' : z.contains (dst.getD 0) = false := by
    simp only [jg, Bool.and_eq_true] at hd
    simpa using hd.2
   simp only [aO, cC, if_true, hz'] at h ⊢
   have hfr : ∀ T' : aa → Sto → Prop, (fun r s => frq false r s T') = T' := fun T' => by funext r s; simp [frq]
   rw [hfr] at h ⊢
   unfold bE at *
   split at h
   ·rename_i t x h2 h3
    simp only [h2] at hp
    unfold eg at *
    cases ht : (L t).ty <;> simp only [ht] at h hp ⊢ <;> try (cases hp; done)
    ·cases x <;> simp only at h ⊢; exact ⟨h.1, trivial⟩
    ·cases x <;> simp only at h ⊢ <;> exact ⟨h.1, trivial⟩
   ·cases hp
   ·exact ⟨h.1, h.2.1, rfl⟩
   ·exact ⟨h.1, h.2.1, rfl⟩
   ·exact h.elim
  | invoke r m => cases hp
section
variable {q : Bool} {z : List Nat} {ds : List (Option Nat)}
def QS (L : Lay) (P : Program) (z : List Nat) (ds : List (Option Nat)) (o : Oper) (tm : Tm) (sto : Sto) (v : aa) : Prop :=
 match o.guard with
 | none => aA L P true z o tm sto fun r s => r = v ∧ s = sto
 | some (j, want) => ∃ t, ds[j]? = some (some t) ∧
   ((∃ b, lk tm t = .bool b ∧ (b = want → aA L P true z o tm sto fun r s => r = v ∧ s = sto) ∧ (b = !want → v = .tup [])) ∨ (lk tm t = .tup [] ∧ v = .tup []))
theorem Eh {tm tm' : Tm} (h : ∀ t, lk tm t = lk tm' t) (x : Operand) : ev tm x = ev tm' x := by
 cases x <;> simp [ev, h]
theorem dA (d : Option Nat) (v : aa) (tm : Tm) (t : Nat) : lk (put d v tm) t = if d = some t then v else lk tm t := by
 cases d with
 | none => simp [put]
 | some d => simp only [put, lk, Option.some.injEq]
theorem Bh {sto : Sto} {K : Tm → Sto → Prop} (hz : ∀ d, z.contains d = true → ak sto d = none) : ∀ (os : List Oper) (tm : Tm), (os.all (jg z)) = true → vc L P true z ds os tm sto K →
  ∃ (TM : Nat → Tm) (val : Nat → aa), TM 0 = tm ∧ (∀ p o, os[p]? = some o → QS L P z ds o (TM p) sto (val p) ∧ ∀ t, lk (TM (p + 1)) t = lk (put o.dst (val p) (TM p)) t) ∧ K (TM os.length) sto
 | [], tm, _, h => ⟨fun _ => tm, fun _ => .undef, rfl, fun p o ho => by simp at ho, h⟩
 | o :: os, tm, hd, h => by
  simp only [List.all_cons, Bool.and_eq_true] at hd
  have key : ∃ v tm1, QS L P z ds o tm sto v ∧ (∀ t, lk tm1 t = lk (put o.dst v tm) t) ∧ vc L P true z ds os tm1 sto K := by
   unfold vc at h
   unfold QS
   cases hg : o.guard with
   | none =>
    simp only [hg] at h ⊢
    obtain ⟨v, h1, h2⟩ := oM hz hd.1 h
    exact ⟨v, _, h2, fun t => rfl, h1⟩
   | some gw =>
    obtain ⟨j, want⟩ := gw
    simp only [hg] at h ⊢
    cases hj : ds[j]? with
    | none => simp only [hj] at h
    | some ot =>
     cases ot with
     | none => simp only [hj] at h
     | some t =>
      simp only [hj] at h
      split at h
      ·rename_i b hb
       have hsame : ∀ c, b = c → ∀ t', lk ((t, aa.bool c) :: tm) t' = lk tm t' := by
        rintro c rfl t'
        simp only [lk]
        split
        ·rename_i e; subst e; exact hb.symm
        ·rfl
       by_cases hbw : b = want
       ·obtain ⟨v, h1, h2⟩ := oM hz hd.1 (h.1 hbw)
        refine ⟨v, _, ⟨t, rfl, .inl ⟨b, hb, fun _ => eD (fun x _ => Eh (hsame want hbw) x) h2, fun hn => ?_⟩⟩, fun t' => ?_, h1⟩
        ·rw [hbw] at hn; cases want <;> cases hn
        ·rw [dA, dA, hsame want hbw]
       ·have hbn : b = !want := by cases b <;> cases want <;> simp_all
        refine ⟨.tup [], _, ⟨t, rfl, .inl ⟨b, hb, fun hh => absurd hh hbw, fun _ => rfl⟩⟩, fun t' => ?_, h.2 hbn⟩
        rw [dA, dA, hsame _ hbn]
      ·rename_i hb
       exact ⟨.tup [], _, ⟨t, rfl, .inr ⟨hb, rfl⟩⟩, fun t' => rfl, h⟩
      ·exact h.elim
  obtain ⟨v, tm1, h1, h2, h3⟩ := key
  obtain ⟨TM, val, e0, hrun, hK⟩ := Bh hz os tm1 hd.2 h3
  refine ⟨fun p => match p with | 0 => tm | p + 1 => TM p, fun p => match p with | 0 => v | p + 1 => val p, rfl, fun p o' ho => ?_, by simpa using hK⟩
  cases p with
  | zero =>
   simp only [List.getElem?_cons_zero, Option.some.injEq] at ho
   subst ho
   exact ⟨h1, fun t => by show lk (TM 0) t = _; rw [e0]; exact h2 t⟩
  | succ p => exact hrun p o' (by simpa using ho)
end
def qw (ops : List Oper) (j i : Nat) : Bool :=
 match ops[j]? with
 | some o => o.after.toList.any fun e => Region.binds .any e && e.on == i
 | none => false
def vE : List Oper → List Nat → List Nat
 | [], acc => acc
 | o :: os, acc => vE os (acc ++ [o.after.toList.foldl (fun m e => if Region.binds .any e then m ||| (2 ^ e.on ||| acc.getD e.on 0) else m) 0])
def gE (ops : List Oper) (_ j i : Nat) : Bool := ((vE ops []).getD j 0).testBit i
def qV : List Nat → Bool
 | [] => true
 | x :: xs => !xs.contains x && qV xs
def En (ops : List Oper) (nq : Nat) (order : List Nat) (lt : List (Nat × Nat)) (p : Nat) (o : Oper) : Bool :=
 match o.op, o.guard with
 | .load _ (.tmp a), none => lt.any (fun x => x.1 == a) && (List.range nq).all fun p' => decide (p' < p) || (match ops[order.getD p' 0]? with | some o' => o'.dst != some a | none => true)
 | _, _ => false
def Eo (ops : List Oper) (nq : Nat) (order : List Nat) (lr : List Nat) (p : Nat) (o : Oper) : Bool :=
 match o.op with
 | .load _ (.tmp a) => lr.contains a && (List.range nq).all fun p' => decide (p' < p) || (match ops[order.getD p' 0]? with | some o' => o'.dst != some a | none => true)
 | .indexAddr _ (.tmp a) _ => lr.contains a && (List.range nq).all fun p' => decide (p' < p) || (match ops[order.getD p' 0]? with | some o' => o'.dst != some a | none => true)
 | .slice _ (.tmp a) _ _ _ => lr.contains a && (List.range nq).all fun p' => decide (p' < p) || (match ops[order.getD p' 0]? with | some o' => o'.dst != some a | none => true)
 | _ => false
def ei : aa → Bool
 | .ref _ _ => true
 | .sl _ _ _ => true
 | _ => false
def ltB (ops : List Oper) (nq : Nat) (order : List Nat) (lt : List (Nat × Nat)) : Bool :=
 lt.isEmpty || (List.range ops.length).all fun p => decide (p < nq) || (match ops[order.getD p 0]? with
  | some o => (match o.op, o.dst, o.guard with | .store _ (.tmp b) _, none, none => lt.all fun x => lt.contains (x.1, b) | _, _, _ => false)
  | none => true)
def gh : aa → aa → Bool
 | .bx i _ _, .bx j _ _ => i != j
 | .bx i _ _, .loc j _ _ _ => i != j
 | _, _ => false
def xv (o : Oper) : Bool := match o.op with | .buildSlice _ _ _ => true | _ => false
def nu (s : Nat) (L : Lay) (nt : Nat) (z : List Nat) (ops : List Oper) (nq : Nat) (order : List Nat) (lt : List (Nat × Nat)) (lr : List Nat) : Bool :=
 ltB ops nq order lt &&
 (aT L nt ops && qV order && order.length == ops.length && decide (nq ≤ ops.length) && order.all (fun i => decide (i < ops.length)) && (List.range ops.length).all (fun i => order.contains i) && ops.all (fun o => o.after.toList.all fun e => decide (e.on < ops.length)) && (List.range ops.length).all (fun i => !qw ops i i) &&
 (List.range ops.length).all (fun p' => (List.range p').all fun p =>
  let i := order.getD p 0
  let j := order.getD p' 0
  !qw ops i j &&
  ((match ops[i]?, ops[j]? with | some x, some y => x.apart ops.toArray y | _, _ => false) || gE ops 4 j i) &&
  (decide (p < nq + s) || p' != p + 1 || gE ops 4 j i)) &&
 (List.range nq).all (fun p =>
  match ops[order.getD p 0]? with
  | some o => jg z o && (xv o || q9 L o || decide (ops.length ≤ nq) || gE ops 4 (order.getD nq 0) (order.getD p 0) || En ops nq order lt p o || Eo ops nq order lr p o)
  | none => false))
def ic (L : Lay) (nt : Nat) (z : List Nat) (ops : List Oper) (nq : Nat) (order : List Nat) (lt : List (Nat × Nat)) (lr : List Nat) : Bool := nu 0 L nt z ops nq order lt lr
def qx (L : Lay) (nt : Nat) (z : List Nat) (ops : List Oper) (nq : Nat) (order : List Nat) : Bool := ic L nt z ops nq order [] []
theorem iO {ops : List Oper} {j i : Nat} : qw ops j i = true ↔ ∃ o, ops[j]? = some o ∧ ∃ e ∈ o.after, Region.binds .any e = true ∧ e.on = i := by
 unfold qw
 cases h : ops[j]? with
 | none => simp
 | some o => simp only [List.any_eq_true, Array.mem_toList_iff, Bool.and_eq_true, beq_iff_eq, Option.some.injEq, exists_eq_left']
structure eG (ops : List Oper) (listed : Array Bool) : Prop where
 size : listed.size = ops.length
 cl : ∀ j i, listed.getD j false = true → qw ops j i = true → listed.getD i false = true
theorem jx {ops : List Oper} {A : Nat → Nat → Prop} (hA : ∀ j o, ops[j]? = some o → ∀ e ∈ o.after, Region.binds .any e = true → A j e.on ∧ ∀ i, A e.on i → A j i) :
  ∀ (os : List Oper) (acc : List Nat), ops.drop acc.length = os → (∀ j i, (acc.getD j 0).testBit i = true → A j i) → ∀ j i, ((vE os acc).getD j 0).testBit i = true → A j i
 | [], acc, _, h, j, i, hb => h j i hb
 | o :: os, acc, hd, h, j, i, hb => by
  unfold vE at hb
  have hl : acc.length < ops.length := by
   rcases Nat.lt_or_ge acc.length ops.length with h1 | h1
   ·exact h1
   ·rw [List.drop_of_length_le h1] at hd; cases hd
  have ho : ops[acc.length]? = some o := by
   have := List.getElem?_drop (xs := ops) (i := acc.length) (j := 0)
   rw [hd] at this; simpa using this.symm
  refine jx hA os _ ?_ ?_ j i hb
  ·rw [List.length_append, List.length_singleton, ← List.drop_drop, hd]; rfl
  ·intro j i hb
   by_cases hj : j < acc.length
   ·rw [List.getD_eq_getElem?_getD, List.getElem?_append_left hj, ← List.getD_eq_getElem?_getD] at hb
    exact h j i hb
   ·by_cases hj2 : j = acc.length
    ·subst hj2
     rw [List.getD_eq_getElem?_getD, List.getElem?_append_right (Nat.le_refl _)] at hb
     simp only [Nat.sub_self, List.getElem?_cons_zero, Option.getD_some] at hb
     have key : ∀ (es : List Edge) (m : Nat), (∀ e ∈ es, e ∈ o.after) → (∀ i, m.testBit i = true → A acc.length i) → ∀ i, (es.foldl (fun m e => if Region.binds .any e then m ||| (2 ^ e.on ||| acc.getD e.on 0) else m) m).testBit i = true → A acc.length i := by
      intro es
      induction es with
      | nil => intro m _ hm i hi; exact hm i hi
      | cons e es ih =>
       intro m hes hm i hi
       refine ih _ (fun e he => hes e (by simp [he])) (fun i hi => ?_) i hi
       dsimp only at hi
       split at hi
       ·rename_i hbd
        obtain ⟨h1, h2⟩ := hA _ _ ho e (hes e (by simp)) hbd
        rw [Nat.testBit_or, Nat.testBit_or, Bool.or_eq_true, Bool.or_eq_true] at hi
        rcases hi with hi | hi | hi
        ·exact hm i hi
        ·rw [Nat.testBit_two_pow] at hi
         simp only [decide_eq_true_eq] at hi
         exact hi ▸ h1
        ·exact h2 i (h _ _ hi)
       ·exact hm i hi
     exact key o.after.toList 0 (fun e he => by simpa using he) (fun i hi => by simp at hi) i hb
    ·rw [List.getD_eq_getElem?_getD, List.getElem?_eq_none (by simp; omega)] at hb
     simp at hb
theorem eG.reach {ops : List Oper} {listed : Array Bool} (h : eG ops listed) (n j i : Nat) (hj : listed.getD j false = true) (hr : gE ops n j i = true) : listed.getD i false = true := by
 refine jx (ops := ops) (A := fun j i => listed.getD j false = true → listed.getD i false = true) (fun j o ho e he hb => ?_) ops [] rfl (fun j i hb => by simp at hb) j i hr hj
 have := fun hj => h.cl j e.on hj (iO.2 ⟨o, ho, e, he, hb, rfl⟩)
 exact ⟨this, fun i hi hj => hi (this hj)⟩
theorem eG.ready {ops : List Oper} {listed : Array Bool} (h : eG ops listed) {j : Nat} (hj : j ∈ Region.ready .any ops.toArray listed) (n i : Nat) (hr : gE ops n j i = true) : listed.getD i false = true := by
 obtain ⟨_, o, ho, hall⟩ := mem_ready.1 hj
 have ho' : ops[j]? = some o := by simpa using ho
 refine jx (ops := ops) (A := fun k i => (k = j ∨ listed.getD k false = true) → listed.getD i false = true) (fun k o2 ho2 e he hb => ?_) ops [] rfl (fun j i hb => by simp at hb) j i hr (.inl rfl)
 have h1 : (k = j ∨ listed.getD k false = true) → listed.getD e.on false = true := by
  rintro (rfl | hk)
  ·rw [ho'] at ho2; cases ho2; exact hall e he hb
  ·exact h.cl k e.on hk (iO.2 ⟨o2, ho2, e, he, hb, rfl⟩)
 exact ⟨h1, fun i hi hk => hi (.inr (h1 hk))⟩
theorem eG.Jr {ops : List Oper} {listed : Array Bool} {j : Nat} (hj : j ∈ Region.ready .any ops.toArray listed) (i : Nat) (hr : qw ops j i = true) : listed.getD i false = true := by
 obtain ⟨_, o, ho, hall⟩ := mem_ready.1 hj
 have ho' : ops[j]? = some o := by simpa using ho
 obtain ⟨o', ho2, e, he, hb, hon⟩ := iO.1 hr
 rw [ho'] at ho2; cases ho2
 exact hon ▸ hall e he hb
theorem eG.set {ops : List Oper} {listed : Array Bool} (h : eG ops listed) {j : Nat} (hj : j ∈ Region.ready .any ops.toArray listed) : eG ops (listed.setIfInBounds j true) := by
 refine ⟨by simp [h.size], fun a b ha hd => ?_⟩
 by_cases e : j = a
 ·subst e
  exact getD_set_true (eG.Jr hj b hd)
 ·rw [getD_set_ne false e] at ha
  exact getD_set_true (h.cl a b ha hd)
structure eu (L : Lay) (nt : Nat) (z : List Nat) (ops : List Oper) (nq : Nat) (order : List Nat) (lt' : List (Nat × Nat)) (lr : List Nat) : Prop where
 oks : aT L nt ops = true
 len : order.length = ops.length
 le : nq ≤ ops.length
 lt : ∀ p, p < ops.length → order.getD p 0 < ops.length
 surj : ∀ i, i < ops.length → ∃ p, p < ops.length ∧ order.getD p 0 = i
 inj : ∀ p p', p < ops.length → p' < ops.length → order.getD p 0 = order.getD p' 0 → p = p'
 back : ∀ p p', p < p' → p' < ops.length → qw ops (order.getD p 0) (order.getD p' 0) = false
 apart : ∀ p p', p < p' → p' < ops.length → ∀ x y, ops[order.getD p 0]? = some x → ops[order.getD p' 0]? = some y → x.apart ops.toArray y = true ∨ gE ops 4 (order.getD p' 0) (order.getD p 0) = true
 on : ∀ o, o ∈ ops → ∀ e ∈ o.after, e.on < ops.length
 self : ∀ i, i < ops.length → qw ops i i = false
 det : ∀ p o, p < nq → ops[order.getD p 0]? = some o → jg z o = true
 pure : ∀ p o, p < nq → ops[order.getD p 0]? = some o → xv o = true ∨ q9 L o = true ∨ ops.length ≤ nq ∨ gE ops 4 (order.getD nq 0) (order.getD p 0) = true ∨
  (∃ t a b, o.op = .load t (.tmp a) ∧ o.guard = none ∧ (a, b) ∈ lt' ∧ ∀ p', p ≤ p' → p' < nq → ∀ o', ops[order.getD p' 0]? = some o' → o'.dst ≠ some a) ∨
  ∃ t a, (o.op = .load t (.tmp a) ∨ (∃ i, o.op = .indexAddr t (.tmp a) i) ∨ ∃ lo hi mx, o.op = .slice t (.tmp a) lo hi mx) ∧ a ∈ lr ∧ ∀ p', p ≤ p' → p' < nq → ∀ o', ops[order.getD p' 0]? = some o' → o'.dst ≠ some a
 ltw : lt' ≠ [] → ∀ p, nq ≤ p → p < ops.length → ∀ o, ops[order.getD p 0]? = some o → ∃ t b x, o.op = .store t (.tmp b) x ∧ o.dst = none ∧ o.guard = none ∧ ∀ y ∈ lt', (y.1, b) ∈ lt'
theorem nV : ∀ {l : List Nat}, qV l = true → ∀ p p', p < l.length → p' < l.length → l.getD p 0 = l.getD p' 0 → p = p'
 | [], _, p, _, h, _, _ => by simp at h
 | x :: xs, hn, p, p', h, h', he => by
  simp only [qV, Bool.and_eq_true, Bool.not_eq_true', List.contains_eq_mem, decide_eq_false_iff_not] at hn
  cases p with
  | zero =>
   cases p' with
   | zero => rfl
   | succ p' =>
    simp only [List.length_cons, Nat.add_lt_add_iff_right] at h'
    simp only [List.getD_cons_zero, List.getD_cons_succ] at he
    exfalso; apply hn.1; rw [he]
    simp [List.getD, h']
  | succ p =>
   simp only [List.length_cons, Nat.add_lt_add_iff_right] at h
   cases p' with
   | zero =>
    simp only [List.getD_cons_zero, List.getD_cons_succ] at he
    exfalso; apply hn.1; rw [← he]
    simp [List.getD, h]
   | succ p' =>
    simp only [List.length_cons, Nat.add_lt_add_iff_right] at h'
    simp only [List.getD_cons_succ] at he
    rw [nV hn.2 p p' h h' he]
def dP (ops : List Oper) (nq : Nat) (order : List Nat) (s : Nat) : Prop := ∀ p, nq + s ≤ p → p + 1 < ops.length → gE ops 4 (order.getD (p + 1) 0) (order.getD p 0) = true
theorem qy {s nt : Nat} {z : List Nat} {ops : List Oper} {nq : Nat} {order : List Nat} {lt' : List (Nat × Nat)} {lr : List Nat} (h : nu s L nt z ops nq order lt' lr = true) : eu L nt z ops nq order lt' lr ∧ dP ops nq order s := by
 simp only [nu, Bool.and_eq_true, beq_iff_eq, decide_eq_true_eq, List.all_eq_true, List.mem_range] at h
 obtain ⟨hltb, ⟨⟨⟨⟨⟨⟨⟨⟨⟨h1, h2⟩, h3⟩, h4⟩, h5⟩, h6⟩, hon⟩, hself⟩, h7⟩, h8⟩⟩ := h
 have hget : ∀ p, p < ops.length → ∃ h : p < order.length, order.getD p 0 = order[p] := fun p hp => ⟨by omega, by simp [List.getD, show p < order.length by omega]⟩
 refine ⟨⟨h1, h3, h4, fun p hp => ?_, fun i hi => ?_, fun p p' hp hp' => nV h2 p p' (by omega) (by omega), fun p p' hlt hp' => ?_, fun p p' hlt hp' x y hx hy => ?_, fun o ho e he => hon o ho e (by simpa using he), fun i hi => by simpa using hself i hi, fun p o hp ho => ?_, fun p o hp ho => ?_, fun hne p hp hp2 o ho => ?_⟩, fun p hp hp' => ?_⟩
 ·obtain ⟨hp', e⟩ := hget p hp
  rw [e]; exact h5 _ (List.getElem_mem hp')
 ·have := h6 i hi
  simp only [List.contains_eq_mem, decide_eq_true_eq] at this
  obtain ⟨p, hp, e⟩ := List.getElem_of_mem this
  exact ⟨p, by omega, by simp [List.getD, hp, e]⟩
 ·have := (h7 p' hp' p hlt).1.1
  simpa using this
 ·have := (h7 p' hp' p hlt).1.2
  simp only [hx, hy, Bool.or_eq_true] at this
  exact this
 ·have := h8 p hp
  simp only [ho, Bool.and_eq_true] at this
  exact this.1
 ·have := h8 p hp
  simp only [ho, Bool.and_eq_true, Bool.or_eq_true, decide_eq_true_eq] at this
  rcases this.2 with ((((h | h) | h) | h) | h) | h
  ·exact .inl h
  ·exact .inr (.inl h)
  ·exact .inr (.inr (.inl h))
  ·exact .inr (.inr (.inr (.inl h)))
  rotate_left
  ·refine .inr (.inr (.inr (.inr (.inr ?_))))
   unfold Eo at h
   split at h
   ·rename_i t a hop
    simp only [Bool.and_eq_true, List.contains_eq_mem, List.all_eq_true, List.mem_range, Bool.or_eq_true, decide_eq_true_eq] at h
    obtain ⟨hmem, hall⟩ := h
    refine ⟨t, a, .inl hop, hmem, fun p' hle hlt' o' ho' => ?_⟩
    rcases hall p' hlt' with h | h
    ·omega
    ·simp only [ho', bne_iff_ne, ne_eq] at h
     exact h
   ·rename_i t a i hop
    simp only [Bool.and_eq_true, List.contains_eq_mem, List.all_eq_true, List.mem_range, Bool.or_eq_true, decide_eq_true_eq] at h
    obtain ⟨hmem, hall⟩ := h
    refine ⟨t, a, .inr (.inl ⟨i, hop⟩), hmem, fun p' hle hlt' o' ho' => ?_⟩
    rcases hall p' hlt' with h | h
    ·omega
    ·simp only [ho', bne_iff_ne, ne_eq] at h
     exact h
   ·rename_i t a lo hi mx hop
    simp only [Bool.and_eq_true, List.contains_eq_mem, List.all_eq_true, List.mem_range, Bool.or_eq_true, decide_eq_true_eq] at h
    obtain ⟨hmem, hall⟩ := h
    refine ⟨t, a, .inr (.inr ⟨lo, hi, mx, hop⟩), hmem, fun p' hle hlt' o' ho' => ?_⟩
    rcases hall p' hlt' with h | h
    ·omega
    ·simp only [ho', bne_iff_ne, ne_eq] at h
     exact h
   ·cases h
  ·refine .inr (.inr (.inr (.inr (.inl ?_))))
   unfold En at h
   split at h
   ·rename_i t a hop hg
    simp only [Bool.and_eq_true, List.any_eq_true, beq_iff_eq, List.all_eq_true, List.mem_range, Bool.or_eq_true, decide_eq_true_eq] at h
    obtain ⟨⟨⟨a', b⟩, hmem, rfl⟩, hall⟩ := h
    refine ⟨t, a', b, hop, hg, hmem, fun p' hle hlt' o' ho' => ?_⟩
    rcases hall p' hlt' with h | h
    ·omega
    ·simp only [ho', bne_iff_ne, ne_eq] at h
     exact h
   ·cases h
 ·unfold ltB at hltb
  simp only [Bool.or_eq_true, List.isEmpty_iff, List.all_eq_true, List.mem_range, decide_eq_true_eq] at hltb
  rcases hltb with h | h
  ·exact absurd h hne
  ·rcases h p hp2 with h | h
   ·omega
   ·simp only [ho] at h
    split at h
    ·rename_i t b x hop hd hg
     simp only [List.all_eq_true, List.contains_eq_mem, decide_eq_true_eq] at h
     exact ⟨t, b, x, hop, hd, hg, h⟩
    ·cases h
 ·have := (h7 (p + 1) hp' p (by omega)).2
  simp only [Bool.or_eq_true, decide_eq_true_eq, bne_self_eq_false, Bool.false_eq_true, or_false] at this
  rcases this with h | h
  ·omega
  ·exact h
theorem l8 {q : Bool} {z : List Nat} {o : Oper} {t : Nat} {a : Operand} {tm : Tm} {sto : Sto} {T : aa → Sto → Prop} (hop : o.op = .load t a) : aA L P q z o tm sto T = bM L t (ev tm a) sto fun r => T r sto := by
 unfold aA; rw [hop]; rfl
theorem rI {q : Bool} {z : List Nat} {o : Oper} {t : Nat} {a x : Operand} {tm : Tm} {sto : Sto} {T : aa → Sto → Prop} (hop : o.op = .store t a x) : aA L P q z o tm sto T = cj L t (ev tm a) (ev tm x) sto fun s => T .undef s := by
 unfold aA; rw [hop]; rfl
theorem lC {q : Bool} {z : List Nat} {o : Oper} {t : Nat} {a i : Operand} {tm : Tm} {sto : Sto} {T : aa → Sto → Prop} (hop : o.op = .indexAddr t a i) : aA L P q z o tm sto T = aE L t (ev tm a) (ev tm i) sto fun r => T r sto := by
 unfold aA; rw [hop]; rfl
theorem fw {t : Nat} {x i : aa} {sto0 sto : Sto} {v : aa} (h : aE L t x i sto0 fun r => r = v) (hx : (∃ q cs, x = .ref q cs) ∨ ∃ q f l, x = .sl q f l) : aE L t x i sto fun r => r = v := by
 rcases hx with ⟨q, cs, rfl⟩ | ⟨q, f, l, rfl⟩ <;> (unfold aE at h ⊢; exact h)
theorem rH {q : Bool} {z : List Nat} {o : Oper} {t : Nat} {a : Operand} {lo hi mx : Option Operand} {tm : Tm} {sto : Sto} {T : aa → Sto → Prop} (hop : o.op = .slice t a lo hi mx) : aA L P q z o tm sto T = ((mx.isSome = true → hi.isSome = true) ∧ bY L t (ev tm a) (lo.map (ev tm)) (hi.map (ev tm)) (mx.map (ev tm)) sto fun r => T r sto) := by
 unfold aA; rw [hop]; rfl
theorem jv {t : Nat} {x : aa} {lo hi mx : Option aa} {sto0 sto : Sto} {v : aa} (h : bY L t x lo hi mx sto0 fun r => r = v) (hx : (∃ q cs, x = .ref q cs) ∨ ∃ q f l, x = .sl q f l) : bY L t x lo hi mx sto fun r => r = v := by
 rcases hx with ⟨q, cs, rfl⟩ | ⟨q, f, l, rfl⟩ <;> (unfold bY at h ⊢; cases hty : (L t).ty <;> simp only [hty] at h ⊢ <;> exact h)
theorem uD {q : Bool} {z : List Nat} {o : Oper} {t a : Nat} {tm : Tm} {sto sto' : Sto} {v : aa} (hop : o.op = .load t (.tmp a)) {id g off : Nat} (hb : lk tm a = .bx id g off) (hs : ak sto' id = ak sto id) (h : aA L P q z o tm sto fun r s => r = v ∧ s = sto) : aA L P q z o tm sto' fun r s => r = v ∧ s = sto' := by
 rw [l8 hop] at h ⊢
 simp only [ev, hb, bM, hs, and_true] at h ⊢
 exact h
theorem tI {q : Bool} {z : List Nat} {o : Oper} {t b : Nat} {x : Operand} {tm : Tm} {sto : Sto} {T : aa → Sto → Prop} (hop : o.op = .store t (.tmp b) x) (h : aA L P q z o tm sto T) : aA L P q z o tm sto fun r s => T r s ∧ ∀ id g off, gh (.bx id g off) (lk tm b) = true → ak s id = ak sto id := by
 rw [rI hop] at h ⊢
 simp only [ev] at h ⊢
 cases hl : lk tm b with
 | bx i g off =>
  simp only [hl, cj, cH] at h ⊢
  refine ⟨h.1, h.2.1, ?_⟩
  have h := h.2.2
  split at h
  ·rename_i g' cs hg
   refine ⟨h.1, h.2.1, h.2.2, fun id g off ha => ?_⟩
   simp only [gh, bne_iff_ne, ne_eq] at ha
   rw [bD, if_neg (Ne.symm ha)]
  ·exact h.elim
 | loc i g j off =>
  simp only [hl, cj, cH] at h ⊢
  refine ⟨h.1, h.2.1, ?_⟩
  have h := h.2.2
  split at h
  ·rename_i g' esz l hg
   refine ⟨h.1, h.2.1, h.2.2.1, h.2.2.2.1, fun y hy => ⟨h.2.2.2.2 y hy, fun id g off ha => ?_⟩⟩
   simp only [gh, bne_iff_ne, ne_eq] at ha
   rw [bD, if_neg (Ne.symm ha)]
  ·exact h.elim
 | _ => simp only [hl, cj, cH] at h; exact h.2.2.elim
structure mN (L : Lay) (P : Program) (z : List Nat) (ops : List Oper) (nq : Nat) (order : List Nat) (lt' : List (Nat × Nat)) (nt : Nat) (E : Gh) (dfs : List Deferred) (sto0 : Sto) (TMq : Nat → Tm) (K : Tm → Sto → Prop) (listed : Array Bool) (a : Act) (w : World) (G : Gh) (sto : Sto) (TM : Nat → Tm) (m : Nat) : Prop where
 closed : eG ops listed
 ext : Ext E G
 wok : WOk G w
 sok : an G w sto
 n : a.tmps.size = nt
 d : a.defers = dfs
 mle : nq + m ≤ ops.length
 ws : ∀ p, nq ≤ p → p < ops.length → (listed.getD (order.getD p 0) false = true ↔ p < nq + m)
 tq : ∀ p, p ≤ nq → TM p = TMq p
 stay : ∀ p, p < nq + m → ∀ o, ops[order.getD p 0]? = some o → ∀ t, o.dst ≠ some t → lk (TM (p + 1)) t = lk (TM p) t
 s0 : m = 0 → sto = sto0
 cut : ∀ t p, p ≤ nq + m → (∀ p' o, p' < ops.length → ops[order.getD p' 0]? = some o → o.dst = some t → (listed.getD (order.getD p' 0) false = true ↔ p' < p)) → Rep G true (lk (TM p) t) (a.tmps.getD t undef)
 cont : vc L P false z (ops.map (·.dst)) ((order.drop (nq + m)).filterMap (ops[·]?)) (TM (nq + m)) sto K
 keep : ∀ y ∈ lt', ∀ id g off, lk (TMq nq) y.1 = .bx id g off → ak sto id = ak sto0 id
section
variable {nt nq : Nat} {z : List Nat} {ops : List Oper} {order : List Nat} {lt' : List (Nat × Nat)} {lr : List Nat} {E : Gh} {dfs : List Deferred} {sto0 : Sto} {TMq : Nat → Tm} {K : Tm → Sto → Prop}
theorem vQ {listed : Array Bool} {i : Nat} (h : listed.getD i true = false) : listed.getD i false = false := by
 rcases Nat.lt_or_ge i listed.size with h' | h'
 ·simp [h'] at h ⊢; exact h
 ·simp [Array.getElem?_eq_none h'] at h
theorem ji {listed : Array Bool} {j : Nat} (h : j < listed.size) : (listed.setIfInBounds j true).getD j false = true := by simp [h]
theorem mN.next (D : eu L nt z ops nq order lt' lr) {listed : Array Bool} {a : Act} {w w' : World} {G G' : Gh} {sto sto' : Sto} {TM TM' : Nat → Tm} {m m' p : Nat} {o : Oper} {r : aa} {v : Value}
  (inv : mN L P z ops nq order lt' nt E dfs sto0 TMq K listed a w G sto TM m) (hp : p < ops.length) (ho : ops[order.getD p 0]? = some o) (hr : order.getD p 0 ∈ Region.ready .any ops.toArray listed)
  (hx : Ext G G') (hw : WOk G' w') (hs : an G' w' sto') (hrep : ∀ d, o.dst = some d → Rep G' true r v)
  (hTM : ∀ p', p' ≤ nq + m → TM' p' = TM p') (hput : ∀ t, lk (TM' (p + 1)) t = lk (put o.dst r (TM p)) t) (hm : (m' = m ∧ p < nq) ∨ (m' = m + 1 ∧ p = nq + m)) (hs0 : m' = 0 → sto' = sto0)
  (hcont : vc L P false z (ops.map (·.dst)) ((order.drop (nq + m')).filterMap (ops[·]?)) (TM' (nq + m')) sto' K) (hkeep : ∀ y ∈ lt', ∀ id g off, lk (TMq nq) y.1 = .bx id g off → ak sto' id = ak sto0 id) :
  mN L P z ops nq order lt' nt E dfs sto0 TMq K (listed.setIfInBounds (order.getD p 0) true) (a.put o.dst v) w' G' sto' TM' m' := by
 have hjlt := D.lt p hp
 have hun : listed.getD (order.getD p 0) false = false := vQ (mem_ready.1 hr).1
 have hne : ∀ p', p' < ops.length → p' ≠ p → order.getD p 0 ≠ order.getD p' 0 := fun p' hp' h e => h (D.inj p' p hp' hp e.symm)
 have hset : ∀ p', p' < ops.length → p' ≠ p → (listed.setIfInBounds (order.getD p 0) true).getD (order.getD p' 0) false = listed.getD (order.getD p' 0) false := fun p' hp' h => getD_set_ne false (hne p' hp' h)
 have hself : (listed.setIfInBounds (order.getD p 0) true).getD (order.getD p 0) false = true := ji (by rw [inv.closed.size]; exact hjlt)
 have hdlt : ∀ d, o.dst = some d → d < nt := by
  intro d hd
  have := List.all_eq_true.1 D.oks o (List.mem_of_getElem? ho)
  simp only [hd, Bool.and_eq_true, decide_eq_true_eq] at this
  exact this.1.2
 have hmle : nq + m' ≤ ops.length := by
  rcases hm with ⟨rfl, _⟩ | ⟨rfl, h⟩
  ·exact inv.mle
  ·omega
 have hstay : ∀ p1, p1 < nq + m' → ∀ o1, ops[order.getD p1 0]? = some o1 → ∀ t, o1.dst ≠ some t → lk (TM' (p1 + 1)) t = lk (TM' p1) t := by
  intro p1 hp1 o1 ho1 t hd
  by_cases h : p1 < nq + m
  ·rw [hTM (p1 + 1) (by omega), hTM p1 (by omega)]
   exact inv.stay p1 h o1 ho1 t hd
  ·rcases hm with ⟨rfl, _⟩ | ⟨rfl, hpe⟩
   ·omega
   ·have : p1 = p := by omega
    subst this
    rw [ho] at ho1; cases ho1
    rw [hput, dA, if_neg hd, hTM p1 (by omega)]
 refine ⟨inv.closed.set hr, inv.ext.trans hx, hw, hs, ?_, ?_, hmle, fun p1 h1 h2 => ?_, fun p1 h1 => by rw [hTM p1 (by omega)]; exact inv.tq p1 h1, hstay, hs0, fun t p1 hp1 hc => ?_, hcont, hkeep⟩
 ·cases hd : o.dst <;> simp [Act.put, inv.n]
 ·cases hd : o.dst <;> simp [Act.put, inv.d]
 ·by_cases e : p1 = p
  ·subst e
   simp only [hself, true_iff]
   rcases hm with ⟨rfl, h⟩ | ⟨rfl, h⟩ <;> omega
  ·rw [hset p1 h2 e, inv.ws p1 h1 h2]
   rcases hm with ⟨rfl, h⟩ | ⟨rfl, h⟩ <;> omega
 ·by_cases hd : o.dst = some t
  ·have hpp : p < p1 := (hc p o hp ho hd).1 hself
   have hval : (a.put o.dst v).tmps.getD t undef = v := by
    have := hdlt t hd
    simp [Act.put, hd, inv.n, this]
   rw [hval]
   have hlk : ∀ k, p + 1 + k ≤ p1 → lk (TM' (p + 1 + k)) t = r := by
    intro k
    induction k with
    | zero => intro _; rw [Nat.add_zero, hput, dA, if_pos hd]
    | succ k ih =>
     intro hk
     have hlt : p + 1 + k < ops.length := by omega
     obtain ⟨o1, ho1⟩ : ∃ o1, ops[order.getD (p + 1 + k) 0]? = some o1 := ⟨_, List.getElem?_eq_getElem (D.lt _ hlt)⟩
     have := hstay (p + 1 + k) (by omega) o1 ho1 t ?_
     ·rw [show p + 1 + (k + 1) = p + 1 + k + 1 by omega, this]; exact ih (by omega)
     ·intro hd1
      have hl := (hc (p + 1 + k) o1 hlt ho1 hd1).2 (by omega)
      rw [hset _ hlt (by omega)] at hl
      rcases D.apart p (p + 1 + k) (by omega) hlt o o1 ho ho1 with h | h
      ·exact (Oper.apart_spec h).2.1 t hd hd1
      ·have := inv.closed.reach 4 _ _ hl h
       rw [hun] at this; cases this
   have := hlk (p1 - (p + 1)) (by omega)
   rw [show p + 1 + (p1 - (p + 1)) = p1 by omega] at this
   rw [this]; exact hrep t hd
  ·have hval : (a.put o.dst v).tmps.getD t undef = a.tmps.getD t undef := by
    cases hd' : o.dst with
    | none => simp [Act.put]
    | some d =>
     have : d ≠ t := by rintro rfl; exact hd hd'
     simp only [Act.put, Array.getD_eq_getD_getElem?]
     rw [Array.getElem?_setIfInBounds_ne this]
   rw [hval]
   have hc' : ∀ p' o', p' < ops.length → ops[order.getD p' 0]? = some o' → o'.dst = some t → p' ≠ p ∧ (listed.getD (order.getD p' 0) false = true ↔ p' < p1) := by
    intro p' o' hp' ho' hd'
    have hne' : p' ≠ p := by
     rintro rfl
     rw [ho] at ho'; cases ho'
     exact hd hd'
    exact ⟨hne', by rw [← hset p' hp' hne']; exact hc p' o' hp' ho' hd'⟩
   by_cases hle : p1 ≤ nq + m
   ·rw [hTM p1 hle]
    exact (inv.cut t p1 hle fun p' o' h1 h2 h3 => (hc' p' o' h1 h2 h3).2).mono hx.toMono
   ·rcases hm with ⟨rfl, _⟩ | ⟨rfl, hpe⟩
    ·exact absurd hp1 hle
    ·have e : p1 = p + 1 := by omega
     subst e
     rw [hput, dA, if_neg hd]
     refine (inv.cut t p (by omega) fun p' o' h1 h2 h3 => ?_).mono hx.toMono
     obtain ⟨h4, h5⟩ := hc' p' o' h1 h2 h3
     rw [h5]; omega
theorem mN.tok (D : eu L nt z ops nq order lt' lr) {listed : Array Bool} {a : Act} {w : World} {G : Gh} {sto : Sto} {TM : Nat → Tm} {m p : Nat} {o : Oper}
  (inv : mN L P z ops nq order lt' nt E dfs sto0 TMq K listed a w G sto TM m) (hp : p < ops.length) (hpm : p ≤ nq + m) (ho : ops[order.getD p 0]? = some o) (hr : order.getD p 0 ∈ Region.ready .any ops.toArray listed) :
  fi G (Rad.prune (o.looksAt ops.toArray) (TM p)) a.tmps := by
 intro t
 rw [fR]
 split
 ·rename_i ht
  have hun : listed.getD (order.getD p 0) false = false := vQ (mem_ready.1 hr).1
  refine inv.cut t p hpm fun p' o' hp' ho' hd' => ?_
  rcases Nat.lt_trichotomy p' p with h | h | h
  ·refine ⟨fun _ => h, fun _ => ?_⟩
   rcases D.apart p' p h hp o' o ho' ho with h1 | h1
   ·exact absurd ht ((Oper.apart_spec h1).1 t hd')
   ·exact inv.closed.ready hr 4 _ h1
  ·subst h
   rw [hun]; simp
  ·refine ⟨fun hl => ?_, fun h2 => by omega⟩
   rcases D.apart p p' h hp' o o' ho ho' with h1 | h1
   ·exact absurd ht ((Oper.apart_spec h1).2.2 t hd')
   ·have := inv.closed.reach 4 _ _ hl h1
    rw [hun] at this; cases this
 ·exact .undef
theorem mF {G G' : Gh} {d : Option Nat} {r : aa} {v : Value} {tm : Tm} {sto : Sto} {a : Act} {w : World} (hn : a.tmps.size = nt) (hd : (match d with | some d => decide (d < nt) | none => true) = true) (h : Sim G nt dfs (put d r tm) sto (a.put d v) w G') : ∀ e, d = some e → Rep G' true r v := by
 rintro e rfl
 have h1 := h.tok e
 have hlt : e < a.tmps.size := by rw [hn]; simpa using hd
 rw [dA, if_pos rfl] at h1
 have : (a.put (some e) v).tmps.getD e undef = v := by simp [Act.put, hlt]
 rw [this] at h1
 exact h1
theorem j4 {o : Oper} {tm : Tm} {x : Operand} (hx : x ∈ o.op.operands) : ev (Rad.prune (o.looksAt ops.toArray) tm) x = ev tm x := by
 cases x with
 | tmp t =>
  simp only [ev]
  rw [fR, if_pos]
  exact List.mem_append_left _ (List.mem_filterMap.2 ⟨.tmp t, by simpa using hx, rfl⟩)
 | _ => rfl
theorem oy {listed : Array Bool} {a : Act} {w : World} {G : Gh} {sto : Sto} {TM : Nat → Tm} {m p : Nat} {o : Oper} (D : eu L nt z ops nq order lt' lr)
  (inv : mN L P z ops nq order lt' nt E dfs sto0 TMq K listed a w G sto TM m) (hp : p < ops.length) (hpm : p ≤ nq + m) (ho : ops[order.getD p 0]? = some o) (hr : order.getD p 0 ∈ Region.ready .any ops.toArray listed) :
  Sim G nt dfs (Rad.prune (o.looksAt ops.toArray) (TM p)) sto a w G :=
 ⟨.refl G, inv.wok, inv.sok, inv.tok D hp hpm ho hr, inv.n, inv.d⟩
theorem lO {o : Oper} {j t : Nat} {want : Bool} (hg : o.guard = some (j, want)) (hj : (ops.map (·.dst))[j]? = some (some t)) : t ∈ o.looksAt ops.toArray := by
 refine List.mem_append_right _ ?_
 have hj' : (ops[j]?).bind (·.dst) = some t := by
  rw [List.getElem?_map] at hj
  cases ho : ops[j]? with
  | none => rw [ho] at hj; cases hj
  | some o => rw [ho] at hj; simpa using hj
 simp [hg, hj']
theorem CQ {o : Oper} {tm : Tm} {t : Nat} (h : t ∈ o.looksAt ops.toArray) : lk (Rad.prune (o.looksAt ops.toArray) tm) t = lk tm t := by rw [fR, if_pos h]
def DAlt (L : Lay) (P : Program) (z : List Nat) (ops : List Oper) (nq : Nat) (order : List Nat) (lt' : List (Nat × Nat)) (lr : List Nat) (nt : Nat) (E : Gh) (dfs : List Deferred) (sto0 : Sto) (TMq : Nat → Tm) (K : Tm → Sto → Prop) (listed : Array Bool) (a : Act) (w : World) (G : Gh) (sto : Sto) (m : Nat) : Prop :=
 dP ops nq order 0 ∨ (1 ≤ m ∧ dP ops nq order 1) ∨ (m = 0 ∧ dP ops nq order 1 ∧ ∃ order' TM', eu L nt z ops nq order' lt' lr ∧ dP ops nq order' 1 ∧ (∀ p, p < nq → order'.getD p 0 = order.getD p 0) ∧ order'.getD nq 0 = order.getD (nq + 1) 0 ∧ mN L P z ops nq order' lt' nt E dfs sto0 TMq K listed a w G sto TM' 0)
def RunQ (L : Lay) (P : Program) (z : List Nat) (ops : List Oper) (nq : Nat) (order : List Nat) (sto0 : Sto) (TMq : Nat → Tm) (val : Nat → aa) : Prop :=
 ∀ p o, p < nq → ops[order.getD p 0]? = some o → QS L P z (ops.map (·.dst)) o (TMq p) sto0 (val p) ∧ ∀ t, lk (TMq (p + 1)) t = lk (put o.dst (val p) (TMq p)) t
theorem lL : ∀ s : Sto, ∃ d, ∀ e, d ≤ e → ak s e = none
 | [] => ⟨0, fun _ _ => rfl⟩
 | (i, x) :: s => by
  obtain ⟨d, h⟩ := lL s
  refine ⟨max d (i + 1), fun e he => ?_⟩
  simp only [ak]
  rw [if_neg (by omega)]
  exact h e (by omega)
theorem tE (hL : LOk P L) {E G : Gh} {nt : Nat} {ds : List Deferred} {o : Oper} {tm : Tm} {sto sto0 : Sto} {a : Act} {w : World} {v : aa} {z : List Nat} {K : Act → World → Prop} {Q : Exit → Act → World → Prop} (hsim : Sim E nt ds tm sto a w G)
  (hok : aT L nt [o] = true) (hd : jg z o = true) (hb : xv o = true) (hz : ∀ d, z.contains d = true → ak sto0 d = none) (h : aA L P true z o tm sto0 fun r s => r = v ∧ s = sto0)
  (hK : ∀ G' w' u, Sim E nt ds (put o.dst v tm) sto (a.put o.dst u) w' G' → K (a.put o.dst u) w') : o.wp P a w K Q := by
 simp only [aT, List.all_cons, List.all_nil, Bool.and_true, Bool.and_eq_true] at hok
 obtain ⟨⟨hop, hdst⟩, _⟩ := hok
 obtain ⟨d', hfree⟩ := lL sto
 have hfree := hfree d' (Nat.le_refl _)
 have hv : aO L tm sto d' (fun r s => frq true r s fun r s => r = v ∧ s = sto) o.op := by
  unfold xv at hb
  split at hb
  ·rename_i t n ps hopc
   have hc : z.contains (o.dst.getD 0) = true := by unfold jg at hd; rw [hopc] at hd; exact hd
   have hn := hz _ hc
   unfold aA at h
   rw [hopc] at h ⊢
   simp only [aO, cC, if_true, hc] at h ⊢
   unfold bF at h ⊢
   split at h
   ·obtain ⟨a1, a2, cs, a3, a4, a5⟩ := h
    refine ⟨a1, a2, cs, a3, a4, fun g => ?_⟩
    have a5 := a5 g
    simp only [frq, bD, if_true] at a5 ⊢
    exact ⟨trivial, a5.2.1, a5.2.2.1, lz hfree⟩
   ·exact h.elim
  ·cases hb
 obtain ⟨G', w', u, r, sto', h1, hx, hw', hs', hr, hT⟩ := jN hL hsim.wok hsim.sok hsim.tok hop hv
 obtain ⟨G2, r2, s2, hx2, hw2, hs2, hr2, hT2⟩ := kY hw' hs' hr hT
 obtain ⟨rfl, rfl⟩ := hT2
 have hk := hK G2 w' u (hsim.put (hx.trans hx2) hw2 hs2 hdst hr2)
 unfold Oper.wp
 rcases h1 with h1 | ⟨h1, rfl⟩
 ·rw [h1]; exact hk
 ·rw [h1]; exact hk
theorem w7 (hL : LOk P L) {val : Nat → aa} {Q : Exit → Act → World → Prop} (hz0 : ∀ d, z.contains d = true → ak sto0 d = none)
  (hQ : ∀ G tm sto a w, K tm sto → Sim E nt dfs tm sto a w G → Q .normal a w) (hap : ∀ y ∈ lt', gh (lk (TMq nq) y.1) (lk (TMq nq) y.2) = true) (hlr : ∀ a ∈ lr, ei (lk (TMq nq) a) = true) :
  ∀ (fuel : Nat) (order : List Nat) (listed : Array Bool) (a : Act) (w : World) (G : Gh) (sto : Sto) (TM : Nat → Tm) (m : Nat) (l : List Nat), eu L nt z ops nq order lt' lr → RunQ L P z ops nq order sto0 TMq val → DAlt L P z ops nq order lt' lr nt E dfs sto0 TMq K listed a w G sto m → mN L P z ops nq order lt' nt E dfs sto0 TMq K listed a w G sto TM m →
    (∀ i, i < ops.length → listed.getD i false = false → i ∈ l) → l.length ≤ fuel → wpAny P .any ops.toArray Q fuel listed a w := by
 have fin : ∀ (order : List Nat) (listed : Array Bool) (a : Act) (w : World) (G : Gh) (sto : Sto) (TM : Nat → Tm) (m : Nat), eu L nt z ops nq order lt' lr → mN L P z ops nq order lt' nt E dfs sto0 TMq K listed a w G sto TM m → (∀ i, i < ops.length → listed.getD i false = true) → Q .normal a w := by
  intro order listed a w G sto TM m D inv hall
  have hm : nq + m = ops.length := by
   rcases Nat.lt_or_ge (nq + m) ops.length with h | h
   ·have := (inv.ws (nq + m) (by omega) h).1 (hall _ (D.lt _ h))
    omega
   ·have := inv.mle; omega
  have hc := inv.cont
  rw [hm, ← D.len, List.drop_length] at hc
  refine hQ G (TM order.length) sto a w (by simpa [vc] using hc) ⟨inv.ext, inv.wok, inv.sok, fun t => ?_, inv.n, inv.d⟩
  rw [D.len]
  exact inv.cut t ops.length (by omega) fun p' o' h1 h2 h3 => ⟨fun _ => h1, fun _ => hall _ (D.lt _ h1)⟩
 have prog : ∀ (order : List Nat) (listed : Array Bool), eu L nt z ops nq order lt' lr → eG ops listed → Region.ready .any ops.toArray listed = [] → ∀ i, i < ops.length → listed.getD i false = true := by
  intro order listed D hcl hnil
  have key : ∀ p, p < ops.length → listed.getD (order.getD p 0) false = true := by
   intro p
   induction p using Nat.strongRecOn with
   | _ p ih =>
    intro hp
    cases hl : listed.getD (order.getD p 0) false with
    | true => rfl
    | false =>
     exfalso
     have hlt := D.lt p hp
     have hmem : order.getD p 0 ∈ Region.ready .any ops.toArray listed := by
      refine mem_ready.2 ⟨?_, ops[order.getD p 0], by simp [hlt], fun e he hb => ?_⟩
      ·have : order.getD p 0 < listed.size := by rw [hcl.size]; exact hlt
       simp only [Array.getD_eq_getD_getElem?, Array.getElem?_eq_getElem this, Option.getD_some] at hl ⊢
       exact hl
      ·obtain ⟨p', hp', e'⟩ := D.surj e.on (D.on _ (List.getElem_mem hlt) e he)
       have hdep : qw ops (order.getD p 0) (order.getD p' 0) = true := iO.2 ⟨_, List.getElem?_eq_getElem hlt, e, he, hb, e'.symm⟩
       rcases Nat.lt_trichotomy p' p with h | h | h
       ·rw [← e']; exact ih p' h hp'
       ·subst h; rw [D.self _ hlt] at hdep; cases hdep
       ·rw [D.back p p' h hp'] at hdep; cases hdep
     rw [hnil] at hmem; cases hmem
  intro i hi
  obtain ⟨p, hp, rfl⟩ := D.surj i hi
  exact key p hp
 intro fuel
 induction fuel with
 | zero =>
  intro order listed a w G sto TM m l D hrun alt inv hl hlen
  have hl0 : l = [] := List.eq_nil_of_length_eq_zero (by omega)
  subst hl0
  have hall : ∀ i, i < ops.length → listed.getD i false = true := by
   intro i hi
   cases h : listed.getD i false with
   | true => rfl
   | false => have := hl i hi h; cases this
  refine ⟨?_, fin order listed a w G sto TM m D inv hall⟩
  refine List.eq_nil_iff_forall_not_mem.2 fun i hi => ?_
  obtain ⟨h1, o, h2, _⟩ := mem_ready.1 hi
  have hlt : i < ops.length := by
   have := (Array.getElem?_eq_some_iff.1 h2).1
   simpa using this
  have := hall i hlt
  rw [vQ h1] at this; cases this
 | succ fuel ih =>
  intro order listed a w G sto TM m l D hrun alt inv hl hlen
  refine ⟨fun hnil => fin order listed a w G sto TM m D inv (prog order listed D inv.closed hnil), fun j hj => ?_⟩
  obtain ⟨hj1, o, hjo, hjall⟩ := mem_ready.1 hj
  have ho : ops[j]? = some o := by simpa using hjo
  have hjlt : j < ops.length := (List.getElem?_eq_some_iff.1 ho).1
  have hun := vQ hj1
  have hmeas : ∀ i, i < ops.length → (listed.setIfInBounds j true).getD i false = false → i ∈ l.erase j := by
   intro i hi hf
   by_cases e : j = i
   ·subst e
    rw [ji (by rw [inv.closed.size]; exact hjlt)] at hf; cases hf
   ·rw [getD_set_ne false e] at hf
    exact (List.mem_erase_of_ne (Ne.symm e)).2 (hl i hi hf)
  have hlen' : (l.erase j).length ≤ fuel := by
   rw [List.length_erase_of_mem (hl _ hjlt hun)]; omega
  have hok1 : aT L nt [o] = true := by
   have := List.all_eq_true.1 D.oks o (List.mem_of_getElem? ho)
   simp only [aT, List.all_cons, List.all_nil, Bool.and_true]
   exact this
  have hdst : (match o.dst with | some d => decide (d < nt) | none => true) = true := by
   simp only [aT, List.all_cons, List.all_nil, Bool.and_true, Bool.and_eq_true] at hok1
   exact hok1.1.2
  have rowS : ∀ (order : List Nat) (TM : Nat → Tm) (m : Nat), eu L nt z ops nq order lt' lr → RunQ L P z ops nq order sto0 TMq val → dP ops nq order 1 → mN L P z ops nq order lt' nt E dfs sto0 TMq K listed a w G sto TM m → nq + m < ops.length → order.getD (nq + m) 0 = j → wpOp P ops.toArray Q j (wpAny P .any ops.toArray Q fuel (listed.setIfInBounds j true)) a w := by
   rintro order TM m D hrun hsq inv hp rfl
   unfold wpOp
   simp only [hjo]
   have hsim := oy D inv hp (Nat.le_refl _) ho hj
   have hdrop : (order.drop (nq + m)).filterMap (ops[·]?) = o :: (order.drop (nq + (m + 1))).filterMap (ops[·]?) := by
    have hlt : nq + m < order.length := by rw [D.len]; exact hp
    rw [List.drop_eq_getElem_cons hlt]
    have e : order[nq + m] = order.getD (nq + m) 0 := by simp [List.getD, hlt]
    rw [e, List.filterMap_cons_some ho]
    rfl
   have hcont := inv.cont
   rw [hdrop] at hcont
   have hgo : ∀ (tmx : Tm) (G' : Gh) (w' : World) (r : aa) (v : Value) (sto' : Sto), (∀ t, lk tmx t = lk (TM (nq + m)) t) → vc L P false z (ops.map (·.dst)) ((order.drop (nq + (m + 1))).filterMap (ops[·]?)) (put o.dst r tmx) sto' K → Ext G G' → WOk G' w' → an G' w' sto' → (∀ e, o.dst = some e → Rep G' true r v) → (∀ y ∈ lt', ∀ id g off, lk (TMq nq) y.1 = .bx id g off → ak sto' id = ak sto0 id) →
     wpAny P .any ops.toArray Q fuel (listed.setIfInBounds (order.getD (nq + m) 0) true) (a.put o.dst v) w' := by
    intro tmx G' w' r v sto' htm hc hx hw hs hrep hkp
    refine ih _ _ _ _ G' sto' (fun p' => if p' ≤ nq + m then TM p' else put o.dst r tmx) (m + 1) _ D hrun (.inr (.inl ⟨by omega, hsq⟩)) (inv.next D hp ho hj hx hw hs hrep (fun p' h => by simp only [if_pos h]) (fun t => ?_) (.inr ⟨rfl, rfl⟩) (fun h => by omega) ?_ hkp) hmeas hlen'
    ·simp only [if_neg (show ¬ nq + m + 1 ≤ nq + m by omega)]
     rw [dA, dA, htm]
    ·simp only [if_neg (show ¬ nq + (m + 1) ≤ nq + m by omega)]
     exact hc
   have hexec : ∀ (tmx : Tm), (∀ t, lk tmx t = lk (TM (nq + m)) t) → aA L P false z o tmx sto (fun r s => vc L P false z (ops.map (·.dst)) ((order.drop (nq + (m + 1))).filterMap (ops[·]?)) (put o.dst r tmx) s K) →
     o.wp P a w (wpAny P .any ops.toArray Q fuel (listed.setIfInBounds (order.getD (nq + m) 0) true)) Q := by
    intro tmx htm h
    have h' := eD (tm' := Rad.prune (o.looksAt ops.toArray) (TM (nq + m))) (fun x hx => by rw [j4 hx]; exact Eh htm x) h
    by_cases hne : lt' = []
    ·refine b7 hL hsim hok1 h' fun G' w' r v sto' hT hs => ?_
     exact hgo tmx G' w' r v sto' htm hT hs.ext hs.wok hs.sok (mF inv.n hdst hs) (by rw [hne]; intro y hy; simp at hy)
    ·obtain ⟨t', b', x', hop, hd0, hg0, hall⟩ := D.ltw hne (nq + m) (by omega) hp o ho
     refine b7 hL hsim hok1 (tI hop h') fun G' w' r v sto' hT hs => ?_
     refine hgo tmx G' w' r v sto' htm hT.1 hs.ext hs.wok hs.sok (mF inv.n hdst hs) fun y hy id g off hl => ?_
     rw [← inv.keep y hy id g off hl]
     refine hT.2 id g off ?_
     have hstb : ∀ k, k ≤ m → lk (TM (nq + k)) b' = lk (TMq nq) b' := by
      intro k
      induction k with
      | zero => intro _; rw [Nat.add_zero, inv.tq nq (Nat.le_refl _)]
      | succ k ihk =>
       intro hk
       have hlt2 : nq + k < ops.length := by omega
       have hlk2 := D.lt _ hlt2
       have ho2 : ops[order.getD (nq + k) 0]? = some ops[order.getD (nq + k) 0] := List.getElem?_eq_getElem hlk2
       obtain ⟨_, _, _, _, hd2, _, _⟩ := D.ltw hne (nq + k) (by omega) hlt2 _ ho2
       rw [show nq + (k + 1) = nq + k + 1 by omega, inv.stay (nq + k) (by omega) _ ho2 b' (by rw [hd2]; simp), ihk (by omega)]
     have hb'' : lk (Rad.prune (o.looksAt ops.toArray) (TM (nq + m))) b' = lk (TMq nq) b' := by
      have := j4 (ops := ops) (o := o) (tm := TM (nq + m)) (x := .tmp b') (by simp [hop, Op.operands])
      simp only [ev] at this
      rw [this, hstb m (Nat.le_refl _)]
     rw [hb'', ← hl]
     exact hap _ (hall y hy)
   have hskip : ∀ (tmx : Tm), (∀ t, lk tmx t = lk (TM (nq + m)) t) → vc L P false z (ops.map (·.dst)) ((order.drop (nq + (m + 1))).filterMap (ops[·]?)) (put o.dst (.tup []) tmx) sto K → wpAny P .any ops.toArray Q fuel (listed.setIfInBounds (order.getD (nq + m) 0) true) (a.put o.dst undef) w :=
    fun tmx htm h => hgo tmx G w (.tup []) undef sto htm h (.refl G) inv.wok inv.sok (fun _ _ => .tup rfl fun j x hx => by simp at hx) inv.keep
   unfold vc at hcont
   split at hcont
   ·rename_i hg
    rw [if_pos (by simp [Region.wanted, hg])]
    exact .inl (hexec _ (fun _ => rfl) hcont)
   ·rename_i j want hg
    split at hcont
    ·rename_i t hjt
     have hlook := lO hg hjt
     split at hcont
     ·rename_i b hb
      have hsame : ∀ c, b = c → ∀ t', lk ((t, aa.bool c) :: TM (nq + m)) t' = lk (TM (nq + m)) t' := by
       rintro c rfl t'
       simp only [lk]
       split
       ·rename_i e; subst e; exact hb.symm
       ·rfl
      have hy := cW hsim.tok hjt (by rw [CQ hlook]; exact hb)
      by_cases hbw : b = want
      ·rw [if_pos (by simp [Region.wanted, hg, hy, hbw])]
       exact .inl (hexec _ (hsame want hbw) (hcont.1 hbw))
      ·rw [if_neg (by simp [Region.wanted, hg, hy, hbw])]
       have hbn : b = !want := by cases b <;> cases want <;> simp_all
       exact hskip _ (hsame _ hbn) (hcont.2 hbn)
     ·rename_i hb
      have hy := cX hsim.tok hjt (by rw [CQ hlook]; exact hb)
      rw [if_neg (by simp [Region.wanted, hg, hy])]
      exact hskip _ (fun _ => rfl) hcont
     ·exact hcont.elim
    ·exact hcont.elim
  obtain ⟨p, hp, rfl⟩ := D.surj j hjlt
  have hsq : dP ops nq order 1 := by
   rcases alt with h | h | h
   ·exact fun p h1 h2 => h p (by omega) h2
   ·exact h.2
   ·exact h.2.1
  have hpos : p < nq ∨ p = nq + m ∨ (p = nq + 1 ∧ ¬ dP ops nq order 0 ∧ m = 0) := by
   rcases Nat.lt_or_ge p nq with h | h
   ·exact .inl h
   ·right
    have h1 : ¬ p < nq + m := fun h2 => by
     have := (inv.ws p h hp).2 h2
     rw [hun] at this; cases this
    have hno : ∀ s, dP ops nq order s → nq + s ≤ p - 1 → ¬ nq + m < p := by
     intro s hs hle h2
     have h3 := hs (p - 1) (by omega) (by omega)
     rw [show p - 1 + 1 = p by omega] at h3
     have h4 := (inv.ws (p - 1) (by omega) (by omega)).1 (inv.closed.ready hj 4 _ h3)
     omega
    rcases Nat.lt_or_ge (nq + m) p with h2 | h2
    ·by_cases h0 : dP ops nq order 0
     ·exact absurd h2 (hno 0 h0 (by omega))
     ·rcases alt with h | h | h
      ·exact absurd h h0
      ·exact absurd h2 (hno 1 h.2 (by omega))
      ·by_cases hp1 : p = nq + 1
       ·exact .inr ⟨hp1, h0, h.1⟩
       ·have := h.1; exact absurd h2 (hno 1 h.2.1 (by omega))
    ·left; omega
  rcases hpos with hq | hw | ⟨hw, h0, hm0⟩
  rotate_left
  ·subst hw
   exact rowS order TM m D hrun hsq inv hp rfl
  ·rcases alt with h | h | ⟨_, _, order', TM', D', sq', same, h1, inv'⟩
   ·exact absurd h h0
   ·omega
   ·refine rowS order' TM' 0 D' (fun p' o' hp' ho' => ?_) sq' inv' (by omega) (by rw [Nat.add_zero, h1, hw])
    rw [same p' hp'] at ho'
    exact hrun p' o' hp' ho'
  unfold wpOp
  simp only [hjo]
  ·
   obtain ⟨hqs, hlk⟩ := hrun p o hq ho
   have hpm : p ≤ nq + m := by omega
   have hTMp : TM p = TMq p := inv.tq p (by omega)
   have hsim := oy D inv hp hpm ho hj
   have hstep : xv o = false → ∀ v, aA L P true z o (TMq p) sto0 (fun r s => r = v ∧ s = sto0) → aA L P true z o (Rad.prune (o.looksAt ops.toArray) (TM p)) sto (fun r s => r = v ∧ s = sto) := by
    intro hnb v h
    have h1 : aA L P true z o (TM p) sto0 (fun r s => r = v ∧ s = sto0) := by rw [hTMp]; exact h
    have h2 : aA L P true z o (TM p) sto (fun r s => r = v ∧ s = sto) := by
     have hlate : (∃ t a b, o.op = .load t (.tmp a) ∧ o.guard = none ∧ (a, b) ∈ lt' ∧ ∀ p', p ≤ p' → p' < nq → ∀ o', ops[order.getD p' 0]? = some o' → o'.dst ≠ some a) → aA L P true z o (TM p) sto (fun r s => r = v ∧ s = sto) := by
      rintro ⟨t, a', b, hop, _, hmem, hst⟩
      have hsame : ∀ k, p + k ≤ nq → lk (TMq (p + k)) a' = lk (TMq p) a' := by
       intro k
       induction k with
       | zero => intro _; rfl
       | succ k ihk =>
        intro hk
        have hlt2 : p + k < ops.length := by have := D.le; omega
        have hlk2 := D.lt _ hlt2
        have ho2 : ops[order.getD (p + k) 0]? = some ops[order.getD (p + k) 0] := List.getElem?_eq_getElem hlk2
        rw [show p + (k + 1) = p + k + 1 by omega, (hrun (p + k) _ (by omega) ho2).2, dA, if_neg (hst (p + k) (by omega) (by omega) _ ho2), ihk (by omega)]
      have hsm := hsame (nq - p) (by omega)
      rw [show p + (nq - p) = nq by omega] at hsm
      have hav := hap _ hmem
      simp only at hav
      cases hb : lk (TMq nq) a' with
      | bx id g off =>
       refine uD hop (id := id) (g := g) (off := off) (by rw [hTMp, ← hsm]; exact hb) ?_ h1
       exact inv.keep _ hmem id g off hb
      | _ => simp [hb, gh] at hav
     have hlateR : (∃ t a, (o.op = .load t (.tmp a) ∨ (∃ i, o.op = .indexAddr t (.tmp a) i) ∨ ∃ lo hi mx, o.op = .slice t (.tmp a) lo hi mx) ∧ a ∈ lr ∧ ∀ p', p ≤ p' → p' < nq → ∀ o', ops[order.getD p' 0]? = some o' → o'.dst ≠ some a) → aA L P true z o (TM p) sto (fun r s => r = v ∧ s = sto) := by
      rintro ⟨t, a', hop, hmem, hst⟩
      have hsame : ∀ k, p + k ≤ nq → lk (TMq (p + k)) a' = lk (TMq p) a' := by
       intro k
       induction k with
       | zero => intro _; rfl
       | succ k ihk =>
        intro hk
        have hlt2 : p + k < ops.length := by have := D.le; omega
        have hlk2 := D.lt _ hlt2
        have ho2 : ops[order.getD (p + k) 0]? = some ops[order.getD (p + k) 0] := List.getElem?_eq_getElem hlk2
        rw [show p + (k + 1) = p + k + 1 by omega, (hrun (p + k) _ (by omega) ho2).2, dA, if_neg (hst (p + k) (by omega) (by omega) _ ho2), ihk (by omega)]
      have hsm := hsame (nq - p) (by omega)
      rw [show p + (nq - p) = nq by omega] at hsm
      have hav := hlr _ hmem
      rw [hsm, ← hTMp] at hav
      rcases hop with hop | ⟨i, hop⟩ | ⟨lo, hi, mx, hop⟩
      rotate_right
      ·rw [rH hop] at h1 ⊢
       simp only [and_true] at h1 ⊢
       rw [show ev (TM p) (.tmp a') = lk (TM p) a' from rfl] at h1 ⊢
       refine ⟨h1.1, ?_⟩
       have h1 := h1.2
       cases hb : lk (TM p) a' with
       | ref q cs => rw [hb] at h1; exact jv h1 (.inl ⟨_, _, rfl⟩)
       | sl q f l => rw [hb] at h1; exact jv h1 (.inr ⟨_, _, _, rfl⟩)
       | _ => simp [hb, ei] at hav
      ·rw [l8 hop] at h1 ⊢
       simp only [ev] at h1 ⊢
       cases hb : lk (TM p) a' with
       | ref q cs =>
        simp only [hb, bM, and_true] at h1 ⊢
        exact h1
       | sl q f l => simp only [hb, bM] at h1
       | _ => simp [hb, ei] at hav
      ·rw [lC hop] at h1 ⊢
       simp only [and_true] at h1 ⊢
       rw [show ev (TM p) (.tmp a') = lk (TM p) a' from rfl] at h1 ⊢
       cases hb : lk (TM p) a' with
       | ref q cs => rw [hb] at h1; exact fw h1 (.inl ⟨_, _, rfl⟩)
       | sl q f l => rw [hb] at h1; exact fw h1 (.inr ⟨_, _, _, rfl⟩)
       | _ => simp [hb, ei] at hav
     rcases D.pure p o hq ho with h | h | h | h | h | h
     ·rw [hnb] at h; cases h
     ·exact tQ (D.det p o hq ho) h h1
     rotate_right
     ·exact hlateR h
     rotate_right
     ·exact hlate h
     all_goals
      have h : ops.length ≤ nq ∨ gE ops 4 (order.getD nq 0) (order.getD p 0) = true := by first | exact .inl h | exact .inr h
      have hm0 : m = 0 := by
       rcases h with h | h
       ·have := inv.mle; omega
       ·rcases Nat.eq_zero_or_pos m with h0 | h0
        ·exact h0
        ·exfalso
         have hnq : nq < ops.length := by have := inv.mle; omega
         have h3 := (inv.ws nq (Nat.le_refl _) hnq).2 (by omega)
         have h4 := inv.closed.reach 4 _ _ h3 h
         rw [hun] at h4; cases h4
      rw [inv.s0 hm0]; exact h1
    exact eD (fun x hx => (j4 hx).symm) h2
   have hgo : ∀ (G' : Gh) (w' : World) (v : Value), Ext G G' → WOk G' w' → an G' w' sto → (∀ e, o.dst = some e → Rep G' true (val p) v) → wpAny P .any ops.toArray Q fuel (listed.setIfInBounds (order.getD p 0) true) (a.put o.dst v) w' := by
    intro G' w' v hx hw hs hrep
    refine ih _ _ _ _ G' sto TM m _ D hrun ?_ (inv.next D hp ho hj hx hw hs hrep (fun _ _ => rfl) (fun t => ?_) (.inl ⟨rfl, hq⟩) inv.s0 inv.cont inv.keep) hmeas hlen'
    ·rcases alt with h | h | ⟨hm0, h2, order', TM', D', sq', same, h1, inv'⟩
     ·exact .inl h
     ·exact .inr (.inl h)
     ·refine .inr (.inr ⟨hm0, h2, order', TM', D', sq', same, h1, ?_⟩)
      have ho' : ops[order'.getD p 0]? = some o := by rw [same p hq]; exact ho
      have hj' : order'.getD p 0 ∈ Region.ready .any ops.toArray listed := by rw [same p hq]; exact hj
      have := inv'.next D' hp ho' hj' hx hw hs hrep (fun _ _ => rfl) (fun t => by rw [inv'.tq (p + 1) (by omega), hlk, inv'.tq p (by omega)]) (.inl ⟨rfl, hq⟩) inv'.s0 inv'.cont inv'.keep
      rw [same p hq] at this
      exact this
    ·rw [inv.tq (p + 1) (by omega), hlk, hTMp]
   have hexec : ∀ v, aA L P true z o (TMq p) sto0 (fun r s => r = v ∧ s = sto0) → v = val p → o.wp P a w (wpAny P .any ops.toArray Q fuel (listed.setIfInBounds (order.getD p 0) true)) Q := by
    rintro v h rfl
    by_cases hbs : xv o = true
    ·refine tE hL hsim hok1 (D.det p o hq ho) hbs hz0 (eD (fun x hx => (j4 hx).symm) (by rw [hTMp]; exact h)) fun G' w' v hs => ?_
     exact hgo G' w' v hs.ext hs.wok hs.sok (mF inv.n hdst hs)
    refine b7 hL hsim hok1 (hstep (by simpa using hbs) _ h) fun G' w' r v sto' hT hs => ?_
    obtain ⟨rfl, rfl⟩ := hT
    exact hgo G' w' v hs.ext hs.wok hs.sok (mF inv.n hdst hs)
   have hskip : val p = .tup [] → wpAny P .any ops.toArray Q fuel (listed.setIfInBounds (order.getD p 0) true) (a.put o.dst undef) w := by
    intro hv
    refine hgo G w undef (.refl G) inv.wok inv.sok fun _ _ => ?_
    rw [hv]; exact .tup rfl fun j x hx => by simp at hx
   unfold QS at hqs
   split at hqs
   ·rename_i hg
    rw [if_pos (by simp [Region.wanted, hg])]
    exact .inl (hexec _ hqs rfl)
   ·rename_i j want hg
    obtain ⟨t, hjt, hcase⟩ := hqs
    have hlook := lO hg hjt
    rcases hcase with ⟨b, hb, h1, h2⟩ | ⟨hb, hv⟩
    ·have hy := cW hsim.tok hjt (by rw [CQ hlook, hTMp]; exact hb)
     by_cases hbw : b = want
     ·rw [if_pos (by simp [Region.wanted, hg, hy, hbw])]
      exact .inl (hexec _ (h1 hbw) rfl)
     ·rw [if_neg (by simp [Region.wanted, hg, hy, hbw])]
      exact hskip (h2 (by cases b <;> cases want <;> simp_all))
    ·have hy := cX hsim.tok hjt (by rw [CQ hlook, hTMp]; exact hb)
     rw [if_neg (by simp [Region.wanted, hg, hy])]
     exact hskip hv
end
theorem ae.uv {f : Nat} {fn : Func} {df : List dt} {k : List Item} {tm : Tm} {sto : Sto} {R : aa → Sto → Prop} (hL : LOk P L) (hm : P.follows .mixedOrders = true) (z : List Nat) (nq : Nat) (order : List Nat) (lt' : List (Nat × Nat)) (lr : List Nat) {id : Nat} {ops : List Oper} (ps : List Nat)
  (hok : ic L fn.ntmps z ops nq order lt' lr = true) (hz : z.all (fun d => (ak sto d).isNone) = true)
  (h : ∀ K : Tm → Sto → Prop, (∀ tm' sto', ae P f fn df k (Rad.prune ps tm') sto' R → K tm' sto') →
   vc L P true z (ops.map (·.dst)) ((order.take nq).filterMap (ops[·]?)) tm sto fun tm' sto' => ((lt'.all fun y => gh (lk tm' y.1) (lk tm' y.2)) = true ∧ (lr.all fun a => ei (lk tm' a)) = true) ∧ vc L P false z (ops.map (·.dst)) ((order.drop nq).filterMap (ops[·]?)) tm' sto' K) :
  ae P f fn df (.code (.region id ops.toArray true) :: k) tm sto R := by
 have ⟨D, hsq⟩ := qy hok
 refine ⟨?_⟩
 intro E G a w b h1 h2 h3 h4 h5 h6 h7 h8 h9
 refine Good.of_wp (Q := fun e a' w' => e = .normal ∧ Good P f (fA E R) b k a' w') (wp_region_any hm ?_) fun e a' w' hq => hq
 let K : Tm → Sto → Prop := fun tm' sto' => ae P f fn df k (Rad.prune ps tm') sto' R
 have hQ : ∀ G' tm' sto' a' w', K tm' sto' → Sim G fn.ntmps a.defers tm' sto' a' w' G' → (fun e a' w' => e = Exit.normal ∧ Good P f (fA E R) b k a' w') .normal a' w' := fun G' tm' sto' a' w' hk hs =>
  ⟨rfl, hk.go E G' a' w' b h1 h2 h3 hs.n (hs.d ▸ h5.mono hs.ext.toMono) (h6.trans hs.ext) hs.wok hs.sok (hs.tok.prune ps)⟩
 have hsel : ∀ l : List Nat, (∀ i ∈ l, i < ops.length) → ∀ p o, (l.filterMap (ops[·]?))[p]? = some o ↔ p < l.length ∧ ops[l.getD p 0]? = some o := by
  intro l
  induction l with
  | nil => intro _ p o; simp
  | cons x xs ih =>
   intro hl p o
   have hxl : x < ops.length := hl x (by simp)
   have hx : ops[x]? = some ops[x] := List.getElem?_eq_getElem hxl
   rw [List.filterMap_cons_some hx]
   cases p with
   | zero => simp [hx]
   | succ p => simp only [List.getElem?_cons_succ, List.length_cons, Nat.add_lt_add_iff_right, List.getD_cons_succ]; exact ih (fun i hi => hl i (by simp [hi])) p o
 have hlen : ∀ l : List Nat, (∀ i ∈ l, i < ops.length) → (l.filterMap (ops[·]?)).length = l.length := by
  intro l
  induction l with
  | nil => intro _; rfl
  | cons x xs ih =>
   intro hl
   have hxl : x < ops.length := hl x (by simp)
   have hx : ops[x]? = some ops[x] := List.getElem?_eq_getElem hxl
   rw [List.filterMap_cons_some hx]
   simp [ih fun i hi => hl i (by simp [hi])]
 have hlt : ∀ i ∈ order.take nq, i < ops.length := by
  intro i hi
  obtain ⟨p, hp, rfl⟩ := List.getElem_of_mem (List.mem_of_mem_take hi)
  have := D.lt p (by rw [← D.len]; exact hp)
  simpa [List.getD, hp] using this
 have htl : (order.take nq).length = nq := by
  have := D.le
  rw [List.length_take, D.len]; omega
 have hgt : ∀ p, p < nq → (order.take nq).getD p 0 = order.getD p 0 := by
  intro p hp
  simp [List.getD, List.getElem?_take, hp]
 obtain ⟨TM, val, e0, hrun, hK⟩ := Bh (fun d hd => by
  have := List.all_eq_true.1 hz d (by simpa using hd)
  simpa using this) _ _ (by
  refine List.all_eq_true.2 fun o ho => ?_
  obtain ⟨p, hp⟩ := List.mem_iff_getElem?.1 ho
  obtain ⟨h1, h2⟩ := (hsel _ hlt p o).1 hp
  rw [htl] at h1
  rw [hgt p h1] at h2
  exact D.det p o h1 h2) (h K fun _ _ h => h)
 rw [hlen _ hlt, htl] at hK
 obtain ⟨⟨hapa, hlra⟩, hK⟩ := hK
 have hap : ∀ y ∈ lt', gh (lk (TM nq) y.1) (lk (TM nq) y.2) = true := fun y hy => List.all_eq_true.1 hapa y hy
 have hrun' : ∀ p o, p < nq → ops[order.getD p 0]? = some o → QS L P z (ops.map (·.dst)) o (TM p) sto (val p) ∧ ∀ t, lk (TM (p + 1)) t = lk (put o.dst (val p) (TM p)) t := by
  intro p o hp ho
  refine hrun p o ((hsel _ hlt p o).2 ⟨by rw [htl]; exact hp, ?_⟩)
  rw [hgt p hp]; exact ho
 have hfalse : ∀ i, (Array.replicate ops.toArray.size false).getD i false = false := by
  intro i
  rcases Nat.lt_or_ge i ops.toArray.size with h | h
  ·simp at h; simp [h]
  ·simp at h; simp [Nat.not_lt.2 h]
 obtain ⟨hw1, hs1⟩ := iL (w' := { w with drawn := w.drawn + 1 }) (Kept.draw w _) h7 h8 (Nat.le_refl _) (fun _ _ => rfl)
 have inv : mN L P z ops nq order lt' fn.ntmps G a.defers sto TM K (Array.replicate ops.toArray.size false) a { w with drawn := w.drawn + 1 } G sto TM 0 := by
  refine ⟨⟨by simp, fun j i hj _ => by rw [hfalse] at hj; cases hj⟩, .refl G, hw1, hs1, h4, rfl, by have := D.le; omega, fun p h1 h2 => by rw [hfalse]; simp; omega, fun _ _ => rfl, fun p hp o ho t hd => ?_, fun _ => rfl, fun t p hp hc => ?_, hK, fun _ _ _ _ _ _ => rfl⟩
  ·obtain ⟨_, h2⟩ := hrun' p o (by omega) ho
   rw [h2, dA, if_neg hd]
  ·
   have : ∀ k, k ≤ p → lk (TM k) t = lk tm t := by
    intro k
    induction k with
    | zero => intro _; rw [e0]
    | succ k ih =>
     intro hk
     have hkn : k < ops.length := by have := D.le; omega
     have hlk := D.lt k hkn
     have ho : ops[order.getD k 0]? = some ops[order.getD k 0] := List.getElem?_eq_getElem hlk
     obtain ⟨_, h2⟩ := hrun' k _ (by omega) ho
     rw [h2, dA, if_neg, ih (by omega)]
     intro hd
     have := (hc k _ hkn ho hd).2 (by omega)
     rw [hfalse] at this; cases this
   rw [this p (Nat.le_refl _)]
   exact h9 t
 exact w7 hL (fun d hd => by
  have := List.all_eq_true.1 hz d (by simpa using hd)
  simpa using this) hQ hap (fun a ha => List.all_eq_true.1 hlra a ha) _ order _ _ _ G sto TM 0 (List.range ops.length) D hrun' (.inl hsq) inv (fun i hi _ => List.mem_range.2 hi) (by simp)
theorem ae.drawn {f : Nat} {fn : Func} {df : List dt} {k : List Item} {tm : Tm} {sto : Sto} {R : aa → Sto → Prop} (hL : LOk P L) (hm : P.follows .mixedOrders = true) (z : List Nat) (nq : Nat) (order : List Nat) {id : Nat} {ops : List Oper} (ps : List Nat)
  (hok : qx L fn.ntmps z ops nq order = true) (hz : z.all (fun d => (ak sto d).isNone) = true)
  (h : ∀ K : Tm → Sto → Prop, (∀ tm' sto', ae P f fn df k (Rad.prune ps tm') sto' R → K tm' sto') →
   vc L P true z (ops.map (·.dst)) ((order.take nq).filterMap (ops[·]?)) tm sto fun tm' sto' => vc L P false z (ops.map (·.dst)) ((order.drop nq).filterMap (ops[·]?)) tm' sto' K) :
  ae P f fn df (.code (.region id ops.toArray true) :: k) tm sto R :=
 ae.uv hL hm z nq order [] [] ps hok hz fun K hK => by simpa using h K hK
end Go.Rad
namespace Go.Rad
open Go
structure av where
 a : Int
 b : Int
 c : Int
 d : Int
 deriving DecidableEq, Inhabited
def av.none : av := ⟨0, 0, 0, 0⟩
abbrev av.cells (s : av) : List aa := [.int .u64 s.a, .int .u64 s.b, .int .u64 s.c, .int .u64 s.d]
def av.word (s : av) (i : Nat) : Int := match i with | 0 => s.a | 1 => s.b | 2 => s.c | _ => s.d
def av.set (s : av) (i : Nat) (x : Int) : av := match i with | 0 => { s with a := x } | 1 => { s with b := x } | 2 => { s with c := x } | _ => { s with d := x }
abbrev ints (l : List Int) : List (List aa) := l.map fun k => [.int .i64 k]
theorem zD (l : List Int) (i : Nat) (x : List aa) (h : (ints l)[i]? = some x) : ∃ k, l[i]? = some k ∧ x = [.int .i64 k] := by
 unfold ints at h
 rw [List.getElem?_map] at h
 obtain ⟨k, hk, rfl⟩ := Option.map_eq_some_iff.1 h
 exact ⟨k, hk, rfl⟩
structure Node where
 op : Int
 s : av
 l : List Int
 lo : Int
 hi : Int
 name : ByteArray
 deriving DecidableEq, Inhabited
abbrev Node.eJ (f : Bool) (n : Node) : List aa := [.int .u8 n.op, .int .u64 n.s.a, .int .u64 n.s.b, .int .u64 n.s.c, .int .u64 n.s.d, .sl true f (ints n.l), .int .i64 n.lo, .int .i64 n.hi, .str n.name]
abbrev Node.cells (n : Node) : List aa := n.eJ false
abbrev nodes (l : List Node) : List (List aa) := l.map Node.cells
theorem xJ (l : List Node) : (nodes l).length = l.length := by simp [nodes]
structure Df where
 name : ByteArray
 l : List Node
 deriving Inhabited
abbrev Df.cells (d : Df) : List aa := [.str d.name, .sl true false (nodes d.l)]
abbrev defs (l : List Df) : List (List aa) := l.map Df.cells
theorem ma {n : Int} (h0 : 0 ≤ n) (h1 : n < 256) : IntKind.u8.wrap n = n := by
 simp [IntKind.wrap, IntKind.signed, IntKind.bits]; omega
theorem gM {n : Int} (h0 : 0 ≤ n) (h1 : n < 18446744073709551616) : IntKind.u64.wrap n = n := by
 simp [IntKind.wrap, IntKind.signed, IntKind.bits]; omega
theorem Bm {n : Int} (h : gS n) : IntKind.i64.wrap n = n := by
 unfold gS at h
 simp [IntKind.wrap, IntKind.signed, IntKind.bits]; omega
theorem tL (n m : Nat) : (n : Int).tdiv (m : Int) = ((n / m : Nat) : Int) := (Int.ofNat_tdiv n m).symm
theorem oF (n m : Nat) : (n : Int).tmod (m : Int) = ((n % m : Nat) : Int) := (Int.ofNat_tmod n m).symm
theorem ah.alone {P : Program} {f : Nat} {args : List aa} {sto : Sto} {v : aa} (h : ah P f args [] fun r s => r = v ∧ s = []) (ha : args.map (tr [] [] sto) = args) (hv : bk [] v = v) (hc : bB sto = true) :
  ah P f args sto fun r s => r = v ∧ s = sto := by
 refine ah.use [] [] rfl h ha rfl rfl fun r s hr => ?_
 obtain ⟨rfl, rfl⟩ := hr
 exact ⟨.inl rfl, hc, hv, rfl⟩
def cy (keep : List Nat) : Sto → Sto
 | [] => []
 | (i, x) :: s => if keep.contains i then (i, x) :: cy keep s else cy keep s
theorem jI (keep : List Nat) (j : Nat) : ∀ s : Sto, ak (cy keep s) j = if (keep.contains j) = true then ak s j else none
 | [] => by simp only [cy, ak]; split <;> rfl
 | (i, x) :: s => by
  have ih := jI keep j s
  simp only [cy]
  by_cases h : (keep.contains i) = true
  ·rw [if_pos h]
   simp only [ak]
   by_cases e : i = j
   ·subst e; rw [if_pos rfl, if_pos h, if_pos rfl]
   ·rw [if_neg e, ih, if_neg e]
  ·rw [if_neg h, ih]
   by_cases e : i = j
   ·subst e; rw [if_neg h, if_neg h]
   ·simp only [ak, if_neg e]
theorem fg {G : Gh} {w : World} {s : Sto} (keep : List Nat) (h : an G w s) : an G w (cy keep s) := by
 refine ⟨fun id g o hg => ?_, fun id id' g g' o o' hg hg' => ?_⟩
 ·rw [jI] at hg
  split at hg
  ·exact h.obj id g o hg
  ·cases hg
 ·rw [jI] at hg hg'
  split at hg
  ·split at hg'
   ·exact h.apart id id' g g' o o' hg hg'
   ·cases hg'
  ·cases hg
theorem ae.bC {P : Program} {f : Nat} {fn : Func} {df : List dt} {k : List Item} {tm : Tm} {sto : Sto} {R : aa → Sto → Prop} (keep : List Nat) (h : ae P f fn df k tm (cy keep sto) R) : ae P f fn df k tm sto R :=
 ⟨fun E G a w b h1 h2 h3 h4 h5 h6 h7 h8 h9 => h.go E G a w b h1 h2 h3 h4 h5 h6 h7 (fg keep h8) h9⟩
theorem ae.retF {P : Program} {L : Lay} {f : Nat} {fn : Func} {k : List Item} {tm : Tm} {sto : Sto} {R : aa → Sto → Prop} (hL : LOk P L) (keep : List Nat) (rs : List ResultVar) (hr : fn.results.toList = rs) (h : cG L rs tm sto fun vs => R (gV vs) (cy keep sto)) : ae P f fn [] (.code .ret :: k) tm sto R := by
 have h' : ae P f fn [] (.code .ret :: k) tm sto (fun r s => R r (cy keep s)) := ae.ret' hL rs hr h
 refine ⟨fun E G a w b h1 h2 h3 h4 h5 h6 h7 h8 h9 cs => ?_⟩
 obtain ⟨e, w', fr, ⟨G', cr, r, sto', x1, x2, x3, x4, x5, x6⟩, h11, h12, h13⟩ := h'.go E G a w b h1 h2 h3 h4 h5 h6 h7 h8 h9 cs
 exact ⟨e, w', fr, ⟨G', cr, r, _, x1, x2, x3, fg keep x4, x5, x6⟩, h11, h12, h13⟩
theorem ae.Lz {P : Program} {L : Lay} {f : Nat} {fn : Func} {tm : Tm} {sto : Sto} {R : aa → Sto → Prop} (hL : LOk P L) (keep : List Nat) (rs : List ResultVar) (hr : fn.results.toList = rs) (h : cG L rs tm sto fun vs => R (gV vs) (cy keep sto)) : ae P f fn [] [] tm sto R := by
 have h' : ae P f fn [] [] tm sto (fun r s => R r (cy keep s)) := ae.Eg hL rs hr h
 refine ⟨fun E G a w b h1 h2 h3 h4 h5 h6 h7 h8 h9 cs => ?_⟩
 obtain ⟨e, w', fr, ⟨G', cr, r, sto', x1, x2, x3, x4, x5, x6⟩, h11, h12, h13⟩ := h'.go E G a w b h1 h2 h3 h4 h5 h6 h7 h8 h9 cs
 exact ⟨e, w', fr, ⟨G', cr, r, _, x1, x2, x3, fg keep x4, x5, x6⟩, h11, h12, h13⟩
theorem ax (keep : List Nat) : cy keep [] = [] := Eq.trans rfl rfl
theorem aq (keep : List Nat) (i : Nat) (x : Nat × bc) (s : Sto) : cy keep ((i, x) :: s) = if keep.contains i then (i, x) :: cy keep s else cy keep s := Eq.trans rfl rfl
theorem ae.cast {P : Program} {f : Nat} {fn : Func} {df : List dt} {k : List Item} {tm tm' : Tm} {sto sto' : Sto} {R : aa → Sto → Prop} (h : ae P f fn df k tm sto R) (h1 : tm' = tm) (h2 : sto' = sto) : ae P f fn df k tm' sto' R := by
 subst h1 h2; exact h
theorem take_one {α : Type} {l : List α} {i : Nat} {k : α} (h : l[i]? = some k) : l.take (i + 1) = l.take i ++ [k] := by
 rw [List.take_add_one, h]; rfl
theorem oO {n : Nat} (h : n ≤ 255) : IntKind.u8.wrap (n : Int) = n := ma (by omega) (by omega)
theorem mJ {n : Nat} (h : n ≤ 1000000000) : IntKind.i64.wrap (n : Int) = n := Bm (by unfold gS; omega)
end Go.Rad
