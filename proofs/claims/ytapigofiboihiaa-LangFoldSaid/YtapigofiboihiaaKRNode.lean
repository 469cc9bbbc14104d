/- Sets, nodes, and what they are as cells. -/
import Derived.Test.YtapigofiboihiaaKREq
import Derived.Test.YtapigofiboihiaaKRDraw
import Derived.Test.YtapigofiboihiaaKRGlob
set_option linter.all false
namespace Go.Rad
open Go

structure ISet where
  a : Int
  b : Int
  c : Int
  d : Int
  deriving DecidableEq, Inhabited

def ISet.none : ISet := ⟨0, 0, 0, 0⟩
abbrev ISet.cells (s : ISet) : List AVal := [.int .u64 s.a, .int .u64 s.b, .int .u64 s.c, .int .u64 s.d]
def ISet.word (s : ISet) (i : Nat) : Int := match i with | 0 => s.a | 1 => s.b | 2 => s.c | _ => s.d
def ISet.set (s : ISet) (i : Nat) (x : Int) : ISet := match i with | 0 => { s with a := x } | 1 => { s with b := x } | 2 => { s with c := x } | _ => { s with d := x }

abbrev ints (l : List Int) : List (List AVal) := l.map fun k => [.int .i64 k]
theorem ints_len (l : List Int) : (ints l).length = l.length := by simp [ints]
theorem ints_get (l : List Int) (i : Nat) (x : List AVal) (h : (ints l)[i]? = some x) : ∃ k, l[i]? = some k ∧ x = [.int .i64 k] := by
  unfold ints at h
  rw [List.getElem?_map] at h
  obtain ⟨k, hk, rfl⟩ := Option.map_eq_some_iff.1 h
  exact ⟨k, hk, rfl⟩

structure Node where
  op : Int
  s : ISet
  l : List Int
  lo : Int
  hi : Int
  name : ByteArray
  deriving DecidableEq, Inhabited

abbrev Node.cellsF (f : Bool) (n : Node) : List AVal := [.int .u8 n.op, .int .u64 n.s.a, .int .u64 n.s.b, .int .u64 n.s.c, .int .u64 n.s.d, .sl true f (ints n.l), .int .i64 n.lo, .int .i64 n.hi, .str n.name]
abbrev Node.cells (n : Node) : List AVal := n.cellsF false
abbrev nodes (l : List Node) : List (List AVal) := l.map Node.cells
theorem nodes_len (l : List Node) : (nodes l).length = l.length := by simp [nodes]
theorem nodes_get (l : List Node) (i : Nat) (x : List AVal) (h : (nodes l)[i]? = some x) : ∃ n, l[i]? = some n ∧ x = n.cells := by
  unfold nodes at h
  rw [List.getElem?_map] at h
  obtain ⟨k, hk, rfl⟩ := Option.map_eq_some_iff.1 h
  exact ⟨k, hk, rfl⟩

structure Df where
  name : ByteArray
  l : List Node
  deriving Inhabited
abbrev Df.cells (d : Df) : List AVal := [.str d.name, .sl true false (nodes d.l)]
abbrev defs (l : List Df) : List (List AVal) := l.map Df.cells

theorem wr_u8 {n : Int} (h0 : 0 ≤ n) (h1 : n < 256) : IntKind.u8.wrap n = n := by
  simp [IntKind.wrap, IntKind.signed, IntKind.bits]; omega
theorem wr_u64 {n : Int} (h0 : 0 ≤ n) (h1 : n < 18446744073709551616) : IntKind.u64.wrap n = n := by
  simp [IntKind.wrap, IntKind.signed, IntKind.bits]; omega
theorem wr_i64 {n : Int} (h : inI64 n) : IntKind.i64.wrap n = n := by
  unfold inI64 at h
  simp [IntKind.wrap, IntKind.signed, IntKind.bits]; omega
theorem tdiv_nat (n m : Nat) : (n : Int).tdiv (m : Int) = ((n / m : Nat) : Int) := (Int.ofNat_tdiv n m).symm
theorem tmod_nat (n m : Nat) : (n : Int).tmod (m : Int) = ((n % m : Nat) : Int) := (Int.ofNat_tmod n m).symm

/-- A contract over nothing, beside other things. -/
theorem ACall.alone {P : Program} {f : Nat} {args : List AVal} {sto : Sto} {v : AVal} (h : ACall P f args [] fun r s => r = v ∧ s = []) (ha : args.map (tr [] [] sto) = args) (hv : bk [] v = v) (hc : stoCells sto = true) :
    ACall P f args sto fun r s => r = v ∧ s = sto := by
  refine ACall.use [] [] rfl h ha rfl rfl fun r s hr => ?_
  obtain ⟨rfl, rfl⟩ := hr
  exact ⟨.inl rfl, hc, hv, rfl⟩

/-- The things that are a function's own are forgotten where it ends, but those that it keeps. -/
def sfilt (keep : List Nat) : Sto → Sto
  | [] => []
  | (i, x) :: s => if keep.contains i then (i, x) :: sfilt keep s else sfilt keep s
theorem sget_sfilt (keep : List Nat) (j : Nat) : ∀ s : Sto, sget (sfilt keep s) j = if (keep.contains j) = true then sget s j else none
  | [] => by simp only [sfilt, sget]; split <;> rfl
  | (i, x) :: s => by
    have ih := sget_sfilt keep j s
    simp only [sfilt]
    by_cases h : (keep.contains i) = true
    · rw [if_pos h]
      simp only [sget]
      by_cases e : i = j
      · subst e; rw [if_pos rfl, if_pos h, if_pos rfl]
      · rw [if_neg e, ih, if_neg e]
    · rw [if_neg h, ih]
      by_cases e : i = j
      · subst e; rw [if_neg h, if_neg h]
      · simp only [sget, if_neg e]
theorem sto_filt {G : Gh} {w : World} {s : Sto} (keep : List Nat) (h : StoOk G w s) : StoOk G w (sfilt keep s) := by
  refine ⟨fun id g o hg => ?_, fun id id' g g' o o' hg hg' => ?_⟩
  · rw [sget_sfilt] at hg
    split at hg
    · exact h.obj id g o hg
    · cases hg
  · rw [sget_sfilt] at hg hg'
    split at hg
    · split at hg'
      · exact h.apart id id' g g' o o' hg hg'
      · cases hg'
    · cases hg
theorem AGood.filt {P : Program} {f : Nat} {fn : Func} {df : List DDel} {k : List Item} {tm : Tm} {sto : Sto} {R : AVal → Sto → Prop} (keep : List Nat) (h : AGood P f fn df k tm (sfilt keep sto) R) : AGood P f fn df k tm sto R :=
  ⟨fun E G a w b h1 h2 h3 h4 h5 h6 h7 h8 h9 => h.go E G a w b h1 h2 h3 h4 h5 h6 h7 (sto_filt keep h8) h9⟩
theorem AGood.retF {P : Program} {L : Lay} {f : Nat} {fn : Func} {k : List Item} {tm : Tm} {sto : Sto} {R : AVal → Sto → Prop} (hL : LOk P L) (keep : List Nat) (rs : List ResultVar) (hr : fn.results.toList = rs) (h : vcRes L rs tm sto fun vs => R (retv vs) (sfilt keep sto)) : AGood P f fn [] (.code .ret :: k) tm sto R := by
  have h' : AGood P f fn [] (.code .ret :: k) tm sto (fun r s => R r (sfilt keep s)) := AGood.ret' hL rs hr h
  refine ⟨fun E G a w b h1 h2 h3 h4 h5 h6 h7 h8 h9 cs => ?_⟩
  obtain ⟨e, w', fr, ⟨G', cr, r, sto', x1, x2, x3, x4, x5, x6⟩, h11, h12, h13⟩ := h'.go E G a w b h1 h2 h3 h4 h5 h6 h7 h8 h9 cs
  exact ⟨e, w', fr, ⟨G', cr, r, _, x1, x2, x3, sto_filt keep x4, x5, x6⟩, h11, h12, h13⟩
theorem AGood.doneF {P : Program} {L : Lay} {f : Nat} {fn : Func} {tm : Tm} {sto : Sto} {R : AVal → Sto → Prop} (hL : LOk P L) (keep : List Nat) (rs : List ResultVar) (hr : fn.results.toList = rs) (h : vcRes L rs tm sto fun vs => R (retv vs) (sfilt keep sto)) : AGood P f fn [] [] tm sto R := by
  have h' : AGood P f fn [] [] tm sto (fun r s => R r (sfilt keep s)) := AGood.done' hL rs hr h
  refine ⟨fun E G a w b h1 h2 h3 h4 h5 h6 h7 h8 h9 cs => ?_⟩
  obtain ⟨e, w', fr, ⟨G', cr, r, sto', x1, x2, x3, x4, x5, x6⟩, h11, h12, h13⟩ := h'.go E G a w b h1 h2 h3 h4 h5 h6 h7 h8 h9 cs
  exact ⟨e, w', fr, ⟨G', cr, r, _, x1, x2, x3, sto_filt keep x4, x5, x6⟩, h11, h12, h13⟩
theorem sf_nil (keep : List Nat) : sfilt keep [] = [] := Eq.trans rfl rfl
theorem sf_cons (keep : List Nat) (i : Nat) (x : Nat × AObj) (s : Sto) : sfilt keep ((i, x) :: s) = if keep.contains i then (i, x) :: sfilt keep s else sfilt keep s := Eq.trans rfl rfl
theorem AGood.cast {P : Program} {f : Nat} {fn : Func} {df : List DDel} {k : List Item} {tm tm' : Tm} {sto sto' : Sto} {R : AVal → Sto → Prop} (h : AGood P f fn df k tm sto R) (h1 : tm' = tm) (h2 : sto' = sto) : AGood P f fn df k tm' sto' R := by
  subst h1 h2; exact h
theorem take_one {α : Type} {l : List α} {i : Nat} {k : α} (h : l[i]? = some k) : l.take (i + 1) = l.take i ++ [k] := by
  rw [List.take_add_one, h]; rfl
theorem wr_u8n {n : Nat} (h : n ≤ 255) : IntKind.u8.wrap (n : Int) = n := wr_u8 (by omega) (by omega)
theorem wr_i64n {n : Nat} (h : n ≤ 1000000000) : IntKind.i64.wrap (n : Int) = n := wr_i64 (by unfold inI64; omega)
theorem AGood.condT {P : Program} {f : Nat} {fn : Func} {df : List DDel} {k : List Item} {tm : Tm} {sto : Sto} {R : AVal → Sto → Prop} {c : Operand} {x y : Code} (hc : ev tm c = .bool true) (hok : operandOk c = true) (h : AGood P f fn df (.code x :: k) tm sto R) : AGood P f fn df (.code (.cond c x y) :: k) tm sto R :=
  .cond hc hok (fun _ => h) (fun h => by cases h)
theorem AGood.condF {P : Program} {f : Nat} {fn : Func} {df : List DDel} {k : List Item} {tm : Tm} {sto : Sto} {R : AVal → Sto → Prop} {c : Operand} {x y : Code} (hc : ev tm c = .bool false) (hok : operandOk c = true) (h : AGood P f fn df (.code y :: k) tm sto R) : AGood P f fn df (.code (.cond c x y) :: k) tm sto R :=
  .cond hc hok (fun h => by cases h) (fun _ => h)
end Go.Rad
/- A region that ends in a delete that is deferred. -/
namespace Go.Rad
open Go
variable {P : Program} {L : Lay}

theorem vc_sound_app (hL : LOk P L) {q : Bool} {z : List Nat} {E : Gh} {nt : Nat} {ds : List Deferred} (ops : List Oper) {K : Tm → Sto → Prop} {Q : Exit → Act → World → Prop} (rest : List Oper)
    (hQ : ∀ G tm sto a w, K tm sto → Sim E nt ds tm sto a w G → wpList P ops.toArray Q rest a w) :
    ∀ (os : List Oper) (tm : Tm) (sto : Sto) (a : Act) (w : World) (G : Gh), okOps L nt os = true → Sim E nt ds tm sto a w G → vc L P q z (ops.map (·.dst)) os tm sto K → wpList P ops.toArray Q (os ++ rest) a w
  | [], tm, sto, a, w, G, _, hsim, h => hQ G tm sto a w h hsim
  | o :: os, tm, sto, a, w, G, hok, hsim, h => by
    have hok1 : okOps L nt [o] = true := by simp only [okOps, List.all_cons, Bool.and_eq_true] at hok ⊢; exact ⟨hok.1, rfl⟩
    have hok2 : okOps L nt os = true := by simp only [okOps, List.all_cons, Bool.and_eq_true] at hok ⊢; exact hok.2
    have hdst : (match o.dst with | some d => decide (d < nt) | none => true) = true := by
      simp only [okOps, List.all_cons, List.all_nil, Bool.and_true, Bool.and_eq_true] at hok1
      exact hok1.1.2
    unfold vc at h
    rw [List.cons_append]
    unfold wpList
    split at h
    · rename_i hg
      rw [if_pos (by simp [Region.wanted, hg])]
      exact .inl (step_sound hL hsim hok1 h fun G' w' r v sto' hT hs => vc_sound_app hL ops rest hQ os _ _ _ _ _ hok2 hs hT)
    · rename_i j want hg
      split at h
      · rename_i t hj
        split at h
        · rename_i b hb
          have hy := yielded_bool hsim.tok hj hb
          have hsub : ∀ c, b = c → Sim E nt ds ((t, .bool c) :: tm) sto a w G := by
            rintro c rfl
            refine ⟨hsim.ext, hsim.wok, hsim.sok, fun t' => ?_, hsim.n, hsim.d⟩
            simp only [lk]
            split
            · rename_i e; subst e; rw [← hb]; exact hsim.tok _
            · exact hsim.tok t'
          by_cases hbw : b = want
          · rw [if_pos (by simp [Region.wanted, hg, hy, hbw])]
            exact .inl (step_sound hL (hsub want hbw) hok1 (h.1 hbw) fun G' w' r v sto' hT hs => vc_sound_app hL ops rest hQ os _ _ _ _ _ hok2 hs hT)
          · rw [if_neg (by simp [Region.wanted, hg, hy, hbw])]
            have hbn : b = !want := by cases b <;> cases want <;> simp_all
            exact vc_sound_app hL ops rest hQ os _ _ _ _ G hok2 ((hsub _ hbn).put (.refl G) hsim.wok hsim.sok hdst (.tup rfl fun j x hx => by simp at hx)) (h.2 hbn)
        · rename_i hb
          have hy := yielded_none hsim.tok hj hb
          rw [if_neg (by simp [Region.wanted, hg, hy])]
          exact vc_sound_app hL ops rest hQ os _ _ _ _ G hok2 (hsim.put (.refl G) hsim.wok hsim.sok hdst (.tup rfl fun j x hx => by simp at hx)) h
        · exact h.elim
      · exact h.elim

theorem AGood.regDefer {f : Nat} {fn : Func} {df : List DDel} {k : List Item} {tm : Tm} {sto : Sto} {R : AVal → Sto → Prop} (hL : LOk P L) (z : List Nat) {id : Nat} {ops : List Oper} (ps : List Nat) (pre : List Oper) (x y : Operand) (t t2 : TypeId) (ty : TypeId) (pos : String) (af : Array Edge)
    (hops : ops = pre ++ [⟨none, .defer ⟨.builtin .delete, #[x, y], #[t, t2]⟩, ty, pos, af, none⟩]) (hx : operandOk x = true) (hy : operandOk y = true) (hok : okOps L fn.ntmps pre = true)
    (h : vc L P false z (ops.map (·.dst)) pre tm sto fun tm' sto' => AGood P f fn (⟨t, t2, ev tm' x, ev tm' y⟩ :: df) k (Rad.prune ps tm') sto' R) : AGood P f fn df (.code (.region id ops.toArray false) :: k) tm sto R := by
  refine ⟨?_⟩
  intro E G a w b h1 h2 h3 h4 h5 h6 h7 h8 h9
  refine Good.of_wp (Q := fun e a' w' => e = .normal ∧ Good P f (Post E R) b k a' w') (wp_region_lit ?_) fun e a' w' hq => hq
  rw [show wpList P ops.toArray (fun e a' w' => e = .normal ∧ Good P f (Post E R) b k a' w') ops a w = wpList P ops.toArray (fun e a' w' => e = .normal ∧ Good P f (Post E R) b k a' w') (pre ++ [⟨none, .defer ⟨.builtin .delete, #[x, y], #[t, t2]⟩, ty, pos, af, none⟩]) a w from by rw [← hops]]
  refine vc_sound_app hL (E := G) (nt := fn.ntmps) (ds := a.defers) ops (K := fun tm' sto' => AGood P f fn (⟨t, t2, ev tm' x, ev tm' y⟩ :: df) k (Rad.prune ps tm') sto' R) _ (fun G' tm' sto' a' w' hk hs => ?_) pre tm sto a w G hok ⟨.refl G, h7, h8, h9, h4, rfl⟩ h
  unfold wpList
  rw [if_pos (by simp [Region.wanted])]
  refine .inl ?_
  have hrun : (execOp a'.eval ⟨none, .defer ⟨.builtin .delete, #[x, y], #[t, t2]⟩, ty, pos, af, none⟩).run P w' = .ok (.defer { target := .builtin .delete #[t, t2] ty (#[x, y].map fun | .const _ => true | _ => false), args := #[a'.eval x, a'.eval y] }) w' := by
    have hm : (#[x, y] : Array Operand).map a'.eval = #[a'.eval x, a'.eval y] := by simp
    simp only [execOp, resolve, Sem.run_bind, Sem.run_pure, Result.andThen_ok, hm]; rfl
  unfold Oper.wp
  rw [hrun, Oper.upon_defer]
  unfold wpList
  refine ⟨rfl, ?_⟩
  exact hk.go E G' { a' with defers := _ :: a'.defers } w' b h1 h2 h3 hs.n ⟨⟨_, _, _, _, rfl, ev_rep hs.wok hs.tok hx, ev_rep hs.wok hs.tok hy⟩, hs.d ▸ h5.mono hs.ext.toMono⟩ (h6.trans hs.ext) hs.wok hs.sok (hs.tok.prune ps)
theorem AGood.regDeferN {f : Nat} {fn : Func} {df : List DDel} {k : List Item} {tm : Tm} {sto : Sto} {R : AVal → Sto → Prop} (hL : LOk P L) (z : List Nat) (n : Nat) {id : Nat} {ops : List Oper} (ps : List Nat) {x y : Operand} {t t2 : TypeId} {ty : TypeId} {pos : String} {af : Array Edge}
    (hops : ops = ops.take n ++ [⟨none, .defer ⟨.builtin .delete, #[x, y], #[t, t2]⟩, ty, pos, af, none⟩]) (hx : operandOk x = true) (hy : operandOk y = true) (hok : okOps L fn.ntmps (ops.take n) = true)
    (h : ∀ K : Tm → Sto → Prop, (∀ tm' sto', AGood P f fn (⟨t, t2, ev tm' x, ev tm' y⟩ :: df) k (Rad.prune ps tm') sto' R → K tm' sto') → vc L P false z (ops.map (·.dst)) (ops.take n) tm sto K) : AGood P f fn df (.code (.region id ops.toArray false) :: k) tm sto R :=
  AGood.regDefer hL z ps (ops.take n) x y t t2 ty pos af hops hx hy hok (h _ fun _ _ h => h)

theorem AGood.retD {f : Nat} {fn : Func} {df : List DDel} {k : List Item} {tm : Tm} {sto : Sto} {R : AVal → Sto → Prop} (hL : LOk P L) (keep : List Nat) (rs : List ResultVar) (hr : fn.results.toList = rs) (hty : (df.all fun d => decide ((L d.t).ty ≠ .other)) = true) (h : runDf L df sto fun sto' => vcRes L rs tm sto' fun vs => R (retv vs) (sfilt keep sto')) : AGood P f fn df (.code .ret :: k) tm sto R := by
  have h' : AGood P f fn df (.code .ret :: k) tm sto (fun r s => R r (sfilt keep s)) := AGood.ret hL (fun d hd => by simpa using List.all_eq_true.1 hty d hd) (by rw [hr]; exact h)
  refine ⟨fun E G a w b h1 h2 h3 h4 h5 h6 h7 h8 h9 cs => ?_⟩
  obtain ⟨e, w', fr, ⟨G', cr, r, sto', x1, x2, x3, x4, x5, x6⟩, h11, h12, h13⟩ := h'.go E G a w b h1 h2 h3 h4 h5 h6 h7 h8 h9 cs
  exact ⟨e, w', fr, ⟨G', cr, r, _, x1, x2, x3, sto_filt keep x4, x5, x6⟩, h11, h12, h13⟩

/-- Within a region: the operations from the i-th on are still to do. -/
structure RGood (P : Program) (f : Nat) (fn : Func) (df : List DDel) (ops : List Oper) (i : Nat) (k : List Item) (tm : Tm) (sto : Sto) (R : AVal → Sto → Prop) : Prop where
  go : ∀ (E G : Gh) (a : Act) (w : World) (b : Frame), b.fn = f → b.kind = .normal → P.funcs[f]? = some fn → a.tmps.size = fn.ntmps → DfOk G df a.defers → Ext E G → WOk G w → StoOk G w sto → TmOk G tm a.tmps →
    wpList P ops.toArray (fun e a' w' => e = .normal ∧ Good P f (Post E R) b k a' w') (ops.drop i) a w
section
variable {f : Nat} {fn : Func} {df : List DDel} {k : List Item} {tm : Tm} {sto : Sto} {R : AVal → Sto → Prop}
theorem AGood.parts {id : Nat} {ops : List Oper} (h : RGood P f fn df ops 0 k tm sto R) : AGood P f fn df (.code (.region id ops.toArray false) :: k) tm sto R := by
  refine ⟨?_⟩
  intro E G a w b h1 h2 h3 h4 h5 h6 h7 h8 h9
  exact Good.of_wp (Q := fun e a' w' => e = .normal ∧ Good P f (Post E R) b k a' w') (wp_region_lit (h.go E G a w b h1 h2 h3 h4 h5 h6 h7 h8 h9)) fun e a' w' hq => hq
theorem RGood.seg (hL : LOk P L) (z : List Nat) {ops : List Oper} (i n j : Nat) (ps : List Nat) (hj : i + n = j) (hok : okOps L fn.ntmps ((ops.drop i).take n) = true)
    (h : ∀ K : Tm → Sto → Prop, (∀ tm' sto', RGood P f fn df ops j k (Rad.prune ps tm') sto' R → K tm' sto') → vc L P false z (ops.map (·.dst)) ((ops.drop i).take n) tm sto K) : RGood P f fn df ops i k tm sto R := by
  refine ⟨?_⟩
  intro E G a w b h1 h2 h3 h4 h5 h6 h7 h8 h9
  subst hj
  have e : ops.drop i = (ops.drop i).take n ++ ops.drop (i + n) := by
    rw [← List.drop_drop]; exact (List.take_append_drop n _).symm
  rw [e]
  refine vc_sound_app hL (E := G) (nt := fn.ntmps) (ds := a.defers) ops (K := fun tm' sto' => RGood P f fn df ops (i + n) k (Rad.prune ps tm') sto' R) _ (fun G' tm' sto' a' w' hk hs => ?_) _ tm sto a w G hok ⟨.refl G, h7, h8, h9, h4, rfl⟩ (h _ fun _ _ h => h)
  exact hk.go E G' a' w' b h1 h2 h3 hs.n (hs.d ▸ h5.mono hs.ext.toMono) (h6.trans hs.ext) hs.wok hs.sok (hs.tok.prune ps)
theorem RGood.fin {ops : List Oper} {i : Nat} (ps : List Nat) (hi : ops.length ≤ i) (h : AGood P f fn df k (Rad.prune ps tm) sto R) : RGood P f fn df ops i k tm sto R := by
  refine ⟨?_⟩
  intro E G a w b h1 h2 h3 h4 h5 h6 h7 h8 h9
  rw [List.drop_of_length_le hi]
  unfold wpList
  exact ⟨rfl, h.go E G a w b h1 h2 h3 h4 h5 h6 h7 h8 (h9.prune ps)⟩
end
end Go.Rad
/- The equations by which regions are reduced; the rules in the shape that the walks use. -/
namespace Go.Rad
open Go Go.Proofs
theorem bls : ((∀ b : Bool, ((!b) = true) = (b = false)) ∧ (∀ b : Bool, ((!b) = false) = (b = true)) ∧ (∀ (p : Prop) [Decidable p], (decide p = true) = p) ∧ (∀ (p : Prop) [Decidable p], (decide p = false) = ¬p)) ∧ ((!true) = false ∧ (!false) = true ∧ (∀ b : Bool, (¬b = true) = (b = false)) ∧ (∀ b : Bool, (¬b = false) = (b = true))) ∧ decide True = true ∧ decide False = false ∧ ((true = false) = False) ∧ ((false = true) = False) ∧ ∀ b : Bool, (b = b) = True := by
  refine ⟨⟨by intro b; cases b <;> simp, by intro b; cases b <;> simp, by intro p _; simp, by intro p _; simp⟩, ⟨rfl, rfl, by intro b; cases b <;> simp, by intro b; cases b <;> simp⟩, by simp, by simp, by simp, by simp, by simp⟩
theorem prune_nil (tm : Tm) : prune [] tm = [] := Eq.trans rfl rfl
theorem prune_cons (p : Nat) (ps : List Nat) (tm : Tm) : prune (p :: ps) tm = (p, lk tm p) :: prune ps tm := Eq.trans rfl rfl
attribute [go_sem] vc_nil vc_move vc_assign vc_pick vc_alloc vc_box vc_build vc_buildSlice vc_load vc_store vc_nilCheck vc_bin_tmp vc_bin_int vc_bin_bool vc_bin_str vc_bin_agg vc_eqNil vc_neNil vc_unOp vc_convert vc_makeFunc vc_makeMap vc_makeSlice vc_slice vc_fieldAddr vc_field vc_indexAddr vc_index vc_lookup vc_mapUpdate vc_extract vc_builtin vc_call vc_guard gd_tt gd_ff gd_tf gd_ft gd_none pk_t pk_f nc_bx nc_loc nc_ref nc_fn cl_fn cl_fq kv_ap kvs_ap kvs_nil kvc_ap frq_ff frq_osl frO_row frq_sl frq_int frq_tup ks_ap kb_ap kb_ap' put_some put_none ev_tmp ev_const ev_func oc_int oc_bool oc_str oc_nil oc_sl oc_map oc_fn oc_agg oc1uint oc1ubool oc1ustr oc1unil oc1usl lk_hit lk_miss sget_hit sget_miss sget_nil sput_nil sput_hit sput_lt sput_gt vcRes_nil vcRes_tmp vcRes_cell retv_one retv_nil retv_more sdel_nil sdel_hit sdel_miss ld_bx ld_loc ld_ref ldB_box ldR_map mkv_ag mkv_one st_bx st_loc sn_bx sn_loc nr_sl nr_int nr_bool nr_str nr_ref nr_nil nr_nilfn nr_nilmap nr_fn nv_agg nv_sl nv_int nv_bool nv_str nv_ref nv_nil nv_fn stB_box stR_row fd_eq fdA_bx fdA_loc fdA_ref foff_st fo_eq foA_agg ix_eq ixA_osl ixO_row ixA_map ixA_abx ixA_aloc ixA_aref iv_eq ivA_str ivA_agg ex_tup ln_eq lnA_str lnA_sl lnA_osl lnA_arr bl_len bl_append bl_max bl_min el_sl el_osl elO_all elO_one elO_row ap_eq apA_sl apE_osl apO_row apE_nil mk_eq mkA_sl bs_eq bsA_sl bsC_some fc_nil fc_st fc_arr fc_sl fcA_some bb_eql bb_neq ba_eql ba_neq eqA_arr eqI_int eqN_some io_nil io_cons io_map ar_i64 ar_u8 ar_u16 ar_u32 ar_u64 ar_i32 un_not un_neg un_xor sl_eq slA_str slA_sl slA_osl ia_none ia_some sf_none sf_some cv_eq cvA_int cvA_str cvA_sl strOf_nil strOf_cons lu_eq luA_map luO_mp lv_some lv_none mu_eq muA_map muO_mp vn_sl vn_osl co_agg co_nil co_nilmap co_nilfn iw_agg iw_nil iw_nilmap iw_nilfn fz_nil fz_fn fz_osl ch_zero ch_succ ch_one sp_eq bi_add bi_sub bi_mul bi_quo bi_rem bi_and bi_or bi_xor bi_andNot bi_eql bi_neq bi_lss bi_leq bi_gtr bi_geq ii_add ii_sub ii_mul ii_quo ii_rem ii_and ii_or ii_xor ii_andNot ii_eql ii_neq ii_lss ii_leq ii_gtr ii_geq bi_shl bi_shr sh_shl sh_shr ss_add ss_eql ss_neq ss_lss ss_gtr ss_leq ss_geq co_bool iw_bool fz_bool co_int iw_int fz_int co_str iw_str fz_str co_sl iw_sl fz_sl co_ref iw_ref fz_ref co_osl iw_osl co_bx iw_bx co_loc iw_loc co_map iw_map co_fn iw_fn luA_mapI luI_mp muA_mapI muI_mp lnA_map lnO_mp lnO_mpi List.length_map List.map_cons List.map_nil List.append_nil List.nil_append List.cons_append List.length_cons List.length_nil List.getElem?_cons_zero List.getElem?_cons_succ List.getElem?_nil Option.map_some Option.map_none Option.some.injEq List.take_succ_cons List.take_zero List.drop_succ_cons List.drop_zero List.headD_cons List.all_cons List.all_nil List.replicate List.flatten_cons List.flatten_nil List.toList_toArray Array.toList_empty Nat.zero_add Nat.add_zero Nat.succ_eq_add_one Nat.le_refl List.contains_nil List.contains_cons Bool.or_false Bool.or_true Bool.false_or Bool.true_or Option.getD_some Option.getD_none ne_eq not_false_eq_true not_true_eq_false and_true true_and false_and and_self Bool.and_true Bool.true_and Bool.not_false Bool.not_true Bool.false_eq_true Bool.and_self if_true if_false ite_true ite_false exists_eq_left exists_eq_left' exists_and_left exists_eq forall_eq forall_eq' forall_const imp_self implies_true Option.isSome_none Option.isSome_some Option.isNone_none Prod.mk.injEq Ty.slice.injEq Ty.map.injEq Ty.array.injEq false_implies true_implies decide_true decide_false Int.toNat_natCast Int.toNat_zero Int.natCast_nonneg Int.cast_ofNat_Int Int.natCast_zero Int.natCast_one Nat.not_lt_zero Nat.zero_le Nat.zero_lt_succ Nat.zero_mul prune_nil prune_cons lk_nil List.filterMap_cons_some List.filterMap_nil apartV isRefB sf_nil sf_cons LL_1 LL_2 LL_3 LL_4 LL_5 LL_6 LL_7 LL_8 LL_9 LL_10 LL_11 LL_12 LL_13 LL_14 LL_15 LL_16 LL_17 LL_18 LL_19 LL_21 LL_22 LL_23 LL_24 LL_25 LL_26 LL_27 LL_28 LL_29 LL_30 LL_31 LL_32 LL_33 LL_34 LL_35 LL_36 LL_37 LL_38 LL_39 LL_40 LL_42 LL_43 LL_44 LL_45 LL_46 LL_47 LL_48 LL_49 LL_50 LL_52 LL_53 LL_54 LL_55 LL_56 LL_57 LL_58 LL_59 LL_60 LL_61 LL_62 LL_63 LL_64 LL_65 LL_66 LL_68 LL_69 LL_70 LL_71 LL_72 LL_73 LL_74 LL_75 LL_76 LL_77 LL_78 LL_80 LL_81 LL_82 LL_83 LL_84 LL_85 LL_86 LL_87 LL_88 LL_89 LL_90 LL_91 LL_93 LL_94 LL_95 LL_96 LL_97 LL_98 LL_99 LL_100 LL_101 LL_102 LL_103 LL_104 LL_106 LL_108 LL_109 LL_111 LL_112 LL_113 LL_114 LL_115 LL_116 LL_117 LL_118 LL_119 LL_120 LL_121 LL_122 LL_123 LL_124 LL_125 LL_126 LL_127 LL_128 LL_129 LL_130 LL_131 LL_132 LL_133 LL_134 LL_135 LL_138 LL_139 LL_140 LL_141 LL_142 LL_143 LL_144 LL_145

section
variable {f : Nat} {fn : Func} {df : List DDel} {k : List Item} {tm : Tm} {sto : Sto} {R : AVal → Sto → Prop}
theorem gSq {x y : Code} (h : AGood Try.prog f fn df (.code x :: .code y :: k) tm sto R) : AGood Try.prog f fn df (.code (.seq x y) :: k) tm sto R := h.seq
theorem gSk (h : AGood Try.prog f fn df k tm sto R) : AGood Try.prog f fn df (.code .skip :: k) tm sto R := h.skip
theorem gBl {id : Nat} {c : Code} (h : AGood Try.prog f fn df (.code c :: .inBlock id :: k) tm sto R) : AGood Try.prog f fn df (.code (.block id c) :: k) tm sto R := h.block
theorem gIb {id : Nat} (h : AGood Try.prog f fn df k tm sto R) : AGood Try.prog f fn df (.inBlock id :: k) tm sto R := h.inBlock
theorem gEx {id : Nat} {k' : List Item} (hk : exitTo id k = some k') (h : AGood Try.prog f fn df k' tm sto R) : AGood Try.prog f fn df (.code (.exit id) :: k) tm sto R := h.exit hk
def Br (t : Bool) (X Y : Prop) : Prop := (t = true → X) ∧ (t = false → Y)
theorem brT {X Y : Prop} (h : X) : Br true X Y := And.intro (fun _ => h) (fun e => Bool.noConfusion e)
theorem brF {X Y : Prop} (h : Y) : Br false X Y := And.intro (fun e => Bool.noConfusion e) (fun _ => h)
theorem brS {t : Bool} {X Y : Prop} (h1 : t = true → X) (h2 : t = false → Y) : Br t X Y := ⟨h1, h2⟩
theorem gCd {c : Operand} {x y : Code} {t : Bool} (hc : ev tm c = .bool t) (hok : operandOk c = true) (h : Br t (AGood Try.prog f fn df (.code x :: k) tm sto R) (AGood Try.prog f fn df (.code y :: k) tm sto R)) : AGood Try.prog f fn df (.code (.cond c x y) :: k) tm sto R := .cond hc hok h.1 h.2
theorem gRg (z : List Nat) {id : Nat} {ops : List Oper} (ps : List Nat) (h : ∀ K : Tm → Sto → Prop, (∀ tm' sto', AGood Try.prog f fn df k (Rad.prune ps tm') sto' R → K tm' sto') → vc LL Try.prog false z (ops.map (·.dst)) ops tm sto K) (hok : okOps LL fn.ntmps ops = true := by kernel_rfl) : AGood Try.prog f fn df (.code (.region id ops.toArray false) :: k) tm sto R := .reg LL_ok z ps hok h
theorem gDr (id : Nat) (z : List Nat) (nq : Nat) (order : List Nat) {ops : List Oper} (ps : List Nat) (hz : z.all (fun d => (sget sto d).isNone) = true)
    (h : ∀ K : Tm → Sto → Prop, (∀ tm' sto', AGood Try.prog f fn df k (Rad.prune ps tm') sto' R → K tm' sto') → vc LL Try.prog true z (ops.map (·.dst)) ((order.take nq).filterMap (ops[·]?)) tm sto fun tm' sto' => vc LL Try.prog false z (ops.map (·.dst)) ((order.drop nq).filterMap (ops[·]?)) tm' sto' K) (hok : drawnOk LL fn.ntmps z ops nq order = true := by kernel_rfl) :
    AGood Try.prog f fn df (.code (.region id ops.toArray true) :: k) tm sto R := .drawn LL_ok mixed z nq order ps hok hz h
theorem gDl (id : Nat) (z : List Nat) (nq : Nat) (order : List Nat) (lt' : List (Nat × Nat)) (lr : List Nat) {ops : List Oper} (ps : List Nat) (hz : z.all (fun d => (sget sto d).isNone) = true)
    (h : ∀ K : Tm → Sto → Prop, (∀ tm' sto', AGood Try.prog f fn df k (Rad.prune ps tm') sto' R → K tm' sto') → vc LL Try.prog true z (ops.map (·.dst)) ((order.take nq).filterMap (ops[·]?)) tm sto fun tm' sto' => ((lt'.all fun y => apartV (lk tm' y.1) (lk tm' y.2)) = true ∧ (lr.all fun a => isRefB (lk tm' a)) = true) ∧ vc LL Try.prog false z (ops.map (·.dst)) ((order.drop nq).filterMap (ops[·]?)) tm' sto' K) (hok : drawnOkG LL fn.ntmps z ops nq order lt' lr = true := by kernel_rfl) :
    AGood Try.prog f fn df (.code (.region id ops.toArray true) :: k) tm sto R := .drawnL LL_ok mixed z nq order lt' lr ps hok hz h
theorem gD2 (id : Nat) (z : List Nat) (nq : Nat) (order order2 : List Nat) (lt' : List (Nat × Nat)) (lr : List Nat) {ops : List Oper} (ps : List Nat) (hz : z.all (fun d => (sget sto d).isNone) = true)
    (h : ∀ K : Tm → Sto → Prop, (∀ tm' sto', AGood Try.prog f fn df k (Rad.prune ps tm') sto' R → K tm' sto') → vc LL Try.prog true z (ops.map (·.dst)) ((order.take nq).filterMap (ops[·]?)) tm sto fun tm' sto' => ((lt'.all fun y => apartV (lk tm' y.1) (lk tm' y.2)) = true ∧ (lr.all fun a => isRefB (lk tm' a)) = true) ∧ vc LL Try.prog false z (ops.map (·.dst)) ((order.drop nq).filterMap (ops[·]?)) tm' sto' K ∧ vc LL Try.prog false z (ops.map (·.dst)) ((order2.drop nq).filterMap (ops[·]?)) tm' sto' K) (hok : drawnOkS 1 LL fn.ntmps z ops nq order lt' lr = true := by kernel_rfl) (hok2 : drawnOkS 1 LL fn.ntmps z ops nq order2 lt' lr = true := by kernel_rfl) (hsm : (order2.take nq == order.take nq && order2.getD nq 0 == order.getD (nq + 1) 0) = true := by kernel_rfl) :
    AGood Try.prog f fn df (.code (.region id ops.toArray true) :: k) tm sto R := .drawn2 LL_ok mixed z nq order order2 lt' lr ps hok hok2 hsm hz h
theorem gPt (id : Nat) {ops : List Oper} (h : RGood Try.prog f fn df ops 0 k tm sto R) : AGood Try.prog f fn df (.code (.region id ops.toArray false) :: k) tm sto R := .parts h
theorem gSg (z : List Nat) {ops : List Oper} (i n j : Nat) (ps : List Nat) (hj : i + n = j) (h : ∀ K : Tm → Sto → Prop, (∀ tm' sto', RGood Try.prog f fn df ops j k (Rad.prune ps tm') sto' R → K tm' sto') → vc LL Try.prog false z (ops.map (·.dst)) ((ops.drop i).take n) tm sto K) (hok : okOps LL fn.ntmps ((ops.drop i).take n) = true := by kernel_rfl) : RGood Try.prog f fn df ops i k tm sto R := .seg LL_ok z i n j ps hj hok h
theorem gFn {ops : List Oper} (i : Nat) (ps : List Nat) (hi : Nat.ble ops.length i = true) (h : AGood Try.prog f fn df k (Rad.prune ps tm) sto R) : RGood Try.prog f fn df ops i k tm sto R := .fin ps (Nat.le_of_ble_eq_true hi) h
theorem gRt (keep : List Nat) (rs : List ResultVar) (hr : fn.results.toList = rs) (h : vcRes LL rs tm sto fun vs => R (retv vs) (sfilt keep sto)) : AGood Try.prog f fn [] (.code .ret :: k) tm sto R := .retF LL_ok keep rs hr h
theorem gDn (keep : List Nat) (rs : List ResultVar) (hr : fn.results.toList = rs) (h : vcRes LL rs tm sto fun vs => R (retv vs) (sfilt keep sto)) : AGood Try.prog f fn [] [] tm sto R := .doneF LL_ok keep rs hr h
end
theorem cAl {f : Nat} {args : List AVal} {sto : Sto} {v : AVal} {T : AVal → Sto → Prop} (h : ACall Try.prog f args [] fun r s => r = v ∧ s = []) (ha : args.map (tr [] [] sto) = args) (hv : bk [] v = v) (hc : stoCells sto = true) (hT : T v sto) : ACall Try.prog f args sto T :=
  (ACall.alone h ha hv hc).mono fun r s hr => by rw [hr.1, hr.2]; exact hT
end Go.Rad
/- Contracts: sets, byte by byte. -/
namespace Go.Rad
open Go Go.Proofs
set_option linter.all false
set_option maxRecDepth 20000
set_option maxHeartbeats 4000000

def hasI (s : ISet) (n : Nat) : Bool := decide (((s.word (n / 64)).fdiv (2 ^ (n % 64))).tmod 2 = 1)
theorem div64 {n k : Nat} {c : Int} {X : Prop} (h4 : n / 64 = k) (hk : (k : Int) = c) (h : (n : Int).tdiv 64 = c → (n : Int).tmod 64 = ((n % 64 : Nat) : Int) → min (n % 64) 64 = n % 64 → X) : X :=
  h ((tdiv_nat n 64).trans (by rw [h4]; exact hk)) (tmod_nat n 64) (by omega)
theorem has_c (s0 s1 s2 s3 : Int) (n : Nat) (h1 : n ≤ 255) : ACall Try.prog 52 [.agg [.int .u64 s0, .int .u64 s1, .int .u64 s2, .int .u64 s3], .int .u8 n] [] fun r s' => r = .bool (hasI ⟨s0, s1, s2, s3⟩ n) ∧ s' = [] := by
  have h4 : n / 64 = 0 ∨ n / 64 = 1 ∨ n / 64 = 2 ∨ n / 64 = 3 := by omega
  rcases h4 with h4 | h4 | h4 | h4
  all_goals
    (first | refine div64 (c := 0) h4 rfl fun hd hm hmin => ?_ | refine div64 (c := 1) h4 rfl fun hd hm hmin => ?_ | refine div64 (c := 2) h4 rfl fun hd hm hmin => ?_ | refine div64 (c := 3) h4 rfl fun hd hm hmin => ?_)
    simp only [hasI, h4, ISet.word]
    refine ACall.enter Try.func52 rfl (by kernel_rfl) (Nat.le_of_ble_eq_true rfl) ?_; simp only [initTm, Nat.reduceAdd]
    repeat' (first
  | refine gSq ?_ | refine gSk ?_ | refine gBl ?_ | refine gIb ?_ | refine gEx rfl ?_
  | ((first
  | (refine gRg [] [0, 1, 2, 4] ?_; intro K hK)
  | (refine gd_split ?_ ?_ <;> intro hb <;> (try simp only [bls] at hb) <;> (try simp only [hb]))
  | refine gRt [] [.tmp 4] rfl ?_ | refine gDn [] [.tmp 4] rfl ?_) <;> (try simp only [go_sem, simprocAttr, hd, hm, hmin, wr_u8, IntKind.bits, Int.toNat_natCast, Int.natCast_nonneg]))
  | (refine hK _ _ ?_; clear hK K; simp only [go_sem, simprocAttr])
  | refine gCd (by simp only [go_sem, simprocAttr]; rfl) rfl ?_
  | refine brT ?_ | refine brF ?_
  | (refine brS ?_ ?_ <;> intro hc <;> (try simp only [bls] at hc) <;> (try simp only [hc, bls]))
  | intro _ | refine And.intro ?_ ?_)
  all_goals exact ⟨rfl, rfl⟩

def withI (s : ISet) (n : Nat) : ISet := if hasI s n then s else s.set (n / 64) (IntKind.u64.wrap (s.word (n / 64) + IntKind.u64.wrap (1 * 2 ^ (n % 64))))
theorem with_c (s0 s1 s2 s3 : Int) (n : Nat) (h1 : n ≤ 255) : ACall Try.prog 53 [.agg [.int .u64 s0, .int .u64 s1, .int .u64 s2, .int .u64 s3], .int .u8 n] [] fun r s' => r = .agg (withI ⟨s0, s1, s2, s3⟩ n).cells ∧ s' = [] := by
  have h4 : n / 64 = 0 ∨ n / 64 = 1 ∨ n / 64 = 2 ∨ n / 64 = 3 := by omega
  rcases h4 with h4 | h4 | h4 | h4
  all_goals
    (first | refine div64 (c := 0) h4 rfl fun hd hm hmin => ?_ | refine div64 (c := 1) h4 rfl fun hd hm hmin => ?_ | refine div64 (c := 2) h4 rfl fun hd hm hmin => ?_ | refine div64 (c := 3) h4 rfl fun hd hm hmin => ?_)
    simp only [withI, h4, ISet.word]
    refine ACall.enter Try.func53 rfl (by kernel_rfl) (Nat.le_of_ble_eq_true rfl) ?_; simp only [initTm, Nat.reduceAdd]
    repeat' (first
  | refine gSq ?_ | refine gSk ?_ | refine gBl ?_ | refine gIb ?_ | refine gEx rfl ?_
  | ((first
  | (refine gRg [] [0, 1, 2, 4, 8] ?_; intro K hK)
  | refine cAl (has_c _ _ _ _ _ h1) rfl rfl rfl ?_
  | (refine gd_split ?_ ?_ <;> intro hb <;> (try simp only [bls] at hb) <;> (try simp only [hb]))
  | refine gRt [] [.cell 4 36] rfl ?_ | refine gDn [] [.cell 4 36] rfl ?_) <;> (try simp only [go_sem, simprocAttr, hd, hm, hmin, wr_u8, IntKind.bits, Int.toNat_natCast, Int.natCast_nonneg]))
  | (refine hK _ _ ?_; clear hK K; simp only [go_sem, simprocAttr])
  | refine gCd (by simp only [go_sem, simprocAttr]; rfl) rfl ?_
  | refine brT ?_ | refine brF ?_
  | (refine brS ?_ ?_ <;> intro hc <;> (try simp only [bls] at hc) <;> (try simp only [hc, bls]))
  | intro _ | refine And.intro ?_ ?_)
  all_goals first | (simp only [hc]; rfl) | (simp [hc]; done) | (simp [hc, ISet.set]; done)

abbrev bytesL (l : List Nat) : List (List AVal) := l.map fun (k : Nat) => [.int .u8 k]
theorem of_c (q f : Bool) (l : List Nat) (h : ∀ x ∈ l, x ≤ 255) (hl : l.length ≤ 1000000) : ACall Try.prog 93 [.sl q f (bytesL l)] [] fun r s' => r = .agg (l.foldl withI ISet.none).cells ∧ s' = [] := by
  refine ACall.enter Try.func93 rfl (by kernel_rfl) (Nat.le_of_ble_eq_true rfl) ?_; simp only [initTm, Nat.reduceAdd]
  repeat' (first
  | refine gSq ?_ | refine gSk ?_ | refine gBl ?_ | refine gIb ?_ | refine gEx rfl ?_
  | ((first
  | (refine gRg [] [0, 2, 3, 4, 9] ?_; intro K hK)
  | (refine gDr 5 [] 5 [0, 1, 2, 3, 4, 5, 6] [0, 2, 3, 4, 9] rfl ?_; intro K hK)
  | (refine gd_split ?_ ?_ <;> intro hb <;> (try simp only [bls] at hb) <;> (try simp only [hb]))
  | refine gRt [] [.cell 2 36] rfl ?_ | refine gDn [] [.cell 2 36] rfl ?_) <;> (try simp only [go_sem, simprocAttr]))
  | (refine hK _ _ ?_; clear hK K; simp only [go_sem, simprocAttr])
  | refine gCd (by simp only [go_sem, simprocAttr]; rfl) rfl ?_
  | refine brT ?_ | refine brF ?_
  | (refine brS ?_ ?_ <;> intro hc <;> (try simp only [bls] at hc) <;> (try simp only [hc, bls]))
  | intro _ | refine And.intro ?_ ?_)
  rename_i h2 h3
  refine AGood.prune [0, 2, 3, 4] ?_; simp only [go_sem, simprocAttr]
  refine AGood.loopInv (α := Nat) (fun i => ([(0, .sl q f (bytesL l)), (2, .bx 2 h2 0), (3, .bx 3 h3 0), (4, .int .i64 i)], [(2, h2, .box ISet.none.cells), (3, h3, .box ((l.take i).foldl withI ISet.none).cells)])) (fun i => i ≤ l.length) (fun i => l.length - i) 0 (Nat.zero_le _) rfl ?_
  intro i hi ih
  simp only
  generalize hs : (l.take i).foldl withI ISet.none = s
  obtain ⟨s0, s1, s2, s3⟩ := s
  repeat' (first
  | refine gSq ?_ | refine gSk ?_ | refine gBl ?_ | refine gIb ?_ | refine gEx rfl ?_
  | ((first
  | (refine gRg [] [0, 2, 3, 4, 9] ?_; intro K hK)
  | (refine gDr 5 [] 5 [0, 1, 2, 3, 4, 5, 6] [0, 2, 3, 4, 9] rfl ?_; intro K hK)
  | refine cAl (with_c _ _ _ _ _ (h _ (List.mem_of_getElem? (by assumption)))) rfl rfl rfl ?_
  | (refine gd_split ?_ ?_ <;> intro hb <;> (try simp only [bls] at hb) <;> (try simp only [hb]))
  | refine gRt [] [.cell 2 36] rfl ?_ | refine gDn [] [.cell 2 36] rfl ?_) <;> (try simp only [go_sem, simprocAttr]))
  | (refine hK _ _ ?_; clear hK K; simp only [go_sem, simprocAttr])
  | refine gCd (by simp only [go_sem, simprocAttr]; rfl) rfl ?_
  | refine brT ?_ | refine brF ?_
  | (refine brS ?_ ?_ <;> intro hc <;> (try simp only [bls] at hc) <;> (try simp only [hc, bls]))
  | intro _ | refine And.intro ?_ ?_)
  all_goals try simp only [decide_eq_true_eq, decide_eq_false_iff_not] at hc
  · exact hc
  · omega
  · omega
  · rename_i k hk
    refine AGood.prune [0, 2, 3, 4] ?_; simp only [go_sem, simprocAttr]
    exact (ih (i + 1) (by omega) (by omega)).cast rfl (by rw [take_one hk, List.foldl_append, hs]; rfl)
  · rw [List.take_of_length_le (by omega)] at hs
    rw [hs]

/-- The bytes from one to another. -/
def rangeI (lo hi : Nat) : ISet := (List.range (hi + 1 - lo)).foldl (fun s i => withI s (lo + i)) ISet.none
theorem range_c (lo hi : Nat) (h : hi ≤ 255) (h' : lo ≤ 255) : ACall Try.prog 105 [.int .u8 lo, .int .u8 hi] [] fun r s' => r = .agg (rangeI lo hi).cells ∧ s' = [] := by
  have e1 := wr_i64n (n := lo) (by omega)
  have e2 := wr_i64n (n := hi) (by omega)
  refine ACall.enter Try.func105 rfl (by kernel_rfl) (Nat.le_of_ble_eq_true rfl) ?_; simp only [initTm, Nat.reduceAdd]
  repeat' (first
  | refine gSq ?_ | refine gSk ?_ | refine gBl ?_ | refine gIb ?_ | refine gEx rfl ?_
  | ((first
  | (refine gRg [] [0, 1, 4, 5, 6, 13] ?_; intro K hK)
  | (refine gd_split ?_ ?_ <;> intro hb <;> (try simp only [bls] at hb) <;> (try simp only [hb]))
  | refine gRt [] [.cell 4 36] rfl ?_ | refine gDn [] [.cell 4 36] rfl ?_) <;> (try simp only [go_sem, simprocAttr, e1, e2]))
  | (refine hK _ _ ?_; clear hK K; simp only [go_sem, simprocAttr])
  | refine gCd (by simp only [go_sem, simprocAttr]; rfl) rfl ?_
  | refine brT ?_ | refine brF ?_
  | (refine brS ?_ ?_ <;> intro hc <;> (try simp only [bls] at hc) <;> (try simp only [hc, bls]))
  | intro _ | refine And.intro ?_ ?_)
  rename_i h4 h5
  refine AGood.prune [0, 1, 4, 5, 6] ?_; simp only [go_sem, simprocAttr]
  refine AGood.loopInv (α := Nat) (fun i => ([(0, .int .u8 lo), (1, .int .u8 hi), (4, .bx 4 h4 0), (5, .bx 5 h5 0), (6, .int .i64 (lo + i : Nat))], [(4, h4, .box ISet.none.cells), (5, h5, .box ((List.range i).foldl (fun s i => withI s (lo + i)) ISet.none).cells)])) (fun i => i ≤ hi + 1 - lo) (fun i => hi + 1 - lo - i) 0 (Nat.zero_le _) rfl ?_
  intro i hi' ih
  simp only
  generalize hs : (List.range i).foldl (fun s i => withI s (lo + i)) ISet.none = s
  obtain ⟨s0, s1, s2, s3⟩ := s
  by_cases hle : lo + i ≤ hi
  · have e3 := wr_u8n (n := lo + i) (by omega)
    have e4 : ((lo + i : Nat) : Int) ≤ (hi : Int) := by omega
    repeat' (first
  | refine gSq ?_ | refine gSk ?_ | refine gBl ?_ | refine gIb ?_ | refine gEx rfl ?_
  | ((first
  | (refine gRg [] [0, 1, 4, 5, 6, 13] ?_; intro K hK)
  | refine cAl (with_c _ _ _ _ (lo + i) (by omega)) rfl rfl rfl ?_
  | (refine gd_split ?_ ?_ <;> intro hb <;> (try simp only [bls] at hb) <;> (try simp only [hb]))
  | refine gRt [] [.cell 4 36] rfl ?_ | refine gDn [] [.cell 4 36] rfl ?_) <;> (try simp only [go_sem, simprocAttr, e1, e2, e3, e4]))
  | (refine hK _ _ ?_; clear hK K; simp only [go_sem, simprocAttr])
  | refine gCd (by simp only [go_sem, simprocAttr]; rfl) rfl ?_
  | refine brT ?_ | refine brF ?_
  | (refine brS ?_ ?_ <;> intro hc <;> (try simp only [bls] at hc) <;> (try simp only [hc, bls]))
  | intro _ | refine And.intro ?_ ?_)
    · omega
    · omega
    · refine AGood.prune [0, 1, 4, 5, 6] ?_; simp only [go_sem, simprocAttr]
      exact (ih (i + 1) (by omega) (by omega)).cast rfl (by rw [List.range_succ, List.foldl_append, hs]; rfl)
  · have e4 : ¬ ((lo + i : Nat) : Int) ≤ (hi : Int) := by omega
    have e5 : i = hi + 1 - lo := by omega
    subst e5
    repeat' (first
  | refine gSq ?_ | refine gSk ?_ | refine gBl ?_ | refine gIb ?_ | refine gEx rfl ?_
  | ((first
  | (refine gRg [] [0, 1, 4, 5, 6, 13] ?_; intro K hK)
  | (refine gd_split ?_ ?_ <;> intro hb <;> (try simp only [bls] at hb) <;> (try simp only [hb]))
  | refine gRt [] [.cell 4 36] rfl ?_ | refine gDn [] [.cell 4 36] rfl ?_) <;> (try simp only [go_sem, simprocAttr, e1, e2, e4]))
  | (refine hK _ _ ?_; clear hK K; simp only [go_sem, simprocAttr])
  | refine gCd (by simp only [go_sem, simprocAttr]; rfl) rfl ?_
  | refine brT ?_ | refine brF ?_
  | (refine brS ?_ ?_ <;> intro hc <;> (try simp only [bls] at hc) <;> (try simp only [hc, bls]))
  | intro _ | refine And.intro ?_ ?_)
    simp only [rangeI, hs]

def notI (x : ISet) : ISet := (List.range 256).foldl (fun s b => if hasI x b then s else withI s b) ISet.none
theorem not_c (x0 x1 x2 x3 : Int) : ACall Try.prog 92 [.agg [.int .u64 x0, .int .u64 x1, .int .u64 x2, .int .u64 x3]] [] fun r s' => r = .agg (notI ⟨x0, x1, x2, x3⟩).cells ∧ s' = [] := by
  refine ACall.enter Try.func92 rfl (by kernel_rfl) (Nat.le_of_ble_eq_true rfl) ?_; simp only [initTm, Nat.reduceAdd]
  repeat' (first
  | refine gSq ?_ | refine gSk ?_ | refine gBl ?_ | refine gIb ?_ | refine gEx rfl ?_
  | ((first
  | (refine gRg [] [0, 1, 2, 3, 4, 7, 14] ?_; intro K hK)
  | (refine gd_split ?_ ?_ <;> intro hb <;> (try simp only [bls] at hb) <;> (try simp only [hb]))
  | refine gRt [] [.cell 2 36] rfl ?_ | refine gDn [] [.cell 2 36] rfl ?_) <;> (try simp only [go_sem, simprocAttr]))
  | (refine hK _ _ ?_; clear hK K; simp only [go_sem, simprocAttr])
  | refine gCd (by simp only [go_sem, simprocAttr]; rfl) rfl ?_
  | refine brT ?_ | refine brF ?_
  | (refine brS ?_ ?_ <;> intro hc <;> (try simp only [bls] at hc) <;> (try simp only [hc, bls]))
  | intro _ | refine And.intro ?_ ?_)
  rename_i h1 h2 h3
  refine AGood.prune [0, 1, 2, 3, 4] ?_; simp only [go_sem, simprocAttr]
  refine AGood.loopInv (α := Nat) (fun i => ([(0, .agg [.int .u64 x0, .int .u64 x1, .int .u64 x2, .int .u64 x3]), (1, .bx 1 h1 0), (2, .bx 2 h2 0), (3, .bx 3 h3 0), (4, .int .i64 i)], [(1, h1, .box [.int .u64 x0, .int .u64 x1, .int .u64 x2, .int .u64 x3]), (2, h2, .box ISet.none.cells), (3, h3, .box ((List.range i).foldl (fun s b => if hasI ⟨x0, x1, x2, x3⟩ b then s else withI s b) ISet.none).cells)])) (fun i => i ≤ 256) (fun i => 256 - i) 0 (Nat.zero_le _) rfl ?_
  intro i hi ih
  simp only
  generalize hs : (List.range i).foldl (fun s b => if hasI ⟨x0, x1, x2, x3⟩ b then s else withI s b) ISet.none = s
  obtain ⟨s0, s1, s2, s3⟩ := s
  by_cases hle : i < 256
  · have e3 := wr_u8n (n := i) (by omega)
    have e4 : (i : Int) < 256 := by omega
    have ih := ih (i + 1) (by omega) (by omega)
    rw [List.range_succ, List.foldl_append, hs] at ih
    cases hh : hasI ⟨x0, x1, x2, x3⟩ i
    all_goals
      repeat' (first
  | refine gSq ?_ | refine gSk ?_ | refine gBl ?_ | refine gIb ?_ | refine gEx rfl ?_
  | ((first
  | (refine gRg [] [0, 1, 2, 3, 4, 7, 14] ?_; intro K hK)
  | refine cAl (with_c _ _ _ _ i (by omega)) rfl rfl rfl ?_
  | refine cAl (has_c _ _ _ _ i (by omega)) rfl rfl rfl ?_
  | (refine gd_split ?_ ?_ <;> intro hb <;> (try simp only [bls] at hb) <;> (try simp only [hb]))
  | refine gRt [] [.cell 2 36] rfl ?_ | refine gDn [] [.cell 2 36] rfl ?_) <;> (try simp only [go_sem, simprocAttr, e3, e4, hh]))
  | (refine hK _ _ ?_; clear hK K; simp only [go_sem, simprocAttr])
  | refine gCd (by simp only [go_sem, simprocAttr]; rfl) rfl ?_
  | refine brT ?_ | refine brF ?_
  | (refine brS ?_ ?_ <;> intro hc <;> (try simp only [bls] at hc) <;> (try simp only [hc, bls]))
  | intro _ | refine And.intro ?_ ?_)
    all_goals first | omega | skip
    all_goals
      refine AGood.prune [0, 1, 2, 3, 4] ?_; simp only [go_sem, simprocAttr]
      exact ih.cast rfl (by simp [hh])
  · have e4 : ¬ (i : Int) < 256 := by omega
    have e5 : i = 256 := by omega
    subst e5
    repeat' (first
  | refine gSq ?_ | refine gSk ?_ | refine gBl ?_ | refine gIb ?_ | refine gEx rfl ?_
  | ((first
  | (refine gRg [] [0, 1, 2, 3, 4, 7, 14] ?_; intro K hK)
  | (refine gd_split ?_ ?_ <;> intro hb <;> (try simp only [bls] at hb) <;> (try simp only [hb]))
  | refine gRt [] [.cell 2 36] rfl ?_ | refine gDn [] [.cell 2 36] rfl ?_) <;> (try simp only [go_sem, simprocAttr, e4]))
  | (refine hK _ _ ?_; clear hK K; simp only [go_sem, simprocAttr])
  | refine gCd (by simp only [go_sem, simprocAttr]; rfl) rfl ?_
  | refine brT ?_ | refine brF ?_
  | (refine brS ?_ ?_ <;> intro hc <;> (try simp only [bls] at hc) <;> (try simp only [hc, bls]))
  | intro _ | refine And.intro ?_ ?_)
    simp only [notI, hs]

def orI (l : List ISet) : ISet := (List.range 256).foldl (fun s b => l.foldl (fun s x => if hasI x b then withI s b else s) s) ISet.none
abbrev sets (l : List ISet) : List (List AVal) := l.map ISet.cells
theorem or_c (q f : Bool) (l : List ISet) (hl : l.length ≤ 1000000) : ACall Try.prog 106 [.sl q f (sets l)] [] fun r s' => r = .agg (orI l).cells ∧ s' = [] := by
  refine ACall.enter Try.func106 rfl (by kernel_rfl) (Nat.le_of_ble_eq_true rfl) ?_; simp only [initTm, Nat.reduceAdd]
  repeat' (first
  | refine gSq ?_ | refine gSk ?_ | refine gBl ?_ | refine gIb ?_ | refine gEx rfl ?_
  | ((first
  | (refine gRg [] [0, 2, 3, 4, 5, 8, 14, 23] ?_; intro K hK)
  | (refine gd_split ?_ ?_ <;> intro hb <;> (try simp only [bls] at hb) <;> (try simp only [hb]))
  | refine gRt [] [.cell 2 36] rfl ?_ | refine gDn [] [.cell 2 36] rfl ?_) <;> (try simp only [go_sem, simprocAttr]))
  | (refine hK _ _ ?_; clear hK K; simp only [go_sem, simprocAttr])
  | refine gCd (by simp only [go_sem, simprocAttr]; rfl) rfl ?_
  | refine brT ?_ | refine brF ?_
  | (refine brS ?_ ?_ <;> intro hc <;> (try simp only [bls] at hc) <;> (try simp only [hc, bls]))
  | intro _ | refine And.intro ?_ ?_)
  rename_i h2 h3
  refine AGood.prune [0, 2, 3, 4] ?_; simp only [go_sem, simprocAttr]
  refine AGood.loopInv (α := Nat) (fun b => ([(0, .sl q f (sets l)), (2, .bx 2 h2 0), (3, .bx 3 h3 0), (4, .int .i64 b)], [(2, h2, .box ISet.none.cells), (3, h3, .box ((List.range b).foldl (fun s b => l.foldl (fun s x => if hasI x b then withI s b else s) s) ISet.none).cells)])) (fun b => b ≤ 256) (fun b => 256 - b) 0 (Nat.zero_le _) rfl ?_
  intro b hb ih
  simp only
  generalize hs : (List.range b).foldl (fun s b => l.foldl (fun s x => if hasI x b then withI s b else s) s) ISet.none = s
  obtain ⟨s0, s1, s2, s3⟩ := s
  by_cases hle : b < 256
  · have e4 : (b : Int) < 256 := by omega
    have e3 := wr_u8n (n := b) (by omega)
    have ih := ih (b + 1) (by omega) (by omega)
    rw [List.range_succ, List.foldl_append, hs] at ih
    repeat' (first
  | refine gSq ?_ | refine gSk ?_ | refine gBl ?_ | refine gIb ?_ | refine gEx rfl ?_
  | ((first
  | (refine gRg [] [0, 2, 3, 4, 5, 8, 14, 23] ?_; intro K hK)
  | (refine gd_split ?_ ?_ <;> intro hb <;> (try simp only [bls] at hb) <;> (try simp only [hb]))
  | refine gRt [] [.cell 2 36] rfl ?_ | refine gDn [] [.cell 2 36] rfl ?_) <;> (try simp only [go_sem, simprocAttr, e4]))
  | (refine hK _ _ ?_; clear hK K; simp only [go_sem, simprocAttr])
  | refine gCd (by simp only [go_sem, simprocAttr]; rfl) rfl ?_
  | refine brT ?_ | refine brF ?_
  | (refine brS ?_ ?_ <;> intro hc <;> (try simp only [bls] at hc) <;> (try simp only [hc, bls]))
  | intro _ | refine And.intro ?_ ?_)
    refine AGood.prune [0, 2, 3, 4, 5] ?_; simp only [go_sem, simprocAttr]
    refine AGood.loopInv (α := Nat) (fun i => ([(0, .sl q f (sets l)), (2, .bx 2 h2 0), (3, .bx 3 h3 0), (4, .int .i64 b), (5, .int .i64 i)], [(2, h2, .box ISet.none.cells), (3, h3, .box ((l.take i).foldl (fun s x => if hasI x b then withI s b else s) ⟨s0, s1, s2, s3⟩).cells)])) (fun i => i ≤ l.length) (fun i => l.length - i) 0 (Nat.zero_le _) rfl ?_
    intro i hi ih2
    simp only
    generalize ht : (l.take i).foldl (fun s x => if hasI x b then withI s b else s) ⟨s0, s1, s2, s3⟩ = t
    obtain ⟨t0, t1, t2, t3⟩ := t
    by_cases hil : i < l.length
    · have e5 : (i : Int) < l.length := by omega
      have ih2 := ih2 (i + 1) (by omega) (by omega)
      have hk : l[i]? = some l[i] := List.getElem?_eq_getElem hil
      rw [take_one hk, List.foldl_append, ht] at ih2
      generalize l[i] = x at hk ih2
      obtain ⟨x0, x1, x2, x3⟩ := x
      cases hh : hasI ⟨x0, x1, x2, x3⟩ b
      all_goals
        repeat' (first
  | refine gSq ?_ | refine gSk ?_ | refine gBl ?_ | refine gIb ?_ | refine gEx rfl ?_
  | ((first
  | (refine gRg [] [0, 2, 3, 4, 5, 8, 14, 23] ?_; intro K hK)
  | refine cAl (has_c _ _ _ _ b (by omega)) rfl rfl rfl ?_
  | refine cAl (with_c _ _ _ _ b (by omega)) rfl rfl rfl ?_
  | (refine gd_split ?_ ?_ <;> intro hb <;> (try simp only [bls] at hb) <;> (try simp only [hb]))
  | refine gRt [] [.cell 2 36] rfl ?_ | refine gDn [] [.cell 2 36] rfl ?_) <;> (try simp only [go_sem, simprocAttr, e3, e4, e5, hk, hh, Option.some.injEq, forall_eq']))
  | (refine hK _ _ ?_; clear hK K; simp only [go_sem, simprocAttr])
  | refine gCd (by simp only [go_sem, simprocAttr]; rfl) rfl ?_
  | refine brT ?_ | refine brF ?_
  | (refine brS ?_ ?_ <;> intro hc <;> (try simp only [bls] at hc) <;> (try simp only [hc, bls]))
  | intro _ | refine And.intro ?_ ?_)
      all_goals first | omega | skip
      all_goals
        refine AGood.prune [0, 2, 3, 4, 5] ?_; simp only [go_sem, simprocAttr]
        exact ih2.cast rfl (by simp [hh])
    · have e5 : ¬ (i : Int) < l.length := by omega
      rw [List.take_of_length_le (by omega)] at ht
      repeat' (first
  | refine gSq ?_ | refine gSk ?_ | refine gBl ?_ | refine gIb ?_ | refine gEx rfl ?_
  | ((first
  | (refine gRg [] [0, 2, 3, 4, 5, 8, 14, 23] ?_; intro K hK)
  | (refine gd_split ?_ ?_ <;> intro hb <;> (try simp only [bls] at hb) <;> (try simp only [hb]))
  | refine gRt [] [.cell 2 36] rfl ?_ | refine gDn [] [.cell 2 36] rfl ?_) <;> (try simp only [go_sem, simprocAttr, e5]))
  | (refine hK _ _ ?_; clear hK K; simp only [go_sem, simprocAttr])
  | refine gCd (by simp only [go_sem, simprocAttr]; rfl) rfl ?_
  | refine brT ?_ | refine brF ?_
  | (refine brS ?_ ?_ <;> intro hc <;> (try simp only [bls] at hc) <;> (try simp only [hc, bls]))
  | intro _ | refine And.intro ?_ ?_)
      all_goals first | omega | skip
      refine AGood.prune [0, 2, 3, 4] ?_; simp only [go_sem, simprocAttr]
      exact ih.cast rfl (by simp [ht])
  · have e4 : ¬ (b : Int) < 256 := by omega
    have e5 : b = 256 := by omega
    subst e5
    repeat' (first
  | refine gSq ?_ | refine gSk ?_ | refine gBl ?_ | refine gIb ?_ | refine gEx rfl ?_
  | ((first
  | (refine gRg [] [0, 2, 3, 4, 5, 8, 14, 23] ?_; intro K hK)
  | (refine gd_split ?_ ?_ <;> intro hb <;> (try simp only [bls] at hb) <;> (try simp only [hb]))
  | refine gRt [] [.cell 2 36] rfl ?_ | refine gDn [] [.cell 2 36] rfl ?_) <;> (try simp only [go_sem, simprocAttr, e4]))
  | (refine hK _ _ ?_; clear hK K; simp only [go_sem, simprocAttr])
  | refine gCd (by simp only [go_sem, simprocAttr]; rfl) rfl ?_
  | refine brT ?_ | refine brF ?_
  | (refine brS ?_ ?_ <;> intro hc <;> (try simp only [bls] at hc) <;> (try simp only [hc, bls]))
  | intro _ | refine And.intro ?_ ?_)
    simp only [orI, hs]
end Go.Rad
/- A list that is nil is an own row without elements, where that is wanted. -/
namespace Go.Rad
open Go

theorem rep_own {G : Gh} {w : World} {sto : Sto} {id esz : Nat} (hw : WOk G w) (hs : StoOk G w sto) (hz : 0 < esz) :
    ∃ G', Ext G G' ∧ WOk G' w ∧ StoOk G' w (sput sto id (G.N, .row esz [])) ∧ ∀ q v, Rep G true (.sl q true []) v → Rep G' true (.osl id G.N 0 0) v := by
  obtain ⟨a, b, c⟩ := sto_put (w' := w) (id := id) (o := .row esz []) (hd := ⟨none, 0, esz⟩) (Kept.refl w) hw hs (Nat.le_refl _) (fun _ _ _ => rfl) (fun b h => by cases h)
    ⟨none, 0, newG_M _ _ _, Nat.le_refl _, Nat.zero_le _, hz, fun i x h => by simp at h, fun i j x y h => by simp at h, fun _ => rfl, fun b h => by cases h⟩
  refine ⟨_, a, b, c, fun q v h => ?_⟩
  obtain ⟨ad, cap, rfl, _, _, hf⟩ := h.sl_len
  have := hf rfl
  simp only [List.length_nil] at this
  subst this
  exact .osl (newG_M _ _ _) (Nat.le_refl _) (Nat.zero_le _) (fun _ => rfl) (fun b h => by cases h) (fun b h => by cases h)

section
variable {P : Program} {f : Nat} {fn : Func} {df : List DDel} {k : List Item} {tm : Tm} {sto : Sto} {R : AVal → Sto → Prop}

theorem AGood.ownTm (t id esz : Nat) {q : Bool} (hz : 0 < esz) (ht : lk tm t = .sl q true []) (h : ∀ g, AGood P f fn df k ((t, .osl id g 0 0) :: tm) (sput sto id (g, .row esz [])) R) : AGood P f fn df k tm sto R := by
  refine ⟨fun E G a w b h1 h2 h3 h4 h5 h6 h7 h8 h9 => ?_⟩
  obtain ⟨G', hx, hw', hs', hr⟩ := rep_own (id := id) h7 h8 hz
  refine (h G.N).go E G' a w b h1 h2 h3 h4 (h5.mono hx.toMono) (h6.trans hx) hw' hs' fun t' => ?_
  simp only [lk]
  split
  · rename_i e; subst e
    refine hr q _ ?_
    rw [← ht]; exact h9 _
  · exact (h9 t').mono hx.toMono

theorem AGood.ownBox (bid off id esz : Nat) {gb : Nat} {cs : List AVal} {q : Bool} (hz : 0 < esz) (hb : sget sto bid = some (gb, .box cs)) (hc : cs[off]? = some (.sl q true [])) (hne : id ≠ bid)
    (h : ∀ g, AGood P f fn df k tm (sput (sput sto id (g, .row esz [])) bid (gb, .box (cs.set off (.osl id g 0 0)))) R) : AGood P f fn df k tm sto R := by
  refine ⟨fun E G a w b h1 h2 h3 h4 h5 h6 h7 h8 h9 => ?_⟩
  obtain ⟨G', hx, hw', hs', hr⟩ := rep_own (id := id) h7 h8 hz
  have hget : sget (sput sto id (G.N, .row esz [])) bid = some (gb, .box cs) := by rw [sget_sput, if_neg hne]; exact hb
  obtain ⟨bb, cap, e2, k1, k2, c, e, k3, k4, k5, k6⟩ := hs'.obj _ _ _ hget
  obtain ⟨bb', cap', e2', l1, l2, c', e', l3, l4, l5, l6⟩ := h8.obj _ _ _ hb
  have hbb : bb' = bb := by
    have := hx.M _ _ _ l1
    rw [k1] at this
    simp only [Option.some.injEq, Hd.mk.injEq] at this
    exact this.1.symm
  subst hbb
  rw [l3] at k3
  simp only [Option.some.injEq, Obj.cells.injEq] at k3
  obtain ⟨rfl, rfl, _⟩ := k3
  have ho : ObjOk G' w bid gb (.box (cs.set off (.osl id G.N 0 0))) := by
    refine ⟨bb', cap, e2, k1, k2, c', e', l3, by simpa using l4, fun j x hj => ?_, fun j x hj => ?_⟩
    · rw [List.getElem?_set] at hj
      split at hj
      · split at hj
        · simp only [Option.some.injEq] at hj; subst hj; rfl
        · cases hj
      · exact l5 j x hj
    · rw [List.getElem?_set] at hj
      split at hj
      · rename_i hoj
        split at hj
        · simp only [Option.some.injEq] at hj; subst hj
          subst hoj
          exact hr q _ (l6 _ _ hc)
        · cases hj
      · exact k6 j x hj
  obtain ⟨hw2, hs2⟩ := sto_write (Kept.refl w) hw' hs' hget (Nat.le_refl _) (fun _ _ _ => rfl) ho
  exact (h G.N).go E G' a w b h1 h2 h3 h4 (h5.mono hx.toMono) (h6.trans hx) hw2 hs2 (h9.mono hx.toMono)
end

theorem ACall.ownArg {P : Program} {f : Nat} {args : List AVal} {sto : Sto} {R : AVal → Sto → Prop} (i id esz : Nat) {q : Bool} (hz : 0 < esz) (hi : args[i]? = some (.sl q true [])) (h : ∀ g, ACall P f (args.set i (.osl id g 0 0)) (sput sto id (g, .row esz [])) R) : ACall P f args sto R := by
  refine ⟨(h 0).able, fun G w cargs hw hs ha => ?_⟩
  obtain ⟨G', hx, hw', hs', hr⟩ := rep_own (id := id) hw hs hz
  refine ((h G.N).calls G' w cargs hw' hs' ⟨by simpa using ha.1, fun j x hj => ?_⟩).mono fun e w' p => p.mono hx fun _ _ h => h
  rw [List.getElem?_set] at hj
  split at hj
  · rename_i e; subst e
    split at hj
    · simp only [Option.some.injEq] at hj; subst hj
      exact hr q _ (ha.2 _ _ hi)
    · cases hj
  · exact (ha.2 j x hj).mono hx.toMono
end Go.Rad
/- Bytes of texts. -/
namespace Go.Rad
open Go

def bt (s : ByteArray) (n : Nat) : Nat := ((s.data.toList[n]?).getD 0).toNat
theorem sbyte_bt (s : ByteArray) (n : Nat) : sbyte s n = (bt s n : Int) := rfl
theorem bt_le (s : ByteArray) (n : Nat) : bt s n ≤ 255 := by
  have := UInt8.toNat_lt ((s.data.toList[n]?).getD 0)
  unfold bt; omega

def letterN (c : Nat) : Bool := decide (97 ≤ c ∧ c ≤ 122 ∨ 65 ≤ c ∧ c ≤ 90 ∨ c = 95)
def digitN (c : Nat) : Bool := decide (48 ≤ c ∧ c ≤ 57)
def nmB (s : ByteArray) (i : Nat) : Bool := letterN (bt s i) || (decide (i ≠ 0) && digitN (bt s i))
/-- A name's text. -/
def nameOk (s : ByteArray) : Bool := (List.range s.size).all (nmB s) && decide (1 ≤ s.size) && decide (s.size ≤ 32)
theorem name_no {s : ByteArray} {i : Nat} (hle : i < s.size) (h : nmB s i = false) : false = nameOk s := by
  have : (List.range s.size).all (nmB s) = false := by
    rw [List.all_eq_false]
    exact ⟨i, List.mem_range.2 hle, by simp [h]⟩
  simp [nameOk, this]
theorem all_succ {p : Nat → Bool} {i : Nat} (h : (List.range i).all p = true) (hi : p i = true) : (List.range (i + 1)).all p = true := by
  rw [List.range_succ, List.all_append, h]; simp [hi]
end Go.Rad
/- Trees of nodes: what they are, by the document's walk and by a stack of roots, and that both are the same. -/
namespace Go.Rad
open Go

def shapeOk (n : Node) : Bool :=
  let set := decide (n.s ≠ ISet.none)
  let bounds := decide (n.lo ≠ 0 ∨ n.hi ≠ 0)
  let name := decide (n.name ≠ ByteArray.empty)
  if n.op = 1 then !set && !bounds && !name && decide (n.l.length = 0)
  else if n.op = 2 then set && !bounds && !name && decide (n.l.length = 0)
  else if n.op = 3 ∨ n.op = 4 then !set && !bounds && !name && decide (2 ≤ n.l.length)
  else if n.op = 5 then !set && !name && decide (n.l.length = 1) && decide (0 ≤ n.lo ∧ n.lo ≤ 4096) && decide (n.hi = -1 ∨ 1 ≤ n.hi ∧ n.hi ≤ 4096 ∧ n.lo ≤ n.hi)
  else if n.op = 6 then !set && !bounds && nameOk n.name && decide (n.l.length = 0)
  else false

def kidStep (w : Int → List Int → List Int × Bool) (at_ : Int) (r : List Int × Bool) (k : Int) : List Int × Bool := if r.2 then (if k < 0 ∨ at_ ≤ k then (r.1, false) else w k r.1) else r
/-- The nodes of a tree, as they are come to. -/
def walkS (ns : List Node) : Nat → Int → List Int → List Int × Bool
  | 0, _, seen => (seen, false)
  | fuel + 1, at_, seen =>
    if ns.length ≤ seen.length then (seen, false)
    else if ((ns.getD at_.toNat default).l.foldl (kidStep (walkS ns fuel) at_) (seen, true)).2 then (((ns.getD at_.toNat default).l.foldl (kidStep (walkS ns fuel) at_) (seen, true)).1 ++ [at_], true) else (ns.getD at_.toNat default).l.foldl (kidStep (walkS ns fuel) at_) (seen, true)
theorem kid_false (w : Int → List Int → List Int × Bool) (at_ : Int) : ∀ (l : List Int) (r : List Int × Bool), r.2 = false → l.foldl (kidStep w at_) r = r
  | [], _, _ => rfl
  | k :: l, r, h => by
    rw [List.foldl_cons, show kidStep w at_ r k = r by simp [kidStep, h]]
    exact kid_false w at_ l r h
theorem kid_at {w : Int → List Int → List Int × Bool} {at_ : Int} {l : List Int} {i : Nat} {k : Int} {r0 r : List Int × Bool} (hk : l[i]? = some k) (h : (l.take i).foldl (kidStep w at_) r0 = r) (hf : (kidStep w at_ r k).2 = false) : l.foldl (kidStep w at_) r0 = kidStep w at_ r k := by
  have hi : i < l.length := (List.getElem?_eq_some_iff.1 hk).1
  have e : l = l.take (i + 1) ++ l.drop (i + 1) := (List.take_append_drop _ _).symm
  rw [e, List.foldl_append, take_one hk, List.foldl_append, h, List.foldl_cons, List.foldl_nil, kid_false _ _ _ _ hf]

abbrev rg (n : Nat) : List Int := (List.range n).map fun (i : Nat) => (i : Int)
theorem rg_succ (n : Nat) : rg (n + 1) = rg n ++ [(n : Int)] := by simp [rg, List.range_succ]
theorem rg_len (n : Nat) : (rg n).length = n := by simp [rg]
theorem rg_get {n i : Nat} {k : Int} (h : (rg n)[i]? = some k) : k = i := by
  simp only [rg, List.getElem?_map, List.getElem?_range, Option.map_eq_some_iff] at h
  obtain ⟨a, h, rfl⟩ := h
  rw [List.getElem?_eq_some_iff] at h
  obtain ⟨h1, h2⟩ := h
  simp at h2; omega

/-- Whether nodes are a tree. -/
def right4 (ns : List Node) : Bool :=
  if ns.length < 1 ∨ 1024 < ns.length then false
  else if ns.all shapeOk then
    let r := walkS ns ns.length ((ns.length : Int) - 1) []
    r.2 && decide (r.1 = (List.range ns.length).map fun (i : Nat) => (i : Int))
  else false

/-- By a stack of roots. -/
def stkS : List Node → Nat → List Int → Option (List Int)
  | [], _, st => some st
  | n :: ns, i, st => if shapeOk n = true ∧ n.l.length ≤ st.length ∧ st.drop (st.length - n.l.length) = n.l then stkS ns (i + 1) (st.take (st.length - n.l.length) ++ [(i : Int)]) else none
def rightS (l : List Node) : Bool := decide (1 ≤ l.length ∧ l.length ≤ 1024) && (match stkS l 0 [] with | some st => decide (st.length = 1) | none => false)

/-- Trees one behind the other, from a place to a place: their roots. -/
inductive Kids (ns : List Node) : Nat → List Int → Nat → Prop
  | nil {lo : Nat} : Kids ns lo [] lo
  | cons {lo k hi : Nat} {n : Node} {l : List Int} : ns[k]? = some n → Kids ns lo n.l k → Kids ns (k + 1) l hi → Kids ns lo ((k : Int) :: l) hi

theorem Kids.le {ns : List Node} {lo hi : Nat} {l : List Int} (h : Kids ns lo l hi) : lo ≤ hi := by
  induction h with
  | nil => exact Nat.le_refl _
  | cons _ _ _ a b => omega
theorem Kids.lt {ns : List Node} {lo hi : Nat} {l : List Int} (h : Kids ns lo l hi) : ∀ k ∈ l, 0 ≤ k ∧ k < hi := by
  induction h with
  | nil => intro k hk; simp at hk
  | @cons lo k hi n l h1 h2 h3 a b =>
    intro k' hk
    have := h3.le
    rcases List.mem_cons.1 hk with rfl | hk
    · omega
    · exact b _ hk
theorem Kids.append {ns : List Node} {lo m hi : Nat} {a b : List Int} (h : Kids ns lo a m) (k : Kids ns m b hi) : Kids ns lo (a ++ b) hi := by
  induction h with
  | nil => exact k
  | cons h1 h2 _ _ ih => exact .cons h1 h2 (ih k)
theorem Kids.split {ns : List Node} {hi : Nat} {b : List Int} : ∀ {a : List Int} {lo : Nat}, Kids ns lo (a ++ b) hi → ∃ m, Kids ns lo a m ∧ Kids ns m b hi
  | [], lo, h => ⟨lo, .nil, h⟩
  | x :: a, lo, h => by
    cases h with
    | cons h1 h2 h3 =>
      obtain ⟨m, p, q⟩ := Kids.split h3
      exact ⟨m, .cons h1 h2 p, q⟩
theorem Kids.mono {ns ns' : List Node} (hm : ∀ (i : Nat) (n : Node), ns[i]? = some n → ns'[i]? = some n) {lo hi : Nat} {l : List Int} (h : Kids ns lo l hi) : Kids ns' lo l hi := by
  induction h with
  | nil => exact .nil
  | cons h1 _ _ a b => exact .cons (hm _ _ h1) a b
theorem Kids.one {ns : List Node} {lo hi : Nat} {k : Int} (h : Kids ns lo [k] hi) : k = (hi : Int) - 1 ∧ 0 < hi := by
  cases h with
  | cons h1 h2 h3 => cases h3; constructor <;> omega

theorem stk_kids (l : List Node) : ∀ (ns : List Node) (i : Nat) (st st' : List Int), l.drop i = ns → stkS ns i st = some st' → Kids l 0 st i → Kids l 0 st' (i + ns.length)
  | [], i, st, st', _, h, hk => by simp only [stkS, Option.some.injEq] at h; subst h; exact hk
  | n :: ns, i, st, st', hd, h, hk => by
    simp only [stkS] at h
    split at h
    · rename_i hc
      obtain ⟨_, hle, hdr⟩ := hc
      have hn : l[i]? = some n := by
        have : (l.drop i)[0]? = some n := by rw [hd]; rfl
        simpa using this
      have hd' : l.drop (i + 1) = ns := by rw [← List.tail_drop, hd]; rfl
      have e : st = st.take (st.length - n.l.length) ++ n.l := by
        conv => lhs; rw [← List.take_append_drop (st.length - n.l.length) st]
        rw [hdr]
      rw [e] at hk
      obtain ⟨m, k1, k2⟩ := hk.split
      have := stk_kids l ns (i + 1) _ st' hd' h (k1.append (.cons hn k2 .nil))
      simpa [Nat.add_assoc, Nat.add_comm 1] using this
    · cases h
theorem rightS_kids {l : List Node} (h : rightS l = true) : Kids l 0 [(l.length : Int) - 1] l.length ∧ l.all shapeOk = true ∧ 1 ≤ l.length ∧ l.length ≤ 1024 := by
  simp only [rightS, Bool.and_eq_true, decide_eq_true_eq] at h
  obtain ⟨⟨h1, h2⟩, h3⟩ := h
  split at h3
  · rename_i st hst
    have := stk_kids l l 0 [] st rfl hst .nil
    simp only [decide_eq_true_eq] at h3
    match st, h3, this with
    | [k], _, hk =>
      rw [Nat.zero_add] at hk
      rw [← hk.one.1]
      refine ⟨hk, ?_, h1, h2⟩
      rw [List.all_eq_true]
      have key : ∀ (ns : List Node) (i : Nat) (st st' : List Int), stkS ns i st = some st' → ∀ n ∈ ns, shapeOk n = true := by
        intro ns
        induction ns with
        | nil => intro _ _ _ _ n hn; simp at hn
        | cons n ns ih =>
          intro i st st' h m hm
          simp only [stkS] at h
          split at h
          · rename_i hc
            rcases List.mem_cons.1 hm with rfl | hm
            · exact hc.1
            · exact ih _ _ _ h m hm
          · cases h
      exact key _ _ _ _ hst
  · cases h3

theorem kids_stk {l : List Node} (hall : l.all shapeOk = true) {lo hi : Nat} {ks : List Int} (h : Kids l lo ks hi) : ∀ st : List Int, stkS (l.drop lo) lo st = stkS (l.drop hi) hi (st ++ ks) := by
  induction h with
  | nil => intro st; simp
  | @cons lo k hi n ks h1 h2 h3 ih1 ih2 =>
    intro st
    have hk : k < l.length := (List.getElem?_eq_some_iff.1 h1).1
    have e : l.drop k = n :: l.drop (k + 1) := by
      rw [List.drop_eq_getElem_cons hk]
      rw [List.getElem?_eq_getElem hk] at h1
      rw [Option.some.inj h1]
    have hs : shapeOk n = true := (List.all_eq_true.1 hall) _ (List.mem_of_getElem? h1)
    rw [ih1 st, e, stkS, if_pos ⟨hs, by simp, by simp⟩, ih2]
    congr 1
    simp
theorem kids_rightS {l : List Node} {k : Int} (h : Kids l 0 [k] l.length) (hall : l.all shapeOk = true) (h1 : l.length ≤ 1024) : rightS l = true := by
  have := kids_stk hall h []
  simp only [List.drop_zero, List.drop_length, List.nil_append, stkS] at this
  have h0 := h.one.2
  simp only [rightS, this, Bool.and_eq_true, decide_eq_true_eq]
  exact ⟨⟨h0, h1⟩, rfl⟩

theorem kids_walk {ns : List Node} {lo hi : Nat} {ks : List Int} (h : Kids ns lo ks hi) : ∀ (fuel at_ : Nat), hi ≤ fuel → hi ≤ at_ → ks.foldl (kidStep (walkS ns fuel) at_) (rg lo, true) = (rg hi, true) := by
  induction h with
  | nil => intro _ _ _ _; rfl
  | @cons lo k hi n ks h1 h2 h3 ih1 ih2 =>
    intro fuel at_ hf ha
    have hle := h3.le
    have hle2 := h2.le
    obtain ⟨f, rfl⟩ : ∃ f, fuel = f + 1 := ⟨fuel - 1, by omega⟩
    have hk : k < ns.length := (List.getElem?_eq_some_iff.1 h1).1
    have hw : walkS ns (f + 1) k (rg lo) = (rg (k + 1), true) := by
      have hgd : ns.getD (k : Int).toNat default = n := by simp [List.getD, h1]
      rw [walkS, if_neg (by rw [rg_len]; omega), hgd, ih1 f k (by omega) (Nat.le_refl _)]
      simp only [if_true, rg_succ]
    rw [List.foldl_cons, show kidStep (walkS ns (f + 1)) at_ (rg lo, true) k = walkS ns (f + 1) k (rg lo) from by simp [kidStep]; omega, hw]
    exact ih2 (f + 1) at_ hf ha
theorem kids_right4 {ns : List Node} {k : Int} (h : Kids ns 0 [k] ns.length) (hall : ns.all shapeOk = true) (h1 : ns.length ≤ 1024) : right4 ns = true := by
  have h0 := h.one
  have hw := kids_walk h ns.length ns.length (Nat.le_refl _) (Nat.le_refl _)
  have hk := h.lt k (by simp)
  rw [List.foldl_cons, List.foldl_nil, show kidStep (walkS ns ns.length) ns.length (rg 0, true) k = walkS ns ns.length k (rg 0) from by simp [kidStep]; omega] at hw
  rw [h0.1] at hw
  have hr0 : rg 0 = [] := rfl
  rw [hr0] at hw
  simp only [right4, if_neg (show ¬ (ns.length < 1 ∨ 1024 < ns.length) by omega), hall, if_true, hw, decide_true, Bool.and_self]

theorem rg_pre {N : Nat} {w : List Int} (h : w <+: rg N) : w = rg w.length := by
  obtain ⟨t, ht⟩ := h
  have hle : w.length ≤ N := by
    have := congrArg List.length ht
    simp at this; omega
  have : w = (rg N).take w.length := by rw [← ht]; simp
  rw [this]
  simp only [rg, ← List.map_take, List.take_range, List.length_map, List.length_range]
theorem walk_kids (ns : List Node) : ∀ (fuel : Nat),
    (∀ (at_ : Int) (lo : Nat) (w : List Int), walkS ns fuel at_ (rg lo) = (w, true) → rg lo <+: w ∧ (w <+: rg ns.length → 0 ≤ at_ → ∃ hi, w = rg hi ∧ Kids ns lo [at_] hi)) := by
  intro fuel
  induction fuel with
  | zero => intro at_ lo w h; simp [walkS] at h
  | succ fuel ih =>
    have fold : ∀ (at_ : Int) (ks : List Int) (lo : Nat) (w : List Int), ks.foldl (kidStep (walkS ns fuel) at_) (rg lo, true) = (w, true) → rg lo <+: w ∧ (w <+: rg ns.length → ∃ hi, w = rg hi ∧ Kids ns lo ks hi) := by
      intro at_ ks
      induction ks with
      | nil =>
        intro lo w h
        simp only [List.foldl_nil, Prod.mk.injEq, and_true] at h
        subst h
        exact ⟨List.prefix_rfl, fun _ => ⟨lo, rfl, .nil⟩⟩
      | cons k ks ihk =>
        intro lo w h
        rw [List.foldl_cons] at h
        have hp : kidStep (walkS ns fuel) at_ (rg lo, true) k = if k < 0 ∨ at_ ≤ k then (rg lo, false) else walkS ns fuel k (rg lo) := by simp [kidStep]
        rw [hp] at h
        split at h
        · rw [kid_false _ _ _ _ rfl] at h; cases h
        · rename_i hb
          rcases hw : walkS ns fuel k (rg lo) with ⟨u, b⟩
          rw [hw] at h
          cases b
          · rw [kid_false _ _ _ _ rfl] at h; cases h
          · obtain ⟨p1, p2⟩ := ih k lo u hw
            -- the prefix of the whole
            have hpre : ∀ (ks : List Int) (u w : List Int), ks.foldl (kidStep (walkS ns fuel) at_) (u, true) = (w, true) → u <+: w := by
              intro ks
              induction ks with
              | nil => intro u w h; simp only [List.foldl_nil, Prod.mk.injEq, and_true] at h; subst h; exact List.prefix_rfl
              | cons k ks ih2 =>
                intro u w h
                rw [List.foldl_cons] at h
                have hp : kidStep (walkS ns fuel) at_ (u, true) k = if k < 0 ∨ at_ ≤ k then (u, false) else walkS ns fuel k u := by simp [kidStep]
                rw [hp] at h
                split at h
                · rw [kid_false _ _ _ _ rfl] at h; cases h
                · rcases hw2 : walkS ns fuel k u with ⟨u2, b2⟩
                  rw [hw2] at h
                  cases b2
                  · rw [kid_false _ _ _ _ rfl] at h; cases h
                  · exact (walk_pre ns fuel k u u2 hw2).trans (ih2 _ _ h)
            have h3 := hpre ks u w h
            refine ⟨p1.trans h3, fun hN => ?_⟩
            obtain ⟨hi, rfl, hk⟩ := p2 (h3.trans hN) (by omega)
            obtain ⟨_, q2⟩ := ihk hi w h
            obtain ⟨hi2, rfl, hk2⟩ := q2 hN
            exact ⟨hi2, rfl, hk.append hk2⟩
    intro at_ lo w h
    rw [walkS] at h
    split at h
    · cases h
    · rename_i hlen
      rw [rg_len] at hlen
      rcases hf : (ns.getD at_.toNat default).l.foldl (kidStep (walkS ns fuel) at_) (rg lo, true) with ⟨u, b⟩
      rw [hf] at h
      cases b
      · simp at h
      · simp only [if_true, Prod.mk.injEq, and_true] at h
        subst h
        obtain ⟨p1, p2⟩ := fold at_ _ lo u hf
        refine ⟨p1.trans (List.prefix_append _ _), fun hN h0 => ?_⟩
        obtain ⟨hi, rfl, hk⟩ := p2 ((List.prefix_append _ _).trans hN)
        have e := rg_pre hN
        simp only [List.length_append, rg_len, List.length_cons, List.length_nil, Nat.zero_add, rg_succ, List.append_cancel_left_eq, List.cons.injEq, and_true] at e
        subst e
        have hlt : hi < ns.length := by
          have := hN.length_le
          simp only [List.length_append, rg_len, List.length_cons, List.length_nil] at this
          omega
        refine ⟨hi + 1, by rw [rg_succ], .cons (List.getElem?_eq_getElem hlt) ?_ .nil⟩
        have hgd : ns.getD (hi : Int).toNat default = ns[hi] := by simp [List.getD, List.getElem?_eq_getElem hlt]
        rw [hgd] at hk
        exact hk
where
  walk_pre (ns : List Node) : ∀ (fuel : Nat) (k : Int) (u w : List Int), walkS ns fuel k u = (w, true) → u <+: w := by
    intro fuel
    induction fuel with
    | zero => intro k u w h; simp [walkS] at h
    | succ fuel ih =>
      intro at_ u w h
      have hpre : ∀ (ks : List Int) (u w : List Int), ks.foldl (kidStep (walkS ns fuel) at_) (u, true) = (w, true) → u <+: w := by
        intro ks
        induction ks with
        | nil => intro u w h; simp only [List.foldl_nil, Prod.mk.injEq, and_true] at h; subst h; exact List.prefix_rfl
        | cons k ks ih2 =>
          intro u w h
          rw [List.foldl_cons] at h
          have hp : kidStep (walkS ns fuel) at_ (u, true) k = if k < 0 ∨ at_ ≤ k then (u, false) else walkS ns fuel k u := by simp [kidStep]
          rw [hp] at h
          split at h
          · rw [kid_false _ _ _ _ rfl] at h; cases h
          · rcases hw2 : walkS ns fuel k u with ⟨u2, b2⟩
            rw [hw2] at h
            cases b2
            · rw [kid_false _ _ _ _ rfl] at h; cases h
            · exact (ih k u u2 hw2).trans (ih2 _ _ h)
      rw [walkS] at h
      split at h
      · cases h
      · rcases hf : (ns.getD at_.toNat default).l.foldl (kidStep (walkS ns fuel) at_) (u, true) with ⟨v, b⟩
        rw [hf] at h
        cases b
        · simp at h
        · simp only [if_true, Prod.mk.injEq, and_true] at h
          subst h
          exact (hpre _ _ _ hf).trans (List.prefix_append _ _)
theorem right4ukids {ns : List Node} (h : right4 ns = true) : Kids ns 0 [(ns.length : Int) - 1] ns.length ∧ ns.all shapeOk = true ∧ 1 ≤ ns.length ∧ ns.length ≤ 1024 := by
  simp only [right4] at h
  split at h
  · cases h
  · rename_i hl
    split at h
    · rename_i hall
      simp only [Bool.and_eq_true, decide_eq_true_eq] at h
      obtain ⟨h1, h2⟩ := h
      have hw : walkS ns ns.length ((ns.length : Int) - 1) (rg 0) = (rg ns.length, true) := Prod.ext h2 h1
      obtain ⟨_, q⟩ := walk_kids ns ns.length _ 0 _ hw
      obtain ⟨hi, e, hk⟩ := q List.prefix_rfl (by omega)
      have : hi = ns.length := by rw [← rg_len hi, ← e, rg_len]
      subst this
      exact ⟨hk, hall, by omega, by omega⟩
    · cases h
theorem right_eq (ns : List Node) : rightS ns = right4 ns := by
  rw [Bool.eq_iff_iff]
  constructor
  · intro h; obtain ⟨a, b, c, d⟩ := rightS_kids h; exact kids_right4 a b d
  · intro h; obtain ⟨a, b, c, d⟩ := right4ukids h; exact kids_rightS a b d
end Go.Rad
/- Contracts used with own things lent. -/
namespace Go.Rad
open Go
/-- A contract over nothing, beside other things, of which some are lent. -/
theorem ACall.lent {P : Program} {f : Nat} {args args1 : List AVal} {sto : Sto} {v : AVal} (ln : List Nat) (h : ACall P f args1 [] fun r s => r = v ∧ s = []) (ha : args.map (tr [] ln sto) = args1) (hv : bk [] v = v) (hcl : clean v = true) (hc : stoCells sto = true) :
    ACall P f args sto fun r s => r = v ∧ s = sto := by
  refine ACall.use [] ln rfl h ha rfl rfl fun r s hr => ?_
  obtain ⟨rfl, rfl⟩ := hr
  exact ⟨.inr ⟨hcl, rfl⟩, hc, hv, rfl⟩
/-- An own row is cut off: what lies behind is forgotten. -/
theorem AGood.shrink {P : Program} {f : Nat} {fn : Func} {df : List DDel} {k : List Item} {tm : Tm} {sto : Sto} {R : AVal → Sto → Prop} (id n : Nat) {g esz : Nat} {l : List (List AVal)} (hg : sget sto id = some (g, .row esz l)) (h : AGood P f fn df k tm (sput sto id (g, .row esz (l.take n))) R) : AGood P f fn df k tm sto R := by
  refine ⟨fun E G a w b h1 h2 h3 h4 h5 h6 h7 h8 h9 => h.go E G a w b h1 h2 h3 h4 h5 h6 h7 ?_ h9⟩
  refine ⟨fun i g' o hi => ?_, fun i i' g1 g2 o o' hi hi' hne b hb => ?_⟩
  · rw [sget_sput] at hi
    split at hi
    · rename_i e; subst e
      simp only [Option.some.injEq, Prod.mk.injEq] at hi
      obtain ⟨rfl, rfl⟩ := hi
      obtain ⟨ob, cap, k1, k2, k3, k4, k5, k6, k7, k8⟩ := h8.obj _ _ _ hg
      have ht : ∀ (i : Nat) (x : List AVal), (l.take n)[i]? = some x → l[i]? = some x := by
        intro i x hx
        rw [List.getElem?_take] at hx
        split at hx
        · exact hx
        · cases hx
      refine ⟨ob, cap, k1, ?_, ?_, k4, fun i x hx => k5 i x (ht i x hx), fun i j x y hx hy => k6 i j x y (ht i x hx) hy, k7, fun b hb => ?_⟩
      · rw [List.length_take]; omega
      · rw [List.length_take]; omega
      · obtain ⟨q1, q2, c, e, q3, q4, q5⟩ := k8 b hb
        exact ⟨q1, q2, c, e, q3, q4, fun i j x y hx hy => q5 i j x y (ht i x hx) hy⟩
    · exact h8.obj _ _ _ hi
  · have key : ∀ i h o, sget (sput sto id (g, .row esz (l.take n))) i = some (h, o) → ∃ o', sget sto i = some (h, o') := by
      intro i h o hh
      rw [sget_sput] at hh
      split at hh
      · rename_i e; subst e
        simp only [Option.some.injEq, Prod.mk.injEq] at hh
        exact ⟨_, by rw [hg, ← hh.1]⟩
      · exact ⟨_, hh⟩
    obtain ⟨p, hp⟩ := key _ _ _ hi
    obtain ⟨p', hp'⟩ := key _ _ _ hi'
    exact h8.apart _ _ _ _ _ _ hp hp' hne b hb
theorem AGood.at {P : Program} {f : Nat} {fn : Func} {df : List DDel} {k : List Item} {tm : Tm} {sto : Sto} {R : AVal → Sto → Prop} {ops : Array Oper} {b : Bool} (id : Nat) (h : AGood P f fn df (.code (.region id ops b) :: k) tm sto R) : AGood P f fn df (.code (.region id ops b) :: k) tm sto R := h
theorem tr_lent {σ : Ids} {ln : List Nat} {sto : Sto} {id g off len esz : Nat} {l : List (List AVal)} (hi : idTo σ id = none) (hln : ln.contains id = true) (hg : sget sto id = some (g, .row esz l)) (h : off + len ≤ l.length) : tr σ ln sto (.osl id g off len) = .sl false false ((l.drop off).take len) := by
  simp only [tr, tr1, hi, hln, hg, if_true, h, and_self]
theorem ints_part (l : List Int) (off len : Nat) : ((ints l).drop off).take len = ints ((l.drop off).take len) := by
  simp [ints]
theorem nodes_part (l : List Node) (off len : Nat) : ((nodes l).drop off).take len = nodes ((l.drop off).take len) := by
  simp [nodes]
end Go.Rad
/- A box that is written no more is a frozen thing. -/
namespace Go.Rad
open Go
theorem AGood.boxRef {P : Program} {f : Nat} {fn : Func} {k : List Item} {tm : Tm} {sto : Sto} {R : AVal → Sto → Prop} (t id : Nat) {g : Nat} {cs : List AVal} (ht : lk tm t = .bx id g 0) (hg : sget sto id = some (g, .box cs)) (hz : cs.all AVal.isFz = true)
    (h : AGood P f fn [] k ((t, .ref true cs) :: tm) (sdel sto id) R) : AGood P f fn [] k tm sto R := by
  refine ⟨fun E G a w b h1 h2 h3 h4 h5 h6 h7 h8 h9 => ?_⟩
  obtain ⟨bb, cap, esz, k1, k2, c, e, k3, k4, k5, k6⟩ := h8.obj _ _ _ hg
  have hbid : blkOf G id g = some bb := by simp [blkOf, k1]
  have hext := frzG_ext (w := w) k2
  have hd : a.defers = [] := by
    cases hd : a.defers with
    | nil => rfl
    | cons => rw [hd] at h5; simp [DfOk] at h5
  refine h.go E (frzG G w bb) a w b h1 h2 h3 h4 (by rw [hd]; trivial) (h6.trans hext) ⟨h7.K, fun b' o h => ?_, h7.M, h7.N, fun g l h => (h7.T g l h).mono hext.toMono⟩ ⟨fun i g' o h => ?_, fun i i' g1 g2 o o' h h' hne b' hb => ?_⟩ fun t' => ?_
  · simp only [frzG] at h
    split at h
    · rename_i e; subst e; exact h
    · exact h7.F b' o h
  · rw [sget_sdel] at h
    split at h
    · cases h
    · rename_i hne
      have ho := h8.obj i g' o h
      refine ho.mono hext.toMono (fun b' hb' => ?_) (fun _ _ => rfl)
      have hb1 : blkOf G i g' = some b' := hb'
      have : b' ≠ bb := by
        rintro rfl
        exact h8.apart id i g g' _ o hg h hne b' hbid hb1
      simp only [frzG, if_neg this]
      exact (ho.blk h7 b' hb1).1
  · rw [sget_sdel] at h h'
    split at h
    · cases h
    · split at h'
      · cases h'
      · exact h8.apart i i' g1 g2 o o' h h' hne b' hb
  · simp only [lk]
    split
    · rename_i e2; subst e2
      have hr := h9 t
      rw [ht] at hr
      generalize a.tmps.getD t undef = v at hr
      cases hr with
      | @bx _ _ _ b2 cap2 esz2 hM =>
        rw [k1] at hM
        simp only [Option.some.injEq, Hd.mk.injEq] at hM
        obtain ⟨rfl, _, _⟩ := hM
        refine .ref (c := c) (e := e) (fr := (0, 0)) (.inl (.inl rfl)) (by simp [frzG, k3]) (by omega) k5 fun j x hx => ?_
        have := (k6 j x hx).down (List.all_eq_true.1 hz x (List.mem_of_getElem? hx))
        rw [Nat.zero_add]
        exact this.mono hext.toMono
    · exact (h9 t').mono hext.toMono
theorem map_one {α β : Type} {f : α → β} {a : α} {a' : β} (h : f a = a') : [a].map f = [a'] := by rw [List.map_cons, List.map_nil, h]
theorem map_two {α β : Type} {f : α → β} {a b : α} {a' b' : β} (h : f a = a') (k : f b = b') : [a, b].map f = [a', b'] := by rw [List.map_cons, List.map_cons, List.map_nil, h, k]
theorem map_three {α β : Type} {f : α → β} {a b c : α} {a' b' c' : β} (h : f a = a') (k : f b = b') (l : f c = c') : [a, b, c].map f = [a', b', c'] := by rw [List.map_cons, List.map_cons, List.map_cons, List.map_nil, h, k, l]
theorem sl_ints {q f : Bool} {l l' : List Int} (h : l = l') : AVal.sl q f (ints l) = .sl q f (ints l') := by rw [h]
end Go.Rad
