/- A part of the proof. -/
import Derived.Test.YtmbhpolhiblhoaaGreatDoorKRDraw
import Derived.Test.YtmbhpolhiblhoaaGreatDoorKRGlob
set_option linter.all false
namespace Go.Rad
open Go
variable {P : Program} {L : Lay}
theorem dI (hL : LOk P L) {q : Bool} {z : List Nat} {E : Gh} {nt : Nat} {ds : List Deferred} (ops : List Oper) {K : Tm → Sto → Prop} {Q : Exit → Act → World → Prop} (rest : List Oper)
  (hQ : ∀ G tm sto a w, K tm sto → Sim E nt ds tm sto a w G → wpList P ops.toArray Q rest a w) :
  ∀ (os : List Oper) (tm : Tm) (sto : Sto) (a : Act) (w : World) (G : Gh), aT L nt os = true → Sim E nt ds tm sto a w G → vc L P q z (ops.map (·.dst)) os tm sto K → wpList P ops.toArray Q (os ++ rest) a w
 | [], tm, sto, a, w, G, _, hsim, h => hQ G tm sto a w h hsim
 | o :: os, tm, sto, a, w, G, hok, hsim, h => by
  have hok1 : aT L nt [o] = true := by simp only [aT, List.all_cons, Bool.and_eq_true] at hok ⊢; exact ⟨hok.1, rfl⟩
  have hok2 : aT L nt os = true := by simp only [aT, List.all_cons, Bool.and_eq_true] at hok ⊢; exact hok.2
  have hdst : (match o.dst with | some d => decide (d < nt) | none => true) = true := by
   simp only [aT, List.all_cons, List.all_nil, Bool.and_true, Bool.and_eq_true] at hok1
   exact hok1.1.2
  unfold vc at h
  rw [List.cons_append]
  unfold wpList
  split at h
  ·rename_i hg
   rw [if_pos (by simp [Region.wanted, hg])]
   exact .inl (b7 hL hsim hok1 h fun G' w' r v sto' hT hs => dI hL ops rest hQ os _ _ _ _ _ hok2 hs hT)
  ·rename_i j want hg
   split at h
   ·rename_i t hj
    split at h
    ·rename_i b hb
     have hy := cW hsim.tok hj hb
     have hsub : ∀ c, b = c → Sim E nt ds ((t, .bool c) :: tm) sto a w G := by
      rintro c rfl
      refine ⟨hsim.ext, hsim.wok, hsim.sok, fun t' => ?_, hsim.n, hsim.d⟩
      simp only [lk]
      split
      ·rename_i e; subst e; rw [← hb]; exact hsim.tok _
      ·exact hsim.tok t'
     by_cases hbw : b = want
     ·rw [if_pos (by simp [Region.wanted, hg, hy, hbw])]
      exact .inl (b7 hL (hsub want hbw) hok1 (h.1 hbw) fun G' w' r v sto' hT hs => dI hL ops rest hQ os _ _ _ _ _ hok2 hs hT)
     ·rw [if_neg (by simp [Region.wanted, hg, hy, hbw])]
      have hbn : b = !want := by cases b <;> cases want <;> simp_all
      exact dI hL ops rest hQ os _ _ _ _ G hok2 ((hsub _ hbn).put (.refl G) hsim.wok hsim.sok hdst (.tup rfl fun j x hx => by simp at hx)) (h.2 hbn)
    ·rename_i hb
     have hy := cX hsim.tok hj hb
     rw [if_neg (by simp [Region.wanted, hg, hy])]
     exact dI hL ops rest hQ os _ _ _ _ G hok2 (hsim.put (.refl G) hsim.wok hsim.sok hdst (.tup rfl fun j x hx => by simp at hx)) h
    ·exact h.elim
   ·exact h.elim
theorem ae.Au {f : Nat} {fn : Func} {df : List dt} {k : List Item} {tm : Tm} {sto : Sto} {R : aa → Sto → Prop} (hL : LOk P L) (z : List Nat) {id : Nat} {ops : List Oper} (ps : List Nat) (pre : List Oper) (x y : Operand) (t t2 : TypeId) (ty : TypeId) (pos : String) (af : Array Edge)
  (hops : ops = pre ++ [⟨none, .defer ⟨.builtin .delete, #[x, y], #[t, t2]⟩, ty, pos, af, none⟩]) (hx : bg x = true) (hy : bg y = true) (hok : aT L fn.ntmps pre = true)
  (h : vc L P false z (ops.map (·.dst)) pre tm sto fun tm' sto' => ae P f fn (⟨t, t2, ev tm' x, ev tm' y⟩ :: df) k (Rad.prune ps tm') sto' R) : ae P f fn df (.code (.region id ops.toArray false) :: k) tm sto R := by
 refine ⟨?_⟩
 intro E G a w b h1 h2 h3 h4 h5 h6 h7 h8 h9
 refine Good.of_wp (Q := fun e a' w' => e = .normal ∧ Good P f (fA E R) b k a' w') (wp_region_lit ?_) fun e a' w' hq => hq
 rw [show wpList P ops.toArray (fun e a' w' => e = .normal ∧ Good P f (fA E R) b k a' w') ops a w = wpList P ops.toArray (fun e a' w' => e = .normal ∧ Good P f (fA E R) b k a' w') (pre ++ [⟨none, .defer ⟨.builtin .delete, #[x, y], #[t, t2]⟩, ty, pos, af, none⟩]) a w from by rw [← hops]]
 refine dI hL (E := G) (nt := fn.ntmps) (ds := a.defers) ops (K := fun tm' sto' => ae P f fn (⟨t, t2, ev tm' x, ev tm' y⟩ :: df) k (Rad.prune ps tm') sto' R) _ (fun G' tm' sto' a' w' hk hs => ?_) pre tm sto a w G hok ⟨.refl G, h7, h8, h9, h4, rfl⟩ h
 unfold wpList
 rw [if_pos (by simp [Region.wanted])]
 refine .inl ?_
 have hrun : (execOp a'.eval ⟨none, .defer ⟨.builtin .delete, #[x, y], #[t, t2]⟩, ty, pos, af, none⟩).run P w' = .ok (.defer { target := .builtin .delete #[t, t2] ty (#[x, y].map fun | .const _ => true | _ => false), args := #[a'.eval x, a'.eval y] }) w' := by
  have hm : (#[x, y] : Array Operand).map a'.eval = #[a'.eval x, a'.eval y] := by simp
  simp only [execOp, resolve, Sem.run_bind, Sem.run_pure, Result.andThen_ok, hm]; rfl
 unfold Oper.wp
 rw [hrun, Oper.upon_defer]
 unfold wpList
 refine ⟨rfl, ?_⟩
 exact hk.go E G' { a' with defers := _ :: a'.defers } w' b h1 h2 h3 hs.n ⟨⟨_, _, _, _, rfl, aI hs.wok hs.tok hx, aI hs.wok hs.tok hy⟩, hs.d ▸ h5.mono hs.ext.toMono⟩ (h6.trans hs.ext) hs.wok hs.sok (hs.tok.prune ps)
theorem ae.xW {f : Nat} {fn : Func} {df : List dt} {k : List Item} {tm : Tm} {sto : Sto} {R : aa → Sto → Prop} (hL : LOk P L) (z : List Nat) (n : Nat) {id : Nat} {ops : List Oper} (ps : List Nat) {x y : Operand} {t t2 : TypeId} {ty : TypeId} {pos : String} {af : Array Edge}
  (hops : ops = ops.take n ++ [⟨none, .defer ⟨.builtin .delete, #[x, y], #[t, t2]⟩, ty, pos, af, none⟩]) (hx : bg x = true) (hy : bg y = true) (hok : aT L fn.ntmps (ops.take n) = true)
  (h : ∀ K : Tm → Sto → Prop, (∀ tm' sto', ae P f fn (⟨t, t2, ev tm' x, ev tm' y⟩ :: df) k (Rad.prune ps tm') sto' R → K tm' sto') → vc L P false z (ops.map (·.dst)) (ops.take n) tm sto K) : ae P f fn df (.code (.region id ops.toArray false) :: k) tm sto R :=
 ae.Au hL z ps (ops.take n) x y t t2 ty pos af hops hx hy hok (h _ fun _ _ h => h)
theorem ae.retD {f : Nat} {fn : Func} {df : List dt} {k : List Item} {tm : Tm} {sto : Sto} {R : aa → Sto → Prop} (hL : LOk P L) (keep : List Nat) (rs : List ResultVar) (hr : fn.results.toList = rs) (hty : (df.all fun d => decide ((L d.t).ty ≠ .other)) = true) (h : ky L df sto fun sto' => cG L rs tm sto' fun vs => R (gV vs) (cy keep sto')) : ae P f fn df (.code .ret :: k) tm sto R := by
 have h' : ae P f fn df (.code .ret :: k) tm sto (fun r s => R r (cy keep s)) := ae.ret hL (fun d hd => by simpa using List.all_eq_true.1 hty d hd) (by rw [hr]; exact h)
 refine ⟨fun E G a w b h1 h2 h3 h4 h5 h6 h7 h8 h9 cs => ?_⟩
 obtain ⟨e, w', fr, ⟨G', cr, r, sto', x1, x2, x3, x4, x5, x6⟩, h11, h12, h13⟩ := h'.go E G a w b h1 h2 h3 h4 h5 h6 h7 h8 h9 cs
 exact ⟨e, w', fr, ⟨G', cr, r, _, x1, x2, x3, fg keep x4, x5, x6⟩, h11, h12, h13⟩
structure yQ (P : Program) (f : Nat) (fn : Func) (df : List dt) (ops : List Oper) (i : Nat) (k : List Item) (tm : Tm) (sto : Sto) (R : aa → Sto → Prop) : Prop where
 go : ∀ (E G : Gh) (a : Act) (w : World) (b : Frame), b.fn = f → b.kind = .normal → P.funcs[f]? = some fn → a.tmps.size = fn.ntmps → kO G df a.defers → Ext E G → WOk G w → an G w sto → fi G tm a.tmps →
  wpList P ops.toArray (fun e a' w' => e = .normal ∧ Good P f (fA E R) b k a' w') (ops.drop i) a w
section
variable {f : Nat} {fn : Func} {df : List dt} {k : List Item} {tm : Tm} {sto : Sto} {R : aa → Sto → Prop}
theorem ae.parts {id : Nat} {ops : List Oper} (h : yQ P f fn df ops 0 k tm sto R) : ae P f fn df (.code (.region id ops.toArray false) :: k) tm sto R := by
 refine ⟨?_⟩
 intro E G a w b h1 h2 h3 h4 h5 h6 h7 h8 h9
 exact Good.of_wp (Q := fun e a' w' => e = .normal ∧ Good P f (fA E R) b k a' w') (wp_region_lit (h.go E G a w b h1 h2 h3 h4 h5 h6 h7 h8 h9)) fun e a' w' hq => hq
theorem yQ.fin {ops : List Oper} {i : Nat} (ps : List Nat) (hi : ops.length ≤ i) (h : ae P f fn df k (Rad.prune ps tm) sto R) : yQ P f fn df ops i k tm sto R := by
 refine ⟨?_⟩
 intro E G a w b h1 h2 h3 h4 h5 h6 h7 h8 h9
 rw [List.drop_of_length_le hi]
 unfold wpList
 exact ⟨rfl, h.go E G a w b h1 h2 h3 h4 h5 h6 h7 h8 (h9.prune ps)⟩
end
end Go.Rad
namespace Go.Rad
open Go Go.Proofs
theorem bls : ((∀ b : Bool, ((!b) = true) = (b = false)) ∧ (∀ b : Bool, ((!b) = false) = (b = true)) ∧ (∀ (p : Prop) [Decidable p], (decide p = true) = p) ∧ (∀ (p : Prop) [Decidable p], (decide p = false) = ¬p)) ∧ ((!true) = false ∧ (!false) = true ∧ (∀ b : Bool, (¬b = true) = (b = false)) ∧ (∀ b : Bool, (¬b = false) = (b = true))) ∧ decide True = true ∧ decide False = false ∧ ((true = false) = False) ∧ ((false = true) = False) ∧ ∀ b : Bool, (b = b) = True := by
 refine ⟨⟨by intro b; cases b <;> simp, by intro b; cases b <;> simp, by intro p _; simp, by intro p _; simp⟩, ⟨rfl, rfl, by intro b; cases b <;> simp, by intro b; cases b <;> simp⟩, by simp, by simp, by simp, by simp, by simp⟩
theorem zsd {P : Prop} (h : P := by first | omega | (unfold ao; omega) | exact ⟨_, _, ⟨rfl, rfl⟩, rfl⟩ | exact ⟨_, rfl⟩ | (rename_i hy; simp only [List.mem_singleton] at hy; subst hy; rfl) | with_reducible rfl) : P := h
@[go_sem] def ro6 : List Nat := [0, 1, 2, 3, 4, 5]
@[go_sem] def ro7 : List Nat := [0, 1, 2, 3, 4, 5, 6]
@[go_sem] def ro8 : List Nat := [0, 1, 2, 3, 4, 5, 6, 7]
@[go_sem] def ro9 : List Nat := [0, 1, 2, 3, 4, 5, 6, 7, 8]
@[go_sem] def uZ : List Nat := [0, 1, 2, 3, 4, 5, 6, 7, 8, 9]
@[go_sem] def ea : List Nat := [0, 1, 2, 3, 4, 5, 6, 7, 8, 9, 10]
@[go_sem] def AE : List Nat := [0, 1, 2, 3, 4, 5, 6, 7, 8, 9, 10, 11]
@[go_sem] def ro13 : List Nat := [0, 1, 2, 3, 4, 5, 6, 7, 8, 9, 10, 11, 12]
@[go_sem] def eb : List Nat := [0, 1, 2, 3, 4, 5, 6, 7, 8, 9, 10, 11, 12, 13]
@[go_sem] def Jw : List Nat := [0, 1, 2, 3, 4, 5, 6, 7, 8, 9, 10, 11, 12, 13, 14, 15, 16, 17, 18]
@[go_sem] def AF : List Nat := [0, 1, 2, 3, 4, 5, 6, 7, 8, 9, 10, 11, 12, 13, 14, 15, 16, 17, 18, 19]
@[go_sem] def th : List Nat := [0, 1, 2, 3, 4, 5, 6, 7, 8, 9, 10, 11, 12, 13, 14, 15, 16, 17, 18, 19, 20]
@[go_sem] def rj : List Nat := [0, 1, 2, 3, 4, 5, 6, 7, 8, 9, 10, 11, 12, 13, 14, 15, 16, 17, 18, 19, 20, 21, 22, 23, 24, 25, 26, 27, 28]
theorem xU (tm : Tm) : prune [] tm = [] := Eq.trans rfl rfl
theorem uW (p : Nat) (ps : List Nat) (tm : Tm) : prune (p :: ps) tm = (p, lk tm p) :: prune ps tm := Eq.trans rfl rfl
attribute [go_sem] JW DW yx DX Ba JV Bb pg DV Bj tU vk vi tS vj vh Bc Bg DY vm tT vo rL Bi rJ Bd rK Bf yz rM vn vl DU Be LM LI LK LJ Cq pk_t pk_f L9 I3 I4 Ma Lt Lu L1 IJ CL II H3 Cn Cl H4 Cm Co L0 LZ IF As Ar HW zp B8 Jl Dj Jo Jn Mi Jm Mh Jk Dg Ai Di Dh Jj IP CR AM yc AN AS AR DG DF yu yv vg Az Ay xY AI AH yb L3 IL IM CN CO IZ C5 Mz JK Mx JC Me I8 Dd Jb Ja I9 Ah xK Md Jc Mg Jd De Jg Jf Je Mf DH DI LD H0 Ca Cb Ce LF Cd LY CI CJ CH CG zH zI LU CE CD HX L4 CV IS CU CS HH wY HI HJ LA HV BZ B0 B3 Lp Hh BJ BK BI mk_eq IY Ls HK yZ HZ LC HY LB zq Hp Hq Hn Ho B6 zn zm rA xy ya u1 B5 B7 zl Iv CA Iu Hj Lq Hk Hl Hm Hi JT JS JU Mw DE JB DD Cy Cz DB DC Ly BU BV HU yh u7 L5 CZ IV C1 C0 L8 C6 I1 ME JX HM HQ w5 zc Ix IB xw zG H6 LG H7 BS BR HL My Hs HF Hz HB HC Ht Lr HG wW Hu HA Hy Hx Hw Hv Ig Is Io Iq Ir Ih LP It xr Ii Ip Im Il Ik Ij HD HE Jz JA JD JE JJ JI JG JH JF BT CF Cp HN Iy H5 HT IE H9 Lx LX LH HS ID H8 HR IC Lv LV HO Iz HP IA Lw LW zT IU Ae I0 CT IT CW List.length_map List.map_cons List.map_nil List.append_nil List.nil_append List.cons_append List.length_cons List.length_nil List.getElem?_cons_zero List.getElem?_cons_succ List.getElem?_nil Option.map_some Option.map_none Option.some.injEq List.take_succ_cons List.take_zero List.drop_succ_cons List.drop_zero List.headD_cons List.all_cons List.all_nil List.replicate List.flatten_cons List.flatten_nil List.toList_toArray Array.toList_empty Nat.zero_add Nat.add_zero Nat.succ_eq_add_one Nat.le_refl List.contains_nil List.contains_cons Bool.or_false Bool.or_true Bool.false_or Bool.true_or Option.getD_some Option.getD_none ne_eq not_false_eq_true not_true_eq_false and_true true_and false_and and_self Bool.and_true Bool.true_and Bool.not_false Bool.not_true Bool.false_eq_true Bool.and_self if_true if_false ite_true ite_false exists_eq_left exists_eq_left' exists_and_left exists_eq forall_eq forall_eq' forall_const imp_self implies_true Option.isSome_none Option.isSome_some Option.isNone_none Prod.mk.injEq Ty.slice.injEq Ty.map.injEq Ty.array.injEq false_implies true_implies decide_true decide_false Int.toNat_natCast Int.toNat_zero Int.natCast_nonneg Int.cast_ofNat_Int Int.natCast_zero Int.natCast_one Nat.not_lt_zero Nat.zero_le Nat.zero_lt_succ Nat.zero_mul xU uW IQ List.filterMap_cons_some List.filterMap_nil gh ei ax aq LL_1 LL_2 LL_3 LL_4 LL_5 LL_6 LL_7 LL_8 LL_9 J4 J5 J6 J7 J8 J9 Ka Kb Kc Kd Ke Kf Kg Kh Ki Kj Kk Kl Km Kn Ko Kp Kq Kr Ks Kt Ku Kv Kw Kx Ky Kz KA KB KC KD KE KF KG KH KI KJ KK KL KM KN KO KP KQ KR KS KT KU KV KW KX KY KZ K0 K1 K2 K3 K4 K5 K6 K7 K8 K9 Lc Ld Le Lf Lg Lh Li Lj Lk Ll Lm Ln Lo Ez EA EB EC ED EE EF EG EH EI EJ EK EL EM EN EO EP ER ES ET EU EV EW EX EY EZ E0 E1 E2 E3 E4 E5 E6 E7 E8 E9 Fa Fb Fc Fe Ff Fg Fh Fi Fj Fk Fm Fp Fq Fs Ft Fu Fv Fw Fx Fy Fz FA FB FC FD FE FF FG FH FI FJ FK FL FM FN FO FP FQ FR FT FU FV FW FX FY F0 F2 F3 F4 F5 F6 F7 F8 F9 Ga Gb Gc Gd Ge Gf Gg Gi Gj Gk Gl Gm Gn Gp Gq Gr Gs Gt Gu Gv Gw Gx Gy Gz GA GB GC GD GF GG GH GI GJ GK GL GM GN GO GP GQ GR GS GU GV GW GX GY GZ G1 G3 G4 G5 G6 G7 G8 G9 Ha Hb Hc
section
variable {f : Nat} {fn : Func} {df : List dt} {k : List Item} {tm : Tm} {sto : Sto} {R : aa → Sto → Prop}
def Br (t : Bool) (X Y : Prop) : Prop := (t = true → X) ∧ (t = false → Y)
theorem brT {X Y : Prop} (h : X) : Br true X Y := And.intro (fun _ => h) (fun e => Bool.noConfusion e)
theorem brF {X Y : Prop} (h : Y) : Br false X Y := And.intro (fun e => Bool.noConfusion e) (fun _ => h)
theorem brS {t : Bool} {X Y : Prop} (h1 : t = true → X) (h2 : t = false → Y) : Br t X Y := ⟨h1, h2⟩
theorem gCd {c : Operand} {x y : Code} {t : Bool} (h : Br t (ae Tryz.prog f fn df (.code x :: k) tm sto R) (ae Tryz.prog f fn df (.code y :: k) tm sto R)) (hc : ev tm c = .bool t := by simp only [go_sem, simprocAttr]; rfl) (hok : bg c = true := by rfl) : ae Tryz.prog f fn df (.code (.cond c x y) :: k) tm sto R := .cond hc hok h.1 h.2
theorem gRg (z : List Nat) {id : Nat} {ops : List Oper} (ps : List Nat) (h : ∀ K : Tm → Sto → Prop, (∀ tm' sto', ae Tryz.prog f fn df k (Rad.prune ps tm') sto' R → K tm' sto') → vc LL Tryz.prog false z (ops.map (·.dst)) ops tm sto K) (hok : aT LL fn.ntmps ops = true := by kernel_rfl) : ae Tryz.prog f fn df (.code (.region id ops.toArray false) :: k) tm sto R := .reg gX z ps hok h
theorem gDr (id : Nat) (z : List Nat) (nq : Nat) (order : List Nat) {ops : List Oper} (ps : List Nat) (hz : z.all (fun d => (ak sto d).isNone) = true)
  (h : ∀ K : Tm → Sto → Prop, (∀ tm' sto', ae Tryz.prog f fn df k (Rad.prune ps tm') sto' R → K tm' sto') → vc LL Tryz.prog true z (ops.map (·.dst)) ((order.take nq).filterMap (ops[·]?)) tm sto fun tm' sto' => vc LL Tryz.prog false z (ops.map (·.dst)) ((order.drop nq).filterMap (ops[·]?)) tm' sto' K) (hok : qx LL fn.ntmps z ops nq order = true := by kernel_rfl) :
  ae Tryz.prog f fn df (.code (.region id ops.toArray true) :: k) tm sto R := .drawn gX mixed z nq order ps hok hz h
theorem gDl (id : Nat) (z : List Nat) (nq : Nat) (order : List Nat) (lt' : List (Nat × Nat)) (lr : List Nat) {ops : List Oper} (ps : List Nat) (hz : z.all (fun d => (ak sto d).isNone) = true)
  (h : ∀ K : Tm → Sto → Prop, (∀ tm' sto', ae Tryz.prog f fn df k (Rad.prune ps tm') sto' R → K tm' sto') → vc LL Tryz.prog true z (ops.map (·.dst)) ((order.take nq).filterMap (ops[·]?)) tm sto fun tm' sto' => ((lt'.all fun y => gh (lk tm' y.1) (lk tm' y.2)) = true ∧ (lr.all fun a => ei (lk tm' a)) = true) ∧ vc LL Tryz.prog false z (ops.map (·.dst)) ((order.drop nq).filterMap (ops[·]?)) tm' sto' K) (hok : ic LL fn.ntmps z ops nq order lt' lr = true := by kernel_rfl) :
  ae Tryz.prog f fn df (.code (.region id ops.toArray true) :: k) tm sto R := .uv gX mixed z nq order lt' lr ps hok hz h
theorem gRt (keep : List Nat) (rs : List ResultVar) (hr : fn.results.toList = rs) (h : cG LL rs tm sto fun vs => R (gV vs) (cy keep sto)) : ae Tryz.prog f fn [] (.code .ret :: k) tm sto R := .retF gX keep rs hr h
theorem gDn (keep : List Nat) (rs : List ResultVar) (hr : fn.results.toList = rs) (h : cG LL rs tm sto fun vs => R (gV vs) (cy keep sto)) : ae Tryz.prog f fn [] [] tm sto R := .Lz gX keep rs hr h
def Ek : List Item → Bool
 | [] => true
 | .code .ret :: _ => true
 | _ => false
theorem gRe (keep : List Nat) (rs : List ResultVar) (hk : Ek k = true) (hr : fn.results.toList = rs) (h : cG LL rs tm sto fun vs => R (gV vs) (cy keep sto)) : ae Tryz.prog f fn [] k tm sto R := by
 unfold Ek at hk; split at hk
 ·exact gDn keep rs hr h
 ·exact gRt keep rs hr h
 ·cases hk
def ctl : List Item → Option (List Item)
 | .code (.seq x y) :: k => some (.code x :: .code y :: k)
 | .code .skip :: k => some k
 | .code (.block id c) :: k => some (.code c :: .inBlock id :: k)
 | .inBlock _ :: k => some k
 | .code (.exit id) :: k => exitTo id k
 | _ => none
theorem gCt {k' : List Item} (hk : ctl k = some k') (h : ae Tryz.prog f fn df k' tm sto R) : ae Tryz.prog f fn df k tm sto R := by
 unfold ctl at hk; split at hk
 ·cases hk; exact h.seq
 ·cases hk; exact h.skip
 ·cases hk; exact h.block
 ·cases hk; exact h.inBlock
 ·exact h.exit hk
 ·cases hk
theorem gR {id : Nat} {ops : List Oper} (ps : List Nat) (h : ∀ K : Tm → Sto → Prop, (∀ tm' sto', ae Tryz.prog f fn df k (Rad.prune ps tm') sto' R → K tm' sto') → vc LL Tryz.prog false [] (ops.map (·.dst)) ops tm sto K) (hok : aT LL fn.ntmps ops = true := by kernel_rfl) : ae Tryz.prog f fn df (.code (.region id ops.toArray false) :: k) tm sto R := gRg [] ps h hok
theorem gD (id : Nat) (nq : Nat) (order : List Nat) {ops : List Oper} (ps : List Nat)
  (h : ∀ K : Tm → Sto → Prop, (∀ tm' sto', ae Tryz.prog f fn df k (Rad.prune ps tm') sto' R → K tm' sto') → vc LL Tryz.prog true [] (ops.map (·.dst)) ((order.take nq).filterMap (ops[·]?)) tm sto fun tm' sto' => vc LL Tryz.prog false [] (ops.map (·.dst)) ((order.drop nq).filterMap (ops[·]?)) tm' sto' K) (hok : qx LL fn.ntmps [] ops nq order = true := by kernel_rfl) :
  ae Tryz.prog f fn df (.code (.region id ops.toArray true) :: k) tm sto R := gDr id [] nq order ps rfl h hok
end
theorem cAl {f : Nat} {args : List aa} {sto : Sto} {v : aa} {T : aa → Sto → Prop} (h : ah Tryz.prog f args [] fun r s => r = v ∧ s = []) (ha : args.map (tr [] [] sto) = args) (hv : bk [] v = v) (hc : bB sto = true) (hT : T v sto) : ah Tryz.prog f args sto T :=
 (ah.alone h ha hv hc).mono fun r s hr => by rw [hr.1, hr.2]; exact hT
end Go.Rad
namespace Go.Rad
open Go Go.Proofs
set_option linter.all false
set_option maxRecDepth 20000
set_option maxHeartbeats 4000000
def dz (s : av) (n : Nat) : Bool := decide (((s.word (n / 64)).fdiv (2 ^ (n % 64))).tmod 2 = 1)
theorem ep {n k : Nat} {c : Int} {X : Prop} (h4 : n / 64 = k) (hk : (k : Int) = c) (h : (n : Int).tdiv 64 = c → (n : Int).tmod 64 = ((n % 64 : Nat) : Int) → min (n % 64) 64 = n % 64 → X) : X :=
 h ((tL n 64).trans (by rw [h4]; exact hk)) (oF n 64) (by omega)
theorem pD (s0 s1 s2 s3 : Int) (n : Nat) (h1 : n ≤ 255) : ah Tryz.prog 94 [.agg [.int .u64 s0, .int .u64 s1, .int .u64 s2, .int .u64 s3], .int .u8 n] [] fun r s' => r = .bool (dz ⟨s0, s1, s2, s3⟩ n) ∧ s' = [] := by
 have h4 : n / 64 = 0 ∨ n / 64 = 1 ∨ n / 64 = 2 ∨ n / 64 = 3 := by omega
 rcases h4 with h4 | h4 | h4 | h4
 all_goals
  (first | refine ep (c := 0) h4 rfl fun hd hm hmin => ?_ | refine ep (c := 1) h4 rfl fun hd hm hmin => ?_ | refine ep (c := 2) h4 rfl fun hd hm hmin => ?_ | refine ep (c := 3) h4 rfl fun hd hm hmin => ?_)
  simp only [dz, h4, av.word]
  refine ah.enter Tryz.func94 rfl (by kernel_rfl) (Nat.le_of_ble_eq_true rfl) ?_; simp only [ai, Nat.reduceAdd]
  repeat' (first
 | refine gCt rfl ?_
 | ((first
 | ((first | refine gR fp94 ?_); intro K hK)
 | (refine ab ?_ ?_ <;> intro hb <;> (try simp only [bls] at hb) <;> (try simp only [hb]))
 | refine gRe [] [.tmp 4] rfl rfl ?_) <;> (try simp only [go_sem, simprocAttr, hd, hm, hmin, ma, IntKind.bits, Int.toNat_natCast, Int.natCast_nonneg]))
 | (refine hK _ _ ?_; clear hK K; simp only [go_sem, simprocAttr])
 | refine gCd ?_ | refine brT ?_ | refine brF ?_
 | (refine brS ?_ ?_ <;> intro hc <;> (try simp only [bls] at hc) <;> (try simp only [hc, bls]))
 | intro _ | refine And.intro ?_ ?_)
 all_goals exact ⟨rfl, rfl⟩
def cA (s : av) (n : Nat) : av := if dz s n then s else s.set (n / 64) (IntKind.u64.wrap (s.word (n / 64) + IntKind.u64.wrap (1 * 2 ^ (n % 64))))
theorem lD (s0 s1 s2 s3 : Int) (n : Nat) (h1 : n ≤ 255) : ah Tryz.prog 95 [.agg [.int .u64 s0, .int .u64 s1, .int .u64 s2, .int .u64 s3], .int .u8 n] [] fun r s' => r = .agg (cA ⟨s0, s1, s2, s3⟩ n).cells ∧ s' = [] := by
 have h4 : n / 64 = 0 ∨ n / 64 = 1 ∨ n / 64 = 2 ∨ n / 64 = 3 := by omega
 rcases h4 with h4 | h4 | h4 | h4
 all_goals
  (first | refine ep (c := 0) h4 rfl fun hd hm hmin => ?_ | refine ep (c := 1) h4 rfl fun hd hm hmin => ?_ | refine ep (c := 2) h4 rfl fun hd hm hmin => ?_ | refine ep (c := 3) h4 rfl fun hd hm hmin => ?_)
  simp only [cA, h4, av.word]
  refine ah.enter Tryz.func95 rfl (by kernel_rfl) (Nat.le_of_ble_eq_true rfl) ?_; simp only [ai, Nat.reduceAdd]
  repeat' (first
 | refine gCt rfl ?_
 | ((first
 | ((first | refine gR fp95 ?_); intro K hK)
 | refine cAl (pD _ _ _ _ _ h1) rfl rfl rfl ?_
 | (refine ab ?_ ?_ <;> intro hb <;> (try simp only [bls] at hb) <;> (try simp only [hb]))
 | refine gRe [] [.cell 4 46] rfl rfl ?_) <;> (try simp only [go_sem, simprocAttr, hd, hm, hmin, ma, IntKind.bits, Int.toNat_natCast, Int.natCast_nonneg]))
 | (refine hK _ _ ?_; clear hK K; simp only [go_sem, simprocAttr])
 | refine gCd ?_ | refine brT ?_ | refine brF ?_
 | (refine brS ?_ ?_ <;> intro hc <;> (try simp only [bls] at hc) <;> (try simp only [hc, bls]))
 | intro _ | refine And.intro ?_ ?_)
 all_goals first | (simp only [hc]; rfl) | (simp [hc]; done) | (simp [hc, av.set]; done)
abbrev cp (l : List Nat) : List (List aa) := l.map fun (k : Nat) => [.int .u8 k]
theorem of_c (q f : Bool) (l : List Nat) (h : ∀ x ∈ l, x ≤ 255) (hl : l.length ≤ 1000000) : ah Tryz.prog 153 [.sl q f (cp l)] [] fun r s' => r = .agg (l.foldl cA av.none).cells ∧ s' = [] := by
 refine ah.enter Tryz.func153 rfl (by kernel_rfl) (Nat.le_of_ble_eq_true rfl) ?_; simp only [ai, Nat.reduceAdd]
 repeat' (first
 | refine gCt rfl ?_
 | ((first
 | ((first | refine gR fp153 ?_ | refine gD 5 5 ro7 fp153 ?_); intro K hK)
 | (refine ab ?_ ?_ <;> intro hb <;> (try simp only [bls] at hb) <;> (try simp only [hb]))
 | refine gRe [] [.cell 2 46] rfl rfl ?_) <;> (try simp only [go_sem, simprocAttr]))
 | (refine hK _ _ ?_; clear hK K; simp only [go_sem, simprocAttr])
 | refine gCd ?_ | refine brT ?_ | refine brF ?_
 | (refine brS ?_ ?_ <;> intro hc <;> (try simp only [bls] at hc) <;> (try simp only [hc, bls]))
 | intro _ | refine And.intro ?_ ?_)
 rename_i h2 h3
 refine ae.prune [0, 2, 3, 4] ?_; simp only [go_sem, simprocAttr]
 refine ae.al (α := Nat) (fun i => ([(0, .sl q f (cp l)), (2, .bx 2 h2 0), (3, .bx 3 h3 0), (4, .int .i64 i)], [(2, h2, .box av.none.cells), (3, h3, .box ((l.take i).foldl cA av.none).cells)])) (fun i => i ≤ l.length) (fun i => l.length - i) 0 (Nat.zero_le _) rfl ?_
 intro i hi ih
 simp only
 generalize hs : (l.take i).foldl cA av.none = s
 obtain ⟨s0, s1, s2, s3⟩ := s
 repeat' (first
 | refine gCt rfl ?_
 | ((first
 | ((first | refine gR fp153 ?_ | refine gD 5 5 ro7 fp153 ?_); intro K hK)
 | refine cAl (lD _ _ _ _ _ (h _ (List.mem_of_getElem? (by assumption)))) rfl rfl rfl ?_
 | (refine ab ?_ ?_ <;> intro hb <;> (try simp only [bls] at hb) <;> (try simp only [hb]))
 | refine gRe [] [.cell 2 46] rfl rfl ?_) <;> (try simp only [go_sem, simprocAttr]))
 | (refine hK _ _ ?_; clear hK K; simp only [go_sem, simprocAttr])
 | refine gCd ?_ | refine brT ?_ | refine brF ?_
 | (refine brS ?_ ?_ <;> intro hc <;> (try simp only [bls] at hc) <;> (try simp only [hc, bls]))
 | intro _ | refine And.intro ?_ ?_)
 all_goals try simp only [decide_eq_true_eq, decide_eq_false_iff_not] at hc
 ·exact hc
 ·omega
 ·omega
 ·rename_i k hk
  refine ae.prune [0, 2, 3, 4] ?_; simp only [go_sem, simprocAttr]
  exact (ih (i + 1) (by omega) (by omega)).cast rfl (by rw [take_one hk, List.foldl_append, hs]; rfl)
 ·rw [List.take_of_length_le (by omega)] at hs
  rw [hs]
def uY (lo hi : Nat) : av := (List.range (hi + 1 - lo)).foldl (fun s i => cA s (lo + i)) av.none
theorem Dt (lo hi : Nat) (h : hi ≤ 255) (h' : lo ≤ 255) : ah Tryz.prog 172 [.int .u8 lo, .int .u8 hi] [] fun r s' => r = .agg (uY lo hi).cells ∧ s' = [] := by
 have e1 := mJ (n := lo) (by omega)
 have e2 := mJ (n := hi) (by omega)
 refine ah.enter Tryz.func172 rfl (by kernel_rfl) (Nat.le_of_ble_eq_true rfl) ?_; simp only [ai, Nat.reduceAdd]
 repeat' (first
 | refine gCt rfl ?_
 | ((first
 | ((first | refine gR fp172 ?_); intro K hK)
 | (refine ab ?_ ?_ <;> intro hb <;> (try simp only [bls] at hb) <;> (try simp only [hb]))
 | refine gRe [] [.cell 4 46] rfl rfl ?_) <;> (try simp only [go_sem, simprocAttr, e1, e2]))
 | (refine hK _ _ ?_; clear hK K; simp only [go_sem, simprocAttr])
 | refine gCd ?_ | refine brT ?_ | refine brF ?_
 | (refine brS ?_ ?_ <;> intro hc <;> (try simp only [bls] at hc) <;> (try simp only [hc, bls]))
 | intro _ | refine And.intro ?_ ?_)
 rename_i h4 h5
 refine ae.prune [0, 1, 4, 5, 6] ?_; simp only [go_sem, simprocAttr]
 refine ae.al (α := Nat) (fun i => ([(0, .int .u8 lo), (1, .int .u8 hi), (4, .bx 4 h4 0), (5, .bx 5 h5 0), (6, .int .i64 (lo + i : Nat))], [(4, h4, .box av.none.cells), (5, h5, .box ((List.range i).foldl (fun s i => cA s (lo + i)) av.none).cells)])) (fun i => i ≤ hi + 1 - lo) (fun i => hi + 1 - lo - i) 0 (Nat.zero_le _) rfl ?_
 intro i hi' ih
 simp only
 generalize hs : (List.range i).foldl (fun s i => cA s (lo + i)) av.none = s
 obtain ⟨s0, s1, s2, s3⟩ := s
 by_cases hle : lo + i ≤ hi
 ·have e3 := oO (n := lo + i) (by omega)
  have e4 : ((lo + i : Nat) : Int) ≤ (hi : Int) := by omega
  repeat' (first
 | refine gCt rfl ?_
 | ((first
 | ((first | refine gR fp172 ?_); intro K hK)
 | refine cAl (lD _ _ _ _ (lo + i) (by omega)) rfl rfl rfl ?_
 | (refine ab ?_ ?_ <;> intro hb <;> (try simp only [bls] at hb) <;> (try simp only [hb]))
 | refine gRe [] [.cell 4 46] rfl rfl ?_) <;> (try simp only [go_sem, simprocAttr, e1, e2, e3, e4]))
 | (refine hK _ _ ?_; clear hK K; simp only [go_sem, simprocAttr])
 | refine gCd ?_ | refine brT ?_ | refine brF ?_
 | (refine brS ?_ ?_ <;> intro hc <;> (try simp only [bls] at hc) <;> (try simp only [hc, bls]))
 | intro _ | refine And.intro ?_ ?_)
  ·omega
  ·omega
  ·refine ae.prune [0, 1, 4, 5, 6] ?_; simp only [go_sem, simprocAttr]
   exact (ih (i + 1) (by omega) (by omega)).cast rfl (by rw [List.range_succ, List.foldl_append, hs]; rfl)
 ·have e4 : ¬ ((lo + i : Nat) : Int) ≤ (hi : Int) := by omega
  have e5 : i = hi + 1 - lo := by omega
  subst e5
  repeat' (first
 | refine gCt rfl ?_
 | ((first
 | ((first | refine gR fp172 ?_); intro K hK)
 | (refine ab ?_ ?_ <;> intro hb <;> (try simp only [bls] at hb) <;> (try simp only [hb]))
 | refine gRe [] [.cell 4 46] rfl rfl ?_) <;> (try simp only [go_sem, simprocAttr, e1, e2, e4]))
 | (refine hK _ _ ?_; clear hK K; simp only [go_sem, simprocAttr])
 | refine gCd ?_ | refine brT ?_ | refine brF ?_
 | (refine brS ?_ ?_ <;> intro hc <;> (try simp only [bls] at hc) <;> (try simp only [hc, bls]))
 | intro _ | refine And.intro ?_ ?_)
  simp only [uY, hs]
def I7 (x : av) : av := (List.range 256).foldl (fun s b => if dz x b then s else cA s b) av.none
theorem Mc (x0 x1 x2 x3 : Int) : ah Tryz.prog 152 [.agg [.int .u64 x0, .int .u64 x1, .int .u64 x2, .int .u64 x3]] [] fun r s' => r = .agg (I7 ⟨x0, x1, x2, x3⟩).cells ∧ s' = [] := by
 refine ah.enter Tryz.func152 rfl (by kernel_rfl) (Nat.le_of_ble_eq_true rfl) ?_; simp only [ai, Nat.reduceAdd]
 repeat' (first
 | refine gCt rfl ?_
 | ((first
 | ((first | refine gR fp152 ?_); intro K hK)
 | (refine ab ?_ ?_ <;> intro hb <;> (try simp only [bls] at hb) <;> (try simp only [hb]))
 | refine gRe [] [.cell 2 46] rfl rfl ?_) <;> (try simp only [go_sem, simprocAttr]))
 | (refine hK _ _ ?_; clear hK K; simp only [go_sem, simprocAttr])
 | refine gCd ?_ | refine brT ?_ | refine brF ?_
 | (refine brS ?_ ?_ <;> intro hc <;> (try simp only [bls] at hc) <;> (try simp only [hc, bls]))
 | intro _ | refine And.intro ?_ ?_)
 rename_i h1 h2 h3
 refine ae.prune [0, 1, 2, 3, 4] ?_; simp only [go_sem, simprocAttr]
 refine ae.al (α := Nat) (fun i => ([(0, .agg [.int .u64 x0, .int .u64 x1, .int .u64 x2, .int .u64 x3]), (1, .bx 1 h1 0), (2, .bx 2 h2 0), (3, .bx 3 h3 0), (4, .int .i64 i)], [(1, h1, .box [.int .u64 x0, .int .u64 x1, .int .u64 x2, .int .u64 x3]), (2, h2, .box av.none.cells), (3, h3, .box ((List.range i).foldl (fun s b => if dz ⟨x0, x1, x2, x3⟩ b then s else cA s b) av.none).cells)])) (fun i => i ≤ 256) (fun i => 256 - i) 0 (Nat.zero_le _) rfl ?_
 intro i hi ih
 simp only
 generalize hs : (List.range i).foldl (fun s b => if dz ⟨x0, x1, x2, x3⟩ b then s else cA s b) av.none = s
 obtain ⟨s0, s1, s2, s3⟩ := s
 by_cases hle : i < 256
 ·have e3 := oO (n := i) (by omega)
  have e4 : (i : Int) < 256 := by omega
  have ih := ih (i + 1) (by omega) (by omega)
  rw [List.range_succ, List.foldl_append, hs] at ih
  cases hh : dz ⟨x0, x1, x2, x3⟩ i
  all_goals
   repeat' (first
 | refine gCt rfl ?_
 | ((first
 | ((first | refine gR fp152 ?_); intro K hK)
 | refine cAl (lD _ _ _ _ i (by omega)) rfl rfl rfl ?_
 | refine cAl (pD _ _ _ _ i (by omega)) rfl rfl rfl ?_
 | (refine ab ?_ ?_ <;> intro hb <;> (try simp only [bls] at hb) <;> (try simp only [hb]))
 | refine gRe [] [.cell 2 46] rfl rfl ?_) <;> (try simp only [go_sem, simprocAttr, e3, e4, hh]))
 | (refine hK _ _ ?_; clear hK K; simp only [go_sem, simprocAttr])
 | refine gCd ?_ | refine brT ?_ | refine brF ?_
 | (refine brS ?_ ?_ <;> intro hc <;> (try simp only [bls] at hc) <;> (try simp only [hc, bls]))
 | intro _ | refine And.intro ?_ ?_)
  all_goals first | omega | skip
  all_goals
   refine ae.prune [0, 1, 2, 3, 4] ?_; simp only [go_sem, simprocAttr]
   exact ih.cast rfl (by simp [hh])
 ·have e4 : ¬ (i : Int) < 256 := by omega
  have e5 : i = 256 := by omega
  subst e5
  repeat' (first
 | refine gCt rfl ?_
 | ((first
 | ((first | refine gR fp152 ?_); intro K hK)
 | (refine ab ?_ ?_ <;> intro hb <;> (try simp only [bls] at hb) <;> (try simp only [hb]))
 | refine gRe [] [.cell 2 46] rfl rfl ?_) <;> (try simp only [go_sem, simprocAttr, e4]))
 | (refine hK _ _ ?_; clear hK K; simp only [go_sem, simprocAttr])
 | refine gCd ?_ | refine brT ?_ | refine brF ?_
 | (refine brS ?_ ?_ <;> intro hc <;> (try simp only [bls] at hc) <;> (try simp only [hc, bls]))
 | intro _ | refine And.intro ?_ ?_)
  simp only [I7, hs]
def orI (l : List av) : av := (List.range 256).foldl (fun s b => l.foldl (fun s x => if dz x b then cA s b else s) s) av.none
abbrev DA (l : List av) : List (List aa) := l.map av.cells
theorem or_c (q f : Bool) (l : List av) (hl : l.length ≤ 1000000) : ah Tryz.prog 173 [.sl q f (DA l)] [] fun r s' => r = .agg (orI l).cells ∧ s' = [] := by
 refine ah.enter Tryz.func173 rfl (by kernel_rfl) (Nat.le_of_ble_eq_true rfl) ?_; simp only [ai, Nat.reduceAdd]
 repeat' (first
 | refine gCt rfl ?_
 | ((first
 | ((first | refine gR fp173 ?_); intro K hK)
 | (refine ab ?_ ?_ <;> intro hb <;> (try simp only [bls] at hb) <;> (try simp only [hb]))
 | refine gRe [] [.cell 2 46] rfl rfl ?_) <;> (try simp only [go_sem, simprocAttr]))
 | (refine hK _ _ ?_; clear hK K; simp only [go_sem, simprocAttr])
 | refine gCd ?_ | refine brT ?_ | refine brF ?_
 | (refine brS ?_ ?_ <;> intro hc <;> (try simp only [bls] at hc) <;> (try simp only [hc, bls]))
 | intro _ | refine And.intro ?_ ?_)
 rename_i h2 h3
 refine ae.prune [0, 2, 3, 4] ?_; simp only [go_sem, simprocAttr]
 refine ae.al (α := Nat) (fun b => ([(0, .sl q f (DA l)), (2, .bx 2 h2 0), (3, .bx 3 h3 0), (4, .int .i64 b)], [(2, h2, .box av.none.cells), (3, h3, .box ((List.range b).foldl (fun s b => l.foldl (fun s x => if dz x b then cA s b else s) s) av.none).cells)])) (fun b => b ≤ 256) (fun b => 256 - b) 0 (Nat.zero_le _) rfl ?_
 intro b hb ih
 simp only
 generalize hs : (List.range b).foldl (fun s b => l.foldl (fun s x => if dz x b then cA s b else s) s) av.none = s
 obtain ⟨s0, s1, s2, s3⟩ := s
 by_cases hle : b < 256
 ·have e4 : (b : Int) < 256 := by omega
  have e3 := oO (n := b) (by omega)
  have ih := ih (b + 1) (by omega) (by omega)
  rw [List.range_succ, List.foldl_append, hs] at ih
  repeat' (first
 | refine gCt rfl ?_
 | ((first
 | ((first | refine gR fp173 ?_); intro K hK)
 | (refine ab ?_ ?_ <;> intro hb <;> (try simp only [bls] at hb) <;> (try simp only [hb]))
 | refine gRe [] [.cell 2 46] rfl rfl ?_) <;> (try simp only [go_sem, simprocAttr, e4]))
 | (refine hK _ _ ?_; clear hK K; simp only [go_sem, simprocAttr])
 | refine gCd ?_ | refine brT ?_ | refine brF ?_
 | (refine brS ?_ ?_ <;> intro hc <;> (try simp only [bls] at hc) <;> (try simp only [hc, bls]))
 | intro _ | refine And.intro ?_ ?_)
  refine ae.prune [0, 2, 3, 4, 5] ?_; simp only [go_sem, simprocAttr]
  refine ae.al (α := Nat) (fun i => ([(0, .sl q f (DA l)), (2, .bx 2 h2 0), (3, .bx 3 h3 0), (4, .int .i64 b), (5, .int .i64 i)], [(2, h2, .box av.none.cells), (3, h3, .box ((l.take i).foldl (fun s x => if dz x b then cA s b else s) ⟨s0, s1, s2, s3⟩).cells)])) (fun i => i ≤ l.length) (fun i => l.length - i) 0 (Nat.zero_le _) rfl ?_
  intro i hi ih2
  simp only
  generalize ht : (l.take i).foldl (fun s x => if dz x b then cA s b else s) ⟨s0, s1, s2, s3⟩ = t
  obtain ⟨t0, t1, t2, t3⟩ := t
  by_cases hil : i < l.length
  ·have e5 : (i : Int) < l.length := by omega
   have ih2 := ih2 (i + 1) (by omega) (by omega)
   have hk : l[i]? = some l[i] := List.getElem?_eq_getElem hil
   rw [take_one hk, List.foldl_append, ht] at ih2
   generalize l[i] = x at hk ih2
   obtain ⟨x0, x1, x2, x3⟩ := x
   cases hh : dz ⟨x0, x1, x2, x3⟩ b
   all_goals
    repeat' (first
 | refine gCt rfl ?_
 | ((first
 | ((first | refine gR fp173 ?_); intro K hK)
 | refine cAl (pD _ _ _ _ b (by omega)) rfl rfl rfl ?_
 | refine cAl (lD _ _ _ _ b (by omega)) rfl rfl rfl ?_
 | (refine ab ?_ ?_ <;> intro hb <;> (try simp only [bls] at hb) <;> (try simp only [hb]))
 | refine gRe [] [.cell 2 46] rfl rfl ?_) <;> (try simp only [go_sem, simprocAttr, e3, e4, e5, hk, hh, Option.some.injEq, forall_eq']))
 | (refine hK _ _ ?_; clear hK K; simp only [go_sem, simprocAttr])
 | refine gCd ?_ | refine brT ?_ | refine brF ?_
 | (refine brS ?_ ?_ <;> intro hc <;> (try simp only [bls] at hc) <;> (try simp only [hc, bls]))
 | intro _ | refine And.intro ?_ ?_)
   all_goals first | omega | skip
   all_goals
    refine ae.prune [0, 2, 3, 4, 5] ?_; simp only [go_sem, simprocAttr]
    exact ih2.cast rfl (by simp [hh])
  ·have e5 : ¬ (i : Int) < l.length := by omega
   rw [List.take_of_length_le (by omega)] at ht
   repeat' (first
 | refine gCt rfl ?_
 | ((first
 | ((first | refine gR fp173 ?_); intro K hK)
 | (refine ab ?_ ?_ <;> intro hb <;> (try simp only [bls] at hb) <;> (try simp only [hb]))
 | refine gRe [] [.cell 2 46] rfl rfl ?_) <;> (try simp only [go_sem, simprocAttr, e5]))
 | (refine hK _ _ ?_; clear hK K; simp only [go_sem, simprocAttr])
 | refine gCd ?_ | refine brT ?_ | refine brF ?_
 | (refine brS ?_ ?_ <;> intro hc <;> (try simp only [bls] at hc) <;> (try simp only [hc, bls]))
 | intro _ | refine And.intro ?_ ?_)
   all_goals first | omega | skip
   refine ae.prune [0, 2, 3, 4] ?_; simp only [go_sem, simprocAttr]
   exact ih.cast rfl (by simp [ht])
 ·have e4 : ¬ (b : Int) < 256 := by omega
  have e5 : b = 256 := by omega
  subst e5
  repeat' (first
 | refine gCt rfl ?_
 | ((first
 | ((first | refine gR fp173 ?_); intro K hK)
 | (refine ab ?_ ?_ <;> intro hb <;> (try simp only [bls] at hb) <;> (try simp only [hb]))
 | refine gRe [] [.cell 2 46] rfl rfl ?_) <;> (try simp only [go_sem, simprocAttr, e4]))
 | (refine hK _ _ ?_; clear hK K; simp only [go_sem, simprocAttr])
 | refine gCd ?_ | refine brT ?_ | refine brF ?_
 | (refine brS ?_ ?_ <;> intro hc <;> (try simp only [bls] at hc) <;> (try simp only [hc, bls]))
 | intro _ | refine And.intro ?_ ?_)
  simp only [orI, hs]
end Go.Rad
namespace Go.Rad
open Go
def bt (s : ByteArray) (n : Nat) : Nat := ((s.data.toList[n]?).getD 0).toNat
theorem kC (s : ByteArray) (n : Nat) : kB s n = (bt s n : Int) := rfl
def jZ (c : Nat) : Bool := decide (97 ≤ c ∧ c ≤ 122 ∨ 65 ≤ c ∧ c ≤ 90 ∨ c = 95)
def nr (c : Nat) : Bool := decide (48 ≤ c ∧ c ≤ 57)
def nmB (s : ByteArray) (i : Nat) : Bool := jZ (bt s i) || (decide (i ≠ 0) && nr (bt s i))
def bl (s : ByteArray) : Bool := (List.range s.size).all (nmB s) && decide (1 ≤ s.size) && decide (s.size ≤ 32)
theorem wq {s : ByteArray} {i : Nat} (hle : i < s.size) (h : nmB s i = false) : false = bl s := by
 have : (List.range s.size).all (nmB s) = false := by
  rw [List.all_eq_false]
  exact ⟨i, List.mem_range.2 hle, by simp [h]⟩
 simp [bl, this]
theorem all_succ {p : Nat → Bool} {i : Nat} (h : (List.range i).all p = true) (hi : p i = true) : (List.range (i + 1)).all p = true := by
 rw [List.range_succ, List.all_append, h]; simp [hi]
end Go.Rad
namespace Go.Rad
open Go
def aD (n : Node) : Bool :=
 let set := decide (n.s ≠ av.none)
 let bounds := decide (n.lo ≠ 0 ∨ n.hi ≠ 0)
 let name := decide (n.name ≠ ByteArray.empty)
 if n.op = 1 then !set && !bounds && !name && decide (n.l.length = 0)
 else if n.op = 2 then set && !bounds && !name && decide (n.l.length = 0)
 else if n.op = 3 ∨ n.op = 4 then !set && !bounds && !name && decide (2 ≤ n.l.length)
 else if n.op = 5 then !set && !name && decide (n.l.length = 1) && decide (0 ≤ n.lo ∧ n.lo ≤ 4096) && decide (n.hi = -1 ∨ 1 ≤ n.hi ∧ n.hi ≤ 4096 ∧ n.lo ≤ n.hi)
 else if n.op = 6 then !set && !bounds && bl n.name && decide (n.l.length = 0)
 else false
def aJ (w : Int → List Int → List Int × Bool) (at_ : Int) (r : List Int × Bool) (k : Int) : List Int × Bool := if r.2 then (if k < 0 ∨ at_ ≤ k then (r.1, false) else w k r.1) else r
def aN (ns : List Node) : Nat → Int → List Int → List Int × Bool
 | 0, _, seen => (seen, false)
 | fuel + 1, at_, seen =>
  if ns.length ≤ seen.length then (seen, false)
  else if ((ns.getD at_.toNat default).l.foldl (aJ (aN ns fuel) at_) (seen, true)).2 then (((ns.getD at_.toNat default).l.foldl (aJ (aN ns fuel) at_) (seen, true)).1 ++ [at_], true) else (ns.getD at_.toNat default).l.foldl (aJ (aN ns fuel) at_) (seen, true)
theorem dk (w : Int → List Int → List Int × Bool) (at_ : Int) : ∀ (l : List Int) (r : List Int × Bool), r.2 = false → l.foldl (aJ w at_) r = r
 | [], _, _ => rfl
 | k :: l, r, h => by
  rw [List.foldl_cons, show aJ w at_ r k = r by simp [aJ, h]]
  exact dk w at_ l r h
theorem zL {w : Int → List Int → List Int × Bool} {at_ : Int} {l : List Int} {i : Nat} {k : Int} {r0 r : List Int × Bool} (hk : l[i]? = some k) (h : (l.take i).foldl (aJ w at_) r0 = r) (hf : (aJ w at_ r k).2 = false) : l.foldl (aJ w at_) r0 = aJ w at_ r k := by
 have hi : i < l.length := (List.getElem?_eq_some_iff.1 hk).1
 have e : l = l.take (i + 1) ++ l.drop (i + 1) := (List.take_append_drop _ _).symm
 rw [e, List.foldl_append, take_one hk, List.foldl_append, h, List.foldl_cons, List.foldl_nil, dk _ _ _ _ hf]
abbrev rg (n : Nat) : List Int := (List.range n).map fun (i : Nat) => (i : Int)
theorem mE (n : Nat) : rg (n + 1) = rg n ++ [(n : Int)] := by simp [rg, List.range_succ]
theorem lu (n : Nat) : (rg n).length = n := by simp [rg]
theorem Ju {n i : Nat} {k : Int} (h : (rg n)[i]? = some k) : k = i := by
 simp only [rg, List.getElem?_map, List.getElem?_range, Option.map_eq_some_iff] at h
 obtain ⟨a, h, rfl⟩ := h
 rw [List.getElem?_eq_some_iff] at h
 obtain ⟨h1, h2⟩ := h
 simp at h2; omega
def eV (ns : List Node) : Bool :=
 if ns.length < 1 ∨ 1024 < ns.length then false
 else if ns.all aD then
  let r := aN ns ns.length ((ns.length : Int) - 1) []
  r.2 && decide (r.1 = (List.range ns.length).map fun (i : Nat) => (i : Int))
 else false
def ed : List Node → Nat → List Int → Option (List Int)
 | [], _, st => some st
 | n :: ns, i, st => if aD n = true ∧ n.l.length ≤ st.length ∧ st.drop (st.length - n.l.length) = n.l then ed ns (i + 1) (st.take (st.length - n.l.length) ++ [(i : Int)]) else none
def az (l : List Node) : Bool := decide (1 ≤ l.length ∧ l.length ≤ 1024) && (match ed l 0 [] with | some st => decide (st.length = 1) | none => false)
inductive Kids (ns : List Node) : Nat → List Int → Nat → Prop
 | nil {lo : Nat} : Kids ns lo [] lo
 | cons {lo k hi : Nat} {n : Node} {l : List Int} : ns[k]? = some n → Kids ns lo n.l k → Kids ns (k + 1) l hi → Kids ns lo ((k : Int) :: l) hi
theorem Kids.le {ns : List Node} {lo hi : Nat} {l : List Int} (h : Kids ns lo l hi) : lo ≤ hi := by
 induction h with
 | nil => exact Nat.le_refl _
 | cons _ _ _ a b => omega
theorem Kids.lt {ns : List Node} {lo hi : Nat} {l : List Int} (h : Kids ns lo l hi) : ∀ k ∈ l, 0 ≤ k ∧ k < hi := by
 induction h with
 | nil => intro k hk; simp at hk
 | @cons lo k hi n l h1 h2 h3 a b =>
  intro k' hk
  have := h3.le
  rcases List.mem_cons.1 hk with rfl | hk
  ·omega
  ·exact b _ hk
theorem Kids.append {ns : List Node} {lo m hi : Nat} {a b : List Int} (h : Kids ns lo a m) (k : Kids ns m b hi) : Kids ns lo (a ++ b) hi := by
 induction h with
 | nil => exact k
 | cons h1 h2 _ _ ih => exact .cons h1 h2 (ih k)
theorem Kids.split {ns : List Node} {hi : Nat} {b : List Int} : ∀ {a : List Int} {lo : Nat}, Kids ns lo (a ++ b) hi → ∃ m, Kids ns lo a m ∧ Kids ns m b hi
 | [], lo, h => ⟨lo, .nil, h⟩
 | x :: a, lo, h => by
  cases h with
  | cons h1 h2 h3 =>
   obtain ⟨m, p, q⟩ := Kids.split h3
   exact ⟨m, .cons h1 h2 p, q⟩
theorem Kids.mono {ns ns' : List Node} (hm : ∀ (i : Nat) (n : Node), ns[i]? = some n → ns'[i]? = some n) {lo hi : Nat} {l : List Int} (h : Kids ns lo l hi) : Kids ns' lo l hi := by
 induction h with
 | nil => exact .nil
 | cons h1 _ _ a b => exact .cons (hm _ _ h1) a b
theorem Kids.one {ns : List Node} {lo hi : Nat} {k : Int} (h : Kids ns lo [k] hi) : k = (hi : Int) - 1 ∧ 0 < hi := by
 cases h with
 | cons h1 h2 h3 => cases h3; constructor <;> omega
theorem oB (l : List Node) : ∀ (ns : List Node) (i : Nat) (st st' : List Int), l.drop i = ns → ed ns i st = some st' → Kids l 0 st i → Kids l 0 st' (i + ns.length)
 | [], i, st, st', _, h, hk => by simp only [ed, Option.some.injEq] at h; subst h; exact hk
 | n :: ns, i, st, st', hd, h, hk => by
  simp only [ed] at h
  split at h
  ·rename_i hc
   obtain ⟨_, hle, hdr⟩ := hc
   have hn : l[i]? = some n := by
    have : (l.drop i)[0]? = some n := by rw [hd]; rfl
    simpa using this
   have hd' : l.drop (i + 1) = ns := by rw [← List.tail_drop, hd]; rfl
   have e : st = st.take (st.length - n.l.length) ++ n.l := by
    conv => lhs; rw [← List.take_append_drop (st.length - n.l.length) st]
    rw [hdr]
   rw [e] at hk
   obtain ⟨m, k1, k2⟩ := hk.split
   have := oB l ns (i + 1) _ st' hd' h (k1.append (.cons hn k2 .nil))
   simpa [Nat.add_assoc, Nat.add_comm 1] using this
  ·cases h
theorem bH {l : List Node} (h : az l = true) : Kids l 0 [(l.length : Int) - 1] l.length ∧ l.all aD = true ∧ 1 ≤ l.length ∧ l.length ≤ 1024 := by
 simp only [az, Bool.and_eq_true, decide_eq_true_eq] at h
 obtain ⟨⟨h1, h2⟩, h3⟩ := h
 split at h3
 ·rename_i st hst
  have := oB l l 0 [] st rfl hst .nil
  simp only [decide_eq_true_eq] at h3
  match st, h3, this with
  | [k], _, hk =>
   rw [Nat.zero_add] at hk
   rw [← hk.one.1]
   refine ⟨hk, ?_, h1, h2⟩
   rw [List.all_eq_true]
   have key : ∀ (ns : List Node) (i : Nat) (st st' : List Int), ed ns i st = some st' → ∀ n ∈ ns, aD n = true := by
    intro ns
    induction ns with
    | nil => intro _ _ _ _ n hn; simp at hn
    | cons n ns ih =>
     intro i st st' h m hm
     simp only [ed] at h
     split at h
     ·rename_i hc
      rcases List.mem_cons.1 hm with rfl | hm
      ·exact hc.1
      ·exact ih _ _ _ h m hm
     ·cases h
   exact key _ _ _ _ hst
 ·cases h3
theorem zM {l : List Node} (hall : l.all aD = true) {lo hi : Nat} {ks : List Int} (h : Kids l lo ks hi) : ∀ st : List Int, ed (l.drop lo) lo st = ed (l.drop hi) hi (st ++ ks) := by
 induction h with
 | nil => intro st; simp
 | @cons lo k hi n ks h1 h2 h3 ih1 ih2 =>
  intro st
  have hk : k < l.length := (List.getElem?_eq_some_iff.1 h1).1
  have e : l.drop k = n :: l.drop (k + 1) := by
   rw [List.drop_eq_getElem_cons hk]
   rw [List.getElem?_eq_getElem hk] at h1
   rw [Option.some.inj h1]
  have hs : aD n = true := (List.all_eq_true.1 hall) _ (List.mem_of_getElem? h1)
  rw [ih1 st, e, ed, if_pos ⟨hs, by simp, by simp⟩, ih2]
  congr 1
  simp
theorem ik {l : List Node} {k : Int} (h : Kids l 0 [k] l.length) (hall : l.all aD = true) (h1 : l.length ≤ 1024) : az l = true := by
 have := zM hall h []
 simp only [List.drop_zero, List.drop_length, List.nil_append, ed] at this
 have h0 := h.one.2
 simp only [az, this, Bool.and_eq_true, decide_eq_true_eq]
 exact ⟨⟨h0, h1⟩, rfl⟩
theorem xx {ns : List Node} {lo hi : Nat} {ks : List Int} (h : Kids ns lo ks hi) : ∀ (fuel at_ : Nat), hi ≤ fuel → hi ≤ at_ → ks.foldl (aJ (aN ns fuel) at_) (rg lo, true) = (rg hi, true) := by
 induction h with
 | nil => intro _ _ _ _; rfl
 | @cons lo k hi n ks h1 h2 h3 ih1 ih2 =>
  intro fuel at_ hf ha
  have hle := h3.le
  have hle2 := h2.le
  obtain ⟨f, rfl⟩ : ∃ f, fuel = f + 1 := ⟨fuel - 1, by omega⟩
  have hk : k < ns.length := (List.getElem?_eq_some_iff.1 h1).1
  have hw : aN ns (f + 1) k (rg lo) = (rg (k + 1), true) := by
   have hgd : ns.getD (k : Int).toNat default = n := by simp [List.getD, h1]
   rw [aN, if_neg (by rw [lu]; omega), hgd, ih1 f k (by omega) (Nat.le_refl _)]
   simp only [if_true, mE]
  rw [List.foldl_cons, show aJ (aN ns (f + 1)) at_ (rg lo, true) k = aN ns (f + 1) k (rg lo) from by simp [aJ]; omega, hw]
  exact ih2 (f + 1) at_ hf ha
theorem sN {ns : List Node} {k : Int} (h : Kids ns 0 [k] ns.length) (hall : ns.all aD = true) (h1 : ns.length ≤ 1024) : eV ns = true := by
 have h0 := h.one
 have hw := xx h ns.length ns.length (Nat.le_refl _) (Nat.le_refl _)
 have hk := h.lt k (by simp)
 rw [List.foldl_cons, List.foldl_nil, show aJ (aN ns ns.length) ns.length (rg 0, true) k = aN ns ns.length k (rg 0) from by simp [aJ]; omega] at hw
 rw [h0.1] at hw
 have hr0 : rg 0 = [] := rfl
 rw [hr0] at hw
 simp only [eV, if_neg (show ¬ (ns.length < 1 ∨ 1024 < ns.length) by omega), hall, if_true, hw, decide_true, Bool.and_self]
theorem Jv {N : Nat} {w : List Int} (h : w <+: rg N) : w = rg w.length := by
 obtain ⟨t, ht⟩ := h
 have hle : w.length ≤ N := by
  have := congrArg List.length ht
  simp at this; omega
 have : w = (rg N).take w.length := by rw [← ht]; simp
 rw [this]
 simp only [rg, ← List.map_take, List.take_range, List.length_map, List.length_range]
theorem yB (ns : List Node) : ∀ (fuel : Nat),
  (∀ (at_ : Int) (lo : Nat) (w : List Int), aN ns fuel at_ (rg lo) = (w, true) → rg lo <+: w ∧ (w <+: rg ns.length → 0 ≤ at_ → ∃ hi, w = rg hi ∧ Kids ns lo [at_] hi)) := by
 intro fuel
 induction fuel with
 | zero => intro at_ lo w h; simp [aN] at h
 | succ fuel ih =>
  have fold : ∀ (at_ : Int) (ks : List Int) (lo : Nat) (w : List Int), ks.foldl (aJ (aN ns fuel) at_) (rg lo, true) = (w, true) → rg lo <+: w ∧ (w <+: rg ns.length → ∃ hi, w = rg hi ∧ Kids ns lo ks hi) := by
   intro at_ ks
   induction ks with
   | nil =>
    intro lo w h
    simp only [List.foldl_nil, Prod.mk.injEq, and_true] at h
    subst h
    exact ⟨List.prefix_rfl, fun _ => ⟨lo, rfl, .nil⟩⟩
   | cons k ks ihk =>
    intro lo w h
    rw [List.foldl_cons] at h
    have hp : aJ (aN ns fuel) at_ (rg lo, true) k = if k < 0 ∨ at_ ≤ k then (rg lo, false) else aN ns fuel k (rg lo) := by simp [aJ]
    rw [hp] at h
    split at h
    ·rw [dk _ _ _ _ rfl] at h; cases h
    ·rename_i hb
     rcases hw : aN ns fuel k (rg lo) with ⟨u, b⟩
     rw [hw] at h
     cases b
     ·rw [dk _ _ _ _ rfl] at h; cases h
     ·obtain ⟨p1, p2⟩ := ih k lo u hw
      have hpre : ∀ (ks : List Int) (u w : List Int), ks.foldl (aJ (aN ns fuel) at_) (u, true) = (w, true) → u <+: w := by
       intro ks
       induction ks with
       | nil => intro u w h; simp only [List.foldl_nil, Prod.mk.injEq, and_true] at h; subst h; exact List.prefix_rfl
       | cons k ks ih2 =>
        intro u w h
        rw [List.foldl_cons] at h
        have hp : aJ (aN ns fuel) at_ (u, true) k = if k < 0 ∨ at_ ≤ k then (u, false) else aN ns fuel k u := by simp [aJ]
        rw [hp] at h
        split at h
        ·rw [dk _ _ _ _ rfl] at h; cases h
        ·rcases hw2 : aN ns fuel k u with ⟨u2, b2⟩
         rw [hw2] at h
         cases b2
         ·rw [dk _ _ _ _ rfl] at h; cases h
         ·exact (walk_pre ns fuel k u u2 hw2).trans (ih2 _ _ h)
      have h3 := hpre ks u w h
      refine ⟨p1.trans h3, fun hN => ?_⟩
      obtain ⟨hi, rfl, hk⟩ := p2 (h3.trans hN) (by omega)
      obtain ⟨_, q2⟩ := ihk hi w h
      obtain ⟨hi2, rfl, hk2⟩ := q2 hN
      exact ⟨hi2, rfl, hk.append hk2⟩
  intro at_ lo w h
  rw [aN] at h
  split at h
  ·cases h
  ·rename_i hlen
   rw [lu] at hlen
   rcases hf : (ns.getD at_.toNat default).l.foldl (aJ (aN ns fuel) at_) (rg lo, true) with ⟨u, b⟩
   rw [hf] at h
   cases b
   ·simp at h
   ·simp only [if_true, Prod.mk.injEq, and_true] at h
    subst h
    obtain ⟨p1, p2⟩ := fold at_ _ lo u hf
    refine ⟨p1.trans (List.prefix_append _ _), fun hN h0 => ?_⟩
    obtain ⟨hi, rfl, hk⟩ := p2 ((List.prefix_append _ _).trans hN)
    have e := Jv hN
    simp only [List.length_append, lu, List.length_cons, List.length_nil, Nat.zero_add, mE, List.append_cancel_left_eq, List.cons.injEq, and_true] at e
    subst e
    have hlt : hi < ns.length := by
     have := hN.length_le
     simp only [List.length_append, lu, List.length_cons, List.length_nil] at this
     omega
    refine ⟨hi + 1, by rw [mE], .cons (List.getElem?_eq_getElem hlt) ?_ .nil⟩
    have hgd : ns.getD (hi : Int).toNat default = ns[hi] := by simp [List.getD, List.getElem?_eq_getElem hlt]
    rw [hgd] at hk
    exact hk
where
 walk_pre (ns : List Node) : ∀ (fuel : Nat) (k : Int) (u w : List Int), aN ns fuel k u = (w, true) → u <+: w := by
  intro fuel
  induction fuel with
  | zero => intro k u w h; simp [aN] at h
  | succ fuel ih =>
   intro at_ u w h
   have hpre : ∀ (ks : List Int) (u w : List Int), ks.foldl (aJ (aN ns fuel) at_) (u, true) = (w, true) → u <+: w := by
    intro ks
    induction ks with
    | nil => intro u w h; simp only [List.foldl_nil, Prod.mk.injEq, and_true] at h; subst h; exact List.prefix_rfl
    | cons k ks ih2 =>
     intro u w h
     rw [List.foldl_cons] at h
     have hp : aJ (aN ns fuel) at_ (u, true) k = if k < 0 ∨ at_ ≤ k then (u, false) else aN ns fuel k u := by simp [aJ]
     rw [hp] at h
     split at h
     ·rw [dk _ _ _ _ rfl] at h; cases h
     ·rcases hw2 : aN ns fuel k u with ⟨u2, b2⟩
      rw [hw2] at h
      cases b2
      ·rw [dk _ _ _ _ rfl] at h; cases h
      ·exact (ih k u u2 hw2).trans (ih2 _ _ h)
   rw [aN] at h
   split at h
   ·cases h
   ·rcases hf : (ns.getD at_.toNat default).l.foldl (aJ (aN ns fuel) at_) (u, true) with ⟨v, b⟩
    rw [hf] at h
    cases b
    ·simp at h
    ·simp only [if_true, Prod.mk.injEq, and_true] at h
     subst h
     exact (hpre _ _ _ hf).trans (List.prefix_append _ _)
theorem td {ns : List Node} (h : eV ns = true) : Kids ns 0 [(ns.length : Int) - 1] ns.length ∧ ns.all aD = true ∧ 1 ≤ ns.length ∧ ns.length ≤ 1024 := by
 simp only [eV] at h
 split at h
 ·cases h
 ·rename_i hl
  split at h
  ·rename_i hall
   simp only [Bool.and_eq_true, decide_eq_true_eq] at h
   obtain ⟨h1, h2⟩ := h
   have hw : aN ns ns.length ((ns.length : Int) - 1) (rg 0) = (rg ns.length, true) := Prod.ext h2 h1
   obtain ⟨_, q⟩ := yB ns ns.length _ 0 _ hw
   obtain ⟨hi, e, hk⟩ := q List.prefix_rfl (by omega)
   have : hi = ns.length := by rw [← lu hi, ← e, lu]
   subst this
   exact ⟨hk, hall, by omega, by omega⟩
  ·cases h
theorem dE (ns : List Node) : az ns = eV ns := by
 rw [Bool.eq_iff_iff]
 constructor
 ·intro h; obtain ⟨a, b, c, d⟩ := bH h; exact sN a b d
 ·intro h; obtain ⟨a, b, c, d⟩ := td h; exact ik a b d
end Go.Rad
namespace Go.Rad
open Go
theorem rh {G : Gh} {w : World} {sto : Sto} {id esz : Nat} (hw : WOk G w) (hs : an G w sto) (hz : 0 < esz) :
  ∃ G', Ext G G' ∧ WOk G' w ∧ an G' w (aF sto id (G.N, .row esz [])) ∧ ∀ q v, Rep G true (.sl q true []) v → Rep G' true (.osl id G.N 0 0) v := by
 obtain ⟨a, b, c⟩ := dV (w' := w) (id := id) (o := .row esz []) (hd := ⟨none, 0, esz⟩) (Kept.refl w) hw hs (Nat.le_refl _) (fun _ _ _ => rfl) (fun b h => by cases h)
  ⟨none, 0, bU _ _ _, Nat.le_refl _, Nat.zero_le _, hz, fun i x h => by simp at h, fun i j x y h => by simp at h, fun _ => rfl, fun b h => by cases h⟩
 refine ⟨_, a, b, c, fun q v h => ?_⟩
 obtain ⟨ad, cap, rfl, _, _, hf⟩ := h.fE
 have := hf rfl
 simp only [List.length_nil] at this
 subst this
 exact .osl (bU _ _ _) (Nat.le_refl _) (Nat.zero_le _) (fun _ => rfl) (fun b h => by cases h) (fun b h => by cases h)
section
variable {P : Program} {f : Nat} {fn : Func} {df : List dt} {k : List Item} {tm : Tm} {sto : Sto} {R : aa → Sto → Prop}
theorem ae.lQ (t id esz : Nat) {q : Bool} (hz : 0 < esz) (ht : lk tm t = .sl q true []) (h : ∀ g, ae P f fn df k ((t, .osl id g 0 0) :: tm) (aF sto id (g, .row esz [])) R) : ae P f fn df k tm sto R := by
 refine ⟨fun E G a w b h1 h2 h3 h4 h5 h6 h7 h8 h9 => ?_⟩
 obtain ⟨G', hx, hw', hs', hr⟩ := rh (id := id) h7 h8 hz
 refine (h G.N).go E G' a w b h1 h2 h3 h4 (h5.mono hx.toMono) (h6.trans hx) hw' hs' fun t' => ?_
 simp only [lk]
 split
 ·rename_i e; subst e
  refine hr q _ ?_
  rw [← ht]; exact h9 _
 ·exact (h9 t').mono hx.toMono
theorem ae.n0 (bid off id esz : Nat) {gb : Nat} {cs : List aa} {q : Bool} (hz : 0 < esz) (hb : ak sto bid = some (gb, .box cs)) (hc : cs[off]? = some (.sl q true [])) (hne : id ≠ bid)
  (h : ∀ g, ae P f fn df k tm (aF (aF sto id (g, .row esz [])) bid (gb, .box (cs.set off (.osl id g 0 0)))) R) : ae P f fn df k tm sto R := by
 refine ⟨fun E G a w b h1 h2 h3 h4 h5 h6 h7 h8 h9 => ?_⟩
 obtain ⟨G', hx, hw', hs', hr⟩ := rh (id := id) h7 h8 hz
 have hget : ak (aF sto id (G.N, .row esz [])) bid = some (gb, .box cs) := by rw [bD, if_neg hne]; exact hb
 obtain ⟨bb, cap, e2, k1, k2, c, e, k3, k4, k5, k6⟩ := hs'.obj _ _ _ hget
 obtain ⟨bb', cap', e2', l1, l2, c', e', l3, l4, l5, l6⟩ := h8.obj _ _ _ hb
 have hbb : bb' = bb := by
  have := hx.M _ _ _ l1
  rw [k1] at this
  simp only [Option.some.injEq, Hd.mk.injEq] at this
  exact this.1.symm
 subst hbb
 rw [l3] at k3
 simp only [Option.some.injEq, Obj.cells.injEq] at k3
 obtain ⟨rfl, rfl, _⟩ := k3
 have ho : bW G' w bid gb (.box (cs.set off (.osl id G.N 0 0))) := by
  refine ⟨bb', cap, e2, k1, k2, c', e', l3, by simpa using l4, fun j x hj => ?_, fun j x hj => ?_⟩
  ·rw [List.getElem?_set] at hj
   split at hj
   ·split at hj
    ·simp only [Option.some.injEq] at hj; subst hj; rfl
    ·cases hj
   ·exact l5 j x hj
  ·rw [List.getElem?_set] at hj
   split at hj
   ·rename_i hoj
    split at hj
    ·simp only [Option.some.injEq] at hj; subst hj
     subst hoj
     exact hr q _ (l6 _ _ hc)
    ·cases hj
   ·exact k6 j x hj
 obtain ⟨hw2, hs2⟩ := eE (Kept.refl w) hw' hs' hget (Nat.le_refl _) (fun _ _ _ => rfl) ho
 exact (h G.N).go E G' a w b h1 h2 h3 h4 (h5.mono hx.toMono) (h6.trans hx) hw2 hs2 (h9.mono hx.toMono)
end
theorem ah.ownArg {P : Program} {f : Nat} {args : List aa} {sto : Sto} {R : aa → Sto → Prop} (i id esz : Nat) {q : Bool} (hz : 0 < esz) (hi : args[i]? = some (.sl q true [])) (h : ∀ g, ah P f (args.set i (.osl id g 0 0)) (aF sto id (g, .row esz [])) R) : ah P f args sto R := by
 refine ⟨(h 0).able, fun G w cargs hw hs ha => ?_⟩
 obtain ⟨G', hx, hw', hs', hr⟩ := rh (id := id) hw hs hz
 refine ((h G.N).calls G' w cargs hw' hs' ⟨by simpa using ha.1, fun j x hj => ?_⟩).mono fun e w' p => p.mono hx fun _ _ h => h
 rw [List.getElem?_set] at hj
 split at hj
 ·rename_i e; subst e
  split at hj
  ·simp only [Option.some.injEq] at hj; subst hj
   exact hr q _ (ha.2 _ _ hi)
  ·cases hj
 ·exact (ha.2 j x hj).mono hx.toMono
end Go.Rad
namespace Go.Rad
open Go
theorem ah.IN {P : Program} {f : Nat} {args args1 : List aa} {sto : Sto} {v : aa} (ln : List Nat) (h : ah P f args1 [] fun r s => r = v ∧ s = []) (ha : args.map (tr [] ln sto) = args1) (hv : bk [] v = v) (hcl : clean v = true) (hc : bB sto = true) :
  ah P f args sto fun r s => r = v ∧ s = sto := by
 refine ah.use [] ln rfl h ha rfl rfl fun r s hr => ?_
 obtain ⟨rfl, rfl⟩ := hr
 exact ⟨.inr ⟨hcl, rfl⟩, hc, hv, rfl⟩
theorem ae.shrink {P : Program} {f : Nat} {fn : Func} {df : List dt} {k : List Item} {tm : Tm} {sto : Sto} {R : aa → Sto → Prop} (id n : Nat) {g esz : Nat} {l : List (List aa)} (hg : ak sto id = some (g, .row esz l)) (h : ae P f fn df k tm (aF sto id (g, .row esz (l.take n))) R) : ae P f fn df k tm sto R := by
 refine ⟨fun E G a w b h1 h2 h3 h4 h5 h6 h7 h8 h9 => h.go E G a w b h1 h2 h3 h4 h5 h6 h7 ?_ h9⟩
 refine ⟨fun i g' o hi => ?_, fun i i' g1 g2 o o' hi hi' hne b hb => ?_⟩
 ·rw [bD] at hi
  split at hi
  ·rename_i e; subst e
   simp only [Option.some.injEq, Prod.mk.injEq] at hi
   obtain ⟨rfl, rfl⟩ := hi
   obtain ⟨ob, cap, k1, k2, k3, k4, k5, k6, k7, k8⟩ := h8.obj _ _ _ hg
   have ht : ∀ (i : Nat) (x : List aa), (l.take n)[i]? = some x → l[i]? = some x := by
    intro i x hx
    rw [List.getElem?_take] at hx
    split at hx
    ·exact hx
    ·cases hx
   refine ⟨ob, cap, k1, ?_, ?_, k4, fun i x hx => k5 i x (ht i x hx), fun i j x y hx hy => k6 i j x y (ht i x hx) hy, k7, fun b hb => ?_⟩
   ·rw [List.length_take]; omega
   ·rw [List.length_take]; omega
   ·obtain ⟨q1, q2, c, e, q3, q4, q5⟩ := k8 b hb
    exact ⟨q1, q2, c, e, q3, q4, fun i j x y hx hy => q5 i j x y (ht i x hx) hy⟩
  ·exact h8.obj _ _ _ hi
 ·have key : ∀ i h o, ak (aF sto id (g, .row esz (l.take n))) i = some (h, o) → ∃ o', ak sto i = some (h, o') := by
   intro i h o hh
   rw [bD] at hh
   split at hh
   ·rename_i e; subst e
    simp only [Option.some.injEq, Prod.mk.injEq] at hh
    exact ⟨_, by rw [hg, ← hh.1]⟩
   ·exact ⟨_, hh⟩
  obtain ⟨p, hp⟩ := key _ _ _ hi
  obtain ⟨p', hp'⟩ := key _ _ _ hi'
  exact h8.apart _ _ _ _ _ _ hp hp' hne b hb
theorem ae.at {P : Program} {f : Nat} {fn : Func} {df : List dt} {k : List Item} {tm : Tm} {sto : Sto} {R : aa → Sto → Prop} {ops : Array Oper} {b : Bool} (id : Nat) (h : ae P f fn df (.code (.region id ops b) :: k) tm sto R) : ae P f fn df (.code (.region id ops b) :: k) tm sto R := h
theorem mH {σ : Ids} {ln : List Nat} {sto : Sto} {id g off len esz : Nat} {l : List (List aa)} (hi : cZ σ id = none) (hln : ln.contains id = true) (hg : ak sto id = some (g, .row esz l)) (h : off + len ≤ l.length) : tr σ ln sto (.osl id g off len) = .sl false false ((l.drop off).take len) := by
 simp only [tr, tr1, hi, hln, hg, if_true, h, and_self]
theorem iQ (l : List Int) (off len : Nat) : ((ints l).drop off).take len = ints ((l.drop off).take len) := by
 simp [ints]
end Go.Rad
namespace Go.Rad
open Go
theorem ae.eI {P : Program} {f : Nat} {fn : Func} {k : List Item} {tm : Tm} {sto : Sto} {R : aa → Sto → Prop} (t id : Nat) {g : Nat} {cs : List aa} (ht : lk tm t = .bx id g 0) (hg : ak sto id = some (g, .box cs)) (hz : cs.all aa.bT = true)
  (h : ae P f fn [] k ((t, .ref true cs) :: tm) (ca sto id) R) : ae P f fn [] k tm sto R := by
 refine ⟨fun E G a w b h1 h2 h3 h4 h5 h6 h7 h8 h9 => ?_⟩
 obtain ⟨bb, cap, esz, k1, k2, c, e, k3, k4, k5, k6⟩ := h8.obj _ _ _ hg
 have hbid : au G id g = some bb := by simp [au, k1]
 have hext := sC (w := w) k2
 have hd : a.defers = [] := by
  cases hd : a.defers with
  | nil => rfl
  | cons => rw [hd] at h5; simp [kO] at h5
 refine h.go E (mj G w bb) a w b h1 h2 h3 h4 (by rw [hd]; trivial) (h6.trans hext) ⟨h7.K, fun b' o h => ?_, h7.M, h7.N, fun g l h => (h7.T g l h).mono hext.toMono⟩ ⟨fun i g' o h => ?_, fun i i' g1 g2 o o' h h' hne b' hb => ?_⟩ fun t' => ?_
 ·simp only [mj] at h
  split at h
  ·rename_i e; subst e; exact h
  ·exact h7.F b' o h
 ·rw [dq] at h
  split at h
  ·cases h
  ·rename_i hne
   have ho := h8.obj i g' o h
   refine ho.mono hext.toMono (fun b' hb' => ?_) (fun _ _ => rfl)
   have hb1 : au G i g' = some b' := hb'
   have : b' ≠ bb := by
    rintro rfl
    exact h8.apart id i g g' _ o hg h hne b' hbid hb1
   simp only [mj, if_neg this]
   exact (ho.blk h7 b' hb1).1
 ·rw [dq] at h h'
  split at h
  ·cases h
  ·split at h'
   ·cases h'
   ·exact h8.apart i i' g1 g2 o o' h h' hne b' hb
 ·simp only [lk]
  split
  ·rename_i e2; subst e2
   have hr := h9 t
   rw [ht] at hr
   generalize a.tmps.getD t undef = v at hr
   cases hr with
   | @bx _ _ _ b2 cap2 esz2 hM =>
    rw [k1] at hM
    simp only [Option.some.injEq, Hd.mk.injEq] at hM
    obtain ⟨rfl, _, _⟩ := hM
    refine .ref (c := c) (e := e) (fr := (0, 0)) (.inl (.inl rfl)) (by simp [mj, k3]) (by omega) k5 fun j x hx => ?_
    have := (k6 j x hx).down (List.all_eq_true.1 hz x (List.mem_of_getElem? hx))
    rw [Nat.zero_add]
    exact this.mono hext.toMono
  ·exact (h9 t').mono hext.toMono
theorem we {α β : Type} {f : α → β} {a b : α} {a' b' : β} (h : f a = a') (k : f b = b') : [a, b].map f = [a', b'] := by rw [List.map_cons, List.map_cons, List.map_nil, h, k]
theorem pQ {α β : Type} {f : α → β} {a b c : α} {a' b' c' : β} (h : f a = a') (k : f b = b') (l : f c = c') : [a, b, c].map f = [a', b', c'] := by rw [List.map_cons, List.map_cons, List.map_cons, List.map_nil, h, k, l]
theorem mG {q f : Bool} {l l' : List Int} (h : l = l') : aa.sl q f (ints l) = .sl q f (ints l') := by rw [h]
end Go.Rad
namespace Go.Rad
open Go
abbrev Out := List Node × Int × Int
def atF (A : List Int) (k : Int) : Int := A.getD k.toNat 0
def ek (n : Node) (A : List Int) (out : List Node) : Out :=
 if 1024 ≤ out.length then (out, 0, 3) else (out ++ [{ n with l := n.l.map (atF A) }], out.length, 0)
def stepT (nm : ByteArray → List Node → Out) (n : Node) (A : List Int) (out : List Node) : Out := if n.op = 6 then nm n.name out else ek n A out
def goT (nm : ByteArray → List Node → Out) : List Node → List Int → List Node → Out
 | [], A, out => (out, A.getLastD 0, 0)
 | n :: ns, A, out =>
  if (stepT nm n A out).2.2 = 0 then goT nm ns (A ++ [(stepT nm n A out).2.1]) (stepT nm n A out).1
  else ((stepT nm n A out).1, 0, (stepT nm n A out).2.2)
def dJ (ds : List Df) (s : ByteArray) : Option Df := ds.find? fun d => decide (d.name = s)
def hasB (op : List ByteArray) (s : ByteArray) : Bool := op.any fun x => decide (x = s)
theorem zz {op : List ByteArray} {s : ByteArray} : hasB op s = true ↔ s ∈ op := by
 simp [hasB]
theorem qI {op : List ByteArray} {s : ByteArray} : hasB op s = false ↔ s ∉ op := by
 rw [← zz]; simp
def aP (ds : List Df) : Nat → List ByteArray → ByteArray → List Node → Out
 | 0, _, _, out => (out, 0, 61)
 | f + 1, op, s, out =>
  match dJ ds s with
  | none => (out, 0, 60)
  | some d => if hasB op s = true then (out, 0, 61) else goT (aP ds f (op ++ [s])) d.l [] out
def dmap (ds : List Df) : List (ByteArray × aa) := ds.map fun d => (d.name, .sl true false (nodes d.l))
def omap (op : List ByteArray) : List (ByteArray × aa) := op.map fun s => (s, .bool true)
theorem uM (ds : List Df) (s : ByteArray) : er (dmap ds) s = (dJ ds s).map fun d => .sl true false (nodes d.l) := by
 simp only [er, dmap, dJ, List.find?_map, Option.map_map]
 rfl
theorem nR (op : List ByteArray) (s : ByteArray) : er (omap op) s = if hasB op s = true then some (aa.bool true) else none := by
 induction op with
 | nil => rfl
 | cons x op ih =>
  simp only [er, omap, List.map_cons, List.find?_cons, hasB, List.any_cons] at ih ⊢
  by_cases h : x = s
  ·subst h; simp
  ·simp only [h, decide_false, Bool.false_or]
   exact ih
theorem pR {op : List ByteArray} {s : ByteArray} (h : s ∉ op) : eQ (omap op) s (.bool true) = omap (op ++ [s]) := by
 induction op with
 | nil => rfl
 | cons x op ih =>
  simp only [List.mem_cons, not_or] at h
  simp only [omap, List.map_cons, eQ, List.cons_append, if_neg (Ne.symm h.1)]
  rw [show eQ (List.map (fun s => (s, aa.bool true)) op) s (aa.bool true) = _ from ih h.2]
  rfl
theorem xF {op : List ByteArray} {s : ByteArray} (h : s ∉ op) : j7 (omap (op ++ [s])) s = omap op := by
 induction op with
 | nil => simp [omap, j7]
 | cons x op ih =>
  simp only [List.mem_cons, not_or] at h
  simp only [omap, List.map_cons, j7, List.cons_append, if_neg (Ne.symm h.1)]
  rw [show j7 (List.map (fun s => (s, aa.bool true)) (op ++ [s])) s = _ from ih h.2]
  rfl
theorem xI {ds : List Df} {d : Df} (h : ∀ e ∈ ds, e.name ≠ d.name) : eQ (dmap ds) d.name (.sl true false (nodes d.l)) = dmap (ds ++ [d]) := by
 induction ds with
 | nil => rfl
 | cons x ds ih =>
  simp only [dmap, List.map_cons, eQ, List.cons_append, if_neg (h x (by simp))]
  rw [show eQ (List.map (fun d => (d.name, aa.sl true false (nodes d.l))) ds) d.name (aa.sl true false (nodes d.l)) = _ from ih fun e he => h e (by simp [he])]
  rfl
theorem Ds {W xl : List Int} {F : Int → Int} {i : Nat} {k : Int} (hW : W = (xl.take i).map F ++ xl.drop i) (hk : xl[i]? = some k) : W.length = xl.length ∧ W[i]? = some k ∧ W.set i (F k) = (xl.take (i + 1)).map F ++ xl.drop (i + 1) := by
 have hi : i < xl.length := (List.getElem?_eq_some_iff.1 hk).1
 subst hW
 refine ⟨by simp; omega, ?_, ?_⟩
 ·rw [List.getElem?_append_right (by simp; omega)]
  simp only [List.length_map, List.length_take, Nat.min_eq_left (Nat.le_of_lt hi), Nat.sub_self, List.getElem?_drop, Nat.add_zero]
  exact hk
 ·have hd : xl.drop i = k :: xl.drop (i + 1) := by
   rw [List.drop_eq_getElem_cons hi]
   rw [List.getElem?_eq_getElem hi] at hk
   rw [Option.some.inj hk]
  rw [hd, List.set_append_right _ _ (by simp; omega)]
  simp only [List.length_map, List.length_take, Nat.min_eq_left (Nat.le_of_lt hi), Nat.sub_self, List.set_cons_zero]
  rw [take_one hk, List.map_append]
  simp
theorem uq (l : List Int) : dR (ints l) = true := by
 induction l with
 | nil => rfl
 | cons x l ih => simpa [ints, dR, de, clean] using ih
theorem hJ (l : List Node) : dR (nodes l) = true := by
 induction l with
 | nil => rfl
 | cons x l ih =>
  have := uq x.l
  simp only [nodes, List.map_cons, dR, de, clean, this, Bool.and_self, Bool.and_true, Bool.true_and] at ih ⊢
  exact ih
theorem mZ (ds : List Df) : fB (dmap ds) = true := by
 induction ds with
 | nil => rfl
 | cons x l ih =>
  have := hJ x.l
  simp only [dmap, List.map_cons, fB, clean, this, Bool.and_self, Bool.and_true, Bool.true_and] at ih ⊢
  exact ih
theorem nf (op : List ByteArray) : fB (omap op) = true := by
 induction op with
 | nil => rfl
 | cons x l ih =>
  simp only [omap, List.map_cons, fB, clean, Bool.true_and] at ih ⊢
  exact ih
theorem Aq {n : Node} {A W out : _} (h : ∀ k ∈ n.l, atF W k = atF A k) : ek n W out = ek n A out := by
 simp only [ek, List.map_congr_left h]
theorem qp {A B : List Int} {k : Int} (h0 : 0 ≤ k) (h : k < A.length) : atF (A ++ B) k = atF A k := by
 have : k.toNat < A.length := by omega
 simp [atF, List.getD, List.getElem?_append_left this]
theorem n7 {n : Node} {A : List Int} {out : List Node} (h : out.length ≤ 1024) : (ek n A out).1.length ≤ 1024 := by
 unfold ek; split
 ·exact h
 ·simp only [List.length_append, List.length_cons, List.length_nil]; omega
theorem qH {nm : ByteArray → List Node → Out} (hn : ∀ s out, out.length ≤ 1024 → (nm s out).1.length ≤ 1024) : ∀ (l : List Node) (A : List Int) (out : List Node), out.length ≤ 1024 → (goT nm l A out).1.length ≤ 1024
 | [], A, out, h => h
 | n :: ns, A, out, h => by
  have h1 : (stepT nm n A out).1.length ≤ 1024 := by
   unfold stepT
   split
   ·exact hn _ _ h
   ·exact n7 h
  rw [goT]
  split
  ·exact qH hn ns _ _ h1
  ·exact h1
theorem fV (ds : List Df) : ∀ (f : Nat) (op : List ByteArray) (s : ByteArray) (out : List Node), out.length ≤ 1024 → (aP ds f op s out).1.length ≤ 1024
 | 0, _, _, _, h => h
 | f + 1, op, s, out, h => by
  rw [aP]
  split
  ·exact h
  ·split
   ·exact h
   ·exact qH (fun s out h => fV ds f _ s out h) _ _ _ h
def oH (l : List Node) : Prop := (1 ≤ l.length ∧ l.length ≤ 1000000) ∧ ∀ (i : Nat) (n : Node), l[i]? = some n → n.name.size ≤ maxLen ∧ n.l.length ≤ 1000000 ∧ ∀ k ∈ n.l, 0 ≤ k ∧ k < (i : Int)
def bz : List ByteArray → List Df → Bool
 | _, [] => true
 | seen, d :: ds => if hasB seen d.name = true ∨ bl d.name = false ∨ az d.l = false then false else bz (seen ++ [d.name]) ds
def ay (l : List Node) (ds : List Df) : List Node × Int :=
 if az l = true ∧ bz [] ds = true then
  if (goT (aP ds (ds.length + 1) []) l [] []).2.2 = 0 then ((goT (aP ds (ds.length + 1) []) l [] []).1, 0) else ([], (goT (aP ds (ds.length + 1) []) l [] []).2.2)
 else ([], 1)
theorem qb : ∀ (ns : List Node) (i : Nat) (st st' : List Int), ed ns i st = some st' → st.length ≤ i → (∀ k ∈ st, 0 ≤ k ∧ k < (i : Int)) → ∀ (j : Nat) (n : Node), ns[j]? = some n → n.l.length ≤ i + j ∧ ∀ k ∈ n.l, 0 ≤ k ∧ k < ((i + j : Nat) : Int)
 | [], _, _, _, _, _, _, j, n, h => by simp at h
 | m :: ns, i, st, st', h, hl, hb, j, n, hj => by
  simp only [ed] at h
  split at h
  ·rename_i hc
   cases j with
   | zero =>
    simp only [List.getElem?_cons_zero, Option.some.injEq] at hj
    subst hj
    refine ⟨by omega, fun k hk => ?_⟩
    rw [← hc.2.2] at hk
    have := hb k (List.mem_of_mem_drop hk)
    omega
   | succ j =>
    have := qb ns (i + 1) _ st' h (by simp; omega) (fun k hk => by
     rcases List.mem_append.1 hk with hk | hk
     ·have := hb k (List.mem_of_mem_take hk); omega
     ·simp only [List.mem_singleton] at hk; omega) j n (by simpa using hj)
    rw [show i + (j + 1) = i + 1 + j by omega]
    exact this
  ·cases h
theorem dp {l : List Node} (h : az l = true) (hn : ∀ n ∈ l, n.name.size ≤ maxLen) : oH l := by
 obtain ⟨_, _, h1, h2⟩ := bH h
 simp only [az, Bool.and_eq_true] at h
 obtain ⟨_, h3⟩ := h
 split at h3
 ·rename_i st hst
  refine ⟨⟨h1, by omega⟩, fun i n hi => ?_⟩
  have := qb l 0 [] st hst (Nat.le_refl _) (fun k hk => by simp at hk) i n hi
  have hlt : i < l.length := (List.getElem?_eq_some_iff.1 hi).1
  rw [Nat.zero_add] at this
  exact ⟨hn n (List.mem_of_getElem? hi), by omega, this.2⟩
 ·cases h3
theorem gG : ∀ (ds : List Df) (seen : List ByteArray), bz seen ds = true → (∀ d ∈ ds, hasB seen d.name = false ∧ bl d.name = true ∧ az d.l = true) ∧ ∀ (i : Nat) (d : Df), ds[i]? = some d → ∀ e ∈ ds.take i, e.name ≠ d.name
 | [], _, _ => ⟨fun d hd => by simp at hd, fun i d h => by simp at h⟩
 | x :: ds, seen, h => by
  rw [bz] at h
  split at h
  ·cases h
  ·rename_i hc
   simp only [not_or, Bool.not_eq_true, Bool.not_eq_false] at hc
   obtain ⟨f1, f2⟩ := gG ds _ h
   refine ⟨fun d hd => ?_, fun i d hi e he => ?_⟩
   ·rcases List.mem_cons.1 hd with rfl | hd
    ·exact hc
    ·obtain ⟨a, b⟩ := f1 d hd
     refine ⟨?_, b⟩
     simp only [hasB, List.any_append, Bool.or_eq_false_iff] at a ⊢
     exact a.1
   ·cases i with
    | zero => simp at he
    | succ i =>
     simp only [List.getElem?_cons_succ] at hi
     simp only [List.take_succ_cons, List.mem_cons] at he
     rcases he with rfl | he
     ·have := (f1 d (List.mem_of_getElem? hi)).1
      simp only [hasB, List.any_append, Bool.or_eq_false_iff, List.any_cons, List.any_nil, Bool.or_false, decide_eq_false_iff_not] at this
      exact this.2
     ·exact f2 i d hi e he
end Go.Rad
namespace Go.Rad
open Go
structure Ru where
 conds : List Int
 fold : Bool
 line : Bool
 kind : ByteArray
 to : Int
 pos : Int
 l : List Node
deriving DecidableEq
abbrev Ru.cells (r : Ru) : List aa := [.sl true false (ints r.conds), .bool r.fold, .bool r.line, .str r.kind, .int .i64 r.to, .int .i64 r.pos, .sl true false (nodes r.l)]
abbrev bm (l : List Ru) : List (List aa) := l.map Ru.cells
abbrev cz (l : List ByteArray) : List (List aa) := l.map fun s => [.str s]
structure Fl where
 conds : List ByteArray
 defs : List Df
 rules : List Ru
abbrev Fl.cells (f : Fl) : List aa := [.sl true false (cz f.conds), .sl true false (Rad.defs f.defs), .sl true false (bm f.rules)]
def bn : ByteArray := ⟨#[115, 116, 97, 114, 116]⟩
def jB (s : ByteArray) : List ByteArray → Nat → Int
 | [], _ => -1
 | x :: l, i => if decide (s = x) = true then (i : Int) else jB s l (i + 1)
def qK (s : Int) : List Int → Nat → Int
 | [], _ => -1
 | x :: l, i => if decide (s = x) = true then (i : Int) else qK s l (i + 1)
def qL (p : Ru → Bool) : List Ru → Nat → Int
 | [], _ => -1
 | x :: l, i => if p x = true then (i : Int) else qL p l (i + 1)
theorem sI (p : Ru → Bool) : ∀ (l : List Ru) (i : Nat), decide (0 ≤ qL p l i) = l.any p
 | [], _ => rfl
 | x :: l, i => by
  rw [qL, List.any_cons]
  cases h : p x
  ·simp only [Bool.false_eq_true, if_false, Bool.false_or]; exact sI p l (i + 1)
  ·simp only [if_true, Bool.true_or]; exact decide_eq_true (by omega)
theorem sH (s : Int) : ∀ (l : List Int) (i : Nat), decide (0 ≤ qK s l i) = decide (s ∈ l)
 | [], _ => rfl
 | x :: l, i => by
  rw [qK]
  by_cases h : s = x
  ·simp only [h, decide_true, if_true, List.mem_cons, true_or]; exact decide_eq_true (by omega)
  ·simp only [h, decide_false, Bool.false_eq_true, if_false, List.mem_cons, false_or]; exact sH s l (i + 1)
def upI (n : Int) : Int → List Int → Bool
 | _, [] => true
 | a, x :: l => if decide (x ≤ a) = true then false else if decide (n ≤ x) = true then false else upI n x l
def fQ : Int → List Int → Int
 | a, [] => a
 | _, x :: l => fQ x l
def jf (n : Int) (ds : List Df) (r : Ru) : Bool :=
 upI n (-1) r.conds && (decide (0 ≤ fQ (-1) r.conds) && ((decide (r.kind = ⟨#[]⟩) || bl r.kind) && (decide (-1 ≤ r.to) && (decide (r.to < n) && (decide (0 ≤ r.pos) && decide ((ay r.l ds).2 = 0))))))
def dS (cs : List ByteArray) : List ByteArray → Nat → Bool
 | [], _ => true
 | s :: l, i => if bl s = true then if decide (jB s cs 0 = (i : Int)) = true then dS cs l (i + 1) else false else false
def qJ (f : Fl) : Bool :=
 match f.conds with
 | [] => false
 | s :: _ => decide (f.conds.length ≤ 8) && (decide (s = bn) && (decide (f.rules.length ≤ 64) && bz [] f.defs))
def bG (f : Fl) : Bool := qJ f && (dS f.conds f.conds 0 && !f.rules.any fun r => !jf f.conds.length f.defs r)
theorem wJ {n : Int} : ∀ {l : List Int} {a : Int}, upI n a l = true → (l = [] ∨ a < fQ a l) ∧ (-1 ≤ a → -1 ≤ fQ a l)
 | [], a, _ => ⟨.inl rfl, fun h => h⟩
 | x :: l, a, h => by
  rw [upI] at h
  by_cases h1 : x ≤ a
  ·simp [h1] at h
  ·by_cases h2 : n ≤ x
   ·simp [h1, h2] at h
   ·simp only [h1, h2, decide_false, Bool.false_eq_true, if_false] at h
    have := wJ h
    rw [fQ]
    refine ⟨.inr ?_, fun ha => this.2 (by omega)⟩
    rcases this.1 with rfl | h3
    ·simp only [fQ]; omega
    ·omega
theorem CM (n : Int) (l : List Int) (h : upI n (-1) l = true) : decide (0 ≤ fQ (-1) l) = decide (l ≠ []) := by
 cases l with
 | nil => rfl
 | cons x l =>
  rcases (wJ h).1 with h1 | h1
  ·cases h1
  ·rw [decide_eq_true (show (0 : Int) ≤ fQ (-1) (x :: l) by omega)]; simp
end Go.Rad
namespace Go.Rad
open Go
structure Rd where
 p : Nat
 nodes : List Node
 deep : Int
 e : Int
 wh : Int
 deriving DecidableEq
def Rd.next (r : Rd) (n : Nat) : Rd := { r with p := r.p + n }
def inS (c : Nat) (l : ByteArray) : Bool := (List.range l.size).any fun i => decide (bt l i = c)
theorem ah.part {P : Program} {f : Nat} {args args1 : List aa} {sto sto1 : Sto} {v : aa} (σ : Ids) (hσ : dC σ = true) (h : ah P f args1 sto1 fun r s => r = v ∧ s = sto1) (ha : args.map (tr σ [] sto) = args1) (hs1 : jk σ [] sto σ = sto1) (hc1 : bB sto1 = true) (hv : bk σ v = v) (hb : bkS σ sto1 (aH σ sto) = sto) (hc : bB sto = true) :
  ah P f args sto fun r s => r = v ∧ s = sto := by
 refine ah.use σ [] hσ h ha hs1 hc1 fun r s hr => ?_
 obtain ⟨rfl, rfl⟩ := hr
 rw [hb]
 exact ⟨.inl rfl, hc, hv, rfl⟩
end Go.Rad
