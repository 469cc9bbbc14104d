/- A part of the proof. -/
import Derived.Test.YtmbhpolhiblhoaaGreatDoorKRDraw
import Derived.Test.YtmbhpolhiblhoaaGreatDoorKROpS
import Derived.Test.YtmbhpolhiblhoaaGreatDoorKREq
import Derived.Test.YtmbhpolhiblhoaaGreatDoorKRDefer
set_option linter.all false
set_option linter.all false
namespace Go.Rad
open Go
noncomputable section
def mg0 (r : Nat → Nat) : aa → aa
 | .loc id g i off => .loc id (r g) i off
 | .bx id g off => .bx id (r g) off
 | .osl id g off len => .osl id (r g) off len
 | .map id g => .map id (r g)
 | v => v
def mg1 (r : Nat → Nat) : aa → aa
 | .fn f cap => .fn f (cap.map (mg0 r))
 | v => mg0 r v
def mg2 (r : Nat → Nat) : aa → aa
 | .agg cs => .agg (cs.map (mg1 r))
 | v => mg1 r v
def mg (r : Nat → Nat) : aa → aa
 | .tup cs => .tup (cs.map (mg2 r))
 | v => mg2 r v
def mgO (r : Nat → Nat) : bc → bc
 | .box cs => .box (cs.map (mg1 r))
 | o => o
def mgS (r : Nat → Nat) : Sto → Sto
 | [] => []
 | (i, g, o) :: s => (i, r g, mgO r o) :: mgS r s
def mgT (r : Nat → Nat) : Tm → Tm
 | [] => []
 | (t, v) :: s => (t, mg r v) :: mgT r s
def bd0 (n : Nat) : aa → Bool
 | .loc _ g _ _ => Nat.blt g n
 | .bx _ g _ => Nat.blt g n
 | .osl _ g _ _ => Nat.blt g n
 | .map _ g => Nat.blt g n
 | _ => true
def bd1 (n : Nat) : aa → Bool
 | .fn _ cap => cap.all (bd0 n)
 | v => bd0 n v
def bd2 (n : Nat) : aa → Bool
 | .agg cs => cs.all (bd1 n)
 | v => bd1 n v
def bd (n : Nat) : aa → Bool
 | .tup cs => cs.all (bd2 n)
 | v => bd2 n v
def bdO (n : Nat) : bc → Bool
 | .box cs => cs.all (bd1 n)
 | _ => true
def bdS (n : Nat) : Sto → Bool
 | [] => true
 | (_, g, o) :: s => Nat.blt g n && bdO n o && bdS n s
def bdT (n : Nat) : Tm → Bool
 | [] => true
 | (_, v) :: s => bd n v && bdT n s
def lkF (tm : Tm) (n : Nat) : aa := List.rec (motive := fun _ => aa) .undef (fun hd _ ih => Bool.rec (motive := fun _ => aa) ih hd.2 (Nat.beq hd.1 n)) tm
theorem fD : ∀ (tm : Tm) (n : Nat), lkF tm n = lk tm n
 | [], _ => rfl
 | (m, v) :: tm, n => by
  have ih := fD tm n
  simp only [lk]
  split
  ·rename_i h; subst h
   show Bool.rec (motive := fun _ => aa) (lkF tm m) v (Nat.beq m m) = v
   rw [Nat.beq_refl]
  ·rename_i h
   show Bool.rec (motive := fun _ => aa) (lkF tm n) v (Nat.beq m n) = lk tm n
   rw [show Nat.beq m n = false by cases hb : Nat.beq m n with | false => rfl | true => exact absurd (Nat.eq_of_beq_eq_true hb) h]
   exact ih
def evF (tm : Tm) (x : Operand) : aa := Operand.rec (motive := fun _ => aa) (fun t => lkF tm t) (fun v => ofConst v) (fun g => ev tm (.global g)) (fun f => .fn f []) x
theorem nA (tm : Tm) (x : Operand) : evF tm x = ev tm x := by
 cases x with
 | tmp t => exact fD tm t
 | _ => rfl
theorem qC (tm : Tm) : evF tm = ev tm := funext (nA tm)
def bp (n : Nat) (r r' : Nat → Nat) : Prop := ∀ g, g < n → r g = r' g
section
variable {r r' : Nat → Nat} {n : Nat}
theorem bp.refl : bp n r r := fun _ _ => rfl
theorem bp.le {m : Nat} (h : bp n r r') (hm : m ≤ n) : bp m r r' := fun g hg => h g (Nat.lt_of_lt_of_le hg hm)
theorem bp.trans {r'' : Nat → Nat} {m : Nat} (h : bp n r r') (k : bp m r' r'') (hm : n ≤ m) : bp n r r'' := fun g hg => (h g hg).trans (k g (Nat.lt_of_lt_of_le hg hm))
theorem zY (h : bp n r r') {v : aa} (hv : bd0 n v = true) : mg0 r v = mg0 r' v := by
 cases v <;> simp only [bd0, Nat.blt_eq] at hv <;> simp only [mg0] <;> first | rfl | rw [h _ hv]
theorem wg (h : bp n r r') : ∀ {l : List aa}, l.all (bd0 n) = true → l.map (mg0 r) = l.map (mg0 r')
 | [], _ => rfl
 | v :: l, hv => by simp only [List.all_cons, Bool.and_eq_true] at hv; rw [List.map_cons, List.map_cons, zY h hv.1, wg h hv.2]
theorem z6 (h : bp n r r') {v : aa} (hv : bd1 n v = true) : mg1 r v = mg1 r' v := by
 cases v with
 | fn f cap => simp only [bd1] at hv; simp only [mg1, wg h hv]
 | _ => simp only [bd1] at hv; simp only [mg1]; exact zY h hv
theorem mz (h : bp n r r') : ∀ {l : List aa}, l.all (bd1 n) = true → l.map (mg1 r) = l.map (mg1 r')
 | [], _ => rfl
 | v :: l, hv => by simp only [List.all_cons, Bool.and_eq_true] at hv; rw [List.map_cons, List.map_cons, z6 h hv.1, mz h hv.2]
theorem Aa (h : bp n r r') {v : aa} (hv : bd2 n v = true) : mg2 r v = mg2 r' v := by
 cases v with
 | agg cs => simp only [bd2] at hv; simp only [mg2, mz h hv]
 | _ => simp only [bd2] at hv; simp only [mg2]; exact z6 h hv
theorem wk (h : bp n r r') : ∀ {l : List aa}, l.all (bd2 n) = true → l.map (mg2 r) = l.map (mg2 r')
 | [], _ => rfl
 | v :: l, hv => by simp only [List.all_cons, Bool.and_eq_true] at hv; rw [List.map_cons, List.map_cons, Aa h hv.1, wk h hv.2]
theorem Er (h : bp n r r') {v : aa} (hv : bd n v = true) : mg r v = mg r' v := by
 cases v with
 | tup cs => simp only [bd] at hv; simp only [mg, wk h hv]
 | _ => simp only [bd] at hv; simp only [mg]; exact Aa h hv
theorem IX (h : bp n r r') {o : bc} (hv : bdO n o = true) : mgO r o = mgO r' o := by
 cases o with
 | box cs => simp only [bdO] at hv; simp only [mgO, mz h hv]
 | _ => rfl
theorem nS (h : bp n r r') : ∀ {s : Sto}, bdS n s = true → mgS r s = mgS r' s
 | [], _ => rfl
 | (i, g, o) :: s, hv => by simp only [bdS, Bool.and_eq_true, Nat.blt_eq] at hv; simp only [mgS, h g hv.1.1, IX h hv.1.2, nS h hv.2]
theorem qT (h : bp n r r') : ∀ {s : Tm}, bdT n s = true → mgT r s = mgT r' s
 | [], _ => rfl
 | (t, v) :: s, hv => by simp only [bdT, Bool.and_eq_true] at hv; simp only [mgT, Er h hv.1, qT h hv.2]
theorem zZ {v : aa} (hv : bd0 0 v = true) : mg0 r v = v := by cases v <;> simp_all [bd0, mg0, Nat.blt]
theorem wi : ∀ {l : List aa}, l.all (bd0 0) = true → l.map (mg0 r) = l
 | [], _ => rfl
 | v :: l, hv => by simp only [List.all_cons, Bool.and_eq_true] at hv; rw [List.map_cons, zZ hv.1, wi hv.2]
theorem z7 {v : aa} (hv : bd1 0 v = true) : mg1 r v = v := by
 cases v with
 | fn f cap => simp only [bd1] at hv; simp only [mg1, wi hv]
 | _ => simp only [bd1] at hv; simp only [mg1]; exact zZ hv
theorem qS : ∀ {l : List aa}, l.all (bd1 0) = true → l.map (mg1 r) = l
 | [], _ => rfl
 | v :: l, hv => by simp only [List.all_cons, Bool.and_eq_true] at hv; rw [List.map_cons, z7 hv.1, qS hv.2]
theorem Ab {v : aa} (hv : bd2 0 v = true) : mg2 r v = v := by
 cases v with
 | agg cs => simp only [bd2] at hv; simp only [mg2, qS hv]
 | _ => simp only [bd2] at hv; simp only [mg2]; exact z7 hv
theorem wm : ∀ {l : List aa}, l.all (bd2 0) = true → l.map (mg2 r) = l
 | [], _ => rfl
 | v :: l, hv => by simp only [List.all_cons, Bool.and_eq_true] at hv; rw [List.map_cons, Ab hv.1, wm hv.2]
theorem cK {v : aa} (hv : bd 0 v = true) : mg r v = v := by
 cases v with
 | tup cs => simp only [bd] at hv; simp only [mg, wm hv]
 | _ => simp only [bd] at hv; simp only [mg]; exact Ab hv
theorem sY {v : aa} (h : v.aB = true) : mg r v = mg2 r v := by cases v <;> first | rfl | simp [aa.aB, aa.ar] at h
theorem C4 {v : aa} (h : v.ar = true) : mg r v = mg1 r v := by cases v <;> first | rfl | simp [aa.ar] at h
theorem uN {v : aa} : (mg1 r v).ar = v.ar := by cases v <;> rfl
theorem z8 {v : aa} (h : v.bT = true) : mg1 r v = v := by
 cases v with
 | fn f cap => cases cap <;> simp_all [aa.bT, mg1]
 | _ => first | rfl | simp [aa.bT] at h
theorem wj : ∀ {l : List aa}, l.all aa.bT = true → l.map (mg1 r) = l
 | [], _ => rfl
 | v :: l, hv => by simp only [List.all_cons, Bool.and_eq_true] at hv; rw [List.map_cons, z8 hv.1, wj hv.2]
theorem jC {v : aa} : (mg r v).aB = v.aB := by cases v <;> rfl
theorem gA {v : aa} (h : v.aB = true) : cellsOf (mg r v) = (cellsOf v).map (mg1 r) := by
 cases v <;> first | rfl | simp [aa.aB, aa.ar] at h
theorem dM (t : Nat) : ∀ (s : Tm), lk (mgT r s) t = mg r (lk s t)
 | [] => rfl
 | (j, v) :: s => by
  simp only [mgT, lk]
  split
  ·rfl
  ·exact dM t s
theorem s6 (v : Value) : mg1 r (bf v) = bf v := by
 unfold bf; split <;> rfl
theorem uR (v : Value) : mg r (ofConst v) = ofConst v := by
 unfold ofConst
 split
 ·simp only [mg, mg2, List.map_map]; congr 1; exact List.map_congr_left fun x _ => s6 x
 ·rename_i v _
  have : (bf v).aB = true → mg r (bf v) = mg1 r (bf v) := fun h => by unfold bf at *; split at h <;> rfl
  unfold bf; split <;> rfl
theorem aW (s : Tm) (x : Operand) : ev (mgT r s) x = mg r (ev s x) := by
 cases x with
 | tmp t => exact dM t s
 | const v => exact (uR v).symm
 | func f => rfl
 | global g => simp only [ev]; split <;> rfl
theorem aZ (i : Nat) : ∀ (s : Sto), ak (mgS r s) i = (ak s i).map fun x => (r x.1, mgO r x.2)
 | [] => rfl
 | (j, g, o) :: s => by
  simp only [mgS, ak]
  split
  ·rfl
  ·exact aZ i s
theorem fc (i g : Nat) (o : bc) : ∀ (s : Sto), mgS r (aF s i (g, o)) = aF (mgS r s) i (r g, mgO r o)
 | [] => rfl
 | (j, h, p) :: s => by
  simp only [aF, mgS]
  by_cases h1 : j = i
  ·simp only [h1, if_true, mgS]
  ·by_cases h2 : i < j
   ·simp only [h1, h2, if_false, if_true, mgS]
   ·simp only [h1, h2, if_false, mgS, fc i g o s]
theorem eY (i : Nat) : ∀ (s : Sto), mgS r (ca s i) = ca (mgS r s) i
 | [] => rfl
 | (j, h, p) :: s => by
  simp only [ca, mgS]
  by_cases h1 : j = i
  ·simp only [h1, if_true, eY i s]
  ·simp only [h1, if_false, mgS, eY i s]
end
def up (r : Nat → Nat) (n h : Nat) : Nat → Nat := fun g => if g = n then h else r g
theorem ee {r : Nat → Nat} {n h : Nat} : bp n r (up r n h) := fun g hg => by simp [up, Nat.ne_of_lt hg]
theorem cF {r : Nat → Nat} {n h : Nat} : up r n h n = h := by simp [up]
def req {α : Type} (b : Bool) (x : Option α) : Option α :=
 match b with
 | true => x
 | false => none
theorem aj {α : Type} {b : Bool} {x : Option α} {v : α} : req b x = some v ↔ b = true ∧ x = some v := by cases b <;> simp [req]
def nh (v : aa) : Option aa := req (bd 0 v) (some v)
theorem gB {v u : aa} : nh v = some u ↔ bd 0 v = true ∧ v = u := by simp [nh, aj]
def xMk (ti : TI) (cs : List aa) : Option aa :=
 match ti.ag with
 | true => some (.agg (cs.take ti.sz))
 | false => match cs with | c :: _ => req c.ar (some c) | [] => none
def ue (L : Lay) (t : Nat) (x : aa) (sto : Sto) : Option aa :=
 match x with
 | .bx id g off =>
  match ak sto id with
  | some (g', .box cs) => req (Nat.beq g' g && Nat.ble (off + (L t).sz) cs.length && Nat.blt 0 (L t).sz) (xMk (L t) (cs.drop off))
  | _ => none
 | .loc id g i off =>
  match ak sto id with
  | some (g', .row esz l) => req (Nat.beq g' g && Nat.ble (off + (L t).sz) esz && Nat.blt 0 (L t).sz) (l[i]?.bind fun y => (xMk (L t) (y.drop off)).bind nh)
  | _ => none
 | .ref _ cs => req (Nat.ble (L t).sz cs.length && Nat.blt 0 (L t).sz) ((xMk (L t) cs).bind nh)
 | _ => none
section
variable {r : Nat → Nat} {n : Nat} {P : Program} {L : Lay} {tm : Tm} {sto sto' : Sto} {v : aa} {T : aa → Prop} {U : aa → Sto → Prop}
theorem wo {id g off : Nat} : mg r (.bx id g off) = .bx id (r g) off := rfl
theorem Ac {id g i off : Nat} : mg r (.loc id g i off) = .loc id (r g) i off := rfl
theorem im {id g off len : Nat} : mg r (.osl id g off len) = .osl id (r g) off len := rfl
theorem qU {id g : Nat} : mg r (.map id g) = .map id (r g) := rfl
theorem L7 {q f : Bool} {l : List (List aa)} : mg r (.sl q f l) = .sl q f l := rfl
theorem uO {k : IntKind} {m : Int} : mg r (.int k m) = .int k m := rfl
theorem Ad {s : ByteArray} : mg r (.str s) = .str s := rfl
theorem wO {ti : TI} {cs : List aa} (h : xMk ti cs = some v) : mkv ti cs = v := by
 unfold xMk at h; unfold mkv
 split at h
 ·rename_i ha; rw [if_pos ha]; exact Option.some.inj h
 ·rename_i ha; rw [if_neg (by simp [ha])]
  split at h
  ·rw [aj] at h; exact Option.some.inj h.2
  ·cases h
theorem vy {ti : TI} {cs : List aa} (h : xMk ti cs = some v) : mkv ti (cs.map (mg1 r)) = mg r v := by
 unfold xMk at h; unfold mkv
 split at h
 ·rename_i ha; rw [if_pos ha, ← Option.some.inj h]; simp only [mg, mg2, List.map_take]
 ·rename_i ha; rw [if_neg (by simp [ha])]
  split at h
  ·rw [aj] at h
   rw [← Option.some.inj h.2, C4 h.1]; rfl
  ·cases h
theorem uf {t : Nat} {x : aa} (h : ue L t x sto = some v) (hT : T (mg r v)) : bM L t (mg r x) (mgS r sto) T := by
 unfold ue at h
 split at h
 ·split at h
  ·rename_i id g off _ g' cs hg
   simp only [aj, Bool.and_eq_true, Nat.beq_eq, Nat.ble_eq, Nat.blt_eq] at h
   obtain ⟨⟨⟨rfl, h2⟩, h3⟩, h4⟩ := h
   simp only [mg, mg2, mg1, mg0, bM, aZ, hg, Option.map_some, mgO, List.length_map, true_and]
   refine ⟨h2, h3, ?_⟩
   rw [← List.map_drop, vy h4]; exact hT
  ·cases h
 ·split at h
  ·rename_i id g i off _ g' esz l hg
   simp only [aj, Bool.and_eq_true, Nat.beq_eq, Nat.ble_eq, Nat.blt_eq, Option.bind_eq_some_iff, gB] at h
   obtain ⟨⟨⟨rfl, h2⟩, h3⟩, y, hy, u, hu, hb, rfl⟩ := h
   simp only [mg, mg2, mg1, mg0, bM, aZ, hg, Option.map_some, mgO, true_and]
   refine ⟨(List.getElem?_eq_some_iff.1 hy).1, h2, h3, fun z hz => ?_⟩
   rw [hy] at hz; cases hz
   rw [wO hu, ← cK (r := r) hb]; exact hT
  ·cases h
 ·simp only [aj, Bool.and_eq_true, Nat.ble_eq, Nat.blt_eq, Option.bind_eq_some_iff, gB] at h
  obtain ⟨⟨h2, h3⟩, u, hu, hb, rfl⟩ := h
  simp only [mg, mg2, mg1, mg0, bM]
  refine ⟨h2, h3, ?_⟩
  rw [wO hu, ← cK (r := r) hb]; exact hT
 ·cases h
def rY (L : Lay) (t : Nat) (x v : aa) (sto : Sto) : Option Sto :=
 match x with
 | .bx id g off =>
  match ak sto id with
  | some (g', .box cs) => req (v.aB && Nat.beq (cellsOf v).length (L t).sz && Nat.beq g' g && Nat.ble (off + (L t).sz) cs.length) (some (aF sto id (g, .box (bL cs off (cellsOf v)))))
  | _ => none
 | .loc id g i off =>
  match ak sto id with
  | some (g', .row esz l) => req (bd 0 v && (ez v).aB && Nat.beq (cellsOf (ez v)).length (L t).sz && (cellsOf (ez v)).all aa.bT && Nat.beq g' g && Nat.ble (off + (L t).sz) esz)
    (l[i]?.bind fun y => some (aF sto id (g, .row esz (l.set i (bL y off (cellsOf (ez v)))))))
  | _ => none
 | _ => none
theorem qa {cs vs : List aa} {off : Nat} : bL (cs.map (mg1 r)) off (vs.map (mg1 r)) = (bL cs off vs).map (mg1 r) := by
 simp only [bL, List.map_append, List.map_take, List.map_drop, List.length_map]
theorem yL {t : Nat} {x v : aa} {V : Sto → Prop} (h : rY L t x v sto = some sto') (hT : V (mgS r sto')) : cj L t (mg r x) (mg r v) (mgS r sto) V := by
 unfold rY at h
 split at h
 ·split at h
  ·rename_i id g off _ g' cs hg
   simp only [aj, Bool.and_eq_true, Nat.beq_eq, Nat.ble_eq, Option.some.injEq] at h
   obtain ⟨⟨⟨⟨h1, h2⟩, rfl⟩, h4⟩, rfl⟩ := h
   simp only [wo, Ac, cj, cH, aZ, hg, Option.map_some, mgO, List.length_map, true_and]
   refine ⟨by rw [← jC (r := r)] at h1; exact h1, by rw [show (cellsOf (mg r v)).length = (cellsOf v).length by rw [gA h1, List.length_map]]; exact h2, h4, ?_⟩
   rw [fc] at hT
   simp only [mgO] at hT
   rw [show cellsOf (mg r v) = (cellsOf v).map (mg1 r) from gA h1, qa]; exact hT
  ·cases h
 ·split at h
  ·rename_i id g i off _ g' esz l hg
   simp only [aj, Bool.and_eq_true, Nat.beq_eq, Nat.ble_eq, Option.bind_eq_some_iff, Option.some.injEq] at h
   obtain ⟨⟨⟨⟨⟨⟨h0, h1⟩, h2⟩, h3⟩, rfl⟩, h4⟩, y, hy, rfl⟩ := h
   simp only [wo, Ac, cj, cH, aZ, hg, Option.map_some, mgO, true_and]
   have e : mg r v = v := cK h0
   rw [show ez (mg r v) = ez v by rw [e]]
   refine ⟨h1, h2, (List.getElem?_eq_some_iff.1 hy).1, h4, h3, fun z hz => ?_⟩
   rw [hy] at hz; cases hz
   rw [fc] at hT; exact hT
  ·cases h
 ·cases h
def rP (ti : TI) (x : aa) (f : Nat) : Option aa :=
 (kW ti f).bind fun o =>
  match x with
  | .bx id g off => some (.bx id g (off + o.1))
  | .loc id g i off => some (.loc id g i (off + o.1))
  | .ref q cs => req (Nat.ble o.1 cs.length) (some (.ref q (cs.drop o.1)))
  | _ => none
theorem yC {ti : TI} {x : aa} {f : Nat} (h : rP ti x f = some v) (hT : T (mg r v)) : cV ti (mg r x) f T := by
 unfold rP at h
 simp only [Option.bind_eq_some_iff] at h
 obtain ⟨⟨o, k⟩, ho, h⟩ := h
 unfold cV
 rw [ho]
 split at h
 ·cases h; exact hT
 ·cases h; exact hT
 ·simp only [aj, Nat.ble_eq, Option.some.injEq] at h
  obtain ⟨h1, rfl⟩ := h
  exact ⟨h1, hT⟩
 ·cases h
def gO (L : Lay) (t : Nat) (x i : aa) (sto : Sto) : Option aa :=
 match i with
 | .int _ n =>
  match (L t).ty with
  | .slice e =>
   match x with
   | .osl id g off len =>
    match ak sto id with
    | some (g', .row esz _) => req (Nat.beq g' g && Nat.beq esz (L e).sz && decide (0 ≤ n) && Nat.blt n.toNat len) (some (.loc id g (off + n.toNat) 0))
    | _ => none
   | .sl q _ l => req (decide (0 ≤ n)) (l[n.toNat]?.bind fun y => req (Nat.beq y.length (L e).sz) (some (.ref q y)))
   | _ => none
  | .array m e =>
   req (decide (0 ≤ n) && Nat.blt n.toNat m)
    (match x with
    | .bx id g off => some (.bx id g (off + n.toNat * (L e).sz))
    | .loc id g j off => some (.loc id g j (off + n.toNat * (L e).sz))
    | .ref q cs => req (Nat.ble (n.toNat * (L e).sz) cs.length) (some (.ref q (cs.drop (n.toNat * (L e).sz))))
    | _ => none)
  | _ => none
 | _ => none
theorem ph {t : Nat} {x i : aa} (h : gO L t x i sto = some v) (hT : T (mg r v)) : aE L t (mg r x) (mg r i) (mgS r sto) T := by
 unfold gO at h
 split at h
 ·rename_i k n
  split at h
  ·rename_i e he
   split at h
   ·split at h
    ·rename_i id g off len _ g' esz l hg
     simp only [aj, Bool.and_eq_true, Nat.beq_eq, Nat.blt_eq, Option.some.injEq, decide_eq_true_eq] at h
     obtain ⟨⟨⟨⟨rfl, h2⟩, h3⟩, h4⟩, rfl⟩ := h
     simp only [mg, mg2, mg1, mg0, aE, he, aZ, hg, Option.map_some, mgO, true_and]
     exact ⟨h2, ⟨h3, by omega⟩, hT⟩
    ·cases h
   ·simp only [aj, Option.bind_eq_some_iff, decide_eq_true_eq, Nat.beq_eq, Option.some.injEq] at h
    obtain ⟨h1, y, hy, h2, rfl⟩ := h
    simp only [mg, mg2, mg1, mg0, aE, he]
    refine ⟨⟨h1, by have := (List.getElem?_eq_some_iff.1 hy).1; omega⟩, fun z hz => ?_⟩
    rw [hy] at hz; cases hz
    exact ⟨h2, hT⟩
   ·cases h
  ·rename_i m e he
   simp only [aj, Bool.and_eq_true, Nat.blt_eq, decide_eq_true_eq] at h
   obtain ⟨⟨h1, h2⟩, h⟩ := h
   have h3 : n < m := by omega
   split at h
   ·cases h
    simp only [mg, mg2, mg1, mg0, aE, he]
    exact ⟨⟨h1, h3⟩, hT⟩
   ·cases h
    simp only [mg, mg2, mg1, mg0, aE, he]
    exact ⟨⟨h1, h3⟩, hT⟩
   ·simp only [aj, Nat.ble_eq, Option.some.injEq] at h
    obtain ⟨h4, rfl⟩ := h
    simp only [mg, mg2, mg1, mg0, aE, he]
    exact ⟨⟨h1, h3⟩, h4, hT⟩
   ·cases h
  ·cases h
 ·cases h
def rR (L : Lay) (t : Nat) (x i : aa) : Option aa :=
 match i with
 | .int _ n =>
  match (L t).ty, x with
  | .string, .str s => req (decide (0 ≤ n) && Nat.blt n.toNat s.size) (some (.int .u8 (kB s n.toNat)))
  | .array m e, .agg cs => req (decide (0 ≤ n) && Nat.blt n.toNat m && Nat.ble (n.toNat * (L e).sz + (L e).sz) cs.length && Nat.blt 0 (L e).sz) (xMk (L e) (cs.drop (n.toNat * (L e).sz)))
  | _, _ => none
 | _ => none
theorem yG {t : Nat} {x i : aa} (h : rR L t x i = some v) (hT : T (mg r v)) : db L t (mg r x) (mg r i) T := by
 unfold rR at h
 split at h
 ·rename_i k n
  split at h
  ·rename_i s he
   simp only [aj, Bool.and_eq_true, Nat.blt_eq, decide_eq_true_eq, Option.some.injEq] at h
   obtain ⟨⟨h1, h2⟩, rfl⟩ := h
   simp only [mg, mg2, mg1, mg0, db, he]
   exact ⟨⟨h1, by omega⟩, hT⟩
  ·rename_i m e cs he
   simp only [aj, Bool.and_eq_true, Nat.blt_eq, Nat.ble_eq, decide_eq_true_eq] at h
   obtain ⟨⟨⟨⟨h1, h2⟩, h3⟩, h4⟩, h5⟩ := h
   simp only [mg, mg2, mg1, mg0, db, he, List.length_map]
   refine ⟨⟨h1, by omega⟩, h3, h4, ?_⟩
   rw [← List.map_drop, vy h5]; exact hT
  ·cases h
 ·cases h
def kN (L : Lay) (t : Nat) (x : aa) (f : Nat) : Option aa :=
 match kW (L t) f, x with
 | some (o, ft), .agg cs => req (Nat.ble (o + (L ft).sz) cs.length && Nat.blt 0 (L ft).sz) (xMk (L ft) (cs.drop o))
 | _, _ => none
theorem tZ {t : Nat} {x : aa} {f : Nat} (h : kN L t x f = some v) (hT : T (mg r v)) : ch L t (mg r x) f T := by
 unfold kN at h
 split at h
 ·rename_i o ft cs ho
  simp only [aj, Bool.and_eq_true, Nat.blt_eq, Nat.ble_eq] at h
  obtain ⟨⟨h1, h2⟩, h3⟩ := h
  simp only [mg, mg2, mg1, mg0, ch, ho, List.length_map]
  refine ⟨h1, h2, ?_⟩
  rw [← List.map_drop, vy h3]; exact hT
 ·cases h
def kM (x : aa) (i : Nat) : Option aa :=
 match x with
 | .tup vs => vs[i]?.bind fun v => req v.aB (some v)
 | _ => none
theorem tY {x : aa} {i : Nat} (h : kM x i = some v) (hT : T (mg r v)) : bV (mg r x) i T := by
 unfold kM at h
 split at h
 ·simp only [Option.bind_eq_some_iff, aj, Option.some.injEq] at h
  obtain ⟨u, h1, h2, rfl⟩ := h
  simp only [mg, bV, List.getElem?_map, h1, Option.map_some]
  exact ⟨_, rfl, by rw [← sY h2]; exact hT⟩
 ·cases h
def xI64 (n : Int) : Option aa := req (decide (-9223372036854775808 ≤ n) && decide (n ≤ 9223372036854775807)) (some (.int .i64 n))
def jO (k : IntKind) (n : Int) : Option aa :=
 match k with
 | .i64 => xI64 n
 | k => some (.int k (k.wrap n))
theorem lF {k : IntKind} {m : Int} (h : jO k m = some v) (hT : T v) : bo k m T := by
 unfold jO at h; unfold bo
 split at h
 ·simp only [xI64, aj, Bool.and_eq_true, decide_eq_true_eq, Option.some.injEq] at h
  obtain ⟨h1, rfl⟩ := h
  exact ⟨h1, hT⟩
 ·rename_i hk
  cases h
  split
  ·exact absurd rfl hk
  ·exact hT
def J0 (op : BinOp) (k : IntKind) (a b : Int) : Option aa :=
 match op with
 | .add => jO k (a + b)
 | .sub => jO k (a - b)
 | .mul => jO k (a * b)
 | .quo => req (!decide (b = 0)) (jO k (a.tdiv b))
 | .rem => req (!decide (b = 0)) (some (.int k (a.tmod b)))
 | .and | .or | .xor | .andNot => some (.int k (bitsOf op k a b))
 | .eql => some (.bool (decide (a = b)))
 | .neq => some (.bool (!decide (a = b)))
 | .lss => some (.bool (decide (a < b)))
 | .leq => some (.bool (decide (a ≤ b)))
 | .gtr => some (.bool (decide (b < a)))
 | .geq => some (.bool (decide (b ≤ a)))
 | _ => none
theorem D6 {op : BinOp} {k : IntKind} {a b : Int} (h : J0 op k a b = some v) (hT : T v) : bu op k a b T := by
 unfold J0 at h; unfold bu
 split at h
 case h_4 => simp only [aj, Bool.not_eq_true', decide_eq_false_iff_not] at h; exact ⟨h.1, lF h.2 hT⟩
 case h_5 => simp only [aj, Bool.not_eq_true', decide_eq_false_iff_not, Option.some.injEq] at h; obtain ⟨h1, rfl⟩ := h; exact ⟨h1, hT⟩
 all_goals first | exact lF h hT | (cases h; exact hT) | cases h
def J2 (op : BinOp) (a b : ByteArray) : Option aa :=
 match op with
 | .add => req (Nat.ble (a.size + b.size) maxLen) (some (.str (a ++ b)))
 | .eql => some (.bool (decide (a = b)))
 | .neq => some (.bool (!decide (a = b)))
 | .lss => some (.bool (Op.bytesLess a.toList b.toList))
 | .gtr => some (.bool (!(Op.bytesLess a.toList b.toList || decide (a = b))))
 | .leq => some (.bool (Op.bytesLess a.toList b.toList || decide (a = b)))
 | .geq => some (.bool (!Op.bytesLess a.toList b.toList))
 | _ => none
theorem Ec {op : BinOp} {a b : ByteArray} (h : J2 op a b = some v) (hT : T v) : l9 op a b T := by
 unfold J2 at h; unfold l9
 split at h
 case h_1 => simp only [aj, Nat.ble_eq, Option.some.injEq] at h; obtain ⟨h1, rfl⟩ := h; exact ⟨h1, hT⟩
 all_goals first | (cases h; exact hT) | cases h
def rO (L : Lay) (xt : Nat) (xs ys : List aa) : Option Bool :=
 match (L xt).ty with
 | .array n e =>
  match (L e).ty, bj .u64 xs, bj .u64 ys with
  | .int .u64, some a, some b => req (Nat.beq a.length n && Nat.beq b.length n && Nat.ble n 1000 && Nat.beq (L e).sz 1 && !(L e).ag) (some (decide (a = b)))
  | _, _, _ => none
 | _ => none
theorem qh {xt : Nat} {xs ys : List aa} {b : Bool} {T : Bool → Prop} (h : rO L xt xs ys = some b) (hT : T b) : dH L xt xs ys T := by
 unfold rO at h; unfold dH
 split at h
 ·rename_i n e he
  split at h
  ·rename_i a c h1 h2 h3
   simp only [aj, Bool.and_eq_true, Nat.beq_eq, Nat.ble_eq, Bool.not_eq_true', Option.some.injEq] at h
   obtain ⟨⟨⟨⟨⟨x1, x2⟩, x3⟩, x4⟩, x5⟩, rfl⟩ := h
   rw [he]
   simp only [h1]
   exact ⟨a, c, h2, h3, x1, x2, x3, x4, x5, hT⟩
  ·cases h
 ·cases h
def vr (L : Lay) (op : BinOp) (xt : Nat) (x y : aa) : Option aa :=
 match op, x, y with
 | .shl, .int k a, .int _ b => req (decide (0 ≤ b)) (some (.int k (k.wrap (a * 2 ^ min b.toNat k.bits))))
 | .shr, .int k a, .int _ b => req (decide (0 ≤ b)) (some (.int k (a.fdiv (2 ^ min b.toNat k.bits))))
 | op, .int k a, .int k' b => req (decide (k = k')) (J0 op k a b)
 | op, .str a, .str b => J2 op a b
 | .eql, .bool a, .bool b => req (decide ((L xt).ty = .bool)) (some (.bool (a == b)))
 | .neq, .bool a, .bool b => req (decide ((L xt).ty = .bool)) (some (.bool (!(a == b))))
 | .eql, .agg a, .agg b => (rO L xt a b).map .bool
 | .neq, .agg a, .agg b => (rO L xt a b).map fun r => .bool !r
 | _, _, _ => none
theorem D4 {op : BinOp} {xt : Nat} {x y : aa} (h : vr L op xt x y = some v) (hT : T v) : bh L op xt x y T := by
 unfold vr at h
 split at h
 ·simp only [aj, decide_eq_true_eq, Option.some.injEq] at h; obtain ⟨h1, rfl⟩ := h; exact ⟨h1, hT⟩
 ·simp only [aj, decide_eq_true_eq, Option.some.injEq] at h; obtain ⟨h1, rfl⟩ := h; exact ⟨h1, hT⟩
 ·rename_i n1 n2
  simp only [aj, decide_eq_true_eq] at h; obtain ⟨rfl, h⟩ := h
  cases op <;> first | exact ⟨rfl, D6 h hT⟩ | exact absurd rfl n1 | exact absurd rfl n2
 ·cases op <;> exact Ec h hT
 ·simp only [aj, decide_eq_true_eq, Option.some.injEq] at h; obtain ⟨h1, rfl⟩ := h; exact ⟨h1, hT⟩
 ·simp only [aj, decide_eq_true_eq, Option.some.injEq] at h; obtain ⟨h1, rfl⟩ := h; exact ⟨h1, hT⟩
 ·simp only [Option.map_eq_some_iff] at h; obtain ⟨b, h1, rfl⟩ := h; exact qh (T := fun r => T (.bool r)) h1 hT
 ·simp only [Option.map_eq_some_iff] at h; obtain ⟨b, h1, rfl⟩ := h; exact qh (T := fun r => T (.bool !r)) h1 hT
 ·cases h
def xUn (op : UnOp) (x : aa) : Option aa :=
 match op, x with
 | .not, .bool b => some (.bool !b)
 | .neg, .int k n => jO k (0 - n)
 | .xor, .int k n => some (.int k (bitsOf .xor k (if k.signed then -1 else k.max) n))
 | _, _ => none
theorem J3 {op : UnOp} {x : aa} (h : xUn op x = some v) (hT : T v) : oN op x T := by
 unfold xUn at h
 split at h
 ·cases h; exact hT
 ·exact lF h hT
 ·cases h; exact hT
 ·cases h
def kL (L : Lay) (s t : Nat) (x : aa) : Option aa :=
 req (!decide ((L s).ty = .other))
  (match (L t).ty, x with
  | .int k, .int _ n => some (.int k (k.wrap n))
  | .string, .str s' => req (decide ((L s).ty = .string)) (some (.str s'))
  | .string, .sl _ _ l => match (L s).ty with | .slice e => req (decide ((L e).ty = .int .u8)) ((iE l).map fun bs => .str ⟨bs.toArray⟩) | _ => none
  | _, _ => none)
theorem tX {s t : Nat} {x : aa} (h : kL L s t x = some v) (hT : T v) : cU L s t x T := by
 unfold kL at h
 simp only [aj, Bool.not_eq_true', decide_eq_false_iff_not] at h
 obtain ⟨h0, h⟩ := h
 refine ⟨h0, ?_⟩
 split at h
 ·rename_i k kk n hk
  cases h; rw [hk]; exact hT
 ·rename_i s' hk
  simp only [aj, decide_eq_true_eq, Option.some.injEq] at h
  obtain ⟨h1, rfl⟩ := h
  rw [hk]; exact ⟨h1, hT⟩
 ·rename_i q f l hk
  split at h
  ·rename_i e he
   simp only [aj, decide_eq_true_eq] at h
   obtain ⟨h1, h⟩ := h
   obtain ⟨bs, h2, rfl⟩ := Option.map_eq_some_iff.1 h
   rw [hk]; exact ⟨⟨e, he, h1⟩, bs, h2, hT⟩
  ·cases h
 ·cases h
def yH (L : Lay) (xt : Nat) (x : aa) : Option Bool :=
 match (L xt).ty, x with
 | .slice _, .sl _ _ (_ :: _) => some false
 | .slice _, .osl _ _ _ (_ + 1) => some false
 | _, _ => none
theorem wP {xt : Nat} {x : aa} {b : Bool} {T : Bool → Prop} (h : yH L xt x = some b) (hT : T b) : lZ L xt (mg r x) T := by
 unfold yH at h
 split at h
 ·rename_i e q f y l he
  cases h
  refine ⟨⟨_, he⟩, fun b hb => ?_⟩
  cases b with
  | false => exact hT
  | true => simp at hb
 ·rename_i e _ _ _ n he
  cases h
  refine ⟨⟨_, he⟩, fun b hb => ?_⟩
  cases b with
  | false => exact hT
  | true => simp at hb
 ·cases h
def D7 (L : Lay) (t : Nat) (x : aa) (sto : Sto) : Option aa :=
 match (L t).ty, x with
 | .string, .str s => some (.int .i64 s.size)
 | .slice _, .sl _ _ l => some (.int .i64 l.length)
 | .slice _, .osl _ _ _ len => some (.int .i64 len)
 | .array n _, _ => req (Nat.blt n 4294967296) (some (.int .i64 n))
 | .map _ _, .nilmap => some (.int .i64 0)
 | .map _ _, .map id g =>
  match ak sto id with
  | some (g', .mp es) => req (Nat.beq g' g) (some (.int .i64 es.length))
  | _ => none
 | _, _ => none
theorem D8 {t : Nat} {x : aa} (h : D7 L t x sto = some v) (hT : T v) : eg L t (mg r x) (mgS r sto) T := by
 unfold D7 at h
 split at h
 ·rename_i he; cases h; unfold eg; rw [he]; exact hT
 ·rename_i he; cases h; unfold eg; rw [he]; exact hT
 ·rename_i he; cases h; unfold eg; rw [he]; exact hT
 ·rename_i n e he
  simp only [aj, Nat.blt_eq, Option.some.injEq] at h
  obtain ⟨h1, rfl⟩ := h
  unfold eg; rw [he]
  exact ⟨h1, hT⟩
 ·rename_i he; cases h; unfold eg; rw [he]; exact hT
 ·rename_i he
  split at h
  ·rename_i g' es hg
   simp only [aj, Nat.beq_eq, Option.some.injEq] at h
   obtain ⟨rfl, rfl⟩ := h
   unfold eg; rw [he]
   simp only [qU, aZ, hg, Option.map_some, mgO, true_and]
   exact hT
  ·cases h
 ·cases h
theorem uw {x : aa} {m : List (List aa)} (h : cE x sto = some m) : cE (mg r x) (mgS r sto) = some m := by
 unfold cE at h
 split at h
 ·exact h
 ·rename_i id g off len
  split at h
  ·rename_i g' esz l hg
   split at h
   ·rename_i hc
    simp only [im, cE, aZ, hg, Option.map_some, mgO]
    rw [if_pos ⟨by rw [hc.1], hc.2⟩]; exact h
   ·cases h
  ·cases h
 ·cases h
def ru (n : Nat) (m : List (List aa)) : Bool := m.all fun y => Nat.beq y.length n && y.all aa.bT
theorem og {k : Nat} {m : List (List aa)} : ru k m = true ↔ ∀ y ∈ m, y.length = k ∧ y.all aa.bT = true := by simp [ru, Nat.beq_eq]
def mK (L : Lay) (d n t t2 : Nat) (s x : aa) (sto : Sto) : Option (aa × Sto) :=
 req (Nat.beq t2 t && bdS n sto)
  (match (L t).ty with
  | .slice e => (cE x sto).bind fun m => req (Nat.blt 0 (L e).sz && ru (L e).sz m)
    (match s with
    | .osl id g off len =>
     match ak sto id with
     | some (g', .row esz l) => req (Nat.beq g' g && Nat.beq off 0 && Nat.beq len l.length && Nat.beq esz (L e).sz && Nat.ble ((l.length + m.length) * (L e).by8) ao && Nat.ble (l.length + m.length) ao)
       (some (.osl id n 0 (l.length + m.length), aF sto id (n, .row esz (l ++ m))))
     | _ => none
    | .sl _ full l => req (full && ru (L e).sz l && Nat.ble ((l.length + m.length) * (L e).by8) ao && Nat.ble (l.length + m.length) ao && (!m.isEmpty || l.isEmpty))
      (some (.osl d n 0 (l.length + m.length), aF sto d (n, .row (L e).sz (l ++ m))))
    | _ => none)
  | _ => none)
theorem kG {i h : Nat} {o : bc} (hb : bdS n sto = true) (ho : ∀ r, mgO r o = o) : mgS (up r n h) (aF sto i (n, o)) = aF (mgS r sto) i (h, o) := by
 rw [fc, cF, ho, ← nS ee hb]
theorem vq {d t t2 : Nat} {s x : aa} (h : mK L d n t t2 s x sto = some (v, sto')) (hT : ∀ h, U (mg (up r n h) v) (mgS (up r n h) sto')) : fZ L d t t2 (mg r s) (mg r x) (mgS r sto) U := by
 unfold mK at h
 simp only [aj, Bool.and_eq_true, Nat.beq_eq] at h
 obtain ⟨⟨rfl, hb⟩, h⟩ := h
 refine ⟨rfl, ?_⟩
 split at h
 ·rename_i e he
  simp only [aj, Bool.and_eq_true, Nat.blt_eq, Option.bind_eq_some_iff, og] at h
  obtain ⟨m, hm, ⟨h1, h2⟩, h⟩ := h
  rw [he]
  refine ⟨m, uw hm, h1, h2, ?_⟩
  split at h
  ·split at h
   ·rename_i id g off len _ g' esz l hg
    simp only [aj, Bool.and_eq_true, Nat.beq_eq, Nat.ble_eq, Option.some.injEq, Prod.mk.injEq] at h
    obtain ⟨⟨⟨⟨⟨⟨rfl, rfl⟩, rfl⟩, rfl⟩, h5⟩, h6⟩, rfl, rfl⟩ := h
    simp only [im, aZ, hg, Option.map_some, mgO, true_and]
    refine ⟨h5, h6, fun h => ?_⟩
    have := hT h
    rw [kG hb fun r => rfl] at this
    simpa only [im, cF] using this
   ·cases h
  ·simp only [aj, Bool.and_eq_true, Nat.beq_eq, Nat.ble_eq, Option.some.injEq, Prod.mk.injEq, og, Bool.or_eq_true, Bool.not_eq_true', List.isEmpty_eq_false_iff, List.isEmpty_iff] at h
   obtain ⟨⟨⟨⟨⟨h3, h4⟩, h5⟩, h6⟩, h7⟩, rfl, rfl⟩ := h
   simp only [L7]
   refine ⟨h3, h4, h5, h6, h7, fun h => ?_⟩
   have := hT h
   rw [kG hb fun r => rfl] at this
   simpa only [im, cF] using this
  ·cases h
 ·cases h
def wN (L : Lay) (d n t : Nat) (x y : aa) (sto : Sto) : Option (aa × Sto) :=
 match (L t).ty, x, y with
 | .slice e, .int .i64 m, .int .i64 c => req (bdS n sto && decide (0 ≤ m) && decide (m = c) && decide (m * (L e).by8 ≤ ao) && decide (m ≤ ao) && Nat.blt 0 (L e).sz)
   (some (.osl d n 0 m.toNat, aF sto d (n, .row (L e).sz ((List.replicate m.toNat (L e).zero).map (List.map c8)))))
 | _, _, _ => none
theorem Bu {d t : Nat} {x y : aa} (h : wN L d n t x y sto = some (v, sto')) (hT : ∀ h, U (mg (up r n h) v) (mgS (up r n h) sto')) : iI L d t (mg r x) (mg r y) (mgS r sto) U := by
 unfold wN at h
 split at h
 ·rename_i e m c he
  simp only [aj, Bool.and_eq_true, Nat.blt_eq, decide_eq_true_eq, Option.some.injEq, Prod.mk.injEq] at h
  obtain ⟨⟨⟨⟨⟨⟨hb, h1⟩, rfl⟩, h3⟩, h4⟩, h5⟩, rfl, rfl⟩ := h
  simp only [uO, iI, he]
  refine ⟨h1, trivial, h3, h4, h5, fun h => ?_⟩
  have := hT h
  rw [kG hb fun r => rfl] at this
  simpa only [im, cF] using this
 ·cases h
theorem sv {ti : TI} : ∀ (ps : List (Nat × aa)) (cs cs' : List aa), bP L ti cs ps = some cs' → bP L ti (cs.map (mg1 r)) (ps.map fun p => (p.1, mg r p.2)) = some (cs'.map (mg1 r))
 | [], cs, cs', h => by simp only [bP, Option.some.injEq] at h; subst h; rfl
 | (i, v) :: ps, cs, cs', h => by
  simp only [bP, List.map_cons] at h ⊢
  split at h
  ·rename_i off sz hx
   split at h
   ·rename_i hc
    obtain ⟨h1, h2, h3⟩ := hc
    rw [gA h3, List.length_map, List.length_map, jC, if_pos ⟨h1, h2, h3⟩, qa]
    exact sv ps _ _ h
   ·cases h
  ·cases h
def vu (L : Lay) (t : Nat) (parts : List (Nat × aa)) : Option aa :=
 req ((L t).ag && (L t).zero.all (bd1 0)) ((bP L (L t) (L t).zero parts).map .agg)
def fy (L : Lay) (d n t m : Nat) (parts : List (Nat × aa)) (sto : Sto) : Option (aa × Sto) :=
 match (L t).ty with
 | .slice e => req (bdS n sto && Nat.blt 0 (L e).sz && Nat.ble (m * (L e).sz) 1000000 && parts.all fun p => bd 0 p.2) ((bP L (L t) (List.replicate m (L e).zero).flatten parts).bind fun cs => req (cs.all aa.bT)
   (some (.osl d n 0 m, aF sto d (n, .row (L e).sz ((chunks (L e).sz m cs).map (List.map c8))))))
 | _ => none
theorem An {ps : List (Nat × aa)} (h : (ps.all fun p => bd 0 p.2) = true) : (ps.map fun p => (p.1, mg r p.2)) = ps := by
 rw [List.all_eq_true] at h
 conv => rhs; rw [← List.map_id ps]
 exact List.map_congr_left fun p hp => by rw [cK (h p hp)]; rfl
theorem oP {d t m : Nat} {parts : List (Nat × aa)} (h : fy L d n t m parts sto = some (v, sto')) (hT : ∀ h, U (mg (up r n h) v) (mgS (up r n h) sto')) : bF L d t m (parts.map fun p => (p.1, mg r p.2)) (mgS r sto) U := by
 unfold fy at h
 split at h
 ·rename_i e he
  simp only [aj, Bool.and_eq_true, Nat.blt_eq, Nat.ble_eq, Option.bind_eq_some_iff, Option.some.injEq, Prod.mk.injEq] at h
  obtain ⟨⟨⟨⟨hb, h1⟩, h2⟩, h3⟩, cs, h4, h5, rfl, rfl⟩ := h
  simp only [bF, he, An h3]
  refine ⟨h1, h2, cs, h4, h5, fun h => ?_⟩
  have := hT h
  rw [kG hb fun r => rfl] at this
  simpa only [im, cF] using this
 ·cases h
def rN (x : Option aa) (dflt : Nat) : Option Nat :=
 match x with
 | none => some dflt
 | some (.int _ n) => req (decide (0 ≤ n)) (some n.toNat)
 | _ => none
theorem gN {x : Option aa} {d k : Nat} {Q : Nat → Prop} (h : rN x d = some k) (hQ : Q k) : aX (x.map (mg r)) d Q := by
 unfold rN at h
 split at h
 ·cases h; exact hQ
 ·simp only [aj, decide_eq_true_eq, Option.some.injEq] at h; obtain ⟨h1, rfl⟩ := h; exact ⟨h1, hQ⟩
 ·cases h
def rW (L : Lay) (t : Nat) (x : aa) (lo hi mx : Option aa) (sto : Sto) : Option aa :=
 match (L t).ty, x with
 | .string, .str s => req mx.isNone ((rN lo 0).bind fun l => (rN hi s.size).bind fun h => req (Nat.ble l h && Nat.ble h s.size) (some (.str (s.extract l h))))
 | .slice e, .sl q full es => (rN lo 0).bind fun l => (rN hi es.length).bind fun h => (rN mx es.length).bind fun m =>
   req (Nat.ble l h && Nat.ble h m && Nat.ble m es.length && (Nat.beq l 0 || es.all fun y => Nat.beq y.length (L e).sz)) (some (.sl q (eZ mx full h m es.length) ((es.take h).drop l)))
 | .slice e, .osl id g off len => req mx.isNone (match ak sto id with
  | some (g', .row esz l) => req (Nat.beq g' g && Nat.beq esz (L e).sz) ((rN lo 0).bind fun l => (rN hi len).bind fun h => req (Nat.ble l h && Nat.ble h len) (some (.osl id g (off + l) (h - l))))
  | _ => none)
 | _, _ => none
theorem yI {t : Nat} {x : aa} {lo hi mx : Option aa} (h : rW L t x lo hi mx sto = some v) (hT : T (mg r v)) : bY L t (mg r x) (lo.map (mg r)) (hi.map (mg r)) (mx.map (mg r)) (mgS r sto) T := by
 unfold rW at h
 split at h
 ·rename_i s he
  simp only [aj, Option.bind_eq_some_iff, Bool.and_eq_true, Nat.ble_eq, Option.some.injEq] at h
  obtain ⟨h0, l, hl, hh, hhh, ⟨h1, h2⟩, rfl⟩ := h
  unfold bY
  rw [he]
  exact ⟨by cases mx <;> simp_all, gN hl (gN hhh ⟨⟨h1, h2⟩, hT⟩)⟩
 ·rename_i e q full es he
  simp only [aj, Option.bind_eq_some_iff, Bool.and_eq_true, Nat.ble_eq, Option.some.injEq, Bool.or_eq_true, Nat.beq_eq, List.all_eq_true] at h
  obtain ⟨l, hl, hh, hhh, m, hm, ⟨⟨⟨h1, h2⟩, h3⟩, h4⟩, rfl⟩ := h
  unfold bY
  rw [he]
  refine gN hl (gN hhh (gN hm ⟨⟨h1, h2, h3⟩, h4, ?_⟩))
  cases mx <;> exact hT
 ·rename_i e id g off len he
  simp only [aj] at h
  obtain ⟨h0, h⟩ := h
  split at h
  ·rename_i g' esz row hg
   simp only [aj, Option.bind_eq_some_iff, Bool.and_eq_true, Nat.ble_eq, Option.some.injEq, Nat.beq_eq] at h
   obtain ⟨⟨rfl, rfl⟩, l, hl, hh, hhh, ⟨h1, h2⟩, rfl⟩ := h
   unfold bY
   rw [he]
   exact ⟨by cases mx <;> simp_all, ⟨_, row, by simp only [aZ, hg, Option.map_some, mgO], rfl⟩, gN hl (gN hhh ⟨⟨h1, h2⟩, hT⟩)⟩
  ·cases h
 ·cases h
def mL (L : Lay) (t : Nat) (m k : aa) (ok : Bool) (sto : Sto) : Option aa :=
 match (L t).ty, m, k with
 | .map kt et, .map id g, .str key =>
  req (decide ((L kt).ty = .string) && Nat.beq (L et).sz 1 && !(L et).ag && bd1 0 ((L et).zero.headD .undef))
   (match ak sto id with
   | some (g', .mp es) => req (Nat.beq g' g) (match er es key with
    | some v => (nh v).bind fun v => some (if ok then .tup [v, .bool true] else v)
    | none => (nh ((L et).zero.headD .undef)).bind fun v => some (if ok then .tup [v, .bool false] else v))
   | _ => none)
 | _, _, _ => none
theorem vx {t : Nat} {m k : aa} {ok : Bool} (h : mL L t m k ok sto = some v) (hT : T v) : cO L t (mg r m) (mg r k) ok (mgS r sto) T := by
 unfold mL at h
 split at h
 ·rename_i kt et id g key he
  simp only [aj, Bool.and_eq_true, Nat.beq_eq, Bool.not_eq_true', decide_eq_true_eq] at h
  obtain ⟨⟨⟨⟨h1, h2⟩, h3⟩, h4⟩, h⟩ := h
  unfold cO
  rw [he]
  simp only [qU, Ad]
  refine ⟨h1, h2, h3, ?_⟩
  split at h
  ·rename_i g' es hg
   simp only [aj, Nat.beq_eq] at h
   obtain ⟨rfl, h⟩ := h
   simp only [aZ, hg, Option.map_some, mgO, true_and]
   split at h
   ·rename_i u hu
    simp only [Option.bind_eq_some_iff, gB, Option.some.injEq] at h
    obtain ⟨w, ⟨h5, rfl⟩, rfl⟩ := h
    rw [hu]; exact hT
   ·rename_i hu
    simp only [Option.bind_eq_some_iff, gB, Option.some.injEq] at h
    obtain ⟨w, ⟨h5, rfl⟩, rfl⟩ := h
    rw [hu]; exact hT
  ·cases h
 ·cases h
def gP (L : Lay) (t : Nat) (m k v : aa) (sto : Sto) : Option Sto :=
 match (L t).ty, m, k with
 | .map kt et, .map id g, .str key =>
  req (decide ((L kt).ty = .string) && Nat.beq (L et).sz 1 && !(L et).ag && v.bT)
   (match ak sto id with
   | some (g', .mp es) => req (Nat.beq g' g && Nat.ble (es.length + 1) ao) (some (aF sto id (g, .mp (eQ es key v))))
   | _ => none)
 | _, _, _ => none
theorem pj {t : Nat} {m k u : aa} {V : Sto → Prop} (h : gP L t m k u sto = some sto') (hT : V (mgS r sto')) : cn L t (mg r m) (mg r k) u (mgS r sto) V := by
 unfold gP at h
 split at h
 ·rename_i kt et id g key he
  simp only [aj, Bool.and_eq_true, Nat.beq_eq, Bool.not_eq_true', decide_eq_true_eq] at h
  obtain ⟨⟨⟨⟨h1, h2⟩, h3⟩, h4⟩, h⟩ := h
  unfold cn
  rw [he]
  simp only [qU, Ad]
  refine ⟨h1, h2, h3, h4, ?_⟩
  split at h
  ·rename_i g' es hg
   simp only [aj, Nat.beq_eq, Bool.and_eq_true, Nat.ble_eq, Option.some.injEq] at h
   obtain ⟨⟨rfl, h5⟩, rfl⟩ := h
   simp only [aZ, hg, Option.map_some, mgO, true_and]
   refine ⟨h5, ?_⟩
   rw [fc] at hT; exact hT
  ·cases h
 ·cases h
def sM : Op → Bool
 | .alloc _ | .box _ _ | .buildSlice _ _ _ | .makeMap _ _ | .makeSlice _ _ _ => true
 | .call ⟨.builtin .append, _, _⟩ => true
 | _ => false
def jl : aa → Bool
 | .agg _ | .tup _ | .fn _ (_ :: _) => false
 | _ => true
theorem nX {v : aa} (h : jl v = true) : mg r v = mg0 r v := by
 cases v with
 | fn f cap => cases cap <;> first | rfl | simp [jl] at h
 | _ => first | rfl | simp [jl] at h
def xOp (L : Lay) (tm : Tm) (sto : Sto) (d n : Nat) : Op → Option (aa × Sto)
 | .move x | .assign x => some (evF tm x, sto)
 | .pick c a b =>
  match evF tm c with
  | .bool true => some (evF tm a, sto)
  | .bool false => some (evF tm b, sto)
  | _ => none
 | .alloc t => req (Nat.blt 0 (L t).sz && bdS n sto && (L t).zero.all (bd1 0)) (some (.bx d n 0, aF sto d (n, .box (L t).zero)))
 | .box t x => req ((evF tm x).aB && Nat.beq (cellsOf (evF tm x)).length (L t).sz && Nat.blt 0 (L t).sz && bdS n sto && (cellsOf (evF tm x)).all (bd1 n)) (some (.bx d n 0, aF sto d (n, .box (cellsOf (evF tm x)))))
 | .build t parts => (vu L t (parts.toList.map fun p => (p.1, evF tm p.2))).map fun v => (v, sto)
 | .buildSlice t m parts => fy L d n t m (parts.toList.map fun p => (p.1, evF tm p.2)) sto
 | .load t a => (ue L t (evF tm a) sto).map fun v => (v, sto)
 | .store t a x => (rY L t (evF tm a) (evF tm x) sto).map fun s => (.undef, s)
 | .nilCheck x =>
  match evF tm x with
  | .bx id g off => some (.bx id g off, sto)
  | .loc id g i off => some (.loc id g i off, sto)
  | .ref q cs => some (.ref q cs, sto)
  | .fn f cap => some (.fn f cap, sto)
  | _ => none
 | .binOp op xt x y _ =>
  match ct y with
  | true =>
   match op with
   | .eql => (yH L xt (evF tm x)).map fun b => (.bool b, sto)
   | .neq => (yH L xt (evF tm x)).map fun b => (.bool !b, sto)
   | _ => none
  | false => req (bd 0 (evF tm x) && bd 0 (evF tm y)) ((vr L op xt (evF tm x) (evF tm y)).bind fun v => (nh v).map fun v => (v, sto))
 | .unOp op _ x => req (bd 0 (evF tm x)) ((xUn op (evF tm x)).bind fun v => (nh v).map fun v => (v, sto))
 | .convert s t x => req (bd 0 (evF tm x)) ((kL L s t (evF tm x)).bind fun v => (nh v).map fun v => (v, sto))
 | .makeFunc (.func f) first cap => req (first.toList.isEmpty && (cap.toList.map (evF tm)).all jl) (some (.fn f (cap.toList.map (evF tm)), sto))
 | .makeMap t none => match (L t).ty with | .map _ _ => req (bdS n sto) (some (.map d n, aF sto d (n, .mp []))) | _ => none
 | .makeSlice t l c => wN L d n t (evF tm l) (evF tm c) sto
 | .slice t x lo hi mx => req (!mx.isSome || hi.isSome) ((rW L t (evF tm x) (lo.map (evF tm)) (hi.map (evF tm)) (mx.map (evF tm)) sto).map fun v => (v, sto))
 | .fieldAddr t x f => (rP (L t) (evF tm x) f).map fun v => (v, sto)
 | .field t x f => (kN L t (evF tm x) f).map fun v => (v, sto)
 | .indexAddr t x i => (gO L t (evF tm x) (evF tm i) sto).map fun v => (v, sto)
 | .index t x i => (rR L t (evF tm x) (evF tm i)).map fun v => (v, sto)
 | .lookup t m k ok => (mL L t (evF tm m) (evF tm k) ok sto).bind fun v => (nh v).map fun v => (v, sto)
 | .mapUpdate t m k x => req (bd 0 (evF tm x)) ((gP L t (evF tm m) (evF tm k) (ez (evF tm x)) sto).map fun s => (.undef, s))
 | .extract x i => (kM (evF tm x) i).map fun v => (v, sto)
 | .call ⟨.builtin b, args, ts⟩ =>
  match b, ts.toList, args.toList with
  | .len, [t], [x] => (D7 L t (evF tm x) sto).bind fun v => (nh v).map fun v => (v, sto)
  | .append, [t, t2], [s, x] => mK L d n t t2 (evF tm s) (evF tm x) sto
  | .max, _, [x, y] => match evF tm x, evF tm y with | .int k a, .int k' b => req (decide (k = k')) (some (.int k (max a b), sto)) | _, _ => none
  | .min, _, [x, y] => match evF tm x, evF tm y with | .int k a, .int k' b => req (decide (k = k')) (some (.int k (min a b), sto)) | _, _ => none
  | _, _, _ => none
 | _ => none
def nhF (v : aa) (sto : Sto) : Option (aa × Sto) :=
 match v with
 | .int k n => some (.int k n, sto)
 | .bool b => some (.bool b, sto)
 | .str s => some (.str s, sto)
 | v => (nh v).map fun v => (v, sto)
theorem nU {v : aa} {sto : Sto} : nhF v sto = (nh v).map fun v => (v, sto) := by
 cases v <;> first | rfl | (simp [nhF, nh, bd, bd2, bd1, bd0, req])
def Bo (L : Lay) (op : BinOp) (xt : Nat) (x y : aa) (sto : Sto) : Option (aa × Sto) :=
 match x with
 | .int k a =>
  match y with
  | .int k' b => (vr L op xt (.int k a) (.int k' b)).bind fun v => nhF v sto
  | _ => none
 | x => req (bd 0 x && bd 0 y) ((vr L op xt x y).bind fun v => nhF v sto)
theorem Bq {L : Lay} {op : BinOp} {xt : Nat} {k : IntKind} {a : Int} {y : aa} (hy : ∀ k' b, y ≠ .int k' b) : vr L op xt (.int k a) y = none := by
 cases y with
 | int k' b => exact absurd rfl (hy k' b)
 | _ => cases op <;> rfl
theorem Bp {L : Lay} {op : BinOp} {xt : Nat} {x y : aa} {sto : Sto} : Bo L op xt x y sto = req (bd 0 x && bd 0 y) ((vr L op xt x y).bind fun v => (nh v).map fun v => (v, sto)) := by
 unfold Bo
 simp only [nU]
 split
 ·split
  ·rfl
  ·rename_i h
   rw [Bq (fun k' b e => h k' b e)]
   cases (bd 0 _ && bd 0 _) <;> rfl
 ·rfl
def ug : Op → Lay → Tm → Sto → Nat → Nat → Option (aa × Sto)
 | .move x => fun _ tm sto _ _ => some (evF tm x, sto)
 | .assign x => fun _ tm sto _ _ => some (evF tm x, sto)
 | .pick c a b => fun L tm sto d n =>
   match evF tm c with
   | .bool true => some (evF tm a, sto)
   | .bool false => some (evF tm b, sto)
   | _ => none
 | .alloc t => fun L tm sto d n => req (Nat.blt 0 (L t).sz && bdS n sto && (L t).zero.all (bd1 0)) (some (.bx d n 0, aF sto d (n, .box (L t).zero)))
 | .box t x => fun L tm sto d n => req ((evF tm x).aB && Nat.beq (cellsOf (evF tm x)).length (L t).sz && Nat.blt 0 (L t).sz && bdS n sto && (cellsOf (evF tm x)).all (bd1 n)) (some (.bx d n 0, aF sto d (n, .box (cellsOf (evF tm x)))))
 | .build t parts => fun L tm sto d n => (vu L t (parts.toList.map fun p => (p.1, evF tm p.2))).map fun v => (v, sto)
 | .buildSlice t m parts => fun L tm sto d n => fy L d n t m (parts.toList.map fun p => (p.1, evF tm p.2)) sto
 | .load t a => fun L tm sto d n => (ue L t (evF tm a) sto).map fun v => (v, sto)
 | .store t a x => fun L tm sto d n => (rY L t (evF tm a) (evF tm x) sto).map fun s => (.undef, s)
 | .nilCheck x => fun L tm sto d n =>
   match evF tm x with
   | .bx id g off => some (.bx id g off, sto)
   | .loc id g i off => some (.loc id g i off, sto)
   | .ref q cs => some (.ref q cs, sto)
   | .fn f cap => some (.fn f cap, sto)
   | _ => none
 | .binOp op xt x y _ => fun L tm sto d n =>
   match ct y with
   | true =>
    match op with
    | .eql => (yH L xt (evF tm x)).map fun b => (.bool b, sto)
    | .neq => (yH L xt (evF tm x)).map fun b => (.bool !b, sto)
    | _ => none
   | false => Bo L op xt (evF tm x) (evF tm y) sto
 | .unOp op _ x => fun L tm sto d n => req (bd 0 (evF tm x)) ((xUn op (evF tm x)).bind fun v => nhF v sto)
 | .convert s t x => fun L tm sto d n => req (bd 0 (evF tm x)) ((kL L s t (evF tm x)).bind fun v => nhF v sto)
 | .makeFunc (.func f) first cap => fun L tm sto d n => req (first.toList.isEmpty && (cap.toList.map (evF tm)).all jl) (some (.fn f (cap.toList.map (evF tm)), sto))
 | .makeMap t none => fun L tm sto d n => match (L t).ty with | .map _ _ => req (bdS n sto) (some (.map d n, aF sto d (n, .mp []))) | _ => none
 | .makeSlice t l c => fun L tm sto d n => wN L d n t (evF tm l) (evF tm c) sto
 | .slice t x lo hi mx => fun L tm sto d n => req (!mx.isSome || hi.isSome) ((rW L t (evF tm x) (lo.map (evF tm)) (hi.map (evF tm)) (mx.map (evF tm)) sto).map fun v => (v, sto))
 | .fieldAddr t x f => fun L tm sto d n => (rP (L t) (evF tm x) f).map fun v => (v, sto)
 | .field t x f => fun L tm sto d n => (kN L t (evF tm x) f).map fun v => (v, sto)
 | .indexAddr t x i => fun L tm sto d n => (gO L t (evF tm x) (evF tm i) sto).map fun v => (v, sto)
 | .index t x i => fun L tm sto d n => (rR L t (evF tm x) (evF tm i)).map fun v => (v, sto)
 | .lookup t m k ok => fun L tm sto d n => (mL L t (evF tm m) (evF tm k) ok sto).bind fun v => nhF v sto
 | .mapUpdate t m k x => fun L tm sto d n => req (bd 0 (evF tm x)) ((gP L t (evF tm m) (evF tm k) (ez (evF tm x)) sto).map fun s => (.undef, s))
 | .extract x i => fun L tm sto d n => (kM (evF tm x) i).map fun v => (v, sto)
 | .call ⟨.builtin b, args, ts⟩ => fun L tm sto d n =>
   match b, ts.toList, args.toList with
   | .len, [t], [x] => (D7 L t (evF tm x) sto).bind fun v => nhF v sto
   | .append, [t, t2], [s, x] => mK L d n t t2 (evF tm s) (evF tm x) sto
   | .max, _, [x, y] => match evF tm x, evF tm y with | .int k a, .int k' b => req (decide (k = k')) (some (.int k (max a b), sto)) | _, _ => none
   | .min, _, [x, y] => match evF tm x, evF tm y with | .int k a, .int k' b => req (decide (k = k')) (some (.int k (min a b), sto)) | _, _ => none
   | _, _, _ => none
 | _ => fun L tm sto d n => none
theorem Ea {L : Lay} {tm : Tm} {sto : Sto} {d n : Nat} (op : Op) : ug op L tm sto d n = xOp L tm sto d n op := by
 cases op with
 | makeFunc fn first cap => cases fn <;> rfl
 | makeMap t r => cases r <;> rfl
 | call c =>
  obtain ⟨callee, args, ts⟩ := c
  cases callee with
  | builtin b => simp only [ug, xOp, nU]
  | _ => rfl
 | binOp op xt x y yt => simp only [ug, xOp, Bp]
 | unOp op xt x => simp only [ug, xOp, nU]
 | convert s t x => simp only [ug, xOp, nU]
 | lookup t m k ok => simp only [ug, xOp, nU]
 | _ => rfl
theorem wK {n : Nat} : up r n (r n) = r := by funext g; simp only [up]; split <;> simp_all
theorem aC {α β : Type} {x : Option α} {f : α → β} {y : β} (h : x.map f = some y) : ∃ a, x = some a ∧ f a = y := Option.map_eq_some_iff.1 h
theorem wR {l : List aa} (h : l.all (bd1 0) = true) : l.map (mg1 r) = l := qS h
theorem yY {i h : Nat} {cs : List aa} (hb : bdS n sto = true) (hc : cs.all (bd1 n) = true) : mgS (up r n h) (aF sto i (n, .box cs)) = aF (mgS r sto) i (h, .box (cs.map (mg1 r))) := by
 rw [fc, cF, ← nS ee hb]; simp only [mgO]; rw [← mz ee hc]
theorem Hr {v : aa} (h : bd1 0 v = true) : bd1 n v = true := by
 have b0 : ∀ v, bd0 0 v = true → bd0 n v = true := fun v h => by cases v <;> simp_all [bd0, Nat.blt]
 cases v with
 | fn f cap => simp only [bd1, List.all_eq_true] at h ⊢; exact fun x hx => b0 x (h x hx)
 | _ => simp only [bd1] at h ⊢; exact b0 _ h
theorem Bv {op : Op} {d : Nat} (h : xOp L tm sto d n op = some (v, sto')) (hT : ∀ h, (sM op = false → h = r n) → U (mg (up r n h) v) (mgS (up r n h) sto')) : aO L (mgT r tm) (mgS r sto) d U op := by
 have hT' := hT (r n) fun _ => rfl
 rw [wK] at hT'
 have ps : ∀ parts : Array (Nat × Operand), (parts.toList.map fun p => (p.1, ev (mgT r tm) p.2)) = ((parts.toList.map fun p => (p.1, ev tm p.2)).map fun p => (p.1, mg r p.2)) := fun parts => by
  rw [List.map_map]; exact List.map_congr_left fun p _ => by simp only [Function.comp, aW]
 have om : ∀ x : Option Operand, x.map (ev (mgT r tm)) = (x.map (ev tm)).map (mg r) := fun x => by cases x <;> simp [aW]
 unfold xOp at h
 simp only [nA, qC] at h
 split at h
 case h_1 => cases h; simp only [aO, aW]; exact hT'
 case h_2 => cases h; simp only [aO, aW]; exact hT'
 case h_3 =>
  simp only [aO, aW]
  split at h
  ·rename_i hc; cases h; rw [hc]; exact ⟨fun _ => hT', fun h => by cases h⟩
  ·rename_i hc; cases h; rw [hc]; exact ⟨fun h => by (cases h), fun _ => hT'⟩
  ·cases h
 case h_4 =>
  simp only [aj, Bool.and_eq_true, Nat.blt_eq, Option.some.injEq, Prod.mk.injEq] at h
  obtain ⟨⟨⟨h1, h2⟩, h3⟩, rfl, rfl⟩ := h
  simp only [aO]
  refine ⟨h1, fun h => ?_⟩
  have := hT h (fun e => by cases e)
  rw [yY h2 (List.all_eq_true.2 fun x hx => Hr (List.all_eq_true.1 h3 x hx)), wR h3] at this
  simpa only [wo, cF] using this
 case h_5 =>
  simp only [aj, Bool.and_eq_true, Nat.blt_eq, Nat.beq_eq, Option.some.injEq, Prod.mk.injEq] at h
  obtain ⟨⟨⟨⟨⟨h1, h2⟩, h3⟩, h4⟩, h5⟩, rfl, rfl⟩ := h
  simp only [aO, aW, jC, gA h1, List.length_map]
  refine ⟨h1, h2, h3, fun h => ?_⟩
  have := hT h (fun e => by cases e)
  rw [yY h4 h5] at this
  simpa only [wo, cF] using this
 case h_6 =>
  obtain ⟨w, hw, he⟩ := aC h; cases he
  simp only [vu, aj, Bool.and_eq_true] at hw
  obtain ⟨⟨h1, h2⟩, hw⟩ := hw
  obtain ⟨cs, hcs, rfl⟩ := aC hw
  simp only [aO, ps]
  refine ⟨h1, cs.map (mg1 r), ?_, hT'⟩
  have := sv (r := r) _ _ _ hcs
  rwa [wR h2] at this
 case h_7 => simp only [aO, ps]; exact oP h fun h => hT h fun e => by cases e
 case h_8 => obtain ⟨w, hw, he⟩ := aC h; cases he; simp only [aO, aW]; exact uf hw hT'
 case h_9 => obtain ⟨w, hw, he⟩ := aC h; cases he; simp only [aO, aW]; exact yL hw hT'
 case h_10 =>
  simp only [aO, aW]
  split at h <;> first | (rename_i hc; cases h; rw [hc]; exact hT') | cases h
 case h_11 =>
  simp only [aO, aW]
  split at h
  ·rename_i hn
   rw [if_pos hn]
   split at h
   ·obtain ⟨w, hw, he⟩ := aC h; cases he; exact wP (T := fun b => U (.bool b) (mgS r sto)) hw hT'
   ·obtain ⟨w, hw, he⟩ := aC h; cases he; exact wP (T := fun b => U (.bool !b) (mgS r sto)) hw hT'
   ·cases h
  ·rename_i hn
   rw [if_neg (by simp [hn])]
   simp only [aj, Bool.and_eq_true, Option.bind_eq_some_iff] at h
   obtain ⟨⟨h1, h2⟩, w, h3, h4⟩ := h
   obtain ⟨w', hw, he⟩ := aC h4; cases he
   simp only [gB] at hw
   obtain ⟨h5, rfl⟩ := hw
   rw [cK h1, cK h2]
   rw [cK h5] at hT'
   exact D4 h3 hT'
 case h_12 =>
  simp only [aO, aW]
  simp only [aj, Bool.and_eq_true, Option.bind_eq_some_iff] at h
  obtain ⟨h1, w, h3, h4⟩ := h
  obtain ⟨w', hw, he⟩ := aC h4; cases he
  simp only [gB] at hw
  obtain ⟨h5, rfl⟩ := hw
  rw [cK h1]
  rw [cK h5] at hT'
  exact J3 h3 hT'
 case h_13 =>
  simp only [aO, aW]
  simp only [aj, Bool.and_eq_true, Option.bind_eq_some_iff] at h
  obtain ⟨h1, w, h3, h4⟩ := h
  obtain ⟨w', hw, he⟩ := aC h4; cases he
  simp only [gB] at hw
  obtain ⟨h5, rfl⟩ := hw
  rw [cK h1]
  rw [cK h5] at hT'
  exact tX h3 hT'
 case h_14 =>
  simp only [aj, Bool.and_eq_true, List.isEmpty_iff, Option.some.injEq, Prod.mk.injEq] at h
  obtain ⟨⟨h1, h2⟩, rfl, rfl⟩ := h
  simp only [aO]
  refine ⟨by simpa using h1, ?_⟩
  rw [show (List.map (ev (mgT r tm)) _ : List aa) = (List.map (ev tm) _).map (mg0 r) from ?_]
  ·exact hT'
  ·rw [List.map_map]
   refine List.map_congr_left fun x hx => ?_
   simp only [Function.comp, aW]
   exact nX (List.all_eq_true.1 h2 _ (List.mem_map.2 ⟨x, hx, rfl⟩))
 case h_15 =>
  split at h
  ·rename_i k e he
   simp only [aj, Option.some.injEq, Prod.mk.injEq] at h
   obtain ⟨h1, rfl, rfl⟩ := h
   simp only [aO]
   refine ⟨⟨_, _, he⟩, fun h => ?_⟩
   have := hT h (fun e => by cases e)
   rw [kG h1 fun r => rfl] at this
   simpa only [qU, cF] using this
  ·cases h
 case h_16 => simp only [aO, aW]; exact Bu h fun h => hT h fun e => by cases e
 case h_17 =>
  simp only [aj, Bool.or_eq_true, Bool.not_eq_true'] at h
  obtain ⟨h1, h⟩ := h
  obtain ⟨w, hw, he⟩ := aC h; cases he
  simp only [aO, aW, om]
  exact ⟨fun h2 => by rcases h1 with h1 | h1 <;> simp_all, yI hw hT'⟩
 case h_18 => obtain ⟨w, hw, he⟩ := aC h; cases he; simp only [aO, aW]; exact yC hw hT'
 case h_19 => obtain ⟨w, hw, he⟩ := aC h; cases he; simp only [aO, aW]; exact tZ hw hT'
 case h_20 => obtain ⟨w, hw, he⟩ := aC h; cases he; simp only [aO, aW]; exact ph hw hT'
 case h_21 => obtain ⟨w, hw, he⟩ := aC h; cases he; simp only [aO, aW]; exact yG hw hT'
 case h_22 =>
  simp only [aO, aW]
  simp only [Option.bind_eq_some_iff] at h
  obtain ⟨w, h3, h4⟩ := h
  obtain ⟨w', hw, he⟩ := aC h4; cases he
  simp only [gB] at hw
  obtain ⟨h5, rfl⟩ := hw
  rw [cK h5] at hT'
  exact vx h3 hT'
 case h_23 =>
  simp only [aj] at h
  obtain ⟨h1, h⟩ := h
  obtain ⟨w, hw, he⟩ := aC h; cases he
  simp only [aO, aW, cK h1]
  exact pj hw hT'
 case h_24 => obtain ⟨w, hw, he⟩ := aC h; cases he; simp only [aO, aW]; exact tY hw hT'
 case h_25 =>
  split at h
  ·rename_i h1 h2
   simp only [Option.bind_eq_some_iff] at h
   obtain ⟨w, h3, h4⟩ := h
   obtain ⟨w', hw, he⟩ := aC h4; cases he
   simp only [gB] at hw
   obtain ⟨h5, rfl⟩ := hw
   rw [cK h5] at hT'
   simp only [aO, h1, h2, List.map_cons, List.map_nil, bE, aW]
   exact D8 h3 hT'
  ·rename_i h1 h2
   simp only [aO, h1, h2, List.map_cons, List.map_nil, bE, aW]
   exact vq h fun h => hT h fun e => by cases e
  ·rename_i h2
   split at h
   ·rename_i h3 h4
    simp only [aj, decide_eq_true_eq, Option.some.injEq, Prod.mk.injEq] at h
    obtain ⟨rfl, rfl, rfl⟩ := h
    simp only [aO, h2, List.map_cons, List.map_nil, aW, h3, h4, uO, bE]
    exact ⟨trivial, hT'⟩
   ·cases h
  ·rename_i h2
   split at h
   ·rename_i h3 h4
    simp only [aj, decide_eq_true_eq, Option.some.injEq, Prod.mk.injEq] at h
    obtain ⟨rfl, rfl, rfl⟩ := h
    simp only [aO, h2, List.map_cons, List.map_nil, aW, h3, h4, uO, bE]
    exact ⟨trivial, hT'⟩
   ·cases h
  ·cases h
 case h_26 => cases h
end
def fx (L : Lay) (P : Program) (d : Nat) (o : Oper) (tm : Tm) (sto : Sto) (T : aa → Sto → Prop) : Prop :=
 match o.op with
 | .call ⟨.value c, args, _⟩ =>
  match ev tm c with
  | .fn f cap => ah P f (args.toList.map (ev tm) ++ cap) sto T
  | _ => False
 | op => aO L tm sto d T op
section
variable {P : Program} {L : Lay}
theorem lT (hL : LOk P L) {E G : Gh} {nt d : Nat} {ds : List Deferred} {o : Oper} {tm : Tm} {sto : Sto} {a : Act} {w : World} {T : aa → Sto → Prop} {K : Act → World → Prop} {Q : Exit → Act → World → Prop} (hsim : Sim E nt ds tm sto a w G)
  (hok : aT L nt [o] = true) (h : fx L P d o tm sto T) (hK : ∀ G' w' r v sto', T r sto' → Sim E nt ds (put o.dst r tm) sto' (a.put o.dst v) w' G' → K (a.put o.dst v) w') : o.wp P a w K Q := by
 by_cases hcall : ∃ c args ts, o.op = .call ⟨.value c, args, ts⟩
 ·obtain ⟨c, args, ts, hop⟩ := hcall
  refine b7 (q := false) (z := []) hL hsim hok (T := T) ?_ hK
  unfold aA; unfold fx at h
  rw [hop] at h ⊢
  simp only at h ⊢
  split at h
  ·rename_i f cap hc
   rw [hc]
   simp only [Bool.false_eq_true, if_false]
   exact h.mono fun r s hr => by simpa [frq] using hr
  ·exact h.elim
 ·have hok' := hok
  simp only [aT, List.all_cons, List.all_nil, Bool.and_true, Bool.and_eq_true] at hok
  obtain ⟨⟨hop, hdst⟩, _⟩ := hok
  have h' : aO L tm sto d T o.op := by
   unfold fx at h
   split at h
   ·rename_i c args ts hc; exact absurd ⟨c, args, ts, hc⟩ hcall
   ·exact h
  obtain ⟨G', w', v, r, sto', h1, hx, hw', hs', hr, hT⟩ := jN hL hsim.wok hsim.sok hsim.tok hop h'
  have hk := hK G' w' r v sto' hT (hsim.put hx hw' hs' hdst hr)
  unfold Oper.wp
  rcases h1 with h1 | ⟨h1, rfl⟩
  ·rw [h1]; exact hk
  ·rw [h1]; exact hk
inductive FZ (Q : Tm → Sto → Prop) : Tm → Sto → Prop
 | done {tm sto} : Q tm sto → FZ Q tm sto
 | step {tm sto id g esz l tm'} : ak sto id = some (g, .row esz l) → (∀ t, lk tm' t = lk (rfT id g l tm) t ∨ lk tm' t = .undef) → FZ Q tm' (rfS id g l (ca sto id)) → FZ Q tm sto
 | cut {tm sto id g esz l} (n : Nat) : ak sto id = some (g, .row esz l) → FZ Q tm (aF sto id (g, .row esz (l.take n))) → FZ Q tm sto
theorem u6 {G : Gh} {w : World} {sto : Sto} (n : Nat) {id g esz : Nat} {l : List (List aa)} (hs : an G w sto) (hg : ak sto id = some (g, .row esz l)) : an G w (aF sto id (g, .row esz (l.take n))) := by
 have tk : ∀ {i : Nat} {x : List aa}, (l.take n)[i]? = some x → l[i]? = some x := fun {i x} h => by
  rw [List.getElem?_take] at h
  split at h
  ·exact h
  ·cases h
 refine ⟨fun i g' o hi => ?_, fun i i' g1 g2 o o' hi hi' hne b hb => ?_⟩
 ·rw [bD] at hi
  split at hi
  ·rename_i e; subst e
   simp only [Option.some.injEq, Prod.mk.injEq] at hi
   obtain ⟨rfl, rfl⟩ := hi
   obtain ⟨ob, cap, h1, h2, h3, h4, h5, h6, h7, h8⟩ := hs.obj _ _ _ hg
   refine ⟨ob, cap, h1, ?_, ?_, h4, fun i x h => h5 i x (tk h), fun i j x y h hy => h6 i j x y (tk h) hy, h7, fun b hb => ?_⟩
   ·rw [List.length_take]; omega
   ·rw [List.length_take]; omega
   ·obtain ⟨x1, x2, c, e, x3, x4, x5⟩ := h8 b hb
    exact ⟨x1, x2, c, e, x3, x4, fun i j x y h hy => x5 i j x y (tk h) hy⟩
  ·exact hs.obj _ _ _ hi
 ·have old : ∀ {i g' o}, ak (aF sto id (g, .row esz (l.take n))) i = some (g', o) → ∃ o2, ak sto i = some (g', o2) := fun {i g' o} h => by
   rw [bD] at h
   split at h
   ·rename_i e; subst e
    simp only [Option.some.injEq, Prod.mk.injEq] at h
    obtain ⟨rfl, _⟩ := h
    exact ⟨_, hg⟩
   ·exact ⟨_, h⟩
  obtain ⟨p, hp⟩ := old hi
  obtain ⟨p', hp'⟩ := old hi'
  exact hs.apart _ _ _ _ _ _ hp hp' hne b hb
theorem uz {E : Gh} {nt : Nat} {ds : List Deferred} {a : Act} {w : World} {Q : Tm → Sto → Prop} {tm : Tm} {sto : Sto} (h : FZ Q tm sto) : ∀ {G : Gh}, Sim E nt ds tm sto a w G → ∃ G' tm' sto', Sim E nt ds tm' sto' a w G' ∧ Q tm' sto' := by
 induction h with
 | done h => exact fun {G} hs => ⟨G, _, _, hs, h⟩
 | step h1 h2 _ ih =>
  intro G hs
  obtain ⟨G', hext, hw', hs', hr⟩ := ga hs.wok hs.sok h1
  refine ih (G := G') ⟨hs.ext.trans hext, hw', hs', fun t => ?_, hs.n, hs.d⟩
  rcases h2 t with e | e <;> rw [e]
  ·rw [uC]; exact hr _ _ (hs.tok t)
  ·exact .undef
 | cut n h1 _ ih => exact fun {G} hs => ih (G := G) ⟨hs.ext, hs.wok, u6 n hs.sok h1, hs.tok, hs.n, hs.d⟩
def wx (L : Lay) (P : Program) (dd : List (Option Nat)) : List Oper → Tm → Sto → (Tm → Sto → Prop) → Prop
 | [], tm, sto, K => K tm sto
 | o :: os, tm, sto, K =>
  match o.guard with
  | none => FZ (fun tm sto => ∃ d, fx L P d o tm sto fun v s => wx L P dd os (put o.dst v tm) s K) tm sto
  | some (j, want) =>
   match dd[j]? with
   | some (some t) =>
    match lk tm t with
    | .bool b => (b = want → FZ (fun tm sto => ∃ d, fx L P d o tm sto fun v s => wx L P dd os (put o.dst v tm) s K) tm sto) ∧ (b = !want → wx L P dd os (put o.dst (.tup []) tm) sto K)
    | .tup [] => wx L P dd os (put o.dst (.tup []) tm) sto K
    | _ => False
   | _ => False
theorem iM (hL : LOk P L) {E : Gh} {nt : Nat} {ds : List Deferred} (ops : List Oper) {K : Tm → Sto → Prop} {Q : Exit → Act → World → Prop} (hQ : ∀ G tm sto a w, K tm sto → Sim E nt ds tm sto a w G → Q .normal a w) :
  ∀ (os : List Oper) (tm : Tm) (sto : Sto) (a : Act) (w : World) (G : Gh), aT L nt os = true → Sim E nt ds tm sto a w G → wx L P (ops.map (·.dst)) os tm sto K → wpList P ops.toArray Q os a w
 | [], tm, sto, a, w, G, _, hsim, h => hQ G tm sto a w h hsim
 | o :: os, tm, sto, a, w, G, hok, hsim, h => by
  have hok1 : aT L nt [o] = true := by simp only [aT, List.all_cons, Bool.and_eq_true] at hok ⊢; exact ⟨hok.1, rfl⟩
  have hok2 : aT L nt os = true := by simp only [aT, List.all_cons, Bool.and_eq_true] at hok ⊢; exact hok.2
  have hdst : (match o.dst with | some d => decide (d < nt) | none => true) = true := by
   simp only [aT, List.all_cons, List.all_nil, Bool.and_true, Bool.and_eq_true] at hok1
   exact hok1.1.2
  unfold wx at h
  unfold wpList
  split at h
  ·rename_i hg
   rw [if_pos (by simp [Region.wanted, hg])]
   obtain ⟨G', tm', sto', hs', d, hd⟩ := uz h hsim
   exact .inl (lT hL hs' hok1 hd fun G' w' r v sto' hT hs => iM hL ops hQ os _ _ _ _ _ hok2 hs hT)
  ·rename_i j want hg
   split at h
   ·rename_i t hj
    split at h
    ·rename_i b hb
     have hy := cW hsim.tok hj hb
     by_cases hbw : b = want
     ·rw [if_pos (by simp [Region.wanted, hg, hy, hbw])]
      obtain ⟨G', tm', sto', hs', d, hd⟩ := uz (h.1 hbw) hsim
      exact .inl (lT hL hs' hok1 hd fun G' w' r v sto' hT hs => iM hL ops hQ os _ _ _ _ _ hok2 hs hT)
     ·rw [if_neg (by simp [Region.wanted, hg, hy, hbw])]
      have hbn : b = !want := by cases b <;> cases want <;> simp_all
      exact iM hL ops hQ os _ _ _ _ G hok2 (hsim.put (.refl G) hsim.wok hsim.sok hdst (.tup rfl fun j x hx => by simp at hx)) (h.2 hbn)
    ·rename_i hb
     have hy := cX hsim.tok hj hb
     rw [if_neg (by simp [Region.wanted, hg, hy])]
     exact iM hL ops hQ os _ _ _ _ G hok2 (hsim.put (.refl G) hsim.wok hsim.sok hdst (.tup rfl fun j x hx => by simp at hx)) h
    ·exact h.elim
   ·exact h.elim
variable {f : Nat} {fn : Func} {df : List dt} {k : List Item} {tm : Tm} {sto : Sto} {R : aa → Sto → Prop}
theorem ae.regX (hL : LOk P L) {id : Nat} {ops : List Oper} (ps : List Nat) (hok : aT L fn.ntmps ops = true)
  (h : wx L P (ops.map (·.dst)) ops tm sto fun tm' sto' => ae P f fn df k (Rad.prune ps tm') sto' R) : ae P f fn df (.code (.region id ops.toArray false) :: k) tm sto R := by
 refine ⟨?_⟩
 intro E G a w b h1 h2 h3 h4 h5 h6 h7 h8 h9
 refine Good.of_wp (Q := fun e a' w' => e = .normal ∧ Good P f (fA E R) b k a' w') (wp_region_lit ?_) fun e a' w' hq => hq
 refine iM hL (E := G) (nt := fn.ntmps) (ds := a.defers) ops (K := fun tm' sto' => ae P f fn df k (Rad.prune ps tm') sto' R) (fun G' tm' sto' a' w' hk hs => ?_) ops tm sto a w G hok ⟨.refl G, h7, h8, h9, h4, rfl⟩ h
 exact ⟨rfl, hk.go E G' a' w' b h1 h2 h3 hs.n (hs.d ▸ h5.mono hs.ext.toMono) (h6.trans hs.ext) hs.wok hs.sok (hs.tok.prune ps)⟩
theorem ae.fz (h : FZ (fun tm sto => ae P f fn df k tm sto R) tm sto) : ae P f fn df k tm sto R := by
 refine ⟨?_⟩
 intro E G a w b h1 h2 h3 h4 h5 h6 h7 h8 h9
 obtain ⟨G', tm', sto', hs, hk⟩ := uz (E := G) (nt := fn.ntmps) (ds := a.defers) h ⟨.refl G, h7, h8, h9, h4, rfl⟩
 exact hk.go E G' a w b h1 h2 h3 hs.n (hs.d ▸ h5.mono hs.ext.toMono) (h6.trans hs.ext) hs.wok hs.sok hs.tok
end
def rn0 (d g n h : Nat) : aa → aa
 | .loc id k i off => if id = d ∧ k = g then .loc n h i off else .loc id k i off
 | .bx id k off => if id = d ∧ k = g then .bx n h off else .bx id k off
 | .osl id k off len => if id = d ∧ k = g then .osl n h off len else .osl id k off len
 | .map id k => if id = d ∧ k = g then .map n h else .map id k
 | v => v
def rn1 (d g n h : Nat) : aa → aa
 | .fn f cap => .fn f (cap.map (rn0 d g n h))
 | v => rn0 d g n h v
def rn2 (d g n h : Nat) : aa → aa
 | .agg cs => .agg (cs.map (rn1 d g n h))
 | v => rn1 d g n h v
def rn (d g n h : Nat) : aa → aa
 | .tup cs => .tup (cs.map (rn2 d g n h))
 | v => rn2 d g n h v
def rnO (d g n h : Nat) : bc → bc
 | .box cs => .box (cs.map (rn1 d g n h))
 | o => o
def rnS (d g n h : Nat) : Sto → Sto
 | [] => []
 | (i, k, o) :: s => (if i = d then (n, h, rnO d g n h o) else (i, k, rnO d g n h o)) :: rnS d g n h s
def rnT (d g n h : Nat) : Tm → Tm
 | [] => []
 | (t, v) :: s => (t, rn d g n h v) :: rnT d g n h s
def rnG (G : Gh) (d g n : Nat) : Gh := { G with M := fun i k => if i = n ∧ k = G.N then G.M d g else G.M i k, N := G.N + 1 }
theorem zR {d g n h : Nat} (t : Nat) : ∀ tm : Tm, lk (rnT d g n h tm) t = rn d g n h (lk tm t)
 | [] => rfl
 | (j, v) :: s => by
  simp only [rnT, lk]
  split
  ·rfl
  ·exact zR t s
theorem jY {c : Prop} [Decidable c] {a b : aa} (ha : a.ar = true) (hb : b.ar = true) : (if c then a else b).ar = true := by split <;> assumption
theorem tg {d g n h : Nat} {v : aa} : (rn1 d g n h v).ar = v.ar := by
 cases v with
 | loc => exact jY rfl rfl
 | bx => exact jY rfl rfl
 | osl => exact jY rfl rfl
 | map => exact jY rfl rfl
 | _ => rfl
section
variable {G : Gh} {w : World} {sto : Sto} {d g n : Nat}
theorem ri (hw : WOk G w) : Ext G (rnG G d g n) := by
 refine ⟨fun _ _ h => h, fun _ h => h, fun _ h => .inl h, fun _ => Iff.rfl, fun i k hd x => ?_, Nat.le_succ _, rfl⟩
 simp only [rnG]
 by_cases e : i = n ∧ k = G.N
 ·rw [e.1, e.2, hw.N n G.N (Nat.le_refl _)] at x; cases x
 ·rw [if_neg e]; exact x
theorem kx : (rnG G d g n).M n G.N = G.M d g := by simp [rnG]
theorem Rep.rn0 (hw : WOk G w) {x : aa} {v : Value} (r : Rep G true x v) : Rep (rnG G d g n) true (Rad.rn0 d g n G.N x) v := by
 have hm := (ri (d := d) (g := g) (n := n) hw).toMono
 have old := r.mono hm
 cases x with
 | loc id k i off =>
  simp only [Rad.rn0]; split
  ·rename_i e; obtain ⟨rfl, rfl⟩ := e; cases r with | loc a => exact .loc (kx ▸ a)
  ·exact old
 | bx id k off =>
  simp only [Rad.rn0]; split
  ·rename_i e; obtain ⟨rfl, rfl⟩ := e; cases r with | bx a => exact .bx (kx ▸ a)
  ·exact old
 | osl id k off len =>
  simp only [Rad.rn0]; split
  ·rename_i e; obtain ⟨rfl, rfl⟩ := e; cases r with | osl a b c e f e2 => exact .osl (show (rnG G _ _ n).M n G.N = _ from kx.trans a) b c e f e2
  ·exact old
 | map id k =>
  simp only [Rad.rn0]; split
  ·rename_i e; obtain ⟨rfl, rfl⟩ := e; cases r with | map a => exact .map (kx ▸ a)
  ·exact old
 | _ => exact old
theorem Rep.rn1 (hw : WOk G w) {x : aa} {v : Value} (r : Rep G true x v) : Rep (rnG G d g n) true (Rad.rn1 d g n G.N x) v := by
 cases x with
 | fn f cap =>
  cases r with
  | fn a b =>
   refine .fn (by simpa using a) fun j y hy => ?_
   rw [List.getElem?_map] at hy
   obtain ⟨z, hz, rfl⟩ := Option.map_eq_some_iff.1 hy
   exact (b j z hz).rn0 hw
 | _ => exact r.rn0 hw
theorem Rep.rn2 (hw : WOk G w) {x : aa} {v : Value} (r : Rep G true x v) : Rep (rnG G d g n) true (Rad.rn2 d g n G.N x) v := by
 cases x with
 | agg cs =>
  cases r with
  | agg a b c =>
   refine .agg (by simpa using a) (fun j y hy => ?_) fun j y hy => ?_
   ·rw [List.getElem?_map] at hy
    obtain ⟨z, hz, rfl⟩ := Option.map_eq_some_iff.1 hy
    rw [tg]; exact b j z hz
   ·rw [List.getElem?_map] at hy
    obtain ⟨z, hz, rfl⟩ := Option.map_eq_some_iff.1 hy
    exact (c j z hz).rn1 hw
 | _ => exact r.rn1 hw
theorem Rep.rn (hw : WOk G w) {x : aa} {v : Value} (r : Rep G true x v) : Rep (rnG G d g n) true (Rad.rn d g n G.N x) v := by
 cases x with
 | tup cs =>
  cases r with
  | tup a c =>
   refine .tup (by simpa using a) fun j y hy => ?_
   rw [List.getElem?_map] at hy
   obtain ⟨z, hz, rfl⟩ := Option.map_eq_some_iff.1 hy
   exact (c j z hz).rn2 hw
 | _ => exact r.rn2 hw
theorem tB {h : Nat} (hne : n ≠ d) (i : Nat) : ∀ s : Sto, ak s n = none → ak (rnS d g n h s) i = if i = n then (ak s d).map fun x => (h, rnO d g n h x.2) else if i = d then none else (ak s i).map fun x => (x.1, rnO d g n h x.2)
 | [], _ => by simp [rnS, ak]
 | (j, k, o) :: s, hn => by
  simp only [ak] at hn
  split at hn
  ·cases hn
  ·rename_i hjn
   have ih := tB (h := h) hne i s hn
   simp only [rnS]
   by_cases hj : j = d
   ·subst hj
    simp only [if_true, ak]
    by_cases hi : i = n
    ·subst hi; simp
    ·rw [if_neg (Ne.symm hi), if_neg hi, ih, if_neg hi]
     by_cases hid : i = j
     ·simp [hid]
     ·simp [hid, Ne.symm hid]
   ·simp only [hj, if_false, ak]
    by_cases hi : i = n
    ·subst hi
     rw [if_neg hjn, ih]; simp [hj]
    ·rw [if_neg hi] at ih ⊢
     by_cases hji : j = i
     ·subst hji; simp [hj]
     ·rw [if_neg hji, ih]
      by_cases hid : i = d
      ·simp [hid]
      ·simp [hid, hji]
theorem xX (hw : WOk G w) (hs : an G w sto) (hne : n ≠ d) (hn : ak sto n = none) {o : bc} (hd : ak sto d = some (g, o)) :
  WOk (rnG G d g n) w ∧ an (rnG G d g n) w (rnS d g n G.N sto) := by
 have hx := ri (d := d) (g := g) (n := n) hw
 have hm := hx.toMono
 have low : ∀ i k o, ak sto i = some (k, o) → k < G.N := fun i k o h => by
  obtain ⟨hd', hM⟩ := (hs.obj i k o h).M
  rcases Nat.lt_or_ge k G.N with h1 | h1
  ·exact h1
  ·rw [hw.N i k h1] at hM; cases hM
 have blk : ∀ i k o, ak sto i = some (k, o) → au (rnG G d g n) i k = au G i k := fun i k o h => by
  simp only [au, rnG]; rw [if_neg (fun e => by have := low i k o h; omega)]
 have blkN : au (rnG G d g n) n G.N = au G d g := by simp [au, rnG]
 have obj : ∀ {i k : Nat} {o : bc} {i' k' : Nat}, bW G w i k o → (rnG G d g n).M i' k' = G.M i k → bW (rnG G d g n) w i' k' (rnO d g n G.N o) := by
  intro i k o i' k' ho hM
  cases o with
  | row esz l =>
   obtain ⟨ob, cap, h1, h2⟩ := ho
   refine ⟨ob, cap, hM.trans h1, h2.1, h2.2.1, h2.2.2.1, h2.2.2.2.1, h2.2.2.2.2.1, h2.2.2.2.2.2.1, fun b hb => ?_⟩
   obtain ⟨x1, x2, c, e, x3, x4, x5⟩ := h2.2.2.2.2.2.2 b hb
   exact ⟨x1, x2, c, e, x3, x4, fun i j x y hx hy => (x5 i j x y hx hy).mono hm⟩
  | box cs =>
   obtain ⟨b, cap, esz, h1, h2, c, e, h3, h4, h5, h6⟩ := ho
   refine ⟨b, cap, esz, hM.trans h1, h2, c, e, h3, by simpa using h4, fun j x hj => ?_, fun j x hj => ?_⟩
   ·rw [List.getElem?_map] at hj
    obtain ⟨z, hz, rfl⟩ := Option.map_eq_some_iff.1 hj
    rw [tg]; exact h5 j z hz
   ·rw [List.getElem?_map] at hj
    obtain ⟨z, hz, rfl⟩ := Option.map_eq_some_iff.1 hj
    exact (h6 j z hz).rn1 hw
  | mp es =>
   obtain ⟨b, cap, esz, h1, h2, me, cl, h3, h4, h5, h6⟩ := ho
   refine ⟨b, cap, esz, hM.trans h1, h2, me, cl, h3, h4, h5, fun j x hj => ?_⟩
   obtain ⟨m, m1, m2, m3, m4⟩ := h6 j x hj
   exact ⟨m, m1, m2, m3, m4.mono hm⟩
  | mpi es =>
   obtain ⟨b, cap, esz, h1, h2, me, cl, h3, h4, h5, h6⟩ := ho
   refine ⟨b, cap, esz, hM.trans h1, h2, me, cl, h3, h4, h5, fun j x hj => ?_⟩
   obtain ⟨m, m1, m2, m3, m4⟩ := h6 j x hj
   exact ⟨m, m1, m2, m3, m4.mono hm⟩
 have spl : ∀ i k o', ak (rnS d g n G.N sto) i = some (k, o') → (i = n ∧ k = G.N ∧ o' = rnO d g n G.N o) ∨ (i ≠ n ∧ i ≠ d ∧ ∃ o2, ak sto i = some (k, o2) ∧ o' = rnO d g n G.N o2) := by
  intro i k o' h
  rw [tB hne i sto hn] at h
  split at h
  ·rename_i e; rw [hd] at h; simp only [Option.map_some, Option.some.injEq, Prod.mk.injEq] at h; exact .inl ⟨e, h.1.symm, h.2.symm⟩
  ·rename_i e
   split at h
   ·cases h
   ·rename_i e2
    obtain ⟨⟨k2, o2⟩, h3, h4⟩ := Option.map_eq_some_iff.1 h
    simp only [Prod.mk.injEq] at h4
    obtain ⟨rfl, rfl⟩ := h4
    exact .inr ⟨e, e2, o2, h3, rfl⟩
 refine ⟨⟨hw.K, hw.F, fun i k hh b h1 h2 => ?_, fun i k h1 => ?_, fun g' l h => (hw.T g' l h).mono hm⟩, ⟨fun i k o' h => ?_, fun i i' k k' o1 o2 h h' hii b hb hb' => ?_⟩⟩
 ·simp only [rnG] at h1
  split at h1
  ·exact hw.M d g hh b h1 h2
  ·exact hw.M i k hh b h1 h2
 ·simp only [rnG] at h1 ⊢
  rw [if_neg (fun e => by omega)]; exact hw.N i k (by omega)
 ·rcases spl i k o' h with ⟨rfl, rfl, rfl⟩ | ⟨h1, h2, o2, h3, rfl⟩
  ·exact obj (hs.obj d g o hd) kx
  ·exact obj (hs.obj i k o2 h3) (by simp only [rnG]; rw [if_neg (fun e => h1 e.1)])
 ·rcases spl i k o1 h with ⟨rfl, rfl, rfl⟩ | ⟨h1, h2, p, h3, rfl⟩
  ·rcases spl i' k' o2 h' with ⟨rfl, rfl, rfl⟩ | ⟨h1', h2', p', h3', rfl⟩
   ·exact hii rfl
   ·rw [blkN] at hb
    rw [blk i' k' p' h3'] at hb'
    exact hs.apart d i' g k' o p' hd h3' (Ne.symm h2') b hb hb'
  ·rcases spl i' k' o2 h' with ⟨rfl, rfl, rfl⟩ | ⟨h1', h2', p', h3', rfl⟩
   ·rw [blkN] at hb'
    rw [blk i k p h3] at hb
    exact hs.apart i d k g p o h3 hd h2 b hb hb'
   ·rw [blk i k p h3] at hb
    rw [blk i' k' p' h3'] at hb'
    exact hs.apart i i' k k' p p' h3 h3' hii b hb hb'
end
theorem ae.rename {P : Program} {f : Nat} {fn : Func} {df : List dt} {k : List Item} {tm : Tm} {sto : Sto} {R : aa → Sto → Prop} {d g n : Nat} {o : bc} (hne : n ≠ d) (hn : ak sto n = none) (hd : ak sto d = some (g, o))
  (h : ∀ h, ∃ tm', (∀ t, lk tm' t = lk (rnT d g n h tm) t ∨ lk tm' t = .undef) ∧ ae P f fn df k tm' (rnS d g n h sto) R) : ae P f fn df k tm sto R := by
 refine ⟨?_⟩
 intro E G a w b h1 h2 h3 h4 h5 h6 h7 h8 h9
 obtain ⟨tm', ht, hk⟩ := h G.N
 obtain ⟨x1, x2⟩ := xX h7 h8 hne hn hd
 have hx := ri (d := d) (g := g) (n := n) h7
 refine hk.go E (rnG G d g n) a w b h1 h2 h3 h4 (h5.mono hx.toMono) (h6.trans hx) x1 x2 fun t => ?_
 rcases ht t with e | e <;> rw [e]
 ·rw [zR]; exact (h9 t).rn h7
 ·exact .undef
def okR (d g : Nat) : aa → Bool
 | .loc id k _ _ => !(Nat.beq id d) || Nat.beq k g
 | .bx id k _ => !(Nat.beq id d) || Nat.beq k g
 | .osl id k _ _ => !(Nat.beq id d) || Nat.beq k g
 | .map id k => !(Nat.beq id d) || Nat.beq k g
 | _ => true
def qW (d g : Nat) : aa → Bool
 | .fn _ cap => cap.all (okR d g)
 | v => okR d g v
def qX (d g : Nat) : aa → Bool
 | .agg cs => cs.all (qW d g)
 | v => qW d g v
def qY (d g : Nat) : aa → Bool
 | .tup cs => cs.all (qX d g)
 | v => qX d g v
def uT (d g : Nat) : Sto → Bool
 | [] => true
 | (_, _, .box cs) :: s => cs.all (qW d g) && uT d g s
 | _ :: s => uT d g s
def yN (d g n : Nat) : Tm → Tm
 | [] => []
 | (t, v) :: s => (t, if qY d g v then rn d g n n v else .undef) :: yN d g n s
section
variable {r : Nat → Nat} {d g n : Nat}
theorem oe {h : Nat} {v : aa} (hk : okR d g v = true) (hb : bd0 n v = true) : rn0 d (r g) n h (mg0 r v) = mg0 (up r n h) (rn0 d g n n v) := by
 have e : ∀ k, k < n → up r n h k = r k := fun k hk => (ee k hk).symm
 have key : ∀ {id k : Nat} {a b : aa}, (!(Nat.beq id d) || Nat.beq k g) = true → (if id = d ∧ r k = r g then a else b) = if id = d ∧ k = g then a else b := by
  intro id k a b hk
  simp only [Bool.or_eq_true, Bool.not_eq_true', Nat.beq_eq] at hk
  by_cases h1 : id = d
  ·have : k = g := by
    rcases hk with hk | hk
    ·subst h1; simp [Nat.beq_refl] at hk
    ·exact hk
   subst this; simp [h1]
  ·simp [h1]
 cases v with
 | loc id k i off =>
  simp only [bd0, Nat.blt_eq] at hb
  simp only [okR] at hk
  simp only [mg0, rn0, key hk]
  split
  ·simp only [mg0, cF]
  ·simp only [mg0, e k hb]
 | bx id k off =>
  simp only [bd0, Nat.blt_eq] at hb
  simp only [okR] at hk
  simp only [mg0, rn0, key hk]
  split
  ·simp only [mg0, cF]
  ·simp only [mg0, e k hb]
 | osl id k off len =>
  simp only [bd0, Nat.blt_eq] at hb
  simp only [okR] at hk
  simp only [mg0, rn0, key hk]
  split
  ·simp only [mg0, cF]
  ·simp only [mg0, e k hb]
 | map id k =>
  simp only [bd0, Nat.blt_eq] at hb
  simp only [okR] at hk
  simp only [mg0, rn0, key hk]
  split
  ·simp only [mg0, cF]
  ·simp only [mg0, e k hb]
 | _ => rfl
theorem j5 {l : List aa} {f1 g1 f2 g2 : aa → aa} (h : ∀ x ∈ l, f1 (g1 x) = f2 (g2 x)) : (l.map g1).map f1 = (l.map g2).map f2 := by
 rw [List.map_map, List.map_map]; exact List.map_congr_left h
theorem my {c : Prop} [Decidable c] {a b : aa} {f : aa → aa} (ha : f a = mg0 r a) (hb : f b = mg0 r b) : f (if c then a else b) = mg0 r (if c then a else b) := by split <;> assumption
theorem jG {h : Nat} {v : aa} (hk : qW d g v = true) (hb : bd1 n v = true) : rn1 d (r g) n h (mg1 r v) = mg1 (up r n h) (rn1 d g n n v) := by
 cases v with
 | fn f cap =>
  simp only [qW, List.all_eq_true] at hk
  simp only [bd1, List.all_eq_true] at hb
  simp only [mg1, rn1]
  exact congrArg (aa.fn f) (j5 fun x hx => oe (h := h) (hk x hx) (hb x hx))
 | loc id k i off => exact (oe (h := h) (by simpa [qW] using hk) (by simpa [bd1] using hb)).trans (by simp only [rn1, rn0]; exact (my (f := mg1 (up r n h)) rfl rfl).symm)
 | bx id k off => exact (oe (h := h) (by simpa [qW] using hk) (by simpa [bd1] using hb)).trans (by simp only [rn1, rn0]; exact (my (f := mg1 (up r n h)) rfl rfl).symm)
 | osl id k off len => exact (oe (h := h) (by simpa [qW] using hk) (by simpa [bd1] using hb)).trans (by simp only [rn1, rn0]; exact (my (f := mg1 (up r n h)) rfl rfl).symm)
 | map id k => exact (oe (h := h) (by simpa [qW] using hk) (by simpa [bd1] using hb)).trans (by simp only [rn1, rn0]; exact (my (f := mg1 (up r n h)) rfl rfl).symm)
 | _ => rfl
theorem fp {c : Prop} [Decidable c] {a b : aa} {f g : aa → aa} (ha : f a = g a) (hb : f b = g b) : f (if c then a else b) = g (if c then a else b) := by split <;> assumption
theorem jH {h : Nat} {v : aa} (hk : qX d g v = true) (hb : bd2 n v = true) : rn2 d (r g) n h (mg2 r v) = mg2 (up r n h) (rn2 d g n n v) := by
 cases v with
 | agg cs =>
  simp only [qX, List.all_eq_true] at hk
  simp only [bd2, List.all_eq_true] at hb
  simp only [mg2, rn2]
  exact congrArg aa.agg (j5 fun x hx => jG (h := h) (hk x hx) (hb x hx))
 | fn f cap => exact jG (h := h) (by simpa [qX] using hk) (by simpa [bd2] using hb)
 | loc id k i off => exact (jG (h := h) (by simpa [qX] using hk) (by simpa [bd2] using hb)).trans (by simp only [rn2, rn1, rn0]; exact (fp (f := mg2 (up r n h)) (g := mg1 (up r n h)) rfl rfl).symm)
 | bx id k off => exact (jG (h := h) (by simpa [qX] using hk) (by simpa [bd2] using hb)).trans (by simp only [rn2, rn1, rn0]; exact (fp (f := mg2 (up r n h)) (g := mg1 (up r n h)) rfl rfl).symm)
 | osl id k off len => exact (jG (h := h) (by simpa [qX] using hk) (by simpa [bd2] using hb)).trans (by simp only [rn2, rn1, rn0]; exact (fp (f := mg2 (up r n h)) (g := mg1 (up r n h)) rfl rfl).symm)
 | map id k => exact (jG (h := h) (by simpa [qX] using hk) (by simpa [bd2] using hb)).trans (by simp only [rn2, rn1, rn0]; exact (fp (f := mg2 (up r n h)) (g := mg1 (up r n h)) rfl rfl).symm)
 | _ => rfl
theorem Ms {h : Nat} {v : aa} (hk : qY d g v = true) (hb : bd n v = true) : rn d (r g) n h (mg r v) = mg (up r n h) (rn d g n n v) := by
 cases v with
 | tup cs =>
  simp only [qY, List.all_eq_true] at hk
  simp only [bd, List.all_eq_true] at hb
  simp only [mg, rn]
  exact congrArg aa.tup (j5 fun x hx => jH (h := h) (hk x hx) (hb x hx))
 | fn f cap => exact jH (h := h) (by simpa [qY] using hk) (by simpa [bd] using hb)
 | agg cs => exact jH (h := h) (by simpa [qY] using hk) (by simpa [bd] using hb)
 | loc id k i off => exact (jH (h := h) (by simpa [qY] using hk) (by simpa [bd] using hb)).trans (by simp only [rn, rn2, rn1, rn0]; exact (fp (f := mg (up r n h)) (g := mg2 (up r n h)) rfl rfl).symm)
 | bx id k off => exact (jH (h := h) (by simpa [qY] using hk) (by simpa [bd] using hb)).trans (by simp only [rn, rn2, rn1, rn0]; exact (fp (f := mg (up r n h)) (g := mg2 (up r n h)) rfl rfl).symm)
 | osl id k off len => exact (jH (h := h) (by simpa [qY] using hk) (by simpa [bd] using hb)).trans (by simp only [rn, rn2, rn1, rn0]; exact (fp (f := mg (up r n h)) (g := mg2 (up r n h)) rfl rfl).symm)
 | map id k => exact (jH (h := h) (by simpa [qY] using hk) (by simpa [bd] using hb)).trans (by simp only [rn, rn2, rn1, rn0]; exact (fp (f := mg (up r n h)) (g := mg2 (up r n h)) rfl rfl).symm)
 | _ => rfl
theorem AD {h : Nat} : ∀ (s : Sto), uT d g s = true → bdS n s = true → (∀ k o, (d, k, o) ∈ s → k = g) → rnS d (r g) n h (mgS r s) = mgS (up r n h) (rnS d g n n s)
 | [], _, _, _ => rfl
 | (i, k, o) :: s, hk, hb, hd => by
  have hrest : uT d g s = true := by cases o <;> simp_all [uT]
  simp only [bdS, Bool.and_eq_true, Nat.blt_eq] at hb
  have ih := AD (h := h) s hrest hb.2 fun k o hm => hd k o (by simp [hm])
  have ho : rnO d (r g) n h (mgO r o) = mgO (up r n h) (rnO d g n n o) := by
   cases o with
   | box cs =>
    simp only [uT, Bool.and_eq_true, List.all_eq_true] at hk
    simp only [bdO, List.all_eq_true] at hb
    simp only [mgO, rnO]
    exact congrArg bc.box (j5 fun x hx => jG (h := h) (hk.1 x hx) (hb.1.2 x hx))
   | _ => rfl
  simp only [mgS, rnS]
  rw [ih]
  by_cases hi : i = d
  ·simp only [hi, if_true, mgS, ho, cF]
  ·simp only [hi, if_false, mgS, ho, (ee (r := r) (h := h) k hb.1.1).symm]
theorem wa {h : Nat} (t : Nat) : ∀ (tm : Tm), bdT n tm = true → lk (mgT (up r n h) (yN d g n tm)) t = lk (rnT d (r g) n h (mgT r tm)) t ∨ lk (mgT (up r n h) (yN d g n tm)) t = .undef
 | [], _ => .inl rfl
 | (j, v) :: tm, hb => by
  simp only [bdT, Bool.and_eq_true] at hb
  simp only [yN, mgT, rnT, lk]
  split
  ·split
   ·rename_i hk; exact .inl (Ms hk hb.1).symm
   ·exact .inr rfl
  ·exact wa t tm hb.2
end
def Ep : Sto → Option (Nat × Nat)
 | [] => none
 | (i, g, _) :: s => match Nat.blt i 1000 with | true => some (i, g) | false => Ep s
def mB (d : Nat) : Sto → Bool
 | [] => true
 | (i, _, _) :: s => (!(Nat.beq i d) || (ak s d).isNone) && mB d s
def BC : Nat → Tm → Sto → Nat → Option (Tm × Sto × Nat)
 | 0, tm, sto, n => some (tm, sto, n)
 | k + 1, tm, sto, n =>
  match Ep sto with
  | none => some (tm, sto, n)
  | some (d, g) =>
   match ak sto d with
   | some (g', _) => req (Nat.beq g' g && uT d g sto && bdS n sto && bdT n tm && mB d sto && (ak sto n).isNone && Nat.blt d n) (BC k (yN d g n tm) (rnS d g n n sto) (n + 1))
   | none => none
theorem jo {d : Nat} : ∀ {s : Sto}, ak s d = none → ∀ k o, (d, k, o) ∉ s
 | [], _, _, _, h => by cases h
 | (i, g, o') :: s, hn, k, o, h => by
  simp only [ak] at hn
  split at hn
  ·cases hn
  ·rename_i hi
   rcases List.mem_cons.1 h with e | h
   ·simp only [Prod.mk.injEq] at e; exact hi e.1.symm
   ·exact jo hn k o h
theorem nY {d g : Nat} {o : bc} : ∀ {s : Sto}, mB d s = true → ak s d = some (g, o) → ∀ k o', (d, k, o') ∈ s → k = g
 | [], _, h, _, _, _ => by cases h
 | (i, g', o2) :: s, h1, h2, k, o', hm => by
  simp only [mB, Bool.and_eq_true, Bool.or_eq_true, Bool.not_eq_true'] at h1
  simp only [ak] at h2
  split at h2
  ·rename_i hi; subst hi
   cases h2
   have hn : ak s i = none := by
    rcases h1.1 with h | h
    ·simp [Nat.beq_refl] at h
    ·simpa using h
   rcases List.mem_cons.1 hm with e | h
   ·simp only [Prod.mk.injEq] at e; exact e.2.1
   ·exact absurd h (jo hn k o')
  ·rename_i hi
   rcases List.mem_cons.1 hm with e | h
   ·simp only [Prod.mk.injEq] at e; exact absurd e.1.symm hi
   ·exact nY h1.2 h2 k o' h
theorem rV {P : Program} {f : Nat} {fn : Func} {df : List dt} {its : List Item} {R : aa → Sto → Prop} : ∀ (k : Nat) {tm tm' : Tm} {sto sto' : Sto} {n n' : Nat}, BC k tm sto n = some (tm', sto', n') → n ≤ n' ∧ ∀ r : Nat → Nat,
  (∀ r', bp n r r' → ae P f fn df its (mgT r' tm') (mgS r' sto') R) → ae P f fn df its (mgT r tm) (mgS r sto) R
 | 0, tm, tm', sto, sto', n, n', h => by simp only [BC, Option.some.injEq, Prod.mk.injEq] at h; obtain ⟨rfl, rfl, rfl⟩ := h; exact ⟨Nat.le_refl _, fun r hr => hr r .refl⟩
 | k + 1, tm, tm', sto, sto', n, n', h => by
  simp only [BC] at h
  split at h
  ·simp only [Option.some.injEq, Prod.mk.injEq] at h; obtain ⟨rfl, rfl, rfl⟩ := h; exact ⟨Nat.le_refl _, fun r hr => hr r .refl⟩
  ·rename_i d g hl
   split at h
   ·rename_i g' o hs
    simp only [aj, Bool.and_eq_true, Nat.beq_eq, Nat.blt_eq, Option.isNone_iff_eq_none] at h
    obtain ⟨⟨⟨⟨⟨⟨⟨rfl, h1⟩, h2⟩, h3⟩, h4⟩, h5⟩, h6⟩, h⟩ := h
    obtain ⟨h7, h8⟩ := rV (P := P) (f := f) (fn := fn) (df := df) (its := its) (R := R) k h
    refine ⟨Nat.le_of_succ_le h7, fun r hr => ?_⟩
    refine ae.rename (d := d) (n := n) (g := r g') (o := mgO r o) (by omega) (by rw [aZ, h5]; rfl) (by rw [aZ, hs]; rfl) fun h => ⟨mgT (up r n h) (yN d g' n tm), fun t => wa t tm h3, ?_⟩
    rw [AD sto h1 h2 (nY h4 hs)]
    exact h8 _ fun r' k1 => hr r' (ee.trans k1 (Nat.le_succ n))
   ·cases h
def okF (id g len : Nat) : aa → Bool
 | .osl i h off n => !(Nat.beq i id) || (Nat.beq h g && Nat.ble (off + n) len)
 | _ => true
def uS (id g len : Nat) : aa → Bool
 | .agg cs => cs.all (okF id g len)
 | .tup cs => cs.all (okF id g len) && cs.all aa.ar
 | v => okF id g len v
def yM (id g : Nat) (l : List (List aa)) : Tm → Tm
 | [] => []
 | (t, v) :: s => (t, if uS id g l.length v then rf id g l v else .undef) :: yM id g l s
def o9 (id g len : Nat) : Sto → Bool
 | [] => true
 | (_, _, .box cs) :: s => cs.all (okF id g len) && o9 id g len s
 | _ :: s => o9 id g len s
def xFz : List Nat → Tm → Sto → Option (Tm × Sto)
 | [], tm, sto => some (tm, sto)
 | id :: ids, tm, sto =>
  match ak sto id with
  | some (g, .row _ l) => req (o9 id g l.length (ca sto id)) (xFz ids (yM id g l tm) (rfS id g l (ca sto id)))
  | _ => none
section
variable {r : Nat → Nat}
theorem AA {id g : Nat} {l : List (List aa)} {v : aa} (h : okF id g l.length v = true) : rf1 id (r g) l (mg1 r v) = mg1 r (rf1 id g l v) := by
 cases v with
 | osl i h' off n =>
  simp only [okF, Bool.or_eq_true, Bool.not_eq_true', Bool.and_eq_true, Nat.ble_eq, Nat.beq_eq] at h
  simp only [mg1, mg0, rf1]
  by_cases hi : i = id
  ·have : h' = g ∧ off + n ≤ l.length := by
    rcases h with h | h
    ·exact absurd hi (by intro e; rw [e] at h; simp [Nat.beq_refl] at h)
    ·exact h
   obtain ⟨rfl, h2⟩ := this
   rw [if_pos ⟨hi, rfl, h2⟩, if_pos ⟨hi, rfl, h2⟩]
  ·rw [if_neg (fun h => hi h.1), if_neg (fun h => hi h.1)]
 | fn f cap => rfl
 | _ => rfl
theorem mD {id g : Nat} {l : List (List aa)} : ∀ {cs : List aa}, cs.all (okF id g l.length) = true → (cs.map (mg1 r)).map (rf1 id (r g) l) = (cs.map (rf1 id g l)).map (mg1 r)
 | [], _ => rfl
 | v :: cs, h => by simp only [List.all_cons, Bool.and_eq_true] at h; simp only [List.map_cons, AA h.1, mD h.2]
theorem AB {id g : Nat} {l : List (List aa)} {v : aa} (h : uS id g l.length v = true) : rf id (r g) l (mg r v) = mg r (rf id g l v) := by
 cases v with
 | agg cs => simp only [uS] at h; simp only [mg, mg2, rf, mD h]
 | tup cs =>
  simp only [uS, Bool.and_eq_true, List.all_eq_true] at h
  obtain ⟨h, hcs⟩ := h
  have h := List.all_eq_true.2 h
  have e2 : ∀ {cs : List aa}, (∀ c ∈ cs, c.ar = true) → cs.map (mg2 r) = cs.map (mg1 r) := fun hc => List.map_congr_left fun c hcm => by have := hc c hcm; cases c <;> first | rfl | simp [aa.ar] at this
  simp only [mg, rf]
  rw [e2 hcs, mD h, e2]
  intro c hc
  obtain ⟨c', hc', rfl⟩ := List.mem_map.1 hc
  exact n9 (hcs c' hc')
 | osl i h' off n =>
  have := AA (r := r) (v := .osl i h' off n) (by simpa [uS] using h)
  simp only [rf, mg, mg2] at this ⊢
  rw [show (mg1 r (aa.osl i h' off n)) = .osl i (r h') off n from rfl] at this ⊢
  simp only at this ⊢
  rw [this]
  simp only [rf1]; split <;> rfl
 | _ => rfl
end
abbrev dK := Bool → Nat → List aa → Sto → Nat → Option (aa × Sto × Nat)
def dW (P : Program) (c : dK) : Prop := ∀ ro f args sto n v sto' n', c ro f args sto n = some (v, sto', n') → n ≤ n' ∧ (ro = true → sto' = sto) ∧ ∀ r : Nat → Nat, ah P f (args.map (mg r)) (mgS r sto) fun v1 s1 => ∃ r', bp n r r' ∧ v1 = mg r' v ∧ s1 = mgS r' sto'
def jX : List aa → Option Nat
 | [] => none
 | .osl id _ _ _ :: _ => some id
 | _ :: l => jX l
def Mb : Op → Tm → List aa
 | .build _ parts => fun tm => parts.toList.flatMap fun p => cellsOf (evF tm p.2)
 | .buildSlice _ _ parts => fun tm => parts.toList.flatMap fun p => cellsOf (evF tm p.2)
 | .store _ a x => fun tm => match evF tm a with | .loc _ _ _ _ => cellsOf (evF tm x) | _ => []
 | .mapUpdate _ _ _ x => fun tm => cellsOf (evF tm x)
 | _ => fun _ => []
def ub (op : Op) : Nat → Tm → Sto → Option (Tm × Sto)
 | 0, tm, sto => some (tm, sto)
 | k + 1, tm, sto =>
  match jX (Mb op tm) with
  | none => some (tm, sto)
  | some id => (xFz [id] tm sto).bind fun x => ub op k x.1 x.2
def Iw : Op → Bool
 | .store _ _ _ | .mapUpdate _ _ _ _ => true
 | _ => false
theorem Bw {L : Lay} {tm : Tm} {sto sto' : Sto} {d n : Nat} {op : Op} {v : aa} (h1 : sM op = false) (h2 : Iw op = false) (h : xOp L tm sto d n op = some (v, sto')) : sto' = sto := by
 unfold xOp at h
 split at h
 all_goals first
  | (simp [sM] at h1; done)
  | (simp [Iw] at h2; done)
  | (cases h; rfl)
  | (obtain ⟨w, hw, he⟩ := aC h; cases he; rfl)
  | skip
 case h_3 => split at h <;> cases h <;> rfl
 case h_10 => split at h <;> cases h <;> rfl
 case h_11 =>
  split at h
  ·split at h <;> first | (obtain ⟨w, hw, he⟩ := aC h; cases he; rfl) | cases h
  ·simp only [aj, Option.bind_eq_some_iff] at h
   obtain ⟨_, w, _, h⟩ := h
   obtain ⟨w, hw, he⟩ := aC h; cases he; rfl
 case h_12 =>
  simp only [aj, Option.bind_eq_some_iff] at h
  obtain ⟨_, w, _, h⟩ := h
  obtain ⟨w, hw, he⟩ := aC h; cases he; rfl
 case h_13 =>
  simp only [aj, Option.bind_eq_some_iff] at h
  obtain ⟨_, w, _, h⟩ := h
  obtain ⟨w, hw, he⟩ := aC h; cases he; rfl
 case h_14 => simp only [aj, Option.some.injEq, Prod.mk.injEq] at h; exact h.2.2.symm
 case h_17 =>
  simp only [aj] at h
  obtain ⟨w, hw, he⟩ := aC h.2; cases he; rfl
 case h_22 =>
  simp only [Option.bind_eq_some_iff] at h
  obtain ⟨w, _, h⟩ := h
  obtain ⟨w, hw, he⟩ := aC h; cases he; rfl
 case h_25 =>
  split at h
  ·simp only [Option.bind_eq_some_iff] at h
   obtain ⟨w, _, h⟩ := h
   obtain ⟨w, hw, he⟩ := aC h; cases he; rfl
  ·simp [sM] at h1
  ·split at h
   ·simp only [aj, Option.some.injEq, Prod.mk.injEq] at h; exact h.2.2.symm
   ·cases h
  ·split at h
   ·simp only [aj, Option.some.injEq, Prod.mk.injEq] at h; exact h.2.2.symm
   ·cases h
  ·cases h
 case h_26 => cases h
def lG (L : Lay) (ro : Bool) (d : Nat) (op : Op) (tm : Tm) (sto : Sto) (n : Nat) : Option (aa × Sto × Nat) :=
 match sM op with
 | true => req (!ro && bdT n tm) ((ug op L tm sto d n).map fun x => (x.1, x.2, n + 1))
 | false => req (!ro || !Iw op) ((ug op L tm sto d n).map fun x => (x.1, x.2, n))
theorem qi {L : Lay} {ro : Bool} {d n n' : Nat} {op : Op} {tm : Tm} {sto sto' : Sto} {v : aa} (h : lG L ro d op tm sto n = some (v, sto', n')) : n ≤ n' ∧ (ro = true → sto' = sto) ∧
  ∀ (r : Nat → Nat) (T : aa → Sto → Prop), (∀ r', bp n r r' → mgT r' tm = mgT r tm → T (mg r' v) (mgS r' sto')) → aO L (mgT r tm) (mgS r sto) d T op := by
 unfold lG at h
 simp only [Ea] at h
 split at h
 ·simp only [aj, Bool.and_eq_true, Bool.not_eq_true'] at h
  obtain ⟨⟨h1, hb⟩, h⟩ := h
  obtain ⟨⟨u', s'⟩, hx, he⟩ := aC h
  cases he
  exact ⟨Nat.le_succ _, fun e => Bool.noConfusion (h1.symm.trans e), fun r T hT => Bv hx fun h _ => hT _ ee (qT ee hb).symm⟩
 ·rename_i hn
  simp only [aj, Bool.or_eq_true, Bool.not_eq_true'] at h
  obtain ⟨h1, h⟩ := h
  obtain ⟨⟨u', s'⟩, hx, he⟩ := aC h
  cases he
  refine ⟨Nat.le_refl _, fun e => Bw hn (by rcases h1 with h1 | h1; rw [h1] at e; cases e; exact h1) hx, fun r T hT => Bv hx fun h hh => by rw [hh hn, wK]; exact hT r .refl rfl⟩
def wQ (L : Lay) (call : dK) (ro : Bool) (d : Nat) (o : Op) (tm : Tm) (sto : Sto) (n : Nat) : Option (aa × Sto × Nat) :=
 match o with
 | .call ⟨.value c, args, _⟩ =>
  match evF tm c with
  | .fn f cap => req (bdT n tm && cap.all jl) (call ro f (args.toList.map (evF tm) ++ cap) sto n)
  | _ => none
 | op => lG L ro d op tm sto n
def vz : Op → Lay → dK → Bool → Nat → Tm → Sto → Nat → Option (aa × Sto × Nat)
 | .call ⟨.value c, args, _⟩ => fun _ call ro _ tm sto n =>
  match evF tm c with
  | .fn f cap => req (bdT n tm && cap.all jl) (call ro f (args.toList.map (evF tm) ++ cap) sto n)
  | _ => none
 | op => fun L _ ro d tm sto n => lG L ro d op tm sto n
theorem yJ {L : Lay} {call : dK} {ro : Bool} {d n : Nat} {tm : Tm} {sto : Sto} (op : Op) : vz op L call ro d tm sto n = wQ L call ro d op tm sto n := by
 cases op with
 | call c => obtain ⟨callee, args, ts⟩ := c; cases callee <;> rfl
 | _ => rfl
def J1 : Op → Tm → Sto → Sto
 | .call ⟨.builtin .append, args, _⟩ => fun tm sto =>
  match args.toList with
  | [s, _] =>
   match evF tm s with
   | .osl id _ 0 len =>
    match ak sto id with
    | some (g', .row esz l) => match Nat.blt len l.length with | true => aF sto id (g', .row esz (l.take len)) | false => sto
    | _ => sto
   | _ => sto
  | _ => sto
 | _ => fun _ sto => sto
theorem Eb {r : Nat → Nat} {Q : Tm → Sto → Prop} {op : Op} {tm : Tm} {sto : Sto} {tmr : Tm} (h : FZ Q tmr (mgS r (J1 op tm sto))) : FZ Q tmr (mgS r sto) := by
 unfold J1 at h
 split at h
 ·split at h
  ·split at h
   ·split at h
    ·rename_i g' esz l hg
     split at h
     ·rw [fc] at h
      exact .cut _ (by rw [aZ, hg]; rfl) h
     ·exact h
    ·exact h
   ·exact h
  ·exact h
 ·exact h
def BP : Op → Bool
 | .call ⟨.builtin .append, _, _⟩ => true
 | .build _ _ | .buildSlice _ _ _ | .store _ _ _ | .mapUpdate _ _ _ _ => true
 | _ => false
def yE (ro : Bool) (op : Op) (tm : Tm) (sto : Sto) : Option (Tm × Sto) :=
 match ro || !BP op with
 | true => some (tm, sto)
 | false => ub op 4 tm (J1 op tm sto)
def rT (L : Lay) (call : dK) (ro : Bool) (dd : List (Option Nat)) : List Oper → Tm → Sto → Nat → Option (Tm × Sto × Nat)
 | [], tm, sto, n => some (tm, sto, n)
 | o :: os, tm, sto, n =>
  match o.guard with
  | none => (yE ro o.op tm sto).bind fun x => (vz o.op L call ro n x.1 x.2 n).bind fun y => rT L call ro dd os (put o.dst y.1 x.1) y.2.1 y.2.2
  | some (j, want) =>
   match dd[j]? with
   | some (some t) =>
    match lkF tm t with
    | .bool b =>
     match b == want with
     | true => (yE ro o.op tm sto).bind fun x => (vz o.op L call ro n x.1 x.2 n).bind fun y => rT L call ro dd os (put o.dst y.1 x.1) y.2.1 y.2.2
     | false => rT L call ro dd os (put o.dst (.tup []) tm) sto n
    | .tup [] => rT L call ro dd os (put o.dst (.tup []) tm) sto n
    | _ => none
   | _ => none
section
variable {P : Program} {L : Lay} {call : dK}
theorem iS {r : Nat → Nat} {d : Option Nat} {v : aa} {tm : Tm} : mgT r (put d v tm) = put d (mg r v) (mgT r tm) := by cases d <;> rfl
theorem BD (hc : dW P call) {ro : Bool} {d n n' : Nat} {o : Oper} {tm : Tm} {sto sto' : Sto} {v : aa} (h : wQ L call ro d o.op tm sto n = some (v, sto', n')) : n ≤ n' ∧ (ro = true → sto' = sto) ∧ ∀ (r : Nat → Nat) (T : aa → Sto → Prop),
  (∀ r', bp n r r' → mgT r' tm = mgT r tm → T (mg r' v) (mgS r' sto')) → fx L P d o (mgT r tm) (mgS r sto) T := by
 obtain ⟨dst, op, ty, pos, af, gu⟩ := o
 unfold wQ at h
 try simp only [nA, qC] at h
 unfold fx
 simp only at h ⊢
 split at h
 ·rename_i c args ts
  split at h
  ·rename_i f cap hf
   simp only [aj, Bool.and_eq_true] at h
   obtain ⟨⟨h1, h2⟩, h3⟩ := h
   obtain ⟨h4, h4', h5⟩ := hc _ _ _ _ _ _ _ _ h3
   refine ⟨h4, h4', fun r T hT => ?_⟩
   simp only [aW, hf]
   have e : args.toList.map (ev (mgT r tm)) ++ cap.map (mg0 r) = (args.toList.map (ev tm) ++ cap).map (mg r) := by
    rw [List.map_append, List.map_map]
    congr 1
    ·exact List.map_congr_left fun x _ => by simp only [Function.comp, aW]
    ·exact List.map_congr_left fun x hx => (nX (List.all_eq_true.1 h2 x hx)).symm
   rw [show mg r (aa.fn f cap) = .fn f (cap.map (mg0 r)) from rfl]
   have := h5 r
   rw [← e] at this
   exact this.mono fun v1 s1 ⟨r', k1, k2, k3⟩ => by rw [k2, k3]; exact hT r' k1 (qT k1 h1).symm
  ·cases h
 ·rename_i hop
  obtain ⟨h1, h2, h3⟩ := qi h
  exact ⟨h1, h2, fun r T hT => h3 r T hT⟩
theorem v8 {r : Nat → Nat} {id g : Nat} {l : List (List aa)} (t : Nat) : ∀ (tm : Tm), lk (mgT r (yM id g l tm)) t = lk (rfT id (r g) l (mgT r tm)) t ∨ lk (mgT r (yM id g l tm)) t = .undef
 | [] => .inl rfl
 | (j, v) :: tm => by
  simp only [yM, mgT, rfT, lk]
  split
  ·split
   ·rename_i h; exact .inl (AB h).symm
   ·exact .inr rfl
  ·exact v8 t tm
theorem jE {r : Nat → Nat} {id g : Nat} {l : List (List aa)} : ∀ (s : Sto), o9 id g l.length s = true → mgS r (rfS id g l s) = rfS id (r g) l (mgS r s)
 | [], _ => rfl
 | (i, h, .box cs) :: s, hs => by
  simp only [o9, Bool.and_eq_true] at hs
  simp only [rfS, mgS, rfO, mgO, jE s hs.2, mD hs.1]
 | (i, h, .row _ _) :: s, hs => by simp only [o9] at hs; simp only [rfS, mgS, rfO, mgO, jE s hs]
 | (i, h, .mp _) :: s, hs => by simp only [o9] at hs; simp only [rfS, mgS, rfO, mgO, jE s hs]
 | (i, h, .mpi _) :: s, hs => by simp only [o9] at hs; simp only [rfS, mgS, rfO, mgO, jE s hs]
theorem vw {r : Nat → Nat} {Q : Tm → Sto → Prop} : ∀ (ids : List Nat) {tm tm' : Tm} {sto sto' : Sto}, xFz ids tm sto = some (tm', sto') → FZ Q (mgT r tm') (mgS r sto') → FZ Q (mgT r tm) (mgS r sto)
 | [], tm, tm', sto, sto', h, hQ => by
  simp only [xFz, Option.some.injEq, Prod.mk.injEq] at h; obtain ⟨rfl, rfl⟩ := h; exact hQ
 | id :: ids, tm, tm', sto, sto', h, hQ => by
  simp only [xFz] at h
  split at h
  ·rename_i g esz l hg
   simp only [aj] at h
   obtain ⟨h1, h⟩ := h
   refine .step (g := r g) (esz := esz) (l := l) (tm' := mgT r (yM id g l tm)) (by rw [aZ, hg]; rfl) (fun t => v8 t tm) ?_
   rw [← eY, ← jE _ h1]
   exact vw ids h hQ
  ·cases h
theorem uc {r : Nat → Nat} {Q : Tm → Sto → Prop} {op : Op} : ∀ (k : Nat) {tm tm' : Tm} {sto sto' : Sto}, ub op k tm sto = some (tm', sto') → Q (mgT r tm') (mgS r sto') → FZ Q (mgT r tm) (mgS r sto)
 | 0, tm, tm', sto, sto', h, hQ => by simp only [ub, Option.some.injEq, Prod.mk.injEq] at h; obtain ⟨rfl, rfl⟩ := h; exact .done hQ
 | k + 1, tm, tm', sto, sto', h, hQ => by
  simp only [ub] at h
  split at h
  ·cases h; exact .done hQ
  ·simp only [Option.bind_eq_some_iff] at h
   obtain ⟨⟨tm1, sto1⟩, hx, h⟩ := h
   exact vw _ hx (uc k h hQ)
theorem D5 {r : Nat → Nat} {Q : Tm → Sto → Prop} {op : Op} {ro : Bool} {tm tm' : Tm} {sto sto' : Sto} (h : yE ro op tm sto = some (tm', sto')) (hQ : Q (mgT r tm') (mgS r sto')) : FZ Q (mgT r tm) (mgS r sto) := by
 unfold yE at h
 split at h
 ·cases h; exact .done hQ
 ·exact Eb (uc 4 h hQ)
theorem mM (hc : dW P call) {ro : Bool} {dd : List (Option Nat)} : ∀ (os : List Oper) {tm tm' : Tm} {sto sto' : Sto} {n n' : Nat}, rT L call ro dd os tm sto n = some (tm', sto', n') → n ≤ n' ∧ (ro = true → sto' = sto) ∧ ∀ (r : Nat → Nat) (K : Tm → Sto → Prop),
  (∀ r', bp n r r' → K (mgT r' tm') (mgS r' sto')) → wx L P dd os (mgT r tm) (mgS r sto) K
 | [], tm, tm', sto, sto', n, n', h => by
  simp only [rT, Option.some.injEq, Prod.mk.injEq] at h; obtain ⟨rfl, rfl, rfl⟩ := h
  exact ⟨Nat.le_refl _, fun _ => rfl, fun r K hK => by unfold wx; exact hK r .refl⟩
 | o :: os, tm, tm', sto, sto', n, n', h => by
  have key : ((yE ro o.op tm sto).bind fun x => (wQ L call ro n o.op x.1 x.2 n).bind fun y => rT L call ro dd os (put o.dst y.1 x.1) y.2.1 y.2.2) = some (tm', sto', n') → n ≤ n' ∧ (ro = true → sto' = sto) ∧ ∀ (r : Nat → Nat) (K : Tm → Sto → Prop),
    (∀ r', bp n r r' → K (mgT r' tm') (mgS r' sto')) → FZ (fun tm sto => ∃ d, fx L P d o tm sto fun v s => wx L P dd os (put o.dst v tm) s K) (mgT r tm) (mgS r sto) := by
   intro h
   simp only [Option.bind_eq_some_iff] at h
   obtain ⟨⟨tm1, sto1⟩, h1, ⟨v, sto2, n2⟩, h2, h3⟩ := h
   obtain ⟨h4, h4', h5⟩ := BD (P := P) hc h2
   obtain ⟨h6, h6', h7⟩ := mM hc os h3
   refine ⟨Nat.le_trans h4 h6, fun e => ?_, fun r K hK => D5 h1 ⟨n, h5 r _ fun r' k1 k2 => ?_⟩⟩
   ·rw [h6' e, h4' e]; subst e; simp only [yE, Bool.true_or, Option.some.injEq, Prod.mk.injEq] at h1; exact h1.2.symm
   simp only at k2
   rw [← k2, ← iS]
   exact h7 r' K fun r'' k3 => hK r'' (k1.trans k3 h4)
  unfold rT at h
  simp only [fD, yJ] at h
  split at h
  ·rename_i hg
   obtain ⟨h1, h1', h2⟩ := key h
   refine ⟨h1, h1', fun r K hK => ?_⟩
   unfold wx; rw [hg]; exact h2 r K hK
  ·rename_i j want hg
   split at h
   ·rename_i t hj
    split at h
    ·rename_i b hb
     split at h
     ·rename_i hbw
      obtain ⟨h1, h1', h2⟩ := key h
      refine ⟨h1, h1', fun r K hK => ?_⟩
      unfold wx; rw [hg]; simp only [hj, dM, hb]
      exact ⟨fun _ => h2 r K hK, fun e => by subst e; cases want <;> simp at hbw⟩
     ·rename_i hbw
      obtain ⟨h1, h1', h2⟩ := mM hc os h
      refine ⟨h1, h1', fun r K hK => ?_⟩
      unfold wx; rw [hg]; simp only [hj, dM, hb]
      refine ⟨fun e => by subst e; simp at hbw, fun _ => ?_⟩
      have := h2 r K hK
      rw [iS] at this; exact this
    ·rename_i hb
     obtain ⟨h1, h1', h2⟩ := mM hc os h
     refine ⟨h1, h1', fun r K hK => ?_⟩
     unfold wx; rw [hg]; simp only [hj, dM, hb]
     have := h2 r K hK
     rw [iS] at this; exact this
    ·cases h
   ·cases h
end
def yD (b : Bool) (v : aa) (s : Sto) : Option (aa × Sto) :=
 match b, v with
 | true, .osl id g 0 m =>
  match ak s id with
  | some (g', .row _ l) => req (Nat.beq g' g && Nat.beq m l.length) (some (.sl true false l, ca s id))
  | _ => none
 | _, v => some (v, s)
theorem wM {r : Nat → Nat} {b : Bool} {v v' : aa} {s s' : Sto} {T : aa → Sto → Prop} (h : yD b v s = some (v', s')) (hT : T (mg r v') (mgS r s')) : frq b (mg r v) (mgS r s) T := by
 unfold yD at h
 split at h
 ·split at h
  ·rename_i id g m _ g' esz l hg
   simp only [aj, Bool.and_eq_true, Nat.beq_eq, Option.some.injEq, Prod.mk.injEq] at h
   obtain ⟨⟨rfl, rfl⟩, rfl, rfl⟩ := h
   simp only [im, frq, aZ, hg, Option.map_some, mgO, true_and]
   rw [eY] at hT; exact hT
  ·cases h
 ·rename_i hne
  cases h
  unfold frq
  split
  ·rename_i id g m he
   exfalso
   cases v <;> simp only [mg, mg2, mg1, mg0] at he <;> try (cases he; done)
   simp only [aa.osl.injEq] at he
   obtain ⟨rfl, _, rfl, rfl⟩ := he
   exact hne _ _ _ rfl rfl
  ·exact hT
def dx : aa → Bool
 | .loc _ _ _ _ | .bx _ _ _ | .osl _ _ _ _ | .map _ _ | .fn _ (_ :: _) | .agg _ | .tup _ | .opt _ _ => false
 | _ => true
def flat : aa → Bool
 | .agg cs => cs.all dx && cs.all aa.ar
 | .tup cs => cs.all dx
 | v => dx v
def oR (L : Lay) (call : dK) (ro q : Bool) (z : List Nat) (dst : Option Nat) (o : Op) (tm : Tm) (sto : Sto) (n : Nat) : Option (aa × Sto × Nat) :=
 match o with
 | .call ⟨.value c, args, _⟩ =>
  match evF tm c with
  | .fn f cap =>
   match q with
   | true =>
    match ((args.toList.map (evF tm)) ++ cap).all flat with
    | true => req (bB sto) ((call false f (args.toList.map (evF tm) ++ cap) [] 1000).bind fun x => (req (flat x.1) (some x.1)).bind fun v => some (v, sto, n))
    | false => req (cap.all jl && bdS n sto) ((call true f (args.toList.map (evF tm) ++ cap) sto n).bind fun x => (req (bd n x.1 && !z.contains (dst.getD 0)) (some x.1)).bind fun v => some (v, sto, n))
   | false => req (bdT n tm && cap.all jl && (!ro || !z.contains (dst.getD 0))) ((call ro f (args.toList.map (evF tm) ++ cap) sto n).bind fun x => (yD (z.contains (dst.getD 0)) x.1 x.2.1).map fun y => (y.1, y.2, x.2.2))
  | _ => none
 | op =>
  (lG L ro (dst.getD 0) op tm sto n).bind fun x =>
  match cC op && !ro with
  | true => (yD (z.contains (dst.getD 0)) x.1 x.2.1).map fun y => (y.1, y.2, x.2.2)
  | false => req (!cC op || !z.contains (dst.getD 0)) (some x)
def rX : Op → Lay → dK → Bool → Bool → List Nat → Option Nat → Tm → Sto → Nat → Option (aa × Sto × Nat)
 | .call ⟨.value c, args, ts⟩ => fun L call ro q z dst tm sto n => oR L call ro q z dst (.call ⟨.value c, args, ts⟩) tm sto n
 | op => fun L _ ro _ z dst tm sto n => (lG L ro (dst.getD 0) op tm sto n).bind fun x =>
  match cC op && !ro with
  | true => (yD (z.contains (dst.getD 0)) x.1 x.2.1).map fun y => (y.1, y.2, x.2.2)
  | false => req (!cC op || !z.contains (dst.getD 0)) (some x)
theorem vA {L : Lay} {call : dK} {ro q : Bool} {z : List Nat} {dst : Option Nat} {n : Nat} {tm : Tm} {sto : Sto} (op : Op) : rX op L call ro q z dst tm sto n = oR L call ro q z dst op tm sto n := by
 cases op with
 | call c => obtain ⟨callee, args, ts⟩ := c; cases callee <;> rfl
 | _ => rfl
def xVc (L : Lay) (call : dK) (ro q : Bool) (z : List Nat) (dd : List (Option Nat)) : List Oper → Tm → Sto → Nat → Option (Tm × Sto × Nat)
 | [], tm, sto, n => some (tm, sto, n)
 | o :: os, tm, sto, n =>
  match o.guard with
  | none => (rX o.op L call ro q z o.dst tm sto n).bind fun y => xVc L call ro q z dd os (put o.dst y.1 tm) y.2.1 y.2.2
  | some (j, want) =>
   match dd[j]? with
   | some (some t) =>
    match lkF tm t with
    | .bool b =>
     match b == want with
     | true => (rX o.op L call ro q z o.dst ((t, .bool want) :: tm) sto n).bind fun y => xVc L call ro q z dd os (put o.dst y.1 ((t, .bool want) :: tm)) y.2.1 y.2.2
     | false => xVc L call ro q z dd os (put o.dst (.tup []) ((t, .bool !want) :: tm)) sto n
    | .tup [] => xVc L call ro q z dd os (put o.dst (.tup []) tm) sto n
    | _ => none
   | _ => none
section
variable {P : Program} {L : Lay} {call : dK}
theorem ah.none {f : Nat} {args : List aa} {sto : Sto} {R : aa → Prop} (h : ah P f args sto fun r s => R r) : ah P f args sto fun r s => R r ∧ s = [] :=
 ⟨h.able, fun G w cargs a b c => (h.calls G w cargs a b c).mono fun _ _ ⟨G', cr, r, sto', h1, h2, h3, h4, h5, h6⟩ => ⟨G', cr, r, [], h1, h2, h3, ⟨fun _ _ _ h => by simp [ak] at h, fun _ _ _ _ _ _ h => by simp [ak] at h⟩, h5, h6, rfl⟩⟩
theorem nF {v : aa} (h : dx v = true) : bd1 0 v = true ∧ bd2 0 v = true ∧ bd 0 v = true := by
 cases v with
 | fn f cap => cases cap <;> simp_all [dx, bd1, bd2, bd]
 | _ => first | (simp [dx] at h; done) | (simp [bd1, bd2, bd, bd0])
theorem ey {v : aa} (h : flat v = true) : bd 0 v = true := by
 cases v with
 | agg cs => simp only [flat, Bool.and_eq_true, List.all_eq_true] at h; simp only [bd, bd2, List.all_eq_true]; exact fun x hx => (nF (h.1 x hx)).1
 | tup cs => simp only [flat, List.all_eq_true] at h; simp only [bd, List.all_eq_true]; exact fun x hx => (nF (h x hx)).2.1
 | _ => simp only [flat] at h; exact (nF h).2.2
theorem iD {r : Nat → Nat} : ∀ s : Sto, bB (mgS r s) = bB s
 | [] => rfl
 | (i, g, o) :: s => by
  have := iD (r := r) s
  simp only [mgS, bB, List.all_cons] at this ⊢
  rw [this]
  congr 1
  cases o with
  | box cs => simp only [mgO, jU, List.all_map]; congr 1; funext x; exact uN
  | _ => rfl
def Quiet (P : Program) : Prop := ∀ f args v sto, args.all flat = true → flat v = true → bB sto = true → (ah P f args [] fun r s => r = v) → ah P f args sto fun r s => r = v ∧ s = sto
theorem zw {z : List Nat} {d : Nat} {r : aa} {s : Sto} {T : aa → Sto → Prop} (h : z.contains d = false) (hT : T r s) : frq (z.contains d) r s T := by rw [h]; exact hT
theorem zv {b : Bool} {r : aa} {s : Sto} {T : aa → Sto → Prop} (h : flat r = true) (hT : T r s) : frq b r s T := by
 unfold frq
 split
 ·simp [flat, dx] at h
 ·exact hT
theorem vF {r : Nat → Nat} {tm : Tm} {args : Array Operand} {cap : List aa} (h2 : cap.all jl = true) : args.toList.map (ev (mgT r tm)) ++ cap.map (mg0 r) = (args.toList.map (ev tm) ++ cap).map (mg r) := by
 rw [List.map_append, List.map_map]
 congr 1
 ·exact List.map_congr_left fun x _ => by simp only [Function.comp, aW]
 ·exact List.map_congr_left fun x hx => (nX (List.all_eq_true.1 h2 x hx)).symm
theorem yK (hc : dW P call) (hq : Quiet P) {ro q : Bool} {z : List Nat} {n n' : Nat} {o : Oper} {tm : Tm} {sto sto' : Sto} {v : aa} (h : oR L call ro q z o.dst o.op tm sto n = some (v, sto', n')) : n ≤ n' ∧ (ro = true → sto' = sto) ∧ ∀ (r : Nat → Nat) (T : aa → Sto → Prop),
  (∀ r', bp n r r' → mgT r' tm = mgT r tm → T (mg r' v) (mgS r' sto')) → aA L P q z o (mgT r tm) (mgS r sto) T := by
 obtain ⟨dst, op, ty, pos, af, gu⟩ := o
 unfold oR at h
 try simp only [nA, qC] at h
 unfold aA
 simp only at h ⊢
 split at h
 ·rename_i c args ts
  split at h
  ·rename_i f cap hf
   have em : ∀ r, mg r (aa.fn f cap) = .fn f (cap.map (mg0 r)) := fun r => rfl
   split at h
   ·split at h
    ·rename_i hfl
     simp only [aj, Option.bind_eq_some_iff, Bool.and_eq_true, Option.some.injEq, Prod.mk.injEq] at h
     obtain ⟨hst, ⟨u, s1, n1⟩, h2, w, ⟨hfv, rfl⟩, rfl, rfl, rfl⟩ := h
     obtain ⟨_, _, h5⟩ := hc _ _ _ _ _ _ _ _ h2
     refine ⟨Nat.le_refl _, fun _ => rfl, fun r T hT => ?_⟩
     simp only [aW, hf, em, if_true]
     have hall : (args.toList.map (ev tm) ++ cap).map (mg r) = args.toList.map (ev tm) ++ cap := by
      conv => rhs; rw [← List.map_id (args.toList.map (ev tm) ++ cap)]
      exact List.map_congr_left fun x hx => cK (ey (List.all_eq_true.1 hfl x hx))
     have e : args.toList.map (ev (mgT r tm)) ++ cap.map (mg0 r) = args.toList.map (ev tm) ++ cap := by
      rw [← hall, List.map_append, List.map_map]
      congr 1
      ·exact List.map_congr_left fun x _ => by simp only [Function.comp, aW]
      ·refine List.map_congr_left fun x hx => ?_
       have hx' := List.all_eq_true.1 hfl x (by simp [hx])
       rw [cK (ey hx')]
       cases x with
       | fn f cap => cases cap <;> first | rfl | simp [flat, dx] at hx'
       | _ => first | rfl | (simp [flat, dx] at hx')
     have h6 := h5 r
     rw [hall] at h6
     refine ⟨u, ?_, ?_⟩
     ·rw [e]
      exact hq _ _ _ _ hfl hfv (by rw [iD]; exact hst) (h6.mono fun v1 s1 ⟨r', _, k2, _⟩ => by rw [k2, cK (ey hfv)])
     ·refine zv hfv ?_
      have := hT r .refl rfl
      rwa [cK (ey hfv)] at this
    ·simp only [aj, Option.bind_eq_some_iff, Bool.and_eq_true, Bool.not_eq_true', Option.some.injEq, Prod.mk.injEq] at h
     obtain ⟨⟨hcap, hbs⟩, ⟨u, s1, n1⟩, h2, w, ⟨⟨hb, hz⟩, rfl⟩, rfl, rfl, rfl⟩ := h
     obtain ⟨_, h4, h5⟩ := hc _ _ _ _ _ _ _ _ h2
     have hs := h4 rfl
     subst hs
     refine ⟨Nat.le_refl _, fun _ => rfl, fun r T hT => ?_⟩
     simp only [aW, hf, em, if_true]
     refine ⟨mg r u, ?_, zw hz (hT r .refl rfl)⟩
     rw [vF hcap]
     exact (h5 r).mono fun v1 s1 ⟨r', k1, k2, k3⟩ => ⟨by rw [k2]; exact (Er k1 hb).symm, by rw [k3]; exact (nS k1 hbs).symm⟩
   ·simp only [aj, Option.bind_eq_some_iff, Bool.and_eq_true, Bool.or_eq_true, Bool.not_eq_true'] at h
    obtain ⟨⟨⟨h1, h2⟩, hz⟩, ⟨u, s1, n1⟩, h3, h4⟩ := h
    obtain ⟨⟨v', s'⟩, hx, he⟩ := aC h4
    cases he
    obtain ⟨h5, h5', h6⟩ := hc _ _ _ _ _ _ _ _ h3
    refine ⟨h5, fun e => ?_, fun r T hT => ?_⟩
    ·rcases hz with hz | hz
     ·rw [hz] at e; cases e
     ·rw [hz] at hx
      simp only [yD, Option.some.injEq, Prod.mk.injEq] at hx
      rw [← hx.2]; exact h5' e
    ·simp only [aW, hf, em, Bool.false_eq_true, if_false]
     rw [vF h2]
     exact (h6 r).mono fun v1 s1 ⟨r', k1, k2, k3⟩ => by rw [k2, k3]; exact wM hx (hT r' k1 (qT k1 h1).symm)
  ·cases h
 ·rename_i hop
  simp only [Option.bind_eq_some_iff] at h
  obtain ⟨⟨u, s1, n1⟩, h1, h2⟩ := h
  have key := qi h1
  have fin : n ≤ n' ∧ (ro = true → sto' = sto) ∧ ∀ (r : Nat → Nat) (T : aa → Sto → Prop), (∀ r', bp n r r' → mgT r' tm = mgT r tm → T (mg r' v) (mgS r' sto')) → aO L (mgT r tm) (mgS r sto) (dst.getD 0) (if cC op then fun r s => frq (z.contains (dst.getD 0)) r s T else T) op := by
   split at h2
   ·rename_i hm
    simp only [Bool.and_eq_true, Bool.not_eq_true'] at hm
    obtain ⟨⟨v', s'⟩, hx, he⟩ := aC h2
    cases he
    refine ⟨key.1, fun e => Bool.noConfusion (hm.2.symm.trans e), fun r T hT => key.2.2 r _ fun r' k1 k2 => ?_⟩
    rw [if_pos hm.1]
    exact wM hx (hT r' k1 k2)
   ·simp only [aj, Bool.or_eq_true, Bool.not_eq_true', Option.some.injEq, Prod.mk.injEq] at h2
    obtain ⟨hz, rfl, rfl, rfl⟩ := h2
    refine ⟨key.1, key.2.1, fun r T hT => key.2.2 r _ fun r' k1 k2 => ?_⟩
    split
    ·rename_i hm
     rcases hz with hz | hz
     ·rw [hz] at hm; cases hm
     ·exact zw hz (hT r' k1 k2)
    ·exact hT r' k1 k2
  refine ⟨fin.1, fin.2.1, fun r T hT => ?_⟩
  split
  ·exact absurd rfl (hop _ _ _)
  ·exact fin.2.2 r T hT
theorem oS (hc : dW P call) (hq : Quiet P) {ro q : Bool} {z : List Nat} {dd : List (Option Nat)} : ∀ (os : List Oper) {tm tm' : Tm} {sto sto' : Sto} {n n' : Nat}, xVc L call ro q z dd os tm sto n = some (tm', sto', n') → n ≤ n' ∧ (ro = true → sto' = sto) ∧ ∀ (r : Nat → Nat) (K : Tm → Sto → Prop),
  (∀ r', bp n r r' → K (mgT r' tm') (mgS r' sto')) → vc L P q z dd os (mgT r tm) (mgS r sto) K
 | [], tm, tm', sto, sto', n, n', h => by
  simp only [xVc, Option.some.injEq, Prod.mk.injEq] at h; obtain ⟨rfl, rfl, rfl⟩ := h
  exact ⟨Nat.le_refl _, fun _ => rfl, fun r K hK => by unfold vc; exact hK r .refl⟩
 | o :: os, tm, tm', sto, sto', n, n', h => by
  have key : ∀ tm, ((oR L call ro q z o.dst o.op tm sto n).bind fun y => xVc L call ro q z dd os (put o.dst y.1 tm) y.2.1 y.2.2) = some (tm', sto', n') → n ≤ n' ∧ (ro = true → sto' = sto) ∧ ∀ (r : Nat → Nat) (K : Tm → Sto → Prop),
    (∀ r', bp n r r' → K (mgT r' tm') (mgS r' sto')) → aA L P q z o (mgT r tm) (mgS r sto) fun v s => vc L P q z dd os (put o.dst v (mgT r tm)) s K := by
   intro tm h
   simp only [Option.bind_eq_some_iff] at h
   obtain ⟨⟨v, sto2, n2⟩, h2, h3⟩ := h
   obtain ⟨h4, h4', h5⟩ := yK (P := P) hc hq h2
   obtain ⟨h6, h6', h7⟩ := oS hc hq os h3
   refine ⟨Nat.le_trans h4 h6, fun e => by rw [h6' e, h4' e], fun r K hK => h5 r _ fun r' k1 k2 => ?_⟩
   rw [← k2, ← iS]
   exact h7 r' K fun r'' k3 => hK r'' (k1.trans k3 h4)
  unfold xVc at h
  simp only [fD, vA] at h
  split at h
  ·rename_i hg
   obtain ⟨h1, h1', h2⟩ := key _ h
   refine ⟨h1, h1', fun r K hK => ?_⟩
   unfold vc; rw [hg]; exact h2 r K hK
  ·rename_i j want hg
   split at h
   ·rename_i t hj
    split at h
    ·rename_i b hb
     split at h
     ·rename_i hbw
      obtain ⟨h1, h1', h2⟩ := key _ h
      refine ⟨h1, h1', fun r K hK => ?_⟩
      unfold vc; rw [hg]; simp only [hj, dM, hb]
      exact ⟨fun _ => h2 r K hK, fun e => by subst e; cases want <;> simp at hbw⟩
     ·rename_i hbw
      obtain ⟨h1, h1', h2⟩ := oS hc hq os h
      refine ⟨h1, h1', fun r K hK => ?_⟩
      unfold vc; rw [hg]; simp only [hj, dM, hb]
      refine ⟨fun e => by subst e; simp at hbw, fun _ => ?_⟩
      have := h2 r K hK
      rw [iS] at this; exact this
    ·rename_i hb
     obtain ⟨h1, h1', h2⟩ := oS hc hq os h
     refine ⟨h1, h1', fun r K hK => ?_⟩
     unfold vc; rw [hg]; simp only [hj, dM, hb]
     have := h2 r K hK
     rw [iS] at this; exact this
    ·cases h
   ·cases h
def Bz (L : Lay) : List ResultVar → Tm → Sto → Option (List aa)
 | [], _, _ => some []
 | .tmp t :: rs, tm, sto => (Bz L rs tm sto).map (lkF tm t :: ·)
 | .cell a ty :: rs, tm, sto => req (!decide ((L ty).ty = .other)) ((ue L ty (lkF tm a) sto).bind fun v => (Bz L rs tm sto).map (v :: ·))
theorem rU {r : Nat → Nat} : ∀ (rs : List ResultVar) {tm : Tm} {sto : Sto} {vs : List aa} {T : List aa → Prop}, Bz L rs tm sto = some vs → T (vs.map (mg r)) → cG L rs (mgT r tm) (mgS r sto) T
 | [], tm, sto, vs, T, h, hT => by cases h; exact hT
 | .tmp t :: rs, tm, sto, vs, T, h, hT => by
  obtain ⟨us, h1, rfl⟩ := aC h
  unfold cG
  refine rU rs h1 ?_
  rw [dM]; rw [fD] at hT; exact hT
 | .cell a ty :: rs, tm, sto, vs, T, h, hT => by
  simp only [Bz, fD, aj, Bool.not_eq_true', decide_eq_false_iff_not, Option.bind_eq_some_iff] at h
  obtain ⟨h1, v, h2, h3⟩ := h
  obtain ⟨us, h4, rfl⟩ := aC h3
  unfold cG
  refine ⟨h1, ?_⟩
  rw [dM]
  exact uf h2 (rU rs h4 hT)
def BA : List aa → Option aa
 | [v] => some v
 | vs => req (vs.all aa.aB) (some (.tup vs))
theorem BB {r : Nat → Nat} {vs : List aa} {v : aa} (h : BA vs = some v) : gV (vs.map (mg r)) = mg r v := by
 unfold BA at h
 split at h
 ·cases h; rfl
 ·rename_i hne
  simp only [aj, Option.some.injEq] at h
  obtain ⟨h1, rfl⟩ := h
  rw [show mg r (.tup vs) = .tup (vs.map (mg2 r)) from rfl, show vs.map (mg2 r) = vs.map (mg r) from List.map_congr_left fun x hx => (sY (List.all_eq_true.1 h1 x hx)).symm]
  match vs, hne with
  | [], _ => rfl
  | [v], hne => exact absurd rfl (hne v)
  | u :: v :: l, _ => rfl
def q8 (ps : List Nat) (tm : Tm) : Tm := List.rec (motive := fun _ => Tm) [] (fun p _ ih => (p, lkF tm p) :: ih) ps
theorem ll : ∀ (ps : List Nat) (tm : Tm), q8 ps tm = prune ps tm
 | [], _ => rfl
 | p :: ps, tm => by
  show (p, lkF tm p) :: q8 ps tm = _
  rw [ll ps tm, fD]; rfl
structure DrT where
 nq : Nat
 order : List Nat
 z : List Nat
 fz : List Nat
 bt : List Nat
 lr : List Nat
structure Tab where
 ps : List Nat
 dr : List (Nat × DrT)
def xBt : List Nat → Tm → Sto → Option (Tm × Sto)
 | [], tm, sto => some (tm, sto)
 | t :: ts, tm, sto =>
  match lkF tm t with
  | .bx id g 0 =>
   match ak sto id with
   | some (g', .box cs) => req (Nat.beq g' g && cs.all aa.bT) (xBt ts ((t, .ref true cs) :: tm) (ca sto id))
   | _ => none
  | _ => xBt ts tm sto
theorem vt {P : Program} {f : Nat} {fn : Func} {its : List Item} {R : aa → Sto → Prop} {r : Nat → Nat} : ∀ (ts : List Nat) {tm tm' : Tm} {sto sto' : Sto}, xBt ts tm sto = some (tm', sto') → ae P f fn [] its (mgT r tm') (mgS r sto') R → ae P f fn [] its (mgT r tm) (mgS r sto) R
 | [], tm, tm', sto, sto', h, hQ => by simp only [xBt, Option.some.injEq, Prod.mk.injEq] at h; obtain ⟨rfl, rfl⟩ := h; exact hQ
 | t :: ts, tm, tm', sto, sto', h, hQ => by
  simp only [xBt, fD] at h
  split at h
  ·rename_i id g hl
   split at h
   ·rename_i g' cs hg
    simp only [aj, Bool.and_eq_true, Nat.beq_eq] at h
    obtain ⟨⟨rfl, h1⟩, h⟩ := h
    refine ae.eI t id (g := r g') (cs := cs) (by rw [dM, hl]; rfl) (by rw [aZ, hg]; simp only [Option.map_some, mgO, wj h1]) h1 ?_
    have := vt ts h hQ
    rw [eY] at this; exact this
   ·cases h
  ·exact vt ts h hQ
def JZ (ro : Bool) (bt : List Nat) (tm : Tm) (sto : Sto) : Option (Tm × Sto) := match ro with | true => some (tm, sto) | false => xBt bt tm sto
def yF : List Nat → Tm → Sto → Option (Tm × Sto)
 | [], tm, sto => some (tm, sto)
 | t :: ts, tm, sto =>
  match lkF tm t with
  | .osl id _ _ _ => (xFz [id] tm sto).bind fun x => yF ts x.1 x.2
  | _ => yF ts tm sto
theorem rQ {r : Nat → Nat} {Q : Tm → Sto → Prop} : ∀ (ts : List Nat) {tm tm' : Tm} {sto sto' : Sto}, yF ts tm sto = some (tm', sto') → Q (mgT r tm') (mgS r sto') → FZ Q (mgT r tm) (mgS r sto)
 | [], tm, tm', sto, sto', h, hQ => by simp only [yF, Option.some.injEq, Prod.mk.injEq] at h; obtain ⟨rfl, rfl⟩ := h; exact .done hQ
 | t :: ts, tm, tm', sto, sto', h, hQ => by
  simp only [yF, fD] at h
  split at h
  ·simp only [Option.bind_eq_some_iff] at h
   obtain ⟨⟨tm1, sto1⟩, hx, h⟩ := h
   exact vw _ hx (rQ ts h hQ)
  ·exact rQ ts h hQ
def Bt (ro : Bool) (fz : List Nat) (tm : Tm) (sto : Sto) : Option (Tm × Sto) := match ro with | true => some (tm, sto) | false => yF fz tm sto
def uu (id : Nat) : List (Nat × DrT) → Option DrT
 | [] => none
 | (i, x) :: l => match Nat.beq i id with | true => some x | false => uu id l
def Ey (ro : Bool) (tm : Tm) (sto : Sto) (n : Nat) : Option (Tm × Sto × Nat) := match ro with | true => some (tm, sto, n) | false => BC 8 tm sto n
def D9 (L : Lay) (rs : List ResultVar) (tm : Tm) (sto : Sto) (n : Nat) : Option (aa × Sto × Nat) := (Bz L rs tm sto).bind fun vs => (BA vs).map fun v => (v, sto, n)
structure Cx where
 L : Lay
 call : dK
 ro : Bool
 tab : Tab
 fn : Func
def By (c : Cx) (ops : List Oper) (tm : Tm) (sto : Sto) (n : Nat) : Option (Tm × Sto × Nat) :=
 (rT c.L c.call c.ro (ops.map (·.dst)) ops tm sto n).map fun x => (q8 c.tab.ps x.1, x.2.1, x.2.2)
def Bx (c : Cx) (id : Nat) (ops : List Oper) (tm : Tm) (sto : Sto) (n : Nat) : Option (Tm × Sto × Nat) :=
 match uu id c.tab.dr with
 | some d =>
  (Bt c.ro d.fz tm sto).bind fun x => (JZ c.ro d.bt x.1 x.2).bind fun x => req (d.z.all fun d => (ak x.2 d).isNone)
   ((xVc c.L c.call c.ro true d.z (ops.map (·.dst)) ((d.order.take d.nq).filterMap (ops[·]?)) x.1 x.2 n).bind fun y => req (d.lr.all fun a => ei (lkF y.1 a))
    ((xVc c.L c.call c.ro false d.z (ops.map (·.dst)) ((d.order.drop d.nq).filterMap (ops[·]?)) y.1 y.2.1 y.2.2).bind fun x => Ey c.ro (q8 c.tab.ps x.1) x.2.1 x.2.2))
 | none => none
def ud : List Item → Cx → (List Item → Tm → Sto → Nat → Option (aa × Sto × Nat)) → Tm → Sto → Nat → Option (aa × Sto × Nat)
 | [] => fun c _ tm sto n => D9 c.L c.fn.results.toList tm sto n
 | .inBlock _ :: rest => fun _ go tm sto n => go rest tm sto n
 | .inLoop c :: rest => fun _ go tm sto n => go (.code c :: .inLoop c :: rest) tm sto n
 | .code .skip :: rest => fun _ go tm sto n => go rest tm sto n
 | .code (.seq a b) :: rest => fun _ go tm sto n => go (.code a :: .code b :: rest) tm sto n
 | .code (.block id c) :: rest => fun _ go tm sto n => go (.code c :: .inBlock id :: rest) tm sto n
 | .code (.loop c) :: rest => fun _ go tm sto n => go (.code c :: .inLoop c :: rest) tm sto n
 | .code (.exit id) :: rest => fun _ go tm sto n => match exitTo id rest with | some k' => go k' tm sto n | none => none
 | .code (.cond c a b) :: rest => fun _ go tm sto n =>
  match evF tm c with
  | .bool true => req (bg c) (go (.code a :: rest) tm sto n)
  | .bool false => req (bg c) (go (.code b :: rest) tm sto n)
  | _ => none
 | .code .ret :: _ => fun c _ tm sto n => D9 c.L c.fn.results.toList tm sto n
 | .code (.region id ops draw) :: rest => fun c go tm sto n =>
  (match draw with
  | false => By c ops.toList tm sto n
  | true => Bx c id ops.toList tm sto n).bind fun x => go rest x.1 x.2.1 x.2.2
 | _ => fun _ _ _ _ _ => none
def rS (c : Cx) : Nat → List Item → Tm → Sto → Nat → Option (aa × Sto × Nat)
 | 0 => fun _ _ _ _ => none
 | k + 1 => fun items tm sto n => ud items c (rS c k) tm sto n
def Av (L : Lay) (nt : Nat) (tab : Tab) (id : Nat) (ops : Array Oper) : Bool → Bool
 | false => aT L nt ops.toList
 | true => match uu id tab.dr with | some d => ic L nt d.z ops.toList d.nq d.order [] d.lr | none => true
def cD (L : Lay) (nt : Nat) (tab : Tab) : Code → Bool
 | .region id ops d => Av L nt tab id ops d
 | .seq a b => cD L nt tab a && cD L nt tab b
 | .cond _ a b => cD L nt tab a && cD L nt tab b
 | .block _ c => cD L nt tab c
 | .loop c => cD L nt tab c
 | _ => true
def ej (L : Lay) (nt : Nat) (tab : Tab) : Item → Bool
 | .code c => cD L nt tab c
 | .inLoop c => cD L nt tab c
 | _ => true
theorem kU {L : Lay} {nt : Nat} {tab : Tab} {id : Nat} : ∀ {k k' : List Item}, exitTo id k = some k' → k.all (ej L nt tab) = true → k'.all (ej L nt tab) = true
 | [], _, h, _ => by simp [exitTo] at h
 | i :: k, k', h, ha => by
  simp only [List.all_cons, Bool.and_eq_true] at ha
  cases i with
  | inBlock id' =>
   simp only [exitTo] at h
   split at h
   ·cases h; exact ha.2
   ·exact kU h ha.2
  | _ => exact kU (id := id) (by simpa [exitTo] using h) ha.2
theorem lp {r : Nat → Nat} (ps : List Nat) (tm : Tm) : mgT r (prune ps tm) = prune ps (mgT r tm) := by
 induction ps with
 | nil => rfl
 | cons p ps ih => simp only [prune, List.map_cons, mgT, dM] at ih ⊢; rw [ih]
theorem Dv (hL : LOk P L) (hc : dW P call) {ro : Bool} {tab : Tab} {f : Nat} {fn : Func} {id : Nat} {ops : Array Oper} {rest : List Item} {tm tm' : Tm} {sto sto' : Sto} {n n' : Nat} (h1 : aT L fn.ntmps ops.toList = true) (h : By ⟨L, call, ro, tab, fn⟩ ops.toList tm sto n = some (tm', sto', n')) :
  n ≤ n' ∧ (ro = true → sto' = sto) ∧ ∀ (r : Nat → Nat) (R : aa → Sto → Prop), (∀ r', bp n r r' → ae P f fn [] rest (mgT r' tm') (mgS r' sto') R) → ae P f fn [] (.code (.region id ops false) :: rest) (mgT r tm) (mgS r sto) R := by
 unfold By at h
 obtain ⟨⟨tm1, sto1, n1⟩, h2, he⟩ := aC h
 simp only [Prod.mk.injEq] at he
 obtain ⟨rfl, rfl, rfl⟩ := he
 obtain ⟨h4, h4', h5⟩ := mM (P := P) hc _ h2
 refine ⟨h4, h4', fun r R hR => ?_⟩
 rw [show ops = ops.toList.toArray by simp]
 refine ae.regX hL tab.ps h1 (h5 r _ fun r' k1 => ?_)
 have := hR r' k1
 rw [ll, lp] at this; exact this
theorem Du (hL : LOk P L) (hm : P.follows .mixedOrders = true) (hc : dW P call) (hq : Quiet P) {ro : Bool} {tab : Tab} {f : Nat} {fn : Func} {id : Nat} {ops : Array Oper} {rest : List Item} {tm tm' : Tm} {sto sto' : Sto} {n n' : Nat} (hreg : Av L fn.ntmps tab id ops true = true) (h : Bx ⟨L, call, ro, tab, fn⟩ id ops.toList tm sto n = some (tm', sto', n')) :
  n ≤ n' ∧ (ro = true → sto' = sto) ∧ ∀ (r : Nat → Nat) (R : aa → Sto → Prop), (∀ r', bp n r r' → ae P f fn [] rest (mgT r' tm') (mgS r' sto') R) → ae P f fn [] (.code (.region id ops true) :: rest) (mgT r tm) (mgS r sto) R := by
 unfold Bx at h
 split at h
 ·rename_i d hdr
  obtain ⟨nq, order, z, fzt, bt, lr⟩ := d
  simp only at hdr
  have h1 : ic L fn.ntmps z ops.toList nq order [] lr = true := by simp only [Av, hdr] at hreg; exact hreg
  simp only [aj, Option.bind_eq_some_iff, fD] at h
  obtain ⟨⟨tm00, sto00⟩, h00, ⟨tm0, sto0⟩, h0b, hz, ⟨tm1, sto1, n1⟩, h2, hlr, ⟨tm2, sto2, n2⟩, h3, h9⟩ := h
  simp only at h00 h0b hz h2 hlr h3 h9
  rw [ll] at h9
  have h9' : n2 ≤ n' ∧ (ro = true → sto' = sto2) ∧ ∀ (r : Nat → Nat) (R : aa → Sto → Prop), (∀ r', bp n2 r r' → ae P f fn [] rest (mgT r' tm') (mgS r' sto') R) → ae P f fn [] rest (prune tab.ps (mgT r tm2)) (mgS r sto2) R := by
   unfold Ey at h9
   split at h9
   ·cases h9; exact ⟨Nat.le_refl _, fun _ => rfl, fun r R hr => by rw [← lp]; exact hr r .refl⟩
   ·exact ⟨(rV (P := P) (f := f) (fn := fn) (df := []) (its := rest) (R := fun _ _ => True) 8 h9).1, fun e => Bool.noConfusion e, fun r R hr => by
     rw [← lp]; exact (rV (P := P) (f := f) (fn := fn) (df := []) (its := rest) (R := R) 8 h9).2 r hr⟩
  obtain ⟨h4, e4, h5⟩ := oS (P := P) hc hq _ h2
  obtain ⟨h4', e4', h5'⟩ := oS (P := P) hc hq _ h3
  have h0' : ∀ {r : Nat → Nat} {R : aa → Sto → Prop} {its : List Item}, ae P f fn [] its (mgT r tm0) (mgS r sto0) R → ae P f fn [] its (mgT r tm) (mgS r sto) R := by
   intro r R its hQ
   have hB : ae P f fn [] its (mgT r tm00) (mgS r sto00) R := by
    unfold JZ at h0b
    split at h0b
    ·cases h0b; exact hQ
    ·exact vt _ h0b hQ
   refine ae.fz ?_
   unfold Bt at h00
   split at h00
   ·cases h00; exact .done hB
   ·exact rQ _ h00 hB
  refine ⟨Nat.le_trans h4 (Nat.le_trans h4' h9'.1), fun e => ?_, fun r R hR => h0' ?_⟩
  ·rw [h9'.2.1 e, e4' e, e4 e]; subst e; simp only [Bt, JZ, Option.some.injEq, Prod.mk.injEq] at h00 h0b; rw [← h0b.2]; exact h00.2.symm
  rw [show ops = ops.toList.toArray by simp]
  refine ae.uv hL hm z nq order [] lr tab.ps h1 (List.all_eq_true.2 fun d hd => ?_) fun K hK => h5 r _ fun r' k1 => ⟨⟨rfl, List.all_eq_true.2 fun a ha => ?_⟩, h5' r' _ fun r'' k2 => hK _ _ ?_⟩
  ·have := List.all_eq_true.1 hz d hd
   rw [aZ]; cases hs : ak sto0 d <;> simp_all
  ·have := List.all_eq_true.1 hlr a ha
   rw [dM]
   cases hk : lk tm1 a <;> rw [hk] at this <;> first | rfl | (simp [ei] at this)
  ·exact h9'.2.2 r'' _ fun r0 k3 => hR r0 ((k1.trans k2 h4).trans k3 (Nat.le_trans h4 h4'))
 ·cases h
theorem ck (hL : LOk P L) (hm : P.follows .mixedOrders = true) (hc : dW P call) (hq : Quiet P) {ro : Bool} {tab : Tab} {f : Nat} {fn : Func} : ∀ (k : Nat) {items : List Item} {tm : Tm} {sto sto' : Sto} {n n' : Nat} {v : aa}, items.all (ej L fn.ntmps tab) = true →
  rS ⟨L, call, ro, tab, fn⟩ k items tm sto n = some (v, sto', n') → n ≤ n' ∧ (ro = true → sto' = sto) ∧ ∀ r : Nat → Nat, ae P f fn [] items (mgT r tm) (mgS r sto) fun v1 s1 => ∃ r', bp n r r' ∧ v1 = mg r' v ∧ s1 = mgS r' sto'
 | 0, _, _, _, _, _, _, _, _, h => by cases h
 | k + 1, items, tm, sto, sto', n, n', v, hI, h => by
  have ret : ∀ {tm : Tm} {sto : Sto}, D9 L fn.results.toList tm sto n = some (v, sto', n') → n ≤ n' ∧ (ro = true → sto' = sto) ∧ ∀ r : Nat → Nat, cG L fn.results.toList (mgT r tm) (mgS r sto) fun vs => (∃ r', bp n r r' ∧ gV vs = mg r' v ∧ mgS r sto = mgS r' sto') := by
   intro tm sto h
   simp only [D9, Option.bind_eq_some_iff] at h
   obtain ⟨vs, h1, h2⟩ := h
   obtain ⟨u, h4, he⟩ := aC h2
   cases he
   exact ⟨Nat.le_refl _, fun _ => rfl, fun r => rU _ h1 ⟨r, .refl, BB h4, rfl⟩⟩
  have comb : ∀ {tm1 : Tm} {sto1 : Sto} {n1 : Nat} {it rest : List Item}, (n ≤ n1 ∧ (ro = true → sto1 = sto) ∧ ∀ (r : Nat → Nat) (R : aa → Sto → Prop), (∀ r', bp n r r' → ae P f fn [] rest (mgT r' tm1) (mgS r' sto1) R) → ae P f fn [] it (mgT r tm) (mgS r sto) R) →
    (n1 ≤ n' ∧ (ro = true → sto' = sto1) ∧ ∀ r : Nat → Nat, ae P f fn [] rest (mgT r tm1) (mgS r sto1) fun v1 s1 => ∃ r', bp n1 r r' ∧ v1 = mg r' v ∧ s1 = mgS r' sto') →
    n ≤ n' ∧ (ro = true → sto' = sto) ∧ ∀ r : Nat → Nat, ae P f fn [] it (mgT r tm) (mgS r sto) fun v1 s1 => ∃ r', bp n r r' ∧ v1 = mg r' v ∧ s1 = mgS r' sto' := by
   rintro tm1 sto1 n1 it rest ⟨h4, h4', h5⟩ ⟨h6, h6', h7⟩
   refine ⟨Nat.le_trans h4 h6, fun e => by rw [h6' e, h4' e], fun r => h5 r _ fun r' k1 => ?_⟩
   have := h7 r'
   exact ⟨fun E G a w b x1 x2 x3 x4 x5 x6 x7 x8 x9 cs => by
    obtain ⟨e, w2, fr, ⟨G', cr, rr, s2, y1, y2, y3, y4, y5, r'', y6, y7, y8⟩, z2, z3, z4⟩ := this.go E G a w b x1 x2 x3 x4 x5 x6 x7 x8 x9 cs
    exact ⟨e, w2, fr, ⟨G', cr, rr, s2, y1, y2, y3, y4, y5, r'', k1.trans y6 h4, y7, y8⟩, z2, z3, z4⟩⟩
  have h : ud items ⟨L, call, ro, tab, fn⟩ (rS ⟨L, call, ro, tab, fn⟩ k) tm sto n = some (v, sto', n') := h
  match items, hI, h with
  | [], _, h => obtain ⟨h1, h1', h2⟩ := ret h; exact ⟨h1, h1', fun r => ae.Eg hL _ rfl (h2 r)⟩
  | .inBlock _ :: rest, hI, h => obtain ⟨h1, h1', h2⟩ := ck hL hm hc hq (f := f) k (by simp_all [ej, cD]) h; exact ⟨h1, h1', fun r => .inBlock (h2 r)⟩
  | .inLoop c :: rest, hI, h => obtain ⟨h1, h1', h2⟩ := ck hL hm hc hq (f := f) k (by simp_all [ej, cD]) h; exact ⟨h1, h1', fun r => .inLoop (h2 r)⟩
  | .code .skip :: rest, hI, h => obtain ⟨h1, h1', h2⟩ := ck hL hm hc hq (f := f) k (by simp_all [ej, cD]) h; exact ⟨h1, h1', fun r => .skip (h2 r)⟩
  | .code (.seq a b) :: rest, hI, h => obtain ⟨h1, h1', h2⟩ := ck hL hm hc hq (f := f) k (by simp_all [ej, cD]) h; exact ⟨h1, h1', fun r => .seq (h2 r)⟩
  | .code (.block id c) :: rest, hI, h => obtain ⟨h1, h1', h2⟩ := ck hL hm hc hq (f := f) k (by simp_all [ej, cD]) h; exact ⟨h1, h1', fun r => .block (h2 r)⟩
  | .code (.loop c) :: rest, hI, h => obtain ⟨h1, h1', h2⟩ := ck hL hm hc hq (f := f) k (by simp_all [ej, cD]) h; exact ⟨h1, h1', fun r => .loop (h2 r)⟩
  | .code (.exit id) :: rest, hI, h =>
   simp only [ud] at h
   split at h
   ·rename_i hx
    obtain ⟨h1, h1', h2⟩ := ck hL hm hc hq (f := f) k (kU hx (by simp_all)) h; exact ⟨h1, h1', fun r => .exit hx (h2 r)⟩
   ·cases h
  | .code (.cond c a b) :: rest, hI, h =>
   simp only [ud, nA] at h
   split at h
   ·rename_i he
    simp only [aj] at h
    obtain ⟨h1, h1', h2⟩ := ck hL hm hc hq (f := f) k (by simp_all [ej, cD]) h.2
    exact ⟨h1, h1', fun r => .cond (t := true) (by rw [aW, he]; rfl) h.1 (fun _ => h2 r) (fun e => by cases e)⟩
   ·rename_i he
    simp only [aj] at h
    obtain ⟨h1, h1', h2⟩ := ck hL hm hc hq (f := f) k (by simp_all [ej, cD]) h.2
    exact ⟨h1, h1', fun r => .cond (t := false) (by rw [aW, he]; rfl) h.1 (fun e => by cases e) (fun _ => h2 r)⟩
   ·cases h
  | .code .ret :: rest, hI, h => obtain ⟨h1, h1', h2⟩ := ret h; exact ⟨h1, h1', fun r => ae.ret' hL _ rfl (h2 r)⟩
  | .code (.region id ops draw) :: rest, hI, h =>
   simp only [ud, Option.bind_eq_some_iff] at h
   obtain ⟨⟨tm1, sto1, n1⟩, h2, h3⟩ := h
   simp only [List.all_cons, Bool.and_eq_true] at hI
   have hrec := ck hL hm hc hq (f := f) k hI.2 h3
   cases draw with
   | false => exact comb (Dv hL hc (rest := rest) hI.1 h2) hrec
   | true => exact comb (Du hL hm hc hq (rest := rest) hI.1 h2) hrec
  | .code (.rangeFunc _ _ _ _) :: _, _, h | .code (.scope _) :: _, _, h | .code (.label _) :: _, _, h | .code (.goto _) :: _, _, h | .code (.refuse _) :: _, _, h => cases h
  | .inScope _ :: _, _, h | .inRegion _ _ :: _, _, h | .inRangeFunc _ :: _, _, h | .endRangeFunc _ :: _, _, h | .beginRound :: _, _, h | .call _ _ _ _ :: _, _, h | .extern _ _ :: _, _, h => cases h
def xh (P : Program) (L : Lay) (tab : Nat → Tab) (f : Nat) : Bool := match P.funcs[f]? with
 | some fn => match fn.body with
  | some c => cD L fn.ntmps (tab f) c
  | none => true
 | none => true
abbrev eh := Nat → Option (List aa → Option aa)
def qm (P : Program) (kn : eh) : Prop := ∀ f g args v, kn f = some g → g args = some v → ah P f args [] fun r s => r = v ∧ s = []
def vX (sto : Sto) : aa → Option aa
 | .osl id g off len =>
  match ak sto id with
  | some (g', .row _ l) => req (Nat.beq g' g && Nat.ble (off + len) l.length) (some (.sl false false ((l.drop off).take len)))
  | _ => none
 | v => req (flat v) (some v)
def vY (sto : Sto) : List aa → Option (List aa)
 | [] => some []
 | v :: vs => (vX sto v).bind fun u => (vY sto vs).map (u :: ·)
def iu : List aa → List Nat
 | [] => []
 | .osl id _ _ _ :: l => id :: iu l
 | _ :: l => iu l
theorem nZ {id g off len : Nat} : ∀ {l : List aa}, .osl id g off len ∈ l → id ∈ iu l
 | [], h => by cases h
 | v :: l, h => by
  rcases List.mem_cons.1 h with rfl | h
  ·simp [iu]
  ·have := nZ h
   unfold iu; split
   ·rename_i e; cases e
   ·rename_i e; cases e; simp [this]
   ·rename_i e; cases e; exact this
theorem oG {ln : List Nat} {sto : Sto} {v : aa} (h : dx v = true) : tr1 [] ln sto v = v := by
 cases v with
 | fn f cap => cases cap <;> simp_all [dx, tr1]
 | _ => first | (simp [dx] at h; done) | rfl
theorem fU {l : List aa} {g : aa → aa} (h : ∀ x ∈ l, g x = x) : l.map g = l := by
 conv => rhs; rw [← List.map_id l]
 exact List.map_congr_left h
theorem wG {ln : List Nat} {sto : Sto} {v : aa} (h : flat v = true) : tr [] ln sto v = v := by
 cases v with
 | agg cs =>
  simp only [flat, Bool.and_eq_true] at h
  have e : cs.map (tr1 [] ln sto) = cs := fU fun x hx => oG (List.all_eq_true.1 h.1 x hx)
  simp only [tr, e, h.2, if_true]
 | tup cs => simp only [flat] at h; simp only [tr, fU fun x hx => oG (ln := ln) (sto := sto) (List.all_eq_true.1 h x hx)]
 | fn f cap => cases cap <;> simp_all [flat, dx, tr]
 | _ => simp only [flat] at h; exact oG (ln := ln) (sto := sto) h
theorem mT {v : aa} (h : dx v = true) : bk1 [] v = v := by
 cases v with
 | fn f cap => cases cap <;> simp_all [dx, bk1]
 | _ => first | (simp [dx] at h; done) | rfl
theorem yW {v : aa} (h : dx v = true) : bk2 [] v = v := by
 cases v with
 | agg => simp [dx] at h
 | _ => exact mT h
theorem vI {v : aa} (h : flat v = true) : bk [] v = v := by
 cases v with
 | agg cs =>
  simp only [flat, Bool.and_eq_true] at h
  have e : cs.map (bk1 []) = cs := fU fun x hx => mT (List.all_eq_true.1 h.1 x hx)
  simp only [bk, e, h.2, if_true]
 | tup cs => simp only [flat] at h; simp only [bk, fU fun x hx => yW (List.all_eq_true.1 h x hx)]
 | fn f cap => cases cap <;> simp_all [flat, dx, bk]
 | _ => simp only [flat] at h; exact mT h
theorem zQ {r : Nat → Nat} {ln : List Nat} {sto : Sto} {v u : aa} (h : vX sto v = some u) (hln : ∀ id g off len, v = .osl id g off len → id ∈ ln) : tr [] ln (mgS r sto) (mg r v) = u := by
 cases v with
 | osl id g off len =>
  simp only [vX] at h
  split at h
  ·rename_i g' esz l hg
   simp only [aj, Bool.and_eq_true, Nat.beq_eq, Nat.ble_eq, Option.some.injEq] at h
   obtain ⟨⟨rfl, h1⟩, rfl⟩ := h
   have hc : ln.contains id = true := by simpa using hln id _ _ _ rfl
   simp only [im, tr, tr1, cZ, hc, if_true, aZ, hg, Option.map_some, mgO]
   rw [if_pos ⟨trivial, h1⟩]
  ·cases h
 | _ =>
  simp only [vX, aj, Option.some.injEq] at h
  obtain ⟨h1, rfl⟩ := h
  rw [cK (ey h1)]; exact wG h1
theorem sR {r : Nat → Nat} {ln : List Nat} {sto : Sto} : ∀ {vs us : List aa}, vY sto vs = some us → (∀ id, id ∈ iu vs → id ∈ ln) → (vs.map (mg r)).map (tr [] ln (mgS r sto)) = us
 | [], us, h, _ => by cases h; rfl
 | v :: vs, us, h, hln => by
  simp only [vY, Option.bind_eq_some_iff] at h
  obtain ⟨u, h1, h2⟩ := h
  obtain ⟨us', h3, rfl⟩ := aC h2
  simp only [List.map_cons]
  rw [zQ h1 fun id g off len e => hln id (nZ (g := g) (off := off) (len := len) (by rw [e]; simp)), sR h3 fun id hm => hln id (by unfold iu; split <;> simp_all)]
def Em (kn : eh) (f : Nat) (args : List aa) (sto : Sto) : Option aa :=
 match kn f with
 | some g => (vY sto args).bind fun a => (g a).bind fun v => req (flat v && clean v && bB sto) (some v)
 | none => none
def mb (P : Program) (L : Lay) (tab : Nat → Tab) (kn : eh) (fuel : Nat) (fs : List Nat) : Nat → dK
 | 0, _, _, _, _, _ => none
 | k + 1, ro, f, args, sto, n =>
  match Em kn f args sto with
  | some v => some (v, sto, n)
  | none =>
  match P.funcs[f]? with
  | some fn =>
   match fn.body with
   | some c => req (Nat.ble args.length fn.ntmps && fs.contains f) (rS ⟨L, mb P L tab kn fuel fs k, ro, tab f, fn⟩ fuel [.code c] (ai 0 args) sto n)
   | none => none
  | none => none
theorem pG {r : Nat → Nat} : ∀ (args : List aa) (n : Nat), mgT r (ai n args) = ai n (args.map (mg r))
 | [], _ => rfl
 | x :: xs, n => by simp only [ai, List.map_cons, mgT, pG xs (n + 1)]
theorem oQ (hL : LOk P L) (hm : P.follows .mixedOrders = true) (hn : (P.funcs.all fun fn => !(fn.name == "runtime.NumGoroutine")) = true) (hq : Quiet P) {tab : Nat → Tab} {kn : eh} (hkn : qm P kn) {fuel : Nat} {fs : List Nat} (hfs : fs.all (xh P L tab) = true) : ∀ k, dW P (mb P L tab kn fuel fs k)
 | 0 => fun _ _ _ _ _ _ _ _ h => by cases h
 | k + 1 => fun ro f args sto n v sto' n' h => by
  unfold mb at h
  split at h
  ·rename_i u hu
   cases h
   refine ⟨Nat.le_refl _, fun _ => rfl, fun r => ?_⟩
   unfold Em at hu
   split at hu
   ·rename_i g hg
    simp only [Option.bind_eq_some_iff, aj, Bool.and_eq_true, Option.some.injEq] at hu
    obtain ⟨asl, h1, w, h2, ⟨⟨h3, h4⟩, h5⟩, rfl⟩ := hu
    have := ah.IN (sto := mgS r sto) (iu args) (hkn f g asl w hg h2) (sR h1 fun _ h => h) (vI h3) h4 (by rw [iD]; exact h5)
    exact this.mono fun v1 s1 ⟨k1, k2⟩ => ⟨r, .refl, by rw [k1, cK (ey h3)], k2⟩
   ·cases hu
  split at h
  ·rename_i fn hf
   split at h
   ·rename_i c hb
    simp only [aj, Bool.and_eq_true, Nat.ble_eq] at h
    obtain ⟨⟨h1, h5⟩, h2⟩ := h
    have h6 : cD L fn.ntmps (tab f) c = true := by
     have := List.all_eq_true.1 hfs f (by simpa using h5)
     simpa [xh, hf, hb] using this
    obtain ⟨h3, h3', h4⟩ := ck hL hm (oQ hL hm hn hq hkn hfs k) hq (f := f) _ (by simp [ej, h6]) h2
    refine ⟨h3, h3', fun r => ?_⟩
    refine ah.enter hf hb ?_ (by simpa using h1) ?_
    ·have := Array.all_eq_true'.1 hn fn (Array.mem_of_getElem? hf)
     simpa using this
    ·have := h4 r
     rw [pG] at this; exact this
   ·cases h
  ·cases h
end
end
end Go.Rad
