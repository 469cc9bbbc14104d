/- A call on known things, reckoned: what a function computes is found by reckoning alone. Handles bear numbers in place of their generations; rho tells which generations they are. -/
import Derived.Test.YtapigofiboihiaaKRDraw
import Derived.Test.YtapigofiboihiaaKRFrz
import Derived.Test.YtapigofiboihiaaKREq
import Derived.Test.YtapigofiboihiaaKRNode
set_option linter.all false
set_option linter.all false
namespace Go.Rad
open Go
noncomputable section

def mg0 (r : Nat → Nat) : AVal → AVal
  | .loc id g i off => .loc id (r g) i off
  | .bx id g off => .bx id (r g) off
  | .osl id g off len => .osl id (r g) off len
  | .map id g => .map id (r g)
  | v => v
def mg1 (r : Nat → Nat) : AVal → AVal
  | .fn f cap => .fn f (cap.map (mg0 r))
  | v => mg0 r v
def mg2 (r : Nat → Nat) : AVal → AVal
  | .agg cs => .agg (cs.map (mg1 r))
  | v => mg1 r v
def mg (r : Nat → Nat) : AVal → AVal
  | .tup cs => .tup (cs.map (mg2 r))
  | v => mg2 r v
def mgO (r : Nat → Nat) : AObj → AObj
  | .box cs => .box (cs.map (mg1 r))
  | o => o
def mgS (r : Nat → Nat) : Sto → Sto
  | [] => []
  | (i, g, o) :: s => (i, r g, mgO r o) :: mgS r s
def mgT (r : Nat → Nat) : Tm → Tm
  | [] => []
  | (t, v) :: s => (t, mg r v) :: mgT r s

/-- All handles' numbers are below n. -/
def bd0 (n : Nat) : AVal → Bool
  | .loc _ g _ _ => Nat.blt g n
  | .bx _ g _ => Nat.blt g n
  | .osl _ g _ _ => Nat.blt g n
  | .map _ g => Nat.blt g n
  | _ => true
def bd1 (n : Nat) : AVal → Bool
  | .fn _ cap => cap.all (bd0 n)
  | v => bd0 n v
def bd2 (n : Nat) : AVal → Bool
  | .agg cs => cs.all (bd1 n)
  | v => bd1 n v
def bd (n : Nat) : AVal → Bool
  | .tup cs => cs.all (bd2 n)
  | v => bd2 n v
def bdO (n : Nat) : AObj → Bool
  | .box cs => cs.all (bd1 n)
  | _ => true
def bdS (n : Nat) : Sto → Bool
  | [] => true
  | (_, g, o) :: s => Nat.blt g n && bdO n o && bdS n s
def bdT (n : Nat) : Tm → Bool
  | [] => true
  | (_, v) :: s => bd n v && bdT n s

/-- What a temporary holds: as 'lk', for the kernel's reckoning. -/
def lkF (tm : Tm) (n : Nat) : AVal := List.rec (motive := fun _ => AVal) .undef (fun hd _ ih => Bool.rec (motive := fun _ => AVal) ih hd.2 (Nat.beq hd.1 n)) tm
theorem lkF_eq : ∀ (tm : Tm) (n : Nat), lkF tm n = lk tm n
  | [], _ => rfl
  | (m, v) :: tm, n => by
    have ih := lkF_eq tm n
    simp only [lk]
    split
    · rename_i h; subst h
      show Bool.rec (motive := fun _ => AVal) (lkF tm m) v (Nat.beq m m) = v
      rw [Nat.beq_refl]
    · rename_i h
      show Bool.rec (motive := fun _ => AVal) (lkF tm n) v (Nat.beq m n) = lk tm n
      rw [show Nat.beq m n = false by cases hb : Nat.beq m n with | false => rfl | true => exact absurd (Nat.eq_of_beq_eq_true hb) h]
      exact ih
def evF (tm : Tm) (x : Operand) : AVal := Operand.rec (motive := fun _ => AVal) (fun t => lkF tm t) (fun v => ofConst v) (fun g => ev tm (.global g)) (fun f => .fn f []) x
theorem evF_eq (tm : Tm) (x : Operand) : evF tm x = ev tm x := by
  cases x with
  | tmp t => exact lkF_eq tm t
  | _ => rfl
theorem evF_fun (tm : Tm) : evF tm = ev tm := funext (evF_eq tm)
theorem lkF_fun (tm : Tm) : lkF tm = lk tm := funext (lkF_eq tm)

def Agree (n : Nat) (r r' : Nat → Nat) : Prop := ∀ g, g < n → r g = r' g

section
variable {r r' : Nat → Nat} {n : Nat}
theorem Agree.refl : Agree n r r := fun _ _ => rfl
theorem Agree.le {m : Nat} (h : Agree n r r') (hm : m ≤ n) : Agree m r r' := fun g hg => h g (Nat.lt_of_lt_of_le hg hm)
theorem Agree.trans {r'' : Nat → Nat} {m : Nat} (h : Agree n r r') (k : Agree m r' r'') (hm : n ≤ m) : Agree n r r'' := fun g hg => (h g hg).trans (k g (Nat.lt_of_lt_of_le hg hm))

theorem mg0uag (h : Agree n r r') {v : AVal} (hv : bd0 n v = true) : mg0 r v = mg0 r' v := by
  cases v <;> simp only [bd0, Nat.blt_eq] at hv <;> simp only [mg0] <;> first | rfl | rw [h _ hv]
theorem mg0s_ag (h : Agree n r r') : ∀ {l : List AVal}, l.all (bd0 n) = true → l.map (mg0 r) = l.map (mg0 r')
  | [], _ => rfl
  | v :: l, hv => by simp only [List.all_cons, Bool.and_eq_true] at hv; rw [List.map_cons, List.map_cons, mg0uag h hv.1, mg0s_ag h hv.2]
theorem mg1uag (h : Agree n r r') {v : AVal} (hv : bd1 n v = true) : mg1 r v = mg1 r' v := by
  cases v with
  | fn f cap => simp only [bd1] at hv; simp only [mg1, mg0s_ag h hv]
  | _ => simp only [bd1] at hv; simp only [mg1]; exact mg0uag h hv
theorem mg1s_ag (h : Agree n r r') : ∀ {l : List AVal}, l.all (bd1 n) = true → l.map (mg1 r) = l.map (mg1 r')
  | [], _ => rfl
  | v :: l, hv => by simp only [List.all_cons, Bool.and_eq_true] at hv; rw [List.map_cons, List.map_cons, mg1uag h hv.1, mg1s_ag h hv.2]
theorem mg2uag (h : Agree n r r') {v : AVal} (hv : bd2 n v = true) : mg2 r v = mg2 r' v := by
  cases v with
  | agg cs => simp only [bd2] at hv; simp only [mg2, mg1s_ag h hv]
  | _ => simp only [bd2] at hv; simp only [mg2]; exact mg1uag h hv
theorem mg2s_ag (h : Agree n r r') : ∀ {l : List AVal}, l.all (bd2 n) = true → l.map (mg2 r) = l.map (mg2 r')
  | [], _ => rfl
  | v :: l, hv => by simp only [List.all_cons, Bool.and_eq_true] at hv; rw [List.map_cons, List.map_cons, mg2uag h hv.1, mg2s_ag h hv.2]
theorem mg_ag (h : Agree n r r') {v : AVal} (hv : bd n v = true) : mg r v = mg r' v := by
  cases v with
  | tup cs => simp only [bd] at hv; simp only [mg, mg2s_ag h hv]
  | _ => simp only [bd] at hv; simp only [mg]; exact mg2uag h hv
theorem mgO_ag (h : Agree n r r') {o : AObj} (hv : bdO n o = true) : mgO r o = mgO r' o := by
  cases o with
  | box cs => simp only [bdO] at hv; simp only [mgO, mg1s_ag h hv]
  | _ => rfl
theorem mgS_ag (h : Agree n r r') : ∀ {s : Sto}, bdS n s = true → mgS r s = mgS r' s
  | [], _ => rfl
  | (i, g, o) :: s, hv => by simp only [bdS, Bool.and_eq_true, Nat.blt_eq] at hv; simp only [mgS, h g hv.1.1, mgO_ag h hv.1.2, mgS_ag h hv.2]
theorem mgT_ag (h : Agree n r r') : ∀ {s : Tm}, bdT n s = true → mgT r s = mgT r' s
  | [], _ => rfl
  | (t, v) :: s, hv => by simp only [bdT, Bool.and_eq_true] at hv; simp only [mgT, mg_ag h hv.1, mgT_ag h hv.2]

/-- What bears no handle stays. -/
theorem mg0uid {v : AVal} (hv : bd0 0 v = true) : mg0 r v = v := by cases v <;> simp_all [bd0, mg0, Nat.blt]
theorem mg0s_id : ∀ {l : List AVal}, l.all (bd0 0) = true → l.map (mg0 r) = l
  | [], _ => rfl
  | v :: l, hv => by simp only [List.all_cons, Bool.and_eq_true] at hv; rw [List.map_cons, mg0uid hv.1, mg0s_id hv.2]
theorem mg1uid {v : AVal} (hv : bd1 0 v = true) : mg1 r v = v := by
  cases v with
  | fn f cap => simp only [bd1] at hv; simp only [mg1, mg0s_id hv]
  | _ => simp only [bd1] at hv; simp only [mg1]; exact mg0uid hv
theorem mg1s_id : ∀ {l : List AVal}, l.all (bd1 0) = true → l.map (mg1 r) = l
  | [], _ => rfl
  | v :: l, hv => by simp only [List.all_cons, Bool.and_eq_true] at hv; rw [List.map_cons, mg1uid hv.1, mg1s_id hv.2]
theorem mg2uid {v : AVal} (hv : bd2 0 v = true) : mg2 r v = v := by
  cases v with
  | agg cs => simp only [bd2] at hv; simp only [mg2, mg1s_id hv]
  | _ => simp only [bd2] at hv; simp only [mg2]; exact mg1uid hv
theorem mg2s_id : ∀ {l : List AVal}, l.all (bd2 0) = true → l.map (mg2 r) = l
  | [], _ => rfl
  | v :: l, hv => by simp only [List.all_cons, Bool.and_eq_true] at hv; rw [List.map_cons, mg2uid hv.1, mg2s_id hv.2]
theorem mg_id {v : AVal} (hv : bd 0 v = true) : mg r v = v := by
  cases v with
  | tup cs => simp only [bd] at hv; simp only [mg, mg2s_id hv]
  | _ => simp only [bd] at hv; simp only [mg]; exact mg2uid hv
theorem mg_whole {v : AVal} (h : v.isWhole = true) : mg r v = mg2 r v := by cases v <;> first | rfl | simp [AVal.isWhole, AVal.isCell] at h

theorem mg_cell {v : AVal} (h : v.isCell = true) : mg r v = mg1 r v := by cases v <;> first | rfl | simp [AVal.isCell] at h
theorem mg1uisCell {v : AVal} : (mg1 r v).isCell = v.isCell := by cases v <;> rfl
theorem mg1uisFz {v : AVal} (h : v.isFz = true) : mg1 r v = v := by
  cases v with
  | fn f cap => cases cap <;> simp_all [AVal.isFz, mg1]
  | _ => first | rfl | simp [AVal.isFz] at h
theorem mg1s_fz : ∀ {l : List AVal}, l.all AVal.isFz = true → l.map (mg1 r) = l
  | [], _ => rfl
  | v :: l, hv => by simp only [List.all_cons, Bool.and_eq_true] at hv; rw [List.map_cons, mg1uisFz hv.1, mg1s_fz hv.2]
theorem mg_isWhole {v : AVal} : (mg r v).isWhole = v.isWhole := by cases v <;> rfl
theorem mg_cellsOf {v : AVal} (h : v.isWhole = true) : cellsOf (mg r v) = (cellsOf v).map (mg1 r) := by
  cases v <;> first | rfl | simp [AVal.isWhole, AVal.isCell] at h
theorem lk_mgT (t : Nat) : ∀ (s : Tm), lk (mgT r s) t = mg r (lk s t)
  | [] => rfl
  | (j, v) :: s => by
    simp only [mgT, lk]
    split
    · rfl
    · exact lk_mgT t s
theorem ofConst1umg (v : Value) : mg1 r (ofConst1 v) = ofConst1 v := by
  unfold ofConst1; split <;> rfl
theorem ofConst_mg (v : Value) : mg r (ofConst v) = ofConst v := by
  unfold ofConst
  split
  · simp only [mg, mg2, List.map_map]; congr 1; exact List.map_congr_left fun x _ => ofConst1umg x
  · rename_i v _
    have : (ofConst1 v).isWhole = true → mg r (ofConst1 v) = mg1 r (ofConst1 v) := fun h => by unfold ofConst1 at *; split at h <;> rfl
    unfold ofConst1; split <;> rfl
theorem globC_mg (l : List Int) : (globC l).map (mg1 r) = globC l := by simp only [globC, List.map_map]; exact List.map_congr_left fun x _ => rfl
theorem ev_mgT (s : Tm) (x : Operand) : ev (mgT r s) x = mg r (ev s x) := by
  cases x with
  | tmp t => exact lk_mgT t s
  | const v => exact (ofConst_mg v).symm
  | func f => rfl
  | global g => simp only [ev]; split <;> rfl
theorem sget_mgS (i : Nat) : ∀ (s : Sto), sget (mgS r s) i = (sget s i).map fun x => (r x.1, mgO r x.2)
  | [] => rfl
  | (j, g, o) :: s => by
    simp only [mgS, sget]
    split
    · rfl
    · exact sget_mgS i s
theorem sput_mgS (i g : Nat) (o : AObj) : ∀ (s : Sto), mgS r (sput s i (g, o)) = sput (mgS r s) i (r g, mgO r o)
  | [] => rfl
  | (j, h, p) :: s => by
    simp only [sput, mgS]
    by_cases h1 : j = i
    · simp only [h1, if_true, mgS]
    · by_cases h2 : i < j
      · simp only [h1, h2, if_false, if_true, mgS]
      · simp only [h1, h2, if_false, mgS, sput_mgS i g o s]
theorem sdel_mgS (i : Nat) : ∀ (s : Sto), mgS r (sdel s i) = sdel (mgS r s) i
  | [] => rfl
  | (j, h, p) :: s => by
    simp only [sdel, mgS]
    by_cases h1 : j = i
    · simp only [h1, if_true, sdel_mgS i s]
    · simp only [h1, if_false, mgS, sdel_mgS i s]
end

/-- The generation that a new handle is given. -/
def up (r : Nat → Nat) (n h : Nat) : Nat → Nat := fun g => if g = n then h else r g
theorem up_agree {r : Nat → Nat} {n h : Nat} : Agree n r (up r n h) := fun g hg => by simp [up, Nat.ne_of_lt hg]
theorem up_self {r : Nat → Nat} {n h : Nat} : up r n h n = h := by simp [up]

/-! The operations, reckoned. -/
def req {α : Type} (b : Bool) (x : Option α) : Option α :=
  match b with
  | true => x
  | false => none
theorem req_iff {α : Type} {b : Bool} {x : Option α} {v : α} : req b x = some v ↔ b = true ∧ x = some v := by cases b <;> simp [req]
/-- What bears no handle. -/
def nh (v : AVal) : Option AVal := req (bd 0 v) (some v)
theorem nh_iff {v u : AVal} : nh v = some u ↔ bd 0 v = true ∧ v = u := by simp [nh, req_iff]

def xMk (ti : TI) (cs : List AVal) : Option AVal :=
  match ti.ag with
  | true => some (.agg (cs.take ti.sz))
  | false => match cs with | c :: _ => req c.isCell (some c) | [] => none

def xLoad (L : Lay) (t : Nat) (x : AVal) (sto : Sto) : Option AVal :=
  match x with
  | .bx id g off =>
    match sget sto id with
    | some (g', .box cs) => req (Nat.beq g' g && Nat.ble (off + (L t).sz) cs.length && Nat.blt 0 (L t).sz) (xMk (L t) (cs.drop off))
    | _ => none
  | .loc id g i off =>
    match sget sto id with
    | some (g', .row esz l) => req (Nat.beq g' g && Nat.ble (off + (L t).sz) esz && Nat.blt 0 (L t).sz) (l[i]?.bind fun y => (xMk (L t) (y.drop off)).bind nh)
    | _ => none
  | .ref _ cs => req (Nat.ble (L t).sz cs.length && Nat.blt 0 (L t).sz) ((xMk (L t) cs).bind nh)
  | _ => none

section
variable {r : Nat → Nat} {n : Nat} {P : Program} {L : Lay} {tm : Tm} {sto sto' : Sto} {v : AVal} {T : AVal → Prop} {U : AVal → Sto → Prop}

theorem mg_bx {id g off : Nat} : mg r (.bx id g off) = .bx id (r g) off := rfl
theorem mg_loc {id g i off : Nat} : mg r (.loc id g i off) = .loc id (r g) i off := rfl
theorem mg_osl {id g off len : Nat} : mg r (.osl id g off len) = .osl id (r g) off len := rfl
theorem mg_map {id g : Nat} : mg r (.map id g) = .map id (r g) := rfl
theorem mg_sl {q f : Bool} {l : List (List AVal)} : mg r (.sl q f l) = .sl q f l := rfl
theorem mg_int {k : IntKind} {m : Int} : mg r (.int k m) = .int k m := rfl
theorem mg_str {s : ByteArray} : mg r (.str s) = .str s := rfl
theorem xMk_mkv {ti : TI} {cs : List AVal} (h : xMk ti cs = some v) : mkv ti cs = v := by
  unfold xMk at h; unfold mkv
  split at h
  · rename_i ha; rw [if_pos ha]; exact Option.some.inj h
  · rename_i ha; rw [if_neg (by simp [ha])]
    split at h
    · rw [req_iff] at h; exact Option.some.inj h.2
    · cases h
theorem xMk_mg {ti : TI} {cs : List AVal} (h : xMk ti cs = some v) : mkv ti (cs.map (mg1 r)) = mg r v := by
  unfold xMk at h; unfold mkv
  split at h
  · rename_i ha; rw [if_pos ha, ← Option.some.inj h]; simp only [mg, mg2, List.map_take]
  · rename_i ha; rw [if_neg (by simp [ha])]
    split at h
    · rw [req_iff] at h
      rw [← Option.some.inj h.2, mg_cell h.1]; rfl
    · cases h

theorem xLoad_ok {t : Nat} {x : AVal} (h : xLoad L t x sto = some v) (hT : T (mg r v)) : vcLoad L t (mg r x) (mgS r sto) T := by
  unfold xLoad at h
  split at h
  · split at h
    · rename_i id g off _ g' cs hg
      simp only [req_iff, Bool.and_eq_true, Nat.beq_eq, Nat.ble_eq, Nat.blt_eq] at h
      obtain ⟨⟨⟨rfl, h2⟩, h3⟩, h4⟩ := h
      simp only [mg, mg2, mg1, mg0, vcLoad, sget_mgS, hg, Option.map_some, mgO, List.length_map, true_and]
      refine ⟨h2, h3, ?_⟩
      rw [← List.map_drop, xMk_mg h4]; exact hT
    · cases h
  · split at h
    · rename_i id g i off _ g' esz l hg
      simp only [req_iff, Bool.and_eq_true, Nat.beq_eq, Nat.ble_eq, Nat.blt_eq, Option.bind_eq_some_iff, nh_iff] at h
      obtain ⟨⟨⟨rfl, h2⟩, h3⟩, y, hy, u, hu, hb, rfl⟩ := h
      simp only [mg, mg2, mg1, mg0, vcLoad, sget_mgS, hg, Option.map_some, mgO, true_and]
      refine ⟨(List.getElem?_eq_some_iff.1 hy).1, h2, h3, fun z hz => ?_⟩
      rw [hy] at hz; cases hz
      rw [xMk_mkv hu, ← mg_id (r := r) hb]; exact hT
    · cases h
  · simp only [req_iff, Bool.and_eq_true, Nat.ble_eq, Nat.blt_eq, Option.bind_eq_some_iff, nh_iff] at h
    obtain ⟨⟨h2, h3⟩, u, hu, hb, rfl⟩ := h
    simp only [mg, mg2, mg1, mg0, vcLoad]
    refine ⟨h2, h3, ?_⟩
    rw [xMk_mkv hu, ← mg_id (r := r) hb]; exact hT
  · cases h

def xStore (L : Lay) (t : Nat) (x v : AVal) (sto : Sto) : Option Sto :=
  match x with
  | .bx id g off =>
    match sget sto id with
    | some (g', .box cs) => req (v.isWhole && Nat.beq (cellsOf v).length (L t).sz && Nat.beq g' g && Nat.ble (off + (L t).sz) cs.length) (some (sput sto id (g, .box (splice cs off (cellsOf v)))))
    | _ => none
  | .loc id g i off =>
    match sget sto id with
    | some (g', .row esz l) => req (bd 0 v && (nrmV v).isWhole && Nat.beq (cellsOf (nrmV v)).length (L t).sz && (cellsOf (nrmV v)).all AVal.isFz && Nat.beq g' g && Nat.ble (off + (L t).sz) esz)
        (l[i]?.bind fun y => some (sput sto id (g, .row esz (l.set i (splice y off (cellsOf (nrmV v)))))))
    | _ => none
  | _ => none
theorem splice_mg {cs vs : List AVal} {off : Nat} : splice (cs.map (mg1 r)) off (vs.map (mg1 r)) = (splice cs off vs).map (mg1 r) := by
  simp only [splice, List.map_append, List.map_take, List.map_drop, List.length_map]
theorem xStore_ok {t : Nat} {x v : AVal} {V : Sto → Prop} (h : xStore L t x v sto = some sto') (hT : V (mgS r sto')) : vcStoreN L t (mg r x) (mg r v) (mgS r sto) V := by
  unfold xStore at h
  split at h
  · split at h
    · rename_i id g off _ g' cs hg
      simp only [req_iff, Bool.and_eq_true, Nat.beq_eq, Nat.ble_eq, Option.some.injEq] at h
      obtain ⟨⟨⟨⟨h1, h2⟩, rfl⟩, h4⟩, rfl⟩ := h
      simp only [mg_bx, mg_loc, vcStoreN, vcStore, sget_mgS, hg, Option.map_some, mgO, List.length_map, true_and]
      refine ⟨by rw [← mg_isWhole (r := r)] at h1; exact h1, by rw [show (cellsOf (mg r v)).length = (cellsOf v).length by rw [mg_cellsOf h1, List.length_map]]; exact h2, h4, ?_⟩
      rw [sput_mgS] at hT
      simp only [mgO] at hT
      rw [show cellsOf (mg r v) = (cellsOf v).map (mg1 r) from mg_cellsOf h1, splice_mg]; exact hT
    · cases h
  · split at h
    · rename_i id g i off _ g' esz l hg
      simp only [req_iff, Bool.and_eq_true, Nat.beq_eq, Nat.ble_eq, Option.bind_eq_some_iff, Option.some.injEq] at h
      obtain ⟨⟨⟨⟨⟨⟨h0, h1⟩, h2⟩, h3⟩, rfl⟩, h4⟩, y, hy, rfl⟩ := h
      simp only [mg_bx, mg_loc, vcStoreN, vcStore, sget_mgS, hg, Option.map_some, mgO, true_and]
      have e : mg r v = v := mg_id h0
      rw [show nrmV (mg r v) = nrmV v by rw [e]]
      refine ⟨h1, h2, (List.getElem?_eq_some_iff.1 hy).1, h4, h3, fun z hz => ?_⟩
      rw [hy] at hz; cases hz
      rw [sput_mgS] at hT; exact hT
    · cases h
  · cases h

def xField (ti : TI) (x : AVal) (f : Nat) : Option AVal :=
  (foff ti f).bind fun o =>
    match x with
    | .bx id g off => some (.bx id g (off + o.1))
    | .loc id g i off => some (.loc id g i (off + o.1))
    | .ref q cs => req (Nat.ble o.1 cs.length) (some (.ref q (cs.drop o.1)))
    | _ => none
theorem xField_ok {ti : TI} {x : AVal} {f : Nat} (h : xField ti x f = some v) (hT : T (mg r v)) : vcField ti (mg r x) f T := by
  unfold xField at h
  simp only [Option.bind_eq_some_iff] at h
  obtain ⟨⟨o, k⟩, ho, h⟩ := h
  unfold vcField
  rw [ho]
  split at h
  · cases h; exact hT
  · cases h; exact hT
  · simp only [req_iff, Nat.ble_eq, Option.some.injEq] at h
    obtain ⟨h1, rfl⟩ := h
    exact ⟨h1, hT⟩
  · cases h

def xIndexAddr (L : Lay) (t : Nat) (x i : AVal) (sto : Sto) : Option AVal :=
  match i with
  | .int _ n =>
    match (L t).ty with
    | .slice e =>
      match x with
      | .osl id g off len =>
        match sget sto id with
        | some (g', .row esz _) => req (Nat.beq g' g && Nat.beq esz (L e).sz && decide (0 ≤ n) && Nat.blt n.toNat len) (some (.loc id g (off + n.toNat) 0))
        | _ => none
      | .sl q _ l => req (decide (0 ≤ n)) (l[n.toNat]?.bind fun y => req (Nat.beq y.length (L e).sz) (some (.ref q y)))
      | _ => none
    | .array m e =>
      req (decide (0 ≤ n) && Nat.blt n.toNat m)
        (match x with
        | .bx id g off => some (.bx id g (off + n.toNat * (L e).sz))
        | .loc id g j off => some (.loc id g j (off + n.toNat * (L e).sz))
        | .ref q cs => req (Nat.ble (n.toNat * (L e).sz) cs.length) (some (.ref q (cs.drop (n.toNat * (L e).sz))))
        | _ => none)
    | _ => none
  | _ => none
theorem xIndexAddr_ok {t : Nat} {x i : AVal} (h : xIndexAddr L t x i sto = some v) (hT : T (mg r v)) : vcIndexAddr L t (mg r x) (mg r i) (mgS r sto) T := by
  unfold xIndexAddr at h
  split at h
  · rename_i k n
    split at h
    · rename_i e he
      split at h
      · split at h
        · rename_i id g off len _ g' esz l hg
          simp only [req_iff, Bool.and_eq_true, Nat.beq_eq, Nat.blt_eq, Option.some.injEq, decide_eq_true_eq] at h
          obtain ⟨⟨⟨⟨rfl, h2⟩, h3⟩, h4⟩, rfl⟩ := h
          simp only [mg, mg2, mg1, mg0, vcIndexAddr, he, sget_mgS, hg, Option.map_some, mgO, true_and]
          exact ⟨h2, ⟨h3, by omega⟩, hT⟩
        · cases h
      · simp only [req_iff, Option.bind_eq_some_iff, decide_eq_true_eq, Nat.beq_eq, Option.some.injEq] at h
        obtain ⟨h1, y, hy, h2, rfl⟩ := h
        simp only [mg, mg2, mg1, mg0, vcIndexAddr, he]
        refine ⟨⟨h1, by have := (List.getElem?_eq_some_iff.1 hy).1; omega⟩, fun z hz => ?_⟩
        rw [hy] at hz; cases hz
        exact ⟨h2, hT⟩
      · cases h
    · rename_i m e he
      simp only [req_iff, Bool.and_eq_true, Nat.blt_eq, decide_eq_true_eq] at h
      obtain ⟨⟨h1, h2⟩, h⟩ := h
      have h3 : n < m := by omega
      split at h
      · cases h
        simp only [mg, mg2, mg1, mg0, vcIndexAddr, he]
        exact ⟨⟨h1, h3⟩, hT⟩
      · cases h
        simp only [mg, mg2, mg1, mg0, vcIndexAddr, he]
        exact ⟨⟨h1, h3⟩, hT⟩
      · simp only [req_iff, Nat.ble_eq, Option.some.injEq] at h
        obtain ⟨h4, rfl⟩ := h
        simp only [mg, mg2, mg1, mg0, vcIndexAddr, he]
        exact ⟨⟨h1, h3⟩, h4, hT⟩
      · cases h
    · cases h
  · cases h

def xIndex (L : Lay) (t : Nat) (x i : AVal) : Option AVal :=
  match i with
  | .int _ n =>
    match (L t).ty, x with
    | .string, .str s => req (decide (0 ≤ n) && Nat.blt n.toNat s.size) (some (.int .u8 (sbyte s n.toNat)))
    | .array m e, .agg cs => req (decide (0 ≤ n) && Nat.blt n.toNat m && Nat.ble (n.toNat * (L e).sz + (L e).sz) cs.length && Nat.blt 0 (L e).sz) (xMk (L e) (cs.drop (n.toNat * (L e).sz)))
    | _, _ => none
  | _ => none
theorem xIndex_ok {t : Nat} {x i : AVal} (h : xIndex L t x i = some v) (hT : T (mg r v)) : vcIndex L t (mg r x) (mg r i) T := by
  unfold xIndex at h
  split at h
  · rename_i k n
    split at h
    · rename_i s he
      simp only [req_iff, Bool.and_eq_true, Nat.blt_eq, decide_eq_true_eq, Option.some.injEq] at h
      obtain ⟨⟨h1, h2⟩, rfl⟩ := h
      simp only [mg, mg2, mg1, mg0, vcIndex, he]
      exact ⟨⟨h1, by omega⟩, hT⟩
    · rename_i m e cs he
      simp only [req_iff, Bool.and_eq_true, Nat.blt_eq, Nat.ble_eq, decide_eq_true_eq] at h
      obtain ⟨⟨⟨⟨h1, h2⟩, h3⟩, h4⟩, h5⟩ := h
      simp only [mg, mg2, mg1, mg0, vcIndex, he, List.length_map]
      refine ⟨⟨h1, by omega⟩, h3, h4, ?_⟩
      rw [← List.map_drop, xMk_mg h5]; exact hT
    · cases h
  · cases h

def xFieldOf (L : Lay) (t : Nat) (x : AVal) (f : Nat) : Option AVal :=
  match foff (L t) f, x with
  | some (o, ft), .agg cs => req (Nat.ble (o + (L ft).sz) cs.length && Nat.blt 0 (L ft).sz) (xMk (L ft) (cs.drop o))
  | _, _ => none
theorem xFieldOf_ok {t : Nat} {x : AVal} {f : Nat} (h : xFieldOf L t x f = some v) (hT : T (mg r v)) : vcFieldOf L t (mg r x) f T := by
  unfold xFieldOf at h
  split at h
  · rename_i o ft cs ho
    simp only [req_iff, Bool.and_eq_true, Nat.blt_eq, Nat.ble_eq] at h
    obtain ⟨⟨h1, h2⟩, h3⟩ := h
    simp only [mg, mg2, mg1, mg0, vcFieldOf, ho, List.length_map]
    refine ⟨h1, h2, ?_⟩
    rw [← List.map_drop, xMk_mg h3]; exact hT
  · cases h

def xExtract (x : AVal) (i : Nat) : Option AVal :=
  match x with
  | .tup vs => vs[i]?.bind fun v => req v.isWhole (some v)
  | _ => none
theorem xExtract_ok {x : AVal} {i : Nat} (h : xExtract x i = some v) (hT : T (mg r v)) : vcExtract (mg r x) i T := by
  unfold xExtract at h
  split at h
  · simp only [Option.bind_eq_some_iff, req_iff, Option.some.injEq] at h
    obtain ⟨u, h1, h2, rfl⟩ := h
    simp only [mg, vcExtract, List.getElem?_map, h1, Option.map_some]
    exact ⟨_, rfl, by rw [← mg_whole h2]; exact hT⟩
  · cases h

def xI64 (n : Int) : Option AVal := req (decide (-9223372036854775808 ≤ n) && decide (n ≤ 9223372036854775807)) (some (.int .i64 n))
def xArith (k : IntKind) (n : Int) : Option AVal :=
  match k with
  | .i64 => xI64 n
  | k => some (.int k (k.wrap n))
theorem xArith_ok {k : IntKind} {m : Int} (h : xArith k m = some v) (hT : T v) : vcArith k m T := by
  unfold xArith at h; unfold vcArith
  split at h
  · simp only [xI64, req_iff, Bool.and_eq_true, decide_eq_true_eq, Option.some.injEq] at h
    obtain ⟨h1, rfl⟩ := h
    exact ⟨h1, hT⟩
  · rename_i hk
    cases h
    split
    · exact absurd rfl hk
    · exact hT
def xInt (op : BinOp) (k : IntKind) (a b : Int) : Option AVal :=
  match op with
  | .add => xArith k (a + b)
  | .sub => xArith k (a - b)
  | .mul => xArith k (a * b)
  | .quo => req (!decide (b = 0)) (xArith k (a.tdiv b))
  | .rem => req (!decide (b = 0)) (some (.int k (a.tmod b)))
  | .and | .or | .xor | .andNot => some (.int k (bitsOf op k a b))
  | .eql => some (.bool (decide (a = b)))
  | .neq => some (.bool (!decide (a = b)))
  | .lss => some (.bool (decide (a < b)))
  | .leq => some (.bool (decide (a ≤ b)))
  | .gtr => some (.bool (decide (b < a)))
  | .geq => some (.bool (decide (b ≤ a)))
  | _ => none
theorem xInt_ok {op : BinOp} {k : IntKind} {a b : Int} (h : xInt op k a b = some v) (hT : T v) : vcInt op k a b T := by
  unfold xInt at h; unfold vcInt
  split at h
  case h_4 => simp only [req_iff, Bool.not_eq_true', decide_eq_false_iff_not] at h; exact ⟨h.1, xArith_ok h.2 hT⟩
  case h_5 => simp only [req_iff, Bool.not_eq_true', decide_eq_false_iff_not, Option.some.injEq] at h; obtain ⟨h1, rfl⟩ := h; exact ⟨h1, hT⟩
  all_goals first | exact xArith_ok h hT | (cases h; exact hT) | cases h
def xStr (op : BinOp) (a b : ByteArray) : Option AVal :=
  match op with
  | .add => req (Nat.ble (a.size + b.size) maxLen) (some (.str (a ++ b)))
  | .eql => some (.bool (decide (a = b)))
  | .neq => some (.bool (!decide (a = b)))
  | .lss => some (.bool (Op.bytesLess a.toList b.toList))
  | .gtr => some (.bool (!(Op.bytesLess a.toList b.toList || decide (a = b))))
  | .leq => some (.bool (Op.bytesLess a.toList b.toList || decide (a = b)))
  | .geq => some (.bool (!Op.bytesLess a.toList b.toList))
  | _ => none
theorem xStr_ok {op : BinOp} {a b : ByteArray} (h : xStr op a b = some v) (hT : T v) : vcStr op a b T := by
  unfold xStr at h; unfold vcStr
  split at h
  case h_1 => simp only [req_iff, Nat.ble_eq, Option.some.injEq] at h; obtain ⟨h1, rfl⟩ := h; exact ⟨h1, hT⟩
  all_goals first | (cases h; exact hT) | cases h
def xEqAgg (L : Lay) (xt : Nat) (xs ys : List AVal) : Option Bool :=
  match (L xt).ty with
  | .array n e =>
    match (L e).ty, intsOf .u64 xs, intsOf .u64 ys with
    | .int .u64, some a, some b => req (Nat.beq a.length n && Nat.beq b.length n && Nat.ble n 1000 && Nat.beq (L e).sz 1 && !(L e).ag) (some (decide (a = b)))
    | _, _, _ => none
  | _ => none
theorem xEqAgg_ok {xt : Nat} {xs ys : List AVal} {b : Bool} {T : Bool → Prop} (h : xEqAgg L xt xs ys = some b) (hT : T b) : vcEqAgg L xt xs ys T := by
  unfold xEqAgg at h; unfold vcEqAgg
  split at h
  · rename_i n e he
    split at h
    · rename_i a c h1 h2 h3
      simp only [req_iff, Bool.and_eq_true, Nat.beq_eq, Nat.ble_eq, Bool.not_eq_true', Option.some.injEq] at h
      obtain ⟨⟨⟨⟨⟨x1, x2⟩, x3⟩, x4⟩, x5⟩, rfl⟩ := h
      rw [he]
      simp only [h1]
      exact ⟨a, c, h2, h3, x1, x2, x3, x4, x5, hT⟩
    · cases h
  · cases h
def xBin (L : Lay) (op : BinOp) (xt : Nat) (x y : AVal) : Option AVal :=
  match op, x, y with
  | .shl, .int k a, .int _ b => req (decide (0 ≤ b)) (some (.int k (k.wrap (a * 2 ^ min b.toNat k.bits))))
  | .shr, .int k a, .int _ b => req (decide (0 ≤ b)) (some (.int k (a.fdiv (2 ^ min b.toNat k.bits))))
  | op, .int k a, .int k' b => req (decide (k = k')) (xInt op k a b)
  | op, .str a, .str b => xStr op a b
  | .eql, .bool a, .bool b => req (decide ((L xt).ty = .bool)) (some (.bool (a == b)))
  | .neq, .bool a, .bool b => req (decide ((L xt).ty = .bool)) (some (.bool (!(a == b))))
  | .eql, .agg a, .agg b => (xEqAgg L xt a b).map .bool
  | .neq, .agg a, .agg b => (xEqAgg L xt a b).map fun r => .bool !r
  | _, _, _ => none
theorem xBin_ok {op : BinOp} {xt : Nat} {x y : AVal} (h : xBin L op xt x y = some v) (hT : T v) : vcBin L op xt x y T := by
  unfold xBin at h
  split at h
  · simp only [req_iff, decide_eq_true_eq, Option.some.injEq] at h; obtain ⟨h1, rfl⟩ := h; exact ⟨h1, hT⟩
  · simp only [req_iff, decide_eq_true_eq, Option.some.injEq] at h; obtain ⟨h1, rfl⟩ := h; exact ⟨h1, hT⟩
  · rename_i n1 n2
    simp only [req_iff, decide_eq_true_eq] at h; obtain ⟨rfl, h⟩ := h
    cases op <;> first | exact ⟨rfl, xInt_ok h hT⟩ | exact absurd rfl n1 | exact absurd rfl n2
  · cases op <;> exact xStr_ok h hT
  · simp only [req_iff, decide_eq_true_eq, Option.some.injEq] at h; obtain ⟨h1, rfl⟩ := h; exact ⟨h1, hT⟩
  · simp only [req_iff, decide_eq_true_eq, Option.some.injEq] at h; obtain ⟨h1, rfl⟩ := h; exact ⟨h1, hT⟩
  · simp only [Option.map_eq_some_iff] at h; obtain ⟨b, h1, rfl⟩ := h; exact xEqAgg_ok (T := fun r => T (.bool r)) h1 hT
  · simp only [Option.map_eq_some_iff] at h; obtain ⟨b, h1, rfl⟩ := h; exact xEqAgg_ok (T := fun r => T (.bool !r)) h1 hT
  · cases h
def xUn (op : UnOp) (x : AVal) : Option AVal :=
  match op, x with
  | .not, .bool b => some (.bool !b)
  | .neg, .int k n => xArith k (0 - n)
  | .xor, .int k n => some (.int k (bitsOf .xor k (if k.signed then -1 else k.max) n))
  | _, _ => none
theorem xUn_ok {op : UnOp} {x : AVal} (h : xUn op x = some v) (hT : T v) : vcUn op x T := by
  unfold xUn at h
  split at h
  · cases h; exact hT
  · exact xArith_ok h hT
  · cases h; exact hT
  · cases h
def xConvert (L : Lay) (s t : Nat) (x : AVal) : Option AVal :=
  req (!decide ((L s).ty = .other))
    (match (L t).ty, x with
    | .int k, .int _ n => some (.int k (k.wrap n))
    | .string, .str s' => req (decide ((L s).ty = .string)) (some (.str s'))
    | .string, .sl _ _ l => match (L s).ty with | .slice e => req (decide ((L e).ty = .int .u8)) ((strOf l).map fun bs => .str ⟨bs.toArray⟩) | _ => none
    | _, _ => none)
theorem xConvert_ok {s t : Nat} {x : AVal} (h : xConvert L s t x = some v) (hT : T v) : vcConvert L s t x T := by
  unfold xConvert at h
  simp only [req_iff, Bool.not_eq_true', decide_eq_false_iff_not] at h
  obtain ⟨h0, h⟩ := h
  refine ⟨h0, ?_⟩
  split at h
  · rename_i k kk n hk
    cases h; rw [hk]; exact hT
  · rename_i s' hk
    simp only [req_iff, decide_eq_true_eq, Option.some.injEq] at h
    obtain ⟨h1, rfl⟩ := h
    rw [hk]; exact ⟨h1, hT⟩
  · rename_i q f l hk
    split at h
    · rename_i e he
      simp only [req_iff, decide_eq_true_eq] at h
      obtain ⟨h1, h⟩ := h
      obtain ⟨bs, h2, rfl⟩ := Option.map_eq_some_iff.1 h
      rw [hk]; exact ⟨⟨e, he, h1⟩, bs, h2, hT⟩
    · cases h
  · cases h
def xNil (L : Lay) (xt : Nat) (x : AVal) : Option Bool :=
  match (L xt).ty, x with
  | .slice _, .sl _ _ (_ :: _) => some false
  | .slice _, .osl _ _ _ (_ + 1) => some false
  | _, _ => none
theorem xNil_ok {xt : Nat} {x : AVal} {b : Bool} {T : Bool → Prop} (h : xNil L xt x = some b) (hT : T b) : vcNil L xt (mg r x) T := by
  unfold xNil at h
  split at h
  · rename_i e q f y l he
    cases h
    refine ⟨⟨_, he⟩, fun b hb => ?_⟩
    cases b with
    | false => exact hT
    | true => simp at hb
  · rename_i e _ _ _ n he
    cases h
    refine ⟨⟨_, he⟩, fun b hb => ?_⟩
    cases b with
    | false => exact hT
    | true => simp at hb
  · cases h

def xLen (L : Lay) (t : Nat) (x : AVal) (sto : Sto) : Option AVal :=
  match (L t).ty, x with
  | .string, .str s => some (.int .i64 s.size)
  | .slice _, .sl _ _ l => some (.int .i64 l.length)
  | .slice _, .osl _ _ _ len => some (.int .i64 len)
  | .array n _, _ => req (Nat.blt n 4294967296) (some (.int .i64 n))
  | .map _ _, .nilmap => some (.int .i64 0)
  | .map _ _, .map id g =>
    match sget sto id with
    | some (g', .mp es) => req (Nat.beq g' g) (some (.int .i64 es.length))
    | _ => none
  | _, _ => none
theorem xLen_ok {t : Nat} {x : AVal} (h : xLen L t x sto = some v) (hT : T v) : vcLen L t (mg r x) (mgS r sto) T := by
  unfold xLen at h
  split at h
  · rename_i he; cases h; unfold vcLen; rw [he]; exact hT
  · rename_i he; cases h; unfold vcLen; rw [he]; exact hT
  · rename_i he; cases h; unfold vcLen; rw [he]; exact hT
  · rename_i n e he
    simp only [req_iff, Nat.blt_eq, Option.some.injEq] at h
    obtain ⟨h1, rfl⟩ := h
    unfold vcLen; rw [he]
    exact ⟨h1, hT⟩
  · rename_i he; cases h; unfold vcLen; rw [he]; exact hT
  · rename_i he
    split at h
    · rename_i g' es hg
      simp only [req_iff, Nat.beq_eq, Option.some.injEq] at h
      obtain ⟨rfl, rfl⟩ := h
      unfold vcLen; rw [he]
      simp only [mg_map, sget_mgS, hg, Option.map_some, mgO, true_and]
      exact hT
    · cases h
  · cases h

theorem elemsOf_mg {x : AVal} {m : List (List AVal)} (h : elemsOf x sto = some m) : elemsOf (mg r x) (mgS r sto) = some m := by
  unfold elemsOf at h
  split at h
  · exact h
  · rename_i id g off len
    split at h
    · rename_i g' esz l hg
      split at h
      · rename_i hc
        simp only [mg_osl, elemsOf, sget_mgS, hg, Option.map_some, mgO]
        rw [if_pos ⟨by rw [hc.1], hc.2⟩]; exact h
      · cases h
    · cases h
  · cases h

/-- The length of rows, and whether all is frozen. -/
def rowsOk (n : Nat) (m : List (List AVal)) : Bool := m.all fun y => Nat.beq y.length n && y.all AVal.isFz
theorem rowsOk_iff {k : Nat} {m : List (List AVal)} : rowsOk k m = true ↔ ∀ y ∈ m, y.length = k ∧ y.all AVal.isFz = true := by simp [rowsOk, Nat.beq_eq]
def xAppend (L : Lay) (d n t t2 : Nat) (s x : AVal) (sto : Sto) : Option (AVal × Sto) :=
  req (Nat.beq t2 t && bdS n sto)
    (match (L t).ty with
    | .slice e => (elemsOf x sto).bind fun m => req (Nat.blt 0 (L e).sz && rowsOk (L e).sz m)
      (match s with
      | .osl id g off len =>
        match sget sto id with
        | some (g', .row esz l) => req (Nat.beq g' g && Nat.beq off 0 && Nat.beq len l.length && Nat.beq esz (L e).sz && Nat.ble ((l.length + m.length) * (L e).by8) bigLen && Nat.ble (l.length + m.length) bigLen)
            (some (.osl id n 0 (l.length + m.length), sput sto id (n, .row esz (l ++ m))))
        | _ => none
      | .sl _ full l => req (full && rowsOk (L e).sz l && Nat.ble ((l.length + m.length) * (L e).by8) bigLen && Nat.ble (l.length + m.length) bigLen && (!m.isEmpty || l.isEmpty))
          (some (.osl d n 0 (l.length + m.length), sput sto d (n, .row (L e).sz (l ++ m))))
      | _ => none)
    | _ => none)
theorem sput_up {i h : Nat} {o : AObj} (hb : bdS n sto = true) (ho : ∀ r, mgO r o = o) : mgS (up r n h) (sput sto i (n, o)) = sput (mgS r sto) i (h, o) := by
  rw [sput_mgS, up_self, ho, ← mgS_ag up_agree hb]
theorem xAppend_ok {d t t2 : Nat} {s x : AVal} (h : xAppend L d n t t2 s x sto = some (v, sto')) (hT : ∀ h, U (mg (up r n h) v) (mgS (up r n h) sto')) : vcAppend L d t t2 (mg r s) (mg r x) (mgS r sto) U := by
  unfold xAppend at h
  simp only [req_iff, Bool.and_eq_true, Nat.beq_eq] at h
  obtain ⟨⟨rfl, hb⟩, h⟩ := h
  refine ⟨rfl, ?_⟩
  split at h
  · rename_i e he
    simp only [req_iff, Bool.and_eq_true, Nat.blt_eq, Option.bind_eq_some_iff, rowsOk_iff] at h
    obtain ⟨m, hm, ⟨h1, h2⟩, h⟩ := h
    rw [he]
    refine ⟨m, elemsOf_mg hm, h1, h2, ?_⟩
    split at h
    · split at h
      · rename_i id g off len _ g' esz l hg
        simp only [req_iff, Bool.and_eq_true, Nat.beq_eq, Nat.ble_eq, Option.some.injEq, Prod.mk.injEq] at h
        obtain ⟨⟨⟨⟨⟨⟨rfl, rfl⟩, rfl⟩, rfl⟩, h5⟩, h6⟩, rfl, rfl⟩ := h
        simp only [mg_osl, sget_mgS, hg, Option.map_some, mgO, true_and]
        refine ⟨h5, h6, fun h => ?_⟩
        have := hT h
        rw [sput_up hb fun r => rfl] at this
        simpa only [mg_osl, up_self] using this
      · cases h
    · simp only [req_iff, Bool.and_eq_true, Nat.beq_eq, Nat.ble_eq, Option.some.injEq, Prod.mk.injEq, rowsOk_iff, Bool.or_eq_true, Bool.not_eq_true', List.isEmpty_eq_false_iff, List.isEmpty_iff] at h
      obtain ⟨⟨⟨⟨⟨h3, h4⟩, h5⟩, h6⟩, h7⟩, rfl, rfl⟩ := h
      simp only [mg_sl]
      refine ⟨h3, h4, h5, h6, h7, fun h => ?_⟩
      have := hT h
      rw [sput_up hb fun r => rfl] at this
      simpa only [mg_osl, up_self] using this
    · cases h
  · cases h

def xMake (L : Lay) (d n t : Nat) (x y : AVal) (sto : Sto) : Option (AVal × Sto) :=
  match (L t).ty, x, y with
  | .slice e, .int .i64 m, .int .i64 c => req (bdS n sto && decide (0 ≤ m) && decide (m = c) && decide (m * (L e).by8 ≤ bigLen) && decide (m ≤ bigLen) && Nat.blt 0 (L e).sz)
      (some (.osl d n 0 m.toNat, sput sto d (n, .row (L e).sz ((List.replicate m.toNat (L e).zero).map (List.map nrm1)))))
  | _, _, _ => none
theorem xMake_ok {d t : Nat} {x y : AVal} (h : xMake L d n t x y sto = some (v, sto')) (hT : ∀ h, U (mg (up r n h) v) (mgS (up r n h) sto')) : vcMake L d t (mg r x) (mg r y) (mgS r sto) U := by
  unfold xMake at h
  split at h
  · rename_i e m c he
    simp only [req_iff, Bool.and_eq_true, Nat.blt_eq, decide_eq_true_eq, Option.some.injEq, Prod.mk.injEq] at h
    obtain ⟨⟨⟨⟨⟨⟨hb, h1⟩, rfl⟩, h3⟩, h4⟩, h5⟩, rfl, rfl⟩ := h
    simp only [mg_int, vcMake, he]
    refine ⟨h1, trivial, h3, h4, h5, fun h => ?_⟩
    have := hT h
    rw [sput_up hb fun r => rfl] at this
    simpa only [mg_osl, up_self] using this
  · cases h

theorem fillC_mg {ti : TI} : ∀ (ps : List (Nat × AVal)) (cs cs' : List AVal), fillC L ti cs ps = some cs' → fillC L ti (cs.map (mg1 r)) (ps.map fun p => (p.1, mg r p.2)) = some (cs'.map (mg1 r))
  | [], cs, cs', h => by simp only [fillC, Option.some.injEq] at h; subst h; rfl
  | (i, v) :: ps, cs, cs', h => by
    simp only [fillC, List.map_cons] at h ⊢
    split at h
    · rename_i off sz hx
      split at h
      · rename_i hc
        obtain ⟨h1, h2, h3⟩ := hc
        rw [mg_cellsOf h3, List.length_map, List.length_map, mg_isWhole, if_pos ⟨h1, h2, h3⟩, splice_mg]
        exact fillC_mg ps _ _ h
      · cases h
    · cases h
def xBuild (L : Lay) (t : Nat) (parts : List (Nat × AVal)) : Option AVal :=
  req ((L t).ag && (L t).zero.all (bd1 0)) ((fillC L (L t) (L t).zero parts).map .agg)
def xBuildSlice (L : Lay) (d n t m : Nat) (parts : List (Nat × AVal)) (sto : Sto) : Option (AVal × Sto) :=
  match (L t).ty with
  | .slice e => req (bdS n sto && Nat.blt 0 (L e).sz && Nat.ble (m * (L e).sz) 1000000 && parts.all fun p => bd 0 p.2) ((fillC L (L t) (List.replicate m (L e).zero).flatten parts).bind fun cs => req (cs.all AVal.isFz)
      (some (.osl d n 0 m, sput sto d (n, .row (L e).sz ((chunks (L e).sz m cs).map (List.map nrm1))))))
  | _ => none
theorem parts_id {ps : List (Nat × AVal)} (h : (ps.all fun p => bd 0 p.2) = true) : (ps.map fun p => (p.1, mg r p.2)) = ps := by
  rw [List.all_eq_true] at h
  conv => rhs; rw [← List.map_id ps]
  exact List.map_congr_left fun p hp => by rw [mg_id (h p hp)]; rfl
theorem xBuildSlice_ok {d t m : Nat} {parts : List (Nat × AVal)} (h : xBuildSlice L d n t m parts sto = some (v, sto')) (hT : ∀ h, U (mg (up r n h) v) (mgS (up r n h) sto')) : vcBuildSlice L d t m (parts.map fun p => (p.1, mg r p.2)) (mgS r sto) U := by
  unfold xBuildSlice at h
  split at h
  · rename_i e he
    simp only [req_iff, Bool.and_eq_true, Nat.blt_eq, Nat.ble_eq, Option.bind_eq_some_iff, Option.some.injEq, Prod.mk.injEq] at h
    obtain ⟨⟨⟨⟨hb, h1⟩, h2⟩, h3⟩, cs, h4, h5, rfl, rfl⟩ := h
    simp only [vcBuildSlice, he, parts_id h3]
    refine ⟨h1, h2, cs, h4, h5, fun h => ?_⟩
    have := hT h
    rw [sput_up hb fun r => rfl] at this
    simpa only [mg_osl, up_self] using this
  · cases h

def xArg (x : Option AVal) (dflt : Nat) : Option Nat :=
  match x with
  | none => some dflt
  | some (.int _ n) => req (decide (0 ≤ n)) (some n.toNat)
  | _ => none
theorem xArg_ok {x : Option AVal} {d k : Nat} {Q : Nat → Prop} (h : xArg x d = some k) (hQ : Q k) : intArg (x.map (mg r)) d Q := by
  unfold xArg at h
  split at h
  · cases h; exact hQ
  · simp only [req_iff, decide_eq_true_eq, Option.some.injEq] at h; obtain ⟨h1, rfl⟩ := h; exact ⟨h1, hQ⟩
  · cases h
def xSlice (L : Lay) (t : Nat) (x : AVal) (lo hi mx : Option AVal) (sto : Sto) : Option AVal :=
  match (L t).ty, x with
  | .string, .str s => req mx.isNone ((xArg lo 0).bind fun l => (xArg hi s.size).bind fun h => req (Nat.ble l h && Nat.ble h s.size) (some (.str (s.extract l h))))
  | .slice e, .sl q full es => (xArg lo 0).bind fun l => (xArg hi es.length).bind fun h => (xArg mx es.length).bind fun m =>
      req (Nat.ble l h && Nat.ble h m && Nat.ble m es.length && (Nat.beq l 0 || es.all fun y => Nat.beq y.length (L e).sz)) (some (.sl q (slFull mx full h m es.length) ((es.take h).drop l)))
  | .slice e, .osl id g off len => req mx.isNone (match sget sto id with
    | some (g', .row esz l) => req (Nat.beq g' g && Nat.beq esz (L e).sz) ((xArg lo 0).bind fun l => (xArg hi len).bind fun h => req (Nat.ble l h && Nat.ble h len) (some (.osl id g (off + l) (h - l))))
    | _ => none)
  | _, _ => none
theorem xSlice_ok {t : Nat} {x : AVal} {lo hi mx : Option AVal} (h : xSlice L t x lo hi mx sto = some v) (hT : T (mg r v)) : vcSlice L t (mg r x) (lo.map (mg r)) (hi.map (mg r)) (mx.map (mg r)) (mgS r sto) T := by
  unfold xSlice at h
  split at h
  · rename_i s he
    simp only [req_iff, Option.bind_eq_some_iff, Bool.and_eq_true, Nat.ble_eq, Option.some.injEq] at h
    obtain ⟨h0, l, hl, hh, hhh, ⟨h1, h2⟩, rfl⟩ := h
    unfold vcSlice
    rw [he]
    exact ⟨by cases mx <;> simp_all, xArg_ok hl (xArg_ok hhh ⟨⟨h1, h2⟩, hT⟩)⟩
  · rename_i e q full es he
    simp only [req_iff, Option.bind_eq_some_iff, Bool.and_eq_true, Nat.ble_eq, Option.some.injEq, Bool.or_eq_true, Nat.beq_eq, List.all_eq_true] at h
    obtain ⟨l, hl, hh, hhh, m, hm, ⟨⟨⟨h1, h2⟩, h3⟩, h4⟩, rfl⟩ := h
    unfold vcSlice
    rw [he]
    refine xArg_ok hl (xArg_ok hhh (xArg_ok hm ⟨⟨h1, h2, h3⟩, h4, ?_⟩))
    cases mx <;> exact hT
  · rename_i e id g off len he
    simp only [req_iff] at h
    obtain ⟨h0, h⟩ := h
    split at h
    · rename_i g' esz row hg
      simp only [req_iff, Option.bind_eq_some_iff, Bool.and_eq_true, Nat.ble_eq, Option.some.injEq, Nat.beq_eq] at h
      obtain ⟨⟨rfl, rfl⟩, l, hl, hh, hhh, ⟨h1, h2⟩, rfl⟩ := h
      unfold vcSlice
      rw [he]
      exact ⟨by cases mx <;> simp_all, ⟨_, row, by simp only [sget_mgS, hg, Option.map_some, mgO], rfl⟩, xArg_ok hl (xArg_ok hhh ⟨⟨h1, h2⟩, hT⟩)⟩
    · cases h
  · cases h

def xLookup (L : Lay) (t : Nat) (m k : AVal) (ok : Bool) (sto : Sto) : Option AVal :=
  match (L t).ty, m, k with
  | .map kt et, .map id g, .str key =>
    req (decide ((L kt).ty = .string) && Nat.beq (L et).sz 1 && !(L et).ag && bd1 0 ((L et).zero.headD .undef))
      (match sget sto id with
      | some (g', .mp es) => req (Nat.beq g' g) (match mfind es key with
        | some v => (nh v).bind fun v => some (if ok then .tup [v, .bool true] else v)
        | none => (nh ((L et).zero.headD .undef)).bind fun v => some (if ok then .tup [v, .bool false] else v))
      | _ => none)
  | _, _, _ => none
def nhT (v : AVal) : Option AVal := nh v
theorem xLookup_ok {t : Nat} {m k : AVal} {ok : Bool} (h : xLookup L t m k ok sto = some v) (hT : T v) : vcLookup L t (mg r m) (mg r k) ok (mgS r sto) T := by
  unfold xLookup at h
  split at h
  · rename_i kt et id g key he
    simp only [req_iff, Bool.and_eq_true, Nat.beq_eq, Bool.not_eq_true', decide_eq_true_eq] at h
    obtain ⟨⟨⟨⟨h1, h2⟩, h3⟩, h4⟩, h⟩ := h
    unfold vcLookup
    rw [he]
    simp only [mg_map, mg_str]
    refine ⟨h1, h2, h3, ?_⟩
    split at h
    · rename_i g' es hg
      simp only [req_iff, Nat.beq_eq] at h
      obtain ⟨rfl, h⟩ := h
      simp only [sget_mgS, hg, Option.map_some, mgO, true_and]
      split at h
      · rename_i u hu
        simp only [Option.bind_eq_some_iff, nh_iff, Option.some.injEq] at h
        obtain ⟨w, ⟨h5, rfl⟩, rfl⟩ := h
        rw [hu]; exact hT
      · rename_i hu
        simp only [Option.bind_eq_some_iff, nh_iff, Option.some.injEq] at h
        obtain ⟨w, ⟨h5, rfl⟩, rfl⟩ := h
        rw [hu]; exact hT
    · cases h
  · cases h
def xMapUpdate (L : Lay) (t : Nat) (m k v : AVal) (sto : Sto) : Option Sto :=
  match (L t).ty, m, k with
  | .map kt et, .map id g, .str key =>
    req (decide ((L kt).ty = .string) && Nat.beq (L et).sz 1 && !(L et).ag && v.isFz)
      (match sget sto id with
      | some (g', .mp es) => req (Nat.beq g' g && Nat.ble (es.length + 1) bigLen) (some (sput sto id (g, .mp (mput es key v))))
      | _ => none)
  | _, _, _ => none
theorem xMapUpdate_ok {t : Nat} {m k u : AVal} {V : Sto → Prop} (h : xMapUpdate L t m k u sto = some sto') (hT : V (mgS r sto')) : vcMapUpdate L t (mg r m) (mg r k) u (mgS r sto) V := by
  unfold xMapUpdate at h
  split at h
  · rename_i kt et id g key he
    simp only [req_iff, Bool.and_eq_true, Nat.beq_eq, Bool.not_eq_true', decide_eq_true_eq] at h
    obtain ⟨⟨⟨⟨h1, h2⟩, h3⟩, h4⟩, h⟩ := h
    unfold vcMapUpdate
    rw [he]
    simp only [mg_map, mg_str]
    refine ⟨h1, h2, h3, h4, ?_⟩
    split at h
    · rename_i g' es hg
      simp only [req_iff, Nat.beq_eq, Bool.and_eq_true, Nat.ble_eq, Option.some.injEq] at h
      obtain ⟨⟨rfl, h5⟩, rfl⟩ := h
      simp only [sget_mgS, hg, Option.map_some, mgO, true_and]
      refine ⟨h5, ?_⟩
      rw [sput_mgS] at hT; exact hT
    · cases h
  · cases h

def isNew : Op → Bool
  | .alloc _ | .box _ _ | .buildSlice _ _ _ | .makeMap _ _ | .makeSlice _ _ _ => true
  | .call ⟨.builtin .append, _, _⟩ => true
  | _ => false
/-- What a closure may hold. -/
def okCap : AVal → Bool
  | .agg _ | .tup _ | .fn _ (_ :: _) => false
  | _ => true
theorem okCap_mg {v : AVal} (h : okCap v = true) : mg r v = mg0 r v := by
  cases v with
  | fn f cap => cases cap <;> first | rfl | simp [okCap] at h
  | _ => first | rfl | simp [okCap] at h
/-- An operation, reckoned: what it tells, and the store behind it. d: the new thing's name; n: its handle's number. -/
def xOp (L : Lay) (tm : Tm) (sto : Sto) (d n : Nat) : Op → Option (AVal × Sto)
  | .move x | .assign x => some (evF tm x, sto)
  | .pick c a b =>
    match evF tm c with
    | .bool true => some (evF tm a, sto)
    | .bool false => some (evF tm b, sto)
    | _ => none
  | .alloc t => req (Nat.blt 0 (L t).sz && bdS n sto && (L t).zero.all (bd1 0)) (some (.bx d n 0, sput sto d (n, .box (L t).zero)))
  | .box t x => req ((evF tm x).isWhole && Nat.beq (cellsOf (evF tm x)).length (L t).sz && Nat.blt 0 (L t).sz && bdS n sto && (cellsOf (evF tm x)).all (bd1 n)) (some (.bx d n 0, sput sto d (n, .box (cellsOf (evF tm x)))))
  | .build t parts => (xBuild L t (parts.toList.map fun p => (p.1, evF tm p.2))).map fun v => (v, sto)
  | .buildSlice t m parts => xBuildSlice L d n t m (parts.toList.map fun p => (p.1, evF tm p.2)) sto
  | .load t a => (xLoad L t (evF tm a) sto).map fun v => (v, sto)
  | .store t a x => (xStore L t (evF tm a) (evF tm x) sto).map fun s => (.undef, s)
  | .nilCheck x =>
    match evF tm x with
    | .bx id g off => some (.bx id g off, sto)
    | .loc id g i off => some (.loc id g i off, sto)
    | .ref q cs => some (.ref q cs, sto)
    | .fn f cap => some (.fn f cap, sto)
    | _ => none
  | .binOp op xt x y _ =>
    match isNilSlice y with
    | true =>
      match op with
      | .eql => (xNil L xt (evF tm x)).map fun b => (.bool b, sto)
      | .neq => (xNil L xt (evF tm x)).map fun b => (.bool !b, sto)
      | _ => none
    | false => req (bd 0 (evF tm x) && bd 0 (evF tm y)) ((xBin L op xt (evF tm x) (evF tm y)).bind fun v => (nh v).map fun v => (v, sto))
  | .unOp op _ x => req (bd 0 (evF tm x)) ((xUn op (evF tm x)).bind fun v => (nh v).map fun v => (v, sto))
  | .convert s t x => req (bd 0 (evF tm x)) ((xConvert L s t (evF tm x)).bind fun v => (nh v).map fun v => (v, sto))
  | .makeFunc (.func f) first cap => req (first.toList.isEmpty && (cap.toList.map (evF tm)).all okCap) (some (.fn f (cap.toList.map (evF tm)), sto))
  | .makeMap t none => match (L t).ty with | .map _ _ => req (bdS n sto) (some (.map d n, sput sto d (n, .mp []))) | _ => none
  | .makeSlice t l c => xMake L d n t (evF tm l) (evF tm c) sto
  | .slice t x lo hi mx => req (!mx.isSome || hi.isSome) ((xSlice L t (evF tm x) (lo.map (evF tm)) (hi.map (evF tm)) (mx.map (evF tm)) sto).map fun v => (v, sto))
  | .fieldAddr t x f => (xField (L t) (evF tm x) f).map fun v => (v, sto)
  | .field t x f => (xFieldOf L t (evF tm x) f).map fun v => (v, sto)
  | .indexAddr t x i => (xIndexAddr L t (evF tm x) (evF tm i) sto).map fun v => (v, sto)
  | .index t x i => (xIndex L t (evF tm x) (evF tm i)).map fun v => (v, sto)
  | .lookup t m k ok => (xLookup L t (evF tm m) (evF tm k) ok sto).bind fun v => (nh v).map fun v => (v, sto)
  | .mapUpdate t m k x => req (bd 0 (evF tm x)) ((xMapUpdate L t (evF tm m) (evF tm k) (nrmV (evF tm x)) sto).map fun s => (.undef, s))
  | .extract x i => (xExtract (evF tm x) i).map fun v => (v, sto)
  | .call ⟨.builtin b, args, ts⟩ =>
    match b, ts.toList, args.toList with
    | .len, [t], [x] => (xLen L t (evF tm x) sto).bind fun v => (nh v).map fun v => (v, sto)
    | .append, [t, t2], [s, x] => xAppend L d n t t2 (evF tm s) (evF tm x) sto
    | .max, _, [x, y] => match evF tm x, evF tm y with | .int k a, .int k' b => req (decide (k = k')) (some (.int k (max a b), sto)) | _, _ => none
    | .min, _, [x, y] => match evF tm x, evF tm y with | .int k a, .int k' b => req (decide (k = k')) (some (.int k (min a b), sto)) | _, _ => none
    | _, _, _ => none
  | _ => none
/-- The same, by the operation first: for the kernel's reckoning. -/
def nhF (v : AVal) (sto : Sto) : Option (AVal × Sto) :=
  match v with
  | .int k n => some (.int k n, sto)
  | .bool b => some (.bool b, sto)
  | .str s => some (.str s, sto)
  | v => (nh v).map fun v => (v, sto)
theorem nhF_eq {v : AVal} {sto : Sto} : nhF v sto = (nh v).map fun v => (v, sto) := by
  cases v <;> first | rfl | (simp [nhF, nh, bd, bd2, bd1, bd0, req])
def xBinF (L : Lay) (op : BinOp) (xt : Nat) (x y : AVal) (sto : Sto) : Option (AVal × Sto) :=
  match x with
  | .int k a =>
    match y with
    | .int k' b => (xBin L op xt (.int k a) (.int k' b)).bind fun v => nhF v sto
    | _ => none
  | x => req (bd 0 x && bd 0 y) ((xBin L op xt x y).bind fun v => nhF v sto)
theorem xBin_int {L : Lay} {op : BinOp} {xt : Nat} {k : IntKind} {a : Int} {y : AVal} (hy : ∀ k' b, y ≠ .int k' b) : xBin L op xt (.int k a) y = none := by
  cases y with
  | int k' b => exact absurd rfl (hy k' b)
  | _ => cases op <;> rfl
theorem xBinF_eq {L : Lay} {op : BinOp} {xt : Nat} {x y : AVal} {sto : Sto} : xBinF L op xt x y sto = req (bd 0 x && bd 0 y) ((xBin L op xt x y).bind fun v => (nh v).map fun v => (v, sto)) := by
  unfold xBinF
  simp only [nhF_eq]
  split
  · split
    · rfl
    · rename_i h
      rw [xBin_int (fun k' b e => h k' b e)]
      cases (bd 0 _ && bd 0 _) <;> rfl
  · rfl
def xSel : Op → Lay → Tm → Sto → Nat → Nat → Option (AVal × Sto)
  | .move x => fun _ tm sto _ _ => some (evF tm x, sto)
  | .assign x => fun _ tm sto _ _ => some (evF tm x, sto)
  | .pick c a b => fun L tm sto d n => 
      match evF tm c with
      | .bool true => some (evF tm a, sto)
      | .bool false => some (evF tm b, sto)
      | _ => none
  | .alloc t => fun L tm sto d n => req (Nat.blt 0 (L t).sz && bdS n sto && (L t).zero.all (bd1 0)) (some (.bx d n 0, sput sto d (n, .box (L t).zero)))
  | .box t x => fun L tm sto d n => req ((evF tm x).isWhole && Nat.beq (cellsOf (evF tm x)).length (L t).sz && Nat.blt 0 (L t).sz && bdS n sto && (cellsOf (evF tm x)).all (bd1 n)) (some (.bx d n 0, sput sto d (n, .box (cellsOf (evF tm x)))))
  | .build t parts => fun L tm sto d n => (xBuild L t (parts.toList.map fun p => (p.1, evF tm p.2))).map fun v => (v, sto)
  | .buildSlice t m parts => fun L tm sto d n => xBuildSlice L d n t m (parts.toList.map fun p => (p.1, evF tm p.2)) sto
  | .load t a => fun L tm sto d n => (xLoad L t (evF tm a) sto).map fun v => (v, sto)
  | .store t a x => fun L tm sto d n => (xStore L t (evF tm a) (evF tm x) sto).map fun s => (.undef, s)
  | .nilCheck x => fun L tm sto d n => 
      match evF tm x with
      | .bx id g off => some (.bx id g off, sto)
      | .loc id g i off => some (.loc id g i off, sto)
      | .ref q cs => some (.ref q cs, sto)
      | .fn f cap => some (.fn f cap, sto)
      | _ => none
  | .binOp op xt x y _ => fun L tm sto d n => 
      match isNilSlice y with
      | true =>
        match op with
        | .eql => (xNil L xt (evF tm x)).map fun b => (.bool b, sto)
        | .neq => (xNil L xt (evF tm x)).map fun b => (.bool !b, sto)
        | _ => none
      | false => xBinF L op xt (evF tm x) (evF tm y) sto
  | .unOp op _ x => fun L tm sto d n => req (bd 0 (evF tm x)) ((xUn op (evF tm x)).bind fun v => nhF v sto)
  | .convert s t x => fun L tm sto d n => req (bd 0 (evF tm x)) ((xConvert L s t (evF tm x)).bind fun v => nhF v sto)
  | .makeFunc (.func f) first cap => fun L tm sto d n => req (first.toList.isEmpty && (cap.toList.map (evF tm)).all okCap) (some (.fn f (cap.toList.map (evF tm)), sto))
  | .makeMap t none => fun L tm sto d n => match (L t).ty with | .map _ _ => req (bdS n sto) (some (.map d n, sput sto d (n, .mp []))) | _ => none
  | .makeSlice t l c => fun L tm sto d n => xMake L d n t (evF tm l) (evF tm c) sto
  | .slice t x lo hi mx => fun L tm sto d n => req (!mx.isSome || hi.isSome) ((xSlice L t (evF tm x) (lo.map (evF tm)) (hi.map (evF tm)) (mx.map (evF tm)) sto).map fun v => (v, sto))
  | .fieldAddr t x f => fun L tm sto d n => (xField (L t) (evF tm x) f).map fun v => (v, sto)
  | .field t x f => fun L tm sto d n => (xFieldOf L t (evF tm x) f).map fun v => (v, sto)
  | .indexAddr t x i => fun L tm sto d n => (xIndexAddr L t (evF tm x) (evF tm i) sto).map fun v => (v, sto)
  | .index t x i => fun L tm sto d n => (xIndex L t (evF tm x) (evF tm i)).map fun v => (v, sto)
  | .lookup t m k ok => fun L tm sto d n => (xLookup L t (evF tm m) (evF tm k) ok sto).bind fun v => nhF v sto
  | .mapUpdate t m k x => fun L tm sto d n => req (bd 0 (evF tm x)) ((xMapUpdate L t (evF tm m) (evF tm k) (nrmV (evF tm x)) sto).map fun s => (.undef, s))
  | .extract x i => fun L tm sto d n => (xExtract (evF tm x) i).map fun v => (v, sto)
  | .call ⟨.builtin b, args, ts⟩ => fun L tm sto d n => 
      match b, ts.toList, args.toList with
      | .len, [t], [x] => (xLen L t (evF tm x) sto).bind fun v => nhF v sto
      | .append, [t, t2], [s, x] => xAppend L d n t t2 (evF tm s) (evF tm x) sto
      | .max, _, [x, y] => match evF tm x, evF tm y with | .int k a, .int k' b => req (decide (k = k')) (some (.int k (max a b), sto)) | _, _ => none
      | .min, _, [x, y] => match evF tm x, evF tm y with | .int k a, .int k' b => req (decide (k = k')) (some (.int k (min a b), sto)) | _, _ => none
      | _, _, _ => none
  | _ => fun L tm sto d n => none
theorem xSel_eq {L : Lay} {tm : Tm} {sto : Sto} {d n : Nat} (op : Op) : xSel op L tm sto d n = xOp L tm sto d n op := by
  cases op with
  | makeFunc fn first cap => cases fn <;> rfl
  | makeMap t r => cases r <;> rfl
  | call c =>
    obtain ⟨callee, args, ts⟩ := c
    cases callee with
    | builtin b => simp only [xSel, xOp, nhF_eq]
    | _ => rfl
  | binOp op xt x y yt => simp only [xSel, xOp, xBinF_eq]
  | unOp op xt x => simp only [xSel, xOp, nhF_eq]
  | convert s t x => simp only [xSel, xOp, nhF_eq]
  | lookup t m k ok => simp only [xSel, xOp, nhF_eq]
  | _ => rfl
theorem up_same {n : Nat} : up r n (r n) = r := by funext g; simp only [up]; split <;> simp_all
theorem nilSl_mg {y : Operand} : True := trivial
theorem mp_some {α β : Type} {x : Option α} {f : α → β} {y : β} (h : x.map f = some y) : ∃ a, x = some a ∧ f a = y := Option.map_eq_some_iff.1 h
theorem zero_mg {l : List AVal} (h : l.all (bd1 0) = true) : l.map (mg1 r) = l := mg1s_id h
theorem box_up {i h : Nat} {cs : List AVal} (hb : bdS n sto = true) (hc : cs.all (bd1 n) = true) : mgS (up r n h) (sput sto i (n, .box cs)) = sput (mgS r sto) i (h, .box (cs.map (mg1 r))) := by
  rw [sput_mgS, up_self, ← mgS_ag up_agree hb]; simp only [mgO]; rw [← mg1s_ag up_agree hc]
theorem bd1ule {v : AVal} (h : bd1 0 v = true) : bd1 n v = true := by
  have b0 : ∀ v, bd0 0 v = true → bd0 n v = true := fun v h => by cases v <;> simp_all [bd0, Nat.blt]
  cases v with
  | fn f cap => simp only [bd1, List.all_eq_true] at h ⊢; exact fun x hx => b0 x (h x hx)
  | _ => simp only [bd1] at h ⊢; exact b0 _ h
theorem xOp_ok {op : Op} {d : Nat} (h : xOp L tm sto d n op = some (v, sto')) (hT : ∀ h, (isNew op = false → h = r n) → U (mg (up r n h) v) (mgS (up r n h) sto')) : vcOp L (mgT r tm) (mgS r sto) d U op := by
  have hT' := hT (r n) fun _ => rfl
  rw [up_same] at hT'
  have ps : ∀ parts : Array (Nat × Operand), (parts.toList.map fun p => (p.1, ev (mgT r tm) p.2)) = ((parts.toList.map fun p => (p.1, ev tm p.2)).map fun p => (p.1, mg r p.2)) := fun parts => by
    rw [List.map_map]; exact List.map_congr_left fun p _ => by simp only [Function.comp, ev_mgT]
  have om : ∀ x : Option Operand, x.map (ev (mgT r tm)) = (x.map (ev tm)).map (mg r) := fun x => by cases x <;> simp [ev_mgT]
  unfold xOp at h
  simp only [evF_eq, evF_fun] at h
  split at h
  case h_1 => cases h; simp only [vcOp, ev_mgT]; exact hT'
  case h_2 => cases h; simp only [vcOp, ev_mgT]; exact hT'
  case h_3 =>
    simp only [vcOp, ev_mgT]
    split at h
    · rename_i hc; cases h; rw [hc]; exact ⟨fun _ => hT', fun h => by cases h⟩
    · rename_i hc; cases h; rw [hc]; exact ⟨fun h => by (cases h), fun _ => hT'⟩
    · cases h
  case h_4 =>
    simp only [req_iff, Bool.and_eq_true, Nat.blt_eq, Option.some.injEq, Prod.mk.injEq] at h
    obtain ⟨⟨⟨h1, h2⟩, h3⟩, rfl, rfl⟩ := h
    simp only [vcOp]
    refine ⟨h1, fun h => ?_⟩
    have := hT h (fun e => by cases e)
    rw [box_up h2 (List.all_eq_true.2 fun x hx => bd1ule (List.all_eq_true.1 h3 x hx)), zero_mg h3] at this
    simpa only [mg_bx, up_self] using this
  case h_5 =>
    simp only [req_iff, Bool.and_eq_true, Nat.blt_eq, Nat.beq_eq, Option.some.injEq, Prod.mk.injEq] at h
    obtain ⟨⟨⟨⟨⟨h1, h2⟩, h3⟩, h4⟩, h5⟩, rfl, rfl⟩ := h
    simp only [vcOp, ev_mgT, mg_isWhole, mg_cellsOf h1, List.length_map]
    refine ⟨h1, h2, h3, fun h => ?_⟩
    have := hT h (fun e => by cases e)
    rw [box_up h4 h5] at this
    simpa only [mg_bx, up_self] using this
  case h_6 =>
    obtain ⟨w, hw, he⟩ := mp_some h; cases he
    simp only [xBuild, req_iff, Bool.and_eq_true] at hw
    obtain ⟨⟨h1, h2⟩, hw⟩ := hw
    obtain ⟨cs, hcs, rfl⟩ := mp_some hw
    simp only [vcOp, ps]
    refine ⟨h1, cs.map (mg1 r), ?_, hT'⟩
    have := fillC_mg (r := r) _ _ _ hcs
    rwa [zero_mg h2] at this
  case h_7 => simp only [vcOp, ps]; exact xBuildSlice_ok h fun h => hT h fun e => by cases e
  case h_8 => obtain ⟨w, hw, he⟩ := mp_some h; cases he; simp only [vcOp, ev_mgT]; exact xLoad_ok hw hT'
  case h_9 => obtain ⟨w, hw, he⟩ := mp_some h; cases he; simp only [vcOp, ev_mgT]; exact xStore_ok hw hT'
  case h_10 =>
    simp only [vcOp, ev_mgT]
    split at h <;> first | (rename_i hc; cases h; rw [hc]; exact hT') | cases h
  case h_11 =>
    simp only [vcOp, ev_mgT]
    split at h
    · rename_i hn
      rw [if_pos hn]
      split at h
      · obtain ⟨w, hw, he⟩ := mp_some h; cases he; exact xNil_ok (T := fun b => U (.bool b) (mgS r sto)) hw hT'
      · obtain ⟨w, hw, he⟩ := mp_some h; cases he; exact xNil_ok (T := fun b => U (.bool !b) (mgS r sto)) hw hT'
      · cases h
    · rename_i hn
      rw [if_neg (by simp [hn])]
      simp only [req_iff, Bool.and_eq_true, Option.bind_eq_some_iff] at h
      obtain ⟨⟨h1, h2⟩, w, h3, h4⟩ := h
      obtain ⟨w', hw, he⟩ := mp_some h4; cases he
      simp only [nh_iff] at hw
      obtain ⟨h5, rfl⟩ := hw
      rw [mg_id h1, mg_id h2]
      rw [mg_id h5] at hT'
      exact xBin_ok h3 hT'
  case h_12 =>
    simp only [vcOp, ev_mgT]
    simp only [req_iff, Bool.and_eq_true, Option.bind_eq_some_iff] at h
    obtain ⟨h1, w, h3, h4⟩ := h
    obtain ⟨w', hw, he⟩ := mp_some h4; cases he
    simp only [nh_iff] at hw
    obtain ⟨h5, rfl⟩ := hw
    rw [mg_id h1]
    rw [mg_id h5] at hT'
    exact xUn_ok h3 hT'
  case h_13 =>
    simp only [vcOp, ev_mgT]
    simp only [req_iff, Bool.and_eq_true, Option.bind_eq_some_iff] at h
    obtain ⟨h1, w, h3, h4⟩ := h
    obtain ⟨w', hw, he⟩ := mp_some h4; cases he
    simp only [nh_iff] at hw
    obtain ⟨h5, rfl⟩ := hw
    rw [mg_id h1]
    rw [mg_id h5] at hT'
    exact xConvert_ok h3 hT'
  case h_14 =>
    simp only [req_iff, Bool.and_eq_true, List.isEmpty_iff, Option.some.injEq, Prod.mk.injEq] at h
    obtain ⟨⟨h1, h2⟩, rfl, rfl⟩ := h
    simp only [vcOp]
    refine ⟨by simpa using h1, ?_⟩
    rw [show (List.map (ev (mgT r tm)) _ : List AVal) = (List.map (ev tm) _).map (mg0 r) from ?_]
    · exact hT'
    · rw [List.map_map]
      refine List.map_congr_left fun x hx => ?_
      simp only [Function.comp, ev_mgT]
      exact okCap_mg (List.all_eq_true.1 h2 _ (List.mem_map.2 ⟨x, hx, rfl⟩))
  case h_15 =>
    split at h
    · rename_i k e he
      simp only [req_iff, Option.some.injEq, Prod.mk.injEq] at h
      obtain ⟨h1, rfl, rfl⟩ := h
      simp only [vcOp]
      refine ⟨⟨_, _, he⟩, fun h => ?_⟩
      have := hT h (fun e => by cases e)
      rw [sput_up h1 fun r => rfl] at this
      simpa only [mg_map, up_self] using this
    · cases h
  case h_16 => simp only [vcOp, ev_mgT]; exact xMake_ok h fun h => hT h fun e => by cases e
  case h_17 =>
    simp only [req_iff, Bool.or_eq_true, Bool.not_eq_true'] at h
    obtain ⟨h1, h⟩ := h
    obtain ⟨w, hw, he⟩ := mp_some h; cases he
    simp only [vcOp, ev_mgT, om]
    exact ⟨fun h2 => by rcases h1 with h1 | h1 <;> simp_all, xSlice_ok hw hT'⟩
  case h_18 => obtain ⟨w, hw, he⟩ := mp_some h; cases he; simp only [vcOp, ev_mgT]; exact xField_ok hw hT'
  case h_19 => obtain ⟨w, hw, he⟩ := mp_some h; cases he; simp only [vcOp, ev_mgT]; exact xFieldOf_ok hw hT'
  case h_20 => obtain ⟨w, hw, he⟩ := mp_some h; cases he; simp only [vcOp, ev_mgT]; exact xIndexAddr_ok hw hT'
  case h_21 => obtain ⟨w, hw, he⟩ := mp_some h; cases he; simp only [vcOp, ev_mgT]; exact xIndex_ok hw hT'
  case h_22 =>
    simp only [vcOp, ev_mgT]
    simp only [Option.bind_eq_some_iff] at h
    obtain ⟨w, h3, h4⟩ := h
    obtain ⟨w', hw, he⟩ := mp_some h4; cases he
    simp only [nh_iff] at hw
    obtain ⟨h5, rfl⟩ := hw
    rw [mg_id h5] at hT'
    exact xLookup_ok h3 hT'
  case h_23 =>
    simp only [req_iff] at h
    obtain ⟨h1, h⟩ := h
    obtain ⟨w, hw, he⟩ := mp_some h; cases he
    simp only [vcOp, ev_mgT, mg_id h1]
    exact xMapUpdate_ok hw hT'
  case h_24 => obtain ⟨w, hw, he⟩ := mp_some h; cases he; simp only [vcOp, ev_mgT]; exact xExtract_ok hw hT'
  case h_25 =>
    split at h
    · rename_i h1 h2
      simp only [Option.bind_eq_some_iff] at h
      obtain ⟨w, h3, h4⟩ := h
      obtain ⟨w', hw, he⟩ := mp_some h4; cases he
      simp only [nh_iff] at hw
      obtain ⟨h5, rfl⟩ := hw
      rw [mg_id h5] at hT'
      simp only [vcOp, h1, h2, List.map_cons, List.map_nil, vcBuiltin, ev_mgT]
      exact xLen_ok h3 hT'
    · rename_i h1 h2
      simp only [vcOp, h1, h2, List.map_cons, List.map_nil, vcBuiltin, ev_mgT]
      exact xAppend_ok h fun h => hT h fun e => by cases e
    · rename_i h2
      split at h
      · rename_i h3 h4
        simp only [req_iff, decide_eq_true_eq, Option.some.injEq, Prod.mk.injEq] at h
        obtain ⟨rfl, rfl, rfl⟩ := h
        simp only [vcOp, h2, List.map_cons, List.map_nil, ev_mgT, h3, h4, mg_int, vcBuiltin]
        exact ⟨trivial, hT'⟩
      · cases h
    · rename_i h2
      split at h
      · rename_i h3 h4
        simp only [req_iff, decide_eq_true_eq, Option.some.injEq, Prod.mk.injEq] at h
        obtain ⟨rfl, rfl, rfl⟩ := h
        simp only [vcOp, h2, List.map_cons, List.map_nil, ev_mgT, h3, h4, mg_int, vcBuiltin]
        exact ⟨trivial, hT'⟩
      · cases h
    · cases h
  case h_26 => cases h

end

/-! A region of text order: operations one by one, rows given away where they must be. -/
/-- As 'vcStep', the new thing under any name. -/
def vcStepD (L : Lay) (P : Program) (d : Nat) (o : Oper) (tm : Tm) (sto : Sto) (T : AVal → Sto → Prop) : Prop :=
  match o.op with
  | .call ⟨.value c, args, _⟩ =>
    match ev tm c with
    | .fn f cap => ACall P f (args.toList.map (ev tm) ++ cap) sto T
    | _ => False
  | op => vcOp L tm sto d T op

section
variable {P : Program} {L : Lay}
theorem stepD_sound (hL : LOk P L) {E G : Gh} {nt d : Nat} {ds : List Deferred} {o : Oper} {tm : Tm} {sto : Sto} {a : Act} {w : World} {T : AVal → Sto → Prop} {K : Act → World → Prop} {Q : Exit → Act → World → Prop} (hsim : Sim E nt ds tm sto a w G)
    (hok : okOps L nt [o] = true) (h : vcStepD L P d o tm sto T) (hK : ∀ G' w' r v sto', T r sto' → Sim E nt ds (put o.dst r tm) sto' (a.put o.dst v) w' G' → K (a.put o.dst v) w') : o.wp P a w K Q := by
  by_cases hcall : ∃ c args ts, o.op = .call ⟨.value c, args, ts⟩
  · obtain ⟨c, args, ts, hop⟩ := hcall
    refine step_sound (q := false) (z := []) hL hsim hok (T := T) ?_ hK
    unfold vcStep; unfold vcStepD at h
    rw [hop] at h ⊢
    simp only at h ⊢
    split at h
    · rename_i f cap hc
      rw [hc]
      simp only [Bool.false_eq_true, if_false]
      exact h.mono fun r s hr => by simpa [frq] using hr
    · exact h.elim
  · have hok' := hok
    simp only [okOps, List.all_cons, List.all_nil, Bool.and_true, Bool.and_eq_true] at hok
    obtain ⟨⟨hop, hdst⟩, _⟩ := hok
    have h' : vcOp L tm sto d T o.op := by
      unfold vcStepD at h
      split at h
      · rename_i c args ts hc; exact absurd ⟨c, args, ts, hc⟩ hcall
      · exact h
    obtain ⟨G', w', v, r, sto', h1, hx, hw', hs', hr, hT⟩ := vcOp_sound hL hsim.wok hsim.sok hsim.tok hop h'
    have hk := hK G' w' r v sto' hT (hsim.put hx hw' hs' hdst hr)
    unfold Oper.wp
    rcases h1 with h1 | ⟨h1, rfl⟩
    · rw [h1]; exact hk
    · rw [h1]; exact hk

/-- Some rows are given away. -/
inductive FZ (Q : Tm → Sto → Prop) : Tm → Sto → Prop
  | done {tm sto} : Q tm sto → FZ Q tm sto
  | step {tm sto id g esz l tm'} : sget sto id = some (g, .row esz l) → (∀ t, lk tm' t = lk (rfT id g l tm) t ∨ lk tm' t = .undef) → FZ Q tm' (rfS id g l (sdel sto id)) → FZ Q tm sto
  | cut {tm sto id g esz l} (n : Nat) : sget sto id = some (g, .row esz l) → FZ Q tm (sput sto id (g, .row esz (l.take n))) → FZ Q tm sto
theorem sto_shrink {G : Gh} {w : World} {sto : Sto} (n : Nat) {id g esz : Nat} {l : List (List AVal)} (hs : StoOk G w sto) (hg : sget sto id = some (g, .row esz l)) : StoOk G w (sput sto id (g, .row esz (l.take n))) := by
  have tk : ∀ {i : Nat} {x : List AVal}, (l.take n)[i]? = some x → l[i]? = some x := fun {i x} h => by
    rw [List.getElem?_take] at h
    split at h
    · exact h
    · cases h
  refine ⟨fun i g' o hi => ?_, fun i i' g1 g2 o o' hi hi' hne b hb => ?_⟩
  · rw [sget_sput] at hi
    split at hi
    · rename_i e; subst e
      simp only [Option.some.injEq, Prod.mk.injEq] at hi
      obtain ⟨rfl, rfl⟩ := hi
      obtain ⟨ob, cap, h1, h2, h3, h4, h5, h6, h7, h8⟩ := hs.obj _ _ _ hg
      refine ⟨ob, cap, h1, ?_, ?_, h4, fun i x h => h5 i x (tk h), fun i j x y h hy => h6 i j x y (tk h) hy, h7, fun b hb => ?_⟩
      · rw [List.length_take]; omega
      · rw [List.length_take]; omega
      · obtain ⟨x1, x2, c, e, x3, x4, x5⟩ := h8 b hb
        exact ⟨x1, x2, c, e, x3, x4, fun i j x y h hy => x5 i j x y (tk h) hy⟩
    · exact hs.obj _ _ _ hi
  · have old : ∀ {i g' o}, sget (sput sto id (g, .row esz (l.take n))) i = some (g', o) → ∃ o2, sget sto i = some (g', o2) := fun {i g' o} h => by
      rw [sget_sput] at h
      split at h
      · rename_i e; subst e
        simp only [Option.some.injEq, Prod.mk.injEq] at h
        obtain ⟨rfl, _⟩ := h
        exact ⟨_, hg⟩
      · exact ⟨_, h⟩
    obtain ⟨p, hp⟩ := old hi
    obtain ⟨p', hp'⟩ := old hi'
    exact hs.apart _ _ _ _ _ _ hp hp' hne b hb
theorem fz_sim {E : Gh} {nt : Nat} {ds : List Deferred} {a : Act} {w : World} {Q : Tm → Sto → Prop} {tm : Tm} {sto : Sto} (h : FZ Q tm sto) : ∀ {G : Gh}, Sim E nt ds tm sto a w G → ∃ G' tm' sto', Sim E nt ds tm' sto' a w G' ∧ Q tm' sto' := by
  induction h with
  | done h => exact fun {G} hs => ⟨G, _, _, hs, h⟩
  | step h1 h2 _ ih =>
    intro G hs
    obtain ⟨G', hext, hw', hs', hr⟩ := all_freeze hs.wok hs.sok h1
    refine ih (G := G') ⟨hs.ext.trans hext, hw', hs', fun t => ?_, hs.n, hs.d⟩
    rcases h2 t with e | e <;> rw [e]
    · rw [lk_rfT]; exact hr _ _ (hs.tok t)
    · exact .undef
  | cut n h1 _ ih => exact fun {G} hs => ih (G := G) ⟨hs.ext, hs.wok, sto_shrink n hs.sok h1, hs.tok, hs.n, hs.d⟩

def wx (L : Lay) (P : Program) (dd : List (Option Nat)) : List Oper → Tm → Sto → (Tm → Sto → Prop) → Prop
  | [], tm, sto, K => K tm sto
  | o :: os, tm, sto, K =>
    match o.guard with
    | none => FZ (fun tm sto => ∃ d, vcStepD L P d o tm sto fun v s => wx L P dd os (put o.dst v tm) s K) tm sto
    | some (j, want) =>
      match dd[j]? with
      | some (some t) =>
        match lk tm t with
        | .bool b => (b = want → FZ (fun tm sto => ∃ d, vcStepD L P d o tm sto fun v s => wx L P dd os (put o.dst v tm) s K) tm sto) ∧ (b = !want → wx L P dd os (put o.dst (.tup []) tm) sto K)
        | .tup [] => wx L P dd os (put o.dst (.tup []) tm) sto K
        | _ => False
      | _ => False

theorem wx_sound (hL : LOk P L) {E : Gh} {nt : Nat} {ds : List Deferred} (ops : List Oper) {K : Tm → Sto → Prop} {Q : Exit → Act → World → Prop} (hQ : ∀ G tm sto a w, K tm sto → Sim E nt ds tm sto a w G → Q .normal a w) :
    ∀ (os : List Oper) (tm : Tm) (sto : Sto) (a : Act) (w : World) (G : Gh), okOps L nt os = true → Sim E nt ds tm sto a w G → wx L P (ops.map (·.dst)) os tm sto K → wpList P ops.toArray Q os a w
  | [], tm, sto, a, w, G, _, hsim, h => hQ G tm sto a w h hsim
  | o :: os, tm, sto, a, w, G, hok, hsim, h => by
    have hok1 : okOps L nt [o] = true := by simp only [okOps, List.all_cons, Bool.and_eq_true] at hok ⊢; exact ⟨hok.1, rfl⟩
    have hok2 : okOps L nt os = true := by simp only [okOps, List.all_cons, Bool.and_eq_true] at hok ⊢; exact hok.2
    have hdst : (match o.dst with | some d => decide (d < nt) | none => true) = true := by
      simp only [okOps, List.all_cons, List.all_nil, Bool.and_true, Bool.and_eq_true] at hok1
      exact hok1.1.2
    unfold wx at h
    unfold wpList
    split at h
    · rename_i hg
      rw [if_pos (by simp [Region.wanted, hg])]
      obtain ⟨G', tm', sto', hs', d, hd⟩ := fz_sim h hsim
      exact .inl (stepD_sound hL hs' hok1 hd fun G' w' r v sto' hT hs => wx_sound hL ops hQ os _ _ _ _ _ hok2 hs hT)
    · rename_i j want hg
      split at h
      · rename_i t hj
        split at h
        · rename_i b hb
          have hy := yielded_bool hsim.tok hj hb
          by_cases hbw : b = want
          · rw [if_pos (by simp [Region.wanted, hg, hy, hbw])]
            obtain ⟨G', tm', sto', hs', d, hd⟩ := fz_sim (h.1 hbw) hsim
            exact .inl (stepD_sound hL hs' hok1 hd fun G' w' r v sto' hT hs => wx_sound hL ops hQ os _ _ _ _ _ hok2 hs hT)
          · rw [if_neg (by simp [Region.wanted, hg, hy, hbw])]
            have hbn : b = !want := by cases b <;> cases want <;> simp_all
            exact wx_sound hL ops hQ os _ _ _ _ G hok2 (hsim.put (.refl G) hsim.wok hsim.sok hdst (.tup rfl fun j x hx => by simp at hx)) (h.2 hbn)
        · rename_i hb
          have hy := yielded_none hsim.tok hj hb
          rw [if_neg (by simp [Region.wanted, hg, hy])]
          exact wx_sound hL ops hQ os _ _ _ _ G hok2 (hsim.put (.refl G) hsim.wok hsim.sok hdst (.tup rfl fun j x hx => by simp at hx)) h
        · exact h.elim
      · exact h.elim

variable {f : Nat} {fn : Func} {df : List DDel} {k : List Item} {tm : Tm} {sto : Sto} {R : AVal → Sto → Prop}
theorem AGood.regX (hL : LOk P L) {id : Nat} {ops : List Oper} (ps : List Nat) (hok : okOps L fn.ntmps ops = true)
    (h : wx L P (ops.map (·.dst)) ops tm sto fun tm' sto' => AGood P f fn df k (Rad.prune ps tm') sto' R) : AGood P f fn df (.code (.region id ops.toArray false) :: k) tm sto R := by
  refine ⟨?_⟩
  intro E G a w b h1 h2 h3 h4 h5 h6 h7 h8 h9
  refine Good.of_wp (Q := fun e a' w' => e = .normal ∧ Good P f (Post E R) b k a' w') (wp_region_lit ?_) fun e a' w' hq => hq
  refine wx_sound hL (E := G) (nt := fn.ntmps) (ds := a.defers) ops (K := fun tm' sto' => AGood P f fn df k (Rad.prune ps tm') sto' R) (fun G' tm' sto' a' w' hk hs => ?_) ops tm sto a w G hok ⟨.refl G, h7, h8, h9, h4, rfl⟩ h
  exact ⟨rfl, hk.go E G' a' w' b h1 h2 h3 hs.n (hs.d ▸ h5.mono hs.ext.toMono) (h6.trans hs.ext) hs.wok hs.sok (hs.tok.prune ps)⟩
theorem AGood.fz (h : FZ (fun tm sto => AGood P f fn df k tm sto R) tm sto) : AGood P f fn df k tm sto R := by
  refine ⟨?_⟩
  intro E G a w b h1 h2 h3 h4 h5 h6 h7 h8 h9
  obtain ⟨G', tm', sto', hs, hk⟩ := fz_sim (E := G) (nt := fn.ntmps) (ds := a.defers) h ⟨.refl G, h7, h8, h9, h4, rfl⟩
  exact hk.go E G' a w b h1 h2 h3 hs.n (hs.d ▸ h5.mono hs.ext.toMono) (h6.trans hs.ext) hs.wok hs.sok hs.tok
end

/-! A thing's name is changed. -/
def rn0 (d g n h : Nat) : AVal → AVal
  | .loc id k i off => if id = d ∧ k = g then .loc n h i off else .loc id k i off
  | .bx id k off => if id = d ∧ k = g then .bx n h off else .bx id k off
  | .osl id k off len => if id = d ∧ k = g then .osl n h off len else .osl id k off len
  | .map id k => if id = d ∧ k = g then .map n h else .map id k
  | v => v
def rn1 (d g n h : Nat) : AVal → AVal
  | .fn f cap => .fn f (cap.map (rn0 d g n h))
  | v => rn0 d g n h v
def rn2 (d g n h : Nat) : AVal → AVal
  | .agg cs => .agg (cs.map (rn1 d g n h))
  | v => rn1 d g n h v
def rn (d g n h : Nat) : AVal → AVal
  | .tup cs => .tup (cs.map (rn2 d g n h))
  | v => rn2 d g n h v
def rnO (d g n h : Nat) : AObj → AObj
  | .box cs => .box (cs.map (rn1 d g n h))
  | o => o
def rnS (d g n h : Nat) : Sto → Sto
  | [] => []
  | (i, k, o) :: s => (if i = d then (n, h, rnO d g n h o) else (i, k, rnO d g n h o)) :: rnS d g n h s
def rnT (d g n h : Nat) : Tm → Tm
  | [] => []
  | (t, v) :: s => (t, rn d g n h v) :: rnT d g n h s
def rnG (G : Gh) (d g n : Nat) : Gh := { G with M := fun i k => if i = n ∧ k = G.N then G.M d g else G.M i k, N := G.N + 1 }
theorem lk_rnT {d g n h : Nat} (t : Nat) : ∀ tm : Tm, lk (rnT d g n h tm) t = rn d g n h (lk tm t)
  | [] => rfl
  | (j, v) :: s => by
    simp only [rnT, lk]
    split
    · rfl
    · exact lk_rnT t s
theorem ite_cell {c : Prop} [Decidable c] {a b : AVal} (ha : a.isCell = true) (hb : b.isCell = true) : (if c then a else b).isCell = true := by split <;> assumption
theorem rn1ucell {d g n h : Nat} {v : AVal} : (rn1 d g n h v).isCell = v.isCell := by
  cases v with
  | loc => exact ite_cell rfl rfl
  | bx => exact ite_cell rfl rfl
  | osl => exact ite_cell rfl rfl
  | map => exact ite_cell rfl rfl
  | _ => rfl
section
variable {G : Gh} {w : World} {sto : Sto} {d g n : Nat}
theorem rnG_ext (hw : WOk G w) : Ext G (rnG G d g n) := by
  refine ⟨fun _ _ h => h, fun _ h => h, fun _ h => .inl h, fun _ => Iff.rfl, fun i k hd x => ?_, Nat.le_succ _, rfl⟩
  simp only [rnG]
  by_cases e : i = n ∧ k = G.N
  · rw [e.1, e.2, hw.N n G.N (Nat.le_refl _)] at x; cases x
  · rw [if_neg e]; exact x
theorem rnG_new : (rnG G d g n).M n G.N = G.M d g := by simp [rnG]
theorem Rep.rn0 (hw : WOk G w) {x : AVal} {v : Value} (r : Rep G true x v) : Rep (rnG G d g n) true (Rad.rn0 d g n G.N x) v := by
  have hm := (rnG_ext (d := d) (g := g) (n := n) hw).toMono
  have old := r.mono hm
  cases x with
  | loc id k i off =>
    simp only [Rad.rn0]; split
    · rename_i e; obtain ⟨rfl, rfl⟩ := e; cases r with | loc a => exact .loc (rnG_new ▸ a)
    · exact old
  | bx id k off =>
    simp only [Rad.rn0]; split
    · rename_i e; obtain ⟨rfl, rfl⟩ := e; cases r with | bx a => exact .bx (rnG_new ▸ a)
    · exact old
  | osl id k off len =>
    simp only [Rad.rn0]; split
    · rename_i e; obtain ⟨rfl, rfl⟩ := e; cases r with | osl a b c e f e2 => exact .osl (show (rnG G _ _ n).M n G.N = _ from rnG_new.trans a) b c e f e2
    · exact old
  | map id k =>
    simp only [Rad.rn0]; split
    · rename_i e; obtain ⟨rfl, rfl⟩ := e; cases r with | map a => exact .map (rnG_new ▸ a)
    · exact old
  | _ => exact old
theorem Rep.rn1 (hw : WOk G w) {x : AVal} {v : Value} (r : Rep G true x v) : Rep (rnG G d g n) true (Rad.rn1 d g n G.N x) v := by
  cases x with
  | fn f cap =>
    cases r with
    | fn a b =>
      refine .fn (by simpa using a) fun j y hy => ?_
      rw [List.getElem?_map] at hy
      obtain ⟨z, hz, rfl⟩ := Option.map_eq_some_iff.1 hy
      exact (b j z hz).rn0 hw
  | _ => exact r.rn0 hw
theorem Rep.rn2 (hw : WOk G w) {x : AVal} {v : Value} (r : Rep G true x v) : Rep (rnG G d g n) true (Rad.rn2 d g n G.N x) v := by
  cases x with
  | agg cs =>
    cases r with
    | agg a b c =>
      refine .agg (by simpa using a) (fun j y hy => ?_) fun j y hy => ?_
      · rw [List.getElem?_map] at hy
        obtain ⟨z, hz, rfl⟩ := Option.map_eq_some_iff.1 hy
        rw [rn1ucell]; exact b j z hz
      · rw [List.getElem?_map] at hy
        obtain ⟨z, hz, rfl⟩ := Option.map_eq_some_iff.1 hy
        exact (c j z hz).rn1 hw
  | _ => exact r.rn1 hw
theorem Rep.rn (hw : WOk G w) {x : AVal} {v : Value} (r : Rep G true x v) : Rep (rnG G d g n) true (Rad.rn d g n G.N x) v := by
  cases x with
  | tup cs =>
    cases r with
    | tup a c =>
      refine .tup (by simpa using a) fun j y hy => ?_
      rw [List.getElem?_map] at hy
      obtain ⟨z, hz, rfl⟩ := Option.map_eq_some_iff.1 hy
      exact (c j z hz).rn2 hw
  | _ => exact r.rn2 hw
theorem sget_rnS {h : Nat} (hne : n ≠ d) (i : Nat) : ∀ s : Sto, sget s n = none → sget (rnS d g n h s) i = if i = n then (sget s d).map fun x => (h, rnO d g n h x.2) else if i = d then none else (sget s i).map fun x => (x.1, rnO d g n h x.2)
  | [], _ => by simp [rnS, sget]
  | (j, k, o) :: s, hn => by
    simp only [sget] at hn
    split at hn
    · cases hn
    · rename_i hjn
      have ih := sget_rnS (h := h) hne i s hn
      simp only [rnS]
      by_cases hj : j = d
      · subst hj
        simp only [if_true, sget]
        by_cases hi : i = n
        · subst hi; simp
        · rw [if_neg (Ne.symm hi), if_neg hi, ih, if_neg hi]
          by_cases hid : i = j
          · simp [hid]
          · simp [hid, Ne.symm hid]
      · simp only [hj, if_false, sget]
        by_cases hi : i = n
        · subst hi
          rw [if_neg hjn, ih]; simp [hj]
        · rw [if_neg hi] at ih ⊢
          by_cases hji : j = i
          · subst hji; simp [hj]
          · rw [if_neg hji, ih]
            by_cases hid : i = d
            · simp [hid]
            · simp [hid, hji]
theorem rename_ok (hw : WOk G w) (hs : StoOk G w sto) (hne : n ≠ d) (hn : sget sto n = none) {o : AObj} (hd : sget sto d = some (g, o)) :
    WOk (rnG G d g n) w ∧ StoOk (rnG G d g n) w (rnS d g n G.N sto) := by
  have hx := rnG_ext (d := d) (g := g) (n := n) hw
  have hm := hx.toMono
  have low : ∀ i k o, sget sto i = some (k, o) → k < G.N := fun i k o h => by
    obtain ⟨hd', hM⟩ := (hs.obj i k o h).M
    rcases Nat.lt_or_ge k G.N with h1 | h1
    · exact h1
    · rw [hw.N i k h1] at hM; cases hM
  have blk : ∀ i k o, sget sto i = some (k, o) → blkOf (rnG G d g n) i k = blkOf G i k := fun i k o h => by
    simp only [blkOf, rnG]; rw [if_neg (fun e => by have := low i k o h; omega)]
  have blkN : blkOf (rnG G d g n) n G.N = blkOf G d g := by simp [blkOf, rnG]
  have obj : ∀ {i k : Nat} {o : AObj} {i' k' : Nat}, ObjOk G w i k o → (rnG G d g n).M i' k' = G.M i k → ObjOk (rnG G d g n) w i' k' (rnO d g n G.N o) := by
    intro i k o i' k' ho hM
    cases o with
    | row esz l =>
      obtain ⟨ob, cap, h1, h2⟩ := ho
      refine ⟨ob, cap, hM.trans h1, h2.1, h2.2.1, h2.2.2.1, h2.2.2.2.1, h2.2.2.2.2.1, h2.2.2.2.2.2.1, fun b hb => ?_⟩
      obtain ⟨x1, x2, c, e, x3, x4, x5⟩ := h2.2.2.2.2.2.2 b hb
      exact ⟨x1, x2, c, e, x3, x4, fun i j x y hx hy => (x5 i j x y hx hy).mono hm⟩
    | box cs =>
      obtain ⟨b, cap, esz, h1, h2, c, e, h3, h4, h5, h6⟩ := ho
      refine ⟨b, cap, esz, hM.trans h1, h2, c, e, h3, by simpa using h4, fun j x hj => ?_, fun j x hj => ?_⟩
      · rw [List.getElem?_map] at hj
        obtain ⟨z, hz, rfl⟩ := Option.map_eq_some_iff.1 hj
        rw [rn1ucell]; exact h5 j z hz
      · rw [List.getElem?_map] at hj
        obtain ⟨z, hz, rfl⟩ := Option.map_eq_some_iff.1 hj
        exact (h6 j z hz).rn1 hw
    | mp es =>
      obtain ⟨b, cap, esz, h1, h2, me, cl, h3, h4, h5, h6⟩ := ho
      refine ⟨b, cap, esz, hM.trans h1, h2, me, cl, h3, h4, h5, fun j x hj => ?_⟩
      obtain ⟨m, m1, m2, m3, m4⟩ := h6 j x hj
      exact ⟨m, m1, m2, m3, m4.mono hm⟩
    | mpi es =>
      obtain ⟨b, cap, esz, h1, h2, me, cl, h3, h4, h5, h6⟩ := ho
      refine ⟨b, cap, esz, hM.trans h1, h2, me, cl, h3, h4, h5, fun j x hj => ?_⟩
      obtain ⟨m, m1, m2, m3, m4⟩ := h6 j x hj
      exact ⟨m, m1, m2, m3, m4.mono hm⟩
  have spl : ∀ i k o', sget (rnS d g n G.N sto) i = some (k, o') → (i = n ∧ k = G.N ∧ o' = rnO d g n G.N o) ∨ (i ≠ n ∧ i ≠ d ∧ ∃ o2, sget sto i = some (k, o2) ∧ o' = rnO d g n G.N o2) := by
    intro i k o' h
    rw [sget_rnS hne i sto hn] at h
    split at h
    · rename_i e; rw [hd] at h; simp only [Option.map_some, Option.some.injEq, Prod.mk.injEq] at h; exact .inl ⟨e, h.1.symm, h.2.symm⟩
    · rename_i e
      split at h
      · cases h
      · rename_i e2
        obtain ⟨⟨k2, o2⟩, h3, h4⟩ := Option.map_eq_some_iff.1 h
        simp only [Prod.mk.injEq] at h4
        obtain ⟨rfl, rfl⟩ := h4
        exact .inr ⟨e, e2, o2, h3, rfl⟩
  refine ⟨⟨hw.K, hw.F, fun i k hh b h1 h2 => ?_, fun i k h1 => ?_, fun g' l h => (hw.T g' l h).mono hm⟩, ⟨fun i k o' h => ?_, fun i i' k k' o1 o2 h h' hii b hb hb' => ?_⟩⟩
  · simp only [rnG] at h1
    split at h1
    · exact hw.M d g hh b h1 h2
    · exact hw.M i k hh b h1 h2
  · simp only [rnG] at h1 ⊢
    rw [if_neg (fun e => by omega)]; exact hw.N i k (by omega)
  · rcases spl i k o' h with ⟨rfl, rfl, rfl⟩ | ⟨h1, h2, o2, h3, rfl⟩
    · exact obj (hs.obj d g o hd) rnG_new
    · exact obj (hs.obj i k o2 h3) (by simp only [rnG]; rw [if_neg (fun e => h1 e.1)])
  · rcases spl i k o1 h with ⟨rfl, rfl, rfl⟩ | ⟨h1, h2, p, h3, rfl⟩
    · rcases spl i' k' o2 h' with ⟨rfl, rfl, rfl⟩ | ⟨h1', h2', p', h3', rfl⟩
      · exact hii rfl
      · rw [blkN] at hb
        rw [blk i' k' p' h3'] at hb'
        exact hs.apart d i' g k' o p' hd h3' (Ne.symm h2') b hb hb'
    · rcases spl i' k' o2 h' with ⟨rfl, rfl, rfl⟩ | ⟨h1', h2', p', h3', rfl⟩
      · rw [blkN] at hb'
        rw [blk i k p h3] at hb
        exact hs.apart i d k g p o h3 hd h2 b hb hb'
      · rw [blk i k p h3] at hb
        rw [blk i' k' p' h3'] at hb'
        exact hs.apart i i' k k' p p' h3 h3' hii b hb hb'
end
theorem AGood.rename {P : Program} {f : Nat} {fn : Func} {df : List DDel} {k : List Item} {tm : Tm} {sto : Sto} {R : AVal → Sto → Prop} {d g n : Nat} {o : AObj} (hne : n ≠ d) (hn : sget sto n = none) (hd : sget sto d = some (g, o))
    (h : ∀ h, ∃ tm', (∀ t, lk tm' t = lk (rnT d g n h tm) t ∨ lk tm' t = .undef) ∧ AGood P f fn df k tm' (rnS d g n h sto) R) : AGood P f fn df k tm sto R := by
  refine ⟨?_⟩
  intro E G a w b h1 h2 h3 h4 h5 h6 h7 h8 h9
  obtain ⟨tm', ht, hk⟩ := h G.N
  obtain ⟨x1, x2⟩ := rename_ok h7 h8 hne hn hd
  have hx := rnG_ext (d := d) (g := g) (n := n) h7
  refine hk.go E (rnG G d g n) a w b h1 h2 h3 h4 (h5.mono hx.toMono) (h6.trans hx) x1 x2 fun t => ?_
  rcases ht t with e | e <;> rw [e]
  · rw [lk_rnT]; exact (h9 t).rn h7
  · exact .undef

/-! The names of what a region of any order has made are made new. -/
def okR (d g : Nat) : AVal → Bool
  | .loc id k _ _ => !(Nat.beq id d) || Nat.beq k g
  | .bx id k _ => !(Nat.beq id d) || Nat.beq k g
  | .osl id k _ _ => !(Nat.beq id d) || Nat.beq k g
  | .map id k => !(Nat.beq id d) || Nat.beq k g
  | _ => true
def okR1 (d g : Nat) : AVal → Bool
  | .fn _ cap => cap.all (okR d g)
  | v => okR d g v
def okR2 (d g : Nat) : AVal → Bool
  | .agg cs => cs.all (okR1 d g)
  | v => okR1 d g v
def okR3 (d g : Nat) : AVal → Bool
  | .tup cs => cs.all (okR2 d g)
  | v => okR2 d g v
def okRS (d g : Nat) : Sto → Bool
  | [] => true
  | (_, _, .box cs) :: s => cs.all (okR1 d g) && okRS d g s
  | _ :: s => okRS d g s
def xrnT (d g n : Nat) : Tm → Tm
  | [] => []
  | (t, v) :: s => (t, if okR3 d g v then rn d g n n v else .undef) :: xrnT d g n s
section
variable {r : Nat → Nat} {d g n : Nat}
theorem rn0umg {h : Nat} {v : AVal} (hk : okR d g v = true) (hb : bd0 n v = true) : rn0 d (r g) n h (mg0 r v) = mg0 (up r n h) (rn0 d g n n v) := by
  have e : ∀ k, k < n → up r n h k = r k := fun k hk => (up_agree k hk).symm
  have key : ∀ {id k : Nat} {a b : AVal}, (!(Nat.beq id d) || Nat.beq k g) = true → (if id = d ∧ r k = r g then a else b) = if id = d ∧ k = g then a else b := by
    intro id k a b hk
    simp only [Bool.or_eq_true, Bool.not_eq_true', Nat.beq_eq] at hk
    by_cases h1 : id = d
    · have : k = g := by
        rcases hk with hk | hk
        · subst h1; simp [Nat.beq_refl] at hk
        · exact hk
      subst this; simp [h1]
    · simp [h1]
  cases v with
  | loc id k i off =>
    simp only [bd0, Nat.blt_eq] at hb
    simp only [okR] at hk
    simp only [mg0, rn0, key hk]
    split
    · simp only [mg0, up_self]
    · simp only [mg0, e k hb]
  | bx id k off =>
    simp only [bd0, Nat.blt_eq] at hb
    simp only [okR] at hk
    simp only [mg0, rn0, key hk]
    split
    · simp only [mg0, up_self]
    · simp only [mg0, e k hb]
  | osl id k off len =>
    simp only [bd0, Nat.blt_eq] at hb
    simp only [okR] at hk
    simp only [mg0, rn0, key hk]
    split
    · simp only [mg0, up_self]
    · simp only [mg0, e k hb]
  | map id k =>
    simp only [bd0, Nat.blt_eq] at hb
    simp only [okR] at hk
    simp only [mg0, rn0, key hk]
    split
    · simp only [mg0, up_self]
    · simp only [mg0, e k hb]
  | _ => rfl
theorem map_both {l : List AVal} {f1 g1 f2 g2 : AVal → AVal} (h : ∀ x ∈ l, f1 (g1 x) = f2 (g2 x)) : (l.map g1).map f1 = (l.map g2).map f2 := by
  rw [List.map_map, List.map_map]; exact List.map_congr_left h
theorem ite_mg1 {c : Prop} [Decidable c] {a b : AVal} {f : AVal → AVal} (ha : f a = mg0 r a) (hb : f b = mg0 r b) : f (if c then a else b) = mg0 r (if c then a else b) := by split <;> assumption
theorem rn1umg {h : Nat} {v : AVal} (hk : okR1 d g v = true) (hb : bd1 n v = true) : rn1 d (r g) n h (mg1 r v) = mg1 (up r n h) (rn1 d g n n v) := by
  cases v with
  | fn f cap =>
    simp only [okR1, List.all_eq_true] at hk
    simp only [bd1, List.all_eq_true] at hb
    simp only [mg1, rn1]
    exact congrArg (AVal.fn f) (map_both fun x hx => rn0umg (h := h) (hk x hx) (hb x hx))
  | loc id k i off => exact (rn0umg (h := h) (by simpa [okR1] using hk) (by simpa [bd1] using hb)).trans (by simp only [rn1, rn0]; exact (ite_mg1 (f := mg1 (up r n h)) rfl rfl).symm)
  | bx id k off => exact (rn0umg (h := h) (by simpa [okR1] using hk) (by simpa [bd1] using hb)).trans (by simp only [rn1, rn0]; exact (ite_mg1 (f := mg1 (up r n h)) rfl rfl).symm)
  | osl id k off len => exact (rn0umg (h := h) (by simpa [okR1] using hk) (by simpa [bd1] using hb)).trans (by simp only [rn1, rn0]; exact (ite_mg1 (f := mg1 (up r n h)) rfl rfl).symm)
  | map id k => exact (rn0umg (h := h) (by simpa [okR1] using hk) (by simpa [bd1] using hb)).trans (by simp only [rn1, rn0]; exact (ite_mg1 (f := mg1 (up r n h)) rfl rfl).symm)
  | _ => rfl
theorem ite_mg2 {c : Prop} [Decidable c] {a b : AVal} {f g : AVal → AVal} (ha : f a = g a) (hb : f b = g b) : f (if c then a else b) = g (if c then a else b) := by split <;> assumption
theorem rn2umg {h : Nat} {v : AVal} (hk : okR2 d g v = true) (hb : bd2 n v = true) : rn2 d (r g) n h (mg2 r v) = mg2 (up r n h) (rn2 d g n n v) := by
  cases v with
  | agg cs =>
    simp only [okR2, List.all_eq_true] at hk
    simp only [bd2, List.all_eq_true] at hb
    simp only [mg2, rn2]
    exact congrArg AVal.agg (map_both fun x hx => rn1umg (h := h) (hk x hx) (hb x hx))
  | fn f cap => exact rn1umg (h := h) (by simpa [okR2] using hk) (by simpa [bd2] using hb)
  | loc id k i off => exact (rn1umg (h := h) (by simpa [okR2] using hk) (by simpa [bd2] using hb)).trans (by simp only [rn2, rn1, rn0]; exact (ite_mg2 (f := mg2 (up r n h)) (g := mg1 (up r n h)) rfl rfl).symm)
  | bx id k off => exact (rn1umg (h := h) (by simpa [okR2] using hk) (by simpa [bd2] using hb)).trans (by simp only [rn2, rn1, rn0]; exact (ite_mg2 (f := mg2 (up r n h)) (g := mg1 (up r n h)) rfl rfl).symm)
  | osl id k off len => exact (rn1umg (h := h) (by simpa [okR2] using hk) (by simpa [bd2] using hb)).trans (by simp only [rn2, rn1, rn0]; exact (ite_mg2 (f := mg2 (up r n h)) (g := mg1 (up r n h)) rfl rfl).symm)
  | map id k => exact (rn1umg (h := h) (by simpa [okR2] using hk) (by simpa [bd2] using hb)).trans (by simp only [rn2, rn1, rn0]; exact (ite_mg2 (f := mg2 (up r n h)) (g := mg1 (up r n h)) rfl rfl).symm)
  | _ => rfl
theorem rn_mg {h : Nat} {v : AVal} (hk : okR3 d g v = true) (hb : bd n v = true) : rn d (r g) n h (mg r v) = mg (up r n h) (rn d g n n v) := by
  cases v with
  | tup cs =>
    simp only [okR3, List.all_eq_true] at hk
    simp only [bd, List.all_eq_true] at hb
    simp only [mg, rn]
    exact congrArg AVal.tup (map_both fun x hx => rn2umg (h := h) (hk x hx) (hb x hx))
  | fn f cap => exact rn2umg (h := h) (by simpa [okR3] using hk) (by simpa [bd] using hb)
  | agg cs => exact rn2umg (h := h) (by simpa [okR3] using hk) (by simpa [bd] using hb)
  | loc id k i off => exact (rn2umg (h := h) (by simpa [okR3] using hk) (by simpa [bd] using hb)).trans (by simp only [rn, rn2, rn1, rn0]; exact (ite_mg2 (f := mg (up r n h)) (g := mg2 (up r n h)) rfl rfl).symm)
  | bx id k off => exact (rn2umg (h := h) (by simpa [okR3] using hk) (by simpa [bd] using hb)).trans (by simp only [rn, rn2, rn1, rn0]; exact (ite_mg2 (f := mg (up r n h)) (g := mg2 (up r n h)) rfl rfl).symm)
  | osl id k off len => exact (rn2umg (h := h) (by simpa [okR3] using hk) (by simpa [bd] using hb)).trans (by simp only [rn, rn2, rn1, rn0]; exact (ite_mg2 (f := mg (up r n h)) (g := mg2 (up r n h)) rfl rfl).symm)
  | map id k => exact (rn2umg (h := h) (by simpa [okR3] using hk) (by simpa [bd] using hb)).trans (by simp only [rn, rn2, rn1, rn0]; exact (ite_mg2 (f := mg (up r n h)) (g := mg2 (up r n h)) rfl rfl).symm)
  | _ => rfl
theorem rnS_mg {h : Nat} : ∀ (s : Sto), okRS d g s = true → bdS n s = true → (∀ k o, (d, k, o) ∈ s → k = g) → rnS d (r g) n h (mgS r s) = mgS (up r n h) (rnS d g n n s)
  | [], _, _, _ => rfl
  | (i, k, o) :: s, hk, hb, hd => by
    have hrest : okRS d g s = true := by cases o <;> simp_all [okRS]
    simp only [bdS, Bool.and_eq_true, Nat.blt_eq] at hb
    have ih := rnS_mg (h := h) s hrest hb.2 fun k o hm => hd k o (by simp [hm])
    have ho : rnO d (r g) n h (mgO r o) = mgO (up r n h) (rnO d g n n o) := by
      cases o with
      | box cs =>
        simp only [okRS, Bool.and_eq_true, List.all_eq_true] at hk
        simp only [bdO, List.all_eq_true] at hb
        simp only [mgO, rnO]
        exact congrArg AObj.box (map_both fun x hx => rn1umg (h := h) (hk.1 x hx) (hb.1.2 x hx))
      | _ => rfl
    simp only [mgS, rnS]
    rw [ih]
    by_cases hi : i = d
    · simp only [hi, if_true, mgS, ho, up_self]
    · simp only [hi, if_false, mgS, ho, (up_agree (r := r) (h := h) k hb.1.1).symm]
theorem lk_xrnT {h : Nat} (t : Nat) : ∀ (tm : Tm), bdT n tm = true → lk (mgT (up r n h) (xrnT d g n tm)) t = lk (rnT d (r g) n h (mgT r tm)) t ∨ lk (mgT (up r n h) (xrnT d g n tm)) t = .undef
  | [], _ => .inl rfl
  | (j, v) :: tm, hb => by
    simp only [bdT, Bool.and_eq_true] at hb
    simp only [xrnT, mgT, rnT, lk]
    split
    · split
      · rename_i hk; exact .inl (rn_mg hk hb.1).symm
      · exact .inr rfl
    · exact lk_xrnT t tm hb.2
end
/-- The low names, one by one. -/
def lowId : Sto → Option (Nat × Nat)
  | [] => none
  | (i, g, _) :: s => match Nat.blt i 1000 with | true => some (i, g) | false => lowId s
def onlyOne (d : Nat) : Sto → Bool
  | [] => true
  | (i, _, _) :: s => (!(Nat.beq i d) || (sget s d).isNone) && onlyOne d s
def xRns : Nat → Tm → Sto → Nat → Option (Tm × Sto × Nat)
  | 0, tm, sto, n => some (tm, sto, n)
  | k + 1, tm, sto, n =>
    match lowId sto with
    | none => some (tm, sto, n)
    | some (d, g) =>
      match sget sto d with
      | some (g', _) => req (Nat.beq g' g && okRS d g sto && bdS n sto && bdT n tm && onlyOne d sto && (sget sto n).isNone && Nat.blt d n) (xRns k (xrnT d g n tm) (rnS d g n n sto) (n + 1))
      | none => none
theorem sget_none_mem {d : Nat} : ∀ {s : Sto}, sget s d = none → ∀ k o, (d, k, o) ∉ s
  | [], _, _, _, h => by cases h
  | (i, g, o') :: s, hn, k, o, h => by
    simp only [sget] at hn
    split at hn
    · cases hn
    · rename_i hi
      rcases List.mem_cons.1 h with e | h
      · simp only [Prod.mk.injEq] at e; exact hi e.1.symm
      · exact sget_none_mem hn k o h
theorem onlyOne_ok {d g : Nat} {o : AObj} : ∀ {s : Sto}, onlyOne d s = true → sget s d = some (g, o) → ∀ k o', (d, k, o') ∈ s → k = g
  | [], _, h, _, _, _ => by cases h
  | (i, g', o2) :: s, h1, h2, k, o', hm => by
    simp only [onlyOne, Bool.and_eq_true, Bool.or_eq_true, Bool.not_eq_true'] at h1
    simp only [sget] at h2
    split at h2
    · rename_i hi; subst hi
      cases h2
      have hn : sget s i = none := by
        rcases h1.1 with h | h
        · simp [Nat.beq_refl] at h
        · simpa using h
      rcases List.mem_cons.1 hm with e | h
      · simp only [Prod.mk.injEq] at e; exact e.2.1
      · exact absurd h (sget_none_mem hn k o')
    · rename_i hi
      rcases List.mem_cons.1 hm with e | h
      · simp only [Prod.mk.injEq] at e; exact absurd e.1.symm hi
      · exact onlyOne_ok h1.2 h2 k o' h
theorem xRns_ok {P : Program} {f : Nat} {fn : Func} {df : List DDel} {its : List Item} {R : AVal → Sto → Prop} : ∀ (k : Nat) {tm tm' : Tm} {sto sto' : Sto} {n n' : Nat}, xRns k tm sto n = some (tm', sto', n') → n ≤ n' ∧ ∀ r : Nat → Nat,
    (∀ r', Agree n r r' → AGood P f fn df its (mgT r' tm') (mgS r' sto') R) → AGood P f fn df its (mgT r tm) (mgS r sto) R
  | 0, tm, tm', sto, sto', n, n', h => by simp only [xRns, Option.some.injEq, Prod.mk.injEq] at h; obtain ⟨rfl, rfl, rfl⟩ := h; exact ⟨Nat.le_refl _, fun r hr => hr r .refl⟩
  | k + 1, tm, tm', sto, sto', n, n', h => by
    simp only [xRns] at h
    split at h
    · simp only [Option.some.injEq, Prod.mk.injEq] at h; obtain ⟨rfl, rfl, rfl⟩ := h; exact ⟨Nat.le_refl _, fun r hr => hr r .refl⟩
    · rename_i d g hl
      split at h
      · rename_i g' o hs
        simp only [req_iff, Bool.and_eq_true, Nat.beq_eq, Nat.blt_eq, Option.isNone_iff_eq_none] at h
        obtain ⟨⟨⟨⟨⟨⟨⟨rfl, h1⟩, h2⟩, h3⟩, h4⟩, h5⟩, h6⟩, h⟩ := h
        obtain ⟨h7, h8⟩ := xRns_ok (P := P) (f := f) (fn := fn) (df := df) (its := its) (R := R) k h
        refine ⟨Nat.le_of_succ_le h7, fun r hr => ?_⟩
        refine AGood.rename (d := d) (n := n) (g := r g') (o := mgO r o) (by omega) (by rw [sget_mgS, h5]; rfl) (by rw [sget_mgS, hs]; rfl) fun h => ⟨mgT (up r n h) (xrnT d g' n tm), fun t => lk_xrnT t tm h3, ?_⟩
        rw [rnS_mg sto h1 h2 (onlyOne_ok h4 hs)]
        exact h8 _ fun r' k1 => hr r' (up_agree.trans k1 (Nat.le_succ n))
      · cases h

/-! The run. -/
def okF (id g len : Nat) : AVal → Bool
  | .osl i h off n => !(Nat.beq i id) || (Nat.beq h g && Nat.ble (off + n) len)
  | _ => true
def okFs (id g len : Nat) : AVal → Bool
  | .agg cs => cs.all (okF id g len)
  | .tup cs => cs.all (okF id g len) && cs.all AVal.isCell
  | v => okF id g len v
def xrfT (id g : Nat) (l : List (List AVal)) : Tm → Tm
  | [] => []
  | (t, v) :: s => (t, if okFs id g l.length v then rf id g l v else .undef) :: xrfT id g l s
def okFS (id g len : Nat) : Sto → Bool
  | [] => true
  | (_, _, .box cs) :: s => cs.all (okF id g len) && okFS id g len s
  | _ :: s => okFS id g len s
def xFz : List Nat → Tm → Sto → Option (Tm × Sto)
  | [], tm, sto => some (tm, sto)
  | id :: ids, tm, sto =>
    match sget sto id with
    | some (g, .row _ l) => req (okFS id g l.length (sdel sto id)) (xFz ids (xrfT id g l tm) (rfS id g l (sdel sto id)))
    | _ => none
section
variable {r : Nat → Nat}
theorem rf1umg {id g : Nat} {l : List (List AVal)} {v : AVal} (h : okF id g l.length v = true) : rf1 id (r g) l (mg1 r v) = mg1 r (rf1 id g l v) := by
  cases v with
  | osl i h' off n =>
    simp only [okF, Bool.or_eq_true, Bool.not_eq_true', Bool.and_eq_true, Nat.ble_eq, Nat.beq_eq] at h
    simp only [mg1, mg0, rf1]
    by_cases hi : i = id
    · have : h' = g ∧ off + n ≤ l.length := by
        rcases h with h | h
        · exact absurd hi (by intro e; rw [e] at h; simp [Nat.beq_refl] at h)
        · exact h
      obtain ⟨rfl, h2⟩ := this
      rw [if_pos ⟨hi, rfl, h2⟩, if_pos ⟨hi, rfl, h2⟩]
    · rw [if_neg (fun h => hi h.1), if_neg (fun h => hi h.1)]
  | fn f cap => rfl
  | _ => rfl
theorem rf1s_mg {id g : Nat} {l : List (List AVal)} : ∀ {cs : List AVal}, cs.all (okF id g l.length) = true → (cs.map (mg1 r)).map (rf1 id (r g) l) = (cs.map (rf1 id g l)).map (mg1 r)
  | [], _ => rfl
  | v :: cs, h => by simp only [List.all_cons, Bool.and_eq_true] at h; simp only [List.map_cons, rf1umg h.1, rf1s_mg h.2]
theorem rf_mg {id g : Nat} {l : List (List AVal)} {v : AVal} (h : okFs id g l.length v = true) : rf id (r g) l (mg r v) = mg r (rf id g l v) := by
  cases v with
  | agg cs => simp only [okFs] at h; simp only [mg, mg2, rf, rf1s_mg h]
  | tup cs =>
    simp only [okFs, Bool.and_eq_true, List.all_eq_true] at h
    obtain ⟨h, hcs⟩ := h
    have h := List.all_eq_true.2 h
    have e2 : ∀ {cs : List AVal}, (∀ c ∈ cs, c.isCell = true) → cs.map (mg2 r) = cs.map (mg1 r) := fun hc => List.map_congr_left fun c hcm => by have := hc c hcm; cases c <;> first | rfl | simp [AVal.isCell] at this
    simp only [mg, rf]
    rw [e2 hcs, rf1s_mg h, e2]
    intro c hc
    obtain ⟨c', hc', rfl⟩ := List.mem_map.1 hc
    exact rf1ucell (hcs c' hc')
  | osl i h' off n =>
    have := rf1umg (r := r) (v := .osl i h' off n) (by simpa [okFs] using h)
    simp only [rf, mg, mg2] at this ⊢
    rw [show (mg1 r (AVal.osl i h' off n)) = .osl i (r h') off n from rfl] at this ⊢
    simp only at this ⊢
    rw [this]
    simp only [rf1]; split <;> rfl
  | _ => rfl
end

/-- What calls: first, whether nothing is to be written. -/
abbrev Caller := Bool → Nat → List AVal → Sto → Nat → Option (AVal × Sto × Nat)
def CallerOk (P : Program) (c : Caller) : Prop := ∀ ro f args sto n v sto' n', c ro f args sto n = some (v, sto', n') → n ≤ n' ∧ (ro = true → sto' = sto) ∧ ∀ r : Nat → Nat, ACall P f (args.map (mg r)) (mgS r sto) fun v1 s1 => ∃ r', Agree n r r' ∧ v1 = mg r' v ∧ s1 = mgS r' sto'

/-- Rows that must be given away ahead of an operation. -/
def firstOsl : List AVal → Option Nat
  | [] => none
  | .osl id _ _ _ :: _ => some id
  | _ :: l => firstOsl l
def needs : Op → Tm → List AVal
  | .build _ parts => fun tm => parts.toList.flatMap fun p => cellsOf (evF tm p.2)
  | .buildSlice _ _ parts => fun tm => parts.toList.flatMap fun p => cellsOf (evF tm p.2)
  | .store _ a x => fun tm => match evF tm a with | .loc _ _ _ _ => cellsOf (evF tm x) | _ => []
  | .mapUpdate _ _ _ x => fun tm => cellsOf (evF tm x)
  | _ => fun _ => []
def needIds (tm : Tm) (op : Op) : List Nat := match firstOsl (needs op tm) with | some id => [id] | none => []
def xFzOp (op : Op) : Nat → Tm → Sto → Option (Tm × Sto)
  | 0, tm, sto => some (tm, sto)
  | k + 1, tm, sto =>
    match firstOsl (needs op tm) with
    | none => some (tm, sto)
    | some id => (xFz [id] tm sto).bind fun x => xFzOp op k x.1 x.2


def isSt : Op → Bool
  | .store _ _ _ | .mapUpdate _ _ _ _ => true
  | _ => false
theorem xOp_same {L : Lay} {tm : Tm} {sto sto' : Sto} {d n : Nat} {op : Op} {v : AVal} (h1 : isNew op = false) (h2 : isSt op = false) (h : xOp L tm sto d n op = some (v, sto')) : sto' = sto := by
  unfold xOp at h
  split at h
  all_goals first
    | (simp [isNew] at h1; done)
    | (simp [isSt] at h2; done)
    | (cases h; rfl)
    | (obtain ⟨w, hw, he⟩ := mp_some h; cases he; rfl)
    | skip
  case h_3 => split at h <;> cases h <;> rfl
  case h_10 => split at h <;> cases h <;> rfl
  case h_11 =>
    split at h
    · split at h <;> first | (obtain ⟨w, hw, he⟩ := mp_some h; cases he; rfl) | cases h
    · simp only [req_iff, Option.bind_eq_some_iff] at h
      obtain ⟨_, w, _, h⟩ := h
      obtain ⟨w, hw, he⟩ := mp_some h; cases he; rfl
  case h_12 =>
    simp only [req_iff, Option.bind_eq_some_iff] at h
    obtain ⟨_, w, _, h⟩ := h
    obtain ⟨w, hw, he⟩ := mp_some h; cases he; rfl
  case h_13 =>
    simp only [req_iff, Option.bind_eq_some_iff] at h
    obtain ⟨_, w, _, h⟩ := h
    obtain ⟨w, hw, he⟩ := mp_some h; cases he; rfl
  case h_14 => simp only [req_iff, Option.some.injEq, Prod.mk.injEq] at h; exact h.2.2.symm
  case h_17 =>
    simp only [req_iff] at h
    obtain ⟨w, hw, he⟩ := mp_some h.2; cases he; rfl
  case h_22 =>
    simp only [Option.bind_eq_some_iff] at h
    obtain ⟨w, _, h⟩ := h
    obtain ⟨w, hw, he⟩ := mp_some h; cases he; rfl
  case h_25 =>
    split at h
    · simp only [Option.bind_eq_some_iff] at h
      obtain ⟨w, _, h⟩ := h
      obtain ⟨w, hw, he⟩ := mp_some h; cases he; rfl
    · simp [isNew] at h1
    · split at h
      · simp only [req_iff, Option.some.injEq, Prod.mk.injEq] at h; exact h.2.2.symm
      · cases h
    · split at h
      · simp only [req_iff, Option.some.injEq, Prod.mk.injEq] at h; exact h.2.2.symm
      · cases h
    · cases h
  case h_26 => cases h
def xPlain (L : Lay) (ro : Bool) (d : Nat) (op : Op) (tm : Tm) (sto : Sto) (n : Nat) : Option (AVal × Sto × Nat) :=
  match isNew op with
  | true => req (!ro && bdT n tm) ((xSel op L tm sto d n).map fun x => (x.1, x.2, n + 1))
  | false => req (!ro || !isSt op) ((xSel op L tm sto d n).map fun x => (x.1, x.2, n))
theorem xPlain_ok {L : Lay} {ro : Bool} {d n n' : Nat} {op : Op} {tm : Tm} {sto sto' : Sto} {v : AVal} (h : xPlain L ro d op tm sto n = some (v, sto', n')) : n ≤ n' ∧ (ro = true → sto' = sto) ∧
    ∀ (r : Nat → Nat) (T : AVal → Sto → Prop), (∀ r', Agree n r r' → mgT r' tm = mgT r tm → T (mg r' v) (mgS r' sto')) → vcOp L (mgT r tm) (mgS r sto) d T op := by
  unfold xPlain at h
  simp only [xSel_eq] at h
  split at h
  · simp only [req_iff, Bool.and_eq_true, Bool.not_eq_true'] at h
    obtain ⟨⟨h1, hb⟩, h⟩ := h
    obtain ⟨⟨u', s'⟩, hx, he⟩ := mp_some h
    cases he
    exact ⟨Nat.le_succ _, fun e => Bool.noConfusion (h1.symm.trans e), fun r T hT => xOp_ok hx fun h _ => hT _ up_agree (mgT_ag up_agree hb).symm⟩
  · rename_i hn
    simp only [req_iff, Bool.or_eq_true, Bool.not_eq_true'] at h
    obtain ⟨h1, h⟩ := h
    obtain ⟨⟨u', s'⟩, hx, he⟩ := mp_some h
    cases he
    refine ⟨Nat.le_refl _, fun e => xOp_same hn (by rcases h1 with h1 | h1; rw [h1] at e; cases e; exact h1) hx, fun r T hT => xOp_ok hx fun h hh => by rw [hh hn, up_same]; exact hT r .refl rfl⟩
/-- One operation, or a call: what it tells, the store behind it, the next handle's number. -/
def xStep (L : Lay) (call : Caller) (ro : Bool) (d : Nat) (o : Op) (tm : Tm) (sto : Sto) (n : Nat) : Option (AVal × Sto × Nat) :=
  match o with
  | .call ⟨.value c, args, _⟩ =>
    match evF tm c with
    | .fn f cap => req (bdT n tm && cap.all okCap) (call ro f (args.toList.map (evF tm) ++ cap) sto n)
    | _ => none
  | op => xPlain L ro d op tm sto n
def xStepF : Op → Lay → Caller → Bool → Nat → Tm → Sto → Nat → Option (AVal × Sto × Nat)
  | .call ⟨.value c, args, _⟩ => fun _ call ro _ tm sto n =>
    match evF tm c with
    | .fn f cap => req (bdT n tm && cap.all okCap) (call ro f (args.toList.map (evF tm) ++ cap) sto n)
    | _ => none
  | op => fun L _ ro d tm sto n => xPlain L ro d op tm sto n
theorem xStepF_eq {L : Lay} {call : Caller} {ro : Bool} {d n : Nat} {tm : Tm} {sto : Sto} (op : Op) : xStepF op L call ro d tm sto n = xStep L call ro d op tm sto n := by
  cases op with
  | call c => obtain ⟨callee, args, ts⟩ := c; cases callee <;> rfl
  | _ => rfl
/-- A row that is appended to ahead of its end is cut off there. -/
def xShr : Op → Tm → Sto → Sto
  | .call ⟨.builtin .append, args, _⟩ => fun tm sto =>
    match args.toList with
    | [s, _] =>
      match evF tm s with
      | .osl id _ 0 len =>
        match sget sto id with
        | some (g', .row esz l) => match Nat.blt len l.length with | true => sput sto id (g', .row esz (l.take len)) | false => sto
        | _ => sto
      | _ => sto
    | _ => sto
  | _ => fun _ sto => sto
theorem xShr_ok {r : Nat → Nat} {Q : Tm → Sto → Prop} {op : Op} {tm : Tm} {sto : Sto} {tmr : Tm} (h : FZ Q tmr (mgS r (xShr op tm sto))) : FZ Q tmr (mgS r sto) := by
  unfold xShr at h
  split at h
  · split at h
    · split at h
      · split at h
        · rename_i g' esz l hg
          split at h
          · rw [sput_mgS] at h
            exact .cut _ (by rw [sget_mgS, hg]; rfl) h
          · exact h
        · exact h
      · exact h
    · exact h
  · exact h
def canNeed : Op → Bool
  | .call ⟨.builtin .append, _, _⟩ => true
  | .build _ _ | .buildSlice _ _ _ | .store _ _ _ | .mapUpdate _ _ _ _ => true
  | _ => false
def xFzR (ro : Bool) (op : Op) (tm : Tm) (sto : Sto) : Option (Tm × Sto) :=
  match ro || !canNeed op with
  | true => some (tm, sto)
  | false => xFzOp op 4 tm (xShr op tm sto)

def xOps (L : Lay) (call : Caller) (ro : Bool) (dd : List (Option Nat)) : List Oper → Tm → Sto → Nat → Option (Tm × Sto × Nat)
  | [], tm, sto, n => some (tm, sto, n)
  | o :: os, tm, sto, n =>
    match o.guard with
    | none => (xFzR ro o.op tm sto).bind fun x => (xStepF o.op L call ro n x.1 x.2 n).bind fun y => xOps L call ro dd os (put o.dst y.1 x.1) y.2.1 y.2.2
    | some (j, want) =>
      match dd[j]? with
      | some (some t) =>
        match lkF tm t with
        | .bool b =>
          match b == want with
          | true => (xFzR ro o.op tm sto).bind fun x => (xStepF o.op L call ro n x.1 x.2 n).bind fun y => xOps L call ro dd os (put o.dst y.1 x.1) y.2.1 y.2.2
          | false => xOps L call ro dd os (put o.dst (.tup []) tm) sto n
        | .tup [] => xOps L call ro dd os (put o.dst (.tup []) tm) sto n
        | _ => none
      | _ => none

section
variable {P : Program} {L : Lay} {call : Caller}
theorem mgT_put {r : Nat → Nat} {d : Option Nat} {v : AVal} {tm : Tm} : mgT r (put d v tm) = put d (mg r v) (mgT r tm) := by cases d <;> rfl

theorem xStep_ok (hc : CallerOk P call) {ro : Bool} {d n n' : Nat} {o : Oper} {tm : Tm} {sto sto' : Sto} {v : AVal} (h : xStep L call ro d o.op tm sto n = some (v, sto', n')) : n ≤ n' ∧ (ro = true → sto' = sto) ∧ ∀ (r : Nat → Nat) (T : AVal → Sto → Prop),
    (∀ r', Agree n r r' → mgT r' tm = mgT r tm → T (mg r' v) (mgS r' sto')) → vcStepD L P d o (mgT r tm) (mgS r sto) T := by
  obtain ⟨dst, op, ty, pos, af, gu⟩ := o
  unfold xStep at h
  try simp only [evF_eq, evF_fun] at h
  unfold vcStepD
  simp only at h ⊢
  split at h
  · rename_i c args ts
    split at h
    · rename_i f cap hf
      simp only [req_iff, Bool.and_eq_true] at h
      obtain ⟨⟨h1, h2⟩, h3⟩ := h
      obtain ⟨h4, h4', h5⟩ := hc _ _ _ _ _ _ _ _ h3
      refine ⟨h4, h4', fun r T hT => ?_⟩
      simp only [ev_mgT, hf]
      have e : args.toList.map (ev (mgT r tm)) ++ cap.map (mg0 r) = (args.toList.map (ev tm) ++ cap).map (mg r) := by
        rw [List.map_append, List.map_map]
        congr 1
        · exact List.map_congr_left fun x _ => by simp only [Function.comp, ev_mgT]
        · exact List.map_congr_left fun x hx => (okCap_mg (List.all_eq_true.1 h2 x hx)).symm
      rw [show mg r (AVal.fn f cap) = .fn f (cap.map (mg0 r)) from rfl]
      have := h5 r
      rw [← e] at this
      exact this.mono fun v1 s1 ⟨r', k1, k2, k3⟩ => by rw [k2, k3]; exact hT r' k1 (mgT_ag k1 h1).symm
    · cases h
  · rename_i hop
    obtain ⟨h1, h2, h3⟩ := xPlain_ok h
    exact ⟨h1, h2, fun r T hT => h3 r T hT⟩

theorem lk_xrfT {r : Nat → Nat} {id g : Nat} {l : List (List AVal)} (t : Nat) : ∀ (tm : Tm), lk (mgT r (xrfT id g l tm)) t = lk (rfT id (r g) l (mgT r tm)) t ∨ lk (mgT r (xrfT id g l tm)) t = .undef
  | [] => .inl rfl
  | (j, v) :: tm => by
    simp only [xrfT, mgT, rfT, lk]
    split
    · split
      · rename_i h; exact .inl (rf_mg h).symm
      · exact .inr rfl
    · exact lk_xrfT t tm
theorem rfS_mg {r : Nat → Nat} {id g : Nat} {l : List (List AVal)} : ∀ (s : Sto), okFS id g l.length s = true → mgS r (rfS id g l s) = rfS id (r g) l (mgS r s)
  | [], _ => rfl
  | (i, h, .box cs) :: s, hs => by
    simp only [okFS, Bool.and_eq_true] at hs
    simp only [rfS, mgS, rfO, mgO, rfS_mg s hs.2, rf1s_mg hs.1]
  | (i, h, .row _ _) :: s, hs => by simp only [okFS] at hs; simp only [rfS, mgS, rfO, mgO, rfS_mg s hs]
  | (i, h, .mp _) :: s, hs => by simp only [okFS] at hs; simp only [rfS, mgS, rfO, mgO, rfS_mg s hs]
  | (i, h, .mpi _) :: s, hs => by simp only [okFS] at hs; simp only [rfS, mgS, rfO, mgO, rfS_mg s hs]
theorem xFz_ok {r : Nat → Nat} {Q : Tm → Sto → Prop} : ∀ (ids : List Nat) {tm tm' : Tm} {sto sto' : Sto}, xFz ids tm sto = some (tm', sto') → FZ Q (mgT r tm') (mgS r sto') → FZ Q (mgT r tm) (mgS r sto)
  | [], tm, tm', sto, sto', h, hQ => by
    simp only [xFz, Option.some.injEq, Prod.mk.injEq] at h; obtain ⟨rfl, rfl⟩ := h; exact hQ
  | id :: ids, tm, tm', sto, sto', h, hQ => by
    simp only [xFz] at h
    split at h
    · rename_i g esz l hg
      simp only [req_iff] at h
      obtain ⟨h1, h⟩ := h
      refine .step (g := r g) (esz := esz) (l := l) (tm' := mgT r (xrfT id g l tm)) (by rw [sget_mgS, hg]; rfl) (fun t => lk_xrfT t tm) ?_
      rw [← sdel_mgS, ← rfS_mg _ h1]
      exact xFz_ok ids h hQ
    · cases h
theorem xFzOp_ok {r : Nat → Nat} {Q : Tm → Sto → Prop} {op : Op} : ∀ (k : Nat) {tm tm' : Tm} {sto sto' : Sto}, xFzOp op k tm sto = some (tm', sto') → Q (mgT r tm') (mgS r sto') → FZ Q (mgT r tm) (mgS r sto)
  | 0, tm, tm', sto, sto', h, hQ => by simp only [xFzOp, Option.some.injEq, Prod.mk.injEq] at h; obtain ⟨rfl, rfl⟩ := h; exact .done hQ
  | k + 1, tm, tm', sto, sto', h, hQ => by
    simp only [xFzOp] at h
    split at h
    · cases h; exact .done hQ
    · simp only [Option.bind_eq_some_iff] at h
      obtain ⟨⟨tm1, sto1⟩, hx, h⟩ := h
      exact xFz_ok _ hx (xFzOp_ok k h hQ)

theorem xFzR_ok {r : Nat → Nat} {Q : Tm → Sto → Prop} {op : Op} {ro : Bool} {tm tm' : Tm} {sto sto' : Sto} (h : xFzR ro op tm sto = some (tm', sto')) (hQ : Q (mgT r tm') (mgS r sto')) : FZ Q (mgT r tm) (mgS r sto) := by
  unfold xFzR at h
  split at h
  · cases h; exact .done hQ
  · exact xShr_ok (xFzOp_ok 4 h hQ)
theorem xOps_ok (hc : CallerOk P call) {ro : Bool} {dd : List (Option Nat)} : ∀ (os : List Oper) {tm tm' : Tm} {sto sto' : Sto} {n n' : Nat}, xOps L call ro dd os tm sto n = some (tm', sto', n') → n ≤ n' ∧ (ro = true → sto' = sto) ∧ ∀ (r : Nat → Nat) (K : Tm → Sto → Prop),
    (∀ r', Agree n r r' → K (mgT r' tm') (mgS r' sto')) → wx L P dd os (mgT r tm) (mgS r sto) K
  | [], tm, tm', sto, sto', n, n', h => by
    simp only [xOps, Option.some.injEq, Prod.mk.injEq] at h; obtain ⟨rfl, rfl, rfl⟩ := h
    exact ⟨Nat.le_refl _, fun _ => rfl, fun r K hK => by unfold wx; exact hK r .refl⟩
  | o :: os, tm, tm', sto, sto', n, n', h => by
    have key : ((xFzR ro o.op tm sto).bind fun x => (xStep L call ro n o.op x.1 x.2 n).bind fun y => xOps L call ro dd os (put o.dst y.1 x.1) y.2.1 y.2.2) = some (tm', sto', n') → n ≤ n' ∧ (ro = true → sto' = sto) ∧ ∀ (r : Nat → Nat) (K : Tm → Sto → Prop),
        (∀ r', Agree n r r' → K (mgT r' tm') (mgS r' sto')) → FZ (fun tm sto => ∃ d, vcStepD L P d o tm sto fun v s => wx L P dd os (put o.dst v tm) s K) (mgT r tm) (mgS r sto) := by
      intro h
      simp only [Option.bind_eq_some_iff] at h
      obtain ⟨⟨tm1, sto1⟩, h1, ⟨v, sto2, n2⟩, h2, h3⟩ := h
      obtain ⟨h4, h4', h5⟩ := xStep_ok (P := P) hc h2
      obtain ⟨h6, h6', h7⟩ := xOps_ok hc os h3
      refine ⟨Nat.le_trans h4 h6, fun e => ?_, fun r K hK => xFzR_ok h1 ⟨n, h5 r _ fun r' k1 k2 => ?_⟩⟩
      · rw [h6' e, h4' e]; subst e; simp only [xFzR, Bool.true_or, Option.some.injEq, Prod.mk.injEq] at h1; exact h1.2.symm
      simp only at k2
      rw [← k2, ← mgT_put]
      exact h7 r' K fun r'' k3 => hK r'' (k1.trans k3 h4)
    unfold xOps at h
    simp only [lkF_eq, xStepF_eq] at h
    split at h
    · rename_i hg
      obtain ⟨h1, h1', h2⟩ := key h
      refine ⟨h1, h1', fun r K hK => ?_⟩
      unfold wx; rw [hg]; exact h2 r K hK
    · rename_i j want hg
      split at h
      · rename_i t hj
        split at h
        · rename_i b hb
          split at h
          · rename_i hbw
            obtain ⟨h1, h1', h2⟩ := key h
            refine ⟨h1, h1', fun r K hK => ?_⟩
            unfold wx; rw [hg]; simp only [hj, lk_mgT, hb]
            exact ⟨fun _ => h2 r K hK, fun e => by subst e; cases want <;> simp at hbw⟩
          · rename_i hbw
            obtain ⟨h1, h1', h2⟩ := xOps_ok hc os h
            refine ⟨h1, h1', fun r K hK => ?_⟩
            unfold wx; rw [hg]; simp only [hj, lk_mgT, hb]
            refine ⟨fun e => by subst e; simp at hbw, fun _ => ?_⟩
            have := h2 r K hK
            rw [mgT_put] at this; exact this
        · rename_i hb
          obtain ⟨h1, h1', h2⟩ := xOps_ok hc os h
          refine ⟨h1, h1', fun r K hK => ?_⟩
          unfold wx; rw [hg]; simp only [hj, lk_mgT, hb]
          have := h2 r K hK
          rw [mgT_put] at this; exact this
        · cases h
      · cases h
end

/-! Regions of any order. -/
def xFrq (b : Bool) (v : AVal) (s : Sto) : Option (AVal × Sto) :=
  match b, v with
  | true, .osl id g 0 m =>
    match sget s id with
    | some (g', .row _ l) => req (Nat.beq g' g && Nat.beq m l.length) (some (.sl true false l, sdel s id))
    | _ => none
  | _, v => some (v, s)
theorem xFrq_ok {r : Nat → Nat} {b : Bool} {v v' : AVal} {s s' : Sto} {T : AVal → Sto → Prop} (h : xFrq b v s = some (v', s')) (hT : T (mg r v') (mgS r s')) : frq b (mg r v) (mgS r s) T := by
  unfold xFrq at h
  split at h
  · split at h
    · rename_i id g m _ g' esz l hg
      simp only [req_iff, Bool.and_eq_true, Nat.beq_eq, Option.some.injEq, Prod.mk.injEq] at h
      obtain ⟨⟨rfl, rfl⟩, rfl, rfl⟩ := h
      simp only [mg_osl, frq, sget_mgS, hg, Option.map_some, mgO, true_and]
      rw [sdel_mgS] at hT; exact hT
    · cases h
  · rename_i hne
    cases h
    unfold frq
    split
    · rename_i id g m he
      exfalso
      cases v <;> simp only [mg, mg2, mg1, mg0] at he <;> try (cases he; done)
      simp only [AVal.osl.injEq] at he
      obtain ⟨rfl, _, rfl, rfl⟩ := he
      exact hne _ _ _ rfl rfl
    · exact hT

/-- What leads nowhere. -/
def flat0 : AVal → Bool
  | .loc _ _ _ _ | .bx _ _ _ | .osl _ _ _ _ | .map _ _ | .fn _ (_ :: _) | .agg _ | .tup _ | .opt _ _ => false
  | _ => true
def flat : AVal → Bool
  | .agg cs => cs.all flat0 && cs.all AVal.isCell
  | .tup cs => cs.all flat0
  | v => flat0 v
def xStepZ (L : Lay) (call : Caller) (ro q : Bool) (z : List Nat) (dst : Option Nat) (o : Op) (tm : Tm) (sto : Sto) (n : Nat) : Option (AVal × Sto × Nat) :=
  match o with
  | .call ⟨.value c, args, _⟩ =>
    match evF tm c with
    | .fn f cap =>
      match q with
      | true =>
        match ((args.toList.map (evF tm)) ++ cap).all flat with
        | true => req (stoCells sto) ((call false f (args.toList.map (evF tm) ++ cap) [] 1000).bind fun x => (req (flat x.1) (some x.1)).bind fun v => some (v, sto, n))
        | false => req (cap.all okCap && bdS n sto) ((call true f (args.toList.map (evF tm) ++ cap) sto n).bind fun x => (req (bd n x.1 && !z.contains (dst.getD 0)) (some x.1)).bind fun v => some (v, sto, n))
      | false => req (bdT n tm && cap.all okCap && (!ro || !z.contains (dst.getD 0))) ((call ro f (args.toList.map (evF tm) ++ cap) sto n).bind fun x => (xFrq (z.contains (dst.getD 0)) x.1 x.2.1).map fun y => (y.1, y.2, x.2.2))
    | _ => none
  | op =>
    (xPlain L ro (dst.getD 0) op tm sto n).bind fun x =>
    match isMk op && !ro with
    | true => (xFrq (z.contains (dst.getD 0)) x.1 x.2.1).map fun y => (y.1, y.2, x.2.2)
    | false => req (!isMk op || !z.contains (dst.getD 0)) (some x)
def xStepZF : Op → Lay → Caller → Bool → Bool → List Nat → Option Nat → Tm → Sto → Nat → Option (AVal × Sto × Nat)
  | .call ⟨.value c, args, ts⟩ => fun L call ro q z dst tm sto n => xStepZ L call ro q z dst (.call ⟨.value c, args, ts⟩) tm sto n
  | op => fun L _ ro _ z dst tm sto n => (xPlain L ro (dst.getD 0) op tm sto n).bind fun x =>
    match isMk op && !ro with
    | true => (xFrq (z.contains (dst.getD 0)) x.1 x.2.1).map fun y => (y.1, y.2, x.2.2)
    | false => req (!isMk op || !z.contains (dst.getD 0)) (some x)
theorem xStepZF_eq {L : Lay} {call : Caller} {ro q : Bool} {z : List Nat} {dst : Option Nat} {n : Nat} {tm : Tm} {sto : Sto} (op : Op) : xStepZF op L call ro q z dst tm sto n = xStepZ L call ro q z dst op tm sto n := by
  cases op with
  | call c => obtain ⟨callee, args, ts⟩ := c; cases callee <;> rfl
  | _ => rfl
def xVc (L : Lay) (call : Caller) (ro q : Bool) (z : List Nat) (dd : List (Option Nat)) : List Oper → Tm → Sto → Nat → Option (Tm × Sto × Nat)
  | [], tm, sto, n => some (tm, sto, n)
  | o :: os, tm, sto, n =>
    match o.guard with
    | none => (xStepZF o.op L call ro q z o.dst tm sto n).bind fun y => xVc L call ro q z dd os (put o.dst y.1 tm) y.2.1 y.2.2
    | some (j, want) =>
      match dd[j]? with
      | some (some t) =>
        match lkF tm t with
        | .bool b =>
          match b == want with
          | true => (xStepZF o.op L call ro q z o.dst ((t, .bool want) :: tm) sto n).bind fun y => xVc L call ro q z dd os (put o.dst y.1 ((t, .bool want) :: tm)) y.2.1 y.2.2
          | false => xVc L call ro q z dd os (put o.dst (.tup []) ((t, .bool !want) :: tm)) sto n
        | .tup [] => xVc L call ro q z dd os (put o.dst (.tup []) tm) sto n
        | _ => none
      | _ => none

section
variable {P : Program} {L : Lay} {call : Caller}
theorem sfilt_nil : ∀ s : Sto, s.foldl (fun s x => sdel s x.1) s = s.foldl (fun s x => sdel s x.1) s := fun _ => rfl
theorem ACall.none {f : Nat} {args : List AVal} {sto : Sto} {R : AVal → Prop} (h : ACall P f args sto fun r s => R r) : ACall P f args sto fun r s => R r ∧ s = [] :=
  ⟨h.able, fun G w cargs a b c => (h.calls G w cargs a b c).mono fun _ _ ⟨G', cr, r, sto', h1, h2, h3, h4, h5, h6⟩ => ⟨G', cr, r, [], h1, h2, h3, ⟨fun _ _ _ h => by simp [sget] at h, fun _ _ _ _ _ _ h => by simp [sget] at h⟩, h5, h6, rfl⟩⟩
theorem mg0ubd {r : Nat → Nat} {v : AVal} (h : bd 0 v = true) : mg0 r v = v := by
  cases v <;> first | rfl | (simp [bd, bd2, bd1, bd0, Nat.blt] at h)
theorem flat0ubd {v : AVal} (h : flat0 v = true) : bd1 0 v = true ∧ bd2 0 v = true ∧ bd 0 v = true := by
  cases v with
  | fn f cap => cases cap <;> simp_all [flat0, bd1, bd2, bd]
  | _ => first | (simp [flat0] at h; done) | (simp [bd1, bd2, bd, bd0])
theorem flat_bd {v : AVal} (h : flat v = true) : bd 0 v = true := by
  cases v with
  | agg cs => simp only [flat, Bool.and_eq_true, List.all_eq_true] at h; simp only [bd, bd2, List.all_eq_true]; exact fun x hx => (flat0ubd (h.1 x hx)).1
  | tup cs => simp only [flat, List.all_eq_true] at h; simp only [bd, List.all_eq_true]; exact fun x hx => (flat0ubd (h x hx)).2.1
  | _ => simp only [flat] at h; exact (flat0ubd h).2.2
theorem stoCells_mg {r : Nat → Nat} : ∀ s : Sto, stoCells (mgS r s) = stoCells s
  | [] => rfl
  | (i, g, o) :: s => by
    have := stoCells_mg (r := r) s
    simp only [mgS, stoCells, List.all_cons] at this ⊢
    rw [this]
    congr 1
    cases o with
    | box cs => simp only [mgO, cellsOk, List.all_map]; congr 1; funext x; exact mg1uisCell
    | _ => rfl
/-- A call that leads nowhere leaves all as it is. -/
def Quiet (P : Program) : Prop := ∀ f args v sto, args.all flat = true → flat v = true → stoCells sto = true → (ACall P f args [] fun r s => r = v) → ACall P f args sto fun r s => r = v ∧ s = sto
theorem frq_no {z : List Nat} {d : Nat} {r : AVal} {s : Sto} {T : AVal → Sto → Prop} (h : z.contains d = false) (hT : T r s) : frq (z.contains d) r s T := by rw [h]; exact hT
theorem frq_flat {b : Bool} {r : AVal} {s : Sto} {T : AVal → Sto → Prop} (h : flat r = true) (hT : T r s) : frq b r s T := by
  unfold frq
  split
  · simp [flat, flat0] at h
  · exact hT
theorem args_mg {r : Nat → Nat} {tm : Tm} {args : Array Operand} {cap : List AVal} (h2 : cap.all okCap = true) : args.toList.map (ev (mgT r tm)) ++ cap.map (mg0 r) = (args.toList.map (ev tm) ++ cap).map (mg r) := by
  rw [List.map_append, List.map_map]
  congr 1
  · exact List.map_congr_left fun x _ => by simp only [Function.comp, ev_mgT]
  · exact List.map_congr_left fun x hx => (okCap_mg (List.all_eq_true.1 h2 x hx)).symm
theorem xStepZ_ok (hc : CallerOk P call) (hq : Quiet P) {ro q : Bool} {z : List Nat} {n n' : Nat} {o : Oper} {tm : Tm} {sto sto' : Sto} {v : AVal} (h : xStepZ L call ro q z o.dst o.op tm sto n = some (v, sto', n')) : n ≤ n' ∧ (ro = true → sto' = sto) ∧ ∀ (r : Nat → Nat) (T : AVal → Sto → Prop),
    (∀ r', Agree n r r' → mgT r' tm = mgT r tm → T (mg r' v) (mgS r' sto')) → vcStep L P q z o (mgT r tm) (mgS r sto) T := by
  obtain ⟨dst, op, ty, pos, af, gu⟩ := o
  unfold xStepZ at h
  try simp only [evF_eq, evF_fun] at h
  unfold vcStep
  simp only at h ⊢
  split at h
  · rename_i c args ts
    split at h
    · rename_i f cap hf
      have em : ∀ r, mg r (AVal.fn f cap) = .fn f (cap.map (mg0 r)) := fun r => rfl
      split at h
      · split at h
        · rename_i hfl
          simp only [req_iff, Option.bind_eq_some_iff, Bool.and_eq_true, Option.some.injEq, Prod.mk.injEq] at h
          obtain ⟨hst, ⟨u, s1, n1⟩, h2, w, ⟨hfv, rfl⟩, rfl, rfl, rfl⟩ := h
          obtain ⟨_, _, h5⟩ := hc _ _ _ _ _ _ _ _ h2
          refine ⟨Nat.le_refl _, fun _ => rfl, fun r T hT => ?_⟩
          simp only [ev_mgT, hf, em, if_true]
          have hall : (args.toList.map (ev tm) ++ cap).map (mg r) = args.toList.map (ev tm) ++ cap := by
            conv => rhs; rw [← List.map_id (args.toList.map (ev tm) ++ cap)]
            exact List.map_congr_left fun x hx => mg_id (flat_bd (List.all_eq_true.1 hfl x hx))
          have e : args.toList.map (ev (mgT r tm)) ++ cap.map (mg0 r) = args.toList.map (ev tm) ++ cap := by
            rw [← hall, List.map_append, List.map_map]
            congr 1
            · exact List.map_congr_left fun x _ => by simp only [Function.comp, ev_mgT]
            · refine List.map_congr_left fun x hx => ?_
              have hx' := List.all_eq_true.1 hfl x (by simp [hx])
              rw [mg_id (flat_bd hx')]
              cases x with
              | fn f cap => cases cap <;> first | rfl | simp [flat, flat0] at hx'
              | _ => first | rfl | (simp [flat, flat0] at hx')
          have h6 := h5 r
          rw [hall] at h6
          refine ⟨u, ?_, ?_⟩
          · rw [e]
            exact hq _ _ _ _ hfl hfv (by rw [stoCells_mg]; exact hst) (h6.mono fun v1 s1 ⟨r', _, k2, _⟩ => by rw [k2, mg_id (flat_bd hfv)])
          · refine frq_flat hfv ?_
            have := hT r .refl rfl
            rwa [mg_id (flat_bd hfv)] at this
        · simp only [req_iff, Option.bind_eq_some_iff, Bool.and_eq_true, Bool.not_eq_true', Option.some.injEq, Prod.mk.injEq] at h
          obtain ⟨⟨hcap, hbs⟩, ⟨u, s1, n1⟩, h2, w, ⟨⟨hb, hz⟩, rfl⟩, rfl, rfl, rfl⟩ := h
          obtain ⟨_, h4, h5⟩ := hc _ _ _ _ _ _ _ _ h2
          have hs := h4 rfl
          subst hs
          refine ⟨Nat.le_refl _, fun _ => rfl, fun r T hT => ?_⟩
          simp only [ev_mgT, hf, em, if_true]
          refine ⟨mg r u, ?_, frq_no hz (hT r .refl rfl)⟩
          rw [args_mg hcap]
          exact (h5 r).mono fun v1 s1 ⟨r', k1, k2, k3⟩ => ⟨by rw [k2]; exact (mg_ag k1 hb).symm, by rw [k3]; exact (mgS_ag k1 hbs).symm⟩
      · simp only [req_iff, Option.bind_eq_some_iff, Bool.and_eq_true, Bool.or_eq_true, Bool.not_eq_true'] at h
        obtain ⟨⟨⟨h1, h2⟩, hz⟩, ⟨u, s1, n1⟩, h3, h4⟩ := h
        obtain ⟨⟨v', s'⟩, hx, he⟩ := mp_some h4
        cases he
        obtain ⟨h5, h5', h6⟩ := hc _ _ _ _ _ _ _ _ h3
        refine ⟨h5, fun e => ?_, fun r T hT => ?_⟩
        · rcases hz with hz | hz
          · rw [hz] at e; cases e
          · rw [hz] at hx
            simp only [xFrq, Option.some.injEq, Prod.mk.injEq] at hx
            rw [← hx.2]; exact h5' e
        · simp only [ev_mgT, hf, em, Bool.false_eq_true, if_false]
          rw [args_mg h2]
          exact (h6 r).mono fun v1 s1 ⟨r', k1, k2, k3⟩ => by rw [k2, k3]; exact xFrq_ok hx (hT r' k1 (mgT_ag k1 h1).symm)
    · cases h
  · rename_i hop
    simp only [Option.bind_eq_some_iff] at h
    obtain ⟨⟨u, s1, n1⟩, h1, h2⟩ := h
    have key := xPlain_ok h1
    have fin : n ≤ n' ∧ (ro = true → sto' = sto) ∧ ∀ (r : Nat → Nat) (T : AVal → Sto → Prop), (∀ r', Agree n r r' → mgT r' tm = mgT r tm → T (mg r' v) (mgS r' sto')) → vcOp L (mgT r tm) (mgS r sto) (dst.getD 0) (if isMk op then fun r s => frq (z.contains (dst.getD 0)) r s T else T) op := by
      split at h2
      · rename_i hm
        simp only [Bool.and_eq_true, Bool.not_eq_true'] at hm
        obtain ⟨⟨v', s'⟩, hx, he⟩ := mp_some h2
        cases he
        refine ⟨key.1, fun e => Bool.noConfusion (hm.2.symm.trans e), fun r T hT => key.2.2 r _ fun r' k1 k2 => ?_⟩
        rw [if_pos hm.1]
        exact xFrq_ok hx (hT r' k1 k2)
      · simp only [req_iff, Bool.or_eq_true, Bool.not_eq_true', Option.some.injEq, Prod.mk.injEq] at h2
        obtain ⟨hz, rfl, rfl, rfl⟩ := h2
        refine ⟨key.1, key.2.1, fun r T hT => key.2.2 r _ fun r' k1 k2 => ?_⟩
        split
        · rename_i hm
          rcases hz with hz | hz
          · rw [hz] at hm; cases hm
          · exact frq_no hz (hT r' k1 k2)
        · exact hT r' k1 k2
    refine ⟨fin.1, fin.2.1, fun r T hT => ?_⟩
    split
    · exact absurd rfl (hop _ _ _)
    · exact fin.2.2 r T hT

theorem xVc_ok (hc : CallerOk P call) (hq : Quiet P) {ro q : Bool} {z : List Nat} {dd : List (Option Nat)} : ∀ (os : List Oper) {tm tm' : Tm} {sto sto' : Sto} {n n' : Nat}, xVc L call ro q z dd os tm sto n = some (tm', sto', n') → n ≤ n' ∧ (ro = true → sto' = sto) ∧ ∀ (r : Nat → Nat) (K : Tm → Sto → Prop),
    (∀ r', Agree n r r' → K (mgT r' tm') (mgS r' sto')) → vc L P q z dd os (mgT r tm) (mgS r sto) K
  | [], tm, tm', sto, sto', n, n', h => by
    simp only [xVc, Option.some.injEq, Prod.mk.injEq] at h; obtain ⟨rfl, rfl, rfl⟩ := h
    exact ⟨Nat.le_refl _, fun _ => rfl, fun r K hK => by unfold vc; exact hK r .refl⟩
  | o :: os, tm, tm', sto, sto', n, n', h => by
    have key : ∀ tm, ((xStepZ L call ro q z o.dst o.op tm sto n).bind fun y => xVc L call ro q z dd os (put o.dst y.1 tm) y.2.1 y.2.2) = some (tm', sto', n') → n ≤ n' ∧ (ro = true → sto' = sto) ∧ ∀ (r : Nat → Nat) (K : Tm → Sto → Prop),
        (∀ r', Agree n r r' → K (mgT r' tm') (mgS r' sto')) → vcStep L P q z o (mgT r tm) (mgS r sto) fun v s => vc L P q z dd os (put o.dst v (mgT r tm)) s K := by
      intro tm h
      simp only [Option.bind_eq_some_iff] at h
      obtain ⟨⟨v, sto2, n2⟩, h2, h3⟩ := h
      obtain ⟨h4, h4', h5⟩ := xStepZ_ok (P := P) hc hq h2
      obtain ⟨h6, h6', h7⟩ := xVc_ok hc hq os h3
      refine ⟨Nat.le_trans h4 h6, fun e => by rw [h6' e, h4' e], fun r K hK => h5 r _ fun r' k1 k2 => ?_⟩
      rw [← k2, ← mgT_put]
      exact h7 r' K fun r'' k3 => hK r'' (k1.trans k3 h4)
    unfold xVc at h
    simp only [lkF_eq, xStepZF_eq] at h
    split at h
    · rename_i hg
      obtain ⟨h1, h1', h2⟩ := key _ h
      refine ⟨h1, h1', fun r K hK => ?_⟩
      unfold vc; rw [hg]; exact h2 r K hK
    · rename_i j want hg
      split at h
      · rename_i t hj
        split at h
        · rename_i b hb
          split at h
          · rename_i hbw
            obtain ⟨h1, h1', h2⟩ := key _ h
            refine ⟨h1, h1', fun r K hK => ?_⟩
            unfold vc; rw [hg]; simp only [hj, lk_mgT, hb]
            exact ⟨fun _ => h2 r K hK, fun e => by subst e; cases want <;> simp at hbw⟩
          · rename_i hbw
            obtain ⟨h1, h1', h2⟩ := xVc_ok hc hq os h
            refine ⟨h1, h1', fun r K hK => ?_⟩
            unfold vc; rw [hg]; simp only [hj, lk_mgT, hb]
            refine ⟨fun e => by subst e; simp at hbw, fun _ => ?_⟩
            have := h2 r K hK
            rw [mgT_put] at this; exact this
        · rename_i hb
          obtain ⟨h1, h1', h2⟩ := xVc_ok hc hq os h
          refine ⟨h1, h1', fun r K hK => ?_⟩
          unfold vc; rw [hg]; simp only [hj, lk_mgT, hb]
          have := h2 r K hK
          rw [mgT_put] at this; exact this
        · cases h
      · cases h

def xRes (L : Lay) : List ResultVar → Tm → Sto → Option (List AVal)
  | [], _, _ => some []
  | .tmp t :: rs, tm, sto => (xRes L rs tm sto).map (lkF tm t :: ·)
  | .cell a ty :: rs, tm, sto => req (!decide ((L ty).ty = .other)) ((xLoad L ty (lkF tm a) sto).bind fun v => (xRes L rs tm sto).map (v :: ·))
theorem xRes_ok {r : Nat → Nat} : ∀ (rs : List ResultVar) {tm : Tm} {sto : Sto} {vs : List AVal} {T : List AVal → Prop}, xRes L rs tm sto = some vs → T (vs.map (mg r)) → vcRes L rs (mgT r tm) (mgS r sto) T
  | [], tm, sto, vs, T, h, hT => by cases h; exact hT
  | .tmp t :: rs, tm, sto, vs, T, h, hT => by
    obtain ⟨us, h1, rfl⟩ := mp_some h
    unfold vcRes
    refine xRes_ok rs h1 ?_
    rw [lk_mgT]; rw [lkF_eq] at hT; exact hT
  | .cell a ty :: rs, tm, sto, vs, T, h, hT => by
    simp only [xRes, lkF_eq, req_iff, Bool.not_eq_true', decide_eq_false_iff_not, Option.bind_eq_some_iff] at h
    obtain ⟨h1, v, h2, h3⟩ := h
    obtain ⟨us, h4, rfl⟩ := mp_some h3
    unfold vcRes
    refine ⟨h1, ?_⟩
    rw [lk_mgT]
    exact xLoad_ok h2 (xRes_ok rs h4 hT)
def xRetv : List AVal → Option AVal
  | [v] => some v
  | vs => req (vs.all AVal.isWhole) (some (.tup vs))
theorem xRetv_ok {r : Nat → Nat} {vs : List AVal} {v : AVal} (h : xRetv vs = some v) : retv (vs.map (mg r)) = mg r v := by
  unfold xRetv at h
  split at h
  · cases h; rfl
  · rename_i hne
    simp only [req_iff, Option.some.injEq] at h
    obtain ⟨h1, rfl⟩ := h
    rw [show mg r (.tup vs) = .tup (vs.map (mg2 r)) from rfl, show vs.map (mg2 r) = vs.map (mg r) from List.map_congr_left fun x hx => (mg_whole (List.all_eq_true.1 h1 x hx)).symm]
    match vs, hne with
    | [], _ => rfl
    | [v], hne => exact absurd rfl (hne v)
    | u :: v :: l, _ => rfl

def pruneF (ps : List Nat) (tm : Tm) : Tm := List.rec (motive := fun _ => Tm) [] (fun p _ ih => (p, lkF tm p) :: ih) ps
theorem pruneF_eq : ∀ (ps : List Nat) (tm : Tm), pruneF ps tm = prune ps tm
  | [], _ => rfl
  | p :: ps, tm => by
    show (p, lkF tm p) :: pruneF ps tm = _
    rw [pruneF_eq ps tm, lkF_eq]; rfl
/-- Of a function: its temporaries that last; of its regions of any order: how many operations are quiet, the order, what is given away at once, what ahead. -/
structure DrT where
  nq : Nat
  order : List Nat
  z : List Nat
  fz : List Nat
  bt : List Nat
  lr : List Nat
structure Tab where
  ps : List Nat
  dr : List (Nat × DrT)
/-- Boxes that are written no more become frozen. -/
def xBt : List Nat → Tm → Sto → Option (Tm × Sto)
  | [], tm, sto => some (tm, sto)
  | t :: ts, tm, sto =>
    match lkF tm t with
    | .bx id g 0 =>
      match sget sto id with
      | some (g', .box cs) => req (Nat.beq g' g && cs.all AVal.isFz) (xBt ts ((t, .ref true cs) :: tm) (sdel sto id))
      | _ => none
    | _ => xBt ts tm sto
theorem xBt_ok {P : Program} {f : Nat} {fn : Func} {its : List Item} {R : AVal → Sto → Prop} {r : Nat → Nat} : ∀ (ts : List Nat) {tm tm' : Tm} {sto sto' : Sto}, xBt ts tm sto = some (tm', sto') → AGood P f fn [] its (mgT r tm') (mgS r sto') R → AGood P f fn [] its (mgT r tm) (mgS r sto) R
  | [], tm, tm', sto, sto', h, hQ => by simp only [xBt, Option.some.injEq, Prod.mk.injEq] at h; obtain ⟨rfl, rfl⟩ := h; exact hQ
  | t :: ts, tm, tm', sto, sto', h, hQ => by
    simp only [xBt, lkF_eq] at h
    split at h
    · rename_i id g hl
      split at h
      · rename_i g' cs hg
        simp only [req_iff, Bool.and_eq_true, Nat.beq_eq] at h
        obtain ⟨⟨rfl, h1⟩, h⟩ := h
        refine AGood.boxRef t id (g := r g') (cs := cs) (by rw [lk_mgT, hl]; rfl) (by rw [sget_mgS, hg]; simp only [Option.map_some, mgO, mg1s_fz h1]) h1 ?_
        have := xBt_ok ts h hQ
        rw [sdel_mgS] at this; exact this
      · cases h
    · exact xBt_ok ts h hQ
def xBtR (ro : Bool) (bt : List Nat) (tm : Tm) (sto : Sto) : Option (Tm × Sto) := match ro with | true => some (tm, sto) | false => xBt bt tm sto
def xFzT : List Nat → Tm → Sto → Option (Tm × Sto)
  | [], tm, sto => some (tm, sto)
  | t :: ts, tm, sto =>
    match lkF tm t with
    | .osl id _ _ _ => (xFz [id] tm sto).bind fun x => xFzT ts x.1 x.2
    | _ => xFzT ts tm sto
theorem xFzT_ok {r : Nat → Nat} {Q : Tm → Sto → Prop} : ∀ (ts : List Nat) {tm tm' : Tm} {sto sto' : Sto}, xFzT ts tm sto = some (tm', sto') → Q (mgT r tm') (mgS r sto') → FZ Q (mgT r tm) (mgS r sto)
  | [], tm, tm', sto, sto', h, hQ => by simp only [xFzT, Option.some.injEq, Prod.mk.injEq] at h; obtain ⟨rfl, rfl⟩ := h; exact .done hQ
  | t :: ts, tm, tm', sto, sto', h, hQ => by
    simp only [xFzT, lkF_eq] at h
    split at h
    · simp only [Option.bind_eq_some_iff] at h
      obtain ⟨⟨tm1, sto1⟩, hx, h⟩ := h
      exact xFz_ok _ hx (xFzT_ok ts h hQ)
    · exact xFzT_ok ts h hQ

def xFzTR (ro : Bool) (fz : List Nat) (tm : Tm) (sto : Sto) : Option (Tm × Sto) := match ro with | true => some (tm, sto) | false => xFzT fz tm sto
def drFind (id : Nat) : List (Nat × DrT) → Option DrT
  | [] => none
  | (i, x) :: l => match Nat.beq i id with | true => some x | false => drFind id l

def xRnsR (ro : Bool) (tm : Tm) (sto : Sto) (n : Nat) : Option (Tm × Sto × Nat) := match ro with | true => some (tm, sto, n) | false => xRns 8 tm sto n
def xRet (L : Lay) (rs : List ResultVar) (tm : Tm) (sto : Sto) (n : Nat) : Option (AVal × Sto × Nat) := (xRes L rs tm sto).bind fun vs => (xRetv vs).map fun v => (v, sto, n)
/-- What the run of a function's code has at hand. -/
structure Cx where
  L : Lay
  call : Caller
  ro : Bool
  tab : Tab
  fn : Func
def xRegN (c : Cx) (ops : List Oper) (tm : Tm) (sto : Sto) (n : Nat) : Option (Tm × Sto × Nat) :=
  (xOps c.L c.call c.ro (ops.map (·.dst)) ops tm sto n).map fun x => (pruneF c.tab.ps x.1, x.2.1, x.2.2)
def xRegD (c : Cx) (id : Nat) (ops : List Oper) (tm : Tm) (sto : Sto) (n : Nat) : Option (Tm × Sto × Nat) :=
  match drFind id c.tab.dr with
  | some d =>
    (xFzTR c.ro d.fz tm sto).bind fun x => (xBtR c.ro d.bt x.1 x.2).bind fun x => req (d.z.all fun d => (sget x.2 d).isNone)
      ((xVc c.L c.call c.ro true d.z (ops.map (·.dst)) ((d.order.take d.nq).filterMap (ops[·]?)) x.1 x.2 n).bind fun y => req (d.lr.all fun a => isRefB (lkF y.1 a))
       ((xVc c.L c.call c.ro false d.z (ops.map (·.dst)) ((d.order.drop d.nq).filterMap (ops[·]?)) y.1 y.2.1 y.2.2).bind fun x => xRnsR c.ro (pruneF c.tab.ps x.1) x.2.1 x.2.2))
  | none => none
def xItem : List Item → Cx → (List Item → Tm → Sto → Nat → Option (AVal × Sto × Nat)) → Tm → Sto → Nat → Option (AVal × Sto × Nat)
  | [] => fun c _ tm sto n => xRet c.L c.fn.results.toList tm sto n
  | .inBlock _ :: rest => fun _ go tm sto n => go rest tm sto n
  | .inLoop c :: rest => fun _ go tm sto n => go (.code c :: .inLoop c :: rest) tm sto n
  | .code .skip :: rest => fun _ go tm sto n => go rest tm sto n
  | .code (.seq a b) :: rest => fun _ go tm sto n => go (.code a :: .code b :: rest) tm sto n
  | .code (.block id c) :: rest => fun _ go tm sto n => go (.code c :: .inBlock id :: rest) tm sto n
  | .code (.loop c) :: rest => fun _ go tm sto n => go (.code c :: .inLoop c :: rest) tm sto n
  | .code (.exit id) :: rest => fun _ go tm sto n => match exitTo id rest with | some k' => go k' tm sto n | none => none
  | .code (.cond c a b) :: rest => fun _ go tm sto n =>
    match evF tm c with
    | .bool true => req (operandOk c) (go (.code a :: rest) tm sto n)
    | .bool false => req (operandOk c) (go (.code b :: rest) tm sto n)
    | _ => none
  | .code .ret :: _ => fun c _ tm sto n => xRet c.L c.fn.results.toList tm sto n
  | .code (.region id ops draw) :: rest => fun c go tm sto n =>
    (match draw with
    | false => xRegN c ops.toList tm sto n
    | true => xRegD c id ops.toList tm sto n).bind fun x => go rest x.1 x.2.1 x.2.2
  | _ => fun _ _ _ _ _ => none
def xItems (c : Cx) : Nat → List Item → Tm → Sto → Nat → Option (AVal × Sto × Nat)
  | 0 => fun _ _ _ _ => none
  | k + 1 => fun items tm sto n => xItem items c (xItems c k) tm sto n

/-- The regions of a code, each with what must be known of it. -/
def regOk (L : Lay) (nt : Nat) (tab : Tab) (id : Nat) (ops : Array Oper) : Bool → Bool
  | false => okOps L nt ops.toList
  | true => match drFind id tab.dr with | some d => drawnOkG L nt d.z ops.toList d.nq d.order [] d.lr | none => true
def regsOk (L : Lay) (nt : Nat) (tab : Tab) : Code → Bool
  | .region id ops d => regOk L nt tab id ops d
  | .seq a b => regsOk L nt tab a && regsOk L nt tab b
  | .cond _ a b => regsOk L nt tab a && regsOk L nt tab b
  | .block _ c => regsOk L nt tab c
  | .loop c => regsOk L nt tab c
  | _ => true
def itemOk (L : Lay) (nt : Nat) (tab : Tab) : Item → Bool
  | .code c => regsOk L nt tab c
  | .inLoop c => regsOk L nt tab c
  | _ => true
theorem exitTo_ok {L : Lay} {nt : Nat} {tab : Tab} {id : Nat} : ∀ {k k' : List Item}, exitTo id k = some k' → k.all (itemOk L nt tab) = true → k'.all (itemOk L nt tab) = true
  | [], _, h, _ => by simp [exitTo] at h
  | i :: k, k', h, ha => by
    simp only [List.all_cons, Bool.and_eq_true] at ha
    cases i with
    | inBlock id' =>
      simp only [exitTo] at h
      split at h
      · cases h; exact ha.2
      · exact exitTo_ok h ha.2
    | _ => exact exitTo_ok (id := id) (by simpa [exitTo] using h) ha.2
theorem prune_mgT {r : Nat → Nat} (ps : List Nat) (tm : Tm) : mgT r (prune ps tm) = prune ps (mgT r tm) := by
  induction ps with
  | nil => rfl
  | cons p ps ih => simp only [prune, List.map_cons, mgT, lk_mgT] at ih ⊢; rw [ih]

theorem regN_ok (hL : LOk P L) (hc : CallerOk P call) {ro : Bool} {tab : Tab} {f : Nat} {fn : Func} {id : Nat} {ops : Array Oper} {rest : List Item} {tm tm' : Tm} {sto sto' : Sto} {n n' : Nat} (h1 : okOps L fn.ntmps ops.toList = true) (h : xRegN ⟨L, call, ro, tab, fn⟩ ops.toList tm sto n = some (tm', sto', n')) :
    n ≤ n' ∧ (ro = true → sto' = sto) ∧ ∀ (r : Nat → Nat) (R : AVal → Sto → Prop), (∀ r', Agree n r r' → AGood P f fn [] rest (mgT r' tm') (mgS r' sto') R) → AGood P f fn [] (.code (.region id ops false) :: rest) (mgT r tm) (mgS r sto) R := by
  unfold xRegN at h
  obtain ⟨⟨tm1, sto1, n1⟩, h2, he⟩ := mp_some h
  simp only [Prod.mk.injEq] at he
  obtain ⟨rfl, rfl, rfl⟩ := he
  obtain ⟨h4, h4', h5⟩ := xOps_ok (P := P) hc _ h2
  refine ⟨h4, h4', fun r R hR => ?_⟩
  rw [show ops = ops.toList.toArray by simp]
  refine AGood.regX hL tab.ps h1 (h5 r _ fun r' k1 => ?_)
  have := hR r' k1
  rw [pruneF_eq, prune_mgT] at this; exact this
theorem regD_ok (hL : LOk P L) (hm : P.follows .mixedOrders = true) (hc : CallerOk P call) (hq : Quiet P) {ro : Bool} {tab : Tab} {f : Nat} {fn : Func} {id : Nat} {ops : Array Oper} {rest : List Item} {tm tm' : Tm} {sto sto' : Sto} {n n' : Nat} (hreg : regOk L fn.ntmps tab id ops true = true) (h : xRegD ⟨L, call, ro, tab, fn⟩ id ops.toList tm sto n = some (tm', sto', n')) :
    n ≤ n' ∧ (ro = true → sto' = sto) ∧ ∀ (r : Nat → Nat) (R : AVal → Sto → Prop), (∀ r', Agree n r r' → AGood P f fn [] rest (mgT r' tm') (mgS r' sto') R) → AGood P f fn [] (.code (.region id ops true) :: rest) (mgT r tm) (mgS r sto) R := by
  unfold xRegD at h
  split at h
  · rename_i d hdr
    obtain ⟨nq, order, z, fzt, bt, lr⟩ := d
    simp only at hdr
    have h1 : drawnOkG L fn.ntmps z ops.toList nq order [] lr = true := by simp only [regOk, hdr] at hreg; exact hreg
    simp only [req_iff, Option.bind_eq_some_iff, lkF_eq] at h
    obtain ⟨⟨tm00, sto00⟩, h00, ⟨tm0, sto0⟩, h0b, hz, ⟨tm1, sto1, n1⟩, h2, hlr, ⟨tm2, sto2, n2⟩, h3, h9⟩ := h
    simp only at h00 h0b hz h2 hlr h3 h9
    rw [pruneF_eq] at h9
    have h9' : n2 ≤ n' ∧ (ro = true → sto' = sto2) ∧ ∀ (r : Nat → Nat) (R : AVal → Sto → Prop), (∀ r', Agree n2 r r' → AGood P f fn [] rest (mgT r' tm') (mgS r' sto') R) → AGood P f fn [] rest (prune tab.ps (mgT r tm2)) (mgS r sto2) R := by
      unfold xRnsR at h9
      split at h9
      · cases h9; exact ⟨Nat.le_refl _, fun _ => rfl, fun r R hr => by rw [← prune_mgT]; exact hr r .refl⟩
      · exact ⟨(xRns_ok (P := P) (f := f) (fn := fn) (df := []) (its := rest) (R := fun _ _ => True) 8 h9).1, fun e => Bool.noConfusion e, fun r R hr => by
          rw [← prune_mgT]; exact (xRns_ok (P := P) (f := f) (fn := fn) (df := []) (its := rest) (R := R) 8 h9).2 r hr⟩
    obtain ⟨h4, e4, h5⟩ := xVc_ok (P := P) hc hq _ h2
    obtain ⟨h4', e4', h5'⟩ := xVc_ok (P := P) hc hq _ h3
    have h0' : ∀ {r : Nat → Nat} {R : AVal → Sto → Prop} {its : List Item}, AGood P f fn [] its (mgT r tm0) (mgS r sto0) R → AGood P f fn [] its (mgT r tm) (mgS r sto) R := by
      intro r R its hQ
      have hB : AGood P f fn [] its (mgT r tm00) (mgS r sto00) R := by
        unfold xBtR at h0b
        split at h0b
        · cases h0b; exact hQ
        · exact xBt_ok _ h0b hQ
      refine AGood.fz ?_
      unfold xFzTR at h00
      split at h00
      · cases h00; exact .done hB
      · exact xFzT_ok _ h00 hB
    refine ⟨Nat.le_trans h4 (Nat.le_trans h4' h9'.1), fun e => ?_, fun r R hR => h0' ?_⟩
    · rw [h9'.2.1 e, e4' e, e4 e]; subst e; simp only [xFzTR, xBtR, Option.some.injEq, Prod.mk.injEq] at h00 h0b; rw [← h0b.2]; exact h00.2.symm
    rw [show ops = ops.toList.toArray by simp]
    refine AGood.drawnL hL hm z nq order [] lr tab.ps h1 (List.all_eq_true.2 fun d hd => ?_) fun K hK => h5 r _ fun r' k1 => ⟨⟨rfl, List.all_eq_true.2 fun a ha => ?_⟩, h5' r' _ fun r'' k2 => hK _ _ ?_⟩
    · have := List.all_eq_true.1 hz d hd
      rw [sget_mgS]; cases hs : sget sto0 d <;> simp_all
    · have := List.all_eq_true.1 hlr a ha
      rw [lk_mgT]
      cases hk : lk tm1 a <;> rw [hk] at this <;> first | rfl | (simp [isRefB] at this)
    · exact h9'.2.2 r'' _ fun r0 k3 => hR r0 ((k1.trans k2 h4).trans k3 (Nat.le_trans h4 h4'))
  · cases h
theorem xItems_ok (hL : LOk P L) (hm : P.follows .mixedOrders = true) (hc : CallerOk P call) (hq : Quiet P) {ro : Bool} {tab : Tab} {f : Nat} {fn : Func} : ∀ (k : Nat) {items : List Item} {tm : Tm} {sto sto' : Sto} {n n' : Nat} {v : AVal}, items.all (itemOk L fn.ntmps tab) = true →
    xItems ⟨L, call, ro, tab, fn⟩ k items tm sto n = some (v, sto', n') → n ≤ n' ∧ (ro = true → sto' = sto) ∧ ∀ r : Nat → Nat, AGood P f fn [] items (mgT r tm) (mgS r sto) fun v1 s1 => ∃ r', Agree n r r' ∧ v1 = mg r' v ∧ s1 = mgS r' sto'
  | 0, _, _, _, _, _, _, _, _, h => by cases h
  | k + 1, items, tm, sto, sto', n, n', v, hI, h => by
    have ret : ∀ {tm : Tm} {sto : Sto}, xRet L fn.results.toList tm sto n = some (v, sto', n') → n ≤ n' ∧ (ro = true → sto' = sto) ∧ ∀ r : Nat → Nat, vcRes L fn.results.toList (mgT r tm) (mgS r sto) fun vs => (∃ r', Agree n r r' ∧ retv vs = mg r' v ∧ mgS r sto = mgS r' sto') := by
      intro tm sto h
      simp only [xRet, Option.bind_eq_some_iff] at h
      obtain ⟨vs, h1, h2⟩ := h
      obtain ⟨u, h4, he⟩ := mp_some h2
      cases he
      exact ⟨Nat.le_refl _, fun _ => rfl, fun r => xRes_ok _ h1 ⟨r, .refl, xRetv_ok h4, rfl⟩⟩
    have comb : ∀ {tm1 : Tm} {sto1 : Sto} {n1 : Nat} {it rest : List Item}, (n ≤ n1 ∧ (ro = true → sto1 = sto) ∧ ∀ (r : Nat → Nat) (R : AVal → Sto → Prop), (∀ r', Agree n r r' → AGood P f fn [] rest (mgT r' tm1) (mgS r' sto1) R) → AGood P f fn [] it (mgT r tm) (mgS r sto) R) →
        (n1 ≤ n' ∧ (ro = true → sto' = sto1) ∧ ∀ r : Nat → Nat, AGood P f fn [] rest (mgT r tm1) (mgS r sto1) fun v1 s1 => ∃ r', Agree n1 r r' ∧ v1 = mg r' v ∧ s1 = mgS r' sto') →
        n ≤ n' ∧ (ro = true → sto' = sto) ∧ ∀ r : Nat → Nat, AGood P f fn [] it (mgT r tm) (mgS r sto) fun v1 s1 => ∃ r', Agree n r r' ∧ v1 = mg r' v ∧ s1 = mgS r' sto' := by
      rintro tm1 sto1 n1 it rest ⟨h4, h4', h5⟩ ⟨h6, h6', h7⟩
      refine ⟨Nat.le_trans h4 h6, fun e => by rw [h6' e, h4' e], fun r => h5 r _ fun r' k1 => ?_⟩
      have := h7 r'
      exact ⟨fun E G a w b x1 x2 x3 x4 x5 x6 x7 x8 x9 cs => by
        obtain ⟨e, w2, fr, ⟨G', cr, rr, s2, y1, y2, y3, y4, y5, r'', y6, y7, y8⟩, z2, z3, z4⟩ := this.go E G a w b x1 x2 x3 x4 x5 x6 x7 x8 x9 cs
        exact ⟨e, w2, fr, ⟨G', cr, rr, s2, y1, y2, y3, y4, y5, r'', k1.trans y6 h4, y7, y8⟩, z2, z3, z4⟩⟩
    have h : xItem items ⟨L, call, ro, tab, fn⟩ (xItems ⟨L, call, ro, tab, fn⟩ k) tm sto n = some (v, sto', n') := h
    match items, hI, h with
    | [], _, h => obtain ⟨h1, h1', h2⟩ := ret h; exact ⟨h1, h1', fun r => AGood.done' hL _ rfl (h2 r)⟩
    | .inBlock _ :: rest, hI, h => obtain ⟨h1, h1', h2⟩ := xItems_ok hL hm hc hq (f := f) k (by simp_all [itemOk, regsOk]) h; exact ⟨h1, h1', fun r => .inBlock (h2 r)⟩
    | .inLoop c :: rest, hI, h => obtain ⟨h1, h1', h2⟩ := xItems_ok hL hm hc hq (f := f) k (by simp_all [itemOk, regsOk]) h; exact ⟨h1, h1', fun r => .inLoop (h2 r)⟩
    | .code .skip :: rest, hI, h => obtain ⟨h1, h1', h2⟩ := xItems_ok hL hm hc hq (f := f) k (by simp_all [itemOk, regsOk]) h; exact ⟨h1, h1', fun r => .skip (h2 r)⟩
    | .code (.seq a b) :: rest, hI, h => obtain ⟨h1, h1', h2⟩ := xItems_ok hL hm hc hq (f := f) k (by simp_all [itemOk, regsOk]) h; exact ⟨h1, h1', fun r => .seq (h2 r)⟩
    | .code (.block id c) :: rest, hI, h => obtain ⟨h1, h1', h2⟩ := xItems_ok hL hm hc hq (f := f) k (by simp_all [itemOk, regsOk]) h; exact ⟨h1, h1', fun r => .block (h2 r)⟩
    | .code (.loop c) :: rest, hI, h => obtain ⟨h1, h1', h2⟩ := xItems_ok hL hm hc hq (f := f) k (by simp_all [itemOk, regsOk]) h; exact ⟨h1, h1', fun r => .loop (h2 r)⟩
    | .code (.exit id) :: rest, hI, h =>
      simp only [xItem] at h
      split at h
      · rename_i hx
        obtain ⟨h1, h1', h2⟩ := xItems_ok hL hm hc hq (f := f) k (exitTo_ok hx (by simp_all)) h; exact ⟨h1, h1', fun r => .exit hx (h2 r)⟩
      · cases h
    | .code (.cond c a b) :: rest, hI, h =>
      simp only [xItem, evF_eq] at h
      split at h
      · rename_i he
        simp only [req_iff] at h
        obtain ⟨h1, h1', h2⟩ := xItems_ok hL hm hc hq (f := f) k (by simp_all [itemOk, regsOk]) h.2
        exact ⟨h1, h1', fun r => .cond (t := true) (by rw [ev_mgT, he]; rfl) h.1 (fun _ => h2 r) (fun e => by cases e)⟩
      · rename_i he
        simp only [req_iff] at h
        obtain ⟨h1, h1', h2⟩ := xItems_ok hL hm hc hq (f := f) k (by simp_all [itemOk, regsOk]) h.2
        exact ⟨h1, h1', fun r => .cond (t := false) (by rw [ev_mgT, he]; rfl) h.1 (fun e => by cases e) (fun _ => h2 r)⟩
      · cases h
    | .code .ret :: rest, hI, h => obtain ⟨h1, h1', h2⟩ := ret h; exact ⟨h1, h1', fun r => AGood.ret' hL _ rfl (h2 r)⟩
    | .code (.region id ops draw) :: rest, hI, h =>
      simp only [xItem, Option.bind_eq_some_iff] at h
      obtain ⟨⟨tm1, sto1, n1⟩, h2, h3⟩ := h
      simp only [List.all_cons, Bool.and_eq_true] at hI
      have hrec := xItems_ok hL hm hc hq (f := f) k hI.2 h3
      cases draw with
      | false => exact comb (regN_ok hL hc (rest := rest) hI.1 h2) hrec
      | true => exact comb (regD_ok hL hm hc hq (rest := rest) hI.1 h2) hrec
    | .code (.rangeFunc _ _ _ _) :: _, _, h | .code (.scope _) :: _, _, h | .code (.label _) :: _, _, h | .code (.goto _) :: _, _, h | .code (.refuse _) :: _, _, h => cases h
    | .inScope _ :: _, _, h | .inRegion _ _ :: _, _, h | .inRangeFunc _ :: _, _, h | .endRangeFunc _ :: _, _, h | .beginRound :: _, _, h | .call _ _ _ _ :: _, _, h | .extern _ _ :: _, _, h => cases h

/-- Whether a function's regions are as the table says. -/
def fnOk (P : Program) (L : Lay) (tab : Nat → Tab) (f : Nat) : Bool := match P.funcs[f]? with
  | some fn => match fn.body with
    | some c => regsOk L fn.ntmps (tab f) c
    | none => true
  | none => true
/-- What is known of calls by their contracts. -/
abbrev Known1 := Nat → Option (List AVal → Option AVal)
def KnOk (P : Program) (kn : Known1) : Prop := ∀ f g args v, kn f = some g → g args = some v → ACall P f args [] fun r s => r = v ∧ s = []
/-- An own row is lent. -/
def lendA (sto : Sto) : AVal → Option AVal
  | .osl id g off len =>
    match sget sto id with
    | some (g', .row _ l) => req (Nat.beq g' g && Nat.ble (off + len) l.length) (some (.sl false false ((l.drop off).take len)))
    | _ => none
  | v => req (flat v) (some v)
def lends (sto : Sto) : List AVal → Option (List AVal)
  | [] => some []
  | v :: vs => (lendA sto v).bind fun u => (lends sto vs).map (u :: ·)
def oslIds : List AVal → List Nat
  | [] => []
  | .osl id _ _ _ :: l => id :: oslIds l
  | _ :: l => oslIds l
theorem oslIds_mem {id g off len : Nat} : ∀ {l : List AVal}, .osl id g off len ∈ l → id ∈ oslIds l
  | [], h => by cases h
  | v :: l, h => by
    rcases List.mem_cons.1 h with rfl | h
    · simp [oslIds]
    · have := oslIds_mem h
      unfold oslIds; split
      · rename_i e; cases e
      · rename_i e; cases e; simp [this]
      · rename_i e; cases e; exact this
theorem tr1uflat {ln : List Nat} {sto : Sto} {v : AVal} (h : flat0 v = true) : tr1 [] ln sto v = v := by
  cases v with
  | fn f cap => cases cap <;> simp_all [flat0, tr1]
  | _ => first | (simp [flat0] at h; done) | rfl
theorem map_self {l : List AVal} {g : AVal → AVal} (h : ∀ x ∈ l, g x = x) : l.map g = l := by
  conv => rhs; rw [← List.map_id l]
  exact List.map_congr_left h
theorem tr_flat {ln : List Nat} {sto : Sto} {v : AVal} (h : flat v = true) : tr [] ln sto v = v := by
  cases v with
  | agg cs =>
    simp only [flat, Bool.and_eq_true] at h
    have e : cs.map (tr1 [] ln sto) = cs := map_self fun x hx => tr1uflat (List.all_eq_true.1 h.1 x hx)
    simp only [tr, e, h.2, if_true]
  | tup cs => simp only [flat] at h; simp only [tr, map_self fun x hx => tr1uflat (ln := ln) (sto := sto) (List.all_eq_true.1 h x hx)]
  | fn f cap => cases cap <;> simp_all [flat, flat0, tr]
  | _ => simp only [flat] at h; exact tr1uflat (ln := ln) (sto := sto) h
theorem bk1uflat {v : AVal} (h : flat0 v = true) : bk1 [] v = v := by
  cases v with
  | fn f cap => cases cap <;> simp_all [flat0, bk1]
  | _ => first | (simp [flat0] at h; done) | rfl
theorem bk2uflat {v : AVal} (h : flat0 v = true) : bk2 [] v = v := by
  cases v with
  | agg => simp [flat0] at h
  | _ => exact bk1uflat h
theorem bk_flat {v : AVal} (h : flat v = true) : bk [] v = v := by
  cases v with
  | agg cs =>
    simp only [flat, Bool.and_eq_true] at h
    have e : cs.map (bk1 []) = cs := map_self fun x hx => bk1uflat (List.all_eq_true.1 h.1 x hx)
    simp only [bk, e, h.2, if_true]
  | tup cs => simp only [flat] at h; simp only [bk, map_self fun x hx => bk2uflat (List.all_eq_true.1 h x hx)]
  | fn f cap => cases cap <;> simp_all [flat, flat0, bk]
  | _ => simp only [flat] at h; exact bk1uflat h
theorem lendA_tr {r : Nat → Nat} {ln : List Nat} {sto : Sto} {v u : AVal} (h : lendA sto v = some u) (hln : ∀ id g off len, v = .osl id g off len → id ∈ ln) : tr [] ln (mgS r sto) (mg r v) = u := by
  cases v with
  | osl id g off len =>
    simp only [lendA] at h
    split at h
    · rename_i g' esz l hg
      simp only [req_iff, Bool.and_eq_true, Nat.beq_eq, Nat.ble_eq, Option.some.injEq] at h
      obtain ⟨⟨rfl, h1⟩, rfl⟩ := h
      have hc : ln.contains id = true := by simpa using hln id _ _ _ rfl
      simp only [mg_osl, tr, tr1, idTo, hc, if_true, sget_mgS, hg, Option.map_some, mgO]
      rw [if_pos ⟨trivial, h1⟩]
    · cases h
  | _ =>
    simp only [lendA, req_iff, Option.some.injEq] at h
    obtain ⟨h1, rfl⟩ := h
    rw [mg_id (flat_bd h1)]; exact tr_flat h1
theorem lends_tr {r : Nat → Nat} {ln : List Nat} {sto : Sto} : ∀ {vs us : List AVal}, lends sto vs = some us → (∀ id, id ∈ oslIds vs → id ∈ ln) → (vs.map (mg r)).map (tr [] ln (mgS r sto)) = us
  | [], us, h, _ => by cases h; rfl
  | v :: vs, us, h, hln => by
    simp only [lends, Option.bind_eq_some_iff] at h
    obtain ⟨u, h1, h2⟩ := h
    obtain ⟨us', h3, rfl⟩ := mp_some h2
    simp only [List.map_cons]
    rw [lendA_tr h1 fun id g off len e => hln id (oslIds_mem (g := g) (off := off) (len := len) (by rw [e]; simp)), lends_tr h3 fun id hm => hln id (by unfold oslIds; split <;> simp_all)]
def knTry (kn : Known1) (f : Nat) (args : List AVal) (sto : Sto) : Option AVal :=
  match kn f with
  | some g => (lends sto args).bind fun a => (g a).bind fun v => req (flat v && clean v && stoCells sto) (some v)
  | none => none
def xCall (P : Program) (L : Lay) (tab : Nat → Tab) (kn : Known1) (fuel : Nat) (fs : List Nat) : Nat → Caller
  | 0, _, _, _, _, _ => none
  | k + 1, ro, f, args, sto, n =>
    match knTry kn f args sto with
    | some v => some (v, sto, n)
    | none =>
    match P.funcs[f]? with
    | some fn =>
      match fn.body with
      | some c => req (Nat.ble args.length fn.ntmps && fs.contains f) (xItems ⟨L, xCall P L tab kn fuel fs k, ro, tab f, fn⟩ fuel [.code c] (initTm 0 args) sto n)
      | none => none
    | none => none
theorem initTm_mg {r : Nat → Nat} : ∀ (args : List AVal) (n : Nat), mgT r (initTm n args) = initTm n (args.map (mg r))
  | [], _ => rfl
  | x :: xs, n => by simp only [initTm, List.map_cons, mgT, initTm_mg xs (n + 1)]
theorem xCall_ok (hL : LOk P L) (hm : P.follows .mixedOrders = true) (hn : (P.funcs.all fun fn => !(fn.name == "runtime.NumGoroutine")) = true) (hq : Quiet P) {tab : Nat → Tab} {kn : Known1} (hkn : KnOk P kn) {fuel : Nat} {fs : List Nat} (hfs : fs.all (fnOk P L tab) = true) : ∀ k, CallerOk P (xCall P L tab kn fuel fs k)
  | 0 => fun _ _ _ _ _ _ _ _ h => by cases h
  | k + 1 => fun ro f args sto n v sto' n' h => by
    unfold xCall at h
    split at h
    · rename_i u hu
      cases h
      refine ⟨Nat.le_refl _, fun _ => rfl, fun r => ?_⟩
      unfold knTry at hu
      split at hu
      · rename_i g hg
        simp only [Option.bind_eq_some_iff, req_iff, Bool.and_eq_true, Option.some.injEq] at hu
        obtain ⟨asl, h1, w, h2, ⟨⟨h3, h4⟩, h5⟩, rfl⟩ := hu
        have := ACall.lent (sto := mgS r sto) (oslIds args) (hkn f g asl w hg h2) (lends_tr h1 fun _ h => h) (bk_flat h3) h4 (by rw [stoCells_mg]; exact h5)
        exact this.mono fun v1 s1 ⟨k1, k2⟩ => ⟨r, .refl, by rw [k1, mg_id (flat_bd h3)], k2⟩
      · cases hu
    split at h
    · rename_i fn hf
      split at h
      · rename_i c hb
        simp only [req_iff, Bool.and_eq_true, Nat.ble_eq] at h
        obtain ⟨⟨h1, h5⟩, h2⟩ := h
        have h6 : regsOk L fn.ntmps (tab f) c = true := by
          have := List.all_eq_true.1 hfs f (by simpa using h5)
          simpa [fnOk, hf, hb] using this
        obtain ⟨h3, h3', h4⟩ := xItems_ok hL hm (xCall_ok hL hm hn hq hkn hfs k) hq (f := f) _ (by simp [itemOk, h6]) h2
        refine ⟨h3, h3', fun r => ?_⟩
        refine ACall.enter hf hb ?_ (by simpa using h1) ?_
        · have := Array.all_eq_true'.1 hn fn (Array.mem_of_getElem? hf)
          simpa using this
        · have := h4 r
          rw [initTm_mg] at this; exact this
      · cases h
    · cases h
end
end
end Go.Rad
