/- The equations by which the pieces of a region are reduced, by the forms of what they take. -/
import Derived.Test.YtejdlelhlpnabaaDoorKRSimp
set_option linter.all false
namespace Go.Rad
open Go
section
variable {P : Program} {L : Lay} {T : AVal → Prop} {U : AVal → Sto → Prop} {V : Sto → Prop} {sto : Sto}

def ldB (ti : TI) (g off : Nat) (T : AVal → Prop) : Option (Nat × AObj) → Prop
  | some (g', .box cs) => g' = g ∧ off + ti.sz ≤ cs.length ∧ 0 < ti.sz ∧ T (mkv ti (cs.drop off))
  | _ => False
def ldR (ti : TI) (g i off : Nat) (T : AVal → Prop) : Option (Nat × AObj) → Prop
  | some (g', .row esz l) => g' = g ∧ i < l.length ∧ off + ti.sz ≤ esz ∧ 0 < ti.sz ∧ ∀ x, l[i]? = some x → T (mkv ti (x.drop off))
  | _ => False
theorem ld_bx (t id g off : Nat) : vcLoad L t (.bx id g off) sto T = ldB (L t) g off T (sget sto id) := by simp only [vcLoad]; cases sget sto id with | none => rfl | some x => obtain ⟨a, b⟩ := x; cases b <;> rfl
theorem ld_loc (t id g i off : Nat) : vcLoad L t (.loc id g i off) sto T = ldR (L t) g i off T (sget sto id) := by simp only [vcLoad]; cases sget sto id with | none => rfl | some x => obtain ⟨a, b⟩ := x; cases b <;> rfl
theorem ld_ref (t : Nat) (q : Bool) (cs : List AVal) : vcLoad L t (.ref q cs) sto T = ((L t).sz ≤ cs.length ∧ 0 < (L t).sz ∧ T (mkv (L t) cs)) := Eq.trans rfl rfl
theorem ldB_box (ti : TI) (g off g' : Nat) (cs : List AVal) : ldB ti g off T (some (g', .box cs)) = (g' = g ∧ off + ti.sz ≤ cs.length ∧ 0 < ti.sz ∧ T (mkv ti (cs.drop off))) := Eq.trans rfl rfl
theorem ldR_row (ti : TI) (g i off g' esz : Nat) (l : List (List AVal)) : ldR ti g i off T (some (g', .row esz l)) = (g' = g ∧ i < l.length ∧ off + ti.sz ≤ esz ∧ 0 < ti.sz ∧ ∀ x, l[i]? = some x → T (mkv ti (x.drop off))) := Eq.trans rfl rfl
theorem ldR_map {α : Type} (ti : TI) (g i off g' esz : Nat) (l : List α) (gg : α → List AVal) : ldR ti g i off T (some (g', .row esz (l.map gg))) = (g' = g ∧ i < l.length ∧ off + ti.sz ≤ esz ∧ 0 < ti.sz ∧ ∀ k, l[i]? = some k → T (mkv ti ((gg k).drop off))) := by
  rw [ldR_row, List.length_map]
  apply propext
  refine and_congr Iff.rfl (and_congr Iff.rfl (and_congr Iff.rfl (and_congr Iff.rfl ⟨fun h k hk => h (gg k) (by rw [List.getElem?_map, hk]; rfl), fun h x hx => ?_⟩)))
  rw [List.getElem?_map] at hx
  obtain ⟨k, hk, rfl⟩ := Option.map_eq_some_iff.1 hx
  exact h k hk
theorem mkv_ag (ty : Ty) (sz b : Nat) (z cs : List AVal) : mkv ⟨ty, true, sz, b, z⟩ cs = .agg (cs.take sz) := Eq.trans rfl rfl
theorem mkv_one (ty : Ty) (sz b : Nat) (z cs : List AVal) : mkv ⟨ty, false, sz, b, z⟩ cs = cs.headD .undef := Eq.trans rfl rfl

def stB (ti : TI) (id g off : Nat) (vs : List AVal) (sto : Sto) (V : Sto → Prop) : Option (Nat × AObj) → Prop
  | some (g', .box cs) => g' = g ∧ off + ti.sz ≤ cs.length ∧ V (sput sto id (g, .box (splice cs off vs)))
  | _ => False
def stR (ti : TI) (id g i off : Nat) (vs : List AVal) (sto : Sto) (V : Sto → Prop) : Option (Nat × AObj) → Prop
  | some (g', .row esz l) => g' = g ∧ i < l.length ∧ off + ti.sz ≤ esz ∧ vs.all AVal.isFz = true ∧ ∀ x, l[i]? = some x → V (sput sto id (g, .row esz (l.set i (splice x off vs))))
  | _ => False
theorem st_bx (t id g off : Nat) (v : AVal) : vcStore L t (.bx id g off) v sto V = (v.isWhole = true ∧ (cellsOf v).length = (L t).sz ∧ stB (L t) id g off (cellsOf v) sto V (sget sto id)) := by simp only [vcStore]; cases sget sto id with | none => rfl | some x => obtain ⟨a, b⟩ := x; cases b <;> rfl
theorem st_loc (t id g i off : Nat) (v : AVal) : vcStore L t (.loc id g i off) v sto V = (v.isWhole = true ∧ (cellsOf v).length = (L t).sz ∧ stR (L t) id g i off (cellsOf v) sto V (sget sto id)) := by simp only [vcStore]; cases sget sto id with | none => rfl | some x => obtain ⟨a, b⟩ := x; cases b <;> rfl
theorem sn_bx (t id g off : Nat) (v : AVal) : vcStoreN L t (.bx id g off) v sto V = vcStore L t (.bx id g off) v sto V := Eq.trans rfl rfl
theorem sn_loc (t id g i off : Nat) (v : AVal) : vcStoreN L t (.loc id g i off) v sto V = vcStore L t (.loc id g i off) (nrmV v) sto V := Eq.trans rfl rfl
theorem nr_sl (q f : Bool) (l : List (List AVal)) : nrm1 (.sl q f l) = .sl q false l := Eq.trans rfl rfl
theorem nr_int (k : IntKind) (n : Int) : nrm1 (.int k n) = .int k n := Eq.trans rfl rfl
theorem nr_bool (b : Bool) : nrm1 (.bool b) = .bool b := Eq.trans rfl rfl
theorem nr_str (s : ByteArray) : nrm1 (.str s) = .str s := Eq.trans rfl rfl
theorem nr_ref (q : Bool) (l : List AVal) : nrm1 (.ref q l) = .ref q l := Eq.trans rfl rfl
theorem nr_nil : nrm1 .nil = .nil := Eq.trans rfl rfl
theorem nr_nilfn : nrm1 .nilfn = .nilfn := Eq.trans rfl rfl
theorem nr_nilmap : nrm1 .nilmap = .nilmap := Eq.trans rfl rfl
theorem nr_fn (f : Nat) (l : List AVal) : nrm1 (.fn f l) = .fn f l := Eq.trans rfl rfl
theorem nv_agg (cs : List AVal) : nrmV (.agg cs) = .agg (cs.map nrm1) := Eq.trans rfl rfl
theorem nv_sl (q f : Bool) (l : List (List AVal)) : nrmV (.sl q f l) = .sl q false l := Eq.trans rfl rfl
theorem nv_int (k : IntKind) (n : Int) : nrmV (.int k n) = .int k n := Eq.trans rfl rfl
theorem nv_bool (b : Bool) : nrmV (.bool b) = .bool b := Eq.trans rfl rfl
theorem nv_str (s : ByteArray) : nrmV (.str s) = .str s := Eq.trans rfl rfl
theorem nv_ref (q : Bool) (l : List AVal) : nrmV (.ref q l) = .ref q l := Eq.trans rfl rfl
theorem nv_nil : nrmV .nil = .nil := Eq.trans rfl rfl
theorem nv_fn (f : Nat) (l : List AVal) : nrmV (.fn f l) = .fn f l := Eq.trans rfl rfl
theorem stB_box (ti : TI) (id g off g' : Nat) (vs cs : List AVal) : stB ti id g off vs sto V (some (g', .box cs)) = (g' = g ∧ off + ti.sz ≤ cs.length ∧ V (sput sto id (g, .box (splice cs off vs)))) := Eq.trans rfl rfl
theorem stR_row (ti : TI) (id g i off g' esz : Nat) (vs : List AVal) (l : List (List AVal)) : stR ti id g i off vs sto V (some (g', .row esz l)) = (g' = g ∧ i < l.length ∧ off + ti.sz ≤ esz ∧ vs.all AVal.isFz = true ∧ ∀ x, l[i]? = some x → V (sput sto id (g, .row esz (l.set i (splice x off vs))))) := Eq.trans rfl rfl

def fdA (x : AVal) (T : AVal → Prop) : Option (Nat × Nat) → Prop
  | some (o, _) =>
    match x with
    | .bx id g off => T (.bx id g (off + o))
    | .loc id g i off => T (.loc id g i (off + o))
    | .ref q cs => o ≤ cs.length ∧ T (.ref q (cs.drop o))
    | _ => False
  | none => False
theorem fd_eq (ti : TI) (x : AVal) (f : Nat) : vcField ti x f T = fdA x T (foff ti f) := by
  unfold vcField
  cases foff ti f with
  | none => rfl
  | some p => obtain ⟨a, b⟩ := p; cases x <;> rfl
theorem fdA_bx (id g off o t : Nat) : fdA (.bx id g off) T (some (o, t)) = T (.bx id g (off + o)) := Eq.trans rfl rfl
theorem fdA_loc (id g i off o t : Nat) : fdA (.loc id g i off) T (some (o, t)) = T (.loc id g i (off + o)) := Eq.trans rfl rfl
theorem fdA_ref (q : Bool) (cs : List AVal) (o t : Nat) : fdA (.ref q cs) T (some (o, t)) = (o ≤ cs.length ∧ T (.ref q (cs.drop o))) := Eq.trans rfl rfl
theorem foff_st (fs : List (Nat × Nat)) (a : Bool) (b c f : Nat) (z : List AVal) : foff ⟨.struct fs, a, b, c, z⟩ f = fs[f]? := Eq.trans rfl rfl

def foA (L : Lay) (x : AVal) (T : AVal → Prop) : Option (Nat × Nat) → Prop
  | some (o, ft) =>
    match x with
    | .agg cs => o + (L ft).sz ≤ cs.length ∧ 0 < (L ft).sz ∧ T (mkv (L ft) (cs.drop o))
    | _ => False
  | none => False
theorem fo_eq (t : Nat) (x : AVal) (f : Nat) : vcFieldOf L t x f T = foA L x T (foff (L t) f) := by
  unfold vcFieldOf
  cases foff (L t) f with
  | none => rfl
  | some p => obtain ⟨a, b⟩ := p; cases x <;> rfl
theorem foA_agg (cs : List AVal) (o ft : Nat) : foA L (.agg cs) T (some (o, ft)) = (o + (L ft).sz ≤ cs.length ∧ 0 < (L ft).sz ∧ T (mkv (L ft) (cs.drop o))) := Eq.trans rfl rfl

def ixO (L : Lay) (e id g off len : Nat) (n : Int) (T : AVal → Prop) : Option (Nat × AObj) → Prop
  | some (g', .row esz _) => g' = g ∧ esz = (L e).sz ∧ (0 ≤ n ∧ n < len) ∧ T (.loc id g (off + n.toNat) 0)
  | _ => False
/-- An index into a list, an array. -/
def ixA (L : Lay) (x : AVal) (n : Int) (sto : Sto) (T : AVal → Prop) : Ty → Prop
  | .slice e =>
    match x with
    | .osl id g off len => ixO L e id g off len n T (sget sto id)
    | .sl q _ l => (0 ≤ n ∧ n < l.length) ∧ ∀ x, l[n.toNat]? = some x → x.length = (L e).sz ∧ T (.ref q x)
    | _ => False
  | .array m e =>
    (0 ≤ n ∧ n < m) ∧
    match x with
    | .bx id g off => T (.bx id g (off + n.toNat * (L e).sz))
    | .loc id g j off => T (.loc id g j (off + n.toNat * (L e).sz))
    | .ref q cs => n.toNat * (L e).sz ≤ cs.length ∧ T (.ref q (cs.drop (n.toNat * (L e).sz)))
    | _ => False
  | _ => False
theorem ix_eq (t : Nat) (x : AVal) (k : IntKind) (n : Int) : vcIndexAddr L t x (.int k n) sto T = ixA L x n sto T (L t).ty := by
  unfold vcIndexAddr ixA
  cases (L t).ty with
  | slice e =>
    cases x with
    | osl id g off len => simp only; cases sget sto id with | none => rfl | some x => obtain ⟨a, b⟩ := x; cases b <;> rfl
    | _ => rfl
  | array m e => cases x <;> rfl
  | _ => rfl
theorem ixA_osl (id g off len e : Nat) (n : Int) : ixA L (.osl id g off len) n sto T (.slice e) = ixO L e id g off len n T (sget sto id) := Eq.trans rfl rfl
theorem ixO_row (id g off len e g' esz : Nat) (n : Int) (l : List (List AVal)) : ixO L e id g off len n T (some (g', .row esz l)) = (g' = g ∧ esz = (L e).sz ∧ (0 ≤ n ∧ n < len) ∧ T (.loc id g (off + n.toNat) 0)) := Eq.trans rfl rfl
theorem ixA_sl (q f : Bool) (l : List (List AVal)) (e : Nat) (n : Int) : ixA L (.sl q f l) n sto T (.slice e) = ((0 ≤ n ∧ n < l.length) ∧ ∀ x, l[n.toNat]? = some x → x.length = (L e).sz ∧ T (.ref q x)) := Eq.trans rfl rfl
theorem ixA_map {α : Type} (q f : Bool) (l : List α) (gg : α → List AVal) (e : Nat) (n : Int) : ixA L (.sl q f (l.map gg)) n sto T (.slice e) = ((0 ≤ n ∧ n < l.length) ∧ ∀ k, l[n.toNat]? = some k → (gg k).length = (L e).sz ∧ T (.ref q (gg k))) := by
  rw [ixA_sl, List.length_map]
  apply propext
  refine and_congr Iff.rfl ⟨fun h k hk => h (gg k) (by rw [List.getElem?_map, hk]; rfl), fun h x hx => ?_⟩
  rw [List.getElem?_map] at hx
  obtain ⟨k, hk, rfl⟩ := Option.map_eq_some_iff.1 hx
  exact h k hk
theorem ixA_abx (id g off m e : Nat) (n : Int) : ixA L (.bx id g off) n sto T (.array m e) = ((0 ≤ n ∧ n < m) ∧ T (.bx id g (off + n.toNat * (L e).sz))) := Eq.trans rfl rfl
theorem ixA_aloc (id g i off m e : Nat) (n : Int) : ixA L (.loc id g i off) n sto T (.array m e) = ((0 ≤ n ∧ n < m) ∧ T (.loc id g i (off + n.toNat * (L e).sz))) := Eq.trans rfl rfl
theorem ixA_aref (q : Bool) (cs : List AVal) (m e : Nat) (n : Int) : ixA L (.ref q cs) n sto T (.array m e) = ((0 ≤ n ∧ n < m) ∧ n.toNat * (L e).sz ≤ cs.length ∧ T (.ref q (cs.drop (n.toNat * (L e).sz)))) := Eq.trans rfl rfl

def ivA (L : Lay) (x : AVal) (n : Int) (T : AVal → Prop) : Ty → Prop
  | .string => match x with
    | .str s => (0 ≤ n ∧ n < s.size) ∧ T (.int .u8 (sbyte s n.toNat))
    | _ => False
  | .array m e => match x with
    | .agg cs => (0 ≤ n ∧ n < m) ∧ n.toNat * (L e).sz + (L e).sz ≤ cs.length ∧ 0 < (L e).sz ∧ T (mkv (L e) (cs.drop (n.toNat * (L e).sz)))
    | _ => False
  | _ => False
theorem iv_eq (t : Nat) (x : AVal) (k : IntKind) (n : Int) : vcIndex L t x (.int k n) T = ivA L x n T (L t).ty := by
  unfold vcIndex ivA
  cases (L t).ty <;> first | rfl | (cases x <;> rfl)
theorem ivA_str (s : ByteArray) (n : Int) : ivA L (.str s) n T .string = ((0 ≤ n ∧ n < s.size) ∧ T (.int .u8 (sbyte s n.toNat))) := Eq.trans rfl rfl
theorem ivA_agg (cs : List AVal) (n : Int) (m e : Nat) : ivA L (.agg cs) n T (.array m e) = ((0 ≤ n ∧ n < m) ∧ n.toNat * (L e).sz + (L e).sz ≤ cs.length ∧ 0 < (L e).sz ∧ T (mkv (L e) (cs.drop (n.toNat * (L e).sz)))) := Eq.trans rfl rfl
theorem ex_tup (vs : List AVal) (i : Nat) : vcExtract (.tup vs) i T = ∃ v, vs[i]? = some v ∧ T v := Eq.trans rfl rfl

def lnA (x : AVal) (sto : Sto) (T : AVal → Prop) : Ty → Prop
  | .string => match x with | .str s => T (.int .i64 s.size) | _ => False
  | .slice _ => match x with | .sl _ _ l => T (.int .i64 l.length) | .osl _ _ _ len => T (.int .i64 len) | _ => False
  | .array n _ => n < 4294967296 ∧ T (.int .i64 n)
  | .map _ _ => match x with
    | .nilmap => T (.int .i64 0)
    | .map id g => (match sget sto id with | some (g', .mp es) => g' = g ∧ T (.int .i64 es.length) | _ => False)
    | _ => False
  | _ => False
theorem ln_eq (t : Nat) (x : AVal) : vcLen L t x sto T = lnA x sto T (L t).ty := by
  unfold vcLen lnA
  cases (L t).ty <;> first | rfl | (cases x <;> rfl)
theorem lnA_str (s : ByteArray) : lnA (.str s) sto T .string = T (.int .i64 s.size) := Eq.trans rfl rfl
theorem lnA_sl (q f : Bool) (l : List (List AVal)) (e : Nat) : lnA (.sl q f l) sto T (.slice e) = T (.int .i64 l.length) := Eq.trans rfl rfl
theorem lnA_osl (id g o n e : Nat) : lnA (.osl id g o n) sto T (.slice e) = T (.int .i64 n) := Eq.trans rfl rfl
theorem lnA_arr (x : AVal) (n e : Nat) : lnA x sto T (.array n e) = (n < 4294967296 ∧ T (.int .i64 n)) := Eq.trans rfl rfl
theorem bl_len (d t : Nat) (x : AVal) : vcBuiltin L d .len [t] [x] sto U = vcLen L t x sto fun r => U r sto := Eq.trans rfl rfl
theorem bl_append (d t t2 : Nat) (s x : AVal) : vcBuiltin L d .append [t, t2] [s, x] sto U = vcAppend L d t t2 s x sto U := Eq.trans rfl rfl
theorem bl_max (d : Nat) (ts : List Nat) (k k' : IntKind) (a b : Int) : vcBuiltin L d .max ts [.int k a, .int k' b] sto U = (k = k' ∧ U (.int k (max a b)) sto) := Eq.trans rfl rfl
theorem bl_min (d : Nat) (ts : List Nat) (k k' : IntKind) (a b : Int) : vcBuiltin L d .min ts [.int k a, .int k' b] sto U = (k = k' ∧ U (.int k (min a b)) sto) := Eq.trans rfl rfl

def elO (g off len : Nat) : Option (Nat × AObj) → Option (List (List AVal))
  | some (g', .row _ l) => if g' = g ∧ off + len ≤ l.length then some ((l.drop off).take len) else none
  | _ => none
theorem el_sl (q f : Bool) (l : List (List AVal)) : elemsOf (.sl q f l) sto = some l := Eq.trans rfl rfl
theorem el_osl (id g off len : Nat) : elemsOf (.osl id g off len) sto = elO g off len (sget sto id) := by simp only [elemsOf]; cases sget sto id with | none => rfl | some x => obtain ⟨a, b⟩ := x; cases b <;> rfl
theorem elO_all (g esz : Nat) (l : List (List AVal)) : elO g 0 l.length (some (g, .row esz l)) = some l := by simp [elO]
theorem elO_one (g esz : Nat) (x : List AVal) : elO g 0 1 (some (g, .row esz [x])) = some [x] := by simp [elO]
theorem elO_row (g g' off len esz : Nat) (l : List (List AVal)) : elO g off len (some (g', .row esz l)) = if g' = g ∧ off + len ≤ l.length then some ((l.drop off).take len) else none := Eq.trans rfl rfl

def apO (id g off len sz b8 : Nat) (m : List (List AVal)) (sto : Sto) (U : AVal → Sto → Prop) : Option (Nat × AObj) → Prop
  | some (g', .row esz l) => g' = g ∧ off = 0 ∧ len = l.length ∧ esz = sz ∧ (l.length + m.length) * b8 ≤ bigLen ∧ l.length + m.length ≤ bigLen ∧ ∀ h, U (.osl id h 0 (l.length + m.length)) (sput sto id (h, .row esz (l ++ m)))
  | _ => False
/-- An append of elements that are known. -/
def apE (L : Lay) (d e : Nat) (s : AVal) (sto : Sto) (U : AVal → Sto → Prop) : Option (List (List AVal)) → Prop
  | some m => 0 < (L e).sz ∧ (∀ y ∈ m, y.length = (L e).sz ∧ y.all AVal.isFz = true) ∧
    match s with
    | .osl id g off len => apO id g off len (L e).sz (L e).by8 m sto U (sget sto id)
    | .sl _ full l => full = true ∧ (∀ y ∈ l, y.length = (L e).sz ∧ y.all AVal.isFz = true) ∧ (l.length + m.length) * (L e).by8 ≤ bigLen ∧ l.length + m.length ≤ bigLen ∧
          (m ≠ [] ∨ l = []) ∧ ∀ h, U (.osl d h 0 (l.length + m.length)) (sput sto d (h, .row (L e).sz (l ++ m)))
    | _ => False
  | none => False
def apA (L : Lay) (d : Nat) (s x : AVal) (sto : Sto) (U : AVal → Sto → Prop) : Ty → Prop
  | .slice e => apE L d e s sto U (elemsOf x sto)
  | _ => False
theorem ap_eq (d t : Nat) (s x : AVal) : vcAppend L d t t s x sto U = apA L d s x sto U (L t).ty := by
  unfold vcAppend apA
  simp only [true_and]
  cases (L t).ty with
  | slice e =>
    simp only
    cases h : elemsOf x sto with
    | none => simp [apE]
    | some m =>
      simp only [Option.some.injEq, exists_eq_left', apE]
      cases s with
      | osl id g off len => simp only; cases sget sto id with | none => rfl | some x => obtain ⟨a, b⟩ := x; cases b <;> rfl
      | _ => rfl
  | _ => rfl
theorem apA_sl (d e : Nat) (s x : AVal) : apA L d s x sto U (.slice e) = apE L d e s sto U (elemsOf x sto) := Eq.trans rfl rfl
theorem apE_osl (d id g off len e : Nat) (m : List (List AVal)) : apE L d e (.osl id g off len) sto U (some m) = (0 < (L e).sz ∧ (∀ y ∈ m, y.length = (L e).sz ∧ y.all AVal.isFz = true) ∧ apO id g off len (L e).sz (L e).by8 m sto U (sget sto id)) := Eq.trans rfl rfl
theorem apO_row (id g off len sz b8 g' esz : Nat) (m l : List (List AVal)) : apO id g off len sz b8 m sto U (some (g', .row esz l)) = (g' = g ∧ off = 0 ∧ len = l.length ∧ esz = sz ∧ (l.length + m.length) * b8 ≤ bigLen ∧ l.length + m.length ≤ bigLen ∧ ∀ h, U (.osl id h 0 (l.length + m.length)) (sput sto id (h, .row esz (l ++ m)))) := Eq.trans rfl rfl
theorem apE_nil (d e : Nat) (q : Bool) (m : List (List AVal)) : apE L d e (.sl q true []) sto U (some m) =
    (0 < (L e).sz ∧ (∀ y ∈ m, y.length = (L e).sz ∧ y.all AVal.isFz = true) ∧ m.length * (L e).by8 ≤ bigLen ∧ m.length ≤ bigLen ∧ ∀ h, U (.osl d h 0 m.length) (sput sto d (h, .row (L e).sz m))) := by
  simp [apE]

def mkA (L : Lay) (d : Nat) (n c : Int) (sto : Sto) (U : AVal → Sto → Prop) : Ty → Prop
  | .slice e => 0 ≤ n ∧ n = c ∧ n * (L e).by8 ≤ bigLen ∧ n ≤ bigLen ∧ 0 < (L e).sz ∧ ∀ h, U (.osl d h 0 n.toNat) (sput sto d (h, .row (L e).sz ((List.replicate n.toNat (L e).zero).map (List.map nrm1))))
  | _ => False
theorem mk_eq (d t : Nat) (n c : Int) : vcMake L d t (.int .i64 n) (.int .i64 c) sto U = mkA L d n c sto U (L t).ty := by
  unfold vcMake mkA
  cases (L t).ty <;> rfl
theorem mkA_sl (d e : Nat) (n c : Int) : mkA L d n c sto U (.slice e) = (0 ≤ n ∧ n = c ∧ n * (L e).by8 ≤ bigLen ∧ n ≤ bigLen ∧ 0 < (L e).sz ∧ ∀ h, U (.osl d h 0 n.toNat) (sput sto d (h, .row (L e).sz ((List.replicate n.toNat (L e).zero).map (List.map nrm1))))) := Eq.trans rfl rfl

/-- Behind the cells that are filled. -/
def bsC (L : Lay) (d n e : Nat) (sto : Sto) (U : AVal → Sto → Prop) : Option (List AVal) → Prop
  | some cs => cs.all AVal.isFz = true ∧ ∀ h, U (.osl d h 0 n) (sput sto d (h, .row (L e).sz ((chunks (L e).sz n cs).map (List.map nrm1))))
  | none => False
def bsA (L : Lay) (ti : TI) (d n : Nat) (ps : List (Nat × AVal)) (sto : Sto) (U : AVal → Sto → Prop) : Ty → Prop
  | .slice e => 0 < (L e).sz ∧ n * (L e).sz ≤ 1000000 ∧ bsC L d n e sto U (fillC L ti (List.replicate n (L e).zero).flatten ps)
  | _ => False
theorem bs_eq (d t n : Nat) (ps : List (Nat × AVal)) : vcBuildSlice L d t n ps sto U = bsA L (L t) d n ps sto U (L t).ty := by
  unfold vcBuildSlice bsA
  cases (L t).ty with
  | slice e =>
    simp only
    cases h : fillC L (L t) (List.replicate n (L e).zero).flatten ps with
    | none => simp [bsC]
    | some m => simp only [Option.some.injEq, exists_eq_left', bsC]
  | _ => rfl
theorem bsA_sl (ti : TI) (d n e : Nat) (ps : List (Nat × AVal)) : bsA L ti d n ps sto U (.slice e) = (0 < (L e).sz ∧ n * (L e).sz ≤ 1000000 ∧ bsC L d n e sto U (fillC L ti (List.replicate n (L e).zero).flatten ps)) := Eq.trans rfl rfl
theorem bsC_some (d n e : Nat) (cs : List AVal) : bsC L d n e sto U (some cs) = (cs.all AVal.isFz = true ∧ ∀ h, U (.osl d h 0 n) (sput sto d (h, .row (L e).sz ((chunks (L e).sz n cs).map (List.map nrm1))))) := Eq.trans rfl rfl

def fcA (L : Lay) (ti : TI) (cs : List AVal) (v : AVal) (rest : List (Nat × AVal)) : Option (Nat × Nat) → Option (List AVal)
  | some (off, sz) => if (cellsOf v).length = sz ∧ off + sz ≤ cs.length ∧ v.isWhole = true then fillC L ti (splice cs off (cellsOf v)) rest else none
  | none => none
theorem fc_nil (ti : TI) (cs : List AVal) : fillC L ti cs [] = some cs := by simp [fillC]
theorem fc_st (fs : List (Nat × Nat)) (a : Bool) (b c : Nat) (z cs : List AVal) (i : Nat) (v : AVal) (r : List (Nat × AVal)) : fillC L ⟨.struct fs, a, b, c, z⟩ cs ((i, v) :: r) = fcA L ⟨.struct fs, a, b, c, z⟩ cs v r ((fs[i]?).map fun f => (f.1, (L f.2).sz)) := by
  rw [fillC]
  simp only
  cases fs[i]? <;> rfl
theorem fc_arr (n e : Nat) (a : Bool) (b c : Nat) (z cs : List AVal) (i : Nat) (v : AVal) (r : List (Nat × AVal)) : fillC L ⟨.array n e, a, b, c, z⟩ cs ((i, v) :: r) = fcA L ⟨.array n e, a, b, c, z⟩ cs v r (some (i * (L e).sz, (L e).sz)) := by
  rw [fillC]; rfl
theorem fc_sl (e : Nat) (a : Bool) (b c : Nat) (z cs : List AVal) (i : Nat) (v : AVal) (r : List (Nat × AVal)) : fillC L ⟨.slice e, a, b, c, z⟩ cs ((i, v) :: r) = fcA L ⟨.slice e, a, b, c, z⟩ cs v r (some (i * (L e).sz, (L e).sz)) := by
  rw [fillC]; rfl
theorem fcA_some (ti : TI) (cs : List AVal) (v : AVal) (r : List (Nat × AVal)) (off sz : Nat) : fcA L ti cs v r (some (off, sz)) = if (cellsOf v).length = sz ∧ off + sz ≤ cs.length ∧ v.isWhole = true then fillC L ti (splice cs off (cellsOf v)) r else none := Eq.trans rfl rfl
theorem bb_eql (t : Nat) (a b : Bool) : vcBin L .eql t (.bool a) (.bool b) T = ((L t).ty = .bool ∧ T (.bool (a == b))) := Eq.trans rfl rfl
theorem bb_neq (t : Nat) (a b : Bool) : vcBin L .neq t (.bool a) (.bool b) T = ((L t).ty = .bool ∧ T (.bool (!(a == b)))) := Eq.trans rfl rfl
/-- Two arrays of numbers. -/
def eqN (sz : Nat) (ag : Bool) (neg : Bool) (n : Nat) (T : AVal → Prop) : Option (List Int) → Option (List Int) → Prop
  | some a, some b => a.length = n ∧ b.length = n ∧ n ≤ 1000 ∧ sz = 1 ∧ ag = false ∧ T (.bool (if neg then !decide (a = b) else decide (a = b)))
  | _, _ => False
def eqI (sz : Nat) (ag : Bool) (xs ys : List AVal) (neg : Bool) (n : Nat) (T : AVal → Prop) : Ty → Prop
  | .int k => eqN sz ag neg n T (intsOf k xs) (intsOf k ys)
  | _ => False
def eqA (L : Lay) (xs ys : List AVal) (neg : Bool) (T : AVal → Prop) : Ty → Prop
  | .array n e => eqI (L e).sz (L e).ag xs ys neg n T (L e).ty
  | _ => False
theorem ba_gen (t : Nat) (a b : List AVal) (neg : Bool) : vcEqAgg L t a b (fun r => T (.bool (if neg then !r else r))) = eqA L a b neg T (L t).ty := by
  unfold vcEqAgg eqA
  cases (L t).ty with
  | array n e =>
    simp only
    unfold eqI
    cases (L e).ty with
    | int k =>
      simp only
      cases h1 : intsOf k a <;> cases h2 : intsOf k b <;> simp [eqN]
    | _ => rfl
  | _ => rfl
theorem ba_eql (t : Nat) (a b : List AVal) : vcBin L .eql t (.agg a) (.agg b) T = eqA L a b false T (L t).ty := ba_gen t a b false
theorem ba_neq (t : Nat) (a b : List AVal) : vcBin L .neq t (.agg a) (.agg b) T = eqA L a b true T (L t).ty := ba_gen t a b true
theorem eqA_arr (xs ys : List AVal) (neg : Bool) (n e : Nat) : eqA L xs ys neg T (.array n e) = eqI (L e).sz (L e).ag xs ys neg n T (L e).ty := Eq.trans rfl rfl
theorem eqI_int (sz : Nat) (ag : Bool) (xs ys : List AVal) (neg : Bool) (n : Nat) (k : IntKind) : eqI sz ag xs ys neg n T (.int k) = eqN sz ag neg n T (intsOf k xs) (intsOf k ys) := Eq.trans rfl rfl
theorem eqN_some (sz : Nat) (ag : Bool) (neg : Bool) (n : Nat) (a b : List Int) : eqN sz ag neg n T (some a) (some b) = (a.length = n ∧ b.length = n ∧ n ≤ 1000 ∧ sz = 1 ∧ ag = false ∧ T (.bool (if neg then !decide (a = b) else decide (a = b)))) := Eq.trans rfl rfl
theorem io_nil (k : IntKind) : intsOf k [] = some [] := Eq.trans rfl rfl
theorem io_cons (k : IntKind) (n : Int) (r : List AVal) : intsOf k (.int k n :: r) = (intsOf k r).map (n :: ·) := by simp [intsOf]
theorem io_map (k : IntKind) (l : List Int) : intsOf k (l.map (AVal.int k)) = some l := by induction l with | nil => rfl | cons a l ih => simp [intsOf, ih]
theorem ar_i64 (n : Int) : vcArith .i64 n T = (inI64 n ∧ T (.int .i64 n)) := Eq.trans rfl rfl
theorem ar_u8 (n : Int) : vcArith .u8 n T = T (.int .u8 (IntKind.u8.wrap n)) := Eq.trans rfl rfl
theorem ar_u16 (n : Int) : vcArith .u16 n T = T (.int .u16 (IntKind.u16.wrap n)) := Eq.trans rfl rfl
theorem ar_u32 (n : Int) : vcArith .u32 n T = T (.int .u32 (IntKind.u32.wrap n)) := Eq.trans rfl rfl
theorem ar_u64 (n : Int) : vcArith .u64 n T = T (.int .u64 (IntKind.u64.wrap n)) := Eq.trans rfl rfl
theorem ar_i32 (n : Int) : vcArith .i32 n T = T (.int .i32 (IntKind.i32.wrap n)) := Eq.trans rfl rfl
theorem un_not (b : Bool) : vcUn .not (.bool b) T = T (.bool !b) := Eq.trans rfl rfl
theorem un_neg (k : IntKind) (n : Int) : vcUn .neg (.int k n) T = vcArith k (0 - n) T := Eq.trans rfl rfl
theorem un_xor (k : IntKind) (n : Int) : vcUn .xor (.int k n) T = T (.int k (bitsOf .xor k (if k.signed then -1 else k.max) n)) := Eq.trans rfl rfl

def slA (L : Lay) (x : AVal) (lo hi mx : Option AVal) (sto : Sto) (T : AVal → Prop) : Ty → Prop
  | .string => match x with
    | .str s => mx.isNone = true ∧ intArg lo 0 fun l => intArg hi s.size fun h => (l ≤ h ∧ h ≤ s.size) ∧ T (.str (s.extract l h))
    | _ => False
  | .slice e => match x with
    | .sl q full es => intArg lo 0 fun l => intArg hi es.length fun h => intArg mx es.length fun m =>
      (l ≤ h ∧ h ≤ m ∧ m ≤ es.length) ∧ (l = 0 ∨ ∀ y ∈ es, y.length = (L e).sz) ∧ T (.sl q (slFull mx full h m es.length) ((es.take h).drop l))
    | .osl id g off len => mx.isNone = true ∧ (∃ g' l, sget sto id = some (g', .row (L e).sz l) ∧ g' = g) ∧ intArg lo 0 fun l => intArg hi len fun h => (l ≤ h ∧ h ≤ len) ∧ T (.osl id g (off + l) (h - l))
    | _ => False
  | _ => False
theorem sl_eq (t : Nat) (x : AVal) (lo hi mx : Option AVal) : vcSlice L t x lo hi mx sto T = slA L x lo hi mx sto T (L t).ty := by
  unfold vcSlice slA
  cases (L t).ty <;> first | rfl | (cases x <;> rfl)
theorem slA_str (s : ByteArray) (lo hi mx : Option AVal) : slA L (.str s) lo hi mx sto T .string = (mx.isNone = true ∧ intArg lo 0 fun l => intArg hi s.size fun h => (l ≤ h ∧ h ≤ s.size) ∧ T (.str (s.extract l h))) := Eq.trans rfl rfl
theorem slA_sl (q full : Bool) (es : List (List AVal)) (lo hi mx : Option AVal) (e : Nat) : slA L (.sl q full es) lo hi mx sto T (.slice e) = intArg lo 0 fun l => intArg hi es.length fun h => intArg mx es.length fun m => (l ≤ h ∧ h ≤ m ∧ m ≤ es.length) ∧ (l = 0 ∨ ∀ y ∈ es, y.length = (L e).sz) ∧ T (.sl q (slFull mx full h m es.length) ((es.take h).drop l)) := Eq.trans rfl rfl
theorem slA_osl (id g off len : Nat) (lo hi mx : Option AVal) (e : Nat) : slA L (.osl id g off len) lo hi mx sto T (.slice e) = (mx.isNone = true ∧ (∃ g' l, sget sto id = some (g', .row (L e).sz l) ∧ g' = g) ∧ intArg lo 0 fun l => intArg hi len fun h => (l ≤ h ∧ h ≤ len) ∧ T (.osl id g (off + l) (h - l))) := Eq.trans rfl rfl
theorem ia_none (d : Nat) (Q : Nat → Prop) : intArg none d Q = Q d := Eq.trans rfl rfl
theorem ia_some (k : IntKind) (n : Int) (d : Nat) (Q : Nat → Prop) : intArg (some (.int k n)) d Q = (0 ≤ n ∧ Q n.toNat) := Eq.trans rfl rfl
theorem sf_none (f : Bool) (h m n : Nat) : slFull none f h m n = (f && decide (h = n)) := Eq.trans rfl rfl
theorem sf_some (v : AVal) (f : Bool) (h m n : Nat) : slFull (some v) f h m n = decide (m = h) := Eq.trans rfl rfl

def cvA (L : Lay) (s : Nat) (x : AVal) (T : AVal → Prop) : Ty → Prop
  | .int k => match x with | .int _ n => T (.int k (k.wrap n)) | _ => False
  | .string => match x with | .str s' => (L s).ty = .string ∧ T (.str s') | _ => False
  | _ => False
theorem cv_eq (s t : Nat) (x : AVal) : vcConvert L s t x T = ((L s).ty ≠ .other ∧ cvA L s x T (L t).ty) := by
  unfold vcConvert cvA
  cases (L t).ty <;> first | rfl | (cases x <;> rfl)
theorem cvA_int (s : Nat) (k k' : IntKind) (n : Int) : cvA L s (.int k' n) T (.int k) = T (.int k (k.wrap n)) := Eq.trans rfl rfl
theorem cvA_str (s : Nat) (b : ByteArray) : cvA L s (.str b) T .string = ((L s).ty = .string ∧ T (.str b)) := Eq.trans rfl rfl

def lv (z : AVal) (ok : Bool) : Option AVal → AVal
  | some v => if ok then .tup [v, .bool true] else v
  | none => if ok then .tup [z, .bool false] else z
def luO (z : AVal) (g : Nat) (key : ByteArray) (ok : Bool) (T : AVal → Prop) : Option (Nat × AObj) → Prop
  | some (g', .mp es) => g' = g ∧ T (lv z ok (mfind es key))
  | _ => False
def luA (L : Lay) (m k : AVal) (ok : Bool) (sto : Sto) (T : AVal → Prop) : Ty → Prop
  | .map kt et => (L kt).ty = .string ∧ (L et).sz = 1 ∧ (L et).ag = false ∧
    match m, k with
    | .map id g, .str key => luO ((L et).zero.headD .undef) g key ok T (sget sto id)
    | _, _ => False
  | _ => False
theorem lu_eq (t : Nat) (m k : AVal) (ok : Bool) : vcLookup L t m k ok sto T = luA L m k ok sto T (L t).ty := by
  unfold vcLookup luA
  cases (L t).ty with
  | map kt et =>
    simp only
    congr 3
  | _ => rfl
theorem luA_map (id g kt et : Nat) (key : ByteArray) (ok : Bool) : luA L (.map id g) (.str key) ok sto T (.map kt et) = ((L kt).ty = .string ∧ (L et).sz = 1 ∧ (L et).ag = false ∧ luO ((L et).zero.headD .undef) g key ok T (sget sto id)) := Eq.trans rfl rfl
theorem luO_mp (z : AVal) (g g' : Nat) (key : ByteArray) (ok : Bool) (es : List (ByteArray × AVal)) : luO z g key ok T (some (g', .mp es)) = (g' = g ∧ T (lv z ok (mfind es key))) := Eq.trans rfl rfl
theorem lv_some (z v : AVal) (ok : Bool) : lv z ok (some v) = if ok then .tup [v, .bool true] else v := Eq.trans rfl rfl
theorem lv_none (z : AVal) (ok : Bool) : lv z ok none = if ok then .tup [z, .bool false] else z := Eq.trans rfl rfl
def muO (id g : Nat) (key : ByteArray) (v : AVal) (sto : Sto) (V : Sto → Prop) : Option (Nat × AObj) → Prop
  | some (g', .mp es) => g' = g ∧ es.length + 1 ≤ bigLen ∧ V (sput sto id (g, .mp (mput es key v)))
  | _ => False
def muA (L : Lay) (m k v : AVal) (sto : Sto) (V : Sto → Prop) : Ty → Prop
  | .map kt et => (L kt).ty = .string ∧ (L et).sz = 1 ∧ (L et).ag = false ∧ v.isFz = true ∧
    match m, k with
    | .map id g, .str key => muO id g key v sto V (sget sto id)
    | _, _ => False
  | _ => False
theorem mu_eq (t : Nat) (m k v : AVal) : vcMapUpdate L t m k v sto V = muA L m k v sto V (L t).ty := by
  unfold vcMapUpdate muA
  cases (L t).ty with
  | map kt et =>
    simp only
    congr 4
  | _ => rfl
theorem muA_map (id g kt et : Nat) (key : ByteArray) (v : AVal) : muA L (.map id g) (.str key) v sto V (.map kt et) = ((L kt).ty = .string ∧ (L et).sz = 1 ∧ (L et).ag = false ∧ v.isFz = true ∧ muO id g key v sto V (sget sto id)) := Eq.trans rfl rfl
theorem muO_mp (id g g' : Nat) (key : ByteArray) (v : AVal) (es : List (ByteArray × AVal)) : muO id g key v sto V (some (g', .mp es)) = (g' = g ∧ es.length + 1 ≤ bigLen ∧ V (sput sto id (g, .mp (mput es key v)))) := Eq.trans rfl rfl
theorem vn_sl (t : Nat) (q f : Bool) (l : List (List AVal)) (B : Bool → Prop) : vcNil L t (.sl q f l) B = ((∃ e, (L t).ty = .slice e) ∧ ∀ b : Bool, (b = true → l = []) → B b) := Eq.trans rfl rfl
theorem vn_osl (t id g o n : Nat) (B : Bool → Prop) : vcNil L t (.osl id g o n) B = ((∃ e, (L t).ty = .slice e) ∧ ∀ b : Bool, (b = true → n = 0) → B b) := Eq.trans rfl rfl
theorem co_agg (cs : List AVal) : cellsOf (.agg cs) = cs := Eq.trans rfl rfl
theorem co_nil : cellsOf .nil = [.nil] := Eq.trans rfl rfl
theorem co_nilmap : cellsOf .nilmap = [.nilmap] := Eq.trans rfl rfl
theorem co_nilfn : cellsOf .nilfn = [.nilfn] := Eq.trans rfl rfl
theorem iw_agg (cs : List AVal) : (AVal.agg cs).isWhole = true := Eq.trans rfl rfl
theorem iw_nil : AVal.nil.isWhole = true := Eq.trans rfl rfl
theorem iw_nilmap : AVal.nilmap.isWhole = true := Eq.trans rfl rfl
theorem iw_nilfn : AVal.nilfn.isWhole = true := Eq.trans rfl rfl
theorem fz_nil : AVal.nil.isFz = true := Eq.trans rfl rfl
theorem fz_fn (f : Nat) : (AVal.fn f []).isFz = true := Eq.trans rfl rfl
theorem fz_osl (a b c d : Nat) : (AVal.osl a b c d).isFz = false := Eq.trans rfl rfl
theorem ch_zero (sz : Nat) (cs : List AVal) : chunks sz 0 cs = [] := Eq.trans rfl rfl
theorem ch_succ (sz n : Nat) (cs : List AVal) : chunks sz (n + 1) cs = cs.take sz :: chunks sz n (cs.drop sz) := Eq.trans rfl rfl
theorem ch_one (sz : Nat) (cs : List AVal) : chunks sz 1 cs = [cs.take sz] := Eq.trans rfl rfl
theorem sp_eq (cs : List AVal) (off : Nat) (vs : List AVal) : splice cs off vs = cs.take off ++ vs ++ cs.drop (off + vs.length) := Eq.trans rfl rfl
theorem bi_add (t : Nat) (k k' : IntKind) (a b : Int) : vcBin L .add t (.int k a) (.int k' b) T = (k = k' ∧ vcInt .add k a b T) := Eq.trans rfl rfl
theorem bi_sub (t : Nat) (k k' : IntKind) (a b : Int) : vcBin L .sub t (.int k a) (.int k' b) T = (k = k' ∧ vcInt .sub k a b T) := Eq.trans rfl rfl
theorem bi_mul (t : Nat) (k k' : IntKind) (a b : Int) : vcBin L .mul t (.int k a) (.int k' b) T = (k = k' ∧ vcInt .mul k a b T) := Eq.trans rfl rfl
theorem bi_quo (t : Nat) (k k' : IntKind) (a b : Int) : vcBin L .quo t (.int k a) (.int k' b) T = (k = k' ∧ vcInt .quo k a b T) := Eq.trans rfl rfl
theorem bi_rem (t : Nat) (k k' : IntKind) (a b : Int) : vcBin L .rem t (.int k a) (.int k' b) T = (k = k' ∧ vcInt .rem k a b T) := Eq.trans rfl rfl
theorem bi_and (t : Nat) (k k' : IntKind) (a b : Int) : vcBin L .and t (.int k a) (.int k' b) T = (k = k' ∧ vcInt .and k a b T) := Eq.trans rfl rfl
theorem bi_or (t : Nat) (k k' : IntKind) (a b : Int) : vcBin L .or t (.int k a) (.int k' b) T = (k = k' ∧ vcInt .or k a b T) := Eq.trans rfl rfl
theorem bi_xor (t : Nat) (k k' : IntKind) (a b : Int) : vcBin L .xor t (.int k a) (.int k' b) T = (k = k' ∧ vcInt .xor k a b T) := Eq.trans rfl rfl
theorem bi_andNot (t : Nat) (k k' : IntKind) (a b : Int) : vcBin L .andNot t (.int k a) (.int k' b) T = (k = k' ∧ vcInt .andNot k a b T) := Eq.trans rfl rfl
theorem bi_eql (t : Nat) (k k' : IntKind) (a b : Int) : vcBin L .eql t (.int k a) (.int k' b) T = (k = k' ∧ vcInt .eql k a b T) := Eq.trans rfl rfl
theorem bi_neq (t : Nat) (k k' : IntKind) (a b : Int) : vcBin L .neq t (.int k a) (.int k' b) T = (k = k' ∧ vcInt .neq k a b T) := Eq.trans rfl rfl
theorem bi_lss (t : Nat) (k k' : IntKind) (a b : Int) : vcBin L .lss t (.int k a) (.int k' b) T = (k = k' ∧ vcInt .lss k a b T) := Eq.trans rfl rfl
theorem bi_leq (t : Nat) (k k' : IntKind) (a b : Int) : vcBin L .leq t (.int k a) (.int k' b) T = (k = k' ∧ vcInt .leq k a b T) := Eq.trans rfl rfl
theorem bi_gtr (t : Nat) (k k' : IntKind) (a b : Int) : vcBin L .gtr t (.int k a) (.int k' b) T = (k = k' ∧ vcInt .gtr k a b T) := Eq.trans rfl rfl
theorem bi_geq (t : Nat) (k k' : IntKind) (a b : Int) : vcBin L .geq t (.int k a) (.int k' b) T = (k = k' ∧ vcInt .geq k a b T) := Eq.trans rfl rfl
theorem ii_add (k : IntKind) (a b : Int) : vcInt .add k a b T = vcArith k (a + b) T := Eq.trans rfl rfl
theorem ii_sub (k : IntKind) (a b : Int) : vcInt .sub k a b T = vcArith k (a - b) T := Eq.trans rfl rfl
theorem ii_mul (k : IntKind) (a b : Int) : vcInt .mul k a b T = vcArith k (a * b) T := Eq.trans rfl rfl
theorem ii_quo (k : IntKind) (a b : Int) : vcInt .quo k a b T = (b ≠ 0 ∧ vcArith k (a.tdiv b) T) := Eq.trans rfl rfl
theorem ii_rem (k : IntKind) (a b : Int) : vcInt .rem k a b T = (b ≠ 0 ∧ T (.int k (a.tmod b))) := Eq.trans rfl rfl
theorem ii_and (k : IntKind) (a b : Int) : vcInt .and k a b T = T (.int k (bitsOf .and k a b)) := Eq.trans rfl rfl
theorem ii_or (k : IntKind) (a b : Int) : vcInt .or k a b T = T (.int k (bitsOf .or k a b)) := Eq.trans rfl rfl
theorem ii_xor (k : IntKind) (a b : Int) : vcInt .xor k a b T = T (.int k (bitsOf .xor k a b)) := Eq.trans rfl rfl
theorem ii_andNot (k : IntKind) (a b : Int) : vcInt .andNot k a b T = T (.int k (bitsOf .andNot k a b)) := Eq.trans rfl rfl
theorem ii_eql (k : IntKind) (a b : Int) : vcInt .eql k a b T = T (.bool (decide (a = b))) := Eq.trans rfl rfl
theorem ii_neq (k : IntKind) (a b : Int) : vcInt .neq k a b T = T (.bool (!decide (a = b))) := Eq.trans rfl rfl
theorem ii_lss (k : IntKind) (a b : Int) : vcInt .lss k a b T = T (.bool (decide (a < b))) := Eq.trans rfl rfl
theorem ii_leq (k : IntKind) (a b : Int) : vcInt .leq k a b T = T (.bool (decide (a ≤ b))) := Eq.trans rfl rfl
theorem ii_gtr (k : IntKind) (a b : Int) : vcInt .gtr k a b T = T (.bool (decide (b < a))) := Eq.trans rfl rfl
theorem ii_geq (k : IntKind) (a b : Int) : vcInt .geq k a b T = T (.bool (decide (b ≤ a))) := Eq.trans rfl rfl
theorem bi_shl (t : Nat) (k k' : IntKind) (a b : Int) : vcBin L .shl t (.int k a) (.int k' b) T = vcShift .shl k a b T := Eq.trans rfl rfl
theorem bi_shr (t : Nat) (k k' : IntKind) (a b : Int) : vcBin L .shr t (.int k a) (.int k' b) T = vcShift .shr k a b T := Eq.trans rfl rfl
theorem sh_shl (k : IntKind) (a b : Int) : vcShift .shl k a b T = (0 ≤ b ∧ T (.int k (k.wrap (a * 2 ^ min b.toNat k.bits)))) := Eq.trans rfl rfl
theorem sh_shr (k : IntKind) (a b : Int) : vcShift .shr k a b T = (0 ≤ b ∧ T (.int k (a.fdiv (2 ^ min b.toNat k.bits)))) := Eq.trans rfl rfl
theorem ss_add (t : Nat) (a b : ByteArray) : vcBin L .add t (.str a) (.str b) T = (a.size + b.size ≤ maxLen ∧ T (.str (a ++ b))) := Eq.trans rfl rfl
theorem ss_eql (t : Nat) (a b : ByteArray) : vcBin L .eql t (.str a) (.str b) T = T (.bool (decide (a = b))) := Eq.trans rfl rfl
theorem ss_neq (t : Nat) (a b : ByteArray) : vcBin L .neq t (.str a) (.str b) T = T (.bool (!decide (a = b))) := Eq.trans rfl rfl
theorem ss_lss (t : Nat) (a b : ByteArray) : vcBin L .lss t (.str a) (.str b) T = T (.bool (Op.bytesLess a.toList b.toList)) := Eq.trans rfl rfl
theorem ss_gtr (t : Nat) (a b : ByteArray) : vcBin L .gtr t (.str a) (.str b) T = T (.bool (!(Op.bytesLess a.toList b.toList || decide (a = b)))) := Eq.trans rfl rfl
theorem ss_leq (t : Nat) (a b : ByteArray) : vcBin L .leq t (.str a) (.str b) T = T (.bool (Op.bytesLess a.toList b.toList || decide (a = b))) := Eq.trans rfl rfl
theorem ss_geq (t : Nat) (a b : ByteArray) : vcBin L .geq t (.str a) (.str b) T = T (.bool (!Op.bytesLess a.toList b.toList)) := Eq.trans rfl rfl
theorem co_bool (b : Bool) : cellsOf (.bool b) = [.bool b] := Eq.trans rfl rfl
theorem iw_bool (b : Bool) : (AVal.bool b).isWhole = true := Eq.trans rfl rfl
theorem fz_bool (b : Bool) : (AVal.bool b).isFz = true := Eq.trans rfl rfl
theorem co_int (k : IntKind) (n : Int) : cellsOf (.int k n) = [.int k n] := Eq.trans rfl rfl
theorem iw_int (k : IntKind) (n : Int) : (AVal.int k n).isWhole = true := Eq.trans rfl rfl
theorem fz_int (k : IntKind) (n : Int) : (AVal.int k n).isFz = true := Eq.trans rfl rfl
theorem co_str (s : ByteArray) : cellsOf (.str s) = [.str s] := Eq.trans rfl rfl
theorem iw_str (s : ByteArray) : (AVal.str s).isWhole = true := Eq.trans rfl rfl
theorem fz_str (s : ByteArray) : (AVal.str s).isFz = true := Eq.trans rfl rfl
theorem co_sl (q f : Bool) (l : List (List AVal)) : cellsOf (.sl q f l) = [.sl q f l] := Eq.trans rfl rfl
theorem iw_sl (q f : Bool) (l : List (List AVal)) : (AVal.sl q f l).isWhole = true := Eq.trans rfl rfl
theorem fz_sl (q f : Bool) (l : List (List AVal)) : (AVal.sl q f l).isFz = true := Eq.trans rfl rfl
theorem co_ref (q : Bool) (l : List AVal) : cellsOf (.ref q l) = [.ref q l] := Eq.trans rfl rfl
theorem iw_ref (q : Bool) (l : List AVal) : (AVal.ref q l).isWhole = true := Eq.trans rfl rfl
theorem fz_ref (q : Bool) (l : List AVal) : (AVal.ref q l).isFz = true := Eq.trans rfl rfl
theorem co_osl (a b c d : Nat) : cellsOf (.osl a b c d) = [.osl a b c d] := Eq.trans rfl rfl
theorem iw_osl (a b c d : Nat) : (AVal.osl a b c d).isWhole = true := Eq.trans rfl rfl
theorem co_bx (a b c : Nat) : cellsOf (.bx a b c) = [.bx a b c] := Eq.trans rfl rfl
theorem iw_bx (a b c : Nat) : (AVal.bx a b c).isWhole = true := Eq.trans rfl rfl
theorem co_loc (a b c d : Nat) : cellsOf (.loc a b c d) = [.loc a b c d] := Eq.trans rfl rfl
theorem iw_loc (a b c d : Nat) : (AVal.loc a b c d).isWhole = true := Eq.trans rfl rfl
theorem co_map (a b : Nat) : cellsOf (.map a b) = [.map a b] := Eq.trans rfl rfl
theorem iw_map (a b : Nat) : (AVal.map a b).isWhole = true := Eq.trans rfl rfl
theorem co_fn (f : Nat) (l : List AVal) : cellsOf (.fn f l) = [.fn f l] := Eq.trans rfl rfl
theorem iw_fn (f : Nat) (l : List AVal) : (AVal.fn f l).isWhole = true := Eq.trans rfl rfl
end
end Go.Rad
