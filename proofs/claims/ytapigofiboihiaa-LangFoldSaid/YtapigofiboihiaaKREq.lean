/- The equations by which the pieces of a region are reduced, by the forms of what they take. -/
import Derived.Test.YtapigofiboihiaaKRFrz
set_option linter.all false
namespace Go.Rad
open Go
section
variable {P : Program} {L : Lay} {T : AVal → Prop} {U : AVal → Sto → Prop} {V : Sto → Prop} {sto : Sto}

def ldB (ti : TI) (g off : Nat) (T : AVal → Prop) : Option (Nat × AObj) → Prop
  | some (g', .box cs) => g' = g ∧ off + ti.sz ≤ cs.length ∧ 0 < ti.sz ∧ T (mkv ti (cs.drop off))
  | _ => False
def ldR (ti : TI) (g i off : Nat) (T : AVal → Prop) : Option (Nat × AObj) → Prop
  | some (g', .row esz l) => g' = g ∧ i < l.length ∧ off + ti.sz ≤ esz ∧ 0 < ti.sz ∧ ∀ x, l[i]? = some x → T (mkv ti (x.drop off))
  | _ => False
theorem ld_bx (t id g off : Nat) : vcLoad L t (.bx id g off) sto T = ldB (L t) g off T (sget sto id) := by simp only [vcLoad]; cases sget sto id with | none => rfl | some x => obtain ⟨a, b⟩ := x; cases b <;> rfl
theorem ld_loc (t id g i off : Nat) : vcLoad L t (.loc id g i off) sto T = ldR (L t) g i off T (sget sto id) := by simp only [vcLoad]; cases sget sto id with | none => rfl | some x => obtain ⟨a, b⟩ := x; cases b <;> rfl
theorem ld_ref (t : Nat) (q : Bool) (cs : List AVal) : vcLoad L t (.ref q cs) sto T = ((L t).sz ≤ cs.length ∧ 0 < (L t).sz ∧ T (mkv (L t) cs)) := Eq.trans rfl rfl
theorem ldB_box (ti : TI) (g off g' : Nat) (cs : List AVal) : ldB ti g off T (some (g', .box cs)) = (g' = g ∧ off + ti.sz ≤ cs.length ∧ 0 < ti.sz ∧ T (mkv ti (cs.drop off))) := Eq.trans rfl rfl
theorem ldR_row (ti : TI) (g i off g' esz : Nat) (l : List (List AVal)) : ldR ti g i off T (some (g', .row esz l)) = (g' = g ∧ i < l.length ∧ off + ti.sz ≤ esz ∧ 0 < ti.sz ∧ ∀ x, l[i]? = some x → T (mkv ti (x.drop off))) := Eq.trans rfl rfl
theorem ldR_map {α : Type} (ti : TI) (g i off g' esz : Nat) (l : List α) (gg : α → List AVal) : ldR ti g i off T (some (g', .row esz (l.map gg))) = (g' = g ∧ i < l.length ∧ off + ti.sz ≤ esz ∧ 0 < ti.sz ∧ ∀ k, l[i]? = some k → T (mkv ti ((gg k).drop off))) := by
  rw [ldR_row, List.length_map]
  apply propext
  refine and_congr Iff.rfl (and_congr Iff.rfl (and_congr Iff.rfl (and_congr Iff.rfl ⟨fun h k hk => h (gg k) (by rw [List.getElem?_map, hk]; rfl), fun h x hx => ?_⟩)))
  rw [List.getElem?_map] at hx
  obtain ⟨k, hk, rfl⟩ := Option.map_eq_some_iff.1 hx
  exact h k hk
theorem mkv_ag (ty : Ty) (sz b : Nat) (z cs : List AVal) : mkv ⟨ty, true, sz, b, z⟩ cs = .agg (cs.take sz) := Eq.trans rfl rfl
theorem mkv_one (ty : Ty) (sz b : Nat) (z cs : List AVal) : mkv ⟨ty, false, sz, b, z⟩ cs = cs.headD .undef := Eq.trans rfl rfl

def stB (ti : TI) (id g off : Nat) (vs : List AVal) (sto : Sto) (V : Sto → Prop) : Option (Nat × AObj) → Prop
  | some (g', .box cs) => g' = g ∧ off + ti.sz ≤ cs.length ∧ V (sput sto id (g, .box (splice cs off vs)))
  | _ => False
def stR (ti : TI) (id g i off : Nat) (vs : List AVal) (sto : Sto) (V : Sto → Prop) : Option (Nat × AObj) → Prop
  | some (g', .row esz l) => g' = g ∧ i < l.length ∧ off + ti.sz ≤ esz ∧ vs.all AVal.isFz = true ∧ ∀ x, l[i]? = some x → V (sput sto id (g, .row esz (l.set i (splice x off vs))))
  | _ => False
theorem st_bx (t id g off : Nat) (v : AVal) : vcStore L t (.bx id g off) v sto V = (v.isWhole = true ∧ (cellsOf v).length = (L t).sz ∧ stB (L t) id g off (cellsOf v) sto V (sget sto id)) := by simp only [vcStore]; cases sget sto id with | none => rfl | some x => obtain ⟨a, b⟩ := x; cases b <;> rfl
theorem st_loc (t id g i off : Nat) (v : AVal) : vcStore L t (.loc id g i off) v sto V = (v.isWhole = true ∧ (cellsOf v).length = (L t).sz ∧ stR (L t) id g i off (cellsOf v) sto V (sget sto id)) := by simp only [vcStore]; cases sget sto id with | none => rfl | some x => obtain ⟨a, b⟩ := x; cases b <;> rfl
theorem sn_bx (t id g off : Nat) (v : AVal) : vcStoreN L t (.bx id g off) v sto V = vcStore L t (.bx id g off) v sto V := Eq.trans rfl rfl
theorem sn_loc (t id g i off : Nat) (v : AVal) : vcStoreN L t (.loc id g i off) v sto V = vcStore L t (.loc id g i off) (nrmV v) sto V := Eq.trans rfl rfl
theorem nr_sl (q f : Bool) (l : List (List AVal)) : nrm1 (.sl q f l) = .sl q false l := Eq.trans rfl rfl
theorem nr_int (k : IntKind) (n : Int) : nrm1 (.int k n) = .int k n := Eq.trans rfl rfl
theorem nr_bool (b : Bool) : nrm1 (.bool b) = .bool b := Eq.trans rfl rfl
theorem nr_str (s : ByteArray) : nrm1 (.str s) = .str s := Eq.trans rfl rfl
theorem nr_ref (q : Bool) (l : List AVal) : nrm1 (.ref q l) = .ref q l := Eq.trans rfl rfl
theorem nr_nil : nrm1 .nil = .nil := Eq.trans rfl rfl
theorem nr_nilfn : nrm1 .nilfn = .nilfn := Eq.trans rfl rfl
theorem nr_nilmap : nrm1 .nilmap = .nilmap := Eq.trans rfl rfl
theorem nr_fn (f : Nat) (l : List AVal) : nrm1 (.fn f l) = .fn f l := Eq.trans rfl rfl
theorem nv_agg (cs : List AVal) : nrmV (.agg cs) = .agg (cs.map nrm1) := Eq.trans rfl rfl
theorem nv_sl (q f : Bool) (l : List (List AVal)) : nrmV (.sl q f l) = .sl q false l := Eq.trans rfl rfl
theorem nv_int (k : IntKind) (n : Int) : nrmV (.int k n) = .int k n := Eq.trans rfl rfl
theorem nv_bool (b : Bool) : nrmV (.bool b) = .bool b := Eq.trans rfl rfl
theorem nv_str (s : ByteArray) : nrmV (.str s) = .str s := Eq.trans rfl rfl
theorem nv_ref (q : Bool) (l : List AVal) : nrmV (.ref q l) = .ref q l := Eq.trans rfl rfl
theorem nv_nil : nrmV .nil = .nil := Eq.trans rfl rfl
theorem nv_fn (f : Nat) (l : List AVal) : nrmV (.fn f l) = .fn f l := Eq.trans rfl rfl
theorem stB_box (ti : TI) (id g off g' : Nat) (vs cs : List AVal) : stB ti id g off vs sto V (some (g', .box cs)) = (g' = g ∧ off + ti.sz ≤ cs.length ∧ V (sput sto id (g, .box (splice cs off vs)))) := Eq.trans rfl rfl
theorem stR_row (ti : TI) (id g i off g' esz : Nat) (vs : List AVal) (l : List (List AVal)) : stR ti id g i off vs sto V (some (g', .row esz l)) = (g' = g ∧ i < l.length ∧ off + ti.sz ≤ esz ∧ vs.all AVal.isFz = true ∧ ∀ x, l[i]? = some x → V (sput sto id (g, .row esz (l.set i (splice x off vs))))) := Eq.trans rfl rfl

def fdA (x : AVal) (T : AVal → Prop) : Option (Nat × Nat) → Prop
  | some (o, _) =>
    match x with
    | .bx id g off => T (.bx id g (off + o))
    | .loc id g i off => T (.loc id g i (off + o))
    | .ref q cs => o ≤ cs.length ∧ T (.ref q (cs.drop o))
    | _ => False
  | none => False
theorem fd_eq (ti : TI) (x : AVal) (f : Nat) : vcField ti x f T = fdA x T (foff ti f) := by
  unfold vcField
  cases foff ti f with
  | none => rfl
  | some p => obtain ⟨a, b⟩ := p; cases x <;> rfl
theorem fdA_bx (id g off o t : Nat) : fdA (.bx id g off) T (some (o, t)) = T (.bx id g (off + o)) := Eq.trans rfl rfl
theorem fdA_loc (id g i off o t : Nat) : fdA (.loc id g i off) T (some (o, t)) = T (.loc id g i (off + o)) := Eq.trans rfl rfl
theorem fdA_ref (q : Bool) (cs : List AVal) (o t : Nat) : fdA (.ref q cs) T (some (o, t)) = (o ≤ cs.length ∧ T (.ref q (cs.drop o))) := Eq.trans rfl rfl
theorem foff_st (fs : List (Nat × Nat)) (a : Bool) (b c f : Nat) (z : List AVal) : foff ⟨.struct fs, a, b, c, z⟩ f = fs[f]? := Eq.trans rfl rfl

def foA (L : Lay) (x : AVal) (T : AVal → Prop) : Option (Nat × Nat) → Prop
  | some (o, ft) =>
    match x with
    | .agg cs => o + (L ft).sz ≤ cs.length ∧ 0 < (L ft).sz ∧ T (mkv (L ft) (cs.drop o))
    | _ => False
  | none => False
theorem fo_eq (t : Nat) (x : AVal) (f : Nat) : vcFieldOf L t x f T = foA L x T (foff (L t) f) := by
  unfold vcFieldOf
  cases foff (L t) f with
  | none => rfl
  | some p => obtain ⟨a, b⟩ := p; cases x <;> rfl
theorem foA_agg (cs : List AVal) (o ft : Nat) : foA L (.agg cs) T (some (o, ft)) = (o + (L ft).sz ≤ cs.length ∧ 0 < (L ft).sz ∧ T (mkv (L ft) (cs.drop o))) := Eq.trans rfl rfl

def ixO (L : Lay) (e id g off len : Nat) (n : Int) (T : AVal → Prop) : Option (Nat × AObj) → Prop
  | some (g', .row esz _) => g' = g ∧ esz = (L e).sz ∧ (0 ≤ n ∧ n < len) ∧ T (.loc id g (off + n.toNat) 0)
  | _ => False
/-- An index into a list, an array. -/
def ixA (L : Lay) (x : AVal) (n : Int) (sto : Sto) (T : AVal → Prop) : Ty → Prop
  | .slice e =>
    match x with
    | .osl id g off len => ixO L e id g off len n T (sget sto id)
    | .sl q _ l => (0 ≤ n ∧ n < l.length) ∧ ∀ x, l[n.toNat]? = some x → x.length = (L e).sz ∧ T (.ref q x)
    | _ => False
  | .array m e =>
    (0 ≤ n ∧ n < m) ∧
    match x with
    | .bx id g off => T (.bx id g (off + n.toNat * (L e).sz))
    | .loc id g j off => T (.loc id g j (off + n.toNat * (L e).sz))
    | .ref q cs => n.toNat * (L e).sz ≤ cs.length ∧ T (.ref q (cs.drop (n.toNat * (L e).sz)))
    | _ => False
  | _ => False
theorem ix_eq (t : Nat) (x : AVal) (k : IntKind) (n : Int) : vcIndexAddr L t x (.int k n) sto T = ixA L x n sto T (L t).ty := by
  unfold vcIndexAddr ixA
  cases (L t).ty with
  | slice e =>
    cases x with
    | osl id g off len => simp only; cases sget sto id with | none => rfl | some x => obtain ⟨a, b⟩ := x; cases b <;> rfl
    | _ => rfl
  | array m e => cases x <;> rfl
  | _ => rfl
theorem ixA_osl (id g off len e : Nat) (n : Int) : ixA L (.osl id g off len) n sto T (.slice e) = ixO L e id g off len n T (sget sto id) := Eq.trans rfl rfl
theorem ixO_row (id g off len e g' esz : Nat) (n : Int) (l : List (List AVal)) : ixO L e id g off len n T (some (g', .row esz l)) = (g' = g ∧ esz = (L e).sz ∧ (0 ≤ n ∧ n < len) ∧ T (.loc id g (off + n.toNat) 0)) := Eq.trans rfl rfl
theorem ixA_sl (q f : Bool) (l : List (List AVal)) (e : Nat) (n : Int) : ixA L (.sl q f l) n sto T (.slice e) = ((0 ≤ n ∧ n < l.length) ∧ ∀ x, l[n.toNat]? = some x → x.length = (L e).sz ∧ T (.ref q x)) := Eq.trans rfl rfl
theorem ixA_map {α : Type} (q f : Bool) (l : List α) (gg : α → List AVal) (e : Nat) (n : Int) : ixA L (.sl q f (l.map gg)) n sto T (.slice e) = ((0 ≤ n ∧ n < l.length) ∧ ∀ k, l[n.toNat]? = some k → (gg k).length = (L e).sz ∧ T (.ref q (gg k))) := by
  rw [ixA_sl, List.length_map]
  apply propext
  refine and_congr Iff.rfl ⟨fun h k hk => h (gg k) (by rw [List.getElem?_map, hk]; rfl), fun h x hx => ?_⟩
  rw [List.getElem?_map] at hx
  obtain ⟨k, hk, rfl⟩ := Option.map_eq_some_iff.1 hx
  exact h k hk
theorem ixA_abx (id g off m e : Nat) (n : Int) : ixA L (.bx id g off) n sto T (.array m e) = ((0 ≤ n ∧ n < m) ∧ T (.bx id g (off + n.toNat * (L e).sz))) := Eq.trans rfl rfl
theorem ixA_aloc (id g i off m e : Nat) (n : Int) : ixA L (.loc id g i off) n sto T (.array m e) = ((0 ≤ n ∧ n < m) ∧ T (.loc id g i (off + n.toNat * (L e).sz))) := Eq.trans rfl rfl
theorem ixA_aref (q : Bool) (cs : List AVal) (m e : Nat) (n : Int) : ixA L (.ref q cs) n sto T (.array m e) = ((0 ≤ n ∧ n < m) ∧ n.toNat * (L e).sz ≤ cs.length ∧ T (.ref q (cs.drop (n.toNat * (L e).sz)))) := Eq.trans rfl rfl

def ivA (L : Lay) (x : AVal) (n : Int) (T : AVal → Prop) : Ty → Prop
  | .string => match x with
    | .str s => (0 ≤ n ∧ n < s.size) ∧ T (.int .u8 (sbyte s n.toNat))
    | _ => False
  | .array m e => match x with
    | .agg cs => (0 ≤ n ∧ n < m) ∧ n.toNat * (L e).sz + (L e).sz ≤ cs.length ∧ 0 < (L e).sz ∧ T (mkv (L e) (cs.drop (n.toNat * (L e).sz)))
    | _ => False
  | _ => False
theorem iv_eq (t : Nat) (x : AVal) (k : IntKind) (n : Int) : vcIndex L t x (.int k n) T = ivA L x n T (L t).ty := by
  unfold vcIndex ivA
  cases (L t).ty <;> first | rfl | (cases x <;> rfl)
theorem ivA_str (s : ByteArray) (n : Int) : ivA L (.str s) n T .string = ((0 ≤ n ∧ n < s.size) ∧ T (.int .u8 (sbyte s n.toNat))) := Eq.trans rfl rfl
theorem ivA_agg (cs : List AVal) (n : Int) (m e : Nat) : ivA L (.agg cs) n T (.array m e) = ((0 ≤ n ∧ n < m) ∧ n.toNat * (L e).sz + (L e).sz ≤ cs.length ∧ 0 < (L e).sz ∧ T (mkv (L e) (cs.drop (n.toNat * (L e).sz)))) := Eq.trans rfl rfl
theorem ex_tup (vs : List AVal) (i : Nat) : vcExtract (.tup vs) i T = ∃ v, vs[i]? = some v ∧ T v := Eq.trans rfl rfl

def lnO (g : Nat) (T : AVal → Prop) : Option (Nat × AObj) → Prop
  | some (g', .mp es) => g' = g ∧ T (.int .i64 es.length)
  | some (g', .mpi es) => g' = g ∧ T (.int .i64 es.length)
  | _ => False
def lnA (x : AVal) (sto : Sto) (T : AVal → Prop) : Ty → Prop
  | .string => match x with | .str s => T (.int .i64 s.size) | _ => False
  | .slice _ => match x with | .sl _ _ l => T (.int .i64 l.length) | .osl _ _ _ len => T (.int .i64 len) | _ => False
  | .array n _ => n < 4294967296 ∧ T (.int .i64 n)
  | .map _ _ => match x with
    | .nilmap => T (.int .i64 0)
    | .map id g => lnO g T (sget sto id)
    | _ => False
  | _ => False
theorem ln_eq (t : Nat) (x : AVal) : vcLen L t x sto T = lnA x sto T (L t).ty := by
  unfold vcLen lnA
  cases (L t).ty <;> first | rfl | (cases x <;> rfl)
theorem lnA_map (id g kt et : Nat) : lnA (.map id g) sto T (.map kt et) = lnO g T (sget sto id) := Eq.trans rfl rfl
theorem lnO_mp (g g' : Nat) (es : List (ByteArray × AVal)) : lnO g T (some (g', .mp es)) = (g' = g ∧ T (.int .i64 es.length)) := Eq.trans rfl rfl
theorem lnO_mpi (g g' : Nat) (es : List (Int × AVal)) : lnO g T (some (g', .mpi es)) = (g' = g ∧ T (.int .i64 es.length)) := Eq.trans rfl rfl
theorem lnA_str (s : ByteArray) : lnA (.str s) sto T .string = T (.int .i64 s.size) := Eq.trans rfl rfl
theorem lnA_sl (q f : Bool) (l : List (List AVal)) (e : Nat) : lnA (.sl q f l) sto T (.slice e) = T (.int .i64 l.length) := Eq.trans rfl rfl
theorem lnA_osl (id g o n e : Nat) : lnA (.osl id g o n) sto T (.slice e) = T (.int .i64 n) := Eq.trans rfl rfl
theorem lnA_arr (x : AVal) (n e : Nat) : lnA x sto T (.array n e) = (n < 4294967296 ∧ T (.int .i64 n)) := Eq.trans rfl rfl
theorem bl_len (d t : Nat) (x : AVal) : vcBuiltin L d .len [t] [x] sto U = vcLen L t x sto fun r => U r sto := Eq.trans rfl rfl
theorem bl_append (d t t2 : Nat) (s x : AVal) : vcBuiltin L d .append [t, t2] [s, x] sto U = vcAppend L d t t2 s x sto U := Eq.trans rfl rfl
theorem bl_max (d : Nat) (ts : List Nat) (k k' : IntKind) (a b : Int) : vcBuiltin L d .max ts [.int k a, .int k' b] sto U = (k = k' ∧ U (.int k (max a b)) sto) := Eq.trans rfl rfl
theorem bl_min (d : Nat) (ts : List Nat) (k k' : IntKind) (a b : Int) : vcBuiltin L d .min ts [.int k a, .int k' b] sto U = (k = k' ∧ U (.int k (min a b)) sto) := Eq.trans rfl rfl

def elO (g off len : Nat) : Option (Nat × AObj) → Option (List (List AVal))
  | some (g', .row _ l) => if g' = g ∧ off + len ≤ l.length then some ((l.drop off).take len) else none
  | _ => none
theorem el_sl (q f : Bool) (l : List (List AVal)) : elemsOf (.sl q f l) sto = some l := Eq.trans rfl rfl
theorem el_osl (id g off len : Nat) : elemsOf (.osl id g off len) sto = elO g off len (sget sto id) := by simp only [elemsOf]; cases sget sto id with | none => rfl | some x => obtain ⟨a, b⟩ := x; cases b <;> rfl
theorem elO_all (g esz : Nat) (l : List (List AVal)) : elO g 0 l.length (some (g, .row esz l)) = some l := by simp [elO]
theorem elO_one (g esz : Nat) (x : List AVal) : elO g 0 1 (some (g, .row esz [x])) = some [x] := by simp [elO]
theorem elO_row (g g' off len esz : Nat) (l : List (List AVal)) : elO g off len (some (g', .row esz l)) = if g' = g ∧ off + len ≤ l.length then some ((l.drop off).take len) else none := Eq.trans rfl rfl

def apO (id g off len sz b8 : Nat) (m : List (List AVal)) (sto : Sto) (U : AVal → Sto → Prop) : Option (Nat × AObj) → Prop
  | some (g', .row esz l) => g' = g ∧ off = 0 ∧ len = l.length ∧ esz = sz ∧ (l.length + m.length) * b8 ≤ bigLen ∧ l.length + m.length ≤ bigLen ∧ ∀ h, U (.osl id h 0 (l.length + m.length)) (sput sto id (h, .row esz (l ++ m)))
  | _ => False
/-- An append of elements that are known. -/
def apE (L : Lay) (d e : Nat) (s : AVal) (sto : Sto) (U : AVal → Sto → Prop) : Option (List (List AVal)) → Prop
  | some m => 0 < (L e).sz ∧ (∀ y ∈ m, y.length = (L e).sz ∧ y.all AVal.isFz = true) ∧
    match s with
    | .osl id g off len => apO id g off len (L e).sz (L e).by8 m sto U (sget sto id)
    | .sl _ full l => full = true ∧ (∀ y ∈ l, y.length = (L e).sz ∧ y.all AVal.isFz = true) ∧ (l.length + m.length) * (L e).by8 ≤ bigLen ∧ l.length + m.length ≤ bigLen ∧
          (m ≠ [] ∨ l = []) ∧ ∀ h, U (.osl d h 0 (l.length + m.length)) (sput sto d (h, .row (L e).sz (l ++ m)))
    | _ => False
  | none => False
def apA (L : Lay) (d : Nat) (s x : AVal) (sto : Sto) (U : AVal → Sto → Prop) : Ty → Prop
  | .slice e => apE L d e s sto U (elemsOf x sto)
  | _ => False
theorem ap_eq (d t : Nat) (s x : AVal) : vcAppend L d t t s x sto U = apA L d s x sto U (L t).ty := by
  unfold vcAppend apA
  simp only [true_and]
  cases (L t).ty with
  | slice e =>
    simp only
    cases h : elemsOf x sto with
    | none => simp [apE]
    | some m =>
      simp only [Option.some.injEq, exists_eq_left', apE]
      cases s with
      | osl id g off len => simp only; cases sget sto id with | none => rfl | some x => obtain ⟨a, b⟩ := x; cases b <;> rfl
      | _ => rfl
  | _ => rfl
theorem apA_sl (d e : Nat) (s x : AVal) : apA L d s x sto U (.slice e) = apE L d e s sto U (elemsOf x sto) := Eq.trans rfl rfl
theorem apE_osl (d id g off len e : Nat) (m : List (List AVal)) : apE L d e (.osl id g off len) sto U (some m) = (0 < (L e).sz ∧ (∀ y ∈ m, y.length = (L e).sz ∧ y.all AVal.isFz = true) ∧ apO id g off len (L e).sz (L e).by8 m sto U (sget sto id)) := Eq.trans rfl rfl
theorem apO_row (id g off len sz b8 g' esz : Nat) (m l : List (List AVal)) : apO id g off len sz b8 m sto U (some (g', .row esz l)) = (g' = g ∧ off = 0 ∧ len = l.length ∧ esz = sz ∧ (l.length + m.length) * b8 ≤ bigLen ∧ l.length + m.length ≤ bigLen ∧ ∀ h, U (.osl id h 0 (l.length + m.length)) (sput sto id (h, .row esz (l ++ m)))) := Eq.trans rfl rfl
theorem apE_nil (d e : Nat) (q : Bool) (m : List (List AVal)) : apE L d e (.sl q true []) sto U (some m) =
    (0 < (L e).sz ∧ (∀ y ∈ m, y.length = (L e).sz ∧ y.all AVal.isFz = true) ∧ m.length * (L e).by8 ≤ bigLen ∧ m.length ≤ bigLen ∧ ∀ h, U (.osl d h 0 m.length) (sput sto d (h, .row (L e).sz m))) := by
  simp [apE]

def mkA (L : Lay) (d : Nat) (n c : Int) (sto : Sto) (U : AVal → Sto → Prop) : Ty → Prop
  | .slice e => 0 ≤ n ∧ n = c ∧ n * (L e).by8 ≤ bigLen ∧ n ≤ bigLen ∧ 0 < (L e).sz ∧ ∀ h, U (.osl d h 0 n.toNat) (sput sto d (h, .row (L e).sz ((List.replicate n.toNat (L e).zero).map (List.map nrm1))))
  | _ => False
theorem mk_eq (d t : Nat) (n c : Int) : vcMake L d t (.int .i64 n) (.int .i64 c) sto U = mkA L d n c sto U (L t).ty := by
  unfold vcMake mkA
  cases (L t).ty <;> rfl
theorem mkA_sl (d e : Nat) (n c : Int) : mkA L d n c sto U (.slice e) = (0 ≤ n ∧ n = c ∧ n * (L e).by8 ≤ bigLen ∧ n ≤ bigLen ∧ 0 < (L e).sz ∧ ∀ h, U (.osl d h 0 n.toNat) (sput sto d (h, .row (L e).sz ((List.replicate n.toNat (L e).zero).map (List.map nrm1))))) := Eq.trans rfl rfl

/-- Behind the cells that are filled. -/
def bsC (L : Lay) (d n e : Nat) (sto : Sto) (U : AVal → Sto → Prop) : Option (List AVal) → Prop
  | some cs => cs.all AVal.isFz = true ∧ ∀ h, U (.osl d h 0 n) (sput sto d (h, .row (L e).sz ((chunks (L e).sz n cs).map (List.map nrm1))))
  | none => False
def bsA (L : Lay) (ti : TI) (d n : Nat) (ps : List (Nat × AVal)) (sto : Sto) (U : AVal → Sto → Prop) : Ty → Prop
  | .slice e => 0 < (L e).sz ∧ n * (L e).sz ≤ 1000000 ∧ bsC L d n e sto U (fillC L ti (List.replicate n (L e).zero).flatten ps)
  | _ => False
theorem bs_eq (d t n : Nat) (ps : List (Nat × AVal)) : vcBuildSlice L d t n ps sto U = bsA L (L t) d n ps sto U (L t).ty := by
  unfold vcBuildSlice bsA
  cases (L t).ty with
  | slice e =>
    simp only
    cases h : fillC L (L t) (List.replicate n (L e).zero).flatten ps with
    | none => simp [bsC]
    | some m => simp only [Option.some.injEq, exists_eq_left', bsC]
  | _ => rfl
theorem bsA_sl (ti : TI) (d n e : Nat) (ps : List (Nat × AVal)) : bsA L ti d n ps sto U (.slice e) = (0 < (L e).sz ∧ n * (L e).sz ≤ 1000000 ∧ bsC L d n e sto U (fillC L ti (List.replicate n (L e).zero).flatten ps)) := Eq.trans rfl rfl
theorem bsC_some (d n e : Nat) (cs : List AVal) : bsC L d n e sto U (some cs) = (cs.all AVal.isFz = true ∧ ∀ h, U (.osl d h 0 n) (sput sto d (h, .row (L e).sz ((chunks (L e).sz n cs).map (List.map nrm1))))) := Eq.trans rfl rfl

def fcA (L : Lay) (ti : TI) (cs : List AVal) (v : AVal) (rest : List (Nat × AVal)) : Option (Nat × Nat) → Option (List AVal)
  | some (off, sz) => if (cellsOf v).length = sz ∧ off + sz ≤ cs.length ∧ v.isWhole = true then fillC L ti (splice cs off (cellsOf v)) rest else none
  | none => none
theorem fc_nil (ti : TI) (cs : List AVal) : fillC L ti cs [] = some cs := by simp [fillC]
theorem fc_st (fs : List (Nat × Nat)) (a : Bool) (b c : Nat) (z cs : List AVal) (i : Nat) (v : AVal) (r : List (Nat × AVal)) : fillC L ⟨.struct fs, a, b, c, z⟩ cs ((i, v) :: r) = fcA L ⟨.struct fs, a, b, c, z⟩ cs v r ((fs[i]?).map fun f => (f.1, (L f.2).sz)) := by
  rw [fillC]
  simp only
  cases fs[i]? <;> rfl
theorem fc_arr (n e : Nat) (a : Bool) (b c : Nat) (z cs : List AVal) (i : Nat) (v : AVal) (r : List (Nat × AVal)) : fillC L ⟨.array n e, a, b, c, z⟩ cs ((i, v) :: r) = fcA L ⟨.array n e, a, b, c, z⟩ cs v r (some (i * (L e).sz, (L e).sz)) := by
  rw [fillC]; rfl
theorem fc_sl (e : Nat) (a : Bool) (b c : Nat) (z cs : List AVal) (i : Nat) (v : AVal) (r : List (Nat × AVal)) : fillC L ⟨.slice e, a, b, c, z⟩ cs ((i, v) :: r) = fcA L ⟨.slice e, a, b, c, z⟩ cs v r (some (i * (L e).sz, (L e).sz)) := by
  rw [fillC]; rfl
theorem fcA_some (ti : TI) (cs : List AVal) (v : AVal) (r : List (Nat × AVal)) (off sz : Nat) : fcA L ti cs v r (some (off, sz)) = if (cellsOf v).length = sz ∧ off + sz ≤ cs.length ∧ v.isWhole = true then fillC L ti (splice cs off (cellsOf v)) r else none := Eq.trans rfl rfl
theorem bb_eql (t : Nat) (a b : Bool) : vcBin L .eql t (.bool a) (.bool b) T = ((L t).ty = .bool ∧ T (.bool (a == b))) := Eq.trans rfl rfl
theorem bb_neq (t : Nat) (a b : Bool) : vcBin L .neq t (.bool a) (.bool b) T = ((L t).ty = .bool ∧ T (.bool (!(a == b)))) := Eq.trans rfl rfl
/-- Two arrays of numbers. -/
def eqN (sz : Nat) (ag : Bool) (neg : Bool) (n : Nat) (T : AVal → Prop) : Option (List Int) → Option (List Int) → Prop
  | some a, some b => a.length = n ∧ b.length = n ∧ n ≤ 1000 ∧ sz = 1 ∧ ag = false ∧ T (.bool (if neg then !decide (a = b) else decide (a = b)))
  | _, _ => False
def eqI (sz : Nat) (ag : Bool) (xs ys : List AVal) (neg : Bool) (n : Nat) (T : AVal → Prop) : Ty → Prop
  | .int k => eqN sz ag neg n T (intsOf k xs) (intsOf k ys)
  | _ => False
def eqA (L : Lay) (xs ys : List AVal) (neg : Bool) (T : AVal → Prop) : Ty → Prop
  | .array n e => eqI (L e).sz (L e).ag xs ys neg n T (L e).ty
  | _ => False
theorem ba_gen (t : Nat) (a b : List AVal) (neg : Bool) : vcEqAgg L t a b (fun r => T (.bool (if neg then !r else r))) = eqA L a b neg T (L t).ty := by
  unfold vcEqAgg eqA
  cases (L t).ty with
  | array n e =>
    simp only
    unfold eqI
    cases (L e).ty with
    | int k =>
      simp only
      cases h1 : intsOf k a <;> cases h2 : intsOf k b <;> simp [eqN]
    | _ => rfl
  | _ => rfl
theorem ba_eql (t : Nat) (a b : List AVal) : vcBin L .eql t (.agg a) (.agg b) T = eqA L a b false T (L t).ty := ba_gen t a b false
theorem ba_neq (t : Nat) (a b : List AVal) : vcBin L .neq t (.agg a) (.agg b) T = eqA L a b true T (L t).ty := ba_gen t a b true
theorem eqA_arr (xs ys : List AVal) (neg : Bool) (n e : Nat) : eqA L xs ys neg T (.array n e) = eqI (L e).sz (L e).ag xs ys neg n T (L e).ty := Eq.trans rfl rfl
theorem eqI_int (sz : Nat) (ag : Bool) (xs ys : List AVal) (neg : Bool) (n : Nat) (k : IntKind) : eqI sz ag xs ys neg n T (.int k) = eqN sz ag neg n T (intsOf k xs) (intsOf k ys) := Eq.trans rfl rfl
theorem eqN_some (sz : Nat) (ag : Bool) (neg : Bool) (n : Nat) (a b : List Int) : eqN sz ag neg n T (some a) (some b) = (a.length = n ∧ b.length = n ∧ n ≤ 1000 ∧ sz = 1 ∧ ag = false ∧ T (.bool (if neg then !decide (a = b) else decide (a = b)))) := Eq.trans rfl rfl
theorem io_nil (k : IntKind) : intsOf k [] = some [] := Eq.trans rfl rfl
theorem io_cons (k : IntKind) (n : Int) (r : List AVal) : intsOf k (.int k n :: r) = (intsOf k r).map (n :: ·) := by simp [intsOf]
theorem io_map (k : IntKind) (l : List Int) : intsOf k (l.map (AVal.int k)) = some l := by induction l with | nil => rfl | cons a l ih => simp [intsOf, ih]
theorem ar_i64 (n : Int) : vcArith .i64 n T = (inI64 n ∧ T (.int .i64 n)) := Eq.trans rfl rfl
theorem ar_u8 (n : Int) : vcArith .u8 n T = T (.int .u8 (IntKind.u8.wrap n)) := Eq.trans rfl rfl
theorem ar_u16 (n : Int) : vcArith .u16 n T = T (.int .u16 (IntKind.u16.wrap n)) := Eq.trans rfl rfl
theorem ar_u32 (n : Int) : vcArith .u32 n T = T (.int .u32 (IntKind.u32.wrap n)) := Eq.trans rfl rfl
theorem ar_u64 (n : Int) : vcArith .u64 n T = T (.int .u64 (IntKind.u64.wrap n)) := Eq.trans rfl rfl
theorem ar_i32 (n : Int) : vcArith .i32 n T = T (.int .i32 (IntKind.i32.wrap n)) := Eq.trans rfl rfl
theorem un_not (b : Bool) : vcUn .not (.bool b) T = T (.bool !b) := Eq.trans rfl rfl
theorem un_neg (k : IntKind) (n : Int) : vcUn .neg (.int k n) T = vcArith k (0 - n) T := Eq.trans rfl rfl
theorem un_xor (k : IntKind) (n : Int) : vcUn .xor (.int k n) T = T (.int k (bitsOf .xor k (if k.signed then -1 else k.max) n)) := Eq.trans rfl rfl

def slA (L : Lay) (x : AVal) (lo hi mx : Option AVal) (sto : Sto) (T : AVal → Prop) : Ty → Prop
  | .string => match x with
    | .str s => mx.isNone = true ∧ intArg lo 0 fun l => intArg hi s.size fun h => (l ≤ h ∧ h ≤ s.size) ∧ T (.str (s.extract l h))
    | _ => False
  | .slice e => match x with
    | .sl q full es => intArg lo 0 fun l => intArg hi es.length fun h => intArg mx es.length fun m =>
      (l ≤ h ∧ h ≤ m ∧ m ≤ es.length) ∧ (l = 0 ∨ ∀ y ∈ es, y.length = (L e).sz) ∧ T (.sl q (slFull mx full h m es.length) ((es.take h).drop l))
    | .osl id g off len => mx.isNone = true ∧ (∃ g' l, sget sto id = some (g', .row (L e).sz l) ∧ g' = g) ∧ intArg lo 0 fun l => intArg hi len fun h => (l ≤ h ∧ h ≤ len) ∧ T (.osl id g (off + l) (h - l))
    | _ => False
  | _ => False
theorem sl_eq (t : Nat) (x : AVal) (lo hi mx : Option AVal) : vcSlice L t x lo hi mx sto T = slA L x lo hi mx sto T (L t).ty := by
  unfold vcSlice slA
  cases (L t).ty <;> first | rfl | (cases x <;> rfl)
theorem slA_str (s : ByteArray) (lo hi mx : Option AVal) : slA L (.str s) lo hi mx sto T .string = (mx.isNone = true ∧ intArg lo 0 fun l => intArg hi s.size fun h => (l ≤ h ∧ h ≤ s.size) ∧ T (.str (s.extract l h))) := Eq.trans rfl rfl
theorem slA_sl (q full : Bool) (es : List (List AVal)) (lo hi mx : Option AVal) (e : Nat) : slA L (.sl q full es) lo hi mx sto T (.slice e) = intArg lo 0 fun l => intArg hi es.length fun h => intArg mx es.length fun m => (l ≤ h ∧ h ≤ m ∧ m ≤ es.length) ∧ (l = 0 ∨ ∀ y ∈ es, y.length = (L e).sz) ∧ T (.sl q (slFull mx full h m es.length) ((es.take h).drop l)) := Eq.trans rfl rfl
theorem slA_osl (id g off len : Nat) (lo hi mx : Option AVal) (e : Nat) : slA L (.osl id g off len) lo hi mx sto T (.slice e) = (mx.isNone = true ∧ (∃ g' l, sget sto id = some (g', .row (L e).sz l) ∧ g' = g) ∧ intArg lo 0 fun l => intArg hi len fun h => (l ≤ h ∧ h ≤ len) ∧ T (.osl id g (off + l) (h - l))) := Eq.trans rfl rfl
theorem ia_none (d : Nat) (Q : Nat → Prop) : intArg none d Q = Q d := Eq.trans rfl rfl
theorem ia_some (k : IntKind) (n : Int) (d : Nat) (Q : Nat → Prop) : intArg (some (.int k n)) d Q = (0 ≤ n ∧ Q n.toNat) := Eq.trans rfl rfl
theorem sf_none (f : Bool) (h m n : Nat) : slFull none f h m n = (f && decide (h = n)) := Eq.trans rfl rfl
theorem sf_some (v : AVal) (f : Bool) (h m n : Nat) : slFull (some v) f h m n = decide (m = h) := Eq.trans rfl rfl

def cvA (L : Lay) (s : Nat) (x : AVal) (T : AVal → Prop) : Ty → Prop
  | .int k => match x with | .int _ n => T (.int k (k.wrap n)) | _ => False
  | .string => match x with | .str s' => (L s).ty = .string ∧ T (.str s') | .sl _ _ l => (∃ e, (L s).ty = .slice e ∧ (L e).ty = .int .u8) ∧ ∃ bs, strOf l = some bs ∧ T (.str ⟨bs.toArray⟩) | _ => False
  | _ => False
theorem cv_eq (s t : Nat) (x : AVal) : vcConvert L s t x T = ((L s).ty ≠ .other ∧ cvA L s x T (L t).ty) := by
  unfold vcConvert cvA
  cases (L t).ty <;> first | rfl | (cases x <;> rfl)
theorem cvA_int (s : Nat) (k k' : IntKind) (n : Int) : cvA L s (.int k' n) T (.int k) = T (.int k (k.wrap n)) := Eq.trans rfl rfl
theorem cvA_sl (s : Nat) (q f : Bool) (l : List (List AVal)) : cvA L s (.sl q f l) T .string = ((∃ e, (L s).ty = .slice e ∧ (L e).ty = .int .u8) ∧ ∃ bs, strOf l = some bs ∧ T (.str ⟨bs.toArray⟩)) := Eq.trans rfl rfl
theorem strOf_nil : strOf [] = some [] := Eq.trans rfl rfl
theorem strOf_cons (n : Int) (l : List (List AVal)) : strOf ([.int .u8 n] :: l) = (strOf l).map (UInt8.ofNat n.toNat :: ·) := Eq.trans rfl rfl
theorem cvA_str (s : Nat) (b : ByteArray) : cvA L s (.str b) T .string = ((L s).ty = .string ∧ T (.str b)) := Eq.trans rfl rfl

def lv (z : AVal) (ok : Bool) : Option AVal → AVal
  | some v => if ok then .tup [v, .bool true] else v
  | none => if ok then .tup [z, .bool false] else z
def luO (z : AVal) (g : Nat) (key : ByteArray) (ok : Bool) (T : AVal → Prop) : Option (Nat × AObj) → Prop
  | some (g', .mp es) => g' = g ∧ T (lv z ok (mfind es key))
  | _ => False
def luI (z : AVal) (g : Nat) (key : Int) (ok : Bool) (T : AVal → Prop) : Option (Nat × AObj) → Prop
  | some (g', .mpi es) => g' = g ∧ T (lv z ok (mfind es key))
  | _ => False
def luA (L : Lay) (m k : AVal) (ok : Bool) (sto : Sto) (T : AVal → Prop) : Ty → Prop
  | .map kt et =>
    match m, k with
    | .map id g, .str key => (L kt).ty = .string ∧ (L et).sz = 1 ∧ (L et).ag = false ∧ luO ((L et).zero.headD .undef) g key ok T (sget sto id)
    | .map id g, .int .i64 key => (L kt).ty = .int .i64 ∧ (L et).sz = 1 ∧ (L et).ag = false ∧ luI ((L et).zero.headD .undef) g key ok T (sget sto id)
    | _, _ => False
  | _ => False
theorem lu_eq (t : Nat) (m k : AVal) (ok : Bool) : vcLookup L t m k ok sto T = luA L m k ok sto T (L t).ty := by
  unfold vcLookup luA
  cases (L t).ty with
  | map kt et => rfl
  | _ => rfl
theorem luA_map (id g kt et : Nat) (key : ByteArray) (ok : Bool) : luA L (.map id g) (.str key) ok sto T (.map kt et) = ((L kt).ty = .string ∧ (L et).sz = 1 ∧ (L et).ag = false ∧ luO ((L et).zero.headD .undef) g key ok T (sget sto id)) := Eq.trans rfl rfl
theorem luA_mapI (id g kt et : Nat) (key : Int) (ok : Bool) : luA L (.map id g) (.int .i64 key) ok sto T (.map kt et) = ((L kt).ty = .int .i64 ∧ (L et).sz = 1 ∧ (L et).ag = false ∧ luI ((L et).zero.headD .undef) g key ok T (sget sto id)) := Eq.trans rfl rfl
theorem luI_mp (z : AVal) (g g' : Nat) (key : Int) (ok : Bool) (es : List (Int × AVal)) : luI z g key ok T (some (g', .mpi es)) = (g' = g ∧ T (lv z ok (mfind es key))) := Eq.trans rfl rfl
theorem luO_mp (z : AVal) (g g' : Nat) (key : ByteArray) (ok : Bool) (es : List (ByteArray × AVal)) : luO z g key ok T (some (g', .mp es)) = (g' = g ∧ T (lv z ok (mfind es key))) := Eq.trans rfl rfl
theorem lv_some (z v : AVal) (ok : Bool) : lv z ok (some v) = if ok then .tup [v, .bool true] else v := Eq.trans rfl rfl
theorem lv_none (z : AVal) (ok : Bool) : lv z ok none = if ok then .tup [z, .bool false] else z := Eq.trans rfl rfl
def muO (id g : Nat) (key : ByteArray) (v : AVal) (sto : Sto) (V : Sto → Prop) : Option (Nat × AObj) → Prop
  | some (g', .mp es) => g' = g ∧ es.length + 1 ≤ bigLen ∧ V (sput sto id (g, .mp (mput es key v)))
  | _ => False
def muI (id g : Nat) (key : Int) (v : AVal) (sto : Sto) (V : Sto → Prop) : Option (Nat × AObj) → Prop
  | some (g', .mpi es) => g' = g ∧ es.length + 1 ≤ bigLen ∧ V (sput sto id (g, .mpi (mput es key v)))
  | _ => False
def muA (L : Lay) (m k v : AVal) (sto : Sto) (V : Sto → Prop) : Ty → Prop
  | .map kt et =>
    match m, k with
    | .map id g, .str key => (L kt).ty = .string ∧ (L et).sz = 1 ∧ (L et).ag = false ∧ v.isFz = true ∧ muO id g key v sto V (sget sto id)
    | .map id g, .int .i64 key => (L kt).ty = .int .i64 ∧ (L et).sz = 1 ∧ (L et).ag = false ∧ v.isFz = true ∧ muI id g key v sto V (sget sto id)
    | _, _ => False
  | _ => False
theorem mu_eq (t : Nat) (m k v : AVal) : vcMapUpdate L t m k v sto V = muA L m k v sto V (L t).ty := by
  unfold vcMapUpdate muA
  cases (L t).ty with
  | map kt et => rfl
  | _ => rfl
theorem muA_map (id g kt et : Nat) (key : ByteArray) (v : AVal) : muA L (.map id g) (.str key) v sto V (.map kt et) = ((L kt).ty = .string ∧ (L et).sz = 1 ∧ (L et).ag = false ∧ v.isFz = true ∧ muO id g key v sto V (sget sto id)) := Eq.trans rfl rfl
theorem muA_mapI (id g kt et : Nat) (key : Int) (v : AVal) : muA L (.map id g) (.int .i64 key) v sto V (.map kt et) = ((L kt).ty = .int .i64 ∧ (L et).sz = 1 ∧ (L et).ag = false ∧ v.isFz = true ∧ muI id g key v sto V (sget sto id)) := Eq.trans rfl rfl
theorem muI_mp (id g g' : Nat) (key : Int) (v : AVal) (es : List (Int × AVal)) : muI id g key v sto V (some (g', .mpi es)) = (g' = g ∧ es.length + 1 ≤ bigLen ∧ V (sput sto id (g, .mpi (mput es key v)))) := Eq.trans rfl rfl
theorem muO_mp (id g g' : Nat) (key : ByteArray) (v : AVal) (es : List (ByteArray × AVal)) : muO id g key v sto V (some (g', .mp es)) = (g' = g ∧ es.length + 1 ≤ bigLen ∧ V (sput sto id (g, .mp (mput es key v)))) := Eq.trans rfl rfl
theorem vn_sl (t : Nat) (q f : Bool) (l : List (List AVal)) (B : Bool → Prop) : vcNil L t (.sl q f l) B = ((∃ e, (L t).ty = .slice e) ∧ ∀ b : Bool, (b = true → l = []) → B b) := Eq.trans rfl rfl
theorem vn_osl (t id g o n : Nat) (B : Bool → Prop) : vcNil L t (.osl id g o n) B = ((∃ e, (L t).ty = .slice e) ∧ ∀ b : Bool, (b = true → n = 0) → B b) := Eq.trans rfl rfl
theorem co_agg (cs : List AVal) : cellsOf (.agg cs) = cs := Eq.trans rfl rfl
theorem co_nil : cellsOf .nil = [.nil] := Eq.trans rfl rfl
theorem co_nilmap : cellsOf .nilmap = [.nilmap] := Eq.trans rfl rfl
theorem co_nilfn : cellsOf .nilfn = [.nilfn] := Eq.trans rfl rfl
theorem iw_agg (cs : List AVal) : (AVal.agg cs).isWhole = true := Eq.trans rfl rfl
theorem iw_nil : AVal.nil.isWhole = true := Eq.trans rfl rfl
theorem iw_nilmap : AVal.nilmap.isWhole = true := Eq.trans rfl rfl
theorem iw_nilfn : AVal.nilfn.isWhole = true := Eq.trans rfl rfl
theorem fz_nil : AVal.nil.isFz = true := Eq.trans rfl rfl
theorem fz_fn (f : Nat) : (AVal.fn f []).isFz = true := Eq.trans rfl rfl
theorem fz_osl (a b c d : Nat) : (AVal.osl a b c d).isFz = false := Eq.trans rfl rfl
theorem ch_zero (sz : Nat) (cs : List AVal) : chunks sz 0 cs = [] := Eq.trans rfl rfl
theorem ch_succ (sz n : Nat) (cs : List AVal) : chunks sz (n + 1) cs = cs.take sz :: chunks sz n (cs.drop sz) := Eq.trans rfl rfl
theorem ch_one (sz : Nat) (cs : List AVal) : chunks sz 1 cs = [cs.take sz] := Eq.trans rfl rfl
theorem sp_eq (cs : List AVal) (off : Nat) (vs : List AVal) : splice cs off vs = cs.take off ++ vs ++ cs.drop (off + vs.length) := Eq.trans rfl rfl
theorem bi_add (t : Nat) (k k' : IntKind) (a b : Int) : vcBin L .add t (.int k a) (.int k' b) T = (k = k' ∧ vcInt .add k a b T) := Eq.trans rfl rfl
theorem bi_sub (t : Nat) (k k' : IntKind) (a b : Int) : vcBin L .sub t (.int k a) (.int k' b) T = (k = k' ∧ vcInt .sub k a b T) := Eq.trans rfl rfl
theorem bi_mul (t : Nat) (k k' : IntKind) (a b : Int) : vcBin L .mul t (.int k a) (.int k' b) T = (k = k' ∧ vcInt .mul k a b T) := Eq.trans rfl rfl
theorem bi_quo (t : Nat) (k k' : IntKind) (a b : Int) : vcBin L .quo t (.int k a) (.int k' b) T = (k = k' ∧ vcInt .quo k a b T) := Eq.trans rfl rfl
theorem bi_rem (t : Nat) (k k' : IntKind) (a b : Int) : vcBin L .rem t (.int k a) (.int k' b) T = (k = k' ∧ vcInt .rem k a b T) := Eq.trans rfl rfl
theorem bi_and (t : Nat) (k k' : IntKind) (a b : Int) : vcBin L .and t (.int k a) (.int k' b) T = (k = k' ∧ vcInt .and k a b T) := Eq.trans rfl rfl
theorem bi_or (t : Nat) (k k' : IntKind) (a b : Int) : vcBin L .or t (.int k a) (.int k' b) T = (k = k' ∧ vcInt .or k a b T) := Eq.trans rfl rfl
theorem bi_xor (t : Nat) (k k' : IntKind) (a b : Int) : vcBin L .xor t (.int k a) (.int k' b) T = (k = k' ∧ vcInt .xor k a b T) := Eq.trans rfl rfl
theorem bi_andNot (t : Nat) (k k' : IntKind) (a b : Int) : vcBin L .andNot t (.int k a) (.int k' b) T = (k = k' ∧ vcInt .andNot k a b T) := Eq.trans rfl rfl
theorem bi_eql (t : Nat) (k k' : IntKind) (a b : Int) : vcBin L .eql t (.int k a) (.int k' b) T = (k = k' ∧ vcInt .eql k a b T) := Eq.trans rfl rfl
theorem bi_neq (t : Nat) (k k' : IntKind) (a b : Int) : vcBin L .neq t (.int k a) (.int k' b) T = (k = k' ∧ vcInt .neq k a b T) := Eq.trans rfl rfl
theorem bi_lss (t : Nat) (k k' : IntKind) (a b : Int) : vcBin L .lss t (.int k a) (.int k' b) T = (k = k' ∧ vcInt .lss k a b T) := Eq.trans rfl rfl
theorem bi_leq (t : Nat) (k k' : IntKind) (a b : Int) : vcBin L .leq t (.int k a) (.int k' b) T = (k = k' ∧ vcInt .leq k a b T) := Eq.trans rfl rfl
theorem bi_gtr (t : Nat) (k k' : IntKind) (a b : Int) : vcBin L .gtr t (.int k a) (.int k' b) T = (k = k' ∧ vcInt .gtr k a b T) := Eq.trans rfl rfl
theorem bi_geq (t : Nat) (k k' : IntKind) (a b : Int) : vcBin L .geq t (.int k a) (.int k' b) T = (k = k' ∧ vcInt .geq k a b T) := Eq.trans rfl rfl
theorem ii_add (k : IntKind) (a b : Int) : vcInt .add k a b T = vcArith k (a + b) T := Eq.trans rfl rfl
theorem ii_sub (k : IntKind) (a b : Int) : vcInt .sub k a b T = vcArith k (a - b) T := Eq.trans rfl rfl
theorem ii_mul (k : IntKind) (a b : Int) : vcInt .mul k a b T = vcArith k (a * b) T := Eq.trans rfl rfl
theorem ii_quo (k : IntKind) (a b : Int) : vcInt .quo k a b T = (b ≠ 0 ∧ vcArith k (a.tdiv b) T) := Eq.trans rfl rfl
theorem ii_rem (k : IntKind) (a b : Int) : vcInt .rem k a b T = (b ≠ 0 ∧ T (.int k (a.tmod b))) := Eq.trans rfl rfl
theorem ii_and (k : IntKind) (a b : Int) : vcInt .and k a b T = T (.int k (bitsOf .and k a b)) := Eq.trans rfl rfl
theorem ii_or (k : IntKind) (a b : Int) : vcInt .or k a b T = T (.int k (bitsOf .or k a b)) := Eq.trans rfl rfl
theorem ii_xor (k : IntKind) (a b : Int) : vcInt .xor k a b T = T (.int k (bitsOf .xor k a b)) := Eq.trans rfl rfl
theorem ii_andNot (k : IntKind) (a b : Int) : vcInt .andNot k a b T = T (.int k (bitsOf .andNot k a b)) := Eq.trans rfl rfl
theorem ii_eql (k : IntKind) (a b : Int) : vcInt .eql k a b T = T (.bool (decide (a = b))) := Eq.trans rfl rfl
theorem ii_neq (k : IntKind) (a b : Int) : vcInt .neq k a b T = T (.bool (!decide (a = b))) := Eq.trans rfl rfl
theorem ii_lss (k : IntKind) (a b : Int) : vcInt .lss k a b T = T (.bool (decide (a < b))) := Eq.trans rfl rfl
theorem ii_leq (k : IntKind) (a b : Int) : vcInt .leq k a b T = T (.bool (decide (a ≤ b))) := Eq.trans rfl rfl
theorem ii_gtr (k : IntKind) (a b : Int) : vcInt .gtr k a b T = T (.bool (decide (b < a))) := Eq.trans rfl rfl
theorem ii_geq (k : IntKind) (a b : Int) : vcInt .geq k a b T = T (.bool (decide (b ≤ a))) := Eq.trans rfl rfl
theorem bi_shl (t : Nat) (k k' : IntKind) (a b : Int) : vcBin L .shl t (.int k a) (.int k' b) T = vcShift .shl k a b T := Eq.trans rfl rfl
theorem bi_shr (t : Nat) (k k' : IntKind) (a b : Int) : vcBin L .shr t (.int k a) (.int k' b) T = vcShift .shr k a b T := Eq.trans rfl rfl
theorem sh_shl (k : IntKind) (a b : Int) : vcShift .shl k a b T = (0 ≤ b ∧ T (.int k (k.wrap (a * 2 ^ min b.toNat k.bits)))) := Eq.trans rfl rfl
theorem sh_shr (k : IntKind) (a b : Int) : vcShift .shr k a b T = (0 ≤ b ∧ T (.int k (a.fdiv (2 ^ min b.toNat k.bits)))) := Eq.trans rfl rfl
theorem ss_add (t : Nat) (a b : ByteArray) : vcBin L .add t (.str a) (.str b) T = (a.size + b.size ≤ maxLen ∧ T (.str (a ++ b))) := Eq.trans rfl rfl
theorem ss_eql (t : Nat) (a b : ByteArray) : vcBin L .eql t (.str a) (.str b) T = T (.bool (decide (a = b))) := Eq.trans rfl rfl
theorem ss_neq (t : Nat) (a b : ByteArray) : vcBin L .neq t (.str a) (.str b) T = T (.bool (!decide (a = b))) := Eq.trans rfl rfl
theorem ss_lss (t : Nat) (a b : ByteArray) : vcBin L .lss t (.str a) (.str b) T = T (.bool (Op.bytesLess a.toList b.toList)) := Eq.trans rfl rfl
theorem ss_gtr (t : Nat) (a b : ByteArray) : vcBin L .gtr t (.str a) (.str b) T = T (.bool (!(Op.bytesLess a.toList b.toList || decide (a = b)))) := Eq.trans rfl rfl
theorem ss_leq (t : Nat) (a b : ByteArray) : vcBin L .leq t (.str a) (.str b) T = T (.bool (Op.bytesLess a.toList b.toList || decide (a = b))) := Eq.trans rfl rfl
theorem ss_geq (t : Nat) (a b : ByteArray) : vcBin L .geq t (.str a) (.str b) T = T (.bool (!Op.bytesLess a.toList b.toList)) := Eq.trans rfl rfl
theorem co_bool (b : Bool) : cellsOf (.bool b) = [.bool b] := Eq.trans rfl rfl
theorem iw_bool (b : Bool) : (AVal.bool b).isWhole = true := Eq.trans rfl rfl
theorem fz_bool (b : Bool) : (AVal.bool b).isFz = true := Eq.trans rfl rfl
theorem co_int (k : IntKind) (n : Int) : cellsOf (.int k n) = [.int k n] := Eq.trans rfl rfl
theorem iw_int (k : IntKind) (n : Int) : (AVal.int k n).isWhole = true := Eq.trans rfl rfl
theorem fz_int (k : IntKind) (n : Int) : (AVal.int k n).isFz = true := Eq.trans rfl rfl
theorem co_str (s : ByteArray) : cellsOf (.str s) = [.str s] := Eq.trans rfl rfl
theorem iw_str (s : ByteArray) : (AVal.str s).isWhole = true := Eq.trans rfl rfl
theorem fz_str (s : ByteArray) : (AVal.str s).isFz = true := Eq.trans rfl rfl
theorem co_sl (q f : Bool) (l : List (List AVal)) : cellsOf (.sl q f l) = [.sl q f l] := Eq.trans rfl rfl
theorem iw_sl (q f : Bool) (l : List (List AVal)) : (AVal.sl q f l).isWhole = true := Eq.trans rfl rfl
theorem fz_sl (q f : Bool) (l : List (List AVal)) : (AVal.sl q f l).isFz = true := Eq.trans rfl rfl
theorem co_ref (q : Bool) (l : List AVal) : cellsOf (.ref q l) = [.ref q l] := Eq.trans rfl rfl
theorem iw_ref (q : Bool) (l : List AVal) : (AVal.ref q l).isWhole = true := Eq.trans rfl rfl
theorem fz_ref (q : Bool) (l : List AVal) : (AVal.ref q l).isFz = true := Eq.trans rfl rfl
theorem co_osl (a b c d : Nat) : cellsOf (.osl a b c d) = [.osl a b c d] := Eq.trans rfl rfl
theorem iw_osl (a b c d : Nat) : (AVal.osl a b c d).isWhole = true := Eq.trans rfl rfl
theorem co_bx (a b c : Nat) : cellsOf (.bx a b c) = [.bx a b c] := Eq.trans rfl rfl
theorem iw_bx (a b c : Nat) : (AVal.bx a b c).isWhole = true := Eq.trans rfl rfl
theorem co_loc (a b c d : Nat) : cellsOf (.loc a b c d) = [.loc a b c d] := Eq.trans rfl rfl
theorem iw_loc (a b c d : Nat) : (AVal.loc a b c d).isWhole = true := Eq.trans rfl rfl
theorem co_map (a b : Nat) : cellsOf (.map a b) = [.map a b] := Eq.trans rfl rfl
theorem iw_map (a b : Nat) : (AVal.map a b).isWhole = true := Eq.trans rfl rfl
theorem co_fn (f : Nat) (l : List AVal) : cellsOf (.fn f l) = [.fn f l] := Eq.trans rfl rfl
theorem iw_fn (f : Nat) (l : List AVal) : (AVal.fn f l).isWhole = true := Eq.trans rfl rfl
end
end Go.Rad
/- The use of a contract: over a part of the store, under its own names, with some own things lent for reading. -/
namespace Go.Rad
open Go

abbrev Ids := List (Nat × Nat)

def idOf : Ids → Nat → Option Nat
  | [], _ => none
  | (a, b) :: r, j => if a = j then some b else idOf r j
def idTo : Ids → Nat → Option Nat
  | [], _ => none
  | (a, b) :: r, i => if b = i then some a else idTo r i
def okIds : Ids → Bool
  | [] => true
  | (a, b) :: r => (idOf r a).isNone && (idTo r b).isNone && okIds r
def idBound : Ids → Nat
  | [] => 0
  | (a, _) :: r => max (a + 1) (idBound r)

theorem idOf_to : ∀ {σ : Ids}, okIds σ = true → ∀ {j i : Nat}, idOf σ j = some i ↔ idTo σ i = some j
  | [], _, j, i => by simp [idOf, idTo]
  | (a, b) :: r, h, j, i => by
    simp only [okIds, Bool.and_eq_true, Option.isNone_iff_eq_none] at h
    obtain ⟨⟨h1, h2⟩, h3⟩ := h
    have ih := @idOf_to r h3
    simp only [idOf, idTo]
    by_cases ha : a = j
    · subst ha
      rw [if_pos rfl]
      by_cases hb : b = i
      · subst hb; simp
      · rw [if_neg hb]
        constructor
        · intro h; exact absurd (Option.some.inj h) hb
        · intro h
          have := (ih (j := a) (i := i)).2 h
          rw [h1] at this; cases this
    · rw [if_neg ha]
      by_cases hb : b = i
      · subst hb
        rw [if_pos rfl]
        constructor
        · intro h
          have := (ih (j := j) (i := b)).1 h
          rw [h2] at this; cases this
        · intro h; exact absurd (Option.some.inj h) ha
      · rw [if_neg hb]; exact ih

theorem idBound_lt : ∀ {σ : Ids} {j i : Nat}, idOf σ j = some i → j < idBound σ
  | [], _, _, h => by simp [idOf] at h
  | (a, b) :: r, j, i, h => by
    simp only [idOf] at h
    simp only [idBound]
    split at h
    · rename_i e; subst e; omega
    · have := idBound_lt h; omega

/-- A value as the called function sees it. -/
def tr1 (σ : Ids) (ln : List Nat) (sto : Sto) : AVal → AVal
  | .osl id g off len =>
    match idTo σ id with
    | some j => .osl j g off len
    | none =>
      if ln.contains id then
        match sget sto id with
        | some (g', .row _ l) => if g' = g ∧ off + len ≤ l.length then .sl false false ((l.drop off).take len) else .undef
        | _ => .undef
      else .undef
  | .bx id g off =>
    match idTo σ id with
    | some j => .bx j g off
    | none =>
      if ln.contains id then
        match sget sto id with
        | some (g', .box cs) => if g' = g ∧ off ≤ cs.length ∧ cs.all AVal.isFz = true then .ref false (cs.drop off) else .undef
        | _ => .undef
      else .undef
  | .loc id g i off =>
    match idTo σ id with
    | some j => .loc j g i off
    | none => .undef
  | .map id g =>
    match idTo σ id with
    | some j => .map j g
    | none => .undef
  | .fn f [] => .fn f []
  | .fn _ _ => .undef
  | .agg _ => .undef
  | .tup _ => .undef
  | .opt _ _ => .undef
  | v => v
def tr (σ : Ids) (ln : List Nat) (sto : Sto) : AVal → AVal
  | .agg cs => if (cs.map (tr1 σ ln sto)).all AVal.isCell = true then .agg (cs.map (tr1 σ ln sto)) else .undef
  | .tup cs => .tup (cs.map (tr1 σ ln sto))
  | .fn f cs => .fn f (cs.map (tr1 σ ln sto))
  | v => tr1 σ ln sto v
def trO (σ : Ids) (ln : List Nat) (sto : Sto) : AObj → AObj
  | .box cs => .box (cs.map (tr1 σ ln sto))
  | o => o
def mkSto (σ : Ids) (ln : List Nat) (sto : Sto) : Ids → Sto
  | [] => []
  | (j, i) :: r =>
    match sget sto i with
    | some (g, o) => (j, g, trO σ ln sto o) :: mkSto σ ln sto r
    | none => mkSto σ ln sto r

/-- A value as the caller sees it. -/
def bk1 (σ : Ids) : AVal → AVal
  | .osl j g off len => match idOf σ j with | some i => .osl i g off len | none => .undef
  | .bx j g off => match idOf σ j with | some i => .bx i g off | none => .undef
  | .loc j g k off => match idOf σ j with | some i => .loc i g k off | none => .undef
  | .map j g => match idOf σ j with | some i => .map i g | none => .undef
  | .fn f [] => .fn f []
  | .fn _ _ => .undef
  | .agg _ => .undef
  | .tup _ => .undef
  | .opt _ _ => .undef
  | v => v
def bk2 (σ : Ids) : AVal → AVal
  | .agg cs => if (cs.map (bk1 σ)).all AVal.isCell = true then .agg (cs.map (bk1 σ)) else .undef
  | v => bk1 σ v
def bk (σ : Ids) : AVal → AVal
  | .agg cs => if (cs.map (bk1 σ)).all AVal.isCell = true then .agg (cs.map (bk1 σ)) else .undef
  | .tup cs => .tup (cs.map (bk2 σ))
  | .fn f cs => .fn f (cs.map (bk1 σ))
  | v => bk1 σ v
def bkO (σ : Ids) : AObj → AObj
  | .box cs => .box (cs.map (bk1 σ))
  | o => o
def bkS (σ : Ids) : Sto → Sto → Sto
  | [], base => base
  | (j, g, o) :: s, base =>
    match idOf σ j with
    | some i => sput (bkS σ s base) i (g, bkO σ o)
    | none => bkS σ s base
def delAll : Ids → Sto → Sto
  | [], s => s
  | (_, i) :: r, s => sdel (delAll r s) i

def cellsOk : AObj → Bool
  | .box cs => cs.all AVal.isCell
  | _ => true
def stoCells : Sto → Bool
  | [] => true
  | (_, _, o) :: s => cellsOk o && stoCells s

mutual
/-- Nothing lent is within. -/
def clean : AVal → Bool
  | .ref q cs => q && cleanL cs
  | .sl q _ l => q && cleanLL l
  | .agg cs => cleanL cs
  | .tup vs => cleanL vs
  | .fn _ cs => cleanL cs
  | .opt _ v => clean v
  | _ => true
def cleanL : List AVal → Bool
  | [] => true
  | x :: xs => clean x && cleanL xs
def cleanLL : List (List AVal) → Bool
  | [] => true
  | x :: xs => cleanL x && cleanLL xs
end
def cleanM : List (ByteArray × AVal) → Bool
  | [] => true
  | x :: xs => clean x.2 && cleanM xs
def cleanMI : List (Int × AVal) → Bool
  | [] => true
  | x :: xs => clean x.2 && cleanMI xs
def cleanO : AObj → Bool
  | .row _ l => cleanLL l
  | .box cs => cleanL cs
  | .mp es => cleanM es
  | .mpi es => cleanMI es
def cleanS : Sto → Bool
  | [] => true
  | (_, _, o) :: s => cleanO o && cleanS s

theorem cleanL_get : ∀ {l : List AVal}, cleanL l = true → ∀ {j : Nat} {x : AVal}, l[j]? = some x → clean x = true
  | [], _, j, x, h => by simp at h
  | y :: l, h, j, x, hx => by
    simp only [cleanL, Bool.and_eq_true] at h
    cases j with
    | zero => simp at hx; subst hx; exact h.1
    | succ j => exact cleanL_get h.2 (by simpa using hx)
theorem cleanLL_get : ∀ {l : List (List AVal)}, cleanLL l = true → ∀ {i : Nat} {x : List AVal}, l[i]? = some x → cleanL x = true
  | [], _, j, x, h => by simp at h
  | y :: l, h, j, x, hx => by
    simp only [cleanLL, Bool.and_eq_true] at h
    cases j with
    | zero => simp at hx; subst hx; exact h.1
    | succ j => exact cleanLL_get h.2 (by simpa using hx)
theorem cleanM_get : ∀ {l : List (ByteArray × AVal)}, cleanM l = true → ∀ {i : Nat} {x : ByteArray × AVal}, l[i]? = some x → clean x.2 = true
  | [], _, j, x, h => by simp at h
  | y :: l, h, j, x, hx => by
    simp only [cleanM, Bool.and_eq_true] at h
    cases j with
    | zero => simp at hx; subst hx; exact h.1
    | succ j => exact cleanM_get h.2 (by simpa using hx)
theorem cleanMI_get : ∀ {l : List (Int × AVal)}, cleanMI l = true → ∀ {i : Nat} {x : Int × AVal}, l[i]? = some x → clean x.2 = true
  | [], _, j, x, h => by simp at h
  | y :: l, h, j, x, hx => by
    simp only [cleanMI, Bool.and_eq_true] at h
    cases j with
    | zero => simp at hx; subst hx; exact h.1
    | succ j => exact cleanMI_get h.2 (by simpa using hx)
theorem cleanS_get : ∀ {s : Sto}, cleanS s = true → ∀ {i g : Nat} {o : AObj}, sget s i = some (g, o) → cleanO o = true
  | [], _, _, _, _, h => by simp [sget] at h
  | (k, h', o') :: s, h, i, g, o, hx => by
    simp only [cleanS, Bool.and_eq_true] at h
    simp only [sget] at hx
    split at hx
    · simp only [Option.some.injEq, Prod.mk.injEq] at hx; rw [← hx.2]; exact h.1
    · exact cleanS_get h.2 hx
theorem stoCells_get : ∀ {s : Sto}, stoCells s = true → ∀ {i g : Nat} {o : AObj}, sget s i = some (g, o) → cellsOk o = true
  | [], _, _, _, _, h => by simp [sget] at h
  | (k, h', o') :: s, h, i, g, o, hx => by
    simp only [stoCells, Bool.and_eq_true] at h
    simp only [sget] at hx
    split at hx
    · simp only [Option.some.injEq, Prod.mk.injEq] at hx; rw [← hx.2]; exact h.1
    · exact stoCells_get h.2 hx

/-- What is frozen stays so, where what it leans on is known there too. -/
theorem Rep.fz {G G' : Gh} {c : Bool} (h : ∀ (q : Bool) (b : Nat) (o : Obj), (c = true → q = true) → G.ok q b → G.F b = some o → G'.ok q b ∧ G'.F b = some o) {o : Bool} {x : AVal} {v : Value} (r : Rep G o x v) :
    o = false → (c = true → clean x = true) → Rep G' false x v := by
  induction r with
  | bool => intro _ _; exact .bool
  | int a => intro _ _; exact .int a
  | str a => intro _ _; exact .str a
  | nil => intro _ _; exact .nil
  | @ref o q cs b off cc e fr a1 a2 a3 a4 a5 ih =>
    intro _ hc
    have hq : c = true → q = true ∧ cleanL cs = true := fun hh => by have := hc hh; simpa [clean] using this
    obtain ⟨k1, k2⟩ := h q b _ (fun hh => (hq hh).1) a1 a2
    exact .ref k1 k2 a3 a4 fun j y hy => ih j y hy rfl fun hh => cleanL_get (hq hh).2 hy
  | slnil a => intro _ _; exact .slnil a
  | @sl o q full l cap b off cc e fr esz a1 a2 a3 a4 a5 a6 a7 a8 a9 ih =>
    intro _ hc
    have hq : c = true → q = true ∧ cleanLL l = true := fun hh => by have := hc hh; simpa [clean] using this
    obtain ⟨k1, k2⟩ := h q b _ (fun hh => (hq hh).1) a4 a5
    exact .sl a1 a2 a3 k1 k2 a6 a7 a8 fun i j y z hy hz => ih i j y z hy hz rfl fun hh => cleanL_get (cleanLL_get (hq hh).2 hy) hz
  | fn a1 _ ih => intro ho hc; subst ho; exact .fn a1 fun j y hy => ih j y hy rfl fun hh => cleanL_get (by have := hc hh; simpa [clean] using this) hy
  | nilfn => intro _ _; exact .nilfn
  | nilmap => intro _ _; exact .nilmap
  | agg a1 a2 _ ih => intro ho hc; subst ho; exact .agg a1 a2 fun j y hy => ih j y hy rfl fun hh => cleanL_get (by have := hc hh; simpa [clean] using this) hy
  | tup a1 _ ih => intro ho hc; subst ho; exact .tup a1 fun j y hy => ih j y hy rfl fun hh => cleanL_get (by have := hc hh; simpa [clean] using this) hy
  | loc => intro ho; cases ho
  | bx => intro ho; cases ho
  | osl => intro ho; cases ho
  | map => intro ho; cases ho
  | opt _ ih => intro ho hc; subst ho; exact .opt fun hh => ih hh rfl fun h2 => by have := hc h2; simpa [clean] using this
  | undef => intro _ _; exact .undef

theorem sget_delAll : ∀ (σ : Ids) (s : Sto) (i : Nat), sget (delAll σ s) i = if (idTo σ i).isSome then none else sget s i
  | [], s, i => by simp [delAll, idTo]
  | (a, b) :: r, s, i => by
    simp only [delAll, sget_sdel, idTo, sget_delAll r]
    split <;> simp_all

theorem sget_mkSto {σ : Ids} {ln : List Nat} {sto : Sto} : ∀ {r : Ids}, okIds r = true → ∀ (j : Nat), sget (mkSto σ ln sto r) j = (idOf r j).bind fun i => (sget sto i).map fun x => (x.1, trO σ ln sto x.2)
  | [], _, j => by simp [mkSto, idOf, sget]
  | (a, b) :: r, h, j => by
    have h' : idOf r a = none ∧ okIds r = true := by
      simp only [okIds, Bool.and_eq_true, Option.isNone_iff_eq_none] at h
      exact ⟨h.1.1, h.2⟩
    have ih := sget_mkSto (σ := σ) (ln := ln) (sto := sto) h'.2 j
    simp only [mkSto, idOf]
    cases hs : sget sto b with
    | none =>
      simp only
      rw [ih]
      by_cases e : a = j
      · subst e; simp [hs, h'.1]
      · simp [e]
    | some x =>
      obtain ⟨g, o⟩ := x
      simp only [sget]
      by_cases e : a = j
      · subst e; simp [hs]
      · simp [e, ih]

theorem sget_bkS {σ : Ids} (hσ : okIds σ = true) (base : Sto) (i : Nat) : ∀ s : Sto, sget (bkS σ s base) i = match idTo σ i with
    | some j => (match sget s j with | some x => some (x.1, bkO σ x.2) | none => sget base i)
    | none => sget base i
  | [] => by simp only [bkS, sget]; cases idTo σ i <;> rfl
  | (k, g, o) :: s => by
    have ih := sget_bkS hσ base i s
    simp only [bkS, sget]
    cases hk : idOf σ k with
    | none =>
      simp only [ih]
      cases hi : idTo σ i with
      | none => rfl
      | some j =>
        have hj := (idOf_to hσ).2 hi
        have : k ≠ j := by rintro rfl; rw [hk] at hj; cases hj
        simp [this]
    | some i' =>
      simp only [sget_sput, ih]
      by_cases e : i' = i
      · subst e
        have := (idOf_to hσ).1 hk
        simp [this]
      · rw [if_neg e]
        cases hi : idTo σ i with
        | none => rfl
        | some j =>
          have hj := (idOf_to hσ).2 hi
          have : k ≠ j := by rintro rfl; rw [hk] at hj; exact e (Option.some.inj hj)
          simp [this]

open Classical in
/-- The ghost of a call: what isn't handed over lies still. -/
noncomputable def useG (G : Gh) (w : World) (σ : Ids) (ln : List Nat) (sto : Sto) : Gh where
  F b := match G.F b with
    | some o => some o
    | none => if ∃ i g o, sget sto i = some (g, o) ∧ idTo σ i = none ∧ blkOf G i g = some b then w.heap[b]? else none
  S b := G.S b ∧ G.F b ≠ none
  L b := (G.L b ∧ G.F b ≠ none) ∨ ∃ i g o, sget sto i = some (g, o) ∧ idTo σ i = none ∧ i ∈ ln ∧ blkOf G i g = some b
  M j g := match idOf σ j with
    | some i => G.M i g
    | none => if idBound σ ≤ j then G.M (j - idBound σ) g else none
  N := G.N
  W0 := G.W0

section
variable {G : Gh} {w : World} {σ : Ids} {ln : List Nat} {sto : Sto}

theorem useG_F {b : Nat} {o : Obj} (h : G.F b = some o) : (useG G w σ ln sto).F b = some o := by simp [useG, h]
theorem useG_fr {i g b : Nat} {o : AObj} (hw : WOk G w) (hs : StoOk G w sto) (h : sget sto i = some (g, o)) (hi : idTo σ i = none) (hb : blkOf G i g = some b) : (useG G w σ ln sto).F b = w.heap[b]? := by
  have := ((hs.obj i g o h).blk hw b hb).1
  simp only [useG, this]
  rw [if_pos ⟨i, g, o, h, hi, hb⟩]
theorem useG_M {j i g : Nat} (h : idOf σ j = some i) : (useG G w σ ln sto).M j g = G.M i g := by simp [useG, h]

theorem useG_ok (q : Bool) (b : Nat) (o : Obj) (h : G.ok q b) (hF : G.F b = some o) : (useG G w σ ln sto).ok q b ∧ (useG G w σ ln sto).F b = some o := by
  refine ⟨?_, useG_F hF⟩
  have hn : G.F b ≠ none := by rw [hF]; simp
  exact h.imp (fun a => ⟨a, hn⟩) fun ⟨a, c⟩ => ⟨a, .inl ⟨c, hn⟩⟩

theorem useG_wok (hw : WOk G w) (hs : StoOk G w sto) : WOk (useG G w σ ln sto) w := by
  refine ⟨hw.K, fun b o h => ?_, fun j g h b hM hb => ?_, fun j g hg => ?_, fun g l h => (((hw.T g l h).down rfl).fz (c := false) (fun q b o _ a d => useG_ok q b o a d) rfl (fun h => by cases h)).up⟩
  · simp only [useG] at h
    split at h
    · rename_i o' ho; rw [hw.F b o' ho]; exact h
    · split at h
      · exact h
      · cases h
  · simp only [useG] at hM
    split at hM
    · exact hw.M _ _ _ _ hM hb
    · split at hM
      · exact hw.M _ _ _ _ hM hb
      · cases hM
  · simp only [useG]
    split
    · exact hw.N _ _ hg
    · split
      · exact hw.N _ _ hg
      · rfl

theorem rep_tr1 (hw : WOk G w) (hs : StoOk G w sto) (hσ : okIds σ = true) {x : AVal} {v : Value} (r : Rep G true x v) : Rep (useG G w σ ln sto) true (tr1 σ ln sto x) v := by
  have hz : ∀ {x : AVal} {v : Value}, Rep G false x v → Rep (useG G w σ ln sto) false x v := fun r => r.fz (c := false) (fun q b o _ a c => useG_ok q b o a c) rfl (fun h => by cases h)
  cases r with
  | bool => exact .bool
  | int a => exact .int a
  | str a => exact .str a
  | nil => exact .nil
  | ref a1 a2 a3 a4 a5 => exact .ref (useG_ok _ _ _ a1 a2).1 (useG_ok _ _ _ a1 a2).2 a3 a4 fun j y hy => hz (a5 j y hy)
  | slnil a => exact .slnil a
  | sl a1 a2 a3 a4 a5 a6 a7 a8 a9 => exact .sl a1 a2 a3 (useG_ok _ _ _ a4 a5).1 (useG_ok _ _ _ a4 a5).2 a6 a7 a8 fun i j y z hy hz' => hz (a9 i j y z hy hz')
  | @fn _ f cap caps a1 a2 =>
    cases cap with
    | nil => exact .fn a1 fun j y hy => by simp at hy
    | cons => exact .undef
  | nilfn => exact .nilfn
  | nilmap => exact .nilmap
  | agg => exact .undef
  | tup => exact .undef
  | @loc id g i off b cap esz hM =>
    simp only [tr1]
    split
    · rename_i j hj
      exact .loc ((useG_M ((idOf_to hσ).2 hj)).trans hM)
    · exact .undef
  | @bx id g off b cap esz hM =>
    simp only [tr1]
    split
    · rename_i j hj
      exact .bx ((useG_M ((idOf_to hσ).2 hj)).trans hM)
    · rename_i hj
      split
      · rename_i hln
        split
        · rename_i g' cs hget
          split
          · rename_i hc
            obtain ⟨rfl, hoff, hall⟩ := hc
            obtain ⟨b', cap', esz', k1, k2, c, e, k3, k4, k5, k6⟩ := hs.obj id g' _ hget
            rw [hM] at k1
            simp only [Option.some.injEq, Hd.mk.injEq] at k1
            obtain ⟨rfl, _, _⟩ := k1
            have hb : blkOf G id g' = some b := by simp [blkOf, hM]
            refine .ref (c := c) (e := e) (fr := (0, 0)) (.inr ⟨rfl, .inr ⟨id, g', _, hget, hj, by simpa using hln, hb⟩⟩) ((useG_fr hw hs hget hj hb).trans k3) (by simp [k4]; omega) (fun j y hy => ?_) (fun j y hy => ?_)
            · rw [List.getElem?_drop] at hy; exact k5 _ y hy
            · rw [List.getElem?_drop] at hy
              exact hz ((k6 _ y hy).down (List.all_eq_true.1 hall y (List.mem_of_getElem? hy)))
          · exact .undef
        · exact .undef
      · exact .undef
  | @osl id g off len ob cap esz a hM a1 a2 a3 a4 a5 =>
    simp only [tr1]
    split
    · rename_i j hj
      exact .osl ((useG_M ((idOf_to hσ).2 hj)).trans hM) a1 a2 a3 a4 a5
    · rename_i hj
      split
      · rename_i hln
        split
        · rename_i g' esz' l hget
          split
          · rename_i hc
            obtain ⟨rfl, hle⟩ := hc
            obtain ⟨ob', cap', k1, k2, k3, k4, k5, k6, k7, k8⟩ := hs.obj id g' _ hget
            rw [hM] at k1
            simp only [Option.some.injEq, Hd.mk.injEq] at k1
            obtain ⟨rfl, rfl, rfl⟩ := k1
            rcases Nat.eq_zero_or_pos len with hz0 | hpos
            · subst hz0
              simp only [List.take_zero]; exact .slnil (fun h => by cases h)
            · cases ob with
              | none => have := k7 rfl; omega
              | some b =>
                obtain ⟨kF, kcap, c, e, ⟨fr, kc, _⟩, ksz, krep⟩ := k8 b rfl
                have ha := a4 b rfl (by omega)
                subst ha
                have hb : blkOf G id g' = some b := by simp [blkOf, hM]
                have hlen : ((l.drop off).take len).length = len := by simp; omega
                have hgetl : ∀ (i : Nat) (x : List AVal), ((l.drop off).take len)[i]? = some x → l[off + i]? = some x := by
                  intro i x hx
                  rw [List.getElem?_take] at hx
                  split at hx
                  · rwa [List.getElem?_drop] at hx
                  · cases hx
                have hR := Rep.sl (G := useG G w σ ln sto) (o := true) (q := false) (full := false) (l := (l.drop off).take len) (cap := cap - off) (b := b) (off := off * esz) (c := c) (e := e) (fr := fr) (esz := esz)
                  (by rw [hlen]; omega) (fun h => by cases h) (by rw [hlen]; exact big_max a2) (.inr ⟨rfl, .inr ⟨id, g', _, hget, hj, by simpa using hln, hb⟩⟩) ((useG_fr hw hs hget hj hb).trans kc)
                  (by rw [hlen, ksz, ← Nat.add_mul]; exact Nat.mul_le_mul_right _ a1)
                  (fun i x hx => k5 _ x (hgetl i x hx)) (fun i j x y hx hy => k6 _ j x y (hgetl i x hx) hy)
                  (fun i j x y hx hy => by
                    have := hz (krep _ j x y (hgetl i x hx) hy)
                    rw [Nat.add_mul] at this
                    exact this)
                rw [hlen] at hR
                exact hR
          · exact .undef
        · exact .undef
      · exact .undef
  | @map id g b cap esz hM =>
    simp only [tr1]
    split
    · rename_i j hj
      exact .map ((useG_M ((idOf_to hσ).2 hj)).trans hM)
    · exact .undef
  | opt => exact .undef
  | undef => exact .undef

theorem all_get {l : List AVal} (h : l.all AVal.isCell = true) {j : Nat} {x : AVal} (hx : l[j]? = some x) : x.isCell = true := List.all_eq_true.1 h x (List.mem_of_getElem? hx)

theorem rep_tr (hw : WOk G w) (hs : StoOk G w sto) (hσ : okIds σ = true) {x : AVal} {v : Value} (r : Rep G true x v) : Rep (useG G w σ ln sto) true (tr σ ln sto x) v := by
  unfold tr
  split
  · cases r with
    | agg a b c =>
      split
      · rename_i hall
        refine .agg (by simpa using a) (fun j y hy => all_get hall hy) fun j y hy => ?_
        rw [List.getElem?_map] at hy
        obtain ⟨x, hx, rfl⟩ := Option.map_eq_some_iff.1 hy
        exact rep_tr1 hw hs hσ (c j x hx)
      · exact .undef
  · cases r with
    | tup a c =>
      refine .tup (by simpa using a) fun j y hy => ?_
      rw [List.getElem?_map] at hy
      obtain ⟨x, hx, rfl⟩ := Option.map_eq_some_iff.1 hy
      exact rep_tr1 hw hs hσ (c j x hx)
  · cases r with
    | fn a c =>
      refine .fn (by simpa using a) fun j y hy => ?_
      rw [List.getElem?_map] at hy
      obtain ⟨x, hx, rfl⟩ := Option.map_eq_some_iff.1 hy
      exact rep_tr1 hw hs hσ (c j x hx)
  · exact rep_tr1 hw hs hσ r

theorem useG_apart (hw : WOk G w) (hs : StoOk G w sto) {i g b : Nat} {o : AObj} (hget : sget sto i = some (g, o)) (hi : idTo σ i ≠ none) (hb : blkOf G i g = some b) : (useG G w σ ln sto).F b = none := by
  have h1 := ((hs.obj i g o hget).blk hw b hb).1
  simp only [useG, h1]
  rw [if_neg]
  rintro ⟨i', g', o', h', hi', hb'⟩
  exact hs.apart i i' g g' o o' hget h' (by rintro rfl; exact hi hi') b hb hb'

theorem obj_tr (hw : WOk G w) (hs : StoOk G w sto) (hσ : okIds σ = true) {i j g : Nat} {o : AObj} (hget : sget sto i = some (g, o)) (hj : idOf σ j = some i) (hc : cellsOk (trO σ ln sto o) = true) :
    ObjOk (useG G w σ ln sto) w j g (trO σ ln sto o) := by
  have hz : ∀ {x : AVal} {v : Value}, Rep G false x v → Rep (useG G w σ ln sto) false x v := fun r => r.fz (c := false) (fun q b o _ a c => useG_ok q b o a c) rfl (fun h => by cases h)
  have hi : idTo σ i ≠ none := by rw [(idOf_to hσ).1 hj]; simp
  have hob := hs.obj i g o hget
  have hF := fun b => useG_apart (σ := σ) (ln := ln) (b := b) hw hs hget hi
  cases o with
  | row esz l =>
    obtain ⟨ob, cap, h1, h2, h3, h4, h5, h6, h7, h8⟩ := hob
    refine ⟨ob, cap, (useG_M hj).trans h1, h2, h3, h4, h5, h6, h7, fun b hob => ?_⟩
    obtain ⟨a1, a2, c, e, a3, a4, a5⟩ := h8 b hob
    exact ⟨hF b (by simp [blkOf, h1, hob]), a2, c, e, a3, a4, fun i j x y hx hy => hz (a5 i j x y hx hy)⟩
  | box cs =>
    obtain ⟨b, cap, esz, h1, _, c, e, h3, h4, h5, h6⟩ := hob
    refine ⟨b, cap, esz, (useG_M hj).trans h1, hF b (by simp [blkOf, h1]), c, e, h3, by simpa using h4, fun j y hy => all_get hc hy, fun j y hy => ?_⟩
    rw [List.getElem?_map] at hy
    obtain ⟨x, hx, rfl⟩ := Option.map_eq_some_iff.1 hy
    exact rep_tr1 hw hs hσ (h6 j x hx)
  | mp es =>
    obtain ⟨b, cap, esz, h1, _, me, cl, h3, h4, h4', h5⟩ := hob
    refine ⟨b, cap, esz, (useG_M hj).trans h1, hF b (by simp [blkOf, h1]), me, cl, h3, h4, h4', fun j x hx => ?_⟩
    obtain ⟨m, a1, a2, a3, a4⟩ := h5 j x hx
    exact ⟨m, a1, a2, a3, hz a4⟩
  | mpi es =>
    obtain ⟨b, cap, esz, h1, _, me, cl, h3, h4, h4', h5⟩ := hob
    refine ⟨b, cap, esz, (useG_M hj).trans h1, hF b (by simp [blkOf, h1]), me, cl, h3, h4, h4', fun j x hx => ?_⟩
    obtain ⟨m, a1, a2, a3, a4⟩ := h5 j x hx
    exact ⟨m, a1, a2, a3, hz a4⟩

theorem blkOf_use {i j g : Nat} (hj : idOf σ j = some i) : blkOf (useG G w σ ln sto) j g = blkOf G i g := by simp [blkOf, useG_M hj]

theorem sto_tr (hw : WOk G w) (hs : StoOk G w sto) (hσ : okIds σ = true) (hc : stoCells (mkSto σ ln sto σ) = true) : StoOk (useG G w σ ln sto) w (mkSto σ ln sto σ) := by
  have key : ∀ j g o, sget (mkSto σ ln sto σ) j = some (g, o) → ∃ i o', idOf σ j = some i ∧ sget sto i = some (g, o') ∧ o = trO σ ln sto o' := by
    intro j g o h
    rw [sget_mkSto hσ] at h
    obtain ⟨i, hi, h⟩ := Option.bind_eq_some_iff.1 h
    obtain ⟨⟨g', o'⟩, ho, he⟩ := Option.map_eq_some_iff.1 h
    simp only [Prod.mk.injEq] at he
    obtain ⟨rfl, rfl⟩ := he
    exact ⟨i, o', hi, ho, rfl⟩
  refine ⟨fun j g o h => ?_, fun j j' g g' o o' h h' hne b hb => ?_⟩
  · have hcell := stoCells_get hc h
    obtain ⟨i, o', hi, ho, rfl⟩ := key j g o h
    exact obj_tr hw hs hσ ho hi hcell
  · obtain ⟨i, p, hi, ho, rfl⟩ := key j g o h
    obtain ⟨i', p', hi', ho', rfl⟩ := key j' g' o' h'
    rw [blkOf_use hi] at hb
    rw [blkOf_use hi']
    refine hs.apart i i' g g' p p' ho ho' ?_ b hb
    rintro rfl
    have h1 := (idOf_to hσ).1 hi
    have h2 := (idOf_to hσ).1 hi'
    rw [h1] at h2
    exact hne (Option.some.inj h2)
end

open Classical in
/-- The ghost behind the call. -/
noncomputable def backG (G : Gh) (σ : Ids) (sto : Sto) (H : Gh) : Gh where
  F b := if ∃ i g o, sget sto i = some (g, o) ∧ idTo σ i = none ∧ blkOf G i g = some b then none else H.F b
  S b := H.S b ∨ G.S b
  L := G.L
  M i g := match G.M i g with
    | some h => some h
    | none => match idTo σ i with
      | some j => H.M j g
      | none => none
  N := H.N
  W0 := G.W0

section
variable {G H : Gh} {w w' : World} {σ : Ids} {ln : List Nat} {sto : Sto}

theorem backG_M (hσ : okIds σ = true) (hx : Ext (useG G w σ ln sto) H) {j i g : Nat} (hj : idOf σ j = some i) {h : Hd} (hM : H.M j g = some h) : (backG G σ sto H).M i g = some h := by
  simp only [backG]
  cases hG : G.M i g with
  | some h' =>
    have := hx.M j g h' (by rw [useG_M hj]; exact hG)
    rw [hM] at this
    simpa using this.symm
  | none => simp only [(idOf_to hσ).1 hj, hM]

theorem backG_F (hw : WOk G w) (hs : StoOk G w sto) (hx : Ext (useG G w σ ln sto) H) {b : Nat} {o : Obj} (h : G.F b = some o) : (backG G σ sto H).F b = some o := by
  simp only [backG]
  rw [if_neg]
  · exact hx.F b o (useG_F h)
  · rintro ⟨i, g, o', hget, _, hb⟩
    have := ((hs.obj i g o' hget).blk hw b hb).1
    rw [h] at this; cases this

theorem backG_ext (hw : WOk G w) (hs : StoOk G w sto) (hx : Ext (useG G w σ ln sto) H) : Ext G (backG G σ sto H) where
  F b o h := backG_F hw hs hx h
  S b h := .inr h
  S' b h := by
    rcases h with h | h
    · rcases hx.S' b h with h | h
      · exact .inl h.1
      · right
        cases hF : G.F b with
        | none => rfl
        | some o => rw [useG_F hF] at h; cases h
    · exact .inl h
  L b := Iff.rfl
  M i g h hM := by simp [backG, hM]
  N := hx.N
  W0 := rfl

/-- No frozen thing of the call lies in what was kept back, but what was lent. -/
theorem backG_ok (hw : WOk G w) (hs : StoOk G w sto) (hx : Ext (useG G w σ ln sto) H) (c : Bool) (hc : c = false → ln = []) (q : Bool) (b : Nat) (o : Obj) (hq : c = true → q = true) (hk : H.ok q b) (hF : H.F b = some o) :
    (backG G σ sto H).ok q b ∧ (backG G σ sto H).F b = some o := by
  have hfr : ∀ i g o', sget sto i = some (g, o') → idTo σ i = none → blkOf G i g = some b → ¬ H.S b := by
    intro i g o' hget hi hb hS
    have hn := ((hs.obj i g o' hget).blk hw b hb).1
    rcases hx.S' b hS with h | h
    · exact h.2 hn
    · have := (useG_fr (σ := σ) (ln := ln) hw hs hget hi hb).symm.trans h
      have hlt := ((hs.obj i g o' hget).blk hw b hb).2
      rw [Array.getElem?_eq_getElem hlt] at this; cases this
  have hL : q = false → H.L b → G.L b ∧ G.F b ≠ none := by
    intro hq0 hl
    cases c with
    | true => rw [hq rfl] at hq0; cases hq0
    | false =>
      rcases (hx.L b).1 hl with h | ⟨i, g, o', _, _, hi, _⟩
      · exact h
      · rw [hc rfl] at hi; simp at hi
  have hnot : ¬ ∃ i g o, sget sto i = some (g, o) ∧ idTo σ i = none ∧ blkOf G i g = some b := by
    rintro ⟨i, g, o', hget, hi, hb⟩
    rcases hk with h | ⟨h0, h⟩
    · exact hfr i g o' hget hi hb h
    · exact (hL h0 h).2 ((hs.obj i g o' hget).blk hw b hb).1
  refine ⟨?_, by simp only [backG]; rw [if_neg hnot]; exact hF⟩
  rcases hk with h | ⟨h0, h⟩
  · exact .inl (.inl h)
  · exact .inr ⟨h0, (hL h0 h).1⟩

theorem backG_wok (hw : WOk G w) (hs : StoOk G w sto) (hx : Ext (useG G w σ ln sto) H) (hw' : WOk H w') : WOk (backG G σ sto H) w' := by
  refine ⟨by have := hw'.K; rw [hx.W0] at this; exact this, fun b o h => ?_, fun i g h b hM hb => ?_, fun i g hg => ?_, fun g l h => (hw.T g l h).mono (backG_ext hw hs hx).toMono⟩
  · simp only [backG] at h
    split at h
    · cases h
    · exact hw'.F b o h
  · simp only [backG] at hM
    split at hM
    · rename_i h' hG
      have hM' : h' = h := by simpa using hM
      subst hM'
      have h2 := hx.M (idBound σ + i) g h' (by
        simp only [useG]
        cases hj : idOf σ (idBound σ + i) with
        | some k => have := idBound_lt hj; omega
        | none => rw [if_pos (by omega)]; rw [Nat.add_sub_cancel_left]; exact hG)
      exact hw'.M _ _ _ _ h2 hb
    · split at hM
      · exact hw'.M _ _ _ _ hM hb
      · cases hM
  · have hN : H.N ≤ g := hg
    simp only [backG]
    have h1 : G.M i g = none := hw.N i g (Nat.le_trans hx.N hN)
    rw [h1]
    simp only
    split
    · exact hw'.N _ _ hN
    · rfl

theorem rep_bk1 (hσ : okIds σ = true) (hw : WOk G w) (hs : StoOk G w sto) (hx : Ext (useG G w σ ln sto) H) (c : Bool) (hc : c = false → ln = []) {x : AVal} {v : Value} (r : Rep H true x v) (hcl : c = true → clean x = true) :
    Rep (backG G σ sto H) true (bk1 σ x) v := by
  have hz : ∀ {x : AVal} {v : Value}, Rep H false x v → (c = true → clean x = true) → Rep (backG G σ sto H) false x v := fun r h => r.fz (c := c) (fun q b o hq a d => backG_ok hw hs hx c hc q b o hq a d) rfl h
  cases r with
  | bool => exact .bool
  | int a => exact .int a
  | str a => exact .str a
  | nil => exact .nil
  | ref a1 a2 a3 a4 a5 => exact (hz (.ref a1 a2 a3 a4 a5) hcl).up
  | slnil a => exact .slnil a
  | sl a1 a2 a3 a4 a5 a6 a7 a8 a9 => exact (hz (.sl a1 a2 a3 a4 a5 a6 a7 a8 a9) hcl).up
  | @fn _ f cap caps a1 a2 =>
    cases cap with
    | nil => exact .fn a1 fun j y hy => by simp at hy
    | cons => exact .undef
  | nilfn => exact .nilfn
  | nilmap => exact .nilmap
  | agg => exact .undef
  | tup => exact .undef
  | loc hM =>
    simp only [bk1]
    split
    · rename_i j hj; exact .loc (backG_M hσ hx hj hM)
    · exact .undef
  | bx hM =>
    simp only [bk1]
    split
    · rename_i j hj; exact .bx (backG_M hσ hx hj hM)
    · exact .undef
  | osl hM a1 a2 a3 a4 a5 =>
    simp only [bk1]
    split
    · rename_i j hj; exact .osl (backG_M hσ hx hj hM) a1 a2 a3 a4 a5
    · exact .undef
  | map hM =>
    simp only [bk1]
    split
    · rename_i j hj; exact .map (backG_M hσ hx hj hM)
    · exact .undef
  | opt => exact .undef
  | undef => exact .undef

theorem rep_bk2 (hσ : okIds σ = true) (hw : WOk G w) (hs : StoOk G w sto) (hx : Ext (useG G w σ ln sto) H) (c : Bool) (hc : c = false → ln = []) {x : AVal} {v : Value} (r : Rep H true x v) (hcl : c = true → clean x = true) :
    Rep (backG G σ sto H) true (bk2 σ x) v := by
  unfold bk2
  split
  · cases r with
    | agg a b d =>
      split
      · rename_i hall
        refine .agg (by simpa using a) (fun j y hy => all_get hall hy) fun j y hy => ?_
        rw [List.getElem?_map] at hy
        obtain ⟨x, hx', rfl⟩ := Option.map_eq_some_iff.1 hy
        exact rep_bk1 hσ hw hs hx c hc (d j x hx') fun h => cleanL_get (by simpa [clean] using hcl h) hx'
      · exact .undef
  · exact rep_bk1 hσ hw hs hx c hc r hcl

theorem rep_bk (hσ : okIds σ = true) (hw : WOk G w) (hs : StoOk G w sto) (hx : Ext (useG G w σ ln sto) H) (c : Bool) (hc : c = false → ln = []) {x : AVal} {v : Value} (r : Rep H true x v) (hcl : c = true → clean x = true) :
    Rep (backG G σ sto H) true (bk σ x) v := by
  unfold bk
  split
  · cases r with
    | agg a b d =>
      split
      · rename_i hall
        refine .agg (by simpa using a) (fun j y hy => all_get hall hy) fun j y hy => ?_
        rw [List.getElem?_map] at hy
        obtain ⟨x, hx', rfl⟩ := Option.map_eq_some_iff.1 hy
        exact rep_bk1 hσ hw hs hx c hc (d j x hx') fun h => cleanL_get (by simpa [clean] using hcl h) hx'
      · exact .undef
  · cases r with
    | tup a d =>
      refine .tup (by simpa using a) fun j y hy => ?_
      rw [List.getElem?_map] at hy
      obtain ⟨x, hx', rfl⟩ := Option.map_eq_some_iff.1 hy
      exact rep_bk2 hσ hw hs hx c hc (d j x hx') fun h => cleanL_get (by simpa [clean] using hcl h) hx'
  · cases r with
    | fn a d =>
      refine .fn (by simpa using a) fun j y hy => ?_
      rw [List.getElem?_map] at hy
      obtain ⟨x, hx', rfl⟩ := Option.map_eq_some_iff.1 hy
      exact rep_bk1 hσ hw hs hx c hc (d j x hx') fun h => cleanL_get (by simpa [clean] using hcl h) hx'
  · exact rep_bk1 hσ hw hs hx c hc r hcl

theorem obj_bk (hσ : okIds σ = true) (hw : WOk G w) (hs : StoOk G w sto) (hx : Ext (useG G w σ ln sto) H) (c : Bool) (hc : c = false → ln = []) {i j g : Nat} {o : AObj} (ho : ObjOk H w' j g o) (hj : idOf σ j = some i) (hcl : c = true → cleanO o = true) (hcell : cellsOk (bkO σ o) = true) :
    ObjOk (backG G σ sto H) w' i g (bkO σ o) := by
  have hz : ∀ {x : AVal} {v : Value}, Rep H false x v → (c = true → clean x = true) → Rep (backG G σ sto H) false x v := fun r h => r.fz (c := c) (fun q b o hq a d => backG_ok hw hs hx c hc q b o hq a d) rfl h
  have hF : ∀ b, H.F b = none → (backG G σ sto H).F b = none := by
    intro b h
    simp only [backG]
    split
    · rfl
    · exact h
  cases o with
  | row esz l =>
    obtain ⟨ob, cap, h1, h2, h3, h4, h5, h6, h7, h8⟩ := ho
    refine ⟨ob, cap, backG_M hσ hx hj h1, h2, h3, h4, h5, h6, h7, fun b hob => ?_⟩
    obtain ⟨a1, a2, c', e, a3, a4, a5⟩ := h8 b hob
    exact ⟨hF b a1, a2, c', e, a3, a4, fun i j x y hx' hy => hz (a5 i j x y hx' hy) fun h => cleanL_get (cleanLL_get (hcl h) hx') hy⟩
  | box cs =>
    obtain ⟨b, cap, esz, h1, h2, c', e, h3, h4, h5, h6⟩ := ho
    refine ⟨b, cap, esz, backG_M hσ hx hj h1, hF b h2, c', e, h3, by simpa using h4, fun j y hy => all_get hcell hy, fun j y hy => ?_⟩
    rw [List.getElem?_map] at hy
    obtain ⟨x, hx', rfl⟩ := Option.map_eq_some_iff.1 hy
    exact rep_bk1 hσ hw hs hx c hc (h6 j x hx') fun h => cleanL_get (hcl h) hx'
  | mp es =>
    obtain ⟨b, cap, esz, h1, h2, me, cl, h3, h4, h4', h5⟩ := ho
    refine ⟨b, cap, esz, backG_M hσ hx hj h1, hF b h2, me, cl, h3, h4, h4', fun j x hx' => ?_⟩
    obtain ⟨m, a1, a2, a3, a4⟩ := h5 j x hx'
    exact ⟨m, a1, a2, a3, hz a4 fun h => cleanM_get (hcl h) hx'⟩
  | mpi es =>
    obtain ⟨b, cap, esz, h1, h2, me, cl, h3, h4, h4', h5⟩ := ho
    refine ⟨b, cap, esz, backG_M hσ hx hj h1, hF b h2, me, cl, h3, h4, h4', fun j x hx' => ?_⟩
    obtain ⟨m, a1, a2, a3, a4⟩ := h5 j x hx'
    exact ⟨m, a1, a2, a3, hz a4 fun h => cleanMI_get (hcl h) hx'⟩

theorem ObjOk.blkF {G : Gh} {w : World} {id g : Nat} {o : AObj} (h : ObjOk G w id g o) (b : Nat) (hb : blkOf G id g = some b) : G.F b = none := by
  cases o with
  | row esz l =>
    obtain ⟨ob, cap, h1, _, _, _, _, _, _, h8⟩ := h
    exact (h8 b (by simpa [blkOf, h1] using hb)).1
  | box cs =>
    obtain ⟨b', cap, esz, h1, h2, _⟩ := h
    have : b' = b := by simpa [blkOf, h1] using hb
    exact this ▸ h2
  | mp es =>
    obtain ⟨b', cap, esz, h1, h2, _⟩ := h
    have : b' = b := by simpa [blkOf, h1] using hb
    exact this ▸ h2
  | mpi es =>
    obtain ⟨b', cap, esz, h1, h2, _⟩ := h
    have : b' = b := by simpa [blkOf, h1] using hb
    exact this ▸ h2

theorem sto_bk (hσ : okIds σ = true) (hw : WOk G w) (hs : StoOk G w sto) (hx : Ext (useG G w σ ln sto) H) (c : Bool) (hc : c = false → ln = []) {s1 : Sto} (hw' : WOk H w') (hs' : StoOk H w' s1) (hcl : c = true → cleanS s1 = true) (hcell : stoCells (bkS σ s1 (delAll σ sto)) = true) :
    StoOk (backG G σ sto H) w' (bkS σ s1 (delAll σ sto)) := by
  have hext := backG_ext hw hs hx
  -- what stands in the store behind the call
  have key : ∀ i g o, sget (bkS σ s1 (delAll σ sto)) i = some (g, o) →
      (∃ j o', idTo σ i = some j ∧ sget s1 j = some (g, o') ∧ o = bkO σ o') ∨ (idTo σ i = none ∧ sget sto i = some (g, o)) := by
    intro i g o h
    rw [sget_bkS hσ] at h
    cases hi : idTo σ i with
    | none =>
      rw [hi] at h
      simp only [sget_delAll, hi] at h
      exact .inr ⟨rfl, h⟩
    | some j =>
      rw [hi] at h
      simp only at h
      cases hj : sget s1 j with
      | none => rw [hj] at h; simp [sget_delAll, hi] at h
      | some x =>
        rw [hj] at h
        simp only [Option.some.injEq, Prod.mk.injEq] at h
        obtain ⟨rfl, rfl⟩ := h
        exact .inl ⟨j, x.2, rfl, hj, rfl⟩
  have hfrF : ∀ i g o b, idTo σ i = none → sget sto i = some (g, o) → blkOf G i g = some b → H.F b = w.heap[b]? ∧ b < w.heap.size := by
    intro i g o b hi hget hb
    have hlt := ((hs.obj i g o hget).blk hw b hb).2
    have h1 := useG_fr (σ := σ) (ln := ln) hw hs hget hi hb
    rw [Array.getElem?_eq_getElem hlt] at h1 ⊢
    exact ⟨hx.F b _ h1, hlt⟩
  have hblkN : ∀ i g o, idTo σ i = none → sget sto i = some (g, o) → blkOf (backG G σ sto H) i g = blkOf G i g := by
    intro i g o hi hget
    obtain ⟨hd, hM⟩ := (hs.obj i g o hget).M
    simp only [blkOf, hM, hext.M i g hd hM]
  have hblkJ : ∀ i j g o, idTo σ i = some j → sget s1 j = some (g, o) → blkOf (backG G σ sto H) i g = blkOf H j g := by
    intro i j g o hi hget
    obtain ⟨hd, hM⟩ := (hs'.obj j g o hget).M
    simp only [blkOf, hM, backG_M hσ hx ((idOf_to hσ).2 hi) hM]
  refine ⟨fun i g o h => ?_, fun i i' g g' o o' h h' hne b hb => ?_⟩
  · have hco := stoCells_get hcell h
    rcases key i g o h with ⟨j, o', hi, hget, rfl⟩ | ⟨hi, hget⟩
    · exact obj_bk hσ hw hs hx c hc (hs'.obj j g o' hget) ((idOf_to hσ).2 hi) (fun h => cleanS_get (hcl h) hget) hco
    · refine (hs.obj i g o hget).mono hext.toMono (fun b hb => ?_) (fun b hb => ?_)
      · simp only [backG]; rw [if_pos ⟨i, g, o, hget, hi, hb⟩]
      · obtain ⟨h1, h2⟩ := hfrF i g o b hi hget hb
        rw [Array.getElem?_eq_getElem h2] at h1 ⊢
        exact hw'.F b _ h1
  · rcases key i g o h with ⟨j, p, hi, hget, rfl⟩ | ⟨hi, hget⟩
    · rw [hblkJ i j g p hi hget] at hb
      rcases key i' g' o' h' with ⟨j', p', hi', hget', rfl⟩ | ⟨hi', hget'⟩
      · rw [hblkJ i' j' g' p' hi' hget']
        refine hs'.apart j j' g g' p p' hget hget' ?_ b hb
        rintro rfl
        have h1 := (idOf_to hσ).2 hi
        have h2 := (idOf_to hσ).2 hi'
        rw [h1] at h2
        exact hne (Option.some.inj h2)
      · rw [hblkN i' g' o' hi' hget']
        intro hb'
        have h1 := (hs'.obj j g p hget).blkF b hb
        obtain ⟨h2, h3⟩ := hfrF i' g' o' b hi' hget' hb'
        rw [h1, Array.getElem?_eq_getElem h3] at h2; cases h2
    · rw [hblkN i g o hi hget] at hb
      rcases key i' g' o' h' with ⟨j', p', hi', hget', rfl⟩ | ⟨hi', hget'⟩
      · rw [hblkJ i' j' g' p' hi' hget']
        intro hb'
        have h1 := (hs'.obj j' g' p' hget').blkF b hb'
        obtain ⟨h2, h3⟩ := hfrF i g o b hi hget hb
        rw [h1, Array.getElem?_eq_getElem h3] at h2; cases h2
      · rw [hblkN i' g' o' hi' hget']
        exact hs.apart i i' g g' o o' hget hget' hne b hb
end

/-- A contract is used: over the things that σ names, some others lent. -/
theorem ACall.use {P : Program} {f : Nat} {args : List AVal} {sto : Sto} {T : AVal → Sto → Prop} (σ : Ids) (ln : List Nat) {args1 : List AVal} {sto1 : Sto} {R1 : AVal → Sto → Prop} (hσ : okIds σ = true) (h : ACall P f args1 sto1 R1)
    (ha : args.map (tr σ ln sto) = args1) (hs1 : mkSto σ ln sto σ = sto1) (hc : stoCells sto1 = true)
    (hT : ∀ r s, R1 r s → (ln = [] ∨ (clean r = true ∧ cleanS s = true)) ∧ stoCells (bkS σ s (delAll σ sto)) = true ∧ T (bk σ r) (bkS σ s (delAll σ sto))) : ACall P f args sto T := by
  refine ⟨h.able, fun G w cargs hw hs hargs => ?_⟩
  subst ha hs1
  refine (h.calls (useG G w σ ln sto) w cargs (useG_wok hw hs) (sto_tr hw hs hσ hc) ⟨by simpa using hargs.1, fun j y hy => ?_⟩).mono fun e w' p => ?_
  · rw [List.getElem?_map] at hy
    obtain ⟨x, hx, rfl⟩ := Option.map_eq_some_iff.1 hy
    exact rep_tr hw hs hσ (hargs.2 j x hx)
  · obtain ⟨H, cr, r, s1, rfl, hx, hw', hs', hr, hR⟩ := p
    obtain ⟨hcl, hcell, hT'⟩ := hT r s1 hR
    refine ⟨backG G σ sto H, cr, bk σ r, bkS σ s1 (delAll σ sto), rfl, backG_ext hw hs hx, backG_wok hw hs hx hw', ?_, ?_, hT'⟩
    · rcases hcl with h | ⟨_, h⟩
      · exact sto_bk hσ hw hs hx false (fun _ => h) hw' hs' (fun h => by cases h) hcell
      · exact sto_bk hσ hw hs hx true (fun h => by cases h) hw' hs' (fun _ => h) hcell
    · rcases hcl with h | ⟨h, _⟩
      · exact rep_bk hσ hw hs hx false (fun _ => h) hr (fun h => by cases h)
      · exact rep_bk hσ hw hs hx true (fun h => by cases h) hr (fun _ => h)
end Go.Rad
