/- A part of the proof. -/
import Derived.Test.YtmbhpolhiblhoaaGreatDoorKROpS
set_option linter.all false
namespace Go.Rad
open Go
section
variable {P : Program} {L : Lay} {T : aa → Prop} {U : aa → Sto → Prop} {V : Sto → Prop} {sto : Sto}
def ldB (ti : TI) (g off : Nat) (T : aa → Prop) : Option (Nat × bc) → Prop
 | some (g', .box cs) => g' = g ∧ off + ti.sz ≤ cs.length ∧ 0 < ti.sz ∧ T (mkv ti (cs.drop off))
 | _ => False
def ldR (ti : TI) (g i off : Nat) (T : aa → Prop) : Option (Nat × bc) → Prop
 | some (g', .row esz l) => g' = g ∧ i < l.length ∧ off + ti.sz ≤ esz ∧ 0 < ti.sz ∧ ∀ x, l[i]? = some x → T (mkv ti (x.drop off))
 | _ => False
theorem L3 (t id g off : Nat) : bM L t (.bx id g off) sto T = ldB (L t) g off T (ak sto id) := by simp only [bM]; cases ak sto id with | none => rfl | some x => obtain ⟨a, b⟩ := x; cases b <;> rfl
theorem IL (t id g i off : Nat) : bM L t (.loc id g i off) sto T = ldR (L t) g i off T (ak sto id) := by simp only [bM]; cases ak sto id with | none => rfl | some x => obtain ⟨a, b⟩ := x; cases b <;> rfl
theorem IM (t : Nat) (q : Bool) (cs : List aa) : bM L t (.ref q cs) sto T = ((L t).sz ≤ cs.length ∧ 0 < (L t).sz ∧ T (mkv (L t) cs)) := Eq.trans rfl rfl
theorem CN (ti : TI) (g off g' : Nat) (cs : List aa) : ldB ti g off T (some (g', .box cs)) = (g' = g ∧ off + ti.sz ≤ cs.length ∧ 0 < ti.sz ∧ T (mkv ti (cs.drop off))) := Eq.trans rfl rfl
theorem CP (ti : TI) (g i off g' esz : Nat) (l : List (List aa)) : ldR ti g i off T (some (g', .row esz l)) = (g' = g ∧ i < l.length ∧ off + ti.sz ≤ esz ∧ 0 < ti.sz ∧ ∀ x, l[i]? = some x → T (mkv ti (x.drop off))) := Eq.trans rfl rfl
theorem CO {α : Type} (ti : TI) (g i off g' esz : Nat) (l : List α) (gg : α → List aa) : ldR ti g i off T (some (g', .row esz (l.map gg))) = (g' = g ∧ i < l.length ∧ off + ti.sz ≤ esz ∧ 0 < ti.sz ∧ ∀ k, l[i]? = some k → T (mkv ti ((gg k).drop off))) := by
 rw [CP, List.length_map]
 apply propext
 refine and_congr Iff.rfl (and_congr Iff.rfl (and_congr Iff.rfl (and_congr Iff.rfl ⟨fun h k hk => h (gg k) (by rw [List.getElem?_map, hk]; rfl), fun h x hx => ?_⟩)))
 rw [List.getElem?_map] at hx
 obtain ⟨k, hk, rfl⟩ := Option.map_eq_some_iff.1 hx
 exact h k hk
theorem IZ (ty : Ty) (sz b : Nat) (z cs : List aa) : mkv ⟨ty, true, sz, b, z⟩ cs = .agg (cs.take sz) := Eq.trans rfl rfl
theorem C5 (ty : Ty) (sz b : Nat) (z cs : List aa) : mkv ⟨ty, false, sz, b, z⟩ cs = cs.headD .undef := Eq.trans rfl rfl
def stB (ti : TI) (id g off : Nat) (vs : List aa) (sto : Sto) (V : Sto → Prop) : Option (Nat × bc) → Prop
 | some (g', .box cs) => g' = g ∧ off + ti.sz ≤ cs.length ∧ V (aF sto id (g, .box (bL cs off vs)))
 | _ => False
def stR (ti : TI) (id g i off : Nat) (vs : List aa) (sto : Sto) (V : Sto → Prop) : Option (Nat × bc) → Prop
 | some (g', .row esz l) => g' = g ∧ i < l.length ∧ off + ti.sz ≤ esz ∧ vs.all aa.bT = true ∧ ∀ x, l[i]? = some x → V (aF sto id (g, .row esz (l.set i (bL x off vs))))
 | _ => False
theorem Mz (t id g off : Nat) (v : aa) : cH L t (.bx id g off) v sto V = (v.aB = true ∧ (cellsOf v).length = (L t).sz ∧ stB (L t) id g off (cellsOf v) sto V (ak sto id)) := by simp only [cH]; cases ak sto id with | none => rfl | some x => obtain ⟨a, b⟩ := x; cases b <;> rfl
theorem JK (t id g i off : Nat) (v : aa) : cH L t (.loc id g i off) v sto V = (v.aB = true ∧ (cellsOf v).length = (L t).sz ∧ stR (L t) id g i off (cellsOf v) sto V (ak sto id)) := by simp only [cH]; cases ak sto id with | none => rfl | some x => obtain ⟨a, b⟩ := x; cases b <;> rfl
theorem Mx (t id g off : Nat) (v : aa) : cj L t (.bx id g off) v sto V = cH L t (.bx id g off) v sto V := Eq.trans rfl rfl
theorem JC (t id g i off : Nat) (v : aa) : cj L t (.loc id g i off) v sto V = cH L t (.loc id g i off) (ez v) sto V := Eq.trans rfl rfl
theorem Me (q f : Bool) (l : List (List aa)) : c8 (.sl q f l) = .sl q false l := Eq.trans rfl rfl
theorem I8 (k : IntKind) (n : Int) : c8 (.int k n) = .int k n := Eq.trans rfl rfl
theorem Dd (b : Bool) : c8 (.bool b) = .bool b := Eq.trans rfl rfl
theorem Jb (s : ByteArray) : c8 (.str s) = .str s := Eq.trans rfl rfl
theorem Ja (q : Bool) (l : List aa) : c8 (.ref q l) = .ref q l := Eq.trans rfl rfl
theorem I9 : c8 .nil = .nil := Eq.trans rfl rfl
theorem Ah : c8 .nilfn = .nilfn := Eq.trans rfl rfl
theorem xK : c8 .nilmap = .nilmap := Eq.trans rfl rfl
theorem Md (f : Nat) (l : List aa) : c8 (.fn f l) = .fn f l := Eq.trans rfl rfl
theorem Jc (cs : List aa) : ez (.agg cs) = .agg (cs.map c8) := Eq.trans rfl rfl
theorem Mg (q f : Bool) (l : List (List aa)) : ez (.sl q f l) = .sl q false l := Eq.trans rfl rfl
theorem Jd (k : IntKind) (n : Int) : ez (.int k n) = .int k n := Eq.trans rfl rfl
theorem De (b : Bool) : ez (.bool b) = .bool b := Eq.trans rfl rfl
theorem Jg (s : ByteArray) : ez (.str s) = .str s := Eq.trans rfl rfl
theorem Jf (q : Bool) (l : List aa) : ez (.ref q l) = .ref q l := Eq.trans rfl rfl
theorem Je : ez .nil = .nil := Eq.trans rfl rfl
theorem Mf (f : Nat) (l : List aa) : ez (.fn f l) = .fn f l := Eq.trans rfl rfl
theorem DH (ti : TI) (id g off g' : Nat) (vs cs : List aa) : stB ti id g off vs sto V (some (g', .box cs)) = (g' = g ∧ off + ti.sz ≤ cs.length ∧ V (aF sto id (g, .box (bL cs off vs)))) := Eq.trans rfl rfl
theorem DI (ti : TI) (id g i off g' esz : Nat) (vs : List aa) (l : List (List aa)) : stR ti id g i off vs sto V (some (g', .row esz l)) = (g' = g ∧ i < l.length ∧ off + ti.sz ≤ esz ∧ vs.all aa.bT = true ∧ ∀ x, l[i]? = some x → V (aF sto id (g, .row esz (l.set i (bL x off vs))))) := Eq.trans rfl rfl
def fdA (x : aa) (T : aa → Prop) : Option (Nat × Nat) → Prop
 | some (o, _) =>
  match x with
  | .bx id g off => T (.bx id g (off + o))
  | .loc id g i off => T (.loc id g i (off + o))
  | .ref q cs => o ≤ cs.length ∧ T (.ref q (cs.drop o))
  | _ => False
 | none => False
theorem LD (ti : TI) (x : aa) (f : Nat) : cV ti x f T = fdA x T (kW ti f) := by
 unfold cV
 cases kW ti f with
 | none => rfl
 | some p => obtain ⟨a, b⟩ := p; cases x <;> rfl
theorem H0 (id g off o t : Nat) : fdA (.bx id g off) T (some (o, t)) = T (.bx id g (off + o)) := Eq.trans rfl rfl
theorem Ca (id g i off o t : Nat) : fdA (.loc id g i off) T (some (o, t)) = T (.loc id g i (off + o)) := Eq.trans rfl rfl
theorem Cb (q : Bool) (cs : List aa) (o t : Nat) : fdA (.ref q cs) T (some (o, t)) = (o ≤ cs.length ∧ T (.ref q (cs.drop o))) := Eq.trans rfl rfl
theorem Ce (fs : List (Nat × Nat)) (a : Bool) (b c f : Nat) (z : List aa) : kW ⟨.struct fs, a, b, c, z⟩ f = fs[f]? := Eq.trans rfl rfl
def foA (L : Lay) (x : aa) (T : aa → Prop) : Option (Nat × Nat) → Prop
 | some (o, ft) =>
  match x with
  | .agg cs => o + (L ft).sz ≤ cs.length ∧ 0 < (L ft).sz ∧ T (mkv (L ft) (cs.drop o))
  | _ => False
 | none => False
theorem LF (t : Nat) (x : aa) (f : Nat) : ch L t x f T = foA L x T (kW (L t) f) := by
 unfold ch
 cases kW (L t) f with
 | none => rfl
 | some p => obtain ⟨a, b⟩ := p; cases x <;> rfl
theorem Cd (cs : List aa) (o ft : Nat) : foA L (.agg cs) T (some (o, ft)) = (o + (L ft).sz ≤ cs.length ∧ 0 < (L ft).sz ∧ T (mkv (L ft) (cs.drop o))) := Eq.trans rfl rfl
def ixO (L : Lay) (e id g off len : Nat) (n : Int) (T : aa → Prop) : Option (Nat × bc) → Prop
 | some (g', .row esz _) => g' = g ∧ esz = (L e).sz ∧ (0 ≤ n ∧ n < len) ∧ T (.loc id g (off + n.toNat) 0)
 | _ => False
def ixA (L : Lay) (x : aa) (n : Int) (sto : Sto) (T : aa → Prop) : Ty → Prop
 | .slice e =>
  match x with
  | .osl id g off len => ixO L e id g off len n T (ak sto id)
  | .sl q _ l => (0 ≤ n ∧ n < l.length) ∧ ∀ x, l[n.toNat]? = some x → x.length = (L e).sz ∧ T (.ref q x)
  | _ => False
 | .array m e =>
  (0 ≤ n ∧ n < m) ∧
  match x with
  | .bx id g off => T (.bx id g (off + n.toNat * (L e).sz))
  | .loc id g j off => T (.loc id g j (off + n.toNat * (L e).sz))
  | .ref q cs => n.toNat * (L e).sz ≤ cs.length ∧ T (.ref q (cs.drop (n.toNat * (L e).sz)))
  | _ => False
 | _ => False
theorem LY (t : Nat) (x : aa) (k : IntKind) (n : Int) : aE L t x (.int k n) sto T = ixA L x n sto T (L t).ty := by
 unfold aE ixA
 cases (L t).ty with
 | slice e =>
  cases x with
  | osl id g off len => simp only; cases ak sto id with | none => rfl | some x => obtain ⟨a, b⟩ := x; cases b <;> rfl
  | _ => rfl
 | array m e => cases x <;> rfl
 | _ => rfl
theorem CI (id g off len e : Nat) (n : Int) : ixA L (.osl id g off len) n sto T (.slice e) = ixO L e id g off len n T (ak sto id) := Eq.trans rfl rfl
theorem CJ (id g off len e g' esz : Nat) (n : Int) (l : List (List aa)) : ixO L e id g off len n T (some (g', .row esz l)) = (g' = g ∧ esz = (L e).sz ∧ (0 ≤ n ∧ n < len) ∧ T (.loc id g (off + n.toNat) 0)) := Eq.trans rfl rfl
theorem la (q f : Bool) (l : List (List aa)) (e : Nat) (n : Int) : ixA L (.sl q f l) n sto T (.slice e) = ((0 ≤ n ∧ n < l.length) ∧ ∀ x, l[n.toNat]? = some x → x.length = (L e).sz ∧ T (.ref q x)) := Eq.trans rfl rfl
theorem CH {α : Type} (q f : Bool) (l : List α) (gg : α → List aa) (e : Nat) (n : Int) : ixA L (.sl q f (l.map gg)) n sto T (.slice e) = ((0 ≤ n ∧ n < l.length) ∧ ∀ k, l[n.toNat]? = some k → (gg k).length = (L e).sz ∧ T (.ref q (gg k))) := by
 rw [la, List.length_map]
 apply propext
 refine and_congr Iff.rfl ⟨fun h k hk => h (gg k) (by rw [List.getElem?_map, hk]; rfl), fun h x hx => ?_⟩
 rw [List.getElem?_map] at hx
 obtain ⟨k, hk, rfl⟩ := Option.map_eq_some_iff.1 hx
 exact h k hk
theorem CG (id g off m e : Nat) (n : Int) : ixA L (.bx id g off) n sto T (.array m e) = ((0 ≤ n ∧ n < m) ∧ T (.bx id g (off + n.toNat * (L e).sz))) := Eq.trans rfl rfl
theorem zH (id g i off m e : Nat) (n : Int) : ixA L (.loc id g i off) n sto T (.array m e) = ((0 ≤ n ∧ n < m) ∧ T (.loc id g i (off + n.toNat * (L e).sz))) := Eq.trans rfl rfl
theorem zI (q : Bool) (cs : List aa) (m e : Nat) (n : Int) : ixA L (.ref q cs) n sto T (.array m e) = ((0 ≤ n ∧ n < m) ∧ n.toNat * (L e).sz ≤ cs.length ∧ T (.ref q (cs.drop (n.toNat * (L e).sz)))) := Eq.trans rfl rfl
def ivA (L : Lay) (x : aa) (n : Int) (T : aa → Prop) : Ty → Prop
 | .string => match x with
  | .str s => (0 ≤ n ∧ n < s.size) ∧ T (.int .u8 (kB s n.toNat))
  | _ => False
 | .array m e => match x with
  | .agg cs => (0 ≤ n ∧ n < m) ∧ n.toNat * (L e).sz + (L e).sz ≤ cs.length ∧ 0 < (L e).sz ∧ T (mkv (L e) (cs.drop (n.toNat * (L e).sz)))
  | _ => False
 | _ => False
theorem LU (t : Nat) (x : aa) (k : IntKind) (n : Int) : db L t x (.int k n) T = ivA L x n T (L t).ty := by
 unfold db ivA
 cases (L t).ty <;> first | rfl | (cases x <;> rfl)
theorem CE (s : ByteArray) (n : Int) : ivA L (.str s) n T .string = ((0 ≤ n ∧ n < s.size) ∧ T (.int .u8 (kB s n.toNat))) := Eq.trans rfl rfl
theorem CD (cs : List aa) (n : Int) (m e : Nat) : ivA L (.agg cs) n T (.array m e) = ((0 ≤ n ∧ n < m) ∧ n.toNat * (L e).sz + (L e).sz ≤ cs.length ∧ 0 < (L e).sz ∧ T (mkv (L e) (cs.drop (n.toNat * (L e).sz)))) := Eq.trans rfl rfl
theorem HX (vs : List aa) (i : Nat) : bV (.tup vs) i T = ∃ v, vs[i]? = some v ∧ T v := Eq.trans rfl rfl
def lnO (g : Nat) (T : aa → Prop) : Option (Nat × bc) → Prop
 | some (g', .mp es) => g' = g ∧ T (.int .i64 es.length)
 | some (g', .mpi es) => g' = g ∧ T (.int .i64 es.length)
 | _ => False
def lnA (x : aa) (sto : Sto) (T : aa → Prop) : Ty → Prop
 | .string => match x with | .str s => T (.int .i64 s.size) | _ => False
 | .slice _ => match x with | .sl _ _ l => T (.int .i64 l.length) | .osl _ _ _ len => T (.int .i64 len) | _ => False
 | .array n _ => n < 4294967296 ∧ T (.int .i64 n)
 | .map _ _ => match x with
  | .nilmap => T (.int .i64 0)
  | .map id g => lnO g T (ak sto id)
  | _ => False
 | _ => False
theorem L4 (t : Nat) (x : aa) : eg L t x sto T = lnA x sto T (L t).ty := by
 unfold eg lnA
 cases (L t).ty <;> first | rfl | (cases x <;> rfl)
theorem CT (id g kt et : Nat) : lnA (.map id g) sto T (.map kt et) = lnO g T (ak sto id) := Eq.trans rfl rfl
theorem IT (g g' : Nat) (es : List (ByteArray × aa)) : lnO g T (some (g', .mp es)) = (g' = g ∧ T (.int .i64 es.length)) := Eq.trans rfl rfl
theorem CW (g g' : Nat) (es : List (Int × aa)) : lnO g T (some (g', .mpi es)) = (g' = g ∧ T (.int .i64 es.length)) := Eq.trans rfl rfl
theorem CV (s : ByteArray) : lnA (.str s) sto T .string = T (.int .i64 s.size) := Eq.trans rfl rfl
theorem IS (q f : Bool) (l : List (List aa)) (e : Nat) : lnA (.sl q f l) sto T (.slice e) = T (.int .i64 l.length) := Eq.trans rfl rfl
theorem CU (id g o n e : Nat) : lnA (.osl id g o n) sto T (.slice e) = T (.int .i64 n) := Eq.trans rfl rfl
theorem CS (x : aa) (n e : Nat) : lnA x sto T (.array n e) = (n < 4294967296 ∧ T (.int .i64 n)) := Eq.trans rfl rfl
theorem HH (d t : Nat) (x : aa) : bE L d .len [t] [x] sto U = eg L t x sto fun r => U r sto := Eq.trans rfl rfl
theorem wY (d t t2 : Nat) (s x : aa) : bE L d .append [t, t2] [s, x] sto U = fZ L d t t2 s x sto U := Eq.trans rfl rfl
theorem HI (d : Nat) (ts : List Nat) (k k' : IntKind) (a b : Int) : bE L d .max ts [.int k a, .int k' b] sto U = (k = k' ∧ U (.int k (max a b)) sto) := Eq.trans rfl rfl
theorem HJ (d : Nat) (ts : List Nat) (k k' : IntKind) (a b : Int) : bE L d .min ts [.int k a, .int k' b] sto U = (k = k' ∧ U (.int k (min a b)) sto) := Eq.trans rfl rfl
def elO (g off len : Nat) : Option (Nat × bc) → Option (List (List aa))
 | some (g', .row _ l) => if g' = g ∧ off + len ≤ l.length then some ((l.drop off).take len) else none
 | _ => none
theorem LA (q f : Bool) (l : List (List aa)) : cE (.sl q f l) sto = some l := Eq.trans rfl rfl
theorem HV (id g off len : Nat) : cE (.osl id g off len) sto = elO g off len (ak sto id) := by simp only [cE]; cases ak sto id with | none => rfl | some x => obtain ⟨a, b⟩ := x; cases b <;> rfl
theorem BZ (g esz : Nat) (l : List (List aa)) : elO g 0 l.length (some (g, .row esz l)) = some l := by simp [elO]
theorem B0 (g esz : Nat) (x : List aa) : elO g 0 1 (some (g, .row esz [x])) = some [x] := by simp [elO]
theorem B3 (g g' off len esz : Nat) (l : List (List aa)) : elO g off len (some (g', .row esz l)) = if g' = g ∧ off + len ≤ l.length then some ((l.drop off).take len) else none := Eq.trans rfl rfl
def apO (id g off len sz b8 : Nat) (m : List (List aa)) (sto : Sto) (U : aa → Sto → Prop) : Option (Nat × bc) → Prop
 | some (g', .row esz l) => g' = g ∧ off = 0 ∧ len = l.length ∧ esz = sz ∧ (l.length + m.length) * b8 ≤ ao ∧ l.length + m.length ≤ ao ∧ ∀ h, U (.osl id h 0 (l.length + m.length)) (aF sto id (h, .row esz (l ++ m)))
 | _ => False
def apE (L : Lay) (d e : Nat) (s : aa) (sto : Sto) (U : aa → Sto → Prop) : Option (List (List aa)) → Prop
 | some m => 0 < (L e).sz ∧ (∀ y ∈ m, y.length = (L e).sz ∧ y.all aa.bT = true) ∧
   match s with
   | .osl id g off len => apO id g off len (L e).sz (L e).by8 m sto U (ak sto id)
   | .sl _ full l => full = true ∧ (∀ y ∈ l, y.length = (L e).sz ∧ y.all aa.bT = true) ∧ (l.length + m.length) * (L e).by8 ≤ ao ∧ l.length + m.length ≤ ao ∧
         (m ≠ [] ∨ l = []) ∧ ∀ h, U (.osl d h 0 (l.length + m.length)) (aF sto d (h, .row (L e).sz (l ++ m)))
   | _ => False
 | none => False
def apA (L : Lay) (d : Nat) (s x : aa) (sto : Sto) (U : aa → Sto → Prop) : Ty → Prop
 | .slice e => apE L d e s sto U (cE x sto)
 | _ => False
theorem Lp (d t : Nat) (s x : aa) : fZ L d t t s x sto U = apA L d s x sto U (L t).ty := by
 unfold fZ apA
 simp only [true_and]
 cases (L t).ty with
 | slice e =>
  simp only
  cases h : cE x sto with
  | none => simp [apE]
  | some m =>
   simp only [Option.some.injEq, exists_eq_left', apE]
   cases s with
   | osl id g off len => simp only; cases ak sto id with | none => rfl | some x => obtain ⟨a, b⟩ := x; cases b <;> rfl
   | _ => rfl
 | _ => rfl
theorem Hh (d e : Nat) (s x : aa) : apA L d s x sto U (.slice e) = apE L d e s sto U (cE x sto) := Eq.trans rfl rfl
theorem BJ (d id g off len e : Nat) (m : List (List aa)) : apE L d e (.osl id g off len) sto U (some m) = (0 < (L e).sz ∧ (∀ y ∈ m, y.length = (L e).sz ∧ y.all aa.bT = true) ∧ apO id g off len (L e).sz (L e).by8 m sto U (ak sto id)) := Eq.trans rfl rfl
theorem BK (id g off len sz b8 g' esz : Nat) (m l : List (List aa)) : apO id g off len sz b8 m sto U (some (g', .row esz l)) = (g' = g ∧ off = 0 ∧ len = l.length ∧ esz = sz ∧ (l.length + m.length) * b8 ≤ ao ∧ l.length + m.length ≤ ao ∧ ∀ h, U (.osl id h 0 (l.length + m.length)) (aF sto id (h, .row esz (l ++ m)))) := Eq.trans rfl rfl
theorem BI (d e : Nat) (q : Bool) (m : List (List aa)) : apE L d e (.sl q true []) sto U (some m) =
  (0 < (L e).sz ∧ (∀ y ∈ m, y.length = (L e).sz ∧ y.all aa.bT = true) ∧ m.length * (L e).by8 ≤ ao ∧ m.length ≤ ao ∧ ∀ h, U (.osl d h 0 m.length) (aF sto d (h, .row (L e).sz m))) := by
 simp [apE]
def mkA (L : Lay) (d : Nat) (n c : Int) (sto : Sto) (U : aa → Sto → Prop) : Ty → Prop
 | .slice e => 0 ≤ n ∧ n = c ∧ n * (L e).by8 ≤ ao ∧ n ≤ ao ∧ 0 < (L e).sz ∧ ∀ h, U (.osl d h 0 n.toNat) (aF sto d (h, .row (L e).sz ((List.replicate n.toNat (L e).zero).map (List.map c8))))
 | _ => False
theorem mk_eq (d t : Nat) (n c : Int) : iI L d t (.int .i64 n) (.int .i64 c) sto U = mkA L d n c sto U (L t).ty := by
 unfold iI mkA
 cases (L t).ty <;> rfl
theorem IY (d e : Nat) (n c : Int) : mkA L d n c sto U (.slice e) = (0 ≤ n ∧ n = c ∧ n * (L e).by8 ≤ ao ∧ n ≤ ao ∧ 0 < (L e).sz ∧ ∀ h, U (.osl d h 0 n.toNat) (aF sto d (h, .row (L e).sz ((List.replicate n.toNat (L e).zero).map (List.map c8))))) := Eq.trans rfl rfl
def bsC (L : Lay) (d n e : Nat) (sto : Sto) (U : aa → Sto → Prop) : Option (List aa) → Prop
 | some cs => cs.all aa.bT = true ∧ ∀ h, U (.osl d h 0 n) (aF sto d (h, .row (L e).sz ((chunks (L e).sz n cs).map (List.map c8))))
 | none => False
def bsA (L : Lay) (ti : TI) (d n : Nat) (ps : List (Nat × aa)) (sto : Sto) (U : aa → Sto → Prop) : Ty → Prop
 | .slice e => 0 < (L e).sz ∧ n * (L e).sz ≤ 1000000 ∧ bsC L d n e sto U (bP L ti (List.replicate n (L e).zero).flatten ps)
 | _ => False
theorem Ls (d t n : Nat) (ps : List (Nat × aa)) : bF L d t n ps sto U = bsA L (L t) d n ps sto U (L t).ty := by
 unfold bF bsA
 cases (L t).ty with
 | slice e =>
  simp only
  cases h : bP L (L t) (List.replicate n (L e).zero).flatten ps with
  | none => simp [bsC]
  | some m => simp only [Option.some.injEq, exists_eq_left', bsC]
 | _ => rfl
theorem HK (ti : TI) (d n e : Nat) (ps : List (Nat × aa)) : bsA L ti d n ps sto U (.slice e) = (0 < (L e).sz ∧ n * (L e).sz ≤ 1000000 ∧ bsC L d n e sto U (bP L ti (List.replicate n (L e).zero).flatten ps)) := Eq.trans rfl rfl
theorem yZ (d n e : Nat) (cs : List aa) : bsC L d n e sto U (some cs) = (cs.all aa.bT = true ∧ ∀ h, U (.osl d h 0 n) (aF sto d (h, .row (L e).sz ((chunks (L e).sz n cs).map (List.map c8))))) := Eq.trans rfl rfl
def fcA (L : Lay) (ti : TI) (cs : List aa) (v : aa) (rest : List (Nat × aa)) : Option (Nat × Nat) → Option (List aa)
 | some (off, sz) => if (cellsOf v).length = sz ∧ off + sz ≤ cs.length ∧ v.aB = true then bP L ti (bL cs off (cellsOf v)) rest else none
 | none => none
theorem HZ (ti : TI) (cs : List aa) : bP L ti cs [] = some cs := by simp [bP]
theorem LC (fs : List (Nat × Nat)) (a : Bool) (b c : Nat) (z cs : List aa) (i : Nat) (v : aa) (r : List (Nat × aa)) : bP L ⟨.struct fs, a, b, c, z⟩ cs ((i, v) :: r) = fcA L ⟨.struct fs, a, b, c, z⟩ cs v r ((fs[i]?).map fun f => (f.1, (L f.2).sz)) := by
 rw [bP]
 simp only
 cases fs[i]? <;> rfl
theorem HY (n e : Nat) (a : Bool) (b c : Nat) (z cs : List aa) (i : Nat) (v : aa) (r : List (Nat × aa)) : bP L ⟨.array n e, a, b, c, z⟩ cs ((i, v) :: r) = fcA L ⟨.array n e, a, b, c, z⟩ cs v r (some (i * (L e).sz, (L e).sz)) := by
 rw [bP]; rfl
theorem LB (e : Nat) (a : Bool) (b c : Nat) (z cs : List aa) (i : Nat) (v : aa) (r : List (Nat × aa)) : bP L ⟨.slice e, a, b, c, z⟩ cs ((i, v) :: r) = fcA L ⟨.slice e, a, b, c, z⟩ cs v r (some (i * (L e).sz, (L e).sz)) := by
 rw [bP]; rfl
theorem zq (ti : TI) (cs : List aa) (v : aa) (r : List (Nat × aa)) (off sz : Nat) : fcA L ti cs v r (some (off, sz)) = if (cellsOf v).length = sz ∧ off + sz ≤ cs.length ∧ v.aB = true then bP L ti (bL cs off (cellsOf v)) r else none := Eq.trans rfl rfl
theorem Hp (t : Nat) (a b : Bool) : bh L .eql t (.bool a) (.bool b) T = ((L t).ty = .bool ∧ T (.bool (a == b))) := Eq.trans rfl rfl
theorem Hq (t : Nat) (a b : Bool) : bh L .neq t (.bool a) (.bool b) T = ((L t).ty = .bool ∧ T (.bool (!(a == b)))) := Eq.trans rfl rfl
def eqN (sz : Nat) (ag : Bool) (neg : Bool) (n : Nat) (T : aa → Prop) : Option (List Int) → Option (List Int) → Prop
 | some a, some b => a.length = n ∧ b.length = n ∧ n ≤ 1000 ∧ sz = 1 ∧ ag = false ∧ T (.bool (if neg then !decide (a = b) else decide (a = b)))
 | _, _ => False
def eqI (sz : Nat) (ag : Bool) (xs ys : List aa) (neg : Bool) (n : Nat) (T : aa → Prop) : Ty → Prop
 | .int k => eqN sz ag neg n T (bj k xs) (bj k ys)
 | _ => False
def eqP (neg : Bool) (n : Nat) (T : aa → Prop) : Option (List Int) → Option (List Int) → Prop
 | some a, some b => a.length = n ∧ b.length = n ∧ T (.bool (if neg then !decide (a = b) else decide (a = b)))
 | _, _ => False
def eqS (xs ys : List aa) (neg : Bool) (n : Nat) (T : aa → Prop) : Option IntKind → Prop
 | some k => eqP neg n T (bj k xs) (bj k ys)
 | none => False
def eqA (L : Lay) (xs ys : List aa) (neg : Bool) (T : aa → Prop) : Ty → Prop
 | .array n e => eqI (L e).sz (L e).ag xs ys neg n T (L e).ty
 | .struct fs => eqS xs ys neg fs.length T (fv L fs)
 | _ => False
theorem yU (t : Nat) (a b : List aa) (neg : Bool) : dH L t a b (fun r => T (.bool (if neg then !r else r))) = eqA L a b neg T (L t).ty := by
 unfold dH eqA
 cases (L t).ty with
 | array n e =>
  simp only
  unfold eqI
  cases (L e).ty with
  | int k =>
   simp only
   cases h1 : bj k a <;> cases h2 : bj k b <;> simp [eqN]
  | _ => rfl
 | struct fs =>
  simp only
  unfold eqS
  cases fv L fs with
  | some k =>
   simp only
   cases h1 : bj k a <;> cases h2 : bj k b <;> simp [eqP]
  | none => rfl
 | _ => rfl
theorem Hn (t : Nat) (a b : List aa) : bh L .eql t (.agg a) (.agg b) T = eqA L a b false T (L t).ty := yU t a b false
theorem Ho (t : Nat) (a b : List aa) : bh L .neq t (.agg a) (.agg b) T = eqA L a b true T (L t).ty := yU t a b true
theorem B6 (xs ys : List aa) (neg : Bool) (fs : List (Nat × Nat)) : eqA L xs ys neg T (.struct fs) = eqS xs ys neg fs.length T (fv L fs) := Eq.trans rfl rfl
theorem zn (xs ys : List aa) (neg : Bool) (n : Nat) (k : IntKind) : eqS xs ys neg n T (some k) = eqP neg n T (bj k xs) (bj k ys) := Eq.trans rfl rfl
theorem zm (neg : Bool) (n : Nat) (a b : List Int) : eqP neg n T (some a) (some b) = (a.length = n ∧ b.length = n ∧ T (.bool (if neg then !decide (a = b) else decide (a = b)))) := Eq.trans rfl rfl
theorem rA (o ft : Nat) (fs : List (Nat × Nat)) : fv L ((o, ft) :: fs) = vT L ((o, ft) :: fs) (L ft).ty := Eq.trans rfl rfl
theorem xy (fs : List (Nat × Nat)) (k : IntKind) : vT L fs (.int k) = if kA L k fs 0 = true then some k else none := Eq.trans rfl rfl
theorem ya (k : IntKind) (i : Nat) : kA L k [] i = true := Eq.trans rfl rfl
theorem u1 (k : IntKind) (o ft i : Nat) (fs : List (Nat × Nat)) : kA L k ((o, ft) :: fs) i = (Nat.beq o i && decide ((L ft).ty = .int k) && Nat.beq (L ft).sz 1 && !(L ft).ag && kA L k fs (i + 1)) := Eq.trans rfl rfl
theorem B5 (xs ys : List aa) (neg : Bool) (n e : Nat) : eqA L xs ys neg T (.array n e) = eqI (L e).sz (L e).ag xs ys neg n T (L e).ty := Eq.trans rfl rfl
theorem B7 (sz : Nat) (ag : Bool) (xs ys : List aa) (neg : Bool) (n : Nat) (k : IntKind) : eqI sz ag xs ys neg n T (.int k) = eqN sz ag neg n T (bj k xs) (bj k ys) := Eq.trans rfl rfl
theorem zl (sz : Nat) (ag : Bool) (neg : Bool) (n : Nat) (a b : List Int) : eqN sz ag neg n T (some a) (some b) = (a.length = n ∧ b.length = n ∧ n ≤ 1000 ∧ sz = 1 ∧ ag = false ∧ T (.bool (if neg then !decide (a = b) else decide (a = b)))) := Eq.trans rfl rfl
theorem Iv (k : IntKind) : bj k [] = some [] := Eq.trans rfl rfl
theorem CA (k : IntKind) (n : Int) (r : List aa) : bj k (.int k n :: r) = (bj k r).map (n :: ·) := by simp [bj]
theorem Iu (k : IntKind) (l : List Int) : bj k (l.map (aa.int k)) = some l := by induction l with | nil => rfl | cons a l ih => simp [bj, ih]
theorem Hj (n : Int) : bo .i64 n T = (gS n ∧ T (.int .i64 n)) := Eq.trans rfl rfl
theorem Lq (n : Int) : bo .u8 n T = T (.int .u8 (IntKind.u8.wrap n)) := Eq.trans rfl rfl
theorem Hk (n : Int) : bo .u16 n T = T (.int .u16 (IntKind.u16.wrap n)) := Eq.trans rfl rfl
theorem Hl (n : Int) : bo .u32 n T = T (.int .u32 (IntKind.u32.wrap n)) := Eq.trans rfl rfl
theorem Hm (n : Int) : bo .u64 n T = T (.int .u64 (IntKind.u64.wrap n)) := Eq.trans rfl rfl
theorem Hi (n : Int) : bo .i32 n T = T (.int .i32 (IntKind.i32.wrap n)) := Eq.trans rfl rfl
theorem JT (b : Bool) : oN .not (.bool b) T = T (.bool !b) := Eq.trans rfl rfl
theorem JS (k : IntKind) (n : Int) : oN .neg (.int k n) T = bo k (0 - n) T := Eq.trans rfl rfl
theorem JU (k : IntKind) (n : Int) : oN .xor (.int k n) T = T (.int k (bitsOf .xor k (if k.signed then -1 else k.max) n)) := Eq.trans rfl rfl
def slA (L : Lay) (x : aa) (lo hi mx : Option aa) (sto : Sto) (T : aa → Prop) : Ty → Prop
 | .string => match x with
  | .str s => mx.isNone = true ∧ aX lo 0 fun l => aX hi s.size fun h => (l ≤ h ∧ h ≤ s.size) ∧ T (.str (s.extract l h))
  | _ => False
 | .slice e => match x with
  | .sl q full es => aX lo 0 fun l => aX hi es.length fun h => aX mx es.length fun m =>
   (l ≤ h ∧ h ≤ m ∧ m ≤ es.length) ∧ (l = 0 ∨ ∀ y ∈ es, y.length = (L e).sz) ∧ T (.sl q (eZ mx full h m es.length) ((es.take h).drop l))
  | .osl id g off len => mx.isNone = true ∧ (∃ g' l, ak sto id = some (g', .row (L e).sz l) ∧ g' = g) ∧ aX lo 0 fun l => aX hi len fun h => (l ≤ h ∧ h ≤ len) ∧ T (.osl id g (off + l) (h - l))
  | _ => False
 | _ => False
theorem Mw (t : Nat) (x : aa) (lo hi mx : Option aa) : bY L t x lo hi mx sto T = slA L x lo hi mx sto T (L t).ty := by
 unfold bY slA
 cases (L t).ty <;> first | rfl | (cases x <;> rfl)
theorem DE (s : ByteArray) (lo hi mx : Option aa) : slA L (.str s) lo hi mx sto T .string = (mx.isNone = true ∧ aX lo 0 fun l => aX hi s.size fun h => (l ≤ h ∧ h ≤ s.size) ∧ T (.str (s.extract l h))) := Eq.trans rfl rfl
theorem JB (q full : Bool) (es : List (List aa)) (lo hi mx : Option aa) (e : Nat) : slA L (.sl q full es) lo hi mx sto T (.slice e) = aX lo 0 fun l => aX hi es.length fun h => aX mx es.length fun m => (l ≤ h ∧ h ≤ m ∧ m ≤ es.length) ∧ (l = 0 ∨ ∀ y ∈ es, y.length = (L e).sz) ∧ T (.sl q (eZ mx full h m es.length) ((es.take h).drop l)) := Eq.trans rfl rfl
theorem DD (id g off len : Nat) (lo hi mx : Option aa) (e : Nat) : slA L (.osl id g off len) lo hi mx sto T (.slice e) = (mx.isNone = true ∧ (∃ g' l, ak sto id = some (g', .row (L e).sz l) ∧ g' = g) ∧ aX lo 0 fun l => aX hi len fun h => (l ≤ h ∧ h ≤ len) ∧ T (.osl id g (off + l) (h - l))) := Eq.trans rfl rfl
theorem Cy (d : Nat) (Q : Nat → Prop) : aX none d Q = Q d := Eq.trans rfl rfl
theorem Cz (k : IntKind) (n : Int) (d : Nat) (Q : Nat → Prop) : aX (some (.int k n)) d Q = (0 ≤ n ∧ Q n.toNat) := Eq.trans rfl rfl
theorem DB (f : Bool) (h m n : Nat) : eZ none f h m n = (f && decide (h = n)) := Eq.trans rfl rfl
theorem DC (v : aa) (f : Bool) (h m n : Nat) : eZ (some v) f h m n = decide (m = h) := Eq.trans rfl rfl
def cvA (L : Lay) (s : Nat) (x : aa) (T : aa → Prop) : Ty → Prop
 | .int k => match x with | .int _ n => T (.int k (k.wrap n)) | _ => False
 | .string => match x with | .str s' => (L s).ty = .string ∧ T (.str s') | .sl _ _ l => (∃ e, (L s).ty = .slice e ∧ (L e).ty = .int .u8) ∧ ∃ bs, iE l = some bs ∧ T (.str ⟨bs.toArray⟩) | _ => False
 | _ => False
theorem Ly (s t : Nat) (x : aa) : cU L s t x T = ((L s).ty ≠ .other ∧ cvA L s x T (L t).ty) := by
 unfold cU cvA
 cases (L t).ty <;> first | rfl | (cases x <;> rfl)
theorem BU (s : Nat) (k k' : IntKind) (n : Int) : cvA L s (.int k' n) T (.int k) = T (.int k (k.wrap n)) := Eq.trans rfl rfl
theorem HU (s : Nat) (q f : Bool) (l : List (List aa)) : cvA L s (.sl q f l) T .string = ((∃ e, (L s).ty = .slice e ∧ (L e).ty = .int .u8) ∧ ∃ bs, iE l = some bs ∧ T (.str ⟨bs.toArray⟩)) := Eq.trans rfl rfl
theorem yh : iE [] = some [] := Eq.trans rfl rfl
theorem u7 (n : Int) (l : List (List aa)) : iE ([.int .u8 n] :: l) = (iE l).map (UInt8.ofNat n.toNat :: ·) := Eq.trans rfl rfl
theorem BV (s : Nat) (b : ByteArray) : cvA L s (.str b) T .string = ((L s).ty = .string ∧ T (.str b)) := Eq.trans rfl rfl
def lv (z : aa) (ok : Bool) : Option aa → aa
 | some v => if ok then .tup [v, .bool true] else v
 | none => if ok then .tup [z, .bool false] else z
def luO (z : aa) (g : Nat) (key : ByteArray) (ok : Bool) (T : aa → Prop) : Option (Nat × bc) → Prop
 | some (g', .mp es) => g' = g ∧ T (lv z ok (er es key))
 | _ => False
def luI (z : aa) (g : Nat) (key : Int) (ok : Bool) (T : aa → Prop) : Option (Nat × bc) → Prop
 | some (g', .mpi es) => g' = g ∧ T (lv z ok (er es key))
 | _ => False
def luA (L : Lay) (m k : aa) (ok : Bool) (sto : Sto) (T : aa → Prop) : Ty → Prop
 | .map kt et =>
  match m, k with
  | .map id g, .str key => (L kt).ty = .string ∧ (L et).sz = 1 ∧ (L et).ag = false ∧ luO ((L et).zero.headD .undef) g key ok T (ak sto id)
  | .map id g, .int .i64 key => (L kt).ty = .int .i64 ∧ (L et).sz = 1 ∧ (L et).ag = false ∧ luI ((L et).zero.headD .undef) g key ok T (ak sto id)
  | _, _ => False
 | _ => False
theorem L5 (t : Nat) (m k : aa) (ok : Bool) : cO L t m k ok sto T = luA L m k ok sto T (L t).ty := by
 unfold cO luA
 cases (L t).ty with
 | map kt et => rfl
 | _ => rfl
theorem CZ (id g kt et : Nat) (key : ByteArray) (ok : Bool) : luA L (.map id g) (.str key) ok sto T (.map kt et) = ((L kt).ty = .string ∧ (L et).sz = 1 ∧ (L et).ag = false ∧ luO ((L et).zero.headD .undef) g key ok T (ak sto id)) := Eq.trans rfl rfl
theorem zT (id g kt et : Nat) (key : Int) (ok : Bool) : luA L (.map id g) (.int .i64 key) ok sto T (.map kt et) = ((L kt).ty = .int .i64 ∧ (L et).sz = 1 ∧ (L et).ag = false ∧ luI ((L et).zero.headD .undef) g key ok T (ak sto id)) := Eq.trans rfl rfl
theorem IU (z : aa) (g g' : Nat) (key : Int) (ok : Bool) (es : List (Int × aa)) : luI z g key ok T (some (g', .mpi es)) = (g' = g ∧ T (lv z ok (er es key))) := Eq.trans rfl rfl
theorem IV (z : aa) (g g' : Nat) (key : ByteArray) (ok : Bool) (es : List (ByteArray × aa)) : luO z g key ok T (some (g', .mp es)) = (g' = g ∧ T (lv z ok (er es key))) := Eq.trans rfl rfl
theorem C1 (z v : aa) (ok : Bool) : lv z ok (some v) = if ok then .tup [v, .bool true] else v := Eq.trans rfl rfl
theorem C0 (z : aa) (ok : Bool) : lv z ok none = if ok then .tup [z, .bool false] else z := Eq.trans rfl rfl
def muO (id g : Nat) (key : ByteArray) (v : aa) (sto : Sto) (V : Sto → Prop) : Option (Nat × bc) → Prop
 | some (g', .mp es) => g' = g ∧ es.length + 1 ≤ ao ∧ V (aF sto id (g, .mp (eQ es key v)))
 | _ => False
def muI (id g : Nat) (key : Int) (v : aa) (sto : Sto) (V : Sto → Prop) : Option (Nat × bc) → Prop
 | some (g', .mpi es) => g' = g ∧ es.length + 1 ≤ ao ∧ V (aF sto id (g, .mpi (eQ es key v)))
 | _ => False
def muA (L : Lay) (m k v : aa) (sto : Sto) (V : Sto → Prop) : Ty → Prop
 | .map kt et =>
  match m, k with
  | .map id g, .str key => (L kt).ty = .string ∧ (L et).sz = 1 ∧ (L et).ag = false ∧ v.bT = true ∧ muO id g key v sto V (ak sto id)
  | .map id g, .int .i64 key => (L kt).ty = .int .i64 ∧ (L et).sz = 1 ∧ (L et).ag = false ∧ v.bT = true ∧ muI id g key v sto V (ak sto id)
  | _, _ => False
 | _ => False
theorem L8 (t : Nat) (m k v : aa) : cn L t m k v sto V = muA L m k v sto V (L t).ty := by
 unfold cn muA
 cases (L t).ty with
 | map kt et => rfl
 | _ => rfl
theorem C6 (id g kt et : Nat) (key : ByteArray) (v : aa) : muA L (.map id g) (.str key) v sto V (.map kt et) = ((L kt).ty = .string ∧ (L et).sz = 1 ∧ (L et).ag = false ∧ v.bT = true ∧ muO id g key v sto V (ak sto id)) := Eq.trans rfl rfl
theorem Ae (id g kt et : Nat) (key : Int) (v : aa) : muA L (.map id g) (.int .i64 key) v sto V (.map kt et) = ((L kt).ty = .int .i64 ∧ (L et).sz = 1 ∧ (L et).ag = false ∧ v.bT = true ∧ muI id g key v sto V (ak sto id)) := Eq.trans rfl rfl
theorem I0 (id g g' : Nat) (key : Int) (v : aa) (es : List (Int × aa)) : muI id g key v sto V (some (g', .mpi es)) = (g' = g ∧ es.length + 1 ≤ ao ∧ V (aF sto id (g, .mpi (eQ es key v)))) := Eq.trans rfl rfl
theorem I1 (id g g' : Nat) (key : ByteArray) (v : aa) (es : List (ByteArray × aa)) : muO id g key v sto V (some (g', .mp es)) = (g' = g ∧ es.length + 1 ≤ ao ∧ V (aF sto id (g, .mp (eQ es key v)))) := Eq.trans rfl rfl
theorem ME (t : Nat) (q f : Bool) (l : List (List aa)) (B : Bool → Prop) : lZ L t (.sl q f l) B = ((∃ e, (L t).ty = .slice e) ∧ ∀ b : Bool, (b = true → l = []) → B b) := Eq.trans rfl rfl
theorem JX (t id g o n : Nat) (B : Bool → Prop) : lZ L t (.osl id g o n) B = ((∃ e, (L t).ty = .slice e) ∧ ∀ b : Bool, (b = true → n = 0) → B b) := Eq.trans rfl rfl
theorem HM (cs : List aa) : cellsOf (.agg cs) = cs := Eq.trans rfl rfl
theorem HQ : cellsOf .nil = [.nil] := Eq.trans rfl rfl
theorem w5 : cellsOf .nilmap = [.nilmap] := Eq.trans rfl rfl
theorem zc : cellsOf .nilfn = [.nilfn] := Eq.trans rfl rfl
theorem Ix (cs : List aa) : (aa.agg cs).aB = true := Eq.trans rfl rfl
theorem IB : aa.nil.aB = true := Eq.trans rfl rfl
theorem xw : aa.nilmap.aB = true := Eq.trans rfl rfl
theorem zG : aa.nilfn.aB = true := Eq.trans rfl rfl
theorem H6 : aa.nil.bT = true := Eq.trans rfl rfl
theorem LG (f : Nat) : (aa.fn f []).bT = true := Eq.trans rfl rfl
theorem H7 (a b c d : Nat) : (aa.osl a b c d).bT = false := Eq.trans rfl rfl
theorem BS (sz : Nat) (cs : List aa) : chunks sz 0 cs = [] := Eq.trans rfl rfl
theorem BR (sz n : Nat) (cs : List aa) : chunks sz (n + 1) cs = cs.take sz :: chunks sz n (cs.drop sz) := Eq.trans rfl rfl
theorem HL (sz : Nat) (cs : List aa) : chunks sz 1 cs = [cs.take sz] := Eq.trans rfl rfl
theorem My (cs : List aa) (off : Nat) (vs : List aa) : bL cs off vs = cs.take off ++ vs ++ cs.drop (off + vs.length) := Eq.trans rfl rfl
theorem Hs (t : Nat) (k k' : IntKind) (a b : Int) : bh L .add t (.int k a) (.int k' b) T = (k = k' ∧ bu .add k a b T) := Eq.trans rfl rfl
theorem HF (t : Nat) (k k' : IntKind) (a b : Int) : bh L .sub t (.int k a) (.int k' b) T = (k = k' ∧ bu .sub k a b T) := Eq.trans rfl rfl
theorem Hz (t : Nat) (k k' : IntKind) (a b : Int) : bh L .mul t (.int k a) (.int k' b) T = (k = k' ∧ bu .mul k a b T) := Eq.trans rfl rfl
theorem HB (t : Nat) (k k' : IntKind) (a b : Int) : bh L .quo t (.int k a) (.int k' b) T = (k = k' ∧ bu .quo k a b T) := Eq.trans rfl rfl
theorem HC (t : Nat) (k k' : IntKind) (a b : Int) : bh L .rem t (.int k a) (.int k' b) T = (k = k' ∧ bu .rem k a b T) := Eq.trans rfl rfl
theorem Ht (t : Nat) (k k' : IntKind) (a b : Int) : bh L .and t (.int k a) (.int k' b) T = (k = k' ∧ bu .and k a b T) := Eq.trans rfl rfl
theorem Lr (t : Nat) (k k' : IntKind) (a b : Int) : bh L .or t (.int k a) (.int k' b) T = (k = k' ∧ bu .or k a b T) := Eq.trans rfl rfl
theorem HG (t : Nat) (k k' : IntKind) (a b : Int) : bh L .xor t (.int k a) (.int k' b) T = (k = k' ∧ bu .xor k a b T) := Eq.trans rfl rfl
theorem wW (t : Nat) (k k' : IntKind) (a b : Int) : bh L .andNot t (.int k a) (.int k' b) T = (k = k' ∧ bu .andNot k a b T) := Eq.trans rfl rfl
theorem Hu (t : Nat) (k k' : IntKind) (a b : Int) : bh L .eql t (.int k a) (.int k' b) T = (k = k' ∧ bu .eql k a b T) := Eq.trans rfl rfl
theorem HA (t : Nat) (k k' : IntKind) (a b : Int) : bh L .neq t (.int k a) (.int k' b) T = (k = k' ∧ bu .neq k a b T) := Eq.trans rfl rfl
theorem Hy (t : Nat) (k k' : IntKind) (a b : Int) : bh L .lss t (.int k a) (.int k' b) T = (k = k' ∧ bu .lss k a b T) := Eq.trans rfl rfl
theorem Hx (t : Nat) (k k' : IntKind) (a b : Int) : bh L .leq t (.int k a) (.int k' b) T = (k = k' ∧ bu .leq k a b T) := Eq.trans rfl rfl
theorem Hw (t : Nat) (k k' : IntKind) (a b : Int) : bh L .gtr t (.int k a) (.int k' b) T = (k = k' ∧ bu .gtr k a b T) := Eq.trans rfl rfl
theorem Hv (t : Nat) (k k' : IntKind) (a b : Int) : bh L .geq t (.int k a) (.int k' b) T = (k = k' ∧ bu .geq k a b T) := Eq.trans rfl rfl
theorem Ig (k : IntKind) (a b : Int) : bu .add k a b T = bo k (a + b) T := Eq.trans rfl rfl
theorem Is (k : IntKind) (a b : Int) : bu .sub k a b T = bo k (a - b) T := Eq.trans rfl rfl
theorem Io (k : IntKind) (a b : Int) : bu .mul k a b T = bo k (a * b) T := Eq.trans rfl rfl
theorem Iq (k : IntKind) (a b : Int) : bu .quo k a b T = (b ≠ 0 ∧ bo k (a.tdiv b) T) := Eq.trans rfl rfl
theorem Ir (k : IntKind) (a b : Int) : bu .rem k a b T = (b ≠ 0 ∧ T (.int k (a.tmod b))) := Eq.trans rfl rfl
theorem Ih (k : IntKind) (a b : Int) : bu .and k a b T = T (.int k (bitsOf .and k a b)) := Eq.trans rfl rfl
theorem LP (k : IntKind) (a b : Int) : bu .or k a b T = T (.int k (bitsOf .or k a b)) := Eq.trans rfl rfl
theorem It (k : IntKind) (a b : Int) : bu .xor k a b T = T (.int k (bitsOf .xor k a b)) := Eq.trans rfl rfl
theorem xr (k : IntKind) (a b : Int) : bu .andNot k a b T = T (.int k (bitsOf .andNot k a b)) := Eq.trans rfl rfl
theorem Ii (k : IntKind) (a b : Int) : bu .eql k a b T = T (.bool (decide (a = b))) := Eq.trans rfl rfl
theorem Ip (k : IntKind) (a b : Int) : bu .neq k a b T = T (.bool (!decide (a = b))) := Eq.trans rfl rfl
theorem Im (k : IntKind) (a b : Int) : bu .lss k a b T = T (.bool (decide (a < b))) := Eq.trans rfl rfl
theorem Il (k : IntKind) (a b : Int) : bu .leq k a b T = T (.bool (decide (a ≤ b))) := Eq.trans rfl rfl
theorem Ik (k : IntKind) (a b : Int) : bu .gtr k a b T = T (.bool (decide (b < a))) := Eq.trans rfl rfl
theorem Ij (k : IntKind) (a b : Int) : bu .geq k a b T = T (.bool (decide (b ≤ a))) := Eq.trans rfl rfl
theorem HD (t : Nat) (k k' : IntKind) (a b : Int) : bh L .shl t (.int k a) (.int k' b) T = dc .shl k a b T := Eq.trans rfl rfl
theorem HE (t : Nat) (k k' : IntKind) (a b : Int) : bh L .shr t (.int k a) (.int k' b) T = dc .shr k a b T := Eq.trans rfl rfl
theorem Jz (k : IntKind) (a b : Int) : dc .shl k a b T = (0 ≤ b ∧ T (.int k (k.wrap (a * 2 ^ min b.toNat k.bits)))) := Eq.trans rfl rfl
theorem JA (k : IntKind) (a b : Int) : dc .shr k a b T = (0 ≤ b ∧ T (.int k (a.fdiv (2 ^ min b.toNat k.bits)))) := Eq.trans rfl rfl
theorem JD (t : Nat) (a b : ByteArray) : bh L .add t (.str a) (.str b) T = (a.size + b.size ≤ maxLen ∧ T (.str (a ++ b))) := Eq.trans rfl rfl
theorem JE (t : Nat) (a b : ByteArray) : bh L .eql t (.str a) (.str b) T = T (.bool (decide (a = b))) := Eq.trans rfl rfl
theorem JJ (t : Nat) (a b : ByteArray) : bh L .neq t (.str a) (.str b) T = T (.bool (!decide (a = b))) := Eq.trans rfl rfl
theorem JI (t : Nat) (a b : ByteArray) : bh L .lss t (.str a) (.str b) T = T (.bool (Op.bytesLess a.toList b.toList)) := Eq.trans rfl rfl
theorem JG (t : Nat) (a b : ByteArray) : bh L .gtr t (.str a) (.str b) T = T (.bool (!(Op.bytesLess a.toList b.toList || decide (a = b)))) := Eq.trans rfl rfl
theorem JH (t : Nat) (a b : ByteArray) : bh L .leq t (.str a) (.str b) T = T (.bool (Op.bytesLess a.toList b.toList || decide (a = b))) := Eq.trans rfl rfl
theorem JF (t : Nat) (a b : ByteArray) : bh L .geq t (.str a) (.str b) T = T (.bool (!Op.bytesLess a.toList b.toList)) := Eq.trans rfl rfl
theorem BT (b : Bool) : cellsOf (.bool b) = [.bool b] := Eq.trans rfl rfl
theorem CF (b : Bool) : (aa.bool b).aB = true := Eq.trans rfl rfl
theorem Cp (b : Bool) : (aa.bool b).bT = true := Eq.trans rfl rfl
theorem HN (k : IntKind) (n : Int) : cellsOf (.int k n) = [.int k n] := Eq.trans rfl rfl
theorem Iy (k : IntKind) (n : Int) : (aa.int k n).aB = true := Eq.trans rfl rfl
theorem H5 (k : IntKind) (n : Int) : (aa.int k n).bT = true := Eq.trans rfl rfl
theorem HT (s : ByteArray) : cellsOf (.str s) = [.str s] := Eq.trans rfl rfl
theorem IE (s : ByteArray) : (aa.str s).aB = true := Eq.trans rfl rfl
theorem H9 (s : ByteArray) : (aa.str s).bT = true := Eq.trans rfl rfl
theorem Lx (q f : Bool) (l : List (List aa)) : cellsOf (.sl q f l) = [.sl q f l] := Eq.trans rfl rfl
theorem LX (q f : Bool) (l : List (List aa)) : (aa.sl q f l).aB = true := Eq.trans rfl rfl
theorem LH (q f : Bool) (l : List (List aa)) : (aa.sl q f l).bT = true := Eq.trans rfl rfl
theorem HS (q : Bool) (l : List aa) : cellsOf (.ref q l) = [.ref q l] := Eq.trans rfl rfl
theorem ID (q : Bool) (l : List aa) : (aa.ref q l).aB = true := Eq.trans rfl rfl
theorem H8 (q : Bool) (l : List aa) : (aa.ref q l).bT = true := Eq.trans rfl rfl
theorem HR (a b c d : Nat) : cellsOf (.osl a b c d) = [.osl a b c d] := Eq.trans rfl rfl
theorem IC (a b c d : Nat) : (aa.osl a b c d).aB = true := Eq.trans rfl rfl
theorem Lv (a b c : Nat) : cellsOf (.bx a b c) = [.bx a b c] := Eq.trans rfl rfl
theorem LV (a b c : Nat) : (aa.bx a b c).aB = true := Eq.trans rfl rfl
theorem HO (a b c d : Nat) : cellsOf (.loc a b c d) = [.loc a b c d] := Eq.trans rfl rfl
theorem Iz (a b c d : Nat) : (aa.loc a b c d).aB = true := Eq.trans rfl rfl
theorem HP (a b : Nat) : cellsOf (.map a b) = [.map a b] := Eq.trans rfl rfl
theorem IA (a b : Nat) : (aa.map a b).aB = true := Eq.trans rfl rfl
theorem Lw (f : Nat) (l : List aa) : cellsOf (.fn f l) = [.fn f l] := Eq.trans rfl rfl
theorem LW (f : Nat) (l : List aa) : (aa.fn f l).aB = true := Eq.trans rfl rfl
end
end Go.Rad
namespace Go.Rad
open Go
abbrev Ids := List (Nat × Nat)
def bw : Ids → Nat → Option Nat
 | [], _ => none
 | (a, b) :: r, j => if a = j then some b else bw r j
def cZ : Ids → Nat → Option Nat
 | [], _ => none
 | (a, b) :: r, i => if b = i then some a else cZ r i
def dC : Ids → Bool
 | [] => true
 | (a, b) :: r => (bw r a).isNone && (cZ r b).isNone && dC r
def gp : Ids → Nat
 | [] => 0
 | (a, _) :: r => max (a + 1) (gp r)
theorem cb : ∀ {σ : Ids}, dC σ = true → ∀ {j i : Nat}, bw σ j = some i ↔ cZ σ i = some j
 | [], _, j, i => by simp [bw, cZ]
 | (a, b) :: r, h, j, i => by
  simp only [dC, Bool.and_eq_true, Option.isNone_iff_eq_none] at h
  obtain ⟨⟨h1, h2⟩, h3⟩ := h
  have ih := @cb r h3
  simp only [bw, cZ]
  by_cases ha : a = j
  ·subst ha
   rw [if_pos rfl]
   by_cases hb : b = i
   ·subst hb; simp
   ·rw [if_neg hb]
    constructor
    ·intro h; exact absurd (Option.some.inj h) hb
    ·intro h
     have := (ih (j := a) (i := i)).2 h
     rw [h1] at this; cases this
  ·rw [if_neg ha]
   by_cases hb : b = i
   ·subst hb
    rw [if_pos rfl]
    constructor
    ·intro h
     have := (ih (j := j) (i := b)).1 h
     rw [h2] at this; cases this
    ·intro h; exact absurd (Option.some.inj h) ha
   ·rw [if_neg hb]; exact ih
theorem nN : ∀ {σ : Ids} {j i : Nat}, bw σ j = some i → j < gp σ
 | [], _, _, h => by simp [bw] at h
 | (a, b) :: r, j, i, h => by
  simp only [bw] at h
  simp only [gp]
  split at h
  ·rename_i e; subst e; omega
  ·have := nN h; omega
def tr1 (σ : Ids) (ln : List Nat) (sto : Sto) : aa → aa
 | .osl id g off len =>
  match cZ σ id with
  | some j => .osl j g off len
  | none =>
   if ln.contains id then
    match ak sto id with
    | some (g', .row _ l) => if g' = g ∧ off + len ≤ l.length then .sl false false ((l.drop off).take len) else .undef
    | _ => .undef
   else .undef
 | .bx id g off =>
  match cZ σ id with
  | some j => .bx j g off
  | none =>
   if ln.contains id then
    match ak sto id with
    | some (g', .box cs) => if g' = g ∧ off ≤ cs.length ∧ cs.all aa.bT = true then .ref false (cs.drop off) else .undef
    | _ => .undef
   else .undef
 | .loc id g i off =>
  match cZ σ id with
  | some j => .loc j g i off
  | none => .undef
 | .map id g =>
  match cZ σ id with
  | some j => .map j g
  | none => .undef
 | .fn f [] => .fn f []
 | .fn _ _ => .undef
 | .agg _ => .undef
 | .tup _ => .undef
 | .opt _ _ => .undef
 | v => v
def tr (σ : Ids) (ln : List Nat) (sto : Sto) : aa → aa
 | .agg cs => if (cs.map (tr1 σ ln sto)).all aa.ar = true then .agg (cs.map (tr1 σ ln sto)) else .undef
 | .tup cs => .tup (cs.map (tr1 σ ln sto))
 | .fn f cs => .fn f (cs.map (tr1 σ ln sto))
 | v => tr1 σ ln sto v
def trO (σ : Ids) (ln : List Nat) (sto : Sto) : bc → bc
 | .box cs => .box (cs.map (tr1 σ ln sto))
 | o => o
def jk (σ : Ids) (ln : List Nat) (sto : Sto) : Ids → Sto
 | [] => []
 | (j, i) :: r =>
  match ak sto i with
  | some (g, o) => (j, g, trO σ ln sto o) :: jk σ ln sto r
  | none => jk σ ln sto r
def bk1 (σ : Ids) : aa → aa
 | .osl j g off len => match bw σ j with | some i => .osl i g off len | none => .undef
 | .bx j g off => match bw σ j with | some i => .bx i g off | none => .undef
 | .loc j g k off => match bw σ j with | some i => .loc i g k off | none => .undef
 | .map j g => match bw σ j with | some i => .map i g | none => .undef
 | .fn f [] => .fn f []
 | .fn _ _ => .undef
 | .agg _ => .undef
 | .tup _ => .undef
 | .opt _ _ => .undef
 | v => v
def bk2 (σ : Ids) : aa → aa
 | .agg cs => if (cs.map (bk1 σ)).all aa.ar = true then .agg (cs.map (bk1 σ)) else .undef
 | v => bk1 σ v
def bk (σ : Ids) : aa → aa
 | .agg cs => if (cs.map (bk1 σ)).all aa.ar = true then .agg (cs.map (bk1 σ)) else .undef
 | .tup cs => .tup (cs.map (bk2 σ))
 | .fn f cs => .fn f (cs.map (bk1 σ))
 | v => bk1 σ v
def bkO (σ : Ids) : bc → bc
 | .box cs => .box (cs.map (bk1 σ))
 | o => o
def bkS (σ : Ids) : Sto → Sto → Sto
 | [], base => base
 | (j, g, o) :: s, base =>
  match bw σ j with
  | some i => aF (bkS σ s base) i (g, bkO σ o)
  | none => bkS σ s base
def aH : Ids → Sto → Sto
 | [], s => s
 | (_, i) :: r, s => ca (aH r s) i
def jU : bc → Bool
 | .box cs => cs.all aa.ar
 | _ => true
def bB : Sto → Bool
 | [] => true
 | (_, _, o) :: s => jU o && bB s
mutual
def clean : aa → Bool
 | .ref q cs => q && de cs
 | .sl q _ l => q && dR l
 | .agg cs => de cs
 | .tup vs => de vs
 | .fn _ cs => de cs
 | .opt _ v => clean v
 | _ => true
def de : List aa → Bool
 | [] => true
 | x :: xs => clean x && de xs
def dR : List (List aa) → Bool
 | [] => true
 | x :: xs => de x && dR xs
end
def fB : List (ByteArray × aa) → Bool
 | [] => true
 | x :: xs => clean x.2 && fB xs
def mr : List (Int × aa) → Bool
 | [] => true
 | x :: xs => clean x.2 && mr xs
def mX : bc → Bool
 | .row _ l => dR l
 | .box cs => de cs
 | .mp es => fB es
 | .mpi es => mr es
def jz : Sto → Bool
 | [] => true
 | (_, _, o) :: s => mX o && jz s
theorem bJ : ∀ {l : List aa}, de l = true → ∀ {j : Nat} {x : aa}, l[j]? = some x → clean x = true
 | [], _, j, x, h => by simp at h
 | y :: l, h, j, x, hx => by
  simp only [de, Bool.and_eq_true] at h
  cases j with
  | zero => simp at hx; subst hx; exact h.1
  | succ j => exact bJ h.2 (by simpa using hx)
theorem gZ : ∀ {l : List (List aa)}, dR l = true → ∀ {i : Nat} {x : List aa}, l[i]? = some x → de x = true
 | [], _, j, x, h => by simp at h
 | y :: l, h, j, x, hx => by
  simp only [dR, Bool.and_eq_true] at h
  cases j with
  | zero => simp at hx; subst hx; exact h.1
  | succ j => exact gZ h.2 (by simpa using hx)
theorem mW : ∀ {l : List (ByteArray × aa)}, fB l = true → ∀ {i : Nat} {x : ByteArray × aa}, l[i]? = some x → clean x.2 = true
 | [], _, j, x, h => by simp at h
 | y :: l, h, j, x, hx => by
  simp only [fB, Bool.and_eq_true] at h
  cases j with
  | zero => simp at hx; subst hx; exact h.1
  | succ j => exact mW h.2 (by simpa using hx)
theorem lI : ∀ {l : List (Int × aa)}, mr l = true → ∀ {i : Nat} {x : Int × aa}, l[i]? = some x → clean x.2 = true
 | [], _, j, x, h => by simp at h
 | y :: l, h, j, x, hx => by
  simp only [mr, Bool.and_eq_true] at h
  cases j with
  | zero => simp at hx; subst hx; exact h.1
  | succ j => exact lI h.2 (by simpa using hx)
theorem mY : ∀ {s : Sto}, jz s = true → ∀ {i g : Nat} {o : bc}, ak s i = some (g, o) → mX o = true
 | [], _, _, _, _, h => by simp [ak] at h
 | (k, h', o') :: s, h, i, g, o, hx => by
  simp only [jz, Bool.and_eq_true] at h
  simp only [ak] at hx
  split at hx
  ·simp only [Option.some.injEq, Prod.mk.injEq] at hx; rw [← hx.2]; exact h.1
  ·exact mY h.2 hx
theorem gJ : ∀ {s : Sto}, bB s = true → ∀ {i g : Nat} {o : bc}, ak s i = some (g, o) → jU o = true
 | [], _, _, _, _, h => by simp [ak] at h
 | (k, h', o') :: s, h, i, g, o, hx => by
  simp only [bB, Bool.and_eq_true] at h
  simp only [ak] at hx
  split at hx
  ·simp only [Option.some.injEq, Prod.mk.injEq] at hx; rw [← hx.2]; exact h.1
  ·exact gJ h.2 hx
theorem Rep.fz {G G' : Gh} {c : Bool} (h : ∀ (q : Bool) (b : Nat) (o : Obj), (c = true → q = true) → G.ok q b → G.F b = some o → G'.ok q b ∧ G'.F b = some o) {o : Bool} {x : aa} {v : Value} (r : Rep G o x v) :
  o = false → (c = true → clean x = true) → Rep G' false x v := by
 induction r with
 | bool => intro _ _; exact .bool
 | int a => intro _ _; exact .int a
 | str a => intro _ _; exact .str a
 | nil => intro _ _; exact .nil
 | @ref o q cs b off cc e fr a1 a2 a3 a4 a5 ih =>
  intro _ hc
  have hq : c = true → q = true ∧ de cs = true := fun hh => by have := hc hh; simpa [clean] using this
  obtain ⟨k1, k2⟩ := h q b _ (fun hh => (hq hh).1) a1 a2
  exact .ref k1 k2 a3 a4 fun j y hy => ih j y hy rfl fun hh => bJ (hq hh).2 hy
 | slnil a => intro _ _; exact .slnil a
 | @sl o q full l cap b off cc e fr esz a1 a2 a3 a4 a5 a6 a7 a8 a9 ih =>
  intro _ hc
  have hq : c = true → q = true ∧ dR l = true := fun hh => by have := hc hh; simpa [clean] using this
  obtain ⟨k1, k2⟩ := h q b _ (fun hh => (hq hh).1) a4 a5
  exact .sl a1 a2 a3 k1 k2 a6 a7 a8 fun i j y z hy hz => ih i j y z hy hz rfl fun hh => bJ (gZ (hq hh).2 hy) hz
 | fn a1 _ ih => intro ho hc; subst ho; exact .fn a1 fun j y hy => ih j y hy rfl fun hh => bJ (by have := hc hh; simpa [clean] using this) hy
 | nilfn => intro _ _; exact .nilfn
 | nilmap => intro _ _; exact .nilmap
 | agg a1 a2 _ ih => intro ho hc; subst ho; exact .agg a1 a2 fun j y hy => ih j y hy rfl fun hh => bJ (by have := hc hh; simpa [clean] using this) hy
 | tup a1 _ ih => intro ho hc; subst ho; exact .tup a1 fun j y hy => ih j y hy rfl fun hh => bJ (by have := hc hh; simpa [clean] using this) hy
 | loc => intro ho; cases ho
 | bx => intro ho; cases ho
 | osl => intro ho; cases ho
 | map => intro ho; cases ho
 | opt _ ih => intro ho hc; subst ho; exact .opt fun hh => ih hh rfl fun h2 => by have := hc h2; simpa [clean] using this
 | undef => intro _ _; exact .undef
theorem iz : ∀ (σ : Ids) (s : Sto) (i : Nat), ak (aH σ s) i = if (cZ σ i).isSome then none else ak s i
 | [], s, i => by simp [aH, cZ]
 | (a, b) :: r, s, i => by
  simp only [aH, dq, cZ, iz r]
  split <;> simp_all
theorem ou {σ : Ids} {ln : List Nat} {sto : Sto} : ∀ {r : Ids}, dC r = true → ∀ (j : Nat), ak (jk σ ln sto r) j = (bw r j).bind fun i => (ak sto i).map fun x => (x.1, trO σ ln sto x.2)
 | [], _, j => by simp [jk, bw, ak]
 | (a, b) :: r, h, j => by
  have h' : bw r a = none ∧ dC r = true := by
   simp only [dC, Bool.and_eq_true, Option.isNone_iff_eq_none] at h
   exact ⟨h.1.1, h.2⟩
  have ih := ou (σ := σ) (ln := ln) (sto := sto) h'.2 j
  simp only [jk, bw]
  cases hs : ak sto b with
  | none =>
   simp only
   rw [ih]
   by_cases e : a = j
   ·subst e; simp [hs, h'.1]
   ·simp [e]
  | some x =>
   obtain ⟨g, o⟩ := x
   simp only [ak]
   by_cases e : a = j
   ·subst e; simp [hs]
   ·simp [e, ih]
theorem tA {σ : Ids} (hσ : dC σ = true) (base : Sto) (i : Nat) : ∀ s : Sto, ak (bkS σ s base) i = match cZ σ i with
  | some j => (match ak s j with | some x => some (x.1, bkO σ x.2) | none => ak base i)
  | none => ak base i
 | [] => by simp only [bkS, ak]; cases cZ σ i <;> rfl
 | (k, g, o) :: s => by
  have ih := tA hσ base i s
  simp only [bkS, ak]
  cases hk : bw σ k with
  | none =>
   simp only [ih]
   cases hi : cZ σ i with
   | none => rfl
   | some j =>
    have hj := (cb hσ).2 hi
    have : k ≠ j := by rintro rfl; rw [hk] at hj; cases hj
    simp [this]
  | some i' =>
   simp only [bD, ih]
   by_cases e : i' = i
   ·subst e
    have := (cb hσ).1 hk
    simp [this]
   ·rw [if_neg e]
    cases hi : cZ σ i with
    | none => rfl
    | some j =>
     have hj := (cb hσ).2 hi
     have : k ≠ j := by rintro rfl; rw [hk] at hj; exact e (Option.some.inj hj)
     simp [this]
open Classical in
noncomputable def cT (G : Gh) (w : World) (σ : Ids) (ln : List Nat) (sto : Sto) : Gh where
 F b := match G.F b with
  | some o => some o
  | none => if ∃ i g o, ak sto i = some (g, o) ∧ cZ σ i = none ∧ au G i g = some b then w.heap[b]? else none
 S b := G.S b ∧ G.F b ≠ none
 L b := (G.L b ∧ G.F b ≠ none) ∨ ∃ i g o, ak sto i = some (g, o) ∧ cZ σ i = none ∧ i ∈ ln ∧ au G i g = some b
 M j g := match bw σ j with
  | some i => G.M i g
  | none => if gp σ ≤ j then G.M (j - gp σ) g else none
 N := G.N
 W0 := G.W0
section
variable {G : Gh} {w : World} {σ : Ids} {ln : List Nat} {sto : Sto}
theorem vd {b : Nat} {o : Obj} (h : G.F b = some o) : (cT G w σ ln sto).F b = some o := by simp [cT, h]
theorem mI {i g b : Nat} {o : bc} (hw : WOk G w) (hs : an G w sto) (h : ak sto i = some (g, o)) (hi : cZ σ i = none) (hb : au G i g = some b) : (cT G w σ ln sto).F b = w.heap[b]? := by
 have := ((hs.obj i g o h).blk hw b hb).1
 simp only [cT, this]
 rw [if_pos ⟨i, g, o, h, hi, hb⟩]
theorem fI {j i g : Nat} (h : bw σ j = some i) : (cT G w σ ln sto).M j g = G.M i g := by simp [cT, h]
theorem gL (q : Bool) (b : Nat) (o : Obj) (h : G.ok q b) (hF : G.F b = some o) : (cT G w σ ln sto).ok q b ∧ (cT G w σ ln sto).F b = some o := by
 refine ⟨?_, vd hF⟩
 have hn : G.F b ≠ none := by rw [hF]; simp
 exact h.imp (fun a => ⟨a, hn⟩) fun ⟨a, c⟩ => ⟨a, .inl ⟨c, hn⟩⟩
theorem A9 (hw : WOk G w) (hs : an G w sto) : WOk (cT G w σ ln sto) w := by
 refine ⟨hw.K, fun b o h => ?_, fun j g h b hM hb => ?_, fun j g hg => ?_, fun g l h => (((hw.T g l h).down rfl).fz (c := false) (fun q b o _ a d => gL q b o a d) rfl (fun h => by cases h)).up⟩
 ·simp only [cT] at h
  split at h
  ·rename_i o' ho; rw [hw.F b o' ho]; exact h
  ·split at h
   ·exact h
   ·cases h
 ·simp only [cT] at hM
  split at hM
  ·exact hw.M _ _ _ _ hM hb
  ·split at hM
   ·exact hw.M _ _ _ _ hM hb
   ·cases hM
 ·simp only [cT]
  split
  ·exact hw.N _ _ hg
  ·split
   ·exact hw.N _ _ hg
   ·rfl
theorem kq (hw : WOk G w) (hs : an G w sto) (hσ : dC σ = true) {x : aa} {v : Value} (r : Rep G true x v) : Rep (cT G w σ ln sto) true (tr1 σ ln sto x) v := by
 have hz : ∀ {x : aa} {v : Value}, Rep G false x v → Rep (cT G w σ ln sto) false x v := fun r => r.fz (c := false) (fun q b o _ a c => gL q b o a c) rfl (fun h => by cases h)
 cases r with
 | bool => exact .bool
 | int a => exact .int a
 | str a => exact .str a
 | nil => exact .nil
 | ref a1 a2 a3 a4 a5 => exact .ref (gL _ _ _ a1 a2).1 (gL _ _ _ a1 a2).2 a3 a4 fun j y hy => hz (a5 j y hy)
 | slnil a => exact .slnil a
 | sl a1 a2 a3 a4 a5 a6 a7 a8 a9 => exact .sl a1 a2 a3 (gL _ _ _ a4 a5).1 (gL _ _ _ a4 a5).2 a6 a7 a8 fun i j y z hy hz' => hz (a9 i j y z hy hz')
 | @fn _ f cap caps a1 a2 =>
  cases cap with
  | nil => exact .fn a1 fun j y hy => by simp at hy
  | cons => exact .undef
 | nilfn => exact .nilfn
 | nilmap => exact .nilmap
 | agg => exact .undef
 | tup => exact .undef
 | @loc id g i off b cap esz hM =>
  simp only [tr1]
  split
  ·rename_i j hj
   exact .loc ((fI ((cb hσ).2 hj)).trans hM)
  ·exact .undef
 | @bx id g off b cap esz hM =>
  simp only [tr1]
  split
  ·rename_i j hj
   exact .bx ((fI ((cb hσ).2 hj)).trans hM)
  ·rename_i hj
   split
   ·rename_i hln
    split
    ·rename_i g' cs hget
     split
     ·rename_i hc
      obtain ⟨rfl, hoff, hall⟩ := hc
      obtain ⟨b', cap', esz', k1, k2, c, e, k3, k4, k5, k6⟩ := hs.obj id g' _ hget
      rw [hM] at k1
      simp only [Option.some.injEq, Hd.mk.injEq] at k1
      obtain ⟨rfl, _, _⟩ := k1
      have hb : au G id g' = some b := by simp [au, hM]
      refine .ref (c := c) (e := e) (fr := (0, 0)) (.inr ⟨rfl, .inr ⟨id, g', _, hget, hj, by simpa using hln, hb⟩⟩) ((mI hw hs hget hj hb).trans k3) (by simp [k4]; omega) (fun j y hy => ?_) (fun j y hy => ?_)
      ·rw [List.getElem?_drop] at hy; exact k5 _ y hy
      ·rw [List.getElem?_drop] at hy
       exact hz ((k6 _ y hy).down (List.all_eq_true.1 hall y (List.mem_of_getElem? hy)))
     ·exact .undef
    ·exact .undef
   ·exact .undef
 | @osl id g off len ob cap esz a hM a1 a2 a3 a4 a5 =>
  simp only [tr1]
  split
  ·rename_i j hj
   exact .osl ((fI ((cb hσ).2 hj)).trans hM) a1 a2 a3 a4 a5
  ·rename_i hj
   split
   ·rename_i hln
    split
    ·rename_i g' esz' l hget
     split
     ·rename_i hc
      obtain ⟨rfl, hle⟩ := hc
      obtain ⟨ob', cap', k1, k2, k3, k4, k5, k6, k7, k8⟩ := hs.obj id g' _ hget
      rw [hM] at k1
      simp only [Option.some.injEq, Hd.mk.injEq] at k1
      obtain ⟨rfl, rfl, rfl⟩ := k1
      rcases Nat.eq_zero_or_pos len with hz0 | hpos
      ·subst hz0
       simp only [List.take_zero]; exact .slnil (fun h => by cases h)
      ·cases ob with
       | none => have := k7 rfl; omega
       | some b =>
        obtain ⟨kF, kcap, c, e, ⟨fr, kc, _⟩, ksz, krep⟩ := k8 b rfl
        have ha := a4 b rfl (by omega)
        subst ha
        have hb : au G id g' = some b := by simp [au, hM]
        have hlen : ((l.drop off).take len).length = len := by simp; omega
        have hgetl : ∀ (i : Nat) (x : List aa), ((l.drop off).take len)[i]? = some x → l[off + i]? = some x := by
         intro i x hx
         rw [List.getElem?_take] at hx
         split at hx
         ·rwa [List.getElem?_drop] at hx
         ·cases hx
        have hR := Rep.sl (G := cT G w σ ln sto) (o := true) (q := false) (full := false) (l := (l.drop off).take len) (cap := cap - off) (b := b) (off := off * esz) (c := c) (e := e) (fr := fr) (esz := esz)
         (by rw [hlen]; omega) (fun h => by cases h) (by rw [hlen]; exact vH a2) (.inr ⟨rfl, .inr ⟨id, g', _, hget, hj, by simpa using hln, hb⟩⟩) ((mI hw hs hget hj hb).trans kc)
         (by rw [hlen, ksz, ← Nat.add_mul]; exact Nat.mul_le_mul_right _ a1)
         (fun i x hx => k5 _ x (hgetl i x hx)) (fun i j x y hx hy => k6 _ j x y (hgetl i x hx) hy)
         (fun i j x y hx hy => by
          have := hz (krep _ j x y (hgetl i x hx) hy)
          rw [Nat.add_mul] at this
          exact this)
        rw [hlen] at hR
        exact hR
     ·exact .undef
    ·exact .undef
   ·exact .undef
 | @map id g b cap esz hM =>
  simp only [tr1]
  split
  ·rename_i j hj
   exact .map ((fI ((cb hσ).2 hj)).trans hM)
  ·exact .undef
 | opt => exact .undef
 | undef => exact .undef
theorem jS {l : List aa} (h : l.all aa.ar = true) {j : Nat} {x : aa} (hx : l[j]? = some x) : x.ar = true := List.all_eq_true.1 h x (List.mem_of_getElem? hx)
theorem Jt (hw : WOk G w) (hs : an G w sto) (hσ : dC σ = true) {x : aa} {v : Value} (r : Rep G true x v) : Rep (cT G w σ ln sto) true (tr σ ln sto x) v := by
 unfold tr
 split
 ·cases r with
  | agg a b c =>
   split
   ·rename_i hall
    refine .agg (by simpa using a) (fun j y hy => jS hall hy) fun j y hy => ?_
    rw [List.getElem?_map] at hy
    obtain ⟨x, hx, rfl⟩ := Option.map_eq_some_iff.1 hy
    exact kq hw hs hσ (c j x hx)
   ·exact .undef
 ·cases r with
  | tup a c =>
   refine .tup (by simpa using a) fun j y hy => ?_
   rw [List.getElem?_map] at hy
   obtain ⟨x, hx, rfl⟩ := Option.map_eq_some_iff.1 hy
   exact kq hw hs hσ (c j x hx)
 ·cases r with
  | fn a c =>
   refine .fn (by simpa using a) fun j y hy => ?_
   rw [List.getElem?_map] at hy
   obtain ⟨x, hx, rfl⟩ := Option.map_eq_some_iff.1 hy
   exact kq hw hs hσ (c j x hx)
 ·exact kq hw hs hσ r
theorem ve (hw : WOk G w) (hs : an G w sto) {i g b : Nat} {o : bc} (hget : ak sto i = some (g, o)) (hi : cZ σ i ≠ none) (hb : au G i g = some b) : (cT G w σ ln sto).F b = none := by
 have h1 := ((hs.obj i g o hget).blk hw b hb).1
 simp only [cT, h1]
 rw [if_neg]
 rintro ⟨i', g', o', h', hi', hb'⟩
 exact hs.apart i i' g g' o o' hget h' (by rintro rfl; exact hi hi') b hb hb'
theorem Ji (hw : WOk G w) (hs : an G w sto) (hσ : dC σ = true) {i j g : Nat} {o : bc} (hget : ak sto i = some (g, o)) (hj : bw σ j = some i) (hc : jU (trO σ ln sto o) = true) :
  bW (cT G w σ ln sto) w j g (trO σ ln sto o) := by
 have hz : ∀ {x : aa} {v : Value}, Rep G false x v → Rep (cT G w σ ln sto) false x v := fun r => r.fz (c := false) (fun q b o _ a c => gL q b o a c) rfl (fun h => by cases h)
 have hi : cZ σ i ≠ none := by rw [(cb hσ).1 hj]; simp
 have hob := hs.obj i g o hget
 have hF := fun b => ve (σ := σ) (ln := ln) (b := b) hw hs hget hi
 cases o with
 | row esz l =>
  obtain ⟨ob, cap, h1, h2, h3, h4, h5, h6, h7, h8⟩ := hob
  refine ⟨ob, cap, (fI hj).trans h1, h2, h3, h4, h5, h6, h7, fun b hob => ?_⟩
  obtain ⟨a1, a2, c, e, a3, a4, a5⟩ := h8 b hob
  exact ⟨hF b (by simp [au, h1, hob]), a2, c, e, a3, a4, fun i j x y hx hy => hz (a5 i j x y hx hy)⟩
 | box cs =>
  obtain ⟨b, cap, esz, h1, _, c, e, h3, h4, h5, h6⟩ := hob
  refine ⟨b, cap, esz, (fI hj).trans h1, hF b (by simp [au, h1]), c, e, h3, by simpa using h4, fun j y hy => jS hc hy, fun j y hy => ?_⟩
  rw [List.getElem?_map] at hy
  obtain ⟨x, hx, rfl⟩ := Option.map_eq_some_iff.1 hy
  exact kq hw hs hσ (h6 j x hx)
 | mp es =>
  obtain ⟨b, cap, esz, h1, _, me, cl, h3, h4, h4', h5⟩ := hob
  refine ⟨b, cap, esz, (fI hj).trans h1, hF b (by simp [au, h1]), me, cl, h3, h4, h4', fun j x hx => ?_⟩
  obtain ⟨m, a1, a2, a3, a4⟩ := h5 j x hx
  exact ⟨m, a1, a2, a3, hz a4⟩
 | mpi es =>
  obtain ⟨b, cap, esz, h1, _, me, cl, h3, h4, h4', h5⟩ := hob
  refine ⟨b, cap, esz, (fI hj).trans h1, hF b (by simp [au, h1]), me, cl, h3, h4, h4', fun j x hx => ?_⟩
  obtain ⟨m, a1, a2, a3, a4⟩ := h5 j x hx
  exact ⟨m, a1, a2, a3, hz a4⟩
theorem pr {i j g : Nat} (hj : bw σ j = some i) : au (cT G w σ ln sto) j g = au G i g := by simp [au, fI hj]
theorem JL (hw : WOk G w) (hs : an G w sto) (hσ : dC σ = true) (hc : bB (jk σ ln sto σ) = true) : an (cT G w σ ln sto) w (jk σ ln sto σ) := by
 have key : ∀ j g o, ak (jk σ ln sto σ) j = some (g, o) → ∃ i o', bw σ j = some i ∧ ak sto i = some (g, o') ∧ o = trO σ ln sto o' := by
  intro j g o h
  rw [ou hσ] at h
  obtain ⟨i, hi, h⟩ := Option.bind_eq_some_iff.1 h
  obtain ⟨⟨g', o'⟩, ho, he⟩ := Option.map_eq_some_iff.1 h
  simp only [Prod.mk.injEq] at he
  obtain ⟨rfl, rfl⟩ := he
  exact ⟨i, o', hi, ho, rfl⟩
 refine ⟨fun j g o h => ?_, fun j j' g g' o o' h h' hne b hb => ?_⟩
 ·have hcell := gJ hc h
  obtain ⟨i, o', hi, ho, rfl⟩ := key j g o h
  exact Ji hw hs hσ ho hi hcell
 ·obtain ⟨i, p, hi, ho, rfl⟩ := key j g o h
  obtain ⟨i', p', hi', ho', rfl⟩ := key j' g' o' h'
  rw [pr hi] at hb
  rw [pr hi']
  refine hs.apart i i' g g' p p' ho ho' ?_ b hb
  rintro rfl
  have h1 := (cb hσ).1 hi
  have h2 := (cb hσ).1 hi'
  rw [h1] at h2
  exact hne (Option.some.inj h2)
end
open Classical in
noncomputable def cm (G : Gh) (σ : Ids) (sto : Sto) (H : Gh) : Gh where
 F b := if ∃ i g o, ak sto i = some (g, o) ∧ cZ σ i = none ∧ au G i g = some b then none else H.F b
 S b := H.S b ∨ G.S b
 L := G.L
 M i g := match G.M i g with
  | some h => some h
  | none => match cZ σ i with
   | some j => H.M j g
   | none => none
 N := H.N
 W0 := G.W0
section
variable {G H : Gh} {w w' : World} {σ : Ids} {ln : List Nat} {sto : Sto}
theorem ew (hσ : dC σ = true) (hx : Ext (cT G w σ ln sto) H) {j i g : Nat} (hj : bw σ j = some i) {h : Hd} (hM : H.M j g = some h) : (cm G σ sto H).M i g = some h := by
 simp only [cm]
 cases hG : G.M i g with
 | some h' =>
  have := hx.M j g h' (by rw [fI hj]; exact hG)
  rw [hM] at this
  simpa using this.symm
 | none => simp only [(cb hσ).1 hj, hM]
theorem BO (hw : WOk G w) (hs : an G w sto) (hx : Ext (cT G w σ ln sto) H) {b : Nat} {o : Obj} (h : G.F b = some o) : (cm G σ sto H).F b = some o := by
 simp only [cm]
 rw [if_neg]
 ·exact hx.F b o (vd h)
 ·rintro ⟨i, g, o', hget, _, hb⟩
  have := ((hs.obj i g o' hget).blk hw b hb).1
  rw [h] at this; cases this
theorem kQ (hw : WOk G w) (hs : an G w sto) (hx : Ext (cT G w σ ln sto) H) : Ext G (cm G σ sto H) where
 F b o h := BO hw hs hx h
 S b h := .inr h
 S' b h := by
  rcases h with h | h
  ·rcases hx.S' b h with h | h
   ·exact .inl h.1
   ·right
    cases hF : G.F b with
    | none => rfl
    | some o => rw [vd hF] at h; cases h
  ·exact .inl h
 L b := Iff.rfl
 M i g h hM := by simp [cm, hM]
 N := hx.N
 W0 := rfl
theorem sf (hw : WOk G w) (hs : an G w sto) (hx : Ext (cT G w σ ln sto) H) (c : Bool) (hc : c = false → ln = []) (q : Bool) (b : Nat) (o : Obj) (hq : c = true → q = true) (hk : H.ok q b) (hF : H.F b = some o) :
  (cm G σ sto H).ok q b ∧ (cm G σ sto H).F b = some o := by
 have hfr : ∀ i g o', ak sto i = some (g, o') → cZ σ i = none → au G i g = some b → ¬ H.S b := by
  intro i g o' hget hi hb hS
  have hn := ((hs.obj i g o' hget).blk hw b hb).1
  rcases hx.S' b hS with h | h
  ·exact h.2 hn
  ·have := (mI (σ := σ) (ln := ln) hw hs hget hi hb).symm.trans h
   have hlt := ((hs.obj i g o' hget).blk hw b hb).2
   rw [Array.getElem?_eq_getElem hlt] at this; cases this
 have hL : q = false → H.L b → G.L b ∧ G.F b ≠ none := by
  intro hq0 hl
  cases c with
  | true => rw [hq rfl] at hq0; cases hq0
  | false =>
   rcases (hx.L b).1 hl with h | ⟨i, g, o', _, _, hi, _⟩
   ·exact h
   ·rw [hc rfl] at hi; simp at hi
 have hnot : ¬ ∃ i g o, ak sto i = some (g, o) ∧ cZ σ i = none ∧ au G i g = some b := by
  rintro ⟨i, g, o', hget, hi, hb⟩
  rcases hk with h | ⟨h0, h⟩
  ·exact hfr i g o' hget hi hb h
  ·exact (hL h0 h).2 ((hs.obj i g o' hget).blk hw b hb).1
 refine ⟨?_, by simp only [cm]; rw [if_neg hnot]; exact hF⟩
 rcases hk with h | ⟨h0, h⟩
 ·exact .inl (.inl h)
 ·exact .inr ⟨h0, (hL h0 h).1⟩
theorem wU (hw : WOk G w) (hs : an G w sto) (hx : Ext (cT G w σ ln sto) H) (hw' : WOk H w') : WOk (cm G σ sto H) w' := by
 refine ⟨by have := hw'.K; rw [hx.W0] at this; exact this, fun b o h => ?_, fun i g h b hM hb => ?_, fun i g hg => ?_, fun g l h => (hw.T g l h).mono (kQ hw hs hx).toMono⟩
 ·simp only [cm] at h
  split at h
  ·cases h
  ·exact hw'.F b o h
 ·simp only [cm] at hM
  split at hM
  ·rename_i h' hG
   have hM' : h' = h := by simpa using hM
   subst hM'
   have h2 := hx.M (gp σ + i) g h' (by
    simp only [cT]
    cases hj : bw σ (gp σ + i) with
    | some k => have := nN hj; omega
    | none => rw [if_pos (by omega)]; rw [Nat.add_sub_cancel_left]; exact hG)
   exact hw'.M _ _ _ _ h2 hb
  ·split at hM
   ·exact hw'.M _ _ _ _ hM hb
   ·cases hM
 ·have hN : H.N ≤ g := hg
  simp only [cm]
  have h1 : G.M i g = none := hw.N i g (Nat.le_trans hx.N hN)
  rw [h1]
  simp only
  split
  ·exact hw'.N _ _ hN
  ·rfl
theorem iV (hσ : dC σ = true) (hw : WOk G w) (hs : an G w sto) (hx : Ext (cT G w σ ln sto) H) (c : Bool) (hc : c = false → ln = []) {x : aa} {v : Value} (r : Rep H true x v) (hcl : c = true → clean x = true) :
  Rep (cm G σ sto H) true (bk1 σ x) v := by
 have hz : ∀ {x : aa} {v : Value}, Rep H false x v → (c = true → clean x = true) → Rep (cm G σ sto H) false x v := fun r h => r.fz (c := c) (fun q b o hq a d => sf hw hs hx c hc q b o hq a d) rfl h
 cases r with
 | bool => exact .bool
 | int a => exact .int a
 | str a => exact .str a
 | nil => exact .nil
 | ref a1 a2 a3 a4 a5 => exact (hz (.ref a1 a2 a3 a4 a5) hcl).up
 | slnil a => exact .slnil a
 | sl a1 a2 a3 a4 a5 a6 a7 a8 a9 => exact (hz (.sl a1 a2 a3 a4 a5 a6 a7 a8 a9) hcl).up
 | @fn _ f cap caps a1 a2 =>
  cases cap with
  | nil => exact .fn a1 fun j y hy => by simp at hy
  | cons => exact .undef
 | nilfn => exact .nilfn
 | nilmap => exact .nilmap
 | agg => exact .undef
 | tup => exact .undef
 | loc hM =>
  simp only [bk1]
  split
  ·rename_i j hj; exact .loc (ew hσ hx hj hM)
  ·exact .undef
 | bx hM =>
  simp only [bk1]
  split
  ·rename_i j hj; exact .bx (ew hσ hx hj hM)
  ·exact .undef
 | osl hM a1 a2 a3 a4 a5 =>
  simp only [bk1]
  split
  ·rename_i j hj; exact .osl (ew hσ hx hj hM) a1 a2 a3 a4 a5
  ·exact .undef
 | map hM =>
  simp only [bk1]
  split
  ·rename_i j hj; exact .map (ew hσ hx hj hM)
  ·exact .undef
 | opt => exact .undef
 | undef => exact .undef
theorem Dw (hσ : dC σ = true) (hw : WOk G w) (hs : an G w sto) (hx : Ext (cT G w σ ln sto) H) (c : Bool) (hc : c = false → ln = []) {x : aa} {v : Value} (r : Rep H true x v) (hcl : c = true → clean x = true) :
  Rep (cm G σ sto H) true (bk2 σ x) v := by
 unfold bk2
 split
 ·cases r with
  | agg a b d =>
   split
   ·rename_i hall
    refine .agg (by simpa using a) (fun j y hy => jS hall hy) fun j y hy => ?_
    rw [List.getElem?_map] at hy
    obtain ⟨x, hx', rfl⟩ := Option.map_eq_some_iff.1 hy
    exact iV hσ hw hs hx c hc (d j x hx') fun h => bJ (by simpa [clean] using hcl h) hx'
   ·exact .undef
 ·exact iV hσ hw hs hx c hc r hcl
theorem Ax (hσ : dC σ = true) (hw : WOk G w) (hs : an G w sto) (hx : Ext (cT G w σ ln sto) H) (c : Bool) (hc : c = false → ln = []) {x : aa} {v : Value} (r : Rep H true x v) (hcl : c = true → clean x = true) :
  Rep (cm G σ sto H) true (bk σ x) v := by
 unfold bk
 split
 ·cases r with
  | agg a b d =>
   split
   ·rename_i hall
    refine .agg (by simpa using a) (fun j y hy => jS hall hy) fun j y hy => ?_
    rw [List.getElem?_map] at hy
    obtain ⟨x, hx', rfl⟩ := Option.map_eq_some_iff.1 hy
    exact iV hσ hw hs hx c hc (d j x hx') fun h => bJ (by simpa [clean] using hcl h) hx'
   ·exact .undef
 ·cases r with
  | tup a d =>
   refine .tup (by simpa using a) fun j y hy => ?_
   rw [List.getElem?_map] at hy
   obtain ⟨x, hx', rfl⟩ := Option.map_eq_some_iff.1 hy
   exact Dw hσ hw hs hx c hc (d j x hx') fun h => bJ (by simpa [clean] using hcl h) hx'
 ·cases r with
  | fn a d =>
   refine .fn (by simpa using a) fun j y hy => ?_
   rw [List.getElem?_map] at hy
   obtain ⟨x, hx', rfl⟩ := Option.map_eq_some_iff.1 hy
   exact iV hσ hw hs hx c hc (d j x hx') fun h => bJ (by simpa [clean] using hcl h) hx'
 ·exact iV hσ hw hs hx c hc r hcl
theorem Jh (hσ : dC σ = true) (hw : WOk G w) (hs : an G w sto) (hx : Ext (cT G w σ ln sto) H) (c : Bool) (hc : c = false → ln = []) {i j g : Nat} {o : bc} (ho : bW H w' j g o) (hj : bw σ j = some i) (hcl : c = true → mX o = true) (hcell : jU (bkO σ o) = true) :
  bW (cm G σ sto H) w' i g (bkO σ o) := by
 have hz : ∀ {x : aa} {v : Value}, Rep H false x v → (c = true → clean x = true) → Rep (cm G σ sto H) false x v := fun r h => r.fz (c := c) (fun q b o hq a d => sf hw hs hx c hc q b o hq a d) rfl h
 have hF : ∀ b, H.F b = none → (cm G σ sto H).F b = none := by
  intro b h
  simp only [cm]
  split
  ·rfl
  ·exact h
 cases o with
 | row esz l =>
  obtain ⟨ob, cap, h1, h2, h3, h4, h5, h6, h7, h8⟩ := ho
  refine ⟨ob, cap, ew hσ hx hj h1, h2, h3, h4, h5, h6, h7, fun b hob => ?_⟩
  obtain ⟨a1, a2, c', e, a3, a4, a5⟩ := h8 b hob
  exact ⟨hF b a1, a2, c', e, a3, a4, fun i j x y hx' hy => hz (a5 i j x y hx' hy) fun h => bJ (gZ (hcl h) hx') hy⟩
 | box cs =>
  obtain ⟨b, cap, esz, h1, h2, c', e, h3, h4, h5, h6⟩ := ho
  refine ⟨b, cap, esz, ew hσ hx hj h1, hF b h2, c', e, h3, by simpa using h4, fun j y hy => jS hcell hy, fun j y hy => ?_⟩
  rw [List.getElem?_map] at hy
  obtain ⟨x, hx', rfl⟩ := Option.map_eq_some_iff.1 hy
  exact iV hσ hw hs hx c hc (h6 j x hx') fun h => bJ (hcl h) hx'
 | mp es =>
  obtain ⟨b, cap, esz, h1, h2, me, cl, h3, h4, h4', h5⟩ := ho
  refine ⟨b, cap, esz, ew hσ hx hj h1, hF b h2, me, cl, h3, h4, h4', fun j x hx' => ?_⟩
  obtain ⟨m, a1, a2, a3, a4⟩ := h5 j x hx'
  exact ⟨m, a1, a2, a3, hz a4 fun h => mW (hcl h) hx'⟩
 | mpi es =>
  obtain ⟨b, cap, esz, h1, h2, me, cl, h3, h4, h4', h5⟩ := ho
  refine ⟨b, cap, esz, ew hσ hx hj h1, hF b h2, me, cl, h3, h4, h4', fun j x hx' => ?_⟩
  obtain ⟨m, a1, a2, a3, a4⟩ := h5 j x hx'
  exact ⟨m, a1, a2, a3, hz a4 fun h => lI (hcl h) hx'⟩
theorem bW.blkF {G : Gh} {w : World} {id g : Nat} {o : bc} (h : bW G w id g o) (b : Nat) (hb : au G id g = some b) : G.F b = none := by
 cases o with
 | row esz l =>
  obtain ⟨ob, cap, h1, _, _, _, _, _, _, h8⟩ := h
  exact (h8 b (by simpa [au, h1] using hb)).1
 | box cs =>
  obtain ⟨b', cap, esz, h1, h2, _⟩ := h
  have : b' = b := by simpa [au, h1] using hb
  exact this ▸ h2
 | mp es =>
  obtain ⟨b', cap, esz, h1, h2, _⟩ := h
  have : b' = b := by simpa [au, h1] using hb
  exact this ▸ h2
 | mpi es =>
  obtain ⟨b', cap, esz, h1, h2, _⟩ := h
  have : b' = b := by simpa [au, h1] using hb
  exact this ▸ h2
theorem AT (hσ : dC σ = true) (hw : WOk G w) (hs : an G w sto) (hx : Ext (cT G w σ ln sto) H) (c : Bool) (hc : c = false → ln = []) {s1 : Sto} (hw' : WOk H w') (hs' : an H w' s1) (hcl : c = true → jz s1 = true) (hcell : bB (bkS σ s1 (aH σ sto)) = true) :
  an (cm G σ sto H) w' (bkS σ s1 (aH σ sto)) := by
 have hext := kQ hw hs hx
 have key : ∀ i g o, ak (bkS σ s1 (aH σ sto)) i = some (g, o) →
   (∃ j o', cZ σ i = some j ∧ ak s1 j = some (g, o') ∧ o = bkO σ o') ∨ (cZ σ i = none ∧ ak sto i = some (g, o)) := by
  intro i g o h
  rw [tA hσ] at h
  cases hi : cZ σ i with
  | none =>
   rw [hi] at h
   simp only [iz, hi] at h
   exact .inr ⟨rfl, h⟩
  | some j =>
   rw [hi] at h
   simp only at h
   cases hj : ak s1 j with
   | none => rw [hj] at h; simp [iz, hi] at h
   | some x =>
    rw [hj] at h
    simp only [Option.some.injEq, Prod.mk.injEq] at h
    obtain ⟨rfl, rfl⟩ := h
    exact .inl ⟨j, x.2, rfl, hj, rfl⟩
 have hfrF : ∀ i g o b, cZ σ i = none → ak sto i = some (g, o) → au G i g = some b → H.F b = w.heap[b]? ∧ b < w.heap.size := by
  intro i g o b hi hget hb
  have hlt := ((hs.obj i g o hget).blk hw b hb).2
  have h1 := mI (σ := σ) (ln := ln) hw hs hget hi hb
  rw [Array.getElem?_eq_getElem hlt] at h1 ⊢
  exact ⟨hx.F b _ h1, hlt⟩
 have hblkN : ∀ i g o, cZ σ i = none → ak sto i = some (g, o) → au (cm G σ sto H) i g = au G i g := by
  intro i g o hi hget
  obtain ⟨hd, hM⟩ := (hs.obj i g o hget).M
  simp only [au, hM, hext.M i g hd hM]
 have hblkJ : ∀ i j g o, cZ σ i = some j → ak s1 j = some (g, o) → au (cm G σ sto H) i g = au H j g := by
  intro i j g o hi hget
  obtain ⟨hd, hM⟩ := (hs'.obj j g o hget).M
  simp only [au, hM, ew hσ hx ((cb hσ).2 hi) hM]
 refine ⟨fun i g o h => ?_, fun i i' g g' o o' h h' hne b hb => ?_⟩
 ·have hco := gJ hcell h
  rcases key i g o h with ⟨j, o', hi, hget, rfl⟩ | ⟨hi, hget⟩
  ·exact Jh hσ hw hs hx c hc (hs'.obj j g o' hget) ((cb hσ).2 hi) (fun h => mY (hcl h) hget) hco
  ·refine (hs.obj i g o hget).mono hext.toMono (fun b hb => ?_) (fun b hb => ?_)
   ·simp only [cm]; rw [if_pos ⟨i, g, o, hget, hi, hb⟩]
   ·obtain ⟨h1, h2⟩ := hfrF i g o b hi hget hb
    rw [Array.getElem?_eq_getElem h2] at h1 ⊢
    exact hw'.F b _ h1
 ·rcases key i g o h with ⟨j, p, hi, hget, rfl⟩ | ⟨hi, hget⟩
  ·rw [hblkJ i j g p hi hget] at hb
   rcases key i' g' o' h' with ⟨j', p', hi', hget', rfl⟩ | ⟨hi', hget'⟩
   ·rw [hblkJ i' j' g' p' hi' hget']
    refine hs'.apart j j' g g' p p' hget hget' ?_ b hb
    rintro rfl
    have h1 := (cb hσ).2 hi
    have h2 := (cb hσ).2 hi'
    rw [h1] at h2
    exact hne (Option.some.inj h2)
   ·rw [hblkN i' g' o' hi' hget']
    intro hb'
    have h1 := (hs'.obj j g p hget).blkF b hb
    obtain ⟨h2, h3⟩ := hfrF i' g' o' b hi' hget' hb'
    rw [h1, Array.getElem?_eq_getElem h3] at h2; cases h2
  ·rw [hblkN i g o hi hget] at hb
   rcases key i' g' o' h' with ⟨j', p', hi', hget', rfl⟩ | ⟨hi', hget'⟩
   ·rw [hblkJ i' j' g' p' hi' hget']
    intro hb'
    have h1 := (hs'.obj j' g' p' hget').blkF b hb'
    obtain ⟨h2, h3⟩ := hfrF i g o b hi hget hb
    rw [h1, Array.getElem?_eq_getElem h3] at h2; cases h2
   ·rw [hblkN i' g' o' hi' hget']
    exact hs.apart i i' g g' o o' hget hget' hne b hb
end
theorem ah.use {P : Program} {f : Nat} {args : List aa} {sto : Sto} {T : aa → Sto → Prop} (σ : Ids) (ln : List Nat) {args1 : List aa} {sto1 : Sto} {R1 : aa → Sto → Prop} (hσ : dC σ = true) (h : ah P f args1 sto1 R1)
  (ha : args.map (tr σ ln sto) = args1) (hs1 : jk σ ln sto σ = sto1) (hc : bB sto1 = true)
  (hT : ∀ r s, R1 r s → (ln = [] ∨ (clean r = true ∧ jz s = true)) ∧ bB (bkS σ s (aH σ sto)) = true ∧ T (bk σ r) (bkS σ s (aH σ sto))) : ah P f args sto T := by
 refine ⟨h.able, fun G w cargs hw hs hargs => ?_⟩
 subst ha hs1
 refine (h.calls (cT G w σ ln sto) w cargs (A9 hw hs) (JL hw hs hσ hc) ⟨by simpa using hargs.1, fun j y hy => ?_⟩).mono fun e w' p => ?_
 ·rw [List.getElem?_map] at hy
  obtain ⟨x, hx, rfl⟩ := Option.map_eq_some_iff.1 hy
  exact Jt hw hs hσ (hargs.2 j x hx)
 ·obtain ⟨H, cr, r, s1, rfl, hx, hw', hs', hr, hR⟩ := p
  obtain ⟨hcl, hcell, hT'⟩ := hT r s1 hR
  refine ⟨cm G σ sto H, cr, bk σ r, bkS σ s1 (aH σ sto), rfl, kQ hw hs hx, wU hw hs hx hw', ?_, ?_, hT'⟩
  ·rcases hcl with h | ⟨_, h⟩
   ·exact AT hσ hw hs hx false (fun _ => h) hw' hs' (fun h => by cases h) hcell
   ·exact AT hσ hw hs hx true (fun h => by cases h) hw' hs' (fun _ => h) hcell
  ·rcases hcl with h | ⟨h, _⟩
   ·exact Ax hσ hw hs hx false (fun _ => h) hr (fun h => by cases h)
   ·exact Ax hσ hw hs hx true (fun h => by cases h) hr (fun _ => h)
end Go.Rad
