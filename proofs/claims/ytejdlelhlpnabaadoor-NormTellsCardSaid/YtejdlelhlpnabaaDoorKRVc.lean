/- The reduction of a region: what must hold ahead of its operations, so that what is asked behind them holds. -/
import Derived.Test.YtejdlelhlpnabaaDoorKRVal
set_option linter.all false
namespace Go.Rad
open Go

inductive Ty : Type where
  | int (k : IntKind)
  | bool
  | string
  | ptr
  | slice (e : Nat)
  | array (n e : Nat)
  | struct (fs : List (Nat × Nat))
  | map (k e : Nat)
  | func
  | other
  deriving DecidableEq, Inhabited

/-- What the logic knows of a type: its form, whether it is several cells' value, how many cells and bytes, its zero's cells. -/
structure TI where
  ty : Ty
  ag : Bool
  sz : Nat
  by8 : Nat
  zero : List AVal
  deriving Inhabited

abbrev Lay := Nat → TI

def ofConst1 : Value → AVal
  | .bool b => .bool b
  | .int k n => .int k n
  | .string s => .str s
  | .pointer none => .nil
  | .slice none 0 0 => .sl true true []
  | .map none => .nilmap
  | .nilFunc => .nilfn
  | _ => .undef

def ofConst : Value → AVal
  | .agg cs => .agg (cs.toList.map ofConst1)
  | v => ofConst1 v

def ev (tm : Tm) : Operand → AVal
  | .tmp t => lk tm t
  | .const v => ofConst v
  | .func f => .fn f []
  | .global g => match globU8 g with | some l => .ref true (globC l) | none => .undef

def cellsOf : AVal → List AVal
  | .agg cs => cs
  | v => [v]

def AVal.isWhole : AVal → Bool
  | .agg _ => true
  | v => v.isCell

def mkv (ti : TI) (cs : List AVal) : AVal := if ti.ag then .agg (cs.take ti.sz) else cs.headD .undef

def splice (cs : List AVal) (off : Nat) (vs : List AVal) : List AVal := cs.take off ++ vs ++ cs.drop (off + vs.length)

def foff (ti : TI) (f : Nat) : Option (Nat × Nat) :=
  match ti.ty with
  | .struct fs => fs[f]?
  | _ => none

/-- The cells of an aggregate whose parts are put into cells that are there. -/
def fillC (L : Lay) (ti : TI) (cs : List AVal) : List (Nat × AVal) → Option (List AVal)
  | [] => some cs
  | (i, v) :: rest =>
    match (match ti.ty with
      | .struct fs => (fs[i]?).map fun f => (f.1, (L f.2).sz)
      | .array _ e => some (i * (L e).sz, (L e).sz)
      | .slice e => some (i * (L e).sz, (L e).sz)
      | _ => none) with
    | some (off, sz) => if (cellsOf v).length = sz ∧ off + sz ≤ cs.length ∧ v.isWhole = true then fillC L ti (splice cs off (cellsOf v)) rest else none
    | none => none

def inI64 (n : Int) : Prop := -9223372036854775808 ≤ n ∧ n ≤ 9223372036854775807

def vcArith (k : IntKind) (n : Int) (T : AVal → Prop) : Prop :=
  match k with
  | .i64 => inI64 n ∧ T (.int .i64 n)
  | k => T (.int k (k.wrap n))

def bitsOf (op : BinOp) (k : IntKind) (x y : Int) : Int :=
  let a := BitVec.ofInt k.bits x
  let b := BitVec.ofInt k.bits y
  match op with
  | .and => k.wrap (a &&& b).toNat
  | .or => k.wrap (a ||| b).toNat
  | .xor => k.wrap (a ^^^ b).toNat
  | _ => k.wrap (a &&& ~~~b).toNat

def vcInt (op : BinOp) (k : IntKind) (a b : Int) (T : AVal → Prop) : Prop :=
  match op with
  | .add => vcArith k (a + b) T
  | .sub => vcArith k (a - b) T
  | .mul => vcArith k (a * b) T
  | .quo => b ≠ 0 ∧ vcArith k (a.tdiv b) T
  | .rem => b ≠ 0 ∧ T (.int k (a.tmod b))
  | .and | .or | .xor | .andNot => T (.int k (bitsOf op k a b))
  | .eql => T (.bool (decide (a = b)))
  | .neq => T (.bool (!decide (a = b)))
  | .lss => T (.bool (decide (a < b)))
  | .leq => T (.bool (decide (a ≤ b)))
  | .gtr => T (.bool (decide (b < a)))
  | .geq => T (.bool (decide (b ≤ a)))
  | _ => False

def vcShift (op : BinOp) (k : IntKind) (a b : Int) (T : AVal → Prop) : Prop :=
  match op with
  | .shl => 0 ≤ b ∧ T (.int k (k.wrap (a * 2 ^ min b.toNat k.bits)))
  | .shr => 0 ≤ b ∧ T (.int k (a.fdiv (2 ^ min b.toNat k.bits)))
  | _ => False

def vcStr (op : BinOp) (a b : ByteArray) (T : AVal → Prop) : Prop :=
  match op with
  | .add => a.size + b.size ≤ maxLen ∧ T (.str (a ++ b))
  | .eql => T (.bool (decide (a = b)))
  | .neq => T (.bool (!decide (a = b)))
  | .lss => T (.bool (Op.bytesLess a.toList b.toList))
  | .gtr => T (.bool (!(Op.bytesLess a.toList b.toList || decide (a = b))))
  | .leq => T (.bool (Op.bytesLess a.toList b.toList || decide (a = b)))
  | .geq => T (.bool (!Op.bytesLess a.toList b.toList))
  | _ => False

def intsOf (k : IntKind) : List AVal → Option (List Int)
  | [] => some []
  | .int k' n :: r => if k' = k then (intsOf k r).map (n :: ·) else none
  | _ :: _ => none

def vcEqAgg (L : Lay) (xt : Nat) (xs ys : List AVal) (T : Bool → Prop) : Prop :=
  match (L xt).ty with
  | .array n e =>
    match (L e).ty with
    | .int k => ∃ a b, intsOf k xs = some a ∧ intsOf k ys = some b ∧ a.length = n ∧ b.length = n ∧ n ≤ 1000 ∧ (L e).sz = 1 ∧ (L e).ag = false ∧ T (decide (a = b))
    | _ => False
  | _ => False

def isNilSlice : Operand → Bool
  | .const (.slice none _ _) => true
  | _ => false

def vcNil (L : Lay) (xt : Nat) (x : AVal) (T : Bool → Prop) : Prop :=
  (∃ e, (L xt).ty = .slice e) ∧
  match x with
  | .sl _ _ l => ∀ b : Bool, (b = true → l = []) → T b
  | .osl _ _ _ len => ∀ b : Bool, (b = true → len = 0) → T b
  | _ => False

def vcBin (L : Lay) (op : BinOp) (xt : Nat) (x y : AVal) (T : AVal → Prop) : Prop :=
  match op, x, y with
  | .shl, .int k a, .int _ b => vcShift .shl k a b T
  | .shr, .int k a, .int _ b => vcShift .shr k a b T
  | op, .int k a, .int k' b => k = k' ∧ vcInt op k a b T
  | op, .str a, .str b => vcStr op a b T
  | .eql, .bool a, .bool b => (L xt).ty = .bool ∧ T (.bool (a == b))
  | .neq, .bool a, .bool b => (L xt).ty = .bool ∧ T (.bool (!(a == b)))
  | .eql, .agg a, .agg b => vcEqAgg L xt a b fun r => T (.bool r)
  | .neq, .agg a, .agg b => vcEqAgg L xt a b fun r => T (.bool !r)
  | _, _, _ => False

def vcUn (op : UnOp) (x : AVal) (T : AVal → Prop) : Prop :=
  match op, x with
  | .not, .bool b => T (.bool !b)
  | .neg, .int k n => vcArith k (0 - n) T
  | .xor, .int k n => T (.int k (bitsOf .xor k (if k.signed then -1 else k.max) n))
  | _, _ => False

/-- In a list's element it counts nothing whether a list within is full. -/
def nrm1 : AVal → AVal
  | .sl q _ l => .sl q false l
  | v => v
def nrmV : AVal → AVal
  | .agg cs => .agg (cs.map nrm1)
  | v => nrm1 v

/-- What an address leads to, as cells from there on. -/
def vcLoad (L : Lay) (t : Nat) (x : AVal) (sto : Sto) (T : AVal → Prop) : Prop :=
  match x with
  | .bx id g off =>
    match sget sto id with
    | some (g', .box cs) => g' = g ∧ off + (L t).sz ≤ cs.length ∧ 0 < (L t).sz ∧ T (mkv (L t) (cs.drop off))
    | _ => False
  | .loc id g i off =>
    match sget sto id with
    | some (g', .row esz l) => g' = g ∧ i < l.length ∧ off + (L t).sz ≤ esz ∧ 0 < (L t).sz ∧ ∀ x, l[i]? = some x → T (mkv (L t) (x.drop off))
    | _ => False
  | .ref _ cs => (L t).sz ≤ cs.length ∧ 0 < (L t).sz ∧ T (mkv (L t) cs)
  | _ => False

def vcStore (L : Lay) (t : Nat) (x v : AVal) (sto : Sto) (T : Sto → Prop) : Prop :=
  v.isWhole = true ∧ (cellsOf v).length = (L t).sz ∧
  match x with
  | .bx id g off =>
    match sget sto id with
    | some (g', .box cs) => g' = g ∧ off + (L t).sz ≤ cs.length ∧ T (sput sto id (g, .box (splice cs off (cellsOf v))))
    | _ => False
  | .loc id g i off =>
    match sget sto id with
    | some (g', .row esz l) => g' = g ∧ i < l.length ∧ off + (L t).sz ≤ esz ∧ (cellsOf v).all AVal.isFz = true ∧ ∀ x, l[i]? = some x → T (sput sto id (g, .row esz (l.set i (splice x off (cellsOf v)))))
    | _ => False
  | _ => False

def vcStoreN (L : Lay) (t : Nat) (x v : AVal) (sto : Sto) (T : Sto → Prop) : Prop :=
  match x with
  | .loc id g i off => vcStore L t (.loc id g i off) (nrmV v) sto T
  | x => vcStore L t x v sto T

def vcField (ti : TI) (x : AVal) (f : Nat) (T : AVal → Prop) : Prop :=
  match foff ti f with
  | some (o, _) =>
    match x with
    | .bx id g off => T (.bx id g (off + o))
    | .loc id g i off => T (.loc id g i (off + o))
    | .ref q cs => o ≤ cs.length ∧ T (.ref q (cs.drop o))
    | _ => False
  | none => False

def vcIndexAddr (L : Lay) (t : Nat) (x i : AVal) (sto : Sto) (T : AVal → Prop) : Prop :=
  match i with
  | .int _ n =>
    match (L t).ty with
    | .slice e =>
      match x with
      | .osl id g off len =>
        match sget sto id with
        | some (g', .row esz _) => g' = g ∧ esz = (L e).sz ∧ (0 ≤ n ∧ n < len) ∧ T (.loc id g (off + n.toNat) 0)
        | _ => False
      | .sl q _ l => (0 ≤ n ∧ n < l.length) ∧ ∀ x, l[n.toNat]? = some x → x.length = (L e).sz ∧ T (.ref q x)
      | _ => False
    | .array m e =>
      (0 ≤ n ∧ n < m) ∧
      match x with
      | .bx id g off => T (.bx id g (off + n.toNat * (L e).sz))
      | .loc id g j off => T (.loc id g j (off + n.toNat * (L e).sz))
      | .ref q cs => n.toNat * (L e).sz ≤ cs.length ∧ T (.ref q (cs.drop (n.toNat * (L e).sz)))
      | _ => False
    | _ => False
  | _ => False

def sbyte (s : ByteArray) (n : Nat) : Int := ((s.data.toList[n]?).getD 0).toNat

def vcIndex (L : Lay) (t : Nat) (x i : AVal) (T : AVal → Prop) : Prop :=
  match i with
  | .int _ n =>
    match (L t).ty, x with
    | .string, .str s => (0 ≤ n ∧ n < s.size) ∧ T (.int .u8 (sbyte s n.toNat))
    | .array m e, .agg cs => (0 ≤ n ∧ n < m) ∧ n.toNat * (L e).sz + (L e).sz ≤ cs.length ∧ 0 < (L e).sz ∧ T (mkv (L e) (cs.drop (n.toNat * (L e).sz)))
    | _, _ => False
  | _ => False

def vcFieldOf (L : Lay) (t : Nat) (x : AVal) (f : Nat) (T : AVal → Prop) : Prop :=
  match foff (L t) f, x with
  | some (o, ft), .agg cs => o + (L ft).sz ≤ cs.length ∧ 0 < (L ft).sz ∧ T (mkv (L ft) (cs.drop o))
  | _, _ => False

def vcExtract (x : AVal) (i : Nat) (T : AVal → Prop) : Prop :=
  match x with
  | .tup vs => ∃ v, vs[i]? = some v ∧ T v
  | _ => False

def vcLen (L : Lay) (t : Nat) (x : AVal) (sto : Sto) (T : AVal → Prop) : Prop :=
  match (L t).ty, x with
  | .string, .str s => T (.int .i64 s.size)
  | .slice _, .sl _ _ l => T (.int .i64 l.length)
  | .slice _, .osl _ _ _ len => T (.int .i64 len)
  | .array n _, _ => n < 4294967296 ∧ T (.int .i64 n)
  | .map _ _, .nilmap => T (.int .i64 0)
  | .map _ _, .map id g =>
    match sget sto id with
    | some (g', .mp es) => g' = g ∧ T (.int .i64 es.length)
    | _ => False
  | _, _ => False

/-- The elements of what is appended, out of a frozen or an own list, or a text. -/
def elemsOf (x : AVal) (sto : Sto) : Option (List (List AVal)) :=
  match x with
  | .sl _ _ l => some l
  | .osl id g off len =>
    match sget sto id with
    | some (g', .row _ l) => if g' = g ∧ off + len ≤ l.length then some ((l.drop off).take len) else none
    | _ => none
  | _ => none

def vcAppend (L : Lay) (d : Nat) (t t2 : Nat) (s x : AVal) (sto : Sto) (T : AVal → Sto → Prop) : Prop :=
  t2 = t ∧
  match (L t).ty with
  | .slice e =>
    ∃ m, elemsOf x sto = some m ∧ 0 < (L e).sz ∧ (∀ y ∈ m, y.length = (L e).sz ∧ y.all AVal.isFz = true) ∧
    match s with
    | .osl id g off len =>
      match sget sto id with
      | some (g', .row esz l) => g' = g ∧ off = 0 ∧ len = l.length ∧ esz = (L e).sz ∧ (l.length + m.length) * (L e).by8 ≤ bigLen ∧ l.length + m.length ≤ bigLen ∧
          ∀ h, T (.osl id h 0 (l.length + m.length)) (sput sto id (h, .row esz (l ++ m)))
      | _ => False
    | .sl _ full l => full = true ∧ (∀ y ∈ l, y.length = (L e).sz ∧ y.all AVal.isFz = true) ∧ (l.length + m.length) * (L e).by8 ≤ bigLen ∧ l.length + m.length ≤ bigLen ∧
          (m ≠ [] ∨ l = []) ∧ ∀ h, T (.osl d h 0 (l.length + m.length)) (sput sto d (h, .row (L e).sz (l ++ m)))
    | _ => False
  | _ => False

def vcMake (L : Lay) (d t : Nat) (x y : AVal) (sto : Sto) (T : AVal → Sto → Prop) : Prop :=
  match (L t).ty, x, y with
  | .slice e, .int .i64 n, .int .i64 c => 0 ≤ n ∧ n = c ∧ n * (L e).by8 ≤ bigLen ∧ n ≤ bigLen ∧ 0 < (L e).sz ∧
      ∀ h, T (.osl d h 0 n.toNat) (sput sto d (h, .row (L e).sz ((List.replicate n.toNat (L e).zero).map (List.map nrm1))))
  | _, _, _ => False

def chunks (sz : Nat) : Nat → List AVal → List (List AVal)
  | 0, _ => []
  | n + 1, cs => cs.take sz :: chunks sz n (cs.drop sz)

def vcBuildSlice (L : Lay) (d t n : Nat) (parts : List (Nat × AVal)) (sto : Sto) (T : AVal → Sto → Prop) : Prop :=
  match (L t).ty with
  | .slice e => 0 < (L e).sz ∧ n * (L e).sz ≤ 1000000 ∧ ∃ cs, fillC L (L t) (List.replicate n (L e).zero).flatten parts = some cs ∧ cs.all AVal.isFz = true ∧
      ∀ h, T (.osl d h 0 n) (sput sto d (h, .row (L e).sz ((chunks (L e).sz n cs).map (List.map nrm1))))
  | _ => False

def intArg (x : Option AVal) (dflt : Nat) (P : Nat → Prop) : Prop :=
  match x with
  | none => P dflt
  | some (.int _ n) => 0 ≤ n ∧ P n.toNat
  | _ => False

def slFull (mx : Option AVal) (full : Bool) (h m n : Nat) : Bool :=
  match mx with
  | none => full && decide (h = n)
  | some _ => decide (m = h)

def vcSlice (L : Lay) (t : Nat) (x : AVal) (lo hi mx : Option AVal) (sto : Sto) (T : AVal → Prop) : Prop :=
  match (L t).ty, x with
  | .string, .str s => mx.isNone = true ∧ intArg lo 0 fun l => intArg hi s.size fun h => (l ≤ h ∧ h ≤ s.size) ∧ T (.str (s.extract l h))
  | .slice e, .sl q full es => intArg lo 0 fun l => intArg hi es.length fun h => intArg mx es.length fun m =>
      (l ≤ h ∧ h ≤ m ∧ m ≤ es.length) ∧ (l = 0 ∨ ∀ y ∈ es, y.length = (L e).sz) ∧ T (.sl q (slFull mx full h m es.length) ((es.take h).drop l))
  | .slice e, .osl id g off len => mx.isNone = true ∧ (∃ g' l, sget sto id = some (g', .row (L e).sz l) ∧ g' = g) ∧ intArg lo 0 fun l => intArg hi len fun h => (l ≤ h ∧ h ≤ len) ∧ T (.osl id g (off + l) (h - l))
  | _, _ => False

def vcConvert (L : Lay) (s t : Nat) (x : AVal) (T : AVal → Prop) : Prop :=
  (L s).ty ≠ .other ∧
  match (L t).ty, x with
  | .int k, .int _ n => T (.int k (k.wrap n))
  | .string, .str s' => (L s).ty = .string ∧ T (.str s')
  | _, _ => False

def mfind (es : List (ByteArray × AVal)) (k : ByteArray) : Option AVal := (es.find? fun e => decide (e.1 = k)).map (·.2)

def mput (es : List (ByteArray × AVal)) (k : ByteArray) (v : AVal) : List (ByteArray × AVal) :=
  match es with
  | [] => [(k, v)]
  | e :: r => if e.1 = k then (k, v) :: r else e :: mput r k v

def mdel (es : List (ByteArray × AVal)) (k : ByteArray) : List (ByteArray × AVal) :=
  match es with
  | [] => []
  | e :: r => if e.1 = k then r else e :: mdel r k

def vcLookup (L : Lay) (t : Nat) (m k : AVal) (ok : Bool) (sto : Sto) (T : AVal → Prop) : Prop :=
  match (L t).ty with
  | .map kt et =>
    (L kt).ty = .string ∧ (L et).sz = 1 ∧ (L et).ag = false ∧
    match m, k with
    | .map id g, .str key =>
      match sget sto id with
      | some (g', .mp es) => g' = g ∧ T (match mfind es key with
          | some v => if ok then .tup [v, .bool true] else v
          | none => if ok then .tup [(L et).zero.headD .undef, .bool false] else (L et).zero.headD .undef)
      | _ => False
    | _, _ => False
  | _ => False

def vcMapUpdate (L : Lay) (t : Nat) (m k v : AVal) (sto : Sto) (T : Sto → Prop) : Prop :=
  match (L t).ty with
  | .map kt et =>
    (L kt).ty = .string ∧ (L et).sz = 1 ∧ (L et).ag = false ∧ v.isFz = true ∧
    match m, k with
    | .map id g, .str key =>
      match sget sto id with
      | some (g', .mp es) => g' = g ∧ es.length + 1 ≤ bigLen ∧ T (sput sto id (g, .mp (mput es key v)))
      | _ => False
    | _, _ => False
  | _ => False

def vcBuiltin (L : Lay) (d : Nat) (b : Builtin) (ts : List Nat) (xs : List AVal) (sto : Sto) (T : AVal → Sto → Prop) : Prop :=
  match b, ts, xs with
  | .len, [t], [x] => vcLen L t x sto fun r => T r sto
  | .append, [t, t2], [s, x] => vcAppend L d t t2 s x sto T
  | .max, _, [.int k a, .int k' b] => k = k' ∧ T (.int k (max a b)) sto
  | .min, _, [.int k a, .int k' b] => k = k' ∧ T (.int k (min a b)) sto
  | _, _, _ => False

def vcOp (L : Lay) (tm : Tm) (sto : Sto) (d : Nat) (T : AVal → Sto → Prop) : Op → Prop
  | .move x | .assign x => T (ev tm x) sto
  | .pick c a b =>
    match ev tm c with
    | .bool x => (x = true → T (ev tm a) sto) ∧ (x = false → T (ev tm b) sto)
    | _ => False
  | .alloc t => 0 < (L t).sz ∧ ∀ h, T (.bx d h 0) (sput sto d (h, .box (L t).zero))
  | .box t x => (ev tm x).isWhole = true ∧ (cellsOf (ev tm x)).length = (L t).sz ∧ 0 < (L t).sz ∧ ∀ h, T (.bx d h 0) (sput sto d (h, .box (cellsOf (ev tm x))))
  | .build t parts => (L t).ag = true ∧ ∃ cs, fillC L (L t) (L t).zero (parts.toList.map fun p => (p.1, ev tm p.2)) = some cs ∧ T (.agg cs) sto
  | .buildSlice t n parts => vcBuildSlice L d t n (parts.toList.map fun p => (p.1, ev tm p.2)) sto T
  | .load t a => vcLoad L t (ev tm a) sto fun r => T r sto
  | .store t a x => vcStoreN L t (ev tm a) (ev tm x) sto fun s => T .undef s
  | .nilCheck x =>
    match ev tm x with
    | .bx id g off => T (.bx id g off) sto
    | .loc id g i off => T (.loc id g i off) sto
    | .ref q cs => T (.ref q cs) sto
    | .fn f cap => T (.fn f cap) sto
    | _ => False
  | .binOp op xt x y _ =>
    if isNilSlice y then
      match op with
      | .eql => vcNil L xt (ev tm x) fun b => T (.bool b) sto
      | .neq => vcNil L xt (ev tm x) fun b => T (.bool !b) sto
      | _ => False
    else vcBin L op xt (ev tm x) (ev tm y) fun r => T r sto
  | .unOp op _ x => vcUn op (ev tm x) fun r => T r sto
  | .convert s t x => vcConvert L s t (ev tm x) fun r => T r sto
  | .makeFunc (.func f) first cap => first = #[] ∧ T (.fn f (cap.toList.map (ev tm))) sto
  | .makeMap t none => (∃ k e, (L t).ty = .map k e) ∧ ∀ h, T (.map d h) (sput sto d (h, .mp []))
  | .makeSlice t l c => vcMake L d t (ev tm l) (ev tm c) sto T
  | .slice t x lo hi mx => (mx.isSome = true → hi.isSome = true) ∧ vcSlice L t (ev tm x) (lo.map (ev tm)) (hi.map (ev tm)) (mx.map (ev tm)) sto fun r => T r sto
  | .fieldAddr t x f => vcField (L t) (ev tm x) f fun r => T r sto
  | .field t x f => vcFieldOf L t (ev tm x) f fun r => T r sto
  | .indexAddr t x i => vcIndexAddr L t (ev tm x) (ev tm i) sto fun r => T r sto
  | .index t x i => vcIndex L t (ev tm x) (ev tm i) fun r => T r sto
  | .lookup t m k ok => vcLookup L t (ev tm m) (ev tm k) ok sto fun r => T r sto
  | .mapUpdate t m k x => vcMapUpdate L t (ev tm m) (ev tm k) (nrmV (ev tm x)) sto fun s => T .undef s
  | .extract x i => vcExtract (ev tm x) i fun r => T r sto
  | .call ⟨.builtin b, args, ts⟩ => vcBuiltin L d b ts.toList (args.toList.map (ev tm)) sto T
  | _ => False

end Go.Rad
