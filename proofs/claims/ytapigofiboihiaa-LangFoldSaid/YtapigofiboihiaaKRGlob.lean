/- What package variables that are lists of bytes hold: none are known. (A seat whose rows lay one has a text of its own in this one's place.) -/
import Derived.Tactics
import Derived.Laws.AppendOwn
import Derived.KernelRfl
import Derived.Test.YtapigofiboihiaaProg
import Derived.Laws.OwnMore
set_option linter.all false
namespace Go.Rad
def globU8 : Nat → Option (List Int) := fun _ => none
end Go.Rad
/- Values of the abstract logic, what they stand for in the machine's memory, and how that carries over. -/
namespace Go.Rad
open Go

/-- Values by content; 'loc', 'bx', 'osl', 'map' point into the small store of own things. -/
inductive AVal : Type where
  | bool (b : Bool)
  | int (k : IntKind) (n : Int)
  | str (s : ByteArray)
  | nil
  | ref (q : Bool) (cs : List AVal)
  | sl (q full : Bool) (l : List (List AVal))
  | fn (f : Nat) (cap : List AVal)
  | nilfn
  | nilmap
  | agg (cs : List AVal)
  | tup (vs : List AVal)
  | loc (id g i off : Nat)
  | bx (id g off : Nat)
  | osl (id g off len : Nat)
  | map (id g : Nat)
  | opt (c : Bool) (v : AVal)
  | undef
  deriving Inhabited

inductive AObj : Type where
  | row (esz : Nat) (l : List (List AVal))
  | box (cs : List AVal)
  | mp (es : List (ByteArray × AVal))
  | mpi (es : List (Int × AVal))
  deriving Inhabited

abbrev Tm := List (Nat × AVal)
abbrev Sto := List (Nat × Nat × AObj)

def lk : Tm → Nat → AVal
  | [], _ => .undef
  | (m, v) :: tm, n => if m = n then v else lk tm n

def put (d : Option Nat) (v : AVal) (tm : Tm) : Tm :=
  match d with
  | some d => (d, v) :: tm
  | none => tm

def sget : Sto → Nat → Option (Nat × AObj)
  | [], _ => none
  | (m, v) :: s, n => if m = n then some v else sget s n

def sput : Sto → Nat → (Nat × AObj) → Sto
  | [], id, v => [(id, v)]
  | (i, x) :: s, id, v => if i = id then (id, v) :: s else if id < i then (id, v) :: (i, x) :: s else (i, x) :: sput s id v

def sdel : Sto → Nat → Sto
  | [], _ => []
  | (i, x) :: s, id => if i = id then sdel s id else (i, x) :: sdel s id

theorem sget_sput (s : Sto) (id : Nat) (v : Nat × AObj) (j : Nat) : sget (sput s id v) j = if id = j then some v else sget s j := by
  induction s with
  | nil => simp [sput, sget]
  | cons x s ih =>
    obtain ⟨i, x⟩ := x
    simp only [sput]
    by_cases h1 : i = id
    · subst h1; simp only [if_true, sget]; split <;> rfl
    · simp only [h1, if_false]
      by_cases h2 : id < i
      · simp only [h2, if_true, sget]
      · simp only [h2, if_false, sget, ih]
        by_cases h3 : i = j
        · subst h3; simp [Ne.symm h1]
        · simp [h3]

theorem sget_sdel (s : Sto) (id j : Nat) : sget (sdel s id) j = if id = j then none else sget s j := by
  induction s with
  | nil => simp [sdel, sget]
  | cons x s ih =>
    obtain ⟨i, x⟩ := x
    simp only [sdel]
    by_cases h1 : i = id
    · subst h1; simp only [if_true, ih, sget]; split <;> rfl
    · simp only [h1, if_false, sget, ih]
      by_cases h3 : i = j
      · subst h3; simp [Ne.symm h1]
      · simp [h3]

/-- What a handle stands for: a block (none: nothing yet), the capacity, the cells of an element. -/
structure Hd where
  blk : Option Nat
  cap : Nat
  esz : Nat

structure Gh where
  F : Nat → Option Obj
  S : Nat → Prop
  L : Nat → Prop
  M : Nat → Nat → Option Hd
  N : Nat
  W0 : World

def Gh.ok (G : Gh) (q : Bool) (b : Nat) : Prop := G.S b ∨ (q = false ∧ G.L b)

def AVal.isCell : AVal → Bool
  | .agg _ | .tup _ | .undef | .opt _ _ => false
  | _ => true

def bigLen : Nat := 140737488355328
theorem big_max {n : Nat} (h : n ≤ bigLen) : n ≤ maxLen := Nat.le_trans h (by decide)

def fits (k : IntKind) (n : Int) : Prop := k.min ≤ n ∧ n ≤ k.max

inductive Rep (G : Gh) : Bool → AVal → Value → Prop
  | bool {o b} : Rep G o (.bool b) (.bool b)
  | int {o k n} : fits k n → Rep G o (.int k n) (.int k n)
  | str {o s} : s.size ≤ maxLen → Rep G o (.str s) (.string s)
  | nil {o} : Rep G o .nil (.pointer none)
  | ref {o q cs b off c e fr} : G.ok q b → G.F b = some (.cells c e fr) → off + cs.length ≤ c.size →
      (∀ (j : Nat) (x : AVal), cs[j]? = some x → x.isCell = true) →
      (∀ (j : Nat) (x : AVal), cs[j]? = some x → Rep G false x (c.getD (off + j) undef)) → Rep G o (.ref q cs) (.pointer (some ⟨b, off, none⟩))
  | slnil {o q full a cap} : (full = true → cap = 0) → Rep G o (.sl q full []) (.slice a 0 cap)
  | sl {o q full l cap b off c e fr esz} : l.length ≤ cap → (full = true → cap = l.length) → l.length ≤ maxLen → G.ok q b → G.F b = some (.cells c e fr) →
      off + l.length * esz ≤ c.size →
      (∀ (i : Nat) (x : List AVal), l[i]? = some x → x.length = esz) →
      (∀ (i j : Nat) (x : List AVal) (y : AVal), l[i]? = some x → x[j]? = some y → y.isCell = true) →
      (∀ (i j : Nat) (x : List AVal) (y : AVal), l[i]? = some x → x[j]? = some y → Rep G false y (c.getD (off + i * esz + j) undef)) →
      Rep G o (.sl q full l) (.slice (some ⟨b, off, none⟩) l.length cap)
  | fn {o f cap caps} : caps.size = cap.length → (∀ (j : Nat) (x : AVal), cap[j]? = some x → Rep G o x (caps.getD j undef)) → Rep G o (.fn f cap) (.func (.func f) #[] caps)
  | nilfn {o} : Rep G o .nilfn .nilFunc
  | nilmap {o} : Rep G o .nilmap (.map none)
  | agg {o cs c} : c.size = cs.length → (∀ (j : Nat) (x : AVal), cs[j]? = some x → x.isCell = true) → (∀ (j : Nat) (x : AVal), cs[j]? = some x → Rep G o x (c.getD j undef)) → Rep G o (.agg cs) (.agg c)
  | tup {o vs c} : c.size = vs.length → (∀ (j : Nat) (x : AVal), vs[j]? = some x → Rep G o x (c.getD j undef)) → Rep G o (.tup vs) (.tuple c)
  | loc {id g i off b cap esz} : G.M id g = some ⟨some b, cap, esz⟩ → Rep G true (.loc id g i off) (.pointer (some ⟨b, i * esz + off, none⟩))
  | bx {id g off b cap esz} : G.M id g = some ⟨some b, cap, esz⟩ → Rep G true (.bx id g off) (.pointer (some ⟨b, off, none⟩))
  | osl {id g off len ob cap esz a} : G.M id g = some ⟨ob, cap, esz⟩ → off + len ≤ cap → len ≤ bigLen → (ob = none → cap = 0) →
      (∀ b, ob = some b → off < cap → a = some ⟨b, off * esz, none⟩) → (∀ b, ob = some b → off = 0 → a = some ⟨b, 0, none⟩) →
      Rep G true (.osl id g off len) (.slice a len (cap - off))
  | map {id g b cap esz} : G.M id g = some ⟨some b, cap, esz⟩ → Rep G true (.map id g) (.map (some b))
  | opt {o c v x} : (c = true → Rep G o v x) → Rep G o (.opt c v) x
  | undef {o x} : Rep G o .undef x

structure Ext (E G : Gh) : Prop where
  F : ∀ b o, E.F b = some o → G.F b = some o
  S : ∀ b, E.S b → G.S b
  S' : ∀ b, G.S b → E.S b ∨ E.F b = none
  L : ∀ b, G.L b ↔ E.L b
  M : ∀ i g h, E.M i g = some h → G.M i g = some h
  N : E.N ≤ G.N
  W0 : G.W0 = E.W0

theorem Ext.refl (E : Gh) : Ext E E := ⟨fun _ _ h => h, fun _ h => h, fun _ h => .inl h, fun _ => Iff.rfl, fun _ _ _ h => h, Nat.le_refl _, rfl⟩

theorem Ext.trans {E G H : Gh} (h : Ext E G) (k : Ext G H) : Ext E H where
  F b o x := k.F b o (h.F b o x)
  S b x := k.S b (h.S b x)
  S' b x := by
    rcases k.S' b x with y | y
    · exact h.S' b y
    · right
      cases hF : E.F b with
      | none => rfl
      | some o => rw [h.F b o hF] at y; cases y
  L b := (k.L b).trans (h.L b)
  M i g x y := k.M i g x (h.M i g x y)
  N := Nat.le_trans h.N k.N
  W0 := k.W0.trans h.W0

theorem Gh.ok.mono {E G : Gh} (hS : ∀ b, E.S b → G.S b) (hL : ∀ b, E.L b → G.L b) {q : Bool} {b : Nat} (x : E.ok q b) : G.ok q b := x.imp (hS b) fun ⟨a, c⟩ => ⟨a, hL b c⟩

/-- Growth of all that a value may lean on. -/
structure Mono (E G : Gh) : Prop where
  F : ∀ b o, E.F b = some o → G.F b = some o
  S : ∀ b, E.S b → G.S b
  L : ∀ b, E.L b → G.L b
  M : ∀ i g h, E.M i g = some h → G.M i g = some h

theorem Ext.toMono {E G : Gh} (h : Ext E G) : Mono E G := ⟨h.F, h.S, fun b x => (h.L b).2 x, h.M⟩

theorem Rep.mono {E G : Gh} (h : Mono E G) {o : Bool} {x : AVal} {v : Value} (r : Rep E o x v) : Rep G o x v := by
  induction r with
  | bool => exact .bool
  | int h => exact .int h
  | str h => exact .str h
  | nil => exact .nil
  | ref a b c d _ ih => exact .ref (a.mono h.S h.L) (h.F _ _ b) c d ih
  | slnil a => exact .slnil a
  | sl a b c d e f g i _ ih => exact .sl a b c (d.mono h.S h.L) (h.F _ _ e) f g i ih
  | fn a _ ih => exact .fn a ih
  | nilfn => exact .nilfn
  | nilmap => exact .nilmap
  | agg a b _ ih => exact .agg a b ih
  | tup a _ ih => exact .tup a ih
  | loc a => exact .loc (h.M _ _ _ a)
  | bx a => exact .bx (h.M _ _ _ a)
  | osl a b c n d e => exact .osl (h.M _ _ _ a) b c n d e
  | map a => exact .map (h.M _ _ _ a)
  | opt _ ih => exact .opt ih
  | undef => exact .undef

theorem Rep.up {G : Gh} {o : Bool} {x : AVal} {v : Value} (r : Rep G o x v) : Rep G true x v := by
  induction r with
  | bool => exact .bool
  | int h => exact .int h
  | str h => exact .str h
  | nil => exact .nil
  | ref a b c d e _ => exact .ref a b c d e
  | slnil a => exact .slnil a
  | sl a b c d e f g i j _ => exact .sl a b c d e f g i j
  | fn a _ ih => exact .fn a ih
  | nilfn => exact .nilfn
  | nilmap => exact .nilmap
  | agg a b _ ih => exact .agg a b ih
  | tup a _ ih => exact .tup a ih
  | loc a => exact .loc a
  | bx a => exact .bx a
  | osl a b c n d e => exact .osl a b c n d e
  | map a => exact .map a
  | opt _ ih => exact .opt ih
  | undef => exact .undef

theorem Rep.oneCell {G : Gh} {o : Bool} {x : AVal} {v : Value} (r : Rep G o x v) (h : x.isCell = true) : v.oneCell' = true := by
  cases r <;> first | rfl | (simp [AVal.isCell] at h)

/-- Only frozen things within: no handle. -/
def AVal.isFz : AVal → Bool
  | .bool _ | .int _ _ | .str _ | .nil | .ref _ _ | .sl _ _ _ | .nilfn | .nilmap | .fn _ [] => true
  | _ => false

theorem Rep.down {G : Gh} {o : Bool} {x : AVal} {v : Value} (r : Rep G o x v) (hz : x.isFz = true) : Rep G false x v := by
  cases r with
  | bool => exact .bool
  | int h => exact .int h
  | str h => exact .str h
  | nil => exact .nil
  | ref a b c d e => exact .ref a b c d e
  | slnil a => exact .slnil a
  | sl a b c d e f g i j => exact .sl a b c d e f g i j
  | @fn _ f cap caps a b =>
    cases cap with
    | nil => exact .fn a (fun j x hx => by simp at hx)
    | cons y ys => simp [AVal.isFz] at hz
  | nilfn => exact .nilfn
  | nilmap => exact .nilmap
  | _ => simp [AVal.isFz] at hz

def TmOk (G : Gh) (tm : Tm) (a : Array Value) : Prop := ∀ t, Rep G true (lk tm t) (a.getD t undef)

/-- Of what lies outside nothing is turned, and no new block is shut. -/
structure Kept (w w' : World) : Prop where
  os : w'.os = w.os
  out : w'.output = w.output

theorem Kept.refl (w : World) : Kept w w := ⟨rfl, rfl⟩
theorem Kept.trans {w w' w'' : World} (h : Kept w w') (k : Kept w' w'') : Kept w w'' := ⟨k.os.trans h.os, k.out.trans h.out⟩

/-- The cells of a package variable that is known. -/
abbrev globC (l : List Int) : List AVal := l.map fun n => .int .u8 n
structure WOk (G : Gh) (w : World) : Prop where
  K : Kept G.W0 w
  F : ∀ b o, G.F b = some o → w.heap[b]? = some o
  M : ∀ i g h b, G.M i g = some h → h.blk = some b → b < w.heap.size
  N : ∀ i g, G.N ≤ g → G.M i g = none
  T : ∀ (g : Nat) (l : List Int), globU8 g = some l → Rep G true (.ref true (globC l)) (.pointer (some ⟨g, 0, none⟩))

/-- A row in memory; the mark that it may bear lies behind its end. -/
def RowAt (w : World) (b : Nat) (c : Array Value) (e : TypeId) : Prop := ∃ fr : Nat × Nat, w.heap[b]? = some (.cells c e fr) ∧ (fr.2 = 0 ∨ c.size ≤ fr.1)
/-- An own thing as it lies in memory. -/
def ObjOk (G : Gh) (w : World) (id g : Nat) : AObj → Prop
  | .row esz l => ∃ ob cap, G.M id g = some ⟨ob, cap, esz⟩ ∧ l.length ≤ cap ∧ l.length ≤ bigLen ∧ 0 < esz ∧ (∀ (i : Nat) (x : List AVal), l[i]? = some x → x.length = esz) ∧
      (∀ (i j : Nat) (x : List AVal) (y : AVal), l[i]? = some x → x[j]? = some y → y.isCell = true) ∧ (ob = none → cap = 0) ∧
      ∀ b, ob = some b → G.F b = none ∧ cap ≤ maxLen ∧ ∃ c e, RowAt w b c e ∧ c.size = cap * esz ∧
        ∀ (i j : Nat) (x : List AVal) (y : AVal), l[i]? = some x → x[j]? = some y → Rep G false y (c.getD (i * esz + j) undef)
  | .box cs => ∃ b cap esz, G.M id g = some ⟨some b, cap, esz⟩ ∧ G.F b = none ∧ ∃ c e, w.heap[b]? = some (.cells c e (0, 0)) ∧ c.size = cs.length ∧
      (∀ (j : Nat) (x : AVal), cs[j]? = some x → x.isCell = true) ∧ ∀ (j : Nat) (x : AVal), cs[j]? = some x → Rep G true x (c.getD j undef)
  | .mp es => ∃ b cap esz, G.M id g = some ⟨some b, cap, esz⟩ ∧ G.F b = none ∧ ∃ me clock, w.heap[b]? = some (.map me clock) ∧ me.size = es.length ∧ es.length ≤ bigLen ∧
      ∀ (j : Nat) (x : ByteArray × AVal), es[j]? = some x → ∃ m : MapEntry, me[j]? = some m ∧ m.key = .string x.1 ∧ x.2.isCell = true ∧ Rep G false x.2 m.val
  | .mpi es => ∃ b cap esz, G.M id g = some ⟨some b, cap, esz⟩ ∧ G.F b = none ∧ ∃ me clock, w.heap[b]? = some (.map me clock) ∧ me.size = es.length ∧ es.length ≤ bigLen ∧
      ∀ (j : Nat) (x : Int × AVal), es[j]? = some x → ∃ m : MapEntry, me[j]? = some m ∧ m.key = .int .i64 x.1 ∧ x.2.isCell = true ∧ Rep G false x.2 m.val

def blkOf (G : Gh) (id g : Nat) : Option Nat := (G.M id g).bind (·.blk)

structure StoOk (G : Gh) (w : World) (s : Sto) : Prop where
  obj : ∀ id g o, sget s id = some (g, o) → ObjOk G w id g o
  apart : ∀ id id' g g' o o', sget s id = some (g, o) → sget s id' = some (g', o') → id ≠ id' → ∀ b, blkOf G id g = some b → blkOf G id' g' ≠ some b

end Go.Rad
/- The reduction of a region: what must hold ahead of its operations, so that what is asked behind them holds. -/
namespace Go.Rad
open Go

inductive Ty : Type where
  | int (k : IntKind)
  | bool
  | string
  | ptr
  | slice (e : Nat)
  | array (n e : Nat)
  | struct (fs : List (Nat × Nat))
  | map (k e : Nat)
  | func
  | other
  deriving DecidableEq, Inhabited

/-- What the logic knows of a type: its form, whether it is several cells' value, how many cells and bytes, its zero's cells. -/
structure TI where
  ty : Ty
  ag : Bool
  sz : Nat
  by8 : Nat
  zero : List AVal
  deriving Inhabited

abbrev Lay := Nat → TI

def ofConst1 : Value → AVal
  | .bool b => .bool b
  | .int k n => .int k n
  | .string s => .str s
  | .pointer none => .nil
  | .slice none 0 0 => .sl true true []
  | .map none => .nilmap
  | .nilFunc => .nilfn
  | _ => .undef

def ofConst : Value → AVal
  | .agg cs => .agg (cs.toList.map ofConst1)
  | v => ofConst1 v

def ev (tm : Tm) : Operand → AVal
  | .tmp t => lk tm t
  | .const v => ofConst v
  | .func f => .fn f []
  | .global g => match globU8 g with | some l => .ref true (globC l) | none => .undef

def cellsOf : AVal → List AVal
  | .agg cs => cs
  | v => [v]

def AVal.isWhole : AVal → Bool
  | .agg _ => true
  | v => v.isCell

def mkv (ti : TI) (cs : List AVal) : AVal := if ti.ag then .agg (cs.take ti.sz) else cs.headD .undef

def splice (cs : List AVal) (off : Nat) (vs : List AVal) : List AVal := cs.take off ++ vs ++ cs.drop (off + vs.length)

def foff (ti : TI) (f : Nat) : Option (Nat × Nat) :=
  match ti.ty with
  | .struct fs => fs[f]?
  | _ => none

/-- The cells of an aggregate whose parts are put into cells that are there. -/
def fillC (L : Lay) (ti : TI) (cs : List AVal) : List (Nat × AVal) → Option (List AVal)
  | [] => some cs
  | (i, v) :: rest =>
    match (match ti.ty with
      | .struct fs => (fs[i]?).map fun f => (f.1, (L f.2).sz)
      | .array _ e => some (i * (L e).sz, (L e).sz)
      | .slice e => some (i * (L e).sz, (L e).sz)
      | _ => none) with
    | some (off, sz) => if (cellsOf v).length = sz ∧ off + sz ≤ cs.length ∧ v.isWhole = true then fillC L ti (splice cs off (cellsOf v)) rest else none
    | none => none

def inI64 (n : Int) : Prop := -9223372036854775808 ≤ n ∧ n ≤ 9223372036854775807

def vcArith (k : IntKind) (n : Int) (T : AVal → Prop) : Prop :=
  match k with
  | .i64 => inI64 n ∧ T (.int .i64 n)
  | k => T (.int k (k.wrap n))

def bitsOf (op : BinOp) (k : IntKind) (x y : Int) : Int :=
  let a := BitVec.ofInt k.bits x
  let b := BitVec.ofInt k.bits y
  match op with
  | .and => k.wrap (a &&& b).toNat
  | .or => k.wrap (a ||| b).toNat
  | .xor => k.wrap (a ^^^ b).toNat
  | _ => k.wrap (a &&& ~~~b).toNat

def vcInt (op : BinOp) (k : IntKind) (a b : Int) (T : AVal → Prop) : Prop :=
  match op with
  | .add => vcArith k (a + b) T
  | .sub => vcArith k (a - b) T
  | .mul => vcArith k (a * b) T
  | .quo => b ≠ 0 ∧ vcArith k (a.tdiv b) T
  | .rem => b ≠ 0 ∧ T (.int k (a.tmod b))
  | .and | .or | .xor | .andNot => T (.int k (bitsOf op k a b))
  | .eql => T (.bool (decide (a = b)))
  | .neq => T (.bool (!decide (a = b)))
  | .lss => T (.bool (decide (a < b)))
  | .leq => T (.bool (decide (a ≤ b)))
  | .gtr => T (.bool (decide (b < a)))
  | .geq => T (.bool (decide (b ≤ a)))
  | _ => False

def vcShift (op : BinOp) (k : IntKind) (a b : Int) (T : AVal → Prop) : Prop :=
  match op with
  | .shl => 0 ≤ b ∧ T (.int k (k.wrap (a * 2 ^ min b.toNat k.bits)))
  | .shr => 0 ≤ b ∧ T (.int k (a.fdiv (2 ^ min b.toNat k.bits)))
  | _ => False

def vcStr (op : BinOp) (a b : ByteArray) (T : AVal → Prop) : Prop :=
  match op with
  | .add => a.size + b.size ≤ maxLen ∧ T (.str (a ++ b))
  | .eql => T (.bool (decide (a = b)))
  | .neq => T (.bool (!decide (a = b)))
  | .lss => T (.bool (Op.bytesLess a.toList b.toList))
  | .gtr => T (.bool (!(Op.bytesLess a.toList b.toList || decide (a = b))))
  | .leq => T (.bool (Op.bytesLess a.toList b.toList || decide (a = b)))
  | .geq => T (.bool (!Op.bytesLess a.toList b.toList))
  | _ => False

def intsOf (k : IntKind) : List AVal → Option (List Int)
  | [] => some []
  | .int k' n :: r => if k' = k then (intsOf k r).map (n :: ·) else none
  | _ :: _ => none

def vcEqAgg (L : Lay) (xt : Nat) (xs ys : List AVal) (T : Bool → Prop) : Prop :=
  match (L xt).ty with
  | .array n e =>
    match (L e).ty with
    | .int k => ∃ a b, intsOf k xs = some a ∧ intsOf k ys = some b ∧ a.length = n ∧ b.length = n ∧ n ≤ 1000 ∧ (L e).sz = 1 ∧ (L e).ag = false ∧ T (decide (a = b))
    | _ => False
  | _ => False

def isNilSlice : Operand → Bool
  | .const (.slice none _ _) => true
  | _ => false

def vcNil (L : Lay) (xt : Nat) (x : AVal) (T : Bool → Prop) : Prop :=
  (∃ e, (L xt).ty = .slice e) ∧
  match x with
  | .sl _ _ l => ∀ b : Bool, (b = true → l = []) → T b
  | .osl _ _ _ len => ∀ b : Bool, (b = true → len = 0) → T b
  | _ => False

def vcBin (L : Lay) (op : BinOp) (xt : Nat) (x y : AVal) (T : AVal → Prop) : Prop :=
  match op, x, y with
  | .shl, .int k a, .int _ b => vcShift .shl k a b T
  | .shr, .int k a, .int _ b => vcShift .shr k a b T
  | op, .int k a, .int k' b => k = k' ∧ vcInt op k a b T
  | op, .str a, .str b => vcStr op a b T
  | .eql, .bool a, .bool b => (L xt).ty = .bool ∧ T (.bool (a == b))
  | .neq, .bool a, .bool b => (L xt).ty = .bool ∧ T (.bool (!(a == b)))
  | .eql, .agg a, .agg b => vcEqAgg L xt a b fun r => T (.bool r)
  | .neq, .agg a, .agg b => vcEqAgg L xt a b fun r => T (.bool !r)
  | _, _, _ => False

def vcUn (op : UnOp) (x : AVal) (T : AVal → Prop) : Prop :=
  match op, x with
  | .not, .bool b => T (.bool !b)
  | .neg, .int k n => vcArith k (0 - n) T
  | .xor, .int k n => T (.int k (bitsOf .xor k (if k.signed then -1 else k.max) n))
  | _, _ => False

/-- In a list's element it counts nothing whether a list within is full. -/
def nrm1 : AVal → AVal
  | .sl q _ l => .sl q false l
  | v => v
def nrmV : AVal → AVal
  | .agg cs => .agg (cs.map nrm1)
  | v => nrm1 v

/-- What an address leads to, as cells from there on. -/
def vcLoad (L : Lay) (t : Nat) (x : AVal) (sto : Sto) (T : AVal → Prop) : Prop :=
  match x with
  | .bx id g off =>
    match sget sto id with
    | some (g', .box cs) => g' = g ∧ off + (L t).sz ≤ cs.length ∧ 0 < (L t).sz ∧ T (mkv (L t) (cs.drop off))
    | _ => False
  | .loc id g i off =>
    match sget sto id with
    | some (g', .row esz l) => g' = g ∧ i < l.length ∧ off + (L t).sz ≤ esz ∧ 0 < (L t).sz ∧ ∀ x, l[i]? = some x → T (mkv (L t) (x.drop off))
    | _ => False
  | .ref _ cs => (L t).sz ≤ cs.length ∧ 0 < (L t).sz ∧ T (mkv (L t) cs)
  | _ => False

def vcStore (L : Lay) (t : Nat) (x v : AVal) (sto : Sto) (T : Sto → Prop) : Prop :=
  v.isWhole = true ∧ (cellsOf v).length = (L t).sz ∧
  match x with
  | .bx id g off =>
    match sget sto id with
    | some (g', .box cs) => g' = g ∧ off + (L t).sz ≤ cs.length ∧ T (sput sto id (g, .box (splice cs off (cellsOf v))))
    | _ => False
  | .loc id g i off =>
    match sget sto id with
    | some (g', .row esz l) => g' = g ∧ i < l.length ∧ off + (L t).sz ≤ esz ∧ (cellsOf v).all AVal.isFz = true ∧ ∀ x, l[i]? = some x → T (sput sto id (g, .row esz (l.set i (splice x off (cellsOf v)))))
    | _ => False
  | _ => False

def vcStoreN (L : Lay) (t : Nat) (x v : AVal) (sto : Sto) (T : Sto → Prop) : Prop :=
  match x with
  | .loc id g i off => vcStore L t (.loc id g i off) (nrmV v) sto T
  | x => vcStore L t x v sto T

def vcField (ti : TI) (x : AVal) (f : Nat) (T : AVal → Prop) : Prop :=
  match foff ti f with
  | some (o, _) =>
    match x with
    | .bx id g off => T (.bx id g (off + o))
    | .loc id g i off => T (.loc id g i (off + o))
    | .ref q cs => o ≤ cs.length ∧ T (.ref q (cs.drop o))
    | _ => False
  | none => False

def vcIndexAddr (L : Lay) (t : Nat) (x i : AVal) (sto : Sto) (T : AVal → Prop) : Prop :=
  match i with
  | .int _ n =>
    match (L t).ty with
    | .slice e =>
      match x with
      | .osl id g off len =>
        match sget sto id with
        | some (g', .row esz _) => g' = g ∧ esz = (L e).sz ∧ (0 ≤ n ∧ n < len) ∧ T (.loc id g (off + n.toNat) 0)
        | _ => False
      | .sl q _ l => (0 ≤ n ∧ n < l.length) ∧ ∀ x, l[n.toNat]? = some x → x.length = (L e).sz ∧ T (.ref q x)
      | _ => False
    | .array m e =>
      (0 ≤ n ∧ n < m) ∧
      match x with
      | .bx id g off => T (.bx id g (off + n.toNat * (L e).sz))
      | .loc id g j off => T (.loc id g j (off + n.toNat * (L e).sz))
      | .ref q cs => n.toNat * (L e).sz ≤ cs.length ∧ T (.ref q (cs.drop (n.toNat * (L e).sz)))
      | _ => False
    | _ => False
  | _ => False

def sbyte (s : ByteArray) (n : Nat) : Int := ((s.data.toList[n]?).getD 0).toNat

def vcIndex (L : Lay) (t : Nat) (x i : AVal) (T : AVal → Prop) : Prop :=
  match i with
  | .int _ n =>
    match (L t).ty, x with
    | .string, .str s => (0 ≤ n ∧ n < s.size) ∧ T (.int .u8 (sbyte s n.toNat))
    | .array m e, .agg cs => (0 ≤ n ∧ n < m) ∧ n.toNat * (L e).sz + (L e).sz ≤ cs.length ∧ 0 < (L e).sz ∧ T (mkv (L e) (cs.drop (n.toNat * (L e).sz)))
    | _, _ => False
  | _ => False

def vcFieldOf (L : Lay) (t : Nat) (x : AVal) (f : Nat) (T : AVal → Prop) : Prop :=
  match foff (L t) f, x with
  | some (o, ft), .agg cs => o + (L ft).sz ≤ cs.length ∧ 0 < (L ft).sz ∧ T (mkv (L ft) (cs.drop o))
  | _, _ => False

def vcExtract (x : AVal) (i : Nat) (T : AVal → Prop) : Prop :=
  match x with
  | .tup vs => ∃ v, vs[i]? = some v ∧ T v
  | _ => False

def vcLen (L : Lay) (t : Nat) (x : AVal) (sto : Sto) (T : AVal → Prop) : Prop :=
  match (L t).ty, x with
  | .string, .str s => T (.int .i64 s.size)
  | .slice _, .sl _ _ l => T (.int .i64 l.length)
  | .slice _, .osl _ _ _ len => T (.int .i64 len)
  | .array n _, _ => n < 4294967296 ∧ T (.int .i64 n)
  | .map _ _, .nilmap => T (.int .i64 0)
  | .map _ _, .map id g =>
    match sget sto id with
    | some (g', .mp es) => g' = g ∧ T (.int .i64 es.length)
    | some (g', .mpi es) => g' = g ∧ T (.int .i64 es.length)
    | _ => False
  | _, _ => False

/-- The elements of what is appended, out of a frozen or an own list, or a text. -/
def elemsOf (x : AVal) (sto : Sto) : Option (List (List AVal)) :=
  match x with
  | .sl _ _ l => some l
  | .osl id g off len =>
    match sget sto id with
    | some (g', .row _ l) => if g' = g ∧ off + len ≤ l.length then some ((l.drop off).take len) else none
    | _ => none
  | _ => none

def vcAppend (L : Lay) (d : Nat) (t t2 : Nat) (s x : AVal) (sto : Sto) (T : AVal → Sto → Prop) : Prop :=
  t2 = t ∧
  match (L t).ty with
  | .slice e =>
    ∃ m, elemsOf x sto = some m ∧ 0 < (L e).sz ∧ (∀ y ∈ m, y.length = (L e).sz ∧ y.all AVal.isFz = true) ∧
    match s with
    | .osl id g off len =>
      match sget sto id with
      | some (g', .row esz l) => g' = g ∧ off = 0 ∧ len = l.length ∧ esz = (L e).sz ∧ (l.length + m.length) * (L e).by8 ≤ bigLen ∧ l.length + m.length ≤ bigLen ∧
          ∀ h, T (.osl id h 0 (l.length + m.length)) (sput sto id (h, .row esz (l ++ m)))
      | _ => False
    | .sl _ full l => full = true ∧ (∀ y ∈ l, y.length = (L e).sz ∧ y.all AVal.isFz = true) ∧ (l.length + m.length) * (L e).by8 ≤ bigLen ∧ l.length + m.length ≤ bigLen ∧
          (m ≠ [] ∨ l = []) ∧ ∀ h, T (.osl d h 0 (l.length + m.length)) (sput sto d (h, .row (L e).sz (l ++ m)))
    | _ => False
  | _ => False

def vcMake (L : Lay) (d t : Nat) (x y : AVal) (sto : Sto) (T : AVal → Sto → Prop) : Prop :=
  match (L t).ty, x, y with
  | .slice e, .int .i64 n, .int .i64 c => 0 ≤ n ∧ n = c ∧ n * (L e).by8 ≤ bigLen ∧ n ≤ bigLen ∧ 0 < (L e).sz ∧
      ∀ h, T (.osl d h 0 n.toNat) (sput sto d (h, .row (L e).sz ((List.replicate n.toNat (L e).zero).map (List.map nrm1))))
  | _, _, _ => False

def chunks (sz : Nat) : Nat → List AVal → List (List AVal)
  | 0, _ => []
  | n + 1, cs => cs.take sz :: chunks sz n (cs.drop sz)

def vcBuildSlice (L : Lay) (d t n : Nat) (parts : List (Nat × AVal)) (sto : Sto) (T : AVal → Sto → Prop) : Prop :=
  match (L t).ty with
  | .slice e => 0 < (L e).sz ∧ n * (L e).sz ≤ 1000000 ∧ ∃ cs, fillC L (L t) (List.replicate n (L e).zero).flatten parts = some cs ∧ cs.all AVal.isFz = true ∧
      ∀ h, T (.osl d h 0 n) (sput sto d (h, .row (L e).sz ((chunks (L e).sz n cs).map (List.map nrm1))))
  | _ => False

def intArg (x : Option AVal) (dflt : Nat) (P : Nat → Prop) : Prop :=
  match x with
  | none => P dflt
  | some (.int _ n) => 0 ≤ n ∧ P n.toNat
  | _ => False

def slFull (mx : Option AVal) (full : Bool) (h m n : Nat) : Bool :=
  match mx with
  | none => full && decide (h = n)
  | some _ => decide (m = h)

def vcSlice (L : Lay) (t : Nat) (x : AVal) (lo hi mx : Option AVal) (sto : Sto) (T : AVal → Prop) : Prop :=
  match (L t).ty, x with
  | .string, .str s => mx.isNone = true ∧ intArg lo 0 fun l => intArg hi s.size fun h => (l ≤ h ∧ h ≤ s.size) ∧ T (.str (s.extract l h))
  | .slice e, .sl q full es => intArg lo 0 fun l => intArg hi es.length fun h => intArg mx es.length fun m =>
      (l ≤ h ∧ h ≤ m ∧ m ≤ es.length) ∧ (l = 0 ∨ ∀ y ∈ es, y.length = (L e).sz) ∧ T (.sl q (slFull mx full h m es.length) ((es.take h).drop l))
  | .slice e, .osl id g off len => mx.isNone = true ∧ (∃ g' l, sget sto id = some (g', .row (L e).sz l) ∧ g' = g) ∧ intArg lo 0 fun l => intArg hi len fun h => (l ≤ h ∧ h ≤ len) ∧ T (.osl id g (off + l) (h - l))
  | _, _ => False

def strOf : List (List AVal) → Option (List UInt8)
  | [] => some []
  | [.int .u8 n] :: r => (strOf r).map (UInt8.ofNat n.toNat :: ·)
  | _ => none
def vcConvert (L : Lay) (s t : Nat) (x : AVal) (T : AVal → Prop) : Prop :=
  (L s).ty ≠ .other ∧
  match (L t).ty, x with
  | .int k, .int _ n => T (.int k (k.wrap n))
  | .string, .str s' => (L s).ty = .string ∧ T (.str s')
  | .string, .sl _ _ l => (∃ e, (L s).ty = .slice e ∧ (L e).ty = .int .u8) ∧ ∃ bs, strOf l = some bs ∧ T (.str ⟨bs.toArray⟩)
  | _, _ => False

def mfind {κ : Type} [DecidableEq κ] (es : List (κ × AVal)) (k : κ) : Option AVal := (es.find? fun e => decide (e.1 = k)).map (·.2)

def mput {κ : Type} [DecidableEq κ] (es : List (κ × AVal)) (k : κ) (v : AVal) : List (κ × AVal) :=
  match es with
  | [] => [(k, v)]
  | e :: r => if e.1 = k then (k, v) :: r else e :: mput r k v

def mdel {κ : Type} [DecidableEq κ] (es : List (κ × AVal)) (k : κ) : List (κ × AVal) :=
  match es with
  | [] => []
  | e :: r => if e.1 = k then r else e :: mdel r k

def vcLookup (L : Lay) (t : Nat) (m k : AVal) (ok : Bool) (sto : Sto) (T : AVal → Prop) : Prop :=
  match (L t).ty with
  | .map kt et =>
    match m, k with
    | .map id g, .str key =>
      (L kt).ty = .string ∧ (L et).sz = 1 ∧ (L et).ag = false ∧
      match sget sto id with
      | some (g', .mp es) => g' = g ∧ T (match mfind es key with
          | some v => if ok then .tup [v, .bool true] else v
          | none => if ok then .tup [(L et).zero.headD .undef, .bool false] else (L et).zero.headD .undef)
      | _ => False
    | .map id g, .int .i64 key =>
      (L kt).ty = .int .i64 ∧ (L et).sz = 1 ∧ (L et).ag = false ∧
      match sget sto id with
      | some (g', .mpi es) => g' = g ∧ T (match mfind es key with
          | some v => if ok then .tup [v, .bool true] else v
          | none => if ok then .tup [(L et).zero.headD .undef, .bool false] else (L et).zero.headD .undef)
      | _ => False
    | _, _ => False
  | _ => False

def vcMapUpdate (L : Lay) (t : Nat) (m k v : AVal) (sto : Sto) (T : Sto → Prop) : Prop :=
  match (L t).ty with
  | .map kt et =>
    match m, k with
    | .map id g, .str key =>
      (L kt).ty = .string ∧ (L et).sz = 1 ∧ (L et).ag = false ∧ v.isFz = true ∧
      match sget sto id with
      | some (g', .mp es) => g' = g ∧ es.length + 1 ≤ bigLen ∧ T (sput sto id (g, .mp (mput es key v)))
      | _ => False
    | .map id g, .int .i64 key =>
      (L kt).ty = .int .i64 ∧ (L et).sz = 1 ∧ (L et).ag = false ∧ v.isFz = true ∧
      match sget sto id with
      | some (g', .mpi es) => g' = g ∧ es.length + 1 ≤ bigLen ∧ T (sput sto id (g, .mpi (mput es key v)))
      | _ => False
    | _, _ => False
  | _ => False

def vcBuiltin (L : Lay) (d : Nat) (b : Builtin) (ts : List Nat) (xs : List AVal) (sto : Sto) (T : AVal → Sto → Prop) : Prop :=
  match b, ts, xs with
  | .len, [t], [x] => vcLen L t x sto fun r => T r sto
  | .append, [t, t2], [s, x] => vcAppend L d t t2 s x sto T
  | .max, _, [.int k a, .int k' b] => k = k' ∧ T (.int k (max a b)) sto
  | .min, _, [.int k a, .int k' b] => k = k' ∧ T (.int k (min a b)) sto
  | _, _, _ => False

def vcOp (L : Lay) (tm : Tm) (sto : Sto) (d : Nat) (T : AVal → Sto → Prop) : Op → Prop
  | .move x | .assign x => T (ev tm x) sto
  | .pick c a b =>
    match ev tm c with
    | .bool x => (x = true → T (ev tm a) sto) ∧ (x = false → T (ev tm b) sto)
    | _ => False
  | .alloc t => 0 < (L t).sz ∧ ∀ h, T (.bx d h 0) (sput sto d (h, .box (L t).zero))
  | .box t x => (ev tm x).isWhole = true ∧ (cellsOf (ev tm x)).length = (L t).sz ∧ 0 < (L t).sz ∧ ∀ h, T (.bx d h 0) (sput sto d (h, .box (cellsOf (ev tm x))))
  | .build t parts => (L t).ag = true ∧ ∃ cs, fillC L (L t) (L t).zero (parts.toList.map fun p => (p.1, ev tm p.2)) = some cs ∧ T (.agg cs) sto
  | .buildSlice t n parts => vcBuildSlice L d t n (parts.toList.map fun p => (p.1, ev tm p.2)) sto T
  | .load t a => vcLoad L t (ev tm a) sto fun r => T r sto
  | .store t a x => vcStoreN L t (ev tm a) (ev tm x) sto fun s => T .undef s
  | .nilCheck x =>
    match ev tm x with
    | .bx id g off => T (.bx id g off) sto
    | .loc id g i off => T (.loc id g i off) sto
    | .ref q cs => T (.ref q cs) sto
    | .fn f cap => T (.fn f cap) sto
    | _ => False
  | .binOp op xt x y _ =>
    if isNilSlice y then
      match op with
      | .eql => vcNil L xt (ev tm x) fun b => T (.bool b) sto
      | .neq => vcNil L xt (ev tm x) fun b => T (.bool !b) sto
      | _ => False
    else vcBin L op xt (ev tm x) (ev tm y) fun r => T r sto
  | .unOp op _ x => vcUn op (ev tm x) fun r => T r sto
  | .convert s t x => vcConvert L s t (ev tm x) fun r => T r sto
  | .makeFunc (.func f) first cap => first = #[] ∧ T (.fn f (cap.toList.map (ev tm))) sto
  | .makeMap t none => (∃ k e, (L t).ty = .map k e) ∧ ∀ h, T (.map d h) (sput sto d (h, .mp []))
  | .makeSlice t l c => vcMake L d t (ev tm l) (ev tm c) sto T
  | .slice t x lo hi mx => (mx.isSome = true → hi.isSome = true) ∧ vcSlice L t (ev tm x) (lo.map (ev tm)) (hi.map (ev tm)) (mx.map (ev tm)) sto fun r => T r sto
  | .fieldAddr t x f => vcField (L t) (ev tm x) f fun r => T r sto
  | .field t x f => vcFieldOf L t (ev tm x) f fun r => T r sto
  | .indexAddr t x i => vcIndexAddr L t (ev tm x) (ev tm i) sto fun r => T r sto
  | .index t x i => vcIndex L t (ev tm x) (ev tm i) fun r => T r sto
  | .lookup t m k ok => vcLookup L t (ev tm m) (ev tm k) ok sto fun r => T r sto
  | .mapUpdate t m k x => vcMapUpdate L t (ev tm m) (ev tm k) (nrmV (ev tm x)) sto fun s => T .undef s
  | .extract x i => vcExtract (ev tm x) i fun r => T r sto
  | .call ⟨.builtin b, args, ts⟩ => vcBuiltin L d b ts.toList (args.toList.map (ev tm)) sto T
  | _ => False

end Go.Rad
/- The table of types that the logic uses, checked against the program's own. -/
namespace Go.Rad
open Go

def zeroIs : AVal → Value → Bool
  | .bool false, .bool false => true
  | .int k 0, .int k' 0 => k == k'
  | .str s, .string s' => s.size == 0 && s'.size == 0
  | .nil, .pointer none => true
  | .sl true true [], .slice none 0 0 => true
  | .nilfn, .nilFunc => true
  | .nilmap, .map none => true
  | _, _ => false

def zerosAre : List AVal → List Value → Bool
  | [], [] => true
  | x :: xs, v :: vs => zeroIs x v && zerosAre xs vs
  | _, _ => false

def fieldsAre (L : Lay) : List (Nat × Nat) → List Field → Bool
  | [], [] => true
  | (o, t) :: fs, f :: gs => f.offset == o && f.type == t && decide (0 < (L t).sz) && (L t).ty != .other && fieldsAre L fs gs
  | _, _ => false

def descIs (L : Lay) : Ty → TypeDesc → Bool
  | .int k, .int k' => k == k'
  | .bool, .bool => true
  | .string, .string => true
  | .ptr, .pointer _ => true
  | .slice e, .slice e' => e == e' && (L e).ty != .other
  | .array n e, .array n' e' => n == n' && e == e' && (L e).ty != .other
  | .struct fs, .struct gs => fieldsAre L fs gs.toList
  | .map k e, .map k' e' => k == k' && e == e' && (L k).ty != .other && (L e).ty != .other
  | .func, .func _ _ _ => true
  | _, _ => false

def isAggD : TypeDesc → Bool
  | .struct _ | .array _ _ => true
  | _ => false

def oneIs : List AVal → Value → Bool
  | [x], v => zeroIs x v
  | _, _ => false

def tyOk (P : Program) (L : Lay) (t : Nat) : Bool :=
  (L t).ty == .other ||
  match P.info? t, P.underlying t with
  | some i, some d => descIs L (L t).ty d && i.size == (L t).sz && i.bytes == (L t).by8 && isAggD d == (L t).ag &&
      (match i.zero with | some z => zerosAre (L t).zero z.cells.toList && ((L t).ag || oneIs (L t).zero z) | none => false) && (L t).zero.length == (L t).sz
  | _, _ => false

def layOf (tbl : List TI) : Lay := fun t => tbl.getD t ⟨.other, false, 0, 0, []⟩

def LOk (P : Program) (L : Lay) : Prop := ∀ t, tyOk P L t = true

theorem layOk (P : Program) (tbl : List TI) (h : (List.range tbl.length).all (tyOk P (layOf tbl)) = true) : LOk P (layOf tbl) := by
  intro t
  by_cases ht : t < tbl.length
  · exact List.all_eq_true.1 h t (List.mem_range.2 ht)
  · have : layOf tbl t = ⟨.other, false, 0, 0, []⟩ := by simp [layOf, List.getD, List.getElem?_eq_none (Nat.le_of_not_lt ht)]
    simp [tyOk, this]

section
variable {P : Program} {L : Lay}

/-- What is known of a type that the table knows. -/
structure Known (P : Program) (L : Lay) (t : Nat) (i : TypeInfo) (d : TypeDesc) (z : Value) : Prop where
  info : P.info? t = some i
  und : P.underlying t = some d
  desc : descIs L (L t).ty d = true
  size : i.size = (L t).sz
  bytes : i.bytes = (L t).by8
  agg : isAggD d = (L t).ag
  zero : i.zero = some z
  zeros : zerosAre (L t).zero z.cells.toList = true
  one : (L t).ag = true ∨ oneIs (L t).zero z = true
  zlen : (L t).zero.length = (L t).sz

theorem LOk.known (h : LOk P L) {t : Nat} (ht : (L t).ty ≠ .other) : ∃ i d z, Known P L t i d z := by
  have := h t
  unfold tyOk at this
  simp only [Bool.or_eq_true, beq_iff_eq, ht, false_or] at this
  split at this
  · rename_i i d hi hd
    simp only [Bool.and_eq_true, beq_iff_eq] at this
    obtain ⟨⟨⟨⟨⟨h1, h2⟩, h3⟩, h4⟩, h5⟩, h6⟩ := this
    split at h5
    · rename_i z hz
      simp only [Bool.and_eq_true, Bool.or_eq_true] at h5
      exact ⟨i, d, z, hi, hd, h1, h2, h3, h4, hz, h5.1, h5.2, h6⟩
    · cases h5
  · cases this

theorem zerosAre_length : ∀ (xs : List AVal) (vs : List Value), zerosAre xs vs = true → xs.length = vs.length
  | [], [], _ => rfl
  | [], _ :: _, h => by simp [zerosAre] at h
  | _ :: _, [], h => by simp [zerosAre] at h
  | x :: xs, v :: vs, h => by
    simp only [zerosAre, Bool.and_eq_true] at h
    simp [zerosAre_length xs vs h.2]

theorem zeroIs_rep {G : Gh} {x : AVal} {v : Value} (h : zeroIs x v = true) : x.isCell = true ∧ x.isFz = true ∧ Rep G false x v := by
  unfold zeroIs at h
  split at h <;> first
    | (simp at h; done)
    | skip
  · exact ⟨rfl, rfl, .bool⟩
  · simp only [beq_iff_eq] at h; subst h
    refine ⟨rfl, rfl, .int ?_⟩
    constructor <;> (rename_i k; cases k <;> decide)
  · simp only [Bool.and_eq_true, beq_iff_eq] at h
    rename_i s s'
    have e1 : s = ByteArray.empty := ByteArray.ext (Array.eq_empty_of_size_eq_zero h.1)
    have e2 : s' = ByteArray.empty := ByteArray.ext (Array.eq_empty_of_size_eq_zero h.2)
    subst e1 e2
    exact ⟨rfl, rfl, .str (Nat.zero_le _)⟩
  · exact ⟨rfl, rfl, .nil⟩
  · exact ⟨rfl, rfl, .slnil (fun _ => rfl)⟩
  · exact ⟨rfl, rfl, .nilfn⟩
  · exact ⟨rfl, rfl, .nilmap⟩

theorem zerosAre_get : ∀ (xs : List AVal) (vs : List Value), zerosAre xs vs = true → ∀ (j : Nat) (x : AVal), xs[j]? = some x → ∃ v, vs[j]? = some v ∧ zeroIs x v = true
  | [], [], _, j, x, hx => by simp at hx
  | [], _ :: _, h, _, _, _ => by simp [zerosAre] at h
  | _ :: _, [], h, _, _, _ => by simp [zerosAre] at h
  | y :: xs, v :: vs, h, j, x, hx => by
    simp only [zerosAre, Bool.and_eq_true] at h
    cases j with
    | zero => simp at hx; subst hx; exact ⟨v, rfl, h.1⟩
    | succ j => simpa using zerosAre_get xs vs h.2 j x (by simpa using hx)

theorem fieldsAre_get : ∀ (fs : List (Nat × Nat)) (gs : List Field), fieldsAre L fs gs = true → ∀ (j : Nat) (o t : Nat), fs[j]? = some (o, t) →
    ∃ f, gs[j]? = some f ∧ f.offset = o ∧ f.type = t ∧ 0 < (L t).sz ∧ (L t).ty ≠ .other
  | [], [], _, j, _, _, hx => by simp at hx
  | [], _ :: _, h, _, _, _, _ => by simp [fieldsAre] at h
  | _ :: _, [], h, _, _, _, _ => by simp [fieldsAre] at h
  | (o', t') :: fs, g :: gs, h, j, o, t, hx => by
    simp only [fieldsAre, Bool.and_eq_true, beq_iff_eq, decide_eq_true_eq, bne_iff_ne] at h
    cases j with
    | zero => simp at hx; obtain ⟨rfl, rfl⟩ := hx; exact ⟨g, rfl, h.1.1.1.1, h.1.1.1.2, h.1.1.2, h.1.2⟩
    | succ j => simpa using fieldsAre_get fs gs h.2 j o t (by simpa using hx)

theorem fieldsAre_length : ∀ (fs : List (Nat × Nat)) (gs : List Field), fieldsAre L fs gs = true → fs.length = gs.length
  | [], [], _ => rfl
  | [], _ :: _, h => by simp [fieldsAre] at h
  | _ :: _, [], h => by simp [fieldsAre] at h
  | (o', t') :: fs, g :: gs, h => by
    simp only [fieldsAre, Bool.and_eq_true] at h
    simp [fieldsAre_length fs gs h.2]
end
end Go.Rad
/- The table of the types of this program that the logic uses, checked against the program. -/
namespace Go.Rad
open Go
def tbl : List TI := [
  ⟨.other, false, 0, 0, []⟩,
  ⟨.func, false, 1, 8, [.nilfn]⟩,
  ⟨.int .i64, false, 1, 8, [.int .i64 0]⟩,
  ⟨.int .i64, false, 1, 8, [.int .i64 0]⟩,
  ⟨.bool, false, 1, 1, [.bool false]⟩,
  ⟨.int .u8, false, 1, 1, [.int .u8 0]⟩,
  ⟨.int .u8, false, 1, 1, [.int .u8 0]⟩,
  ⟨.struct [(0, 2), (1, 3), (2, 4), (3, 6)], true, 4, 24, [.int .i64 0, .int .i64 0, .bool false, .int .u8 0]⟩,
  ⟨.struct [(0, 2), (1, 3), (2, 4), (3, 6)], true, 4, 24, [.int .i64 0, .int .i64 0, .bool false, .int .u8 0]⟩,
  ⟨.string, false, 1, 16, [.str ByteArray.empty]⟩,
  ⟨.string, false, 1, 16, [.str ByteArray.empty]⟩,
  ⟨.string, false, 1, 16, [.str ByteArray.empty]⟩,
  ⟨.int .u64, false, 1, 8, [.int .u64 0]⟩,
  ⟨.struct [(0, 9), (1, 12)], true, 2, 24, [.str ByteArray.empty, .int .u64 0]⟩,
  ⟨.struct [(0, 9), (1, 12)], true, 2, 24, [.str ByteArray.empty, .int .u64 0]⟩,
  ⟨.ptr, false, 1, 8, [.nil]⟩,
  ⟨.ptr, false, 1, 8, [.nil]⟩,
  ⟨.ptr, false, 1, 8, [.nil]⟩,
  ⟨.struct [(0, 17)], true, 1, 8, [.nil]⟩,
  ⟨.struct [(0, 17)], true, 1, 8, [.nil]⟩,
  ⟨.other, false, 0, 0, []⟩,
  ⟨.int .i32, false, 1, 4, [.int .i32 0]⟩,
  ⟨.slice 38, false, 1, 24, [.sl true true []]⟩,
  ⟨.func, false, 1, 8, [.nilfn]⟩,
  ⟨.func, false, 1, 8, [.nilfn]⟩,
  ⟨.func, false, 1, 8, [.nilfn]⟩,
  ⟨.slice 4, false, 1, 24, [.sl true true []]⟩,
  ⟨.slice 3, false, 1, 24, [.sl true true []]⟩,
  ⟨.func, false, 1, 8, [.nilfn]⟩,
  ⟨.func, false, 1, 8, [.nilfn]⟩,
  ⟨.func, false, 1, 8, [.nilfn]⟩,
  ⟨.func, false, 1, 8, [.nilfn]⟩,
  ⟨.func, false, 1, 8, [.nilfn]⟩,
  ⟨.func, false, 1, 8, [.nilfn]⟩,
  ⟨.int .u64, false, 1, 8, [.int .u64 0]⟩,
  ⟨.array 4 34, true, 4, 32, [.int .u64 0, .int .u64 0, .int .u64 0, .int .u64 0]⟩,
  ⟨.array 4 34, true, 4, 32, [.int .u64 0, .int .u64 0, .int .u64 0, .int .u64 0]⟩,
  ⟨.struct [(0, 5), (1, 36), (5, 27), (6, 3), (7, 3), (8, 9)], true, 9, 96, [.int .u8 0, .int .u64 0, .int .u64 0, .int .u64 0, .int .u64 0, .sl true true [], .int .i64 0, .int .i64 0, .str ByteArray.empty]⟩,
  ⟨.struct [(0, 5), (1, 36), (5, 27), (6, 3), (7, 3), (8, 9)], true, 9, 96, [.int .u8 0, .int .u64 0, .int .u64 0, .int .u64 0, .int .u64 0, .sl true true [], .int .i64 0, .int .i64 0, .str ByteArray.empty]⟩,
  ⟨.func, false, 1, 8, [.nilfn]⟩,
  ⟨.func, false, 1, 8, [.nilfn]⟩,
  ⟨.other, false, 0, 0, []⟩,
  ⟨.func, false, 1, 8, [.nilfn]⟩,
  ⟨.func, false, 1, 8, [.nilfn]⟩,
  ⟨.func, false, 1, 8, [.nilfn]⟩,
  ⟨.func, false, 1, 8, [.nilfn]⟩,
  ⟨.slice 5, false, 1, 24, [.sl true true []]⟩,
  ⟨.func, false, 1, 8, [.nilfn]⟩,
  ⟨.int .u32, false, 1, 4, [.int .u32 0]⟩,
  ⟨.func, false, 1, 8, [.nilfn]⟩,
  ⟨.int .i64, false, 1, 8, [.int .i64 0]⟩,
  ⟨.other, false, 0, 0, []⟩,
  ⟨.func, false, 1, 8, [.nilfn]⟩,
  ⟨.func, false, 1, 8, [.nilfn]⟩,
  ⟨.struct [(0, 22), (1, 9)], true, 2, 40, [.sl true true [], .str ByteArray.empty]⟩,
  ⟨.struct [(0, 22), (1, 9)], true, 2, 40, [.sl true true [], .str ByteArray.empty]⟩,
  ⟨.func, false, 1, 8, [.nilfn]⟩,
  ⟨.func, false, 1, 8, [.nilfn]⟩,
  ⟨.func, false, 1, 8, [.nilfn]⟩,
  ⟨.func, false, 1, 8, [.nilfn]⟩,
  ⟨.func, false, 1, 8, [.nilfn]⟩,
  ⟨.func, false, 1, 8, [.nilfn]⟩,
  ⟨.ptr, false, 1, 8, [.nil]⟩,
  ⟨.struct [(0, 9), (1, 3), (2, 22), (3, 3), (4, 50), (5, 3)], true, 6, 72, [.str ByteArray.empty, .int .i64 0, .sl true true [], .int .i64 0, .int .i64 0, .int .i64 0]⟩,
  ⟨.struct [(0, 9), (1, 3), (2, 22), (3, 3), (4, 50), (5, 3)], true, 6, 72, [.str ByteArray.empty, .int .i64 0, .sl true true [], .int .i64 0, .int .i64 0, .int .i64 0]⟩,
  ⟨.func, false, 1, 8, [.nilfn]⟩,
  ⟨.func, false, 1, 8, [.nilfn]⟩,
  ⟨.other, false, 0, 0, []⟩,
  ⟨.func, false, 1, 8, [.nilfn]⟩,
  ⟨.func, false, 1, 8, [.nilfn]⟩,
  ⟨.func, false, 1, 8, [.nilfn]⟩,
  ⟨.func, false, 1, 8, [.nilfn]⟩,
  ⟨.func, false, 1, 8, [.nilfn]⟩,
  ⟨.func, false, 1, 8, [.nilfn]⟩,
  ⟨.func, false, 1, 8, [.nilfn]⟩,
  ⟨.int .u64, false, 1, 8, [.int .u64 0]⟩,
  ⟨.func, false, 1, 8, [.nilfn]⟩,
  ⟨.func, false, 1, 8, [.nilfn]⟩,
  ⟨.func, false, 1, 8, [.nilfn]⟩,
  ⟨.other, false, 0, 0, []⟩,
  ⟨.func, false, 1, 8, [.nilfn]⟩,
  ⟨.func, false, 1, 8, [.nilfn]⟩,
  ⟨.func, false, 1, 8, [.nilfn]⟩,
  ⟨.slice 91, false, 1, 24, [.sl true true []]⟩,
  ⟨.func, false, 1, 8, [.nilfn]⟩,
  ⟨.ptr, false, 1, 8, [.nil]⟩,
  ⟨.map 9 22, false, 1, 8, [.nilmap]⟩,
  ⟨.map 9 4, false, 1, 8, [.nilmap]⟩,
  ⟨.struct [(0, 86), (1, 87), (2, 22)], true, 3, 40, [.nilmap, .nilmap, .sl true true []]⟩,
  ⟨.struct [(0, 86), (1, 87), (2, 22)], true, 3, 40, [.nilmap, .nilmap, .sl true true []]⟩,
  ⟨.struct [(0, 9), (1, 22)], true, 2, 40, [.str ByteArray.empty, .sl true true []]⟩,
  ⟨.struct [(0, 9), (1, 22)], true, 2, 40, [.str ByteArray.empty, .sl true true []]⟩,
  ⟨.other, false, 0, 0, []⟩,
  ⟨.func, false, 1, 8, [.nilfn]⟩,
  ⟨.func, false, 1, 8, [.nilfn]⟩,
  ⟨.func, false, 1, 8, [.nilfn]⟩,
  ⟨.func, false, 1, 8, [.nilfn]⟩,
  ⟨.func, false, 1, 8, [.nilfn]⟩,
  ⟨.func, false, 1, 8, [.nilfn]⟩,
  ⟨.func, false, 1, 8, [.nilfn]⟩,
  ⟨.slice 27, false, 1, 24, [.sl true true []]⟩,
  ⟨.func, false, 1, 8, [.nilfn]⟩,
  ⟨.func, false, 1, 8, [.nilfn]⟩,
  ⟨.func, false, 1, 8, [.nilfn]⟩,
  ⟨.func, false, 1, 8, [.nilfn]⟩,
  ⟨.other, false, 0, 0, []⟩,
  ⟨.func, false, 1, 8, [.nilfn]⟩,
  ⟨.other, false, 0, 0, []⟩,
  ⟨.func, false, 1, 8, [.nilfn]⟩,
  ⟨.int .i64, false, 1, 8, [.int .i64 0]⟩,
  ⟨.other, false, 0, 0, []⟩,
  ⟨.func, false, 1, 8, [.nilfn]⟩,
  ⟨.func, false, 1, 8, [.nilfn]⟩,
  ⟨.func, false, 1, 8, [.nilfn]⟩,
  ⟨.func, false, 1, 8, [.nilfn]⟩,
  ⟨.func, false, 1, 8, [.nilfn]⟩,
  ⟨.func, false, 1, 8, [.nilfn]⟩,
  ⟨.func, false, 1, 8, [.nilfn]⟩,
  ⟨.func, false, 1, 8, [.nilfn]⟩,
  ⟨.func, false, 1, 8, [.nilfn]⟩,
  ⟨.func, false, 1, 8, [.nilfn]⟩,
  ⟨.int .u64, false, 1, 8, [.int .u64 0]⟩,
  ⟨.func, false, 1, 8, [.nilfn]⟩,
  ⟨.func, false, 1, 8, [.nilfn]⟩,
  ⟨.func, false, 1, 8, [.nilfn]⟩,
  ⟨.ptr, false, 1, 8, [.nil]⟩,
  ⟨.func, false, 1, 8, [.nilfn]⟩,
  ⟨.slice 36, false, 1, 24, [.sl true true []]⟩,
  ⟨.func, false, 1, 8, [.nilfn]⟩,
  ⟨.func, false, 1, 8, [.nilfn]⟩,
  ⟨.func, false, 1, 8, [.nilfn]⟩,
  ⟨.ptr, false, 1, 8, [.nil]⟩,
  ⟨.func, false, 1, 8, [.nilfn]⟩,
  ⟨.struct [(0, 17), (1, 17), (2, 17), (3, 9)], true, 4, 40, [.nil, .nil, .nil, .str ByteArray.empty]⟩,
  ⟨.struct [(0, 17), (1, 17), (2, 17), (3, 9)], true, 4, 40, [.nil, .nil, .nil, .str ByteArray.empty]⟩,
  ⟨.array 0 16, true, 0, 0, []⟩,
  ⟨.other, false, 0, 0, []⟩,
  ⟨.other, false, 0, 0, []⟩,
  ⟨.int .u8, false, 1, 1, [.int .u8 0]⟩,
  ⟨.int .u8, false, 1, 1, [.int .u8 0]⟩,
  ⟨.func, false, 1, 8, [.nilfn]⟩,
  ⟨.ptr, false, 1, 8, [.nil]⟩,
  ⟨.int .i32, false, 1, 4, [.int .i32 0]⟩,
  ⟨.int .i32, false, 1, 4, [.int .i32 0]⟩,
  ⟨.struct [(0, 12), (1, 12), (2, 48), (3, 138), (4, 5), (5, 5), (6, 139), (7, 140), (8, 141), (9, 142), (10, 143)], true, 11, 48, [.int .u64 0, .int .u64 0, .int .u32 0, .int .u8 0, .int .u8 0, .int .u8 0, .int .u8 0, .nilfn, .nil, .int .i32 0, .int .i32 0]⟩,
  ⟨.struct [(0, 12), (1, 12), (2, 48), (3, 138), (4, 5), (5, 5), (6, 139), (7, 140), (8, 141), (9, 142), (10, 143)], true, 11, 48, [.int .u64 0, .int .u64 0, .int .u32 0, .int .u8 0, .int .u8 0, .int .u8 0, .int .u8 0, .nilfn, .nil, .int .i32 0, .int .i32 0]⟩,
  ⟨.other, false, 0, 0, []⟩]
def LL : Lay := layOf tbl
theorem LL_ok : LOk Go.Proofs.Try.prog LL := layOk _ _ (by kernel_rfl)
theorem mixed : Go.Proofs.Try.prog.follows .mixedOrders = true := by decide
theorem LL_1 : LL 1 = ⟨.func, false, 1, 8, [.nilfn]⟩ := Eq.trans rfl rfl
theorem LL_2 : LL 2 = ⟨.int .i64, false, 1, 8, [.int .i64 0]⟩ := Eq.trans rfl rfl
theorem LL_3 : LL 3 = ⟨.int .i64, false, 1, 8, [.int .i64 0]⟩ := Eq.trans rfl rfl
theorem LL_4 : LL 4 = ⟨.bool, false, 1, 1, [.bool false]⟩ := Eq.trans rfl rfl
theorem LL_5 : LL 5 = ⟨.int .u8, false, 1, 1, [.int .u8 0]⟩ := Eq.trans rfl rfl
theorem LL_6 : LL 6 = ⟨.int .u8, false, 1, 1, [.int .u8 0]⟩ := Eq.trans rfl rfl
theorem LL_7 : LL 7 = ⟨.struct [(0, 2), (1, 3), (2, 4), (3, 6)], true, 4, 24, [.int .i64 0, .int .i64 0, .bool false, .int .u8 0]⟩ := Eq.trans rfl rfl
theorem LL_8 : LL 8 = ⟨.struct [(0, 2), (1, 3), (2, 4), (3, 6)], true, 4, 24, [.int .i64 0, .int .i64 0, .bool false, .int .u8 0]⟩ := Eq.trans rfl rfl
theorem LL_9 : LL 9 = ⟨.string, false, 1, 16, [.str ByteArray.empty]⟩ := Eq.trans rfl rfl
theorem LL_10 : LL 10 = ⟨.string, false, 1, 16, [.str ByteArray.empty]⟩ := Eq.trans rfl rfl
theorem LL_11 : LL 11 = ⟨.string, false, 1, 16, [.str ByteArray.empty]⟩ := Eq.trans rfl rfl
theorem LL_12 : LL 12 = ⟨.int .u64, false, 1, 8, [.int .u64 0]⟩ := Eq.trans rfl rfl
theorem LL_13 : LL 13 = ⟨.struct [(0, 9), (1, 12)], true, 2, 24, [.str ByteArray.empty, .int .u64 0]⟩ := Eq.trans rfl rfl
theorem LL_14 : LL 14 = ⟨.struct [(0, 9), (1, 12)], true, 2, 24, [.str ByteArray.empty, .int .u64 0]⟩ := Eq.trans rfl rfl
theorem LL_15 : LL 15 = ⟨.ptr, false, 1, 8, [.nil]⟩ := Eq.trans rfl rfl
theorem LL_16 : LL 16 = ⟨.ptr, false, 1, 8, [.nil]⟩ := Eq.trans rfl rfl
theorem LL_17 : LL 17 = ⟨.ptr, false, 1, 8, [.nil]⟩ := Eq.trans rfl rfl
theorem LL_18 : LL 18 = ⟨.struct [(0, 17)], true, 1, 8, [.nil]⟩ := Eq.trans rfl rfl
theorem LL_19 : LL 19 = ⟨.struct [(0, 17)], true, 1, 8, [.nil]⟩ := Eq.trans rfl rfl
theorem LL_21 : LL 21 = ⟨.int .i32, false, 1, 4, [.int .i32 0]⟩ := Eq.trans rfl rfl
theorem LL_22 : LL 22 = ⟨.slice 38, false, 1, 24, [.sl true true []]⟩ := Eq.trans rfl rfl
theorem LL_23 : LL 23 = ⟨.func, false, 1, 8, [.nilfn]⟩ := Eq.trans rfl rfl
theorem LL_24 : LL 24 = ⟨.func, false, 1, 8, [.nilfn]⟩ := Eq.trans rfl rfl
theorem LL_25 : LL 25 = ⟨.func, false, 1, 8, [.nilfn]⟩ := Eq.trans rfl rfl
theorem LL_26 : LL 26 = ⟨.slice 4, false, 1, 24, [.sl true true []]⟩ := Eq.trans rfl rfl
theorem LL_27 : LL 27 = ⟨.slice 3, false, 1, 24, [.sl true true []]⟩ := Eq.trans rfl rfl
theorem LL_28 : LL 28 = ⟨.func, false, 1, 8, [.nilfn]⟩ := Eq.trans rfl rfl
theorem LL_29 : LL 29 = ⟨.func, false, 1, 8, [.nilfn]⟩ := Eq.trans rfl rfl
theorem LL_30 : LL 30 = ⟨.func, false, 1, 8, [.nilfn]⟩ := Eq.trans rfl rfl
theorem LL_31 : LL 31 = ⟨.func, false, 1, 8, [.nilfn]⟩ := Eq.trans rfl rfl
theorem LL_32 : LL 32 = ⟨.func, false, 1, 8, [.nilfn]⟩ := Eq.trans rfl rfl
theorem LL_33 : LL 33 = ⟨.func, false, 1, 8, [.nilfn]⟩ := Eq.trans rfl rfl
theorem LL_34 : LL 34 = ⟨.int .u64, false, 1, 8, [.int .u64 0]⟩ := Eq.trans rfl rfl
theorem LL_35 : LL 35 = ⟨.array 4 34, true, 4, 32, [.int .u64 0, .int .u64 0, .int .u64 0, .int .u64 0]⟩ := Eq.trans rfl rfl
theorem LL_36 : LL 36 = ⟨.array 4 34, true, 4, 32, [.int .u64 0, .int .u64 0, .int .u64 0, .int .u64 0]⟩ := Eq.trans rfl rfl
theorem LL_37 : LL 37 = ⟨.struct [(0, 5), (1, 36), (5, 27), (6, 3), (7, 3), (8, 9)], true, 9, 96, [.int .u8 0, .int .u64 0, .int .u64 0, .int .u64 0, .int .u64 0, .sl true true [], .int .i64 0, .int .i64 0, .str ByteArray.empty]⟩ := Eq.trans rfl rfl
theorem LL_38 : LL 38 = ⟨.struct [(0, 5), (1, 36), (5, 27), (6, 3), (7, 3), (8, 9)], true, 9, 96, [.int .u8 0, .int .u64 0, .int .u64 0, .int .u64 0, .int .u64 0, .sl true true [], .int .i64 0, .int .i64 0, .str ByteArray.empty]⟩ := Eq.trans rfl rfl
theorem LL_39 : LL 39 = ⟨.func, false, 1, 8, [.nilfn]⟩ := Eq.trans rfl rfl
theorem LL_40 : LL 40 = ⟨.func, false, 1, 8, [.nilfn]⟩ := Eq.trans rfl rfl
theorem LL_42 : LL 42 = ⟨.func, false, 1, 8, [.nilfn]⟩ := Eq.trans rfl rfl
theorem LL_43 : LL 43 = ⟨.func, false, 1, 8, [.nilfn]⟩ := Eq.trans rfl rfl
theorem LL_44 : LL 44 = ⟨.func, false, 1, 8, [.nilfn]⟩ := Eq.trans rfl rfl
theorem LL_45 : LL 45 = ⟨.func, false, 1, 8, [.nilfn]⟩ := Eq.trans rfl rfl
theorem LL_46 : LL 46 = ⟨.slice 5, false, 1, 24, [.sl true true []]⟩ := Eq.trans rfl rfl
theorem LL_47 : LL 47 = ⟨.func, false, 1, 8, [.nilfn]⟩ := Eq.trans rfl rfl
theorem LL_48 : LL 48 = ⟨.int .u32, false, 1, 4, [.int .u32 0]⟩ := Eq.trans rfl rfl
theorem LL_49 : LL 49 = ⟨.func, false, 1, 8, [.nilfn]⟩ := Eq.trans rfl rfl
theorem LL_50 : LL 50 = ⟨.int .i64, false, 1, 8, [.int .i64 0]⟩ := Eq.trans rfl rfl
theorem LL_52 : LL 52 = ⟨.func, false, 1, 8, [.nilfn]⟩ := Eq.trans rfl rfl
theorem LL_53 : LL 53 = ⟨.func, false, 1, 8, [.nilfn]⟩ := Eq.trans rfl rfl
theorem LL_54 : LL 54 = ⟨.struct [(0, 22), (1, 9)], true, 2, 40, [.sl true true [], .str ByteArray.empty]⟩ := Eq.trans rfl rfl
theorem LL_55 : LL 55 = ⟨.struct [(0, 22), (1, 9)], true, 2, 40, [.sl true true [], .str ByteArray.empty]⟩ := Eq.trans rfl rfl
theorem LL_56 : LL 56 = ⟨.func, false, 1, 8, [.nilfn]⟩ := Eq.trans rfl rfl
theorem LL_57 : LL 57 = ⟨.func, false, 1, 8, [.nilfn]⟩ := Eq.trans rfl rfl
theorem LL_58 : LL 58 = ⟨.func, false, 1, 8, [.nilfn]⟩ := Eq.trans rfl rfl
theorem LL_59 : LL 59 = ⟨.func, false, 1, 8, [.nilfn]⟩ := Eq.trans rfl rfl
theorem LL_60 : LL 60 = ⟨.func, false, 1, 8, [.nilfn]⟩ := Eq.trans rfl rfl
theorem LL_61 : LL 61 = ⟨.func, false, 1, 8, [.nilfn]⟩ := Eq.trans rfl rfl
theorem LL_62 : LL 62 = ⟨.ptr, false, 1, 8, [.nil]⟩ := Eq.trans rfl rfl
theorem LL_63 : LL 63 = ⟨.struct [(0, 9), (1, 3), (2, 22), (3, 3), (4, 50), (5, 3)], true, 6, 72, [.str ByteArray.empty, .int .i64 0, .sl true true [], .int .i64 0, .int .i64 0, .int .i64 0]⟩ := Eq.trans rfl rfl
theorem LL_64 : LL 64 = ⟨.struct [(0, 9), (1, 3), (2, 22), (3, 3), (4, 50), (5, 3)], true, 6, 72, [.str ByteArray.empty, .int .i64 0, .sl true true [], .int .i64 0, .int .i64 0, .int .i64 0]⟩ := Eq.trans rfl rfl
theorem LL_65 : LL 65 = ⟨.func, false, 1, 8, [.nilfn]⟩ := Eq.trans rfl rfl
theorem LL_66 : LL 66 = ⟨.func, false, 1, 8, [.nilfn]⟩ := Eq.trans rfl rfl
theorem LL_68 : LL 68 = ⟨.func, false, 1, 8, [.nilfn]⟩ := Eq.trans rfl rfl
theorem LL_69 : LL 69 = ⟨.func, false, 1, 8, [.nilfn]⟩ := Eq.trans rfl rfl
theorem LL_70 : LL 70 = ⟨.func, false, 1, 8, [.nilfn]⟩ := Eq.trans rfl rfl
theorem LL_71 : LL 71 = ⟨.func, false, 1, 8, [.nilfn]⟩ := Eq.trans rfl rfl
theorem LL_72 : LL 72 = ⟨.func, false, 1, 8, [.nilfn]⟩ := Eq.trans rfl rfl
theorem LL_73 : LL 73 = ⟨.func, false, 1, 8, [.nilfn]⟩ := Eq.trans rfl rfl
theorem LL_74 : LL 74 = ⟨.func, false, 1, 8, [.nilfn]⟩ := Eq.trans rfl rfl
theorem LL_75 : LL 75 = ⟨.int .u64, false, 1, 8, [.int .u64 0]⟩ := Eq.trans rfl rfl
theorem LL_76 : LL 76 = ⟨.func, false, 1, 8, [.nilfn]⟩ := Eq.trans rfl rfl
theorem LL_77 : LL 77 = ⟨.func, false, 1, 8, [.nilfn]⟩ := Eq.trans rfl rfl
theorem LL_78 : LL 78 = ⟨.func, false, 1, 8, [.nilfn]⟩ := Eq.trans rfl rfl
theorem LL_80 : LL 80 = ⟨.func, false, 1, 8, [.nilfn]⟩ := Eq.trans rfl rfl
theorem LL_81 : LL 81 = ⟨.func, false, 1, 8, [.nilfn]⟩ := Eq.trans rfl rfl
theorem LL_82 : LL 82 = ⟨.func, false, 1, 8, [.nilfn]⟩ := Eq.trans rfl rfl
theorem LL_83 : LL 83 = ⟨.slice 91, false, 1, 24, [.sl true true []]⟩ := Eq.trans rfl rfl
theorem LL_84 : LL 84 = ⟨.func, false, 1, 8, [.nilfn]⟩ := Eq.trans rfl rfl
theorem LL_85 : LL 85 = ⟨.ptr, false, 1, 8, [.nil]⟩ := Eq.trans rfl rfl
theorem LL_86 : LL 86 = ⟨.map 9 22, false, 1, 8, [.nilmap]⟩ := Eq.trans rfl rfl
theorem LL_87 : LL 87 = ⟨.map 9 4, false, 1, 8, [.nilmap]⟩ := Eq.trans rfl rfl
theorem LL_88 : LL 88 = ⟨.struct [(0, 86), (1, 87), (2, 22)], true, 3, 40, [.nilmap, .nilmap, .sl true true []]⟩ := Eq.trans rfl rfl
theorem LL_89 : LL 89 = ⟨.struct [(0, 86), (1, 87), (2, 22)], true, 3, 40, [.nilmap, .nilmap, .sl true true []]⟩ := Eq.trans rfl rfl
theorem LL_90 : LL 90 = ⟨.struct [(0, 9), (1, 22)], true, 2, 40, [.str ByteArray.empty, .sl true true []]⟩ := Eq.trans rfl rfl
theorem LL_91 : LL 91 = ⟨.struct [(0, 9), (1, 22)], true, 2, 40, [.str ByteArray.empty, .sl true true []]⟩ := Eq.trans rfl rfl
theorem LL_93 : LL 93 = ⟨.func, false, 1, 8, [.nilfn]⟩ := Eq.trans rfl rfl
theorem LL_94 : LL 94 = ⟨.func, false, 1, 8, [.nilfn]⟩ := Eq.trans rfl rfl
theorem LL_95 : LL 95 = ⟨.func, false, 1, 8, [.nilfn]⟩ := Eq.trans rfl rfl
theorem LL_96 : LL 96 = ⟨.func, false, 1, 8, [.nilfn]⟩ := Eq.trans rfl rfl
theorem LL_97 : LL 97 = ⟨.func, false, 1, 8, [.nilfn]⟩ := Eq.trans rfl rfl
theorem LL_98 : LL 98 = ⟨.func, false, 1, 8, [.nilfn]⟩ := Eq.trans rfl rfl
theorem LL_99 : LL 99 = ⟨.func, false, 1, 8, [.nilfn]⟩ := Eq.trans rfl rfl
theorem LL_100 : LL 100 = ⟨.slice 27, false, 1, 24, [.sl true true []]⟩ := Eq.trans rfl rfl
theorem LL_101 : LL 101 = ⟨.func, false, 1, 8, [.nilfn]⟩ := Eq.trans rfl rfl
theorem LL_102 : LL 102 = ⟨.func, false, 1, 8, [.nilfn]⟩ := Eq.trans rfl rfl
theorem LL_103 : LL 103 = ⟨.func, false, 1, 8, [.nilfn]⟩ := Eq.trans rfl rfl
theorem LL_104 : LL 104 = ⟨.func, false, 1, 8, [.nilfn]⟩ := Eq.trans rfl rfl
theorem LL_106 : LL 106 = ⟨.func, false, 1, 8, [.nilfn]⟩ := Eq.trans rfl rfl
theorem LL_108 : LL 108 = ⟨.func, false, 1, 8, [.nilfn]⟩ := Eq.trans rfl rfl
theorem LL_109 : LL 109 = ⟨.int .i64, false, 1, 8, [.int .i64 0]⟩ := Eq.trans rfl rfl
theorem LL_111 : LL 111 = ⟨.func, false, 1, 8, [.nilfn]⟩ := Eq.trans rfl rfl
theorem LL_112 : LL 112 = ⟨.func, false, 1, 8, [.nilfn]⟩ := Eq.trans rfl rfl
theorem LL_113 : LL 113 = ⟨.func, false, 1, 8, [.nilfn]⟩ := Eq.trans rfl rfl
theorem LL_114 : LL 114 = ⟨.func, false, 1, 8, [.nilfn]⟩ := Eq.trans rfl rfl
theorem LL_115 : LL 115 = ⟨.func, false, 1, 8, [.nilfn]⟩ := Eq.trans rfl rfl
theorem LL_116 : LL 116 = ⟨.func, false, 1, 8, [.nilfn]⟩ := Eq.trans rfl rfl
theorem LL_117 : LL 117 = ⟨.func, false, 1, 8, [.nilfn]⟩ := Eq.trans rfl rfl
theorem LL_118 : LL 118 = ⟨.func, false, 1, 8, [.nilfn]⟩ := Eq.trans rfl rfl
theorem LL_119 : LL 119 = ⟨.func, false, 1, 8, [.nilfn]⟩ := Eq.trans rfl rfl
theorem LL_120 : LL 120 = ⟨.func, false, 1, 8, [.nilfn]⟩ := Eq.trans rfl rfl
theorem LL_121 : LL 121 = ⟨.int .u64, false, 1, 8, [.int .u64 0]⟩ := Eq.trans rfl rfl
theorem LL_122 : LL 122 = ⟨.func, false, 1, 8, [.nilfn]⟩ := Eq.trans rfl rfl
theorem LL_123 : LL 123 = ⟨.func, false, 1, 8, [.nilfn]⟩ := Eq.trans rfl rfl
theorem LL_124 : LL 124 = ⟨.func, false, 1, 8, [.nilfn]⟩ := Eq.trans rfl rfl
theorem LL_125 : LL 125 = ⟨.ptr, false, 1, 8, [.nil]⟩ := Eq.trans rfl rfl
theorem LL_126 : LL 126 = ⟨.func, false, 1, 8, [.nilfn]⟩ := Eq.trans rfl rfl
theorem LL_127 : LL 127 = ⟨.slice 36, false, 1, 24, [.sl true true []]⟩ := Eq.trans rfl rfl
theorem LL_128 : LL 128 = ⟨.func, false, 1, 8, [.nilfn]⟩ := Eq.trans rfl rfl
theorem LL_129 : LL 129 = ⟨.func, false, 1, 8, [.nilfn]⟩ := Eq.trans rfl rfl
theorem LL_130 : LL 130 = ⟨.func, false, 1, 8, [.nilfn]⟩ := Eq.trans rfl rfl
theorem LL_131 : LL 131 = ⟨.ptr, false, 1, 8, [.nil]⟩ := Eq.trans rfl rfl
theorem LL_132 : LL 132 = ⟨.func, false, 1, 8, [.nilfn]⟩ := Eq.trans rfl rfl
theorem LL_133 : LL 133 = ⟨.struct [(0, 17), (1, 17), (2, 17), (3, 9)], true, 4, 40, [.nil, .nil, .nil, .str ByteArray.empty]⟩ := Eq.trans rfl rfl
theorem LL_134 : LL 134 = ⟨.struct [(0, 17), (1, 17), (2, 17), (3, 9)], true, 4, 40, [.nil, .nil, .nil, .str ByteArray.empty]⟩ := Eq.trans rfl rfl
theorem LL_135 : LL 135 = ⟨.array 0 16, true, 0, 0, []⟩ := Eq.trans rfl rfl
theorem LL_138 : LL 138 = ⟨.int .u8, false, 1, 1, [.int .u8 0]⟩ := Eq.trans rfl rfl
theorem LL_139 : LL 139 = ⟨.int .u8, false, 1, 1, [.int .u8 0]⟩ := Eq.trans rfl rfl
theorem LL_140 : LL 140 = ⟨.func, false, 1, 8, [.nilfn]⟩ := Eq.trans rfl rfl
theorem LL_141 : LL 141 = ⟨.ptr, false, 1, 8, [.nil]⟩ := Eq.trans rfl rfl
theorem LL_142 : LL 142 = ⟨.int .i32, false, 1, 4, [.int .i32 0]⟩ := Eq.trans rfl rfl
theorem LL_143 : LL 143 = ⟨.int .i32, false, 1, 4, [.int .i32 0]⟩ := Eq.trans rfl rfl
theorem LL_144 : LL 144 = ⟨.struct [(0, 12), (1, 12), (2, 48), (3, 138), (4, 5), (5, 5), (6, 139), (7, 140), (8, 141), (9, 142), (10, 143)], true, 11, 48, [.int .u64 0, .int .u64 0, .int .u32 0, .int .u8 0, .int .u8 0, .int .u8 0, .int .u8 0, .nilfn, .nil, .int .i32 0, .int .i32 0]⟩ := Eq.trans rfl rfl
theorem LL_145 : LL 145 = ⟨.struct [(0, 12), (1, 12), (2, 48), (3, 138), (4, 5), (5, 5), (6, 139), (7, 140), (8, 141), (9, 142), (10, 143)], true, 11, 48, [.int .u64 0, .int .u64 0, .int .u32 0, .int .u8 0, .int .u8 0, .int .u8 0, .int .u8 0, .nilfn, .nil, .int .i32 0, .int .i32 0]⟩ := Eq.trans rfl rfl
end Go.Rad
/- How own things stand when memory grows or is written. -/
namespace Go.Rad
open Go

def newG (G : Gh) (id : Nat) (hd : Hd) : Gh := { G with M := fun i g => if i = id ∧ g = G.N then some hd else G.M i g, N := G.N + 1 }

theorem Kept.alloc (w : World) (c : Array Value) (e : TypeId) : Kept w (w.alloc (.cells c e)) := ⟨rfl, rfl⟩
theorem Kept.allocMap (w : World) (me : Array MapEntry) (cl : Nat) : Kept w (w.alloc (.map me cl)) := ⟨rfl, rfl⟩
theorem Kept.setRow (w : World) (b : Nat) (cs : Array Value) : Kept w (w.setRow b cs) := ⟨rfl, rfl⟩
theorem Kept.draw (w : World) (n : Nat) : Kept w { w with drawn := n } := ⟨rfl, rfl⟩
theorem Kept.drew (w : World) : Kept w w.drew := ⟨rfl, rfl⟩
theorem Kept.setMap (w : World) (b : Nat) (me : Array MapEntry) (cl : Nat) : Kept w { w with heap := w.heap.setIfInBounds b (.map me cl) } := ⟨rfl, rfl⟩

theorem newG_M (G : Gh) (id : Nat) (hd : Hd) : (newG G id hd).M id G.N = some hd := by simp [newG]

theorem newG_ext {G : Gh} {w : World} (hw : WOk G w) (id : Nat) (hd : Hd) : Ext G (newG G id hd) where
  F _ _ h := h
  S _ h := h
  S' _ h := .inl h
  L _ := Iff.rfl
  M i g h x := by
    simp only [newG]
    by_cases e : i = id ∧ g = G.N
    · rw [e.1, e.2, hw.N id G.N (Nat.le_refl _)] at x; cases x
    · rw [if_neg e]; exact x
  N := Nat.le_succ _
  W0 := rfl

theorem RowAt.old {w w' : World} {b : Nat} {c : Array Value} {e : TypeId} (h : w'.heap[b]? = w.heap[b]?) (ha : RowAt w b c e) : RowAt w' b c e := by
  obtain ⟨fr, h1, h2⟩ := ha
  exact ⟨fr, h.trans h1, h2⟩
theorem RowAt.zero {w : World} {b : Nat} {c : Array Value} {e : TypeId} (h : w.heap[b]? = some (.cells c e (0, 0))) : RowAt w b c e := ⟨_, h, .inl rfl⟩
theorem ObjOk.mono {G G' : Gh} {w w' : World} {id g : Nat} {o : AObj} (hm : Mono G G') (hF : ∀ b, blkOf G id g = some b → G'.F b = none)
    (hb : ∀ b, blkOf G id g = some b → w'.heap[b]? = w.heap[b]?) (h : ObjOk G w id g o) : ObjOk G' w' id g o := by
  cases o with
  | row esz l =>
    obtain ⟨ob, cap, h1, h2, h3, h4, h5, h6, h7, h8⟩ := h
    refine ⟨ob, cap, hm.M _ _ _ h1, h2, h3, h4, h5, h6, h7, fun b hob => ?_⟩
    obtain ⟨a1, a2, c, e, a3, a4, a5⟩ := h8 b hob
    have hbk : blkOf G id g = some b := by simp [blkOf, h1, hob]
    exact ⟨hF b hbk, a2, c, e, a3.old (hb b hbk), a4, fun i j x y hx hy => (a5 i j x y hx hy).mono hm⟩
  | box cs =>
    obtain ⟨b, cap, esz, h1, _, c, e, h3, h4, h5, h6⟩ := h
    have hbk : blkOf G id g = some b := by simp [blkOf, h1]
    exact ⟨b, cap, esz, hm.M _ _ _ h1, hF b hbk, c, e, (hb b hbk).trans h3, h4, h5, fun j x hx => (h6 j x hx).mono hm⟩
  | mp es =>
    obtain ⟨b, cap, esz, h1, _, me, cl, h3, h4, h4', h5⟩ := h
    have hbk : blkOf G id g = some b := by simp [blkOf, h1]
    refine ⟨b, cap, esz, hm.M _ _ _ h1, hF b hbk, me, cl, (hb b hbk).trans h3, h4, h4', fun j x hx => ?_⟩
    obtain ⟨m, a1, a2, a3, a4⟩ := h5 j x hx
    exact ⟨m, a1, a2, a3, a4.mono hm⟩
  | mpi es =>
    obtain ⟨b, cap, esz, h1, _, me, cl, h3, h4, h4', h5⟩ := h
    have hbk : blkOf G id g = some b := by simp [blkOf, h1]
    refine ⟨b, cap, esz, hm.M _ _ _ h1, hF b hbk, me, cl, (hb b hbk).trans h3, h4, h4', fun j x hx => ?_⟩
    obtain ⟨m, a1, a2, a3, a4⟩ := h5 j x hx
    exact ⟨m, a1, a2, a3, a4.mono hm⟩

theorem ObjOk.blk {G : Gh} {w : World} {id g : Nat} {o : AObj} (h : ObjOk G w id g o) (hw : WOk G w) (b : Nat) (hb : blkOf G id g = some b) :
    G.F b = none ∧ b < w.heap.size := by
  have hlt : b < w.heap.size := by
    unfold blkOf at hb
    cases hM : G.M id g with
    | none => rw [hM] at hb; cases hb
    | some hd => rw [hM] at hb; exact hw.M _ _ _ _ hM hb
  refine ⟨?_, hlt⟩
  cases o with
  | row esz l =>
    obtain ⟨ob, cap, h1, _, _, _, _, _, _, h8⟩ := h
    exact (h8 b (by simpa [blkOf, h1] using hb)).1
  | box cs =>
    obtain ⟨b', cap, esz, h1, h2, _⟩ := h
    have : b' = b := by simpa [blkOf, h1] using hb
    exact this ▸ h2
  | mp es =>
    obtain ⟨b', cap, esz, h1, h2, _⟩ := h
    have : b' = b := by simpa [blkOf, h1] using hb
    exact this ▸ h2
  | mpi es =>
    obtain ⟨b', cap, esz, h1, h2, _⟩ := h
    have : b' = b := by simpa [blkOf, h1] using hb
    exact this ▸ h2

theorem ObjOk.M {G : Gh} {w : World} {id g : Nat} {o : AObj} (h : ObjOk G w id g o) : ∃ hd, G.M id g = some hd := by
  cases o with
  | row esz l => obtain ⟨ob, cap, h1, _⟩ := h; exact ⟨_, h1⟩
  | box cs => obtain ⟨b', cap, esz, h1, h2, _⟩ := h; exact ⟨_, h1⟩
  | mp es => obtain ⟨b', cap, esz, h1, h2, _⟩ := h; exact ⟨_, h1⟩
  | mpi es => obtain ⟨b', cap, esz, h1, h2, _⟩ := h; exact ⟨_, h1⟩

/-- The block of what stands under an id now. -/
def oldBlk (G : Gh) (sto : Sto) (id : Nat) : Option Nat := (sget sto id).bind fun x => blkOf G id x.1

theorem sto_put {G : Gh} {w w' : World} {sto : Sto} {id : Nat} {o : AObj} {hd : Hd} (hk : Kept w w') (hw : WOk G w) (hs : StoOk G w sto)
    (hsize : w.heap.size ≤ w'.heap.size)
    (hb : ∀ b, b < w.heap.size → oldBlk G sto id ≠ some b → w'.heap[b]? = w.heap[b]?)
    (hnew : ∀ b, hd.blk = some b → b < w'.heap.size ∧ (w.heap.size ≤ b ∨ oldBlk G sto id = some b))
    (ho : ObjOk (newG G id hd) w' id G.N o) :
    Ext G (newG G id hd) ∧ WOk (newG G id hd) w' ∧ StoOk (newG G id hd) w' (sput sto id (G.N, o)) := by
  have hext := newG_ext hw id hd
  have hlive : ∀ i g o, sget sto i = some (g, o) → i ≠ id → ∀ b, blkOf G i g = some b → oldBlk G sto id ≠ some b := by
    intro i g o hi hne b hbk he
    unfold oldBlk at he
    cases hx : sget sto id with
    | none => rw [hx] at he; cases he
    | some x =>
      rw [hx] at he
      exact hs.apart i id g x.1 o x.2 hi hx hne b hbk he
  have hblk : ∀ i g o, sget sto i = some (g, o) → blkOf (newG G id hd) i g = blkOf G i g := by
    intro i g o hi
    obtain ⟨h0, hM⟩ := (hs.obj i g o hi).M
    simp only [blkOf, hM, hext.M i g h0 hM]
  refine ⟨hext, ⟨hw.K.trans hk, ?_, ?_, ?_, fun g l h => (hw.T g l h).mono hext.toMono⟩, ⟨?_, ?_⟩⟩
  · intro b x hx
    have hold := hw.F b x hx
    have hlt : b < w.heap.size := (Array.getElem?_eq_some_iff.1 hold).1
    rw [hb b hlt ?_]
    · exact hold
    · intro he
      unfold oldBlk at he
      cases hx' : sget sto id with
      | none => rw [hx'] at he; cases he
      | some y =>
        rw [hx'] at he
        have := ((hs.obj id y.1 y.2 hx').blk hw b he).1
        have hx2 : G.F b = some x := hx
        rw [this] at hx2; cases hx2
  · intro i g h b hM hbk
    simp only [newG] at hM
    split at hM
    · cases hM; exact (hnew b hbk).1
    · exact Nat.lt_of_lt_of_le (hw.M _ _ _ _ hM hbk) hsize
  · intro i g hg
    have hg' : G.N + 1 ≤ g := hg
    simp only [newG]
    rw [if_neg (by omega)]
    exact hw.N i g (by omega)
  · intro i g x hx
    rw [sget_sput] at hx
    by_cases he : id = i
    · subst he
      rw [if_pos rfl] at hx
      simp only [Option.some.injEq, Prod.mk.injEq] at hx
      obtain ⟨rfl, rfl⟩ := hx
      exact ho
    · rw [if_neg he] at hx
      have hob := hs.obj i g x hx
      refine hob.mono hext.toMono (fun b hbk => (hob.blk hw b hbk).1) (fun b hbk => ?_)
      exact hb b (hob.blk hw b hbk).2 (hlive i g x hx (Ne.symm he) b hbk)
  · intro i i' g g' x x' hx hx' hne b hbk
    rw [sget_sput] at hx hx'
    by_cases he : id = i
    · subst he
      rw [if_pos rfl] at hx
      simp only [Option.some.injEq, Prod.mk.injEq] at hx
      obtain ⟨rfl, rfl⟩ := hx
      rw [if_neg hne] at hx'
      rw [hblk _ _ _ hx']
      intro hbk'
      have h1 : hd.blk = some b := by simpa [blkOf, newG_M] using hbk
      have h2 := (hs.obj _ _ _ hx').blk hw b hbk'
      rcases (hnew b h1).2 with h3 | h3
      · omega
      · exact hlive i' g' x' hx' (Ne.symm hne) b hbk' h3
    · rw [if_neg he] at hx
      rw [hblk _ _ _ hx] at hbk
      by_cases he' : id = i'
      · subst he'
        rw [if_pos rfl] at hx'
        simp only [Option.some.injEq, Prod.mk.injEq] at hx'
        obtain ⟨rfl, rfl⟩ := hx'
        intro hbk'
        have h1 : hd.blk = some b := by simpa [blkOf, newG_M] using hbk'
        have h2 := (hs.obj _ _ _ hx).blk hw b hbk
        rcases (hnew b h1).2 with h3 | h3
        · omega
        · exact hlive i g x hx hne b hbk h3
      · rw [if_neg he'] at hx'
        rw [hblk _ _ _ hx']
        exact hs.apart i i' g g' x x' hx hx' hne b hbk

/-- A write into the block of an own thing. -/
theorem sto_write {G : Gh} {w w' : World} {sto : Sto} {id g : Nat} {o o' : AObj} (hk : Kept w w') (hw : WOk G w) (hs : StoOk G w sto) (hget : sget sto id = some (g, o))
    (hsize : w.heap.size ≤ w'.heap.size) (hb : ∀ b, b < w.heap.size → blkOf G id g ≠ some b → w'.heap[b]? = w.heap[b]?) (ho : ObjOk G w' id g o') :
    WOk G w' ∧ StoOk G w' (sput sto id (g, o')) := by
  have hob := hs.obj id g o hget
  have hother : ∀ i g' x, sget sto i = some (g', x) → id ≠ i → ∀ b, blkOf G i g' = some b → w'.heap[b]? = w.heap[b]? := by
    intro i g' x hx hne b hbk
    refine hb b ((hs.obj i g' x hx).blk hw b hbk).2 ?_
    intro he
    exact hs.apart id i g g' o x hget hx hne b he hbk
  refine ⟨⟨hw.K.trans hk, ?_, ?_, hw.N, hw.T⟩, ⟨?_, ?_⟩⟩
  · intro b x hx
    have hold := hw.F b x hx
    rw [hb b (Array.getElem?_eq_some_iff.1 hold).1]
    · exact hold
    · intro he; rw [(hob.blk hw b he).1] at hx; cases hx
  · exact fun i g h b hM hbk => Nat.lt_of_lt_of_le (hw.M _ _ _ _ hM hbk) hsize
  · intro i g' x hx
    rw [sget_sput] at hx
    by_cases he : id = i
    · subst he
      rw [if_pos rfl] at hx
      simp only [Option.some.injEq, Prod.mk.injEq] at hx
      obtain ⟨rfl, rfl⟩ := hx
      exact ho
    · rw [if_neg he] at hx
      exact (hs.obj i g' x hx).mono (Ext.refl G).toMono (fun b hbk => ((hs.obj i g' x hx).blk hw b hbk).1) (hother i g' x hx he)
  · intro i i' g1 g2 x x' hx hx' hne b hbk
    rw [sget_sput] at hx hx'
    have h1 : ∃ y, sget sto i = some (g1, y) := by
      by_cases he : id = i
      · subst he; rw [if_pos rfl] at hx; simp only [Option.some.injEq, Prod.mk.injEq] at hx; exact ⟨o, by rw [← hx.1]; exact hget⟩
      · rw [if_neg he] at hx; exact ⟨x, hx⟩
    have h2 : ∃ y, sget sto i' = some (g2, y) := by
      by_cases he : id = i'
      · subst he; rw [if_pos rfl] at hx'; simp only [Option.some.injEq, Prod.mk.injEq] at hx'; exact ⟨o, by rw [← hx'.1]; exact hget⟩
      · rw [if_neg he] at hx'; exact ⟨x', hx'⟩
    obtain ⟨y, h1⟩ := h1
    obtain ⟨y', h2⟩ := h2
    exact hs.apart i i' g1 g2 y y' h1 h2 hne b hbk

/-- The same memory but for blocks that are none of ours (a draw, a block more). -/
theorem world_grown {G : Gh} {w w' : World} {sto : Sto} (hk : Kept w w') (hw : WOk G w) (hs : StoOk G w sto) (hsize : w.heap.size ≤ w'.heap.size)
    (hb : ∀ b, b < w.heap.size → w'.heap[b]? = w.heap[b]?) : WOk G w' ∧ StoOk G w' sto := by
  refine ⟨⟨hw.K.trans hk, fun b x hx => ?_, fun i g h b hM hbk => Nat.lt_of_lt_of_le (hw.M _ _ _ _ hM hbk) hsize, hw.N, hw.T⟩, ⟨fun id g o h => ?_, hs.apart⟩⟩
  · have hold := hw.F b x hx
    rw [hb b (Array.getElem?_eq_some_iff.1 hold).1]; exact hold
  · have hob := hs.obj id g o h
    exact hob.mono (Ext.refl G).toMono (fun b hbk => (hob.blk hw b hbk).1) (fun b hbk => hb b (hob.blk hw b hbk).2)

theorem sto_del {G : Gh} {w : World} {sto : Sto} (hs : StoOk G w sto) (id : Nat) : StoOk G w (sdel sto id) := by
  refine ⟨fun i g o h => ?_, fun i i' g g' o o' h h' => ?_⟩
  · rw [sget_sdel] at h
    split at h
    · cases h
    · exact hs.obj i g o h
  · rw [sget_sdel] at h h'
    split at h
    · cases h
    · split at h'
      · cases h'
      · exact hs.apart i i' g g' o o' h h'

theorem TmOk.mono {G G' : Gh} {tm : Tm} {a : Array Value} (h : TmOk G tm a) (hm : Mono G G') : TmOk G' tm a := fun t => (h t).mono hm

theorem TmOk.put {G : Gh} {tm : Tm} {a : Array Value} (h : TmOk G tm a) {d : Nat} {r : AVal} {v : Value} (hd : d < a.size) (hr : Rep G true r v) :
    TmOk G ((d, r) :: tm) (a.setIfInBounds d v) := by
  intro t
  simp only [lk]
  by_cases e : d = t
  · subst e
    rw [if_pos rfl]
    have : (a.setIfInBounds d v).getD d undef = v := by simp [Array.getD, hd]
    rw [this]; exact hr
  · rw [if_neg e]
    have : (a.setIfInBounds d v).getD t undef = a.getD t undef := by
      simp only [Array.getD_eq_getD_getElem?]
      rw [Array.getElem?_setIfInBounds_ne e]
    rw [this]; exact h t
end Go.Rad
