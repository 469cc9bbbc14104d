/- Values of the abstract logic, what they stand for in the machine's memory, and how that carries over. -/
import Derived.Tactics
import Derived.Test.YtejdlelhlpnabaaDoorKRGlob
import Derived.Laws.AppendOwn
import Derived.KernelRfl
set_option linter.all false
namespace Go.Rad
open Go

/-- Values by content; 'loc', 'bx', 'osl', 'map' point into the small store of own things. -/
inductive AVal : Type where
  | bool (b : Bool)
  | int (k : IntKind) (n : Int)
  | str (s : ByteArray)
  | nil
  | ref (q : Bool) (cs : List AVal)
  | sl (q full : Bool) (l : List (List AVal))
  | fn (f : Nat) (cap : List AVal)
  | nilfn
  | nilmap
  | agg (cs : List AVal)
  | tup (vs : List AVal)
  | loc (id g i off : Nat)
  | bx (id g off : Nat)
  | osl (id g off len : Nat)
  | map (id g : Nat)
  | opt (c : Bool) (v : AVal)
  | undef
  deriving Inhabited

inductive AObj : Type where
  | row (esz : Nat) (l : List (List AVal))
  | box (cs : List AVal)
  | mp (es : List (ByteArray × AVal))
  deriving Inhabited

abbrev Tm := List (Nat × AVal)
abbrev Sto := List (Nat × Nat × AObj)

def lk : Tm → Nat → AVal
  | [], _ => .undef
  | (m, v) :: tm, n => if m = n then v else lk tm n

def put (d : Option Nat) (v : AVal) (tm : Tm) : Tm :=
  match d with
  | some d => (d, v) :: tm
  | none => tm

def sget : Sto → Nat → Option (Nat × AObj)
  | [], _ => none
  | (m, v) :: s, n => if m = n then some v else sget s n

def sput : Sto → Nat → (Nat × AObj) → Sto
  | [], id, v => [(id, v)]
  | (i, x) :: s, id, v => if i = id then (id, v) :: s else if id < i then (id, v) :: (i, x) :: s else (i, x) :: sput s id v

def sdel : Sto → Nat → Sto
  | [], _ => []
  | (i, x) :: s, id => if i = id then sdel s id else (i, x) :: sdel s id

theorem sget_sput (s : Sto) (id : Nat) (v : Nat × AObj) (j : Nat) : sget (sput s id v) j = if id = j then some v else sget s j := by
  induction s with
  | nil => simp [sput, sget]
  | cons x s ih =>
    obtain ⟨i, x⟩ := x
    simp only [sput]
    by_cases h1 : i = id
    · subst h1; simp only [if_true, sget]; split <;> rfl
    · simp only [h1, if_false]
      by_cases h2 : id < i
      · simp only [h2, if_true, sget]
      · simp only [h2, if_false, sget, ih]
        by_cases h3 : i = j
        · subst h3; simp [Ne.symm h1]
        · simp [h3]

theorem sget_sdel (s : Sto) (id j : Nat) : sget (sdel s id) j = if id = j then none else sget s j := by
  induction s with
  | nil => simp [sdel, sget]
  | cons x s ih =>
    obtain ⟨i, x⟩ := x
    simp only [sdel]
    by_cases h1 : i = id
    · subst h1; simp only [if_true, ih, sget]; split <;> rfl
    · simp only [h1, if_false, sget, ih]
      by_cases h3 : i = j
      · subst h3; simp [Ne.symm h1]
      · simp [h3]

/-- What a handle stands for: a block (none: nothing yet), the capacity, the cells of an element. -/
structure Hd where
  blk : Option Nat
  cap : Nat
  esz : Nat

structure Gh where
  F : Nat → Option Obj
  S : Nat → Prop
  L : Nat → Prop
  M : Nat → Nat → Option Hd
  N : Nat
  W0 : World

def Gh.ok (G : Gh) (q : Bool) (b : Nat) : Prop := G.S b ∨ (q = false ∧ G.L b)

def AVal.isCell : AVal → Bool
  | .agg _ | .tup _ | .undef | .opt _ _ => false
  | _ => true

def bigLen : Nat := 140737488355328
theorem big_max {n : Nat} (h : n ≤ bigLen) : n ≤ maxLen := Nat.le_trans h (by decide)

def fits (k : IntKind) (n : Int) : Prop := k.min ≤ n ∧ n ≤ k.max

inductive Rep (G : Gh) : Bool → AVal → Value → Prop
  | bool {o b} : Rep G o (.bool b) (.bool b)
  | int {o k n} : fits k n → Rep G o (.int k n) (.int k n)
  | str {o s} : s.size ≤ maxLen → Rep G o (.str s) (.string s)
  | nil {o} : Rep G o .nil (.pointer none)
  | ref {o q cs b off c e fr} : G.ok q b → G.F b = some (.cells c e fr) → off + cs.length ≤ c.size →
      (∀ (j : Nat) (x : AVal), cs[j]? = some x → x.isCell = true) →
      (∀ (j : Nat) (x : AVal), cs[j]? = some x → Rep G false x (c.getD (off + j) undef)) → Rep G o (.ref q cs) (.pointer (some ⟨b, off, none⟩))
  | slnil {o q full a cap} : (full = true → cap = 0) → Rep G o (.sl q full []) (.slice a 0 cap)
  | sl {o q full l cap b off c e fr esz} : l.length ≤ cap → (full = true → cap = l.length) → l.length ≤ maxLen → G.ok q b → G.F b = some (.cells c e fr) →
      off + l.length * esz ≤ c.size →
      (∀ (i : Nat) (x : List AVal), l[i]? = some x → x.length = esz) →
      (∀ (i j : Nat) (x : List AVal) (y : AVal), l[i]? = some x → x[j]? = some y → y.isCell = true) →
      (∀ (i j : Nat) (x : List AVal) (y : AVal), l[i]? = some x → x[j]? = some y → Rep G false y (c.getD (off + i * esz + j) undef)) →
      Rep G o (.sl q full l) (.slice (some ⟨b, off, none⟩) l.length cap)
  | fn {o f cap caps} : caps.size = cap.length → (∀ (j : Nat) (x : AVal), cap[j]? = some x → Rep G o x (caps.getD j undef)) → Rep G o (.fn f cap) (.func (.func f) #[] caps)
  | nilfn {o} : Rep G o .nilfn .nilFunc
  | nilmap {o} : Rep G o .nilmap (.map none)
  | agg {o cs c} : c.size = cs.length → (∀ (j : Nat) (x : AVal), cs[j]? = some x → x.isCell = true) → (∀ (j : Nat) (x : AVal), cs[j]? = some x → Rep G o x (c.getD j undef)) → Rep G o (.agg cs) (.agg c)
  | tup {o vs c} : c.size = vs.length → (∀ (j : Nat) (x : AVal), vs[j]? = some x → Rep G o x (c.getD j undef)) → Rep G o (.tup vs) (.tuple c)
  | loc {id g i off b cap esz} : G.M id g = some ⟨some b, cap, esz⟩ → Rep G true (.loc id g i off) (.pointer (some ⟨b, i * esz + off, none⟩))
  | bx {id g off b cap esz} : G.M id g = some ⟨some b, cap, esz⟩ → Rep G true (.bx id g off) (.pointer (some ⟨b, off, none⟩))
  | osl {id g off len ob cap esz a} : G.M id g = some ⟨ob, cap, esz⟩ → off + len ≤ cap → len ≤ bigLen → (ob = none → cap = 0) →
      (∀ b, ob = some b → off < cap → a = some ⟨b, off * esz, none⟩) → (∀ b, ob = some b → off = 0 → a = some ⟨b, 0, none⟩) →
      Rep G true (.osl id g off len) (.slice a len (cap - off))
  | map {id g b cap esz} : G.M id g = some ⟨some b, cap, esz⟩ → Rep G true (.map id g) (.map (some b))
  | opt {o c v x} : (c = true → Rep G o v x) → Rep G o (.opt c v) x
  | undef {o x} : Rep G o .undef x

structure Ext (E G : Gh) : Prop where
  F : ∀ b o, E.F b = some o → G.F b = some o
  S : ∀ b, E.S b → G.S b
  S' : ∀ b, G.S b → E.S b ∨ E.F b = none
  L : ∀ b, G.L b ↔ E.L b
  M : ∀ i g h, E.M i g = some h → G.M i g = some h
  N : E.N ≤ G.N
  W0 : G.W0 = E.W0

theorem Ext.refl (E : Gh) : Ext E E := ⟨fun _ _ h => h, fun _ h => h, fun _ h => .inl h, fun _ => Iff.rfl, fun _ _ _ h => h, Nat.le_refl _, rfl⟩

theorem Ext.trans {E G H : Gh} (h : Ext E G) (k : Ext G H) : Ext E H where
  F b o x := k.F b o (h.F b o x)
  S b x := k.S b (h.S b x)
  S' b x := by
    rcases k.S' b x with y | y
    · exact h.S' b y
    · right
      cases hF : E.F b with
      | none => rfl
      | some o => rw [h.F b o hF] at y; cases y
  L b := (k.L b).trans (h.L b)
  M i g x y := k.M i g x (h.M i g x y)
  N := Nat.le_trans h.N k.N
  W0 := k.W0.trans h.W0

theorem Gh.ok.mono {E G : Gh} (hS : ∀ b, E.S b → G.S b) (hL : ∀ b, E.L b → G.L b) {q : Bool} {b : Nat} (x : E.ok q b) : G.ok q b := x.imp (hS b) fun ⟨a, c⟩ => ⟨a, hL b c⟩

/-- Growth of all that a value may lean on. -/
structure Mono (E G : Gh) : Prop where
  F : ∀ b o, E.F b = some o → G.F b = some o
  S : ∀ b, E.S b → G.S b
  L : ∀ b, E.L b → G.L b
  M : ∀ i g h, E.M i g = some h → G.M i g = some h

theorem Ext.toMono {E G : Gh} (h : Ext E G) : Mono E G := ⟨h.F, h.S, fun b x => (h.L b).2 x, h.M⟩

theorem Rep.mono {E G : Gh} (h : Mono E G) {o : Bool} {x : AVal} {v : Value} (r : Rep E o x v) : Rep G o x v := by
  induction r with
  | bool => exact .bool
  | int h => exact .int h
  | str h => exact .str h
  | nil => exact .nil
  | ref a b c d _ ih => exact .ref (a.mono h.S h.L) (h.F _ _ b) c d ih
  | slnil a => exact .slnil a
  | sl a b c d e f g i _ ih => exact .sl a b c (d.mono h.S h.L) (h.F _ _ e) f g i ih
  | fn a _ ih => exact .fn a ih
  | nilfn => exact .nilfn
  | nilmap => exact .nilmap
  | agg a b _ ih => exact .agg a b ih
  | tup a _ ih => exact .tup a ih
  | loc a => exact .loc (h.M _ _ _ a)
  | bx a => exact .bx (h.M _ _ _ a)
  | osl a b c n d e => exact .osl (h.M _ _ _ a) b c n d e
  | map a => exact .map (h.M _ _ _ a)
  | opt _ ih => exact .opt ih
  | undef => exact .undef

theorem Rep.up {G : Gh} {o : Bool} {x : AVal} {v : Value} (r : Rep G o x v) : Rep G true x v := by
  induction r with
  | bool => exact .bool
  | int h => exact .int h
  | str h => exact .str h
  | nil => exact .nil
  | ref a b c d e _ => exact .ref a b c d e
  | slnil a => exact .slnil a
  | sl a b c d e f g i j _ => exact .sl a b c d e f g i j
  | fn a _ ih => exact .fn a ih
  | nilfn => exact .nilfn
  | nilmap => exact .nilmap
  | agg a b _ ih => exact .agg a b ih
  | tup a _ ih => exact .tup a ih
  | loc a => exact .loc a
  | bx a => exact .bx a
  | osl a b c n d e => exact .osl a b c n d e
  | map a => exact .map a
  | opt _ ih => exact .opt ih
  | undef => exact .undef

theorem Rep.oneCell {G : Gh} {o : Bool} {x : AVal} {v : Value} (r : Rep G o x v) (h : x.isCell = true) : v.oneCell' = true := by
  cases r <;> first | rfl | (simp [AVal.isCell] at h)

/-- Only frozen things within: no handle. -/
def AVal.isFz : AVal → Bool
  | .bool _ | .int _ _ | .str _ | .nil | .ref _ _ | .sl _ _ _ | .nilfn | .nilmap | .fn _ [] => true
  | _ => false

theorem Rep.down {G : Gh} {o : Bool} {x : AVal} {v : Value} (r : Rep G o x v) (hz : x.isFz = true) : Rep G false x v := by
  cases r with
  | bool => exact .bool
  | int h => exact .int h
  | str h => exact .str h
  | nil => exact .nil
  | ref a b c d e => exact .ref a b c d e
  | slnil a => exact .slnil a
  | sl a b c d e f g i j => exact .sl a b c d e f g i j
  | @fn _ f cap caps a b =>
    cases cap with
    | nil => exact .fn a (fun j x hx => by simp at hx)
    | cons y ys => simp [AVal.isFz] at hz
  | nilfn => exact .nilfn
  | nilmap => exact .nilmap
  | _ => simp [AVal.isFz] at hz

def TmOk (G : Gh) (tm : Tm) (a : Array Value) : Prop := ∀ t, Rep G true (lk tm t) (a.getD t undef)

/-- Of what lies outside nothing is turned, and no new block is shut. -/
structure Kept (w w' : World) : Prop where
  os : w'.os = w.os
  out : w'.output = w.output
  fr : ∀ (b : Nat) (c : Array Value) (e : TypeId) (fr : Nat × Nat), w'.heap[b]? = some (Obj.cells c e fr) → fr = (0, 0) ∨ ∃ (c' : Array Value) (e' : TypeId), w.heap[b]? = some (Obj.cells c' e' fr)

theorem Kept.refl (w : World) : Kept w w := ⟨rfl, rfl, fun _ c e _ h => .inr ⟨c, e, h⟩⟩
theorem Kept.trans {w w' w'' : World} (h : Kept w w') (k : Kept w' w'') : Kept w w'' where
  os := k.os.trans h.os
  out := k.out.trans h.out
  fr b c e fr x := by
    rcases k.fr b c e fr x with y | ⟨c', e', y⟩
    · exact .inl y
    · exact h.fr b c' e' fr y

/-- The cells of a package variable that is known. -/
abbrev globC (l : List Int) : List AVal := l.map fun n => .int .u8 n
structure WOk (G : Gh) (w : World) : Prop where
  K : Kept G.W0 w
  F : ∀ b o, G.F b = some o → w.heap[b]? = some o
  M : ∀ i g h b, G.M i g = some h → h.blk = some b → b < w.heap.size
  N : ∀ i g, G.N ≤ g → G.M i g = none
  T : ∀ (g : Nat) (l : List Int), globU8 g = some l → Rep G true (.ref true (globC l)) (.pointer (some ⟨g, 0, none⟩))

/-- An own thing as it lies in memory. -/
def ObjOk (G : Gh) (w : World) (id g : Nat) : AObj → Prop
  | .row esz l => ∃ ob cap, G.M id g = some ⟨ob, cap, esz⟩ ∧ l.length ≤ cap ∧ l.length ≤ bigLen ∧ 0 < esz ∧ (∀ (i : Nat) (x : List AVal), l[i]? = some x → x.length = esz) ∧
      (∀ (i j : Nat) (x : List AVal) (y : AVal), l[i]? = some x → x[j]? = some y → y.isCell = true) ∧ (ob = none → cap = 0) ∧
      ∀ b, ob = some b → G.F b = none ∧ cap ≤ maxLen ∧ ∃ c e, w.heap[b]? = some (.cells c e (0, 0)) ∧ c.size = cap * esz ∧
        ∀ (i j : Nat) (x : List AVal) (y : AVal), l[i]? = some x → x[j]? = some y → Rep G false y (c.getD (i * esz + j) undef)
  | .box cs => ∃ b cap esz, G.M id g = some ⟨some b, cap, esz⟩ ∧ G.F b = none ∧ ∃ c e, w.heap[b]? = some (.cells c e (0, 0)) ∧ c.size = cs.length ∧
      (∀ (j : Nat) (x : AVal), cs[j]? = some x → x.isCell = true) ∧ ∀ (j : Nat) (x : AVal), cs[j]? = some x → Rep G true x (c.getD j undef)
  | .mp es => ∃ b cap esz, G.M id g = some ⟨some b, cap, esz⟩ ∧ G.F b = none ∧ ∃ me clock, w.heap[b]? = some (.map me clock) ∧ me.size = es.length ∧ es.length ≤ bigLen ∧
      ∀ (j : Nat) (x : ByteArray × AVal), es[j]? = some x → ∃ m : MapEntry, me[j]? = some m ∧ m.key = .string x.1 ∧ x.2.isCell = true ∧ Rep G false x.2 m.val

def blkOf (G : Gh) (id g : Nat) : Option Nat := (G.M id g).bind (·.blk)

structure StoOk (G : Gh) (w : World) (s : Sto) : Prop where
  obj : ∀ id g o, sget s id = some (g, o) → ObjOk G w id g o
  apart : ∀ id id' g g' o o', sget s id = some (g, o) → sget s id' = some (g', o') → id ≠ id' → ∀ b, blkOf G id g = some b → blkOf G id' g' ≠ some b

end Go.Rad
